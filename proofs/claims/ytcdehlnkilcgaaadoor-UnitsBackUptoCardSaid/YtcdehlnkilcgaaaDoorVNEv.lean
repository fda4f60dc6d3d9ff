/- Words of the kit's print program (print.sh), pruned by prune.py to what this seat uses. -/
import Derived.Test.YtcdehlnkilcgaaaDoorVN
