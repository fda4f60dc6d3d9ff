/- Words of the kit's print program (print.sh), pruned by prune.py to what this seat uses. -/
import Derived.Test.YtcdehlnkilcgaaaDoorVTab
namespace Go.Proofs.YtcdehlnkilcgaaaDoorW.PrintLast
/-- Number i is listed too. -/
def up (b : Nat → Bool) (i : Nat) : Nat → Bool := fun j => if j = i then true else b j
end Go.Proofs.YtcdehlnkilcgaaaDoorW.PrintLast
