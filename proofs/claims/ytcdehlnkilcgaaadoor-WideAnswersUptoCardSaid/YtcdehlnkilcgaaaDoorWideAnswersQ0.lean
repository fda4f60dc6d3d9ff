/- Types, sizes and the two tables. (Most lines were written by the kit's print program and then turned for this seat.) -/
import Derived.Test.YtcdehlnkilcgaaaDoorProg
import Derived.Below
import Derived.Deep.Draws
import Derived.Deep.AppendLies
import Derived.Maps.AppendAt
import Derived.OwnWalk
import Derived.Laws.BytesArg
import Derived.Laws.MakeOwn
import Derived.Laws.OwnMore
import Derived.Deep.OwnRows
import Derived.Tactics
import Derived.Lib.ConvBytes
import Derived.Laws.Slices
import Derived.WalkKit
import Derived.KernelRfl
import Derived.RowKit3
import Derived.Deep.LoopGhost
import Derived.Deep.QuietTactic
import Derived.BigQuiet
import Derived.WideLaws
import Derived.Deep.DeepCutAuto
import Derived.Deep.CutBlock
import Derived.Deep.RegionHeld3
import Derived.Laws.Rows
import Derived.Lib.AppendStr
import Derived.ArgAppend
import Derived.Laws.IdiomCopy
import Derived.OrdersHeld
import Derived.Laws.BitsLemmas
import Derived.RowKit
import Derived.Lib.LaidTab
import Derived.Test.YtcdehlnkilcgaaaDoorWideAnswersV
namespace Go.Proofs.YtcdehlnkilcgaaaDoor.Q
open Go.RowKit Go.Proofs.YtcdehlnkilcgaaaDoorW.PrintWords Go.Proofs.YtcdehlnkilcgaaaDoorW.PrintLast Go.Proofs.YtcdehlnkilcgaaaDoorW.PrintMore
attribute [local go_sem] max2_int min2_int max_two min_two max_three min_three max_four min_four
set_option linter.unusedVariables false
set_option linter.unusedSimpArgs false
def errW : Option Int → Value
  | none => .nilIface
  | some c => .iface 0 (.int .i64 c)
theorem errW_none : errW none = .nilIface := rfl
theorem errW_some (c : Int) : errW (some c) = .iface 0 (.int .i64 c) := rfl
theorem info3 : (Tryd.prog.info? 3).map (fun i => (i.zero, i.size, i.bytes)) = some (some (.int .i64 0), 1, 8) := by kernel_rfl
theorem info5 : (Tryd.prog.info? 5).map (fun i => (i.zero, i.size, i.bytes)) = some (some (.int .u8 0), 1, 1) := by kernel_rfl
theorem info22 : (Tryd.prog.info? 22).map (fun i => (i.zero, i.size, i.bytes)) = some (some (.int .u16 0), 1, 2) := by kernel_rfl
theorem info61 : (Tryd.prog.info? 61).map (fun i => (i.zero, i.size, i.bytes)) = some (some (.agg #[(.int .i32 0), (.int .i64 0), (.bool false)]), 3, 24) := by kernel_rfl
structure S61 where
  f0 : Int
  f1 : Int
  f2 : Bool
def z61 : S61 := ⟨(0 : Int), (0 : Int), false⟩
def k61 : Kd S61 := Kd.iso (Kd.pair (Kd.int .i32) (Kd.pair (Kd.int .i64) Kd.bool)) (fun x : S61 => (x.f0, x.f1, x.f2))
theorem k61_open {w : World} {x : S61} {cs : List Value} (h : k61.K w x cs) : cs = [.int .i32 x.f0, .int .i64 x.f1, .bool x.f2] := by
  obtain ⟨_, _, rfl, rfl, ⟨_, _, rfl, rfl, rfl⟩⟩ := h; exact rfl
theorem k61_mkM (w : World) (base : Nat) (ok : Nat → Prop) (x : S61)  : k61.M w base ok x [.int .i32 x.f0, .int .i64 x.f1, .bool x.f2] := ⟨[.int .i32 x.f0], [.int .i64 x.f1, .bool x.f2], rfl, rfl, ⟨[.int .i64 x.f1], [.bool x.f2], rfl, rfl, rfl⟩⟩
def rd_T61 (xs : List S61) (i : Int) : S61 := xs.getD i.toNat z61
theorem at_T61 {w : World} {A : Option Addr} {n : Nat} {xs : List S61} (h : Kd.C k61 w A n xs) (i : Int) (h0 : 0 ≤ i) (h1 : i < n) : ∃ ad , A = some ad ∧ w.cell? (ad.add (i.toNat * 3)) = some (.int .i32 (rd_T61 xs i).f0) ∧ w.cell? ⟨(ad.add (i.toNat * 3)).block, (ad.add (i.toNat * 3)).off + 1, none⟩ = some (.int .i64 (rd_T61 xs i).f1) ∧ w.cell? ⟨(ad.add (i.toNat * 3)).block, (ad.add (i.toNat * 3)).off + 2, none⟩ = some (.bool (rd_T61 xs i).f2) := by
  obtain ⟨ad, c, e, _, hK, hc0⟩ := Kd.C_get h z61 i h0 h1; have hc : ∀ j u, c[j]? = some u → w.cell? (ad.add (i.toNat * 3 + j)) = some u := hc0; obtain rfl := k61_open hK; exact ⟨ad, e, hc 0 _ rfl, by rw [← add_field _ _ 1 (by omega)]; exact hc 1 _ rfl, by rw [← add_field _ _ 2 (by omega)]; exact hc 2 _ rfl⟩
def needsV : Array Value := #[.int .i64 0, .int .i64 1, .int .i64 0, .int .i64 2, .int .i64 3, .int .i64 4, .int .i64 0]
def spansV : Array Value := #[.int .i64 0, .int .i64 127, .int .i64 1, .int .i64 128, .int .i64 191, .int .i64 2, .int .i64 192, .int .i64 193, .int .i64 6, .int .i64 194, .int .i64 223, .int .i64 3, .int .i64 224, .int .i64 239, .int .i64 4, .int .i64 240, .int .i64 244, .int .i64 5, .int .i64 245, .int .i64 255, .int .i64 6]
/-- octet.needs is block 0, octet.spans block 1. -/
def Glob (w : World) : Prop := (∃ t fr, w.heap[0]? = some (.cells needsV t fr)) ∧ (∃ t fr, w.heap[1]? = some (.cells spansV t fr))
theorem Glob.lift {w w1 : World} (h : Glob w) (hb : Below w.heap.size w w1) : Glob w1 := by
  obtain ⟨⟨t, fr, h0⟩, ⟨t', fr', h1⟩⟩ := h; exact ⟨⟨t, fr, (hb.block 0 (Array.getElem?_eq_some_iff.1 h0).1).trans h0⟩, ⟨t', fr', (hb.block 1 (Array.getElem?_eq_some_iff.1 h1).1).trans h1⟩⟩
theorem freeze_other (w : World) (a : Addr) (n k : Nat) (h : k ≠ a.block) : (w.freeze a n).heap[k]? = w.heap[k]? := by
  unfold World.freeze; split
  · rfl
  · simp only [Array.getElem?_modify]; rw [if_neg (fun e => h e.symm)]
theorem freeze_size (w : World) (a : Addr) (n : Nat) : (w.freeze a n).heap.size = w.heap.size := by
  unfold World.freeze; split
  · rfl
  · simp
theorem freeze_cell (w : World) (a : Addr) (n : Nat) (p : Addr) : (w.freeze a n).cell? p = w.cell? p := by
  by_cases h : p.block = a.block
  · unfold World.freeze; split
    · rfl
    · unfold World.cell?; simp only [Array.getElem?_modify, h, if_true]
      cases w.heap[a.block]? with
      | none => rfl
      | some o => cases o <;> rfl
  · unfold World.cell?; rw [freeze_other w a n _ h]
/-- '[]byte("..")' of a constant: the row gets its mark; it is read as before. -/
theorem const_mark {P : Program} {w : World} {base : Nat} {ok : Nat → Prop} {t e : TypeId} {A : Option Addr} {c : Nat} {xs : List Int}
    (ht : P.underlying t = some (.slice e)) (he : P.underlying e = some (.int .u8)) (hne : 0 < xs.length) (ho : Kd.R (Kd.int .u8) e w base ok (.slice A xs.length c) xs) :
    ∃ w1, (convert t t (.slice A xs.length c)).run P w = .ok (.slice A xs.length c) w1 ∧ Kd.C (Kd.int .u8) w1 A xs.length xs ∧ xs.length ≤ c ∧
      (∀ w0, Below base w0 w → Below base w0 w1) ∧ (∀ k, some k ≠ (Value.slice A xs.length c).ownBlock → w1.heap[k]? = w.heap[k]?) := by
  have hown := Kd.own_of_R ho; obtain ⟨_, hlc, hC⟩ := Kd.R_reads' ho; rcases hown.2 with ⟨h, _⟩ | ⟨g, cap, cur, hv, hg, hh, hn, hcap, hsz, htk⟩
  · exfalso; injection h with _ h2; omega
  · (injection hv with h1 h2 h3); subst h1 h3; have hlt : g < w.heap.size := (Array.getElem?_eq_some_iff.1 hh).1
    have hsh : w.shape? g = some (e, cur.size) := by
      unfold World.shape?; rw [hh]
    have hrun : (convert t t (.slice (some ⟨g, 0, none⟩) xs.length c)).run P w = .ok (.slice (some ⟨g, 0, none⟩) xs.length c) (w.freeze ⟨g, cur.size, none⟩ 1) := by
      simp [convert, run_underlying ht, run_underlying he, markStringish, hsh]
    refine ⟨_, hrun, ?_, hlc, ?_, ?_⟩
    · have hr := Kd.reads_of_C (enc := Value.int .u8) (d := (0 : Int)) (h1 := fun _ => rfl) hC
      exact Kd.C_of_reads (h1 := fun _ => rfl) ⟨hr.1, hr.2.1, fun hp => by
        obtain ⟨ad, e1, hc⟩ := hr.2.2 hp
        exact ⟨ad, e1, fun j hj => (freeze_cell w _ _ _).trans (hc j hj)⟩⟩
    · intro w0 hb; refine ⟨hb.os, hb.tape, hb.output, ?_, fun k hk => ?_⟩; · rw [freeze_size]; exact hb.size
      · rw [freeze_other w _ _ k (by show k ≠ g; omega)]; exact hb.block k hk
    · intro k hk; exact freeze_other w _ _ k (fun e => hk (by simp [Value.ownBlock, e]))
end Go.Proofs.YtcdehlnkilcgaaaDoor.Q
