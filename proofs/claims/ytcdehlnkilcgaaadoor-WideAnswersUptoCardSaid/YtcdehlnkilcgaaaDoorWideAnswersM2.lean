/- Plain: the steps of a list of bytes, as the model's own decoder tells them. -/
import Derived.Test.YtcdehlnkilcgaaaDoorWideAnswersQm
namespace Go.Proofs.YtcdehlnkilcgaaaDoor.Pure
open Go.RowKit Go.Proofs.YtcdehlnkilcgaaaDoor.Q Go.Proofs.YtcdehlnkilcgaaaDoorW.PrintWords
def in3 (x y : Int) : Prop := (x = 224 ∧ 160 ≤ y ∧ y ≤ 191) ∨ (225 ≤ x ∧ x ≤ 236 ∧ 128 ≤ y ∧ y ≤ 191) ∨ (x = 237 ∧ 128 ≤ y ∧ y ≤ 159) ∨ (238 ≤ x ∧ x ≤ 239 ∧ 128 ≤ y ∧ y ≤ 191)
def in4 (x y : Int) : Prop := (x = 240 ∧ 144 ≤ y ∧ y ≤ 191) ∨ (241 ≤ x ∧ x ≤ 243 ∧ 128 ≤ y ∧ y ≤ 191) ∨ (x = 244 ∧ 128 ≤ y ∧ y ≤ 143)
instance (x y : Int) : Decidable (in3 x y) := by unfold in3; infer_instance
instance (x y : Int) : Decidable (in4 x y) := by unfold in4; infer_instance
/-- How many bytes the encoding has that these begin with; 0: none. -/
def lng4 (x y z w : Int) : Nat :=
  if 0 ≤ x ∧ x ≤ 127 then 1 else if (194 ≤ x ∧ x ≤ 223) ∧ (128 ≤ y ∧ y ≤ 191) then 2 else if (128 ≤ z ∧ z ≤ 191) ∧ in3 x y then 3
  else if (128 ≤ z ∧ z ≤ 191) ∧ (128 ≤ w ∧ w ≤ 191) ∧ in4 x y then 4 else 0
def val4 (n : Nat) (x y z w : Int) : Int :=
  if n = 1 then x else if n = 2 then x % 32 * 64 + y % 64 else if n = 3 then (x % 16 * 64 + y % 64) * 64 + z % 64 else if n = 4 then ((x % 8 * 64 + y % 64) * 64 + z % 64) * 64 + w % 64 else 65533
def decN (b0 b1 b2 b3 : Nat) (c1 c2 c3 : Bool) : Nat × Nat :=
  if b0 < 0x80 then (b0, 1)
  else if b0 / 32 == 6 && (c1 && b1 / 64 == 2) then
    let c := (b0 % 32) * 64 + b1 % 64
    if c ≥ 0x80 then (c, 2) else (Utf8.runeError, 1)
  else if b0 / 16 == 14 && (c1 && b1 / 64 == 2) && (c2 && b2 / 64 == 2) then
    let c := (b0 % 16) * 4096 + (b1 % 64) * 64 + b2 % 64
    if c ≥ 0x800 && Utf8.valid c then (c, 3) else (Utf8.runeError, 1)
  else if b0 / 8 == 30 && (c1 && b1 / 64 == 2) && (c2 && b2 / 64 == 2) && (c3 && b3 / 64 == 2) then
    let c := (b0 % 8) * 262144 + (b1 % 64) * 4096 + (b2 % 64) * 64 + b3 % 64
    if c ≥ 0x10000 && Utf8.valid c then (c, 4) else (Utf8.runeError, 1)
  else (Utf8.runeError, 1)
theorem decode_decN (s : ByteArray) (i : Nat) : Utf8.decode s i = decN (s.get! (i + 0)).toNat (s.get! (i + 1)).toNat (s.get! (i + 2)).toNat (s.get! (i + 3)).toNat (decide (i + 1 < s.size)) (decide (i + 2 < s.size)) (decide (i + 3 < s.size)) := rfl
theorem decN_eq (b0 b1 b2 b3 : Nat) (c1 c2 c3 : Bool) (h0 : b0 < 256) (h1 : b1 < 256) (h2 : b2 < 256) (h3 : b3 < 256) (x y z w : Int) (hx : x = b0) (hy : y = if c1 = true then (b1 : Int) else -1) (hz : z = if c2 = true then (b2 : Int) else -1) (hw : w = if c3 = true then (b3 : Int) else -1) :
    decN b0 b1 b2 b3 c1 c2 c3 = ((val4 (lng4 x y z w) x y z w).toNat, if lng4 x y z w = 0 then 1 else lng4 x y z w) := by
  obtain ⟨n, hn⟩ : ∃ n, n = lng4 x y z w := ⟨_, rfl⟩; rw [← hn]; have hn' := hn; unfold lng4 at hn; subst hx; unfold decN Utf8.valid Utf8.runeError; simp only [Bool.and_eq_true, Bool.or_eq_true, beq_iff_eq, decide_eq_true_eq]; unfold in3 in4 at hn; by_cases a1 : b0 < 128; · rw [if_pos (by omega)] at hn; subst hn; simp [a1, val4]
  · rw [if_neg (by omega)] at hn; rw [if_neg a1]; by_cases a2 : b0 < 224
    · by_cases a3 : b0 / 32 = 6 ∧ c1 = true ∧ b1 / 64 = 2
      · rw [if_pos a3]; rw [if_pos a3.2.1] at hy; by_cases a4 : b0 % 32 * 64 + b1 % 64 ≥ 128; · rw [if_pos a4]; rw [if_pos (by omega)] at hn; subst hn; (simp [val4]); omega
        · rw [if_neg a4]; rw [if_neg (by omega), if_neg (by omega), if_neg (by omega)] at hn; subst hn; simp [val4]
      · rw [if_neg a3, if_neg (by omega), if_neg (by omega)]
        have : n = 0 := by
          rw [if_neg, if_neg (by omega), if_neg (by omega)] at hn; · exact hn
          · by_cases e1 : c1 = true; · rw [if_pos e1] at hy; have a3' : ¬ (b0 / 32 = 6 ∧ b1 / 64 = 2) := fun h => a3 ⟨h.1, e1, h.2⟩; omega
            · rw [if_neg e1] at hy; omega
        subst this; simp [val4]
    · by_cases a3 : b0 < 240
      · rw [if_neg (by omega)]; rw [if_neg (by omega)] at hn; by_cases a4 : (b0 / 16 = 14 ∧ c1 = true ∧ b1 / 64 = 2) ∧ c2 = true ∧ b2 / 64 = 2
        · rw [if_pos a4]; rw [if_pos a4.1.2.1] at hy; rw [if_pos a4.2.1] at hz; by_cases a5 : b0 % 16 * 4096 + b1 % 64 * 64 + b2 % 64 ≥ 2048 ∧ ((0 ≤ ((b0 % 16 * 4096 + b1 % 64 * 64 + b2 % 64 : Nat) : Int) ∧ ((b0 % 16 * 4096 + b1 % 64 * 64 + b2 % 64 : Nat) : Int) < 55296) ∨ (57344 ≤ ((b0 % 16 * 4096 + b1 % 64 * 64 + b2 % 64 : Nat) : Int) ∧ ((b0 % 16 * 4096 + b1 % 64 * 64 + b2 % 64 : Nat) : Int) ≤ 1114111)); · rw [if_pos a5]; rw [if_pos (by omega)] at hn; subst hn; (simp [val4]); omega
          · rw [if_neg a5]; rw [if_neg (by omega), if_neg (by omega)] at hn; subst hn; simp [val4]
        · rw [if_neg a4, if_neg (by omega)]
          have : n = 0 := by
            rw [if_neg, if_neg (by omega)] at hn; · exact hn
            · by_cases e1 : c1 = true
              · rw [if_pos e1] at hy; by_cases e2 : c2 = true; · rw [if_pos e2] at hz; have a4' : ¬ ((b0 / 16 = 14 ∧ b1 / 64 = 2) ∧ b2 / 64 = 2) := fun h => a4 ⟨⟨h.1.1, e1, h.1.2⟩, e2, h.2⟩; omega
                · rw [if_neg e2] at hz; omega
              · rw [if_neg e1] at hy; omega
          subst this; simp [val4]
      · rw [if_neg (by omega), if_neg (by omega)]; rw [if_neg (by omega), if_neg (by omega)] at hn; by_cases a4 : ((b0 / 8 = 30 ∧ c1 = true ∧ b1 / 64 = 2) ∧ c2 = true ∧ b2 / 64 = 2) ∧ c3 = true ∧ b3 / 64 = 2
        · rw [if_pos a4]; rw [if_pos a4.1.1.2.1] at hy; rw [if_pos a4.1.2.1] at hz; rw [if_pos a4.2.1] at hw; by_cases a5 : b0 % 8 * 262144 + b1 % 64 * 4096 + b2 % 64 * 64 + b3 % 64 ≥ 65536 ∧ ((0 ≤ ((b0 % 8 * 262144 + b1 % 64 * 4096 + b2 % 64 * 64 + b3 % 64 : Nat) : Int) ∧ ((b0 % 8 * 262144 + b1 % 64 * 4096 + b2 % 64 * 64 + b3 % 64 : Nat) : Int) < 55296) ∨ (57344 ≤ ((b0 % 8 * 262144 + b1 % 64 * 4096 + b2 % 64 * 64 + b3 % 64 : Nat) : Int) ∧ ((b0 % 8 * 262144 + b1 % 64 * 4096 + b2 % 64 * 64 + b3 % 64 : Nat) : Int) ≤ 1114111)); · rw [if_pos a5]; rw [if_pos (by omega)] at hn; subst hn; (simp [val4]); omega
          · rw [if_neg a5]; rw [if_neg (by omega)] at hn; subst hn; simp [val4]
        · rw [if_neg a4]
          have : n = 0 := by
            rw [if_neg] at hn; · exact hn
            · by_cases e1 : c1 = true
              · rw [if_pos e1] at hy; by_cases e2 : c2 = true
                · rw [if_pos e2] at hz; by_cases e3 : c3 = true; · rw [if_pos e3] at hw; have a4' : ¬ (((b0 / 8 = 30 ∧ b1 / 64 = 2) ∧ b2 / 64 = 2) ∧ b3 / 64 = 2) := fun h => a4 ⟨⟨⟨h.1.1.1, e1, h.1.1.2⟩, e2, h.1.2⟩, e3, h.2⟩; omega
                  · rw [if_neg e3] at hw; omega
                · rw [if_neg e2] at hz; omega
              · rw [if_neg e1] at hy; omega
          subst this; simp [val4]
def lng (l : List Int) : Nat := lng4 (l.getD 0 (-1)) (l.getD 1 (-1)) (l.getD 2 (-1)) (l.getD 3 (-1))
def run (l : List Int) : Int := val4 (lng l) (l.getD 0 (-1)) (l.getD 1 (-1)) (l.getD 2 (-1)) (l.getD 3 (-1))
def wid (l : List Int) : Nat := if lng l = 0 then 1 else lng l
def bytes (l : List Int) : Prop := ∀ x ∈ l, 0 ≤ x ∧ x ≤ 255
theorem get_str (l : List Int) (hb : bytes l) (j : Nat) (hj : j < l.length) : (((strOfNums l).get! j).toNat : Int) = l.getD j (-1) := by
  have hs : j < (strOfNums l).size := by rw [strOfNums_size]; exact hj
  have e1 : (strOfNums l).get! j = (strOfNums l)[j] := by
    (simp [ByteArray.get!, getElem!_pos, hs]); rfl
  have e2 : (strOfNums l)[j] = UInt8.ofNat (l[j].toNat) := by
    show ((l.map (fun n => UInt8.ofNat n.toNat)).toArray)[j]'(by simpa using hj) = _; simp
  have h := hb l[j] (List.getElem_mem hj); rw [e1, e2]; (simp [List.getD_eq_getElem?_getD, hj]); omega
theorem decode_str (l : List Int) (hb : bytes l) (i : Nat) (hi : i < l.length) : Utf8.decode (strOfNums l) i = ((run (l.drop i)).toNat, wid (l.drop i)) := by
  (have hd : ∀ j, (l.drop i).getD j (-1) = l.getD (i + j) (-1) := fun j => by simp [List.getD_eq_getElem?_getD, List.getElem?_drop]); have hlt : ∀ j, ((strOfNums l).get! j).toNat < 256 := fun j => ((strOfNums l).get! j).toNat_lt
  have hopt : ∀ j, l.getD j (-1) = if decide (j < (strOfNums l).size) = true then ((((strOfNums l).get! j).toNat : Nat) : Int) else -1 := fun j => by
    rw [strOfNums_size]; by_cases h : j < l.length; · rw [if_pos (decide_eq_true h), get_str l hb j h]
    · rw [if_neg (by simpa using h)]; simp [List.getD_eq_getElem?_getD, List.getElem?_eq_none (by omega : l.length ≤ j)]
  rw [decode_decN]; (have e0 : (l.drop i).getD 0 (-1) = ((((strOfNums l).get! (i + 0)).toNat : Nat) : Int) := by rw [hd 0, get_str l hb _ (by omega)]); have := decN_eq _ _ _ _ _ _ _ (hlt (i + 0)) (hlt (i + 1)) (hlt (i + 2)) (hlt (i + 3)) _ _ _ _ e0 ((hd 1).trans (hopt (i + 1))) ((hd 2).trans (hopt (i + 2))) ((hd 3).trans (hopt (i + 3))); exact this
end Go.Proofs.YtcdehlnkilcgaaaDoor.Pure
