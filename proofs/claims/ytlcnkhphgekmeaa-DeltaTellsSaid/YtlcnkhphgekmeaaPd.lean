/- Keys, sorted: plain facts. -/
import Derived.Test.YtlcnkhphgekmeaaPc
import Derived.Test.YtlcnkhphgekmeaaVa
set_option linter.unusedSectionVars false
set_option linter.unusedVariables false
set_option linter.unusedSimpArgs false
namespace Go.Val
open Go.Lib

abbrev K24 := { l : List UInt8 // l.length = 24 }
instance : Inhabited K24 := ⟨⟨List.replicate 24 0, by simp⟩⟩
def enc24 (x : K24) : List Value := x.1.map u8v
def cf24 (x y : K24) : Int := compareBytes x.1 y.1
def keyLe (x y : List UInt8) : Bool := !decide (compareBytes y x < 0)
/-- Rows of bytes, rising. -/
def sortKeys (l : List (List UInt8)) : List (List UInt8) := l.mergeSort keyLe
def srt24 (ss : List K24) : List K24 := ss.mergeSort fun x y => !decide (cf24 y x < 0)

theorem enc24_len (x : K24) : (enc24 x).length = 24 := by simp [enc24, x.2]
theorem srt24_len (ss : List K24) : (srt24 ss).length = ss.length := List.length_mergeSort _
theorem srt24_val (ss : List K24) : (srt24 ss).map (·.1) = sortKeys (ss.map (·.1)) := List.map_mergeSort fun _ _ _ _ => rfl

theorem cb_neg {a b : List UInt8} : ¬ compareBytes b a < 0 ↔ compareBytes a b ≤ 0 := by
  have := cb_anti a b
  omega
theorem keyLe_iff {a b : List UInt8} : keyLe a b = true ↔ compareBytes a b ≤ 0 := by
  simp only [keyLe, Bool.not_eq_true', decide_eq_false_iff_not]
  exact cb_neg
theorem keyLe_trans (a b c : List UInt8) (h : keyLe a b = true) (k : keyLe b c = true) : keyLe a c = true := by
  rw [keyLe_iff] at *
  by_cases h1 : compareBytes a b = 0
  · rw [cb_eq h1]; exact k
  · by_cases h2 : compareBytes b c = 0
    · rw [← cb_eq h2]; exact h
    · have := cb_trans (a := a) (b := b) (c := c) (by omega) (by omega)
      omega
theorem keyLe_total (a b : List UInt8) : (keyLe a b || keyLe b a) = true := by
  rw [Bool.or_eq_true, keyLe_iff, keyLe_iff]
  have := cb_anti a b
  omega
theorem keyLe_anti {a b : List UInt8} (h : keyLe a b = true) (k : keyLe b a = true) : a = b := by
  rw [keyLe_iff] at *
  have := cb_anti a b
  exact cb_eq (by omega)

theorem sortKeys_sorted (l : List (List UInt8)) : (sortKeys l).Pairwise fun a b => keyLe a b = true := List.pairwise_mergeSort keyLe_trans keyLe_total l
theorem sortKeys_perm (l : List (List UInt8)) : (sortKeys l).Perm l := List.mergeSort_perm _ _
theorem sortKeys_unique {l s : List (List UInt8)} (hp : s.Perm l) (hs : s.Pairwise fun a b => keyLe a b = true) : s = sortKeys l :=
  List.Perm.eq_of_pairwise (fun _ _ _ _ h k => keyLe_anti h k) hs (sortKeys_sorted l) (hp.trans (sortKeys_perm l).symm)
theorem sortKeys_congr {l l' : List (List UInt8)} (h : l.Perm l') : sortKeys l = sortKeys l' :=
  sortKeys_unique ((sortKeys_perm l).trans h) (sortKeys_sorted l)

theorem cf24_irrefl (x : K24) : decide (cf24 x x < 0) = false := by simp [cf24, cb_refl]
theorem cf24_trans (x y z : K24) (h : decide (cf24 x y < 0) = true) (k : decide (cf24 y z < 0) = true) : decide (cf24 x z < 0) = true :=
  decide_eq_true (cb_trans (of_decide_eq_true h) (of_decide_eq_true k))
theorem cf24_le {x y : K24} : decide (cf24 x y < 0) = false ↔ keyLe y.1 x.1 = true := by
  show _ ↔ (!decide (cf24 x y < 0)) = true
  cases decide (cf24 x y < 0) <;> simp
theorem cf24_ntrans (x y z : K24) (h : decide (cf24 x y < 0) = false) (k : decide (cf24 y z < 0) = false) : decide (cf24 x z < 0) = false :=
  cf24_le.2 (keyLe_trans _ _ _ (cf24_le.1 k) (cf24_le.1 h))
theorem cf24_total (x y : K24) (h : decide (cf24 x y < 0) = false) (k : decide (cf24 y x < 0) = false) : x = y :=
  Subtype.ext (keyLe_anti (cf24_le.1 k) (cf24_le.1 h))

end Go.Val
