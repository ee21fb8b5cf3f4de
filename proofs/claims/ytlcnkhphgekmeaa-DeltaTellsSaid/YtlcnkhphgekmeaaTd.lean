/- What must be in any case, is. -/
import Derived.Test.YtlcnkhphgekmeaaTc
set_option linter.unusedSectionVars false
set_option linter.unusedVariables false
set_option linter.unusedSimpArgs false
namespace Go.Val
open Go.Lib

def kk (n : UInt8) : List UInt8 := List.set (List.replicate 24 0) 0 n
theorem lt12 : Lt (kk 1) (kk 2) := by decide
theorem lt13 : Lt (kk 1) (kk 3) := by decide
theorem lt23 : Lt (kk 2) (kk 3) := by decide
def bx : ByteArray := ByteArray.mk #[120]
def bY : ByteArray := ByteArray.mk #[121]
def bz : ByteArray := ByteArray.mk #[122]
def bw : ByteArray := ByteArray.mk #[119]
def shA : List Pr := [(kk 1, bx), (kk 2, bY)]
def shB : List Pr := [(kk 2, bz), (kk 3, bw)]
def shD : List Cg := [(kk 1, mt, true), (kk 2, bz, false), (kk 3, bw, false)]

theorem shA_rising : Rising shA := List.Pairwise.cons (by simp [lt12]) (List.Pairwise.cons (by simp) .nil)
theorem shB_rising : Rising shB := List.Pairwise.cons (by simp [lt23]) (List.Pairwise.cons (by simp) .nil)
theorem shD_rising : Rising shD := List.Pairwise.cons (by simp [lt12, lt13]) (List.Pairwise.cons (by simp [lt23]) (List.Pairwise.cons (by simp) .nil))
theorem bYz : ¬ bY = bz := by decide

theorem shD_diff : IsDiff (fn shA) (fn shB) shD := by
  refine ⟨shD_rising, fun k => ?_⟩
  rw [fn_rising shA_rising, fn_rising shB_rising]
  have h12 := lt_ne lt12
  have h13 := lt_ne lt13
  have h23 := lt_ne lt23
  simp only [shA, shB, shD, difC, mget_cons, mget_nil]
  by_cases h1 : k = kk 1
  · subst h1; simp [h12, h13]
  · by_cases h2 : k = kk 2
    · subst h2; simp [h1, h23, bYz]
    · by_cases h3 : k = kk 3
      · subst h3; simp [h1, h2]
      · simp [h1, h2, h3]

theorem shown_eq : law09_shown = some true := by
  unfold law09_shown
  rw [bind_of (k_eq (by decide)), bind_of (k_eq (by decide)), bind_of (k_eq (by decide))]
  change (delta_Diff shA shB).bind _ = _
  obtain ⟨d, hd, hi, _⟩ := diff_ex shA shB (by decide) (by decide)
  have e := hi.unique shD_diff
  subst e
  rw [bind_of hd]
  change (delta_Merge shA shB shA).bind _ = _
  obtain ⟨d2, _, hi2, hm⟩ := merge_ex shA shB shA (by decide) (by decide) (by decide)
  have e2 := hi2.nil
  subst e2
  rw [bind_of hm]
  have l1 : (applyP shB []).length = 2 := by unfold applyP; rw [canon_len]; decide
  have l2 : (mapP (shA ++ shB)).length = 3 := by unfold mapP; rw [canon_len]; decide
  have h3 : decide ((shD.length : Int) = 3) = true := by decide
  simp only [h3, cond_true]
  have g0 : gx shD 0 = some (kk 1, mt, true) := rfl
  have g1 : gx shD 1 = some (kk 2, bz, false) := rfl
  have g2 : gx shD 2 = some (kk 3, bw, false) := rfl
  rw [g0, g1, g2]
  have c1 : ((decide ((kk 1, mt, true).1 = kk 1)) && ((decide ((kk 1, mt, true).2.1 = mt)) && (((kk 1, mt, true).2.2 == true) && true))) = true := by simp
  have hmap : delta_Map (shA ++ shB) = some (mapP (shA ++ shB)) := map_eq _ (by decide)
  simp only [Option.bind_some]
  rw [show (cond ((decide ((kk 1, mt, true).1 = ((List.replicate 24 0 : List UInt8).set 0 (UInt8.ofNat (Int.toNat 1)), (ByteArray.mk #[]), true).1)) && ((decide ((kk 1, mt, true).2.1 = ((List.replicate 24 0 : List UInt8).set 0 (UInt8.ofNat (Int.toNat 1)), (ByteArray.mk #[]), true).2.1)) && (((kk 1, mt, true).2.2 == ((List.replicate 24 0 : List UInt8).set 0 (UInt8.ofNat (Int.toNat 1)), (ByteArray.mk #[]), true).2.2) && true))) : Option Bool → Option Bool → Option Bool) = fun a _ => a from by
    funext a b
    have : (decide ((kk 1, mt, true).1 = ((List.replicate 24 0 : List UInt8).set 0 (UInt8.ofNat (Int.toNat 1)), (ByteArray.mk #[]), true).1)) = true := by decide
    simp [kk, mt]]
  simp only [show decide (bz = ByteArray.mk #[122]) = true from by decide, show decide (bw = ByteArray.mk #[119]) = true from by decide, cond_true, l1, List.map_nil, List.filter_nil, List.length_nil, show decide (((2 : Nat) : Int) = 2) = true from by decide, show decide (((0 : Nat) : Int) = 0) = true from by decide]
  rw [bind_of (ck_of (by decide)), bind_of (fits_of (by decide))]
  refine bind_id ?_
  refine (bind_of hmap).trans ?_
  rw [l2]
  rfl

end Go.Val
