/- What must be in any case, is. -/
import Derived.Test.YtmibkdnmjjdelaaGreatTf
set_option linter.unusedSectionVars false
set_option linter.unusedVariables false
set_option linter.unusedSimpArgs false
namespace Go.Val
open Go.Lib

theorem allS_canon : CanonS [allS] := ⟨fun s hs => by rw [List.mem_singleton] at hs; subst hs; exact ⟨rfl, trivial⟩, fun s hs => by rw [List.mem_singleton] at hs; subst hs; exact ⟨by simp [allS], by simp [allS]⟩, List.pairwise_singleton _ _⟩
theorem allS_ok : spOk allS := ⟨by simp [allS], by simp [allS]⟩
theorem clean_all {l : List Sp} (h : ∀ s ∈ l, spOk s) (ha : allS ∈ l) : cleanP l = [allS] := by
  obtain ⟨h1, h2, _⟩ := cleanP_spec h
  refine canonS_eq h1 allS_canon fun k hk => ?_
  rw [h2, hasS_iff.2 ⟨allS, ha, allS_in hk⟩, hasS_iff.2 ⟨allS, by simp, allS_in hk⟩]

def kk (n : UInt8) : List UInt8 := List.set (List.replicate 24 0) 0 n
def bA : ByteArray := ByteArray.mk #[97]
def bB : ByteArray := ByteArray.mk #[98]
theorem kk_len (n : UInt8) : (kk n).length = 24 := by simp [kk]
def shL : List Pr := [(kk 1, bA)]
def shO : VM := [(kk 2, (kk 2, bB, false)), (kk 1, (kk 1, mt, true))]
theorem shL_rising : Rising shL := List.Pairwise.cons (by simp) .nil
theorem sh2_rising : Rising [(kk 2, bB)] := List.Pairwise.cons (by simp) .nil
theorem k12 : ¬ kk 1 = kk 2 := by decide

theorem sh_scan : applyP shL (vals shO) = [(kk 2, bB)] := by
  refine rising_ext (applyP_rising _ _) sh2_rising fun k => ?_
  have hn : ((vals shO).map (·.1)).Nodup := by decide
  rw [mget_applyP, updF_nodup hn, fn_rising shL_rising]
  simp only [vals, shO, shL, List.map_cons, List.map_nil, mget_cons, mget_nil]
  by_cases h1 : k = kk 1
  · subst h1; simp [k12, eff]
  · by_cases h2 : k = kk 2
    · subst h2; simp [eff]
    · simp [h1, h2]

theorem shown_eq : law12_shown = some true := by
  unfold law12_shown
  have e1 : mapP shL = shL := mapP_id shL_rising
  refine (bind_of (newPlain_eq shL (by decide))).trans ?_
  rw [e1]
  refine (bind_of (new_eq shL)).trans ?_
  refine (bind_of (mark_eq _ (by decide))).trans ?_
  refine (bind_of (put_eqV _ (kk 2) bB)).trans ?_
  have hb : badV bB = false := by decide
  rw [hb]
  simp only [Bool.false_eq_true, if_false]
  refine (bind_of (delete_eqV _ (kk 1))).trans ?_
  obtain ⟨v, hv⟩ : ∃ v : VT, v = (shL, shO, [], [[]]) := ⟨_, rfl⟩
  have hv0 : setV (setV (shL, [], [], [] ++ [[]]) (kk 2) (kk 2, bB, false)) (kk 1) (kk 1, mt, true) = v := by
    rw [hv]
    simp only [setV]
    have : mset (mset ([] : VM) (kk 2) (kk 2, bB, false)) (kk 1) (kk 1, mt, true) = shO := by
      rw [mset_nil, mset_cons]
      simp only [k12, if_false, mset_nil]
      rfl
    rw [this]
    rfl
  have hok : VOk 5 v := by
    rw [hv]
    refine ⟨⟨shL_rising, by decide, ?_⟩, ⟨?_, by decide, by decide, ?_, ?_⟩, by simp, by simp, by simp, ?_⟩
    · intro p hp; simp [shL] at hp; subst hp; exact kk_len 1
    · intro p hp; simp [shO] at hp; rcases hp with rfl | rfl <;> rfl
    · intro p hp; simp [shO] at hp; rcases hp with rfl | rfl <;> exact kk_len _
    · intro p hp; simp [shO] at hp; rcases hp with rfl | rfl <;> rfl
    · intro m hm; simp at hm; subst hm; exact MOk.nil 5
  have hs := scan_eq hok (by decide) allS
  rw [← hv0] at hs
  refine (bind_of hs).trans ?_
  rw [hv0, scan_all hok]
  have hr1 : rdV v allS = (shL, shO, [allS], [[]]) := by
    unfold rdV
    rw [hv]
    simp only [List.nil_append]
    rw [clean_all (by simp [allS_ok]) (by simp)]
  rw [hr1, hv]
  simp only
  rw [sh_scan]
  refine (bind_of (back_ok (shL, shO, [allS], [[]]) (i := 0) (by decide) (by decide))).trans ?_
  obtain ⟨s, hs1, hs2⟩ := keyOne_ex (kk 1) (kk_len 1)
  have hok2 : VOk 5 ((shL, [], [allS], [[]]) : VT) := by
    refine ⟨⟨shL_rising, by decide, ?_⟩, MOk.nil 5, by simp, by simp [allS_ok], by simp, ?_⟩
    · intro p hp; simp [shL] at hp; subst hp; exact kk_len 1
    · intro m hm; simp at hm; subst hm; exact MOk.nil 5
  refine (bind_of (get_base hok2 (by decide) (kk 1) hs1 rfl)).trans ?_
  have hr2 : rdV (shL, [], [allS], [[]]) s = (shL, [], [allS], [[]]) := by
    unfold rdV
    simp only
    rw [clean_all (by intro t ht; simp at ht; rcases ht with rfl | rfl; exact allS_ok; exact hs2.ok (kk_len 1)) (by simp)]
  rw [hr2]
  refine (bind_of (size_eq shL)).trans ?_
  have hg : mget shL (kk 1) = some bA := by simp [shL, mget_cons]
  rw [hg]
  refine bind_id ?_
  have g0 : gx [((kk 2, bB) : Pr)] 0 = some (kk 2, bB) := rfl
  simp only [Option.getD_some, Option.isSome_some, shL, List.length_cons, List.length_nil]
  simp only [show decide (((0 : Nat) : Int) = 0) = true from by decide, show decide ((0 : Int) = 0) = true from by decide, cond_true, show decide (((0 + 1 : Nat) : Int) = 1) = true from by decide, g0, Option.bind_some, show decide (bB = ByteArray.mk #[98]) = true from by decide, show decide (bA = ByteArray.mk #[97]) = true from by decide]
  rw [bind_of (reads_eq _ (by simp))]
  rfl

end Go.Val

