/- ChunkBad: true of each argument. -/
import Derived.Test.YthipaajmgfnagaaGreatDoorWk
import Derived.Test.YthipaajmgfnagaaGreatDoorUh
set_option linter.unusedSectionVars false
set_option linter.unusedVariables false
set_option linter.unusedSimpArgs false
namespace Go.Val
open Go.Lib

theorem keys_nil {v : VT} (h : v.2.1.map (·.1) = []) : v.2.1 = [] := by
  cases hv : v.2.1 with
  | nil => rfl
  | cons a l => rw [hv] at h; cases h
theorem changes_nil {n : Nat} {v : VT} (hv : VOk n v) (hn : n ≤ 1000) (h : v.2.1.map (·.1) = []) : ∃ l, view_View_Changes v = some (l, v) ∧ l.length = 0 := ⟨_, changes_eqV hv hn, by rw [changes_len hv, h]; rfl⟩

theorem read_any {a0 a1 m : Int} {n : Nat} {v : VT} {G : Nat → Nat → By} (h : CV n v G) (hn : n ≤ 400000) : ∃ s e v', chunk_Read v a0 a1 m = some (s, e, v') ∧ CV (n + 1) v' G ∧ v'.2.1 = v.2.1 ∧
    (((1 ≤ a0 ∧ a0 < 1073741824) ∧ 0 ≤ a1 ∧ 0 ≤ m ∧ a1 ≤ 1048576 ∧ m ≤ 1048576 - a1) → e = 0) ∧ (¬ ((1 ≤ a0 ∧ a0 < 1073741824) ∧ 0 ≤ a1 ∧ 0 ≤ m ∧ a1 ≤ 1048576 ∧ m ≤ 1048576 - a1) → e = 1 ∧ s = mt) := by
  by_cases hc : (1 ≤ a0 ∧ a0 < 1073741824) ∧ 0 ≤ a1 ∧ 0 ≤ m ∧ a1 ≤ 1048576 ∧ m ≤ 1048576 - a1
  · obtain ⟨i, rfl⟩ := Int.eq_ofNat_of_zero_le (show 0 ≤ a0 by omega)
    obtain ⟨o, rfl⟩ := Int.eq_ofNat_of_zero_le (show 0 ≤ a1 by omega)
    obtain ⟨k, rfl⟩ := Int.eq_ofNat_of_zero_le (show 0 ≤ m by omega)
    obtain ⟨v', e1, c1, k1, _⟩ := cread_eq (i := i) (off := o) (m := k) (by omega) h hn (by omega)
    exact ⟨_, _, v', e1, c1, k1, fun _ => rfl, fun h => absurd hc h⟩
  · exact ⟨_, _, v, read_bad hc, h.mono (by omega), rfl, fun h => absurd h hc, fun _ => ⟨rfl, rfl⟩⟩
theorem cut_any {a0 a1 : Int} {n : Nat} {v : VT} {G : Nat → Nat → By} (h : CV n v G) (hn : n ≤ 400000) : ∃ e v' G', chunk_Cut v a0 a1 = some (e, v') ∧ CV (n + 1) v' G' ∧ v'.2.1.map (·.1) = v.2.1.map (·.1) ∧
    (((1 ≤ a0 ∧ a0 < 1073741824) ∧ 0 ≤ a1 ∧ a1 ≤ 1048576) → e = 0) ∧ (¬ ((1 ≤ a0 ∧ a0 < 1073741824) ∧ 0 ≤ a1 ∧ a1 ≤ 1048576) → e = 1) := by
  by_cases hc : (1 ≤ a0 ∧ a0 < 1073741824) ∧ 0 ≤ a1 ∧ a1 ≤ 1048576
  · obtain ⟨i, rfl⟩ := Int.eq_ofNat_of_zero_le (show 0 ≤ a0 by omega)
    obtain ⟨o, rfl⟩ := Int.eq_ofNat_of_zero_le (show 0 ≤ a1 by omega)
    obtain ⟨v', G', e1, c1⟩ := cut_eq (i := i) (size := o) (by omega) h hn (by omega)
    exact ⟨_, v', G', e1, c1.cv, c1.keys, fun _ => rfl, fun h => absurd hc h⟩
  · exact ⟨_, v, G, cut_bad hc, h.mono (by omega), rfl, fun h => absurd h hc, fun _ => rfl⟩
theorem write_any {a0 a1 : Int} {n : Nat} {x : ByteArray} {v : VT} {G : Nat → Nat → By} (h : CV n v G) (hn : n ≤ 100000) (hx : x.size ≤ 1000) : ∃ e v', chunk_Write v a0 a1 x = some (e, v') ∧
    (((1 ≤ a0 ∧ a0 < 1073741824) ∧ 0 ≤ a1 ∧ a1 ≤ 1048576 ∧ (x.size : Int) ≤ 1048576 - a1) → e = 0) ∧ (¬ ((1 ≤ a0 ∧ a0 < 1073741824) ∧ 0 ≤ a1 ∧ a1 ≤ 1048576 ∧ (x.size : Int) ≤ 1048576 - a1) → e = 1 ∧ v' = v) := by
  by_cases hc : (1 ≤ a0 ∧ a0 < 1073741824) ∧ 0 ≤ a1 ∧ a1 ≤ 1048576 ∧ (x.size : Int) ≤ 1048576 - a1
  · obtain ⟨i, rfl⟩ := Int.eq_ofNat_of_zero_le (show 0 ≤ a0 by omega)
    obtain ⟨o, rfl⟩ := Int.eq_ofNat_of_zero_le (show 0 ≤ a1 by omega)
    obtain ⟨v', G', e1, w⟩ := write_eq (i := i) (off := o) (x := x) (by omega) h (by unfold pcs; split <;> omega) (by omega)
    exact ⟨_, v', e1, fun _ => rfl, fun h => absurd hc h⟩
  · exact ⟨_, v, write_bad hc, fun h => absurd h hc, fun _ => ⟨rfl, rfl⟩⟩

theorem ex_size (a : ByteArray) (k : Nat) : (a.extract 0 (min (a.size : Int) (k : Int)).toNat).size ≤ k := by
  rw [← bl_len, bl_extract, List.drop_zero, List.length_take]; omega

set_option maxHeartbeats 1000000 in
theorem chunkBad_true (a0 a1 a2 : Int) (a3 : ByteArray) : law13_ChunkBad a0 a1 a2 a3 = some true := by
  unfold law13_ChunkBad
  rw [bind_of shown_eq, bind_of new_n]
  simp only [Bool.not_true, cond_false, Option.bind_some]
  rw [bind_of (cutB_of (by omega))]
  have h25 : (cond (decide (a0 ≥ 1)) (some (decide (a0 < 1073741824))) (some false) : Option Bool) = some (decide (1 ≤ a0 ∧ a0 < 1073741824)) := by
    by_cases h : 1 ≤ a0
    · rw [decide_eq_true (show a0 ≥ 1 from h), cond_true]; congr 1; rw [decide_eq_decide]; omega
    · rw [decide_eq_false (show ¬ a0 ≥ 1 from h), cond_false, decide_eq_false (by omega)]
  rw [bind_of h25]
  have h43 : (cond (decide (1 ≤ a0 ∧ a0 < 1073741824)) (cond (decide (a1 ≥ 0)) (cond (decide (a2 ≥ 0)) (cond (decide (a1 ≤ 1048576)) (some (decide (a2 ≤ (IntKind.wrap .i64 (1048576 - a1))))) (some false)) (some false)) (some false)) (some false) : Option Bool) = some (decide ((1 ≤ a0 ∧ a0 < 1073741824) ∧ 0 ≤ a1 ∧ 0 ≤ a2 ∧ a1 ≤ 1048576 ∧ a2 ≤ 1048576 - a1)) := by
    by_cases h : 1 ≤ a0 ∧ a0 < 1073741824
    · rw [decide_eq_true h, cond_true]
      by_cases h1 : 0 ≤ a1
      · rw [decide_eq_true (show a1 ≥ 0 from h1), cond_true]
        by_cases h2 : 0 ≤ a2
        · rw [decide_eq_true (show a2 ≥ 0 from h2), cond_true]
          by_cases h3 : a1 ≤ 1048576
          · rw [decide_eq_true h3, cond_true, wrap_i64 (by omega)]
            congr 1; rw [decide_eq_decide]; omega
          · rw [decide_eq_false h3, cond_false, decide_eq_false (by omega)]
        · rw [decide_eq_false (show ¬ a2 ≥ 0 from h2), cond_false, decide_eq_false (by omega)]
      · rw [decide_eq_false (show ¬ a1 ≥ 0 from h1), cond_false, decide_eq_false (by omega)]
    · rw [decide_eq_false h, cond_false, decide_eq_false (by omega)]
  rw [bind_of h43]
  have h72 : ∃ m : Int, (((cond (decide (a2 > 5000)) (some (decide ((1 ≤ a0 ∧ a0 < 1073741824) ∧ 0 ≤ a1 ∧ 0 ≤ a2 ∧ a1 ≤ 1048576 ∧ a2 ≤ 1048576 - a1))) (some false) : Option Bool)).bind fun o78 => cond o78 (some (bitsAnd .i64 5000 a2)) (some a2)) = some m ∧ (((1 ≤ a0 ∧ a0 < 1073741824) ∧ 0 ≤ a1 ∧ 0 ≤ m ∧ a1 ≤ 1048576 ∧ m ≤ 1048576 - a1) ↔ ((1 ≤ a0 ∧ a0 < 1073741824) ∧ 0 ≤ a1 ∧ 0 ≤ a2 ∧ a1 ≤ 1048576 ∧ a2 ≤ 1048576 - a1)) := by
    by_cases h1 : a2 > 5000
    · rw [decide_eq_true h1, cond_true, Option.bind_some]
      by_cases h2 : (1 ≤ a0 ∧ a0 < 1073741824) ∧ 0 ≤ a1 ∧ 0 ≤ a2 ∧ a1 ≤ 1048576 ∧ a2 ≤ 1048576 - a1
      · rw [decide_eq_true h2, cond_true]
        obtain ⟨m, hm, hle⟩ := and_le' (a := a2) (b := 5000) (by decide)
        exact ⟨m, congrArg some hm, ⟨fun _ => h2, fun _ => by omega⟩⟩
      · rw [decide_eq_false h2, cond_false]
        exact ⟨a2, rfl, Iff.rfl⟩
    · rw [decide_eq_false h1, cond_false, Option.bind_some, cond_false]
      exact ⟨a2, rfl, Iff.rfl⟩
  obtain ⟨m, hm, hiff⟩ := h72
  rw [bind_of hm]
  obtain ⟨s, e, v1, e1, c1, k1, p1, q1⟩ := read_any (a0 := a0) (a1 := a1) (m := m) CV.new (by decide)
  rw [bind_of e1]
  simp only
  obtain ⟨e', v2, G2, e2, c2, k2, p2, q2⟩ := cut_any (a0 := a0) (a1 := a1) c1 (by decide)
  rw [bind_of e2]
  simp only
  have hk2 : v2.2.1.map (·.1) = [] := by rw [k2, k1]; rfl
  obtain ⟨l, e3, hl⟩ := changes_nil c2.ok (by decide) hk2
  rw [bind_of e3]
  simp only
  have hsz := ex_size a3 100
  generalize a3.extract 0 (min (a3.size : Int) ((100 : Nat) : Int)).toNat = x at hsz
  obtain ⟨e'', v3, e4, p3, q3⟩ := write_any (a0 := a0) (a1 := a1) (x := x) c2 (by decide) (by omega)
  rw [bind_of e4]
  simp only
  have h107 : (cond (decide (1 ≤ a0 ∧ a0 < 1073741824)) (cond (decide (a1 ≥ 0)) (some (decide (a1 ≤ 1048576))) (some false)) (some false) : Option Bool) = some (decide ((1 ≤ a0 ∧ a0 < 1073741824) ∧ 0 ≤ a1 ∧ a1 ≤ 1048576)) := by
    by_cases h : 1 ≤ a0 ∧ a0 < 1073741824
    · rw [decide_eq_true h, cond_true]
      by_cases h1 : 0 ≤ a1
      · rw [decide_eq_true (show a1 ≥ 0 from h1), cond_true]; congr 1; rw [decide_eq_decide]; omega
      · rw [decide_eq_false (show ¬ a1 ≥ 0 from h1), cond_false, decide_eq_false (by omega)]
    · rw [decide_eq_false h, cond_false, decide_eq_false (by omega)]
  rw [bind_of h107]
  have h119 : (cond (decide ((1 ≤ a0 ∧ a0 < 1073741824) ∧ 0 ≤ a1 ∧ a1 ≤ 1048576)) (some (decide ((x.size : Int) ≤ (IntKind.wrap .i64 (1048576 - a1))))) (some false) : Option Bool) = some (decide ((1 ≤ a0 ∧ a0 < 1073741824) ∧ 0 ≤ a1 ∧ a1 ≤ 1048576 ∧ (x.size : Int) ≤ 1048576 - a1)) := by
    by_cases h : (1 ≤ a0 ∧ a0 < 1073741824) ∧ 0 ≤ a1 ∧ a1 ≤ 1048576
    · rw [decide_eq_true h, cond_true, wrap_i64 (by omega)]; congr 1; rw [decide_eq_decide]; omega
    · rw [decide_eq_false h, cond_false, decide_eq_false (by omega)]
  rw [bind_of h119]
  have hl0 : decide ((l.length : Int) = 0) = true := decide_eq_true (by omega)
  have d0 : decide ((0 : Int) = 0) = true := rfl
  have d1 : decide ((1 : Int) = 0) = false := rfl
  have d2 : decide ((1 : Int) = 1) = true := rfl
  have dm : decide (mt = ByteArray.mk #[]) = true := decide_eq_true rfl
  rw [hiff] at p1 q1
  by_cases hA : (1 ≤ a0 ∧ a0 < 1073741824) ∧ 0 ≤ a1 ∧ 0 ≤ a2 ∧ a1 ≤ 1048576 ∧ a2 ≤ 1048576 - a1
  · by_cases hC : (1 ≤ a0 ∧ a0 < 1073741824) ∧ 0 ≤ a1 ∧ a1 ≤ 1048576 ∧ (x.size : Int) ≤ 1048576 - a1
    · have hB : (1 ≤ a0 ∧ a0 < 1073741824) ∧ 0 ≤ a1 ∧ a1 ≤ 1048576 := by omega
      simp only [p1 hA, p2 hB, p3 hC, decide_eq_true hA, decide_eq_true hB, decide_eq_true hC, d0, d1, d2, hl0, cond_true, cond_false, beq_self_eq_true, Option.bind_some, decide_true, decide_false]
      try rfl
    · obtain ⟨rfl, rfl⟩ := q3 hC
      obtain ⟨l2, e5, hl2⟩ := changes_nil c2.ok (by decide) hk2
      have hl20 : decide ((l2.length : Int) = 0) = true := decide_eq_true (by omega)
      have hB : (1 ≤ a0 ∧ a0 < 1073741824) ∧ 0 ≤ a1 ∧ a1 ≤ 1048576 := by omega
      simp only [p1 hA, p2 hB, decide_eq_true hA, decide_eq_true hB, decide_eq_false hC, d0, d1, d2, hl0, e5, hl20, cond_true, cond_false, beq_self_eq_true, Option.bind_some, decide_true, decide_false]
      try rfl
  · obtain ⟨rfl, rfl⟩ := q1 hA
    by_cases hC : (1 ≤ a0 ∧ a0 < 1073741824) ∧ 0 ≤ a1 ∧ a1 ≤ 1048576 ∧ (x.size : Int) ≤ 1048576 - a1
    · have hB : (1 ≤ a0 ∧ a0 < 1073741824) ∧ 0 ≤ a1 ∧ a1 ≤ 1048576 := by omega
      simp only [p2 hB, p3 hC, decide_eq_false hA, decide_eq_true hB, decide_eq_true hC, d0, d1, d2, dm, hl0, cond_true, cond_false, beq_self_eq_true, Option.bind_some, decide_true, decide_false]
      try rfl
    · obtain ⟨rfl, rfl⟩ := q3 hC
      obtain ⟨l2, e5, hl2⟩ := changes_nil c2.ok (by decide) hk2
      have hl20 : decide ((l2.length : Int) = 0) = true := decide_eq_true (by omega)
      by_cases hB : (1 ≤ a0 ∧ a0 < 1073741824) ∧ 0 ≤ a1 ∧ a1 ≤ 1048576
      · simp only [p2 hB, decide_eq_false hA, decide_eq_true hB, decide_eq_false hC, d0, d1, d2, dm, hl0, e5, hl20, cond_true, cond_false, beq_self_eq_true, Option.bind_some, decide_true, decide_false]
        try rfl
      · simp only [q2 hB, decide_eq_false hA, decide_eq_false hB, decide_eq_false hC, d0, d1, d2, dm, hl0, e5, hl20, cond_true, cond_false, beq_self_eq_true, Option.bind_some, decide_true, decide_false]
        try rfl
end Go.Val

