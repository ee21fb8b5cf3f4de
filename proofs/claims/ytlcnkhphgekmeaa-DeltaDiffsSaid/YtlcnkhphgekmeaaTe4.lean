/- DeltaDiffs, as a function, is true. -/
import Derived.Test.YtlcnkhphgekmeaaTe3
import Derived.Test.YtlcnkhphgekmeaaW4
set_option linter.unusedSectionVars false
set_option linter.unusedVariables false
set_option linter.unusedSimpArgs false
namespace Go.Val
open Go.Lib

theorem rising_loop_at {β : Type} {l : List (List UInt8 × β)} (hr : Rising l) (hl : l.length ≤ 1000000) :
    whileO (V := Int) (O := (Unit ⊕ Bool)) (fun v96 =>
      cond (decide (v96 < (l.length : Int))) (
        (gx l (IntKind.wrap .i64 (v96 - 1))).bind fun x103 =>
        (gx l v96).bind fun x106 =>
        (ref03_Less x103.1 x106.1).bind fun x109 =>
        cond (!x109) (
          some (.inr (.inr false))
        ) (
          some (.inl (IntKind.wrap .i64 (v96 + 1)))
        )
      ) (
        some (.inr (.inl ()))
      )) 1 = some (.inl ()) := by
  refine rises_loop hr hl (fun i hi => ?_) (fun n hn => ?_)
  · simp only [ilt hi, cond_true, pred_nat (show i < 9223372036854775807 by omega), gx_nat (show i < l.length by omega), gx_nat hi, Option.bind_some, less_eq, wrap_succ (show i + 1 < 9223372036854775807 by omega)]
  · have : decide ((n : Int) < (l.length : Int)) = false := by simp; omega
    simp only [this, cond_false]

/-- A delta without one of its changes is another one. -/
theorem less_ne {a b : List Pr} {d : List Cg} (h : IsDiff (fn a) (fn b) d) {i : Nat} (hi : i < d.length) : ¬ applyP a (d.take i ++ d.drop (i + 1)) = mapP b := by
  intro e
  have hf : fn (applyP a (d.take i ++ d.drop (i + 1))) d[i].1 = fn b d[i].1 := by rw [e, fn_mapP]
  have hn : (d.map (·.1)).Nodup := h.rising.nodup
  have hd : d = d.take i ++ d[i] :: d.drop (i + 1) := by
    rw [← List.drop_eq_getElem_cons hi, List.take_append_drop]
  have hn' : ((d.take i ++ d.drop (i + 1)).map (·.1)).Nodup ∧ d[i].1 ∉ (d.take i ++ d.drop (i + 1)).map (·.1) := by
    rw [hd] at hn
    rw [List.map_append, List.map_cons] at hn
    have hp : ((d.take i).map (·.1) ++ d[i].1 :: (d.drop (i + 1)).map (·.1)).Perm (d[i].1 :: ((d.take i).map (·.1) ++ (d.drop (i + 1)).map (·.1))) := List.perm_middle
    have := hp.nodup_iff.1 hn
    rw [List.nodup_cons] at this
    rw [List.map_append]
    exact ⟨this.2, this.1⟩
  rw [fn_applyP, updF_nodup hn'.1, mget_none.2 hn'.2] at hf
  exact (h.mem.1 (List.mem_map.2 ⟨d[i], List.getElem_mem hi, rfl⟩)) hf

theorem deltaDiffs_true (a0 a1 : List Pr) (a2 : Int) : law09_DeltaDiffs a0 a1 a2 = some true := by
  unfold law09_DeltaDiffs
  have hca := cutP_len a0
  have hcb := cutP_len a1
  generalize hla : cutP a0 = a at hca
  generalize hlb : cutP a1 = b at hcb
  obtain ⟨d, hd, hi, hl⟩ := diff_ex a b (by omega) (by omega)
  obtain ⟨d0, hd0, hi0, hl0⟩ := diff_ex a a (by omega) (by omega)
  have e0 := hi0.nil
  subst e0
  have hmade : applyP a d = mapP b := fn_ext (applyP_rising a d) (mapP_rising b) (by rw [fn_applyP, fn_mapP, hi.upd])
  have hml := mapP_len b
  rw [bind_of shown_eq, bind_of ((cut_eq a0).trans (congrArg some hla)), bind_of ((cut_eq a1).trans (congrArg some hlb)), bind_of hd, bind_of (apply_eq a d (by omega) (by omega)), bind_of (map_eq b (by omega)), bind_of (same_eq _ _ (by rw [hmade]; omega))]
  have hr := rising_loop_at hi.rising (by omega)
  have hfin : ∀ o : Unit ⊕ Bool, o = .inl () → (Sum.elim (fun (_ : Unit) => (whileO (V := Int) (O := (Unit ⊕ Bool)) (fun v173 =>
        cond (decide (v173 < (d.length : Int))) (
          (gx d (IntKind.wrap .i64 (v173 - 1))).bind fun x180 =>
          (gx d v173).bind fun x183 =>
          (ref03_Less x180.1 x183.1).bind fun x186 =>
          cond (!x186) (
            some (.inr (.inr false))
          ) (
            some (.inl (IntKind.wrap .i64 (v173 + 1)))
          )
        ) (
          some (.inr (.inl ()))
        )) 1).bind fun o138 => Sum.elim (fun (_ : Unit) => ((cond true (cond (decide (applyP a d = mapP b)) ((delta_Diff a a).bind fun x212 => some (decide ((x212.length : Int) = 0))) (some false)) (some false) : Option Bool)).bind fun o203 => some o203) (fun w219 => some w219) o138) (fun w222 => some w222) o : Option Bool) = some true := by
    rintro o rfl
    simp only [Sum.elim_inl]
    rw [bind_of hr]
    simp only [Sum.elim_inl, cond_true, hmade, decide_true]
    rw [bind_of hd0]
    rfl
  by_cases h0 : d.length = 0
  · have : decide ((d.length : Int) > 0) = false := decide_eq_false (by omega)
    rw [this]
    simp only [cond_false, Option.bind_some]
    exact hfin _ rfl
  · have h1 : decide ((d.length : Int) > 0) = true := decide_eq_true (by omega)
    rw [h1]
    simp only [cond_true]
    have hand : 0 ≤ bitsAnd .i64 a2 255 := by
      unfold bitsAnd
      have hle : (BitVec.ofInt 64 a2 &&& BitVec.ofInt 64 255).toNat ≤ 255 := by
        rw [BitVec.toNat_and]
        exact Nat.le_trans Nat.and_le_right (by decide)
      show 0 ≤ IntKind.wrap .i64 ((BitVec.ofInt 64 a2 &&& BitVec.ofInt 64 255).toNat : Int)
      rw [wrap_i64 (by omega)]
      omega
    generalize bitsAnd .i64 a2 255 = q at hand
    obtain ⟨i, hq, hil⟩ : ∃ i : Nat, Int.tmod q (d.length : Int) = (i : Int) ∧ i < d.length := by
      refine ⟨(Int.tmod q (d.length : Int)).toNat, ?_, ?_⟩
      · have := Int.tmod_nonneg (d.length : Int) hand
        omega
      · have h2 := Int.tmod_lt_of_pos q (show (0 : Int) < (d.length : Int) by omega)
        omega
    rw [hq]
    have hp1 : piece d 0 (i : Int) = d.take i := by simp [piece]
    have hw : IntKind.wrap .i64 ((i : Int) + 1) = ((i + 1 : Nat) : Int) := wrap_succ (by omega)
    have hp2 : piece d ((i + 1 : Nat) : Int) (d.length : Int) = d.drop (i + 1) := by simp [piece]
    rw [hw, hp1, hp2, bind_of (ck_of (by omega)), bind_of (cutB_of (by omega)), bind_of (fits_of (by simp; omega)), bind_of (cutB_of (by omega)), bind_of (fits_of (by simp; omega))]
    have hlen : (d.take i ++ d.drop (i + 1)).length ≤ d.length := by simp; omega
    have hal := applyP_len a (d.take i ++ d.drop (i + 1))
    simp only [List.nil_append]
    rw [bind_of (apply_eq a _ (by omega) (by omega)), bind_of (same_eq _ _ (by omega))]
    simp only [less_ne hi hil, decide_false, cond_false, Option.bind_some]
    exact hfin _ rfl

end Go.Val
