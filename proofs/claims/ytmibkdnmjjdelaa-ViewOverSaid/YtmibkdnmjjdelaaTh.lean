/- ViewBacks. -/
import Derived.Test.YtmibkdnmjjdelaaTg
set_option linter.unusedSectionVars false
set_option linter.unusedVariables false
set_option linter.unusedSimpArgs false
namespace Go.Val
open Go.Lib

abbrev OpT := Int × Int × List UInt8 × ByteArray × (List UInt8 × List UInt8 × Bool)
def cut50 (x : ByteArray) : ByteArray := x.extract 0 (min (x.size : Int) 50).toNat
/-- A step: puts and deletes. -/
def stepV (v : VT) (o : OpT) : VT :=
  if o.1 = 1 then (if badV (cut50 o.2.2.2.1) = true then v else setV v o.2.2.1 (o.2.2.1, cut50 o.2.2.2.1, false)) else setV v o.2.2.1 (o.2.2.1, mt, true)
def doesV (v : VT) (ops : List OpT) (n : Nat) : VT := (ops.take n).foldl stepV v
theorem stepV_ok {n : Nat} {v : VT} (h : VOk n v) {o : OpT} (hk : o.2.2.1.length = 24) : VOk (n + 1) (stepV v o) := by
  unfold stepV
  split
  · split
    · exact h.mono (by omega)
    · exact h.set rfl hk rfl
  · exact h.set rfl hk rfl
theorem stepV_same (v : VT) (o : OpT) : (stepV v o).1 = v.1 ∧ (stepV v o).2.2 = v.2.2 := by
  unfold stepV
  split
  · split
    · exact ⟨rfl, rfl⟩
    · exact ⟨rfl, rfl⟩
  · exact ⟨rfl, rfl⟩
theorem foldV_ok : ∀ (l : List OpT) {n : Nat} {v : VT}, VOk n v → (∀ o ∈ l, o.2.2.1.length = 24) → VOk (n + l.length) (l.foldl stepV v)
  | [], n, v, h, _ => h
  | o :: l, n, v, h, hk => by
    have := foldV_ok l (stepV_ok h (hk o (by simp))) (fun q hq => hk q (by simp [hq]))
    rw [List.foldl_cons]
    refine this.mono ?_
    simp only [List.length_cons]
    omega
theorem foldV_same : ∀ (l : List OpT) (v : VT), (l.foldl stepV v).1 = v.1 ∧ (l.foldl stepV v).2.2 = v.2.2
  | [], v => ⟨rfl, rfl⟩
  | o :: l, v => by
    obtain ⟨h1, h2⟩ := foldV_same l (stepV v o)
    obtain ⟨h3, h4⟩ := stepV_same v o
    exact ⟨h1.trans h3, h2.trans h4⟩

theorem does_eqV (v : VT) (ops : List OpT) (m : Nat) (hm : m ≤ 1000) : law12_does v ops (m : Int) = some (doesV v ops m) := by
  unfold law12_does doesV
  refine bind_id (whileO_for (ops.take m) (fun i s => ((i : Int), s)) stepV (fun _ _ => True) id v trivial (fun i hi s _ => ⟨?_, trivial⟩) (fun s _ => ?_))
  · have h1 : i < ops.length := by simp at hi; omega
    have h2 : i < m := by simp at hi; omega
    have h3 : (ops.take m)[i] = ops[i] := by simp
    simp only [ilt h1, cond_true, ilt h2, Option.bind_some, gx_nat h1, wrap_succ (show i < 9223372036854775807 by omega), h3]
    have hs : (((cond (decide (ops[i].1 = 1)) (
            (cutB 0 (min (ops[i].2.2.2.1.size : Int) 50) ops[i].2.2.2.1.size).bind fun _ =>
            (view_View_Put s ops[i].2.2.1 (ops[i].2.2.2.1.extract 0 (min (ops[i].2.2.2.1.size : Int) 50).toNat)).bind fun x300 =>
            some x300.2
          ) (
            (view_View_Delete s ops[i].2.2.1).bind fun x303 =>
            some x303.2
          )) : Option VT)) = some (stepV s ops[i]) := by
      unfold stepV
      by_cases h : ops[i].1 = 1
      · simp only [h, decide_true, cond_true, if_true]
        rw [bind_of (cutB_of (by omega)), bind_of (put_eqV _ _ _)]
        show some _ = _
        by_cases hb : badV (cut50 ops[i].2.2.2.1) = true
        · have hb' : badV (ops[i].2.2.2.1.extract 0 (min (ops[i].2.2.2.1.size : Int) 50).toNat) = true := hb
          rw [if_pos hb, if_pos hb']
        · have hb' : ¬ badV (ops[i].2.2.2.1.extract 0 (min (ops[i].2.2.2.1.size : Int) 50).toNat) = true := hb
          rw [if_neg hb, if_neg hb']
          rfl
      · simp only [h, decide_false, cond_false, if_false]
        rfl
    rw [bind_of hs]
  · by_cases h : ops.length < m
    · have e : (ops.take m).length = ops.length := by simp; omega
      rw [e]
      simp only [ige, cond_false, Option.bind_some, id]
    · have e : (ops.take m).length = m := by simp; omega
      rw [e]
      by_cases h' : m < ops.length
      · simp only [ilt h', cond_true, Option.bind_some, ige, cond_false, id]
      · have : decide ((m : Int) < (ops.length : Int)) = false := decide_eq_false (by omega)
        simp only [this, cond_false, Option.bind_some, id]
theorem doesV_ok {n : Nat} {v : VT} (h : VOk n v) {ops : List OpT} (hk : ∀ o ∈ ops, o.2.2.1.length = 24) (m : Nat) : VOk (n + m) (doesV v ops m) :=
  (foldV_ok _ h fun o ho => hk o (List.mem_of_mem_take ho)).mono (by simp; omega)
theorem doesV_same (v : VT) (ops : List OpT) (m : Nat) : (doesV v ops m).1 = v.1 ∧ (doesV v ops m).2.2 = v.2.2 := foldV_same _ _

theorem viewBacks_true (l : List Pr) (ops more : List OpT) (hl : ∀ p ∈ l, p.1.length = 24) (ho : ∀ o ∈ ops, o.2.2.1.length = 24) (hm : ∀ o ∈ more, o.2.2.1.length = 24) : law12_ViewBacks l ops more = some true := by
  unfold law12_ViewBacks
  rw [bind_of shown_eq, bind_of (cut_eq l), bind_of (newPlain_eq _ (by have := cutP_len l; omega)), bind_of (new_eq _)]
  simp only [Bool.not_true, cond_false, Option.bind_some]
  have h0 : VOk 40 ((mapP (cutP l), [], [], []) : VT) := newV_ok (cutP_len l) (cutP_k24 hl)
  obtain ⟨P, hP⟩ : ∃ P, P = mapP (cutP l) := ⟨_, rfl⟩
  rw [← hP] at h0 ⊢
  clear hP
  refine (bind_of (does_eqV _ ops 30 (by decide))).trans ?_
  obtain ⟨v, hv⟩ : ∃ v, v = doesV (P, [], [], []) ops 30 := ⟨_, rfl⟩
  have hok : VOk 70 v := by rw [hv]; exact doesV_ok h0 ho 30
  obtain ⟨e1, e2⟩ := doesV_same (P, [], [], []) ops 30
  rw [← hv] at e1 e2 ⊢
  clear hv
  obtain ⟨v1, v2, v3, v4⟩ := v
  simp only at e1
  simp only [Prod.mk.injEq] at e2
  obtain ⟨rfl, rfl⟩ := e2
  subst e1
  refine (bind_of (mark_eq _ (by simp))).trans ?_
  simp only [List.nil_append, List.length_nil]
  have hown := hok.own
  have hbase := hok.base
  -- the state behind the mark, and behind each Back
  have hw : VOk 70 ((v1, v2, [], [v2]) : VT) := ⟨hbase, hown, by simp, by simp, by simp, fun m hm => by rw [List.mem_singleton] at hm; rw [hm]; exact hown⟩
  refine (bind_of (changes_eqV hw (by decide))).trans ?_
  simp only
  have hround : ∀ (w : VT), w = (v1, v2, [], [v2]) → ((law12_does w more 30).bind fun x227 =>
          (view_View_Back x227 ((0 : Nat) : Int)).bind fun x230 =>
          (((
            cond (decide (x230.1 ≠ 0)) (
              some (true, x230.2)
            ) (
              (view_View_Changes x230.2).bind fun x248 =>
              (ref09_SameChanges x248.1 (joinP (vals v2))).bind fun x251 =>
              some ((!x251), x248.2)
            )
          ) : Option (Bool × VT)))) = some (false, ((v1, v2, [], [v2]) : VT)) := by
    rintro w rfl
    refine (bind_of (does_eqV _ more 30 (by decide))).trans ?_
    obtain ⟨u, hu⟩ : ∃ u, u = doesV (v1, v2, [], [v2]) more 30 := ⟨_, rfl⟩
    obtain ⟨q1, q2⟩ := doesV_same (v1, v2, [], [v2]) more 30
    rw [← hu] at q1 q2 ⊢
    obtain ⟨u1, u2, u3, u4⟩ := u
    simp only at q1
    simp only [Prod.mk.injEq] at q2
    obtain ⟨rfl, rfl⟩ := q2
    subst q1
    refine (bind_of (back_ok (u1, u2, [], [v2]) (i := 0) (by simp) (by simp))).trans ?_
    have hd : decide ((0 : Int) ≠ 0) = false := by decide
    simp only [hd, cond_false]
    have hw' : VOk 70 ((u1, v2, [], [v2].take (0 + 1)) : VT) := hw
    refine (bind_of (changes_eqV hw' (by decide))).trans ?_
    simp only
    have hlen : (joinP (vals v2)).length ≤ 1000000 := by
      have h1 := joinP_len (vals v2)
      have h2 : v2.length ≤ 70 := hown.len
      simp only [vals, List.length_map] at h1 ⊢
      omega
    rw [bind_of (sameChanges_eq _ _ hlen)]
    simp
  have hloop := whileO_run (V := Int × VT) (O := VT ⊕ Bool) (body := fun v220 =>
        cond (decide (v220.1 < 2)) (
          (law12_does v220.2 more 30).bind fun x227 =>
          (view_View_Back x227 ((0 : Nat) : Int)).bind fun x230 =>
          (((
            cond (decide (x230.1 ≠ 0)) (
              some (true, x230.2)
            ) (
              (view_View_Changes x230.2).bind fun x248 =>
              (ref09_SameChanges x248.1 (joinP (vals v2))).bind fun x251 =>
              some ((!x251), x248.2)
            )
          ) : Option (Bool × VT))).bind fun o242 =>
          cond o242.1 (
            some (.inr (.inr false))
          ) (
            some (.inl ((IntKind.wrap .i64 (v220.1 + 1)), o242.2))
          )
        ) (
          some (.inr (.inl v220.2))
        )) (o := .inl ((v1, v2, [], [v2]) : VT)) (fun i => ((i : Int), ((v1, v2, [], [v2]) : VT))) 2 (fun i hi => by
      have h2 : decide ((i : Int) < 2) = true := decide_eq_true (by omega)
      have := hround _ rfl
      simp only [Option.bind_assoc] at this ⊢
      simp only [h2, cond_true]
      have hr := hround _ rfl
      rw [Option.bind_eq_some_iff] at hr
      obtain ⟨x, hx, hr⟩ := hr
      rw [Option.bind_eq_some_iff] at hr
      obtain ⟨y, hy, hr⟩ := hr
      rw [bind_of hx, bind_of hy]
      rw [show ∀ (f : Bool × VT → Option ((Int × VT) ⊕ (VT ⊕ Bool))), (((cond (decide (y.1 ≠ 0)) (some (true, y.2)) ((view_View_Changes y.2).bind fun x248 => (ref09_SameChanges x248.1 (joinP (vals v2))).bind fun x251 => some ((!x251), x248.2))) : Option (Bool × VT)).bind f) = f (false, (v1, v2, [], [v2])) from fun f => by rw [hr]; rfl]
      simp only [cond_false, wrap_succ (show i < 9223372036854775807 by omega)]) (by
      have h2 : decide (((2 : Nat) : Int) < 2) = false := by decide
      simp only [h2, cond_false])
  refine (bind_of hloop).trans ?_
  simp only [Sum.elim_inl]
  refine bind_id ?_
  have hwr : IntKind.wrap .i64 (((0 : Nat) : Int) + 1) = 1 := by rw [wrap_i64 (by omega)]; rfl
  rw [hwr, bind_of (back_bad (v1, v2, [], [v2]) (n := 1) (.inr (by simp)))]
  have hd : decide ((1 : Int) = 1) = true := by decide
  simp only [hd, cond_true]
  rw [bind_of (back_bad (v1, v2, [], [v2]) (n := -1) (.inl (by decide)))]
  rfl

end Go.Val

