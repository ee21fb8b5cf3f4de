/- ViewApplies. -/
import Derived.Test.YtmibkdnmjjdelaaTh
set_option linter.unusedSectionVars false
set_option linter.unusedVariables false
set_option linter.unusedSimpArgs false
namespace Go.Val
open Go.Lib

theorem applyP_k24 {l : List Pr} {cs : List Cg} (hl : ∀ p ∈ l, p.1.length = 24) (hc : ∀ c ∈ cs, c.1.length = 24) : ∀ p ∈ applyP l cs, p.1.length = 24 := by
  intro p hp
  have h1 : (mget (applyP l cs) p.1).isSome = true := mget_isSome.2 (List.mem_map.2 ⟨p, hp, rfl⟩)
  rw [mget_applyP] at h1
  unfold updF at h1
  cases hg : mget cs.reverse p.1 with
  | some e =>
    obtain ⟨c, hc1, hc2⟩ := List.mem_map.1 (mget_isSome.1 (show (mget cs.reverse p.1).isSome = true by rw [hg]; rfl))
    rw [← hc2]
    exact hc c (by simpa using hc1)
  | none =>
    rw [hg] at h1
    simp only [fn] at h1
    rw [mget_valuesP] at h1
    obtain ⟨c, hc1, hc2⟩ := List.mem_map.1 (mget_isSome.1 h1)
    rw [← hc2]
    exact hl c (by simpa using hc1)
theorem vals_k24 {n : Nat} {m : VM} (h : MOk n m) : ∀ c ∈ vals m, c.1.length = 24 := by
  intro c hc
  obtain ⟨p, hp, rfl⟩ := List.mem_map.1 hc
  rw [h.own p hp]
  exact h.k24 p hp

theorem applyP_seen {v w : VT} (h : seen v = seen w) : applyP v.1 (vals v.2.1) = applyP w.1 (vals w.2.1) :=
  rising_ext (applyP_rising _ _) (applyP_rising _ _) fun k => by rw [mget_applyP, mget_applyP]; exact congrFun h k
theorem applyP_join (l : List Pr) (m : VM) : applyP (mapP l) (vals m) = applyP l (joinP (vals m)) :=
  rising_ext (applyP_rising _ _) (applyP_rising _ _) fun k => by rw [mget_applyP, mget_applyP, updF_joinP, fn_mapP]

theorem stepV_seen {n n' : Nat} {v w : VT} (hv : VOk n v) (hw : VOk n' w) (h : seen v = seen w) (o : OpT) : seen (stepV v o) = seen (stepV w o) := by
  unfold stepV
  split
  · split
    · exact h
    · rw [seen_set hv (k := o.2.2.1) (c := (o.2.2.1, cut50 o.2.2.2.1, false)) rfl, seen_set hw (k := o.2.2.1) (c := (o.2.2.1, cut50 o.2.2.2.1, false)) rfl, h]
  · rw [seen_set hv (k := o.2.2.1) (c := (o.2.2.1, mt, true)) rfl, seen_set hw (k := o.2.2.1) (c := (o.2.2.1, mt, true)) rfl, h]

theorem viewApplies_true (l : List Pr) (ops : List OpT) (at_ : Int) (hl : ∀ p ∈ l, p.1.length = 24) (ho : ∀ o ∈ ops, o.2.2.1.length = 24) : law12_ViewApplies l ops at_ = some true := by
  unfold law12_ViewApplies
  rw [bind_of shown_eq, bind_of (cut_eq l), bind_of (newPlain_eq _ (by have := cutP_len l; omega)), bind_of (new_eq _)]
  simp only [Bool.not_true, cond_false, Option.bind_some]
  have hcl := cutP_len l
  have h0 : VOk 40 ((mapP (cutP l), [], [], []) : VT) := newV_ok hcl (cutP_k24 hl)
  obtain ⟨L, hL⟩ : ∃ L, L = cutP l := ⟨_, rfl⟩
  have hL24 : ∀ p ∈ L, p.1.length = 24 := by rw [hL]; exact cutP_k24 hl
  rw [← hL] at h0 hcl ⊢
  clear hL
  obtain ⟨K, hK⟩ : ∃ K, K = bitsAnd .i64 at_ 63 := ⟨_, rfl⟩
  rw [← hK]
  clear hK
  -- what both scans and changes tell
  have hscan : ∀ (n : Nat) (v : VT), VOk n v → n ≤ 400 → view_View_Scan v (List.replicate 24 0, List.replicate 24 0, true) = some (applyP v.1 (vals v.2.1), 0, rdV v allS) := by
    intro n v hv hn
    have := scan_eq hv (by omega) allS
    rw [scan_all hv] at this
    exact this
  have hlen : ∀ (n : Nat) (v : VT), VOk n v → n ≤ 400 → (applyP v.1 (vals v.2.1)).length ≤ 1000 := by
    intro n v hv hn
    have h1 := applyP_len v.1 (vals v.2.1)
    have h2 := hv.base.len
    have h3 := hv.own.len
    simp only [vals, List.length_map] at h1 ⊢
    omega
  have happ : ∀ (n : Nat) (v : VT), VOk n v → n ≤ 400 → v.1 = mapP L → ((view_View_Changes (rdV v allS)).bind fun x1567 =>
                    (delta_Apply L x1567.1).bind fun x1570 =>
                    (ref09_Same (applyP v.1 (vals v.2.1)) x1570).bind fun x1573 => some x1573) = some true := by
    intro n v hv hn hb
    rw [bind_of (changes_eqV (hv.rd allS_ok) (by omega))]
    have h3 := hv.own.len
    have h4 := joinP_len (vals v.2.1)
    have h5 : (joinP (vals (rdV v allS).2.1)).length ≤ 500000 := by
      show (joinP (vals v.2.1)).length ≤ 500000
      simp only [vals, List.length_map] at h4 ⊢
      omega
    rw [bind_of (apply_eq L _ (by omega) h5), bind_of (same_eq _ _ (by have := hlen n v hv hn; omega))]
    have : applyP v.1 (vals v.2.1) = applyP L (joinP (vals (rdV v allS).2.1)) := by
      rw [hb]
      exact applyP_join L v.2.1
    rw [this]
    simp
  obtain ⟨N, hN⟩ : ∃ N, N = min ops.length 40 := ⟨_, rfl⟩
  obtain ⟨⟨one, first⟩, ⟨⟨J1, J2, J3, J4, J5⟩, hw⟩⟩ := whileO_inv (V := Int × Int × VT × VT) (O := (VT × VT) ⊕ Bool) (S := VT × VT) (body := fun v1351 =>
        (((
          cond (decide (v1351.2.1 < (ops.length : Int))) (
            some (decide (v1351.2.1 < 40))
          ) (
            some false
          )
        ) : Option Bool)).bind fun o1358 =>
        cond o1358 (
          (((
            (gx ops v1351.2.1).bind fun x1490 =>
            (cutB 0 (min (x1490.2.2.2.1.size : Int) 50) x1490.2.2.2.1.size).bind fun _ =>
            (((
              cond (decide (v1351.1 = K)) (
                (view_View_Scan v1351.2.2.2 ((List.replicate 24 0), (List.replicate 24 0), true)).bind fun x1546 =>
                (((
                  cond (decide (x1546.2.1 ≠ 0)) (
                    some true
                  ) (
                    (view_View_Changes x1546.2.2).bind fun x1567 =>
                    (delta_Apply L x1567.1).bind fun x1570 =>
                    (ref09_Same x1546.1 x1570).bind fun x1573 =>
                    some (!x1573)
                  )
                ) : Option Bool)).bind fun o1561 =>
                cond o1561 (
                  some (.inr false)
                ) (
                  (view_NewPlain x1546.1).bind fun x1582 =>
                  (view_New x1582).bind fun x1585 =>
                  some (.inl x1585)
                )
              ) (
                some (.inl v1351.2.2.2)
              )
            ) : Option (VT ⊕ Bool))).bind fun o1540 =>
            Sum.elim (fun (v1590 : VT) =>
              cond (decide (x1490.1 = 1)) (
                (view_View_Put v1351.2.2.1 x1490.2.2.1 (x1490.2.2.2.1.extract 0 (min (x1490.2.2.2.1.size : Int) 50).toNat)).bind fun x1594 =>
                (view_View_Put v1590 x1490.2.2.1 (x1490.2.2.2.1.extract 0 (min (x1490.2.2.2.1.size : Int) 50).toNat)).bind fun x1597 =>
                cond (decide (x1594.1 ≠ x1597.1)) (
                  some (.inr false)
                ) (
                  some (.inl (x1594.2, x1597.2))
                )
              ) (
                (view_View_Delete v1351.2.2.1 x1490.2.2.1).bind fun x1605 =>
                (view_View_Delete v1590 x1490.2.2.1).bind fun x1608 =>
                some (.inl (x1605.2, x1608.2))
              )
            ) (fun w1613 =>
              some (.inr w1613)
            ) o1540
          ) : Option ((VT × VT) ⊕ Bool))).bind fun o1487 =>
          Sum.elim (fun (v1614 : (VT × VT)) =>
            some (.inl ((IntKind.wrap .i64 (v1351.1 + 1)), (IntKind.wrap .i64 (v1351.2.1 + 1)), v1614.1, v1614.2))
          ) (fun w1617 =>
            some (.inr (.inr w1617))
          ) o1487
        ) (
          some (.inr (.inl (v1351.2.2.1, v1351.2.2.2)))
        )) N (fun t s => ((t : Int), (t : Int), s.1, s.2)) (fun t s => VOk (40 + t) s.1 ∧ VOk (100 + t) s.2 ∧ s.1.1 = mapP L ∧ seen s.2 = seen s.1 ∧ ((t : Int) ≤ K → s.2 = s.1))
      (fun s => .inl (s.1, s.2)) ((mapP L, [], [], []), (mapP L, [], [], [])) ⟨h0, h0.mono (by omega), rfl, rfl, fun _ => rfl⟩ (fun t ht s hs => by
        obtain ⟨one, first⟩ := s
        obtain ⟨J1, J2, J3, J4, J5⟩ := hs
        simp only at J1 J2 J3 J4 J5
        have ht1 : t < ops.length := by omega
        have ht2 : t < 40 := by omega
        have hk : ops[t].2.2.1.length = 24 := ho _ (List.getElem_mem ht1)
        -- the other view, made anew at one step
        have hmid : ∃ f2 : VT, VOk (100 + t) f2 ∧ seen f2 = seen one ∧ (((t : Int) + 1 ≤ K) → f2 = one) ∧
            (((cond (decide ((t : Int) = K)) (
                (view_View_Scan first ((List.replicate 24 0), (List.replicate 24 0), true)).bind fun x1546 =>
                (((
                  cond (decide (x1546.2.1 ≠ 0)) (
                    some true
                  ) (
                    (view_View_Changes x1546.2.2).bind fun x1567 =>
                    (delta_Apply L x1567.1).bind fun x1570 =>
                    (ref09_Same x1546.1 x1570).bind fun x1573 =>
                    some (!x1573)
                  )
                ) : Option Bool)).bind fun o1561 =>
                cond o1561 (
                  some (.inr false)
                ) (
                  (view_NewPlain x1546.1).bind fun x1582 =>
                  (view_New x1582).bind fun x1585 =>
                  some (.inl x1585)
                )
              ) (
                some (.inl first)
              )) : Option (VT ⊕ Bool))) = some (.inl f2) := by
          by_cases hc : (t : Int) = K
          · have e := J5 (by omega)
            subst e
            have hs := hscan _ _ J1 (by omega)
            have hr := applyP_rising first.1 (vals first.2.1)
            refine ⟨(applyP first.1 (vals first.2.1), [], [], []), ?_, ?_, fun h => by omega, ?_⟩
            · have h1 := applyP_len first.1 (vals first.2.1)
              have h2 := J1.base.len
              have h3 := J1.own.len
              have hl2 : first.1.length ≤ 40 := by rw [J3]; have := mapP_len L; omega
              simp only [vals, List.length_map] at h1
              refine ⟨⟨hr, ?_, applyP_k24 J1.base.k24 (vals_k24 J1.own)⟩, MOk.nil _, by simp, by simp, by simp, by simp⟩
              simp only [vals] at h1 ⊢
              omega
            · show updF (fn (applyP first.1 (vals first.2.1))) [] = seen first
              rw [updF_nil, fn_rising hr, mget_scan_all]
            · simp only [hc, decide_true, cond_true]
              rw [bind_of hs]
              have ha := happ _ _ J1 (by omega) J3
              have hd : decide ((0 : Int) ≠ 0) = false := by decide
              simp only [hd, cond_false]
              have hb : ((view_View_Changes (rdV first allS)).bind fun x1567 =>
                    (delta_Apply L x1567.1).bind fun x1570 =>
                    (ref09_Same (applyP first.1 (vals first.2.1)) x1570).bind fun x1573 =>
                    some (!x1573)) = some false := by
                rw [Option.bind_eq_some_iff] at ha
                obtain ⟨x, hx, ha⟩ := ha
                rw [Option.bind_eq_some_iff] at ha
                obtain ⟨y, hy, ha⟩ := ha
                rw [Option.bind_eq_some_iff] at ha
                obtain ⟨z, hz, ha⟩ := ha
                rw [bind_of hx, bind_of hy, bind_of hz, Option.some.inj ha]
                rfl
              rw [bind_of hb]
              simp only [cond_false]
              rw [bind_of (newPlain_eq _ (by have := hlen _ _ J1 (by omega); omega)), mapP_id hr]
              rfl
          · refine ⟨first, J2, J4, fun h => J5 (by omega), ?_⟩
            simp only [hc, decide_false, cond_false]
        obtain ⟨f2, g1, g2, g3, g4⟩ := hmid
        refine ⟨(stepV one ops[t], stepV f2 ops[t]), ?_, (stepV_ok J1 hk).mono (by omega), (stepV_ok g1 hk).mono (by omega), (stepV_same one ops[t]).1.trans J3, stepV_seen g1 J1 g2 _, fun h => by
          rw [g3 (by omega)]⟩
        have hd40 : decide ((t : Int) < 40) = true := decide_eq_true (by omega)
        simp only [ilt ht1, cond_true, hd40, Option.bind_some, gx_nat ht1]
        rw [bind_of (cutB_of (by omega))]
        rw [bind_of g4]
        simp only [Sum.elim_inl, wrap_succ (show t < 9223372036854775807 by omega)]
        have hput : ∀ v : VT, view_View_Put v ops[t].2.2.1 (ops[t].2.2.2.1.extract 0 (min (ops[t].2.2.2.1.size : Int) 50).toNat) = some (if badV (cut50 ops[t].2.2.2.1) = true then 1 else 0, if badV (cut50 ops[t].2.2.2.1) = true then v else setV v ops[t].2.2.1 (ops[t].2.2.1, cut50 ops[t].2.2.2.1, false)) := by
          intro v
          rw [put_eqV]
          show some (if badV (cut50 ops[t].2.2.2.1) = true then _ else _) = _
          split <;> rfl
        unfold stepV
        by_cases hk1 : ops[t].1 = 1
        · simp only [hk1, decide_true, cond_true, if_true]
          rw [bind_of (hput one), bind_of (hput f2)]
          simp
        · simp only [hk1, decide_false, cond_false, if_false]
          rfl) (fun s _ => by
        by_cases h : ops.length < 40
        · have e : N = ops.length := by omega
          simp only [e, ige, cond_false, Option.bind_some]
        · have e : N = 40 := by omega
          simp only [e]
          by_cases h' : 40 < ops.length
          · simp only [ilt h', cond_true, Option.bind_some, show decide (((40 : Nat) : Int) < 40) = false from by decide, cond_false]
          · have : decide (((40 : Nat) : Int) < (ops.length : Int)) = false := by simp; omega
            simp only [this, cond_false, Option.bind_some])
  simp only at J1 J2 J3 J4 J5
  refine (bind_of hw).trans ?_
  simp only [Sum.elim_inl]
  have hNle : N ≤ 40 := by omega
  rw [bind_of (hscan _ one J1 (by omega)), bind_of (hscan _ first J2 (by omega))]
  refine bind_id ?_
  have hd : decide ((0 : Int) = 0) = true := by decide
  simp only [hd, cond_true]
  have hsame := applyP_seen J4
  rw [bind_of (same_eq _ _ (by have := hlen _ one J1 (by omega); omega)), hsame]
  simp only [decide_true, cond_true]
  exact happ _ one J1 (by omega) J3

end Go.Val

