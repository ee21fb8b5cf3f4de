/- ChunkBytes: true of each argument. -/
import Derived.Test.YthipaajmgfnagaaGreatDoorWp
import Derived.Test.YthipaajmgfnagaaGreatDoorUh
set_option linter.unusedSectionVars false
set_option linter.unusedVariables false
set_option linter.unusedSimpArgs false
namespace Go.Val
open Go.Lib

abbrev OpB := Int × Int × Int × Int × ByteArray
theorem ex300B (a : ByteArray) : (a.extract 0 (min (a.size : Int) 300).toNat).size ≤ 300 := by
  rw [← bl_len, bl_extract, List.drop_zero, List.length_take]; omega

theorem set_get (l : By) (i y : Nat) (x : UInt8) (h : i < l.length) : ((l.set i x)[y]?).getD 0 = if y = i then x else (l[y]?).getD 0 := by
  by_cases e : y = i
  · subst e
    rw [if_pos rfl, List.getElem?_set_self h]; rfl
  · rw [if_neg e, List.getElem?_set_ne (fun h => e h.symm)]

theorem zero_loop (t : VT) (b : By) (a : Nat) (ha : a ≤ b.length) (hb : b.length ≤ 1000000) : ∃ s : By, whileO (V := (Int × (List UInt8))) (O := ((VT × (List UInt8)) ⊕ Bool)) (fun v726 =>
                  cond (decide (v726.1 < (v726.2.length : Int))) (
                    (gx v726.2 v726.1).bind fun x733 =>
                    some (.inl ((IntKind.wrap .i64 (v726.1 + 1)), (List.set v726.2 v726.1.toNat (0 : UInt8))))
                  ) (
                    some (.inr (.inl (t, v726.2)))
                  )
                ) ((a : Int), b) = some (.inl (t, s)) ∧ s.length = b.length ∧ ∀ y, y < b.length → (s[y]?).getD 0 = if a ≤ y then 0 else (b[y]?).getD 0 := by
  obtain ⟨s, ⟨h1, h2⟩, hw⟩ := whileO_inv (body := fun (v726 : Int × By) =>
                  cond (decide (v726.1 < (v726.2.length : Int))) (
                    (gx v726.2 v726.1).bind fun x733 =>
                    some (Sum.inl ((IntKind.wrap .i64 (v726.1 + 1)), (List.set v726.2 v726.1.toNat (0 : UInt8))))
                  ) (
                    some (Sum.inr (Sum.inl (t, v726.2) : (VT × By) ⊕ Bool))
                  )) (b.length - a) (fun k (s : By) => (((a + k : Nat) : Int), s)) (fun k s => s.length = b.length ∧ ∀ y, y < b.length → (s[y]?).getD 0 = if a ≤ y ∧ y < a + k then 0 else (b[y]?).getD 0) (fun s => Sum.inl (t, s)) b ⟨rfl, fun y _ => by rw [if_neg (by omega)]⟩ (fun k hk s hs => by
    obtain ⟨q1, q2⟩ := hs
    have hlt : a + k < s.length := by omega
    refine ⟨s.set (a + k) 0, ?_, by rw [List.length_set]; exact q1, fun y hy => ?_⟩
    · simp only [ilt hlt, cond_true, gx_nat hlt, Option.bind_some, Int.toNat_natCast, wrap_succ (show a + k < 9223372036854775807 by omega)]
      rfl
    · rw [set_get _ _ _ _ hlt, q2 y hy]
      by_cases e : y = a + k
      · rw [if_pos e, if_pos (by omega)]
      · rw [if_neg e]
        by_cases c : a ≤ y ∧ y < a + k
        · rw [if_pos c, if_pos (by omega)]
        · rw [if_neg c, if_neg (by omega)]) (fun s hs => by
    have : a + (b.length - a) = s.length := by omega
    simp only [this, ige, cond_false])
  refine ⟨s, hw, h1, fun y hy => ?_⟩
  rw [h2 y hy]
  by_cases c : a ≤ y
  · rw [if_pos c, if_pos (by omega)]
  · rw [if_neg c, if_neg (by omega)]

set_option maxRecDepth 100000 in
set_option maxHeartbeats 1000000 in
theorem chunkBytes_true (a0 : List OpB) (a1 a2 : Int) : law13_ChunkBytes a0 a1 a2 = some true := by
  unfold law13_ChunkBytes
  rw [bind_of shown_eq, bind_of new_n]
  simp only [Bool.not_true, cond_false, Option.bind_some]
  rw [bind_of (ck_of (by decide))]
  obtain ⟨off, h1, hoff⟩ := and_le (a := a1) (b := 1023) (by decide)
  obtain ⟨m, h2, hm⟩ := and_le (a := a2) (b := 511) (by decide)
  have h1' : bitsAnd .i64 a1 1023 = (off : Int) := h1
  have h2' : bitsAnd .i64 a2 511 = (m : Int) := h2
  have w1 : IntKind.wrap .i64 ((off : Int) + (m : Int)) = ((off + m : Nat) : Int) := by rw [wrap_i64 (by omega)]; omega
  simp only [h1', h2', w1]
  have hloop := whileO_inv (body := fun (v628 : Int × VT × By) =>
        (((
          cond (decide (v628.1 < (a0.length : Int))) (
            some (decide (v628.1 < 30))
          ) (
            some false
          )
        ) : Option Bool)).bind fun o635 =>
        cond o635 (
          (((
            (gx a0 v628.1).bind fun x695 =>
            (cutB 0 (min (x695.2.2.2.2.size : Int) 300) x695.2.2.2.2.size).bind fun _ =>
            cond (decide (x695.1 = 2)) (
              (chunk_Cut v628.2.1 5 (bitsAnd .i64 x695.2.2.1 1023)).bind fun x704 =>
              cond (decide (x704.1 ≠ 0)) (
                some (.inr false)
              ) (
                whileO (V := (Int × (List UInt8))) (O := ((VT × (List UInt8)) ⊕ Bool)) (fun v726 =>
                  cond (decide (v726.1 < (v726.2.length : Int))) (
                    (gx v726.2 v726.1).bind fun x733 =>
                    some (.inl ((IntKind.wrap .i64 (v726.1 + 1)), (List.set v726.2 v726.1.toNat (0 : UInt8))))
                  ) (
                    some (.inr (.inl (x704.2, v726.2)))
                  )
                ) ((bitsAnd .i64 x695.2.2.1 1023), v628.2.2)
              )
            ) (
              (chunk_Write v628.2.1 5 (bitsAnd .i64 x695.2.2.1 1023) (x695.2.2.2.2.extract 0 (min (x695.2.2.2.2.size : Int) 300).toNat)).bind fun x736 =>
              cond (decide (x736.1 ≠ 0)) (
                some (.inr false)
              ) (
                (ck (decide (0 ≤ (bitsAnd .i64 x695.2.2.1 1023) ∧ (bitsAnd .i64 x695.2.2.1 1023).toNat ≤ v628.2.2.length))).bind fun _ =>
                some (.inl (x736.2, (List.take (bitsAnd .i64 x695.2.2.1 1023).toNat v628.2.2 ++ cpB (List.drop (bitsAnd .i64 x695.2.2.1 1023).toNat v628.2.2) (x695.2.2.2.2.extract 0 (min (x695.2.2.2.2.size : Int) 300).toNat).data.toList)))
              )
            )
          ) : Option ((VT × (List UInt8)) ⊕ Bool))).bind fun o692 =>
          Sum.elim (fun (v747 : (VT × (List UInt8))) =>
            some (Sum.inl ((IntKind.wrap .i64 (v628.1 + 1)), v747.1, v747.2))
          ) (fun w750 =>
            some (Sum.inr (Sum.inr w750 : (VT × By) ⊕ Bool))
          ) o692
        ) (
          some (Sum.inr (Sum.inl (v628.2.1, v628.2.2)))
        )) (min a0.length 30) (fun j (u : VT × By) => ((j : Int), u.1, u.2)) (fun j u => u.2.length = 2000 ∧ ∃ G, CV (30 * j) u.1 G ∧ ∀ y, y < 2000 → (u.2[y]?).getD 0 = byt G 5 y) (fun u => Sum.inl (u.1, u.2)) (([], [], [], []), List.replicate 2000 (0 : UInt8)) ⟨List.length_replicate, _, CV.new, fun y _ => by rw [byt_new]; exact zs_get 2000 y⟩ (fun j hj u hJ => ?_) (fun u hJ => ?_)
  · obtain ⟨u, ⟨hl, G, hv, hy⟩, hw⟩ := hloop
    simp only [Int.natCast_zero] at hw
    rw [bind_of hw]
    simp only [Sum.elim_inl]
    have hv := hv.mono (m := 1000) (by omega)
    obtain ⟨v', e1, c1, k1, _⟩ := cread_eq (i := 5) (off := off) (m := m) (by decide) hv (by decide) (by omega)
    rw [bind_of (show chunk_Read u.1 5 (off : Int) (m : Int) = _ from e1)]
    have d0 : decide ((0 : Int) = 0) = true := rfl
    simp only [d0, cond_true]
    rw [bind_of (cutB_of (by omega))]
    have hp : piece u.2 (off : Int) ((off + m : Nat) : Int) = rng G 5 off m := by
      unfold piece
      rw [Int.toNat_natCast, Int.toNat_natCast]
      refine rng_of (by rw [List.length_drop, List.length_take]; omega) fun x hx => ?_
      rw [List.getElem?_drop, List.getElem?_take, if_pos (by omega), hy _ (by omega)]
    rw [hp]
    have : decide (bm (rng G 5 off m) = bytesS (rng G 5 off m)) = true := decide_eq_true rfl
    rw [this]
    rfl
  · obtain ⟨hl, G, hv, hy⟩ := hJ
    have g1 : j < a0.length := by omega
    have g2 : decide ((j : Int) < 30) = true := decide_eq_true (by omega)
    obtain ⟨o, ho, hol⟩ := and_le (a := a0[j].2.2.1) (b := 1023) (by decide)
    have ho' : bitsAnd .i64 a0[j].2.2.1 1023 = (o : Int) := ho
    have h00 : decide ((0 : Int) ≠ 0) = false := by decide
    have k1 : cutB 0 (min (a0[j].2.2.2.2.size : Int) 300) a0[j].2.2.2.2.size = some () := cutB_of (by omega)
    by_cases hk : a0[j].1 = 2
    · obtain ⟨v', G', e1, w⟩ := cut_eq (i := 5) (size := o) (by decide) hv (by omega) (by omega)
      have e1' : chunk_Cut u.1 5 (o : Int) = some (0, v') := e1
      obtain ⟨s, hz, hsl, hs⟩ := zero_loop v' u.2 o (by omega) (by omega)
      refine ⟨(v', s), ?_, by rw [hsl]; exact hl, G', w.cv.mono (by omega), fun y hy' => ?_⟩
      · simp only [ilt g1, cond_true, g2, Option.bind_some, gx_nat g1, k1, decide_eq_true hk, ho', e1', h00, cond_false, hz, Sum.elim_inl, wrap_succ (show j < 9223372036854775807 by omega)]
      · rw [hs y (by omega), w.byt hv.len (by decide) (by omega), hy y hy']
        by_cases c : o ≤ y
        · rw [if_pos c, if_neg (by omega)]
        · rw [if_neg c, if_pos (by omega)]
    · have hx := ex300B a0[j].2.2.2.2
      have hp : 2 * pcs o (a0[j].2.2.2.2.extract 0 (min (a0[j].2.2.2.2.size : Int) 300).toNat).size ≤ 25 := by unfold pcs; split <;> omega
      obtain ⟨v', G', e1, w⟩ := write_eq (i := 5) (off := o) (x := a0[j].2.2.2.2.extract 0 (min (a0[j].2.2.2.2.size : Int) 300).toNat) (by decide) hv (by omega) (by omega)
      have e1' : chunk_Write u.1 5 (o : Int) (a0[j].2.2.2.2.extract 0 (min (a0[j].2.2.2.2.size : Int) 300).toNat) = some (0, v') := e1
      have hbl : (bl (a0[j].2.2.2.2.extract 0 (min (a0[j].2.2.2.2.size : Int) 300).toNat)).length = (a0[j].2.2.2.2.extract 0 (min (a0[j].2.2.2.2.size : Int) 300).toNat).size := rfl
      have hcv := w.cv
      have hbt := w.byt
      rw [hbl] at hcv hbt
      have k2 : ck (decide (0 ≤ (o : Int) ∧ o ≤ u.2.length)) = some () := ck_of (by omega)
      refine ⟨(v', u.2.take o ++ cpB (u.2.drop o) (bl (a0[j].2.2.2.2.extract 0 (min (a0[j].2.2.2.2.size : Int) 300).toNat))), ?_, by rw [into_len _ _ _ (by omega)]; exact hl, G', hcv.mono (by omega), fun y hy' => ?_⟩
      · simp only [ilt g1, cond_true, g2, Option.bind_some, gx_nat g1, k1, decide_eq_false hk, ho', e1', h00, cond_false, Int.toNat_natCast, k2, Sum.elim_inl, wrap_succ (show j < 9223372036854775807 by omega)]
        rfl
      · rw [into_get _ _ _ _ (by omega), hbl, hbt, hy y hy']
  · by_cases h : a0.length ≤ 30
    · have e : min a0.length 30 = a0.length := by omega
      rw [e]
      simp only [ige, cond_false, Option.bind_some]
    · have e : min a0.length 30 = 30 := by omega
      rw [e]
      have h1 : decide (((30 : Nat) : Int) < (a0.length : Int)) = true := decide_eq_true (by omega)
      have h2 : decide (((30 : Nat) : Int) < 30) = false := by decide
      simp only [h1, h2, cond_true, Option.bind_some, cond_false]
end Go.Val

