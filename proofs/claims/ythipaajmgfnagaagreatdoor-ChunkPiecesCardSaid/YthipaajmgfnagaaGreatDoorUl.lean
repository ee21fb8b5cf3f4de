/- ChunkPieces: true of each argument. -/
import Derived.Test.YthipaajmgfnagaaGreatDoorWm
import Derived.Test.YthipaajmgfnagaaGreatDoorUh
set_option linter.unusedSectionVars false
set_option linter.unusedVariables false
set_option linter.unusedSimpArgs false
namespace Go.Val
open Go.Lib

theorem allS_okP : spOk allS := ⟨by simp [allS], by simp [allS]⟩
/-- Views of the same chunks have the same pairs. -/
theorem CV.same {n m : Nat} {v u : VT} {G H : Nat → Nat → By} (h : CV n v G) (k : CV m u H) (e : ∀ i p, okP i p → G i p = H i p) (s : Sp) : scanP v s = scanP u s := by
  refine rising_ext (scan_rising h.ok s) (scan_rising k.ok s) fun key => ?_
  rw [scan_get h.ok, scan_get k.ok]
  by_cases hk : ∃ i p, okP i p ∧ key = ckey i p
  · obtain ⟨i, p, hp, rfl⟩ := hk
    rw [h.at_ i p hp, k.at_ i p hp, e i p hp]
  · rw [h.no key fun i p hp e => hk ⟨i, p, hp, e⟩, k.no key fun i p hp e => hk ⟨i, p, hp, e⟩]

theorem ex300' (a : ByteArray) : (a.extract 0 (min (a.size : Int) 300).toNat).size ≤ 300 := by
  rw [← bl_len, bl_extract, List.drop_zero, List.length_take]; omega

theorem w0 {off : Nat} {x : ByteArray} {n : Nat} {v : VT} {G : Nat → Nat → By} (hoff : off ≤ 70000) (hx : x.size ≤ 300) (h : CV n v G) (hn : n ≤ 1000) : ∃ v' G', chunk_Write v 5 (off : Int) x = some (0, v') ∧ CV (n + 50) v' G' ∧ (∀ y, byt G' 5 y = if off ≤ y ∧ y < off + x.size then ((bl x)[y - off]?).getD 0 else byt G 5 y) ∧ (∀ j, j ≠ 5 → G' j = G j) := by
  have hp : pcs off x.size ≤ 25 := by unfold pcs; split <;> omega
  obtain ⟨v', G', e, w⟩ := write_eq (i := 5) (off := off) (x := x) (by decide) h (by omega) (by omega)
  have hlen : (bl x).length = x.size := rfl
  have hc := w.cv
  have hb := w.byt
  rw [hlen] at hc hb
  exact ⟨v', G', e, hc.mono (by omega), hb, w.oth⟩

set_option maxRecDepth 100000 in
theorem chunkPieces_true (a0 : Int) (a1 : ByteArray) (a2 : Int) : law13_ChunkPieces a0 a1 a2 = some true := by
  unfold law13_ChunkPieces
  rw [bind_of shown_eq, bind_of new_n]
  simp only [Bool.not_true, cond_false, Option.bind_some]
  obtain ⟨off, h0, hoff⟩ := and_le (a := a0) (b := 65535) (by decide)
  obtain ⟨q, h2, hq⟩ := and_le (a := a2) (b := 511) (by decide)
  have h0' : bitsAnd .i64 a0 65535 = (off : Int) := h0
  have h2' : bitsAnd .i64 a2 511 = (q : Int) := h2
  simp only [h0', h2']
  rw [bind_of (cutB_of (by omega))]
  have hsz := ex300' a1
  generalize a1.extract 0 (min (a1.size : Int) 300).toNat = x at hsz
  have w1 : IntKind.wrap .i64 ((x.size : Int) + 1) = ((x.size + 1 : Nat) : Int) := by rw [wrap_i64 (by omega)]; omega
  have t1 : Int.tmod (q : Int) ((x.size + 1 : Nat) : Int) = ((q % (x.size + 1) : Nat) : Int) := rfl
  simp only [w1, t1]
  rw [bind_of (ck_of (show ((x.size + 1 : Nat) : Int) ≠ 0 by omega))]
  have hk : q % (x.size + 1) < x.size + 1 := Nat.mod_lt _ (by omega)
  generalize q % (x.size + 1) = k at hk
  have w2 : IntKind.wrap .i64 ((off : Int) + (k : Int)) = ((off + k : Nat) : Int) := by rw [wrap_i64 (by omega)]; omega
  simp only [w2, Int.toNat_natCast]
  have l1 : bl (x.extract 0 k) = (bl x).take k := by rw [bl_extract, List.drop_zero]
  have l2 : bl (x.extract k x.size) = (bl x).drop k := by rw [bl_extract, List.take_of_length_le (by rw [bl_len]; omega)]
  have s1 : (x.extract 0 k).size = k := by rw [← bl_len, l1, List.length_take, bl_len]; omega
  have s2 : (x.extract k x.size).size = x.size - k := by rw [← bl_len, l2, List.length_drop, bl_len]
  obtain ⟨va, Ga, ea, ca, ba, oa⟩ := w0 (off := off) (x := x) (by omega) hsz CV.new (by decide)
  rw [bind_of ea, bind_of (cutB_of (by omega))]
  obtain ⟨vb, Gb, eb, cb, bb, ob⟩ := w0 (off := off) (x := x.extract 0 k) (by omega) (by omega) CV.new (by decide)
  rw [bind_of eb, bind_of (cutB_of (by omega))]
  simp only
  obtain ⟨vb', Gb', eb', cb', bb', ob'⟩ := w0 (off := off + k) (x := x.extract k x.size) (by omega) (by omega) cb (by decide)
  rw [bind_of eb']
  obtain ⟨vc, Gc, ec, cc, bc, oc⟩ := w0 (off := off + k) (x := x.extract k x.size) (by omega) (by omega) CV.new (by decide)
  rw [bind_of ec]
  simp only
  obtain ⟨vc', Gc', ec', cc', bc', oc'⟩ := w0 (off := off) (x := x.extract 0 k) (by omega) (by omega) cc (by decide)
  rw [bind_of ec']
  have h00 : decide ((0 : Int) ≠ 0) = false := by decide
  simp only [h00, cond_false, Option.bind_some]
  have hab : ∀ i p, okP i p → Ga i p = Gb' i p := by
    intro i p _
    by_cases hi : i = 5
    · subst hi
      refine byt_ext ca.len cb'.len (fun y => ?_) p
      rw [ba, bb', bb, s1, s2, l1, l2]
      by_cases c1 : off + k ≤ y ∧ y < off + k + (x.size - k)
      · rw [if_pos c1, if_pos (by omega), List.getElem?_drop]
        congr 2; omega
      · rw [if_neg c1]
        by_cases c2 : off ≤ y ∧ y < off + k
        · rw [if_pos c2, if_pos (by omega), List.getElem?_take, if_pos (by omega)]
        · rw [if_neg c2, if_neg (by omega)]
    · rw [oa i hi, ob' i hi, ob i hi]
  have hac : ∀ i p, okP i p → Ga i p = Gc' i p := by
    intro i p _
    by_cases hi : i = 5
    · subst hi
      refine byt_ext ca.len cc'.len (fun y => ?_) p
      rw [ba, bc', bc, s1, s2, l1, l2]
      by_cases c1 : off ≤ y ∧ y < off + k
      · rw [if_pos c1, if_pos (by omega), List.getElem?_take, if_pos (by omega)]
      · rw [if_neg c1]
        by_cases c2 : off + k ≤ y ∧ y < off + k + (x.size - k)
        · rw [if_pos c2, if_pos (by omega), List.getElem?_drop]
          congr 2; omega
        · rw [if_neg c2, if_neg (by omega)]
    · rw [oa i hi, oc' i hi, oc i hi]
  have sA : view_View_Scan va ((List.replicate 24 0), (List.replicate 24 0), true) = some (scanP va allS, 0, rdV va allS) := scan_eq ca.ok (by decide) allS
  have sB : view_View_Scan vb' ((List.replicate 24 0), (List.replicate 24 0), true) = some (scanP va allS, 0, rdV vb' allS) := by rw [ca.same cb' hab allS]; exact scan_eq cb'.ok (by decide) allS
  have sC : view_View_Scan vc' ((List.replicate 24 0), (List.replicate 24 0), true) = some (scanP va allS, 0, rdV vc' allS) := by rw [ca.same cc' hac allS]; exact scan_eq cc'.ok (by decide) allS
  rw [bind_of sA, bind_of sB, bind_of sC]
  simp only
  have hl := scan_len ca.ok ca.base allS
  have hne : decide (((scanP va allS).length : Int) ≠ ((scanP va allS).length : Int)) = false := decide_eq_false (by omega)
  simp only [hne, cond_false, Option.bind_some]
  have hca := ca.rd allS_okP
  generalize scanP va allS = xs at hl
  have hloop : whileO (V := Int) (O := (Unit ⊕ Bool)) (fun v313 =>
            cond (decide (v313 < (xs.length : Int))) (
              (((
                (gx xs v313).bind fun x341 =>
                (gx xs v313).bind fun x344 =>
                cond (!((decide (x341.1 = x344.1)) && ((decide (x341.2 = x344.2)) && true))) (
                  some true
                ) (
                  (gx xs v313).bind fun x350 =>
                  some (!((decide (x341.1 = x350.1)) && ((decide (x341.2 = x350.2)) && true)))
                )
              ) : Option Bool)).bind fun o338 =>
              cond o338 (
                some (.inr (.inr false))
              ) (
                some (.inl (IntKind.wrap .i64 (v313 + 1)))
              )
            ) (
              some (.inr (.inl ()))
            )) 0 = some (.inl ()) := by
    refine all_true (n := xs.length) 0 (by omega) (fun i _ hi => ?_) (by simp only [ige, cond_false])
    simp only [ilt hi, cond_true, gx_nat hi, Option.bind_some, decide_true, Bool.and_self, Bool.not_true, cond_false, wrap_succ (show i < 9223372036854775807 by omega)]
  rw [bind_of hloop]
  simp only [Sum.elim_inl]
  obtain ⟨v4, e4, c4, k4, _⟩ := cread_eq (i := 5) (off := off) (m := x.size) (by decide) hca (by decide) (by omega)
  rw [bind_of (show chunk_Read (rdV va allS) 5 (off : Int) (x.size : Int) = _ from e4)]
  have hr : rng Ga 5 off x.size = bl x := (rng_of rfl fun y hy => by
    have hy : y < x.size := hy
    rw [ba, if_pos (by omega)]
    congr 2; omega).symm
  rw [hr, bm_bl]
  simp
end Go.Val

