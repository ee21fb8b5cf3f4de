/- ChunkApart: true of each argument. -/
import Derived.Test.YthipaajmgfnagaaGreatDoorWl
import Derived.Test.YthipaajmgfnagaaGreatDoorUh
set_option linter.unusedSectionVars false
set_option linter.unusedVariables false
set_option linter.unusedSimpArgs false
namespace Go.Val
open Go.Lib

abbrev OpC := Int × Int × Int × Int × ByteArray
theorem allS_okA : spOk allS := ⟨by simp [allS], by simp [allS]⟩
theorem ex300A (a : ByteArray) : (a.extract 0 (min (a.size : Int) 300).toNat).size ≤ 300 := by
  rw [← bl_len, bl_extract, List.drop_zero, List.length_take]; omega
theorem wA {i off : Nat} {x : ByteArray} {n : Nat} {v : VT} {G : Nat → Nat → By} (hi : 1 ≤ i ∧ i < 1073741824) (hoff : off ≤ 1023) (hx : x.size ≤ 300) (h : CV n v G) (hn : n ≤ 10000) : ∃ v' G', chunk_Write v (i : Int) (off : Int) x = some (0, v') ∧ CV (n + 25) v' G' := by
  have hp : 2 * pcs off x.size ≤ 25 := by unfold pcs; split <;> omega
  obtain ⟨v', G', e, w⟩ := write_eq (i := i) (off := off) (x := x) hi h (by omega) (by omega)
  have hlen : (bl x).length = x.size := rfl
  have hc := w.cv
  rw [hlen] at hc
  exact ⟨v', G', e, hc.mono (by omega)⟩

def inoOf (k : Ky) : Nat := valK (k.take 4)
theorem inoOf_ckey {i p : Nat} (h : okP i p) : inoOf (ckey i p) = i := by
  unfold inoOf
  have e : (ckey i p).take 4 = be4 i := rfl
  rw [e, valK_be4 (by have := h.1; omega)]
def not5 (k : Ky) : Bool := decide (inoOf k ≠ 5)

/-- What is left, once a file is cut to nothing. -/
theorem cut_left {n : Nat} {v v' : VT} {G G' : Nat → Nat → By} (h : CV n v G) (w : Cutt n v G 5 0 v' G') : scanP v' allS = (scanP v allS).filter fun p => not5 p.1 := by
  refine rising_ext (scan_rising w.cv.ok allS) (filter_rising (scan_rising h.ok allS) _) fun key => ?_
  rw [mget_filter _ not5, scan_get h.ok, scan_get w.cv.ok]
  by_cases hk : ∃ i p, okP i p ∧ key = ckey i p
  · obtain ⟨i, p, hp, rfl⟩ := hk
    rw [h.at_ i p hp, w.cv.at_ i p hp]
    unfold not5
    rw [inoOf_ckey hp]
    by_cases hi : i = 5
    · subst hi
      have hc := w.chunks 5 p hp
      rw [if_pos ⟨rfl, by omega⟩] at hc
      rw [hc]
      have e : kpOf 0 p = 0 := by unfold kpOf; split <;> rfl
      have e2 : cutc (G 5 p) 0 = zs 32 := by unfold cutc; rw [List.take_zero]; rfl
      rw [e, e2, enc_zs]
      simp
    · rw [w.oth hi hp]
      simp [hi]
  · rw [h.no key fun i p hp e => hk ⟨i, p, hp, e⟩, w.cv.no key fun i p hp e => hk ⟨i, p, hp, e⟩]
    simp

set_option maxRecDepth 100000 in
set_option maxHeartbeats 1000000 in
theorem chunkApart_true (a0 a1 : List OpC) : law13_ChunkApart a0 a1 = some true := by
  unfold law13_ChunkApart
  rw [bind_of shown_eq, bind_of new_n]
  simp only [Bool.not_true, cond_false, Option.bind_some]
  have hloop := whileO_inv (body := fun (v335 : Int × VT) =>
        (((
          cond (decide (v335.1 < (a0.length : Int))) (
            some (decide (v335.1 < 20))
          ) (
            some false
          )
        ) : Option Bool)).bind fun o342 =>
        cond o342 (
          (((
            (gx a0 v335.1).bind fun x375 =>
            (cutB 0 (min (x375.2.2.2.2.size : Int) 300) x375.2.2.2.2.size).bind fun _ =>
            (chunk_Write v335.2 5 (bitsAnd .i64 x375.2.2.1 1023) (x375.2.2.2.2.extract 0 (min (x375.2.2.2.2.size : Int) 300).toNat)).bind fun x381 =>
            cond (decide (v335.1 < (a1.length : Int))) (
              (gx a1 v335.1).bind fun x387 =>
              (cutB 0 (min (x387.2.2.2.2.size : Int) 300) x387.2.2.2.2.size).bind fun _ =>
              (chunk_Write x381.2 (IntKind.wrap .i64 (6 + (bitsAnd .i64 x387.2.1 3))) (bitsAnd .i64 x387.2.2.1 1023) (x387.2.2.2.2.extract 0 (min (x387.2.2.2.2.size : Int) 300).toNat)).bind fun x393 =>
              some x393.2
            ) (
              some x381.2
            )
          ) : Option VT)).bind fun o372 =>
          some (Sum.inl ((IntKind.wrap .i64 (v335.1 + 1)), o372))
        ) (
          some (Sum.inr v335.2)
        )) (min a0.length 20) (fun j (u : VT) => ((j : Int), u)) (fun j u => ∃ G, CV (50 * j) u G) (fun u => u) ([], [], [], []) ⟨_, CV.new⟩ (fun j hj u hJ => ?_) (fun u hJ => ?_)
  · obtain ⟨v, ⟨G, hv⟩, hw⟩ := hloop
    simp only [Int.natCast_zero] at hw
    rw [bind_of hw]
    have hv := hv.mono (m := 1000) (by omega)
    have sA : view_View_Scan v ((List.replicate 24 0), (List.replicate 24 0), true) = some (scanP v allS, 0, rdV v allS) := scan_eq hv.ok (by decide) allS
    rw [bind_of sA]
    simp only
    have hl := scan_len hv.ok hv.base allS
    have hpair := fun p hp => hv.pair (s := allS) (p := p) hp
    obtain ⟨v2, G2, e2, w2⟩ := cut_eq (i := 5) (size := 0) (by decide) (hv.rd allS_okA) (by decide) (by decide)
    have hleft := cut_left (hv.rd allS_okA) w2
    have hrd : scanP (rdV v allS) allS = scanP v allS := rfl
    rw [hrd] at hleft
    have sB : view_View_Scan v2 ((List.replicate 24 0), (List.replicate 24 0), true) = some (scanP v2 allS, 0, rdV v2 allS) := scan_eq w2.cv.ok (by decide) allS
    rw [hleft] at sB
    generalize scanP v allS = xs at hl hpair sB
    have hof : ∀ i (hi : i < xs.length), ∃ j q, okP j q ∧ key_Of xs[i].1 = some (((j : Int), 3, mt, (q : Int)), true) ∧ xs[i].2 = bm (tr (G j q)) ∧ tr (G j q) ≠ [] ∧ not5 xs[i].1 = decide (j ≠ 5) := by
      intro i hi
      obtain ⟨j, q, hq, ep, hne, _⟩ := hpair _ (List.getElem_mem hi)
      refine ⟨j, q, hq, by rw [ep]; exact Of_eq hq, by rw [ep], hne, ?_⟩
      rw [ep]
      unfold not5
      simp only [inoOf_ckey hq]
    have hl1 : whileO (V := Int) (O := (Unit ⊕ Bool)) (fun v649 =>
        cond (decide (v649 < (xs.length : Int))) (
          (gx xs v649).bind fun x656 =>
          (key_Of x656.1).bind fun x659 =>
          (((
            cond (!x659.2) (
              some true
            ) (
              cond (decide (x659.1.2.1 ≠ 3)) (
                some true
              ) (
                cond (decide ((x656.2.size : Int) < 1)) (
                  some true
                ) (
                  cond (decide ((x656.2.size : Int) > 32)) (
                    some true
                  ) (
                    (gx x656.2.data.toList (IntKind.wrap .i64 ((x656.2.size : Int) - 1))).bind fun x692 =>
                    some (decide ((x692.toNat : Int) = 0))
                  )
                )
              )
            )
          ) : Option Bool)).bind fun o677 =>
          cond o677 (
            some (.inr (.inr false))
          ) (
            some (.inl (IntKind.wrap .i64 (v649 + 1)))
          )
        ) (
          some (.inr (.inl ()))
        )) 0 = some (.inl ()) := by
      refine all_true (n := xs.length) 0 (by omega) (fun i _ hi => ?_) (by simp only [ige, cond_false])
      obtain ⟨j, q, hq, ho, hx, hne, _⟩ := hof i hi
      have hlen : xs[i].2.size = (tr (G j q)).length := by rw [hx]; rfl
      have hpos : 0 < (tr (G j q)).length := List.length_pos_iff.2 hne
      have hle := tr_le (G j q)
      rw [hv.len] at hle
      have h33 : decide ((3 : Int) ≠ 3) = false := by decide
      have d1 : decide ((xs[i].2.size : Int) < 1) = false := decide_eq_false (by omega)
      have d2 : decide ((xs[i].2.size : Int) > 32) = false := decide_eq_false (by omega)
      have d3 : IntKind.wrap .i64 ((xs[i].2.size : Int) - 1) = (((tr (G j q)).length - 1 : Nat) : Int) := by rw [wrap_i64 (by omega)]; omega
      have hbl : xs[i].2.data.toList = tr (G j q) := by rw [hx]; rfl
      have hg : gx (tr (G j q)) (((tr (G j q)).length - 1 : Nat) : Int) = some (tr (G j q))[(tr (G j q)).length - 1] := gx_nat (by omega)
      have hz : (tr (G j q))[(tr (G j q)).length - 1] ≠ 0 := by
        refine tr_last (G j q) ?_
        rw [List.getLast?_eq_getElem?, List.getElem?_eq_getElem (by omega)]
      have hz' : decide (((tr (G j q))[(tr (G j q)).length - 1].toNat : Int) = 0) = false := by
        refine decide_eq_false fun e => hz (UInt8.toNat_inj.1 ?_)
        have : (0 : UInt8).toNat = 0 := rfl
        omega
      simp only [ilt hi, cond_true, gx_nat hi, Option.bind_some, ho, Bool.not_true, cond_false, h33, d1, d2, d3, hbl, hg, hz', wrap_succ (show i < 9223372036854775807 by omega)]
    rw [bind_of hl1]
    simp only [Sum.elim_inl]
    rw [bind_of (show chunk_Cut (rdV v allS) 5 0 = _ from e2)]
    simp only
    rw [bind_of sB]
    simp only
    have hl2 := whileO_inv (body := fun (v1064 : Int × Int) =>
          cond (decide (v1064.2 < (xs.length : Int))) (
            (((
              (gx xs v1064.2).bind fun x1103 =>
              (key_Of x1103.1).bind fun x1106 =>
              cond (decide (x1106.1.1 = 5)) (
                some (.inl v1064.1)
              ) (
                (((
                  cond (decide (v1064.1 ≥ ((xs.filter fun p => not5 p.1).length : Int))) (
                    some true
                  ) (
                    (gx (xs.filter fun p => not5 p.1) v1064.1).bind fun x1124 =>
                    some (!((decide (x1124.1 = x1103.1)) && ((decide (x1124.2 = x1103.2)) && true)))
                  )
                ) : Option Bool)).bind fun o1118 =>
                cond o1118 (
                  some (.inr false)
                ) (
                  some (.inl (IntKind.wrap .i64 (v1064.1 + 1)))
                )
              )
            ) : Option (Int ⊕ Bool))).bind fun o1100 =>
            Sum.elim (fun (v1134 : Int) =>
              some (Sum.inl (v1134, (IntKind.wrap .i64 (v1064.2 + 1))))
            ) (fun w1137 =>
              some (Sum.inr (Sum.inr w1137 : Int ⊕ Bool))
            ) o1100
          ) (
            some (Sum.inr (Sum.inl v1064.1))
          )) xs.length (fun j (at_ : Nat) => ((at_ : Int), (j : Int))) (fun j at_ => at_ = ((xs.take j).filter fun p => not5 p.1).length) (fun at_ => Sum.inl (at_ : Int)) 0 (by simp) (fun j hj at_ hJ => ?_) (fun at_ hJ => by
        simp only [ige, cond_false])
    · obtain ⟨at_, hat, hw2⟩ := hl2
      rw [List.take_length] at hat
      simp only [Int.natCast_zero] at hw2
      rw [bind_of hw2]
      simp only [Sum.elim_inl]
      have d0 : decide ((0 : Int) = 0) = true := rfl
      simp only [d0, cond_true, hat, decide_true, Option.bind_some]
    · obtain ⟨i, q, hq, ho, hx, hne, hn5⟩ := hof j hj
      have hfs := filter_take_succ (fun p : Pr => not5 p.1) xs j hj
      by_cases h5 : i = 5
      · subst h5
        have d : decide (((5 : Nat) : Int) = 5) = true := rfl
        refine ⟨at_, ?_, ?_⟩
        · simp only [ilt hj, cond_true, gx_nat hj, Option.bind_some, ho, d, Sum.elim_inl, wrap_succ (show j < 9223372036854775807 by omega)]
        · rw [hfs, hn5, if_neg (by simp)]; exact hJ
      · have hkeep : not5 xs[j].1 = true := by rw [hn5]; exact decide_eq_true h5
        have d : decide ((i : Int) = 5) = false := decide_eq_false (by omega)
        have hsp : xs.filter (fun p => not5 p.1) = (xs.take j).filter (fun p => not5 p.1) ++ (xs[j] :: (xs.drop (j + 1)).filter (fun p => not5 p.1)) := by
          conv => lhs; rw [← List.take_append_drop j xs, List.drop_eq_getElem_cons hj, List.filter_append, List.filter_cons_of_pos (p := fun p : Pr => not5 p.1) hkeep]
        have hlt : at_ < (xs.filter fun p => not5 p.1).length := by rw [hsp, List.length_append, ← hJ]; simp
        have hget : (xs.filter fun p => not5 p.1)[at_] = xs[j] := by
          have : (xs.filter fun p => not5 p.1)[at_]? = some xs[j] := by
            rw [hsp, List.getElem?_append_right (by omega), ← hJ, Nat.sub_self]; rfl
          rw [List.getElem?_eq_getElem hlt] at this
          exact Option.some.inj this
        have dge : decide ((at_ : Int) ≥ ((xs.filter fun p => not5 p.1).length : Int)) = false := decide_eq_false (by omega)
        have hal : (xs.filter fun p => not5 p.1).length ≤ xs.length := List.length_filter_le _ _
        refine ⟨at_ + 1, ?_, ?_⟩
        · simp only [ilt hj, cond_true, gx_nat hj, Option.bind_some, ho, d, cond_false, dge, gx_nat hlt, hget, decide_true, Bool.and_self, Bool.not_true, Sum.elim_inl, wrap_succ (show j < 9223372036854775807 by omega), wrap_succ (show at_ < 9223372036854775807 by omega)]
        · rw [hfs, if_pos hkeep, List.length_append, ← hJ]; rfl
  · obtain ⟨G, hv⟩ := hJ
    have h1 : j < a0.length := by omega
    have h2 : decide ((j : Int) < 20) = true := decide_eq_true (by omega)
    obtain ⟨o, ho, hol⟩ := and_le (a := a0[j].2.2.1) (b := 1023) (by decide)
    have ho' : bitsAnd .i64 a0[j].2.2.1 1023 = (o : Int) := ho
    obtain ⟨v1, G1, e1, c1⟩ := wA (i := 5) (off := o) (x := a0[j].2.2.2.2.extract 0 (min (a0[j].2.2.2.2.size : Int) 300).toNat) (by decide) hol (ex300A _) hv (by omega)
    have e1' : chunk_Write u 5 (o : Int) (a0[j].2.2.2.2.extract 0 (min (a0[j].2.2.2.2.size : Int) 300).toNat) = some (0, v1) := e1
    have k1 : cutB 0 (min (a0[j].2.2.2.2.size : Int) 300) a0[j].2.2.2.2.size = some () := cutB_of (by omega)
    by_cases h3 : j < a1.length
    · obtain ⟨o2, ho2, hol2⟩ := and_le (a := a1[j].2.2.1) (b := 1023) (by decide)
      have ho2' : bitsAnd .i64 a1[j].2.2.1 1023 = (o2 : Int) := ho2
      obtain ⟨i2, hi2, hil2⟩ := and_le (a := a1[j].2.1) (b := 3) (by decide)
      have hi2' : bitsAnd .i64 a1[j].2.1 3 = (i2 : Int) := hi2
      have w6 : IntKind.wrap .i64 (6 + (i2 : Int)) = ((6 + i2 : Nat) : Int) := by rw [wrap_i64 (by omega)]; omega
      obtain ⟨v2, G2, e2, c2⟩ := wA (i := 6 + i2) (off := o2) (x := a1[j].2.2.2.2.extract 0 (min (a1[j].2.2.2.2.size : Int) 300).toNat) (by omega) hol2 (ex300A _) c1 (by omega)
      have k2 : cutB 0 (min (a1[j].2.2.2.2.size : Int) 300) a1[j].2.2.2.2.size = some () := cutB_of (by omega)
      refine ⟨v2, ?_, G2, c2.mono (by omega)⟩
      simp only [ilt h1, cond_true, h2, Option.bind_some, gx_nat h1, k1, ho', e1', ilt h3, gx_nat h3, k2, hi2', w6, ho2', e2, wrap_succ (show j < 9223372036854775807 by omega)]
    · have h3' : decide ((j : Int) < (a1.length : Int)) = false := decide_eq_false (by omega)
      refine ⟨v1, ?_, G1, c1.mono (by omega)⟩
      simp only [ilt h1, cond_true, h2, Option.bind_some, gx_nat h1, k1, ho', e1', h3', cond_false, wrap_succ (show j < 9223372036854775807 by omega)]
  · by_cases h : a0.length ≤ 20
    · have e : min a0.length 20 = a0.length := by omega
      rw [e]
      simp only [ige, cond_false, Option.bind_some]
    · have e : min a0.length 20 = 20 := by omega
      rw [e]
      have h1 : decide (((20 : Nat) : Int) < (a0.length : Int)) = true := decide_eq_true (by omega)
      have h2 : decide (((20 : Nat) : Int) < 20) = false := by decide
      simp only [h1, h2, cond_true, Option.bind_some, cond_false]
end Go.Val

