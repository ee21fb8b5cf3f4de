/- chunk.Cut over a view of chunks. -/
import Derived.Test.YthipaajmgfnagaaGreatDoorUf
set_option linter.unusedSectionVars false
set_option linter.unusedVariables false
set_option linter.unusedSimpArgs false
namespace Go.Val
open Go.Lib

def cutc (b : By) (k : Nat) : By := b.take k ++ zs (32 - k)
theorem cutc_len {b : By} {k : Nat} (hb : b.length = 32) (hk : k ≤ 32) : (cutc b k).length = 32 := by
  unfold cutc zs
  rw [List.length_append, List.length_take, List.length_replicate]; omega
theorem cutc_get {b : By} {k : Nat} (hb : b.length = 32) (hk : k ≤ 32) (x : Nat) : ((cutc b k)[x]?).getD 0 = if x < k then (b[x]?).getD 0 else 0 := by
  unfold cutc
  rw [List.getElem?_append, List.length_take]
  by_cases h : x < k
  · rw [if_pos (by omega), if_pos h, List.getElem?_take, if_pos h]
  · rw [if_neg (by omega), if_neg h]; exact zs_get _ _
theorem cutc_zs {k : Nat} (hk : k ≤ 32) : cutc (zs 32) k = zs 32 := by
  unfold cutc zs
  rw [List.take_replicate, List.replicate_append_replicate]
  congr 1; omega
theorem take_zs (n k : Nat) : (zs n).take k = zs (min k n) := List.take_replicate
theorem tr_take {b : By} {k : Nat} : tr ((tr b).take k) = tr (cutc b k) := by
  have e := tr_split b
  have e2 : b.take k = (tr b).take k ++ zs (min (k - (tr b).length) (b.length - (tr b).length)) := by
    conv => lhs; rw [e]
    rw [List.take_append, take_zs]
  unfold cutc
  rw [tr_zs, e2, tr_zs]

def kpOf (size q : Nat) : Nat := if q = size / 32 then size % 32 else 0
theorem kp_le (size q : Nat) : kpOf size q ≤ 32 := by unfold kpOf; split <;> omega

structure Cutt (n : Nat) (v : VT) (G : Nat → Nat → By) (i size : Nat) (v' : VT) (G' : Nat → Nat → By) : Prop where
  cv : CV (n + 1) v' G'
  chunks : ∀ j q, okP j q → G' j q = if j = i ∧ size / 32 ≤ q then cutc (G i q) (kpOf size q) else G j q
  keys : v'.2.1.map (·.1) = v.2.1.map (·.1)
  reads : v'.2.2.1 = (rdV v (ckey i (size / 32), ckEnd i, false)).2.2.1

set_option maxRecDepth 100000 in
theorem cut_eq {i size n : Nat} {v : VT} {G : Nat → Nat → By} (hi : 1 ≤ i ∧ i < 1073741824) (h : CV n v G) (hn : n ≤ 400000) (hoff : size ≤ 1048576) : ∃ v' G', chunk_Cut v (i : Int) (size : Int) = some (0, v') ∧ Cutt n v G i size v' G' := by
  unfold chunk_Cut
  rw [bind_of (may_eq _ _ _), decide_eq_true (by omega), Bool.not_true, cond_false]
  have e1 : IntKind.wrap .i64 (Int.tdiv (size : Int) 32) = ((size / 32 : Nat) : Int) := by
    have : Int.tdiv (size : Int) 32 = ((size / 32 : Nat) : Int) := rfl
    rw [this, wrap_i64 (by omega)]
  have e2 : Int.tmod (size : Int) 32 = ((size % 32 : Nat) : Int) := rfl
  have hpa : okP i (size / 32) := ⟨hi, by omega⟩
  simp only [e1, e2]
  rw [bind_of (chunks_eq hpa), bind_of (scan_eq h.ok hn _)]
  have h00 : decide ((0 : Int) ≠ 0) = false := by decide
  simp only [h00, cond_false]
  have hcv := h.rd (s := (ckey i (size / 32), ckEnd i, false)) ⟨rfl, rfl⟩
  have hown : (rdV v (ckey i (size / 32), ckEnd i, false)).2.1 = v.2.1 := rfl
  have hlen := scan_len h.ok h.base (ckey i (size / 32), ckEnd i, false)
  have hpair : ∀ p ∈ scanP v (ckey i (size / 32), ckEnd i, false), ∃ q, okP i q ∧ size / 32 ≤ q ∧ p = (ckey i q, bm (tr (G i q))) ∧ tr (G i q) ≠ [] := by
    intro p hp
    obtain ⟨i', q, hq, ep, hne, hs⟩ := h.pair hp
    rw [inS_from hpa hq, decide_eq_true_eq] at hs
    obtain ⟨e, h1⟩ := hs
    rw [e] at hq ep hne
    exact ⟨q, hq, h1, ep, hne⟩
  have hsee : ∀ q, okP i q → size / 32 ≤ q → ckey i q ∉ (scanP v (ckey i (size / 32), ckEnd i, false)).map (·.1) → G i q = zs 32 := by
    intro q hq h1 h2
    exact h.sees hq (by rw [inS_from hpa hq]; exact decide_eq_true ⟨rfl, h1⟩) h2
  generalize scanP v (ckey i (size / 32), ckEnd i, false) = xs at hlen hpair hsee
  have hrd : (rdV v (ckey i (size / 32), ckEnd i, false)).2.2.1 = (rdV v (ckey i (size / 32), ckEnd i, false)).2.2.1 := rfl
  generalize hvr : rdV v (ckey i (size / 32), ckEnd i, false) = vr at hcv hown
  have hloop := whileO_inv (body := fun (v437 : Int × VT) =>
          cond (decide (v437.1 < (xs.length : Int))) (
            (((
              (gx xs v437.1).bind fun x482 =>
              (key_Of x482.1).bind fun x485 =>
              cond (!x485.2) (
                some (.inr (12, v437.2))
              ) (
                (((
                  cond (decide (x485.1.2.2.2 = ((size / 32 : Nat) : Int))) (
                    some ((size % 32 : Nat) : Int)
                  ) (
                    some 0
                  )
                ) : Option Int)).bind fun o496 =>
                (cutB 0 (min (x482.2.size : Int) o496) x482.2.size).bind fun _ =>
                (inode_Trim (x482.2.extract 0 (min (x482.2.size : Int) o496).toNat)).bind fun x505 =>
                cond (decide (x505 = x482.2)) (
                  some (.inl v437.2)
                ) (
                  (chunk_lay v437.2 (i : Int) x485.1.2.2.2 x505).bind fun x511 =>
                  cond (decide (x511.1 ≠ 0)) (
                    some (.inr (x511.1, x511.2))
                  ) (
                    some (.inl x511.2)
                  )
                )
              )
            ) : Option (VT ⊕ (Int × VT)))).bind fun o479 =>
            Sum.elim (fun (v521 : VT) =>
              some (Sum.inl ((IntKind.wrap .i64 (v437.1 + 1)), v521))
            ) (fun w524 =>
              some (Sum.inr (Sum.inr w524 : VT ⊕ (Int × VT)))
            ) o479
          ) (
            some (Sum.inr (Sum.inl v437.2))
          )) xs.length (fun j (u : VT) => ((j : Int), u)) (fun j u => ∃ G', CV (n + 1) u G' ∧ u.2.1.map (·.1) = v.2.1.map (·.1) ∧ u.2.2.1 = vr.2.2.1 ∧ ∀ j' q, okP j' q → G' j' q = if ckey j' q ∈ (xs.take j).map (·.1) then cutc (G i q) (kpOf size q) else G j' q) (fun u => Sum.inl u) vr ⟨G, hcv, by rw [hown], rfl, fun j' q hq => by simp⟩ (fun j hj u hJ => ?_) (fun u hJ => by
      simp only [lt_nat, decide_eq_false (Nat.lt_irrefl _), cond_false])
  · obtain ⟨u, ⟨G', hu, hk, hr, hG⟩, hw⟩ := hloop
    simp only [Int.natCast_zero] at hw
    rw [bind_of hw]
    simp only [Sum.elim_inl]
    refine ⟨u, G', rfl, hu, fun j q hq => ?_, hk, by rw [hr, hvr]⟩
    rw [hG j q hq, List.take_length]
    by_cases hm : ckey j q ∈ xs.map (·.1)
    · rw [if_pos hm]
      obtain ⟨p, hp, ep⟩ := List.mem_map.1 hm
      obtain ⟨q', hq', h1, h2, _⟩ := hpair p hp
      rw [h2] at ep
      obtain ⟨e3, e4⟩ := ckey_inj hq' hq ep
      rw [if_pos ⟨e3.symm, by omega⟩]
    · rw [if_neg hm]
      split
      · rename_i hc
        obtain ⟨rfl, hc⟩ := hc
        rw [hsee q hq hc hm, cutc_zs (kp_le _ _)]
      · rfl
  · obtain ⟨G', hu, hk, hr, hG⟩ := hJ
    obtain ⟨q, hq, h1, ep, hne⟩ := hpair xs[j] (List.getElem_mem hj)
    have hof : key_Of xs[j].1 = some (((i : Int), 3, mt, (q : Int)), true) := by rw [ep]; exact Of_eq hq
    have hgl : (G i q).length = 32 := h.len i q
    have ht := tr_le (G i q)
    have hkp : (cond (decide ((q : Int) = ((size / 32 : Nat) : Int))) (some ((size % 32 : Nat) : Int)) (some (0 : Int)) : Option Int) = some (kpOf size q : Int) := by
      unfold kpOf
      by_cases e : q = size / 32
      · rw [decide_eq_true (by omega), cond_true, if_pos e]
      · rw [decide_eq_false (by omega), cond_false, if_neg e]; rfl
    have hkl := kp_le size q
    have hx2 : xs[j].2 = bm (tr (G i q)) := by rw [ep]
    have hb : bl (xs[j].2.extract 0 (min (xs[j].2.size : Int) (kpOf size q : Int)).toNat) = (tr (G i q)).take (kpOf size q) := by
      rw [bl_extract, List.drop_zero, hx2, bl_bm, bm_size]
      by_cases hc : (tr (G i q)).length ≤ kpOf size q
      · rw [List.take_of_length_le (by omega), List.take_of_length_le hc]
      · congr 1; omega
    have htrim : inode_Trim (xs[j].2.extract 0 (min (xs[j].2.size : Int) (kpOf size q : Int)).toNat) = some (bm (tr ((tr (G i q)).take (kpOf size q)))) := by
      rw [trim_eq, hb, List.take_of_length_le (by rw [List.length_take]; omega)]
    have hcut : cutB 0 (min (xs[j].2.size : Int) (kpOf size q : Int)) xs[j].2.size = some () := cutB_of (by omega)
    have htk : xs.take (j + 1) = xs.take j ++ [xs[j]] := by rw [List.take_add_one, List.getElem?_eq_getElem hj]; rfl
    have hin : ∀ j' q', okP j' q' → (ckey j' q' ∈ (xs.take (j + 1)).map (·.1) ↔ ckey j' q' ∈ (xs.take j).map (·.1) ∨ (j' = i ∧ q' = q)) := by
      intro j' q' hq'
      rw [htk, List.map_append, List.mem_append]
      have e : xs[j].1 = ckey i q := by rw [ep]
      simp only [List.map_cons, List.map_nil, List.mem_singleton, e]
      constructor
      · rintro (a | a)
        · exact .inl a
        · exact .inr (ckey_inj hq' hq a)
      · rintro (a | ⟨rfl, rfl⟩)
        · exact .inl a
        · exact .inr rfl
    have hpt := pad_tr (cutc_len hgl hkl)
    rw [← tr_take] at hpt
    have hlay : ∃ u', (cond (decide (bm (tr ((tr (G i q)).take (kpOf size q))) = xs[j].2)) (some (Sum.inl u)) ((chunk_lay u (i : Int) (q : Int) (bm (tr ((tr (G i q)).take (kpOf size q))))).bind fun x511 => cond (decide (x511.1 ≠ 0)) (some (Sum.inr (x511.1, x511.2))) (some (Sum.inl x511.2))) : Option (VT ⊕ (Int × VT))) = some (Sum.inl u') ∧ ∃ G', CV (n + 1) u' G' ∧ u'.2.1.map (·.1) = v.2.1.map (·.1) ∧ u'.2.2.1 = vr.2.2.1 ∧ ∀ j' q, okP j' q → G' j' q = if ckey j' q ∈ (xs.take (j + 1)).map (·.1) then cutc (G i q) (kpOf size q) else G j' q := by
      by_cases hsame : bm (tr ((tr (G i q)).take (kpOf size q))) = xs[j].2
      · rw [decide_eq_true hsame, cond_true]
        refine ⟨u, rfl, G', hu, hk, hr, fun j' q' hq' => ?_⟩
        rw [hG j' q' hq']
        have hc : cutc (G i q) (kpOf size q) = G i q := by
          rw [← hpt]
          rw [hx2] at hsame
          rw [bm_inj hsame, pad_tr hgl]
        by_cases hm : ckey j' q' ∈ (xs.take j).map (·.1)
        · rw [if_pos hm, if_pos ((hin j' q' hq').2 (.inl hm))]
        · rw [if_neg hm]
          by_cases e : j' = i ∧ q' = q
          · rw [if_pos ((hin j' q' hq').2 (.inr e))]
            obtain ⟨rfl, rfl⟩ := e
            exact hc.symm
          · rw [if_neg (fun x => ((hin j' q' hq').1 x).elim hm e)]
      · rw [decide_eq_false hsame, cond_false, bind_of (lay_eq u hq _)]
        simp only [h00, cond_false]
        have hl2 := tr_le ((tr (G i q)).take (kpOf size q))
        rw [List.length_take] at hl2
        rw [bl_bm, List.take_of_length_le (by omega)]
        have hmem : ckey i q ∈ u.2.1.map (·.1) := by
          rw [hk]
          refine h.scan_in (x := bm (tr (G i q))) ?_
          rw [h.at_ i q hq]
          exact if_neg hne
        refine ⟨_, rfl, _, hu.layIn hq (b := tr ((tr (G i q)).take (kpOf size q))) (by omega) hmem, ?_, hr, fun j' q' hq' => ?_⟩
        · have := set_keys u (ckey i q) (chg (tr ((tr (G i q)).take (kpOf size q))) i q)
          rw [this]
          unfold addK
          rw [if_pos hmem, hk]
        · unfold setG
          rw [hpt]
          by_cases e : j' = i ∧ q' = q
          · rw [if_pos e, if_pos ((hin j' q' hq').2 (.inr e)), e.2]
          · rw [if_neg e, hG j' q' hq']
            by_cases hm : ckey j' q' ∈ (xs.take j).map (·.1)
            · rw [if_pos hm, if_pos ((hin j' q' hq').2 (.inl hm))]
            · rw [if_neg hm, if_neg (fun x => ((hin j' q' hq').1 x).elim hm e)]
    obtain ⟨u', e3, hJ'⟩ := hlay
    refine ⟨u', ?_, hJ'⟩
    simp only [ilt hj, cond_true, gx_nat hj, Option.bind_some, hof, Bool.not_true, cond_false, hkp, hcut, htrim, e3, Sum.elim_inl, wrap_succ (show j < 9223372036854775807 by omega)]

theorem cut_bad {i size : Int} {v : VT} (h : ¬ ((1 ≤ i ∧ i < 1073741824) ∧ 0 ≤ size ∧ size ≤ 1048576)) : chunk_Cut v i size = some (1, v) := by
  unfold chunk_Cut
  rw [bind_of (may_eq _ _ _), decide_eq_false (by omega)]
  rfl
theorem read_bad {i off m : Int} {v : VT} (h : ¬ ((1 ≤ i ∧ i < 1073741824) ∧ 0 ≤ off ∧ 0 ≤ m ∧ off ≤ 1048576 ∧ m ≤ 1048576 - off)) : chunk_Read v i off m = some (mt, 1, v) := by
  unfold chunk_Read
  rw [bind_of (may_eq _ _ _), decide_eq_false (by omega)]
  rfl

theorem Cutt.byt {n : Nat} {v v' : VT} {G G' : Nat → Nat → By} {i size : Nat} (h : Cutt n v G i size v' G') (hG : ∀ i p, (G i p).length = 32) (hi : 1 ≤ i ∧ i < 1073741824) {x : Nat} (hx : x < 137438953472) : Go.Val.byt G' i x = if x < size then Go.Val.byt G i x else 0 := by
  unfold Go.Val.byt
  rw [h.chunks i (x / 32) ⟨hi, by omega⟩]
  by_cases hc : size / 32 ≤ x / 32
  · rw [if_pos ⟨rfl, hc⟩, cutc_get (hG i _) (kp_le _ _)]
    unfold kpOf
    by_cases e : x / 32 = size / 32
    · rw [if_pos e]
      by_cases hlt : x % 32 < size % 32
      · rw [if_pos hlt, if_pos (by omega)]
      · rw [if_neg hlt, if_neg (by omega)]
    · rw [if_neg e, if_neg (by omega), if_neg (by omega)]
  · rw [if_neg (by omega), if_pos (by omega)]
theorem Cutt.oth {n : Nat} {v v' : VT} {G G' : Nat → Nat → By} {i size : Nat} (h : Cutt n v G i size v' G') {j q : Nat} (hj : j ≠ i) (hq : okP j q) : G' j q = G j q := by
  rw [h.chunks j q hq, if_neg (by omega)]
end Go.Val

