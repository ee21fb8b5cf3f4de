/- chunk.Read over a view of chunks. -/
import Derived.Test.YthipaajmgfnagaaGreatDoorUe
set_option linter.unusedSectionVars false
set_option linter.unusedVariables false
set_option linter.unusedSimpArgs false
namespace Go.Val
open Go.Lib

theorem cpB_get (l b : By) (x : Nat) (hb : b.length ≤ l.length) : ((cpB l b)[x]?).getD 0 = if x < b.length then (b[x]?).getD 0 else (l[x]?).getD 0 := by
  unfold cpB
  rw [List.take_of_length_le hb, List.getElem?_append]
  split
  · rfl
  · rw [List.getElem?_drop]; congr 2; omega
/-- A row into which a piece is laid from n on. -/
theorem into_get (l b : By) (n x : Nat) (hb : n + b.length ≤ l.length) : ((l.take n ++ cpB (l.drop n) b)[x]?).getD 0 = if n ≤ x ∧ x < n + b.length then (b[x - n]?).getD 0 else (l[x]?).getD 0 := by
  rw [List.getElem?_append, List.length_take]
  by_cases h : x < n
  · rw [if_pos (by omega), if_neg (by omega), List.getElem?_take, if_pos h]
  · rw [if_neg (by omega), cpB_get _ _ _ (by rw [List.length_drop]; omega)]
    have e : x - min n l.length = x - n := by omega
    rw [e]
    by_cases h2 : x < n + b.length
    · rw [if_pos (by omega), if_pos (by omega)]
    · rw [if_neg (by omega), if_neg (by omega), List.getElem?_drop]; congr 2; omega
theorem into_len (l b : By) (n : Nat) (hn : n ≤ l.length) : (l.take n ++ cpB (l.drop n) b).length = l.length := by
  rw [List.length_append, cpB_len, List.length_take, List.length_drop]; omega

/-- The bytes of i's from off on. -/
def rng (G : Nat → Nat → By) (i off m : Nat) : By := (List.range m).map fun x => byt G i (off + x)
theorem rng_len (G : Nat → Nat → By) (i off m : Nat) : (rng G i off m).length = m := by unfold rng; rw [List.length_map, List.length_range]
theorem rng_get (G : Nat → Nat → By) (i off m x : Nat) (h : x < m) : (rng G i off m)[x]? = some (byt G i (off + x)) := by
  unfold rng
  rw [List.getElem?_map, List.getElem?_range h]; rfl
theorem rng_of {G : Nat → Nat → By} {i off m : Nat} {l : By} (hl : l.length = m) (h : ∀ x, x < m → (l[x]?).getD 0 = byt G i (off + x)) : l = rng G i off m := by
  refine List.ext_getElem (by rw [rng_len, hl]) fun x h1 h2 => ?_
  have hx : x < m := by omega
  have e1 := h x hx
  have e2 := rng_get G i off m x hx
  rw [List.getElem?_eq_getElem h1] at e1
  rw [List.getElem?_eq_getElem h2] at e2
  exact e1.trans (Option.some.inj e2).symm

/-- What one finds among the pairs of a view of chunks. -/
theorem CV.pair {n : Nat} {v : VT} {G : Nat → Nat → By} (h : CV n v G) {s : Sp} {p : Ky × ByteArray} (hm : p ∈ scanP v s) : ∃ i q, okP i q ∧ p = (ckey i q, bm (tr (G i q))) ∧ tr (G i q) ≠ [] ∧ inS s (ckey i q) = true := by
  have hg := mget_of_mem (scan_rising h.ok s).nodup (show (p.1, p.2) ∈ scanP v s from hm)
  rw [scan_get h.ok] at hg
  split at hg
  · rename_i hs
    have : ∃ i q, okP i q ∧ p.1 = ckey i q := by
      apply Classical.byContradiction
      intro hn
      have := h.no p.1 fun i q hq e => hn ⟨i, q, hq, e⟩
      rw [this] at hg; cases hg
    obtain ⟨i, q, hq, e⟩ := this
    rw [e, h.at_ i q hq] at hg
    unfold encO at hg
    split at hg
    · cases hg
    · rename_i h0
      refine ⟨i, q, hq, ?_, h0, e ▸ hs⟩
      rw [← e, Option.some.inj hg]
  · cases hg
theorem CV.sees {n : Nat} {v : VT} {G : Nat → Nat → By} (h : CV n v G) {s : Sp} {i q : Nat} (hq : okP i q) (hs : inS s (ckey i q) = true) (hm : ckey i q ∉ (scanP v s).map (·.1)) : G i q = zs 32 := by
  refine enc_none (h.len i q) ?_
  rw [← h.at_ i q hq]
  have := scan_get h.ok s (ckey i q)
  rw [if_pos hs] at this
  rw [← this]
  exact mget_none.2 hm
theorem zs_get (n x : Nat) : ((zs n)[x]?).getD 0 = 0 := by
  unfold zs
  rw [List.getElem?_replicate]
  split <;> rfl
theorem byt_zs {G : Nat → Nat → By} {i x : Nat} (h : G i (x / 32) = zs 32) : byt G i x = 0 := by
  unfold byt; rw [h]; exact zs_get _ _

def readS (i off m : Nat) : Sp := (ckey i (off / 32), ckey i ((off + m + 31) / 32), false)

set_option maxRecDepth 100000 in
theorem cread_eq {i off m n : Nat} {v : VT} {G : Nat → Nat → By} (hi : 1 ≤ i ∧ i < 1073741824) (h : CV n v G) (hn : n ≤ 400000) (hoff : off + m ≤ 1048576) : ∃ v', chunk_Read v (i : Int) (off : Int) (m : Int) = some (bm (rng G i off m), 0, v') ∧ CV (n + 1) v' G ∧ v'.2.1 = v.2.1 ∧ v' = (if m = 0 then v else rdV v (readS i off m)) := by
  unfold chunk_Read
  rw [bind_of (may_eq _ _ _), decide_eq_true (by omega), Bool.not_true, cond_false]
  by_cases h0 : m = 0
  · subst h0
    exact ⟨v, rfl, h.mono (by omega), rfl, rfl⟩
  rw [decide_eq_false (show ¬ ((m : Int) = 0) by omega), cond_false, if_neg h0]
  have e1 : IntKind.wrap .i64 (Int.tdiv (off : Int) 32) = ((off / 32 : Nat) : Int) := by
    have : Int.tdiv (off : Int) 32 = ((off / 32 : Nat) : Int) := rfl
    rw [this, wrap_i64 (by omega)]
  have e2 : IntKind.wrap .i64 (Int.tdiv (IntKind.wrap .i64 ((IntKind.wrap .i64 ((IntKind.wrap .i64 ((off : Int) + (m : Int))) + 32)) - 1)) 32) = (((off + m + 31) / 32 : Nat) : Int) := by
    rw [wrap_i64 (n := (off : Int) + (m : Int)) (by omega), wrap_i64 (n := (off : Int) + (m : Int) + 32) (by omega), wrap_i64 (n := (off : Int) + (m : Int) + 32 - 1) (by omega)]
    have : Int.tdiv ((off : Int) + (m : Int) + 32 - 1) 32 = (((off + m + 31) / 32 : Nat) : Int) := by
      have e : (off : Int) + (m : Int) + 32 - 1 = ((off + m + 31 : Nat) : Int) := by omega
      rw [e]; rfl
    rw [this, wrap_i64 (by omega)]
  generalize ha : off / 32 = a at e1
  generalize hb : (off + m + 31) / 32 = b at e2
  have hpa : okP i a := ⟨hi, by omega⟩
  have hpb : okP i b := ⟨hi, by omega⟩
  simp only [e1, e2]
  rw [bind_of (chunk_eq hpa), bind_of (chunk_eq hpb)]
  simp only
  have hS : readS i off m = (ckey i a, ckey i b, false) := by unfold readS; rw [ha, hb]
  have hown : (rdV v (ckey i a, ckey i b, false)).2.1 = v.2.1 := rfl
  rw [hS, bind_of (scan_eq h.ok hn _)]
  have h00 : decide ((0 : Int) ≠ 0) = false := by decide
  simp only [h00, cond_false]
  have e3 : IntKind.wrap .i64 (32 * IntKind.wrap .i64 ((b : Int) - (a : Int))) = ((32 * (b - a) : Nat) : Int) := by
    rw [wrap_i64 (n := (b : Int) - (a : Int)) (by omega), wrap_i64 (by omega)]; omega
  rw [e3, bind_of (ck_of (by omega))]
  have hcv := h.rd (s := (ckey i a, ckey i b, false)) ⟨rfl, rfl⟩
  generalize hxs : scanP v (ckey i a, ckey i b, false) = xs
  generalize rdV v (ckey i a, ckey i b, false) = vr at hcv hown ⊢
  rw [Int.toNat_natCast]
  have hloop := whileO_inv (body := fun (v211 : Int × By) =>
            cond (decide (v211.1 < (xs.length : Int))) (
              (gx xs v211.1).bind fun x218 =>
              (key_Of x218.1).bind fun x221 =>
              (((
                cond (!x221.2) (
                  some true
                ) (
                  cond (decide (x221.1.2.2.2 < (a : Int))) (
                    some true
                  ) (
                    some (decide (x221.1.2.2.2 ≥ (b : Int)))
                  )
                )
              ) : Option Bool)).bind fun o230 =>
              cond o230 (
                some (Sum.inr (Sum.inr ((ByteArray.mk #[], (12 : Int), vr)) : By ⊕ (ByteArray × Int × VT)))
              ) (
                (ck (decide (0 ≤ (IntKind.wrap .i64 (32 * (IntKind.wrap .i64 (x221.1.2.2.2 - (a : Int))))) ∧ (IntKind.wrap .i64 (32 * (IntKind.wrap .i64 (x221.1.2.2.2 - (a : Int))))).toNat ≤ v211.2.length))).bind fun _ =>
                (inode_Full x218.2).bind fun x246 =>
                some (Sum.inl ((IntKind.wrap .i64 (v211.1 + 1)), (List.take (IntKind.wrap .i64 (32 * (IntKind.wrap .i64 (x221.1.2.2.2 - (a : Int))))).toNat v211.2 ++ cpB (List.drop (IntKind.wrap .i64 (32 * (IntKind.wrap .i64 (x221.1.2.2.2 - (a : Int))))).toNat v211.2) x246.data.toList)))
              )
            ) (
              some (Sum.inr (Sum.inl v211.2))
            )) xs.length (fun j (B : By) => ((j : Int), B)) (fun j B => B.length = 32 * (b - a) ∧ ∀ y, y < 32 * (b - a) → (B[y]?).getD 0 = if ckey i (a + y / 32) ∈ (xs.take j).map (·.1) then byt G i (32 * a + y) else 0) (fun B => Sum.inl B) (List.replicate (32 * (b - a)) (0 : UInt8)) ⟨List.length_replicate, fun y hy => by
      rw [List.take_zero]
      exact zs_get (32 * (b - a)) y⟩ (fun j hj B hJ => ?_) (fun B hJ => by
      simp only [lt_nat, decide_eq_false (Nat.lt_irrefl _), cond_false])
  · obtain ⟨B, ⟨hB, hall⟩, hw⟩ := hloop
    simp only [Int.natCast_zero] at hw
    rw [bind_of hw]
    simp only [Sum.elim_inl]
    have e4 : IntKind.wrap .i64 ((off : Int) - IntKind.wrap .i64 (32 * (a : Int))) = ((off % 32 : Nat) : Int) := by
      rw [wrap_i64 (n := 32 * (a : Int)) (by omega), wrap_i64 (by omega)]; omega
    rw [e4, wrap_i64 (n := ((off % 32 : Nat) : Int) + (m : Int)) (by omega), bind_of (cutB_of (by omega))]
    refine ⟨vr, ?_, hcv, hown, rfl⟩
    · congr 2
      unfold bytesS bm
      congr 2
      have hpl : (piece B ((off % 32 : Nat) : Int) (((off % 32 : Nat) : Int) + (m : Int))).length = m := by
        unfold piece
        rw [List.length_drop, List.length_take]; omega
      refine rng_of hpl fun x hx => ?_
      unfold piece
      have ee : (((off % 32 : Nat) : Int) + (m : Int)).toNat = off % 32 + m := by omega
      rw [ee, Int.toNat_natCast, List.getElem?_drop, List.getElem?_take, if_pos (by omega), hall _ (by omega)]
      have ex : 32 * a + (off % 32 + x) = off + x := by omega
      rw [ex]
      split
      · rfl
      · rename_i hk
        rw [List.take_length, ← hxs] at hk
        have hq : okP i (a + (off % 32 + x) / 32) := ⟨hi, by omega⟩
        have := h.sees hq (by rw [inS_chunks hpa hpb hq]; exact decide_eq_true (by omega)) hk
        have eq : a + (off % 32 + x) / 32 = (off + x) / 32 := by omega
        rw [eq] at this
        exact (byt_zs this).symm
  · obtain ⟨hB, hall⟩ := hJ
    have hmem : xs[j] ∈ scanP v (ckey i a, ckey i b, false) := by rw [hxs]; exact List.getElem_mem hj
    obtain ⟨i', q, hq, ep, hne, hs⟩ := h.pair hmem
    rw [inS_chunks hpa hpb hq, decide_eq_true_eq] at hs
    obtain ⟨e, h1, h2⟩ := hs
    rw [e] at hq ep hne
    have hlen : (G i q).length = 32 := h.len i q
    have hof : key_Of xs[j].1 = some (((i : Int), 3, mt, (q : Int)), true) := by rw [ep]; exact Of_eq hq
    have hfull : inode_Full xs[j].2 = some (bm (G i q)) := by
      rw [ep, full_eq, bl_bm, List.take_of_length_le (by have := tr_le (G i q); omega), pad_tr hlen]
    have w1 : IntKind.wrap .i64 (32 * IntKind.wrap .i64 ((q : Int) - (a : Int))) = ((32 * (q - a) : Nat) : Int) := by
      rw [wrap_i64 (n := (q : Int) - (a : Int)) (by omega), wrap_i64 (by omega)]; omega
    have d1 : decide ((q : Int) < (a : Int)) = false := decide_eq_false (by omega)
    have d2 : decide ((q : Int) ≥ (b : Int)) = false := decide_eq_false (by omega)
    have c1 : ck (decide (0 ≤ ((32 * (q - a) : Nat) : Int) ∧ 32 * (q - a) ≤ B.length)) = some () := ck_of (by omega)
    have hjl : xs.length ≤ 400000 := by
      rw [← hxs]
      have := scan_len h.ok h.base (ckey i a, ckey i b, false)
      omega
    simp only [ilt hj, cond_true, gx_nat hj, Option.bind_some, hof, Bool.not_true, cond_false, d1, d2, w1, Int.toNat_natCast, c1, hfull, wrap_succ (show j < 9223372036854775807 by omega)]
    have hbl : (bm (G i q)).data.toList = G i q := rfl
    refine ⟨_, rfl, ?_, fun y hy => ?_⟩
    · rw [hbl, into_len _ _ _ (by omega)]; exact hB
    · rw [hbl, into_get _ _ _ _ (by omega), hlen]
      have htk : xs.take (j + 1) = xs.take j ++ [xs[j]] := by rw [List.take_add_one, List.getElem?_eq_getElem hj]; rfl
      have hk1 : xs[j].1 = ckey i q := by rw [ep]
      have hoy : okP i (a + y / 32) := ⟨hi, by omega⟩
      have hin : ckey i (a + y / 32) ∈ (xs.take (j + 1)).map (·.1) ↔ ckey i (a + y / 32) ∈ (xs.take j).map (·.1) ∨ a + y / 32 = q := by
        rw [htk, List.map_append, List.mem_append]
        simp only [List.map_cons, List.map_nil, List.mem_singleton, hk1]
        constructor
        · rintro (a | a)
          · exact .inl a
          · exact .inr (ckey_inj hoy hq a).2
        · rintro (a | a)
          · exact .inl a
          · exact .inr (by rw [a])
      by_cases hc : 32 * (q - a) ≤ y ∧ y < 32 * (q - a) + 32
      · rw [if_pos hc, if_pos (hin.2 (.inr (by omega)))]
        unfold byt
        have e1 : (32 * a + y) / 32 = q := by omega
        have e2 : (32 * a + y) % 32 = y - 32 * (q - a) := by omega
        rw [e1, e2]
      · rw [if_neg hc, hall y hy]
        by_cases hm : ckey i (a + y / 32) ∈ (xs.take j).map (·.1)
        · rw [if_pos hm, if_pos (hin.2 (.inl hm))]
        · rw [if_neg hm, if_neg (fun h => (hin.1 h).elim hm fun h => absurd h (by omega))]
end Go.Val

