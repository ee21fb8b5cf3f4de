/- chunk.Write over a view of chunks. -/
import Derived.Test.YthipaajmgfnagaaGreatDoorUd
import Derived.Test.YthipaajmgfnagaaGreatDoorHw
set_option linter.unusedSectionVars false
set_option linter.unusedVariables false
set_option linter.unusedSimpArgs false
namespace Go.Val
open Go.Lib

def ov (b : By) (o : Nat) (d : By) : By := b.take o ++ (d ++ b.drop (o + d.length))
theorem ov_len {b d : By} {o : Nat} (hb : b.length = 32) (h : o + d.length ≤ 32) : (ov b o d).length = 32 := by
  unfold ov; simp only [List.length_append, List.length_take, List.length_drop]; omega
theorem ov_get {b d : By} {o : Nat} (hb : b.length = 32) (h : o + d.length ≤ 32) (x : Nat) : ((ov b o d)[x]?).getD 0 = if o ≤ x ∧ x < o + d.length then (d[x - o]?).getD 0 else (b[x]?).getD 0 := by
  unfold ov
  rw [List.getElem?_append, List.length_take]
  by_cases h1 : x < o
  · rw [if_pos (by omega), if_neg (by omega), List.getElem?_take, if_pos h1]
  · rw [if_neg (by omega), List.getElem?_append]
    have e : x - min o b.length = x - o := by omega
    rw [e]
    by_cases h2 : x < o + d.length
    · rw [if_pos (by omega), if_pos (by omega)]
    · rw [if_neg (by omega), if_neg (by omega), List.getElem?_drop]
      have e2 : o + d.length + (x - o - d.length) = x := by omega
      rw [e2]
theorem pad_id {b : By} (h : b.length = 32) : pad b = b := by
  unfold pad zs; rw [h, Nat.sub_self]; exact List.append_nil b

def addK (l : List Ky) (k : Ky) : List Ky := if k ∈ l then l else l ++ [k]
theorem mem_addK {l : List Ky} {k j : Ky} : j ∈ addK l k ↔ j ∈ l ∨ j = k := by
  unfold addK; split
  · constructor
    · exact Or.inl
    · rintro (h | rfl) <;> assumption
  · simp
theorem set_keys (v : VT) (k : Ky) (c : Cg) : (setV v k c).2.1.map (·.1) = addK (v.2.1.map (·.1)) k := by
  have h := keys_mset v.2.1 k c
  unfold addK
  by_cases e : k ∈ v.2.1.map (·.1)
  · rw [if_pos e]; rw [if_pos e] at h; exact h
  · rw [if_neg e]; rw [if_neg e] at h; exact h

theorem body_ok {n : Nat} {v : VT} {G : Nat → Nat → By} {i p o c : Nat} {x : ByteArray} (h : CV n v G) (hn : n ≤ 900000) (hp : okP i p) (hc : 0 < c) (ho : o + c ≤ 32) (hx : c ≤ x.size) : ∃ v', chunk_Write_body (i : Int) v x ((p : Int), (o : Int), (c : Int)) = some (v', x.extract c x.size) ∧ CV (n + 2) v' (setG G i p (ov (G i p) o ((bl x).take c))) ∧ v'.2.1.map (·.1) = addK (v.2.1.map (·.1)) (ckey i p) ∧ (c = 32 → v'.2.2.1 = v.2.2.1) := by
  have hxl : (bl x).length = x.size := rfl
  have htk : ((bl x).take c).length = c := by rw [List.length_take]; omega
  have hg := h.len i p
  have hol := ov_len (o := o) (d := (bl x).take c) hg (by omega)
  have e0 : bl (x.extract 0 c) = (bl x).take c := by rw [bl_extract, List.drop_zero]
  unfold chunk_Write_body
  simp only [Int.toNat_natCast]
  rw [bind_of (cutB_of (by omega)), bind_of (cutB_of (by omega))]
  by_cases h32 : c < 32
  · obtain ⟨is, v1, e1, h1, k1⟩ := h.get hn (ckey_len i p)
    have hlt : decide ((c : Int) < 32) = true := decide_eq_true (by omega)
    rw [hlt, cond_true, bind_of (chunk_eq hp), bind_of e1]
    have h00 : decide ((0 : Int) ≠ 0) = false := by decide
    simp only [h00, cond_false]
    rw [h.at_ i p hp, bind_of (full_eq _), enc_full hg]
    have hs : (bm (G i p)).size = 32 := by rw [bm_size, hg]
    have hw : IntKind.wrap .i64 ((o : Int) + (c : Int)) = ((o + c : Nat) : Int) := by rw [wrap_i64 (by omega)]; omega
    have s1 : bl ((bm (G i p)).extract 0 o) = (G i p).take o := by rw [bl_extract, bl_bm, List.drop_zero]
    have s2 : bl ((bm (G i p)).extract (o + c) 32) = (G i p).drop (o + c) := by rw [bl_extract, bl_bm, List.take_of_length_le (by omega)]
    have z1 : ((bm (G i p)).extract 0 o).size = o := by rw [← bl_len, s1, List.length_take]; omega
    have z2 : (x.extract 0 c).size = c := by rw [← bl_len, e0, htk]
    have z3 : ((bm (G i p)).extract (o + c) 32).size = 32 - (o + c) := by rw [← bl_len, s2, List.length_drop]; omega
    have z4 : ((bm (G i p)).extract 0 o ++ x.extract 0 c).size = o + c := by rw [← bl_len, bl_append, s1, e0, List.length_append, htk, List.length_take]; omega
    have z5 : (((bm (G i p)).size : Nat) : Int).toNat = 32 := by rw [hs]; rfl
    rw [hw, bind_of (cutB_of (by rw [hs]; omega)), bind_of (ck_of (by rw [z1, z2]; omega)), bind_of (cutB_of (by rw [hs]; omega))]
    simp only [Int.toNat_natCast, hs]
    rw [bind_of (ck_of (by rw [z4, z3]; omega))]
    have hb : bl (((bm (G i p)).extract 0 o ++ x.extract 0 c) ++ (bm (G i p)).extract (o + c) 32) = ov (G i p) o ((bl x).take c) := by
      rw [bl_append, bl_append, s1, s2, e0]
      unfold ov
      rw [htk, List.append_assoc]
    simp only [Option.bind_some]
    rw [bind_of (lay_eq v1 hp _), hb, List.take_of_length_le (by omega)]
    simp only [h00, cond_false]
    refine ⟨_, rfl, ?_, ?_, fun e => by omega⟩
    · have := h1.lay hp (b := ov (G i p) o ((bl x).take c)) (by omega)
      rw [pad_id hol] at this
      exact this
    · rw [set_keys, k1]
  · have hlt : decide ((c : Int) < 32) = false := decide_eq_false (by omega)
    have h00 : decide ((0 : Int) ≠ 0) = false := by decide
    have ec : c = 32 := by omega
    have eo : o = 0 := by omega
    subst ec; subst eo
    rw [hlt, cond_false]
    simp only [Option.bind_some]
    rw [bind_of (lay_eq v hp _), e0, List.take_of_length_le (by omega)]
    simp only [h00, cond_false]
    refine ⟨_, rfl, ?_, ?_, fun _ => rfl⟩
    · have := (h.lay hp (b := (bl x).take 32) (by omega)).mono (m := n + 2) (by omega)
      rw [pad_id htk] at this
      have eo : ov (G i p) 0 ((bl x).take 32) = (bl x).take 32 := by
        unfold ov
        rw [htk, List.take_zero, List.nil_append, List.drop_of_length_le (by omega), List.append_nil]
      rw [eo]
      exact this
    · rw [set_keys]

def byt (G : Nat → Nat → By) (i x : Nat) : UInt8 := ((G i (x / 32))[x % 32]?).getD 0
theorem byt_ext {G H : Nat → Nat → By} (hG : ∀ i p, (G i p).length = 32) (hH : ∀ i p, (H i p).length = 32) {i : Nat} (h : ∀ x, byt G i x = byt H i x) (p : Nat) : G i p = H i p := by
  refine List.ext_getElem (by rw [hG, hH]) fun k h1 h2 => ?_
  have hk : k < 32 := by rw [hG] at h1; exact h1
  have := h (32 * p + k)
  unfold byt at this
  have e1 : (32 * p + k) / 32 = p := by omega
  have e2 : (32 * p + k) % 32 = k := by omega
  rw [e1, e2, List.getElem?_eq_getElem h1, List.getElem?_eq_getElem h2] at this
  exact this
theorem byt_set {G : Nat → Nat → By} (hG : ∀ i p, (G i p).length = 32) {i p o : Nat} {d : By} (h : o + d.length ≤ 32) (x : Nat) : byt (setG G i p (ov (G i p) o d)) i x = if 32 * p + o ≤ x ∧ x < 32 * p + o + d.length then (d[x - (32 * p + o)]?).getD 0 else byt G i x := by
  unfold byt setG
  by_cases e : x / 32 = p
  · rw [if_pos ⟨rfl, e⟩, ov_get (hG i p) h]
    by_cases h1 : o ≤ x % 32 ∧ x % 32 < o + d.length
    · rw [if_pos h1, if_pos (by omega)]
      have : x % 32 - o = x - (32 * p + o) := by omega
      rw [this]
    · rw [if_neg h1, if_neg (by omega), e]
  · rw [if_neg (by omega), if_neg (by omega)]

/-- The pieces that m bytes from off on touch. -/
def pcs (off m : Nat) : Nat := if m = 0 then 0 else (off % 32 + m + 31) / 32
theorem piece_eq {off m : Nat} (h : off + m ≤ 1048576) : pieceOf (off : Int) (m : Int) = (((off / 32 : Nat) : Int), ((off % 32 : Nat) : Int), ((min m (32 - off % 32) : Nat) : Int)) := by
  have e1 : Int.tdiv (off : Int) 32 = ((off / 32 : Nat) : Int) := rfl
  have e2 : Int.tmod (off : Int) 32 = ((off % 32 : Nat) : Int) := rfl
  unfold pieceOf
  rw [e1, e2, wrap_i64 (by omega), wrap_i64 (by omega)]
  refine congrArg (Prod.mk _) (congrArg (Prod.mk _) ?_)
  omega
theorem step_of {i off m : Nat} (hm : 0 < m) (h : off + m ≤ 1048576) {x : ByteArray} {v v' : VT} (hb : chunk_Write_body (i : Int) v x (((off / 32 : Nat) : Int), ((off % 32 : Nat) : Int), ((min m (32 - off % 32) : Nat) : Int)) = some (v', x.extract (min m (32 - off % 32)) x.size)) : chunk_Write_loop (i : Int) ((v, x), (off : Int), (m : Int)) = some (.inl ((v', x.extract (min m (32 - off % 32)) x.size), ((off + min m (32 - off % 32) : Nat) : Int), ((m - min m (32 - off % 32) : Nat) : Int))) := by
  unfold chunk_Write_loop
  simp only
  rw [piece_eq h, decide_eq_true (show (m : Int) > 0 by omega), cond_true, bind_of hb]
  simp only
  rw [wrap_i64 (by omega), wrap_i64 (by omega)]
  congr 3
  refine congr (congrArg Prod.mk ?_) ?_ <;> omega
theorem stop_of {i off : Nat} {x : ByteArray} {v : VT} : chunk_Write_loop (i : Int) ((v, x), (off : Int), ((0 : Nat) : Int)) = some (.inr ((v, x), (off : Int), ((0 : Nat) : Int))) := rfl

structure Wrote (n : Nat) (v : VT) (G : Nat → Nat → By) (i off : Nat) (d : By) (v' : VT) (G' : Nat → Nat → By) : Prop where
  cv : CV (n + 2 * pcs off d.length) v' G'
  byt : ∀ x, byt G' i x = if off ≤ x ∧ x < off + d.length then (d[x - off]?).getD 0 else byt G i x
  oth : ∀ j, j ≠ i → G' j = G j
  keys : ∀ k, k ∈ v'.2.1.map (·.1) ↔ k ∈ v.2.1.map (·.1) ∨ ∃ p, k = ckey i p ∧ 0 < d.length ∧ 32 * p < off + d.length ∧ off < 32 * p + 32
  reads : off % 32 = 0 → d.length % 32 = 0 → v'.2.2.1 = v.2.2.1

theorem loop_ok {i : Nat} (hi : 1 ≤ i ∧ i < 1073741824) : ∀ (m : Nat) {n off : Nat} {v : VT} {G : Nat → Nat → By} {x : ByteArray}, CV n v G → n + 2 * pcs off m ≤ 900000 → x.size = m → off + m ≤ 1048576 → ∃ o G', whileO (V := (CVT × ByteArray) × Int × Int) (O := (CVT × ByteArray) × Int × Int) (chunk_Write_loop (i : Int)) ((v, x), (off : Int), (m : Int)) = some o ∧ Wrote n v G i off (bl x) o.1.1 G' := by
  intro m
  induction m using Nat.strongRecOn with
  | ind m ih =>
  intro n off v G x h hn hx hoff
  rw [whileO_eq]
  have hxl : (bl x).length = m := hx
  by_cases h0 : m = 0
  · subst h0
    rw [bind_of stop_of]
    refine ⟨_, G, rfl, h.mono (by omega), fun y => ?_, fun _ _ => rfl, fun k => ?_, fun _ _ => rfl⟩
    · rw [if_neg (by omega)]
    · rw [hxl]; simp
  · have hp : okP i (off / 32) := ⟨hi, by omega⟩
    have hpc : pcs off m = (off % 32 + m + 31) / 32 := if_neg h0
    have hcpos : 0 < min m (32 - off % 32) := by omega
    obtain ⟨v1, e1, h1, k1, r1⟩ := body_ok h (by omega) hp (o := off % 32) (c := min m (32 - off % 32)) (x := x) hcpos (by omega) (by omega)
    rw [bind_of (step_of (by omega) hoff e1)]
    simp only
    have hpc2 : pcs (off + min m (32 - off % 32)) (m - min m (32 - off % 32)) + 1 ≤ pcs off m := by
      rw [hpc]; unfold pcs
      split <;> omega
    have hb : bl (x.extract (min m (32 - off % 32)) x.size) = (bl x).drop (min m (32 - off % 32)) := by
      rw [bl_extract, List.take_of_length_le (by omega)]
    have hsz : (x.extract (min m (32 - off % 32)) x.size).size = m - min m (32 - off % 32) := by
      rw [← bl_len, hb, List.length_drop]; omega
    obtain ⟨o, G', e2, w⟩ := ih _ (by omega) (off := off + min m (32 - off % 32)) h1 (by omega) hsz (by omega)
    refine ⟨o, G', e2, ?_, fun y => ?_, fun j hj => ?_, fun k => ?_, fun a b => ?_⟩
    · have := w.cv
      rw [hb, List.length_drop, hxl] at this
      exact this.mono (by rw [hxl]; omega)
    · rw [w.byt, hb, List.length_drop, hxl, byt_set h.len (by rw [List.length_take]; omega), List.length_take, hxl]
      by_cases a1 : off + min m (32 - off % 32) ≤ y ∧ y < off + min m (32 - off % 32) + (m - min m (32 - off % 32))
      · rw [if_pos a1, if_pos (by omega), List.getElem?_drop]
        congr 2
        omega
      · rw [if_neg a1]
        by_cases a2 : off ≤ y ∧ y < off + m
        · rw [if_pos a2, if_pos (by omega), List.getElem?_take, if_pos (by omega)]
          congr 2
          omega
        · rw [if_neg a2, if_neg (by omega)]
    · rw [w.oth j hj]
      funext p
      exact if_neg (by omega)
    · rw [w.keys, k1, mem_addK, hb, List.length_drop, hxl]
      constructor
      · rintro ((a | a) | ⟨p, a1, a2, a3, a4⟩)
        · exact .inl a
        · exact .inr ⟨_, a, by omega, by omega, by omega⟩
        · exact .inr ⟨p, a1, by omega, by omega, by omega⟩
      · rintro (a | ⟨p, a1, a2, a3, a4⟩)
        · exact .inl (.inl a)
        · by_cases e : p = off / 32
          · subst e; exact .inl (.inr a1)
          · exact .inr ⟨p, a1, by omega, by omega, by omega⟩
    · have hd : (bl (x.extract (min m (32 - off % 32)) x.size)).length = m - min m (32 - off % 32) := hsz
      rw [hxl] at b
      rw [w.reads (by omega) (by rw [hd]; omega), r1 (by omega)]

theorem write_eq {i off n : Nat} {x : ByteArray} {v : VT} {G : Nat → Nat → By} (hi : 1 ≤ i ∧ i < 1073741824) (h : CV n v G) (hn : n + 2 * pcs off x.size ≤ 900000) (hoff : off + x.size ≤ 1048576) : ∃ v' G', chunk_Write v (i : Int) (off : Int) x = some (0, v') ∧ Wrote n v G i off (bl x) v' G' := by
  obtain ⟨o, G', e, w⟩ := loop_ok hi x.size h hn rfl hoff
  refine ⟨o.1.1, G', ?_, w⟩
  unfold chunk_Write
  rw [bind_of (may_eq _ _ _), decide_eq_true (by omega), Bool.not_true, cond_false, bind_of e]
theorem write_bad {i off : Int} {x : ByteArray} {v : VT} (h : ¬ ((1 ≤ i ∧ i < 1073741824) ∧ 0 ≤ off ∧ off ≤ 1048576 ∧ x.size ≤ 1048576 - off)) : chunk_Write v i off x = some (1, v) := by
  unfold chunk_Write
  rw [bind_of (may_eq _ _ _), decide_eq_false (by omega)]
  rfl
end Go.Val

