/- What the twins are: keys of chunks, their order, their spans. -/
import Derived.Test.YthipaajmgfnagaaGreatDoorUa
set_option linter.unusedSectionVars false
set_option linter.unusedVariables false
set_option linter.unusedSimpArgs false
namespace Go.Val
open Go.Lib

theorem or_byte {m x : Nat} (hm : m < 4294967296) (hx : x < 256) : bitsOr .i64 (IntKind.wrap .i64 ((m : Int) * 2 ^ 8)) (IntKind.wrap .i64 (x : Int)) = ((m * 256 + x : Nat) : Int) := by
  have e1 : IntKind.wrap .i64 ((m : Int) * 2 ^ 8) = ((m * 256 : Nat) : Int) := by rw [wrap_i64 (by omega)]; omega
  rw [e1, wrap_i64 (n := (x : Int)) (by omega)]
  unfold bitsOr
  rw [BitVec.toNat_or, BitVec.toNat_ofInt, BitVec.toNat_ofInt]
  have h64 : (2 : Nat) ^ IntKind.bits .i64 = 18446744073709551616 := by decide
  have e2 : (((m * 256 : Nat) : Int) % ((2 ^ IntKind.bits .i64 : Nat) : Int)).toNat = 2 ^ 8 * m := by rw [h64]; omega
  have e3 : ((x : Int) % ((2 ^ IntKind.bits .i64 : Nat) : Int)).toNat = x := by rw [h64]; omega
  rw [e2, e3, ← Nat.two_pow_add_eq_or_of_lt (i := 8) hx m, wrap_i64 (by omega)]
  omega

theorem of_eq {a b c d : UInt8} : key_of [a, b, c, d] = some ((valK [a, b, c, d] : Nat) : Int) := by
  have ha := a.toNat_lt
  have hb := b.toNat_lt
  have hc := c.toNat_lt
  have hd := d.toNat_lt
  have ev : valK [a, b, c, d] = ((a.toNat * 256 + b.toNat) * 256 + c.toNat) * 256 + d.toNat := by
    simp only [valK, List.length_cons, List.length_nil, Nat.reduceAdd, Nat.reducePow, Nat.mul_one, Nat.add_zero]
    omega
  rw [ev]
  unfold key_of
  refine bind_id ?_
  refine whileO_run (fun i => match i with | 0 => ((0 : Int), (0 : Int)) | 1 => ((a.toNat : Int), 1) | 2 => (((a.toNat * 256 + b.toNat : Nat) : Int), 2) | 3 => ((((a.toNat * 256 + b.toNat) * 256 + c.toNat : Nat) : Int), 3) | _ => (((((a.toNat * 256 + b.toNat) * 256 + c.toNat) * 256 + d.toNat : Nat) : Int), 4)) 4 (fun i hi => ?_) ?_
  · match i, hi with
    | 0, _ =>
      have h1 := or_byte (m := 0) (x := a.toNat) (by omega) (by omega)
      rw [Nat.zero_mul, Nat.zero_add] at h1
      have e : gx [a, b, c, d] 0 = some a := rfl
      have w : IntKind.wrap .i64 ((0 : Int) + 1) = 1 := by decide
      have hdec : decide ((0 : Int) < (([a, b, c, d] : List UInt8).length : Int)) = true := rfl
      simp only [hdec, cond_true, e, Option.bind_some, w]
      exact congrArg (fun z => some (Sum.inl (z, (1 : Int)))) h1
    | 1, _ =>
      have h1 := or_byte (m := a.toNat) (x := b.toNat) (by omega) (by omega)
      have e : gx [a, b, c, d] 1 = some b := rfl
      have w : IntKind.wrap .i64 ((1 : Int) + 1) = 2 := by decide
      have hdec : decide ((1 : Int) < (([a, b, c, d] : List UInt8).length : Int)) = true := rfl
      simp only [hdec, cond_true, e, Option.bind_some, w, h1]
    | 2, _ =>
      have h1 := or_byte (m := a.toNat * 256 + b.toNat) (x := c.toNat) (by omega) (by omega)
      have e : gx [a, b, c, d] 2 = some c := rfl
      have w : IntKind.wrap .i64 ((2 : Int) + 1) = 3 := by decide
      have hdec : decide ((2 : Int) < (([a, b, c, d] : List UInt8).length : Int)) = true := rfl
      simp only [hdec, cond_true, e, Option.bind_some, w, h1]
    | 3, _ =>
      have h1 := or_byte (m := (a.toNat * 256 + b.toNat) * 256 + c.toNat) (x := d.toNat) (by omega) (by omega)
      have e : gx [a, b, c, d] 3 = some d := rfl
      have w : IntKind.wrap .i64 ((3 : Int) + 1) = 4 := by decide
      have hdec : decide ((3 : Int) < (([a, b, c, d] : List UInt8).length : Int)) = true := rfl
      simp only [hdec, cond_true, e, Option.bind_some, w, h1]
  · rfl
theorem of_be4 {n : Nat} (h : n < 4294967296) : key_of (be4 n) = some (n : Int) := by
  have := @of_eq (UInt8.ofNat (n / 16777216)) (UInt8.ofNat (n / 65536)) (UInt8.ofNat (n / 256)) (UInt8.ofNat n)
  rw [show [UInt8.ofNat (n / 16777216), UInt8.ofNat (n / 65536), UInt8.ofNat (n / 256), UInt8.ofNat n] = be4 n from rfl, valK_be4 h] at this
  exact this

theorem number_eq (a : Int) : key_number a = some (decide (1 ≤ a ∧ a < 1073741824)) := by
  unfold key_number
  refine bind_id ?_
  by_cases h : a ≥ 1
  · simp only [decide_eq_true h, cond_true, Option.some.injEq]
    have : 1 ≤ a := h
    simp [this]
  · simp only [decide_eq_false h, cond_false, Option.some.injEq]
    have : ¬ 1 ≤ a := h
    simp [this]
theorem begins_eq (i kd : Nat) (hk : kd < 256) : key_begins (i : Int) (kd : Int) = some (be4 i ++ UInt8.ofNat kd :: List.replicate 19 0) := by
  unfold key_begins
  have h1 := word_p_eq 0 0 0 0 (List.replicate 20 0) rfl i
  have e1 : (0 : UInt8) :: 0 :: 0 :: 0 :: List.replicate 20 0 = List.replicate 24 0 := rfl
  rw [e1] at h1
  rw [bind_of h1]
  have hw : IntKind.wrap .u8 (kd : Int) = (kd : Int) := by rw [w8]; omega
  rw [hw, bind_of (show ck (decide ((0 : Int) ≤ 4 ∧ (4 : Int) < 24)) = some () from rfl), bind_of (show ck (decide (4 < (UInt8.ofNat (i / 16777216) :: UInt8.ofNat (i / 65536) :: UInt8.ofNat (i / 256) :: UInt8.ofNat i :: List.replicate 20 0).length)) = some () from rfl), bind_of (ck_of (show 0 ≤ (kd : Int) ∧ (kd : Int) < 256 by omega))]
  rfl
theorem inode_eq (a : Int) : ∃ k, key_Inode a = some (k, decide (1 ≤ a ∧ a < 1073741824)) := by
  unfold key_Inode
  rw [bind_of (number_eq a)]
  by_cases h : 1 ≤ a ∧ a < 1073741824
  · rw [decide_eq_true h]
    obtain ⟨n, rfl⟩ := Int.eq_ofNat_of_zero_le (show 0 ≤ a by omega)
    refine ⟨be4 n ++ UInt8.ofNat 1 :: List.replicate 19 0, ?_⟩
    have hb := begins_eq n 1 (by omega)
    rw [show ((1 : Nat) : Int) = 1 from rfl] at hb
    simp only [Bool.not_true, cond_false]
    rw [bind_of hb]
  · rw [decide_eq_false h]
    exact ⟨_, rfl⟩

/-- A number and a place that may be. -/
def okP (i p : Nat) : Prop := (1 ≤ i ∧ i < 1073741824) ∧ p < 4294967296
theorem chunk_eq {i p : Nat} (h : okP i p) : key_Chunk (i : Int) (p : Int) = some (ckey i p, true) := by
  obtain ⟨hi, hp⟩ := h
  unfold key_Chunk
  have hn : (1 : Int) ≤ (i : Int) ∧ (i : Int) < 1073741824 := by omega
  rw [bind_of (number_eq (i : Int)), decide_eq_true hn]
  have h1 : decide ((p : Int) < 0) = false := decide_eq_false (by omega)
  have h2 : decide ((p : Int) > 4294967295) = false := decide_eq_false (by omega)
  simp only [Bool.not_true, cond_false, h1, h2, Option.bind_some]
  have hb := begins_eq i 3 (by omega)
  rw [show ((3 : Nat) : Int) = 3 from rfl] at hb
  rw [bind_of hb]
  have hw := word_q_eq 0 0 0 0 (be4 i ++ 3 :: List.replicate 15 0) rfl p
  have e1 : (be4 i ++ 3 :: List.replicate 15 0) ++ [0, 0, 0, 0] = be4 i ++ UInt8.ofNat 3 :: List.replicate 19 0 := rfl
  rw [e1] at hw
  rw [bind_of hw]
  rfl
theorem chunks_eq {i p : Nat} (h : okP i p) : key_Chunks (i : Int) (p : Int) = some (ckey i p, ckEnd i, false) := by
  unfold key_Chunks
  rw [bind_of (chunk_eq h)]
  have hb := begins_eq i 4 (by omega)
  rw [show ((4 : Nat) : Int) = 4 from rfl] at hb
  simp only [Bool.not_true, cond_false]
  rw [bind_of hb]
  rfl
theorem Of_eq {i p : Nat} (h : okP i p) : key_Of (ckey i p) = some (((i : Int), 3, mt, (p : Int)), true) := by
  unfold key_Of
  have e1 : List.take 4 (List.drop 0 (ckey i p)) = be4 i := rfl
  have e2 : List.take 4 (List.drop 20 (ckey i p)) = be4 p := rfl
  have h1 := h.1
  rw [e1, e2, bind_of (of_be4 (by omega)), bind_of (show ck (decide ((0 : Int) ≤ 4 ∧ (4 : Int) < 24)) = some () from rfl)]
  have e3 : gx (ckey i p) 4 = some 3 := rfl
  rw [bind_of e3]
  have w3 : IntKind.wrap .i64 ((3 : UInt8).toNat : Int) = 3 := by decide
  rw [w3]
  have d1 : decide ((3 : Int) = 1) = false := rfl
  have d2 : decide ((3 : Int) = 2) = false := rfl
  have d3 : decide ((3 : Int) = 3) = true := rfl
  rw [d1, d2, d3, cond_false, cond_false, cond_true, bind_of (of_be4 h.2), bind_of (chunk_eq h)]
  simp [mt]

theorem ckey_inj {i p j q : Nat} (h : okP i p) (k : okP j q) (e : ckey i p = ckey j q) : i = j ∧ p = q := by
  have h1 := Of_eq h
  rw [e, Of_eq k] at h1
  simp only [Option.some.injEq, Prod.mk.injEq, Int.natCast_inj] at h1
  exact ⟨h1.1.1.symm, h1.1.2.2.2.symm⟩

theorem lex_lt {a b p q : Nat} (hp : p < KM) (hq : q < KM) : a * KM + p < b * KM + q ↔ a < b ∨ (a = b ∧ p < q) := by
  constructor
  · intro h
    rcases Nat.lt_trichotomy a b with h1 | h1 | h1
    · exact .inl h1
    · subst h1; exact .inr ⟨rfl, by omega⟩
    · have := Nat.mul_le_mul_right KM h1
      rw [Nat.succ_mul] at this
      omega
  · rintro (h | ⟨rfl, h⟩)
    · have := Nat.mul_le_mul_right KM h
      rw [Nat.succ_mul] at this
      omega
    · omega
theorem ckey_lt {i p j q : Nat} (h : okP i p) (k : okP j q) : Lt (ckey i p) (ckey j q) ↔ i < j ∨ (i = j ∧ p < q) := by
  have hk := KM_big
  obtain ⟨h1, h2⟩ := h
  obtain ⟨k1, k2⟩ := k
  rw [lt_val (a := ckey i p) (b := ckey j q) rfl, valK_ckey (by omega) h2, valK_ckey (by omega) k2, lex_lt (by omega) (by omega)]
  omega
theorem ckey_ltEnd {i p j : Nat} (h : okP i p) (hj : j < 4294967296) : Lt (ckey i p) (ckEnd j) ↔ i ≤ j := by
  have hk := KM_big
  obtain ⟨h1, h2⟩ := h
  have := lex_lt (a := i * 256 + 3) (b := j * 256 + 4) (p := p) (q := 0) (by omega) (by omega)
  rw [lt_val (a := ckey i p) (b := ckEnd j) rfl, valK_ckey (by omega) h2, valK_ckEnd hj, ← Nat.add_zero ((j * 256 + 4) * KM), this]
  omega
/-- The span of some chunks of a file. -/
theorem inS_chunks {i a b j p : Nat} (ha : okP i a) (hb : okP i b) (h : okP j p) : inS (ckey i a, ckey i b, false) (ckey j p) = decide (j = i ∧ a ≤ p ∧ p < b) := by
  rw [Bool.eq_iff_iff, inS_iff, decide_eq_true_eq]
  unfold toB
  simp only [Bool.false_eq_true, if_false, Under]
  rw [ckey_lt h ha, ckey_lt h hb]
  omega
theorem inS_from {i a j p : Nat} (ha : okP i a) (h : okP j p) : inS (ckey i a, ckEnd i, false) (ckey j p) = decide (j = i ∧ a ≤ p) := by
  have h1 := ha.1
  rw [Bool.eq_iff_iff, inS_iff, decide_eq_true_eq]
  unfold toB
  simp only [Bool.false_eq_true, if_false, Under]
  rw [ckey_lt h ha, ckey_ltEnd h (by omega)]
  omega

theorem may_eq (a0 a1 a2 : Int) : chunk_may a0 a1 a2 = some (decide ((1 ≤ a0 ∧ a0 < 1073741824) ∧ 0 ≤ a1 ∧ 0 ≤ a2 ∧ a1 ≤ 1048576 ∧ a2 ≤ 1048576 - a1)) := by
  unfold chunk_may
  obtain ⟨k, hk⟩ := inode_eq a0
  rw [bind_of hk]
  refine bind_id ?_
  by_cases h0 : 1 ≤ a0 ∧ a0 < 1073741824
  · rw [decide_eq_true h0, cond_true]
    by_cases h1 : min a1 a2 ≥ 0
    · rw [decide_eq_true h1, cond_true]
      by_cases h2 : a1 ≤ 1048576
      · rw [decide_eq_true h2, cond_true, wrap_i64 (by omega)]
        congr 1
        rw [decide_eq_decide]
        omega
      · rw [decide_eq_false h2, cond_false]
        congr 1
        symm
        rw [decide_eq_false_iff_not]
        omega
    · rw [decide_eq_false h1, cond_false]
      congr 1
      symm
      rw [decide_eq_false_iff_not]
      omega
  · rw [decide_eq_false h0, cond_false]
    congr 1
    symm
    rw [decide_eq_false_iff_not]
    omega
end Go.Val

