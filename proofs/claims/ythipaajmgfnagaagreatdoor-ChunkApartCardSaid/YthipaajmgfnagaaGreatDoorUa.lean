/- What the twins are: keys of chunks. -/
import Derived.Test.YthipaajmgfnagaaGreatDoorTf
import Derived.Test.YthipaajmgfnagaaGreatDoorLd
set_option linter.unusedSectionVars false
set_option linter.unusedVariables false
set_option linter.unusedSimpArgs false
namespace Go.Val
open Go.Lib

def be4 (n : Nat) : List UInt8 := [UInt8.ofNat (n / 16777216), UInt8.ofNat (n / 65536), UInt8.ofNat (n / 256), UInt8.ofNat n]
def ckey (i p : Nat) : Ky := be4 i ++ (3 :: List.replicate 15 0 ++ be4 p)
def ckEnd (i : Nat) : Ky := be4 i ++ 4 :: List.replicate 19 0
theorem be4_len (n : Nat) : (be4 n).length = 4 := rfl
theorem ckey_len (i p : Nat) : (ckey i p).length = 24 := rfl
theorem ckEnd_len (i : Nat) : (ckEnd i).length = 24 := rfl
theorem valK_be4 {n : Nat} (h : n < 4294967296) : valK (be4 n) = n := by
  have e : valK (be4 n) = (n / 16777216 % 256) * 16777216 + ((n / 65536 % 256) * 65536 + ((n / 256 % 256) * 256 + n % 256)) := by
    simp only [be4, valK, List.length_cons, List.length_nil, UInt8.toNat_ofNat', Nat.reduceAdd, Nat.reducePow, Nat.mul_one, Nat.add_zero]
  rw [e]
  omega
/-- What lies below an inode's number and its kind, as a number. -/
def KM : Nat := 256 ^ 19
theorem valK_tail (b : UInt8) (l : List UInt8) (hl : l.length = 19) (i : Nat) (hi : i < 4294967296) : valK (be4 i ++ b :: l) = (i * 256 + b.toNat) * KM + valK l := by
  have h20 : (256 : Nat) ^ 20 = 256 * KM := by unfold KM; rw [Nat.pow_succ, Nat.mul_comm]
  rw [valK_append, valK_be4 hi, List.length_cons, hl, valK, hl, h20, Nat.add_mul, Nat.mul_assoc]
  show _ + (b.toNat * KM + valK l) = _
  rw [Nat.add_assoc]
theorem valK_ckey {i p : Nat} (hi : i < 4294967296) (hp : p < 4294967296) : valK (ckey i p) = (i * 256 + 3) * KM + p := by
  have e : ckey i p = be4 i ++ 3 :: (List.replicate 15 0 ++ be4 p) := rfl
  rw [e, valK_tail _ _ rfl _ hi, valK_append, valK_zero, valK_be4 hp, Nat.zero_mul, Nat.zero_add]
  have e3 : (3 : UInt8).toNat = 3 := rfl
  rw [e3]
theorem valK_ckEnd {i : Nat} (hi : i < 4294967296) : valK (ckEnd i) = (i * 256 + 4) * KM := by
  unfold ckEnd
  have e4 : (4 : UInt8).toNat = 4 := rfl
  rw [valK_tail _ _ rfl _ hi, valK_zero, e4, Nat.add_zero]
theorem KM_big : 4294967296 ≤ KM := by unfold KM; exact Nat.pow_le_pow_right (n := 256) (by decide) (show 4 ≤ 19 by decide)

theorem w8 (n : Int) : IntKind.wrap .u8 n = n % 256 := by simp [IntKind.wrap, IntKind.bits, IntKind.signed]
theorem wbyte (n k m : Nat) (h : 2 ^ k = m) : (IntKind.wrap .u8 (Int.fdiv (n : Int) (2 ^ k))) = ((n / m % 256 : Nat) : Int) := by
  subst h
  have h2 : ((2 : Int) ^ k) = ((2 ^ k : Nat) : Int) := by simp
  rw [w8, h2, Int.fdiv_eq_ediv_of_nonneg _ (Int.natCast_nonneg _), ← Int.natCast_ediv]
  omega
theorem of_mod (m : Nat) : UInt8.ofNat (m % 256) = UInt8.ofNat m := by
  apply UInt8.toNat_inj.1
  rw [UInt8.toNat_ofNat', UInt8.toNat_ofNat']
  omega

theorem word_p_eq (a b c d : UInt8) (r : List UInt8) (hr : r.length = 20) (n : Nat) : key_word_p (a :: b :: c :: d :: r) n = some (UInt8.ofNat (n / 16777216) :: UInt8.ofNat (n / 65536) :: UInt8.ofNat (n / 256) :: UInt8.ofNat n :: r) := by
  unfold key_word_p
  refine bind_id ?_
  have w0 : IntKind.wrap .i64 (4 - 1) = 3 := by decide
  refine whileO_run (fun i => match i with | 0 => ((0 : Int), a :: b :: c :: d :: r) | 1 => (1, UInt8.ofNat (n / 16777216) :: b :: c :: d :: r) | 2 => (2, UInt8.ofNat (n / 16777216) :: UInt8.ofNat (n / 65536) :: c :: d :: r) | 3 => (3, UInt8.ofNat (n / 16777216) :: UInt8.ofNat (n / 65536) :: UInt8.ofNat (n / 256) :: d :: r) | _ => (4, UInt8.ofNat (n / 16777216) :: UInt8.ofNat (n / 65536) :: UInt8.ofNat (n / 256) :: UInt8.ofNat n :: r)) 4 (fun i hi => ?_) ?_
  · match i, hi with
    | 0, _ =>
      have hb := wbyte n 24 16777216 (by decide)
      have e1 : IntKind.wrap .i64 (8 * (IntKind.wrap .i64 (3 - 0))) = 24 := by decide
      have e2 : min ((24 : Int)).toNat (IntKind.bits .i64) = 24 := by decide
      have e3 : IntKind.wrap .i64 ((0 : Int) + 1) = 1 := by decide
      have c1 : ck (decide ((0 : Int) ≤ 0 ∧ (0 : Int) < 4)) = some () := rfl
      have c0 : ck (decide ((0 : Int) ≤ 24)) = some () := rfl
      have c2 : ck (decide (0 < (a :: b :: c :: d :: r).length)) = some () := ck_of (by simp [hr])
      have c3 : ck (decide (0 ≤ ((n / 16777216 % 256 : Nat) : Int) ∧ ((n / 16777216 % 256 : Nat) : Int) < 256)) = some () := ck_of (by omega)
      have hd : decide ((0 : Int) < 4) = true := rfl
      have tn : ((0 : Int)).toNat = 0 := rfl
      simp only [w0, e1, e2, e3, hb, hd, tn, cond_true, c0, c1, Nat.reduceAdd, c2, c3, Option.bind_some, Int.toNat_natCast, of_mod]
      simp [List.set]
    | 1, _ =>
      have hb := wbyte n 16 65536 (by decide)
      have e1 : IntKind.wrap .i64 (8 * (IntKind.wrap .i64 (3 - 1))) = 16 := by decide
      have e2 : min ((16 : Int)).toNat (IntKind.bits .i64) = 16 := by decide
      have e3 : IntKind.wrap .i64 ((1 : Int) + 1) = 2 := by decide
      have c1 : ck (decide ((0 : Int) ≤ 1 ∧ (1 : Int) < 4)) = some () := rfl
      have c0 : ck (decide ((0 : Int) ≤ 16)) = some () := rfl
      have c2 : ck (decide (1 < (UInt8.ofNat (n / 16777216) :: b :: c :: d :: r).length)) = some () := ck_of (by simp [hr])
      have c3 : ck (decide (0 ≤ ((n / 65536 % 256 : Nat) : Int) ∧ ((n / 65536 % 256 : Nat) : Int) < 256)) = some () := ck_of (by omega)
      have hd : decide ((1 : Int) < 4) = true := rfl
      have tn : ((1 : Int)).toNat = 1 := rfl
      simp only [w0, e1, e2, e3, hb, hd, tn, cond_true, c0, c1, Nat.reduceAdd, c2, c3, Option.bind_some, Int.toNat_natCast, of_mod]
      simp [List.set]
    | 2, _ =>
      have hb := wbyte n 8 256 (by decide)
      have e1 : IntKind.wrap .i64 (8 * (IntKind.wrap .i64 (3 - 2))) = 8 := by decide
      have e2 : min ((8 : Int)).toNat (IntKind.bits .i64) = 8 := by decide
      have e3 : IntKind.wrap .i64 ((2 : Int) + 1) = 3 := by decide
      have c1 : ck (decide ((0 : Int) ≤ 2 ∧ (2 : Int) < 4)) = some () := rfl
      have c0 : ck (decide ((0 : Int) ≤ 8)) = some () := rfl
      have c2 : ck (decide (2 < (UInt8.ofNat (n / 16777216) :: UInt8.ofNat (n / 65536) :: c :: d :: r).length)) = some () := ck_of (by simp [hr])
      have c3 : ck (decide (0 ≤ ((n / 256 % 256 : Nat) : Int) ∧ ((n / 256 % 256 : Nat) : Int) < 256)) = some () := ck_of (by omega)
      have hd : decide ((2 : Int) < 4) = true := rfl
      have tn : ((2 : Int)).toNat = 2 := rfl
      simp only [w0, e1, e2, e3, hb, hd, tn, cond_true, c0, c1, Nat.reduceAdd, c2, c3, Option.bind_some, Int.toNat_natCast, of_mod]
      simp [List.set]
    | 3, _ =>
      have hb := wbyte n 0 1 (by decide)
      have e1 : IntKind.wrap .i64 (8 * (IntKind.wrap .i64 (3 - 3))) = 0 := by decide
      have e2 : min ((0 : Int)).toNat (IntKind.bits .i64) = 0 := by decide
      have e3 : IntKind.wrap .i64 ((3 : Int) + 1) = 4 := by decide
      have c1 : ck (decide ((0 : Int) ≤ 3 ∧ (3 : Int) < 4)) = some () := rfl
      have c0 : ck (decide ((0 : Int) ≤ 0)) = some () := rfl
      have c2 : ck (decide (3 < (UInt8.ofNat (n / 16777216) :: UInt8.ofNat (n / 65536) :: UInt8.ofNat (n / 256) :: d :: r).length)) = some () := ck_of (by simp [hr])
      have c3 : ck (decide (0 ≤ ((n / 1 % 256 : Nat) : Int) ∧ ((n / 1 % 256 : Nat) : Int) < 256)) = some () := ck_of (by omega)
      have hd : decide ((3 : Int) < 4) = true := rfl
      have tn : ((3 : Int)).toNat = 3 := rfl
      simp only [w0, e1, e2, e3, hb, hd, tn, cond_true, c0, c1, Nat.reduceAdd, c2, c3, Option.bind_some, Int.toNat_natCast, of_mod]
      simp [List.set]
  · rfl

theorem word_q_eq (a b c d : UInt8) (l : List UInt8) (hr : l.length = 20) (n : Nat) : key_word_q (l ++ [a, b, c, d]) n = some (l ++ [UInt8.ofNat (n / 16777216), UInt8.ofNat (n / 65536), UInt8.ofNat (n / 256), UInt8.ofNat n]) := by
  unfold key_word_q
  refine bind_id ?_
  have w0 : IntKind.wrap .i64 (4 - 1) = 3 := by decide
  refine whileO_run (fun i => match i with | 0 => ((0 : Int), l ++ [a, b, c, d]) | 1 => (1, l ++ [UInt8.ofNat (n / 16777216), b, c, d]) | 2 => (2, l ++ [UInt8.ofNat (n / 16777216), UInt8.ofNat (n / 65536), c, d]) | 3 => (3, l ++ [UInt8.ofNat (n / 16777216), UInt8.ofNat (n / 65536), UInt8.ofNat (n / 256), d]) | _ => (4, l ++ [UInt8.ofNat (n / 16777216), UInt8.ofNat (n / 65536), UInt8.ofNat (n / 256), UInt8.ofNat n])) 4 (fun i hi => ?_) ?_
  · match i, hi with
    | 0, _ =>
      have hb := wbyte n 24 16777216 (by decide)
      have e1 : IntKind.wrap .i64 (8 * (IntKind.wrap .i64 (3 - 0))) = 24 := by decide
      have e2 : min ((24 : Int)).toNat (IntKind.bits .i64) = 24 := by decide
      have e3 : IntKind.wrap .i64 ((0 : Int) + 1) = 1 := by decide
      have c1 : ck (decide ((0 : Int) ≤ 0 ∧ (0 : Int) < 4)) = some () := rfl
      have c0 : ck (decide ((0 : Int) ≤ 24)) = some () := rfl
      have c2 : ck (decide (20 < (l ++ [a, b, c, d]).length)) = some () := ck_of (by simp [hr])
      have c3 : ck (decide (0 ≤ ((n / 16777216 % 256 : Nat) : Int) ∧ ((n / 16777216 % 256 : Nat) : Int) < 256)) = some () := ck_of (by omega)
      have hd : decide ((0 : Int) < 4) = true := rfl
      have tn : ((0 : Int)).toNat = 0 := rfl
      simp only [w0, e1, e2, e3, hb, hd, tn, cond_true, c0, c1, Nat.reduceAdd, c2, c3, Option.bind_some, Int.toNat_natCast, of_mod]
      rw [List.set_append_right _ _ (by omega), hr]
      simp [List.set]
    | 1, _ =>
      have hb := wbyte n 16 65536 (by decide)
      have e1 : IntKind.wrap .i64 (8 * (IntKind.wrap .i64 (3 - 1))) = 16 := by decide
      have e2 : min ((16 : Int)).toNat (IntKind.bits .i64) = 16 := by decide
      have e3 : IntKind.wrap .i64 ((1 : Int) + 1) = 2 := by decide
      have c1 : ck (decide ((0 : Int) ≤ 1 ∧ (1 : Int) < 4)) = some () := rfl
      have c0 : ck (decide ((0 : Int) ≤ 16)) = some () := rfl
      have c2 : ck (decide (21 < (l ++ [UInt8.ofNat (n / 16777216), b, c, d]).length)) = some () := ck_of (by simp [hr])
      have c3 : ck (decide (0 ≤ ((n / 65536 % 256 : Nat) : Int) ∧ ((n / 65536 % 256 : Nat) : Int) < 256)) = some () := ck_of (by omega)
      have hd : decide ((1 : Int) < 4) = true := rfl
      have tn : ((1 : Int)).toNat = 1 := rfl
      simp only [w0, e1, e2, e3, hb, hd, tn, cond_true, c0, c1, Nat.reduceAdd, c2, c3, Option.bind_some, Int.toNat_natCast, of_mod]
      rw [List.set_append_right _ _ (by omega), hr]
      simp [List.set]
    | 2, _ =>
      have hb := wbyte n 8 256 (by decide)
      have e1 : IntKind.wrap .i64 (8 * (IntKind.wrap .i64 (3 - 2))) = 8 := by decide
      have e2 : min ((8 : Int)).toNat (IntKind.bits .i64) = 8 := by decide
      have e3 : IntKind.wrap .i64 ((2 : Int) + 1) = 3 := by decide
      have c1 : ck (decide ((0 : Int) ≤ 2 ∧ (2 : Int) < 4)) = some () := rfl
      have c0 : ck (decide ((0 : Int) ≤ 8)) = some () := rfl
      have c2 : ck (decide (22 < (l ++ [UInt8.ofNat (n / 16777216), UInt8.ofNat (n / 65536), c, d]).length)) = some () := ck_of (by simp [hr])
      have c3 : ck (decide (0 ≤ ((n / 256 % 256 : Nat) : Int) ∧ ((n / 256 % 256 : Nat) : Int) < 256)) = some () := ck_of (by omega)
      have hd : decide ((2 : Int) < 4) = true := rfl
      have tn : ((2 : Int)).toNat = 2 := rfl
      simp only [w0, e1, e2, e3, hb, hd, tn, cond_true, c0, c1, Nat.reduceAdd, c2, c3, Option.bind_some, Int.toNat_natCast, of_mod]
      rw [List.set_append_right _ _ (by omega), hr]
      simp [List.set]
    | 3, _ =>
      have hb := wbyte n 0 1 (by decide)
      have e1 : IntKind.wrap .i64 (8 * (IntKind.wrap .i64 (3 - 3))) = 0 := by decide
      have e2 : min ((0 : Int)).toNat (IntKind.bits .i64) = 0 := by decide
      have e3 : IntKind.wrap .i64 ((3 : Int) + 1) = 4 := by decide
      have c1 : ck (decide ((0 : Int) ≤ 3 ∧ (3 : Int) < 4)) = some () := rfl
      have c0 : ck (decide ((0 : Int) ≤ 0)) = some () := rfl
      have c2 : ck (decide (23 < (l ++ [UInt8.ofNat (n / 16777216), UInt8.ofNat (n / 65536), UInt8.ofNat (n / 256), d]).length)) = some () := ck_of (by simp [hr])
      have c3 : ck (decide (0 ≤ ((n / 1 % 256 : Nat) : Int) ∧ ((n / 1 % 256 : Nat) : Int) < 256)) = some () := ck_of (by omega)
      have hd : decide ((3 : Int) < 4) = true := rfl
      have tn : ((3 : Int)).toNat = 3 := rfl
      simp only [w0, e1, e2, e3, hb, hd, tn, cond_true, c0, c1, Nat.reduceAdd, c2, c3, Option.bind_some, Int.toNat_natCast, of_mod]
      rw [List.set_append_right _ _ (by omega), hr]
      simp [List.set]
  · rfl


end Go.Val

