/- What the twins are: keys of chunks. -/
import Derived.Test.YthipaajmgfnagaaGreatDoorT1
import Derived.Test.YthipaajmgfnagaaGreatDoorLd
import Derived.Test.YthipaajmgfnagaaGreatDoorHw
set_option linter.unusedSectionVars false
set_option linter.unusedVariables false
set_option linter.unusedSimpArgs false
namespace Go.Val
open Go.Lib
def be4 (n : Nat) : List UInt8 := [UInt8.ofNat (n / 16777216),UInt8.ofNat (n / 65536),UInt8.ofNat (n / 256),UInt8.ofNat n]
def ckey (i p : Nat) : Ky := be4 i ++ (3 :: List.replicate 15 0 ++ be4 p)
def qU4 (i : Nat) : Ky := be4 i ++ 4 :: List.replicate 19 0
theorem qZ3 (i p : Nat) : (ckey i p).length = 24 := rfl
theorem valK_be4 {n : Nat} (h : n < 4294967296) : valK (be4 n) = n := by
 have e : valK (be4 n) = (n / 16777216 % 256) * 16777216 + ((n / 65536 % 256) * 65536 + ((n / 256 % 256) * 256 + n % 256)) := by
  simp only [be4,valK,List.length_cons,List.length_nil,UInt8.toNat_ofNat',Nat.reduceAdd,Nat.reducePow,Nat.mul_one,Nat.add_zero]
 rw [e]
 omega
def KM : Nat := 256 ^ 19
theorem valK_tail (b : UInt8) (l : List UInt8) (hl : l.length = 19) (i : Nat) (hi : i < 4294967296) : valK (be4 i ++ b :: l) = (i * 256 + b.toNat) * KM + valK l := by
 have h20 : (256 : Nat) ^ 20 = 256 * KM := by unfold KM; rw [Nat.pow_succ,Nat.mul_comm]
 rw [q42,valK_be4 hi,List.length_cons,hl,valK,hl,h20,Nat.add_mul,Nat.mul_assoc]
 show _ + (b.toNat * KM + valK l) = _
 rw [Nat.add_assoc]
theorem valK_ckey {i p : Nat} (hi : i < 4294967296) (hp : p < 4294967296) : valK (ckey i p) = (i * 256 + 3) * KM + p := by
 have e : ckey i p = be4 i ++ 3 :: (List.replicate 15 0 ++ be4 p) := rfl
 rw [e,valK_tail _ _ rfl _ hi,q42,valK_zero,valK_be4 hp,Nat.zero_mul,Nat.zero_add]
 have e3 : (3 : UInt8).toNat = 3 := rfl
 rw [e3]
theorem valK_ckEnd {i : Nat} (hi : i < 4294967296) : valK (qU4 i) = (i * 256 + 4) * KM := by
 unfold qU4
 have e4 : (4 : UInt8).toNat = 4 := rfl
 rw [valK_tail _ _ rfl _ hi,valK_zero,e4,Nat.add_zero]
theorem KM_big : 4294967296 ≤ KM := by unfold KM; exact Nat.pow_le_pow_right (n := 256) (by decide) (show 4 ≤ 19 by decide)
theorem w8 (n : Int) : IntKind.wrap .u8 n = n % 256 := by simp [IntKind.wrap,IntKind.bits,IntKind.signed]
theorem wbyte (n k m : Nat) (h : 2 ^ k = m) : (IntKind.wrap .u8 (Int.fdiv (n : Int) (2 ^ k))) = ((n / m % 256 : Nat) : Int) := by
 subst h
 have h2 : ((2 : Int) ^ k) = ((2 ^ k : Nat) : Int) := by simp
 rw [w8,h2,Int.fdiv_eq_ediv_of_nonneg _ (Int.natCast_nonneg _),← Int.natCast_ediv]
 omega
theorem q65 (m : Nat) : UInt8.ofNat (m % 256) = UInt8.ofNat m := by
 apply UInt8.toNat_inj.1
 rw [UInt8.toNat_ofNat',UInt8.toNat_ofNat']
 omega
theorem word_p_eq (a b c d : UInt8) (r : List UInt8) (hr : r.length = 20) (n : Nat) : qO2 (a :: b :: c :: d :: r) n = some (UInt8.ofNat (n / 16777216) :: UInt8.ofNat (n / 65536) :: UInt8.ofNat (n / 256) :: UInt8.ofNat n :: r) := by
 unfold qO2
 refine qs0 ?_
 have w0 : IntKind.wrap .i64 (4 - 1) = 3 := by decide
 refine qe0 (fun i => match i with | 0 => ((0 : Int),a :: b :: c :: d :: r) | 1 => (1,UInt8.ofNat (n / 16777216) :: b :: c :: d :: r) | 2 => (2,UInt8.ofNat (n / 16777216) :: UInt8.ofNat (n / 65536) :: c :: d :: r) | 3 => (3,UInt8.ofNat (n / 16777216) :: UInt8.ofNat (n / 65536) :: UInt8.ofNat (n / 256) :: d :: r) | _ => (4,UInt8.ofNat (n / 16777216) :: UInt8.ofNat (n / 65536) :: UInt8.ofNat (n / 256) :: UInt8.ofNat n :: r)) 4 (fun i hi => ?_) ?_
 ·match i,hi with
  | 0,_ =>
   have hb := wbyte n 24 16777216 (by decide)
   have e1 : IntKind.wrap .i64 (8 * (IntKind.wrap .i64 (3 - 0))) = 24 := by decide
   have e2 : min ((24 : Int)).toNat (IntKind.bits .i64) = 24 := by decide
   have e3 : IntKind.wrap .i64 ((0 : Int) + 1) = 1 := by decide
   have c1 : ck (decide ((0 : Int) ≤ 0 ∧ (0 : Int) < 4)) = some () := rfl
   have c0 : ck (decide ((0 : Int) ≤ 24)) = some () := rfl
   have c2 : ck (decide (0 < (a :: b :: c :: d :: r).length)) = some () := qE2 (by simp [hr])
   have c3 : ck (decide (0 ≤ ((n / 16777216 % 256 : Nat) : Int) ∧ ((n / 16777216 % 256 : Nat) : Int) < 256)) = some () := qE2 (by omega)
   have hd : decide ((0 : Int) < 4) = true := rfl
   have tn : ((0 : Int)).toNat = 0 := rfl
   simp only [w0,e1,e2,e3,hb,hd,tn,cond_true,c0,c1,Nat.reduceAdd,c2,c3,Option.bind_some,Int.toNat_natCast,q65]
   simp [List.set]
  | 1,_ =>
   have hb := wbyte n 16 65536 (by decide)
   have e1 : IntKind.wrap .i64 (8 * (IntKind.wrap .i64 (3 - 1))) = 16 := by decide
   have e2 : min ((16 : Int)).toNat (IntKind.bits .i64) = 16 := by decide
   have e3 : IntKind.wrap .i64 ((1 : Int) + 1) = 2 := by decide
   have c1 : ck (decide ((0 : Int) ≤ 1 ∧ (1 : Int) < 4)) = some () := rfl
   have c0 : ck (decide ((0 : Int) ≤ 16)) = some () := rfl
   have c2 : ck (decide (1 < (UInt8.ofNat (n / 16777216) :: b :: c :: d :: r).length)) = some () := qE2 (by simp [hr])
   have c3 : ck (decide (0 ≤ ((n / 65536 % 256 : Nat) : Int) ∧ ((n / 65536 % 256 : Nat) : Int) < 256)) = some () := qE2 (by omega)
   have hd : decide ((1 : Int) < 4) = true := rfl
   have tn : ((1 : Int)).toNat = 1 := rfl
   simp only [w0,e1,e2,e3,hb,hd,tn,cond_true,c0,c1,Nat.reduceAdd,c2,c3,Option.bind_some,Int.toNat_natCast,q65]
   simp [List.set]
  | 2,_ =>
   have hb := wbyte n 8 256 (by decide)
   have e1 : IntKind.wrap .i64 (8 * (IntKind.wrap .i64 (3 - 2))) = 8 := by decide
   have e2 : min ((8 : Int)).toNat (IntKind.bits .i64) = 8 := by decide
   have e3 : IntKind.wrap .i64 ((2 : Int) + 1) = 3 := by decide
   have c1 : ck (decide ((0 : Int) ≤ 2 ∧ (2 : Int) < 4)) = some () := rfl
   have c0 : ck (decide ((0 : Int) ≤ 8)) = some () := rfl
   have c2 : ck (decide (2 < (UInt8.ofNat (n / 16777216) :: UInt8.ofNat (n / 65536) :: c :: d :: r).length)) = some () := qE2 (by simp [hr])
   have c3 : ck (decide (0 ≤ ((n / 256 % 256 : Nat) : Int) ∧ ((n / 256 % 256 : Nat) : Int) < 256)) = some () := qE2 (by omega)
   have hd : decide ((2 : Int) < 4) = true := rfl
   have tn : ((2 : Int)).toNat = 2 := rfl
   simp only [w0,e1,e2,e3,hb,hd,tn,cond_true,c0,c1,Nat.reduceAdd,c2,c3,Option.bind_some,Int.toNat_natCast,q65]
   simp [List.set]
  | 3,_ =>
   have hb := wbyte n 0 1 (by decide)
   have e1 : IntKind.wrap .i64 (8 * (IntKind.wrap .i64 (3 - 3))) = 0 := by decide
   have e2 : min ((0 : Int)).toNat (IntKind.bits .i64) = 0 := by decide
   have e3 : IntKind.wrap .i64 ((3 : Int) + 1) = 4 := by decide
   have c1 : ck (decide ((0 : Int) ≤ 3 ∧ (3 : Int) < 4)) = some () := rfl
   have c0 : ck (decide ((0 : Int) ≤ 0)) = some () := rfl
   have c2 : ck (decide (3 < (UInt8.ofNat (n / 16777216) :: UInt8.ofNat (n / 65536) :: UInt8.ofNat (n / 256) :: d :: r).length)) = some () := qE2 (by simp [hr])
   have c3 : ck (decide (0 ≤ ((n / 1 % 256 : Nat) : Int) ∧ ((n / 1 % 256 : Nat) : Int) < 256)) = some () := qE2 (by omega)
   have hd : decide ((3 : Int) < 4) = true := rfl
   have tn : ((3 : Int)).toNat = 3 := rfl
   simp only [w0,e1,e2,e3,hb,hd,tn,cond_true,c0,c1,Nat.reduceAdd,c2,c3,Option.bind_some,Int.toNat_natCast,q65]
   simp [List.set]
 ·rfl
theorem word_q_eq (a b c d : UInt8) (l : List UInt8) (hr : l.length = 20) (n : Nat) : qH2 (l ++ [a,b,c,d]) n = some (l ++ [UInt8.ofNat (n / 16777216),UInt8.ofNat (n / 65536),UInt8.ofNat (n / 256),UInt8.ofNat n]) := by
 unfold qH2
 refine qs0 ?_
 have w0 : IntKind.wrap .i64 (4 - 1) = 3 := by decide
 refine qe0 (fun i => match i with | 0 => ((0 : Int),l ++ [a,b,c,d]) | 1 => (1,l ++ [UInt8.ofNat (n / 16777216),b,c,d]) | 2 => (2,l ++ [UInt8.ofNat (n / 16777216),UInt8.ofNat (n / 65536),c,d]) | 3 => (3,l ++ [UInt8.ofNat (n / 16777216),UInt8.ofNat (n / 65536),UInt8.ofNat (n / 256),d]) | _ => (4,l ++ [UInt8.ofNat (n / 16777216),UInt8.ofNat (n / 65536),UInt8.ofNat (n / 256),UInt8.ofNat n])) 4 (fun i hi => ?_) ?_
 ·match i,hi with
  | 0,_ =>
   have hb := wbyte n 24 16777216 (by decide)
   have e1 : IntKind.wrap .i64 (8 * (IntKind.wrap .i64 (3 - 0))) = 24 := by decide
   have e2 : min ((24 : Int)).toNat (IntKind.bits .i64) = 24 := by decide
   have e3 : IntKind.wrap .i64 ((0 : Int) + 1) = 1 := by decide
   have c1 : ck (decide ((0 : Int) ≤ 0 ∧ (0 : Int) < 4)) = some () := rfl
   have c0 : ck (decide ((0 : Int) ≤ 24)) = some () := rfl
   have c2 : ck (decide (20 < (l ++ [a,b,c,d]).length)) = some () := qE2 (by simp [hr])
   have c3 : ck (decide (0 ≤ ((n / 16777216 % 256 : Nat) : Int) ∧ ((n / 16777216 % 256 : Nat) : Int) < 256)) = some () := qE2 (by omega)
   have hd : decide ((0 : Int) < 4) = true := rfl
   have tn : ((0 : Int)).toNat = 0 := rfl
   simp only [w0,e1,e2,e3,hb,hd,tn,cond_true,c0,c1,Nat.reduceAdd,c2,c3,Option.bind_some,Int.toNat_natCast,q65]
   rw [List.set_append_right _ _ (by omega),hr]
   simp [List.set]
  | 1,_ =>
   have hb := wbyte n 16 65536 (by decide)
   have e1 : IntKind.wrap .i64 (8 * (IntKind.wrap .i64 (3 - 1))) = 16 := by decide
   have e2 : min ((16 : Int)).toNat (IntKind.bits .i64) = 16 := by decide
   have e3 : IntKind.wrap .i64 ((1 : Int) + 1) = 2 := by decide
   have c1 : ck (decide ((0 : Int) ≤ 1 ∧ (1 : Int) < 4)) = some () := rfl
   have c0 : ck (decide ((0 : Int) ≤ 16)) = some () := rfl
   have c2 : ck (decide (21 < (l ++ [UInt8.ofNat (n / 16777216),b,c,d]).length)) = some () := qE2 (by simp [hr])
   have c3 : ck (decide (0 ≤ ((n / 65536 % 256 : Nat) : Int) ∧ ((n / 65536 % 256 : Nat) : Int) < 256)) = some () := qE2 (by omega)
   have hd : decide ((1 : Int) < 4) = true := rfl
   have tn : ((1 : Int)).toNat = 1 := rfl
   simp only [w0,e1,e2,e3,hb,hd,tn,cond_true,c0,c1,Nat.reduceAdd,c2,c3,Option.bind_some,Int.toNat_natCast,q65]
   rw [List.set_append_right _ _ (by omega),hr]
   simp [List.set]
  | 2,_ =>
   have hb := wbyte n 8 256 (by decide)
   have e1 : IntKind.wrap .i64 (8 * (IntKind.wrap .i64 (3 - 2))) = 8 := by decide
   have e2 : min ((8 : Int)).toNat (IntKind.bits .i64) = 8 := by decide
   have e3 : IntKind.wrap .i64 ((2 : Int) + 1) = 3 := by decide
   have c1 : ck (decide ((0 : Int) ≤ 2 ∧ (2 : Int) < 4)) = some () := rfl
   have c0 : ck (decide ((0 : Int) ≤ 8)) = some () := rfl
   have c2 : ck (decide (22 < (l ++ [UInt8.ofNat (n / 16777216),UInt8.ofNat (n / 65536),c,d]).length)) = some () := qE2 (by simp [hr])
   have c3 : ck (decide (0 ≤ ((n / 256 % 256 : Nat) : Int) ∧ ((n / 256 % 256 : Nat) : Int) < 256)) = some () := qE2 (by omega)
   have hd : decide ((2 : Int) < 4) = true := rfl
   have tn : ((2 : Int)).toNat = 2 := rfl
   simp only [w0,e1,e2,e3,hb,hd,tn,cond_true,c0,c1,Nat.reduceAdd,c2,c3,Option.bind_some,Int.toNat_natCast,q65]
   rw [List.set_append_right _ _ (by omega),hr]
   simp [List.set]
  | 3,_ =>
   have hb := wbyte n 0 1 (by decide)
   have e1 : IntKind.wrap .i64 (8 * (IntKind.wrap .i64 (3 - 3))) = 0 := by decide
   have e2 : min ((0 : Int)).toNat (IntKind.bits .i64) = 0 := by decide
   have e3 : IntKind.wrap .i64 ((3 : Int) + 1) = 4 := by decide
   have c1 : ck (decide ((0 : Int) ≤ 3 ∧ (3 : Int) < 4)) = some () := rfl
   have c0 : ck (decide ((0 : Int) ≤ 0)) = some () := rfl
   have c2 : ck (decide (23 < (l ++ [UInt8.ofNat (n / 16777216),UInt8.ofNat (n / 65536),UInt8.ofNat (n / 256),d]).length)) = some () := qE2 (by simp [hr])
   have c3 : ck (decide (0 ≤ ((n / 1 % 256 : Nat) : Int) ∧ ((n / 1 % 256 : Nat) : Int) < 256)) = some () := qE2 (by omega)
   have hd : decide ((3 : Int) < 4) = true := rfl
   have tn : ((3 : Int)).toNat = 3 := rfl
   simp only [w0,e1,e2,e3,hb,hd,tn,cond_true,c0,c1,Nat.reduceAdd,c2,c3,Option.bind_some,Int.toNat_natCast,q65]
   rw [List.set_append_right _ _ (by omega),hr]
   simp [List.set]
 ·rfl
end Go.Val
namespace Go.Val
open Go.Lib
theorem or_byte {m x : Nat} (hm : m < 4294967296) (hx : x < 256) : bitsOr .i64 (IntKind.wrap .i64 ((m : Int) * 2 ^ 8)) (IntKind.wrap .i64 (x : Int)) = ((m * 256 + x : Nat) : Int) := by
 have e1 : IntKind.wrap .i64 ((m : Int) * 2 ^ 8) = ((m * 256 : Nat) : Int) := by rw [wI64 (by omega)]; omega
 rw [e1,wI64 (n := (x : Int)) (by omega)]
 unfold bitsOr
 rw [BitVec.toNat_or,BitVec.toNat_ofInt,BitVec.toNat_ofInt]
 have h64 : (2 : Nat) ^ IntKind.bits .i64 = 18446744073709551616 := by decide
 have e2 : (((m * 256 : Nat) : Int) % ((2 ^ IntKind.bits .i64 : Nat) : Int)).toNat = 2 ^ 8 * m := by rw [h64]; omega
 have e3 : ((x : Int) % ((2 ^ IntKind.bits .i64 : Nat) : Int)).toNat = x := by rw [h64]; omega
 rw [e2,e3,← Nat.two_pow_add_eq_or_of_lt (i := 8) hx m,wI64 (by omega)]
 omega
theorem of_eq {a b c d : UInt8} : key_of [a,b,c,d] = some ((valK [a,b,c,d] : Nat) : Int) := by
 have ha := a.toNat_lt
 have hb := b.toNat_lt
 have hc := c.toNat_lt
 have hd := d.toNat_lt
 have ev : valK [a,b,c,d] = ((a.toNat * 256 + b.toNat) * 256 + c.toNat) * 256 + d.toNat := by
  simp only [valK,List.length_cons,List.length_nil,Nat.reduceAdd,Nat.reducePow,Nat.mul_one,Nat.add_zero]
  omega
 rw [ev]
 unfold key_of
 refine qs0 ?_
 refine qe0 (fun i => match i with | 0 => ((0 : Int),(0 : Int)) | 1 => ((a.toNat : Int),1) | 2 => (((a.toNat * 256 + b.toNat : Nat) : Int),2) | 3 => ((((a.toNat * 256 + b.toNat) * 256 + c.toNat : Nat) : Int),3) | _ => (((((a.toNat * 256 + b.toNat) * 256 + c.toNat) * 256 + d.toNat : Nat) : Int),4)) 4 (fun i hi => ?_) ?_
 ·match i,hi with
  | 0,_ =>
   have h1 := or_byte (m := 0) (x := a.toNat) (by omega) (by omega)
   rw [Nat.zero_mul,Nat.zero_add] at h1
   have e : gx [a,b,c,d] 0 = some a := rfl
   have w : IntKind.wrap .i64 ((0 : Int) + 1) = 1 := by decide
   have hdec : decide ((0 : Int) < (([a,b,c,d] : List UInt8).length : Int)) = true := rfl
   simp only [hdec,cond_true,e,Option.bind_some,w]
   exact congrArg (fun z => some (Sum.inl (z,(1 : Int)))) h1
  | 1,_ =>
   have h1 := or_byte (m := a.toNat) (x := b.toNat) (by omega) (by omega)
   have e : gx [a,b,c,d] 1 = some b := rfl
   have w : IntKind.wrap .i64 ((1 : Int) + 1) = 2 := by decide
   have hdec : decide ((1 : Int) < (([a,b,c,d] : List UInt8).length : Int)) = true := rfl
   simp only [hdec,cond_true,e,Option.bind_some,w,h1]
  | 2,_ =>
   have h1 := or_byte (m := a.toNat * 256 + b.toNat) (x := c.toNat) (by omega) (by omega)
   have e : gx [a,b,c,d] 2 = some c := rfl
   have w : IntKind.wrap .i64 ((2 : Int) + 1) = 3 := by decide
   have hdec : decide ((2 : Int) < (([a,b,c,d] : List UInt8).length : Int)) = true := rfl
   simp only [hdec,cond_true,e,Option.bind_some,w,h1]
  | 3,_ =>
   have h1 := or_byte (m := (a.toNat * 256 + b.toNat) * 256 + c.toNat) (x := d.toNat) (by omega) (by omega)
   have e : gx [a,b,c,d] 3 = some d := rfl
   have w : IntKind.wrap .i64 ((3 : Int) + 1) = 4 := by decide
   have hdec : decide ((3 : Int) < (([a,b,c,d] : List UInt8).length : Int)) = true := rfl
   simp only [hdec,cond_true,e,Option.bind_some,w,h1]
 ·rfl
theorem of_be4 {n : Nat} (h : n < 4294967296) : key_of (be4 n) = some (n : Int) := by
 have := @of_eq (UInt8.ofNat (n / 16777216)) (UInt8.ofNat (n / 65536)) (UInt8.ofNat (n / 256)) (UInt8.ofNat n)
 rw [show [UInt8.ofNat (n / 16777216),UInt8.ofNat (n / 65536),UInt8.ofNat (n / 256),UInt8.ofNat n] = be4 n from rfl,valK_be4 h] at this
 exact this
theorem number_eq (a : Int) : qL1 a = some (decide (1 ≤ a ∧ a < 1073741824)) := by
 unfold qL1
 refine qs0 ?_
 by_cases h : a ≥ 1
 ·simp only [decide_eq_true h,cond_true,Option.some.injEq]
  have : 1 ≤ a := h
  simp [this]
 ·simp only [decide_eq_false h,cond_false,Option.some.injEq]
  have : ¬ 1 ≤ a := h
  simp [this]
theorem begins_eq (i kd : Nat) (hk : kd < 256) : qJ0 (i : Int) (kd : Int) = some (be4 i ++ UInt8.ofNat kd :: List.replicate 19 0) := by
 unfold qJ0
 have h1 := word_p_eq 0 0 0 0 (List.replicate 20 0) rfl i
 have e1 : (0 : UInt8) :: 0 :: 0 :: 0 :: List.replicate 20 0 = List.replicate 24 0 := rfl
 rw [e1] at h1
 rw [bdO h1]
 have hw : IntKind.wrap .u8 (kd : Int) = (kd : Int) := by rw [w8]; omega
 rw [hw,bdO (show ck (decide ((0 : Int) ≤ 4 ∧ (4 : Int) < 24)) = some () from rfl),bdO (show ck (decide (4 < (UInt8.ofNat (i / 16777216) :: UInt8.ofNat (i / 65536) :: UInt8.ofNat (i / 256) :: UInt8.ofNat i :: List.replicate 20 0).length)) = some () from rfl),bdO (qE2 (show 0 ≤ (kd : Int) ∧ (kd : Int) < 256 by omega))]
 rfl
theorem inode_eq (a : Int) : ∃ k,q02 a = some (k,decide (1 ≤ a ∧ a < 1073741824)) := by
 unfold q02
 rw [bdO (number_eq a)]
 by_cases h : 1 ≤ a ∧ a < 1073741824
 ·rw [decide_eq_true h]
  obtain ⟨n,rfl⟩ := Int.eq_ofNat_of_zero_le (show 0 ≤ a by omega)
  refine ⟨be4 n ++ UInt8.ofNat 1 :: List.replicate 19 0,?_⟩
  have hb := begins_eq n 1 (by omega)
  rw [show ((1 : Nat) : Int) = 1 from rfl] at hb
  simp only [Bool.not_true,cond_false]
  rw [bdO hb]
 ·rw [decide_eq_false h]
  exact ⟨_,rfl⟩
def okP (i p : Nat) : Prop := (1 ≤ i ∧ i < 1073741824) ∧ p < 4294967296
theorem qU3 {i p : Nat} (h : okP i p) : qi0 (i : Int) (p : Int) = some (ckey i p,true) := by
 obtain ⟨hi,hp⟩ := h
 unfold qi0
 have hn : (1 : Int) ≤ (i : Int) ∧ (i : Int) < 1073741824 := by omega
 rw [bdO (number_eq (i : Int)),decide_eq_true hn]
 have h1 : decide ((p : Int) < 0) = false := decide_eq_false (by omega)
 have h2 : decide ((p : Int) > 4294967295) = false := decide_eq_false (by omega)
 simp only [Bool.not_true,cond_false,h1,h2,Option.bind_some]
 have hb := begins_eq i 3 (by omega)
 rw [show ((3 : Nat) : Int) = 3 from rfl] at hb
 rw [bdO hb]
 have hw := word_q_eq 0 0 0 0 (be4 i ++ 3 :: List.replicate 15 0) rfl p
 have e1 : (be4 i ++ 3 :: List.replicate 15 0) ++ [0,0,0,0] = be4 i ++ UInt8.ofNat 3 :: List.replicate 19 0 := rfl
 rw [e1] at hw
 rw [bdO hw]
 rfl
theorem chunks_eq {i p : Nat} (h : okP i p) : qh2 (i : Int) (p : Int) = some (ckey i p,qU4 i,false) := by
 unfold qh2
 rw [bdO (qU3 h)]
 have hb := begins_eq i 4 (by omega)
 rw [show ((4 : Nat) : Int) = 4 from rfl] at hb
 simp only [Bool.not_true,cond_false]
 rw [bdO hb]
 rfl
theorem Of_eq {i p : Nat} (h : okP i p) : qY3 (ckey i p) = some (((i : Int),3,mt,(p : Int)),true) := by
 unfold qY3
 have e1 : List.take 4 (List.drop 0 (ckey i p)) = be4 i := rfl
 have e2 : List.take 4 (List.drop 20 (ckey i p)) = be4 p := rfl
 have h1 := h.1
 rw [e1,e2,bdO (of_be4 (by omega)),bdO (show ck (decide ((0 : Int) ≤ 4 ∧ (4 : Int) < 24)) = some () from rfl)]
 have e3 : gx (ckey i p) 4 = some 3 := rfl
 rw [bdO e3]
 have w3 : IntKind.wrap .i64 ((3 : UInt8).toNat : Int) = 3 := by decide
 rw [w3]
 have d1 : decide ((3 : Int) = 1) = false := rfl
 have d2 : decide ((3 : Int) = 2) = false := rfl
 have d3 : decide ((3 : Int) = 3) = true := rfl
 rw [d1,d2,d3,cond_false,cond_false,cond_true,bdO (of_be4 h.2),bdO (qU3 h)]
 simp [mt]
theorem qK4 {i p j q : Nat} (h : okP i p) (k : okP j q) (e : ckey i p = ckey j q) : i = j ∧ p = q := by
 have h1 := Of_eq h
 rw [e,Of_eq k] at h1
 simp only [Option.some.injEq,Prod.mk.injEq,Int.natCast_inj] at h1
 exact ⟨h1.1.1.symm,h1.1.2.2.2.symm⟩
theorem lex_lt {a b p q : Nat} (hp : p < KM) (hq : q < KM) : a * KM + p < b * KM + q ↔ a < b ∨ (a = b ∧ p < q) := by
 constructor
 ·intro h
  rcases Nat.lt_trichotomy a b with h1 | h1 | h1
  ·exact .inl h1
  ·subst h1; exact .inr ⟨rfl,by omega⟩
  ·have := Nat.mul_le_mul_right KM h1
   rw [Nat.succ_mul] at this
   omega
 ·rintro (h | ⟨rfl,h⟩)
  ·have := Nat.mul_le_mul_right KM h
   rw [Nat.succ_mul] at this
   omega
  ·omega
theorem ckey_lt {i p j q : Nat} (h : okP i p) (k : okP j q) : Lt (ckey i p) (ckey j q) ↔ i < j ∨ (i = j ∧ p < q) := by
 have hk := KM_big
 obtain ⟨h1,h2⟩ := h
 obtain ⟨k1,k2⟩ := k
 rw [lt_val (a := ckey i p) (b := ckey j q) rfl,valK_ckey (by omega) h2,valK_ckey (by omega) k2,lex_lt (by omega) (by omega)]
 omega
theorem ckey_ltEnd {i p j : Nat} (h : okP i p) (hj : j < 4294967296) : Lt (ckey i p) (qU4 j) ↔ i ≤ j := by
 have hk := KM_big
 obtain ⟨h1,h2⟩ := h
 have := lex_lt (a := i * 256 + 3) (b := j * 256 + 4) (p := p) (q := 0) (by omega) (by omega)
 rw [lt_val (a := ckey i p) (b := qU4 j) rfl,valK_ckey (by omega) h2,valK_ckEnd hj,← Nat.add_zero ((j * 256 + 4) * KM),this]
 omega
theorem qt4 {i a b j p : Nat} (ha : okP i a) (hb : okP i b) (h : okP j p) : inS (ckey i a,ckey i b,false) (ckey j p) = decide (j = i ∧ a ≤ p ∧ p < b) := by
 rw [Bool.eq_iff_iff,qq1,decide_eq_true_eq]
 unfold toB
 simp only [Bool.false_eq_true,if_false,qz2]
 rw [ckey_lt h ha,ckey_lt h hb]
 omega
theorem inS_from {i a j p : Nat} (ha : okP i a) (h : okP j p) : inS (ckey i a,qU4 i,false) (ckey j p) = decide (j = i ∧ a ≤ p) := by
 have h1 := ha.1
 rw [Bool.eq_iff_iff,qq1,decide_eq_true_eq]
 unfold toB
 simp only [Bool.false_eq_true,if_false,qz2]
 rw [ckey_lt h ha,ckey_ltEnd h (by omega)]
 omega
theorem may_eq (a0 a1 a2 : Int) : q22 a0 a1 a2 = some (decide ((1 ≤ a0 ∧ a0 < 1073741824) ∧ 0 ≤ a1 ∧ 0 ≤ a2 ∧ a1 ≤ 1048576 ∧ a2 ≤ 1048576 - a1)) := by
 unfold q22
 obtain ⟨k,hk⟩ := inode_eq a0
 rw [bdO hk]
 refine qs0 ?_
 by_cases h0 : 1 ≤ a0 ∧ a0 < 1073741824
 ·rw [decide_eq_true h0,cond_true]
  by_cases h1 : min a1 a2 ≥ 0
  ·rw [decide_eq_true h1,cond_true]
   by_cases h2 : a1 ≤ 1048576
   ·rw [decide_eq_true h2,cond_true,wI64 (by omega)]
    congr 1
    rw [decide_eq_decide]
    omega
   ·rw [decide_eq_false h2,cond_false]
    congr 1
    symm
    rw [decide_eq_false_iff_not]
    omega
  ·rw [decide_eq_false h1,cond_false]
   congr 1
   symm
   rw [decide_eq_false_iff_not]
   omega
 ·rw [decide_eq_false h0,cond_false]
  congr 1
  symm
  rw [decide_eq_false_iff_not]
  omega
end Go.Val
namespace Go.Val
open Go.Lib
abbrev By := List UInt8
def zs (n : Nat) : By := List.replicate n 0
def tr (l : By) : By := trimRightB l 0
def pad (l : By) : By := l ++ zs (32 - l.length)
def bl (x : ByteArray) : By := x.data.toList
def bm (l : By) : ByteArray := ⟨l.toArray⟩
theorem bl_bm (l : By) : bl (bm l) = l := rfl
theorem bm_bl (x : ByteArray) : bm (bl x) = x := rfl
theorem qc3 (x : ByteArray) : (bl x).length = x.size := rfl
theorem bm_size (l : By) : (bm l).size = l.length := rfl
theorem bm_inj {a b : By} (h : bm a = bm b) : a = b := congrArg bl h
theorem bl_inj {x y : ByteArray} (h : bl x = bl y) : x = y := congrArg bm h
theorem qt0 (x : ByteArray) (a b : Nat) : bl (x.extract a b) = ((bl x).take b).drop a := by
 unfold bl
 rw [ByteArray.data_extract,Array.toList_extract]
 simp [List.extract_eq_take_drop,List.drop_take]
theorem qp2 (x y : ByteArray) : bl (x ++ y) = bl x ++ bl y := by
 unfold bl
 rw [ByteArray.data_append]
 simp
theorem mem_tw {p : UInt8 → Bool} {l : By} {x : UInt8} (h : x ∈ l.takeWhile p) : p x = true := by
 induction l with
 | nil => simp at h
 | cons a l ih =>
  rw [List.takeWhile_cons] at h
  split at h
  ·rcases List.mem_cons.1 h with e | e
   ·rw [e]; assumption
   ·exact ih e
  ·simp at h
theorem tr_split (l : By) : l = tr l ++ zs (l.length - (tr l).length) := by
 have h1 : l.reverse = l.reverse.takeWhile (· == 0) ++ l.reverse.dropWhile (· == 0) := List.takeWhile_append_dropWhile.symm
 have h2 : l = tr l ++ (l.reverse.takeWhile (· == 0)).reverse := by
  have := congrArg List.reverse h1
  rw [List.reverse_reverse,List.reverse_append] at this
  exact this
 have h3 : ∀ x ∈ (l.reverse.takeWhile (· == 0)).reverse,x = 0 := by
  intro x hx
  rw [List.mem_reverse] at hx
  have := mem_tw hx
  simpa using this
 have h4 := List.eq_replicate_of_mem h3
 have h5 : (l.reverse.takeWhile (· == 0)).reverse.length = l.length - (tr l).length := by
  have := congrArg List.length h2
  rw [List.length_append] at this
  omega
 rw [h5] at h4
 rw [h4] at h2
 exact h2
theorem tr_le (l : By) : (tr l).length ≤ l.length := by
 have := congrArg List.length (tr_split l)
 rw [List.length_append] at this
 omega
theorem tr_last (l : By) {x : UInt8} (h : (tr l).getLast? = some x) : x ≠ 0 := by
 unfold tr trimRightB at h
 rw [List.getLast?_reverse] at h
 have := List.head?_dropWhile_not (· == 0) l.reverse
 rw [h] at this
 simpa using this
theorem tr_zs (l : By) (n : Nat) : tr (l ++ zs n) = tr l := by
 unfold tr trimRightB zs
 rw [List.reverse_append,List.reverse_replicate]
 congr 1
 induction n with
 | zero => simp
 | succ n ih => rw [List.replicate_succ,List.cons_append,List.dropWhile_cons_of_pos (by simp),ih]
theorem tr_pad (l : By) : tr (pad l) = tr l := tr_zs l _
theorem pad_len {l : By} (h : l.length ≤ 32) : (pad l).length = 32 := by unfold pad zs; rw [List.length_append,List.length_replicate]; omega
theorem pad_tr {l : By} (h : l.length = 32) : pad (tr l) = l := by
 have := tr_split l
 rw [h] at this
 exact this.symm
theorem tr_nil {l : By} : tr l = [] ↔ l = zs l.length := by
 constructor
 ·intro h
  have := tr_split l
  rw [h] at this
  simpa using this
 ·intro h
  rw [h]
  have := tr_zs [] l.length
  simpa [tr,trimRightB] using this
theorem bmin (x : ByteArray) : cutB 0 (min (x.size : Int) 32) x.size = some () := qX (by omega)
theorem tn_min (x : ByteArray) : (min (x.size : Int) 32).toNat = min x.size 32 := by omega
theorem bl_cut (x : ByteArray) : bl (x.extract 0 (min x.size 32)) = (bl x).take 32 := by
 rw [qt0,List.drop_zero]
 by_cases h : x.size ≤ 32
 ·rw [Nat.min_eq_left h,List.take_of_length_le (by rw [qc3]; omega),List.take_of_length_le (by rw [qc3]; omega)]
 ·rw [Nat.min_eq_right (by omega)]
theorem trim_eq (x : ByteArray) : qG0 x = some (bm (tr ((bl x).take 32))) := by
 unfold qG0
 rw [bdO (bmin x)]
 refine qs0 ?_
 unfold strTrimR
 have h1 : (x.extract 0 (min (x.size : Int) 32).toNat).size ≤ 9223372036854775807 := by
  rw [← qc3,tn_min,bl_cut,List.length_take]; omega
 rw [decide_eq_true ⟨rfl,h1⟩,cond_true,tn_min]
 have := bl_cut x
 unfold bl at this
 rw [this]
 rfl
theorem full_eq (x : ByteArray) : qc1 x = some (bm (pad ((bl x).take 32))) := by
 unfold qc1
 rw [bdO (bmin x),tn_min]
 have hl : (x.extract 0 (min x.size 32)).size = ((bl x).take 32).length := by rw [← bl_cut]; rfl
 have h32 : ((bl x).take 32).length ≤ 32 := by rw [List.length_take]; omega
 rw [hl,wI64 (by omega)]
 have hr : qy3 (ByteArray.mk #[0]) (32 - (((bl x).take 32).length : Int)) = some (bm (zs (32 - ((bl x).take 32).length))) := by
  unfold qy3
  have e : (32 - (((bl x).take 32).length : Int)).toNat = 32 - ((bl x).take 32).length := by omega
  rw [e,decide_eq_true ⟨by omega,by show 1 * _ ≤ _; omega,by omega⟩,cond_true]
  congr 1
  have := repeatL_replicate 0 1 (32 - ((bl x).take 32).length)
  unfold bm zs
  congr 2
  rw [Nat.mul_one] at this
  exact this
 rw [bdO hr,bdO (qE2 (by rw [bm_size]; unfold zs; rw [List.length_replicate]; omega))]
 congr 1
 apply bl_inj
 rw [qp2,bl_cut,bl_bm,bl_bm]
 rfl
end Go.Val
namespace Go.Val
open Go.Lib
theorem qt3 {β : Type} (l : List (Ky × β)) (p : Ky → Bool) (k : Ky) : mget (l.filter fun q => p q.1) k = if p k = true then mget l k else none := by
 induction l with
 | nil => simp [qV1]
 | cons a l ih =>
  by_cases hp : p a.1 = true
  ·rw [List.filter_cons_of_pos (p := fun q : Ky × β => p q.1) hp,qI,qI,ih]
   by_cases e : k = a.1
   ·subst e; simp [hp]
   ·simp [e]
  ·rw [List.filter_cons_of_neg (p := fun q : Ky × β => p q.1) hp,ih,qI]
   by_cases e : k = a.1
   ·subst e; simp [hp]
   ·simp [e]
theorem filter_rising {β : Type} {l : List (Ky × β)} (h : Rising l) (p : Ky × β → Bool) : Rising (l.filter p) := List.Pairwise.sublist (List.Sublist.map _ List.filter_sublist) h
theorem scanP_eq {n : Nat} {v : VT} (hv : VOk n v) (s : Sp) : qa5 v s = (q93 v.1 (vals v.2.1)).filter fun p => inS s p.1 := by
 refine qO0 (qh0 _ _) (filter_rising (qh0 _ _) _) fun k => ?_
 unfold qa5
 have hb := hv.base.rise
 have hbf := filter_rising hb (fun p => inS s p.1)
 obtain ⟨q1,q2⟩ := filter_own hv.own (fun p => inS s p.1)
 have hnv : ((vals (v.2.1.filter fun p => inS s p.1)).map (·.1)).Nodup := by rw [qF0 q1]; exact q2
 have hnv0 : ((vals v.2.1).map (·.1)).Nodup := by rw [qF0 hv.own.own]; exact hv.own.nd
 rw [qV0,qN0 hnv,qH1 q1 q2,qt3 v.2.1 (inS s),fn_rising hbf,qt3 (q93 v.1 (vals v.2.1)) (inS s),qV0,qN0 hnv0,qH1 hv.own.own hv.own.nd,fn_rising hb,qt3 v.1 (inS s)]
 cases inS s k <;> simp
theorem scan_get {n : Nat} {v : VT} (hv : VOk n v) (s : Sp) (k : Ky) : mget (qa5 v s) k = if inS s k = true then seen v k else none := by
 rw [scanP_eq hv,qt3 _ (inS s),mget_scan_all]
theorem scan_rising {n : Nat} {v : VT} (hv : VOk n v) (s : Sp) : Rising (qa5 v s) := qh0 _ _
theorem scan_len {n : Nat} {v : VT} (hv : VOk n v) (hb : v.1 = []) (s : Sp) : (qa5 v s).length ≤ n := by
 rw [scanP_eq hv]
 have h1 := List.length_filter_le (fun p : Pr => inS s p.1) (q93 v.1 (vals v.2.1))
 have h2 := applyP_len v.1 (vals v.2.1)
 have h3 := hv.own.len
 rw [hb] at h1 h2
 simp only [vals,List.length_map,List.length_nil] at h1 h2
 rw [hb]
 simp only [vals] at h1 ⊢
 omega
def encO (b : By) : Option ByteArray := if tr b = [] then none else some (bm (tr b))
theorem enc_full {b : By} (h : b.length = 32) : pad ((bl ((encO b).getD mt)).take 32) = b := by
 unfold encO
 split
 ·rename_i h0
  rw [Option.getD_none]
  have := tr_nil.1 h0
  rw [h] at this
  rw [this]; rfl
 ·rw [Option.getD_some,bl_bm,List.take_of_length_le (by have := tr_le b; omega),pad_tr h]
theorem enc_zs : encO (zs 32) = none := if_pos (tr_nil.2 rfl)
theorem enc_none {b : By} (h : b.length = 32) (e : encO b = none) : b = zs 32 := by
 unfold encO at e
 split at e
 ·rename_i h0
  have := tr_nil.1 h0
  rw [h] at this
  exact this
 ·cases e
structure CV (n : Nat) (v : VT) (G : Nat → Nat → By) : Prop where
 ok : VOk n v
 base : v.1 = []
 len : ∀ i p,(G i p).length = 32
 at_ : ∀ i p,okP i p → seen v (ckey i p) = encO (G i p)
 no : ∀ k,(∀ i p,okP i p → k ≠ ckey i p) → seen v k = none
theorem CV.mono {n m : Nat} {v : VT} {G : Nat → Nat → By} (h : CV n v G) (hn : n ≤ m) : CV m v G := ⟨h.ok.mono hn,h.base,h.len,h.at_,h.no⟩
theorem CV.rd {n : Nat} {v : VT} {G : Nat → Nat → By} (h : CV n v G) {s : Sp} (hs : spOk s) : CV (n + 1) (rdV v s) G := ⟨h.ok.rd hs,h.base,h.len,h.at_,h.no⟩
theorem CV.new : CV 0 ([],[],[],[]) (fun _ _ => zs 32) := by
 have h0 : VOk 0 ([],[],[],[]) := ⟨⟨List.Pairwise.nil,by simp,by simp⟩,MOk.nil 0,by simp,by simp,by simp,by simp⟩
 refine ⟨h0,rfl,fun _ _ => rfl,fun i p _ => ?_,fun k _ => rfl⟩
 rw [enc_zs]; rfl
def setG (G : Nat → Nat → By) (i p : Nat) (b : By) : Nat → Nat → By := fun j q => if j = i ∧ q = p then b else G j q
def chg (b : By) (i p : Nat) : Cg := if tr b = [] then (ckey i p,mt,true) else (ckey i p,bm (tr b),false)
theorem qW4 (b : By) (i p : Nat) : (chg b i p).1 = ckey i p := by unfold chg; split <;> rfl
theorem chg_norm (b : By) (i p : Nat) : qi3 (chg b i p) = chg b i p := by unfold chg qi3; split <;> rfl
theorem chg_eff (b : By) (i p : Nat) : eff (chg b i p).2 = encO b := by unfold chg eff encO; split <;> rfl
theorem lay_eq (v : VT) {i p : Nat} (h : okP i p) (x : ByteArray) : qe1 v (i : Int) (p : Int) x = some (0,setV v (ckey i p) (chg ((bl x).take 32) i p)) := by
 unfold qe1
 rw [bdO (qU3 h),bdO (trim_eq x)]
 unfold chg
 by_cases h0 : tr ((bl x).take 32) = []
 ·rw [if_pos h0,decide_eq_true (by rw [h0]; rfl),cond_true,delete_eqV]
  rfl
 ·have hne : bm (tr ((bl x).take 32)) ≠ ByteArray.mk #[] := fun e => h0 (bm_inj (b := []) e)
  rw [if_neg h0,decide_eq_false hne,cond_false,put_eqV]
  have hb : badV (bm (tr ((bl x).take 32))) = false := by
   unfold badV
   have h1 := tr_le ((bl x).take 32)
   rw [List.length_take] at h1
   rw [decide_eq_false hne,decide_eq_false (by rw [bm_size]; omega)]
   rfl
  rw [hb]
  rfl
theorem VOk.set' {n : Nat} {v : VT} (h : VOk n v) {k : Ky} {c : Cg} (hc : c.1 = k) (hk : k.length = 24) (hn : qi3 c = c) (hin : k ∈ v.2.1.map (·.1)) : VOk n (setV v k c) := by
 have h1 := h.set hc hk hn
 refine ⟨h.base,⟨h1.own.own,h1.own.nd,?_,h1.own.k24,h1.own.norm⟩,h.rlen,h.rok,h.mlen,h.mok⟩
 have := congrArg List.length (keys_mset v.2.1 k c)
 rw [if_pos hin,List.length_map,List.length_map] at this
 show (mset v.2.1 k c).length ≤ n
 rw [this]
 exact h.own.len
theorem CV.lay_ {n m : Nat} {v : VT} {G : Nat → Nat → By} (h : CV n v G) {i p : Nat} (hp : okP i p) {b : By} (hb : b.length ≤ 32) (hk : VOk m (setV v (ckey i p) (chg b i p))) : CV m (setV v (ckey i p) (chg b i p)) (setG G i p (pad b)) := by
 have hs := seen_set h.ok (qW4 b i p)
 refine ⟨hk,h.base,fun j q => ?_,fun j q hq => ?_,fun k hn => ?_⟩
 ·unfold setG; split
  ·exact pad_len hb
  ·exact h.len j q
 ·rw [hs]
  unfold upd1 setG
  rw [qW4,chg_eff]
  by_cases e : j = i ∧ q = p
  ·obtain ⟨rfl,rfl⟩ := e
   rw [if_pos rfl,if_pos ⟨rfl,rfl⟩]
   unfold encO; rw [tr_pad]
  ·rw [if_neg e,if_neg (fun e' => e (qK4 hq hp e')),h.at_ j q hq]
 ·rw [hs]
  unfold upd1
  rw [qW4,if_neg (hn i p hp)]
  exact h.no k hn
theorem CV.lay {n : Nat} {v : VT} {G : Nat → Nat → By} (h : CV n v G) {i p : Nat} (hp : okP i p) {b : By} (hb : b.length ≤ 32) : CV (n + 1) (setV v (ckey i p) (chg b i p)) (setG G i p (pad b)) :=
 h.lay_ hp hb (h.ok.set (qW4 b i p) (qZ3 i p) (chg_norm b i p))
theorem CV.layIn {n : Nat} {v : VT} {G : Nat → Nat → By} (h : CV n v G) {i p : Nat} (hp : okP i p) {b : By} (hb : b.length ≤ 32) (hin : ckey i p ∈ v.2.1.map (·.1)) : CV n (setV v (ckey i p) (chg b i p)) (setG G i p (pad b)) :=
 h.lay_ hp hb (h.ok.set' (qW4 b i p) (qZ3 i p) (chg_norm b i p) hin)
theorem seen_own {n : Nat} {v : VT} (h : VOk n v) {k : Ky} {c : Cg} (hg : mget v.2.1 k = some c) : seen v k = eff c.2 := by
 unfold seen
 rw [qN0 (by rw [qF0 h.own.own]; exact h.own.nd),qH1 h.own.own h.own.nd,hg]
 rfl
theorem seen_base {n : Nat} {v : VT} (h : VOk n v) (hb : v.1 = []) {k : Ky} (hg : mget v.2.1 k = none) : seen v k = none := by
 unfold seen
 rw [qN0 (by rw [qF0 h.own.own]; exact h.own.nd),qH1 h.own.own h.own.nd,hg,hb]
 rfl
theorem CV.get {n : Nat} {v : VT} {G : Nat → Nat → By} (h : CV n v G) (hn : n ≤ 900000) {k : Ky} (hk : k.length = 24) : ∃ (is : Bool) (v1 : VT),q40 v k = some ((seen v k).getD mt,is,0,v1) ∧ CV (n + 1) v1 G ∧ v1.2.1 = v.2.1 := by
 cases hg : mget v.2.1 k with
 | some c =>
  refine ⟨!c.2.2,v,?_,h.mono (by omega),rfl⟩
  rw [get_own v k hg,seen_own h.ok hg]
  have hc := h.ok.own.norm _ (ql1 hg)
  unfold eff
  unfold qi3 at hc
  split
  ·rename_i e
   rw [if_pos e] at hc
   have hc1 : c.2.1 = mt := (congrArg (fun q : Cg => q.2.1) hc).symm
   rw [hc1]; rfl
  ·rfl
 | none =>
  obtain ⟨s,h1,h2⟩ := keyOne_ex k hk
  refine ⟨(mget v.1 k).isSome,rdV v s,?_,h.rd (h2.ok hk),rfl⟩
  rw [get_base h.ok hn k h1 hg,seen_base h.ok h.base hg,h.base]
  rfl
theorem CV.scan_in {n : Nat} {v : VT} {G : Nat → Nat → By} (h : CV n v G) {k : Ky} {x : ByteArray} (hs : seen v k = some x) : k ∈ v.2.1.map (·.1) := by
 apply Classical.byContradiction
 intro hn
 have := seen_base h.ok h.base (q50.2 hn)
 rw [this] at hs; cases hs
end Go.Val
namespace Go.Val
open Go.Lib
def ov (b : By) (o : Nat) (d : By) : By := b.take o ++ (d ++ b.drop (o + d.length))
theorem ov_len {b d : By} {o : Nat} (hb : b.length = 32) (h : o + d.length ≤ 32) : (ov b o d).length = 32 := by
 unfold ov; simp only [List.length_append,List.length_take,List.length_drop]; omega
theorem ov_get {b d : By} {o : Nat} (hb : b.length = 32) (h : o + d.length ≤ 32) (x : Nat) : ((ov b o d)[x]?).getD 0 = if o ≤ x ∧ x < o + d.length then (d[x - o]?).getD 0 else (b[x]?).getD 0 := by
 unfold ov
 rw [List.getElem?_append,List.length_take]
 by_cases h1 : x < o
 ·rw [if_pos (by omega),if_neg (by omega),List.getElem?_take,if_pos h1]
 ·rw [if_neg (by omega),List.getElem?_append]
  have e : x - min o b.length = x - o := by omega
  rw [e]
  by_cases h2 : x < o + d.length
  ·rw [if_pos (by omega),if_pos (by omega)]
  ·rw [if_neg (by omega),if_neg (by omega),List.getElem?_drop]
   have e2 : o + d.length + (x - o - d.length) = x := by omega
   rw [e2]
theorem pad_id {b : By} (h : b.length = 32) : pad b = b := by
 unfold pad zs; rw [h,Nat.sub_self]; exact List.append_nil b
def addK (l : List Ky) (k : Ky) : List Ky := if k ∈ l then l else l ++ [k]
theorem mem_addK {l : List Ky} {k j : Ky} : j ∈ addK l k ↔ j ∈ l ∨ j = k := by
 unfold addK; split
 ·constructor
  ·exact Or.inl
  ·rintro (h | rfl) <;> assumption
 ·simp
theorem set_keys (v : VT) (k : Ky) (c : Cg) : (setV v k c).2.1.map (·.1) = addK (v.2.1.map (·.1)) k := by
 have h := keys_mset v.2.1 k c
 unfold addK
 by_cases e : k ∈ v.2.1.map (·.1)
 ·rw [if_pos e]; rw [if_pos e] at h; exact h
 ·rw [if_neg e]; rw [if_neg e] at h; exact h
theorem body_ok {n : Nat} {v : VT} {G : Nat → Nat → By} {i p o c : Nat} {x : ByteArray} (h : CV n v G) (hn : n ≤ 900000) (hp : okP i p) (hc : 0 < c) (ho : o + c ≤ 32) (hx : c ≤ x.size) : ∃ v',qQ (i : Int) v x ((p : Int),(o : Int),(c : Int)) = some (v',x.extract c x.size) ∧ CV (n + 2) v' (setG G i p (ov (G i p) o ((bl x).take c))) ∧ v'.2.1.map (·.1) = addK (v.2.1.map (·.1)) (ckey i p) ∧ (c = 32 → v'.2.2.1 = v.2.2.1) := by
 have hxl : (bl x).length = x.size := rfl
 have htk : ((bl x).take c).length = c := by rw [List.length_take]; omega
 have hg := h.len i p
 have hol := ov_len (o := o) (d := (bl x).take c) hg (by omega)
 have e0 : bl (x.extract 0 c) = (bl x).take c := by rw [qt0,List.drop_zero]
 unfold qQ
 simp only [Int.toNat_natCast]
 rw [bdO (qX (by omega)),bdO (qX (by omega))]
 by_cases h32 : c < 32
 ·obtain ⟨is,v1,e1,h1,k1⟩ := h.get hn (qZ3 i p)
  have hlt : decide ((c : Int) < 32) = true := decide_eq_true (by omega)
  rw [hlt,cond_true,bdO (qU3 hp),bdO e1]
  have h00 : decide ((0 : Int) ≠ 0) = false := by decide
  simp only [h00,cond_false]
  rw [h.at_ i p hp,bdO (full_eq _),enc_full hg]
  have hs : (bm (G i p)).size = 32 := by rw [bm_size,hg]
  have hw : IntKind.wrap .i64 ((o : Int) + (c : Int)) = ((o + c : Nat) : Int) := by rw [wI64 (by omega)]; omega
  have s1 : bl ((bm (G i p)).extract 0 o) = (G i p).take o := by rw [qt0,bl_bm,List.drop_zero]
  have s2 : bl ((bm (G i p)).extract (o + c) 32) = (G i p).drop (o + c) := by rw [qt0,bl_bm,List.take_of_length_le (by omega)]
  have z1 : ((bm (G i p)).extract 0 o).size = o := by rw [← qc3,s1,List.length_take]; omega
  have z2 : (x.extract 0 c).size = c := by rw [← qc3,e0,htk]
  have z3 : ((bm (G i p)).extract (o + c) 32).size = 32 - (o + c) := by rw [← qc3,s2,List.length_drop]; omega
  have z4 : ((bm (G i p)).extract 0 o ++ x.extract 0 c).size = o + c := by rw [← qc3,qp2,s1,e0,List.length_append,htk,List.length_take]; omega
  have z5 : (((bm (G i p)).size : Nat) : Int).toNat = 32 := by rw [hs]; rfl
  rw [hw,bdO (qX (by rw [hs]; omega)),bdO (qE2 (by rw [z1,z2]; omega)),bdO (qX (by rw [hs]; omega))]
  simp only [Int.toNat_natCast,hs]
  rw [bdO (qE2 (by rw [z4,z3]; omega))]
  have hb : bl (((bm (G i p)).extract 0 o ++ x.extract 0 c) ++ (bm (G i p)).extract (o + c) 32) = ov (G i p) o ((bl x).take c) := by
   rw [qp2,qp2,s1,s2,e0]
   unfold ov
   rw [htk,List.append_assoc]
  simp only [Option.bind_some]
  rw [bdO (lay_eq v1 hp _),hb,List.take_of_length_le (by omega)]
  simp only [h00,cond_false]
  refine ⟨_,rfl,?_,?_,fun e => by omega⟩
  ·have := h1.lay hp (b := ov (G i p) o ((bl x).take c)) (by omega)
   rw [pad_id hol] at this
   exact this
  ·rw [set_keys,k1]
 ·have hlt : decide ((c : Int) < 32) = false := decide_eq_false (by omega)
  have h00 : decide ((0 : Int) ≠ 0) = false := by decide
  have ec : c = 32 := by omega
  have eo : o = 0 := by omega
  subst ec; subst eo
  rw [hlt,cond_false]
  simp only [Option.bind_some]
  rw [bdO (lay_eq v hp _),e0,List.take_of_length_le (by omega)]
  simp only [h00,cond_false]
  refine ⟨_,rfl,?_,?_,fun _ => rfl⟩
  ·have := (h.lay hp (b := (bl x).take 32) (by omega)).mono (m := n + 2) (by omega)
   rw [pad_id htk] at this
   have eo : ov (G i p) 0 ((bl x).take 32) = (bl x).take 32 := by
    unfold ov
    rw [htk,List.take_zero,List.nil_append,List.drop_of_length_le (by omega),List.append_nil]
   rw [eo]
   exact this
  ·rw [set_keys]
def byt (G : Nat → Nat → By) (i x : Nat) : UInt8 := ((G i (x / 32))[x % 32]?).getD 0
theorem byt_set {G : Nat → Nat → By} (hG : ∀ i p,(G i p).length = 32) {i p o : Nat} {d : By} (h : o + d.length ≤ 32) (x : Nat) : byt (setG G i p (ov (G i p) o d)) i x = if 32 * p + o ≤ x ∧ x < 32 * p + o + d.length then (d[x - (32 * p + o)]?).getD 0 else byt G i x := by
 unfold byt setG
 by_cases e : x / 32 = p
 ·rw [if_pos ⟨rfl,e⟩,ov_get (hG i p) h]
  by_cases h1 : o ≤ x % 32 ∧ x % 32 < o + d.length
  ·rw [if_pos h1,if_pos (by omega)]
   have : x % 32 - o = x - (32 * p + o) := by omega
   rw [this]
  ·rw [if_neg h1,if_neg (by omega),e]
 ·rw [if_neg (by omega),if_neg (by omega)]
def pcs (off m : Nat) : Nat := if m = 0 then 0 else (off % 32 + m + 31) / 32
theorem piece_eq {off m : Nat} (h : off + m ≤ 1048576) : qI3 (off : Int) (m : Int) = (((off / 32 : Nat) : Int),((off % 32 : Nat) : Int),((min m (32 - off % 32) : Nat) : Int)) := by
 have e1 : Int.tdiv (off : Int) 32 = ((off / 32 : Nat) : Int) := rfl
 have e2 : Int.tmod (off : Int) 32 = ((off % 32 : Nat) : Int) := rfl
 unfold qI3
 rw [e1,e2,wI64 (by omega),wI64 (by omega)]
 refine congrArg (Prod.mk _) (congrArg (Prod.mk _) ?_)
 omega
theorem step_of {i off m : Nat} (hm : 0 < m) (h : off + m ≤ 1048576) {x : ByteArray} {v v' : VT} (hb : qQ (i : Int) v x (((off / 32 : Nat) : Int),((off % 32 : Nat) : Int),((min m (32 - off % 32) : Nat) : Int)) = some (v',x.extract (min m (32 - off % 32)) x.size)) : qS (i : Int) ((v,x),(off : Int),(m : Int)) = some (.inl ((v',x.extract (min m (32 - off % 32)) x.size),((off + min m (32 - off % 32) : Nat) : Int),((m - min m (32 - off % 32) : Nat) : Int))) := by
 unfold qS
 simp only
 rw [piece_eq h,decide_eq_true (show (m : Int) > 0 by omega),cond_true,bdO hb]
 simp only
 rw [wI64 (by omega),wI64 (by omega)]
 congr 3
 refine congr (congrArg Prod.mk ?_) ?_ <;> omega
theorem stop_of {i off : Nat} {x : ByteArray} {v : VT} : qS (i : Int) ((v,x),(off : Int),((0 : Nat) : Int)) = some (.inr ((v,x),(off : Int),((0 : Nat) : Int))) := rfl
structure Wrote (n : Nat) (v : VT) (G : Nat → Nat → By) (i off : Nat) (d : By) (v' : VT) (G' : Nat → Nat → By) : Prop where
 cv : CV (n + 2 * pcs off d.length) v' G'
 byt : ∀ x,byt G' i x = if off ≤ x ∧ x < off + d.length then (d[x - off]?).getD 0 else byt G i x
 oth : ∀ j,j ≠ i → G' j = G j
 keys : ∀ k,k ∈ v'.2.1.map (·.1) ↔ k ∈ v.2.1.map (·.1) ∨ ∃ p,k = ckey i p ∧ 0 < d.length ∧ 32 * p < off + d.length ∧ off < 32 * p + 32
 reads : off % 32 = 0 → d.length % 32 = 0 → v'.2.2.1 = v.2.2.1
theorem loop_ok {i : Nat} (hi : 1 ≤ i ∧ i < 1073741824) : ∀ (m : Nat) {n off : Nat} {v : VT} {G : Nat → Nat → By} {x : ByteArray},CV n v G → n + 2 * pcs off m ≤ 900000 → x.size = m → off + m ≤ 1048576 → ∃ o G',qA (V := (CVT × ByteArray) × Int × Int) (O := (CVT × ByteArray) × Int × Int) (qS (i : Int)) ((v,x),(off : Int),(m : Int)) = some o ∧ Wrote n v G i off (bl x) o.1.1 G' := by
 intro m
 induction m using Nat.strongRecOn with
 | ind m ih =>
 intro n off v G x h hn hx hoff
 rw [qq0]
 have hxl : (bl x).length = m := hx
 by_cases h0 : m = 0
 ·subst h0
  rw [bdO stop_of]
  refine ⟨_,G,rfl,h.mono (by omega),fun y => ?_,fun _ _ => rfl,fun k => ?_,fun _ _ => rfl⟩
  ·rw [if_neg (by omega)]
  ·rw [hxl]; simp
 ·have hp : okP i (off / 32) := ⟨hi,by omega⟩
  have hpc : pcs off m = (off % 32 + m + 31) / 32 := if_neg h0
  have hcpos : 0 < min m (32 - off % 32) := by omega
  obtain ⟨v1,e1,h1,k1,r1⟩ := body_ok h (by omega) hp (o := off % 32) (c := min m (32 - off % 32)) (x := x) hcpos (by omega) (by omega)
  rw [bdO (step_of (by omega) hoff e1)]
  simp only
  have hpc2 : pcs (off + min m (32 - off % 32)) (m - min m (32 - off % 32)) + 1 ≤ pcs off m := by
   rw [hpc]; unfold pcs
   split <;> omega
  have hb : bl (x.extract (min m (32 - off % 32)) x.size) = (bl x).drop (min m (32 - off % 32)) := by
   rw [qt0,List.take_of_length_le (by omega)]
  have hsz : (x.extract (min m (32 - off % 32)) x.size).size = m - min m (32 - off % 32) := by
   rw [← qc3,hb,List.length_drop]; omega
  obtain ⟨o,G',e2,w⟩ := ih _ (by omega) (off := off + min m (32 - off % 32)) h1 (by omega) hsz (by omega)
  refine ⟨o,G',e2,?_,fun y => ?_,fun j hj => ?_,fun k => ?_,fun a b => ?_⟩
  ·have := w.cv
   rw [hb,List.length_drop,hxl] at this
   exact this.mono (by rw [hxl]; omega)
  ·rw [w.byt,hb,List.length_drop,hxl,byt_set h.len (by rw [List.length_take]; omega),List.length_take,hxl]
   by_cases a1 : off + min m (32 - off % 32) ≤ y ∧ y < off + min m (32 - off % 32) + (m - min m (32 - off % 32))
   ·rw [if_pos a1,if_pos (by omega),List.getElem?_drop]
    congr 2
    omega
   ·rw [if_neg a1]
    by_cases a2 : off ≤ y ∧ y < off + m
    ·rw [if_pos a2,if_pos (by omega),List.getElem?_take,if_pos (by omega)]
     congr 2
     omega
    ·rw [if_neg a2,if_neg (by omega)]
  ·rw [w.oth j hj]
   funext p
   exact if_neg (by omega)
  ·rw [w.keys,k1,mem_addK,hb,List.length_drop,hxl]
   constructor
   ·rintro ((a | a) | ⟨p,a1,a2,a3,a4⟩)
    ·exact .inl a
    ·exact .inr ⟨_,a,by omega,by omega,by omega⟩
    ·exact .inr ⟨p,a1,by omega,by omega,by omega⟩
   ·rintro (a | ⟨p,a1,a2,a3,a4⟩)
    ·exact .inl (.inl a)
    ·by_cases e : p = off / 32
     ·subst e; exact .inl (.inr a1)
     ·exact .inr ⟨p,a1,by omega,by omega,by omega⟩
  ·have hd : (bl (x.extract (min m (32 - off % 32)) x.size)).length = m - min m (32 - off % 32) := hsz
   rw [hxl] at b
   rw [w.reads (by omega) (by rw [hd]; omega),r1 (by omega)]
theorem write_eq {i off n : Nat} {x : ByteArray} {v : VT} {G : Nat → Nat → By} (hi : 1 ≤ i ∧ i < 1073741824) (h : CV n v G) (hn : n + 2 * pcs off x.size ≤ 900000) (hoff : off + x.size ≤ 1048576) : ∃ v' G',qM v (i : Int) (off : Int) x = some (0,v') ∧ Wrote n v G i off (bl x) v' G' := by
 obtain ⟨o,G',e,w⟩ := loop_ok hi x.size h hn rfl hoff
 refine ⟨o.1.1,G',?_,w⟩
 unfold qM
 rw [bdO (may_eq _ _ _),decide_eq_true (by omega),Bool.not_true,cond_false,bdO e]
theorem write_bad {i off : Int} {x : ByteArray} {v : VT} (h : ¬ ((1 ≤ i ∧ i < 1073741824) ∧ 0 ≤ off ∧ off ≤ 1048576 ∧ x.size ≤ 1048576 - off)) : qM v i off x = some (1,v) := by
 unfold qM
 rw [bdO (may_eq _ _ _),decide_eq_false (by omega)]
 rfl
end Go.Val
namespace Go.Val
open Go.Lib
theorem cpB_get (l b : By) (x : Nat) (hb : b.length ≤ l.length) : ((cpB l b)[x]?).getD 0 = if x < b.length then (b[x]?).getD 0 else (l[x]?).getD 0 := by
 unfold cpB
 rw [List.take_of_length_le hb,List.getElem?_append]
 split
 ·rfl
 ·rw [List.getElem?_drop]; congr 2; omega
theorem into_get (l b : By) (n x : Nat) (hb : n + b.length ≤ l.length) : ((l.take n ++ cpB (l.drop n) b)[x]?).getD 0 = if n ≤ x ∧ x < n + b.length then (b[x - n]?).getD 0 else (l[x]?).getD 0 := by
 rw [List.getElem?_append,List.length_take]
 by_cases h : x < n
 ·rw [if_pos (by omega),if_neg (by omega),List.getElem?_take,if_pos h]
 ·rw [if_neg (by omega),cpB_get _ _ _ (by rw [List.length_drop]; omega)]
  have e : x - min n l.length = x - n := by omega
  rw [e]
  by_cases h2 : x < n + b.length
  ·rw [if_pos (by omega),if_pos (by omega)]
  ·rw [if_neg (by omega),if_neg (by omega),List.getElem?_drop]; congr 2; omega
theorem into_len (l b : By) (n : Nat) (hn : n ≤ l.length) : (l.take n ++ cpB (l.drop n) b).length = l.length := by
 rw [List.length_append,cpB_len,List.length_take,List.length_drop]; omega
def rng (G : Nat → Nat → By) (i off m : Nat) : By := (List.range m).map fun x => byt G i (off + x)
theorem rng_len (G : Nat → Nat → By) (i off m : Nat) : (rng G i off m).length = m := by unfold rng; rw [List.length_map,List.length_range]
theorem rng_get (G : Nat → Nat → By) (i off m x : Nat) (h : x < m) : (rng G i off m)[x]? = some (byt G i (off + x)) := by
 unfold rng
 rw [List.getElem?_map,List.getElem?_range h]; rfl
theorem rng_of {G : Nat → Nat → By} {i off m : Nat} {l : By} (hl : l.length = m) (h : ∀ x,x < m → (l[x]?).getD 0 = byt G i (off + x)) : l = rng G i off m := by
 refine List.ext_getElem (by rw [rng_len,hl]) fun x h1 h2 => ?_
 have hx : x < m := by omega
 have e1 := h x hx
 have e2 := rng_get G i off m x hx
 rw [List.getElem?_eq_getElem h1] at e1
 rw [List.getElem?_eq_getElem h2] at e2
 exact e1.trans (Option.some.inj e2).symm
theorem CV.pair {n : Nat} {v : VT} {G : Nat → Nat → By} (h : CV n v G) {s : Sp} {p : Ky × ByteArray} (hm : p ∈ qa5 v s) : ∃ i q,okP i q ∧ p = (ckey i q,bm (tr (G i q))) ∧ tr (G i q) ≠ [] ∧ inS s (ckey i q) = true := by
 have hg := qp1 (scan_rising h.ok s).nodup (show (p.1,p.2) ∈ qa5 v s from hm)
 rw [scan_get h.ok] at hg
 split at hg
 ·rename_i hs
  have : ∃ i q,okP i q ∧ p.1 = ckey i q := by
   apply Classical.byContradiction
   intro hn
   have := h.no p.1 fun i q hq e => hn ⟨i,q,hq,e⟩
   rw [this] at hg; cases hg
  obtain ⟨i,q,hq,e⟩ := this
  rw [e,h.at_ i q hq] at hg
  unfold encO at hg
  split at hg
  ·cases hg
  ·rename_i h0
   refine ⟨i,q,hq,?_,h0,e ▸ hs⟩
   rw [← e,Option.some.inj hg]
 ·cases hg
theorem CV.sees {n : Nat} {v : VT} {G : Nat → Nat → By} (h : CV n v G) {s : Sp} {i q : Nat} (hq : okP i q) (hs : inS s (ckey i q) = true) (hm : ckey i q ∉ (qa5 v s).map (·.1)) : G i q = zs 32 := by
 refine enc_none (h.len i q) ?_
 rw [← h.at_ i q hq]
 have := scan_get h.ok s (ckey i q)
 rw [if_pos hs] at this
 rw [← this]
 exact q50.2 hm
theorem zs_get (n x : Nat) : ((zs n)[x]?).getD 0 = 0 := by
 unfold zs
 rw [List.getElem?_replicate]
 split <;> rfl
theorem byt_zs {G : Nat → Nat → By} {i x : Nat} (h : G i (x / 32) = zs 32) : byt G i x = 0 := by
 unfold byt; rw [h]; exact zs_get _ _
def readS (i off m : Nat) : Sp := (ckey i (off / 32),ckey i ((off + m + 31) / 32),false)
set_option maxRecDepth 100000 in
theorem cread_eq {i off m n : Nat} {v : VT} {G : Nat → Nat → By} (hi : 1 ≤ i ∧ i < 1073741824) (h : CV n v G) (hn : n ≤ 400000) (hoff : off + m ≤ 1048576) : ∃ v',qP v (i : Int) (off : Int) (m : Int) = some (bm (rng G i off m),0,v') ∧ CV (n + 1) v' G ∧ v'.2.1 = v.2.1 ∧ v' = (if m = 0 then v else rdV v (readS i off m)) := by
 unfold qP
 rw [bdO (may_eq _ _ _),decide_eq_true (by omega),Bool.not_true,cond_false]
 by_cases h0 : m = 0
 ·subst h0
  exact ⟨v,rfl,h.mono (by omega),rfl,rfl⟩
 rw [decide_eq_false (show ¬ ((m : Int) = 0) by omega),cond_false,if_neg h0]
 have e1 : IntKind.wrap .i64 (Int.tdiv (off : Int) 32) = ((off / 32 : Nat) : Int) := by
  have : Int.tdiv (off : Int) 32 = ((off / 32 : Nat) : Int) := rfl
  rw [this,wI64 (by omega)]
 have e2 : IntKind.wrap .i64 (Int.tdiv (IntKind.wrap .i64 ((IntKind.wrap .i64 ((IntKind.wrap .i64 ((off : Int) + (m : Int))) + 32)) - 1)) 32) = (((off + m + 31) / 32 : Nat) : Int) := by
  rw [wI64 (n := (off : Int) + (m : Int)) (by omega),wI64 (n := (off : Int) + (m : Int) + 32) (by omega),wI64 (n := (off : Int) + (m : Int) + 32 - 1) (by omega)]
  have : Int.tdiv ((off : Int) + (m : Int) + 32 - 1) 32 = (((off + m + 31) / 32 : Nat) : Int) := by
   have e : (off : Int) + (m : Int) + 32 - 1 = ((off + m + 31 : Nat) : Int) := by omega
   rw [e]; rfl
  rw [this,wI64 (by omega)]
 generalize ha : off / 32 = a at e1
 generalize hb : (off + m + 31) / 32 = b at e2
 have hpa : okP i a := ⟨hi,by omega⟩
 have hpb : okP i b := ⟨hi,by omega⟩
 simp only [e1,e2]
 rw [bdO (qU3 hpa),bdO (qU3 hpb)]
 simp only
 have hS : readS i off m = (ckey i a,ckey i b,false) := by unfold readS; rw [ha,hb]
 have hown : (rdV v (ckey i a,ckey i b,false)).2.1 = v.2.1 := rfl
 rw [hS,bdO (scan_eq h.ok hn _)]
 have h00 : decide ((0 : Int) ≠ 0) = false := by decide
 simp only [h00,cond_false]
 have e3 : IntKind.wrap .i64 (32 * IntKind.wrap .i64 ((b : Int) - (a : Int))) = ((32 * (b - a) : Nat) : Int) := by
  rw [wI64 (n := (b : Int) - (a : Int)) (by omega),wI64 (by omega)]; omega
 rw [e3,bdO (qE2 (by omega))]
 have hcv := h.rd (s := (ckey i a,ckey i b,false)) ⟨rfl,rfl⟩
 generalize hxs : qa5 v (ckey i a,ckey i b,false) = xs
 generalize rdV v (ckey i a,ckey i b,false) = vr at hcv hown ⊢
 rw [Int.toNat_natCast]
 have hloop := qn3 (body := fun (v211 : Int × By) =>
      cond (decide (v211.1 < (xs.length : Int))) (
       (gx xs v211.1).bind fun x218 =>
       (qY3 x218.1).bind fun x221 =>
       (((
        cond (!x221.2) (
         some true
        ) (
         cond (decide (x221.1.2.2.2 < (a : Int))) (
          some true
         ) (
          some (decide (x221.1.2.2.2 ≥ (b : Int)))
         )
        )
       ) : Option Bool)).bind fun o230 =>
       cond o230 (
        some (Sum.inr (Sum.inr ((ByteArray.mk #[],(12 : Int),vr)) : By ⊕ (ByteArray × Int × VT)))
       ) (
        (ck (decide (0 ≤ (IntKind.wrap .i64 (32 * (IntKind.wrap .i64 (x221.1.2.2.2 - (a : Int))))) ∧ (IntKind.wrap .i64 (32 * (IntKind.wrap .i64 (x221.1.2.2.2 - (a : Int))))).toNat ≤ v211.2.length))).bind fun _ =>
        (qc1 x218.2).bind fun x246 =>
        some (Sum.inl ((IntKind.wrap .i64 (v211.1 + 1)),(List.take (IntKind.wrap .i64 (32 * (IntKind.wrap .i64 (x221.1.2.2.2 - (a : Int))))).toNat v211.2 ++ cpB (List.drop (IntKind.wrap .i64 (32 * (IntKind.wrap .i64 (x221.1.2.2.2 - (a : Int))))).toNat v211.2) x246.data.toList)))
       )
      ) (
       some (Sum.inr (Sum.inl v211.2))
      )) xs.length (fun j (B : By) => ((j : Int),B)) (fun j B => B.length = 32 * (b - a) ∧ ∀ y,y < 32 * (b - a) → (B[y]?).getD 0 = if ckey i (a + y / 32) ∈ (xs.take j).map (·.1) then byt G i (32 * a + y) else 0) (fun B => Sum.inl B) (List.replicate (32 * (b - a)) (0 : UInt8)) ⟨List.length_replicate,fun y hy => by
   rw [List.take_zero]
   exact zs_get (32 * (b - a)) y⟩ (fun j hj B hJ => ?_) (fun B hJ => by
   simp only [lt_nat,decide_eq_false (Nat.lt_irrefl _),cond_false])
 ·obtain ⟨B,⟨hB,hall⟩,hw⟩ := hloop
  simp only [Int.natCast_zero] at hw
  rw [bdO hw]
  simp only [Sum.elim_inl]
  have e4 : IntKind.wrap .i64 ((off : Int) - IntKind.wrap .i64 (32 * (a : Int))) = ((off % 32 : Nat) : Int) := by
   rw [wI64 (n := 32 * (a : Int)) (by omega),wI64 (by omega)]; omega
  rw [e4,wI64 (n := ((off % 32 : Nat) : Int) + (m : Int)) (by omega),bdO (qX (by omega))]
  refine ⟨vr,?_,hcv,hown,rfl⟩
  ·congr 2
   unfold qi1 bm
   congr 2
   have hpl : (qm0 B ((off % 32 : Nat) : Int) (((off % 32 : Nat) : Int) + (m : Int))).length = m := by
    unfold qm0
    rw [List.length_drop,List.length_take]; omega
   refine rng_of hpl fun x hx => ?_
   unfold qm0
   have ee : (((off % 32 : Nat) : Int) + (m : Int)).toNat = off % 32 + m := by omega
   rw [ee,Int.toNat_natCast,List.getElem?_drop,List.getElem?_take,if_pos (by omega),hall _ (by omega)]
   have ex : 32 * a + (off % 32 + x) = off + x := by omega
   rw [ex]
   split
   ·rfl
   ·rename_i hk
    rw [List.take_length,← hxs] at hk
    have hq : okP i (a + (off % 32 + x) / 32) := ⟨hi,by omega⟩
    have := h.sees hq (by rw [qt4 hpa hpb hq]; exact decide_eq_true (by omega)) hk
    have eq : a + (off % 32 + x) / 32 = (off + x) / 32 := by omega
    rw [eq] at this
    exact (byt_zs this).symm
 ·obtain ⟨hB,hall⟩ := hJ
  have hmem : xs[j] ∈ qa5 v (ckey i a,ckey i b,false) := by rw [hxs]; exact List.getElem_mem hj
  obtain ⟨i',q,hq,ep,hne,hs⟩ := h.pair hmem
  rw [qt4 hpa hpb hq,decide_eq_true_eq] at hs
  obtain ⟨e,h1,h2⟩ := hs
  rw [e] at hq ep hne
  have hlen : (G i q).length = 32 := h.len i q
  have hof : qY3 xs[j].1 = some (((i : Int),3,mt,(q : Int)),true) := by rw [ep]; exact Of_eq hq
  have hfull : qc1 xs[j].2 = some (bm (G i q)) := by
   rw [ep,full_eq,bl_bm,List.take_of_length_le (by have := tr_le (G i q); omega),pad_tr hlen]
  have w1 : IntKind.wrap .i64 (32 * IntKind.wrap .i64 ((q : Int) - (a : Int))) = ((32 * (q - a) : Nat) : Int) := by
   rw [wI64 (n := (q : Int) - (a : Int)) (by omega),wI64 (by omega)]; omega
  have d1 : decide ((q : Int) < (a : Int)) = false := decide_eq_false (by omega)
  have d2 : decide ((q : Int) ≥ (b : Int)) = false := decide_eq_false (by omega)
  have c1 : ck (decide (0 ≤ ((32 * (q - a) : Nat) : Int) ∧ 32 * (q - a) ≤ B.length)) = some () := qE2 (by omega)
  have hjl : xs.length ≤ 400000 := by
   rw [← hxs]
   have := scan_len h.ok h.base (ckey i a,ckey i b,false)
   omega
  simp only [ilt hj,cond_true,q20 hj,Option.bind_some,hof,Bool.not_true,cond_false,d1,d2,w1,Int.toNat_natCast,c1,hfull,wSu (show j < 9223372036854775807 by omega)]
  have hbl : (bm (G i q)).data.toList = G i q := rfl
  refine ⟨_,rfl,?_,fun y hy => ?_⟩
  ·rw [hbl,into_len _ _ _ (by omega)]; exact hB
  ·rw [hbl,into_get _ _ _ _ (by omega),hlen]
   have htk : xs.take (j + 1) = xs.take j ++ [xs[j]] := by rw [List.take_add_one,List.getElem?_eq_getElem hj]; rfl
   have hk1 : xs[j].1 = ckey i q := by rw [ep]
   have hoy : okP i (a + y / 32) := ⟨hi,by omega⟩
   have hin : ckey i (a + y / 32) ∈ (xs.take (j + 1)).map (·.1) ↔ ckey i (a + y / 32) ∈ (xs.take j).map (·.1) ∨ a + y / 32 = q := by
    rw [htk,List.map_append,List.mem_append]
    simp only [List.map_cons,List.map_nil,List.mem_singleton,hk1]
    constructor
    ·rintro (a | a)
     ·exact .inl a
     ·exact .inr (qK4 hoy hq a).2
    ·rintro (a | a)
     ·exact .inl a
     ·exact .inr (by rw [a])
   by_cases hc : 32 * (q - a) ≤ y ∧ y < 32 * (q - a) + 32
   ·rw [if_pos hc,if_pos (hin.2 (.inr (by omega)))]
    unfold byt
    have e1 : (32 * a + y) / 32 = q := by omega
    have e2 : (32 * a + y) % 32 = y - 32 * (q - a) := by omega
    rw [e1,e2]
   ·rw [if_neg hc,hall y hy]
    by_cases hm : ckey i (a + y / 32) ∈ (xs.take j).map (·.1)
    ·rw [if_pos hm,if_pos (hin.2 (.inl hm))]
    ·rw [if_neg hm,if_neg (fun h => (hin.1 h).elim hm fun h => absurd h (by omega))]
end Go.Val
namespace Go.Val
open Go.Lib
def cutc (b : By) (k : Nat) : By := b.take k ++ zs (32 - k)
theorem cutc_len {b : By} {k : Nat} (hb : b.length = 32) (hk : k ≤ 32) : (cutc b k).length = 32 := by
 unfold cutc zs
 rw [List.length_append,List.length_take,List.length_replicate]; omega
theorem cutc_get {b : By} {k : Nat} (hb : b.length = 32) (hk : k ≤ 32) (x : Nat) : ((cutc b k)[x]?).getD 0 = if x < k then (b[x]?).getD 0 else 0 := by
 unfold cutc
 rw [List.getElem?_append,List.length_take]
 by_cases h : x < k
 ·rw [if_pos (by omega),if_pos h,List.getElem?_take,if_pos h]
 ·rw [if_neg (by omega),if_neg h]; exact zs_get _ _
theorem cutc_zs {k : Nat} (hk : k ≤ 32) : cutc (zs 32) k = zs 32 := by
 unfold cutc zs
 rw [List.take_replicate,List.replicate_append_replicate]
 congr 1; omega
theorem take_zs (n k : Nat) : (zs n).take k = zs (min k n) := List.take_replicate
theorem tr_take {b : By} {k : Nat} : tr ((tr b).take k) = tr (cutc b k) := by
 have e := tr_split b
 have e2 : b.take k = (tr b).take k ++ zs (min (k - (tr b).length) (b.length - (tr b).length)) := by
  conv => lhs; rw [e]
  rw [List.take_append,take_zs]
 unfold cutc
 rw [tr_zs,e2,tr_zs]
def kpOf (size q : Nat) : Nat := if q = size / 32 then size % 32 else 0
theorem kp_le (size q : Nat) : kpOf size q ≤ 32 := by unfold kpOf; split <;> omega
structure Cutt (n : Nat) (v : VT) (G : Nat → Nat → By) (i size : Nat) (v' : VT) (G' : Nat → Nat → By) : Prop where
 cv : CV (n + 1) v' G'
 chunks : ∀ j q,okP j q → G' j q = if j = i ∧ size / 32 ≤ q then cutc (G i q) (kpOf size q) else G j q
 keys : v'.2.1.map (·.1) = v.2.1.map (·.1)
 reads : v'.2.2.1 = (rdV v (ckey i (size / 32),qU4 i,false)).2.2.1
set_option maxRecDepth 100000 in
theorem cut_eq {i size n : Nat} {v : VT} {G : Nat → Nat → By} (hi : 1 ≤ i ∧ i < 1073741824) (h : CV n v G) (hn : n ≤ 400000) (hoff : size ≤ 1048576) : ∃ v' G',qp0 v (i : Int) (size : Int) = some (0,v') ∧ Cutt n v G i size v' G' := by
 unfold qp0
 rw [bdO (may_eq _ _ _),decide_eq_true (by omega),Bool.not_true,cond_false]
 have e1 : IntKind.wrap .i64 (Int.tdiv (size : Int) 32) = ((size / 32 : Nat) : Int) := by
  have : Int.tdiv (size : Int) 32 = ((size / 32 : Nat) : Int) := rfl
  rw [this,wI64 (by omega)]
 have e2 : Int.tmod (size : Int) 32 = ((size % 32 : Nat) : Int) := rfl
 have hpa : okP i (size / 32) := ⟨hi,by omega⟩
 simp only [e1,e2]
 rw [bdO (chunks_eq hpa),bdO (scan_eq h.ok hn _)]
 have h00 : decide ((0 : Int) ≠ 0) = false := by decide
 simp only [h00,cond_false]
 have hcv := h.rd (s := (ckey i (size / 32),qU4 i,false)) ⟨rfl,rfl⟩
 have hown : (rdV v (ckey i (size / 32),qU4 i,false)).2.1 = v.2.1 := rfl
 have hlen := scan_len h.ok h.base (ckey i (size / 32),qU4 i,false)
 have hpair : ∀ p ∈ qa5 v (ckey i (size / 32),qU4 i,false),∃ q,okP i q ∧ size / 32 ≤ q ∧ p = (ckey i q,bm (tr (G i q))) ∧ tr (G i q) ≠ [] := by
  intro p hp
  obtain ⟨i',q,hq,ep,hne,hs⟩ := h.pair hp
  rw [inS_from hpa hq,decide_eq_true_eq] at hs
  obtain ⟨e,h1⟩ := hs
  rw [e] at hq ep hne
  exact ⟨q,hq,h1,ep,hne⟩
 have hsee : ∀ q,okP i q → size / 32 ≤ q → ckey i q ∉ (qa5 v (ckey i (size / 32),qU4 i,false)).map (·.1) → G i q = zs 32 := by
  intro q hq h1 h2
  exact h.sees hq (by rw [inS_from hpa hq]; exact decide_eq_true ⟨rfl,h1⟩) h2
 generalize qa5 v (ckey i (size / 32),qU4 i,false) = xs at hlen hpair hsee
 have hrd : (rdV v (ckey i (size / 32),qU4 i,false)).2.2.1 = (rdV v (ckey i (size / 32),qU4 i,false)).2.2.1 := rfl
 generalize hvr : rdV v (ckey i (size / 32),qU4 i,false) = vr at hcv hown
 have hloop := qn3 (body := fun (v437 : Int × VT) =>
     cond (decide (v437.1 < (xs.length : Int))) (
      (((
       (gx xs v437.1).bind fun x482 =>
       (qY3 x482.1).bind fun x485 =>
       cond (!x485.2) (
        some (.inr (12,v437.2))
       ) (
        (((
         cond (decide (x485.1.2.2.2 = ((size / 32 : Nat) : Int))) (
          some ((size % 32 : Nat) : Int)
         ) (
          some 0
         )
        ) : Option Int)).bind fun o496 =>
        (cutB 0 (min (x482.2.size : Int) o496) x482.2.size).bind fun _ =>
        (qG0 (x482.2.extract 0 (min (x482.2.size : Int) o496).toNat)).bind fun x505 =>
        cond (decide (x505 = x482.2)) (
         some (.inl v437.2)
        ) (
         (qe1 v437.2 (i : Int) x485.1.2.2.2 x505).bind fun x511 =>
         cond (decide (x511.1 ≠ 0)) (
          some (.inr (x511.1,x511.2))
         ) (
          some (.inl x511.2)
         )
        )
       )
      ) : Option (VT ⊕ (Int × VT)))).bind fun o479 =>
      Sum.elim (fun (v521 : VT) =>
       some (Sum.inl ((IntKind.wrap .i64 (v437.1 + 1)),v521))
      ) (fun w524 =>
       some (Sum.inr (Sum.inr w524 : VT ⊕ (Int × VT)))
      ) o479
     ) (
      some (Sum.inr (Sum.inl v437.2))
     )) xs.length (fun j (u : VT) => ((j : Int),u)) (fun j u => ∃ G',CV (n + 1) u G' ∧ u.2.1.map (·.1) = v.2.1.map (·.1) ∧ u.2.2.1 = vr.2.2.1 ∧ ∀ j' q,okP j' q → G' j' q = if ckey j' q ∈ (xs.take j).map (·.1) then cutc (G i q) (kpOf size q) else G j' q) (fun u => Sum.inl u) vr ⟨G,hcv,by rw [hown],rfl,fun j' q hq => by simp⟩ (fun j hj u hJ => ?_) (fun u hJ => by
   simp only [lt_nat,decide_eq_false (Nat.lt_irrefl _),cond_false])
 ·obtain ⟨u,⟨G',hu,hk,hr,hG⟩,hw⟩ := hloop
  simp only [Int.natCast_zero] at hw
  rw [bdO hw]
  simp only [Sum.elim_inl]
  refine ⟨u,G',rfl,hu,fun j q hq => ?_,hk,by rw [hr,hvr]⟩
  rw [hG j q hq,List.take_length]
  by_cases hm : ckey j q ∈ xs.map (·.1)
  ·rw [if_pos hm]
   obtain ⟨p,hp,ep⟩ := List.mem_map.1 hm
   obtain ⟨q',hq',h1,h2,_⟩ := hpair p hp
   rw [h2] at ep
   obtain ⟨e3,e4⟩ := qK4 hq' hq ep
   rw [if_pos ⟨e3.symm,by omega⟩]
  ·rw [if_neg hm]
   split
   ·rename_i hc
    obtain ⟨rfl,hc⟩ := hc
    rw [hsee q hq hc hm,cutc_zs (kp_le _ _)]
   ·rfl
 ·obtain ⟨G',hu,hk,hr,hG⟩ := hJ
  obtain ⟨q,hq,h1,ep,hne⟩ := hpair xs[j] (List.getElem_mem hj)
  have hof : qY3 xs[j].1 = some (((i : Int),3,mt,(q : Int)),true) := by rw [ep]; exact Of_eq hq
  have hgl : (G i q).length = 32 := h.len i q
  have ht := tr_le (G i q)
  have hkp : (cond (decide ((q : Int) = ((size / 32 : Nat) : Int))) (some ((size % 32 : Nat) : Int)) (some (0 : Int)) : Option Int) = some (kpOf size q : Int) := by
   unfold kpOf
   by_cases e : q = size / 32
   ·rw [decide_eq_true (by omega),cond_true,if_pos e]
   ·rw [decide_eq_false (by omega),cond_false,if_neg e]; rfl
  have hkl := kp_le size q
  have hx2 : xs[j].2 = bm (tr (G i q)) := by rw [ep]
  have hb : bl (xs[j].2.extract 0 (min (xs[j].2.size : Int) (kpOf size q : Int)).toNat) = (tr (G i q)).take (kpOf size q) := by
   rw [qt0,List.drop_zero,hx2,bl_bm,bm_size]
   by_cases hc : (tr (G i q)).length ≤ kpOf size q
   ·rw [List.take_of_length_le (by omega),List.take_of_length_le hc]
   ·congr 1; omega
  have htrim : qG0 (xs[j].2.extract 0 (min (xs[j].2.size : Int) (kpOf size q : Int)).toNat) = some (bm (tr ((tr (G i q)).take (kpOf size q)))) := by
   rw [trim_eq,hb,List.take_of_length_le (by rw [List.length_take]; omega)]
  have hcut : cutB 0 (min (xs[j].2.size : Int) (kpOf size q : Int)) xs[j].2.size = some () := qX (by omega)
  have htk : xs.take (j + 1) = xs.take j ++ [xs[j]] := by rw [List.take_add_one,List.getElem?_eq_getElem hj]; rfl
  have hin : ∀ j' q',okP j' q' → (ckey j' q' ∈ (xs.take (j + 1)).map (·.1) ↔ ckey j' q' ∈ (xs.take j).map (·.1) ∨ (j' = i ∧ q' = q)) := by
   intro j' q' hq'
   rw [htk,List.map_append,List.mem_append]
   have e : xs[j].1 = ckey i q := by rw [ep]
   simp only [List.map_cons,List.map_nil,List.mem_singleton,e]
   constructor
   ·rintro (a | a)
    ·exact .inl a
    ·exact .inr (qK4 hq' hq a)
   ·rintro (a | ⟨rfl,rfl⟩)
    ·exact .inl a
    ·exact .inr rfl
  have hpt := pad_tr (cutc_len hgl hkl)
  rw [← tr_take] at hpt
  have hlay : ∃ u',(cond (decide (bm (tr ((tr (G i q)).take (kpOf size q))) = xs[j].2)) (some (Sum.inl u)) ((qe1 u (i : Int) (q : Int) (bm (tr ((tr (G i q)).take (kpOf size q))))).bind fun x511 => cond (decide (x511.1 ≠ 0)) (some (Sum.inr (x511.1,x511.2))) (some (Sum.inl x511.2))) : Option (VT ⊕ (Int × VT))) = some (Sum.inl u') ∧ ∃ G',CV (n + 1) u' G' ∧ u'.2.1.map (·.1) = v.2.1.map (·.1) ∧ u'.2.2.1 = vr.2.2.1 ∧ ∀ j' q,okP j' q → G' j' q = if ckey j' q ∈ (xs.take (j + 1)).map (·.1) then cutc (G i q) (kpOf size q) else G j' q := by
   by_cases hsame : bm (tr ((tr (G i q)).take (kpOf size q))) = xs[j].2
   ·rw [decide_eq_true hsame,cond_true]
    refine ⟨u,rfl,G',hu,hk,hr,fun j' q' hq' => ?_⟩
    rw [hG j' q' hq']
    have hc : cutc (G i q) (kpOf size q) = G i q := by
     rw [← hpt]
     rw [hx2] at hsame
     rw [bm_inj hsame,pad_tr hgl]
    by_cases hm : ckey j' q' ∈ (xs.take j).map (·.1)
    ·rw [if_pos hm,if_pos ((hin j' q' hq').2 (.inl hm))]
    ·rw [if_neg hm]
     by_cases e : j' = i ∧ q' = q
     ·rw [if_pos ((hin j' q' hq').2 (.inr e))]
      obtain ⟨rfl,rfl⟩ := e
      exact hc.symm
     ·rw [if_neg (fun x => ((hin j' q' hq').1 x).elim hm e)]
   ·rw [decide_eq_false hsame,cond_false,bdO (lay_eq u hq _)]
    simp only [h00,cond_false]
    have hl2 := tr_le ((tr (G i q)).take (kpOf size q))
    rw [List.length_take] at hl2
    rw [bl_bm,List.take_of_length_le (by omega)]
    have hmem : ckey i q ∈ u.2.1.map (·.1) := by
     rw [hk]
     refine h.scan_in (x := bm (tr (G i q))) ?_
     rw [h.at_ i q hq]
     exact if_neg hne
    refine ⟨_,rfl,_,hu.layIn hq (b := tr ((tr (G i q)).take (kpOf size q))) (by omega) hmem,?_,hr,fun j' q' hq' => ?_⟩
    ·have := set_keys u (ckey i q) (chg (tr ((tr (G i q)).take (kpOf size q))) i q)
     rw [this]
     unfold addK
     rw [if_pos hmem,hk]
    ·unfold setG
     rw [hpt]
     by_cases e : j' = i ∧ q' = q
     ·rw [if_pos e,if_pos ((hin j' q' hq').2 (.inr e)),e.2]
     ·rw [if_neg e,hG j' q' hq']
      by_cases hm : ckey j' q' ∈ (xs.take j).map (·.1)
      ·rw [if_pos hm,if_pos ((hin j' q' hq').2 (.inl hm))]
      ·rw [if_neg hm,if_neg (fun x => ((hin j' q' hq').1 x).elim hm e)]
  obtain ⟨u',e3,hJ'⟩ := hlay
  refine ⟨u',?_,hJ'⟩
  simp only [ilt hj,cond_true,q20 hj,Option.bind_some,hof,Bool.not_true,cond_false,hkp,hcut,htrim,e3,Sum.elim_inl,wSu (show j < 9223372036854775807 by omega)]
theorem cut_bad {i size : Int} {v : VT} (h : ¬ ((1 ≤ i ∧ i < 1073741824) ∧ 0 ≤ size ∧ size ≤ 1048576)) : qp0 v i size = some (1,v) := by
 unfold qp0
 rw [bdO (may_eq _ _ _),decide_eq_false (by omega)]
 rfl
theorem read_bad {i off m : Int} {v : VT} (h : ¬ ((1 ≤ i ∧ i < 1073741824) ∧ 0 ≤ off ∧ 0 ≤ m ∧ off ≤ 1048576 ∧ m ≤ 1048576 - off)) : qP v i off m = some (mt,1,v) := by
 unfold qP
 rw [bdO (may_eq _ _ _),decide_eq_false (by omega)]
 rfl
theorem Cutt.byt {n : Nat} {v v' : VT} {G G' : Nat → Nat → By} {i size : Nat} (h : Cutt n v G i size v' G') (hG : ∀ i p,(G i p).length = 32) (hi : 1 ≤ i ∧ i < 1073741824) {x : Nat} (hx : x < 137438953472) : Go.Val.byt G' i x = if x < size then Go.Val.byt G i x else 0 := by
 unfold Go.Val.byt
 rw [h.chunks i (x / 32) ⟨hi,by omega⟩]
 by_cases hc : size / 32 ≤ x / 32
 ·rw [if_pos ⟨rfl,hc⟩,cutc_get (hG i _) (kp_le _ _)]
  unfold kpOf
  by_cases e : x / 32 = size / 32
  ·rw [if_pos e]
   by_cases hlt : x % 32 < size % 32
   ·rw [if_pos hlt,if_pos (by omega)]
   ·rw [if_neg hlt,if_neg (by omega)]
  ·rw [if_neg e,if_neg (by omega),if_neg (by omega)]
 ·rw [if_neg (by omega),if_pos (by omega)]
theorem Cutt.oth {n : Nat} {v v' : VT} {G G' : Nat → Nat → By} {i size : Nat} (h : Cutt n v G i size v' G') {j q : Nat} (hj : j ≠ i) (hq : okP j q) : G' j q = G j q := by
 rw [h.chunks j q hq,if_neg (by omega)]
end Go.Val
namespace Go.Val
open Go.Lib
theorem joinP_mem {cs : List Cg} (k : Ky) : k ∈ (q33 cs).map (·.1) ↔ k ∈ cs.map (·.1) := by
 have h := qa1 cs k
 constructor
 ·intro hk
  obtain ⟨c,hc⟩ := Option.isSome_iff_exists.1 (qs1.2 hk)
  rw [hc] at h
  have : k ∈ cs.reverse.map (·.1) := by
   apply Classical.byContradiction
   intro hn
   rw [q50.2 hn] at h
   cases h
  simpa using this
 ·intro hk
  apply Classical.byContradiction
  intro hn
  rw [q50.2 hn] at h
  have : mget cs.reverse k = none := by
   cases hg : mget cs.reverse k with
   | none => rfl
   | some c => rw [hg] at h; cases h
  have := q50.1 this
  exact this (by simpa using hk)
theorem changes_len {n : Nat} {v : VT} (hv : VOk n v) : (q33 (vals v.2.1)).length = (v.2.1.map (·.1)).length := by
 have hk := qF0 hv.own.own
 have hp : ((q33 (vals v.2.1)).map (·.1)).Perm (v.2.1.map (·.1)) := by
  rw [List.perm_ext_iff_of_nodup (qy0 _).nodup hv.own.nd]
  intro k
  rw [joinP_mem,hk]
 have := hp.length_eq
 rwa [List.length_map] at this
theorem keys_len {l : List Ky} (hn : l.Nodup) {i a b : Nat} (hi : 1 ≤ i ∧ i < 1073741824) (hb : b < 4294967296) (h : ∀ k,k ∈ l ↔ ∃ p,k = ckey i p ∧ a ≤ p ∧ p < b) : l.length = b - a := by
 have hr : ((List.range (b - a)).map fun t => ckey i (a + t)).Nodup := by
  unfold List.Nodup
  rw [List.pairwise_map]
  refine List.Pairwise.imp_of_mem ?_ (List.nodup_range (n := b - a))
  intro x y hx hy hne e
  have hx := List.mem_range.1 hx
  have hy := List.mem_range.1 hy
  have := (qK4 (i := i) (p := a + x) (j := i) (q := a + y) ⟨hi,by omega⟩ ⟨hi,by omega⟩ e).2
  omega
 have hp : l.Perm ((List.range (b - a)).map fun t => ckey i (a + t)) := by
  rw [List.perm_ext_iff_of_nodup hn hr]
  intro k
  rw [h,List.mem_map]
  constructor
  ·rintro ⟨p,e,h1,h2⟩
   exact ⟨p - a,List.mem_range.2 (by omega),by rw [e]; congr 1; omega⟩
  ·rintro ⟨t,ht,e⟩
   have ht := List.mem_range.1 ht
   exact ⟨a + t,e.symm,by omega,by omega⟩
 have := hp.length_eq
 rwa [List.length_map,List.length_range] at this
theorem new_n : qK1 = some ([],[],[],[]) := by
 unfold qK1
 have e : mapP ([] : List Pr) = [] := mapP_id List.Pairwise.nil
 rw [newPlain_eq [] (by decide),e]
 rfl
theorem rng5 (G : Nat → Nat → By) (i off : Nat) : rng G i off 5 = [byt G i off,byt G i (off + 1),byt G i (off + 2),byt G i (off + 3),byt G i (off + 4)] := rfl
theorem byt_new (i x : Nat) : byt (fun _ _ => zs 32) i x = 0 := byt_zs rfl
theorem shown_eq : q72 = some true := by
 unfold q72
 rw [bdO new_n]
 obtain ⟨v1,G1,e1,w⟩ := write_eq (i := 1) (off := 31) (n := 0) (x := ByteArray.mk #[97,98,99]) (G := fun _ _ => zs 32) (by decide) CV.new (by decide) (by decide)
 have hb : bl (ByteArray.mk #[97,98,99]) = [97,98,99] := rfl
 rw [hb] at w
 have hp : pcs 31 ([97,98,99] : By).length = 2 := by decide
 rw [bdO (show qM ([],[],[],[]) 1 31 (ByteArray.mk #[97,98,99]) = some (0,v1) from e1)]
 have hcv := w.cv
 rw [hp] at hcv
 obtain ⟨v2,e2,c2,k2,_⟩ := cread_eq (i := 1) (off := 30) (m := 5) (by decide) hcv (by decide) (by decide)
 have hbyt := w.byt
 have r1 : rng G1 1 30 5 = [0,97,98,99,0] := by
  rw [rng5]
  simp only [hbyt,byt_new]
  rfl
 simp only
 rw [bdO (show qP v1 1 30 5 = some (bm (rng G1 1 30 5),0,v2) from e2),r1]
 simp only
 rw [bdO (changes_eqV c2.ok (by decide))]
 have hlen : (q33 (vals v2.2.1)).length = 2 := by
  rw [changes_len c2.ok,k2]
  refine keys_len hcv.ok.own.nd (i := 1) (a := 0) (b := 2) (by decide) (by decide) fun k => ?_
  rw [w.keys]
  constructor
  ·rintro (h | ⟨p,e,h1,h2,h3⟩)
   ·simp at h
   ·simp only [List.length_cons,List.length_nil] at h2
    exact ⟨p,e,by omega,by omega⟩
  ·rintro ⟨p,e,h1,h2⟩
   exact .inr ⟨p,e,by simp,by simp only [List.length_cons,List.length_nil]; omega,by omega⟩
 simp only [hlen]
 obtain ⟨v3,G3,e3,w3⟩ := cut_eq (i := 1) (size := 32) (by decide) c2 (by decide) (by decide)
 rw [bdO (show qp0 v2 1 32 = some (0,v3) from e3)]
 simp only
 obtain ⟨v4,e4,c4,k4,_⟩ := cread_eq (i := 1) (off := 30) (m := 5) (by decide) w3.cv (by decide) (by decide)
 have hbyt3 : ∀ x,x < 100 → byt G3 1 x = if x < 32 then byt G1 1 x else 0 := fun x hx => w3.byt c2.len (by decide) (by omega)
 have r3 : rng G3 1 30 5 = [0,97,0,0,0] := by
  rw [rng5,hbyt3 _ (by decide),hbyt3 _ (by decide),hbyt3 _ (by decide),hbyt3 _ (by decide),hbyt3 _ (by decide)]
  simp only [hbyt,byt_new]
  rfl
 rw [bdO (show qP v3 1 30 5 = some (bm (rng G3 1 30 5),0,v4) from e4),r3]
 rfl
end Go.Val
