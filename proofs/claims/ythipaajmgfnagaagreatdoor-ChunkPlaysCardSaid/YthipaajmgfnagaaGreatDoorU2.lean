/- The document's keys and trims are the program's. -/
import Derived.Test.YthipaajmgfnagaaGreatDoorWq
import Derived.Test.YthipaajmgfnagaaGreatDoorU1
import Derived.Test.YthipaajmgfnagaaGreatDoorT2
import Derived.Test.YthipaajmgfnagaaGreatDoorWr
set_option linter.unusedSectionVars false
set_option linter.unusedVariables false
set_option linter.unusedSimpArgs false
namespace Go.Val
open Go.Lib
theorem sameChangesR_eq (x y : List Cg) (hl : x.length ≤ 1000000) : qW x y = some (decide (x = y)) := by
 unfold qW
 by_cases h : x.length = y.length
 ·have : decide ((x.length : Int) ≠ (y.length : Int)) = false := by simp [h]
  rw [this,cond_false]
  refine row_same x y h (fun i hx hy => ?_) ?_
  ·simp only [ilt hx,cond_true,q20 hx,q20 hy,Option.bind_some,wSu (show i < 9223372036854775807 by omega)]
   by_cases he : x[i] = y[i]
   ·simp [he]
   ·have : ¬ (x[i].1 = y[i].1 ∧ x[i].2.1 = y[i].2.1 ∧ x[i].2.2 = y[i].2.2) := fun ⟨a,b,c⟩ => he (Prod.ext a (Prod.ext b c))
    by_cases ha : x[i].1 = y[i].1
    ·by_cases hb : x[i].2.1 = y[i].2.1
     ·have hc : ¬ x[i].2.2 = y[i].2.2 := fun c => this ⟨ha,hb,c⟩
      have hd : (x[i].2.2 == y[i].2.2) = false := by simpa using hc
      simp [he,ha,hb,hd]
     ·simp [he,ha,hb]
    ·simp [he,ha]
  ·simp only [ige,cond_false]
 ·have h1 : decide ((x.length : Int) ≠ (y.length : Int)) = true := by simp; omega
  rw [h1,cond_true]
  have : ¬ x = y := fun e => h (by rw [e])
  simp [this]
theorem bof (n k m : Nat) (h : 2 ^ k = m) : UInt8.ofNat (IntKind.wrap .u8 (Int.fdiv (n : Int) (2 ^ k))).toNat = UInt8.ofNat (n / m) := by
 rw [wbyte n k m h,Int.toNat_natCast,q65]
theorem bof0 (n : Nat) : UInt8.ofNat (IntKind.wrap .u8 (n : Int)).toNat = UInt8.ofNat n := by
 rw [w8]
 have : ((n : Int) % 256).toNat = n % 256 := by omega
 rw [this,q65]
theorem bck (n : Int) : ck (decide (0 ≤ IntKind.wrap .u8 n ∧ IntKind.wrap .u8 n < 256)) = some () := by
 rw [w8]; exact qE2 (by omega)
theorem numberR_eq (a : Int) : qL0 a = some (decide (1 ≤ a ∧ a < 1073741824)) := by
 unfold qL0
 refine qs0 ?_
 by_cases h : a ≥ 1
 ·simp only [decide_eq_true h,cond_true,Option.some.injEq]
  have : 1 ≤ a := h
  simp [this]
 ·simp only [decide_eq_false h,cond_false,Option.some.injEq]
  have : ¬ 1 ≤ a := h
  simp [this]
theorem headR_eq (i kd : Nat) : qI0 (i : Int) (kd : Int) = some (be4 i ++ UInt8.ofNat kd :: List.replicate 19 0) := by
 unfold qI0
 rw [bdO (bck _),bdO (bck _),bdO (bck _),bdO (bck _),bdO (bck _),bof i 24 16777216 (by decide),bof i 16 65536 (by decide),bof i 8 256 (by decide),bof0,bof0]
 rfl
theorem qs3 {i p : Nat} (h : okP i p) : qD (i : Int) (p : Int) = some (ckey i p,true) := by
 obtain ⟨hi,hp⟩ := h
 unfold qD
 have hn : (1 : Int) ≤ (i : Int) ∧ (i : Int) < 1073741824 := by omega
 rw [bdO (numberR_eq (i : Int)),decide_eq_true hn]
 have h1 : decide ((p : Int) < 0) = false := decide_eq_false (by omega)
 have h2 : decide ((p : Int) > 4294967295) = false := decide_eq_false (by omega)
 simp only [Bool.not_true,cond_false,h1,h2,Option.bind_some]
 have hh := headR_eq i 3
 rw [show ((3 : Nat) : Int) = 3 from rfl] at hh
 rw [bdO hh]
 rw [bdO (show ck (decide ((0 : Int) ≤ 20 ∧ (20 : Int) < 24)) = some () from rfl),bdO (qE2 (by simp [be4])),bdO (bck _),
  bdO (show ck (decide ((0 : Int) ≤ 21 ∧ (21 : Int) < 24)) = some () from rfl),bdO (qE2 (by simp [be4])),bdO (bck _),
  bdO (show ck (decide ((0 : Int) ≤ 22 ∧ (22 : Int) < 24)) = some () from rfl),bdO (qE2 (by simp [be4])),bdO (bck _),
  bdO (show ck (decide ((0 : Int) ≤ 23 ∧ (23 : Int) < 24)) = some () from rfl),bdO (qE2 (by simp [be4])),bdO (bck _)]
 rw [bof p 24 16777216 (by decide),bof p 16 65536 (by decide),bof p 8 256 (by decide),bof0]
 rfl
theorem chunksR_eq {i p : Nat} (h : okP i p) : qk1 (i : Int) (p : Int) = some (ckey i p,qU4 i,false) := by
 unfold qk1
 rw [bdO (qs3 h)]
 have hb := headR_eq i 4
 rw [show ((4 : Nat) : Int) = 4 from rfl] at hb
 simp only [Bool.not_true,cond_false]
 rw [bdO hb]
 rfl
theorem toN_of (m : Nat) : (UInt8.ofNat m).toNat = m % 256 := by rw [UInt8.toNat_ofNat']
theorem word4 {n : Nat} (h : n < 4294967296) : IntKind.wrap .i64 ((IntKind.wrap .i64 ((IntKind.wrap .i64 ((IntKind.wrap .i64 ((IntKind.wrap .i64 ((UInt8.ofNat (n / 16777216)).toNat : Int)) * 2 ^ 24)) + (IntKind.wrap .i64 ((IntKind.wrap .i64 ((UInt8.ofNat (n / 65536)).toNat : Int)) * 2 ^ 16)))) + (IntKind.wrap .i64 ((IntKind.wrap .i64 ((UInt8.ofNat (n / 256)).toNat : Int)) * 2 ^ 8)))) + (IntKind.wrap .i64 ((UInt8.ofNat n).toNat : Int))) = (n : Int) := by
 rw [toN_of,toN_of,toN_of,toN_of]
 have e1 : (2 : Int) ^ 24 = 16777216 := by decide
 have e2 : (2 : Int) ^ 16 = 65536 := by decide
 have e3 : (2 : Int) ^ 8 = 256 := by decide
 rw [e1,e2,e3]
 have ha : n / 16777216 % 256 < 256 := Nat.mod_lt _ (by decide)
 have hb : n / 65536 % 256 < 256 := Nat.mod_lt _ (by decide)
 have hc : n / 256 % 256 < 256 := Nat.mod_lt _ (by decide)
 have hd : n % 256 < 256 := Nat.mod_lt _ (by decide)
 have hs : n = (n / 16777216 % 256) * 16777216 + (n / 65536 % 256) * 65536 + (n / 256 % 256) * 256 + n % 256 := by omega
 generalize n / 16777216 % 256 = a at ha hs ⊢
 generalize n / 65536 % 256 = b at hb hs ⊢
 generalize n / 256 % 256 = c at hc hs ⊢
 generalize n % 256 = d at hd hs ⊢
 rw [wI64 (n := (a : Int)) (by omega),wI64 (n := (b : Int)) (by omega),wI64 (n := (c : Int)) (by omega),wI64 (n := (d : Int)) (by omega),wI64 (n := (a : Int) * 16777216) (by omega),wI64 (n := (b : Int) * 65536) (by omega),wI64 (n := (c : Int) * 256) (by omega),wI64 (n := (a : Int) * 16777216 + (b : Int) * 65536) (by omega),wI64 (n := (a : Int) * 16777216 + (b : Int) * 65536 + (c : Int) * 256) (by omega),wI64 (by omega)]
 omega
theorem OfR_eq {i p : Nat} (h : okP i p) : qE1 (ckey i p) = some (((i : Int),3,mt,(p : Int)),true) := by
 have h1 := h.1
 unfold qE1
 rw [bdO (show ck (decide ((0 : Int) ≤ 0 ∧ (0 : Int) < 24)) = some () from rfl),bdO (show gx (ckey i p) 0 = some (UInt8.ofNat (i / 16777216)) from rfl),
  bdO (show ck (decide ((0 : Int) ≤ 1 ∧ (1 : Int) < 24)) = some () from rfl),bdO (show gx (ckey i p) 1 = some (UInt8.ofNat (i / 65536)) from rfl),
  bdO (show ck (decide ((0 : Int) ≤ 2 ∧ (2 : Int) < 24)) = some () from rfl),bdO (show gx (ckey i p) 2 = some (UInt8.ofNat (i / 256)) from rfl),
  bdO (show ck (decide ((0 : Int) ≤ 3 ∧ (3 : Int) < 24)) = some () from rfl),bdO (show gx (ckey i p) 3 = some (UInt8.ofNat i) from rfl),
  bdO (show ck (decide ((0 : Int) ≤ 4 ∧ (4 : Int) < 24)) = some () from rfl),bdO (show gx (ckey i p) 4 = some 3 from rfl)]
 have w3 : IntKind.wrap .i64 ((3 : UInt8).toNat : Int) = 3 := by decide
 rw [w3,word4 (n := i) (by omega)]
 have d1 : decide ((3 : Int) = 1) = false := rfl
 have d2 : decide ((3 : Int) = 2) = false := rfl
 have d3 : decide ((3 : Int) = 3) = true := rfl
 rw [d1,d2,d3,cond_false,cond_false,cond_true]
 rw [bdO (show ck (decide ((0 : Int) ≤ 20 ∧ (20 : Int) < 24)) = some () from rfl),bdO (show gx (ckey i p) 20 = some (UInt8.ofNat (p / 16777216)) from rfl),
  bdO (show ck (decide ((0 : Int) ≤ 21 ∧ (21 : Int) < 24)) = some () from rfl),bdO (show gx (ckey i p) 21 = some (UInt8.ofNat (p / 65536)) from rfl),
  bdO (show ck (decide ((0 : Int) ≤ 22 ∧ (22 : Int) < 24)) = some () from rfl),bdO (show gx (ckey i p) 22 = some (UInt8.ofNat (p / 256)) from rfl),
  bdO (show ck (decide ((0 : Int) ≤ 23 ∧ (23 : Int) < 24)) = some () from rfl),bdO (show gx (ckey i p) 23 = some (UInt8.ofNat p) from rfl)]
 rw [word4 h.2,bdO (qs3 h)]
 simp [mt]
theorem mayR_eq (a0 a1 a2 : Int) : qF1 a0 a1 a2 = some (decide ((1 ≤ a0 ∧ a0 < 1073741824) ∧ 0 ≤ a1 ∧ 0 ≤ a2 ∧ a1 ≤ 1048576 ∧ a2 ≤ 1048576 - a1)) := by
 unfold qF1
 refine qs0 ?_
 by_cases h0 : a0 ≥ 1
 ·rw [decide_eq_true h0,cond_true]
  by_cases h0' : a0 < 1073741824
  ·rw [decide_eq_true h0',cond_true]
   by_cases h1 : a1 ≥ 0
   ·rw [decide_eq_true h1,cond_true]
    by_cases h2 : a2 ≥ 0
    ·rw [decide_eq_true h2,cond_true]
     by_cases h3 : a1 ≤ 1048576
     ·rw [decide_eq_true h3,cond_true,wI64 (by omega)]
      congr 1
      rw [decide_eq_decide]
      omega
     ·rw [decide_eq_false h3,cond_false,decide_eq_false (by omega)]
    ·rw [decide_eq_false h2,cond_false,decide_eq_false (by omega)]
   ·rw [decide_eq_false h1,cond_false,decide_eq_false (by omega)]
  ·rw [decide_eq_false h0',cond_false,decide_eq_false (by omega)]
 ·rw [decide_eq_false h0,cond_false,decide_eq_false (by omega)]
theorem fullR_eq (x : ByteArray) : qM1 x = some (bm (pad ((bl x).take 32))) := by
 unfold qM1
 rw [bdO (bmin x),tn_min]
 have hl : (x.extract 0 (min x.size 32)).size = ((bl x).take 32).length := by rw [← bl_cut]; rfl
 have h32 : ((bl x).take 32).length ≤ 32 := by rw [List.length_take]; omega
 rw [hl,wI64 (by omega)]
 have e : (32 - (((bl x).take 32).length : Int)).toNat = 32 - ((bl x).take 32).length := by omega
 rw [bdO (qE2 (by omega)),e]
 have hz : (ByteArray.mk (List.replicate (32 - ((bl x).take 32).length) (0 : UInt8)).toArray).size = 32 - ((bl x).take 32).length := by
  show (List.replicate _ (0 : UInt8)).length = _
  rw [List.length_replicate]
 rw [bdO (qE2 (by rw [hz]; omega))]
 congr 1
 apply bl_inj
 rw [qp2,bl_cut]
 rfl
theorem trimR_eq (x : ByteArray) : qv1 x = some (bm (tr ((bl x).take 32))) := by
 unfold qv1
 have hlen : ((bl x).take 32).length = min x.size 32 := by rw [List.length_take,qc3]; omega
 have hsp := tr_split ((bl x).take 32)
 have hle := tr_le ((bl x).take 32)
 have hlast := fun y => tr_last ((bl x).take 32) (x := y)
 generalize hl : (bl x).take 32 = l at hlen hsp hle hlast
 obtain ⟨T,hT⟩ : ∃ T,T = tr l := ⟨_,rfl⟩
 rw [← hT] at hsp hle hlast ⊢
 obtain ⟨k,hk⟩ : ∃ k,k = T.length := ⟨_,rfl⟩
 generalize hmm : l.length - T.length = mm at hsp
 have hx : ∀ y,y < l.length → (bl x)[y]? = l[y]? := by
  intro y hy
  rw [← hl,List.getElem?_take,if_pos (by omega)]
 have hm : (min (x.size : Int) 32) = ((l.length : Nat) : Int) := by rw [hlen]; omega
 have hloop := qe0 (body := fun v112 =>
   (((
    cond (decide (v112 > 0)) (
     (gx x.data.toList (IntKind.wrap .i64 (v112 - 1))).bind fun x128 =>
     some (decide ((x128.toNat : Int) = 0))
    ) (
     some false
    )
   ) : Option Bool)).bind fun o122 =>
   cond o122 (
    some (.inl (IntKind.wrap .i64 (v112 - 1)))
   ) (
    some (.inr v112)
   )) (o := (k : Int)) (fun t => ((l.length - t : Nat) : Int)) (l.length - k) (fun t ht => ?_) ?_
 ·have h0 : ((l.length - 0 : Nat) : Int) = (l.length : Int) := by omega
  simp only [h0] at hloop
  rw [hm,bdO (show (((qA _ (l.length : Int)) : Option Int)) = some (k : Int) from hloop),bdO (qX (by omega)),Int.toNat_natCast]
  congr 1
  apply bl_inj
  rw [qt0,List.drop_zero,bl_bm]
  have e1 : (bl x).take k = l.take k := by
   rw [← hl,List.take_take]
   congr 1; omega
  rw [e1,hk,hsp,List.take_append_of_le_length (by omega),List.take_length]
 ·have hp : decide (((l.length - t : Nat) : Int) > 0) = true := decide_eq_true (by omega)
  have w1 : IntKind.wrap .i64 (((l.length - t : Nat) : Int) - 1) = ((l.length - (t + 1) : Nat) : Int) := by rw [wI64 (by omega)]; omega
  have hz : (bl x)[l.length - (t + 1)]? = some 0 := by
   rw [hx _ (by omega)]
   have : l[l.length - (t + 1)]? = (T ++ zs mm)[l.length - (t + 1)]? := congrArg (fun q : By => q[l.length - (t + 1)]?) hsp
   rw [this,List.getElem?_append_right (by omega)]
   unfold zs
   rw [List.getElem?_replicate,if_pos (by omega)]
  have hg : gx x.data.toList ((l.length - (t + 1) : Nat) : Int) = some 0 := by
   have h1 : l.length - (t + 1) < (bl x).length := by rw [qc3]; omega
   have := q20 (xs := bl x) h1
   rw [List.getElem?_eq_getElem h1] at hz
   rw [Option.some.inj hz] at this
   exact this
  have h0 : decide (((0 : UInt8).toNat : Int) = 0) = true := rfl
  simp only [hp,cond_true,w1,hg,Option.bind_some,h0]
 ·have hkk : ((l.length - (l.length - k) : Nat) : Int) = (k : Int) := by omega
  simp only [hkk]
  by_cases h0 : k = 0
  ·have hp : decide ((k : Int) > 0) = false := decide_eq_false (by omega)
   simp only [hp,cond_false,Option.bind_some]
  ·have hp : decide ((k : Int) > 0) = true := decide_eq_true (by omega)
   have w1 : IntKind.wrap .i64 ((k : Int) - 1) = ((k - 1 : Nat) : Int) := by rw [wI64 (by omega)]; omega
   have h1 : k - 1 < (bl x).length := by rw [qc3]; omega
   have hg : gx x.data.toList ((k - 1 : Nat) : Int) = some (bl x)[k - 1] := q20 (xs := bl x) h1
   have hz : (bl x)[k - 1] ≠ 0 := by
    refine hlast _ ?_
    rw [List.getLast?_eq_getElem?,← hk]
    have h2 := hx (k - 1) (by omega)
    rw [List.getElem?_eq_getElem h1] at h2
    have : l[k - 1]? = (T ++ zs mm)[k - 1]? := congrArg (fun q : By => q[k - 1]?) hsp
    rw [h2,this,List.getElem?_append_left (by omega)]
   have hz' : decide (((bl x)[k - 1].toNat : Int) = 0) = false := by
    refine decide_eq_false fun e => hz (UInt8.toNat_inj.1 ?_)
    have : (0 : UInt8).toNat = 0 := rfl
    omega
   simp only [hp,cond_true,w1,hg,Option.bind_some,hz',cond_false]
theorem putR_eq {n : Nat} {v : VT} (hv : VOk n v) (hn : n ≤ 900) {i p : Nat} (h : okP i p) (x : ByteArray) : qd1 (refV v) (i : Int) (p : Int) x = some (refV (setV v (ckey i p) (chg ((bl x).take 32) i p))) := by
 unfold qd1
 refine qs0 ?_
 rw [bdO (qs3 h),bdO (trimR_eq x)]
 unfold chg
 by_cases h0 : tr ((bl x).take 32) = []
 ·rw [if_pos h0,decide_eq_true (by rw [h0]; rfl),cond_true,bdO (refDelete_eq hv hn _)]
 ·have hne : bm (tr ((bl x).take 32)) ≠ ByteArray.mk #[] := fun e => h0 (bm_inj (b := []) e)
  rw [if_neg h0,decide_eq_false hne,cond_false]
  have hb : badV (bm (tr ((bl x).take 32))) = false := by
   unfold badV
   have h1 := tr_le ((bl x).take 32)
   rw [List.length_take] at h1
   rw [decide_eq_false hne,decide_eq_false (by rw [bm_size]; omega)]
   rfl
  have hp := refPut_eq hv hn (ckey i p) (bm (tr ((bl x).take 32)))
  rw [hb] at hp
  rw [bdO hp]
  rfl
theorem spanR_eq {i a b : Nat} (ha : okP i a) (hb : okP i (b + 1)) : qa2 (i : Int) (a : Int) (b : Int) = some (ckey i a,ckey i (b + 1),false) := by
 unfold qa2
 have w1 : IntKind.wrap .i64 ((b : Int) + 1) = ((b + 1 : Nat) : Int) := by
  have := hb.2
  rw [wI64 (by omega)]; omega
 rw [bdO (qs3 ha),w1,bdO (qs3 hb)]
end Go.Val
namespace Go.Val
open Go.Lib
set_option maxRecDepth 100000 in
theorem readR_eq {i off m n : Nat} {v : VT} {G : Nat → Nat → By} (hi : 1 ≤ i ∧ i < 1073741824) (h : CV n v G) (hn : n ≤ 900) (hoff : off + m ≤ 1048576) : qb1 (refV v) (i : Int) (off : Int) (m : Int) = some (bm (rng G i off m),0,refV (if m = 0 then v else rdV v (readS i off m))) := by
 unfold qb1
 rw [bdO (mayR_eq _ _ _),decide_eq_true (by omega),Bool.not_true,cond_false]
 by_cases h0 : m = 0
 ·subst h0
  rfl
 rw [decide_eq_false (show ¬ ((m : Int) = 0) by omega),cond_false,if_neg h0]
 have e1 : IntKind.wrap .i64 (Int.tdiv (off : Int) 32) = ((off / 32 : Nat) : Int) := by
  have : Int.tdiv (off : Int) 32 = ((off / 32 : Nat) : Int) := rfl
  rw [this,wI64 (by omega)]
 have e2 : IntKind.wrap .i64 (Int.tdiv (IntKind.wrap .i64 ((IntKind.wrap .i64 ((off : Int) + (m : Int))) - 1)) 32) = (((off + m - 1) / 32 : Nat) : Int) := by
  rw [wI64 (n := (off : Int) + (m : Int)) (by omega),wI64 (n := (off : Int) + (m : Int) - 1) (by omega)]
  have : Int.tdiv ((off : Int) + (m : Int) - 1) 32 = (((off + m - 1) / 32 : Nat) : Int) := by
   have e : (off : Int) + (m : Int) - 1 = ((off + m - 1 : Nat) : Int) := by omega
   rw [e]; rfl
  rw [this,wI64 (by omega)]
 have hend : (off + m + 31) / 32 = (off + m - 1) / 32 + 1 := by omega
 generalize ha : off / 32 = a at e1
 generalize hb : (off + m - 1) / 32 = b at e2 hend
 have hab : a ≤ b := by omega
 have hpa : okP i a := ⟨hi,by omega⟩
 have hpb : okP i (b + 1) := ⟨hi,by omega⟩
 have hS : readS i off m = (ckey i a,ckey i (b + 1),false) := by unfold readS; rw [ha,hend]
 simp only [e1,e2]
 rw [bdO (spanR_eq hpa hpb),hS,bdO (refScan_eq h.ok hn (s := (ckey i a,ckey i (b + 1),false)) ⟨rfl,rfl⟩)]
 simp only
 have e3 : IntKind.wrap .i64 ((IntKind.wrap .i64 ((IntKind.wrap .i64 ((b : Int) - (a : Int))) + 1)) * 32) = ((32 * (b + 1 - a) : Nat) : Int) := by
  rw [wI64 (n := (b : Int) - (a : Int)) (by omega),wI64 (n := (b : Int) - (a : Int) + 1) (by omega),wI64 (by omega)]; omega
 rw [e3,bdO (qE2 (by omega)),Int.toNat_natCast]
 have hnd := (scan_rising h.ok (ckey i a,ckey i (b + 1),false)).nodup
 generalize hxs : qa5 v (ckey i a,ckey i (b + 1),false) = xs at hnd
 have hloop := qn3 (body := fun (v90 : Int × By) =>
     cond (decide (v90.1 < (xs.length : Int))) (
      (gx xs v90.1).bind fun x97 =>
      (qE1 x97.1).bind fun x100 =>
      (ck (decide (0 ≤ (IntKind.wrap .i64 ((IntKind.wrap .i64 (x100.1.2.2.2 - (a : Int))) * 32)) ∧ (IntKind.wrap .i64 ((IntKind.wrap .i64 (x100.1.2.2.2 - (a : Int))) * 32)).toNat ≤ v90.2.length))).bind fun _ =>
      some (Sum.inl ((IntKind.wrap .i64 (v90.1 + 1)),(List.take (IntKind.wrap .i64 ((IntKind.wrap .i64 (x100.1.2.2.2 - (a : Int))) * 32)).toNat v90.2 ++ cpB (List.drop (IntKind.wrap .i64 ((IntKind.wrap .i64 (x100.1.2.2.2 - (a : Int))) * 32)).toNat v90.2) x97.2.data.toList)))
     ) (
      some (Sum.inr v90.2)
     )) xs.length (fun j (B : By) => ((j : Int),B)) (fun j B => B.length = 32 * (b + 1 - a) ∧ ∀ y,y < 32 * (b + 1 - a) → (B[y]?).getD 0 = if ckey i (a + y / 32) ∈ (xs.take j).map (·.1) then byt G i (32 * a + y) else 0) (fun B => B) (List.replicate (32 * (b + 1 - a)) (0 : UInt8)) ⟨List.length_replicate,fun y hy => by
   rw [List.take_zero]
   exact zs_get (32 * (b + 1 - a)) y⟩ (fun j hj B hJ => ?_) (fun B hJ => by
   simp only [ige,cond_false])
 ·obtain ⟨B,⟨hB,hall⟩,hw⟩ := hloop
  simp only [Int.natCast_zero] at hw
  rw [bdO hw]
  have e4 : IntKind.wrap .i64 ((off : Int) - IntKind.wrap .i64 ((a : Int) * 32)) = ((off % 32 : Nat) : Int) := by
   rw [wI64 (n := (a : Int) * 32) (by omega),wI64 (by omega)]; omega
  rw [e4,wI64 (n := ((off % 32 : Nat) : Int) + (m : Int)) (by omega),bdO (qX (by omega))]
  congr 2
  unfold qi1 bm
  congr 2
  have hpl : (qm0 B ((off % 32 : Nat) : Int) (((off % 32 : Nat) : Int) + (m : Int))).length = m := by
   unfold qm0
   rw [List.length_drop,List.length_take]; omega
  refine rng_of hpl fun x hx => ?_
  unfold qm0
  have ee : (((off % 32 : Nat) : Int) + (m : Int)).toNat = off % 32 + m := by omega
  rw [ee,Int.toNat_natCast,List.getElem?_drop,List.getElem?_take,if_pos (by omega),hall _ (by omega)]
  have ex : 32 * a + (off % 32 + x) = off + x := by omega
  rw [ex]
  split
  ·rfl
  ·rename_i hk
   rw [List.take_length,← hxs] at hk
   have hq : okP i (a + (off % 32 + x) / 32) := ⟨hi,by omega⟩
   have := h.sees hq (by rw [qt4 hpa hpb hq]; exact decide_eq_true (by omega)) hk
   have eq : a + (off % 32 + x) / 32 = (off + x) / 32 := by omega
   rw [eq] at this
   exact (byt_zs this).symm
 ·obtain ⟨hB,hall⟩ := hJ
  have hmem : xs[j] ∈ qa5 v (ckey i a,ckey i (b + 1),false) := by rw [hxs]; exact List.getElem_mem hj
  obtain ⟨i',q,hq,ep,hne,hs⟩ := h.pair hmem
  rw [qt4 hpa hpb hq,decide_eq_true_eq] at hs
  obtain ⟨e,h1,h2⟩ := hs
  rw [e] at hq ep hne
  have hlen : (G i q).length = 32 := h.len i q
  have htl := tr_le (G i q)
  have hof : qE1 xs[j].1 = some (((i : Int),3,mt,(q : Int)),true) := by rw [ep]; exact OfR_eq hq
  have hbl : xs[j].2.data.toList = tr (G i q) := by rw [ep]; rfl
  have w1 : IntKind.wrap .i64 (IntKind.wrap .i64 ((q : Int) - (a : Int)) * 32) = ((32 * (q - a) : Nat) : Int) := by
   rw [wI64 (n := (q : Int) - (a : Int)) (by omega),wI64 (by omega)]; omega
  have c1 : ck (decide (0 ≤ ((32 * (q - a) : Nat) : Int) ∧ 32 * (q - a) ≤ B.length)) = some () := qE2 (by omega)
  have hjl : xs.length ≤ 400000 := by
   rw [← hxs]
   have := scan_len h.ok h.base (ckey i a,ckey i (b + 1),false)
   omega
  have hk1 : xs[j].1 = ckey i q := by rw [ep]
  have hnew : ckey i q ∉ (xs.take j).map (·.1) := by
   intro hm
   rw [← hk1] at hm
   obtain ⟨p,hp,epk⟩ := List.mem_map.1 hm
   obtain ⟨t,ht,rfl⟩ := List.getElem_of_mem hp
   have ht' : t < j := by rw [List.length_take] at ht; omega
   rw [List.getElem_take] at epk
   have h3 := List.pairwise_iff_getElem.1 hnd t j (by rw [List.length_map]; omega) (by rw [List.length_map]; exact hj) ht'
   rw [List.getElem_map,List.getElem_map] at h3
   exact h3 epk
  simp only [ilt hj,cond_true,q20 hj,Option.bind_some,hof,w1,Int.toNat_natCast,c1,wSu (show j < 9223372036854775807 by omega)]
  refine ⟨_,rfl,?_,fun y hy => ?_⟩
  ·rw [hbl,into_len _ _ _ (by omega)]; exact hB
  ·rw [hbl,into_get _ _ _ _ (by omega)]
   have htk : xs.take (j + 1) = xs.take j ++ [xs[j]] := by rw [List.take_add_one,List.getElem?_eq_getElem hj]; rfl
   have hoy : okP i (a + y / 32) := ⟨hi,by omega⟩
   have hin : ckey i (a + y / 32) ∈ (xs.take (j + 1)).map (·.1) ↔ ckey i (a + y / 32) ∈ (xs.take j).map (·.1) ∨ a + y / 32 = q := by
    rw [htk,List.map_append,List.mem_append]
    simp only [List.map_cons,List.map_nil,List.mem_singleton,hk1]
    constructor
    ·rintro (a | a)
     ·exact .inl a
     ·exact .inr (qK4 hoy hq a).2
    ·rintro (a | a)
     ·exact .inl a
     ·exact .inr (by rw [a])
   by_cases hc : 32 * (q - a) ≤ y ∧ y < 32 * (q - a) + 32
   ·rw [if_pos (hin.2 (.inr (by omega)))]
    unfold byt
    have e1 : (32 * a + y) / 32 = q := by omega
    have e2 : (32 * a + y) % 32 = y - 32 * (q - a) := by omega
    rw [e1,e2]
    have hp := pad_tr hlen
    have hget : ∀ z,((G i q)[z]?).getD 0 = if z < (tr (G i q)).length then ((tr (G i q))[z]?).getD 0 else 0 := by
     intro z
     conv => lhs; rw [← hp]
     unfold pad
     rw [List.getElem?_append]
     split
     ·rfl
     ·exact zs_get _ _
    rw [hget]
    by_cases hz : y < 32 * (q - a) + (tr (G i q)).length
    ·rw [if_pos ⟨hc.1,hz⟩,if_pos (by omega)]
    ·rw [if_neg (by omega),if_neg (by omega),hall y hy,if_neg (fun hm => hnew (by
      have e3 : a + y / 32 = q := by omega
      rw [e3] at hm; exact hm))]
   ·rw [if_neg (by omega),hall y hy]
    by_cases hm : ckey i (a + y / 32) ∈ (xs.take j).map (·.1)
    ·rw [if_pos hm,if_pos (hin.2 (.inl hm))]
    ·rw [if_neg hm,if_neg (fun h => (hin.1 h).elim hm fun h => absurd h (by omega))]
def plcOf (k : Ky) : Nat := valK (k.drop 20)
theorem plcOf_ckey {i p : Nat} (h : okP i p) : plcOf (ckey i p) = p := by
 unfold plcOf
 have e : (ckey i p).drop 20 = be4 p := rfl
 rw [e,valK_be4 h.2]
def cutF (i size : Nat) (u : VT) (p : Pr) : VT :=
 if bm (tr ((bl p.2).take (kpOf size (plcOf p.1)))) = p.2 then u else setV u (ckey i (plcOf p.1)) (chg (tr ((bl p.2).take (kpOf size (plcOf p.1)))) i (plcOf p.1))
set_option maxRecDepth 100000 in
theorem cut_both {i size n : Nat} {v : VT} {G : Nat → Nat → By} (hi : 1 ≤ i ∧ i < 1073741824) (h : CV n v G) (hn : n + 1 ≤ 900) (hoff : size ≤ 1048576) : ∃ v',qp0 v (i : Int) (size : Int) = some (0,v') ∧ qG1 (refV v) (i : Int) (size : Int) = some (0,refV v') := by
 have e1 : IntKind.wrap .i64 (Int.tdiv (size : Int) 32) = ((size / 32 : Nat) : Int) := by
  have : Int.tdiv (size : Int) 32 = ((size / 32 : Nat) : Int) := rfl
  rw [this,wI64 (by omega)]
 have e2 : Int.tmod (size : Int) 32 = ((size % 32 : Nat) : Int) := rfl
 have hpa : okP i (size / 32) := ⟨hi,by omega⟩
 have h00 : decide ((0 : Int) ≠ 0) = false := by decide
 have hsp : spOk (ckey i (size / 32),qU4 i,false) := ⟨rfl,rfl⟩
 have hvr := h.ok.rd hsp
 have hown : (rdV v (ckey i (size / 32),qU4 i,false)).2.1 = v.2.1 := rfl
 have hlen := scan_len h.ok h.base (ckey i (size / 32),qU4 i,false)
 have hpair : ∀ p ∈ qa5 v (ckey i (size / 32),qU4 i,false),∃ q,okP i q ∧ p = (ckey i q,bm (tr (G i q))) ∧ ckey i q ∈ v.2.1.map (·.1) := by
  intro p hp
  obtain ⟨i',q,hq,ep,hne,hs⟩ := h.pair hp
  rw [inS_from hpa hq,decide_eq_true_eq] at hs
  obtain ⟨e,h1⟩ := hs
  rw [e] at hq ep hne
  refine ⟨q,hq,ep,h.scan_in (x := bm (tr (G i q))) ?_⟩
  rw [h.at_ i q hq]
  exact if_neg hne
 have hscan := scan_eq h.ok (by omega) (ckey i (size / 32),qU4 i,false)
 have hscanR := refScan_eq h.ok (by omega) hsp
 generalize qa5 v (ckey i (size / 32),qU4 i,false) = xs at hlen hpair hscan hscanR
 generalize rdV v (ckey i (size / 32),qU4 i,false) = vr at hvr hown hscan hscanR
 have hstep : ∀ j (hj : j < xs.length) (u : VT),(VOk (n + 1) u ∧ u.2.1.map (·.1) = v.2.1.map (·.1)) → (VOk (n + 1) (cutF i size u xs[j]) ∧ (cutF i size u xs[j]).2.1.map (·.1) = v.2.1.map (·.1)) ∧
   ∃ q,okP i q ∧ xs[j].1 = ckey i q ∧ (bl (xs[j].2.extract 0 (min (xs[j].2.size : Int) (kpOf size q : Int)).toNat)).take 32 = (bl xs[j].2).take (kpOf size q) ∧ kpOf size q ≤ 32 ∧
    cutF i size u xs[j] = (if bm (tr ((bl xs[j].2).take (kpOf size q))) = xs[j].2 then u else setV u (ckey i q) (chg (tr ((bl xs[j].2).take (kpOf size q))) i q)) := by
  intro j hj u hJ
  obtain ⟨q,hq,ep,hin⟩ := hpair xs[j] (List.getElem_mem hj)
  have hpl : plcOf xs[j].1 = q := by rw [ep]; exact plcOf_ckey hq
  have hk1 : xs[j].1 = ckey i q := by rw [ep]
  have hkl := kp_le size q
  have hcf : cutF i size u xs[j] = (if bm (tr ((bl xs[j].2).take (kpOf size q))) = xs[j].2 then u else setV u (ckey i q) (chg (tr ((bl xs[j].2).take (kpOf size q))) i q)) := by
   unfold cutF; rw [hpl]
  refine ⟨?_,q,hq,hk1,?_,hkl,hcf⟩
  ·rw [hcf]
   split
   ·exact hJ
   ·have hmem : ckey i q ∈ u.2.1.map (·.1) := by rw [hJ.2]; exact hin
    refine ⟨hJ.1.set' (qW4 _ i q) (qZ3 i q) (chg_norm _ i q) hmem,?_⟩
    rw [set_keys]
    unfold addK
    rw [if_pos hmem]; exact hJ.2
  ·have hb : bl (xs[j].2.extract 0 (min (xs[j].2.size : Int) (kpOf size q : Int)).toNat) = (bl xs[j].2).take (kpOf size q) := by
    rw [qt0,List.drop_zero]
    have hl : (bl xs[j].2).length = xs[j].2.size := rfl
    by_cases hc : xs[j].2.size ≤ kpOf size q
    ·rw [List.take_of_length_le (by omega),List.take_of_length_le (by omega)]
    ·congr 1; omega
   rw [hb,List.take_of_length_le (by rw [List.length_take]; omega)]
 refine ⟨xs.foldl (cutF i size) vr,?_,?_⟩
 ·unfold qp0
  rw [bdO (may_eq _ _ _),decide_eq_true (by omega),Bool.not_true,cond_false]
  simp only [e1,e2]
  rw [bdO (chunks_eq hpa),bdO hscan]
  simp only [h00,cond_false]
  have hw := qY (body := fun (v437 : Int × VT) =>
     cond (decide (v437.1 < (xs.length : Int))) (
      (((
       (gx xs v437.1).bind fun x482 =>
       (qY3 x482.1).bind fun x485 =>
       cond (!x485.2) (
        some (.inr (12,v437.2))
       ) (
        (((
         cond (decide (x485.1.2.2.2 = ((size / 32 : Nat) : Int))) (
          some ((size % 32 : Nat) : Int)
         ) (
          some 0
         )
        ) : Option Int)).bind fun o496 =>
        (cutB 0 (min (x482.2.size : Int) o496) x482.2.size).bind fun _ =>
        (qG0 (x482.2.extract 0 (min (x482.2.size : Int) o496).toNat)).bind fun x505 =>
        cond (decide (x505 = x482.2)) (
         some (.inl v437.2)
        ) (
         (qe1 v437.2 (i : Int) x485.1.2.2.2 x505).bind fun x511 =>
         cond (decide (x511.1 ≠ 0)) (
          some (.inr (x511.1,x511.2))
         ) (
          some (.inl x511.2)
         )
        )
       )
      ) : Option (VT ⊕ (Int × VT)))).bind fun o479 =>
      Sum.elim (fun (v521 : VT) =>
       some (Sum.inl ((IntKind.wrap .i64 (v437.1 + 1)),v521))
      ) (fun w524 =>
       some (Sum.inr (Sum.inr w524 : VT ⊕ (Int × VT)))
      ) o479
     ) (
      some (Sum.inr (Sum.inl v437.2))
     )) xs (fun j (u : VT) => ((j : Int),u)) (cutF i size) (fun j u => VOk (n + 1) u ∧ u.2.1.map (·.1) = v.2.1.map (·.1)) (fun u => Sum.inl u) vr ⟨hvr,by rw [hown]⟩ (fun j hj u hJ => ?_) (fun u hJ => by
   simp only [ige,cond_false])
  ·simp only [Int.natCast_zero] at hw
   rw [bdO hw]
   rfl
  ·obtain ⟨hJ',q,hq,hk1,hb,hkl,hcf⟩ := hstep j hj u hJ
   refine ⟨?_,hJ'⟩
   have hof : qY3 xs[j].1 = some (((i : Int),3,mt,(q : Int)),true) := by rw [hk1]; exact Of_eq hq
   have hkp : (cond (decide ((q : Int) = ((size / 32 : Nat) : Int))) (some ((size % 32 : Nat) : Int)) (some (0 : Int)) : Option Int) = some (kpOf size q : Int) := by
    unfold kpOf
    by_cases e : q = size / 32
    ·rw [decide_eq_true (by omega),cond_true,if_pos e]
    ·rw [decide_eq_false (by omega),cond_false,if_neg e]; rfl
   have htrim := trim_eq (xs[j].2.extract 0 (min (xs[j].2.size : Int) (kpOf size q : Int)).toNat)
   rw [hb] at htrim
   have hcut : cutB 0 (min (xs[j].2.size : Int) (kpOf size q : Int)) xs[j].2.size = some () := qX (by omega)
   have hfin : (cond (decide (bm (tr ((bl xs[j].2).take (kpOf size q))) = xs[j].2)) (some (Sum.inl u)) ((qe1 u (i : Int) (q : Int) (bm (tr ((bl xs[j].2).take (kpOf size q))))).bind fun x511 => cond (decide (x511.1 ≠ 0)) (some (Sum.inr (x511.1,x511.2))) (some (Sum.inl x511.2))) : Option (VT ⊕ (Int × VT))) = some (Sum.inl (cutF i size u xs[j])) := by
    rw [hcf]
    by_cases hsame : bm (tr ((bl xs[j].2).take (kpOf size q))) = xs[j].2
    ·rw [decide_eq_true hsame,cond_true,if_pos hsame]
    ·rw [decide_eq_false hsame,cond_false,if_neg hsame,bdO (lay_eq u hq _)]
     have hl2 := tr_le ((bl xs[j].2).take (kpOf size q))
     rw [List.length_take] at hl2
     rw [bl_bm,List.take_of_length_le (by omega)]
     simp only [h00,cond_false]
   simp only [ilt hj,cond_true,q20 hj,Option.bind_some,hof,Bool.not_true,cond_false,hkp,hcut,htrim,hfin,Sum.elim_inl,wSu (show j < 9223372036854775807 by omega)]
 ·unfold qG1
  rw [bdO (mayR_eq _ _ _),decide_eq_true (by omega),Bool.not_true,cond_false]
  simp only [e1,e2]
  rw [bdO (chunksR_eq hpa),bdO hscanR]
  simp only
  have hw := qY (body := fun (v354 : Int × WT) =>
    cond (decide (v354.1 < (xs.length : Int))) (
     (((
      (gx xs v354.1).bind fun x393 =>
      (qE1 x393.1).bind fun x396 =>
      (((
       cond (decide (x396.1.2.2.2 = ((size / 32 : Nat) : Int))) (
        some ((size % 32 : Nat) : Int)
       ) (
        some 0
       )
      ) : Option Int)).bind fun o402 =>
      (cutB 0 (min (x393.2.size : Int) o402) x393.2.size).bind fun _ =>
      (qv1 (x393.2.extract 0 (min (x393.2.size : Int) o402).toNat)).bind fun x411 =>
      cond (decide (x411 ≠ x393.2)) (
       (qd1 v354.2 (i : Int) x396.1.2.2.2 x411).bind fun x417 =>
       some x417
      ) (
       some v354.2
      )
     ) : Option WT)).bind fun o390 =>
     some (Sum.inl ((IntKind.wrap .i64 (v354.1 + 1)),o390))
    ) (
     some (Sum.inr v354.2)
    )) xs (fun j (u : VT) => ((j : Int),refV u)) (cutF i size) (fun j u => VOk (n + 1) u ∧ u.2.1.map (·.1) = v.2.1.map (·.1)) (fun u => refV u) vr ⟨hvr,by rw [hown]⟩ (fun j hj u hJ => ?_) (fun u hJ => by
   simp only [ige,cond_false])
  ·simp only [Int.natCast_zero] at hw
   rw [bdO hw]
  ·obtain ⟨hJ',q,hq,hk1,hb,hkl,hcf⟩ := hstep j hj u hJ
   refine ⟨?_,hJ'⟩
   have hof : qE1 xs[j].1 = some (((i : Int),3,mt,(q : Int)),true) := by rw [hk1]; exact OfR_eq hq
   have hkp : (cond (decide ((q : Int) = ((size / 32 : Nat) : Int))) (some ((size % 32 : Nat) : Int)) (some (0 : Int)) : Option Int) = some (kpOf size q : Int) := by
    unfold kpOf
    by_cases e : q = size / 32
    ·rw [decide_eq_true (by omega),cond_true,if_pos e]
    ·rw [decide_eq_false (by omega),cond_false,if_neg e]; rfl
   have htrim := trimR_eq (xs[j].2.extract 0 (min (xs[j].2.size : Int) (kpOf size q : Int)).toNat)
   rw [hb] at htrim
   have hcut : cutB 0 (min (xs[j].2.size : Int) (kpOf size q : Int)) xs[j].2.size = some () := qX (by omega)
   have hfin : (cond (decide (bm (tr ((bl xs[j].2).take (kpOf size q))) ≠ xs[j].2)) ((qd1 (refV u) (i : Int) (q : Int) (bm (tr ((bl xs[j].2).take (kpOf size q))))).bind fun x417 => some x417) (some (refV u)) : Option WT) = some (refV (cutF i size u xs[j])) := by
    rw [hcf]
    by_cases hsame : bm (tr ((bl xs[j].2).take (kpOf size q))) = xs[j].2
    ·rw [decide_eq_false (fun h => h hsame),cond_false,if_pos hsame]
    ·rw [decide_eq_true hsame,cond_true,if_neg hsame,bdO (putR_eq hJ.1 hn hq _)]
     have hl2 := tr_le ((bl xs[j].2).take (kpOf size q))
     rw [List.length_take] at hl2
     rw [bl_bm,List.take_of_length_le (by omega)]
   simp only [ilt hj,cond_true,q20 hj,Option.bind_some,hof,hkp,hcut,htrim,hfin,wSu (show j < 9223372036854775807 by omega)]
end Go.Val
namespace Go.Val
open Go.Lib
theorem VOk.setAfter {n : Nat} {v v1 : VT} (h : VOk n v) (h1 : VOk (n + 1) v1) (e : v1.2.1 = v.2.1) {k : Ky} {c : Cg} (hc : c.1 = k) (hk : k.length = 24) (hn : qi3 c = c) : VOk (n + 1) (setV v1 k c) := by
 refine ⟨h1.base,?_,h1.rlen,h1.rok,h1.mlen,h1.mok⟩
 show MOk (n + 1) (mset v1.2.1 k c)
 rw [e]
 exact h.own.set hc hk hn
noncomputable def refBody (i p o c : Int) (w : WT) (x : ByteArray) : Option WT :=
     (((
      cond (decide (c < 32)) (
       (qD i p).bind fun x383 =>
       (qZ w x383.1).bind fun x386 =>
       (qM1 x386.1).bind fun x389 =>
       (cutB 0 o x389.size).bind fun _ =>
       (ck (decide ((x389.extract 0 o.toNat).size + (x.extract 0 c.toNat).size ≤ 9223372036854775807))).bind fun _ =>
       (cutB (IntKind.wrap .i64 (o + c)) (x389.size : Int) x389.size).bind fun _ =>
       (ck (decide (((x389.extract 0 o.toNat) ++ (x.extract 0 c.toNat)).size + (x389.extract (IntKind.wrap .i64 (o + c)).toNat (x389.size : Int).toNat).size ≤ 9223372036854775807))).bind fun _ =>
       some ((((x389.extract 0 o.toNat) ++ (x.extract 0 c.toNat)) ++ (x389.extract (IntKind.wrap .i64 (o + c)).toNat (x389.size : Int).toNat)),x386.2.2)
      ) (
       some ((x.extract 0 c.toNat),w)
      )
     ) : Option (ByteArray × WT))).bind fun o377 =>
     qd1 o377.2 i p o377.1
theorem bodyR {n : Nat} {v : VT} {G : Nat → Nat → By} {i p o c : Nat} {x : ByteArray} (h : CV n v G) (hn : n + 1 ≤ 900) (hp : okP i p) (hc : 0 < c) (ho : o + c ≤ 32) (hx : c ≤ x.size) : ∃ v' G',qQ (i : Int) v x ((p : Int),(o : Int),(c : Int)) = some (v',x.extract c x.size) ∧ CV (n + 1) v' G' ∧ refBody (i : Int) (p : Int) (o : Int) (c : Int) (refV v) x = some (refV v') := by
 have hxl : (bl x).length = x.size := rfl
 have htk : ((bl x).take c).length = c := by rw [List.length_take]; omega
 have hg := h.len i p
 have hol := ov_len (o := o) (d := (bl x).take c) hg (by omega)
 have e0 : bl (x.extract 0 c) = (bl x).take c := by rw [qt0,List.drop_zero]
 have h00 : decide ((0 : Int) ≠ 0) = false := by decide
 unfold qQ refBody
 simp only [Int.toNat_natCast]
 rw [bdO (qX (by omega)),bdO (qX (by omega))]
 by_cases h32 : c < 32
 ·obtain ⟨is,v1,e1,h1,k1⟩ := h.get (by omega) (qZ3 i p)
  obtain ⟨y,b,v1',q1,q2,q3⟩ := refGet_eq h.ok (by omega) (qZ3 i p)
  rw [e1] at q2
  simp only [Option.some.injEq,Prod.mk.injEq,true_and] at q2
  obtain ⟨rfl,rfl,rfl⟩ := q2
  have hlt : decide ((c : Int) < 32) = true := decide_eq_true (by omega)
  rw [hlt,cond_true,cond_true,bdO (qU3 hp),bdO (qs3 hp),bdO e1,bdO q3]
  simp only [h00,cond_false]
  rw [h.at_ i p hp,bdO (full_eq _),bdO (fullR_eq _),enc_full hg]
  have hs : (bm (G i p)).size = 32 := by rw [bm_size,hg]
  have hw : IntKind.wrap .i64 ((o : Int) + (c : Int)) = ((o + c : Nat) : Int) := by rw [wI64 (by omega)]; omega
  have s1 : bl ((bm (G i p)).extract 0 o) = (G i p).take o := by rw [qt0,bl_bm,List.drop_zero]
  have s2 : bl ((bm (G i p)).extract (o + c) 32) = (G i p).drop (o + c) := by rw [qt0,bl_bm,List.take_of_length_le (by omega)]
  have z1 : ((bm (G i p)).extract 0 o).size = o := by rw [← qc3,s1,List.length_take]; omega
  have z2 : (x.extract 0 c).size = c := by rw [← qc3,e0,htk]
  have z3 : ((bm (G i p)).extract (o + c) 32).size = 32 - (o + c) := by rw [← qc3,s2,List.length_drop]; omega
  have z4 : ((bm (G i p)).extract 0 o ++ x.extract 0 c).size = o + c := by rw [← qc3,qp2,s1,e0,List.length_append,htk,List.length_take]; omega
  rw [hw]
  have c1 : cutB 0 (o : Int) 32 = some () := qX (by omega)
  have c2 : ck (decide (((bm (G i p)).extract 0 o).size + (x.extract 0 c).size ≤ 9223372036854775807)) = some () := qE2 (by rw [z1,z2]; omega)
  have c3 : cutB ((o + c : Nat) : Int) ((32 : Nat) : Int) 32 = some () := qX (by omega)
  simp only [hs,c1,c2,c3,Option.bind_some,Int.toNat_natCast]
  have c4 : ck (decide (((bm (G i p)).extract 0 o ++ x.extract 0 c).size + ((bm (G i p)).extract (o + c) 32).size ≤ 9223372036854775807)) = some () := qE2 (by rw [z4,z3]; omega)
  simp only [c4,Option.bind_some]
  have hb : bl (((bm (G i p)).extract 0 o ++ x.extract 0 c) ++ (bm (G i p)).extract (o + c) 32) = ov (G i p) o ((bl x).take c) := by
   rw [qp2,qp2,s1,s2,e0]
   unfold ov
   rw [htk,List.append_assoc]
  rw [bdO (lay_eq v1 hp _),putR_eq h1.ok (by omega) hp,hb,List.take_of_length_le (by omega)]
  simp only [h00,cond_false]
  exact ⟨_,setG G i p (pad (ov (G i p) o ((bl x).take c))),rfl,h1.lay_ hp (b := ov (G i p) o ((bl x).take c)) (by omega) (h.ok.setAfter h1.ok k1 (qW4 _ i p) (qZ3 i p) (chg_norm _ i p)),rfl⟩
 ·have hlt : decide ((c : Int) < 32) = false := decide_eq_false (by omega)
  have ec : c = 32 := by omega
  have eo : o = 0 := by omega
  subst ec; subst eo
  rw [hlt,cond_false,cond_false]
  simp only [Option.bind_some]
  rw [bdO (lay_eq v hp _),putR_eq h.ok (by omega) hp,e0,List.take_of_length_le (by omega)]
  simp only [h00,cond_false]
  exact ⟨_,setG G i p (pad ((bl x).take 32)),rfl,h.lay hp (b := (bl x).take 32) (by omega),rfl⟩
noncomputable def qZ4 (i : Int) (v343 : Int × ByteArray × WT) : Option ((Int × ByteArray × WT) ⊕ WT) :=
    cond (decide (v343.2.1 ≠ (ByteArray.mk #[]))) (
     (cutB 0 (min (v343.2.1.size : Int) (IntKind.wrap .i64 (32 - (Int.tmod v343.1 32)))) v343.2.1.size).bind fun _ =>
     (refBody i (IntKind.wrap .i64 (Int.tdiv v343.1 32)) (Int.tmod v343.1 32) (min (v343.2.1.size : Int) (IntKind.wrap .i64 (32 - (Int.tmod v343.1 32)))) v343.2.2 v343.2.1).bind fun x404 =>
     (cutB (min (v343.2.1.size : Int) (IntKind.wrap .i64 (32 - (Int.tmod v343.1 32)))) (v343.2.1.size : Int) v343.2.1.size).bind fun _ =>
     some (.inl ((IntKind.wrap .i64 (v343.1 + (min (v343.2.1.size : Int) (IntKind.wrap .i64 (32 - (Int.tmod v343.1 32)))))),(v343.2.1.extract (min (v343.2.1.size : Int) (IntKind.wrap .i64 (32 - (Int.tmod v343.1 32)))).toNat (v343.2.1.size : Int).toNat),x404))
    ) (
     some (.inr v343.2.2)
    )
theorem loopR {i : Nat} (hi : 1 ≤ i ∧ i < 1073741824) : ∀ (m : Nat) {n off : Nat} {v : VT} {G : Nat → Nat → By} {x : ByteArray},CV n v G → n + pcs off m ≤ 900 → x.size = m → off + m ≤ 1048576 → ∃ o G',qA (V := (CVT × ByteArray) × Int × Int) (O := (CVT × ByteArray) × Int × Int) (qS (i : Int)) ((v,x),(off : Int),(m : Int)) = some o ∧ qA (V := Int × ByteArray × WT) (O := WT) (qZ4 (i : Int)) ((off : Int),x,refV v) = some (refV o.1.1) ∧ CV (n + pcs off m) o.1.1 G' := by
 intro m
 induction m using Nat.strongRecOn with
 | ind m ih =>
 intro n off v G x h hn hx hoff
 rw [qq0,qq0 (qZ4 (i : Int))]
 have hxl : (bl x).length = m := hx
 by_cases h0 : m = 0
 ·subst h0
  rw [bdO stop_of]
  have hx0 : x = ByteArray.mk #[] := by
   have : bl x = [] := List.eq_nil_of_length_eq_zero hxl
   rw [← bm_bl x,this]; rfl
  have hr : qZ4 (i : Int) ((off : Int),x,refV v) = some (.inr (refV v)) := by
   unfold qZ4
   rw [decide_eq_false (by simp [hx0])]
   rfl
  rw [bdO hr]
  exact ⟨_,G,rfl,rfl,h.mono (by omega)⟩
 ·have hp : okP i (off / 32) := ⟨hi,by omega⟩
  have hpc : pcs off m = (off % 32 + m + 31) / 32 := if_neg h0
  have hcpos : 0 < min m (32 - off % 32) := by omega
  obtain ⟨v1,G1,e1,h1,r1⟩ := bodyR h (by omega) hp (o := off % 32) (c := min m (32 - off % 32)) (x := x) hcpos (by omega) (by omega)
  rw [bdO (step_of (by omega) hoff e1)]
  simp only
  have hpc2 : pcs (off + min m (32 - off % 32)) (m - min m (32 - off % 32)) + 1 ≤ pcs off m := by
   rw [hpc]; unfold pcs
   split <;> omega
  have hb : bl (x.extract (min m (32 - off % 32)) x.size) = (bl x).drop (min m (32 - off % 32)) := by
   rw [qt0,List.take_of_length_le (by omega)]
  have hsz : (x.extract (min m (32 - off % 32)) x.size).size = m - min m (32 - off % 32) := by
   rw [← qc3,hb,List.length_drop]; omega
  obtain ⟨o,G',e2,r2,w⟩ := ih _ (by omega) (off := off + min m (32 - off % 32)) h1 (by omega) hsz (by omega)
  refine ⟨o,G',e2,?_,w.mono (by omega)⟩
  have hne : x ≠ ByteArray.mk #[] := fun e => by rw [e] at hx; exact h0 hx.symm
  have t1 : Int.tdiv (off : Int) 32 = ((off / 32 : Nat) : Int) := rfl
  have t2 : Int.tmod (off : Int) 32 = ((off % 32 : Nat) : Int) := rfl
  have t3 : min (x.size : Int) (IntKind.wrap .i64 (32 - ((off % 32 : Nat) : Int))) = ((min m (32 - off % 32) : Nat) : Int) := by rw [wI64 (by omega)]; omega
  have t4 : IntKind.wrap .i64 ((off / 32 : Nat) : Int) = ((off / 32 : Nat) : Int) := wI64 (by omega)
  have t5 : IntKind.wrap .i64 ((off : Int) + ((min m (32 - off % 32) : Nat) : Int)) = ((off + min m (32 - off % 32) : Nat) : Int) := by rw [wI64 (by omega)]; omega
  have hr : qZ4 (i : Int) ((off : Int),x,refV v) = some (.inl (((off + min m (32 - off % 32) : Nat) : Int),x.extract (min m (32 - off % 32)) x.size,refV v1)) := by
   unfold qZ4
   simp only
   rw [decide_eq_true hne,cond_true,t1,t2,t3,t4,t5,bdO (qX (by omega)),bdO r1,bdO (qX (by omega))]
   rfl
  rw [bdO hr]
  exact r2
theorem write_both {i off n : Nat} {x : ByteArray} {v : VT} {G : Nat → Nat → By} (hi : 1 ≤ i ∧ i < 1073741824) (h : CV n v G) (hn : n + pcs off x.size ≤ 900) (hoff : off + x.size ≤ 1048576) : ∃ v' G',qM v (i : Int) (off : Int) x = some (0,v') ∧ qB0 (refV v) (i : Int) (off : Int) x = some (0,refV v') ∧ CV (n + pcs off x.size) v' G' := by
 obtain ⟨o,G',e,r,w⟩ := loopR hi x.size h hn rfl hoff
 refine ⟨o.1.1,G',?_,?_,w⟩
 ·unfold qM
  rw [bdO (may_eq _ _ _),decide_eq_true (by omega),Bool.not_true,cond_false,bdO e]
 ·unfold qB0
  rw [bdO (mayR_eq _ _ _),decide_eq_true (by omega),Bool.not_true,cond_false]
  have r' : qA (V := Int × ByteArray × WT) (O := WT) (fun v343 =>
    cond (decide (v343.2.1 ≠ (ByteArray.mk #[]))) (
     (cutB 0 (min (v343.2.1.size : Int) (IntKind.wrap .i64 (32 - (Int.tmod v343.1 32)))) v343.2.1.size).bind fun _ =>
     (((
      cond (decide ((min (v343.2.1.size : Int) (IntKind.wrap .i64 (32 - (Int.tmod v343.1 32)))) < 32)) (
       (qD (i : Int) (IntKind.wrap .i64 (Int.tdiv v343.1 32))).bind fun x383 =>
       (qZ v343.2.2 x383.1).bind fun x386 =>
       (qM1 x386.1).bind fun x389 =>
       (cutB 0 (Int.tmod v343.1 32) x389.size).bind fun _ =>
       (ck (decide ((x389.extract 0 (Int.tmod v343.1 32).toNat).size + (v343.2.1.extract 0 (min (v343.2.1.size : Int) (IntKind.wrap .i64 (32 - (Int.tmod v343.1 32)))).toNat).size ≤ 9223372036854775807))).bind fun _ =>
       (cutB (IntKind.wrap .i64 ((Int.tmod v343.1 32) + (min (v343.2.1.size : Int) (IntKind.wrap .i64 (32 - (Int.tmod v343.1 32)))))) (x389.size : Int) x389.size).bind fun _ =>
       (ck (decide (((x389.extract 0 (Int.tmod v343.1 32).toNat) ++ (v343.2.1.extract 0 (min (v343.2.1.size : Int) (IntKind.wrap .i64 (32 - (Int.tmod v343.1 32)))).toNat)).size + (x389.extract (IntKind.wrap .i64 ((Int.tmod v343.1 32) + (min (v343.2.1.size : Int) (IntKind.wrap .i64 (32 - (Int.tmod v343.1 32)))))).toNat (x389.size : Int).toNat).size ≤ 9223372036854775807))).bind fun _ =>
       some ((((x389.extract 0 (Int.tmod v343.1 32).toNat) ++ (v343.2.1.extract 0 (min (v343.2.1.size : Int) (IntKind.wrap .i64 (32 - (Int.tmod v343.1 32)))).toNat)) ++ (x389.extract (IntKind.wrap .i64 ((Int.tmod v343.1 32) + (min (v343.2.1.size : Int) (IntKind.wrap .i64 (32 - (Int.tmod v343.1 32)))))).toNat (x389.size : Int).toNat)),x386.2.2)
      ) (
       some ((v343.2.1.extract 0 (min (v343.2.1.size : Int) (IntKind.wrap .i64 (32 - (Int.tmod v343.1 32)))).toNat),v343.2.2)
      )
     ) : Option (ByteArray × WT))).bind fun o377 =>
     (qd1 o377.2 (i : Int) (IntKind.wrap .i64 (Int.tdiv v343.1 32)) o377.1).bind fun x404 =>
     (cutB (min (v343.2.1.size : Int) (IntKind.wrap .i64 (32 - (Int.tmod v343.1 32)))) (v343.2.1.size : Int) v343.2.1.size).bind fun _ =>
     some (.inl ((IntKind.wrap .i64 (v343.1 + (min (v343.2.1.size : Int) (IntKind.wrap .i64 (32 - (Int.tmod v343.1 32)))))),(v343.2.1.extract (min (v343.2.1.size : Int) (IntKind.wrap .i64 (32 - (Int.tmod v343.1 32)))).toNat (v343.2.1.size : Int).toNat),x404))
    ) (
     some (.inr v343.2.2)
    )) ((off : Int),x,refV v) = some (refV o.1.1) := by
   rw [← r]
   congr 1
   funext v343
   unfold qZ4 refBody
   simp only [Option.bind_assoc]
  rw [bdO r']
theorem rd_both {a0 a1 m : Int} {n : Nat} {v : VT} {G : Nat → Nat → By} (h : CV n v G) (hn : n ≤ 900) : ∃ s e v' G',qP v a0 a1 m = some (s,e,v') ∧ qb1 (refV v) a0 a1 m = some (s,e,refV v') ∧ CV (n + 1) v' G' := by
 by_cases hc : (1 ≤ a0 ∧ a0 < 1073741824) ∧ 0 ≤ a1 ∧ 0 ≤ m ∧ a1 ≤ 1048576 ∧ m ≤ 1048576 - a1
 ·obtain ⟨i,rfl⟩ := Int.eq_ofNat_of_zero_le (show 0 ≤ a0 by omega)
  obtain ⟨o,rfl⟩ := Int.eq_ofNat_of_zero_le (show 0 ≤ a1 by omega)
  obtain ⟨k,rfl⟩ := Int.eq_ofNat_of_zero_le (show 0 ≤ m by omega)
  obtain ⟨v',e1,c1,k1,q⟩ := cread_eq (i := i) (off := o) (m := k) (by omega) h (by omega) (by omega)
  have r := readR_eq (i := i) (off := o) (m := k) (by omega) h hn (by omega)
  rw [← q] at r
  exact ⟨_,_,v',G,e1,r,c1⟩
 ·refine ⟨_,_,v,G,read_bad hc,?_,h.mono (by omega)⟩
  unfold qb1
  rw [bdO (mayR_eq _ _ _),decide_eq_false (by omega)]
  rfl
theorem ct_both {a0 a1 : Int} {n : Nat} {v : VT} {G : Nat → Nat → By} (h : CV n v G) (hn : n + 1 ≤ 900) : ∃ e v' G',qp0 v a0 a1 = some (e,v') ∧ qG1 (refV v) a0 a1 = some (e,refV v') ∧ CV (n + 1) v' G' := by
 by_cases hc : (1 ≤ a0 ∧ a0 < 1073741824) ∧ 0 ≤ a1 ∧ a1 ≤ 1048576
 ·obtain ⟨i,rfl⟩ := Int.eq_ofNat_of_zero_le (show 0 ≤ a0 by omega)
  obtain ⟨o,rfl⟩ := Int.eq_ofNat_of_zero_le (show 0 ≤ a1 by omega)
  obtain ⟨v',G',e1,c1⟩ := cut_eq (i := i) (size := o) (by omega) h (by omega) (by omega)
  obtain ⟨v'',e2,r⟩ := cut_both (i := i) (size := o) (by omega) h hn (by omega)
  rw [e1] at e2
  simp only [Option.some.injEq,Prod.mk.injEq,true_and] at e2
  subst e2
  exact ⟨_,v',G',e1,r,c1.cv⟩
 ·refine ⟨_,v,G,cut_bad hc,?_,h.mono (by omega)⟩
  unfold qG1
  rw [bdO (mayR_eq _ _ _),decide_eq_false (by omega)]
  rfl
theorem wr_both {a0 a1 : Int} {n : Nat} {x : ByteArray} {v : VT} {G : Nat → Nat → By} (h : CV n v G) (hn : n + 12 ≤ 900) (hx : x.size ≤ 300) : ∃ e v' G',qM v a0 a1 x = some (e,v') ∧ qB0 (refV v) a0 a1 x = some (e,refV v') ∧ CV (n + 12) v' G' := by
 by_cases hc : (1 ≤ a0 ∧ a0 < 1073741824) ∧ 0 ≤ a1 ∧ a1 ≤ 1048576 ∧ (x.size : Int) ≤ 1048576 - a1
 ·obtain ⟨i,rfl⟩ := Int.eq_ofNat_of_zero_le (show 0 ≤ a0 by omega)
  obtain ⟨o,rfl⟩ := Int.eq_ofNat_of_zero_le (show 0 ≤ a1 by omega)
  have hp : pcs o x.size ≤ 11 := by unfold pcs; split <;> omega
  obtain ⟨v',G',e1,r,w⟩ := write_both (i := i) (off := o) (x := x) (by omega) h (by omega) (by omega)
  exact ⟨_,v',G',e1,r,w.mono (by omega)⟩
 ·refine ⟨_,v,G,write_bad hc,?_,h.mono (by omega)⟩
  unfold qB0
  rw [bdO (mayR_eq _ _ _),decide_eq_false (by omega)]
  rfl
theorem ex300P (a : ByteArray) : (a.extract 0 (min (a.size : Int) 300).toNat).size ≤ 300 := by
 rw [← qc3,qt0,List.drop_zero,List.length_take]; omega
theorem refNew_nil : qu3 [] = some ([],[],[],[]) := by
 unfold qu3
 have e : mapP ([] : List Pr) = [] := mapP_id List.Pairwise.nil
 rw [bdO (refMap_eq [] (by decide)),e]
set_option maxRecDepth 100000 in
set_option maxHeartbeats 1000000 in
theorem chunkPlays_true (a0 : List (Int × Int × Int × Int × ByteArray)) : qx1 a0 = some true := by
 unfold qx1
 rw [bdO shown_eq,bdO new_n,bdO refNew_nil]
 simp only [Bool.not_true,cond_false,Option.bind_some]
 have hr0 : refV ([],[],[],[]) = ([],[],[],[]) := by
  have e : q33 (vals []) = [] := by
   refine qO0 (qy0 _) List.Pairwise.nil fun k => ?_
   rw [qa1]; rfl
  show (_,q33 (vals []),_,_) = _
  rw [e]; rfl
 have hloop := qn3 (body := fun (v843 : Int × VT × WT) =>
    (((
     cond (decide (v843.1 < (a0.length : Int))) (
      some (decide (v843.1 < 50))
     ) (
      some false
     )
    ) : Option Bool)).bind fun o850 =>
    cond o850 (
     (gx a0 v843.1).bind fun x859 =>
     (cutB 0 (min (x859.2.2.2.2.size : Int) 300) x859.2.2.2.2.size).bind fun _ =>
     (((
      (((
       cond (decide (x859.2.2.2.1 > 3000)) (
        some (decide (x859.2.2.2.1 < 1073741824))
       ) (
        some false
       )
      ) : Option Bool)).bind fun o885 =>
      cond o885 (
       some 3000
      ) (
       some x859.2.2.2.1
      )
     ) : Option Int)).bind fun o879 =>
     (((
      cond (decide (x859.1 = 1)) (
       (qM v843.2.1 x859.2.1 x859.2.2.1 (x859.2.2.2.2.extract 0 (min (x859.2.2.2.2.size : Int) 300).toNat)).bind fun x929 =>
       (qB0 v843.2.2 x859.2.1 x859.2.2.1 (x859.2.2.2.2.extract 0 (min (x859.2.2.2.2.size : Int) 300).toNat)).bind fun x932 =>
       some ((decide (x929.1 = x932.1)),x929.2,x932.2)
      ) (
       cond (decide (x859.1 = 2)) (
        (qp0 v843.2.1 x859.2.1 x859.2.2.1).bind fun x938 =>
        (qG1 v843.2.2 x859.2.1 x859.2.2.1).bind fun x941 =>
        some ((decide (x938.1 = x941.1)),x938.2,x941.2)
       ) (
        (qP v843.2.1 x859.2.1 x859.2.2.1 o879).bind fun x944 =>
        (qb1 v843.2.2 x859.2.1 x859.2.2.1 o879).bind fun x947 =>
        cond (decide (x944.1 = x947.1)) (
         some ((decide (x944.2.1 = x947.2.1)),x944.2.2,x947.2.2)
        ) (
         some (false,x944.2.2,x947.2.2)
        )
       )
      )
     ) : Option (Bool × VT × WT))).bind fun o923 =>
     (((
      cond (!o923.1) (
       some (true,o923.2.1)
      ) (
       (qJ o923.2.1).bind fun x983 =>
       (qW x983.1 o923.2.2.2.1).bind fun x986 =>
       cond (!x986) (
        some (true,x983.2)
       ) (
        (qn0 x983.2).bind fun x992 =>
        (ql2 x992.1 o923.2.2.2.2.1).bind fun x995 =>
        some ((!x995),x992.2)
       )
      )
     ) : Option (Bool × VT))).bind fun o977 =>
     cond o977.1 (
      some (Sum.inr (Sum.inr false : Unit ⊕ Bool))
     ) (
      some (Sum.inl ((IntKind.wrap .i64 (v843.1 + 1)),o977.2,(o923.2.2.1,o923.2.2.2.1,o923.2.2.2.2.1,o923.2.2.2.2.2)))
     )
    ) (
     some (Sum.inr (Sum.inl ()))
    )) (min a0.length 50) (fun j (u : VT) => ((j : Int),u,refV u)) (fun j u => ∃ G,CV (12 * j) u G) (fun _ => Sum.inl ()) ([],[],[],[]) ⟨_,CV.new⟩ (fun j hj u hJ => ?_) (fun u hJ => ?_)
 ·obtain ⟨_,_,hw⟩ := hloop
  simp only [Int.natCast_zero,hr0] at hw
  rw [bdO hw]
  rfl
 ·obtain ⟨G,hv⟩ := hJ
  have g1 : j < a0.length := by omega
  have g2 : decide ((j : Int) < 50) = true := decide_eq_true (by omega)
  have k1 : cutB 0 (min (a0[j].2.2.2.2.size : Int) 300) a0[j].2.2.2.2.size = some () := qX (by omega)
  have hm : ∃ m : Int,(((cond (decide (a0[j].2.2.2.1 > 3000)) (some (decide (a0[j].2.2.2.1 < 1073741824))) (some false) : Option Bool)).bind fun o885 => cond o885 (some 3000) (some a0[j].2.2.2.1)) = some m := by
   by_cases h1 : a0[j].2.2.2.1 > 3000
   ·rw [decide_eq_true h1,cond_true,Option.bind_some]
    cases decide (a0[j].2.2.2.1 < 1073741824) <;> exact ⟨_,rfl⟩
   ·rw [decide_eq_false h1,cond_false,Option.bind_some]
    exact ⟨_,rfl⟩
  obtain ⟨m,hm⟩ := hm
  have hact : ∃ v' G',(((
      cond (decide (a0[j].1 = 1)) (
       (qM u a0[j].2.1 a0[j].2.2.1 (a0[j].2.2.2.2.extract 0 (min (a0[j].2.2.2.2.size : Int) 300).toNat)).bind fun x929 =>
       (qB0 (refV u) a0[j].2.1 a0[j].2.2.1 (a0[j].2.2.2.2.extract 0 (min (a0[j].2.2.2.2.size : Int) 300).toNat)).bind fun x932 =>
       some ((decide (x929.1 = x932.1)),x929.2,x932.2)
      ) (
       cond (decide (a0[j].1 = 2)) (
        (qp0 u a0[j].2.1 a0[j].2.2.1).bind fun x938 =>
        (qG1 (refV u) a0[j].2.1 a0[j].2.2.1).bind fun x941 =>
        some ((decide (x938.1 = x941.1)),x938.2,x941.2)
       ) (
        (qP u a0[j].2.1 a0[j].2.2.1 m).bind fun x944 =>
        (qb1 (refV u) a0[j].2.1 a0[j].2.2.1 m).bind fun x947 =>
        cond (decide (x944.1 = x947.1)) (
         some ((decide (x944.2.1 = x947.2.1)),x944.2.2,x947.2.2)
        ) (
         some (false,x944.2.2,x947.2.2)
        )
       )
      )
     ) : Option (Bool × VT × WT))) = some (true,v',refV v') ∧ CV (12 * (j + 1)) v' G' := by
   by_cases h1 : a0[j].1 = 1
   ·rw [decide_eq_true h1,cond_true]
    obtain ⟨e,v',G',q1,q2,q3⟩ := wr_both (a0 := a0[j].2.1) (a1 := a0[j].2.2.1) hv (by omega) (ex300P a0[j].2.2.2.2)
    rw [bdO q1,bdO q2]
    refine ⟨v',G',?_,q3.mono (by omega)⟩
    simp only [decide_true]
   ·rw [decide_eq_false h1,cond_false]
    by_cases h2 : a0[j].1 = 2
    ·rw [decide_eq_true h2,cond_true]
     obtain ⟨e,v',G',q1,q2,q3⟩ := ct_both (a0 := a0[j].2.1) (a1 := a0[j].2.2.1) hv (by omega)
     rw [bdO q1,bdO q2]
     refine ⟨v',G',?_,q3.mono (by omega)⟩
     simp only [decide_true]
    ·rw [decide_eq_false h2,cond_false]
     obtain ⟨s,e,v',G',q1,q2,q3⟩ := rd_both (a0 := a0[j].2.1) (a1 := a0[j].2.2.1) (m := m) hv (by omega)
     rw [bdO q1,bdO q2]
     refine ⟨v',G',?_,q3.mono (by omega)⟩
     simp only [decide_true,cond_true]
  obtain ⟨v',G',hact,hcv⟩ := hact
  refine ⟨v',?_,G',hcv⟩
  have hch := changes_eqV hcv.ok (by omega)
  have hjl := q34 hcv.ok.own
  have e1 : (refV v').2.1 = q33 (vals v'.2.1) := rfl
  have e2 : (refV v').2.2.1 = v'.2.2.1 := rfl
  have hsc := sameChangesR_eq (q33 (vals v'.2.1)) (q33 (vals v'.2.1)) (by omega)
  have hrl := hcv.ok.rlen
  have hrd := reads_eq v' (by omega)
  have hss := sameS_eq v'.2.2.1 v'.2.2.1 (by omega)
  simp only [ilt g1,cond_true,g2,Option.bind_some,q20 g1,k1,hm,hact,Bool.not_true,cond_false,hch,e1,hsc,decide_true,hrd,e2,hss,wSu (show j < 9223372036854775807 by omega)]
  rfl
 ·by_cases h : a0.length ≤ 50
  ·have e : min a0.length 50 = a0.length := by omega
   rw [e]
   simp only [ige,cond_false,Option.bind_some]
  ·have e : min a0.length 50 = 50 := by omega
   rw [e]
   have h1 : decide (((50 : Nat) : Int) < (a0.length : Int)) = true := decide_eq_true (by omega)
   have h2 : decide (((50 : Nat) : Int) < 50) = false := by decide
   simp only [h1,h2,cond_true,Option.bind_some,cond_false]
end Go.Val
