/- Scan,over a tree. -/
import Derived.Test.YtfbnhflapgddbaaT1
import Derived.Test.YtfbnhflapgddbaaWi
import Derived.Test.YtfbnhflapgddbaaLd
import Derived.Test.YtfbnhflapgddbaaWj
import Derived.Test.YtfbnhflapgddbaaHk
import Derived.Test.YtfbnhflapgddbaaWl
import Derived.Test.YtfbnhflapgddbaaHa
import Derived.Test.YtfbnhflapgddbaaWn
set_option linter.all false
namespace Go.Val
open Go.RowKit Go.Lib
theorem qD1 {V O R : Type} {body : V → Option (V ⊕ O)} {f : O → Option R} {Q : Option R → Prop} (J : V → Prop) (μ : V → Nat) (Post : O → Prop) {v : V} (hv : J v)
  (hs : ∀ v,J v → (∃ v',body v = some (.inl v') ∧ J v' ∧ μ v' < μ v) ∨ ∃ o,body v = some (.inr o) ∧ Post o)
  (hp : ∀ o,Post o → Q (f o)) : Q ((qN body v).bind f) := by
 obtain ⟨o,h1,h2⟩ := q00 J μ Post hs hv
 rw [h1]
 exact hp o h2
theorem whileO_is {V O : Type} {body : V → Option (V ⊕ O)} {o : O} (J : V → Prop) (μ : V → Nat) {v : V} (hv : J v)
  (hs : ∀ v,J v → (∃ v',body v = some (.inl v') ∧ J v' ∧ μ v' < μ v) ∨ body v = some (.inr o)) : qN body v = some o := by
 obtain ⟨o',h1,h2⟩ := q00 J μ (fun x => x = o) (fun v hv => (hs v hv).imp id fun h => ⟨o,h,rfl⟩) hv
 rw [h1,h2]
theorem cmp_eq (a b : Ky) : qD a b = some (compareBytes a b) := by simp [qD,q60]
theorem filter_none {s : Spn} {q : List Pr} (h : ∀ x ∈ q,inT s x.1 = false) : (q.filter fun p => inT s p.1) = [] := by
 refine List.filter_eq_nil_iff.2 fun x hx => ?_
 rw [h x hx]; simp
theorem inT_low {s : Spn} {k : Ky} (h : Lt k s.1) : inT s k = false := by
 unfold inT Lt at *
 have : ¬ compareBytes k s.1 ≥ 0 := by omega
 simp [this]
theorem inT_high {s : Spn} {k : Ky} (he : s.2.2 = false) (h : ¬ Lt k s.2.1) : inT s k = false := by
 unfold inT Lt at *
 simp [he,h]
theorem scan_n {K : Int} {m : Mem} {s : Spn} (hw : WfM K m) : ∀ (fuel L : Nat) {n : Int} {q : List Pr},L < fuel → Tr m L n q → Rising q → q.length ≤ 1000000 →
  qP1 fuel m n s = some (q.filter fun p => inT s p.1,0,m) := by
 intro fuel
 induction fuel with
 | zero => intro L n q h; omega
 | succ fuel ih =>
  intro L n q hL hT hq hn
  have hc := qm2 (qZ2 hT)
  have hp := hw.pos n _ hc.2
  have n0 : ¬ n = 0 := by omega
  have hg := tr_get hT
  have hnd := qe6 hT
  rw [qP1]
  unfold qI1
  rw [hg]
  simp only [n0,zB,zD,zA,ne_eq,zP]
  rw [scan_leaf (by omega)]
  simp only [zA]
  match L,hT with
  | 0,hT =>
   rw [Tr] at hT
   rw [hT.2.1]
   rw [qI]
   simp
  | L + 1,hT =>
   rw [Tr] at hT
   obtain ⟨_,ks,h1,h2,h3,qs,h4,h5⟩ := hT
   rw [h1]
   simp only [List.filter_nil]
   have hqf : Rising qs.flatten := h4 ▸ hq
   refine qD1 (Q := fun o => o = some (q.filter fun p => inT s p.1,0,m)) (fun v => ∃ D Z QD QZ,ks = D ++ Z ∧ qs = QD ++ QZ ∧ F2 (fun k q => Tr m L k.2 q ∧ ¬ fewN (ndOf m k.2) ∧ hd q = some k.1) Z QZ ∧ v = ((D.length : Int),m,QD.flatten.filter fun p => inT s p.1))
    (fun v => ((ks.length : Int) - v.1).toNat) (fun o => o = .inl (m,q.filter fun p => inT s p.1)) ⟨[],ks,[],qs,rfl,rfl,h5,rfl⟩ ?_ ?_
   ·rintro v ⟨D,Z,QD,QZ,e1,e2,e3,rfl⟩
    have hl : ks.length = D.length + Z.length := by rw [e1]; simp
    cases e3 with
    | nil =>
     right
     have t : ¬ ((D.length : Int) < (ks.length : Int)) := by simp at hl; omega
     refine ⟨.inl (m,q.filter fun p => inT s p.1),?_,rfl⟩
     simp only [t,zB,zD]
     rw [← h4,e2]; simp
    | @cons z qz Z' QZ' hz hzs =>
     left
     simp only [zG] at hl
     have t : ((D.length : Int) < (ks.length : Int)) := by omega
     have g0 : gx ks (D.length : Int) = some z := by rw [e1]; exact qB2 rfl
     have w1 : IntKind.wrap .i64 ((D.length : Int) + 1) = (D.length : Int) + 1 := w64 (by omega) (by omega)
     rw [e2,List.flatten_append,List.flatten_cons] at hqf
     obtain ⟨r1,r2,r3⟩ := qP.1 hqf
     obtain ⟨r4,r5,r6⟩ := qP.1 r2
     have lq : qs.flatten.length = q.length := by rw [h4]
     have lq' : QD.flatten.length + qz.length ≤ q.length := by rw [← lq,e2]; simp
     have fl1 := List.length_filter_le (fun p : Pr => inT s p.1) QD.flatten
     have fl2 := List.length_filter_le (fun p : Pr => inT s p.1) qz
     refine ⟨((D.length : Int) + 1,m,(QD ++ [qz]).flatten.filter fun p => inT s p.1),?_,⟨D ++ [z],Z',QD ++ [qz],QZ',by simp [e1],by simp [e2],hzs,by simp⟩,by simp; omega⟩
     simp only [t,zC,zE,w1]
     have hbe : ∃ bh,((cond (decide ((D.length : Int) + 1 < (ks.length : Int))) (
         (gx ks ((D.length : Int) + 1)).bind fun x1100 =>
         (qD x1100.1 s.1).bind fun x1103 =>
         some (decide (x1103 ≤ 0))
        ) (
         some false
        )) : Option Bool) = some bh ∧ (bh = true → ∀ x ∈ qz,inT s x.1 = false) := by
      cases hzs with
      | nil =>
       have t2 : ¬ ((D.length : Int) + 1 < (ks.length : Int)) := by simp at hl; omega
       exact ⟨false,by simp only [t2,zB,zD],fun h => by cases h⟩
      | @cons y qy Z2 QZ2 hy hys =>
       simp only [zG] at hl
       have t2 : ((D.length : Int) + 1 < (ks.length : Int)) := by omega
       have g1 : gx ks ((D.length : Int) + 1) = some y := by
        rw [e1,show D ++ z :: y :: Z2 = (D ++ [z]) ++ y :: Z2 by simp]; exact qB2 (by simp)
       refine ⟨decide (compareBytes y.1 s.1 ≤ 0),by simp only [t2,zC,zE,g1,zA,cmp_eq],fun h x hx => ?_⟩
       have h' := of_decide_eq_true h
       obtain ⟨b,hb,eb⟩ := hd_mem hy.2.2
       have := r6 x hx b (by simp [hb])
       rw [eb] at this
       exact inT_low (cb_lt_le this h')
     obtain ⟨bh,b1,b2⟩ := hbe
     rw [b1]
     simp only [zA]
     have hah : ∃ ah,((cond (!s.2.2) (
         (gx ks (D.length : Int)).bind fun x1121 =>
         (qD x1121.1 s.2.1).bind fun x1124 =>
         some (decide (x1124 ≥ 0))
        ) (
         some false
        )) : Option Bool) = some ah ∧ (ah = true → ∀ x ∈ qz,inT s x.1 = false) := by
      cases hs : s.2.2 with
      | true => exact ⟨false,rfl,fun h => by cases h⟩
      | false =>
       refine ⟨decide (compareBytes z.1 s.2.1 ≥ 0),by simp only [Bool.not_false,zE,g0,zA,cmp_eq],fun h x hx => ?_⟩
       have h' := of_decide_eq_true h
       refine inT_high hs fun hl => ?_
       rcases hd_le hz.2.2 r4 x hx with e | e
       ·rw [e] at hl; unfold Lt at hl; omega
       ·have := lt_trans e hl; unfold Lt at this; omega
     obtain ⟨ah,a1,a2⟩ := hah
     rw [a1]
     simp only [zA]
     have hor : (cond bh (some true) (some ah) : Option Bool) = some (bh || ah) := by cases bh <;> rfl
     rw [hor]
     simp only [zA]
     have e0 : ((QD ++ [qz]).flatten.filter fun p => inT s p.1) = (QD.flatten.filter fun p => inT s p.1) ++ qz.filter fun p => inT s p.1 := by simp
     rw [e0]
     cases hb : (bh || ah) with
     | true =>
      have : (qz.filter fun p => inT s p.1) = [] := filter_none (by
       rcases Bool.or_eq_true _ _ |>.mp hb with h | h
       ·exact b2 h
       ·exact a2 h)
      rw [this]
      simp
     | false =>
      simp only [zD,g0,zA]
      rw [ih L (by omega) hz.1 r4 (by omega)]
      simp only [zA,zP,zB,zD]
      rw [q81 (by omega)]
      rfl
   ·rintro o rfl
    rfl
theorem scan_eq {K : Int} {m : Mem} {s : Spn} (hw : WfM K m) {L : Nat} {n : Int} {q : List Pr} (hL : L < 16) (h : Tr m L n q) (hq : Rising q) (hn : q.length ≤ 1000000) : qp1 m n s = some (q.filter fun p => inT s p.1,0,m) :=
 scan_n hw 16 L hL h hq hn
theorem scan_zero {m : Mem} {s : Spn} : qp1 m 0 s = some ([],0,m) := by
 unfold qp1
 rw [qP1]
 unfold qI1
 simp
end Go.Val
namespace Go.Val
open Go.RowKit Go.Lib
abbrev KidR (m : Mem) (L : Nat) (k : Kd) (q : List Pr) : Prop := Tr m L k.2 q ∧ ¬ fewN (ndOf m k.2) ∧ hd q = some k.1
def qh6 (q : List Pr) : Prop := ∀ p ∈ q,p.2.size ≤ 40
theorem qV3 {K : Int} {m : Mem} {n : Int} (hw : WfM K m) (h : cnt m n ≠ 0) : 1 ≤ cnt m n ∧ cnt m n ≤ K ∧ 2 ≤ n ∧ n < m.1.1 := hw.pos n _ (qm2 h).2
theorem kids_ok {K : Int} {m : Mem} (hw : WfM K m) {L : Nat} : ∀ {ks : List Kd} {qs : List (List Pr)},F2 (KidR m L) ks qs → Rising qs.flatten → KidsOk ks
 | _,_,.nil,_ => ⟨by simp,by simp⟩
 | _,_,.cons (a := k) (b := q) (l := ks) (r := qs) h hs,hr => by
  rw [List.flatten_cons] at hr
  obtain ⟨r1,r2,r3⟩ := qP.1 hr
  obtain ⟨i1,i2⟩ := kids_ok hw hs r2
  have hp := qV3 hw (qZ2 h.1)
  have hb := hw.blk
  refine ⟨fun k' hk' => ?_,?_⟩
  ·rcases zM.1 hk' with rfl | hk'
   ·exact ⟨hp.2.2.1,by omega⟩
   ·exact i1 k' hk'
  ·rw [List.map_cons,List.nodup_cons]
   refine ⟨fun hm => ?_,i2⟩
   obtain ⟨k',hk',e⟩ := List.mem_map.1 hm
   obtain ⟨q',hq',hR⟩ := hs.mem k' hk'
   have e2 : q' = q := by
    have := hR.1
    rw [e] at this
    exact tr_unique this h.1
   obtain ⟨x,hx,_⟩ := hd_mem h.2.2
   exact lt_irrefl _ (r3 x hx x (List.mem_flatten.2 ⟨q',hq',by rw [e2]; exact hx⟩))
theorem right_inner {K : Int} {m : Mem} (hw : WfM K m) {L : Nat} {ks : List Kd} {qs : List (List Pr)} (hL : L + 1 < 12) (h2 : 2 ≤ ks.length) (h18 : ks.length ≤ 18) (h : F2 (KidR m L) ks qs) (hr : Rising qs.flatten) : RightN (((L + 1 : Nat) : Int),[],ks) := by
 refine ⟨by simp only; omega,by simp only; omega,fun h0 => ?_,fun _ => ⟨h2,h18,rfl⟩,by simp,kids_ok hw h hr,by simp [Rising,Asc],qP5 (fun k q hk => hk.2.2) h hr⟩
 have h0' : ((L + 1 : Nat) : Int) = 0 := h0
 omega
theorem right_leaf {q : List Pr} (h1 : 1 ≤ q.length) (h7 : q.length ≤ 7) (hr : Rising q) (hs : qh6 q) : RightN (0,q,[]) :=
 ⟨by simp,by simp,fun _ => ⟨h1,h7,rfl⟩,fun h => by simp at h,hs,⟨by simp,by simp⟩,hr,by simp [Rising,Asc]⟩
theorem tr_right {K : Int} {m : Mem} (hw : WfM K m) : ∀ {L : Nat} {n : Int} {q : List Pr},L < 12 → Tr m L n q → Rising q → qh6 q → RightN (ndOf m n)
 | 0,n,q,_,h,hr,hs => by
  rw [Tr] at h
  rw [h.2.1]
  exact right_leaf h.2.2.1 h.2.2.2 hr hs
 | L + 1,n,q,hL,h,hr,hs => by
  rw [Tr] at h
  obtain ⟨_,ks,h1,h2,h3,qs,h4,h5⟩ := h
  rw [h1]
  exact right_inner hw hL h2 h3 h5 (h4 ▸ hr)
theorem rightB {x : Nd} (h : RightN x) : ql2 x = some true := by
 have h1 : x.2.1.length ≤ 1000000000 := by
  obtain ⟨a,b,c,d,_⟩ := h
  by_cases e : x.1 = 0
  ·have := c e; omega
  ·have := d (by omega); omega
 have h2 : x.2.2.length ≤ 1000000000 := by
  obtain ⟨a,b,c,d,_⟩ := h
  by_cases e : x.1 = 0
  ·have := c e; omega
  ·have := d (by omega); omega
 obtain ⟨b,e1,e2⟩ := right_eq h1 h2
 rw [e1,e2.2 h]
theorem qF5 {m : Mem} {L : Nat} {n : Int} {q : List Pr} (h : Tr m L n q) (hn : q.length ≤ 1000000) : L < 7 := by
 match L,h with
 | 0,_ => omega
 | L + 1,h =>
  rw [Tr] at h
  obtain ⟨_,ks,h1,h2,h3,qs,h4,h5⟩ := h
  have := flat_size (R := KidR m L) (c := 3 * 9 ^ L) (fun k q hk => tr_size hk.1 hk.2.1) h5
  rw [h4] at this
  have h2' : 2 * (3 * 9 ^ L) ≤ ks.length * (3 * 9 ^ L) := Nat.mul_le_mul_right _ h2
  refine Nat.lt_of_not_le fun h6 => ?_
  have h9 : 9 ^ 6 ≤ 9 ^ L := Nat.pow_le_pow_right (by omega) (by omega)
  have : (9 : Nat) ^ 6 = 531441 := by decide
  omega
instance (x : Nd) : Decidable (fewN x) := by
 unfold fewN
 split <;> infer_instance
theorem few_nd (x : Nd) : qJ5 x = some (decide (fewN x)) := by
 obtain ⟨l,ps,ks⟩ := x
 unfold qJ5 fewN
 by_cases h : l = 0
 ·simp [h]
  constructor <;> intro <;> omega
 ·simp [h]
  constructor <;> intro <;> omega
theorem first_tr {m : Mem} : ∀ {L : Nat} {n : Int} {q : List Pr} {k : Ky},Tr m L n q → hd q = some k → qL2 (ndOf m n) = some k
 | 0,n,q,k,h,hk => by
  rw [Tr] at h
  rw [h.2.1]
  match q,hk with
  | x :: q,hk =>
   have e : x.1 = k := by simpa [hd] using hk
   unfold qL2
   rw [show gx (x :: q) 0 = some x from rfl]
   simp [e]
 | L + 1,n,q,k,h,hk => by
  rw [Tr] at h
  obtain ⟨_,ks,h1,h2,h3,qs,h4,h5⟩ := h
  rw [h1]
  match ks,qs,h5 with
  | k0 :: ks,q0 :: qs,.cons h h5 =>
   have e : k0.1 = k := by
    rw [← h4,List.flatten_cons,hd_app (hd_ne h.2.2),h.2.2] at hk
    exact zQ hk
   unfold qL2
   rw [show gx (k0 :: ks) 0 = some k0 from rfl]
   simp [e]
theorem check_n {K : Int} {m : Mem} (hw : WfM K m) : ∀ (fuel L : Nat) {n : Int} {q : List Pr} {t : Ky × Bool},L < fuel → L < 12 → Tr m L n q → Rising q → qh6 q → (t.2 = true → ∀ x ∈ q,Lt x.1 t.1) →
  qV1 fuel m (ndOf m n) t = some (0,m) := by
 intro fuel
 induction fuel with
 | zero => intro L n q t h; omega
 | succ fuel ih =>
  intro L n q t hL h12 hT hr hs ht
  have hR := tr_right hw h12 hT hr hs
  rw [qV1]
  unfold q32
  rw [rightB hR]
  simp only [zA,Bool.not_true,zD]
  have hlast : ∃ k,((cond (decide ((ndOf m n).1 = 0)) (
    (gx (ndOf m n).2.1 (IntKind.wrap .i64 (((ndOf m n).2.1.length : Int) - 1))).bind fun x22 =>
    some x22.1
   ) (
    (gx (ndOf m n).2.2 (IntKind.wrap .i64 (((ndOf m n).2.2.length : Int) - 1))).bind fun x25 =>
    some x25.1
   )) : Option (List UInt8)) = some k ∧ ∃ x ∈ q,x.1 = k := by
   match L,hT with
   | 0,hT =>
    rw [Tr] at hT
    rw [hT.2.1]
    rcases qB1 q with rfl | ⟨D,z,rfl⟩
    ·simp at hT
    ·refine ⟨z.1,?_,z,by simp,rfl⟩
     have hl7 := hT.2.2.2
     simp only [zF,zG,zH] at hl7
     have e : IntKind.wrap .i64 (((D ++ [z]).length : Int) - 1) = (D.length : Int) := by
      rw [w64 (by simp <;> omega) (by simp <;> omega)]; simp
     simp only [zC,zE]
     rw [e,show gx (D ++ [z]) (D.length : Int) = some z from qB2 rfl]
     rfl
   | L + 1,hT =>
    rw [Tr] at hT
    obtain ⟨_,ks,h1,h2,h3,qs,h4,h5⟩ := hT
    rw [h1]
    rcases qB1 ks with rfl | ⟨D,z,rfl⟩
    ·simp at h2
    ·have h0 : ¬ ((L + 1 : Nat) : Int) = 0 := by omega
     simp only [zF,zG,zH] at h3
     have e : IntKind.wrap .i64 (((D ++ [z]).length : Int) - 1) = (D.length : Int) := by
      rw [w64 (by simp <;> omega) (by simp <;> omega)]; simp
     obtain ⟨q',hq',hR'⟩ := h5.mem z (by simp)
     obtain ⟨x,hx,ex⟩ := hd_mem hR'.2.2
     refine ⟨z.1,?_,x,by rw [← h4]; exact List.mem_flatten.2 ⟨q',hq',hx⟩,ex⟩
     simp only [h0,zB,zD]
     rw [e,show gx (D ++ [z]) (D.length : Int) = some z from qB2 rfl]
     rfl
  obtain ⟨k,k1,x,hx,ex⟩ := hlast
  rw [k1]
  simp only [zA]
  have hb : ((cond t.2 (
    (qD k t.1).bind fun x40 =>
    some (decide (x40 ≥ 0))
   ) (
    some false
   )) : Option Bool) = some false := by
   cases h : t.2 with
   | false => rfl
   | true =>
    have := ht h x hx
    rw [ex] at this
    unfold Lt at this
    have h' : ¬ (compareBytes k t.1 ≥ 0) := by omega
    simp only [zE,cmp_eq,zA,h',zB]
  rw [hb]
  simp only [zA,zD]
  match L,hT with
  | 0,hT =>
   rw [Tr] at hT
   rw [hT.2.1,qI]
   simp
  | L + 1,hT =>
   rw [Tr] at hT
   obtain ⟨_,ks,h1,h2,h3,qs,h4,h5⟩ := hT
   rw [h1]
   have hqf : Rising qs.flatten := h4 ▸ hr
   refine qD1 (Q := fun o => o = some (0,m)) (fun v => ∃ D Z QD QZ,ks = D ++ Z ∧ qs = QD ++ QZ ∧ F2 (KidR m L) Z QZ ∧ v = ((D.length : Int),m))
    (fun v => ((ks.length : Int) - v.1).toNat) (fun o => o = .inl m) ⟨[],ks,[],qs,rfl,rfl,h5,rfl⟩ ?_ ?_
   ·rintro v ⟨D,Z,QD,QZ,e1,e2,e3,rfl⟩
    have hl : ks.length = D.length + Z.length := by rw [e1]; simp
    cases e3 with
    | nil =>
     right
     have t : ¬ ((D.length : Int) < (ks.length : Int)) := by simp at hl; omega
     exact ⟨.inl m,by simp only [t,zB,zD],rfl⟩
    | @cons z qz Z' QZ' hz hzs =>
     left
     simp only [zG] at hl
     have tt : ((D.length : Int) < (ks.length : Int)) := by omega
     have g0 : gx ks (D.length : Int) = some z := by rw [e1]; exact qB2 rfl
     have w1 : IntKind.wrap .i64 ((D.length : Int) + 1) = (D.length : Int) + 1 := w64 (by omega) (by omega)
     have w2 : IntKind.wrap .i64 (((L + 1 : Nat) : Int) - 1) = (L : Int) := by rw [w64 (by omega) (by omega)]; omega
     rw [e2,List.flatten_append,List.flatten_cons] at hqf
     obtain ⟨r1,r2,r3⟩ := qP.1 hqf
     obtain ⟨r4,r5,r6⟩ := qP.1 r2
     refine ⟨((D.length : Int) + 1,m),?_,⟨D ++ [z],Z',QD ++ [qz],QZ',by simp [e1],by simp [e2],hzs,by simp⟩,by simp; omega⟩
     simp only [tt,zC,zE,w1,g0,zA,tr_get hz.1,ne_eq,zP,zB,zD]
     have hsub : ∀ x ∈ qz,x ∈ q := fun x hx => by rw [← h4,e2]; simp [hx]
     have hnx : ∃ t',((cond (decide ((D.length : Int) + 1 < (ks.length : Int))) (
         (gx ks ((D.length : Int) + 1)).bind fun x439 =>
         some (x439.1,true)
        ) (
         some t
        )) : Option ((List UInt8) × Bool)) = some t' ∧ (t'.2 = true → ∀ x ∈ qz,Lt x.1 t'.1) := by
      cases hzs with
      | nil =>
       have t2 : ¬ ((D.length : Int) + 1 < (ks.length : Int)) := by simp at hl; omega
       exact ⟨t,by simp only [t2,zB,zD],fun h x hx => ht h x (hsub x hx)⟩
      | @cons y qy Z2 QZ2 hy hys =>
       simp only [zG] at hl
       have t2 : ((D.length : Int) + 1 < (ks.length : Int)) := by omega
       have g1 : gx ks ((D.length : Int) + 1) = some y := by
        rw [e1,show D ++ z :: y :: Z2 = (D ++ [z]) ++ y :: Z2 by simp]; exact qB2 (by simp)
       refine ⟨(y.1,true),by simp only [t2,zC,zE,g1,zA],fun h x hx => ?_⟩
       obtain ⟨b,hb,eb⟩ := hd_mem hy.2.2
       have := r6 x hx b (by simp [hb])
       rw [eb] at this
       exact this
     obtain ⟨t',n1,n2⟩ := hnx
     rw [n1]
     simp only [zA,w2,(qe6 hz.1).1,zP,zB,zD,first_tr hz.1 hz.2.2,zC,Bool.not_true,few_nd,hz.2.1]
     rw [ih L (by omega) (by omega) hz.1 r4 (fun x hx => hs x (hsub x hx)) n2]
     rfl
   ·rintro o rfl
    rfl
theorem check_eq {K : Int} {m : Mem} (hw : WfM K m) {L : Nat} {n : Int} {q : List Pr} (h : Tr m L n q) (hr : Rising q) (hs : qh6 q) (hn : q.length ≤ 1000000) : qA2 m n = some (0,m) := by
 have hp := qV3 hw (qZ2 h)
 have n0 : ¬ n = 0 := by omega
 have hL := qF5 h hn
 unfold qA2 q84
 simp only [n0,zB,zD,tr_get h,zA,ne_eq,zP]
 rw [check_n hw 16 L (by omega) (by omega) h hr hs (fun h => by cases h)]
 rfl
end Go.Val
namespace Go.Val
open Go.RowKit Go.Lib
def used (m : Mem) : Nat := m.1.2.1.length
def Live (m : Mem) : Prop := ∀ n,cnt m n ≠ 0 → ∃ L q,L < 12 ∧ Tr m L n q ∧ Rising q ∧ qh6 q
structure StM (K : Nat) (m : Mem) (R : List Int) : Prop where
 wf : WfM (K : Int) m
 live : Live m
 rc : RC m R
structure Wr (K : Nat) (m : Mem) (d R : List Int) (L : Nat) (p : Pt) (q : List Pr) (n : Int) (d' : List Int) (m' : Mem) (c : Nat) : Prop where
 tr : Tr m' L n q
 grow : Grow m m'
 st : StM (K + c) m' (R ++ [n])
 blk : m'.1.1 = m.1.1
 used : used m' = used m + frs L p
 dlen : d'.length = d.length + c
 fr : frs L p ≤ c
 c1 : 2 * c ≤ q.length + 1
 c2 : ¬ fewP p → ¬ fewN (ndOf m' n) ∧ 2 * c + 1 ≤ q.length
theorem WfM.mono {K K' : Int} {m : Mem} (h : WfM K m) (hK : K ≤ K') : WfM K' m := ⟨h.blk,h.low,h.full,h.nodup,fun n c hc => by
 obtain ⟨a,b,c,d⟩ := h.pos n c hc
 exact ⟨a,by omega,c,d⟩⟩
theorem live_grow {m m' : Mem} (h : Live m) (hg : Grow m m') (hn : ∀ n,cnt m' n ≠ 0 → cnt m n = 0 → ∃ L q,L < 12 ∧ Tr m' L n q ∧ Rising q ∧ qh6 q) : Live m' := fun n hc => by
 by_cases h0 : cnt m n = 0
 ·exact hn n hc h0
 ·obtain ⟨L,q,a,b,c⟩ := h n h0
  exact ⟨L,q,a,Tr.ext hg b,c⟩
theorem tr_rising_level {m : Mem} {L : Nat} {n : Int} {q : List Pr} (h : Tr m L n q) (hn : q.length ≤ 1000000) : L < 12 := by
 have := qF5 h hn
 omega
theorem inc_st {K : Nat} {m : Mem} {R : List Int} {b : Int} (h : StM K m R) (hK : K ≤ 1000000000000) (hb : cnt m b ≠ 0) :
  q30 m b = some (0,incM m b) ∧ StM (K + 1) (incM m b) (R ++ [b]) ∧ Grow m (incM m b) ∧ (incM m b).1.1 = m.1.1 ∧ used (incM m b) = used m := by
 obtain ⟨e1,e2⟩ := inc_eq h.wf (by omega) hb
 have hg : Grow m (incM m b) := ext_inc hb (qV3 h.wf hb).1
 refine ⟨e1,⟨e2.mono (by omega),live_grow h.live hg fun n hc h0 => ?_,rc_inc h.rc hb⟩,hg,rfl,mset_len (qm2 hb).1⟩
 rw [ql5] at hc
 by_cases e : n = b
 ·exact absurd h0 (e ▸ hb)
 ·rw [if_neg e] at hc; exact absurd h0 hc
theorem put_st {K : Nat} {m : Mem} {R : List Int} {x : Nd} (h : StM K m (R ++ q12 x)) (hK : 1 ≤ K) (hx : RightN x) (h1 : x.2.1.length ≤ 1000000000) (h2 : x.2.2.length ≤ 1000000000) (hf : (used m : Int) < m.1.1 - 2)
  {L : Nat} {q : List Pr} (hT : ∀ m' n,Grow m m' → cnt m' n ≠ 0 → ndOf m' n = x → Tr m' L n q) (hL : L < 12) (hr : Rising q) (hs : qh6 q) :
  ∃ n m',qi0 m x = some (n,0,m') ∧ Tr m' L n q ∧ ndOf m' n = x ∧ StM K m' (R ++ [n]) ∧ Grow m m' ∧ m'.1.1 = m.1.1 ∧ used m' = used m + 1 ∧ cnt m n = 0 := by
 obtain ⟨n,e1,e2,e3,e4,e5⟩ := put_eq h.wf (by omega) hx h1 h2 hf
 have hg : Grow m (putM m n x) := ext_put e2
 have hn : ndOf (putM m n x) n = x := by rw [nd_put,if_pos rfl]
 have hc : cnt (putM m n x) n ≠ 0 := by rw [qO4,if_pos rfl]; omega
 have ht := hT _ n hg hc hn
 refine ⟨n,putM m n x,e1,ht,hn,⟨e5,live_grow h.live hg fun k hk h0 => ?_,rc_put h.wf h.rc e2⟩,hg,rfl,mset_len_new (cnt_not h.wf e2),e2⟩
 by_cases e : k = n
 ·subst e; exact ⟨L,q,hL,ht,hr,hs⟩
 ·rw [qO4,if_neg e] at hk; exact absurd h0 hk
theorem ptOk_none {m : Mem} {L : Nat} {k : Ky} {b : Int} {q : List Pr} (h : PtOk m L (k,b,none) q) : Tr m L b q ∧ ¬ fewN (ndOf m b) ∧ hd q = some k := by
 match L,h with
 | 0,h => rw [PtOk] at h; exact h
 | L + 1,h => rw [PtOk] at h; exact h
theorem F2.snoc {α β : Type} {R : α → β → Prop} {l : List α} {r : List β} {a : α} {b : β} (h : F2 R l r) (k : R a b) : F2 R (l ++ [a]) (r ++ [b]) := h.app (.cons k .nil)
theorem kidR_grow {m m' : Mem} (hg : Grow m m') {L : Nat} {k : Kd} {q : List Pr} (h : KidR m L k q) : KidR m' L k q := by
 obtain ⟨_,g2⟩ := hg k.2 (qZ2 h.1)
 exact ⟨Tr.ext hg h.1,by rw [g2]; exact h.2.1,h.2.2⟩
def NotOne (p : Pt) : Prop := ∀ l ps ks,p.2.2 = some (.mk l ps ks) → ks.length ≠ 1
theorem notFew_notOne {m : Mem} : ∀ {L : Nat} {p : Pt} {q : List Pr},PtOk m L p q → ¬ fewP p → NotOne p
 | 0,(k,b,none),q,h,_ => fun l ps ks e => by cases e
 | L + 1,(k,b,none),q,h,_ => fun l ps ks e => by cases e
 | 0,(k,b,some (.mk l ps ks)),q,h,hf => fun l' ps' ks' e => by
  rw [PtOk] at h
  simp only [Option.some.injEq,Fr.mk.injEq] at e
  rw [← e.2.2,h.2.1]; simp
 | L + 1,(k,b,some (.mk l ps ks)),q,h,hf => fun l' ps' ks' e => by
  rw [PtOk] at h
  have h0 : ¬ (l = 0) := by omega
  simp only [fewP,h0,if_false] at hf
  simp only [Option.some.injEq,Fr.mk.injEq] at e
  rw [← e.2.2]; omega
theorem write_n : ∀ (fuel L : Nat) {K : Nat} {m : Mem} {d R : List Int} {p : Pt} {q : List Pr},L < fuel → L < 12 → PtOk m L p q → NotOne p → StM K m R → 1 ≤ K → K + q.length ≤ 1000000000000 → d.length + q.length ≤ 1000000000 →
  (used m : Int) + q.length ≤ m.1.1 - 2 → Rising q → qh6 q →
  ∃ n d' m' c,qf0 fuel d p m = some (n,0,d',m') ∧ Wr K m d R L p q n d' m' c := by
 intro fuel
 induction fuel with
 | zero => intro L K m d R p q h; omega
 | succ fuel ih =>
  intro L K m d R p q hL h12 hp h1 hst hK hKq hd hroom hr hs
  rw [qf0]
  unfold qj0
  obtain ⟨k,b,f⟩ := p
  match f with
  | none =>
   obtain ⟨t1,t2,t3⟩ := ptOk_none hp
   obtain ⟨i1,i2,i3,i4,i5⟩ := inc_st hst (by omega) (qZ2 t1)
   have hq := tr_size t1 t2
   have h9 : 1 ≤ 9 ^ L := Nat.one_le_pow _ _ (by omega)
   refine ⟨b,d ++ [b],incM m b,1,?_,⟨Tr.ext i3 t1,i3,i2,i4,by rw [i5,frs_none]; rfl,by simp,by rw [frs_none]; omega,by omega,fun _ => ⟨?_,by omega⟩⟩⟩
   ·simp only [Option.isNone_none,zE]
    rw [i1]
    simp only [zA,zC,zE]
    rw [q81 (by simp; omega)]
    rfl
   ·rw [(i3 b (qZ2 t1)).2]; exact t2
  | some (.mk l ps ks) =>
   simp only [Option.isNone_some,zD,frOf,zA]
   match L,hp with
   | 0,hp =>
    rw [PtOk] at hp
    obtain ⟨rfl,rfl,rfl,a1,a2,a3⟩ := hp
    rw [qI]
    obtain ⟨n,m',e1,e2,e3,e4,e5,e6,e7,e8⟩ := put_st (x := (0,ps,[])) (R := R) (K := K) (by simpa [q12] using hst) hK (right_leaf a1 a2 hr hs) (by simp only; omega) (by simp) (by omega) (L := 0) (q := ps)
     (fun m' n hg hc hn => by rw [Tr]; exact ⟨hc,hn,a1,a2⟩) (by omega) hr hs
    refine ⟨n,d ++ [n],m',1,?_,⟨e2,e5,⟨e4.wf.mono (by omega),e4.live,e4.rc⟩,e6,by rw [e7,frs],by simp,by rw [frs]; omega,by omega,fun hf => ?_⟩⟩
    ·have : ¬ ((0 : Int) < ((([] : List Pt).length : Nat) : Int)) := by simp
     simp only [this,zB,zD,zA,zN]
     rw [e1]
     simp only [zA,zC,zE]
     rw [q81 (by simp; omega)]
     rfl
    ·simp [fewP] at hf
     rw [e3]
     refine ⟨?_,by omega⟩
     simp [fewN]; omega
   | L + 1,hp =>
    rw [PtOk] at hp
    obtain ⟨rfl,rfl,a1,a2,a3,qs,a4,a5,a6⟩ := hp
    have hk1 : ks.length ≠ 1 := h1 _ _ _ rfl
    have a6' := a6 (by omega)
    have hrf : Rising qs.flatten := a4 ▸ hr
    refine qD1 (Q := fun o => ∃ n d' m' c,o = some (n,0,d',m') ∧ Wr K m d R (L + 1) (k,b,some (.mk ((L + 1 : Nat) : Int) [] ks)) q n d' m' c)
     (fun v => ∃ D Z QD QZ c,∃ (d1 : List Int) (m1 : Mem) (kds : List Kd),ks = D ++ Z ∧ qs = QD ++ QZ ∧ F2 (PtOk m1 L) Z QZ ∧ v = ((D.length : Int),d1,m1,(((L + 1 : Nat) : Int),[],kds)) ∧ F2 (KidR m1 L) kds QD ∧ kds.length = D.length ∧
      Grow m m1 ∧ StM (K + c) m1 (R ++ kds.map (·.2)) ∧ m1.1.1 = m.1.1 ∧ used m1 = used m + (D.map (frs L)).sum ∧ d1.length = d.length + c ∧ (D.map (frs L)).sum ≤ c ∧ 2 * c + D.length ≤ QD.flatten.length)
     (fun v => ((ks.length : Int) - v.1).toNat)
     (fun o => ∃ c,∃ (d1 : List Int) (m1 : Mem) (kds : List Kd),o = .inl (d1,m1,(((L + 1 : Nat) : Int),[],kds)) ∧ F2 (KidR m1 L) kds qs ∧ kds.length = ks.length ∧
      Grow m m1 ∧ StM (K + c) m1 (R ++ kds.map (·.2)) ∧ m1.1.1 = m.1.1 ∧ used m1 = used m + (ks.map (frs L)).sum ∧ d1.length = d.length + c ∧ (ks.map (frs L)).sum ≤ c ∧ 2 * c + ks.length ≤ qs.flatten.length)
     ⟨[],ks,[],qs,0,d,m,[],rfl,rfl,a5,rfl,.nil,rfl,Grow.refl m,by simpa using hst,rfl,by simp,by simp,by simp,by simp⟩ ?_ ?_
    ·rintro v ⟨D,Z,QD,QZ,c,d1,m1,kds,e1,e2,e3,rfl,e4,e5,e6,e7,e8,e9,e10,e11,e12⟩
     have hl : ks.length = D.length + Z.length := by rw [e1]; simp
     cases e3 with
     | nil =>
      right
      have t : ¬ ((D.length : Int) < (ks.length : Int)) := by simp at hl; omega
      rw [zJ] at e1 e2
      subst e1; subst e2
      exact ⟨.inl (d1,m1,(((L + 1 : Nat) : Int),[],kds)),by simp only [t,zB,zD],c,d1,m1,kds,rfl,e4,e5,e6,e7,e8,e9,e10,e11,e12⟩
     | @cons z qz Z' QZ' hz hzs =>
      left
      simp only [zG] at hl
      have tt : ((D.length : Int) < (ks.length : Int)) := by omega
      have g0 : gx ks (D.length : Int) = some z := by rw [e1]; exact qB2 rfl
      have w1 : IntKind.wrap .i64 ((D.length : Int) + 1) = (D.length : Int) + 1 := w64 (by omega) (by omega)
      have hrf' := hrf
      rw [e2,List.flatten_append,List.flatten_cons] at hrf'
      have r4 := (qP.1 (qP.1 hrf').2.1).1
      have hsz : qh6 qz := fun x hx => hs x (by rw [← a4,e2]; simp [hx])
      have lq : q.length = QD.flatten.length + qz.length + QZ'.flatten.length := by rw [← a4,e2]; simp; omega
      have hzf : ¬ fewP z := a6' z (by rw [e1]; simp)
      obtain ⟨n,d2,m2,c2,f1,f2⟩ := ih L (K := K + c) (m := m1) (d := d1) (R := R ++ kds.map (·.2)) (p := z) (q := qz) (by omega) (by omega) hz (notFew_notOne hz hzf) e7 (by omega) (by omega) (by omega) (by rw [e8]; omega) r4 hsz
      obtain ⟨f3,f4⟩ := f2.c2 hzf
      have hhd := ptOk_hd hz
      refine ⟨((D.length : Int) + 1,d2,m2,(((L + 1 : Nat) : Int),[],kds ++ [(z.1,n)])),?_,⟨D ++ [z],Z',QD ++ [qz],QZ',c + c2,d2,m2,kds ++ [(z.1,n)],by simp [e1],by simp [e2],hzs.imp fun p q h => PtOk.ext f2.grow h,by simp,?_,by simp [e5],e6.trans f2.grow,?_,by rw [f2.blk,e8],?_,by rw [f2.dlen]; omega,?_,?_⟩,by simp; omega⟩
      ·simp only [tt,zC,zE,g0,zA]
       rw [f1]
       simp only [zA,ne_eq,zP,zB,zD,w1]
       rw [q81 (by simp; omega)]
       rfl
      ·exact (e4.imp fun k q h => kidR_grow f2.grow h).snoc ⟨f2.tr,f3,hhd⟩
      ·have := f2.st
       rw [show K + (c + c2) = K + c + c2 by omega]
       rw [List.map_append,← zI]
       exact this
      ·rw [f2.used,e9]; simp; omega
      ·have := f2.fr; simp; omega
      ·have : (QD ++ [qz]).flatten.length = QD.flatten.length + qz.length := by simp
       rw [this,zF,List.length_singleton]; omega
    ·rintro o ⟨c,d1,m1,kds,rfl,e4,e5,e6,e7,e8,e9,e10,e11,e12⟩
     simp only [zN]
     have lq : qs.flatten.length = q.length := by rw [a4]
     obtain ⟨n,m',p1,p2,p3,p4,p5,p6,p7,p8⟩ := put_st (x := (((L + 1 : Nat) : Int),[],kds)) (R := R) (K := K + c) e7 (by omega) (right_inner e7.wf (by omega) (by omega) (by omega) e4 hrf) (by simp) (by simp only; omega) (by rw [e8]; omega) (L := L + 1) (q := q)
      (fun m' n hg hc hn => by
       rw [Tr]
       exact ⟨hc,kds,hn,by omega,by omega,qs,a4,e4.imp fun k q h => kidR_grow hg h⟩) (by omega) hr hs
     refine ⟨n,d1 ++ [n],m',c + 1,?_,⟨p2,e6.trans p5,⟨p4.wf.mono (by omega),p4.live,p4.rc⟩,by rw [p6,e8],?_,by simp; omega,?_,by omega,fun hf => ⟨?_,?_⟩⟩⟩
     ·rw [p1]
      simp only [zA,zC,zE]
      rw [q81 (by simp; omega)]
      rfl
     ·rw [p7,e9,frs]; omega
     ·rw [frs]; omega
     ·have h0 : ¬ (((L + 1 : Nat) : Int) = 0) := by omega
      simp only [fewP,h0,if_false] at hf
      rw [p3]
      simp only [fewN,h0,if_false]
      omega
     ·have h0 : ¬ (((L + 1 : Nat) : Int) = 0) := by omega
      simp only [fewP,h0,if_false] at hf
      omega
theorem write_eq {L K : Nat} {m : Mem} {d R : List Int} {p : Pt} {q : List Pr} (hL : L < 12) (hp : PtOk m L p q) (h1 : NotOne p) (hst : StM K m R) (hK : 1 ≤ K) (hKq : K + q.length ≤ 1000000000000) (hd : d.length + q.length ≤ 1000000000)
  (hroom : (used m : Int) + q.length ≤ m.1.1 - 2) (hr : Rising q) (hs : qh6 q) :
  ∃ n d' m' c,qa1 d p m = some (n,0,d',m') ∧ Wr K m d R L p q n d' m' c :=
 write_n 16 L (by omega) hL hp h1 hst hK hKq hd hroom hr hs
end Go.Val
namespace Go.Val
open Go.RowKit Go.Lib
def Root (m : Mem) (r : Int) (q : List Pr) : Prop := (r = 0 ∧ q = []) ∨ (r ≠ 0 ∧ ∃ L,Tr m L r q)
def rl (r : Int) : List Int := if r = 0 then [] else [r]
def ShortC (l : List Cg) : Prop := ∀ c ∈ l,c.2.1.size ≤ 40
theorem root_grow {m m' : Mem} (hg : Grow m m') {r : Int} {q : List Pr} (h : Root m r q) : Root m' r q := by
 rcases h with h | ⟨h0,L,h⟩
 ·exact .inl h
 ·exact .inr ⟨h0,L,Tr.ext hg h⟩
theorem root_tr {m : Mem} {r : Int} {q : List Pr} (h : Root m r q) (h0 : r ≠ 0) : ∃ L,Tr m L r q := by
 rcases h with ⟨h,_⟩ | ⟨_,h⟩
 ·exact absurd h h0
 ·exact h
theorem apply_loop {l : List Cg} {m : Mem} (hl : ShortC l) (hn : l.length ≤ 1000000) : (qN (V := Int) (O := (Unit ⊕ (Int × Int × Mem))) (fun v57 =>
   cond (decide (v57 < (l.length : Int))) (
    (gx l v57).bind fun x64 =>
    cond (decide ((x64.2.1.size : Int) > 40)) (
     some (.inr (.inr (0,1,m)))
    ) (
     some (.inl (IntKind.wrap .i64 (v57 + 1)))
    )
   ) (
    some (.inr (.inl ()))
   )
  ) 0) = some (.inl ()) := by
 refine whileO_is (fun v => ∃ D Z,l = D ++ Z ∧ v = (D.length : Int)) (fun v => ((l.length : Int) - v).toNat) ⟨[],l,rfl,rfl⟩ ?_
 rintro v ⟨D,Z,e1,rfl⟩
 have hlen : l.length = D.length + Z.length := by rw [e1]; simp
 match Z with
 | [] =>
  right
  have t : ¬ ((D.length : Int) < (l.length : Int)) := by simp at hlen; omega
  simp only [t,zB,zD]
 | z :: Z' =>
  left
  simp only [zG] at hlen
  have t : ((D.length : Int) < (l.length : Int)) := by omega
  have g0 : gx l (D.length : Int) = some z := by rw [e1]; exact qB2 rfl
  have hz := hl z (by rw [e1]; simp)
  have t2 : ¬ ((z.2.1.size : Int) > 40) := by omega
  refine ⟨(D.length : Int) + 1,?_,⟨D ++ [z],Z',by simp [e1],by simp⟩,by omega⟩
  simp only [t,zC,zE,g0,zA,t2,zB,zD]
  rw [w64 (by omega) (by omega)]
theorem mg_apply {q : List Pr} {l s : List Cg} (hr : Rising q) (hs : Rising s) (hg : ∀ k,mget s k = mget l.reverse k) : mgP q s = qf2 q l := by
 obtain ⟨h1,h2⟩ := mgP_spec hr hs
 refine qd3 h1 (qX0 q l) fun k => ?_
 rw [h2,qC2,qH4 hr,hg]
 rfl
theorem applyP_short {q : List Pr} {l : List Cg} (hr : Rising q) (hs : qh6 q) (hl : ShortC l) : qh6 (qf2 q l) := fun p hp => by
 have h1 : mget (qf2 q l) p.1 = some p.2 := qb3 (qX0 q l).nodup hp
 rw [qC2,qH4 hr] at h1
 unfold updF at h1
 cases hm : mget l.reverse p.1 with
 | none => rw [hm] at h1; exact hs _ (qK1 h1)
 | some e =>
  rw [hm] at h1
  have h1 : eff e = some p.2 := h1
  unfold eff at h1
  have := hl _ (List.mem_reverse.1 (qK1 hm))
  by_cases hg : e.2 = true
  ·rw [if_pos hg] at h1; cases h1
  ·rw [if_neg hg] at h1
   rw [← zQ h1]; exact this
theorem applyP_nil {q : List Pr} (hr : Rising q) : qf2 q [] = q := by
 refine qd3 (qX0 q []) hr fun k => ?_
 rw [qC2,qH4 hr]; rfl
theorem apply_eq {K : Nat} {m : Mem} {R : List Int} {r : Int} {q : List Pr} {l : List Cg} (hst : StM K m R) (hK : 1 ≤ K) (hKq : K ≤ 100000000000) (hroot : Root m r q) (hr : Rising q) (hs : qh6 q) (hl : ShortC l)
  (hn : q.length + l.length ≤ 1000000) (hroom : (used m : Int) + (q.length + l.length) ≤ m.1.1 - 2) :
  ∃ n m' c,qT0 m r l = some (n,0,m') ∧ Root m' n (qf2 q l) ∧ Grow m m' ∧ StM (K + c) m' (R ++ rl n) ∧ m'.1.1 = m.1.1 ∧ used m' ≤ used m + c ∧ 2 * c ≤ (qf2 q l).length + 1 ∧
   (l = [] → n = r ∧ (r ≠ 0 → m' = incM m r)) ∧ (l.length = 1 → ∀ L : Nat,(r = 0 → L = 0) → (r ≠ 0 → Tr m L r q) → used m' ≤ used m + (2 * (L + 1) + 1)) := by
 unfold qT0
 rw [apply_loop hl (by omega)]
 simp only [zA,zN]
 by_cases hl0 : l = []
 ·subst hl0
  rw [applyP_nil hr]
  have : ((([] : List Cg).length : Nat) : Int) = 0 := rfl
  simp only [this,zC,zE]
  by_cases hr0 : r = 0
  ·subst hr0
   refine ⟨0,m,0,by simp [q92],hroot,Grow.refl m,by simpa [rl] using hst,rfl,by omega,by omega,fun _ => ⟨rfl,fun h => absurd rfl h⟩,fun h => by simp at h⟩
  ·obtain ⟨L,hT⟩ := root_tr hroot hr0
   obtain ⟨i1,i2,i3,i4,i5⟩ := inc_st hst (by omega) (qZ2 hT)
   have hq := List.length_pos_iff.2 (tr_ne hT)
   refine ⟨r,incM m r,1,?_,root_grow i3 hroot,i3,by rw [rl,if_neg hr0]; exact i2,i4,by omega,by omega,fun _ => ⟨rfl,fun _ => rfl⟩,fun h => by simp at h⟩
   unfold q92
   simp only [hr0,zB,zD]
   rw [i1]
   rfl
 ·have hlp : ¬ ((l.length : Int) = 0) := by have := List.length_pos_iff.2 hl0; omega
  obtain ⟨s,s1,s2,s3,s4⟩ := tree_sorted_eq (l := l) (by omega)
  simp only [hlp,zB,zD]
  rw [s1]
  simp only [zA]
  have hmg : mgP q s = qf2 q l := mg_apply hr s2 s3
  have hrow : ∃ (lv : Nat) (row : List Pt),((cond (decide (r = 0)) (
     (q11 ([]) s).bind fun x111 =>
     (qy0 x111).bind fun x114 =>
     some (.inl (0,x114,m,[]))
    ) (
     (qx m r).bind fun x117 =>
     cond (decide (x117.2.1 ≠ 0)) (
      some (.inr (0,x117.2.1,x117.2.2))
     ) (
      (qm1 ([]) r s x117.2.2).bind fun x124 =>
      cond (decide (x124.2.1 ≠ 0)) (
       some (.inr (0,x124.2.1,x124.2.2.2))
      ) (
       some (.inl (x117.1.1,x124.1,x124.2.2.2,x124.2.2.1))
      )
     )
    )) : Option ((Int × (List Pt) × Mem × (List Int)) ⊕ (Int × Int × Mem))) = some (.inl ((lv : Int),row,m,[])) ∧ RowOk m lv row (qf2 q l) ∧ qN2 row ∧ (l.length = 1 → row.length ≤ 2 ∧ ((r = 0 → frsS lv row ≤ 2) ∧ ∀ L,Tr m L r q → frsS lv row ≤ 2 * (L + 1))) := by
   by_cases hr0 : r = 0
   ·have hq0 : q = [] := by
     rcases hroot with h | h
     ·exact h.2
     ·exact absurd hr0 h.1
    subst hq0
    obtain ⟨row,e1,e2,e3,e4⟩ := leaves_eq (m := m) (q := qf2 [] l) (by have := qB4 ([] : List Pr) l; simp at this; omega)
    refine ⟨0,row,?_,e2,e3,fun h1 => ?_⟩
    rotate_left
    ·have hl1 := qB4 ([] : List Pr) l
     simp only [zH] at hl1
     have r5 : row.length ≤ 2 := by omega
     have h2 := psi0_le row
     have h3 := good_le e3 r5
     have h4 := frsS_psi 0 row
     exact ⟨r5,fun _ => by omega,fun L _ => by omega⟩
    simp only [hr0,zC,zE]
    rw [merged_eq (by simp; omega),hmg]
    simp only [zA]
    rw [e1]
    rfl
   ·obtain ⟨L,hT⟩ := root_tr hroot hr0
    have hL := qF5 hT (by omega)
    obtain ⟨row,e1,e2,e3,e4⟩ := edit_eq (d := []) (by omega) hT hr s2 (by omega)
    refine ⟨L,row,?_,hmg ▸ e2,e3,fun h1 => ?_⟩
    rotate_left
    ·obtain ⟨h2,h3⟩ := e4 (by omega)
     have h4 := frsS_psi L row
     refine ⟨h3,fun h => absurd h hr0,fun L' hT' => ?_⟩
     have u1 := (qe6 hT).1
     have u2 := (qe6 hT').1
     have : L = L' := by omega
     subst this
     omega
    simp only [hr0,zB,zD]
    rw [tr_get hT]
    simp only [zA,ne_eq,zP,zB,zD]
    rw [e1]
    simp only [zA,ne_eq,zP,zB,zD,(qe6 hT).1]
  obtain ⟨lv,row,r1,r2,r3,r4⟩ := hrow
  rw [r1]
  simp only [zA,zN]
  have hlen := qB4 q l
  obtain ⟨t1,t2⟩ := top_eq r2 r3 (by omega)
  by_cases hq0 : qf2 q l = []
  ·obtain ⟨p,p1⟩ := t1 hq0
   rw [p1]
   refine ⟨0,m,0,?_,.inl ⟨rfl,hq0⟩,Grow.refl m,by simpa [rl] using hst,rfl,by omega,by omega,fun h => absurd h hl0,fun _ L _ _ => by omega⟩
   simp
  ·obtain ⟨p,L',p1,p2,p3,p4⟩ := t2 hq0
   rw [p1]
   have hL' : L' < 12 := by
    obtain ⟨k,b,f⟩ := p
    match f with
    | none =>
     exact tr_rising_level (ptOk_none p2).1 (by omega)
    | some (.mk l0 ps ks) =>
     match L',p2 with
     | 0,_ => omega
     | L3 + 1,p2 =>
      rw [PtOk] at p2
      obtain ⟨_,_,a1,a2,_,qs,a4,a5,a6⟩ := p2
      have hk1 := p3 l0 ps ks rfl
      have := level_lt (m := m) (L := L3) (row := ks) (q := qf2 q l) ⟨qs,a4,a5⟩ (fun h => a6 h) (by omega) (by omega)
      omega
   obtain ⟨n,d',m',c,w1,w2⟩ := write_eq (d := []) hL' p2 p3 hst hK (by omega) (by simp; omega) (by omega) (qX0 q l) (applyP_short hr hs hl)
   simp only [zA,ne_eq,zP,zB,zD,Bool.not_true]
   rw [w1]
   have n0 : n ≠ 0 := by have := qV3 w2.st.wf (qZ2 w2.tr); omega
   refine ⟨n,m',c,by simp,.inr ⟨n0,L',w2.tr⟩,w2.grow,by rw [rl,if_neg n0]; exact w2.st,w2.blk,by rw [w2.used]; have := w2.fr; omega,w2.c1,fun h => absurd h hl0,fun h1 L hz ht => ?_⟩
   obtain ⟨h2,h3,h4⟩ := r4 h1
   have h5 := p4 h2
   rw [w2.used]
   by_cases hr0 : r = 0
   ·have := h3 hr0
    omega
   ·have := h4 L (ht hr0)
    omega
end Go.Val
namespace Go.Val
open Go.RowKit Go.Lib
def Shrink (m m' : Mem) : Prop := ∀ n,cnt m' n ≠ 0 → cnt m n ≠ 0 ∧ ndOf m' n = ndOf m n
theorem Shrink.refl (m : Mem) : Shrink m m := fun n h => ⟨h,rfl⟩
theorem Shrink.trans {a b c : Mem} (h : Shrink a b) (k : Shrink b c) : Shrink a c := fun n hn => by
 obtain ⟨k1,k2⟩ := k n hn
 obtain ⟨h1,h2⟩ := h n k1
 exact ⟨h1,k2.trans h2⟩
theorem rc_count {m : Mem} {R R' : List Int} (h : RC m R) (hp : ∀ n,R'.count n = R.count n) : RC m R' := fun n => by rw [hp n]; exact h n
theorem StM.perm {K : Nat} {m : Mem} {R R' : List Int} (h : StM K m R) (hp : R'.Perm R) : StM K m R' := ⟨h.wf,h.live,rc_count h.rc fun n => hp.count_eq n⟩
theorem inK_pos {m : Mem} {bs : List Int} {b n : Int} (hb : b ∈ bs) (hn : n ∈ q12 (ndOf m b)) : 1 ≤ inK m bs n := by
 obtain ⟨A,B,rfl⟩ := List.append_of_mem hb
 rw [inK_app,show b :: B = [b] ++ B from rfl,inK_app]
 have : inK m [b] n = (q12 (ndOf m b)).count n := by simp [inK]
 have h1 := List.count_pos_iff.2 hn
 omega
theorem rc_live {m : Mem} {R : List Int} {n : Int} (h : RC m R) (hn : n ∈ R) : cnt m n ≠ 0 := by
 have := h n
 have h1 := List.count_pos_iff.2 hn
 omega
theorem rc_kid {m : Mem} {R : List Int} {b n : Int} (h : RC m R) (hb : cnt m b ≠ 0) (hn : n ∈ q12 (ndOf m b)) : cnt m n ≠ 0 := by
 have := h n
 have h1 := inK_pos (bs := m.1.2.1.map (·.1)) (qm2 hb).1 hn
 omega
theorem F2.impMem {α β : Type} {R S : α → β → Prop} {l : List α} {r : List β} (h : F2 R l r) (hRS : ∀ a ∈ l,∀ b,R a b → S a b) : F2 S l r := by
 induction h with
 | nil => exact .nil
 | cons h _ ih => exact .cons (hRS _ (by simp) _ h) (ih fun a ha b hab => hRS a (by simp [ha]) b hab)
theorem tr_shrink {m m' : Mem} {R : List Int} (hs : Shrink m m') (hrc : RC m' R) : ∀ {L : Nat} {n : Int} {q : List Pr},cnt m' n ≠ 0 → Tr m L n q → Tr m' L n q
 | 0,n,q,hn,h => by
  rw [Tr] at h ⊢
  rw [(hs n hn).2]
  exact ⟨hn,h.2⟩
 | L + 1,n,q,hn,h => by
  rw [Tr] at h ⊢
  obtain ⟨_,ks,h1,h2,h3,qs,h4,h5⟩ := h
  have e := (hs n hn).2
  rw [e]
  refine ⟨hn,ks,h1,h2,h3,qs,h4,h5.impMem fun k hk q hkq => ?_⟩
  have hkl : cnt m' k.2 ≠ 0 := rc_kid hrc hn (by rw [e,h1]; exact List.mem_map.2 ⟨k,hk,rfl⟩)
  exact ⟨tr_shrink hs hrc hkl hkq.1,by rw [(hs _ hkl).2]; exact hkq.2.1,hkq.2.2⟩
theorem live_shrink {m m' : Mem} {R : List Int} (hl : Live m) (hs : Shrink m m') (hrc : RC m' R) : Live m' := fun n hn => by
 obtain ⟨L,q,a,b,c⟩ := hl n (hs n hn).1
 exact ⟨L,q,a,tr_shrink hs hrc hn b,c⟩
theorem mdel_split {β : Type} {m : List (Int × β)} {k : Int} (h : k ∈ m.map (·.1)) : ∃ A v B,m = A ++ (k,v) :: B ∧ mdel m k = A ++ B := by
 induction m with
 | nil => cases h
 | cons p m ih =>
  rw [mdel_cons]
  by_cases e : k = p.1
  ·rw [if_pos e]
   exact ⟨[],p.2,m,by rw [e]; rfl,rfl⟩
  ·rw [if_neg e]
   obtain ⟨A,v,B,h1,h2⟩ := ih (by
    rcases zM.1 h with h | h
    ·exact absurd h e
    ·exact h)
   exact ⟨p :: A,v,B,by rw [h1]; rfl,by rw [h2]; rfl⟩
theorem q95 {β : Type} (m : List (Int × β)) {k k' : Int} (h : k' ≠ k) : mget (mdel m k) k' = mget m k' := by
 induction m with
 | nil => rfl
 | cons p m ih =>
  rw [mdel_cons,qO]
  by_cases e : k = p.1
  ·rw [if_pos e,if_neg (fun h' => h (h'.trans e.symm))]
  ·rw [if_neg e,qO,ih]
def decM (m : Mem) (n : Int) : Mem := ((m.1.1,mset m.1.2.1 n (cnt m n - 1),m.1.2.2),m.2)
def delM (m : Mem) (n : Int) : Mem := ((m.1.1,mdel m.1.2.1 n,min m.1.2.2 n),mdel m.2 n)
theorem cnt_dec (m : Mem) (n k : Int) : cnt (decM m n) k = if k = n then cnt m n - 1 else cnt m k := by
 unfold cnt decM
 simp only [qX1]
 split <;> rfl
theorem cnt_del {m : Mem} (hn : (m.1.2.1.map (·.1)).Nodup) (n k : Int) : cnt (delM m n) k = if k = n then 0 else cnt m k := by
 unfold cnt delM
 simp only [mget_mdel hn]
 split <;> rfl
theorem dec_st {K : Nat} {m : Mem} {R : List Int} {r : Int} (h : StM K m (r :: R)) (hK : K ≤ 1000000000000) :
  cnt m r ≠ 0 ∧ ((∃ m',q80 m r = some (false,0,m') ∧ StM K m' R ∧ Shrink m m' ∧ m'.1.1 = m.1.1 ∧ used m' = used m) ∨
   (∃ m',q80 m r = some (true,0,m') ∧ StM K m' (q12 (ndOf m r) ++ R) ∧ Shrink m m' ∧ m'.1.1 = m.1.1 ∧ used m' + 1 = used m)) := by
 have hl : cnt m r ≠ 0 := rc_live h.rc (by simp)
 obtain ⟨p1,p2,p3,p4⟩ := qV3 h.wf hl
 have hmem := qm2 hl
 have t1 : ¬ r < 2 := by omega
 have t2 : ¬ r ≥ m.1.1 := by omega
 have hc : (mget m.1.2.1 r).getD 0 = cnt m r := rfl
 refine ⟨hl,?_⟩
 by_cases h1 : cnt m r > 1
 ·left
  have hsh : Shrink m (decM m r) := fun n hn => by
   refine ⟨?_,rfl⟩
   rw [cnt_dec] at hn
   by_cases e : n = r
   ·rw [e]; exact hl
   ·rwa [if_neg e] at hn
  have hrc : RC (decM m r) R := fun n => by
   have hk : (decM m r).1.2.1.map (·.1) = m.1.2.1.map (·.1) := by
    show (mset m.1.2.1 r (cnt m r - 1)).map (·.1) = _
    rw [q74,if_pos hmem.1]
   have e0 : inK (decM m r) (m.1.2.1.map (·.1)) n = inK m (m.1.2.1.map (·.1)) n := qB5 fun _ _ => rfl
   rw [cnt_dec,hk,e0]
   have hr := h.rc n
   rw [List.count_cons] at hr
   by_cases e : n = r
   ·subst e; simp at hr; rw [if_pos rfl]; omega
   ·have : (r == n) = false := by simp; exact fun h => e h.symm
    rw [this] at hr
    rw [if_neg e]; simp at hr; omega
  refine ⟨decM m r,?_,⟨⟨h.wf.blk,h.wf.low,fun n n1 n2 => ?_,qP2 h.wf.nodup _ _,fun n c hn => ?_⟩,live_shrink h.live hsh hrc,hrc⟩,hsh,rfl,mset_len hmem.1⟩
  ·unfold q80 qt1 qD0 qY0
   simp only [t1,t2,zB,zD,zA,zE,hc,hl,h1,zC]
   rw [w64 (by omega) (by omega)]
   rfl
  ·rw [cnt_dec]
   split
   ·omega
   ·exact h.wf.full n n1 n2
  ·have hn' : mget (mset m.1.2.1 r (cnt m r - 1)) n = some c := hn
   rw [qX1] at hn'
   by_cases e : n = r
   ·rw [if_pos e] at hn'
    have := zQ hn'
    subst e
    exact ⟨by omega,by omega,p3,p4⟩
   ·rw [if_neg e] at hn'
    exact h.wf.pos n c hn'
 ·right
  have hc1 : cnt m r = 1 := by omega
  have hsh : Shrink m (delM m r) := fun n hn => by
   rw [cnt_del h.wf.nodup] at hn
   by_cases e : n = r
   ·rw [if_pos e] at hn; exact absurd rfl hn
   ·rw [if_neg e] at hn
    refine ⟨hn,?_⟩
    unfold ndOf delM
    simp only
    rw [q95 _ e]
  obtain ⟨A,v,B,s1,s2⟩ := mdel_split hmem.1
  have hrc : RC (delM m r) (q12 (ndOf m r) ++ R) := fun n => by
   have hk : (delM m r).1.2.1.map (·.1) = A.map (·.1) ++ B.map (·.1) := by
    show (mdel m.1.2.1 r).map (·.1) = _
    rw [s2,List.map_append]
   have hnd : (m.1.2.1.map (·.1)).Nodup := h.wf.nodup
   have hk0 : m.1.2.1.map (·.1) = A.map (·.1) ++ r :: B.map (·.1) := by rw [s1]; simp
   have hnr : ∀ b ∈ A.map (·.1) ++ B.map (·.1),b ≠ r := by
    rw [hk0] at hnd
    intro b hb e
    subst e
    have h1 := List.nodup_append.1 hnd
    rcases zL.1 hb with hb | hb
    ·exact h1.2.2 b hb b (by simp) rfl
    ·exact (List.nodup_cons.1 h1.2.1).1 hb
   have e1 : inK (delM m r) (A.map (·.1) ++ B.map (·.1)) n = inK m (A.map (·.1) ++ B.map (·.1)) n := qB5 fun b hb => by
    unfold ndOf delM
    simp only
    rw [q95 _ (hnr b hb)]
   have e2 : inK m (A.map (·.1) ++ r :: B.map (·.1)) n = inK m (A.map (·.1) ++ B.map (·.1)) n + (q12 (ndOf m r)).count n := by
    rw [inK_app,inK_app,show r :: B.map (·.1) = [r] ++ B.map (·.1) from rfl,inK_app]
    have : inK m [r] n = (q12 (ndOf m r)).count n := by simp [inK]
    omega
   rw [cnt_del hnd,hk,e1,List.count_append]
   have hr := h.rc n
   rw [hk0,e2,List.count_cons] at hr
   by_cases e : n = r
   ·subst e; simp at hr; rw [if_pos rfl]; omega
   ·have : (r == n) = false := by simp; exact fun h => e h.symm
    rw [this] at hr
    rw [if_neg e]; simp at hr; omega
  refine ⟨delM m r,?_,⟨⟨h.wf.blk,?_,fun n n1 n2 => ?_,nodup_mdel h.wf.nodup _,fun n c hn => ?_⟩,live_shrink h.live hsh hrc,hrc⟩,hsh,rfl,?_⟩
  ·unfold q80 qt1 qD0 qY0
   simp only [t1,t2,zB,zD,zA,zE,hc,hl,h1,zC]
   rfl
  ·have := h.wf.low
   show 2 ≤ min m.1.2.2 r ∧ min m.1.2.2 r ≤ m.1.1
   omega
  ·have n2' : n < min m.1.2.2 r := n2
   rw [cnt_del h.wf.nodup,if_neg (by omega)]
   exact h.wf.full n n1 (by omega)
  ·have hn' : mget (mdel m.1.2.1 r) n = some c := hn
   rw [mget_mdel h.wf.nodup] at hn'
   by_cases e : n = r
   ·rw [if_pos e] at hn'; cases hn'
   ·rw [if_neg e] at hn'
    exact h.wf.pos n c hn'
  ·show (mdel m.1.2.1 r).length + 1 = m.1.2.1.length
   rw [s2,s1]; simp; omega
theorem release_n : ∀ (fuel L : Nat) {K : Nat} {m : Mem} {R : List Int} {r : Int} {q : List Pr},L < fuel → Tr m L r q → StM K m (r :: R) → K ≤ 1000000000000 →
  ∃ m',q41 fuel m r = some (0,m') ∧ StM K m' R ∧ Shrink m m' ∧ m'.1.1 = m.1.1 ∧ used m' ≤ used m := by
 intro fuel
 induction fuel with
 | zero => intro L K m R r q h; omega
 | succ fuel ih =>
  intro L K m R r q hL hT hst hK
  obtain ⟨d1,d2⟩ := dec_st hst hK
  have n0 : ¬ r = 0 := by have := qV3 hst.wf d1; omega
  rw [q41]
  unfold q91
  simp only [n0,zB,zD,tr_get hT,zA,ne_eq,zP]
  rcases d2 with ⟨m1,e1,e2,e3,e4,e5⟩ | ⟨m1,e1,e2,e3,e4,e5⟩
  ·rw [e1]
   exact ⟨m1,by simp,e2,e3,e4,by omega⟩
  ·rw [e1]
   simp only [zA,zP,zB,zD,Bool.not_true]
   match L,hT with
   | 0,hT =>
    rw [Tr] at hT
    rw [hT.2.1] at e2 ⊢
    rw [qI]
    exact ⟨m1,by simp,by simpa [q12] using e2,e3,e4,by omega⟩
   | L + 1,hT =>
    rw [Tr] at hT
    obtain ⟨_,ks,h1,h2,h3,qs,h4,h5⟩ := hT
    rw [h1] at e2 ⊢
    simp only [q12] at e2
    simp only
    refine qD1 (Q := fun o => ∃ m',o = some (0,m') ∧ StM K m' R ∧ Shrink m m' ∧ m'.1.1 = m.1.1 ∧ used m' ≤ used m)
     (fun v => ∃ D Z QD QZ m2,ks = D ++ Z ∧ qs = QD ++ QZ ∧ F2 (KidR m L) Z QZ ∧ v = ((D.length : Int),m2) ∧ StM K m2 (Z.map (·.2) ++ R) ∧ Shrink m m2 ∧ m2.1.1 = m.1.1 ∧ used m2 ≤ used m)
     (fun v => ((ks.length : Int) - v.1).toNat) (fun o => ∃ m2,o = .inl m2 ∧ StM K m2 R ∧ Shrink m m2 ∧ m2.1.1 = m.1.1 ∧ used m2 ≤ used m) ⟨[],ks,[],qs,m1,rfl,rfl,h5,rfl,e2,e3,e4,by omega⟩ ?_ ?_
    ·rintro v ⟨D,Z,QD,QZ,m2,g1,g2,g3,rfl,g4,g5,g6,g7⟩
     have hl : ks.length = D.length + Z.length := by rw [g1]; simp
     cases g3 with
     | nil =>
      right
      have t : ¬ ((D.length : Int) < (ks.length : Int)) := by simp at hl; omega
      exact ⟨.inl m2,by simp only [t,zB,zD],m2,rfl,by simpa using g4,g5,g6,g7⟩
     | @cons z qz Z' QZ' hz hzs =>
      left
      simp only [zG] at hl
      have t : ((D.length : Int) < (ks.length : Int)) := by omega
      have g0 : gx ks (D.length : Int) = some z := by rw [g1]; exact qB2 rfl
      have hzl : cnt m2 z.2 ≠ 0 := rc_live g4.rc (by simp)
      have hzt : Tr m2 L z.2 qz := tr_shrink g5 g4.rc hzl hz.1
      obtain ⟨m3,i1,i2,i3,i4,i5⟩ := ih L (by omega) hzt (R := Z'.map (·.2) ++ R) (by simpa using g4) hK
      refine ⟨((D.length : Int) + 1,m3),?_,⟨D ++ [z],Z',QD ++ [qz],QZ',m3,by simp [g1],by simp [g2],hzs,by simp,i2,g5.trans i3,i4.trans g6,by omega⟩,by simp; omega⟩
      simp only [t,zC,zE,g0,zA]
      rw [i1]
      simp only [zA,zP,zB,zD]
      rw [w64 (by omega) (by omega)]
    ·rintro o ⟨m2,rfl,h⟩
     exact ⟨m2,rfl,h⟩
theorem release_eq {K : Nat} {m : Mem} {R : List Int} {r : Int} {q : List Pr} (hr : Root m r q) (hst : StM K m (rl r ++ R)) (hK : K ≤ 1000000000000) (hn : q.length ≤ 1000000) :
  ∃ m',qk2 m r = some (0,m') ∧ StM K m' R ∧ Shrink m m' ∧ m'.1.1 = m.1.1 ∧ used m' ≤ used m := by
 by_cases h0 : r = 0
 ·subst h0
  refine ⟨m,?_,by simpa [rl] using hst,Shrink.refl m,rfl,by omega⟩
  unfold qk2
  rw [q41]
  unfold q91
  simp
 ·obtain ⟨L,hT⟩ := root_tr hr h0
  have := qF5 hT hn
  exact release_n 16 L (by omega) hT (by simpa [rl,h0] using hst) hK
end Go.Val
namespace Go.Val
open Go.RowKit Go.Lib
def blks : Nat → Mem → Int → List Int
 | 0,_,n => [n]
 | L + 1,m,n => n :: (q12 (ndOf m n)).flatMap (blks L m)
def blksM (m : Mem) (n : Int) : List Int := blks (ndOf m n).1.toNat m n
theorem blks_self : ∀ (L : Nat) (m : Mem) (n : Int),n ∈ blks L m n
 | 0,m,n => by rw [blks]; simp
 | L + 1,m,n => by rw [blks]; simp
theorem tr_kids {m : Mem} {L : Nat} {n k : Int} {q : List Pr} (h : Tr m L n q) (hk : k ∈ q12 (ndOf m n)) : ∃ L' q',L = L' + 1 ∧ Tr m L' k q' := by
 match L,h with
 | 0,h =>
  rw [Tr] at h
  rw [h.2.1] at hk
  simp [q12] at hk
 | L + 1,h =>
  rw [Tr] at h
  obtain ⟨_,ks,h1,h2,h3,qs,h4,h5⟩ := h
  rw [h1] at hk
  obtain ⟨z,hz,rfl⟩ := List.mem_map.1 hk
  obtain ⟨q',hq',hR⟩ := h5.mem z hz
  exact ⟨L,q',rfl,hR.1⟩
theorem blks_kid {m : Mem} : ∀ {L : Nat} {r b k : Int} {q : List Pr},Tr m L r q → b ∈ blks L m r → k ∈ q12 (ndOf m b) → k ∈ blks L m r
 | 0,r,b,k,q,h,hb,hk => by
  rw [blks] at hb
  have e : b = r := by simpa using hb
  subst e
  obtain ⟨L',q',e,_⟩ := tr_kids h hk
  omega
 | L + 1,r,b,k,q,h,hb,hk => by
  rw [blks] at hb ⊢
  rcases zM.1 hb with rfl | hb
  ·exact List.mem_cons_of_mem _ (List.mem_flatMap.2 ⟨k,hk,blks_self L m k⟩)
  ·obtain ⟨z,hz,hb⟩ := List.mem_flatMap.1 hb
   obtain ⟨L',q',e,ht⟩ := tr_kids h hz
   have e' : L = L' := by omega
   subst e'
   exact List.mem_cons_of_mem _ (List.mem_flatMap.2 ⟨z,hz,blks_kid ht hb hk⟩)
theorem blksM_tr {m : Mem} {L : Nat} {r : Int} {q : List Pr} (h : Tr m L r q) : blksM m r = blks L m r := by
 unfold blksM
 rw [(qe6 h).1]
 simp
theorem live_from {K : Nat} {m : Mem} {R : List Int} (h : StM K m R) : ∀ {n : Int},cnt m n ≠ 0 → ∃ r ∈ R,n ∈ blksM m r := by
 have key : ∀ (j L : Nat) {n : Int} {q : List Pr},L + j = 12 → Tr m L n q → ∃ r ∈ R,n ∈ blksM m r := by
  intro j
  induction j with
  | zero =>
   intro L n q hL hT
   obtain ⟨L',q',h1,h2,_⟩ := h.live n (qZ2 hT)
   have e1 := (qe6 hT).1
   have e2 := (qe6 h2).1
   omega
  | succ j ih =>
   intro L n q hL hT
   have hc := h.rc n
   have hp := qV3 h.wf (qZ2 hT)
   by_cases hR : n ∈ R
   ·exact ⟨n,hR,blks_self _ m n⟩
   ·have h0 : R.count n = 0 := List.count_eq_zero.2 hR
    have hin : 1 ≤ inK m (m.1.2.1.map (·.1)) n := by omega
    have : ∃ b ∈ m.1.2.1.map (·.1),n ∈ q12 (ndOf m b) := by
     refine Classical.byContradiction fun hno => ?_
     have : inK m (m.1.2.1.map (·.1)) n = 0 := by
      unfold inK
      refine List.sum_eq_zero_iff_forall_eq_nat.2 fun x hx => ?_
      obtain ⟨b,hb,rfl⟩ := List.mem_map.1 hx
      exact List.count_eq_zero.2 fun hk => hno ⟨b,hb,hk⟩
     omega
    obtain ⟨b,hb,hk⟩ := this
    have hbl : cnt m b ≠ 0 := by
     obtain ⟨c,hc⟩ := Option.isSome_iff_exists.1 (qq1.2 hb)
     have := (h.wf.pos b c hc).1
     unfold cnt
     rw [hc]; simp; omega
    obtain ⟨Lb,qb,b1,b2,_⟩ := h.live b hbl
    obtain ⟨L',q',e,ht⟩ := tr_kids b2 hk
    have e1 := (qe6 hT).1
    have e2 := (qe6 ht).1
    obtain ⟨r,hr,hbr⟩ := ih Lb (by omega) b2
    have hrl : cnt m r ≠ 0 := rc_live h.rc hr
    obtain ⟨Lr,qr,_,hr2,_⟩ := h.live r hrl
    refine ⟨r,hr,?_⟩
    rw [blksM_tr hr2] at hbr ⊢
    exact blks_kid hr2 hbr hk
 intro n hn
 obtain ⟨L,q,h1,h2,_⟩ := h.live n hn
 exact key (12 - L) L (by omega) h2
theorem used_le {K : Nat} {m : Mem} {R : List Int} (h : StM K m R) : used m ≤ (R.flatMap (blksM m)).length := by
 have := q06 (l := m.1.2.1.map (·.1)) (r := R.flatMap (blksM m)) h.wf.nodup fun n hn => by
  have hl : cnt m n ≠ 0 := by
   obtain ⟨c,hc⟩ := Option.isSome_iff_exists.1 (qq1.2 hn)
   have := (h.wf.pos n c hc).1
   unfold cnt
   rw [hc]; simp; omega
  obtain ⟨r,hr,hb⟩ := live_from h hl
  exact List.mem_flatMap.2 ⟨r,hr,hb⟩
 rw [List.length_map] at this
 exact this
theorem used_nil {K : Nat} {m : Mem} (h : StM K m []) : used m = 0 := by
 have := used_le h
 simpa using this
theorem free_eq {K : Nat} {m : Mem} {R : List Int} (h : StM K m R) (hu : used m ≤ 2000000) : qL0 m = some (m.1.1 - 2 - (used m : Int),m) := by
 have := h.wf.blk
 unfold qL0 qp2
 simp only [zA]
 rw [w64 (n := m.1.1 - 2) (by omega) (by omega),show ((m.1.2.1.length : Nat) : Int) = (used m : Int) from rfl,w64 (by omega) (by omega)]
theorem new_eq {most : Int} (h : 0 ≤ most ∧ most ≤ 1048576) : ∃ m,qd1 most = some m ∧ StM 1 m [] ∧ m.1.1 = most + 2 ∧ used m = 0 := by
 unfold qd1 refs_New
 have e1 : max most 0 = most := by omega
 have e2 : min most 1048576 = most := by omega
 simp only [e1,e2,zA]
 rw [w64 (by omega) (by omega)]
 have e3 : max (2 + most) 2 = 2 + most := by omega
 have e4 : min (2 + most) 4294967296 = 2 + most := by omega
 rw [e3,e4]
 refine ⟨_,rfl,⟨⟨by simp only; omega,by simp only; omega,fun n h1 h2 => ?_,by simp,fun n c h => by cases h⟩,fun n hn => absurd rfl hn,fun n => by simp [inK,cnt,qs2]⟩,by simp only; omega,rfl⟩
 simp only at h2; omega
end Go.Val
namespace Go.Val
open Go.RowKit Go.Lib
def K24s {β : Type} (q : List (Ky × β)) : Prop := ∀ p ∈ q,p.1.length = 24
def allS : Spn := (List.replicate 24 0,List.replicate 24 0,true)
theorem cb_zeros : ∀ (k : List UInt8) (n : Nat),k.length = n → 0 ≤ compareBytes k (List.replicate n 0)
 | [],0,_ => by decide
 | x :: k,n + 1,h => by
  have ih := cb_zeros k n (by simpa using h)
  rw [List.replicate_succ,compareBytes]
  by_cases h0 : x = 0
  ·subst h0; simpa using ih
  ·have : (0 : UInt8) < x := by
    have h1 : (0 : UInt8).toNat ≠ x.toNat := fun e => h0 (UInt8.toNat_inj.1 e.symm)
    rw [UInt8.lt_iff_toNat_lt]
    simp at h1 ⊢
    omega
   have h2 : ¬ x < 0 := by
    rw [UInt8.lt_iff_toNat_lt]
    simp
   simp [this,h2]
theorem inT_all {k : Ky} (h : k.length = 24) : inT allS k = true := by
 have := cb_zeros k 24 h
 show (decide (compareBytes k (List.replicate 24 0) ≥ 0) && (true || decide (compareBytes k (List.replicate 24 0) < 0))) = true
 rw [decide_eq_true this]
 rfl
theorem updF_one (f : Fn) (c : Cg) (k : Ky) : updF f [c] k = if k = c.1 then eff c.2 else f k := by
 have := updF_snoc f [] c
 rw [List.nil_append] at this
 rw [this]; rfl
theorem filter_all {q : List Pr} (h : K24s q) : (q.filter fun p => inT allS p.1) = q := List.filter_eq_self.2 fun p hp => inT_all (h p hp)
theorem applyP_k24 {q : List Pr} {l : List Cg} (hr : Rising q) (hq : K24s q) (hl : K24s l) : K24s (qf2 q l) := fun p hp => by
 have h1 : mget (qf2 q l) p.1 = some p.2 := qb3 (qX0 q l).nodup hp
 rw [qC2,qH4 hr] at h1
 unfold updF at h1
 cases hm : mget l.reverse p.1 with
 | none => rw [hm] at h1; exact hq _ (qK1 h1)
 | some e => exact hl _ (List.mem_reverse.1 (qK1 hm))
theorem get_zero {m : Mem} {k : Ky} : qj2 m 0 k = some (ByteArray.mk #[],false,0,m) := by
 rw [get_def,qI]
 simp [getB]
theorem count_root {m : Mem} (n : Int) : qr0 m n = some (cnt m n,m) := by
 unfold qr0
 rw [count_eq]
 rfl
theorem blks_level {m : Mem} : ∀ {L : Nat} {r b : Int} {q : List Pr},Tr m L r q → b ∈ blks L m r → ∃ L' q',L' ≤ L ∧ Tr m L' b q'
 | 0,r,b,q,h,hb => by
  rw [blks] at hb
  have e : b = r := by simpa using hb
  subst e
  exact ⟨0,q,by omega,h⟩
 | L + 1,r,b,q,h,hb => by
  rw [blks] at hb
  rcases zM.1 hb with rfl | hb
  ·exact ⟨L + 1,q,by omega,h⟩
  ·obtain ⟨z,hz,hb⟩ := List.mem_flatMap.1 hb
   obtain ⟨L',q',e,ht⟩ := tr_kids h hz
   have e' : L = L' := by omega
   subst e'
   obtain ⟨L2,q2,a,b⟩ := blks_level ht hb
   exact ⟨L2,q2,by omega,b⟩
theorem root_count {K : Nat} {m : Mem} {r : Int} {L : Nat} {q : List Pr} (h : StM K m [r]) (hT : Tr m L r q) : cnt m r = 1 := by
 have hc := h.rc r
 have : inK m (m.1.2.1.map (·.1)) r = 0 := by
  unfold inK
  refine List.sum_eq_zero_iff_forall_eq_nat.2 fun x hx => ?_
  obtain ⟨b,hb,rfl⟩ := List.mem_map.1 hx
  refine List.count_eq_zero.2 fun hk => ?_
  have hbl : cnt m b ≠ 0 := by
   obtain ⟨c,hc⟩ := Option.isSome_iff_exists.1 (qq1.2 hb)
   have := (h.wf.pos b c hc).1
   unfold cnt
   rw [hc]; simp; omega
  obtain ⟨r',hr',hbr⟩ := live_from h hbl
  have e : r' = r := by simpa using hr'
  subst e
  rw [blksM_tr hT] at hbr
  obtain ⟨L',q',h1,h2⟩ := blks_level hT hbr
  obtain ⟨L2,q2,e2,h3⟩ := tr_kids h2 hk
  have e3 := (qe6 hT).1
  have e4 := (qe6 h3).1
  omega
 rw [this] at hc
 simpa using hc
def fewC (l : List Cg) (most bytes : Nat) : List Cg := (l.take most).map fun c => (c.1,c.2.1.extract 0 (min c.2.1.size bytes),c.2.2)
theorem lawfew_eq {l : List Cg} {most bytes : Nat} (hm : most ≤ 1000000) : qK2 l most bytes = some (fewC l most bytes) := by
 unfold qK2
 refine qD1 (Q := fun o => o = some (fewC l most bytes)) (fun v => ∃ D Z,l = D ++ Z ∧ D.length ≤ most ∧ v = ((D.length : Int),fewC D most bytes)) (fun v => (most - v.1).toNat) (fun o => o = fewC l most bytes) ⟨[],l,rfl,by simp,by simp [fewC]⟩ ?_ (fun o h => by rw [h])
 rintro v ⟨D,Z,e1,e2,rfl⟩
 have hlen : l.length = D.length + Z.length := by rw [e1]; simp
 have hD : fewC D most bytes = D.map fun c => (c.1,c.2.1.extract 0 (min c.2.1.size bytes),c.2.2) := by
  unfold fewC; rw [List.take_of_length_le e2]
 match Z with
 | [] =>
  right
  have t : ¬ ((D.length : Int) < (l.length : Int)) := by simp at hlen; omega
  rw [zJ] at e1
  exact ⟨fewC D most bytes,by simp only [t,zB,zD,zA],by rw [e1]⟩
 | z :: Z' =>
  simp only [zG] at hlen
  have t : ((D.length : Int) < (l.length : Int)) := by omega
  have g0 : gx l (D.length : Int) = some z := by rw [e1]; exact qB2 rfl
  by_cases hm' : (D.length : Int) < (most : Int)
  ·left
   refine ⟨((D.length : Int) + 1,fewC (D ++ [z]) most bytes),?_,⟨D ++ [z],Z',by simp [e1],by simp; omega,by simp⟩,by simp; omega⟩
   have hz : fewC (D ++ [z]) most bytes = fewC D most bytes ++ [(z.1,z.2.1.extract 0 (min z.2.1.size bytes),z.2.2)] := by
    rw [hD]; unfold fewC; rw [List.take_of_length_le (by simp; omega)]; simp
   simp only [t,zC,zE,hm',zA,g0]
   have hmin : (min (z.2.1.size : Int) (bytes : Int)).toNat = min z.2.1.size bytes := by omega
   have hcut : cutB 0 (min (z.2.1.size : Int) (bytes : Int)) z.2.1.size = some () := by
    unfold cutB ck
    have : (0 ≤ (0 : Int) ∧ (0 : Int) ≤ min (z.2.1.size : Int) (bytes : Int) ∧ min (z.2.1.size : Int) (bytes : Int) ≤ (z.2.1.size : Int)) := by omega
    simp [this]
   rw [hcut]
   simp only [zA,hmin]
   have lD : (fewC D most bytes).length = D.length := by rw [hD]; simp
   rw [q81 (by simp [lD]; omega),hz,w64 (by omega) (by omega)]
   rfl
  ·right
   have hml : most = D.length := by omega
   refine ⟨fewC D most bytes,by simp only [t,zC,zE,hm',zB,zA,zD],?_⟩
   rw [hD]
   unfold fewC
   rw [hml,e1,List.take_left]
theorem fewC_len (l : List Cg) (most bytes : Nat) : (fewC l most bytes).length ≤ most := by unfold fewC; simp; omega
theorem fewC_short (l : List Cg) (most : Nat) : ShortC (fewC l most 40) := fun c hc => by
 obtain ⟨x,_,rfl⟩ := List.mem_map.1 hc
 simp [ByteArray.size_extract]
 omega
theorem fewC_k24 {l : List Cg} {most bytes : Nat} (h : K24s l) : K24s (fewC l most bytes) := fun c hc => by
 obtain ⟨x,hx,rfl⟩ := List.mem_map.1 hc
 exact h x (List.mem_of_mem_take hx)
theorem shown_eq : qa3 = some true := by
 obtain ⟨m0,a1,a2,a3,a4⟩ := new_eq (most := 100) (by omega)
 unfold qa3
 rw [a1]
 simp only [zA]
 generalize hk : (List.set (List.replicate 24 (0 : UInt8)) 0 (UInt8.ofNat 7)) = k
 have hk24 : k.length = 24 := by rw [← hk]; simp
 obtain ⟨a,m1,c1,b1,b2,b3,b4,b5,b6,b7,_⟩ := apply_eq (l := [(k,ByteArray.mk #[49],false)]) (r := 0) (q := []) a2 (by omega) (by omega) (.inl ⟨rfl,rfl⟩) (by simp [Rising,Asc]) (fun p hp => by cases hp) (fun c hc => by
  have := List.mem_singleton.1 hc; subst this; exact (by decide : (1 : Nat) ≤ 40)) (by simp) (by rw [a3,a4]; simp)
 have q1 : qf2 [] [(k,ByteArray.mk #[49],false)] = [(k,ByteArray.mk #[49])] := by
  refine qd3 (qX0 _ _) (by simp [Rising,Asc]) fun k' => ?_
  rw [qC2,updF_one,qO]
  rfl
 rw [q1] at b2 b7
 have ha : a ≠ 0 := by
  rcases b2 with h | h
  ·exact absurd h.2 (by simp)
  ·exact h.1
 obtain ⟨L,hT⟩ := root_tr b2 ha
 rw [b1]
 simp only [zA]
 have hr1 : Rising [(k,ByteArray.mk #[49])] := by simp [Rising,Asc]
 have hs1 : qh6 [(k,ByteArray.mk #[49])] := fun p hp => by have := List.mem_singleton.1 hp; subst this; exact (by decide : (1 : Nat) ≤ 40)
 simp only [List.length_singleton] at b7
 obtain ⟨b,m2,c2,d1,d2,d3,d4,d5,d6,d7,_⟩ := apply_eq (l := [(k,ByteArray.mk #[],true)]) b4 (by omega) (by omega) b2 hr1 hs1 (fun c hc => by
  have := List.mem_singleton.1 hc; subst this; exact (by decide : (0 : Nat) ≤ 40)) (by simp) (by rw [b5,a3]; simp; omega)
 have q2 : qf2 [(k,ByteArray.mk #[49])] [(k,ByteArray.mk #[],true)] = [] := by
  refine qd3 (qX0 _ _) (by simp [Rising,Asc]) fun k' => ?_
  rw [qC2,qH4 hr1,updF_one,qO]
  by_cases h : k' = k <;> simp [h,eff,qs2]
 rw [q2] at d2 d7
 simp only [zH] at d7
 have hb : b = 0 := by
  rcases d2 with h | ⟨_,L',h⟩
  ·exact h.1
  ·exact absurd rfl (tr_ne h)
 subst hb
 rw [d1]
 simp only [zA]
 have hT2 := Tr.ext d3 hT
 have d4' : StM (1 + c1 + c2) m2 [a] := by simpa [rl,ha] using d4
 rw [get_eq d4'.wf hT2 hr1]
 simp only [zA]
 rw [get_zero]
 simp only [zA]
 rw [show qg2 = some allS from rfl]
 simp only [zA]
 have hL := qF5 hT2 (by simp)
 rw [scan_eq d4'.wf (by omega) hT2 hr1 (by simp),filter_all (q := [(k,ByteArray.mk #[49])]) (fun p hp => by have := List.mem_singleton.1 hp; subst this; exact hk24)]
 have hg : mget [(k,ByteArray.mk #[49])] k = some (ByteArray.mk #[49]) := by simp [qO]
 rw [hg]
 simp only [zA,zC,zE,Option.getD_some,Option.isSome_some,Bool.not_false,List.length_singleton]
 have h11 : decide (((1 : Nat) : Int) = 1) = true := by decide
 rw [h11]
 simp only [zE]
 rw [count_root]
 simp only [zA,root_count d4' hT2,zC,zE]
 rw [check_eq d4'.wf hT2 hr1 hs1 (by simp)]
 simp only [zA,zC,zE]
 obtain ⟨m3,e1,e2,e3,e4,e5⟩ := release_eq (R := []) (.inr ⟨ha,L,hT2⟩) (by simpa [rl,ha] using d4') (by omega) (by simp)
 rw [e1]
 simp only [zA,zC,zE]
 rw [free_eq e2 (by rw [used_nil e2]; omega),used_nil e2,e4,d5,b5,a3]
 rfl
end Go.Val
namespace Go.Val
open Go.RowKit Go.Lib
structure Grown (m : Mem) (r : Int) (q : List Pr) (c : Nat) : Prop where
 root : Root m r q
 st : StM (1 + c) m (rl r)
 ris : Rising q
 short : qh6 q
 k24 : K24s q
 len : q.length ≤ 80
 blk : m.1.1 = 3002
 used : used m ≤ c
 cost : 2 * c ≤ q.length + 1
theorem scan_root {K : Int} {m : Mem} {s : Spn} {n : Int} {q : List Pr} (hw : WfM K m) (h : Root m n q) (hq : Rising q) (hn : q.length ≤ 1000000) : qp1 m n s = some (q.filter fun p => inT s p.1,0,m) := by
 rcases h with ⟨rfl,rfl⟩ | ⟨_,L,h⟩
 ·rw [scan_zero]; rfl
 ·have := qF5 h hn
  exact scan_eq hw (by omega) h hq hn
end Go.Val
namespace Go.Val
open Go.RowKit Go.Lib
theorem cb_pre : ∀ (D a b : List UInt8),compareBytes (D ++ a) (D ++ b) = compareBytes a b
 | [],a,b => rfl
 | x :: D,a,b => by
  have h1 : ¬ x < x := by rw [UInt8.lt_iff_toNat_lt]; omega
  rw [List.cons_append,List.cons_append,compareBytes]
  simp only [h1,if_false]
  exact cb_pre D a b
theorem less_eq {a b : Ky} (ha : a.length = 24) (hb : b.length = 24) : qG3 a b = some (decide (Lt a b)) := by
 unfold qG3
 refine qD1 (Q := fun o => o = some (decide (Lt a b))) (fun v => ∃ D A B,a = D ++ A ∧ b = D ++ B ∧ v = (D.length : Int)) (fun v => (24 - v).toNat)
  (fun o => Sum.elim (fun (_ : Unit) => some false) (fun w => some w) o = some (decide (Lt a b))) ⟨[],a,b,rfl,rfl,rfl⟩ ?_ (fun o h => h)
 rintro v ⟨D,A,B,e1,e2,rfl⟩
 have la : D.length + A.length = 24 := by rw [← ha,e1]; simp
 have lb : D.length + B.length = 24 := by rw [← hb,e2]; simp
 match A,B with
 | [],[] =>
  right
  have t : ¬ ((D.length : Int) < 24) := by simp at la; omega
  refine ⟨.inl (),by simp only [t,zB,zD],?_⟩
  have e : a = b := by rw [e1,e2]
  subst e
  simp [lt_irrefl]
 | [],y :: B' => simp at la lb; omega
 | x :: A',[] => simp at la lb; omega
 | x :: A',y :: B' =>
  simp only [zG] at la lb
  have t : ((D.length : Int) < 24) := by omega
  have t1 : (0 ≤ (D.length : Int) ∧ (D.length : Int) < 24) := by omega
  have ga : gx a (D.length : Int) = some x := by rw [e1]; exact qB2 rfl
  have gb : gx b (D.length : Int) = some y := by rw [e2]; exact qB2 rfl
  have c1 : ck true = some () := rfl
  simp only [t,zC,zE,t1,and_self,c1,zA,ga,gb]
  by_cases hxy : x = y
  ·left
   subst hxy
   refine ⟨(D.length : Int) + 1,?_,⟨D ++ [x],A',B',by simp [e1],by simp [e2],by simp⟩,by omega⟩
   simp only [ne_eq,zP,zB,zD]
   rw [w64 (by omega) (by omega)]
  ·right
   have hn : ((x.toNat : Int) ≠ (y.toNat : Int)) := fun e => hxy (UInt8.toNat_inj.1 (by omega))
   refine ⟨.inr (decide ((x.toNat : Int) < (y.toNat : Int))),by simp only [hn,ne_eq,not_false_eq_true,zC,zE],?_⟩
   simp only [zO]
   congr 1
   rw [e1,e2,decide_eq_decide]
   unfold Lt
   rw [cb_pre,compareBytes]
   by_cases h1 : x < y
   ·have := UInt8.lt_iff_toNat_lt.1 h1
    simp [h1]
    omega
   ·by_cases h2 : y < x
    ·have := UInt8.lt_iff_toNat_lt.1 h2
     simp [h1,h2]
     omega
    ·have e1 : ¬ x.toNat < y.toNat := fun q => h1 (UInt8.lt_iff_toNat_lt.2 q)
     have e2 : ¬ y.toNat < x.toNat := fun q => h2 (UInt8.lt_iff_toNat_lt.2 q)
     omega
theorem same_eq {a b : List Pr} (hn : a.length ≤ 1000000000) : qQ2 a b = some (decide (a = b)) := by
 unfold qQ2
 by_cases hl : a.length = b.length
 ·have t : ¬ ((a.length : Int) ≠ (b.length : Int)) := by omega
  simp only [t,zB,zD]
  refine qD1 (Q := fun o => o = some (decide (a = b))) (fun v => ∃ D A B,a = D ++ A ∧ b = D ++ B ∧ v = (D.length : Int)) (fun v => ((a.length : Int) - v).toNat)
   (fun o => Sum.elim (fun (_ : Unit) => some true) (fun w => some w) o = some (decide (a = b))) ⟨[],a,b,rfl,rfl,rfl⟩ ?_ (fun o h => h)
  rintro v ⟨D,A,B,e1,e2,rfl⟩
  have la : a.length = D.length + A.length := by rw [e1]; simp
  have lb : b.length = D.length + B.length := by rw [e2]; simp
  match A,B with
  | [],[] =>
   right
   have t : ¬ ((D.length : Int) < (a.length : Int)) := by simp at la; omega
   refine ⟨.inl (),by simp only [t,zB,zD],?_⟩
   have e : a = b := by rw [e1,e2]
   simp [e]
  | [],y :: B' => simp at la lb; omega
  | x :: A',[] => simp at la lb; omega
  | x :: A',y :: B' =>
   simp only [zG] at la lb
   have t : ((D.length : Int) < (a.length : Int)) := by omega
   have ga : gx a (D.length : Int) = some x := by rw [e1]; exact qB2 rfl
   have gb : gx b (D.length : Int) = some y := by rw [e2]; exact qB2 rfl
   simp only [t,zC,zE,zA,ga,gb]
   by_cases hxy : x = y
   ·left
    subst hxy
    refine ⟨(D.length : Int) + 1,?_,⟨D ++ [x],A',B',by simp [e1],by simp [e2],by simp⟩,by omega⟩
    simp only [zC,Bool.and_self,Bool.not_true,zD]
    rw [w64 (by omega) (by omega)]
   ·right
    have hn : ((decide (x.1 = y.1)) && ((decide (x.2 = y.2)) && true)) = false := by
     rw [Bool.eq_false_iff]
     intro h
     simp only [Bool.and_eq_true,decide_eq_true_eq,and_true] at h
     exact hxy (Prod.ext h.1 h.2)
    refine ⟨.inr false,by simp only [hn,Bool.not_false,zE],?_⟩
    have hab : a ≠ b := fun e => hxy (by rw [e1,e2] at e; have := List.append_cancel_left e; simp at this; exact this.1)
    simp [hab]
 ·have t : ((a.length : Int) ≠ (b.length : Int)) := by omega
  have hab : a ≠ b := fun e => hl (by rw [e])
  simp only [t,ne_eq,not_false_eq_true,zC,zE,hab,zB]
end Go.Val
namespace Go.Val
open Go.RowKit Go.Lib
end Go.Val
namespace Go.Val
open Go.RowKit Go.Lib
end Go.Val
namespace Go.Val
open Go.RowKit Go.Lib
theorem and_le {a : Int} {b : Nat} (hb : b < 9223372036854775808) : ∃ m : Nat,qR4 .i64 a (b : Int) = (m : Int) ∧ m ≤ b := by
 unfold qR4
 rw [BitVec.toNat_and,BitVec.toNat_ofInt,BitVec.toNat_ofInt]
 have h64 : (2 : Nat) ^ IntKind.bits .i64 = 18446744073709551616 := by decide
 have e3 : ((b : Int) % ((2 ^ IntKind.bits .i64 : Nat) : Int)).toNat = b := by rw [h64]; omega
 rw [e3]
 have := @Nat.and_le_right ((a % ((2 ^ IntKind.bits .i64 : Nat) : Int)).toNat) b
 exact ⟨_,by rw [wI64 (by omega)],this⟩
end Go.Val
namespace Go.Val
open Go.RowKit Go.Lib
theorem whileO_gh {V O X : Type} {body : V → Option (V ⊕ O)} (J : V → X → Prop) (μ : X → Nat) (Post : O → Prop)
  (h : ∀ v x,J v x → (∃ v' x',body v = some (.inl v') ∧ J v' x' ∧ μ x' < μ x) ∨ (∃ o,body v = some (.inr o) ∧ Post o)) {v : V} {x : X} (hv : J v x) : ∃ o,qN body v = some o ∧ Post o := by
 have key : ∀ n v x,J v x → μ x ≤ n → ∃ o,qN body v = some o ∧ Post o := by
  intro n
  induction n with
  | zero =>
   intro v x hv hm
   rcases h v x hv with ⟨v',x',h1,h2,h3⟩ | ⟨o,h1,h2⟩
   ·omega
   ·exact ⟨o,by rw [qI,h1]; rfl,h2⟩
  | succ n ih =>
   intro v x hv hm
   rcases h v x hv with ⟨v',x',h1,h2,h3⟩ | ⟨o,h1,h2⟩
   ·obtain ⟨o,k1,k2⟩ := ih v' x' h2 (by omega)
    exact ⟨o,by rw [qI,h1]; exact k1,k2⟩
   ·exact ⟨o,by rw [qI,h1]; rfl,h2⟩
 exact key _ v x hv (Nat.le_refl _)
structure CQ (most : Int) (n T A : List Int) : Prop where
 len : (n.length : Int) = most + 2
 get : ∀ k : Nat,k < n.length → n[k]? = some ((A.count (k : Int) : Nat) : Int)
 nodup : T.Nodup
 mem : ∀ k,k ∈ T ↔ k ∈ A
 rng : ∀ k ∈ A,2 ≤ k ∧ k < most + 2
theorem CQ.tlen {most : Int} {n T A : List Int} (h : CQ most n T A) : T.length ≤ A.length := q06 h.nodup fun x hx => (h.mem x).1 hx
theorem cq_hit {most : Int} {n D Q A : List Int} {k : Int} (h : CQ most n (D ++ Q) A) (h1 : 2 ≤ k) (h2 : k < most + 2) (hA : A.length ≤ 1000000000000) :
  gx n k = some ((A.count k : Nat) : Int) ∧ (cond (decide (((A.count k : Nat) : Int) = 0)) ((fits (Q.length + ([k]).length) 8).bind fun _ => some (Q ++ [k])) (some Q)) = some (if A.count k = 0 then Q ++ [k] else Q) ∧
  CQ most (List.set n k.toNat (IntKind.wrap .i64 (((A.count k : Nat) : Int) + 1))) (D ++ (if A.count k = 0 then Q ++ [k] else Q)) (A ++ [k]) := by
 have hl := h.len
 have hk : ((k.toNat : Nat) : Int) = k := by omega
 have hc : A.count k ≤ A.length := List.count_le_length
 have ht := h.tlen
 rw [zF] at ht
 refine ⟨?_,?_,⟨by simp [hl],fun j hj => ?_,?_,fun j => ?_,fun j hj => ?_⟩⟩
 ·have h0 : 0 ≤ k := by omega
  unfold gx
  rw [decide_eq_true h0,zE,h.get k.toNat (by omega),hk]
 ·by_cases h0 : A.count k = 0
  ·have e : ((A.count k : Nat) : Int) = 0 := by omega
   rw [decide_eq_true e,zE,if_pos h0]
   unfold fits
   rw [ck_of (by simp only [zG,zH]; omega)]
   rfl
  ·have e : ¬ ((A.count k : Nat) : Int) = 0 := by omega
   rw [decide_eq_false e,zD,if_neg h0]
 ·rw [List.length_set] at hj
  rw [w64 (by omega) (by omega),List.getElem?_set,List.count_append,List.count_singleton]
  by_cases e : k.toNat = j
  ·subst e
   rw [if_pos rfl,if_pos hj,hk]
   simp
  ·rw [if_neg e,h.get j hj]
   have : ¬ (k = (j : Int)) := by omega
   simp [this]
 ·by_cases h0 : A.count k = 0
  ·rw [if_pos h0,← zI]
   refine List.nodup_append.2 ⟨h.nodup,by simp,fun a ha b hb => ?_⟩
   have hb' : b = k := by simpa using hb
   rintro rfl
   subst hb'
   exact List.count_eq_zero.1 h0 ((h.mem _).1 ha)
  ·rw [if_neg h0]; exact h.nodup
 ·rw [zL (s := A)]
  by_cases h0 : A.count k = 0
  ·rw [if_pos h0,← zI,zL,h.mem j]
  ·rw [if_neg h0,h.mem j]
   have : k ∈ A := by
    refine Classical.byContradiction fun hn => h0 (List.count_eq_zero.2 hn)
   constructor
   ·exact .inl
   ·rintro (h | h)
    ·exact h
    ·have : j = k := by simpa using h
     subst this; assumption
 ·rcases zL.1 hj with hj | hj
  ·exact h.rng j hj
  ·have : j = k := by simpa using hj
   subst this; exact ⟨h1,h2⟩
theorem inK_flat (m : Mem) (bs : List Int) (n : Int) : inK m bs n = (bs.flatMap fun b => q12 (ndOf m b)).count n := by
 unfold inK
 induction bs with
 | nil => rfl
 | cons b bs ih => simp [List.count_append,ih]
theorem count_same {l r : List Int} (hl : l.Nodup) (hr : r.Nodup) (h : ∀ x,x ∈ l ↔ x ∈ r) : l.length = r.length :=
 Nat.le_antisymm (q06 hl fun x hx => (h x).1 hx) (q06 hr fun x hx => (h x).2 hx)
theorem inK_same {m : Mem} {l r : List Int} (hl : l.Nodup) (hr : r.Nodup) (h : ∀ x,x ∈ l ↔ x ∈ r) (n : Int) : inK m l n = inK m r n := by
 have hp : l.Perm r := (List.perm_ext_iff_of_nodup hl hr).2 h
 rw [inK_flat,inK_flat]
 exact (hp.flatMap_right _).count_eq n
theorem count1_eq {most : Int} {roots : List Int} {a0 : Mem} (hm : 0 ≤ most ∧ most ≤ 1000000) (hr : ∀ r ∈ roots,r = 0 ∨ 2 ≤ r ∧ r < most + 2) (hn : roots.length ≤ 1000000) :
  ∃ n T,(qN (V := (Int × (List Int) × (List Int))) (O := (((List Int) × (List Int)) ⊕ (Bool × Mem))) (fun v530 =>
   cond (decide (v530.1 < (roots.length : Int))) (
    (((
     (gx roots v530.1).bind fun x586 =>
     cond (decide (x586 = 0)) (
      some (.inl (v530.2.1,v530.2.2))
     ) (
      (((
       cond (decide (x586 < 2)) (
        some true
       ) (
        some (decide (x586 ≥ (v530.2.1.length : Int)))
       )
      ) : Option Bool)).bind fun o595 =>
      cond o595 (
       some (.inr (false,a0))
      ) (
       (((
        (gx v530.2.1 x586).bind fun x618 =>
        cond (decide (x618 = 0)) (
         (fits (v530.2.2.length + ([x586]).length) 8).bind fun _ =>
         some (v530.2.2 ++ [x586])
        ) (
         some v530.2.2
        )
       ) : Option (List Int))).bind fun o615 =>
       (gx v530.2.1 x586).bind fun x627 =>
       some (.inl ((List.set v530.2.1 x586.toNat (IntKind.wrap .i64 (x627 + 1))),o615))
      )
     )
    ) : Option (((List Int) × (List Int)) ⊕ (Bool × Mem)))).bind fun o583 =>
    Sum.elim (fun (v634 : ((List Int) × (List Int))) =>
     some (.inl ((IntKind.wrap .i64 (v530.1 + 1)),v634.1,v634.2))
    ) (fun w637 =>
     some (.inr (.inr w637))
    ) o583
   ) (
    some (.inr (.inl (v530.2.1,v530.2.2)))
   )
  ) (0,(List.replicate (IntKind.wrap .i64 (most + 2)).toNat 0),[])) = some (.inl (n,T)) ∧ CQ most n T (roots.flatMap rl) := by
 rw [w64 (n := most + 2) (by omega) (by omega)]
 obtain ⟨o,ho,n,T,e,hc⟩ := q00 (V := (Int × (List Int) × (List Int))) (O := (((List Int) × (List Int)) ⊕ (Bool × Mem))) (body := fun v530 =>
   cond (decide (v530.1 < (roots.length : Int))) (
    (((
     (gx roots v530.1).bind fun x586 =>
     cond (decide (x586 = 0)) (
      some (.inl (v530.2.1,v530.2.2))
     ) (
      (((
       cond (decide (x586 < 2)) (
        some true
       ) (
        some (decide (x586 ≥ (v530.2.1.length : Int)))
       )
      ) : Option Bool)).bind fun o595 =>
      cond o595 (
       some (.inr (false,a0))
      ) (
       (((
        (gx v530.2.1 x586).bind fun x618 =>
        cond (decide (x618 = 0)) (
         (fits (v530.2.2.length + ([x586]).length) 8).bind fun _ =>
         some (v530.2.2 ++ [x586])
        ) (
         some v530.2.2
        )
       ) : Option (List Int))).bind fun o615 =>
       (gx v530.2.1 x586).bind fun x627 =>
       some (.inl ((List.set v530.2.1 x586.toNat (IntKind.wrap .i64 (x627 + 1))),o615))
      )
     )
    ) : Option (((List Int) × (List Int)) ⊕ (Bool × Mem)))).bind fun o583 =>
    Sum.elim (fun (v634 : ((List Int) × (List Int))) =>
     some (.inl ((IntKind.wrap .i64 (v530.1 + 1)),v634.1,v634.2))
    ) (fun w637 =>
     some (.inr (.inr w637))
    ) o583
   ) (
    some (.inr (.inl (v530.2.1,v530.2.2)))
   )) (fun v => ∃ D Z,roots = D ++ Z ∧ v.1 = (D.length : Int) ∧ CQ most v.2.1 v.2.2 (D.flatMap rl)) (fun v => ((roots.length : Int) - v.1).toNat) (fun o => ∃ n T,o = .inl (n,T) ∧ CQ most n T (roots.flatMap rl)) (by
  rintro ⟨i,n,Q⟩ ⟨D,Z,e1,e2,hc⟩
  simp only at e2 hc
  subst e2
  have hlen : roots.length = D.length + Z.length := by rw [e1]; simp
  match Z with
  | [] =>
   right
   have t : ¬ ((D.length : Int) < (roots.length : Int)) := by simp at hlen; omega
   simp only [t,zB,zD]
   exact ⟨_,rfl,n,Q,rfl,by rw [e1,zJ]; exact hc⟩
  | z :: Z' =>
   left
   simp only [zG] at hlen
   have t : ((D.length : Int) < (roots.length : Int)) := by omega
   have g0 : gx roots (D.length : Int) = some z := by rw [e1]; exact qB2 rfl
   have hz := hr z (by rw [e1]; simp)
   simp only [t,zC,zE,g0,zA]
   rw [w64 (n := (D.length : Int) + 1) (by omega) (by omega)]
   have hfl : (D.flatMap rl).length ≤ D.length := by
    clear hc hlen t g0 e1
    induction D with
    | nil => simp
    | cons d D ih =>
     rw [List.flatMap_cons,zF,zG]
     have : (rl d).length ≤ 1 := by unfold rl; split <;> simp
     omega
   by_cases h0 : z = 0
   ·subst h0
    refine ⟨_,by rw [decide_eq_true rfl,zE]; rfl,⟨D ++ [0],Z',by simp [e1],by simp,?_⟩,by simp only; omega⟩
    rw [List.flatMap_append]
    simpa [rl] using hc
   ·have h2 : 2 ≤ z ∧ z < most + 2 := by omega
    have c2 : ¬ z < 2 := by omega
    have hl := hc.len
    have c3 : ¬ z ≥ (n.length : Int) := by omega
    obtain ⟨a1,a2,a3⟩ := cq_hit (D := []) (Q := Q) hc h2.1 h2.2 (by omega)
    rw [decide_eq_false h0,zD,decide_eq_false c2,zD,zA,decide_eq_false c3,zD,a1,zA,a2,zA,zA]
    refine ⟨_,rfl,⟨D ++ [z],Z',by simp [e1],by simp,?_⟩,by simp only; omega⟩
    rw [List.flatMap_append]
    simpa [rl,h0] using a3) (v := (0,List.replicate (most + 2).toNat 0,[])) ⟨[],roots,rfl,rfl,⟨by simp; omega,fun k hk => by
    have hk' : k < (most + 2).toNat := by simpa using hk
    simp only [List.flatMap_nil,List.count_nil]
    rw [List.getElem?_replicate,if_pos hk']; rfl,by simp,by simp,by simp⟩⟩
 subst e
 exact ⟨n,T,ho,hc⟩
theorem count3_eq {most : Int} {m : Mem} {n D Q A : List Int} {ks : List Kd} (hc : CQ most n (D ++ Q) A) (hA : A.length ≤ 100000000000) (hl : ks.length ≤ 1000000) (hk : ∀ k ∈ ks,2 ≤ k.2 ∧ k.2 < most + 2) :
  ∃ n' Q',qN (V := (Int × (List Int) × (List Int))) (O := ((Mem × (List Int) × (List Int)) ⊕ ((Mem × (List Int)) ⊕ (Bool × Mem)))) (fun v1559 =>
       cond (decide (v1559.1 < (ks.length : Int))) (
        (gx ks v1559.1).bind fun x1566 =>
        (((
         cond (decide (x1566.2 < 2)) (
          some true
         ) (
          some (decide (x1566.2 ≥ (v1559.2.1.length : Int)))
         )
        ) : Option Bool)).bind fun o1572 =>
        cond o1572 (
         some (.inr (.inr (.inr (false,m))))
        ) (
         (((
          (gx v1559.2.1 x1566.2).bind fun x1594 =>
          cond (decide (x1594 = 0)) (
           (fits (v1559.2.2.length + ([x1566.2]).length) 8).bind fun _ =>
           some (v1559.2.2 ++ [x1566.2])
          ) (
           some v1559.2.2
          )
         ) : Option (List Int))).bind fun o1591 =>
         (gx v1559.2.1 x1566.2).bind fun x1603 =>
         some (.inl ((IntKind.wrap .i64 (v1559.1 + 1)),(List.set v1559.2.1 x1566.2.toNat (IntKind.wrap .i64 (x1603 + 1))),o1591))
        )
       ) (
        some (.inr (.inl (m,v1559.2.1,v1559.2.2)))
       )
      ) (0,n,Q) = some (.inl (m,n',Q')) ∧ CQ most n' (D ++ Q') (A ++ ks.map (·.2)) := by
 obtain ⟨o,ho,n',Q',e,h⟩ := q00 (V := (Int × (List Int) × (List Int))) (O := ((Mem × (List Int) × (List Int)) ⊕ ((Mem × (List Int)) ⊕ (Bool × Mem)))) (body := (fun v1559 =>
       cond (decide (v1559.1 < (ks.length : Int))) (
        (gx ks v1559.1).bind fun x1566 =>
        (((
         cond (decide (x1566.2 < 2)) (
          some true
         ) (
          some (decide (x1566.2 ≥ (v1559.2.1.length : Int)))
         )
        ) : Option Bool)).bind fun o1572 =>
        cond o1572 (
         some (.inr (.inr (.inr (false,m))))
        ) (
         (((
          (gx v1559.2.1 x1566.2).bind fun x1594 =>
          cond (decide (x1594 = 0)) (
           (fits (v1559.2.2.length + ([x1566.2]).length) 8).bind fun _ =>
           some (v1559.2.2 ++ [x1566.2])
          ) (
           some v1559.2.2
          )
         ) : Option (List Int))).bind fun o1591 =>
         (gx v1559.2.1 x1566.2).bind fun x1603 =>
         some (.inl ((IntKind.wrap .i64 (v1559.1 + 1)),(List.set v1559.2.1 x1566.2.toNat (IntKind.wrap .i64 (x1603 + 1))),o1591))
        )
       ) (
        some (.inr (.inl (m,v1559.2.1,v1559.2.2)))
       )
      )) (fun v => ∃ B Z,ks = B ++ Z ∧ v.1 = (B.length : Int) ∧ CQ most v.2.1 (D ++ v.2.2) (A ++ B.map (·.2))) (fun v => ((ks.length : Int) - v.1).toNat) (fun o => ∃ n' Q',o = .inl (m,n',Q') ∧ CQ most n' (D ++ Q') (A ++ ks.map (·.2))) (by
  rintro ⟨i,n,Q⟩ ⟨B,Z,e1,e2,hc⟩
  simp only at e2 hc
  subst e2
  have hlen : ks.length = B.length + Z.length := by rw [e1]; simp
  match Z with
  | [] =>
   right
   have t : ¬ ((B.length : Int) < (ks.length : Int)) := by simp at hlen; omega
   simp only [t,zB,zD]
   exact ⟨_,rfl,n,Q,rfl,by rw [e1,zJ]; exact hc⟩
  | z :: Z' =>
   left
   simp only [zG] at hlen
   have t : ((B.length : Int) < (ks.length : Int)) := by omega
   have g0 : gx ks (B.length : Int) = some z := by rw [e1]; exact qB2 rfl
   have h2 := hk z (by rw [e1]; simp)
   simp only [t,zC,zE,g0,zA]
   rw [w64 (n := (B.length : Int) + 1) (by omega) (by omega)]
   have c2 : ¬ z.2 < 2 := by omega
   have hl := hc.len
   have c3 : ¬ z.2 ≥ (n.length : Int) := by omega
   obtain ⟨a1,a2,a3⟩ := cq_hit (D := D) (Q := Q) hc h2.1 h2.2 (by simp; omega)
   rw [decide_eq_false c2,zD,zA,decide_eq_false c3,zD,a1,zA,a2,zA,zA]
   refine ⟨_,rfl,⟨B ++ [z],Z',by simp [e1],by simp,?_⟩,by simp only; omega⟩
   simpa using a3) (v := (0,n,Q)) ⟨[],ks,rfl,rfl,by simpa using hc⟩
 subst e
 exact ⟨n',Q',ho,h⟩
theorem count2_eq {K : Nat} {m : Mem} {R : List Int} {most : Int} {n T : List Int} (hst : StM K m R) (hb : m.1.1 = most + 2) (hm : 0 ≤ most ∧ most ≤ 1000000) (hR : R.length ≤ 1000000) (hu : used m ≤ 2000000) (hc : CQ most n T R) :
  ∃ n' D,(qN (V := (Mem × (List Int) × (List Int))) (O := ((Mem × (List Int)) ⊕ (Bool × Mem))) (fun v1445 =>
    cond (decide ((v1445.2.2.length : Int) > 0)) (
     (gx v1445.2.2 0).bind fun x1452 =>
     (qx v1445.1 x1452).bind fun x1455 =>
     (ck (decide (0 < v1445.2.2.length))).bind fun _ =>
     cond (decide (x1455.2.1 ≠ 0)) (
      some (.inr (.inr (false,x1455.2.2)))
     ) (
      qN (V := (Int × (List Int) × (List Int))) (O := ((Mem × (List Int) × (List Int)) ⊕ ((Mem × (List Int)) ⊕ (Bool × Mem)))) (fun v1559 =>
       cond (decide (v1559.1 < (x1455.1.2.2.length : Int))) (
        (gx x1455.1.2.2 v1559.1).bind fun x1566 =>
        (((
         cond (decide (x1566.2 < 2)) (
          some true
         ) (
          some (decide (x1566.2 ≥ (v1559.2.1.length : Int)))
         )
        ) : Option Bool)).bind fun o1572 =>
        cond o1572 (
         some (.inr (.inr (.inr (false,x1455.2.2))))
        ) (
         (((
          (gx v1559.2.1 x1566.2).bind fun x1594 =>
          cond (decide (x1594 = 0)) (
           (fits (v1559.2.2.length + ([x1566.2]).length) 8).bind fun _ =>
           some (v1559.2.2 ++ [x1566.2])
          ) (
           some v1559.2.2
          )
         ) : Option (List Int))).bind fun o1591 =>
         (gx v1559.2.1 x1566.2).bind fun x1603 =>
         some (.inl ((IntKind.wrap .i64 (v1559.1 + 1)),(List.set v1559.2.1 x1566.2.toNat (IntKind.wrap .i64 (x1603 + 1))),o1591))
        )
       ) (
        some (.inr (.inl (x1455.2.2,v1559.2.1,v1559.2.2)))
       )
      ) (0,v1445.2.1,(List.drop 1 v1445.2.2))
     )
    ) (
     some (.inr (.inl (v1445.1,v1445.2.1)))
    )
   ) (m,n,T)) = some (.inl (m,n')) ∧ CQ most n' D (R ++ D.flatMap fun b => q12 (ndOf m b)) ∧ ∀ b ∈ D,cnt m b ≠ 0 := by
 have hlive : ∀ {n' D Q : List Int},CQ most n' (D ++ Q) (R ++ D.flatMap fun b => q12 (ndOf m b)) → (∀ b ∈ D,cnt m b ≠ 0) → ∀ x ∈ D ++ Q,cnt m x ≠ 0 := by
  intro n' D Q h hD x hx
  rcases zL.1 ((h.mem x).1 hx) with hx | hx
  ·exact rc_live hst.rc hx
  ·obtain ⟨b,hb,hk⟩ := List.mem_flatMap.1 hx
   exact rc_kid hst.rc (hD b hb) hk
 have hkl : ∀ b,cnt m b ≠ 0 → (q12 (ndOf m b)).length ≤ 18 := by
  intro b hb
  obtain ⟨L,q,_,ht,_⟩ := hst.live b hb
  have := (qe6 ht).2.2
  simpa [q12] using this
 have hdl : ∀ {D : List Int},D.Nodup → (∀ b ∈ D,cnt m b ≠ 0) → D.length ≤ used m := by
  intro D hn hD
  have := q06 hn fun x hx => (qm2 (hD x hx)).1
  rwa [List.length_map] at this
 have hfl : ∀ {D : List Int},(∀ b ∈ D,cnt m b ≠ 0) → (D.flatMap fun b => q12 (ndOf m b)).length ≤ 18 * D.length := by
  intro D
  induction D with
  | nil => intro _; simp
  | cons d D ih =>
   intro h
   have h1 := hkl d (h d (by simp))
   have h2 := ih fun b hb => h b (by simp [hb])
   rw [List.flatMap_cons,zF,zG]
   omega
 obtain ⟨o,ho,n',D,e,h1,h2⟩ := whileO_gh (V := (Mem × (List Int) × (List Int))) (O := ((Mem × (List Int)) ⊕ (Bool × Mem))) (X := List Int) (body := (fun v1445 =>
    cond (decide ((v1445.2.2.length : Int) > 0)) (
     (gx v1445.2.2 0).bind fun x1452 =>
     (qx v1445.1 x1452).bind fun x1455 =>
     (ck (decide (0 < v1445.2.2.length))).bind fun _ =>
     cond (decide (x1455.2.1 ≠ 0)) (
      some (.inr (.inr (false,x1455.2.2)))
     ) (
      qN (V := (Int × (List Int) × (List Int))) (O := ((Mem × (List Int) × (List Int)) ⊕ ((Mem × (List Int)) ⊕ (Bool × Mem)))) (fun v1559 =>
       cond (decide (v1559.1 < (x1455.1.2.2.length : Int))) (
        (gx x1455.1.2.2 v1559.1).bind fun x1566 =>
        (((
         cond (decide (x1566.2 < 2)) (
          some true
         ) (
          some (decide (x1566.2 ≥ (v1559.2.1.length : Int)))
         )
        ) : Option Bool)).bind fun o1572 =>
        cond o1572 (
         some (.inr (.inr (.inr (false,x1455.2.2))))
        ) (
         (((
          (gx v1559.2.1 x1566.2).bind fun x1594 =>
          cond (decide (x1594 = 0)) (
           (fits (v1559.2.2.length + ([x1566.2]).length) 8).bind fun _ =>
           some (v1559.2.2 ++ [x1566.2])
          ) (
           some v1559.2.2
          )
         ) : Option (List Int))).bind fun o1591 =>
         (gx v1559.2.1 x1566.2).bind fun x1603 =>
         some (.inl ((IntKind.wrap .i64 (v1559.1 + 1)),(List.set v1559.2.1 x1566.2.toNat (IntKind.wrap .i64 (x1603 + 1))),o1591))
        )
       ) (
        some (.inr (.inl (x1455.2.2,v1559.2.1,v1559.2.2)))
       )
      ) (0,v1445.2.1,(List.drop 1 v1445.2.2))
     )
    ) (
     some (.inr (.inl (v1445.1,v1445.2.1)))
    )
   )) (fun v D => v.1 = m ∧ CQ most v.2.1 (D ++ v.2.2) (R ++ D.flatMap fun b => q12 (ndOf m b)) ∧ ∀ b ∈ D,cnt m b ≠ 0) (fun D => used m + 1 - D.length) (fun o => ∃ n' D,o = .inl (m,n') ∧ CQ most n' D (R ++ D.flatMap fun b => q12 (ndOf m b)) ∧ ∀ b ∈ D,cnt m b ≠ 0) (by
  rintro ⟨m',n,Q⟩ D ⟨e,hc,hD⟩
  simp only at e hc
  subst e
  match Q with
  | [] =>
   right
   refine ⟨_,rfl,n,D,rfl,by simpa using hc,hD⟩
  | q :: Q' =>
   left
   have hq := hlive hc hD q (by simp)
   obtain ⟨L,q0,_,ht,_⟩ := hst.live q hq
   have hDq : ∀ b ∈ D ++ [q],cnt m' b ≠ 0 := by
    intro b hb
    rcases zL.1 hb with hb | hb
    ·exact hD b hb
    ·have : b = q := by simpa using hb
     subst this; exact hq
   have hnd : (D ++ [q]).Nodup := by
    have := hc.nodup
    rw [show D ++ q :: Q' = (D ++ [q]) ++ Q' by simp] at this
    exact (List.nodup_append.1 this).1
   have hlen := hdl hnd hDq
   simp only [zF,zG,zH] at hlen
   have hf := hfl hD
   obtain ⟨n',Q'',w1,w2⟩ := count3_eq (m := m') (D := D ++ [q]) (Q := Q') (n := n) (A := R ++ D.flatMap fun b => q12 (ndOf m' b)) (ks := (ndOf m' q).2.2) (most := most) (by simpa using hc) (by simp only [zF]; omega) (by have := (qe6 ht).2.2; omega) (fun k hk => by
    have hkl := rc_kid hst.rc hq (n := k.2) (List.mem_map.2 ⟨k,hk,rfl⟩)
    have := qV3 hst.wf hkl
    omega)
   refine ⟨(m',n',Q''),D ++ [q],?_,⟨rfl,?_,hDq⟩,by simp only [zF,zG,zH]; omega⟩
   ·have t : (((q :: Q').length : Nat) : Int) > 0 := by simp only [zG]; omega
    have g0 : gx (q :: Q') 0 = some q := rfl
    have t2 : 0 < (q :: Q').length := by simp
    simp only [t,zC,zE,g0,zA,tr_get ht,ck_of t2,ne_eq,zP,zB,zD,List.drop_one,List.tail_cons]
    exact w1
   ·have e3 : (R ++ List.flatMap (fun b => q12 (ndOf m' b)) D) ++ List.map (fun x => x.snd) (ndOf m' q).2.2 = R ++ List.flatMap (fun b => q12 (ndOf m' b)) (D ++ [q]) := by simp [q12]
    rw [← e3]; exact w2) (v := (m,n,T)) (x := []) ⟨rfl,by simpa using hc,by simp⟩
 subst e
 exact ⟨n',D,ho,h1,h2⟩
def alive (m : Mem) (j : Nat) : List Int := ((List.range j).map fun (t : Nat) => (t : Int) + 2).filter fun k => decide (cnt m k ≠ 0)
theorem alive_succ (m : Mem) (j : Nat) : alive m (j + 1) = alive m j ++ (if cnt m ((j : Int) + 2) = 0 then [] else [(j : Int) + 2]) := by
 unfold alive
 rw [List.range_succ,List.map_append,List.filter_append]
 congr 1
 by_cases h : cnt m ((j : Int) + 2) = 0 <;> simp [h]
theorem alive_all {K : Int} {m : Mem} {j : Nat} (hw : WfM K m) (hj : m.1.1 = (j : Int) + 2) : (alive m j).length = used m := by
 have := count_same (l := alive m j) (r := m.1.2.1.map (·.1)) (by
  unfold alive
  show List.Pairwise _ _
  refine List.Pairwise.filter _ ?_
  rw [List.pairwise_map]
  exact List.Pairwise.imp (fun hne => by omega) (List.nodup_range (n := j))) hw.nodup (fun x => by
  unfold alive
  constructor
  ·intro h
   have := (List.mem_filter.1 h).2
   exact (qm2 (of_decide_eq_true this)).1
  ·intro h
   obtain ⟨c,hc⟩ := Option.isSome_iff_exists.1 (qq1.2 h)
   have hp := hw.pos x c hc
   have hcn : cnt m x = c := by unfold cnt; rw [hc]; rfl
   refine List.mem_filter.2 ⟨List.mem_map.2 ⟨(x - 2).toNat,List.mem_range.2 (by omega),by omega⟩,?_⟩
   rw [hcn]
   exact decide_eq_true (by omega))
 rwa [List.length_map] at this
theorem count4_eq {K : Int} {m : Mem} {N : Nat} {n : List Int} (hw : WfM K m) (hN : m.1.1 = (N : Int) + 2) (hn : n.length = N + 2) (hN2 : N ≤ 1000000) (hg : ∀ k : Nat,k < N → n[k + 2]? = some (cnt m ((k : Int) + 2))) :
  qN (V := (Int × Int × Mem)) (O := ((Int × Mem) ⊕ (Bool × Mem))) (fun v1797 =>
     cond (decide (v1797.2.1 < (n.length : Int))) (
      (((
       (qr0 v1797.2.2 v1797.2.1).bind fun x1819 =>
       (gx n v1797.2.1).bind fun x1822 =>
       cond (decide (x1819.1 ≠ x1822)) (
        some (.inr (false,x1819.2))
       ) (
        cond (decide (x1822 > 0)) (
         some (.inl ((IntKind.wrap .i64 (v1797.1 + 1)),x1819.2))
        ) (
         some (.inl (v1797.1,x1819.2))
        )
       )
      ) : Option ((Int × Mem) ⊕ (Bool × Mem)))).bind fun o1816 =>
      Sum.elim (fun (v1833 : (Int × Mem)) =>
       some (.inl (v1833.1,(IntKind.wrap .i64 (v1797.2.1 + 1)),v1833.2))
      ) (fun w1836 =>
       some (.inr (.inr w1836))
      ) o1816
     ) (
      some (.inr (.inl (v1797.1,v1797.2.2)))
     )
    ) (0,2,m) = some (.inl ((used m : Int),m)) := by
 refine whileO_is (fun v => ∃ j : Nat,j ≤ N ∧ v = (((alive m j).length : Int),(j : Int) + 2,m)) (fun v => ((n.length : Int) - v.2.1).toNat) ⟨0,by omega,rfl⟩ ?_
 rintro v ⟨j,hj,rfl⟩
 have hal : (alive m j).length ≤ j := by
  unfold alive
  refine Nat.le_trans (List.length_filter_le _ _) (by simp)
 by_cases h : j = N
 ·right
  subst h
  have t : ¬ ((j : Int) + 2 < (n.length : Int)) := by omega
  simp only [t,zB,zD]
  rw [alive_all hw hN]
 ·left
  have t : ((j : Int) + 2 < (n.length : Int)) := by omega
  have g0 : gx n ((j : Int) + 2) = some (cnt m ((j : Int) + 2)) := by
   have h0 : (0 : Int) ≤ (j : Int) + 2 := by omega
   unfold gx
   rw [decide_eq_true h0,zE,show ((j : Int) + 2).toNat = j + 2 by omega]
   exact hg j (by omega)
  have hp : 0 ≤ cnt m ((j : Int) + 2) := by
   by_cases hc : cnt m ((j : Int) + 2) = 0
   ·omega
   ·have := (hw.pos _ _ (qm2 hc).2).1; omega
  refine ⟨(((alive m (j + 1)).length : Int),((j + 1 : Nat) : Int) + 2,m),?_,⟨j + 1,by omega,rfl⟩,by simp only; omega⟩
  simp only [t,zC,zE,count_root,g0,zA,ne_eq,zP,zB,zD]
  rw [w64 (n := (j : Int) + 2 + 1) (by omega) (by omega),w64 (n := ((alive m j).length : Int) + 1) (by omega) (by omega),alive_succ]
  by_cases hc : cnt m ((j : Int) + 2) = 0
  ·have t2 : ¬ cnt m ((j : Int) + 2) > 0 := by omega
   rw [decide_eq_false t2,zD,if_pos hc,zJ]
   simp only [zA,zN]
   congr 4
  ·have t2 : cnt m ((j : Int) + 2) > 0 := by omega
   rw [decide_eq_true t2,zE,if_neg hc]
   simp only [zA,zN,zF,zG,zH]
   congr 4
theorem counts_eq {K : Nat} {m : Mem} {roots : List Int} {most : Int} (hst : StM K m (roots.flatMap rl)) (hb : m.1.1 = most + 2) (hm : 0 ≤ most ∧ most ≤ 1000000) (hR : roots.length ≤ 1000000) (hu : used m ≤ 2000000) : qM1 m most roots = some (true,m) := by
 have hr : ∀ r ∈ roots,r = 0 ∨ 2 ≤ r ∧ r < most + 2 := fun r hr => by
  by_cases h0 : r = 0
  ·exact .inl h0
  ·have := qV3 hst.wf (rc_live hst.rc (n := r) (List.mem_flatMap.2 ⟨r,hr,by simp [rl,h0]⟩))
   omega
 have hRl : (roots.flatMap rl).length ≤ roots.length := by
  clear hst hr hR
  induction roots with
  | nil => simp
  | cons d D ih =>
   rw [List.flatMap_cons,zF,zG]
   have : (rl d).length ≤ 1 := by unfold rl; split <;> simp
   omega
 obtain ⟨n,T,w1,c1⟩ := count1_eq (a0 := m) hm hr hR
 obtain ⟨n',D,w2,c2,hD⟩ := count2_eq hst hb hm (by omega) hu c1
 have hall : ∀ x,x ∈ D ↔ x ∈ m.1.2.1.map (·.1) := fun x => by
  refine ⟨fun h => (qm2 (hD x h)).1,fun h => ?_⟩
  have hl : cnt m x ≠ 0 := fun h0 => cnt_not hst.wf h0 h
  obtain ⟨r,hr,hx⟩ := live_from hst hl
  obtain ⟨L,q,_,ht,_⟩ := hst.live r (rc_live hst.rc hr)
  rw [blksM_tr ht] at hx
  have key : ∀ {L : Nat} {r x : Int} {q : List Pr},Tr m L r q → r ∈ D → x ∈ blks L m r → x ∈ D := by
   intro L
   induction L with
   | zero => intro r x q _ hr hx; rw [blks] at hx; have : x = r := by simpa using hx
             subst this; exact hr
   | succ L ih =>
    intro r x q ht hr hx
    rw [blks] at hx
    rcases zM.1 hx with rfl | hx
    ·exact hr
    ·obtain ⟨k,hk,hx⟩ := List.mem_flatMap.1 hx
     obtain ⟨L',q',e,ht'⟩ := tr_kids ht hk
     have e' : L = L' := by omega
     subst e'
     exact ih ht' ((c2.mem k).2 (zL.2 (.inr (List.mem_flatMap.2 ⟨r,hr,hk⟩)))) hx
  exact key ht ((c2.mem r).2 (zL.2 (.inl hr))) hx
 have hcnt : ∀ k : Int,(((roots.flatMap rl ++ D.flatMap fun b => q12 (ndOf m b)).count k : Nat) : Int) = cnt m k := fun k => by
  rw [hst.rc k,List.count_append,← inK_flat,inK_same c2.nodup hst.wf.nodup hall]
 obtain ⟨N,rfl⟩ : ∃ N : Nat,most = (N : Int) := ⟨most.toNat,by omega⟩
 have hl' := c2.len
 have w3 := count4_eq (n := n') hst.wf hb (by omega) (by omega) (fun k hk => by
  rw [c2.get (k + 2) (by omega),hcnt]
  rfl)
 unfold qM1
 have hw : IntKind.wrap .i64 ((N : Int) + 2) = (N : Int) + 2 := w64 (by omega) (by omega)
 have hck : 0 ≤ IntKind.wrap .i64 ((N : Int) + 2) ∧ IntKind.wrap .i64 ((N : Int) + 2) ≤ 17592186044416 := by omega
 rw [ck_of hck,zA,w1,zA]
 simp only [zN]
 rw [w2,zA]
 simp only [zN]
 rw [w3,zA]
 simp only [zN]
 rw [free_eq hst hu,zA]
 have hu2 := alive_all hst.wf hb
 have : used m ≤ N := by
  rw [← hu2]
  unfold alive
  exact Nat.le_trans (List.length_filter_le _ _) (by simp)
 rw [w64 (by omega) (by omega)]
 congr 2
 exact decide_eq_true (by simp only; omega)
end Go.Val
namespace Go.Val
open Go.RowKit Go.Lib
theorem while_sim {V1 O1 V2 O2 : Type} {b1 : V1 → Option (V1 ⊕ O1)} {b2 : V2 → Option (V2 ⊕ O2)} (R : V1 → V2 → Prop) (S : O1 → O2 → Prop) (B : O2 → Prop)
  (h : ∀ v1 v2 x1,R v1 v2 → b1 v1 = some x1 → (∃ o2,b2 v2 = some (.inr o2) ∧ B o2) ∨ (∃ v1' v2',x1 = .inl v1' ∧ b2 v2 = some (.inl v2') ∧ R v1' v2') ∨ (∃ o1 o2,x1 = .inr o1 ∧ b2 v2 = some (.inr o2) ∧ S o1 o2))
  {v1 : V1} {v2 : V2} {o1 : O1} (hv : R v1 v2) (hw : qN b1 v1 = some o1) : ∃ o2,qN b2 v2 = some o2 ∧ (S o1 o2 ∨ B o2) := by
 obtain ⟨n,hn⟩ := qT1 hw
 clear hw
 induction n generalizing v1 v2 with
 | zero => cases hn
 | succ n ih =>
  simp only [iter] at hn
  obtain ⟨x1,h1,h2⟩ := bdS hn
  rcases h v1 v2 x1 hv h1 with ⟨o2,e,hB⟩ | ⟨v1',v2',rfl,e,hR⟩ | ⟨o1',o2,rfl,e,hS⟩
  ·exact ⟨o2,by rw [qI,e]; rfl,.inr hB⟩
  ·obtain ⟨o2,e2,h3⟩ := ih hR h2
   exact ⟨o2,by rw [qI,e]; exact e2,h3⟩
  ·have : o1' = o1 := by simpa using h2
   subst this
   exact ⟨o2,by rw [qI,e]; rfl,.inl hS⟩
theorem qU3 {V1 O1 V2 O2 β : Type} {b1 : V1 → Option (V1 ⊕ O1)} {b2 : V2 → Option (V2 ⊕ O2)} {f : O2 → Option β} {Q : Option β → Prop} (R : V1 → V2 → Prop) (S : O1 → O2 → Prop) (B : O2 → Prop)
  {v1 : V1} {v2 : V2} {o1 : O1} (hw : qN b1 v1 = some o1) (hv : R v1 v2)
  (h : ∀ v1 v2 x1,R v1 v2 → b1 v1 = some x1 → (∃ o2,b2 v2 = some (.inr o2) ∧ B o2) ∨ (∃ v1' v2',x1 = .inl v1' ∧ b2 v2 = some (.inl v2') ∧ R v1' v2') ∨ (∃ o1 o2,x1 = .inr o1 ∧ b2 v2 = some (.inr o2) ∧ S o1 o2))
  (hS : ∀ o2,S o1 o2 ∨ B o2 → Q (f o2)) : Q ((qN b2 v2).bind f) := by
 obtain ⟨o2,e,h2⟩ := while_sim R S B h hv hw
 rw [e]
 exact hS o2 h2
theorem qS5 {m : Mem} {n : Int} {x : Nd × Int × Mem} (h : qx m n = some x) : x.2.2 = m := by
 unfold qx at h
 rw [count_eq] at h
 simp only [zA] at h
 rcases cdS h with ⟨_,h⟩ | ⟨_,h⟩
 ·cases h; rfl
 ·obtain ⟨y,hy,h⟩ := bdS h
  cases h; rfl
def Sm {α : Type} (c n : Int) (z : α) (d : List Int) (m : Mem) (r : α × Int × List Int × Mem) (x : Option (α × Int × List Int × (Int × Int) × Mem)) : Prop :=
 (∃ n',n ≤ n' ∧ n' < c ∧ r.2.2.1 = d ∧ r.2.2.2 = m ∧ x = some (r.1,r.2.1,d,(c,n'),m)) ∨ x = some (z,11,d,(c,c),m)
theorem frailGet {c n b : Int} {m : Mem} {x : Nd × Int × Mem} (hn : 0 ≤ n ∧ n < c ∧ c ≤ 1000) (h : qx m b = some x) :
  (n + 1 < c ∧ qs0 (c,n) b m = some (x.1,x.2.1,(c,n + 1),m)) ∨ qs0 (c,n) b m = some ((0,[],[]),11,(c,c),m) := by
 have hp := qS5 h
 unfold qs0 qY
 simp only [zA]
 rw [w64 (by omega) (by omega)]
 by_cases e : n + 1 = c
 ·right
  rw [decide_eq_true e,zE,e]
 ·left
  rw [decide_eq_false e,zD,h]
  exact ⟨by omega,by simp [hp]⟩
theorem thaw_sim {c n : Int} {d : List Int} {b : Int} {m : Mem} {r : Option Fr × Int × List Int × Mem} (hn : 0 ≤ n ∧ n < c ∧ c ≤ 1000) (h : qX d b m = some r) : Sm c n none d m r (qw0 d b (c,n) m) := by
 unfold qX at h
 obtain ⟨x1,hx1,h2⟩ := bdS h
 have hp := qS5 hx1
 obtain ⟨y,e,m'⟩ := x1
 simp only at hp h2
 subst hp
 unfold qw0
 rcases cdS h2 with ⟨hc,h3⟩ | ⟨hc,h3⟩
 ·have := zQ h3
  subst this
  rcases frailGet hn hx1 with ⟨a,e1⟩ | e1
  ·refine .inl ⟨n + 1,by omega,a,rfl,rfl,?_⟩
   rw [e1]
   simp only [zA,hc,zE]
  ·right
   rw [e1]
   rfl
 ·obtain ⟨o,ho,h4⟩ := bdS h3
  have := zQ h4
  subst this
  rcases frailGet hn hx1 with ⟨a,e1⟩ | e1
  ·refine .inl ⟨n + 1,by omega,a,rfl,rfl,?_⟩
   rw [e1]
   simp only [zA,hc,zD]
   rw [ho]
   rfl
  ·right
   rw [e1]
   rfl
theorem nodes_nil (l : Int) : qM0 l [] = some [] := by
 have h1 : qD2 [] 18 = some [] := by
  unfold qD2
  have e : ck (decide ((18 : Int) ≠ 0)) = some () := by decide
  rw [e,zA,qI]
  rfl
 unfold qM0
 rw [h1,zA,qI]
 rfl
theorem join_sim {c n : Int} {d : List Int} {x y : Pt} {m : Mem} {r : List Pt × Int × List Int × Mem} {self_r : List Int → List Pt → Mem → Option (List Pt × Int × List Int × Mem)} {self_s : List Int → List Pt → (Int × Int) → Mem → Option (List Pt × Int × List Int × (Int × Int) × Mem)}
  (hself : ∀ d row m r n,0 ≤ n ∧ n < c ∧ c ≤ 1000 → self_r d row m = some r → Sm c n [] d m r (self_s d row (c,n) m)) (hn : 0 ≤ n ∧ n < c ∧ c ≤ 1000) (h : ql0 self_r d x y m = some r) : Sm c n [] d m r (q21 self_s d x y (c,n) m) := by
 unfold ql0 at h
 obtain ⟨o,ho,h2⟩ := bdS h
 unfold q21
 refine qU3 (Q := fun x => Sm c n [] d m r x) (V2 := (Int × (List Int) × (Int × Int) × Mem × ((Option Fr) × (Option Fr)))) (O2 := (((List Int) × (Int × Int) × Mem × ((Option Fr) × (Option Fr))) ⊕ (List Pt × Int × (List Int) × (Int × Int) × Mem))) (R := fun v1 v2 => v1.2.1 = d ∧ v1.2.2.1 = m ∧ ∃ n',n ≤ n' ∧ n' < c ∧ v2 = (v1.1,d,(c,n'),m,v1.2.2.2))
  (S := fun o1 o2 => (∃ w,o1 = .inl w ∧ w.1 = d ∧ w.2.1 = m ∧ ∃ n',n ≤ n' ∧ n' < c ∧ o2 = .inl (d,(c,n'),m,w.2.2)) ∨ (∃ w,o1 = .inr w ∧ w.2.2.1 = d ∧ w.2.2.2 = m ∧ ∃ n',n ≤ n' ∧ n' < c ∧ o2 = .inr (w.1,w.2.1,d,(c,n'),m)))
  (B := fun o2 => o2 = .inr ([],11,d,(c,c),m)) ho ⟨rfl,rfl,n,by omega,hn.2.1,rfl⟩ (by
   rintro ⟨i,d1,m1,b⟩ v2 x1 ⟨z1,z2,n',hn1,hn2,rfl⟩ hb
   simp only at z1 z2
   subst z1; subst z2
   rcases cdS hb with ⟨hc,hb⟩ | ⟨hc,hb⟩
   ·obtain ⟨o409,h409,hb2⟩ := bdS hb
    obtain ⟨x412,hx412,h3⟩ := bdS h409
    obtain ⟨o424,h424,h4⟩ := bdS h3
    simp only at hc hx412 h424
    rcases cdS h4 with ⟨hi,h5⟩ | ⟨hi,h5⟩
    ·obtain ⟨x436,hx436,h6⟩ := bdS h5
     rcases thaw_sim (n := n') ⟨by omega,hn2,hn.2.2⟩ hx436 with ⟨n2,q1,q2,t1,t2,q3⟩ | q3
     ·rcases cdS h6 with ⟨hz,h7⟩ | ⟨hz,h7⟩
      ·have := zQ h7
       subst this
       simp only [zO] at hb2
       have := zQ hb2
       subst this
       refine .inr (.inr ⟨_,_,rfl,?_,.inr ⟨_,rfl,t1,t2,n2,by omega,q2,rfl⟩⟩)
       simp only [hc,zE,hx412,zA,h424,hi,q3,hz,zO]
      ·obtain ⟨u,hu,h8⟩ := bdS h7
       rcases cdS h8 with ⟨hj,h9⟩ | ⟨hj,h9⟩
       ·have := zQ h9
        subst this
        simp only [zN] at hb2
        have := zQ hb2
        subst this
        refine .inr (.inl ⟨_,_,rfl,?_,t1,t2,n2,by omega,q2,rfl⟩)
        simp only at hu hj
        simp only [hc,zE,hx412,zA]
        rw [h424]
        simp only [zA,zE,zD,hi,q3,hz,hu,hj,zN]
       ·have := zQ h9
        subst this
        simp only [zN] at hb2
        have := zQ hb2
        subst this
        refine .inr (.inl ⟨_,_,rfl,?_,t1,t2,n2,by omega,q2,rfl⟩)
        simp only at hu hj
        simp only [hc,zE,hx412,zA]
        rw [h424]
        simp only [zA,zE,zD,hi,q3,hz,hu,hj,zN]
     ·refine .inl ⟨_,?_,rfl⟩
      have z11 : decide ((11 : Int) ≠ 0) = true := by decide
      simp only [hc,zE,hx412,zA,h424,hi,q3,z11,zO]
    ·have := zQ h5
     subst this
     simp only [zN] at hb2
     have := zQ hb2
     subst this
     refine .inr (.inl ⟨_,_,rfl,?_,rfl,rfl,n',hn1,hn2,rfl⟩)
     simp only [hc,zE,zD,hx412,zA,h424,hi,zN]
   ·have := zQ hb
    subst this
    simp only at hc
    refine .inr (.inr ⟨_,_,rfl,?_,.inl ⟨_,rfl,rfl,rfl,n',hn1,hn2,rfl⟩⟩)
    simp only [hc,zD]) ?_
 intro o2 hS
 rcases hS with (⟨w,rfl,w1,w2,n',n1,n2,rfl⟩ | ⟨w,rfl,w1,w2,n',n1,n2,rfl⟩) | rfl
 ·simp only [zN] at h2 ⊢
  obtain ⟨x460,hx460,h3⟩ := bdS h2
  rw [hx460,zA]
  rcases cdS h3 with ⟨hc,h4⟩ | ⟨hc,h4⟩
  ·obtain ⟨x466,hx466,h5⟩ := bdS h4
   obtain ⟨x469,hx469,h6⟩ := bdS h5
   obtain ⟨x472,hx472,h7⟩ := bdS h6
   have := zQ h7
   subst this
   refine .inl ⟨n',n1,n2,w1,w2,?_⟩
   rw [hc,zE,hx466,zA,hx469,zA,hx472]
   rfl
  ·obtain ⟨x475,hx475,h5⟩ := bdS h4
   obtain ⟨x478,hx478,h6⟩ := bdS h5
   obtain ⟨x481,hx481,h7⟩ := bdS h6
   obtain ⟨x484,hx484,h8⟩ := bdS h7
   have := zQ h8
   subst this
   rw [w1,w2] at hx481
   rw [hc,zD,hx475,zA,hx478,zA]
   rcases hself _ _ _ _ n' ⟨by omega,n2,hn.2.2⟩ hx481 with ⟨n3,q1,q2,t1,t2,q3⟩ | q3
   ·refine .inl ⟨n3,by omega,q2,t1,t2,?_⟩
    rw [q3,zA,hx484]
    rfl
   ·right
    rw [q3,zA,nodes_nil]
    rfl
 ·simp only [zO] at h2 ⊢
  have := zQ h2
  subst this
  exact .inl ⟨n',n1,n2,w1,w2,rfl⟩
 ·exact .inr rfl
theorem filled_sim {c : Int} : ∀ (f : Nat) {n : Int} {d : List Int} {row : List Pt} {m : Mem} {r : List Pt × Int × List Int × Mem},0 ≤ n ∧ n < c ∧ c ≤ 1000 → qS f d row m = some r → Sm c n [] d m r (qZ f d row (c,n) m) := by
 intro f
 induction f with
 | zero => intro n d row m r hn h; cases h
 | succ f ih =>
  intro n d row m r hn h
  have h' : q70 (qS f) d row m = some r := h
  show Sm c n [] d m r (qv0 (qZ f) d row (c,n) m)
  unfold q70 at h'
  obtain ⟨o,ho,h2⟩ := bdS h'
  unfold qv0
  refine qU3 (Q := fun x => Sm c n [] d m r x) (V2 := (List Pt × Int × (List Int) × (Int × Int) × Mem)) (O2 := ((List Pt × (List Int) × (Int × Int) × Mem) ⊕ (List Pt × Int × (List Int) × (Int × Int) × Mem))) (R := fun v1 v2 => v1.2.2.1 = d ∧ v1.2.2.2 = m ∧ ∃ n',n ≤ n' ∧ n' < c ∧ v2 = (v1.1,v1.2.1,d,(c,n'),m))
   (S := fun o1 o2 => (∃ w,o1 = .inl w ∧ w.2.1 = d ∧ w.2.2 = m ∧ ∃ n',n ≤ n' ∧ n' < c ∧ o2 = .inl (w.1,d,(c,n'),m)) ∨ (∃ w,o1 = .inr w ∧ w.2.2.1 = d ∧ w.2.2.2 = m ∧ ∃ n',n ≤ n' ∧ n' < c ∧ o2 = .inr (w.1,w.2.1,d,(c,n'),m)))
   (B := fun o2 => o2 = .inr ([],11,d,(c,c),m)) ho ⟨rfl,rfl,n,by omega,hn.2.1,rfl⟩ (by
    rintro ⟨rw_,i,d1,m1⟩ v2 x1 ⟨z1,z2,n',hn1,hn2,rfl⟩ hb
    simp only at z1 z2
    subst z1; subst z2
    obtain ⟨o324,h324,hb⟩ := bdS hb
    simp only at h324
    rcases cdS hb with ⟨hc,hb⟩ | ⟨hc,hb⟩
    ·obtain ⟨o345,h345,hb⟩ := bdS hb
     simp only at h345
     rcases cdS hb with ⟨hi,h5⟩ | ⟨hi,h5⟩
     ·have := zQ h5
      subst this
      refine .inr (.inl ⟨_,_,rfl,?_,rfl,rfl,n',hn1,hn2,rfl⟩)
      simp only [h324,zA,hc,zE,h345,hi]
     ·obtain ⟨x360,hx360,h6⟩ := bdS h5
      obtain ⟨x363,hx363,h7⟩ := bdS h6
      obtain ⟨x366,hx366,h8⟩ := bdS h7
      simp only at hx360 hx363
      rcases join_sim (c := c) (n := n') (self_s := qZ f) (fun d row m r n hn h => ih hn h) ⟨by omega,hn2,hn.2.2⟩ hx366 with ⟨n3,q1,q2,t1,t2,q3⟩ | q3
      ·rcases cdS h8 with ⟨hz,h9⟩ | ⟨hz,h9⟩
       ·have := zQ h9
        subst this
        refine .inr (.inr ⟨_,_,rfl,?_,.inr ⟨_,rfl,t1,t2,n3,by omega,q2,rfl⟩⟩)
        simp only [h324,zA,hc,zE,zD,h345,hi,hx360,hx363,q3,hz]
       ·obtain ⟨x373,hx373,h10⟩ := bdS h9
        obtain ⟨x376,hx376,h11⟩ := bdS h10
        have := zQ h11
        subst this
        simp only at hx373 hx376
        refine .inr (.inl ⟨_,_,rfl,?_,t1,t2,n3,by omega,q2,rfl⟩)
        simp only [h324,zA,hc,zE,zD,h345,hi,hx360,hx363,q3,hz,hx373,hx376]
      ·refine .inl ⟨_,?_,rfl⟩
       have z11 : decide ((11 : Int) ≠ 0) = true := by decide
       simp only [h324,zA,hc,zE,zD,h345,hi,hx360,hx363,q3,z11]
    ·have := zQ hb
     subst this
     refine .inr (.inr ⟨_,_,rfl,?_,.inl ⟨_,rfl,rfl,rfl,n',hn1,hn2,rfl⟩⟩)
     simp only [h324,zA,hc,zD]) ?_
  intro o2 hS
  rcases hS with (⟨w,rfl,w1,w2,n',n1,n2,rfl⟩ | ⟨w,rfl,w1,w2,n',n1,n2,rfl⟩) | rfl
  ·simp only [zN] at h2 ⊢
   have := zQ h2
   subst this
   exact .inl ⟨n',n1,n2,w1,w2,rfl⟩
  ·simp only [zO] at h2 ⊢
   have := zQ h2
   subst this
   exact .inl ⟨n',n1,n2,w1,w2,rfl⟩
  ·exact .inr rfl
theorem edit_sim {c : Int} : ∀ (f : Nat) {n : Int} {d : List Int} {b : Int} {cs : List Cg} {m : Mem} {r : List Pt × Int × List Int × Mem},0 ≤ n ∧ n < c ∧ c ≤ 1000 → q40 f d b cs m = some r → Sm c n [] d m r (qF0 f d b cs (c,n) m) := by
 intro f
 induction f with
 | zero => intro n d b cs m r hn h; cases h
 | succ f ih =>
  intro n d b cs m r hn h
  have h' : qg0 (q40 f) d b cs m = some r := h
  show Sm c n [] d m r (qE0 (qF0 f) d b cs (c,n) m)
  unfold qg0 at h'
  obtain ⟨x1,hx1,h2⟩ := bdS h'
  unfold qE0
  have z11 : decide ((11 : Int) ≠ 0) = true := by decide
  rcases thaw_sim hn hx1 with ⟨n1,p1,p2,p3,p4,p5⟩ | p5
  ·rw [p5,zA]
   simp only
   rcases cdS h2 with ⟨hc,h3⟩ | ⟨hc,h3⟩
   ·have := zQ h3
    subst this
    refine .inl ⟨n1,p1,p2,p3,p4,?_⟩
    rw [hc,zE]
   ·obtain ⟨x7,hx7,h4⟩ := bdS h3
    rw [hc,zD,hx7,zA]
    rcases cdS h4 with ⟨hl,h5⟩ | ⟨hl,h5⟩
    ·obtain ⟨x13,hx13,h6⟩ := bdS h5
     obtain ⟨x16,hx16,h7⟩ := bdS h6
     have := zQ h7
     subst this
     refine .inl ⟨n1,p1,p2,p3,p4,?_⟩
     rw [hl,zE,hx13,zA,hx16]
     rfl
    ·obtain ⟨o,ho,h6⟩ := bdS h5
     rw [hl,zD]
     refine qU3 (Q := fun x => Sm c n [] d m r x) (V2 := (List Cg × Int × (List Int) × (Int × Int) × Mem × List Pt)) (O2 := (((List Int) × (Int × Int) × Mem × List Pt) ⊕ (List Pt × Int × (List Int) × (Int × Int) × Mem))) (R := fun v1 v2 => v1.2.2.1 = d ∧ v1.2.2.2.1 = m ∧ ∃ n',n ≤ n' ∧ n' < c ∧ v2 = (v1.1,v1.2.1,d,(c,n'),m,v1.2.2.2.2))
      (S := fun o1 o2 => (∃ w,o1 = .inl w ∧ w.1 = d ∧ w.2.1 = m ∧ ∃ n',n ≤ n' ∧ n' < c ∧ o2 = .inl (d,(c,n'),m,w.2.2)) ∨ (∃ w,o1 = .inr w ∧ w.2.2.1 = d ∧ w.2.2.2 = m ∧ ∃ n',n ≤ n' ∧ n' < c ∧ o2 = .inr (w.1,w.2.1,d,(c,n'),m)))
      (B := fun o2 => o2 = .inr ([],11,d,(c,c),m)) ho ⟨p3,p4,n1,p1,p2,rfl⟩ (by
       rintro ⟨cs1,i,d1,m1,out⟩ v2 y1 ⟨z1,z2,n',hn1,hn2,rfl⟩ hb
       simp only at z1 z2
       subst z1; subst z2
       rcases cdS hb with ⟨hi,hb⟩ | ⟨hi,hb⟩
       ·obtain ⟨o609,h609,hb2⟩ := bdS hb
        obtain ⟨x612,hx612,h7⟩ := bdS h609
        obtain ⟨o624,h624,h8⟩ := bdS h7
        obtain ⟨u1,hu1,h9⟩ := bdS h8
        obtain ⟨u2,hu2,h10⟩ := bdS h9
        simp only at hi hx612 h624 hu1 hu2
        rcases cdS h10 with ⟨hj,h11⟩ | ⟨hj,h11⟩
        ·obtain ⟨u3,hu3,h12⟩ := bdS h11
         have := zQ h12
         subst this
         simp only [zN] at hb2
         have := zQ hb2
         subst this
         simp only at hj hu3
         refine .inr (.inl ⟨_,_,rfl,?_,rfl,rfl,n',hn1,hn2,rfl⟩)
         simp only [hi,zE,hx612,zA,h624,hu1,hu2,hj,hu3,zN]
        ·obtain ⟨x648,hx648,h12⟩ := bdS h11
         simp only at hj hx648
         rcases ih (n := n') ⟨by omega,hn2,hn.2.2⟩ hx648 with ⟨n3,q1,q2,t1,t2,q3⟩ | q3
         ·rcases cdS h12 with ⟨hz,h13⟩ | ⟨hz,h13⟩
          ·have := zQ h13
           subst this
           simp only [zO] at hb2
           have := zQ hb2
           subst this
           refine .inr (.inr ⟨_,_,rfl,?_,.inr ⟨_,rfl,t1,t2,n3,by omega,q2,rfl⟩⟩)
           simp only [hi,zE,zD,hx612,zA,h624,hu1,hu2,hj,q3,hz,zO]
          ·obtain ⟨u3,hu3,h14⟩ := bdS h13
           have := zQ h14
           subst this
           simp only [zN] at hb2
           have := zQ hb2
           subst this
           simp only at hu3
           refine .inr (.inl ⟨_,_,rfl,?_,t1,t2,n3,by omega,q2,rfl⟩)
           simp only [hi,zE,zD,hx612,zA,h624,hu1,hu2,hj,q3,hz,hu3,zN]
         ·refine .inl ⟨_,?_,rfl⟩
          simp only [hi,zE,zD,hx612,zA,h624,hu1,hu2,hj,q3,z11,zO]
       ·have := zQ hb
        subst this
        simp only at hi
        refine .inr (.inr ⟨_,_,rfl,?_,.inl ⟨_,rfl,rfl,rfl,n',hn1,hn2,rfl⟩⟩)
        simp only [hi,zD]) ?_
     intro o2 hS
     rcases hS with (⟨w,rfl,w1,w2,n',n1',n2,rfl⟩ | ⟨w,rfl,w1,w2,n',n1',n2,rfl⟩) | rfl
     ·simp only [zN] at h6 ⊢
      obtain ⟨x669,hx669,h7⟩ := bdS h6
      obtain ⟨x672,hx672,h8⟩ := bdS h7
      have := zQ h8
      subst this
      rw [w1,w2] at hx669
      rcases filled_sim (c := c) 40 (n := n') ⟨by omega,n2,hn.2.2⟩ hx669 with ⟨n3,q1,q2,t1,t2,q3⟩ | q3
      ·refine .inl ⟨n3,by omega,q2,t1,t2,?_⟩
       show (qZ 40 d w.2.2 (c,n') m).bind _ = _
       rw [q3,zA,hx672]
       rfl
      ·right
       show (qZ 40 d w.2.2 (c,n') m).bind _ = _
       rw [q3,zA,nodes_nil]
       rfl
     ·simp only [zO] at h6 ⊢
      have := zQ h6
      subst this
      exact .inl ⟨n',n1',n2,w1,w2,rfl⟩
     ·exact .inr rfl
  ·right
   rw [p5,zA]
   simp only [z11,zE]
end Go.Val
namespace Go.Val
open Go.RowKit Go.Lib
theorem while_simP {V1 O1 V2 O2 β : Type} {b1 : V1 → Option (V1 ⊕ O1)} {b2 : V2 → Option (V2 ⊕ O2)} {f : O2 → Option β} {Q : Option β → Prop} (R : V1 → V2 → Prop) (S : O1 → O2 → Prop) (B : O2 → Prop)
  {v1 : V1} {v2 : V2} {o1 : O1} (hw : qN b1 v1 = some o1) (hv : R v1 v2)
  (h : ∀ v1 v2 x1,R v1 v2 → b1 v1 = some x1 → (∀ o',x1 = .inr o' → o' = o1) → (∃ o2,b2 v2 = some (.inr o2) ∧ B o2) ∨ (∃ v1' v2',x1 = .inl v1' ∧ b2 v2 = some (.inl v2') ∧ R v1' v2') ∨ (∃ o1 o2,x1 = .inr o1 ∧ b2 v2 = some (.inr o2) ∧ S o1 o2))
  (hS : ∀ o2,S o1 o2 ∨ B o2 → Q (f o2)) : Q ((qN b2 v2).bind f) := by
 have key : ∃ o2,qN b2 v2 = some o2 ∧ (S o1 o2 ∨ B o2) := by
  obtain ⟨n,hn⟩ := qT1 hw
  clear hw
  induction n generalizing v1 v2 with
  | zero => cases hn
  | succ n ih =>
   simp only [iter] at hn
   obtain ⟨x1,h1,h2⟩ := bdS hn
   rcases h v1 v2 x1 hv h1 (fun o' e => by subst e; simpa using h2) with ⟨o2,e,hB⟩ | ⟨v1',v2',rfl,e,hR⟩ | ⟨o1',o2,rfl,e,hSS⟩
   ·exact ⟨o2,by rw [qI,e]; rfl,.inr hB⟩
   ·obtain ⟨o2,e2,h3⟩ := ih hR h2
    exact ⟨o2,by rw [qI,e]; exact e2,h3⟩
   ·have : o1' = o1 := by simpa using h2
    subst this
    exact ⟨o2,by rw [qI,e]; rfl,.inl hSS⟩
 obtain ⟨o2,e,h2⟩ := key
 rw [e]
 exact hS o2 h2
theorem whileO_post {V O : Type} {body : V → Option (V ⊕ O)} (J : V → Prop) (Post : O → Prop) (h : ∀ v x,J v → body v = some x → (∀ v',x = .inl v' → J v') ∧ (∀ o,x = .inr o → Post o)) {v : V} {o : O} (hv : J v) (hw : qN body v = some o) : Post o := by
 obtain ⟨n,hn⟩ := qT1 hw
 clear hw
 induction n generalizing v with
 | zero => cases hn
 | succ n ih =>
  simp only [iter] at hn
  obtain ⟨x1,h1,h2⟩ := bdS hn
  obtain ⟨p1,p2⟩ := h v x1 hv h1
  cases x1 with
  | inl v' => exact ih (p1 v' rfl) h2
  | inr o' =>
   have : o' = o := by simpa using h2
   subst this
   exact p2 _ rfl
theorem wf_inc {K : Int} {m : Mem} {n : Int} (h : WfM K m) (hn : cnt m n ≠ 0) : WfM (K + 1) (incM m n) := by
 obtain ⟨h1,h2⟩ := qm2 hn
 obtain ⟨p1,p2,p3,p4⟩ := h.pos n _ h2
 refine ⟨h.blk,h.low,fun k k1 k2 => ?_,qP2 h.nodup _ _,fun k c hk => ?_⟩
 ·rw [ql5]
  split
  ·omega
  ·exact h.full k k1 k2
 ·have hk' : mget (mset m.1.2.1 n (cnt m n + 1)) k = some c := hk
  rw [qX1] at hk'
  by_cases e : k = n
  ·rw [if_pos e] at hk'
   have := zQ hk'
   subst e
   exact ⟨by omega,by omega,p3,p4⟩
  ·rw [if_neg e] at hk'
   obtain ⟨a,b,c1,d⟩ := h.pos k c hk'
   exact ⟨a,by omega,c1,d⟩
theorem inc_inv {K : Int} {m m' : Mem} {b : Int} (hw : WfM K m) (hK : K ≤ 1000000000000000) (h : q30 m b = some (0,m')) : m' = incM m b ∧ cnt m b ≠ 0 := by
 have hc : (mget m.1.2.1 b).getD 0 = cnt m b := rfl
 by_cases h0 : cnt m b = 0
 ·exfalso
  unfold q30 qN1 qQ0 at h
  by_cases t1 : b < 2
  ·simp [t1] at h
  ·by_cases t2 : b ≥ m.1.1
   ·simp [t1,t2] at h
   ·simp only [t1,t2,hc,h0,zC,zB,zE,zD,zA] at h
    simp at h
 ·obtain ⟨p1,p2,p3,p4⟩ := hw.pos b _ (qm2 h0).2
  have t1 : ¬ b < 2 := by omega
  have t2 : ¬ b ≥ m.1.1 := by omega
  refine ⟨?_,h0⟩
  unfold q30 qN1 qQ0 qE1 at h
  simp only [t1,t2,zB,zD,zA,zE,hc,h0] at h
  rw [w64 (by omega) (by omega)] at h
  simp only [ne_eq,zP,zB,zD] at h
  have := zQ h
  have := congrArg Prod.snd this
  exact this.symm
theorem own_inv {x y : Nd} (h : qj3 x = some y) : y = x := by
 unfold qj3 qY1 qS1 at h
 obtain ⟨a,ha,h⟩ := bdS h
 obtain ⟨b,hb,h⟩ := bdS h
 obtain ⟨_,_,ha⟩ := bdS ha
 obtain ⟨_,_,hb⟩ := bdS hb
 have e1 := zQ ha
 have e2 := zQ hb
 have e3 := zQ h
 subst e1; subst e2; subst e3
 simp
theorem take_inv {K : Int} {m : Mem} {n : Int} {r : (Int × (List (Int × Int)) × Int)} (hw : WfM K m) (h : qe1 m.1 = some (n,true,r)) :
  r = (m.1.1,mset m.1.2.1 n 1,n + 1) ∧ cnt m n = 0 ∧ m.1.2.2 ≤ n ∧ n < m.1.1 ∧ ∀ j,m.1.2.2 ≤ j → j < n → cnt m j ≠ 0 := by
 have hb := hw.blk
 have hlo := hw.low
 unfold qe1 at h
 obtain ⟨o,ho,h2⟩ := bdS h
 have hp := whileO_post (fun v => v.1 = m.1.1 ∧ v.2.1 = m.1.2.1 ∧ m.1.2.2 ≤ v.2.2 ∧ v.2.2 ≤ m.1.1 ∧ ∀ j,m.1.2.2 ≤ j → j < v.2.2 → cnt m j ≠ 0)
  (fun o => ∀ w,o = .inr w → w.2.2 = (m.1.1,mset m.1.2.1 w.1 1,w.1 + 1) ∧ cnt m w.1 = 0 ∧ m.1.2.2 ≤ w.1 ∧ w.1 < m.1.1 ∧ ∀ j,m.1.2.2 ≤ j → j < w.1 → cnt m j ≠ 0) (by
   rintro ⟨bl,cs,i⟩ x ⟨j1,j2,j3,j4,j5⟩ hx
   simp only at j1 j2 j3 j4 j5
   subst j1; subst j2
   rcases cdS hx with ⟨hc,hx⟩ | ⟨hc,hx⟩
   ·have hc' := of_decide_eq_true hc
    simp only at hc'
    rcases cdS hx with ⟨hz,hx⟩ | ⟨hz,hx⟩
    ·have := zQ hx
     subst this
     refine ⟨fun v' e => (by cases e),fun o e => ?_⟩
     cases e
     rintro w e
     cases e
     have hz' : cnt m i = 0 := of_decide_eq_true hz
     exact ⟨by simp only; rw [w64 (by omega) (by omega)],hz',j3,hc',j5⟩
    ·have := zQ hx
     subst this
     refine ⟨fun v' e => ?_,fun o e => (by cases e)⟩
     cases e
     have hz' : ¬ cnt m i = 0 := of_decide_eq_false hz
     simp only
     rw [w64 (by omega) (by omega)]
     refine ⟨tV,tV,by omega,by omega,fun j a b => ?_⟩
     by_cases e : j = i
     ·rw [e]; exact hz'
     ·exact j5 j a (by omega)
   ·have := zQ hx
    subst this
    refine ⟨fun v' e => (by cases e),fun o e => ?_⟩
    cases e
    rintro w e
    cases e) (v := m.1) ⟨rfl,rfl,Int.le_refl _,hlo.2,fun j a b => by omega⟩ ho
 cases o with
 | inl v => simp at h2
 | inr w =>
  have : w = (n,true,r) := by simpa using h2
  subst this
  exact hp _ rfl
theorem wf_put {K : Int} {m : Mem} {x : Nd} {n : Int} (h : WfM K m) (hK : 1 ≤ K) (t2 : cnt m n = 0) (t3 : m.1.2.2 ≤ n) (t4 : n < m.1.1) (t5 : ∀ j,m.1.2.2 ≤ j → j < n → cnt m j ≠ 0) : WfM K (putM m n x) := by
 have hlo := h.low
 refine ⟨h.blk,⟨by show 2 ≤ n + 1; omega,by show n + 1 ≤ m.1.1; omega⟩,fun k k1 k2 => ?_,qP2 h.nodup _ _,fun k c hk => ?_⟩
 ·have k2' : k < n + 1 := k2
  rw [qO4]
  split
  ·omega
  ·by_cases hl : k < m.1.2.2
   ·exact h.full k k1 hl
   ·exact t5 k (by omega) (by omega)
 ·have hk' : mget (mset m.1.2.1 n 1) k = some c := hk
  rw [qX1] at hk'
  by_cases e : k = n
  ·rw [if_pos e] at hk'
   have := zQ hk'
   subst e
   exact ⟨by omega,by omega,by omega,t4⟩
  ·rw [if_neg e] at hk'
   exact h.pos k c hk'
theorem put_inv {K : Int} {m m' : Mem} {x : Nd} {n : Int} (hw : WfM K m) (hK : 1 ≤ K) (h : qi0 m x = some (n,0,m')) : m' = putM m n x ∧ cnt m n = 0 ∧ WfM K (putM m n x) := by
 unfold qi0 at h
 obtain ⟨b,hb,h2⟩ := bdS h
 rcases cdS h2 with ⟨_,h3⟩ | ⟨_,h3⟩
 ·simp at h3
 ·obtain ⟨t,ht,h4⟩ := bdS h3
  obtain ⟨tn,tb,tr⟩ := t
  rcases cdS h4 with ⟨_,h5⟩ | ⟨hb2,h5⟩
  ·simp at h5
  ·have hb3 : tb = true := by simpa using hb2
   subst hb3
   obtain ⟨y,hy,h6⟩ := bdS h5
   have := own_inv hy
   subst this
   simp only [Option.some.injEq,Prod.mk.injEq,true_and] at h6
   obtain ⟨rfl,e⟩ := h6
   obtain ⟨c1,c2,c3,c4,c5⟩ := take_inv hw ht
   subst c1
   exact ⟨e.symm,c2,wf_put hw hK c2 c3 c4 c5⟩
inductive Und (m : Mem) : Mem → List Int → Prop
 | nil : Und m m []
 | inc {m1 : Mem} {ds : List Int} {b : Int} (h : Und m m1 ds) (hb : cnt m1 b ≠ 0) : Und m (incM m1 b) (ds ++ [b])
 | put {m1 : Mem} {ds : List Int} {n : Int} {x : Nd} (h : Und m m1 ds) (hn : cnt m1 n = 0) : Und m (putM m1 n x) (ds ++ [n])
theorem Und.trans {a b c : Mem} {l r : List Int} (h : Und a b l) (k : Und b c r) : Und a c (l ++ r) := by
 induction k with
 | nil => rw [zJ]; exact h
 | inc _ hb ih => rw [← zI]; exact .inc ih hb
 | put _ hn ih => rw [← zI]; exact .put ih hn
structure SameM (K : Int) (m s : Mem) : Prop where
 wf : WfM K s
 blk : s.1.1 = m.1.1
 cnt : ∀ k,cnt s k = cnt m k
 nd : ∀ k,Go.Val.cnt m k ≠ 0 → ndOf s k = ndOf m k
theorem dec_same {K : Int} {m s : Mem} {b : Int} (h : SameM K (incM m b) s) (hK : K ≤ 1000000000000000) (hb : cnt m b ≠ 0) (hm : 1 ≤ cnt m b) : q80 s b = some (false,0,decM s b) ∧ SameM K m (decM s b) := by
 have hcb : cnt s b = cnt m b + 1 := by rw [h.cnt,ql5,if_pos rfl]
 have hl : cnt s b ≠ 0 := by omega
 obtain ⟨p1,p2,p3,p4⟩ := h.wf.pos b _ (qm2 hl).2
 have t1 : ¬ b < 2 := by omega
 have t2 : ¬ b ≥ s.1.1 := by omega
 have hc : (mget s.1.2.1 b).getD 0 = cnt s b := rfl
 have h1 : cnt s b > 1 := by omega
 refine ⟨?_,⟨⟨h.wf.blk,h.wf.low,fun n n1 n2 => ?_,qP2 h.wf.nodup _ _,fun n c hn => ?_⟩,h.blk,fun k => ?_,fun k hk => ?_⟩⟩
 ·unfold q80 qt1 qD0 qY0
  simp only [t1,t2,zB,zD,zA,zE,hc,hl,h1,zC]
  rw [w64 (by omega) (by omega)]
  rfl
 ·rw [cnt_dec]
  split
  ·omega
  ·exact h.wf.full n n1 n2
 ·have hn' : mget (mset s.1.2.1 b (cnt s b - 1)) n = some c := hn
  rw [qX1] at hn'
  by_cases e : n = b
  ·rw [if_pos e] at hn'
   have := zQ hn'
   subst e
   exact ⟨by omega,by omega,p3,p4⟩
  ·rw [if_neg e] at hn'
   exact h.wf.pos n c hn'
 ·rw [cnt_dec]
  by_cases e : k = b
  ·rw [if_pos e,e]; omega
  ·rw [if_neg e,h.cnt,ql5,if_neg e]
 ·have : cnt (incM m b) k ≠ 0 := by
   rw [ql5]
   split
   ·omega
   ·exact hk
  exact h.nd k this
theorem del_same {K : Int} {m s : Mem} {n : Int} {x : Nd} (h : SameM K (putM m n x) s) (hn : cnt m n = 0) : q80 s n = some (true,0,delM s n) ∧ SameM K m (delM s n) := by
 have hcb : cnt s n = 1 := by rw [h.cnt,qO4,if_pos rfl]
 have hl : cnt s n ≠ 0 := by omega
 obtain ⟨p1,p2,p3,p4⟩ := h.wf.pos n _ (qm2 hl).2
 have t1 : ¬ n < 2 := by omega
 have t2 : ¬ n ≥ s.1.1 := by omega
 have hc : (mget s.1.2.1 n).getD 0 = cnt s n := rfl
 have h1 : ¬ cnt s n > 1 := by omega
 have hlo := h.wf.low
 refine ⟨?_,⟨⟨h.wf.blk,⟨by show 2 ≤ min s.1.2.2 n; omega,by show min s.1.2.2 n ≤ s.1.1; omega⟩,fun k k1 k2 => ?_,nodup_mdel h.wf.nodup _,fun k c hk => ?_⟩,h.blk,fun k => ?_,fun k hk => ?_⟩⟩
 ·unfold q80 qt1 qD0 qY0
  simp only [t1,t2,zB,zD,zA,zE,hc,hl,h1,zC]
  rfl
 ·have k2' : k < min s.1.2.2 n := k2
  rw [cnt_del h.wf.nodup,if_neg (by omega)]
  exact h.wf.full k k1 (by omega)
 ·have hk' : mget (mdel s.1.2.1 n) k = some c := hk
  rw [mget_mdel h.wf.nodup] at hk'
  by_cases e : k = n
  ·rw [if_pos e] at hk'; cases hk'
  ·rw [if_neg e] at hk'
   exact h.wf.pos k c hk'
 ·rw [cnt_del h.wf.nodup]
  by_cases e : k = n
  ·rw [if_pos e,e,hn]
  ·rw [if_neg e,h.cnt,qO4,if_neg e]
 ·have e : k ≠ n := fun e => by rw [e] at hk; exact hk hn
  have : cnt (putM m n x) k ≠ 0 := by rw [qO4,if_neg e]; exact hk
  have h2 := h.nd k this
  rw [nd_put,if_neg e] at h2
  rw [← h2]
  unfold ndOf delM
  simp only
  rw [q95 _ e]
theorem und_pos {m m1 : Mem} {ds : List Int} (h : Und m m1 ds) (hm : ∀ k,0 ≤ cnt m k) : ∀ k,0 ≤ cnt m1 k := by
 induction h with
 | nil => exact hm
 | @inc m2 ds b _ hb ih =>
  intro k
  rw [ql5]
  have := ih b
  split
  ·omega
  ·exact ih k
 | put _ hn ih =>
  intro k
  rw [qO4]
  split
  ·omega
  ·exact ih k
theorem rollback_eq {K : Int} {m m1 : Mem} {ds : List Int} (hK : K ≤ 1000000000000000) (h : Und m m1 ds) (hm : ∀ k,0 ≤ cnt m k) : ∀ {s : Mem} {rest : List Int} {fr : Int × Int},SameM K m1 s → ds.length ≤ 1000000000000000 →
  ∃ s',qN (V := ((Int × Int) × MemT) × Int) (O := (Int × Int) × MemT) (rb_loop (ds ++ rest)) ((fr,s),(ds.length : Int) - 1) = some (fr,s') ∧ SameM K m s' := by
 induction h with
 | nil =>
  intro s rest fr hs hl
  refine ⟨s,?_,hs⟩
  rw [qI]
  rfl
 | @inc m2 ds b hu hb ih =>
  intro s rest fr hs hl
  have hp := und_pos hu hm b
  obtain ⟨e1,e2⟩ := dec_same hs hK hb (by omega)
  simp only [zF,zG,zH] at hl
  obtain ⟨s',q1,q2⟩ := ih (rest := [b] ++ rest) (fr := fr) e2 (by omega)
  refine ⟨s',?_,q2⟩
  rw [qI]
  have hg : gx (ds ++ [b] ++ rest) (ds.length : Int) = some b := by rw [zI]; exact qB2 rfl
  have hi : ((ds ++ [b]).length : Int) - 1 = (ds.length : Int) := by simp
  rw [hi]
  have t : (ds.length : Int) ≥ 0 := by omega
  unfold rb_loop
  simp only [t,zC,zE]
  rw [hg]
  simp only [zA,q71]
  rw [e1]
  simp only [zA]
  rw [w64 (by omega) (by omega)]
  rw [zI]
  exact q1
 | @put m2 ds n x hu hn ih =>
  intro s rest fr hs hl
  obtain ⟨e1,e2⟩ := del_same hs hn
  simp only [zF,zG,zH] at hl
  obtain ⟨s',q1,q2⟩ := ih (rest := [n] ++ rest) (fr := fr) e2 (by omega)
  refine ⟨s',?_,q2⟩
  rw [qI]
  have hg : gx (ds ++ [n] ++ rest) (ds.length : Int) = some n := by rw [zI]; exact qB2 rfl
  have hi : ((ds ++ [n]).length : Int) - 1 = (ds.length : Int) := by simp
  rw [hi]
  have t : (ds.length : Int) ≥ 0 := by omega
  unfold rb_loop
  simp only [t,zC,zE]
  rw [hg]
  simp only [zA,q71]
  rw [e1]
  simp only [zA]
  rw [w64 (by omega) (by omega)]
  rw [zI]
  exact q1
end Go.Val
namespace Go.Val
open Go.RowKit Go.Lib
theorem frailInc {c n b : Int} {m : Mem} {y : Int × Mem} (hn : 0 ≤ n ∧ n < c ∧ c ≤ 1000) (h : q30 m b = some y) :
  (n + 1 < c ∧ qq0 (c,n) b m = some (y.1,(c,n + 1),y.2)) ∨ qq0 (c,n) b m = some (11,(c,c),m) := by
 unfold qq0 qY
 simp only [zA]
 rw [w64 (by omega) (by omega)]
 by_cases e : n + 1 = c
 ·right
  rw [decide_eq_true e,zE,e]
 ·left
  rw [decide_eq_false e,zD,h]
  exact ⟨by omega,rfl⟩
theorem frailPut {c n : Int} {x : Nd} {m : Mem} {y : Int × Int × Mem} (hn : 0 ≤ n ∧ n < c ∧ c ≤ 1000) (h : qi0 m x = some y) :
  (n + 1 < c ∧ qS0 (c,n) x m = some (y.1,y.2.1,(c,n + 1),y.2.2)) ∨ qS0 (c,n) x m = some (0,11,(c,c),m) := by
 unfold qS0 qY
 simp only [zA]
 rw [w64 (by omega) (by omega)]
 by_cases e : n + 1 = c
 ·right
  rw [decide_eq_true e,zE,e]
 ·left
  rw [decide_eq_false e,zD,h]
  exact ⟨by omega,rfl⟩
def Ws (c n : Int) (K0 : Nat) (d : List Int) (m : Mem) (r : Int × Int × List Int × Mem) (x : Option (Int × Int × List Int × (Int × Int) × Mem)) : Prop :=
 (∃ ds n',r.2.2.1 = d ++ ds ∧ Und m r.2.2.2 ds ∧ WfM ((K0 + (d ++ ds).length : Nat) : Int) r.2.2.2 ∧ (d ++ ds).length ≤ 20000000000000 ∧ n ≤ n' ∧ n' < c ∧ x = some (r.1,0,d ++ ds,(c,n'),r.2.2.2)) ∨
 (∃ k ds m',x = some (k,11,d ++ ds,(c,c),m') ∧ Und m m' ds ∧ WfM 100000000000000 m' ∧ (d ++ ds).length ≤ 20000000000000)
theorem write_sim {c : Int} {K0 : Nat} (hK0 : K0 ≤ 1000000000000) (hK1 : 1 ≤ K0) : ∀ (f : Nat) {n : Int} {d : List Int} {p : Pt} {m : Mem} {r : Int × Int × List Int × Mem},0 ≤ n ∧ n < c ∧ c ≤ 1000 → WfM ((K0 + d.length : Nat) : Int) m → d.length ≤ 20000000000000 →
  qf0 f d p m = some r → r.2.1 = 0 → Ws c n K0 d m r (qe0 f d p (c,n) m) := by
 intro f
 induction f with
 | zero => intro n d p m r hn hw hd h; cases h
 | succ f ih =>
  intro n d p m r hn hw hd h he
  have h' : qj0 (qf0 f) d p m = some r := h
  show Ws c n K0 d m r (qB0 (qe0 f) d p (c,n) m)
  unfold qj0 at h'
  unfold qB0
  have z11 : decide ((11 : Int) = 0) = false := by decide
  have z11' : decide ((11 : Int) ≠ 0) = true := by decide
  rcases cdS h' with ⟨hp,h2⟩ | ⟨hp,h2⟩
  ·obtain ⟨x4,hx4,h3⟩ := bdS h2
   obtain ⟨o13,ho13,h4⟩ := bdS h3
   have := zQ h4
   subst this
   simp only at he
   obtain ⟨e4,m4⟩ := x4
   simp only at he
   subst he
   obtain ⟨rfl,hb⟩ := inc_inv hw (by omega) hx4
   have hz : decide ((0 : Int) = 0) = true := rfl
   simp only [hz,zE] at ho13
   obtain ⟨u,hu,ho⟩ := bdS ho13
   have := zQ ho
   subst this
   have hfit := qV hu
   simp only [zG,zH] at hfit
   simp only [hp,zE]
   rcases frailInc hn hx4 with ⟨a,e⟩ | e
   ·refine .inl ⟨[p.2.1],n + 1,rfl,.inc .nil hb,?_,by simp; omega,by omega,a,?_⟩
    ·have := wf_inc hw hb
     have e2 : ((K0 + (d ++ [p.2.1]).length : Nat) : Int) = ((K0 + d.length : Nat) : Int) + 1 := by simp; omega
     rw [e2]; exact this
    ·rw [e]
     simp only [zA,hz,zE]
     rw [hu]
     rfl
   ·refine .inr ⟨p.2.1,[],m,?_,.nil,hw.mono (by omega),by simpa using hd⟩
    rw [e]
    simp only [zA,z11,zD,zJ]
  ·obtain ⟨x24,hx24,h3⟩ := bdS h2
   simp only [hp,zD]
   rw [hx24,zA]
   obtain ⟨o,ho,h4⟩ := bdS h3
   refine while_simP (Q := fun x => Ws c n K0 d m r x) (V2 := (Int × (List Int) × (Int × Int) × Mem × Nd)) (O2 := (((List Int) × (Int × Int) × Mem × Nd) ⊕ (Int × Int × (List Int) × (Int × Int) × Mem)))
    (R := fun v1 v2 => ∃ ds n',v1.2.1 = d ++ ds ∧ Und m v1.2.2.1 ds ∧ WfM ((K0 + (d ++ ds).length : Nat) : Int) v1.2.2.1 ∧ (d ++ ds).length ≤ 20000000000000 ∧ n ≤ n' ∧ n' < c ∧ v2 = (v1.1,d ++ ds,(c,n'),v1.2.2.1,v1.2.2.2))
    (S := fun o1 o2 => ∃ w ds n',o1 = .inl w ∧ w.1 = d ++ ds ∧ Und m w.2.1 ds ∧ WfM ((K0 + (d ++ ds).length : Nat) : Int) w.2.1 ∧ (d ++ ds).length ≤ 20000000000000 ∧ n ≤ n' ∧ n' < c ∧ o2 = .inl (d ++ ds,(c,n'),w.2.1,w.2.2))
    (B := fun o2 => ∃ ds m',o2 = .inr (0,11,d ++ ds,(c,c),m') ∧ Und m m' ds ∧ WfM 100000000000000 m' ∧ (d ++ ds).length ≤ 20000000000000) ho ⟨[],n,by simp,.nil,by simpa using hw,by simpa using hd,by omega,hn.2.1,by simp⟩ (by
     rintro ⟨i,d1,m1,x⟩ v2 y1 ⟨ds,n',z1,z2,z3,z4,hn1,hn2,rfl⟩ hb hfin
     simp only at z1 z2 z3
     subst z1
     rcases cdS hb with ⟨hc,hb⟩ | ⟨hc,hb⟩
     ·obtain ⟨x120,hx120,h5⟩ := bdS hb
      obtain ⟨x123,hx123,h6⟩ := bdS h5
      simp only at hc hx120 hx123
      rcases cdS h6 with ⟨hz,h7⟩ | ⟨hz,h7⟩
      ·exfalso
       have e1 := hfin _ (zQ h7).symm
       rw [← e1] at h4
       simp only [zO] at h4
       have := zQ h4
       rw [← this] at he
       have hz' := of_decide_eq_true hz
       exact hz' he
      ·have hz' : x123.2.1 = 0 := by simpa using hz
       obtain ⟨u,hu,h8⟩ := bdS h7
       have := zQ h8
       subst this
       simp only at hu
       rcases ih (n := n') ⟨by omega,hn2,hn.2.2⟩ z3 z4 hx123 hz' with ⟨ds2,n2,q1,q2,q3,q4,q5,q6,q7⟩ | ⟨k,ds2,m2,q7,q2,q8,q9⟩
       ·rw [zI] at q1 q3 q4 q7
        refine .inr (.inl ⟨_,_,rfl,?_,ds ++ ds2,n2,q1,z2.trans q2,q3,q4,by omega,q6,rfl⟩)
        simp only [hc,zE,hx120,zA,q7,ne_eq,zP,zB,zD]
        rw [hu]
        rfl
       ·rw [zI] at q7
        refine .inl ⟨_,?_,ds ++ ds2,m2,rfl,z2.trans q2,q8,?_⟩
        rotate_left
        ·rw [← zI]; exact q9
        simp only [hc,zE,hx120,zA,q7,z11',zE]
     ·have := zQ hb
      subst this
      simp only at hc
      refine .inr (.inr ⟨_,_,rfl,?_,_,ds,n',rfl,rfl,z2,z3,z4,hn1,hn2,rfl⟩)
      simp only [hc,zD]) ?_
   intro o2 hS
   rcases hS with ⟨w,ds,n',rfl,w1,w2,w3,w4,n1,n2,rfl⟩ | ⟨ds,m',rfl,hu,hu2,hu3⟩
   ·simp only [zN] at h4 ⊢
    obtain ⟨x134,hx134,h5⟩ := bdS h4
    obtain ⟨o143,ho143,h6⟩ := bdS h5
    have := zQ h6
    subst this
    simp only at he
    obtain ⟨pn,pe,pm⟩ := x134
    simp only at he
    subst he
    obtain ⟨rfl,c0,wf⟩ := put_inv w3 (by omega) hx134
    have hz : decide ((0 : Int) = 0) = true := rfl
    simp only [hz,zE] at ho143
    obtain ⟨u,hu,ho3⟩ := bdS ho143
    have := zQ ho3
    subst this
    rw [w1] at hu
    have hfit := qV hu
    simp only [zG,zH] at hfit
    rcases frailPut (n := n') ⟨by omega,n2,hn.2.2⟩ hx134 with ⟨a,e⟩ | e
    ·refine .inl ⟨ds ++ [pn],n' + 1,by rw [w1,zI],.put w2 c0,?_,by rw [← zI,zF (bs := [pn])]; simp only [zG,zH]; omega,by omega,a,?_⟩
     ·rw [← zI,zF (bs := [pn])]
      exact wf.mono (by simp; omega)
     ·rw [e]
      simp only [zA,hz,zE]
      rw [hu,← zI]
      rfl
    ·refine .inr ⟨0,ds,w.2.1,?_,w2,w3.mono (by omega),w4⟩
     rw [e]
     simp only [zA,z11,zD]
   ·exact .inr ⟨0,ds,m',rfl,hu,hu2,hu3⟩
end Go.Val
namespace Go.Val
open Go.RowKit Go.Lib
theorem apply_loop_f {l : List Cg} {fr : Int × Int} {m : Mem} (hl : ShortC l) (hn : l.length ≤ 1000000) : (qN (V := Int) (O := (Unit ⊕ (Int × Int × (Int × Int) × Mem))) (fun v57 =>
   cond (decide (v57 < (l.length : Int))) (
    (gx l v57).bind fun x64 =>
    cond (decide ((x64.2.1.size : Int) > 40)) (
     some (.inr (.inr (0,1,fr,m)))
    ) (
     some (.inl (IntKind.wrap .i64 (v57 + 1)))
    )
   ) (
    some (.inr (.inl ()))
   )
  ) 0) = some (.inl ()) := by
 refine whileO_is (fun v => ∃ D Z,l = D ++ Z ∧ v = (D.length : Int)) (fun v => ((l.length : Int) - v).toNat) ⟨[],l,rfl,rfl⟩ ?_
 rintro v ⟨D,Z,e1,rfl⟩
 have hlen : l.length = D.length + Z.length := by rw [e1]; simp
 match Z with
 | [] =>
  right
  have t : ¬ ((D.length : Int) < (l.length : Int)) := by simp at hlen; omega
  simp only [t,zB,zD]
 | z :: Z' =>
  left
  simp only [zG] at hlen
  have t : ((D.length : Int) < (l.length : Int)) := by omega
  have g0 : gx l (D.length : Int) = some z := by rw [e1]; exact qB2 rfl
  have hz := hl z (by rw [e1]; simp)
  have t2 : ¬ ((z.2.1.size : Int) > 40) := by omega
  refine ⟨(D.length : Int) + 1,?_,⟨D ++ [z],Z',by simp [e1],by simp⟩,by omega⟩
  simp only [t,zC,zE,g0,zA,t2,zB,zD]
  rw [w64 (by omega) (by omega)]
def ApF (c n : Int) (k : Int) (m m' : Mem) (x : Option (Int × Int × (Int × Int) × Mem)) : Prop :=
 (∃ n',n ≤ n' ∧ n' < c ∧ x = some (k,0,(c,n'),m')) ∨ (∃ s,x = some (0,11,(c,c),s) ∧ SameM 1000000000000000 m s)
theorem SameM.refl {K : Int} {m : Mem} (hw : WfM K m) : SameM K m m := ⟨hw,rfl,fun _ => rfl,fun _ _ => rfl⟩
theorem apply_tail {c : Int} {K0 : Nat} {n k : Int} {m m' : Mem} {lv : Int} {row : List Pt} (hn : 0 ≤ n ∧ n < c ∧ c ≤ 1000) (hw : WfM (K0 : Int) m) (hK1 : 1 ≤ K0) (hK0 : K0 ≤ 1000000000000) (hpos : ∀ k,0 ≤ cnt m k)
  (h : (qW2 lv row).bind (fun x132 =>
    (((
     cond (decide (x132.2.2 ≠ 0)) (
      some true
     ) (
      some (!x132.2.1)
     )
    ) : Option Bool)).bind fun o138 =>
    cond o138 (
     some (0,x132.2.2,m)
    ) (
     (qa1 [] x132.1 m).bind fun x147 =>
     cond (decide (x147.2.1 ≠ 0)) (
      none
     ) (
      some (x147.1,0,x147.2.2.2)
     )
    )) = some (k,0,m')) :
  ApF c n k m m' ((qW2 lv row).bind fun x132 =>
    (((
     cond (decide (x132.2.2 ≠ 0)) (
      some true
     ) (
      some (!x132.2.1)
     )
    ) : Option Bool)).bind fun o138 =>
    cond o138 (
     some (0,x132.2.2,(c,n),m)
    ) (
     (qF1 [] x132.1 (c,n) m).bind fun x147 =>
     cond (decide (x147.2.1 ≠ 0)) (
      (rollback x147.2.2.1 x147.2.2.2.1 x147.2.2.2.2).bind fun x153 =>
      some (0,x147.2.1,x153.1,x153.2)
     ) (
      some (x147.1,0,x147.2.2.2.1,x147.2.2.2.2)
     )
    )) := by
 obtain ⟨x132,hx132,h2⟩ := bdS h
 rw [hx132,zA]
 obtain ⟨o138,ho,h3⟩ := bdS h2
 rw [ho,zA]
 rcases cdS h3 with ⟨hc,h4⟩ | ⟨hc,h4⟩
 ·simp only [hc,zE]
  have := zQ h4
  simp only [Prod.mk.injEq] at this
  obtain ⟨e1,e2,e3⟩ := this
  exact .inl ⟨n,by omega,hn.2.1,by rw [← e1,e2,e3]⟩
 ·simp only [hc,zD]
  obtain ⟨x147,hx147,h5⟩ := bdS h4
  rcases cdS h5 with ⟨hz,h6⟩ | ⟨hz,h6⟩
  ·cases h6
  ·have hz' : x147.2.1 = 0 := by simpa using hz
   have := zQ h6
   simp only [Prod.mk.injEq,true_and] at this
   obtain ⟨e1,e3⟩ := this
   rcases write_sim hK0 hK1 16 hn (d := []) (by simpa using hw) (by simp) hx147 hz' with ⟨ds,n',q1,q2,q3,q4,q5,q6,q7⟩ | ⟨kk,ds,m1,q7,q2,q8,q9⟩
   ·left
    refine ⟨n',q5,q6,?_⟩
    show (qe0 16 [] x132.1 (c,n) m).bind _ = _
    rw [q7]
    simp [e1,e3]
   ·right
    rw [List.nil_append] at q7 q9
    have q8' : WfM 1000000000000000 m1 := q8.mono (by omega)
    obtain ⟨s',r1,r2⟩ := rollback_eq (K := 1000000000000000) (rest := []) (fr := (c,c)) (by omega) q2 hpos (SameM.refl q8') (by omega)
    refine ⟨s',?_,r2⟩
    show (qe0 16 [] x132.1 (c,n) m).bind _ = _
    rw [q7,zA]
    have z11 : decide ((11 : Int) ≠ 0) = true := by decide
    simp only [z11,zE]
    unfold rollback
    rw [w64 (by omega) (by omega)]
    rw [zJ] at r1
    rw [r1]
    rfl
theorem apply_sim {c : Int} {K0 : Nat} {r k : Int} {m m' : Mem} {l : List Cg} (hc : 1 ≤ c ∧ c ≤ 1000) (hw : WfM (K0 : Int) m) (hK1 : 1 ≤ K0) (hK0 : K0 ≤ 1000000000000) (hpos : ∀ k,0 ≤ cnt m k) (hl : ShortC l) (hlen : l.length ≤ 1000000)
  (h : qT0 m r l = some (k,0,m')) : ApF c 0 k m m' (qy2 (c,0) r l m) := by
 unfold qT0 at h
 rw [apply_loop hl hlen] at h
 simp only [zA,zN] at h
 unfold qy2
 rw [apply_loop_f hl hlen]
 simp only [zA,zN]
 have z11 : decide ((11 : Int) ≠ 0) = true := by decide
 have hw' : WfM 1000000000000000 m := hw.mono (by omega)
 have hn0 : 0 ≤ (0 : Int) ∧ (0 : Int) < c ∧ c ≤ 1000 := ⟨by omega,by omega,hc.2⟩
 rcases cdS h with ⟨h0,h1⟩ | ⟨h0,h1⟩
 ·simp only [h0,zE]
  obtain ⟨x75,hx75,h2⟩ := bdS h1
  rcases cdS h2 with ⟨hz,h3⟩ | ⟨hz,h3⟩
  ·have := zQ h3
   simp only [Prod.mk.injEq] at this
   have hz' := of_decide_eq_true hz
   exact absurd this.2.1 hz'
  ·have := zQ h3
   simp only [Prod.mk.injEq,true_and] at this
   obtain ⟨e1,e2⟩ := this
   unfold q92 at hx75
   unfold qc3
   rcases cdS hx75 with ⟨hr,h4⟩ | ⟨hr,h4⟩
   ·have := zQ h4
    subst this
    simp only [hr,zE,zA]
    have e3 : m = m' := e2
    exact .inl ⟨0,by omega,by omega,by simp [e1,e3]⟩
   ·obtain ⟨x4,hx4,h5⟩ := bdS h4
    have := zQ h5
    subst this
    simp only [hr,zD]
    simp only at hz e2
    rcases frailInc hn0 hx4 with ⟨a,e⟩ | e
    ·rw [e]
     simp only [zA,hz,zD]
     exact .inl ⟨0 + 1,by omega,a,by rw [e1,e2]⟩
    ·rw [e]
     simp only [zA,z11,zE]
     exact .inr ⟨m,rfl,SameM.refl hw'⟩
 ·simp only [h0,zD]
  obtain ⟨x81,hx81,h2⟩ := bdS h1
  rw [hx81,zA]
  obtain ⟨o105,ho,h3⟩ := bdS h2
  rcases cdS ho with ⟨hr,h4⟩ | ⟨hr,h4⟩
  ·obtain ⟨x111,hx111,h5⟩ := bdS h4
   obtain ⟨x114,hx114,h6⟩ := bdS h5
   have := zQ h6
   subst this
   simp only [zN] at h3
   simp only [hr,zE]
   rw [hx111,zA,hx114,zA,zA]
   simp only [zN]
   exact apply_tail hn0 hw hK1 hK0 hpos h3
  ·obtain ⟨x117,hx117,h5⟩ := bdS h4
   have hp := qS5 hx117
   simp only [hr,zD]
   rcases cdS h5 with ⟨hz,h6⟩ | ⟨hz,h6⟩
   ·have := zQ h6
    subst this
    simp only [zO] at h3
    have := zQ h3
    simp only [Prod.mk.injEq] at this
    have hz' := of_decide_eq_true hz
    exact absurd this.2.1 hz'
   ·obtain ⟨x124,hx124,h7⟩ := bdS h6
    rcases cdS h7 with ⟨hy,h8⟩ | ⟨hy,h8⟩
    ·have := zQ h8
     subst this
     simp only [zO] at h3
     have := zQ h3
     simp only [Prod.mk.injEq] at this
     have hy' := of_decide_eq_true hy
     exact absurd this.2.1 hy'
    ·have := zQ h8
     subst this
     simp only [zN] at h3
     rw [hp] at hx124
     rcases frailGet hn0 hx117 with ⟨a,e⟩ | e
     ·rw [e]
      simp only [zA,hz,zD]
      rcases edit_sim (c := c) 16 (n := 0 + 1) ⟨by omega,a,hc.2⟩ hx124 with ⟨n',q1,q2,t1,t2,q3⟩ | q3
      ·have q3' : qr1 [] r x81 (c,0 + 1) m = some (x124.1,x124.2.1,[],(c,n'),m) := q3
       rw [q3']
       simp only [zA,hy,zD,zN]
       rw [t1,t2] at h3
       rcases apply_tail (n := n') ⟨by omega,q2,hc.2⟩ hw hK1 hK0 hpos h3 with ⟨n2,u1,u2,u3⟩ | u
       ·exact .inl ⟨n2,by omega,u2,u3⟩
       ·exact .inr u
      ·have q3' : qr1 [] r x81 (c,0 + 1) m = some ([],11,[],(c,c),m) := q3
       rw [q3']
       simp only [zA,z11,zE,zO]
       exact .inr ⟨m,rfl,SameM.refl hw'⟩
     ·rw [e]
      simp only [zA,z11,zE,zO]
      exact .inr ⟨m,rfl,SameM.refl hw'⟩
end Go.Val
namespace Go.Val
open Go.RowKit Go.Lib
theorem refDrop_eq {l : List Pr} {k : Ky} (hn : l.length ≤ 1000000) : qP3 l k = some (l.filter fun x => !decide (x.1 = k)) := by
 unfold qP3
 refine qD1 (Q := fun o => o = some (l.filter fun x => !decide (x.1 = k))) (fun v => ∃ D Z,l = D ++ Z ∧ v = ((D.length : Int),D.filter fun x => !decide (x.1 = k))) (fun v => ((l.length : Int) - v.1).toNat) (fun o => o = l.filter fun x => !decide (x.1 = k)) ⟨[],l,rfl,rfl⟩ ?_ (fun o h => by rw [h])
 rintro v ⟨D,Z,e1,rfl⟩
 have hl : l.length = D.length + Z.length := by rw [e1]; simp
 match Z with
 | [] =>
  right
  have t : ¬ ((D.length : Int) < (l.length : Int)) := by simp at hl; omega
  rw [zJ] at e1
  exact ⟨D.filter fun x => !decide (x.1 = k),by simp only [t,zB,zD],by rw [e1]⟩
 | z :: Z' =>
  left
  simp only [zG] at hl
  have t : ((D.length : Int) < (l.length : Int)) := by omega
  have g0 : gx l (D.length : Int) = some z := by rw [e1]; exact qB2 rfl
  have hf := List.length_filter_le (fun x => !decide (x.1 = k)) D
  refine ⟨((D.length : Int) + 1,(D ++ [z]).filter fun x => !decide (x.1 = k)),?_,⟨D ++ [z],Z',by simp [e1],by simp⟩,by simp only; omega⟩
  simp only [t,zC,zE,g0,zA]
  rw [w64 (by omega) (by omega),List.filter_append]
  by_cases h : z.1 = k
  ·simp [h]
  ·simp only [h,zB,Bool.not_false,zE]
   rw [q81 (by simp; omega)]
   simp [h]
theorem mget_drop {l : List Pr} (k j : Ky) : mget (l.filter fun x => !decide (x.1 = k)) j = if j = k then none else mget l j := by
 induction l with
 | nil => simp [qs2]
 | cons x l ih =>
  by_cases h : x.1 = k
  ·rw [List.filter_cons_of_neg (by simp [h]),ih,qO]
   by_cases e : j = k
   ·rw [if_pos e,if_pos e]
   ·rw [if_neg e,if_neg e,if_neg (fun e' => e (e'.trans h))]
  ·rw [List.filter_cons_of_pos (by simp [h]),qO,qO,ih]
   by_cases e : j = x.1
   ·rw [if_pos e,if_pos e,if_neg (fun e' => h (e.symm.trans e'))]
   ·rw [if_neg e,if_neg e]
theorem refPut_eq {l : List Pr} {c : Pr} (hr : Rising l) (hk : K24s l) (hc : c.1.length = 24) (hn : l.length ≤ 1000000) : ∃ r,qG4 l c = some r ∧ Rising r ∧ K24s r ∧ r.length ≤ l.length + 1 ∧ ∀ k,mget r k = if k = c.1 then some c.2 else mget l k := by
 unfold qG4
 refine qD1 (Q := fun x => ∃ r,x = some r ∧ Rising r ∧ K24s r ∧ r.length ≤ l.length + 1 ∧ ∀ k,mget r k = if k = c.1 then some c.2 else mget l k)
  (fun v => ∃ D Z,l = D ++ Z ∧ v.2.1 = (D.length : Int) ∧ ((v.1 = false ∧ v.2.2 = D ∧ ∀ x ∈ D,Lt x.1 c.1) ∨ (v.1 = true ∧ (∀ z ∈ Z,Lt c.1 z.1) ∧ Rising (v.2.2 ++ Z) ∧ K24s v.2.2 ∧ v.2.2.length ≤ D.length + 1 ∧ ∀ k,mget (v.2.2 ++ Z) k = if k = c.1 then some c.2 else mget l k)))
  (fun v => ((l.length : Int) - v.2.1).toNat)
  (fun o => (o.1 = false ∧ o.2 = l ∧ ∀ x ∈ l,Lt x.1 c.1) ∨ (o.1 = true ∧ Rising o.2 ∧ K24s o.2 ∧ o.2.length ≤ l.length + 1 ∧ ∀ k,mget o.2 k = if k = c.1 then some c.2 else mget l k)) ⟨[],l,rfl,rfl,.inl ⟨rfl,rfl,by simp⟩⟩ ?_ ?_
 ·rintro ⟨p,i,out⟩ ⟨D,Z,e1,e2,h⟩
  simp only at e2
  subst e2
  have hl : l.length = D.length + Z.length := by rw [e1]; simp
  match Z with
  | [] =>
   right
   have t : ¬ ((D.length : Int) < (l.length : Int)) := by simp at hl; omega
   rw [zJ] at e1
   refine ⟨(p,out),by simp only [t,zB,zD],?_⟩
   rcases h with ⟨h1,h2,h3⟩ | ⟨h1,h2,h3,h4,h5,h6⟩
   ·exact .inl ⟨h1,by rw [e1]; exact h2,by rw [e1]; exact h3⟩
   ·simp only [zJ] at h3 h6
    exact .inr ⟨h1,h3,h4,by rw [e1]; exact h5,h6⟩
  | z :: Z' =>
   left
   simp only [zG] at hl
   have t : ((D.length : Int) < (l.length : Int)) := by omega
   have g0 : gx l (D.length : Int) = some z := by rw [e1]; exact qB2 rfl
   have hz24 := hk z (by rw [e1]; simp)
   have hr' := hr
   rw [e1] at hr'
   obtain ⟨ra,rb,rc⟩ := qP.1 hr'
   obtain ⟨rb1,rb2⟩ := qx0.1 rb
   have hDk : K24s D := fun x hx => hk x (by rw [e1]; simp [hx])
   simp only [t,zC,zE,g0,zA]
   rw [less_eq hc hz24,w64 (by omega) (by omega)]
   simp only [zA]
   rcases h with ⟨h1,h2,h3⟩ | ⟨h1,h2,h3,h4,h5,h6⟩
   ·simp only at h1 h2
    subst h1; subst h2
    rcases lt_or z.1 c.1 with hlt | heq | hgt
    ·have n1 : ¬ Lt c.1 z.1 := fun h => lt_irrefl _ (lt_trans h hlt)
     have n2 : ¬ z.1 = c.1 := fun h => lt_irrefl _ (h ▸ hlt)
     refine ⟨(false,(out.length : Int) + 1,out ++ [z]),?_,⟨out ++ [z],Z',by simp [e1],by simp,.inl ⟨rfl,rfl,fun x hx => ?_⟩⟩,by simp only; omega⟩
     ·simp only [n1,n2,zB,zD,zE,Bool.not_false,zA]
      rw [q81 (by simp; omega)]
      rfl
     ·rcases zL.1 hx with hx | hx
      ·exact h3 x hx
      ·have : x = z := by simpa using hx
       subst this; exact hlt
    ·have n1 : ¬ Lt c.1 c.1 := lt_irrefl _
     refine ⟨(true,(out.length : Int) + 1,out ++ [c]),?_,⟨out ++ [z],Z',by simp [e1],by simp,.inr ⟨rfl,fun y hy => heq ▸ rb1 y hy,?_,?_,by simp,fun k => ?_⟩⟩,by simp only; omega⟩
     ·simp only [n1,heq,zC,zB,zD,zE,Bool.not_false,Bool.not_true,zA]
      rw [q81 (by simp; omega)]
      rfl
     ·simp only [zI,List.singleton_append]
      refine qP.2 ⟨ra,qx0.2 ⟨fun y hy => heq ▸ rb1 y hy,rb2⟩,fun x hx y hy => ?_⟩
      rcases zM.1 hy with rfl | hy
      ·exact h3 x hx
      ·exact rc x hx y (by simp [hy])
     ·intro x hx
      rcases zL.1 hx with hx | hx
      ·exact hDk x hx
      ·have : x = c := by simpa using hx
       subst this; exact hc
     ·simp only [zI,List.singleton_append]
      rw [e1,q01,q01,qO,qO,heq]
      by_cases e : k = c.1
      ·have : mget out k = none := qM2 fun x hx he => by
        have := h3 x hx
        rw [he,e] at this
        exact lt_irrefl _ this
       rw [this]; simp [e]
      ·simp only [if_neg e]
    ·have n2 : ¬ z.1 = c.1 := fun h => lt_irrefl _ (h ▸ hgt)
     refine ⟨(true,(out.length : Int) + 1,out ++ [c] ++ [z]),?_,⟨out ++ [z],Z',by simp [e1],by simp,.inr ⟨rfl,fun y hy => lt_trans hgt (rb1 y hy),?_,?_,by simp,fun k => ?_⟩⟩,by simp only; omega⟩
     ·simp only [hgt,n2,zC,zB,zD,zE,Bool.not_false,zA]
      rw [q81 (by simp; omega)]
      simp only [zA]
      rw [q81 (by simp; omega)]
      rfl
     ·simp only [zI,List.singleton_append]
      refine qP.2 ⟨ra,qx0.2 ⟨fun y hy => ?_,rb⟩,fun x hx y hy => ?_⟩
      ·rcases zM.1 hy with rfl | hy
       ·exact hgt
       ·exact lt_trans hgt (rb1 y hy)
      ·rcases zM.1 hy with rfl | hy
       ·exact h3 x hx
       ·exact rc x hx y hy
     ·intro x hx
      simp only [zI,zL,zM,List.not_mem_nil,or_false] at hx
      rcases hx with hx | rfl | rfl
      ·exact hDk x hx
      ·exact hc
      ·exact hz24
     ·simp only [e1,zI,List.singleton_append,List.cons_append,List.nil_append,q01,qO,qs2]
      by_cases e : k = c.1
      ·have : mget out k = none := qM2 fun x hx he => by
        have := h3 x hx
        rw [he,e] at this
        exact lt_irrefl _ this
       rw [this]; simp [e]
      ·simp only [if_neg e]
   ·simp only at h1 h3 h4 h5 h6
    subst h1
    have hgt := h2 z (by simp)
    have n2 : ¬ z.1 = c.1 := fun h => lt_irrefl _ (h ▸ hgt)
    refine ⟨(true,(D.length : Int) + 1,out ++ [z]),?_,⟨D ++ [z],Z',by simp [e1],by simp,.inr ⟨rfl,fun y hy => h2 y (by simp [hy]),by simpa using h3,?_,by simp; omega,fun k => by simpa using h6 k⟩⟩,by simp only; omega⟩
    ·simp only [n2,zB,zD,zE,Bool.not_false,Bool.not_true,zA]
     rw [q81 (by simp; omega)]
     rfl
    ·intro x hx
     rcases zL.1 hx with hx | hx
     ·exact h4 x hx
     ·have : x = z := by simpa using hx
      subst this; exact hz24
 ·rintro ⟨p,out⟩ h
  rcases h with ⟨h1,h2,h3⟩ | ⟨h1,h2,h3,h4,h5⟩
  ·simp only at h1 h2
   subst h1; subst h2
   refine ⟨out ++ [c],?_,qP.2 ⟨hr,by simp [Rising,Asc],fun x hx y hy => ?_⟩,fun x hx => ?_,by simp,fun k => ?_⟩
   ·simp only [Bool.not_false,zE]
    rw [q81 (by simp; omega)]
    rfl
   ·have : y = c := by simpa using hy
    subst this; exact h3 x hx
   ·rcases zL.1 hx with hx | hx
    ·exact hk x hx
    ·have : x = c := by simpa using hx
     subst this; exact hc
   ·rw [q01,qO,qs2]
    by_cases e : k = c.1
    ·have : mget out k = none := qM2 fun x hx he => by
      have := h3 x hx
      rw [he,e] at this
      exact lt_irrefl _ this
     rw [this]; simp [e]
    ·simp only [if_neg e]
     cases mget out k <;> rfl
  ·simp only at h1
   subst h1
   exact ⟨out,by simp,h2,h3,h4,h5⟩
theorem refApply_eq {l : List Pr} {cs : List Cg} (hr : Rising l) (hk : K24s l) (hc : K24s cs) (hn : l.length + cs.length ≤ 100000) : qo1 l cs = some (qf2 l cs) := by
 unfold qo1
 refine qD1 (Q := fun x => x = some (qf2 l cs)) (fun v => ∃ D Z,cs = D ++ Z ∧ v.2 = (D.length : Int) ∧ Rising v.1 ∧ K24s v.1 ∧ v.1.length ≤ l.length + D.length ∧ mget v.1 = updF (mget l) D) (fun v => ((cs.length : Int) - v.2).toNat)
  (fun o => o = qf2 l cs) ⟨[],cs,rfl,rfl,hr,hk,by simp,rfl⟩ ?_ (fun o h => by rw [h])
 rintro ⟨q,i⟩ ⟨D,Z,e1,e2,h1,h2,h3,h4⟩
 simp only at e2 h1 h2 h3 h4
 subst e2
 have hl : cs.length = D.length + Z.length := by rw [e1]; simp
 match Z with
 | [] =>
  right
  have t : ¬ ((D.length : Int) < (cs.length : Int)) := by simp at hl; omega
  rw [zJ] at e1
  refine ⟨q,by simp only [t,zB,zD],?_⟩
  refine qd3 h1 (qX0 _ _) fun k => ?_
  rw [h4,qC2,qH4 hr,e1]
 | z :: Z' =>
  left
  simp only [zG] at hl
  have t : ((D.length : Int) < (cs.length : Int)) := by omega
  have g0 : gx cs (D.length : Int) = some z := by rw [e1]; exact qB2 rfl
  have hz24 := hc z (by rw [e1]; simp)
  simp only [t,zC,zE,g0,zA]
  rw [w64 (by omega) (by omega)]
  have upd : ∀ k,updF (mget l) (D ++ [z]) k = if k = z.1 then eff z.2 else mget q k := fun k => by
   rw [updF_append,updF_one,← h4]
  cases hg : z.2.2 with
  | true =>
   simp only [zE]
   rw [refDrop_eq (by omega)]
   refine ⟨(q.filter fun x => !decide (x.1 = z.1),(D.length : Int) + 1),rfl,⟨D ++ [z],Z',by simp [e1],by simp,List.Pairwise.sublist (List.Sublist.map _ List.filter_sublist) h1,fun x hx => h2 x (List.mem_filter.1 hx).1,?_,?_⟩,by simp only; omega⟩
   ·have := List.length_filter_le (fun x => !decide (x.1 = z.1)) q
    simp only [zF,zG,zH]
    omega
   ·funext k
    rw [upd,mget_drop]
    simp [eff,hg]
  | false =>
   simp only [zD]
   obtain ⟨r,r1,r2,r3,r4,r5⟩ := refPut_eq (c := (z.1,z.2.1)) h1 h2 hz24 (by omega)
   rw [r1]
   refine ⟨(r,(D.length : Int) + 1),rfl,⟨D ++ [z],Z',by simp [e1],by simp,r2,r3,?_,?_⟩,by simp only; omega⟩
   ·simp only [zF,zG,zH]
    omega
   ·funext k
    rw [upd,r5]
    simp [eff,hg]
end Go.Val
namespace Go.Val
open Go.RowKit Go.Lib
theorem same_keys {K K' : Int} {m s : Mem} (hw : WfM K m) (h : SameM K' m s) (x : Int) : x ∈ s.1.2.1.map (·.1) ↔ x ∈ m.1.2.1.map (·.1) := by
 constructor
 ·intro hx
  have hl : cnt s x ≠ 0 := fun h0 => cnt_not h.wf h0 hx
  rw [h.cnt] at hl
  exact (qm2 hl).1
 ·intro hx
  have hl : cnt m x ≠ 0 := fun h0 => cnt_not hw h0 hx
  rw [← h.cnt] at hl
  exact (qm2 hl).1
theorem st_same {K K' : Nat} {m s : Mem} {R : List Int} (hst : StM K m R) (h : SameM (K' : Int) m s) : StM K' s R ∧ used s = used m ∧ Grow m s := by
 have hg : Grow m s := fun n hn => ⟨by rw [h.cnt]; exact hn,h.nd n hn⟩
 have hk := same_keys hst.wf h
 refine ⟨⟨h.wf,fun n hn => ?_,fun n => ?_⟩,?_,hg⟩
 ·rw [h.cnt] at hn
  obtain ⟨L,q,a,b,c⟩ := hst.live n hn
  exact ⟨L,q,a,Tr.ext hg b,c⟩
 ·rw [h.cnt,hst.rc n,inK_same h.wf.nodup hst.wf.nodup hk]
  congr 2
  exact (qB5 fun b hb => h.nd b (fun h0 => cnt_not hst.wf h0 hb)).symm
 ·have := count_same h.wf.nodup hst.wf.nodup hk
  rw [List.length_map,List.length_map] at this
  exact this
theorem treeFrail_true (begin' l : List Cg) (at_ : Int) (hb : K24s begin') (hl : K24s l) : qG2 begin' l at_ = some true := by
 unfold qG2
 obtain ⟨m0,a1,a2,a3,a4⟩ := new_eq (most := 3000) (by omega)
 rw [shown_eq,a1]
 simp only [zA]
 rw [show qK2 l 30 40 = some (fewC l 30 40) from lawfew_eq (most := 30) (bytes := 40) (by omega)]
 simp only [zA]
 rw [show qK2 begin' 60 40 = some (fewC begin' 60 40) from lawfew_eq (most := 60) (bytes := 40) (by omega)]
 simp only [zA]
 have hlen := fewC_len begin' 60 40
 have hlen2 := fewC_len l 30 40
 have hbk := fewC_k24 (most := 60) (bytes := 40) hb
 have hlk := fewC_k24 (most := 30) (bytes := 40) hl
 have hls := fewC_short l 30
 have hbs := fewC_short begin' 60
 generalize fewC begin' 60 40 = first at hlen hbk hbs
 generalize fewC l 30 40 = l at hlen2 hlk hls
 obtain ⟨r,m,c1,b1,b2,b3,b4,b5,b6,b7,_⟩ := apply_eq (l := first) (r := 0) (q := []) a2 (by omega) (by omega) (.inl ⟨rfl,rfl⟩) (by simp [Rising,Asc]) (fun p hp => by cases hp) hbs (by simp; omega) (by rw [a3,a4]; simp; omega)
 rw [b1]
 simp only [zA,ne_eq,zP,zB,zD]
 have hql := qB4 ([] : List Pr) first
 simp only [zH] at hql
 have hr : Rising (qf2 [] first) := qX0 _ _
 have hs : qh6 (qf2 [] first) := applyP_short (by simp [Rising,Asc]) (fun p hp => by cases hp) hbs
 have hk : K24s (qf2 [] first) := applyP_k24 (by simp [Rising,Asc]) (fun p hp => by cases hp) hbk
 have hrf : qo1 [] first = some (qf2 [] first) := refApply_eq (by simp [Rising,Asc]) (fun p hp => by cases hp) hbk (by simp; omega)
 rw [hrf]
 generalize qf2 [] first = q at b2 b7 hql hr hs hk
 simp only [List.nil_append] at b4
 have hblk : m.1.1 = 3002 := by rw [b5,a3]; rfl
 have hu : used m ≤ 100 := by omega
 obtain ⟨w,hw,hw2⟩ := and_le (a := at_) (b := 127) (by omega)
 have hw' : qR4 .i64 at_ 127 = (w : Int) := hw
 rw [hw',w64 (by omega) (by omega)]
 obtain ⟨n,m1,c2,d1,d2,d3,d4,d5,d6,d7,_⟩ := apply_eq (l := l) b4 (by omega) (by omega) b2 hr hs hls (by omega) (by rw [hblk]; omega)
 have hql2 := qB4 q l
 have hpos : ∀ k,0 ≤ cnt m k := fun k => by rw [b4.rc k]; omega
 have hr2 : Rising (qf2 q l) := qX0 _ _
 have hk2 : K24s (qf2 q l) := applyP_k24 hr hk hlk
 rw [show qg2 = some allS from rfl]
 simp only [zA]
 rcases apply_sim (c := 1 + (w : Int)) (by omega) b4.wf (by omega) (by omega) hpos hls (by omega) d1 with ⟨n',u1,u2,u3⟩ | ⟨s,u3,u4⟩
 ·rw [u3]
  have t : ¬ (n' ≥ 1 + (w : Int)) := by omega
  simp only [zA,t,zB,zD]
  rw [scan_root d4.wf d2 hr2 (by omega),filter_all hk2]
  simp only [zA]
  rw [refApply_eq hr hk hlk (by omega)]
  simp only [zA]
  rw [same_eq (by omega)]
  simp only [zA,zC,zE]
  rw [counts_eq (roots := [r,n]) (by simpa using d4) (by rw [d5,hblk]; rfl) (by omega) (by simp) (by omega)]
  rfl
 ·rw [u3]
  have t : (1 + (w : Int)) ≥ 1 + (w : Int) := by omega
  simp only [zA,t,zC,zE,zP,zB,zD]
  obtain ⟨s1,s2,s3⟩ := st_same (K' := 1000000000000000) b4 u4
  have hbs2 : s.1.1 = 3002 := by rw [u4.blk,hblk]
  rw [counts_eq (roots := [r]) (by simpa using s1) (by rw [hbs2]; rfl) (by omega) (by simp) (by omega)]
  simp only [zA,Bool.not_true,zD]
  rw [scan_root s1.wf (root_grow s3 b2) hr (by omega),filter_all hk]
  simp only [zA]
  rw [same_eq (by omega)]
  simp
end Go.Val
