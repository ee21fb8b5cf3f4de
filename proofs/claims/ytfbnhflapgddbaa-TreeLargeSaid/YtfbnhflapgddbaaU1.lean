/- Scan,over a tree. -/
import Derived.Test.YtfbnhflapgddbaaT1
import Derived.Test.YtfbnhflapgddbaaWi
import Derived.Test.YtfbnhflapgddbaaLd
import Derived.Test.YtfbnhflapgddbaaWj
set_option linter.unusedSectionVars false
set_option linter.unusedVariables false
set_option linter.unusedSimpArgs false
namespace Go.Val
open Go.RowKit Go.Lib
theorem qg2 {V O R : Type} {body : V → Option (V ⊕ O)} {f : O → Option R} {Q : Option R → Prop} (J : V → Prop) (μ : V → Nat) (Post : O → Prop) {v : V} (hv : J v)
  (hs : ∀ v,J v → (∃ v',body v = some (.inl v') ∧ J v' ∧ μ v' < μ v) ∨ ∃ o,body v = some (.inr o) ∧ Post o)
  (hp : ∀ o,Post o → Q (f o)) : Q ((qP body v).bind f) := by
 obtain ⟨o,h1,h2⟩ := qO J μ Post hs hv
 rw [h1]
 exact hp o h2
theorem whileO_is {V O : Type} {body : V → Option (V ⊕ O)} {o : O} (J : V → Prop) (μ : V → Nat) {v : V} (hv : J v)
  (hs : ∀ v,J v → (∃ v',body v = some (.inl v') ∧ J v' ∧ μ v' < μ v) ∨ body v = some (.inr o)) : qP body v = some o := by
 obtain ⟨o',h1,h2⟩ := qO J μ (fun x => x = o) (fun v hv => (hs v hv).imp id fun h => ⟨o,h,rfl⟩) hv
 rw [h1,h2]
theorem cmp_eq (a b : Ky) : qt a b = some (compareBytes a b) := by simp [qt,qR]
theorem filter_none {s : Spn} {q : List Pr} (h : ∀ x ∈ q,inT s x.1 = false) : (q.filter fun p => inT s p.1) = [] := by
 refine List.filter_eq_nil_iff.2 fun x hx => ?_
 rw [h x hx]; simp
theorem inT_low {s : Spn} {k : Ky} (h : Lt k s.1) : inT s k = false := by
 unfold inT Lt at *
 have : ¬ compareBytes k s.1 ≥ 0 := by omega
 simp [this]
theorem inT_high {s : Spn} {k : Ky} (he : s.2.2 = false) (h : ¬ Lt k s.2.1) : inT s k = false := by
 unfold inT Lt at *
 simp [he,h]
theorem scan_n {K : Int} {m : Mem} {s : Spn} (hw : WfM K m) : ∀ (fuel L : Nat) {n : Int} {q : List Pr},L < fuel → Tr m L n q → Rising q → q.length ≤ 1000000 →
  q81 fuel m n s = some (q.filter fun p => inT s p.1,0,m) := by
 intro fuel
 induction fuel with
 | zero => intro L n q h; omega
 | succ fuel ih =>
  intro L n q hL hT hq hn
  have hc := qt4 (q92 hT)
  have hp := hw.pos n _ hc.2
  have n0 : ¬ n = 0 := by omega
  have hg := tr_get hT
  have hnd := tr_nd hT
  rw [q81]
  unfold q91
  rw [hg]
  simp only [n0,decide_false,cond_false,Option.bind_some,ne_eq,not_true_eq_false]
  rw [scan_leaf (by omega)]
  simp only [Option.bind_some]
  match L,hT with
  | 0,hT =>
   rw [Tr] at hT
   rw [hT.2.1]
   rw [qM]
   simp
  | L + 1,hT =>
   rw [Tr] at hT
   obtain ⟨_,ks,h1,h2,h3,qs,h4,h5⟩ := hT
   rw [h1]
   simp only [List.filter_nil]
   have hqf : Rising qs.flatten := h4 ▸ hq
   refine qg2 (Q := fun o => o = some (q.filter fun p => inT s p.1,0,m)) (fun v => ∃ D Z QD QZ,ks = D ++ Z ∧ qs = QD ++ QZ ∧ F2 (fun k q => Tr m L k.2 q ∧ ¬ fewN (ndOf m k.2) ∧ hd q = some k.1) Z QZ ∧ v = ((D.length : Int),m,QD.flatten.filter fun p => inT s p.1))
    (fun v => ((ks.length : Int) - v.1).toNat) (fun o => o = .inl (m,q.filter fun p => inT s p.1)) ⟨[],ks,[],qs,rfl,rfl,h5,rfl⟩ ?_ ?_
   ·rintro v ⟨D,Z,QD,QZ,e1,e2,e3,rfl⟩
    have hl : ks.length = D.length + Z.length := by rw [e1]; simp
    cases e3 with
    | nil =>
     right
     have t : ¬ ((D.length : Int) < (ks.length : Int)) := by simp at hl; omega
     refine ⟨.inl (m,q.filter fun p => inT s p.1),?_,rfl⟩
     simp only [t,decide_false,cond_false]
     rw [← h4,e2]; simp
    | @cons z qz Z' QZ' hz hzs =>
     left
     simp only [List.length_cons] at hl
     have t : ((D.length : Int) < (ks.length : Int)) := by omega
     have g0 : gx ks (D.length : Int) = some z := by rw [e1]; exact qI2 rfl
     have w1 : IntKind.wrap .i64 ((D.length : Int) + 1) = (D.length : Int) + 1 := w64 (by omega) (by omega)
     rw [e2,List.flatten_append,List.flatten_cons] at hqf
     obtain ⟨r1,r2,r3⟩ := qJ.1 hqf
     obtain ⟨r4,r5,r6⟩ := qJ.1 r2
     have lq : qs.flatten.length = q.length := by rw [h4]
     have lq' : QD.flatten.length + qz.length ≤ q.length := by rw [← lq,e2]; simp
     have fl1 := List.length_filter_le (fun p : Pr => inT s p.1) QD.flatten
     have fl2 := List.length_filter_le (fun p : Pr => inT s p.1) qz
     refine ⟨((D.length : Int) + 1,m,(QD ++ [qz]).flatten.filter fun p => inT s p.1),?_,⟨D ++ [z],Z',QD ++ [qz],QZ',by simp [e1],by simp [e2],hzs,by simp⟩,by simp; omega⟩
     simp only [t,decide_true,cond_true,w1]
     have hbe : ∃ bh,((cond (decide ((D.length : Int) + 1 < (ks.length : Int))) (
         (gx ks ((D.length : Int) + 1)).bind fun x1100 =>
         (qt x1100.1 s.1).bind fun x1103 =>
         some (decide (x1103 ≤ 0))
        ) (
         some false
        )) : Option Bool) = some bh ∧ (bh = true → ∀ x ∈ qz,inT s x.1 = false) := by
      cases hzs with
      | nil =>
       have t2 : ¬ ((D.length : Int) + 1 < (ks.length : Int)) := by simp at hl; omega
       exact ⟨false,by simp only [t2,decide_false,cond_false],fun h => by cases h⟩
      | @cons y qy Z2 QZ2 hy hys =>
       simp only [List.length_cons] at hl
       have t2 : ((D.length : Int) + 1 < (ks.length : Int)) := by omega
       have g1 : gx ks ((D.length : Int) + 1) = some y := by
        rw [e1,show D ++ z :: y :: Z2 = (D ++ [z]) ++ y :: Z2 by simp]; exact qI2 (by simp)
       refine ⟨decide (compareBytes y.1 s.1 ≤ 0),by simp only [t2,decide_true,cond_true,g1,Option.bind_some,cmp_eq],fun h x hx => ?_⟩
       have h' := of_decide_eq_true h
       obtain ⟨b,hb,eb⟩ := hd_mem hy.2.2
       have := r6 x hx b (by simp [hb])
       rw [eb] at this
       exact inT_low (cb_lt_le this h')
     obtain ⟨bh,b1,b2⟩ := hbe
     rw [b1]
     simp only [Option.bind_some]
     have hah : ∃ ah,((cond (!s.2.2) (
         (gx ks (D.length : Int)).bind fun x1121 =>
         (qt x1121.1 s.2.1).bind fun x1124 =>
         some (decide (x1124 ≥ 0))
        ) (
         some false
        )) : Option Bool) = some ah ∧ (ah = true → ∀ x ∈ qz,inT s x.1 = false) := by
      cases hs : s.2.2 with
      | true => exact ⟨false,rfl,fun h => by cases h⟩
      | false =>
       refine ⟨decide (compareBytes z.1 s.2.1 ≥ 0),by simp only [Bool.not_false,cond_true,g0,Option.bind_some,cmp_eq],fun h x hx => ?_⟩
       have h' := of_decide_eq_true h
       refine inT_high hs fun hl => ?_
       rcases hd_le hz.2.2 r4 x hx with e | e
       ·rw [e] at hl; unfold Lt at hl; omega
       ·have := lt_trans e hl; unfold Lt at this; omega
     obtain ⟨ah,a1,a2⟩ := hah
     rw [a1]
     simp only [Option.bind_some]
     have hor : (cond bh (some true) (some ah) : Option Bool) = some (bh || ah) := by cases bh <;> rfl
     rw [hor]
     simp only [Option.bind_some]
     have e0 : ((QD ++ [qz]).flatten.filter fun p => inT s p.1) = (QD.flatten.filter fun p => inT s p.1) ++ qz.filter fun p => inT s p.1 := by simp
     rw [e0]
     cases hb : (bh || ah) with
     | true =>
      have : (qz.filter fun p => inT s p.1) = [] := filter_none (by
       rcases Bool.or_eq_true _ _ |>.mp hb with h | h
       ·exact b2 h
       ·exact a2 h)
      rw [this]
      simp
     | false =>
      simp only [cond_false,g0,Option.bind_some]
      rw [ih L (by omega) hz.1 r4 (by omega)]
      simp only [Option.bind_some,not_true_eq_false,decide_false,cond_false]
      rw [qb1 (by omega)]
      rfl
   ·rintro o rfl
    rfl
theorem scan_eq {K : Int} {m : Mem} {s : Spn} (hw : WfM K m) {L : Nat} {n : Int} {q : List Pr} (hL : L < 16) (h : Tr m L n q) (hq : Rising q) (hn : q.length ≤ 1000000) : qf1 m n s = some (q.filter fun p => inT s p.1,0,m) :=
 scan_n hw 16 L hL h hq hn
theorem scan_zero {m : Mem} {s : Spn} : qf1 m 0 s = some ([],0,m) := by
 unfold qf1
 rw [q81]
 unfold q91
 simp
end Go.Val
namespace Go.Val
open Go.RowKit Go.Lib
abbrev KidR (m : Mem) (L : Nat) (k : Kd) (q : List Pr) : Prop := Tr m L k.2 q ∧ ¬ fewN (ndOf m k.2) ∧ hd q = some k.1
def qY4 (q : List Pr) : Prop := ∀ p ∈ q,p.2.size ≤ 40
theorem qT3 {K : Int} {m : Mem} {n : Int} (hw : WfM K m) (h : cnt m n ≠ 0) : 1 ≤ cnt m n ∧ cnt m n ≤ K ∧ 2 ≤ n ∧ n < m.1.1 := hw.pos n _ (qt4 h).2
theorem kids_ok {K : Int} {m : Mem} (hw : WfM K m) {L : Nat} : ∀ {ks : List Kd} {qs : List (List Pr)},F2 (KidR m L) ks qs → Rising qs.flatten → KidsOk ks
 | _,_,.nil,_ => ⟨by simp,by simp⟩
 | _,_,.cons (a := k) (b := q) (l := ks) (r := qs) h hs,hr => by
  rw [List.flatten_cons] at hr
  obtain ⟨r1,r2,r3⟩ := qJ.1 hr
  obtain ⟨i1,i2⟩ := kids_ok hw hs r2
  have hp := qT3 hw (q92 h.1)
  have hb := hw.blk
  refine ⟨fun k' hk' => ?_,?_⟩
  ·rcases List.mem_cons.1 hk' with rfl | hk'
   ·exact ⟨hp.2.2.1,by omega⟩
   ·exact i1 k' hk'
  ·rw [List.map_cons,List.nodup_cons]
   refine ⟨fun hm => ?_,i2⟩
   obtain ⟨k',hk',e⟩ := List.mem_map.1 hm
   obtain ⟨q',hq',hR⟩ := hs.mem k' hk'
   have e2 : q' = q := by
    have := hR.1
    rw [e] at this
    exact tr_unique this h.1
   obtain ⟨x,hx,_⟩ := hd_mem h.2.2
   exact lt_irrefl _ (r3 x hx x (List.mem_flatten.2 ⟨q',hq',by rw [e2]; exact hx⟩))
theorem right_inner {K : Int} {m : Mem} (hw : WfM K m) {L : Nat} {ks : List Kd} {qs : List (List Pr)} (hL : L + 1 < 12) (h2 : 2 ≤ ks.length) (h18 : ks.length ≤ 18) (h : F2 (KidR m L) ks qs) (hr : Rising qs.flatten) : RightN (((L + 1 : Nat) : Int),[],ks) := by
 refine ⟨by simp only; omega,by simp only; omega,fun h0 => ?_,fun _ => ⟨h2,h18,rfl⟩,by simp,kids_ok hw h hr,by simp [Rising,Asc],qy4 (fun k q hk => hk.2.2) h hr⟩
 have h0' : ((L + 1 : Nat) : Int) = 0 := h0
 omega
theorem right_leaf {q : List Pr} (h1 : 1 ≤ q.length) (h7 : q.length ≤ 7) (hr : Rising q) (hs : qY4 q) : RightN (0,q,[]) :=
 ⟨by simp,by simp,fun _ => ⟨h1,h7,rfl⟩,fun h => by simp at h,hs,⟨by simp,by simp⟩,hr,by simp [Rising,Asc]⟩
theorem tr_right {K : Int} {m : Mem} (hw : WfM K m) : ∀ {L : Nat} {n : Int} {q : List Pr},L < 12 → Tr m L n q → Rising q → qY4 q → RightN (ndOf m n)
 | 0,n,q,_,h,hr,hs => by
  rw [Tr] at h
  rw [h.2.1]
  exact right_leaf h.2.2.1 h.2.2.2 hr hs
 | L + 1,n,q,hL,h,hr,hs => by
  rw [Tr] at h
  obtain ⟨_,ks,h1,h2,h3,qs,h4,h5⟩ := h
  rw [h1]
  exact right_inner hw hL h2 h3 h5 (h4 ▸ hr)
theorem rightB {x : Nd} (h : RightN x) : qF1 x = some true := by
 have h1 : x.2.1.length ≤ 1000000000 := by
  obtain ⟨a,b,c,d,_⟩ := h
  by_cases e : x.1 = 0
  ·have := c e; omega
  ·have := d (by omega); omega
 have h2 : x.2.2.length ≤ 1000000000 := by
  obtain ⟨a,b,c,d,_⟩ := h
  by_cases e : x.1 = 0
  ·have := c e; omega
  ·have := d (by omega); omega
 obtain ⟨b,e1,e2⟩ := right_eq h1 h2
 rw [e1,e2.2 h]
theorem qH4 {m : Mem} {L : Nat} {n : Int} {q : List Pr} (h : Tr m L n q) (hn : q.length ≤ 1000000) : L < 7 := by
 match L,h with
 | 0,_ => omega
 | L + 1,h =>
  rw [Tr] at h
  obtain ⟨_,ks,h1,h2,h3,qs,h4,h5⟩ := h
  have := qi4 (R := KidR m L) (c := 3 * 9 ^ L) (fun k q hk => tr_size hk.1 hk.2.1) h5
  rw [h4] at this
  have h2' : 2 * (3 * 9 ^ L) ≤ ks.length * (3 * 9 ^ L) := Nat.mul_le_mul_right _ h2
  refine Nat.lt_of_not_le fun h6 => ?_
  have h9 : 9 ^ 6 ≤ 9 ^ L := Nat.pow_le_pow_right (by omega) (by omega)
  have : (9 : Nat) ^ 6 = 531441 := by decide
  omega
instance (x : Nd) : Decidable (fewN x) := by
 unfold fewN
 split <;> infer_instance
theorem few_nd (x : Nd) : qI4 x = some (decide (fewN x)) := by
 obtain ⟨l,ps,ks⟩ := x
 unfold qI4 fewN
 by_cases h : l = 0
 ·simp [h]
  constructor <;> intro <;> omega
 ·simp [h]
  constructor <;> intro <;> omega
theorem first_tr {m : Mem} : ∀ {L : Nat} {n : Int} {q : List Pr} {k : Ky},Tr m L n q → hd q = some k → qY1 (ndOf m n) = some k
 | 0,n,q,k,h,hk => by
  rw [Tr] at h
  rw [h.2.1]
  match q,hk with
  | x :: q,hk =>
   have e : x.1 = k := by simpa [hd] using hk
   unfold qY1
   rw [show gx (x :: q) 0 = some x from rfl]
   simp [e]
 | L + 1,n,q,k,h,hk => by
  rw [Tr] at h
  obtain ⟨_,ks,h1,h2,h3,qs,h4,h5⟩ := h
  rw [h1]
  match ks,qs,h5 with
  | k0 :: ks,q0 :: qs,.cons h h5 =>
   have e : k0.1 = k := by
    rw [← h4,List.flatten_cons,hd_app (hd_ne h.2.2),h.2.2] at hk
    exact Option.some.inj hk
   unfold qY1
   rw [show gx (k0 :: ks) 0 = some k0 from rfl]
   simp [e]
theorem check_n {K : Int} {m : Mem} (hw : WfM K m) : ∀ (fuel L : Nat) {n : Int} {q : List Pr} {t : Ky × Bool},L < fuel → L < 12 → Tr m L n q → Rising q → qY4 q → (t.2 = true → ∀ x ∈ q,Lt x.1 t.1) →
  qg1 fuel m (ndOf m n) t = some (0,m) := by
 intro fuel
 induction fuel with
 | zero => intro L n q t h; omega
 | succ fuel ih =>
  intro L n q t hL h12 hT hr hs ht
  have hR := tr_right hw h12 hT hr hs
  rw [qg1]
  unfold qq1
  rw [rightB hR]
  simp only [Option.bind_some,Bool.not_true,cond_false]
  have hlast : ∃ k,((cond (decide ((ndOf m n).1 = 0)) (
    (gx (ndOf m n).2.1 (IntKind.wrap .i64 (((ndOf m n).2.1.length : Int) - 1))).bind fun x22 =>
    some x22.1
   ) (
    (gx (ndOf m n).2.2 (IntKind.wrap .i64 (((ndOf m n).2.2.length : Int) - 1))).bind fun x25 =>
    some x25.1
   )) : Option (List UInt8)) = some k ∧ ∃ x ∈ q,x.1 = k := by
   match L,hT with
   | 0,hT =>
    rw [Tr] at hT
    rw [hT.2.1]
    rcases qX0 q with rfl | ⟨D,z,rfl⟩
    ·simp at hT
    ·refine ⟨z.1,?_,z,by simp,rfl⟩
     have hl7 := hT.2.2.2
     simp only [List.length_append,List.length_cons,List.length_nil] at hl7
     have e : IntKind.wrap .i64 (((D ++ [z]).length : Int) - 1) = (D.length : Int) := by
      rw [w64 (by simp <;> omega) (by simp <;> omega)]; simp
     simp only [decide_true,cond_true]
     rw [e,show gx (D ++ [z]) (D.length : Int) = some z from qI2 rfl]
     rfl
   | L + 1,hT =>
    rw [Tr] at hT
    obtain ⟨_,ks,h1,h2,h3,qs,h4,h5⟩ := hT
    rw [h1]
    rcases qX0 ks with rfl | ⟨D,z,rfl⟩
    ·simp at h2
    ·have h0 : ¬ ((L + 1 : Nat) : Int) = 0 := by omega
     simp only [List.length_append,List.length_cons,List.length_nil] at h3
     have e : IntKind.wrap .i64 (((D ++ [z]).length : Int) - 1) = (D.length : Int) := by
      rw [w64 (by simp <;> omega) (by simp <;> omega)]; simp
     obtain ⟨q',hq',hR'⟩ := h5.mem z (by simp)
     obtain ⟨x,hx,ex⟩ := hd_mem hR'.2.2
     refine ⟨z.1,?_,x,by rw [← h4]; exact List.mem_flatten.2 ⟨q',hq',hx⟩,ex⟩
     simp only [h0,decide_false,cond_false]
     rw [e,show gx (D ++ [z]) (D.length : Int) = some z from qI2 rfl]
     rfl
  obtain ⟨k,k1,x,hx,ex⟩ := hlast
  rw [k1]
  simp only [Option.bind_some]
  have hb : ((cond t.2 (
    (qt k t.1).bind fun x40 =>
    some (decide (x40 ≥ 0))
   ) (
    some false
   )) : Option Bool) = some false := by
   cases h : t.2 with
   | false => rfl
   | true =>
    have := ht h x hx
    rw [ex] at this
    unfold Lt at this
    have h' : ¬ (compareBytes k t.1 ≥ 0) := by omega
    simp only [cond_true,cmp_eq,Option.bind_some,h',decide_false]
  rw [hb]
  simp only [Option.bind_some,cond_false]
  match L,hT with
  | 0,hT =>
   rw [Tr] at hT
   rw [hT.2.1,qM]
   simp
  | L + 1,hT =>
   rw [Tr] at hT
   obtain ⟨_,ks,h1,h2,h3,qs,h4,h5⟩ := hT
   rw [h1]
   have hqf : Rising qs.flatten := h4 ▸ hr
   refine qg2 (Q := fun o => o = some (0,m)) (fun v => ∃ D Z QD QZ,ks = D ++ Z ∧ qs = QD ++ QZ ∧ F2 (KidR m L) Z QZ ∧ v = ((D.length : Int),m))
    (fun v => ((ks.length : Int) - v.1).toNat) (fun o => o = .inl m) ⟨[],ks,[],qs,rfl,rfl,h5,rfl⟩ ?_ ?_
   ·rintro v ⟨D,Z,QD,QZ,e1,e2,e3,rfl⟩
    have hl : ks.length = D.length + Z.length := by rw [e1]; simp
    cases e3 with
    | nil =>
     right
     have t : ¬ ((D.length : Int) < (ks.length : Int)) := by simp at hl; omega
     exact ⟨.inl m,by simp only [t,decide_false,cond_false],rfl⟩
    | @cons z qz Z' QZ' hz hzs =>
     left
     simp only [List.length_cons] at hl
     have tt : ((D.length : Int) < (ks.length : Int)) := by omega
     have g0 : gx ks (D.length : Int) = some z := by rw [e1]; exact qI2 rfl
     have w1 : IntKind.wrap .i64 ((D.length : Int) + 1) = (D.length : Int) + 1 := w64 (by omega) (by omega)
     have w2 : IntKind.wrap .i64 (((L + 1 : Nat) : Int) - 1) = (L : Int) := by rw [w64 (by omega) (by omega)]; omega
     rw [e2,List.flatten_append,List.flatten_cons] at hqf
     obtain ⟨r1,r2,r3⟩ := qJ.1 hqf
     obtain ⟨r4,r5,r6⟩ := qJ.1 r2
     refine ⟨((D.length : Int) + 1,m),?_,⟨D ++ [z],Z',QD ++ [qz],QZ',by simp [e1],by simp [e2],hzs,by simp⟩,by simp; omega⟩
     simp only [tt,decide_true,cond_true,w1,g0,Option.bind_some,tr_get hz.1,ne_eq,not_true_eq_false,decide_false,cond_false]
     have hsub : ∀ x ∈ qz,x ∈ q := fun x hx => by rw [← h4,e2]; simp [hx]
     have hnx : ∃ t',((cond (decide ((D.length : Int) + 1 < (ks.length : Int))) (
         (gx ks ((D.length : Int) + 1)).bind fun x439 =>
         some (x439.1,true)
        ) (
         some t
        )) : Option ((List UInt8) × Bool)) = some t' ∧ (t'.2 = true → ∀ x ∈ qz,Lt x.1 t'.1) := by
      cases hzs with
      | nil =>
       have t2 : ¬ ((D.length : Int) + 1 < (ks.length : Int)) := by simp at hl; omega
       exact ⟨t,by simp only [t2,decide_false,cond_false],fun h x hx => ht h x (hsub x hx)⟩
      | @cons y qy Z2 QZ2 hy hys =>
       simp only [List.length_cons] at hl
       have t2 : ((D.length : Int) + 1 < (ks.length : Int)) := by omega
       have g1 : gx ks ((D.length : Int) + 1) = some y := by
        rw [e1,show D ++ z :: y :: Z2 = (D ++ [z]) ++ y :: Z2 by simp]; exact qI2 (by simp)
       refine ⟨(y.1,true),by simp only [t2,decide_true,cond_true,g1,Option.bind_some],fun h x hx => ?_⟩
       obtain ⟨b,hb,eb⟩ := hd_mem hy.2.2
       have := r6 x hx b (by simp [hb])
       rw [eb] at this
       exact this
     obtain ⟨t',n1,n2⟩ := hnx
     rw [n1]
     simp only [Option.bind_some,w2,(tr_nd hz.1).1,not_true_eq_false,decide_false,cond_false,first_tr hz.1 hz.2.2,decide_true,Bool.not_true,few_nd,hz.2.1]
     rw [ih L (by omega) (by omega) hz.1 r4 (fun x hx => hs x (hsub x hx)) n2]
     rfl
   ·rintro o rfl
    rfl
theorem check_eq {K : Int} {m : Mem} (hw : WfM K m) {L : Nat} {n : Int} {q : List Pr} (h : Tr m L n q) (hr : Rising q) (hs : qY4 q) (hn : q.length ≤ 1000000) : qo0 m n = some (0,m) := by
 have hp := qT3 hw (q92 h)
 have n0 : ¬ n = 0 := by omega
 have hL := qH4 h hn
 unfold qo0 q93
 simp only [n0,decide_false,cond_false,tr_get h,Option.bind_some,ne_eq,not_true_eq_false]
 rw [check_n hw 16 L (by omega) (by omega) h hr hs (fun h => by cases h)]
 rfl
theorem check_zero {m : Mem} : qo0 m 0 = some (0,m) := by
 unfold qo0
 simp
end Go.Val
namespace Go.Val
open Go.RowKit Go.Lib
def used (m : Mem) : Nat := m.1.2.1.length
def Live (m : Mem) : Prop := ∀ n,cnt m n ≠ 0 → ∃ L q,L < 12 ∧ Tr m L n q ∧ Rising q ∧ qY4 q
def frs : Nat → Pt → Nat
 | 0,(_,_,none) => 0
 | 0,(_,_,some _) => 1
 | L + 1,(_,_,none) => 0
 | L + 1,(_,_,some (.mk _ _ ks)) => 1 + (ks.map (frs L)).sum
structure StM (K : Nat) (m : Mem) (R : List Int) : Prop where
 wf : WfM (K : Int) m
 live : Live m
 rc : RC m R
structure Wr (K : Nat) (m : Mem) (d R : List Int) (L : Nat) (p : Pt) (q : List Pr) (n : Int) (d' : List Int) (m' : Mem) (c : Nat) : Prop where
 tr : Tr m' L n q
 grow : Grow m m'
 st : StM (K + c) m' (R ++ [n])
 blk : m'.1.1 = m.1.1
 used : used m' = used m + frs L p
 dlen : d'.length = d.length + c
 fr : frs L p ≤ c
 c1 : 2 * c ≤ q.length + 1
 c2 : ¬ fewP p → ¬ fewN (ndOf m' n) ∧ 2 * c + 1 ≤ q.length
theorem WfM.mono {K K' : Int} {m : Mem} (h : WfM K m) (hK : K ≤ K') : WfM K' m := ⟨h.blk,h.low,h.full,h.nodup,fun n c hc => by
 obtain ⟨a,b,c,d⟩ := h.pos n c hc
 exact ⟨a,by omega,c,d⟩⟩
theorem live_grow {m m' : Mem} (h : Live m) (hg : Grow m m') (hn : ∀ n,cnt m' n ≠ 0 → cnt m n = 0 → ∃ L q,L < 12 ∧ Tr m' L n q ∧ Rising q ∧ qY4 q) : Live m' := fun n hc => by
 by_cases h0 : cnt m n = 0
 ·exact hn n hc h0
 ·obtain ⟨L,q,a,b,c⟩ := h n h0
  exact ⟨L,q,a,Tr.ext hg b,c⟩
theorem tr_rising_level {m : Mem} {L : Nat} {n : Int} {q : List Pr} (h : Tr m L n q) (hn : q.length ≤ 1000000) : L < 12 := by
 have := qH4 h hn
 omega
theorem inc_st {K : Nat} {m : Mem} {R : List Int} {b : Int} (h : StM K m R) (hK : K ≤ 1000000000000) (hb : cnt m b ≠ 0) :
  qq0 m b = some (0,incM m b) ∧ StM (K + 1) (incM m b) (R ++ [b]) ∧ Grow m (incM m b) ∧ (incM m b).1.1 = m.1.1 ∧ used (incM m b) = used m := by
 obtain ⟨e1,e2⟩ := inc_eq h.wf (by omega) hb
 have hg : Grow m (incM m b) := ext_inc hb (qT3 h.wf hb).1
 refine ⟨e1,⟨e2.mono (by omega),live_grow h.live hg fun n hc h0 => ?_,rc_inc h.rc hb⟩,hg,rfl,mset_len (qt4 hb).1⟩
 rw [cnt_inc] at hc
 by_cases e : n = b
 ·exact absurd h0 (e ▸ hb)
 ·rw [if_neg e] at hc; exact absurd h0 hc
theorem put_st {K : Nat} {m : Mem} {R : List Int} {x : Nd} (h : StM K m (R ++ qH2 x)) (hK : 1 ≤ K) (hx : RightN x) (h1 : x.2.1.length ≤ 1000000000) (h2 : x.2.2.length ≤ 1000000000) (hf : (used m : Int) < m.1.1 - 2)
  {L : Nat} {q : List Pr} (hT : ∀ m' n,Grow m m' → cnt m' n ≠ 0 → ndOf m' n = x → Tr m' L n q) (hL : L < 12) (hr : Rising q) (hs : qY4 q) :
  ∃ n m',qH0 m x = some (n,0,m') ∧ Tr m' L n q ∧ ndOf m' n = x ∧ StM K m' (R ++ [n]) ∧ Grow m m' ∧ m'.1.1 = m.1.1 ∧ used m' = used m + 1 ∧ cnt m n = 0 := by
 obtain ⟨n,e1,e2,e3,e4,e5⟩ := put_eq h.wf (by omega) hx h1 h2 hf
 have hg : Grow m (putM m n x) := ext_put e2
 have hn : ndOf (putM m n x) n = x := by rw [nd_put,if_pos rfl]
 have hc : cnt (putM m n x) n ≠ 0 := by rw [cnt_put,if_pos rfl]; omega
 have ht := hT _ n hg hc hn
 refine ⟨n,putM m n x,e1,ht,hn,⟨e5,live_grow h.live hg fun k hk h0 => ?_,rc_put h.wf h.rc e2⟩,hg,rfl,mset_len_new (cnt_not h.wf e2),e2⟩
 by_cases e : k = n
 ·subst e; exact ⟨L,q,hL,ht,hr,hs⟩
 ·rw [cnt_put,if_neg e] at hk; exact absurd h0 hk
theorem frs_none {L : Nat} {k : Ky} {b : Int} : frs L (k,b,none) = 0 := by cases L <;> rw [frs]
theorem ptOk_none {m : Mem} {L : Nat} {k : Ky} {b : Int} {q : List Pr} (h : PtOk m L (k,b,none) q) : Tr m L b q ∧ ¬ fewN (ndOf m b) ∧ hd q = some k := by
 match L,h with
 | 0,h => rw [PtOk] at h; exact h
 | L + 1,h => rw [PtOk] at h; exact h
theorem F2.snoc {α β : Type} {R : α → β → Prop} {l : List α} {r : List β} {a : α} {b : β} (h : F2 R l r) (k : R a b) : F2 R (l ++ [a]) (r ++ [b]) := h.app (.cons k .nil)
theorem kidR_grow {m m' : Mem} (hg : Grow m m') {L : Nat} {k : Kd} {q : List Pr} (h : KidR m L k q) : KidR m' L k q := by
 obtain ⟨_,g2⟩ := hg k.2 (q92 h.1)
 exact ⟨Tr.ext hg h.1,by rw [g2]; exact h.2.1,h.2.2⟩
def NotOne (p : Pt) : Prop := ∀ l ps ks,p.2.2 = some (.mk l ps ks) → ks.length ≠ 1
theorem notFew_notOne {m : Mem} : ∀ {L : Nat} {p : Pt} {q : List Pr},PtOk m L p q → ¬ fewP p → NotOne p
 | 0,(k,b,none),q,h,_ => fun l ps ks e => by cases e
 | L + 1,(k,b,none),q,h,_ => fun l ps ks e => by cases e
 | 0,(k,b,some (.mk l ps ks)),q,h,hf => fun l' ps' ks' e => by
  rw [PtOk] at h
  simp only [Option.some.injEq,Fr.mk.injEq] at e
  rw [← e.2.2,h.2.1]; simp
 | L + 1,(k,b,some (.mk l ps ks)),q,h,hf => fun l' ps' ks' e => by
  rw [PtOk] at h
  have h0 : ¬ (l = 0) := by omega
  simp only [fewP,h0,if_false] at hf
  simp only [Option.some.injEq,Fr.mk.injEq] at e
  rw [← e.2.2]; omega
theorem write_n : ∀ (fuel L : Nat) {K : Nat} {m : Mem} {d R : List Int} {p : Pt} {q : List Pr},L < fuel → L < 12 → PtOk m L p q → NotOne p → StM K m R → 1 ≤ K → K + q.length ≤ 1000000000000 → d.length + q.length ≤ 1000000000 →
  (used m : Int) + q.length ≤ m.1.1 - 2 → Rising q → qY4 q →
  ∃ n d' m' c,qj0 fuel d p m = some (n,0,d',m') ∧ Wr K m d R L p q n d' m' c := by
 intro fuel
 induction fuel with
 | zero => intro L K m d R p q h; omega
 | succ fuel ih =>
  intro L K m d R p q hL h12 hp h1 hst hK hKq hd hroom hr hs
  rw [qj0]
  unfold qv0
  obtain ⟨k,b,f⟩ := p
  match f with
  | none =>
   obtain ⟨t1,t2,t3⟩ := ptOk_none hp
   obtain ⟨i1,i2,i3,i4,i5⟩ := inc_st hst (by omega) (q92 t1)
   have hq := tr_size t1 t2
   have h9 : 1 ≤ 9 ^ L := Nat.one_le_pow _ _ (by omega)
   refine ⟨b,d ++ [b],incM m b,1,?_,⟨Tr.ext i3 t1,i3,i2,i4,by rw [i5,frs_none]; rfl,by simp,by rw [frs_none]; omega,by omega,fun _ => ⟨?_,by omega⟩⟩⟩
   ·simp only [Option.isNone_none,cond_true]
    rw [i1]
    simp only [Option.bind_some,decide_true,cond_true]
    rw [qb1 (by simp; omega)]
    rfl
   ·rw [(i3 b (q92 t1)).2]; exact t2
  | some (.mk l ps ks) =>
   simp only [Option.isNone_some,cond_false,frOf,Option.bind_some]
   match L,hp with
   | 0,hp =>
    rw [PtOk] at hp
    obtain ⟨rfl,rfl,rfl,a1,a2,a3⟩ := hp
    rw [qM]
    obtain ⟨n,m',e1,e2,e3,e4,e5,e6,e7,e8⟩ := put_st (x := (0,ps,[])) (R := R) (K := K) (by simpa [qH2] using hst) hK (right_leaf a1 a2 hr hs) (by simp only; omega) (by simp) (by omega) (L := 0) (q := ps)
     (fun m' n hg hc hn => by rw [Tr]; exact ⟨hc,hn,a1,a2⟩) (by omega) hr hs
    refine ⟨n,d ++ [n],m',1,?_,⟨e2,e5,⟨e4.wf.mono (by omega),e4.live,e4.rc⟩,e6,by rw [e7,frs],by simp,by rw [frs]; omega,by omega,fun hf => ?_⟩⟩
    ·have : ¬ ((0 : Int) < ((([] : List Pt).length : Nat) : Int)) := by simp
     simp only [this,decide_false,cond_false,Option.bind_some,Sum.elim_inl]
     rw [e1]
     simp only [Option.bind_some,decide_true,cond_true]
     rw [qb1 (by simp; omega)]
     rfl
    ·simp [fewP] at hf
     rw [e3]
     refine ⟨?_,by omega⟩
     simp [fewN]; omega
   | L + 1,hp =>
    rw [PtOk] at hp
    obtain ⟨rfl,rfl,a1,a2,a3,qs,a4,a5,a6⟩ := hp
    have hk1 : ks.length ≠ 1 := h1 _ _ _ rfl
    have a6' := a6 (by omega)
    have hrf : Rising qs.flatten := a4 ▸ hr
    refine qg2 (Q := fun o => ∃ n d' m' c,o = some (n,0,d',m') ∧ Wr K m d R (L + 1) (k,b,some (.mk ((L + 1 : Nat) : Int) [] ks)) q n d' m' c)
     (fun v => ∃ D Z QD QZ c,∃ (d1 : List Int) (m1 : Mem) (kds : List Kd),ks = D ++ Z ∧ qs = QD ++ QZ ∧ F2 (PtOk m1 L) Z QZ ∧ v = ((D.length : Int),d1,m1,(((L + 1 : Nat) : Int),[],kds)) ∧ F2 (KidR m1 L) kds QD ∧ kds.length = D.length ∧
      Grow m m1 ∧ StM (K + c) m1 (R ++ kds.map (·.2)) ∧ m1.1.1 = m.1.1 ∧ used m1 = used m + (D.map (frs L)).sum ∧ d1.length = d.length + c ∧ (D.map (frs L)).sum ≤ c ∧ 2 * c + D.length ≤ QD.flatten.length)
     (fun v => ((ks.length : Int) - v.1).toNat)
     (fun o => ∃ c,∃ (d1 : List Int) (m1 : Mem) (kds : List Kd),o = .inl (d1,m1,(((L + 1 : Nat) : Int),[],kds)) ∧ F2 (KidR m1 L) kds qs ∧ kds.length = ks.length ∧
      Grow m m1 ∧ StM (K + c) m1 (R ++ kds.map (·.2)) ∧ m1.1.1 = m.1.1 ∧ used m1 = used m + (ks.map (frs L)).sum ∧ d1.length = d.length + c ∧ (ks.map (frs L)).sum ≤ c ∧ 2 * c + ks.length ≤ qs.flatten.length)
     ⟨[],ks,[],qs,0,d,m,[],rfl,rfl,a5,rfl,.nil,rfl,Grow.refl m,by simpa using hst,rfl,by simp,by simp,by simp,by simp⟩ ?_ ?_
    ·rintro v ⟨D,Z,QD,QZ,c,d1,m1,kds,e1,e2,e3,rfl,e4,e5,e6,e7,e8,e9,e10,e11,e12⟩
     have hl : ks.length = D.length + Z.length := by rw [e1]; simp
     cases e3 with
     | nil =>
      right
      have t : ¬ ((D.length : Int) < (ks.length : Int)) := by simp at hl; omega
      rw [List.append_nil] at e1 e2
      subst e1; subst e2
      exact ⟨.inl (d1,m1,(((L + 1 : Nat) : Int),[],kds)),by simp only [t,decide_false,cond_false],c,d1,m1,kds,rfl,e4,e5,e6,e7,e8,e9,e10,e11,e12⟩
     | @cons z qz Z' QZ' hz hzs =>
      left
      simp only [List.length_cons] at hl
      have tt : ((D.length : Int) < (ks.length : Int)) := by omega
      have g0 : gx ks (D.length : Int) = some z := by rw [e1]; exact qI2 rfl
      have w1 : IntKind.wrap .i64 ((D.length : Int) + 1) = (D.length : Int) + 1 := w64 (by omega) (by omega)
      have hrf' := hrf
      rw [e2,List.flatten_append,List.flatten_cons] at hrf'
      have r4 := (qJ.1 (qJ.1 hrf').2.1).1
      have hsz : qY4 qz := fun x hx => hs x (by rw [← a4,e2]; simp [hx])
      have lq : q.length = QD.flatten.length + qz.length + QZ'.flatten.length := by rw [← a4,e2]; simp; omega
      have hzf : ¬ fewP z := a6' z (by rw [e1]; simp)
      obtain ⟨n,d2,m2,c2,f1,f2⟩ := ih L (K := K + c) (m := m1) (d := d1) (R := R ++ kds.map (·.2)) (p := z) (q := qz) (by omega) (by omega) hz (notFew_notOne hz hzf) e7 (by omega) (by omega) (by omega) (by rw [e8]; omega) r4 hsz
      obtain ⟨f3,f4⟩ := f2.c2 hzf
      have hhd := ptOk_hd hz
      refine ⟨((D.length : Int) + 1,d2,m2,(((L + 1 : Nat) : Int),[],kds ++ [(z.1,n)])),?_,⟨D ++ [z],Z',QD ++ [qz],QZ',c + c2,d2,m2,kds ++ [(z.1,n)],by simp [e1],by simp [e2],hzs.imp fun p q h => PtOk.ext f2.grow h,by simp,?_,by simp [e5],e6.trans f2.grow,?_,by rw [f2.blk,e8],?_,by rw [f2.dlen]; omega,?_,?_⟩,by simp; omega⟩
      ·simp only [tt,decide_true,cond_true,g0,Option.bind_some]
       rw [f1]
       simp only [Option.bind_some,ne_eq,not_true_eq_false,decide_false,cond_false,w1]
       rw [qb1 (by simp; omega)]
       rfl
      ·exact (e4.imp fun k q h => kidR_grow f2.grow h).snoc ⟨f2.tr,f3,hhd⟩
      ·have := f2.st
       rw [show K + (c + c2) = K + c + c2 by omega]
       rw [List.map_append,← List.append_assoc]
       exact this
      ·rw [f2.used,e9]; simp; omega
      ·have := f2.fr; simp; omega
      ·have : (QD ++ [qz]).flatten.length = QD.flatten.length + qz.length := by simp
       rw [this,List.length_append,List.length_singleton]; omega
    ·rintro o ⟨c,d1,m1,kds,rfl,e4,e5,e6,e7,e8,e9,e10,e11,e12⟩
     simp only [Sum.elim_inl]
     have lq : qs.flatten.length = q.length := by rw [a4]
     obtain ⟨n,m',p1,p2,p3,p4,p5,p6,p7,p8⟩ := put_st (x := (((L + 1 : Nat) : Int),[],kds)) (R := R) (K := K + c) e7 (by omega) (right_inner e7.wf (by omega) (by omega) (by omega) e4 hrf) (by simp) (by simp only; omega) (by rw [e8]; omega) (L := L + 1) (q := q)
      (fun m' n hg hc hn => by
       rw [Tr]
       exact ⟨hc,kds,hn,by omega,by omega,qs,a4,e4.imp fun k q h => kidR_grow hg h⟩) (by omega) hr hs
     refine ⟨n,d1 ++ [n],m',c + 1,?_,⟨p2,e6.trans p5,⟨p4.wf.mono (by omega),p4.live,p4.rc⟩,by rw [p6,e8],?_,by simp; omega,?_,by omega,fun hf => ⟨?_,?_⟩⟩⟩
     ·rw [p1]
      simp only [Option.bind_some,decide_true,cond_true]
      rw [qb1 (by simp; omega)]
      rfl
     ·rw [p7,e9,frs]; omega
     ·rw [frs]; omega
     ·have h0 : ¬ (((L + 1 : Nat) : Int) = 0) := by omega
      simp only [fewP,h0,if_false] at hf
      rw [p3]
      simp only [fewN,h0,if_false]
      omega
     ·have h0 : ¬ (((L + 1 : Nat) : Int) = 0) := by omega
      simp only [fewP,h0,if_false] at hf
      omega
theorem write_eq {L K : Nat} {m : Mem} {d R : List Int} {p : Pt} {q : List Pr} (hL : L < 12) (hp : PtOk m L p q) (h1 : NotOne p) (hst : StM K m R) (hK : 1 ≤ K) (hKq : K + q.length ≤ 1000000000000) (hd : d.length + q.length ≤ 1000000000)
  (hroom : (used m : Int) + q.length ≤ m.1.1 - 2) (hr : Rising q) (hs : qY4 q) :
  ∃ n d' m' c,q41 d p m = some (n,0,d',m') ∧ Wr K m d R L p q n d' m' c :=
 write_n 16 L (by omega) hL hp h1 hst hK hKq hd hroom hr hs
end Go.Val
namespace Go.Val
open Go.RowKit Go.Lib
def Root (m : Mem) (r : Int) (q : List Pr) : Prop := (r = 0 ∧ q = []) ∨ (r ≠ 0 ∧ ∃ L,Tr m L r q)
def rl (r : Int) : List Int := if r = 0 then [] else [r]
def ShortC (l : List Cg) : Prop := ∀ c ∈ l,c.2.1.size ≤ 40
theorem root_grow {m m' : Mem} (hg : Grow m m') {r : Int} {q : List Pr} (h : Root m r q) : Root m' r q := by
 rcases h with h | ⟨h0,L,h⟩
 ·exact .inl h
 ·exact .inr ⟨h0,L,Tr.ext hg h⟩
theorem root_tr {m : Mem} {r : Int} {q : List Pr} (h : Root m r q) (h0 : r ≠ 0) : ∃ L,Tr m L r q := by
 rcases h with ⟨h,_⟩ | ⟨_,h⟩
 ·exact absurd h h0
 ·exact h
theorem apply_loop {l : List Cg} {m : Mem} (hl : ShortC l) (hn : l.length ≤ 1000000) : (qP (V := Int) (O := (Unit ⊕ (Int × Int × Mem))) (fun v57 =>
   cond (decide (v57 < (l.length : Int))) (
    (gx l v57).bind fun x64 =>
    cond (decide ((x64.2.1.size : Int) > 40)) (
     some (.inr (.inr (0,1,m)))
    ) (
     some (.inl (IntKind.wrap .i64 (v57 + 1)))
    )
   ) (
    some (.inr (.inl ()))
   )
  ) 0) = some (.inl ()) := by
 refine whileO_is (fun v => ∃ D Z,l = D ++ Z ∧ v = (D.length : Int)) (fun v => ((l.length : Int) - v).toNat) ⟨[],l,rfl,rfl⟩ ?_
 rintro v ⟨D,Z,e1,rfl⟩
 have hlen : l.length = D.length + Z.length := by rw [e1]; simp
 match Z with
 | [] =>
  right
  have t : ¬ ((D.length : Int) < (l.length : Int)) := by simp at hlen; omega
  simp only [t,decide_false,cond_false]
 | z :: Z' =>
  left
  simp only [List.length_cons] at hlen
  have t : ((D.length : Int) < (l.length : Int)) := by omega
  have g0 : gx l (D.length : Int) = some z := by rw [e1]; exact qI2 rfl
  have hz := hl z (by rw [e1]; simp)
  have t2 : ¬ ((z.2.1.size : Int) > 40) := by omega
  refine ⟨(D.length : Int) + 1,?_,⟨D ++ [z],Z',by simp [e1],by simp⟩,by omega⟩
  simp only [t,decide_true,cond_true,g0,Option.bind_some,t2,decide_false,cond_false]
  rw [w64 (by omega) (by omega)]
theorem mg_apply {q : List Pr} {l s : List Cg} (hr : Rising q) (hs : Rising s) (hg : ∀ k,mget s k = mget l.reverse k) : mgP q s = qn1 q l := by
 obtain ⟨h1,h2⟩ := mgP_spec hr hs
 refine q02 h1 (q50 q l) fun k => ?_
 rw [h2,qN0,qC2 hr,hg]
 rfl
theorem qa3 {q : List Pr} {l : List Cg} (hr : Rising q) (hs : qY4 q) (hl : ShortC l) : qY4 (qn1 q l) := fun p hp => by
 have h1 : mget (qn1 q l) p.1 = some p.2 := qc1 (q50 q l).nodup hp
 rw [qN0,qC2 hr] at h1
 unfold updF at h1
 cases hm : mget l.reverse p.1 with
 | none => rw [hm] at h1; exact hs _ (qx0 h1)
 | some e =>
  rw [hm] at h1
  have h1 : eff e = some p.2 := h1
  unfold eff at h1
  have := hl _ (List.mem_reverse.1 (qx0 hm))
  by_cases hg : e.2 = true
  ·rw [if_pos hg] at h1; cases h1
  ·rw [if_neg hg] at h1
   rw [← Option.some.inj h1]; exact this
theorem applyP_nil {q : List Pr} (hr : Rising q) : qn1 q [] = q := by
 refine q02 (q50 q []) hr fun k => ?_
 rw [qN0,qC2 hr]; rfl
theorem apply_eq {K : Nat} {m : Mem} {R : List Int} {r : Int} {q : List Pr} {l : List Cg} (hst : StM K m R) (hK : 1 ≤ K) (hKq : K ≤ 100000000000) (hroot : Root m r q) (hr : Rising q) (hs : qY4 q) (hl : ShortC l)
  (hn : q.length + l.length ≤ 1000000) (hroom : (used m : Int) + (q.length + l.length) ≤ m.1.1 - 2) :
  ∃ n m' c,qu0 m r l = some (n,0,m') ∧ Root m' n (qn1 q l) ∧ Grow m m' ∧ StM (K + c) m' (R ++ rl n) ∧ m'.1.1 = m.1.1 ∧ used m' ≤ used m + c ∧ 2 * c ≤ (qn1 q l).length + 1 ∧
   (l = [] → n = r ∧ (r ≠ 0 → m' = incM m r)) := by
 unfold qu0
 rw [apply_loop hl (by omega)]
 simp only [Option.bind_some,Sum.elim_inl]
 by_cases hl0 : l = []
 ·subst hl0
  rw [applyP_nil hr]
  have : ((([] : List Cg).length : Nat) : Int) = 0 := rfl
  simp only [this,decide_true,cond_true]
  by_cases hr0 : r = 0
  ·subst hr0
   refine ⟨0,m,0,by simp [qQ1],hroot,Grow.refl m,by simpa [rl] using hst,rfl,by omega,by omega,fun _ => ⟨rfl,fun h => absurd rfl h⟩⟩
  ·obtain ⟨L,hT⟩ := root_tr hroot hr0
   obtain ⟨i1,i2,i3,i4,i5⟩ := inc_st hst (by omega) (q92 hT)
   have hq := List.length_pos_iff.2 (tr_ne hT)
   refine ⟨r,incM m r,1,?_,root_grow i3 hroot,i3,by rw [rl,if_neg hr0]; exact i2,i4,by omega,by omega,fun _ => ⟨rfl,fun _ => rfl⟩⟩
   unfold qQ1
   simp only [hr0,decide_false,cond_false]
   rw [i1]
   rfl
 ·have hlp : ¬ ((l.length : Int) = 0) := by have := List.length_pos_iff.2 hl0; omega
  obtain ⟨s,s1,s2,s3,s4⟩ := tree_sorted_eq (l := l) (by omega)
  simp only [hlp,decide_false,cond_false]
  rw [s1]
  simp only [Option.bind_some]
  have hmg : mgP q s = qn1 q l := mg_apply hr s2 s3
  have hrow : ∃ (lv : Nat) (row : List Pt),((cond (decide (r = 0)) (
     (ql1 ([]) s).bind fun x111 =>
     (qL0 x111).bind fun x114 =>
     some (.inl (0,x114,m,[]))
    ) (
     (qu m r).bind fun x117 =>
     cond (decide (x117.2.1 ≠ 0)) (
      some (.inr (0,x117.2.1,x117.2.2))
     ) (
      (qM0 ([]) r s x117.2.2).bind fun x124 =>
      cond (decide (x124.2.1 ≠ 0)) (
       some (.inr (0,x124.2.1,x124.2.2.2))
      ) (
       some (.inl (x117.1.1,x124.1,x124.2.2.2,x124.2.2.1))
      )
     )
    )) : Option ((Int × (List Pt) × Mem × (List Int)) ⊕ (Int × Int × Mem))) = some (.inl ((lv : Int),row,m,[])) ∧ RowOk m lv row (qn1 q l) ∧ qc2 row := by
   by_cases hr0 : r = 0
   ·have hq0 : q = [] := by
     rcases hroot with h | h
     ·exact h.2
     ·exact absurd hr0 h.1
    subst hq0
    obtain ⟨row,e1,e2,e3,e4⟩ := leaves_eq (m := m) (q := qn1 [] l) (by have := applyP_len ([] : List Pr) l; simp at this; omega)
    refine ⟨0,row,?_,e2,e3⟩
    simp only [hr0,decide_true,cond_true]
    rw [merged_eq (by simp; omega),hmg]
    simp only [Option.bind_some]
    rw [e1]
    rfl
   ·obtain ⟨L,hT⟩ := root_tr hroot hr0
    have hL := qH4 hT (by omega)
    obtain ⟨row,e1,e2,e3⟩ := edit_eq (d := []) (by omega) hT hr s2 (by omega)
    refine ⟨L,row,?_,hmg ▸ e2,e3⟩
    simp only [hr0,decide_false,cond_false]
    rw [tr_get hT]
    simp only [Option.bind_some,ne_eq,not_true_eq_false,decide_false,cond_false]
    rw [e1]
    simp only [Option.bind_some,ne_eq,not_true_eq_false,decide_false,cond_false,(tr_nd hT).1]
  obtain ⟨lv,row,r1,r2,r3⟩ := hrow
  rw [r1]
  simp only [Option.bind_some,Sum.elim_inl]
  have hlen := applyP_len q l
  obtain ⟨t1,t2⟩ := top_eq r2 r3 (by omega)
  by_cases hq0 : qn1 q l = []
  ·obtain ⟨p,p1⟩ := t1 hq0
   rw [p1]
   refine ⟨0,m,0,?_,.inl ⟨rfl,hq0⟩,Grow.refl m,by simpa [rl] using hst,rfl,by omega,by omega,fun h => absurd h hl0⟩
   simp
  ·obtain ⟨p,L',p1,p2,p3⟩ := t2 hq0
   rw [p1]
   have hL' : L' < 12 := by
    obtain ⟨k,b,f⟩ := p
    match f with
    | none =>
     exact tr_rising_level (ptOk_none p2).1 (by omega)
    | some (.mk l0 ps ks) =>
     match L',p2 with
     | 0,_ => omega
     | L3 + 1,p2 =>
      rw [PtOk] at p2
      obtain ⟨_,_,a1,a2,_,qs,a4,a5,a6⟩ := p2
      have hk1 := p3 l0 ps ks rfl
      have := level_lt (m := m) (L := L3) (row := ks) (q := qn1 q l) ⟨qs,a4,a5⟩ (fun h => a6 h) (by omega) (by omega)
      omega
   obtain ⟨n,d',m',c,w1,w2⟩ := write_eq (d := []) hL' p2 p3 hst hK (by omega) (by simp; omega) (by omega) (q50 q l) (qa3 hr hs hl)
   simp only [Option.bind_some,ne_eq,not_true_eq_false,decide_false,cond_false,Bool.not_true]
   rw [w1]
   have n0 : n ≠ 0 := by have := qT3 w2.st.wf (q92 w2.tr); omega
   refine ⟨n,m',c,by simp,.inr ⟨n0,L',w2.tr⟩,w2.grow,by rw [rl,if_neg n0]; exact w2.st,w2.blk,by rw [w2.used]; have := w2.fr; omega,w2.c1,fun h => absurd h hl0⟩
end Go.Val
namespace Go.Val
open Go.RowKit Go.Lib
def Shrink (m m' : Mem) : Prop := ∀ n,cnt m' n ≠ 0 → cnt m n ≠ 0 ∧ ndOf m' n = ndOf m n
theorem Shrink.refl (m : Mem) : Shrink m m := fun n h => ⟨h,rfl⟩
theorem Shrink.trans {a b c : Mem} (h : Shrink a b) (k : Shrink b c) : Shrink a c := fun n hn => by
 obtain ⟨k1,k2⟩ := k n hn
 obtain ⟨h1,h2⟩ := h n k1
 exact ⟨h1,k2.trans h2⟩
theorem rc_count {m : Mem} {R R' : List Int} (h : RC m R) (hp : ∀ n,R'.count n = R.count n) : RC m R' := fun n => by rw [hp n]; exact h n
theorem StM.perm {K : Nat} {m : Mem} {R R' : List Int} (h : StM K m R) (hp : R'.Perm R) : StM K m R' := ⟨h.wf,h.live,rc_count h.rc fun n => hp.count_eq n⟩
theorem inK_pos {m : Mem} {bs : List Int} {b n : Int} (hb : b ∈ bs) (hn : n ∈ qH2 (ndOf m b)) : 1 ≤ inK m bs n := by
 obtain ⟨A,B,rfl⟩ := List.append_of_mem hb
 rw [inK_app,show b :: B = [b] ++ B from rfl,inK_app]
 have : inK m [b] n = (qH2 (ndOf m b)).count n := by simp [inK]
 have h1 := List.count_pos_iff.2 hn
 omega
theorem rc_live {m : Mem} {R : List Int} {n : Int} (h : RC m R) (hn : n ∈ R) : cnt m n ≠ 0 := by
 have := h n
 have h1 := List.count_pos_iff.2 hn
 omega
theorem rc_kid {m : Mem} {R : List Int} {b n : Int} (h : RC m R) (hb : cnt m b ≠ 0) (hn : n ∈ qH2 (ndOf m b)) : cnt m n ≠ 0 := by
 have := h n
 have h1 := inK_pos (bs := m.1.2.1.map (·.1)) (qt4 hb).1 hn
 omega
theorem F2.impMem {α β : Type} {R S : α → β → Prop} {l : List α} {r : List β} (h : F2 R l r) (hRS : ∀ a ∈ l,∀ b,R a b → S a b) : F2 S l r := by
 induction h with
 | nil => exact .nil
 | cons h _ ih => exact .cons (hRS _ (by simp) _ h) (ih fun a ha b hab => hRS a (by simp [ha]) b hab)
theorem tr_shrink {m m' : Mem} {R : List Int} (hs : Shrink m m') (hrc : RC m' R) : ∀ {L : Nat} {n : Int} {q : List Pr},cnt m' n ≠ 0 → Tr m L n q → Tr m' L n q
 | 0,n,q,hn,h => by
  rw [Tr] at h ⊢
  rw [(hs n hn).2]
  exact ⟨hn,h.2⟩
 | L + 1,n,q,hn,h => by
  rw [Tr] at h ⊢
  obtain ⟨_,ks,h1,h2,h3,qs,h4,h5⟩ := h
  have e := (hs n hn).2
  rw [e]
  refine ⟨hn,ks,h1,h2,h3,qs,h4,h5.impMem fun k hk q hkq => ?_⟩
  have hkl : cnt m' k.2 ≠ 0 := rc_kid hrc hn (by rw [e,h1]; exact List.mem_map.2 ⟨k,hk,rfl⟩)
  exact ⟨tr_shrink hs hrc hkl hkq.1,by rw [(hs _ hkl).2]; exact hkq.2.1,hkq.2.2⟩
theorem live_shrink {m m' : Mem} {R : List Int} (hl : Live m) (hs : Shrink m m') (hrc : RC m' R) : Live m' := fun n hn => by
 obtain ⟨L,q,a,b,c⟩ := hl n (hs n hn).1
 exact ⟨L,q,a,tr_shrink hs hrc hn b,c⟩
theorem root_shrink {m m' : Mem} {R : List Int} (hs : Shrink m m') (hrc : RC m' R) {r : Int} {q : List Pr} (hr : r ≠ 0 → cnt m' r ≠ 0) (h : Root m r q) : Root m' r q := by
 rcases h with h | ⟨h0,L,h⟩
 ·exact .inl h
 ·exact .inr ⟨h0,L,tr_shrink hs hrc (hr h0) h⟩
theorem mdel_split {β : Type} {m : List (Int × β)} {k : Int} (h : k ∈ m.map (·.1)) : ∃ A v B,m = A ++ (k,v) :: B ∧ mdel m k = A ++ B := by
 induction m with
 | nil => cases h
 | cons p m ih =>
  rw [mdel_cons]
  by_cases e : k = p.1
  ·rw [if_pos e]
   exact ⟨[],p.2,m,by rw [e]; rfl,rfl⟩
  ·rw [if_neg e]
   obtain ⟨A,v,B,h1,h2⟩ := ih (by
    rcases List.mem_cons.1 h with h | h
    ·exact absurd h e
    ·exact h)
   exact ⟨p :: A,v,B,by rw [h1]; rfl,by rw [h2]; rfl⟩
theorem mget_mdel_ne {β : Type} (m : List (Int × β)) {k k' : Int} (h : k' ≠ k) : mget (mdel m k) k' = mget m k' := by
 induction m with
 | nil => rfl
 | cons p m ih =>
  rw [mdel_cons,qH]
  by_cases e : k = p.1
  ·rw [if_pos e,if_neg (fun h' => h (h'.trans e.symm))]
  ·rw [if_neg e,qH,ih]
def decM (m : Mem) (n : Int) : Mem := ((m.1.1,mset m.1.2.1 n (cnt m n - 1),m.1.2.2),m.2)
def delM (m : Mem) (n : Int) : Mem := ((m.1.1,mdel m.1.2.1 n,min m.1.2.2 n),mdel m.2 n)
theorem cnt_dec (m : Mem) (n k : Int) : cnt (decM m n) k = if k = n then cnt m n - 1 else cnt m k := by
 unfold cnt decM
 simp only [qV1]
 split <;> rfl
theorem cnt_del {m : Mem} (hn : (m.1.2.1.map (·.1)).Nodup) (n k : Int) : cnt (delM m n) k = if k = n then 0 else cnt m k := by
 unfold cnt delM
 simp only [mget_mdel hn]
 split <;> rfl
theorem dec_st {K : Nat} {m : Mem} {R : List Int} {r : Int} (h : StM K m (r :: R)) (hK : K ≤ 1000000000000) :
  cnt m r ≠ 0 ∧ ((∃ m',qw0 m r = some (false,0,m') ∧ StM K m' R ∧ Shrink m m' ∧ m'.1.1 = m.1.1 ∧ used m' = used m) ∨
   (∃ m',qw0 m r = some (true,0,m') ∧ StM K m' (qH2 (ndOf m r) ++ R) ∧ Shrink m m' ∧ m'.1.1 = m.1.1 ∧ used m' + 1 = used m)) := by
 have hl : cnt m r ≠ 0 := rc_live h.rc (by simp)
 obtain ⟨p1,p2,p3,p4⟩ := qT3 h.wf hl
 have hmem := qt4 hl
 have t1 : ¬ r < 2 := by omega
 have t2 : ¬ r ≥ m.1.1 := by omega
 have hc : (mget m.1.2.1 r).getD 0 = cnt m r := rfl
 refine ⟨hl,?_⟩
 by_cases h1 : cnt m r > 1
 ·left
  have hsh : Shrink m (decM m r) := fun n hn => by
   refine ⟨?_,rfl⟩
   rw [cnt_dec] at hn
   by_cases e : n = r
   ·rw [e]; exact hl
   ·rwa [if_neg e] at hn
  have hrc : RC (decM m r) R := fun n => by
   have hk : (decM m r).1.2.1.map (·.1) = m.1.2.1.map (·.1) := by
    show (mset m.1.2.1 r (cnt m r - 1)).map (·.1) = _
    rw [q33,if_pos hmem.1]
   have e0 : inK (decM m r) (m.1.2.1.map (·.1)) n = inK m (m.1.2.1.map (·.1)) n := inK_congr fun _ _ => rfl
   rw [cnt_dec,hk,e0]
   have hr := h.rc n
   rw [List.count_cons] at hr
   by_cases e : n = r
   ·subst e; simp at hr; rw [if_pos rfl]; omega
   ·have : (r == n) = false := by simp; exact fun h => e h.symm
    rw [this] at hr
    rw [if_neg e]; simp at hr; omega
  refine ⟨decM m r,?_,⟨⟨h.wf.blk,h.wf.low,fun n n1 n2 => ?_,qD3 h.wf.nodup _ _,fun n c hn => ?_⟩,live_shrink h.live hsh hrc,hrc⟩,hsh,rfl,mset_len hmem.1⟩
  ·unfold qw0 qv1 qB0 q21
   simp only [t1,t2,decide_false,cond_false,Option.bind_some,cond_true,hc,hl,h1,decide_true]
   rw [w64 (by omega) (by omega)]
   rfl
  ·rw [cnt_dec]
   split
   ·omega
   ·exact h.wf.full n n1 n2
  ·have hn' : mget (mset m.1.2.1 r (cnt m r - 1)) n = some c := hn
   rw [qV1] at hn'
   by_cases e : n = r
   ·rw [if_pos e] at hn'
    have := Option.some.inj hn'
    subst e
    exact ⟨by omega,by omega,p3,p4⟩
   ·rw [if_neg e] at hn'
    exact h.wf.pos n c hn'
 ·right
  have hc1 : cnt m r = 1 := by omega
  have hsh : Shrink m (delM m r) := fun n hn => by
   rw [cnt_del h.wf.nodup] at hn
   by_cases e : n = r
   ·rw [if_pos e] at hn; exact absurd rfl hn
   ·rw [if_neg e] at hn
    refine ⟨hn,?_⟩
    unfold ndOf delM
    simp only
    rw [mget_mdel_ne _ e]
  obtain ⟨A,v,B,s1,s2⟩ := mdel_split hmem.1
  have hrc : RC (delM m r) (qH2 (ndOf m r) ++ R) := fun n => by
   have hk : (delM m r).1.2.1.map (·.1) = A.map (·.1) ++ B.map (·.1) := by
    show (mdel m.1.2.1 r).map (·.1) = _
    rw [s2,List.map_append]
   have hnd : (m.1.2.1.map (·.1)).Nodup := h.wf.nodup
   have hk0 : m.1.2.1.map (·.1) = A.map (·.1) ++ r :: B.map (·.1) := by rw [s1]; simp
   have hnr : ∀ b ∈ A.map (·.1) ++ B.map (·.1),b ≠ r := by
    rw [hk0] at hnd
    intro b hb e
    subst e
    have h1 := List.nodup_append.1 hnd
    rcases List.mem_append.1 hb with hb | hb
    ·exact h1.2.2 b hb b (by simp) rfl
    ·exact (List.nodup_cons.1 h1.2.1).1 hb
   have e1 : inK (delM m r) (A.map (·.1) ++ B.map (·.1)) n = inK m (A.map (·.1) ++ B.map (·.1)) n := inK_congr fun b hb => by
    unfold ndOf delM
    simp only
    rw [mget_mdel_ne _ (hnr b hb)]
   have e2 : inK m (A.map (·.1) ++ r :: B.map (·.1)) n = inK m (A.map (·.1) ++ B.map (·.1)) n + (qH2 (ndOf m r)).count n := by
    rw [inK_app,inK_app,show r :: B.map (·.1) = [r] ++ B.map (·.1) from rfl,inK_app]
    have : inK m [r] n = (qH2 (ndOf m r)).count n := by simp [inK]
    omega
   rw [cnt_del hnd,hk,e1,List.count_append]
   have hr := h.rc n
   rw [hk0,e2,List.count_cons] at hr
   by_cases e : n = r
   ·subst e; simp at hr; rw [if_pos rfl]; omega
   ·have : (r == n) = false := by simp; exact fun h => e h.symm
    rw [this] at hr
    rw [if_neg e]; simp at hr; omega
  refine ⟨delM m r,?_,⟨⟨h.wf.blk,?_,fun n n1 n2 => ?_,nodup_mdel h.wf.nodup _,fun n c hn => ?_⟩,live_shrink h.live hsh hrc,hrc⟩,hsh,rfl,?_⟩
  ·unfold qw0 qv1 qB0 q21
   simp only [t1,t2,decide_false,cond_false,Option.bind_some,cond_true,hc,hl,h1,decide_true]
   rfl
  ·have := h.wf.low
   show 2 ≤ min m.1.2.2 r ∧ min m.1.2.2 r ≤ m.1.1
   omega
  ·have n2' : n < min m.1.2.2 r := n2
   rw [cnt_del h.wf.nodup,if_neg (by omega)]
   exact h.wf.full n n1 (by omega)
  ·have hn' : mget (mdel m.1.2.1 r) n = some c := hn
   rw [mget_mdel h.wf.nodup] at hn'
   by_cases e : n = r
   ·rw [if_pos e] at hn'; cases hn'
   ·rw [if_neg e] at hn'
    exact h.wf.pos n c hn'
  ·show (mdel m.1.2.1 r).length + 1 = m.1.2.1.length
   rw [s2,s1]; simp; omega
theorem release_n : ∀ (fuel L : Nat) {K : Nat} {m : Mem} {R : List Int} {r : Int} {q : List Pr},L < fuel → Tr m L r q → StM K m (r :: R) → K ≤ 1000000000000 →
  ∃ m',qz0 fuel m r = some (0,m') ∧ StM K m' R ∧ Shrink m m' ∧ m'.1.1 = m.1.1 ∧ used m' ≤ used m := by
 intro fuel
 induction fuel with
 | zero => intro L K m R r q h; omega
 | succ fuel ih =>
  intro L K m R r q hL hT hst hK
  obtain ⟨d1,d2⟩ := dec_st hst hK
  have n0 : ¬ r = 0 := by have := qT3 hst.wf d1; omega
  rw [qz0]
  unfold qE0
  simp only [n0,decide_false,cond_false,tr_get hT,Option.bind_some,ne_eq,not_true_eq_false]
  rcases d2 with ⟨m1,e1,e2,e3,e4,e5⟩ | ⟨m1,e1,e2,e3,e4,e5⟩
  ·rw [e1]
   exact ⟨m1,by simp,e2,e3,e4,by omega⟩
  ·rw [e1]
   simp only [Option.bind_some,not_true_eq_false,decide_false,cond_false,Bool.not_true]
   match L,hT with
   | 0,hT =>
    rw [Tr] at hT
    rw [hT.2.1] at e2 ⊢
    rw [qM]
    exact ⟨m1,by simp,by simpa [qH2] using e2,e3,e4,by omega⟩
   | L + 1,hT =>
    rw [Tr] at hT
    obtain ⟨_,ks,h1,h2,h3,qs,h4,h5⟩ := hT
    rw [h1] at e2 ⊢
    simp only [qH2] at e2
    simp only
    refine qg2 (Q := fun o => ∃ m',o = some (0,m') ∧ StM K m' R ∧ Shrink m m' ∧ m'.1.1 = m.1.1 ∧ used m' ≤ used m)
     (fun v => ∃ D Z QD QZ m2,ks = D ++ Z ∧ qs = QD ++ QZ ∧ F2 (KidR m L) Z QZ ∧ v = ((D.length : Int),m2) ∧ StM K m2 (Z.map (·.2) ++ R) ∧ Shrink m m2 ∧ m2.1.1 = m.1.1 ∧ used m2 ≤ used m)
     (fun v => ((ks.length : Int) - v.1).toNat) (fun o => ∃ m2,o = .inl m2 ∧ StM K m2 R ∧ Shrink m m2 ∧ m2.1.1 = m.1.1 ∧ used m2 ≤ used m) ⟨[],ks,[],qs,m1,rfl,rfl,h5,rfl,e2,e3,e4,by omega⟩ ?_ ?_
    ·rintro v ⟨D,Z,QD,QZ,m2,g1,g2,g3,rfl,g4,g5,g6,g7⟩
     have hl : ks.length = D.length + Z.length := by rw [g1]; simp
     cases g3 with
     | nil =>
      right
      have t : ¬ ((D.length : Int) < (ks.length : Int)) := by simp at hl; omega
      exact ⟨.inl m2,by simp only [t,decide_false,cond_false],m2,rfl,by simpa using g4,g5,g6,g7⟩
     | @cons z qz Z' QZ' hz hzs =>
      left
      simp only [List.length_cons] at hl
      have t : ((D.length : Int) < (ks.length : Int)) := by omega
      have g0 : gx ks (D.length : Int) = some z := by rw [g1]; exact qI2 rfl
      have hzl : cnt m2 z.2 ≠ 0 := rc_live g4.rc (by simp)
      have hzt : Tr m2 L z.2 qz := tr_shrink g5 g4.rc hzl hz.1
      obtain ⟨m3,i1,i2,i3,i4,i5⟩ := ih L (by omega) hzt (R := Z'.map (·.2) ++ R) (by simpa using g4) hK
      refine ⟨((D.length : Int) + 1,m3),?_,⟨D ++ [z],Z',QD ++ [qz],QZ',m3,by simp [g1],by simp [g2],hzs,by simp,i2,g5.trans i3,i4.trans g6,by omega⟩,by simp; omega⟩
      simp only [t,decide_true,cond_true,g0,Option.bind_some]
      rw [i1]
      simp only [Option.bind_some,not_true_eq_false,decide_false,cond_false]
      rw [w64 (by omega) (by omega)]
    ·rintro o ⟨m2,rfl,h⟩
     exact ⟨m2,rfl,h⟩
theorem qr4 {K : Nat} {m : Mem} {R : List Int} {r : Int} {q : List Pr} (hr : Root m r q) (hst : StM K m (rl r ++ R)) (hK : K ≤ 1000000000000) (hn : q.length ≤ 1000000) :
  ∃ m',qf0 m r = some (0,m') ∧ StM K m' R ∧ Shrink m m' ∧ m'.1.1 = m.1.1 ∧ used m' ≤ used m := by
 by_cases h0 : r = 0
 ·subst h0
  refine ⟨m,?_,by simpa [rl] using hst,Shrink.refl m,rfl,by omega⟩
  unfold qf0
  rw [qz0]
  unfold qE0
  simp
 ·obtain ⟨L,hT⟩ := root_tr hr h0
  have := qH4 hT hn
  exact release_n 16 L (by omega) hT (by simpa [rl,h0] using hst) hK
end Go.Val
namespace Go.Val
open Go.RowKit Go.Lib
def blks : Nat → Mem → Int → List Int
 | 0,_,n => [n]
 | L + 1,m,n => n :: (qH2 (ndOf m n)).flatMap (blks L m)
def blksM (m : Mem) (n : Int) : List Int := blks (ndOf m n).1.toNat m n
theorem blks_self : ∀ (L : Nat) (m : Mem) (n : Int),n ∈ blks L m n
 | 0,m,n => by rw [blks]; simp
 | L + 1,m,n => by rw [blks]; simp
theorem tr_kids {m : Mem} {L : Nat} {n k : Int} {q : List Pr} (h : Tr m L n q) (hk : k ∈ qH2 (ndOf m n)) : ∃ L' q',L = L' + 1 ∧ Tr m L' k q' := by
 match L,h with
 | 0,h =>
  rw [Tr] at h
  rw [h.2.1] at hk
  simp [qH2] at hk
 | L + 1,h =>
  rw [Tr] at h
  obtain ⟨_,ks,h1,h2,h3,qs,h4,h5⟩ := h
  rw [h1] at hk
  obtain ⟨z,hz,rfl⟩ := List.mem_map.1 hk
  obtain ⟨q',hq',hR⟩ := h5.mem z hz
  exact ⟨L,q',rfl,hR.1⟩
theorem blks_kid {m : Mem} : ∀ {L : Nat} {r b k : Int} {q : List Pr},Tr m L r q → b ∈ blks L m r → k ∈ qH2 (ndOf m b) → k ∈ blks L m r
 | 0,r,b,k,q,h,hb,hk => by
  rw [blks] at hb
  have e : b = r := by simpa using hb
  subst e
  obtain ⟨L',q',e,_⟩ := tr_kids h hk
  omega
 | L + 1,r,b,k,q,h,hb,hk => by
  rw [blks] at hb ⊢
  rcases List.mem_cons.1 hb with rfl | hb
  ·exact List.mem_cons_of_mem _ (List.mem_flatMap.2 ⟨k,hk,blks_self L m k⟩)
  ·obtain ⟨z,hz,hb⟩ := List.mem_flatMap.1 hb
   obtain ⟨L',q',e,ht⟩ := tr_kids h hz
   have e' : L = L' := by omega
   subst e'
   exact List.mem_cons_of_mem _ (List.mem_flatMap.2 ⟨z,hz,blks_kid ht hb hk⟩)
theorem blks_len {m : Mem} : ∀ {L : Nat} {r : Int} {q : List Pr},Tr m L r q → 2 * (blks L m r).length ≤ q.length + 1 ∧ (¬ fewN (ndOf m r) → 2 * (blks L m r).length + 1 ≤ q.length)
 | 0,r,q,h => by
  rw [Tr] at h
  rw [blks,h.2.1]
  refine ⟨by simp; omega,fun hf => ?_⟩
  simp [fewN] at hf
  simp; omega
 | L + 1,r,q,h => by
  rw [Tr] at h
  obtain ⟨_,ks,h1,h2,h3,qs,h4,h5⟩ := h
  rw [blks,h1]
  have key : ∀ {ks : List Kd} {qs : List (List Pr)},F2 (KidR m L) ks qs → 2 * ((ks.map (·.2)).flatMap (blks L m)).length + ks.length ≤ qs.flatten.length := by
   intro ks qs h
   induction h with
   | nil => simp
   | @cons k q ks qs h hs ih =>
    have := (blks_len h.1).2 h.2.1
    simp only [List.map_cons,List.flatMap_cons,List.length_append,List.length_cons,List.flatten_cons]
    omega
  have hk := key h5
  rw [h4] at hk
  refine ⟨?_,fun hf => ?_⟩
  ·simp only [qH2,List.length_cons]
   omega
  ·have h0 : ¬ (((L + 1 : Nat) : Int) = 0) := by omega
   simp only [fewN,h0,if_false] at hf
   simp only [qH2,List.length_cons]
   omega
theorem blksM_tr {m : Mem} {L : Nat} {r : Int} {q : List Pr} (h : Tr m L r q) : blksM m r = blks L m r := by
 unfold blksM
 rw [(tr_nd h).1]
 simp
theorem live_from {K : Nat} {m : Mem} {R : List Int} (h : StM K m R) : ∀ {n : Int},cnt m n ≠ 0 → ∃ r ∈ R,n ∈ blksM m r := by
 have key : ∀ (j L : Nat) {n : Int} {q : List Pr},L + j = 12 → Tr m L n q → ∃ r ∈ R,n ∈ blksM m r := by
  intro j
  induction j with
  | zero =>
   intro L n q hL hT
   obtain ⟨L',q',h1,h2,_⟩ := h.live n (q92 hT)
   have e1 := (tr_nd hT).1
   have e2 := (tr_nd h2).1
   omega
  | succ j ih =>
   intro L n q hL hT
   have hc := h.rc n
   have hp := qT3 h.wf (q92 hT)
   by_cases hR : n ∈ R
   ·exact ⟨n,hR,blks_self _ m n⟩
   ·have h0 : R.count n = 0 := List.count_eq_zero.2 hR
    have hin : 1 ≤ inK m (m.1.2.1.map (·.1)) n := by omega
    have : ∃ b ∈ m.1.2.1.map (·.1),n ∈ qH2 (ndOf m b) := by
     refine Classical.byContradiction fun hno => ?_
     have : inK m (m.1.2.1.map (·.1)) n = 0 := by
      unfold inK
      refine List.sum_eq_zero_iff_forall_eq_nat.2 fun x hx => ?_
      obtain ⟨b,hb,rfl⟩ := List.mem_map.1 hx
      exact List.count_eq_zero.2 fun hk => hno ⟨b,hb,hk⟩
     omega
    obtain ⟨b,hb,hk⟩ := this
    have hbl : cnt m b ≠ 0 := by
     obtain ⟨c,hc⟩ := Option.isSome_iff_exists.1 (q11.2 hb)
     have := (h.wf.pos b c hc).1
     unfold cnt
     rw [hc]; simp; omega
    obtain ⟨Lb,qb,b1,b2,_⟩ := h.live b hbl
    obtain ⟨L',q',e,ht⟩ := tr_kids b2 hk
    have e1 := (tr_nd hT).1
    have e2 := (tr_nd ht).1
    obtain ⟨r,hr,hbr⟩ := ih Lb (by omega) b2
    have hrl : cnt m r ≠ 0 := rc_live h.rc hr
    obtain ⟨Lr,qr,_,hr2,_⟩ := h.live r hrl
    refine ⟨r,hr,?_⟩
    rw [blksM_tr hr2] at hbr ⊢
    exact blks_kid hr2 hbr hk
 intro n hn
 obtain ⟨L,q,h1,h2,_⟩ := h.live n hn
 exact key (12 - L) L (by omega) h2
theorem used_le {K : Nat} {m : Mem} {R : List Int} (h : StM K m R) : used m ≤ (R.flatMap (blksM m)).length := by
 have := sub_len (l := m.1.2.1.map (·.1)) (r := R.flatMap (blksM m)) h.wf.nodup fun n hn => by
  have hl : cnt m n ≠ 0 := by
   obtain ⟨c,hc⟩ := Option.isSome_iff_exists.1 (q11.2 hn)
   have := (h.wf.pos n c hc).1
   unfold cnt
   rw [hc]; simp; omega
  obtain ⟨r,hr,hb⟩ := live_from h hl
  exact List.mem_flatMap.2 ⟨r,hr,hb⟩
 rw [List.length_map] at this
 exact this
theorem used_nil {K : Nat} {m : Mem} (h : StM K m []) : used m = 0 := by
 have := used_le h
 simpa using this
theorem used_one {K : Nat} {m : Mem} {r : Int} {q : List Pr} (h : StM K m (rl r)) (hr : Root m r q) : 2 * used m ≤ q.length + 1 := by
 have := used_le h
 by_cases h0 : r = 0
 ·subst h0; simp [rl] at this; omega
 ·obtain ⟨L,hT⟩ := root_tr hr h0
  simp only [rl,h0,if_false,List.flatMap_cons,List.flatMap_nil,List.append_nil,blksM_tr hT] at this
  have := (blks_len hT).1
  omega
theorem free_eq {K : Nat} {m : Mem} {R : List Int} (h : StM K m R) (hu : used m ≤ 2000000) : qr0 m = some (m.1.1 - 2 - (used m : Int),m) := by
 have := h.wf.blk
 unfold qr0 qy1
 simp only [Option.bind_some]
 rw [w64 (n := m.1.1 - 2) (by omega) (by omega),show ((m.1.2.1.length : Nat) : Int) = (used m : Int) from rfl,w64 (by omega) (by omega)]
theorem new_eq {most : Int} (h : 0 ≤ most ∧ most ≤ 1048576) : ∃ m,qD0 most = some m ∧ StM 1 m [] ∧ m.1.1 = most + 2 ∧ used m = 0 := by
 unfold qD0 refs_New
 have e1 : max most 0 = most := by omega
 have e2 : min most 1048576 = most := by omega
 simp only [e1,e2,Option.bind_some]
 rw [w64 (by omega) (by omega)]
 have e3 : max (2 + most) 2 = 2 + most := by omega
 have e4 : min (2 + most) 4294967296 = 2 + most := by omega
 rw [e3,e4]
 refine ⟨_,rfl,⟨⟨by simp only; omega,by simp only; omega,fun n h1 h2 => ?_,by simp,fun n c h => by cases h⟩,fun n hn => absurd rfl hn,fun n => by simp [inK,cnt,qp2]⟩,by simp only; omega,rfl⟩
 simp only at h2; omega
end Go.Val
namespace Go.Val
open Go.RowKit Go.Lib
def K24s {β : Type} (q : List (Ky × β)) : Prop := ∀ p ∈ q,p.1.length = 24
def allS : Spn := (List.replicate 24 0,List.replicate 24 0,true)
theorem cb_zeros : ∀ (k : List UInt8) (n : Nat),k.length = n → 0 ≤ compareBytes k (List.replicate n 0)
 | [],0,_ => by decide
 | x :: k,n + 1,h => by
  have ih := cb_zeros k n (by simpa using h)
  rw [List.replicate_succ,compareBytes]
  by_cases h0 : x = 0
  ·subst h0; simpa using ih
  ·have : (0 : UInt8) < x := by
    have h1 : (0 : UInt8).toNat ≠ x.toNat := fun e => h0 (UInt8.toNat_inj.1 e.symm)
    rw [UInt8.lt_iff_toNat_lt]
    simp at h1 ⊢
    omega
   have h2 : ¬ x < 0 := by
    rw [UInt8.lt_iff_toNat_lt]
    simp
   simp [this,h2]
theorem inT_all {k : Ky} (h : k.length = 24) : inT allS k = true := by
 have := cb_zeros k 24 h
 show (decide (compareBytes k (List.replicate 24 0) ≥ 0) && (true || decide (compareBytes k (List.replicate 24 0) < 0))) = true
 rw [decide_eq_true this]
 rfl
theorem updF_one (f : Fn) (c : Cg) (k : Ky) : updF f [c] k = if k = c.1 then eff c.2 else f k := by
 have := updF_snoc f [] c
 rw [List.nil_append] at this
 rw [this]; rfl
theorem filter_all {q : List Pr} (h : K24s q) : (q.filter fun p => inT allS p.1) = q := List.filter_eq_self.2 fun p hp => inT_all (h p hp)
theorem applyP_k24 {q : List Pr} {l : List Cg} (hr : Rising q) (hq : K24s q) (hl : K24s l) : K24s (qn1 q l) := fun p hp => by
 have h1 : mget (qn1 q l) p.1 = some p.2 := qc1 (q50 q l).nodup hp
 rw [qN0,qC2 hr] at h1
 unfold updF at h1
 cases hm : mget l.reverse p.1 with
 | none => rw [hm] at h1; exact hq _ (qx0 h1)
 | some e => exact hl _ (List.mem_reverse.1 (qx0 hm))
theorem get_zero {m : Mem} {k : Ky} : qW0 m 0 k = some (ByteArray.mk #[],false,0,m) := by
 rw [get_def,qM]
 simp [getB]
theorem count_root {m : Mem} (n : Int) : qC0 m n = some (cnt m n,m) := by
 unfold qC0
 rw [count_eq]
 rfl
theorem blks_level {m : Mem} : ∀ {L : Nat} {r b : Int} {q : List Pr},Tr m L r q → b ∈ blks L m r → ∃ L' q',L' ≤ L ∧ Tr m L' b q'
 | 0,r,b,q,h,hb => by
  rw [blks] at hb
  have e : b = r := by simpa using hb
  subst e
  exact ⟨0,q,by omega,h⟩
 | L + 1,r,b,q,h,hb => by
  rw [blks] at hb
  rcases List.mem_cons.1 hb with rfl | hb
  ·exact ⟨L + 1,q,by omega,h⟩
  ·obtain ⟨z,hz,hb⟩ := List.mem_flatMap.1 hb
   obtain ⟨L',q',e,ht⟩ := tr_kids h hz
   have e' : L = L' := by omega
   subst e'
   obtain ⟨L2,q2,a,b⟩ := blks_level ht hb
   exact ⟨L2,q2,by omega,b⟩
theorem root_count {K : Nat} {m : Mem} {r : Int} {L : Nat} {q : List Pr} (h : StM K m [r]) (hT : Tr m L r q) : cnt m r = 1 := by
 have hc := h.rc r
 have : inK m (m.1.2.1.map (·.1)) r = 0 := by
  unfold inK
  refine List.sum_eq_zero_iff_forall_eq_nat.2 fun x hx => ?_
  obtain ⟨b,hb,rfl⟩ := List.mem_map.1 hx
  refine List.count_eq_zero.2 fun hk => ?_
  have hbl : cnt m b ≠ 0 := by
   obtain ⟨c,hc⟩ := Option.isSome_iff_exists.1 (q11.2 hb)
   have := (h.wf.pos b c hc).1
   unfold cnt
   rw [hc]; simp; omega
  obtain ⟨r',hr',hbr⟩ := live_from h hbl
  have e : r' = r := by simpa using hr'
  subst e
  rw [blksM_tr hT] at hbr
  obtain ⟨L',q',h1,h2⟩ := blks_level hT hbr
  obtain ⟨L2,q2,e2,h3⟩ := tr_kids h2 hk
  have e3 := (tr_nd hT).1
  have e4 := (tr_nd h3).1
  omega
 rw [this] at hc
 simpa using hc
theorem shown_eq : qj2 = some true := by
 obtain ⟨m0,a1,a2,a3,a4⟩ := new_eq (most := 100) (by omega)
 unfold qj2
 rw [a1]
 simp only [Option.bind_some]
 generalize hk : (List.set (List.replicate 24 (0 : UInt8)) 0 (UInt8.ofNat 7)) = k
 have hk24 : k.length = 24 := by rw [← hk]; simp
 obtain ⟨a,m1,c1,b1,b2,b3,b4,b5,b6,b7,_⟩ := apply_eq (l := [(k,ByteArray.mk #[49],false)]) (r := 0) (q := []) a2 (by omega) (by omega) (.inl ⟨rfl,rfl⟩) (by simp [Rising,Asc]) (fun p hp => by cases hp) (fun c hc => by
  have := List.mem_singleton.1 hc; subst this; exact (by decide : (1 : Nat) ≤ 40)) (by simp) (by rw [a3,a4]; simp)
 have q1 : qn1 [] [(k,ByteArray.mk #[49],false)] = [(k,ByteArray.mk #[49])] := by
  refine q02 (q50 _ _) (by simp [Rising,Asc]) fun k' => ?_
  rw [qN0,updF_one,qH]
  rfl
 rw [q1] at b2 b7
 have ha : a ≠ 0 := by
  rcases b2 with h | h
  ·exact absurd h.2 (by simp)
  ·exact h.1
 obtain ⟨L,hT⟩ := root_tr b2 ha
 rw [b1]
 simp only [Option.bind_some]
 have hr1 : Rising [(k,ByteArray.mk #[49])] := by simp [Rising,Asc]
 have hs1 : qY4 [(k,ByteArray.mk #[49])] := fun p hp => by have := List.mem_singleton.1 hp; subst this; exact (by decide : (1 : Nat) ≤ 40)
 simp only [List.length_singleton] at b7
 obtain ⟨b,m2,c2,d1,d2,d3,d4,d5,d6,d7,_⟩ := apply_eq (l := [(k,ByteArray.mk #[],true)]) b4 (by omega) (by omega) b2 hr1 hs1 (fun c hc => by
  have := List.mem_singleton.1 hc; subst this; exact (by decide : (0 : Nat) ≤ 40)) (by simp) (by rw [b5,a3]; simp; omega)
 have q2 : qn1 [(k,ByteArray.mk #[49])] [(k,ByteArray.mk #[],true)] = [] := by
  refine q02 (q50 _ _) (by simp [Rising,Asc]) fun k' => ?_
  rw [qN0,qC2 hr1,updF_one,qH]
  by_cases h : k' = k <;> simp [h,eff,qp2]
 rw [q2] at d2 d7
 simp only [List.length_nil] at d7
 have hb : b = 0 := by
  rcases d2 with h | ⟨_,L',h⟩
  ·exact h.1
  ·exact absurd rfl (tr_ne h)
 subst hb
 rw [d1]
 simp only [Option.bind_some]
 have hT2 := Tr.ext d3 hT
 have d4' : StM (1 + c1 + c2) m2 [a] := by simpa [rl,ha] using d4
 rw [get_eq d4'.wf hT2 hr1]
 simp only [Option.bind_some]
 rw [get_zero]
 simp only [Option.bind_some]
 rw [show qf2 = some allS from rfl]
 simp only [Option.bind_some]
 have hL := qH4 hT2 (by simp)
 rw [scan_eq d4'.wf (by omega) hT2 hr1 (by simp),filter_all (q := [(k,ByteArray.mk #[49])]) (fun p hp => by have := List.mem_singleton.1 hp; subst this; exact hk24)]
 have hg : mget [(k,ByteArray.mk #[49])] k = some (ByteArray.mk #[49]) := by simp [qH]
 rw [hg]
 simp only [Option.bind_some,decide_true,cond_true,Option.getD_some,Option.isSome_some,Bool.not_false,List.length_singleton]
 have h11 : decide (((1 : Nat) : Int) = 1) = true := by decide
 rw [h11]
 simp only [cond_true]
 rw [count_root]
 simp only [Option.bind_some,root_count d4' hT2,decide_true,cond_true]
 rw [check_eq d4'.wf hT2 hr1 hs1 (by simp)]
 simp only [Option.bind_some,decide_true,cond_true]
 obtain ⟨m3,e1,e2,e3,e4,e5⟩ := qr4 (R := []) (.inr ⟨ha,L,hT2⟩) (by simpa [rl,ha] using d4') (by omega) (by simp)
 rw [e1]
 simp only [Option.bind_some,decide_true,cond_true]
 rw [free_eq e2 (by rw [used_nil e2]; omega),used_nil e2,e4,d5,b5,a3]
 rfl
end Go.Val
namespace Go.Val
open Go.RowKit Go.Lib
structure Grown (m : Mem) (r : Int) (q : List Pr) (c : Nat) : Prop where
 root : Root m r q
 st : StM (1 + c) m (rl r)
 ris : Rising q
 short : qY4 q
 k24 : K24s q
 len : q.length ≤ 80
 blk : m.1.1 = 3002
 used : used m ≤ c
 cost : 2 * c ≤ q.length + 1
theorem get_root {K : Int} {m : Mem} {k : Ky} {n : Int} {q : List Pr} (hw : WfM K m) (h : Root m n q) (hq : Rising q) : qW0 m n k = some ((mget q k).getD (ByteArray.mk #[]),(mget q k).isSome,0,m) := by
 rcases h with ⟨rfl,rfl⟩ | ⟨_,L,h⟩
 ·rw [get_zero]; rfl
 ·exact get_eq hw h hq
theorem scan_root {K : Int} {m : Mem} {s : Spn} {n : Int} {q : List Pr} (hw : WfM K m) (h : Root m n q) (hq : Rising q) (hn : q.length ≤ 1000000) : qf1 m n s = some (q.filter fun p => inT s p.1,0,m) := by
 rcases h with ⟨rfl,rfl⟩ | ⟨_,L,h⟩
 ·rw [scan_zero]; rfl
 ·have := qH4 h hn
  exact scan_eq hw (by omega) h hq hn
theorem check_root {K : Int} {m : Mem} {n : Int} {q : List Pr} (hw : WfM K m) (h : Root m n q) (hr : Rising q) (hs : qY4 q) (hn : q.length ≤ 1000000) : qo0 m n = some (0,m) := by
 rcases h with ⟨rfl,rfl⟩ | ⟨_,L,h⟩
 ·exact check_zero
 ·exact check_eq hw h hr hs hn
where
 mget_filter' {q : List Pr} {k : Ky} : mget q k = mget (q.filter fun p => decide (p.1 = k)) k := by
  induction q with
  | nil => rfl
  | cons p q ih =>
   by_cases h : p.1 = k
   ·rw [List.filter_cons_of_pos (by simpa using h),qH,qH,if_pos h.symm,if_pos h.symm]
   ·rw [List.filter_cons_of_neg (by simpa using h),qH,if_neg (fun e => h e.symm),ih]
end Go.Val
namespace Go.Val
open Go.RowKit Go.Lib
end Go.Val
namespace Go.Val
open Go.RowKit Go.Lib
end Go.Val
namespace Go.Val
open Go.RowKit Go.Lib
theorem applyP_app {q : List Pr} (hq : Rising q) (a b : List Cg) : qn1 (qn1 q a) b = qn1 q (a ++ b) := by
 refine q02 (q50 _ _) (q50 _ _) fun k => ?_
 rw [qN0,qN0,qC2 (q50 q a),qN0,updF_append]
end Go.Val
namespace Go.Val
open Go.RowKit Go.Lib
theorem qI3 {V O : Type} {body : V → Option (V ⊕ O)} {v v' : V} (h : body v = some (.inl v')) : qP body v = qP body v' := by
 rw [qM,h]; rfl
theorem and_le {a : Int} {b : Nat} (hb : b < 9223372036854775808) : ∃ m : Nat,qC .i64 a (b : Int) = (m : Int) ∧ m ≤ b := by
 unfold qC
 rw [BitVec.toNat_and,BitVec.toNat_ofInt,BitVec.toNat_ofInt]
 have h64 : (2 : Nat) ^ IntKind.bits .i64 = 18446744073709551616 := by decide
 have e3 : ((b : Int) % ((2 ^ IntKind.bits .i64 : Nat) : Int)).toNat = b := by rw [h64]; omega
 rw [e3]
 have := @Nat.and_le_right ((a % ((2 ^ IntKind.bits .i64 : Nat) : Int)).toNat) b
 exact ⟨_,by rw [wI64 (by omega)],this⟩
def numK (i : Nat) : Ky := [UInt8.ofNat (i / 16777216 % 256),UInt8.ofNat (i / 65536 % 256),UInt8.ofNat (i / 256 % 256),UInt8.ofNat (i % 256)] ++ List.replicate 20 0
theorem numK_len (i : Nat) : (numK i).length = 24 := by simp [numK]
theorem numK_val {i : Nat} (h : i < 4294967296) : valK (numK i) = i * 256 ^ 20 := by
 unfold numK
 rw [valK_append,valK_zero,List.length_replicate]
 have : valK [UInt8.ofNat (i / 16777216 % 256),UInt8.ofNat (i / 65536 % 256),UInt8.ofNat (i / 256 % 256),UInt8.ofNat (i % 256)] = i := by
  simp only [valK,List.length_cons,List.length_nil,UInt8.toNat_ofNat']
  omega
 rw [this,Nat.add_zero]
theorem numK_lt {i j : Nat} (hi : i < 4294967296) (hj : j < 4294967296) : Lt (numK i) (numK j) ↔ i < j := by
 rw [lt_val ((numK_len i).trans (numK_len j).symm),numK_val hi,numK_val hj]
 constructor
 ·intro h; exact Nat.lt_of_mul_lt_mul_right h
 ·intro h; exact Nat.mul_lt_mul_of_pos_right h (Nat.pow_pos (by omega))
theorem numK_inj {i j : Nat} (hi : i < 4294967296) (hj : j < 4294967296) (h : numK i = numK j) : i = j := by
 rcases Nat.lt_trichotomy i j with h1 | h1 | h1
 ·exact absurd ((numK_lt hi hj).2 h1) (h ▸ lt_irrefl _)
 ·exact h1
 ·exact absurd ((numK_lt hj hi).2 h1) (h ▸ lt_irrefl _)
theorem wrap_u8 (n : Nat) : IntKind.wrap .u8 (n : Int) = ((n % 256 : Nat) : Int) := by
 simp only [IntKind.wrap,IntKind.bits,IntKind.signed,Bool.false_and,Bool.false_eq_true,if_false]
 omega
theorem number_eq {i : Nat} (h : i < 4294967296) : qg0 (i : Int) = some (numK i) := by
 unfold qg0
 have c1 : ck true = some () := rfl
 have e0 : IntKind.wrap .u64 (IntKind.wrap .i64 (24 - (IntKind.wrap .i64 (8 * 0)))) = 24 := by decide
 have e1 : IntKind.wrap .u64 (IntKind.wrap .i64 (24 - (IntKind.wrap .i64 (8 * 1)))) = 16 := by decide
 have e2 : IntKind.wrap .u64 (IntKind.wrap .i64 (24 - (IntKind.wrap .i64 (8 * 2)))) = 8 := by decide
 have e3 : IntKind.wrap .u64 (IntKind.wrap .i64 (24 - (IntKind.wrap .i64 (8 * 3)))) = 0 := by decide
 have m0 : min (24 : Int).toNat (IntKind.bits .i64) = 24 := by decide
 have m1 : min (16 : Int).toNat (IntKind.bits .i64) = 16 := by decide
 have m2 : min (8 : Int).toNat (IntKind.bits .i64) = 8 := by decide
 have m3 : min (0 : Int).toNat (IntKind.bits .i64) = 0 := by decide
 have f0 : Int.fdiv (i : Int) (2 ^ 24) = ((i / 16777216 : Nat) : Int) := by rw [Int.fdiv_eq_ediv_of_nonneg _ (by decide)]; norm_cast
 have f1 : Int.fdiv (i : Int) (2 ^ 16) = ((i / 65536 : Nat) : Int) := by rw [Int.fdiv_eq_ediv_of_nonneg _ (by decide)]; norm_cast
 have f2 : Int.fdiv (i : Int) (2 ^ 8) = ((i / 256 : Nat) : Int) := by rw [Int.fdiv_eq_ediv_of_nonneg _ (by decide)]; norm_cast
 have f3 : Int.fdiv (i : Int) (2 ^ 0) = ((i : Nat) : Int) := by rw [Int.fdiv_eq_ediv_of_nonneg _ (by decide)]; simp
 have step : ∀ (j : Nat) (l : List UInt8) (s : Int) (b : Nat),j < 4 → l.length = 24 → IntKind.wrap .u64 (IntKind.wrap .i64 (24 - (IntKind.wrap .i64 (8 * (j : Int))))) = s → 0 ≤ s → IntKind.wrap .u8 (Int.fdiv (i : Int) (2 ^ (min s.toNat (IntKind.bits .i64)))) = ((b : Nat) : Int) → b < 256 →
   (fun (v87 : Int × List UInt8) =>
   cond (decide (v87.1 < 4)) (
    (ck (decide (0 ≤ (IntKind.wrap .u64 (IntKind.wrap .i64 (24 - (IntKind.wrap .i64 (8 * v87.1)))))))).bind fun _ =>
    (ck (decide (0 ≤ v87.1 ∧ v87.1 < 24))).bind fun _ =>
    (ck (decide (v87.1.toNat < v87.2.length))).bind fun _ =>
    (ck (decide (0 ≤ (IntKind.wrap .u8 (Int.fdiv (i : Int) (2 ^ (min (IntKind.wrap .u64 (IntKind.wrap .i64 (24 - (IntKind.wrap .i64 (8 * v87.1))))).toNat (IntKind.bits .i64))))) ∧ (IntKind.wrap .u8 (Int.fdiv (i : Int) (2 ^ (min (IntKind.wrap .u64 (IntKind.wrap .i64 (24 - (IntKind.wrap .i64 (8 * v87.1))))).toNat (IntKind.bits .i64))))) < 256))).bind fun _ =>
    some ((.inl ((IntKind.wrap .i64 (v87.1 + 1)),(List.set v87.2 v87.1.toNat (UInt8.ofNat (IntKind.wrap .u8 (Int.fdiv (i : Int) (2 ^ (min (IntKind.wrap .u64 (IntKind.wrap .i64 (24 - (IntKind.wrap .i64 (8 * v87.1))))).toNat (IntKind.bits .i64))))).toNat)))) : (Int × List UInt8) ⊕ List UInt8)
   ) (
    some (.inr v87.2)
   )) ((j : Int),l) = some (.inl (((j + 1 : Nat) : Int),l.set j (UInt8.ofNat b))) := by
  intro j l s b hj hl hs h0 hb hb2
  have t1 : ((j : Int) < 4) := by omega
  have t2 : (0 ≤ (j : Int) ∧ (j : Int) < 24) := by omega
  have t3 : ((j : Int).toNat < l.length) := by omega
  have t4 : (0 ≤ (b : Int) ∧ (b : Int) < 256) := by omega
  simp only [t1,decide_true,cond_true,hs,h0,c1,Option.bind_some,t2,and_self,t3,hb,t4]
  rw [w64 (by omega) (by omega)]
  rfl
 have s0 := step 0 (List.replicate 24 0) 24 (i / 16777216 % 256) (by omega) (by simp) e0 (by omega) (by rw [m0,f0,wrap_u8]) (by omega)
 have s1 := step 1 (s := 16) (b := i / 65536 % 256) (by omega) (by simp) e1 (by omega) (by rw [m1,f1,wrap_u8]) (by omega) (l := (List.replicate 24 0).set 0 (UInt8.ofNat (i / 16777216 % 256)))
 have s2 := step 2 (s := 8) (b := i / 256 % 256) (by omega) (by simp) e2 (by omega) (by rw [m2,f2,wrap_u8]) (by omega) (l := ((List.replicate 24 0).set 0 (UInt8.ofNat (i / 16777216 % 256))).set 1 (UInt8.ofNat (i / 65536 % 256)))
 have s3 := step 3 (s := 0) (b := i % 256) (by omega) (by simp) e3 (by omega) (by rw [m3,f3,wrap_u8]) (by omega) (l := (((List.replicate 24 0).set 0 (UInt8.ofNat (i / 16777216 % 256))).set 1 (UInt8.ofNat (i / 65536 % 256))).set 2 (UInt8.ofNat (i / 256 % 256)))
 have z0 : (((0 : Nat) : Int),List.replicate 24 (0 : UInt8)) = ((0 : Int),List.replicate 24 (0 : UInt8)) := rfl
 rw [← z0,qI3 s0,qI3 s1,qI3 s2,qI3 s3,qM]
 have t : ¬ (((3 + 1 : Nat) : Int) < 4) := by omega
 simp only [t,decide_false,cond_false,Option.bind_some]
 rfl
end Go.Val
namespace Go.Val
open Go.RowKit Go.Lib
def vB : ByteArray := ByteArray.mk #[118]
def idx (n : Nat) (fall : Bool) (i : Nat) : Nat := if fall = true then n - 1 - i else i
def chg (n : Nat) (fall : Bool) (i : Nat) : Cg := (numK (idx n fall i),vB,false)
def ups (g : Nat → Cg) (a k : Nat) : List Cg := (List.range k).map fun t => g (a + t)
theorem ups_succ (g : Nat → Cg) (a k : Nat) : ups g a (k + 1) = ups g a k ++ [g (a + k)] := by
 unfold ups; rw [List.range_succ]; simp
theorem ups_app (g : Nat → Cg) (a : Nat) : ∀ k,ups g 0 a ++ ups g a k = ups g 0 (a + k)
 | 0 => by simp [ups]
 | k + 1 => by rw [ups_succ,← List.append_assoc,ups_app g a k,← Nat.add_assoc,ups_succ,Nat.zero_add]
theorem ups_len (g : Nat → Cg) (a k : Nat) : (ups g a k).length = k := by simp [ups]
theorem chg_short {n : Nat} {fall : Bool} {a k : Nat} : ShortC (ups (chg n fall) a k) := fun c hc => by
 obtain ⟨t,_,rfl⟩ := List.mem_map.1 hc
 exact (by decide : (1 : Nat) ≤ 40)
theorem chg_k24 {n : Nat} {fall : Bool} {a k : Nat} : K24s (ups (chg n fall) a k) := fun c hc => by
 obtain ⟨t,_,rfl⟩ := List.mem_map.1 hc
 exact numK_len _
theorem row_loop {n at' row : Nat} {fall : Bool} (hn : n ≤ 4095) (ha : at' < n) (hr : 1 ≤ row ∧ row ≤ 500) : (qP (V := (Int × (List Cg))) (O := (List Cg)) (fun v2840 =>
       (((
        cond (decide (v2840.1 < (IntKind.wrap .i64 ((at' : Int) + (row : Int))))) (
         some (decide (v2840.1 < (n : Int)))
        ) (
         some false
        )
       ) : Option Bool)).bind fun o2847 =>
       cond o2847 (
        (((
         cond fall (
          some (IntKind.wrap .i64 ((IntKind.wrap .i64 ((n : Int) - 1)) - v2840.1))
         ) (
          some v2840.1
         )
        ) : Option Int)).bind fun o2859 =>
        (qg0 o2859).bind fun x2865 =>
        (fits (v2840.2.length + ([(x2865,(ByteArray.mk #[118]),false)]).length) 48).bind fun _ =>
        some (.inl ((IntKind.wrap .i64 (v2840.1 + 1)),(v2840.2 ++ [(x2865,(ByteArray.mk #[118]),false)])))
       ) (
        some (.inr v2840.2)
       )
      ) ((at' : Int),[])) = some (ups (chg n fall) at' (min (at' + row) n - at')) := by
 refine whileO_is (fun v => ∃ k,v = (((at' + k : Nat) : Int),ups (chg n fall) at' k) ∧ at' + k ≤ min (at' + row) n) (fun v => ((n : Int) - v.1).toNat) ⟨0,by simp [ups],by omega⟩ ?_
 rintro v ⟨k,rfl,hk⟩
 have w : IntKind.wrap .i64 ((at' : Int) + (row : Int)) = (at' : Int) + (row : Int) := w64 (by omega) (by omega)
 simp only [w]
 by_cases h : at' + k < min (at' + row) n
 ·left
  have t1 : (((at' + k : Nat) : Int) < (at' : Int) + (row : Int)) := by omega
  have t2 : (((at' + k : Nat) : Int) < (n : Int)) := by omega
  have hi : (cond fall (some (IntKind.wrap .i64 ((IntKind.wrap .i64 ((n : Int) - 1)) - ((at' + k : Nat) : Int)))) (some ((at' + k : Nat) : Int)) : Option Int) = some ((idx n fall (at' + k) : Nat) : Int) := by
   unfold idx
   cases fall with
   | true =>
    simp only [cond_true,if_true]
    rw [w64 (n := (n : Int) - 1) (by omega) (by omega),w64 (by omega) (by omega)]
    congr 1; omega
   | false => simp
  have hi2 : idx n fall (at' + k) < 4294967296 := by unfold idx; split <;> omega
  refine ⟨(((at' + (k + 1) : Nat) : Int),ups (chg n fall) at' (k + 1)),?_,⟨k + 1,rfl,by omega⟩,by simp only; omega⟩
  simp only [t1,t2,decide_true,cond_true,Option.bind_some]
  rw [hi]
  simp only [Option.bind_some]
  rw [number_eq hi2]
  simp only [Option.bind_some]
  rw [qb1 (by simp [ups_len]; omega),w64 (by omega) (by omega),ups_succ]
  have : ((at' + k : Nat) : Int) + 1 = ((at' + (k + 1) : Nat) : Int) := by omega
  rw [this]
  rfl
 ·right
  have hk2 : min (at' + row) n - at' = k := by omega
  rw [hk2]
  by_cases t1 : (((at' + k : Nat) : Int) < (at' : Int) + (row : Int))
  ·have t2 : ¬ (((at' + k : Nat) : Int) < (n : Int)) := by omega
   simp only [t1,t2,decide_true,decide_false,cond_true,cond_false,Option.bind_some]
  ·simp only [t1,decide_false,cond_false,Option.bind_some]
def outs (e j : Nat) : List Cg := (List.range j).map fun t => (numK (t * e),ByteArray.mk #[],true)
theorem outs_succ (e j : Nat) : outs e (j + 1) = outs e j ++ [(numK (j * e),ByteArray.mk #[],true)] := by
 unfold outs; rw [List.range_succ]; simp
theorem outs_loop {n e : Nat} (hn : n ≤ 4095) (he : 1 ≤ e ∧ e ≤ 8) : ∃ j,(qP (V := (Int × (List Cg))) (O := (List Cg)) (fun v2978 =>
     cond (decide (v2978.1 < (n : Int))) (
      (qg0 v2978.1).bind fun x2985 =>
      (fits (v2978.2.length + ([(x2985,(ByteArray.mk #[]),true)]).length) 48).bind fun _ =>
      some (.inl ((IntKind.wrap .i64 (v2978.1 + (e : Int))),(v2978.2 ++ [(x2985,(ByteArray.mk #[]),true)])))
     ) (
      some (.inr v2978.2)
     )
    ) (0,[])) = some (outs e j) ∧ n ≤ j * e ∧ (∀ t,t < j → t * e < n) ∧ j ≤ n := by
 have h := qO (V := Int × List Cg) (O := List Cg) (body := fun v2978 =>
     cond (decide (v2978.1 < (n : Int))) (
      (qg0 v2978.1).bind fun x2985 =>
      (fits (v2978.2.length + ([(x2985,(ByteArray.mk #[]),true)]).length) 48).bind fun _ =>
      some (.inl ((IntKind.wrap .i64 (v2978.1 + (e : Int))),(v2978.2 ++ [(x2985,(ByteArray.mk #[]),true)])))
     ) (
      some (.inr v2978.2)
     ))
  (fun v => ∃ j,v = (((j * e : Nat) : Int),outs e j) ∧ (∀ t,t < j → t * e < n) ∧ j ≤ n) (fun v => ((n : Int) - v.1).toNat) (fun o => ∃ j,o = outs e j ∧ n ≤ j * e ∧ (∀ t,t < j → t * e < n) ∧ j ≤ n) ?_ (v := (0,[])) ⟨0,by simp [outs],fun t h => by omega,by omega⟩
 ·obtain ⟨o,h1,j,rfl,h2⟩ := h
  exact ⟨j,h1,h2⟩
 ·rintro v ⟨j,rfl,h1,h2⟩
  by_cases h : j * e < n
  ·left
   have t1 : (((j * e : Nat) : Int) < (n : Int)) := by omega
   have hse : (j + 1) * e = j * e + e := Nat.succ_mul j e
   have hj : j ≤ j * e := Nat.le_mul_of_pos_right j (by omega)
   refine ⟨((((j + 1) * e : Nat) : Int),outs e (j + 1)),?_,⟨j + 1,rfl,fun t ht => ?_,by omega⟩,by simp only; omega⟩
   ·simp only [t1,decide_true,cond_true]
    rw [number_eq (by omega)]
    simp only [Option.bind_some]
    have lo : (outs e j).length = j := by simp [outs]
    rw [qb1 (by simp [lo]; omega),w64 (by omega) (by omega),outs_succ]
    have : ((j * e : Nat) : Int) + (e : Int) = (((j + 1) * e : Nat) : Int) := by omega
    rw [this]
    rfl
   ·by_cases ht' : t < j
    ·exact h1 t ht'
    ·have : t = j := by omega
     rw [this]; exact h
  ·right
   have t1 : ¬ (((j * e : Nat) : Int) < (n : Int)) := by omega
   exact ⟨outs e j,by simp only [t1,decide_false,cond_false],j,rfl,by omega,h1,h2⟩
def finT (n e i : Nat) : List Pr := ((List.range' i (n - i)).filter fun j => decide (j % e ≠ 0)).map fun j => (numK j,vB)
theorem finT_step {n e i : Nat} (h : i < n) : finT n e i = (if i % e ≠ 0 then [(numK i,vB)] else []) ++ finT n e (i + 1) := by
 unfold finT
 rw [show n - i = (n - (i + 1)) + 1 by omega,List.range'_succ,List.filter_cons]
 by_cases hp : i % e ≠ 0 <;> simp [hp]
theorem finT_end {n e i : Nat} (h : n ≤ i) : finT n e i = [] := by
 unfold finT
 rw [show n - i = 0 by omega]; rfl
theorem finT_mem {n e : Nat} {p : Pr} : p ∈ finT n e 0 ↔ ∃ i,i < n ∧ i % e ≠ 0 ∧ p = (numK i,vB) := by
 unfold finT
 constructor
 ·intro h
  obtain ⟨j,hj,rfl⟩ := List.mem_map.1 h
  obtain ⟨h1,h2⟩ := List.mem_filter.1 hj
  have := List.mem_range'_1.1 h1
  exact ⟨j,by omega,of_decide_eq_true h2,rfl⟩
 ·rintro ⟨i,h1,h2,rfl⟩
  exact List.mem_map.2 ⟨i,List.mem_filter.2 ⟨List.mem_range'_1.2 (by omega),decide_eq_true h2⟩,rfl⟩
theorem qA4 {n e : Nat} (hn : n ≤ 4095) : Rising (finT n e 0) := by
 have hp : (List.range' 0 (n - 0)).Pairwise (· < ·) := List.pairwise_lt_range'
 have hf := List.Pairwise.sublist (List.filter_sublist (p := fun j => decide (j % e ≠ 0))) hp
 have hm : ∀ j ∈ (List.range' 0 (n - 0)).filter fun j => decide (j % e ≠ 0),j < 4294967296 := fun j hj => by
  have := List.mem_range'_1.1 (List.mem_filter.1 hj).1
  omega
 show List.Pairwise _ _
 unfold finT
 rw [List.map_map,List.pairwise_map]
 exact List.Pairwise.imp_of_mem (fun {a b} ha hb hab => (numK_lt (hm a ha) (hm b hb)).2 hab) hf
theorem idx_lt {n i : Nat} {fall : Bool} (h : i < n) : idx n fall i < n := by unfold idx; split <;> omega
theorem idx_idx {n i : Nat} {fall : Bool} (h : i < n) : idx n fall (idx n fall i) = i := by
 unfold idx
 cases fall <;> simp
 omega
theorem ups_nodup {n k : Nat} {fall : Bool} (hn : n ≤ 4095) (hk : k ≤ n) : ((ups (chg n fall) 0 k).map (·.1)).Nodup := by
 unfold ups
 rw [List.map_map]
 show List.Pairwise _ _
 rw [List.pairwise_map]
 refine List.Pairwise.imp_of_mem (fun {a b} ha hb hab => ?_) (List.nodup_range (n := k))
 have ha := List.mem_range.1 ha
 have hb := List.mem_range.1 hb
 intro e
 simp only [Function.comp,chg,Nat.zero_add] at e
 have l1 := idx_lt (fall := fall) (show a < n by omega)
 have l2 := idx_lt (fall := fall) (show b < n by omega)
 have h := numK_inj (by omega) (by omega) e
 have : a = b := by rw [← idx_idx (fall := fall) (show a < n by omega),h,idx_idx (by omega)]
 exact hab this
theorem outs_nodup {n e j : Nat} (hn : n ≤ 4095) (he : 1 ≤ e) (h : ∀ t,t < j → t * e < n) : ((outs e j).map (·.1)).Nodup := by
 unfold outs
 rw [List.map_map]
 show List.Pairwise _ _
 rw [List.pairwise_map]
 refine List.Pairwise.imp_of_mem (fun {a b} ha hb hab => ?_) (List.nodup_range (n := j))
 have ha := h a (List.mem_range.1 ha)
 have hb := h b (List.mem_range.1 hb)
 intro e'
 have e2 := numK_inj (by omega) (by omega) e'
 exact hab (Nat.eq_of_mul_eq_mul_right he e2)
theorem mget_all {n : Nat} {fall : Bool} (hn : n ≤ 4095) (k : Ky) (v : ByteArray) : mget (qn1 [] (ups (chg n fall) 0 n)) k = some v ↔ ∃ i,i < n ∧ k = numK i ∧ v = vB := by
 have hnd := ups_nodup (fall := fall) hn (Nat.le_refl n)
 have hr0 : Rising ([] : List Pr) := by simp [Rising,Asc]
 rw [qN0,qC2 hr0,updF_nodup hnd]
 constructor
 ·intro h
  cases hm : mget (ups (chg n fall) 0 n) k with
  | none => rw [hm] at h; cases h
  | some c =>
   rw [hm] at h
   obtain ⟨t,ht,e⟩ := List.mem_map.1 (qx0 hm)
   have ht := List.mem_range.1 ht
   simp only [chg,Nat.zero_add,Prod.mk.injEq] at e
   obtain ⟨rfl,rfl⟩ := e
   exact ⟨idx n fall t,idx_lt ht,rfl,(Option.some.inj h).symm⟩
 ·rintro ⟨i,hi,rfl,rfl⟩
  have hm : (numK i,vB,false) ∈ ups (chg n fall) 0 n := List.mem_map.2 ⟨idx n fall i,List.mem_range.2 (idx_lt hi),by simp only [chg,Nat.zero_add]; rw [idx_idx hi]⟩
  rw [qc1 hnd hm]
  rfl
theorem left_eq {n e j : Nat} {fall : Bool} (hn : n ≤ 4095) (he : 1 ≤ e) (h1 : n ≤ j * e) (h2 : ∀ t,t < j → t * e < n) : qn1 (qn1 [] (ups (chg n fall) 0 n)) (outs e j) = finT n e 0 := by
 refine q02 (q50 _ _) (qA4 hn) fun k => Option.ext fun v => ?_
 rw [qN0,qC2 (q50 _ _),updF_nodup (outs_nodup hn he h2)]
 have hr : mget (finT n e 0) k = some v ↔ ∃ i,i < n ∧ i % e ≠ 0 ∧ k = numK i ∧ v = vB := by
  constructor
  ·intro h
   obtain ⟨i,a,b,c⟩ := finT_mem.1 (qx0 h)
   simp only [Prod.mk.injEq] at c
   exact ⟨i,a,b,c⟩
  ·rintro ⟨i,a,b,rfl,rfl⟩
   exact qc1 (qA4 hn).nodup (finT_mem.2 ⟨i,a,b,rfl⟩)
 rw [hr]
 cases hm : mget (outs e j) k with
 | some c =>
  obtain ⟨t,ht,e'⟩ := List.mem_map.1 (qx0 hm)
  have ht' := h2 t (List.mem_range.1 ht)
  simp only [Prod.mk.injEq] at e'
  obtain ⟨rfl,rfl⟩ := e'
  constructor
  ·intro h; cases h
  ·rintro ⟨i,a,b,c,_⟩
   have := numK_inj (by omega) (by omega) c
   rw [← this,Nat.mul_mod_left] at b
   exact absurd rfl b
 | none =>
  show mget _ k = some v ↔ _
  rw [mget_all hn]
  constructor
  ·rintro ⟨i,a,rfl,c⟩
   refine ⟨i,a,fun hz => ?_,rfl,c⟩
   have hd : i / e * e = i := Nat.div_mul_cancel (Nat.dvd_of_mod_eq_zero hz)
   have hlt : i / e < j := by
    refine Nat.lt_of_not_le fun hle => ?_
    have := Nat.mul_le_mul_right e hle
    omega
   refine qp1.1 hm (List.mem_map.2 ⟨(numK (i / e * e),ByteArray.mk #[],true),List.mem_map.2 ⟨i / e,List.mem_range.2 hlt,rfl⟩,?_⟩)
   show numK (i / e * e) = numK i
   rw [hd]
  ·rintro ⟨i,a,b,c,d⟩
   exact ⟨i,a,c,d⟩
end Go.Val
namespace Go.Val
open Go.RowKit Go.Lib
theorem tr_level5 {m : Mem} {L : Nat} {n : Int} {q : List Pr} (h : Tr m L n q) (hn : q.length ≤ 4095) : L ≤ 5 := by
 match L,h with
 | 0,_ => omega
 | L + 1,h =>
  rw [Tr] at h
  obtain ⟨_,ks,h1,h2,h3,qs,h4,h5⟩ := h
  have := qi4 (R := KidR m L) (c := 3 * 9 ^ L) (fun k q hk => tr_size hk.1 hk.2.1) h5
  rw [h4] at this
  have h2' : 2 * (3 * 9 ^ L) ≤ ks.length * (3 * 9 ^ L) := Nat.mul_le_mul_right _ h2
  refine Nat.le_of_not_lt fun h6 => ?_
  have h9 : 9 ^ 5 ≤ 9 ^ L := Nat.pow_le_pow_right (by omega) (by omega)
  have : (9 : Nat) ^ 5 = 59049 := by decide
  omega
theorem ups_le {g : Nat → Cg} {k : Nat} : (qn1 [] (ups g 0 k)).length ≤ k := by
 have := applyP_len [] (ups g 0 k)
 rw [ups_len] at this
 simpa using this
theorem treeLarge_true (a0 a1 a2 : Int) (fall : Bool) : qT1 a0 a1 a2 fall = some true := by
 unfold qT1
 obtain ⟨m0,b1,b2,b3,b4⟩ := new_eq (most := 20000) (by omega)
 rw [shown_eq,b1]
 simp only [Option.bind_some]
 obtain ⟨n,n1,hn⟩ := and_le (a := a0) (b := 4095) (by omega)
 have n1' : qC .i64 a0 4095 = (n : Int) := n1
 obtain ⟨rw',r1,hr⟩ := and_le (a := a1) (b := 65535) (by omega)
 have r1' : qC .i64 a1 65535 = (rw' : Int) := r1
 obtain ⟨ev,e1,he⟩ := and_le (a := a2) (b := 7) (by omega)
 have e1' : qC .i64 a2 7 = (ev : Int) := e1
 have hrow : IntKind.wrap .i64 (1 + Int.tmod (rw' : Int) 500) = ((1 + rw' % 500 : Nat) : Int) := by
  rw [Int.tmod_eq_emod_of_nonneg (by omega),w64 (by omega) (by omega)]; omega
 have hevy : IntKind.wrap .i64 (1 + (ev : Int)) = ((1 + ev : Nat) : Int) := by rw [w64 (by omega) (by omega)]; omega
 simp only [n1',r1',e1',hrow,hevy]
 obtain ⟨row,hrw⟩ : ∃ row,row = 1 + rw' % 500 := ⟨_,rfl⟩
 obtain ⟨e,hee⟩ : ∃ e,e = 1 + ev := ⟨_,rfl⟩
 rw [← hrw,← hee]
 have hr0 : Rising ([] : List Pr) := by simp [Rising,Asc]
 have hs0 : qY4 [] := fun p hp => by cases hp
 refine qg2 (Q := fun o => o = some true) (fun v => ∃ (r : Int) (at' : Nat) (m : Mem) (K : Nat),v = (r,(at' : Int),m) ∧ at' ≤ n + row ∧ Root m r (qn1 [] (ups (chg n fall) 0 (min at' n))) ∧ StM K m (rl r) ∧ m.1.1 = 20002 ∧ 1 ≤ K ∧ K ≤ 1 + at' * 2048) (fun v => ((n : Int) - v.2.1).toNat)
  (fun o => ∃ (r : Int) (m : Mem) (K : Nat),o = .inl (r,m) ∧ Root m r (qn1 [] (ups (chg n fall) 0 n)) ∧ StM K m (rl r) ∧ m.1.1 = 20002 ∧ 1 ≤ K ∧ K ≤ 100000000)
  ⟨0,0,m0,1,rfl,by omega,.inl ⟨rfl,by simp [ups,applyP_nil hr0]⟩,by simpa [rl] using b2,by rw [b3]; rfl,by omega,by omega⟩ ?_ ?_
 ·rintro v ⟨r,at',m,K,rfl,ha,h1,h2,h3,h4,h5⟩
  by_cases hlt : at' < n
  ·left
   have t1 : ((at' : Int) < (n : Int)) := by omega
   have hmin : min at' n = at' := by omega
   rw [hmin] at h1
   simp only [t1,decide_true,cond_true]
   rw [row_loop hn hlt ⟨by omega,by omega⟩]
   simp only [Option.bind_some]
   have hq := ups_le (g := chg n fall) (k := at')
   have hqr := q50 [] (ups (chg n fall) 0 at')
   have hqs : qY4 (qn1 [] (ups (chg n fall) 0 at')) := qa3 hr0 hs0 chg_short
   have hu := used_one h2 h1
   obtain ⟨r2,m2,c2,d1,d2,d3,d4,d5,d6,d7,_⟩ := apply_eq (l := ups (chg n fall) at' (min (at' + row) n - at')) h2 h4 (by omega) h1 hqr hqs chg_short (by rw [ups_len]; omega) (by rw [h3,ups_len]; omega)
   rw [applyP_app hr0,ups_app,show at' + (min (at' + row) n - at') = min (at' + row) n by omega] at d2 d7
   rw [d1]
   have hq2 := ups_le (g := chg n fall) (k := min (at' + row) n)
   obtain ⟨m3,f1,f2,f3,f4,f5⟩ := qr4 (R := rl r2) (root_grow d3 h1) d4 (by omega) (by omega)
   simp only [Option.bind_some,ne_eq,not_true_eq_false,decide_false,cond_false]
   rw [f1]
   simp only [Option.bind_some,not_true_eq_false,decide_false,cond_false,Sum.elim_inl]
   have hmul : (at' + row) * 2048 = at' * 2048 + row * 2048 := Nat.add_mul _ _ _
   have w : IntKind.wrap .i64 ((at' : Int) + (row : Int)) = ((at' + row : Nat) : Int) := by rw [w64 (by omega) (by omega)]; omega
   rw [w]
   refine ⟨_,rfl,⟨r2,at' + row,m3,K + c2,rfl,by omega,root_shrink f3 f2.rc (fun h0 => rc_live f2.rc (by simp [rl,h0])) d2,f2,by rw [f4,d5,h3],by omega,by omega⟩,by simp only; omega⟩
  ·right
   have t1 : ¬ ((at' : Int) < (n : Int)) := by omega
   have hmin : min at' n = n := by omega
   rw [hmin] at h1
   exact ⟨.inl (r,m),by simp only [t1,decide_false,cond_false],r,m,K,rfl,h1,h2,h3,h4,by omega⟩
 ·rintro o ⟨r,m,K,rfl,h1,h2,h3,h4,h5⟩
  simp only [Sum.elim_inl]
  have hq := ups_le (g := chg n fall) (k := n)
  have hqr := q50 [] (ups (chg n fall) 0 n)
  have hqs : qY4 (qn1 [] (ups (chg n fall) 0 n)) := qa3 hr0 hs0 chg_short
  have hqk : K24s (qn1 [] (ups (chg n fall) 0 n)) := applyP_k24 hr0 (fun p hp => by cases hp) chg_k24
  rw [check_root h2.wf h1 hqr hqs (by omega)]
  simp only [Option.bind_some,ne_eq,not_true_eq_false,decide_false,cond_false]
  obtain ⟨j,j1,j2,j3,j4⟩ := outs_loop (n := n) (e := e) hn ⟨by omega,by omega⟩
  rw [j1]
  simp only [Option.bind_some]
  have hu := used_one h2 h1
  have lo : (outs e j).length = j := by simp [outs]
  have hso : ShortC (outs e j) := fun c hc => by
   obtain ⟨t,_,rfl⟩ := List.mem_map.1 hc
   exact (by decide : (0 : Nat) ≤ 40)
  have hko : K24s (outs e j) := fun c hc => by
   obtain ⟨t,_,rfl⟩ := List.mem_map.1 hc
   exact numK_len _
  obtain ⟨r2,m2,c2,d1,d2,d3,d4,d5,d6,d7,_⟩ := apply_eq (l := outs e j) h2 h4 (by omega) h1 hqr hqs hso (by omega) (by rw [h3]; omega)
  have hfk := applyP_k24 hqr hqk hko
  have hfs := qa3 hqr hqs hso
  rw [left_eq hn (by omega) j2 j3] at d2 d7 hfk hfs
  have hfr := qA4 (e := e) hn
  have hfl : (finT n e 0).length ≤ n := by
   unfold finT
   rw [List.length_map]
   have := List.length_filter_le (fun j => decide (j % e ≠ 0)) (List.range' 0 (n - 0))
   simp at this ⊢
   omega
  rw [d1]
  obtain ⟨m3,f1,f2,f3,f4,f5⟩ := qr4 (R := rl r2) (root_grow d3 h1) d4 (by omega) (by omega)
  have hroot : Root m3 r2 (finT n e 0) := root_shrink f3 f2.rc (fun h0 => rc_live f2.rc (by simp [rl,h0])) d2
  simp only [Option.bind_some,not_true_eq_false,decide_false,cond_false]
  rw [f1]
  simp only [Option.bind_some,not_true_eq_false,decide_false,cond_false]
  rw [check_root f2.wf hroot hfr hfs (by omega)]
  simp only [Option.bind_some,not_true_eq_false,decide_false,cond_false]
  have hlv : (((
     cond (decide (r2 ≠ 0)) (
      (qu m3 r2).bind fun x3053 =>
      (((
       cond (decide (x3053.2.1 ≠ 0)) (
        some true
       ) (
        some (decide (x3053.1.1 > 5))
       )
      ) : Option Bool)).bind fun o3059 =>
      cond o3059 (
       some (.inr false)
      ) (
       some (.inl x3053.2.2)
      )
     ) (
      some (.inl m3)
     )
    ) : Option (Mem ⊕ Bool))) = some (.inl m3) := by
   by_cases h0 : r2 = 0
   ·simp [h0]
   ·obtain ⟨L,hT⟩ := root_tr hroot h0
    have h5 := tr_level5 hT (by omega)
    have hl5 : ¬ ((L : Int) > 5) := by omega
    simp only [ne_eq,h0,not_false_eq_true,decide_true,cond_true,tr_get hT,Option.bind_some,not_true_eq_false,decide_false,cond_false,(tr_nd hT).1,hl5]
  have hlv' := hlv
  simp only [ne_eq] at hlv'
  rw [hlv']
  simp only [Option.bind_some,Sum.elim_inl]
  rw [show qf2 = some allS from rfl]
  simp only [Option.bind_some]
  rw [scan_root f2.wf hroot hfr (by omega),filter_all hfk]
  simp only [Option.bind_some,not_true_eq_false,decide_false,cond_false]
  refine qg2 (Q := fun o => o = some true) (fun v => ∃ (D : List Pr) (i : Nat),v = ((D.length : Int),(i : Int),m3) ∧ finT n e 0 = D ++ finT n e i ∧ i ≤ n) (fun v => ((n : Int) - v.2.1).toNat)
   (fun o => o = .inl (((finT n e 0).length : Int),m3)) ⟨[],0,rfl,rfl,by omega⟩ ?_ ?_
  ·rintro v ⟨D,i,rfl,g1,g2⟩
   by_cases hi : i < n
   ·left
    have t1 : ((i : Int) < (n : Int)) := by omega
    have he0 : decide (((e : Nat) : Int) ≠ 0) = true := decide_eq_true (by omega)
    have c1 : ck true = some () := rfl
    have hmod : Int.tmod (i : Int) (e : Int) = ((i % e : Nat) : Int) := by rw [Int.tmod_eq_emod_of_nonneg (by omega)]; rfl
    have w : IntKind.wrap .i64 ((i : Int) + 1) = ((i + 1 : Nat) : Int) := by rw [w64 (by omega) (by omega)]; omega
    have hstep := finT_step (e := e) hi
    simp only [t1,decide_true,cond_true]
    rw [number_eq (by omega)]
    simp only [Option.bind_some]
    rw [get_root f2.wf hroot hfr]
    simp only [Option.bind_some]
    have he0' : decide (¬ ((e : Nat) : Int) = 0) = true := he0
    simp only [he0',c1,Option.bind_some,not_true_eq_false,decide_false,cond_false,hmod,w]
    by_cases hz : i % e = 0
    ·have hn0 : (mget (finT n e 0) (numK i)) = none := by
      refine qp1.2 fun hm => ?_
      obtain ⟨p,hp,ep⟩ := List.mem_map.1 hm
      obtain ⟨i',a,b,rfl⟩ := finT_mem.1 hp
      have := numK_inj (by omega) (by omega) ep
      rw [this] at b
      exact b hz
     have hz' : ((i % e : Nat) : Int) = 0 := by omega
     refine ⟨((D.length : Int),((i + 1 : Nat) : Int),m3),?_,⟨D,i + 1,rfl,?_,by omega⟩,by simp only; omega⟩
     ·rw [hn0]
      simp [hz']
     ·rw [hstep,if_neg (by omega)] at g1
      simpa using g1
    ·have hm0 : (mget (finT n e 0) (numK i)) = some vB := qc1 hfr.nodup (finT_mem.2 ⟨i,hi,hz,rfl⟩)
     have hz' : ¬ ((i % e : Nat) : Int) = 0 := by omega
     rw [hstep,if_pos hz] at g1
     have g1' : finT n e 0 = D ++ (numK i,vB) :: finT n e (i + 1) := by simpa using g1
     have hl : (finT n e 0).length = D.length + ((finT n e (i + 1)).length + 1) := by rw [g1']; simp
     have t2 : ¬ ((D.length : Int) ≥ ((finT n e 0).length : Int)) := by omega
     have g0 : gx (finT n e 0) (D.length : Int) = some (numK i,vB) := by rw [g1']; exact qI2 rfl
     refine ⟨((D.length : Int) + 1,((i + 1 : Nat) : Int),m3),?_,⟨D ++ [(numK i,vB)],i + 1,by simp,by simpa using g1',by omega⟩,by simp only; omega⟩
     rw [hm0]
     have w2 : IntKind.wrap .i64 ((D.length : Int) + 1) = (D.length : Int) + 1 := w64 (by omega) (by omega)
     have hz3 : decide (((i % e : Nat) : Int) = 0) = false := decide_eq_false hz'
     simp only [hz3,t2,g0,w2,Option.bind_some,Option.isSome_some,decide_false,decide_true,cond_false,cond_true,Bool.not_true,Bool.not_false,Sum.elim_inl]
     rfl
   ·right
    have t1 : ¬ ((i : Int) < (n : Int)) := by omega
    have : D = finT n e 0 := by rw [g1,finT_end (by omega)]; simp
    exact ⟨.inl ((D.length : Int),m3),by simp only [t1,decide_false,cond_false],by rw [this]⟩
  ·rintro o rfl
   simp only [Sum.elim_inl,decide_true,cond_true]
   obtain ⟨m4,k1,k2,k3,k4,k5⟩ := qr4 (R := []) hroot (by rw [List.append_nil]; exact f2) (by omega) (by omega)
   rw [k1]
   simp only [Option.bind_some,decide_true,cond_true]
   rw [free_eq k2 (by rw [used_nil k2]; omega),used_nil k2,k4,f4,d5,h3]
   rfl
end Go.Val
