/- Scan,over a tree. -/
import Derived.Test.YtfbnhflapgddbaaT1
import Derived.Test.YtfbnhflapgddbaaWi
import Derived.Test.YtfbnhflapgddbaaLd
import Derived.Test.YtfbnhflapgddbaaWj
import Derived.Test.YtfbnhflapgddbaaWm
set_option linter.unusedSectionVars false
set_option linter.unusedVariables false
set_option linter.unusedSimpArgs false
namespace Go.Val
open Go.RowKit Go.Lib
theorem qC1 {V O R : Type} {body : V → Option (V ⊕ O)} {f : O → Option R} {Q : Option R → Prop} (J : V → Prop) (μ : V → Nat) (Post : O → Prop) {v : V} (hv : J v)
  (hs : ∀ v,J v → (∃ v',body v = some (.inl v') ∧ J v' ∧ μ v' < μ v) ∨ ∃ o,body v = some (.inr o) ∧ Post o)
  (hp : ∀ o,Post o → Q (f o)) : Q ((qJ body v).bind f) := by
 obtain ⟨o,h1,h2⟩ := qR J μ Post hs hv
 rw [h1]
 exact hp o h2
theorem whileO_is {V O : Type} {body : V → Option (V ⊕ O)} {o : O} (J : V → Prop) (μ : V → Nat) {v : V} (hv : J v)
  (hs : ∀ v,J v → (∃ v',body v = some (.inl v') ∧ J v' ∧ μ v' < μ v) ∨ body v = some (.inr o)) : qJ body v = some o := by
 obtain ⟨o',h1,h2⟩ := qR J μ (fun x => x = o) (fun v hv => (hs v hv).imp id fun h => ⟨o,h,rfl⟩) hv
 rw [h1,h2]
theorem whileO_ex {V O : Type} {body : V → Option (V ⊕ O)} {Post : O → Prop} (J : V → Prop) (μ : V → Nat) {v : V} (hv : J v)
  (hs : ∀ v,J v → (∃ v',body v = some (.inl v') ∧ J v' ∧ μ v' < μ v) ∨ ∃ o,body v = some (.inr o) ∧ Post o) : ∃ o,qJ body v = some o ∧ Post o :=
 qR J μ Post hs hv
theorem cmp_eq (a b : Ky) : qu a b = some (compareBytes a b) := by simp [qu,qT]
theorem filter_none {s : Spn} {q : List Pr} (h : ∀ x ∈ q,inT s x.1 = false) : (q.filter fun p => inT s p.1) = [] := by
 refine List.filter_eq_nil_iff.2 fun x hx => ?_
 rw [h x hx]; simp
theorem inT_low {s : Spn} {k : Ky} (h : Lt k s.1) : inT s k = false := by
 unfold inT Lt at *
 have : ¬ compareBytes k s.1 ≥ 0 := by omega
 simp [this]
theorem inT_high {s : Spn} {k : Ky} (he : s.2.2 = false) (h : ¬ Lt k s.2.1) : inT s k = false := by
 unfold inT Lt at *
 simp [he,h]
theorem scan_n {K : Int} {m : Mem} {s : Spn} (hw : WfM K m) : ∀ (fuel L : Nat) {n : Int} {q : List Pr},L < fuel → Tr m L n q → Rising q → q.length ≤ 1000000 →
  qD1 fuel m n s = some (q.filter fun p => inT s p.1,0,m) := by
 intro fuel
 induction fuel with
 | zero => intro L n q h; omega
 | succ fuel ih =>
  intro L n q hL hT hq hn
  have hc := qu4 (qg2 hT)
  have hp := hw.pos n _ hc.2
  have n0 : ¬ n = 0 := by omega
  have hg := tr_get hT
  have hnd := q05 hT
  rw [qD1]
  unfold qH1
  rw [hg]
  simp only [n0,decide_false,cond_false,Option.bind_some,ne_eq,not_true_eq_false]
  rw [scan_leaf (by omega)]
  simp only [Option.bind_some]
  match L,hT with
  | 0,hT =>
   rw [Tr] at hT
   rw [hT.2.1]
   rw [qI]
   simp
  | L + 1,hT =>
   rw [Tr] at hT
   obtain ⟨_,ks,h1,h2,h3,qs,h4,h5⟩ := hT
   rw [h1]
   simp only [List.filter_nil]
   have hqf : Rising qs.flatten := h4 ▸ hq
   refine qC1 (Q := fun o => o = some (q.filter fun p => inT s p.1,0,m)) (fun v => ∃ D Z QD QZ,ks = D ++ Z ∧ qs = QD ++ QZ ∧ F2 (fun k q => Tr m L k.2 q ∧ ¬ fewN (ndOf m k.2) ∧ hd q = some k.1) Z QZ ∧ v = ((D.length : Int),m,QD.flatten.filter fun p => inT s p.1))
    (fun v => ((ks.length : Int) - v.1).toNat) (fun o => o = .inl (m,q.filter fun p => inT s p.1)) ⟨[],ks,[],qs,rfl,rfl,h5,rfl⟩ ?_ ?_
   ·rintro v ⟨D,Z,QD,QZ,e1,e2,e3,rfl⟩
    have hl : ks.length = D.length + Z.length := by rw [e1]; simp
    cases e3 with
    | nil =>
     right
     have t : ¬ ((D.length : Int) < (ks.length : Int)) := by simp at hl; omega
     refine ⟨.inl (m,q.filter fun p => inT s p.1),?_,rfl⟩
     simp only [t,decide_false,cond_false]
     rw [← h4,e2]; simp
    | @cons z qz Z' QZ' hz hzs =>
     left
     simp only [List.length_cons] at hl
     have t : ((D.length : Int) < (ks.length : Int)) := by omega
     have g0 : gx ks (D.length : Int) = some z := by rw [e1]; exact qA1 rfl
     have w1 : IntKind.wrap .i64 ((D.length : Int) + 1) = (D.length : Int) + 1 := w64 (by omega) (by omega)
     rw [e2,List.flatten_append,List.flatten_cons] at hqf
     obtain ⟨r1,r2,r3⟩ := qF.1 hqf
     obtain ⟨r4,r5,r6⟩ := qF.1 r2
     have lq : qs.flatten.length = q.length := by rw [h4]
     have lq' : QD.flatten.length + qz.length ≤ q.length := by rw [← lq,e2]; simp
     have fl1 := List.length_filter_le (fun p : Pr => inT s p.1) QD.flatten
     have fl2 := List.length_filter_le (fun p : Pr => inT s p.1) qz
     refine ⟨((D.length : Int) + 1,m,(QD ++ [qz]).flatten.filter fun p => inT s p.1),?_,⟨D ++ [z],Z',QD ++ [qz],QZ',by simp [e1],by simp [e2],hzs,by simp⟩,by simp; omega⟩
     simp only [t,decide_true,cond_true,w1]
     have hbe : ∃ bh,((cond (decide ((D.length : Int) + 1 < (ks.length : Int))) (
         (gx ks ((D.length : Int) + 1)).bind fun x1100 =>
         (qu x1100.1 s.1).bind fun x1103 =>
         some (decide (x1103 ≤ 0))
        ) (
         some false
        )) : Option Bool) = some bh ∧ (bh = true → ∀ x ∈ qz,inT s x.1 = false) := by
      cases hzs with
      | nil =>
       have t2 : ¬ ((D.length : Int) + 1 < (ks.length : Int)) := by simp at hl; omega
       exact ⟨false,by simp only [t2,decide_false,cond_false],fun h => by cases h⟩
      | @cons y qy Z2 QZ2 hy hys =>
       simp only [List.length_cons] at hl
       have t2 : ((D.length : Int) + 1 < (ks.length : Int)) := by omega
       have g1 : gx ks ((D.length : Int) + 1) = some y := by
        rw [e1,show D ++ z :: y :: Z2 = (D ++ [z]) ++ y :: Z2 by simp]; exact qA1 (by simp)
       refine ⟨decide (compareBytes y.1 s.1 ≤ 0),by simp only [t2,decide_true,cond_true,g1,Option.bind_some,cmp_eq],fun h x hx => ?_⟩
       have h' := of_decide_eq_true h
       obtain ⟨b,hb,eb⟩ := qv5 hy.2.2
       have := r6 x hx b (by simp [hb])
       rw [eb] at this
       exact inT_low (cb_lt_le this h')
     obtain ⟨bh,b1,b2⟩ := hbe
     rw [b1]
     simp only [Option.bind_some]
     have hah : ∃ ah,((cond (!s.2.2) (
         (gx ks (D.length : Int)).bind fun x1121 =>
         (qu x1121.1 s.2.1).bind fun x1124 =>
         some (decide (x1124 ≥ 0))
        ) (
         some false
        )) : Option Bool) = some ah ∧ (ah = true → ∀ x ∈ qz,inT s x.1 = false) := by
      cases hs : s.2.2 with
      | true => exact ⟨false,rfl,fun h => by cases h⟩
      | false =>
       refine ⟨decide (compareBytes z.1 s.2.1 ≥ 0),by simp only [Bool.not_false,cond_true,g0,Option.bind_some,cmp_eq],fun h x hx => ?_⟩
       have h' := of_decide_eq_true h
       refine inT_high hs fun hl => ?_
       rcases hd_le hz.2.2 r4 x hx with e | e
       ·rw [e] at hl; unfold Lt at hl; omega
       ·have := lt_trans e hl; unfold Lt at this; omega
     obtain ⟨ah,a1,a2⟩ := hah
     rw [a1]
     simp only [Option.bind_some]
     have hor : (cond bh (some true) (some ah) : Option Bool) = some (bh || ah) := by cases bh <;> rfl
     rw [hor]
     simp only [Option.bind_some]
     have e0 : ((QD ++ [qz]).flatten.filter fun p => inT s p.1) = (QD.flatten.filter fun p => inT s p.1) ++ qz.filter fun p => inT s p.1 := by simp
     rw [e0]
     cases hb : (bh || ah) with
     | true =>
      have : (qz.filter fun p => inT s p.1) = [] := filter_none (by
       rcases Bool.or_eq_true _ _ |>.mp hb with h | h
       ·exact b2 h
       ·exact a2 h)
      rw [this]
      simp
     | false =>
      simp only [cond_false,g0,Option.bind_some]
      rw [ih L (by omega) hz.1 r4 (by omega)]
      simp only [Option.bind_some,not_true_eq_false,decide_false,cond_false]
      rw [qb1 (by omega)]
      rfl
   ·rintro o rfl
    rfl
theorem scan_eq {K : Int} {m : Mem} {s : Spn} (hw : WfM K m) {L : Nat} {n : Int} {q : List Pr} (hL : L < 16) (h : Tr m L n q) (hq : Rising q) (hn : q.length ≤ 1000000) : q54 m n s = some (q.filter fun p => inT s p.1,0,m) :=
 scan_n hw 16 L hL h hq hn
end Go.Val
namespace Go.Val
open Go.RowKit Go.Lib
abbrev KidR (m : Mem) (L : Nat) (k : Kd) (q : List Pr) : Prop := Tr m L k.2 q ∧ ¬ fewN (ndOf m k.2) ∧ hd q = some k.1
def qt5 (q : List Pr) : Prop := ∀ p ∈ q,p.2.size ≤ 40
theorem qq4 {K : Int} {m : Mem} {n : Int} (hw : WfM K m) (h : cnt m n ≠ 0) : 1 ≤ cnt m n ∧ cnt m n ≤ K ∧ 2 ≤ n ∧ n < m.1.1 := hw.pos n _ (qu4 h).2
theorem kids_ok {K : Int} {m : Mem} (hw : WfM K m) {L : Nat} : ∀ {ks : List Kd} {qs : List (List Pr)},F2 (KidR m L) ks qs → Rising qs.flatten → qw5 ks
 | _,_,.nil,_ => ⟨by simp,by simp⟩
 | _,_,.cons (a := k) (b := q) (l := ks) (r := qs) h hs,hr => by
  rw [List.flatten_cons] at hr
  obtain ⟨r1,r2,r3⟩ := qF.1 hr
  obtain ⟨i1,i2⟩ := kids_ok hw hs r2
  have hp := qq4 hw (qg2 h.1)
  have hb := hw.blk
  refine ⟨fun k' hk' => ?_,?_⟩
  ·rcases List.mem_cons.1 hk' with rfl | hk'
   ·exact ⟨hp.2.2.1,by omega⟩
   ·exact i1 k' hk'
  ·rw [List.map_cons,List.nodup_cons]
   refine ⟨fun hm => ?_,i2⟩
   obtain ⟨k',hk',e⟩ := List.mem_map.1 hm
   obtain ⟨q',hq',hR⟩ := hs.mem k' hk'
   have e2 : q' = q := by
    have := hR.1
    rw [e] at this
    exact tr_unique this h.1
   obtain ⟨x,hx,_⟩ := qv5 h.2.2
   exact lt_irrefl _ (r3 x hx x (List.mem_flatten.2 ⟨q',hq',by rw [e2]; exact hx⟩))
theorem right_inner {K : Int} {m : Mem} (hw : WfM K m) {L : Nat} {ks : List Kd} {qs : List (List Pr)} (hL : L + 1 < 12) (h2 : 2 ≤ ks.length) (h18 : ks.length ≤ 18) (h : F2 (KidR m L) ks qs) (hr : Rising qs.flatten) : qO3 (((L + 1 : Nat) : Int),[],ks) := by
 refine ⟨by simp only; omega,by simp only; omega,fun h0 => ?_,fun _ => ⟨h2,h18,rfl⟩,by simp,kids_ok hw h hr,by simp [Rising,Asc],q35 (fun k q hk => hk.2.2) h hr⟩
 have h0' : ((L + 1 : Nat) : Int) = 0 := h0
 omega
theorem right_leaf {q : List Pr} (h1 : 1 ≤ q.length) (h7 : q.length ≤ 7) (hr : Rising q) (hs : qt5 q) : qO3 (0,q,[]) :=
 ⟨by simp,by simp,fun _ => ⟨h1,h7,rfl⟩,fun h => by simp at h,hs,⟨by simp,by simp⟩,hr,by simp [Rising,Asc]⟩
theorem tr_right {K : Int} {m : Mem} (hw : WfM K m) : ∀ {L : Nat} {n : Int} {q : List Pr},L < 12 → Tr m L n q → Rising q → qt5 q → qO3 (ndOf m n)
 | 0,n,q,_,h,hr,hs => by
  rw [Tr] at h
  rw [h.2.1]
  exact right_leaf h.2.2.1 h.2.2.2 hr hs
 | L + 1,n,q,hL,h,hr,hs => by
  rw [Tr] at h
  obtain ⟨_,ks,h1,h2,h3,qs,h4,h5⟩ := h
  rw [h1]
  exact right_inner hw hL h2 h3 h5 (h4 ▸ hr)
theorem rightB {x : Nd} (h : qO3 x) : qe1 x = some true := by
 have h1 : x.2.1.length ≤ 1000000000 := by
  obtain ⟨a,b,c,d,_⟩ := h
  by_cases e : x.1 = 0
  ·have := c e; omega
  ·have := d (by omega); omega
 have h2 : x.2.2.length ≤ 1000000000 := by
  obtain ⟨a,b,c,d,_⟩ := h
  by_cases e : x.1 = 0
  ·have := c e; omega
  ·have := d (by omega); omega
 obtain ⟨b,e1,e2⟩ := right_eq h1 h2
 rw [e1,e2.2 h]
theorem q95 {m : Mem} {L : Nat} {n : Int} {q : List Pr} (h : Tr m L n q) (hn : q.length ≤ 1000000) : L < 7 := by
 match L,h with
 | 0,_ => omega
 | L + 1,h =>
  rw [Tr] at h
  obtain ⟨_,ks,h1,h2,h3,qs,h4,h5⟩ := h
  have := flat_size (R := KidR m L) (c := 3 * 9 ^ L) (fun k q hk => tr_size hk.1 hk.2.1) h5
  rw [h4] at this
  have h2' : 2 * (3 * 9 ^ L) ≤ ks.length * (3 * 9 ^ L) := Nat.mul_le_mul_right _ h2
  refine Nat.lt_of_not_le fun h6 => ?_
  have h9 : 9 ^ 6 ≤ 9 ^ L := Nat.pow_le_pow_right (by omega) (by omega)
  have : (9 : Nat) ^ 6 = 531441 := by decide
  omega
instance (x : Nd) : Decidable (fewN x) := by
 unfold fewN
 split <;> infer_instance
theorem few_nd (x : Nd) : ql3 x = some (decide (fewN x)) := by
 obtain ⟨l,ps,ks⟩ := x
 unfold ql3 fewN
 by_cases h : l = 0
 ·simp [h]
  constructor <;> intro <;> omega
 ·simp [h]
  constructor <;> intro <;> omega
theorem first_tr {m : Mem} : ∀ {L : Nat} {n : Int} {q : List Pr} {k : Ky},Tr m L n q → hd q = some k → qR0 (ndOf m n) = some k
 | 0,n,q,k,h,hk => by
  rw [Tr] at h
  rw [h.2.1]
  match q,hk with
  | x :: q,hk =>
   have e : x.1 = k := by simpa [hd] using hk
   unfold qR0
   rw [show gx (x :: q) 0 = some x from rfl]
   simp [e]
 | L + 1,n,q,k,h,hk => by
  rw [Tr] at h
  obtain ⟨_,ks,h1,h2,h3,qs,h4,h5⟩ := h
  rw [h1]
  match ks,qs,h5 with
  | k0 :: ks,q0 :: qs,.cons h h5 =>
   have e : k0.1 = k := by
    rw [← h4,List.flatten_cons,hd_app (hd_ne h.2.2),h.2.2] at hk
    exact Option.some.inj hk
   unfold qR0
   rw [show gx (k0 :: ks) 0 = some k0 from rfl]
   simp [e]
theorem check_n {K : Int} {m : Mem} (hw : WfM K m) : ∀ (fuel L : Nat) {n : Int} {q : List Pr} {t : Ky × Bool},L < fuel → L < 12 → Tr m L n q → Rising q → qt5 q → (t.2 = true → ∀ x ∈ q,Lt x.1 t.1) →
  qn1 fuel m (ndOf m n) t = some (0,m) := by
 intro fuel
 induction fuel with
 | zero => intro L n q t h; omega
 | succ fuel ih =>
  intro L n q t hL h12 hT hr hs ht
  have hR := tr_right hw h12 hT hr hs
  rw [qn1]
  unfold qu1
  rw [rightB hR]
  simp only [Option.bind_some,Bool.not_true,cond_false]
  have hlast : ∃ k,((cond (decide ((ndOf m n).1 = 0)) (
    (gx (ndOf m n).2.1 (IntKind.wrap .i64 (((ndOf m n).2.1.length : Int) - 1))).bind fun x22 =>
    some x22.1
   ) (
    (gx (ndOf m n).2.2 (IntKind.wrap .i64 (((ndOf m n).2.2.length : Int) - 1))).bind fun x25 =>
    some x25.1
   )) : Option (List UInt8)) = some k ∧ ∃ x ∈ q,x.1 = k := by
   match L,hT with
   | 0,hT =>
    rw [Tr] at hT
    rw [hT.2.1]
    rcases qx0 q with rfl | ⟨D,z,rfl⟩
    ·simp at hT
    ·refine ⟨z.1,?_,z,by simp,rfl⟩
     have hl7 := hT.2.2.2
     simp only [List.length_append,List.length_cons,List.length_nil] at hl7
     have e : IntKind.wrap .i64 (((D ++ [z]).length : Int) - 1) = (D.length : Int) := by
      rw [w64 (by simp <;> omega) (by simp <;> omega)]; simp
     simp only [decide_true,cond_true]
     rw [e,show gx (D ++ [z]) (D.length : Int) = some z from qA1 rfl]
     rfl
   | L + 1,hT =>
    rw [Tr] at hT
    obtain ⟨_,ks,h1,h2,h3,qs,h4,h5⟩ := hT
    rw [h1]
    rcases qx0 ks with rfl | ⟨D,z,rfl⟩
    ·simp at h2
    ·have h0 : ¬ ((L + 1 : Nat) : Int) = 0 := by omega
     simp only [List.length_append,List.length_cons,List.length_nil] at h3
     have e : IntKind.wrap .i64 (((D ++ [z]).length : Int) - 1) = (D.length : Int) := by
      rw [w64 (by simp <;> omega) (by simp <;> omega)]; simp
     obtain ⟨q',hq',hR'⟩ := h5.mem z (by simp)
     obtain ⟨x,hx,ex⟩ := qv5 hR'.2.2
     refine ⟨z.1,?_,x,by rw [← h4]; exact List.mem_flatten.2 ⟨q',hq',hx⟩,ex⟩
     simp only [h0,decide_false,cond_false]
     rw [e,show gx (D ++ [z]) (D.length : Int) = some z from qA1 rfl]
     rfl
  obtain ⟨k,k1,x,hx,ex⟩ := hlast
  rw [k1]
  simp only [Option.bind_some]
  have hb : ((cond t.2 (
    (qu k t.1).bind fun x40 =>
    some (decide (x40 ≥ 0))
   ) (
    some false
   )) : Option Bool) = some false := by
   cases h : t.2 with
   | false => rfl
   | true =>
    have := ht h x hx
    rw [ex] at this
    unfold Lt at this
    have h' : ¬ (compareBytes k t.1 ≥ 0) := by omega
    simp only [cond_true,cmp_eq,Option.bind_some,h',decide_false]
  rw [hb]
  simp only [Option.bind_some,cond_false]
  match L,hT with
  | 0,hT =>
   rw [Tr] at hT
   rw [hT.2.1,qI]
   simp
  | L + 1,hT =>
   rw [Tr] at hT
   obtain ⟨_,ks,h1,h2,h3,qs,h4,h5⟩ := hT
   rw [h1]
   have hqf : Rising qs.flatten := h4 ▸ hr
   refine qC1 (Q := fun o => o = some (0,m)) (fun v => ∃ D Z QD QZ,ks = D ++ Z ∧ qs = QD ++ QZ ∧ F2 (KidR m L) Z QZ ∧ v = ((D.length : Int),m))
    (fun v => ((ks.length : Int) - v.1).toNat) (fun o => o = .inl m) ⟨[],ks,[],qs,rfl,rfl,h5,rfl⟩ ?_ ?_
   ·rintro v ⟨D,Z,QD,QZ,e1,e2,e3,rfl⟩
    have hl : ks.length = D.length + Z.length := by rw [e1]; simp
    cases e3 with
    | nil =>
     right
     have t : ¬ ((D.length : Int) < (ks.length : Int)) := by simp at hl; omega
     exact ⟨.inl m,by simp only [t,decide_false,cond_false],rfl⟩
    | @cons z qz Z' QZ' hz hzs =>
     left
     simp only [List.length_cons] at hl
     have tt : ((D.length : Int) < (ks.length : Int)) := by omega
     have g0 : gx ks (D.length : Int) = some z := by rw [e1]; exact qA1 rfl
     have w1 : IntKind.wrap .i64 ((D.length : Int) + 1) = (D.length : Int) + 1 := w64 (by omega) (by omega)
     have w2 : IntKind.wrap .i64 (((L + 1 : Nat) : Int) - 1) = (L : Int) := by rw [w64 (by omega) (by omega)]; omega
     rw [e2,List.flatten_append,List.flatten_cons] at hqf
     obtain ⟨r1,r2,r3⟩ := qF.1 hqf
     obtain ⟨r4,r5,r6⟩ := qF.1 r2
     refine ⟨((D.length : Int) + 1,m),?_,⟨D ++ [z],Z',QD ++ [qz],QZ',by simp [e1],by simp [e2],hzs,by simp⟩,by simp; omega⟩
     simp only [tt,decide_true,cond_true,w1,g0,Option.bind_some,tr_get hz.1,ne_eq,not_true_eq_false,decide_false,cond_false]
     have hsub : ∀ x ∈ qz,x ∈ q := fun x hx => by rw [← h4,e2]; simp [hx]
     have hnx : ∃ t',((cond (decide ((D.length : Int) + 1 < (ks.length : Int))) (
         (gx ks ((D.length : Int) + 1)).bind fun x439 =>
         some (x439.1,true)
        ) (
         some t
        )) : Option ((List UInt8) × Bool)) = some t' ∧ (t'.2 = true → ∀ x ∈ qz,Lt x.1 t'.1) := by
      cases hzs with
      | nil =>
       have t2 : ¬ ((D.length : Int) + 1 < (ks.length : Int)) := by simp at hl; omega
       exact ⟨t,by simp only [t2,decide_false,cond_false],fun h x hx => ht h x (hsub x hx)⟩
      | @cons y qy Z2 QZ2 hy hys =>
       simp only [List.length_cons] at hl
       have t2 : ((D.length : Int) + 1 < (ks.length : Int)) := by omega
       have g1 : gx ks ((D.length : Int) + 1) = some y := by
        rw [e1,show D ++ z :: y :: Z2 = (D ++ [z]) ++ y :: Z2 by simp]; exact qA1 (by simp)
       refine ⟨(y.1,true),by simp only [t2,decide_true,cond_true,g1,Option.bind_some],fun h x hx => ?_⟩
       obtain ⟨b,hb,eb⟩ := qv5 hy.2.2
       have := r6 x hx b (by simp [hb])
       rw [eb] at this
       exact this
     obtain ⟨t',n1,n2⟩ := hnx
     rw [n1]
     simp only [Option.bind_some,w2,(q05 hz.1).1,not_true_eq_false,decide_false,cond_false,first_tr hz.1 hz.2.2,decide_true,Bool.not_true,few_nd,hz.2.1]
     rw [ih L (by omega) (by omega) hz.1 r4 (fun x hx => hs x (hsub x hx)) n2]
     rfl
   ·rintro o rfl
    rfl
theorem check_eq {K : Int} {m : Mem} (hw : WfM K m) {L : Nat} {n : Int} {q : List Pr} (h : Tr m L n q) (hr : Rising q) (hs : qt5 q) (hn : q.length ≤ 1000000) : q02 m n = some (0,m) := by
 have hp := qq4 hw (qg2 h)
 have n0 : ¬ n = 0 := by omega
 have hL := q95 h hn
 unfold q02 qf3
 simp only [n0,decide_false,cond_false,tr_get h,Option.bind_some,ne_eq,not_true_eq_false]
 rw [check_n hw 16 L (by omega) (by omega) h hr hs (fun h => by cases h)]
 rfl
end Go.Val
namespace Go.Val
open Go.RowKit Go.Lib
def used (m : Mem) : Nat := m.1.2.1.length
def Live (m : Mem) : Prop := ∀ n,cnt m n ≠ 0 → ∃ L q,L < 12 ∧ Tr m L n q ∧ Rising q ∧ qt5 q
structure StM (K : Nat) (m : Mem) (R : List Int) : Prop where
 wf : WfM (K : Int) m
 live : Live m
 rc : RC m R
structure Wr (K : Nat) (m : Mem) (d R : List Int) (L : Nat) (p : Pt) (q : List Pr) (n : Int) (d' : List Int) (m' : Mem) (c : Nat) : Prop where
 tr : Tr m' L n q
 grow : Grow m m'
 st : StM (K + c) m' (R ++ [n])
 blk : m'.1.1 = m.1.1
 used : used m' = used m + frs L p
 dlen : d'.length = d.length + c
 fr : frs L p ≤ c
 c1 : 2 * c ≤ q.length + 1
 c2 : ¬ fewP p → ¬ fewN (ndOf m' n) ∧ 2 * c + 1 ≤ q.length
theorem WfM.mono {K K' : Int} {m : Mem} (h : WfM K m) (hK : K ≤ K') : WfM K' m := ⟨h.blk,h.low,h.full,h.nodup,fun n c hc => by
 obtain ⟨a,b,c,d⟩ := h.pos n c hc
 exact ⟨a,by omega,c,d⟩⟩
theorem live_grow {m m' : Mem} (h : Live m) (hg : Grow m m') (hn : ∀ n,cnt m' n ≠ 0 → cnt m n = 0 → ∃ L q,L < 12 ∧ Tr m' L n q ∧ Rising q ∧ qt5 q) : Live m' := fun n hc => by
 by_cases h0 : cnt m n = 0
 ·exact hn n hc h0
 ·obtain ⟨L,q,a,b,c⟩ := h n h0
  exact ⟨L,q,a,Tr.ext hg b,c⟩
theorem tr_rising_level {m : Mem} {L : Nat} {n : Int} {q : List Pr} (h : Tr m L n q) (hn : q.length ≤ 1000000) : L < 12 := by
 have := q95 h hn
 omega
theorem inc_st {K : Nat} {m : Mem} {R : List Int} {b : Int} (h : StM K m R) (hK : K ≤ 1000000000000) (hb : cnt m b ≠ 0) :
  qt0 m b = some (0,incM m b) ∧ StM (K + 1) (incM m b) (R ++ [b]) ∧ Grow m (incM m b) ∧ (incM m b).1.1 = m.1.1 ∧ used (incM m b) = used m := by
 obtain ⟨e1,e2⟩ := inc_eq h.wf (by omega) hb
 have hg : Grow m (incM m b) := ext_inc hb (qq4 h.wf hb).1
 refine ⟨e1,⟨e2.mono (by omega),live_grow h.live hg fun n hc h0 => ?_,rc_inc h.rc hb⟩,hg,rfl,mset_len (qu4 hb).1⟩
 rw [cnt_inc] at hc
 by_cases e : n = b
 ·exact absurd h0 (e ▸ hb)
 ·rw [if_neg e] at hc; exact absurd h0 hc
theorem put_st {K : Nat} {m : Mem} {R : List Int} {x : Nd} (h : StM K m (R ++ q52 x)) (hK : 1 ≤ K) (hx : qO3 x) (h1 : x.2.1.length ≤ 1000000000) (h2 : x.2.2.length ≤ 1000000000) (hf : (used m : Int) < m.1.1 - 2)
  {L : Nat} {q : List Pr} (hT : ∀ m' n,Grow m m' → cnt m' n ≠ 0 → ndOf m' n = x → Tr m' L n q) (hL : L < 12) (hr : Rising q) (hs : qt5 q) :
  ∃ n m',qO0 m x = some (n,0,m') ∧ Tr m' L n q ∧ ndOf m' n = x ∧ StM K m' (R ++ [n]) ∧ Grow m m' ∧ m'.1.1 = m.1.1 ∧ used m' = used m + 1 ∧ cnt m n = 0 := by
 obtain ⟨n,e1,e2,e3,e4,e5⟩ := put_eq h.wf (by omega) hx h1 h2 hf
 have hg : Grow m (putM m n x) := ext_put e2
 have hn : ndOf (putM m n x) n = x := by rw [nd_put,if_pos rfl]
 have hc : cnt (putM m n x) n ≠ 0 := by rw [cnt_put,if_pos rfl]; omega
 have ht := hT _ n hg hc hn
 refine ⟨n,putM m n x,e1,ht,hn,⟨e5,live_grow h.live hg fun k hk h0 => ?_,rc_put h.wf h.rc e2⟩,hg,rfl,mset_len_new (cnt_not h.wf e2),e2⟩
 by_cases e : k = n
 ·subst e; exact ⟨L,q,hL,ht,hr,hs⟩
 ·rw [cnt_put,if_neg e] at hk; exact absurd h0 hk
theorem ptOk_none {m : Mem} {L : Nat} {k : Ky} {b : Int} {q : List Pr} (h : PtOk m L (k,b,none) q) : Tr m L b q ∧ ¬ fewN (ndOf m b) ∧ hd q = some k := by
 match L,h with
 | 0,h => rw [PtOk] at h; exact h
 | L + 1,h => rw [PtOk] at h; exact h
theorem F2.snoc {α β : Type} {R : α → β → Prop} {l : List α} {r : List β} {a : α} {b : β} (h : F2 R l r) (k : R a b) : F2 R (l ++ [a]) (r ++ [b]) := h.app (.cons k .nil)
theorem kidR_grow {m m' : Mem} (hg : Grow m m') {L : Nat} {k : Kd} {q : List Pr} (h : KidR m L k q) : KidR m' L k q := by
 obtain ⟨_,g2⟩ := hg k.2 (qg2 h.1)
 exact ⟨Tr.ext hg h.1,by rw [g2]; exact h.2.1,h.2.2⟩
def NotOne (p : Pt) : Prop := ∀ l ps ks,p.2.2 = some (.mk l ps ks) → ks.length ≠ 1
theorem notFew_notOne {m : Mem} : ∀ {L : Nat} {p : Pt} {q : List Pr},PtOk m L p q → ¬ fewP p → NotOne p
 | 0,(k,b,none),q,h,_ => fun l ps ks e => by cases e
 | L + 1,(k,b,none),q,h,_ => fun l ps ks e => by cases e
 | 0,(k,b,some (.mk l ps ks)),q,h,hf => fun l' ps' ks' e => by
  rw [PtOk] at h
  simp only [Option.some.injEq,Fr.mk.injEq] at e
  rw [← e.2.2,h.2.1]; simp
 | L + 1,(k,b,some (.mk l ps ks)),q,h,hf => fun l' ps' ks' e => by
  rw [PtOk] at h
  have h0 : ¬ (l = 0) := by omega
  simp only [fewP,h0,if_false] at hf
  simp only [Option.some.injEq,Fr.mk.injEq] at e
  rw [← e.2.2]; omega
theorem write_n : ∀ (fuel L : Nat) {K : Nat} {m : Mem} {d R : List Int} {p : Pt} {q : List Pr},L < fuel → L < 12 → PtOk m L p q → NotOne p → StM K m R → 1 ≤ K → K + q.length ≤ 1000000000000 → d.length + q.length ≤ 1000000000 →
  (used m : Int) + q.length ≤ m.1.1 - 2 → Rising q → qt5 q →
  ∃ n d' m' c,ql0 fuel d p m = some (n,0,d',m') ∧ Wr K m d R L p q n d' m' c := by
 intro fuel
 induction fuel with
 | zero => intro L K m d R p q h; omega
 | succ fuel ih =>
  intro L K m d R p q hL h12 hp h1 hst hK hKq hd hroom hr hs
  rw [ql0]
  unfold qz0
  obtain ⟨k,b,f⟩ := p
  match f with
  | none =>
   obtain ⟨t1,t2,t3⟩ := ptOk_none hp
   obtain ⟨i1,i2,i3,i4,i5⟩ := inc_st hst (by omega) (qg2 t1)
   have hq := tr_size t1 t2
   have h9 : 1 ≤ 9 ^ L := Nat.one_le_pow _ _ (by omega)
   refine ⟨b,d ++ [b],incM m b,1,?_,⟨Tr.ext i3 t1,i3,i2,i4,by rw [i5,frs_none]; rfl,by simp,by rw [frs_none]; omega,by omega,fun _ => ⟨?_,by omega⟩⟩⟩
   ·simp only [Option.isNone_none,cond_true]
    rw [i1]
    simp only [Option.bind_some,decide_true,cond_true]
    rw [qb1 (by simp; omega)]
    rfl
   ·rw [(i3 b (qg2 t1)).2]; exact t2
  | some (.mk l ps ks) =>
   simp only [Option.isNone_some,cond_false,frOf,Option.bind_some]
   match L,hp with
   | 0,hp =>
    rw [PtOk] at hp
    obtain ⟨rfl,rfl,rfl,a1,a2,a3⟩ := hp
    rw [qI]
    obtain ⟨n,m',e1,e2,e3,e4,e5,e6,e7,e8⟩ := put_st (x := (0,ps,[])) (R := R) (K := K) (by simpa [q52] using hst) hK (right_leaf a1 a2 hr hs) (by simp only; omega) (by simp) (by omega) (L := 0) (q := ps)
     (fun m' n hg hc hn => by rw [Tr]; exact ⟨hc,hn,a1,a2⟩) (by omega) hr hs
    refine ⟨n,d ++ [n],m',1,?_,⟨e2,e5,⟨e4.wf.mono (by omega),e4.live,e4.rc⟩,e6,by rw [e7,frs],by simp,by rw [frs]; omega,by omega,fun hf => ?_⟩⟩
    ·have : ¬ ((0 : Int) < ((([] : List Pt).length : Nat) : Int)) := by simp
     simp only [this,decide_false,cond_false,Option.bind_some,Sum.elim_inl]
     rw [e1]
     simp only [Option.bind_some,decide_true,cond_true]
     rw [qb1 (by simp; omega)]
     rfl
    ·simp [fewP] at hf
     rw [e3]
     refine ⟨?_,by omega⟩
     simp [fewN]; omega
   | L + 1,hp =>
    rw [PtOk] at hp
    obtain ⟨rfl,rfl,a1,a2,a3,qs,a4,a5,a6⟩ := hp
    have hk1 : ks.length ≠ 1 := h1 _ _ _ rfl
    have a6' := a6 (by omega)
    have hrf : Rising qs.flatten := a4 ▸ hr
    refine qC1 (Q := fun o => ∃ n d' m' c,o = some (n,0,d',m') ∧ Wr K m d R (L + 1) (k,b,some (.mk ((L + 1 : Nat) : Int) [] ks)) q n d' m' c)
     (fun v => ∃ D Z QD QZ c,∃ (d1 : List Int) (m1 : Mem) (kds : List Kd),ks = D ++ Z ∧ qs = QD ++ QZ ∧ F2 (PtOk m1 L) Z QZ ∧ v = ((D.length : Int),d1,m1,(((L + 1 : Nat) : Int),[],kds)) ∧ F2 (KidR m1 L) kds QD ∧ kds.length = D.length ∧
      Grow m m1 ∧ StM (K + c) m1 (R ++ kds.map (·.2)) ∧ m1.1.1 = m.1.1 ∧ used m1 = used m + (D.map (frs L)).sum ∧ d1.length = d.length + c ∧ (D.map (frs L)).sum ≤ c ∧ 2 * c + D.length ≤ QD.flatten.length)
     (fun v => ((ks.length : Int) - v.1).toNat)
     (fun o => ∃ c,∃ (d1 : List Int) (m1 : Mem) (kds : List Kd),o = .inl (d1,m1,(((L + 1 : Nat) : Int),[],kds)) ∧ F2 (KidR m1 L) kds qs ∧ kds.length = ks.length ∧
      Grow m m1 ∧ StM (K + c) m1 (R ++ kds.map (·.2)) ∧ m1.1.1 = m.1.1 ∧ used m1 = used m + (ks.map (frs L)).sum ∧ d1.length = d.length + c ∧ (ks.map (frs L)).sum ≤ c ∧ 2 * c + ks.length ≤ qs.flatten.length)
     ⟨[],ks,[],qs,0,d,m,[],rfl,rfl,a5,rfl,.nil,rfl,Grow.refl m,by simpa using hst,rfl,by simp,by simp,by simp,by simp⟩ ?_ ?_
    ·rintro v ⟨D,Z,QD,QZ,c,d1,m1,kds,e1,e2,e3,rfl,e4,e5,e6,e7,e8,e9,e10,e11,e12⟩
     have hl : ks.length = D.length + Z.length := by rw [e1]; simp
     cases e3 with
     | nil =>
      right
      have t : ¬ ((D.length : Int) < (ks.length : Int)) := by simp at hl; omega
      rw [List.append_nil] at e1 e2
      subst e1; subst e2
      exact ⟨.inl (d1,m1,(((L + 1 : Nat) : Int),[],kds)),by simp only [t,decide_false,cond_false],c,d1,m1,kds,rfl,e4,e5,e6,e7,e8,e9,e10,e11,e12⟩
     | @cons z qz Z' QZ' hz hzs =>
      left
      simp only [List.length_cons] at hl
      have tt : ((D.length : Int) < (ks.length : Int)) := by omega
      have g0 : gx ks (D.length : Int) = some z := by rw [e1]; exact qA1 rfl
      have w1 : IntKind.wrap .i64 ((D.length : Int) + 1) = (D.length : Int) + 1 := w64 (by omega) (by omega)
      have hrf' := hrf
      rw [e2,List.flatten_append,List.flatten_cons] at hrf'
      have r4 := (qF.1 (qF.1 hrf').2.1).1
      have hsz : qt5 qz := fun x hx => hs x (by rw [← a4,e2]; simp [hx])
      have lq : q.length = QD.flatten.length + qz.length + QZ'.flatten.length := by rw [← a4,e2]; simp; omega
      have hzf : ¬ fewP z := a6' z (by rw [e1]; simp)
      obtain ⟨n,d2,m2,c2,f1,f2⟩ := ih L (K := K + c) (m := m1) (d := d1) (R := R ++ kds.map (·.2)) (p := z) (q := qz) (by omega) (by omega) hz (notFew_notOne hz hzf) e7 (by omega) (by omega) (by omega) (by rw [e8]; omega) r4 hsz
      obtain ⟨f3,f4⟩ := f2.c2 hzf
      have hhd := ptOk_hd hz
      refine ⟨((D.length : Int) + 1,d2,m2,(((L + 1 : Nat) : Int),[],kds ++ [(z.1,n)])),?_,⟨D ++ [z],Z',QD ++ [qz],QZ',c + c2,d2,m2,kds ++ [(z.1,n)],by simp [e1],by simp [e2],hzs.imp fun p q h => PtOk.ext f2.grow h,by simp,?_,by simp [e5],e6.trans f2.grow,?_,by rw [f2.blk,e8],?_,by rw [f2.dlen]; omega,?_,?_⟩,by simp; omega⟩
      ·simp only [tt,decide_true,cond_true,g0,Option.bind_some]
       rw [f1]
       simp only [Option.bind_some,ne_eq,not_true_eq_false,decide_false,cond_false,w1]
       rw [qb1 (by simp; omega)]
       rfl
      ·exact (e4.imp fun k q h => kidR_grow f2.grow h).snoc ⟨f2.tr,f3,hhd⟩
      ·have := f2.st
       rw [show K + (c + c2) = K + c + c2 by omega]
       rw [List.map_append,← List.append_assoc]
       exact this
      ·rw [f2.used,e9]; simp; omega
      ·have := f2.fr; simp; omega
      ·have : (QD ++ [qz]).flatten.length = QD.flatten.length + qz.length := by simp
       rw [this,List.length_append,List.length_singleton]; omega
    ·rintro o ⟨c,d1,m1,kds,rfl,e4,e5,e6,e7,e8,e9,e10,e11,e12⟩
     simp only [Sum.elim_inl]
     have lq : qs.flatten.length = q.length := by rw [a4]
     obtain ⟨n,m',p1,p2,p3,p4,p5,p6,p7,p8⟩ := put_st (x := (((L + 1 : Nat) : Int),[],kds)) (R := R) (K := K + c) e7 (by omega) (right_inner e7.wf (by omega) (by omega) (by omega) e4 hrf) (by simp) (by simp only; omega) (by rw [e8]; omega) (L := L + 1) (q := q)
      (fun m' n hg hc hn => by
       rw [Tr]
       exact ⟨hc,kds,hn,by omega,by omega,qs,a4,e4.imp fun k q h => kidR_grow hg h⟩) (by omega) hr hs
     refine ⟨n,d1 ++ [n],m',c + 1,?_,⟨p2,e6.trans p5,⟨p4.wf.mono (by omega),p4.live,p4.rc⟩,by rw [p6,e8],?_,by simp; omega,?_,by omega,fun hf => ⟨?_,?_⟩⟩⟩
     ·rw [p1]
      simp only [Option.bind_some,decide_true,cond_true]
      rw [qb1 (by simp; omega)]
      rfl
     ·rw [p7,e9,frs]; omega
     ·rw [frs]; omega
     ·have h0 : ¬ (((L + 1 : Nat) : Int) = 0) := by omega
      simp only [fewP,h0,if_false] at hf
      rw [p3]
      simp only [fewN,h0,if_false]
      omega
     ·have h0 : ¬ (((L + 1 : Nat) : Int) = 0) := by omega
      simp only [fewP,h0,if_false] at hf
      omega
theorem write_eq {L K : Nat} {m : Mem} {d R : List Int} {p : Pt} {q : List Pr} (hL : L < 12) (hp : PtOk m L p q) (h1 : NotOne p) (hst : StM K m R) (hK : 1 ≤ K) (hKq : K + q.length ≤ 1000000000000) (hd : d.length + q.length ≤ 1000000000)
  (hroom : (used m : Int) + q.length ≤ m.1.1 - 2) (hr : Rising q) (hs : qt5 q) :
  ∃ n d' m' c,qa1 d p m = some (n,0,d',m') ∧ Wr K m d R L p q n d' m' c :=
 write_n 16 L (by omega) hL hp h1 hst hK hKq hd hroom hr hs
end Go.Val
namespace Go.Val
open Go.RowKit Go.Lib
def Root (m : Mem) (r : Int) (q : List Pr) : Prop := (r = 0 ∧ q = []) ∨ (r ≠ 0 ∧ ∃ L,Tr m L r q)
def rl (r : Int) : List Int := if r = 0 then [] else [r]
def ShortC (l : List Cg) : Prop := ∀ c ∈ l,c.2.1.size ≤ 40
theorem root_grow {m m' : Mem} (hg : Grow m m') {r : Int} {q : List Pr} (h : Root m r q) : Root m' r q := by
 rcases h with h | ⟨h0,L,h⟩
 ·exact .inl h
 ·exact .inr ⟨h0,L,Tr.ext hg h⟩
theorem root_tr {m : Mem} {r : Int} {q : List Pr} (h : Root m r q) (h0 : r ≠ 0) : ∃ L,Tr m L r q := by
 rcases h with ⟨h,_⟩ | ⟨_,h⟩
 ·exact absurd h h0
 ·exact h
theorem apply_loop {l : List Cg} {m : Mem} (hl : ShortC l) (hn : l.length ≤ 1000000) : (qJ (V := Int) (O := (Unit ⊕ (Int × Int × Mem))) (fun v57 =>
   cond (decide (v57 < (l.length : Int))) (
    (gx l v57).bind fun x64 =>
    cond (decide ((x64.2.1.size : Int) > 40)) (
     some (.inr (.inr (0,1,m)))
    ) (
     some (.inl (IntKind.wrap .i64 (v57 + 1)))
    )
   ) (
    some (.inr (.inl ()))
   )
  ) 0) = some (.inl ()) := by
 refine whileO_is (fun v => ∃ D Z,l = D ++ Z ∧ v = (D.length : Int)) (fun v => ((l.length : Int) - v).toNat) ⟨[],l,rfl,rfl⟩ ?_
 rintro v ⟨D,Z,e1,rfl⟩
 have hlen : l.length = D.length + Z.length := by rw [e1]; simp
 match Z with
 | [] =>
  right
  have t : ¬ ((D.length : Int) < (l.length : Int)) := by simp at hlen; omega
  simp only [t,decide_false,cond_false]
 | z :: Z' =>
  left
  simp only [List.length_cons] at hlen
  have t : ((D.length : Int) < (l.length : Int)) := by omega
  have g0 : gx l (D.length : Int) = some z := by rw [e1]; exact qA1 rfl
  have hz := hl z (by rw [e1]; simp)
  have t2 : ¬ ((z.2.1.size : Int) > 40) := by omega
  refine ⟨(D.length : Int) + 1,?_,⟨D ++ [z],Z',by simp [e1],by simp⟩,by omega⟩
  simp only [t,decide_true,cond_true,g0,Option.bind_some,t2,decide_false,cond_false]
  rw [w64 (by omega) (by omega)]
theorem mg_apply {q : List Pr} {l s : List Cg} (hr : Rising q) (hs : Rising s) (hg : ∀ k,mget s k = mget l.reverse k) : mgP q s = qq2 q l := by
 obtain ⟨h1,h2⟩ := mgP_spec hr hs
 refine q63 h1 (qZ0 q l) fun k => ?_
 rw [h2,qv2,qT4 hr,hg]
 rfl
theorem applyP_short {q : List Pr} {l : List Cg} (hr : Rising q) (hs : qt5 q) (hl : ShortC l) : qt5 (qq2 q l) := fun p hp => by
 have h1 : mget (qq2 q l) p.1 = some p.2 := qu2 (qZ0 q l).nodup hp
 rw [qv2,qT4 hr] at h1
 unfold updF at h1
 cases hm : mget l.reverse p.1 with
 | none => rw [hm] at h1; exact hs _ (qi1 h1)
 | some e =>
  rw [hm] at h1
  have h1 : eff e = some p.2 := h1
  unfold eff at h1
  have := hl _ (List.mem_reverse.1 (qi1 hm))
  by_cases hg : e.2 = true
  ·rw [if_pos hg] at h1; cases h1
  ·rw [if_neg hg] at h1
   rw [← Option.some.inj h1]; exact this
theorem applyP_nil {q : List Pr} (hr : Rising q) : qq2 q [] = q := by
 refine q63 (qZ0 q []) hr fun k => ?_
 rw [qv2,qT4 hr]; rfl
theorem apply_eq {K : Nat} {m : Mem} {R : List Int} {r : Int} {q : List Pr} {l : List Cg} (hst : StM K m R) (hK : 1 ≤ K) (hKq : K ≤ 100000000000) (hroot : Root m r q) (hr : Rising q) (hs : qt5 q) (hl : ShortC l)
  (hn : q.length + l.length ≤ 1000000) (hroom : (used m : Int) + (q.length + l.length) ≤ m.1.1 - 2) :
  ∃ n m' c,qQ0 m r l = some (n,0,m') ∧ Root m' n (qq2 q l) ∧ Grow m m' ∧ StM (K + c) m' (R ++ rl n) ∧ m'.1.1 = m.1.1 ∧ used m' ≤ used m + c ∧ 2 * c ≤ (qq2 q l).length + 1 ∧
   (l = [] → n = r ∧ (r ≠ 0 → m' = incM m r)) ∧ (l.length = 1 → ∀ L : Nat,(r = 0 → L = 0) → (r ≠ 0 → Tr m L r q) → used m' ≤ used m + (2 * (L + 1) + 1)) := by
 unfold qQ0
 rw [apply_loop hl (by omega)]
 simp only [Option.bind_some,Sum.elim_inl]
 by_cases hl0 : l = []
 ·subst hl0
  rw [applyP_nil hr]
  have : ((([] : List Cg).length : Nat) : Int) = 0 := rfl
  simp only [this,decide_true,cond_true]
  by_cases hr0 : r = 0
  ·subst hr0
   refine ⟨0,m,0,by simp [q22],hroot,Grow.refl m,by simpa [rl] using hst,rfl,by omega,by omega,fun _ => ⟨rfl,fun h => absurd rfl h⟩,fun h => by simp at h⟩
  ·obtain ⟨L,hT⟩ := root_tr hroot hr0
   obtain ⟨i1,i2,i3,i4,i5⟩ := inc_st hst (by omega) (qg2 hT)
   have hq := List.length_pos_iff.2 (tr_ne hT)
   refine ⟨r,incM m r,1,?_,root_grow i3 hroot,i3,by rw [rl,if_neg hr0]; exact i2,i4,by omega,by omega,fun _ => ⟨rfl,fun _ => rfl⟩,fun h => by simp at h⟩
   unfold q22
   simp only [hr0,decide_false,cond_false]
   rw [i1]
   rfl
 ·have hlp : ¬ ((l.length : Int) = 0) := by have := List.length_pos_iff.2 hl0; omega
  obtain ⟨s,s1,s2,s3,s4⟩ := tree_sorted_eq (l := l) (by omega)
  simp only [hlp,decide_false,cond_false]
  rw [s1]
  simp only [Option.bind_some]
  have hmg : mgP q s = qq2 q l := mg_apply hr s2 s3
  have hrow : ∃ (lv : Nat) (row : List Pt),((cond (decide (r = 0)) (
     (qk1 ([]) s).bind fun x111 =>
     (qT0 x111).bind fun x114 =>
     some (.inl (0,x114,m,[]))
    ) (
     (qx m r).bind fun x117 =>
     cond (decide (x117.2.1 ≠ 0)) (
      some (.inr (0,x117.2.1,x117.2.2))
     ) (
      (qV0 ([]) r s x117.2.2).bind fun x124 =>
      cond (decide (x124.2.1 ≠ 0)) (
       some (.inr (0,x124.2.1,x124.2.2.2))
      ) (
       some (.inl (x117.1.1,x124.1,x124.2.2.2,x124.2.2.1))
      )
     )
    )) : Option ((Int × (List Pt) × Mem × (List Int)) ⊕ (Int × Int × Mem))) = some (.inl ((lv : Int),row,m,[])) ∧ RowOk m lv row (qq2 q l) ∧ qd2 row ∧ (l.length = 1 → row.length ≤ 2 ∧ ((r = 0 → frsS lv row ≤ 2) ∧ ∀ L,Tr m L r q → frsS lv row ≤ 2 * (L + 1))) := by
   by_cases hr0 : r = 0
   ·have hq0 : q = [] := by
     rcases hroot with h | h
     ·exact h.2
     ·exact absurd hr0 h.1
    subst hq0
    obtain ⟨row,e1,e2,e3,e4⟩ := leaves_eq (m := m) (q := qq2 [] l) (by have := qH4 ([] : List Pr) l; simp at this; omega)
    refine ⟨0,row,?_,e2,e3,fun h1 => ?_⟩
    rotate_left
    ·have hl1 := qH4 ([] : List Pr) l
     simp only [List.length_nil] at hl1
     have r5 : row.length ≤ 2 := by omega
     have h2 := psi0_le row
     have h3 := good_le e3 r5
     have h4 := frsS_psi 0 row
     exact ⟨r5,fun _ => by omega,fun L _ => by omega⟩
    simp only [hr0,decide_true,cond_true]
    rw [merged_eq (by simp; omega),hmg]
    simp only [Option.bind_some]
    rw [e1]
    rfl
   ·obtain ⟨L,hT⟩ := root_tr hroot hr0
    have hL := q95 hT (by omega)
    obtain ⟨row,e1,e2,e3,e4⟩ := edit_eq (d := []) (by omega) hT hr s2 (by omega)
    refine ⟨L,row,?_,hmg ▸ e2,e3,fun h1 => ?_⟩
    rotate_left
    ·obtain ⟨h2,h3⟩ := e4 (by omega)
     have h4 := frsS_psi L row
     refine ⟨h3,fun h => absurd h hr0,fun L' hT' => ?_⟩
     have u1 := (q05 hT).1
     have u2 := (q05 hT').1
     have : L = L' := by omega
     subst this
     omega
    simp only [hr0,decide_false,cond_false]
    rw [tr_get hT]
    simp only [Option.bind_some,ne_eq,not_true_eq_false,decide_false,cond_false]
    rw [e1]
    simp only [Option.bind_some,ne_eq,not_true_eq_false,decide_false,cond_false,(q05 hT).1]
  obtain ⟨lv,row,r1,r2,r3,r4⟩ := hrow
  rw [r1]
  simp only [Option.bind_some,Sum.elim_inl]
  have hlen := qH4 q l
  obtain ⟨t1,t2⟩ := top_eq r2 r3 (by omega)
  by_cases hq0 : qq2 q l = []
  ·obtain ⟨p,p1⟩ := t1 hq0
   rw [p1]
   refine ⟨0,m,0,?_,.inl ⟨rfl,hq0⟩,Grow.refl m,by simpa [rl] using hst,rfl,by omega,by omega,fun h => absurd h hl0,fun _ L _ _ => by omega⟩
   simp
  ·obtain ⟨p,L',p1,p2,p3,p4⟩ := t2 hq0
   rw [p1]
   have hL' : L' < 12 := by
    obtain ⟨k,b,f⟩ := p
    match f with
    | none =>
     exact tr_rising_level (ptOk_none p2).1 (by omega)
    | some (.mk l0 ps ks) =>
     match L',p2 with
     | 0,_ => omega
     | L3 + 1,p2 =>
      rw [PtOk] at p2
      obtain ⟨_,_,a1,a2,_,qs,a4,a5,a6⟩ := p2
      have hk1 := p3 l0 ps ks rfl
      have := level_lt (m := m) (L := L3) (row := ks) (q := qq2 q l) ⟨qs,a4,a5⟩ (fun h => a6 h) (by omega) (by omega)
      omega
   obtain ⟨n,d',m',c,w1,w2⟩ := write_eq (d := []) hL' p2 p3 hst hK (by omega) (by simp; omega) (by omega) (qZ0 q l) (applyP_short hr hs hl)
   simp only [Option.bind_some,ne_eq,not_true_eq_false,decide_false,cond_false,Bool.not_true]
   rw [w1]
   have n0 : n ≠ 0 := by have := qq4 w2.st.wf (qg2 w2.tr); omega
   refine ⟨n,m',c,by simp,.inr ⟨n0,L',w2.tr⟩,w2.grow,by rw [rl,if_neg n0]; exact w2.st,w2.blk,by rw [w2.used]; have := w2.fr; omega,w2.c1,fun h => absurd h hl0,fun h1 L hz ht => ?_⟩
   obtain ⟨h2,h3,h4⟩ := r4 h1
   have h5 := p4 h2
   rw [w2.used]
   by_cases hr0 : r = 0
   ·have := h3 hr0
    omega
   ·have := h4 L (ht hr0)
    omega
end Go.Val
namespace Go.Val
open Go.RowKit Go.Lib
def Shrink (m m' : Mem) : Prop := ∀ n,cnt m' n ≠ 0 → cnt m n ≠ 0 ∧ ndOf m' n = ndOf m n
theorem Shrink.refl (m : Mem) : Shrink m m := fun n h => ⟨h,rfl⟩
theorem Shrink.trans {a b c : Mem} (h : Shrink a b) (k : Shrink b c) : Shrink a c := fun n hn => by
 obtain ⟨k1,k2⟩ := k n hn
 obtain ⟨h1,h2⟩ := h n k1
 exact ⟨h1,k2.trans h2⟩
theorem rc_count {m : Mem} {R R' : List Int} (h : RC m R) (hp : ∀ n,R'.count n = R.count n) : RC m R' := fun n => by rw [hp n]; exact h n
theorem StM.perm {K : Nat} {m : Mem} {R R' : List Int} (h : StM K m R) (hp : R'.Perm R) : StM K m R' := ⟨h.wf,h.live,rc_count h.rc fun n => hp.count_eq n⟩
theorem inK_pos {m : Mem} {bs : List Int} {b n : Int} (hb : b ∈ bs) (hn : n ∈ q52 (ndOf m b)) : 1 ≤ inK m bs n := by
 obtain ⟨A,B,rfl⟩ := List.append_of_mem hb
 rw [inK_app,show b :: B = [b] ++ B from rfl,inK_app]
 have : inK m [b] n = (q52 (ndOf m b)).count n := by simp [inK]
 have h1 := List.count_pos_iff.2 hn
 omega
theorem rc_live {m : Mem} {R : List Int} {n : Int} (h : RC m R) (hn : n ∈ R) : cnt m n ≠ 0 := by
 have := h n
 have h1 := List.count_pos_iff.2 hn
 omega
theorem rc_kid {m : Mem} {R : List Int} {b n : Int} (h : RC m R) (hb : cnt m b ≠ 0) (hn : n ∈ q52 (ndOf m b)) : cnt m n ≠ 0 := by
 have := h n
 have h1 := inK_pos (bs := m.1.2.1.map (·.1)) (qu4 hb).1 hn
 omega
theorem F2.impMem {α β : Type} {R S : α → β → Prop} {l : List α} {r : List β} (h : F2 R l r) (hRS : ∀ a ∈ l,∀ b,R a b → S a b) : F2 S l r := by
 induction h with
 | nil => exact .nil
 | cons h _ ih => exact .cons (hRS _ (by simp) _ h) (ih fun a ha b hab => hRS a (by simp [ha]) b hab)
theorem tr_shrink {m m' : Mem} {R : List Int} (hs : Shrink m m') (hrc : RC m' R) : ∀ {L : Nat} {n : Int} {q : List Pr},cnt m' n ≠ 0 → Tr m L n q → Tr m' L n q
 | 0,n,q,hn,h => by
  rw [Tr] at h ⊢
  rw [(hs n hn).2]
  exact ⟨hn,h.2⟩
 | L + 1,n,q,hn,h => by
  rw [Tr] at h ⊢
  obtain ⟨_,ks,h1,h2,h3,qs,h4,h5⟩ := h
  have e := (hs n hn).2
  rw [e]
  refine ⟨hn,ks,h1,h2,h3,qs,h4,h5.impMem fun k hk q hkq => ?_⟩
  have hkl : cnt m' k.2 ≠ 0 := rc_kid hrc hn (by rw [e,h1]; exact List.mem_map.2 ⟨k,hk,rfl⟩)
  exact ⟨tr_shrink hs hrc hkl hkq.1,by rw [(hs _ hkl).2]; exact hkq.2.1,hkq.2.2⟩
theorem live_shrink {m m' : Mem} {R : List Int} (hl : Live m) (hs : Shrink m m') (hrc : RC m' R) : Live m' := fun n hn => by
 obtain ⟨L,q,a,b,c⟩ := hl n (hs n hn).1
 exact ⟨L,q,a,tr_shrink hs hrc hn b,c⟩
theorem mdel_split {β : Type} {m : List (Int × β)} {k : Int} (h : k ∈ m.map (·.1)) : ∃ A v B,m = A ++ (k,v) :: B ∧ mdel m k = A ++ B := by
 induction m with
 | nil => cases h
 | cons p m ih =>
  rw [mdel_cons]
  by_cases e : k = p.1
  ·rw [if_pos e]
   exact ⟨[],p.2,m,by rw [e]; rfl,rfl⟩
  ·rw [if_neg e]
   obtain ⟨A,v,B,h1,h2⟩ := ih (by
    rcases List.mem_cons.1 h with h | h
    ·exact absurd h e
    ·exact h)
   exact ⟨p :: A,v,B,by rw [h1]; rfl,by rw [h2]; rfl⟩
theorem mget_mdel_ne {β : Type} (m : List (Int × β)) {k k' : Int} (h : k' ≠ k) : mget (mdel m k) k' = mget m k' := by
 induction m with
 | nil => rfl
 | cons p m ih =>
  rw [mdel_cons,qH]
  by_cases e : k = p.1
  ·rw [if_pos e,if_neg (fun h' => h (h'.trans e.symm))]
  ·rw [if_neg e,qH,ih]
def decM (m : Mem) (n : Int) : Mem := ((m.1.1,mset m.1.2.1 n (cnt m n - 1),m.1.2.2),m.2)
def delM (m : Mem) (n : Int) : Mem := ((m.1.1,mdel m.1.2.1 n,min m.1.2.2 n),mdel m.2 n)
theorem cnt_dec (m : Mem) (n k : Int) : cnt (decM m n) k = if k = n then cnt m n - 1 else cnt m k := by
 unfold cnt decM
 simp only [q82]
 split <;> rfl
theorem cnt_del {m : Mem} (hn : (m.1.2.1.map (·.1)).Nodup) (n k : Int) : cnt (delM m n) k = if k = n then 0 else cnt m k := by
 unfold cnt delM
 simp only [mget_mdel hn]
 split <;> rfl
theorem dec_st {K : Nat} {m : Mem} {R : List Int} {r : Int} (h : StM K m (r :: R)) (hK : K ≤ 1000000000000) :
  cnt m r ≠ 0 ∧ ((∃ m',qA0 m r = some (false,0,m') ∧ StM K m' R ∧ Shrink m m' ∧ m'.1.1 = m.1.1 ∧ used m' = used m) ∨
   (∃ m',qA0 m r = some (true,0,m') ∧ StM K m' (q52 (ndOf m r) ++ R) ∧ Shrink m m' ∧ m'.1.1 = m.1.1 ∧ used m' + 1 = used m)) := by
 have hl : cnt m r ≠ 0 := rc_live h.rc (by simp)
 obtain ⟨p1,p2,p3,p4⟩ := qq4 h.wf hl
 have hmem := qu4 hl
 have t1 : ¬ r < 2 := by omega
 have t2 : ¬ r ≥ m.1.1 := by omega
 have hc : (mget m.1.2.1 r).getD 0 = cnt m r := rfl
 refine ⟨hl,?_⟩
 by_cases h1 : cnt m r > 1
 ·left
  have hsh : Shrink m (decM m r) := fun n hn => by
   refine ⟨?_,rfl⟩
   rw [cnt_dec] at hn
   by_cases e : n = r
   ·rw [e]; exact hl
   ·rwa [if_neg e] at hn
  have hrc : RC (decM m r) R := fun n => by
   have hk : (decM m r).1.2.1.map (·.1) = m.1.2.1.map (·.1) := by
    show (mset m.1.2.1 r (cnt m r - 1)).map (·.1) = _
    rw [qq3,if_pos hmem.1]
   have e0 : inK (decM m r) (m.1.2.1.map (·.1)) n = inK m (m.1.2.1.map (·.1)) n := inK_congr fun _ _ => rfl
   rw [cnt_dec,hk,e0]
   have hr := h.rc n
   rw [List.count_cons] at hr
   by_cases e : n = r
   ·subst e; simp at hr; rw [if_pos rfl]; omega
   ·have : (r == n) = false := by simp; exact fun h => e h.symm
    rw [this] at hr
    rw [if_neg e]; simp at hr; omega
  refine ⟨decM m r,?_,⟨⟨h.wf.blk,h.wf.low,fun n n1 n2 => ?_,qH3 h.wf.nodup _ _,fun n c hn => ?_⟩,live_shrink h.live hsh hrc,hrc⟩,hsh,rfl,mset_len hmem.1⟩
  ·unfold qA0 qF1 qH0 q91
   simp only [t1,t2,decide_false,cond_false,Option.bind_some,cond_true,hc,hl,h1,decide_true]
   rw [w64 (by omega) (by omega)]
   rfl
  ·rw [cnt_dec]
   split
   ·omega
   ·exact h.wf.full n n1 n2
  ·have hn' : mget (mset m.1.2.1 r (cnt m r - 1)) n = some c := hn
   rw [q82] at hn'
   by_cases e : n = r
   ·rw [if_pos e] at hn'
    have := Option.some.inj hn'
    subst e
    exact ⟨by omega,by omega,p3,p4⟩
   ·rw [if_neg e] at hn'
    exact h.wf.pos n c hn'
 ·right
  have hc1 : cnt m r = 1 := by omega
  have hsh : Shrink m (delM m r) := fun n hn => by
   rw [cnt_del h.wf.nodup] at hn
   by_cases e : n = r
   ·rw [if_pos e] at hn; exact absurd rfl hn
   ·rw [if_neg e] at hn
    refine ⟨hn,?_⟩
    unfold ndOf delM
    simp only
    rw [mget_mdel_ne _ e]
  obtain ⟨A,v,B,s1,s2⟩ := mdel_split hmem.1
  have hrc : RC (delM m r) (q52 (ndOf m r) ++ R) := fun n => by
   have hk : (delM m r).1.2.1.map (·.1) = A.map (·.1) ++ B.map (·.1) := by
    show (mdel m.1.2.1 r).map (·.1) = _
    rw [s2,List.map_append]
   have hnd : (m.1.2.1.map (·.1)).Nodup := h.wf.nodup
   have hk0 : m.1.2.1.map (·.1) = A.map (·.1) ++ r :: B.map (·.1) := by rw [s1]; simp
   have hnr : ∀ b ∈ A.map (·.1) ++ B.map (·.1),b ≠ r := by
    rw [hk0] at hnd
    intro b hb e
    subst e
    have h1 := List.nodup_append.1 hnd
    rcases List.mem_append.1 hb with hb | hb
    ·exact h1.2.2 b hb b (by simp) rfl
    ·exact (List.nodup_cons.1 h1.2.1).1 hb
   have e1 : inK (delM m r) (A.map (·.1) ++ B.map (·.1)) n = inK m (A.map (·.1) ++ B.map (·.1)) n := inK_congr fun b hb => by
    unfold ndOf delM
    simp only
    rw [mget_mdel_ne _ (hnr b hb)]
   have e2 : inK m (A.map (·.1) ++ r :: B.map (·.1)) n = inK m (A.map (·.1) ++ B.map (·.1)) n + (q52 (ndOf m r)).count n := by
    rw [inK_app,inK_app,show r :: B.map (·.1) = [r] ++ B.map (·.1) from rfl,inK_app]
    have : inK m [r] n = (q52 (ndOf m r)).count n := by simp [inK]
    omega
   rw [cnt_del hnd,hk,e1,List.count_append]
   have hr := h.rc n
   rw [hk0,e2,List.count_cons] at hr
   by_cases e : n = r
   ·subst e; simp at hr; rw [if_pos rfl]; omega
   ·have : (r == n) = false := by simp; exact fun h => e h.symm
    rw [this] at hr
    rw [if_neg e]; simp at hr; omega
  refine ⟨delM m r,?_,⟨⟨h.wf.blk,?_,fun n n1 n2 => ?_,nodup_mdel h.wf.nodup _,fun n c hn => ?_⟩,live_shrink h.live hsh hrc,hrc⟩,hsh,rfl,?_⟩
  ·unfold qA0 qF1 qH0 q91
   simp only [t1,t2,decide_false,cond_false,Option.bind_some,cond_true,hc,hl,h1,decide_true]
   rfl
  ·have := h.wf.low
   show 2 ≤ min m.1.2.2 r ∧ min m.1.2.2 r ≤ m.1.1
   omega
  ·have n2' : n < min m.1.2.2 r := n2
   rw [cnt_del h.wf.nodup,if_neg (by omega)]
   exact h.wf.full n n1 (by omega)
  ·have hn' : mget (mdel m.1.2.1 r) n = some c := hn
   rw [mget_mdel h.wf.nodup] at hn'
   by_cases e : n = r
   ·rw [if_pos e] at hn'; cases hn'
   ·rw [if_neg e] at hn'
    exact h.wf.pos n c hn'
  ·show (mdel m.1.2.1 r).length + 1 = m.1.2.1.length
   rw [s2,s1]; simp; omega
theorem release_n : ∀ (fuel L : Nat) {K : Nat} {m : Mem} {R : List Int} {r : Int} {q : List Pr},L < fuel → Tr m L r q → StM K m (r :: R) → K ≤ 1000000000000 →
  ∃ m',qF0 fuel m r = some (0,m') ∧ StM K m' R ∧ Shrink m m' ∧ m'.1.1 = m.1.1 ∧ used m' ≤ used m := by
 intro fuel
 induction fuel with
 | zero => intro L K m R r q h; omega
 | succ fuel ih =>
  intro L K m R r q hL hT hst hK
  obtain ⟨d1,d2⟩ := dec_st hst hK
  have n0 : ¬ r = 0 := by have := qq4 hst.wf d1; omega
  rw [qF0]
  unfold qL0
  simp only [n0,decide_false,cond_false,tr_get hT,Option.bind_some,ne_eq,not_true_eq_false]
  rcases d2 with ⟨m1,e1,e2,e3,e4,e5⟩ | ⟨m1,e1,e2,e3,e4,e5⟩
  ·rw [e1]
   exact ⟨m1,by simp,e2,e3,e4,by omega⟩
  ·rw [e1]
   simp only [Option.bind_some,not_true_eq_false,decide_false,cond_false,Bool.not_true]
   match L,hT with
   | 0,hT =>
    rw [Tr] at hT
    rw [hT.2.1] at e2 ⊢
    rw [qI]
    exact ⟨m1,by simp,by simpa [q52] using e2,e3,e4,by omega⟩
   | L + 1,hT =>
    rw [Tr] at hT
    obtain ⟨_,ks,h1,h2,h3,qs,h4,h5⟩ := hT
    rw [h1] at e2 ⊢
    simp only [q52] at e2
    simp only
    refine qC1 (Q := fun o => ∃ m',o = some (0,m') ∧ StM K m' R ∧ Shrink m m' ∧ m'.1.1 = m.1.1 ∧ used m' ≤ used m)
     (fun v => ∃ D Z QD QZ m2,ks = D ++ Z ∧ qs = QD ++ QZ ∧ F2 (KidR m L) Z QZ ∧ v = ((D.length : Int),m2) ∧ StM K m2 (Z.map (·.2) ++ R) ∧ Shrink m m2 ∧ m2.1.1 = m.1.1 ∧ used m2 ≤ used m)
     (fun v => ((ks.length : Int) - v.1).toNat) (fun o => ∃ m2,o = .inl m2 ∧ StM K m2 R ∧ Shrink m m2 ∧ m2.1.1 = m.1.1 ∧ used m2 ≤ used m) ⟨[],ks,[],qs,m1,rfl,rfl,h5,rfl,e2,e3,e4,by omega⟩ ?_ ?_
    ·rintro v ⟨D,Z,QD,QZ,m2,g1,g2,g3,rfl,g4,g5,g6,g7⟩
     have hl : ks.length = D.length + Z.length := by rw [g1]; simp
     cases g3 with
     | nil =>
      right
      have t : ¬ ((D.length : Int) < (ks.length : Int)) := by simp at hl; omega
      exact ⟨.inl m2,by simp only [t,decide_false,cond_false],m2,rfl,by simpa using g4,g5,g6,g7⟩
     | @cons z qz Z' QZ' hz hzs =>
      left
      simp only [List.length_cons] at hl
      have t : ((D.length : Int) < (ks.length : Int)) := by omega
      have g0 : gx ks (D.length : Int) = some z := by rw [g1]; exact qA1 rfl
      have hzl : cnt m2 z.2 ≠ 0 := rc_live g4.rc (by simp)
      have hzt : Tr m2 L z.2 qz := tr_shrink g5 g4.rc hzl hz.1
      obtain ⟨m3,i1,i2,i3,i4,i5⟩ := ih L (by omega) hzt (R := Z'.map (·.2) ++ R) (by simpa using g4) hK
      refine ⟨((D.length : Int) + 1,m3),?_,⟨D ++ [z],Z',QD ++ [qz],QZ',m3,by simp [g1],by simp [g2],hzs,by simp,i2,g5.trans i3,i4.trans g6,by omega⟩,by simp; omega⟩
      simp only [t,decide_true,cond_true,g0,Option.bind_some]
      rw [i1]
      simp only [Option.bind_some,not_true_eq_false,decide_false,cond_false]
      rw [w64 (by omega) (by omega)]
    ·rintro o ⟨m2,rfl,h⟩
     exact ⟨m2,rfl,h⟩
theorem release_eq {K : Nat} {m : Mem} {R : List Int} {r : Int} {q : List Pr} (hr : Root m r q) (hst : StM K m (rl r ++ R)) (hK : K ≤ 1000000000000) (hn : q.length ≤ 1000000) :
  ∃ m',qV1 m r = some (0,m') ∧ StM K m' R ∧ Shrink m m' ∧ m'.1.1 = m.1.1 ∧ used m' ≤ used m := by
 by_cases h0 : r = 0
 ·subst h0
  refine ⟨m,?_,by simpa [rl] using hst,Shrink.refl m,rfl,by omega⟩
  unfold qV1
  rw [qF0]
  unfold qL0
  simp
 ·obtain ⟨L,hT⟩ := root_tr hr h0
  have := q95 hT hn
  exact release_n 16 L (by omega) hT (by simpa [rl,h0] using hst) hK
end Go.Val
namespace Go.Val
open Go.RowKit Go.Lib
def blks : Nat → Mem → Int → List Int
 | 0,_,n => [n]
 | L + 1,m,n => n :: (q52 (ndOf m n)).flatMap (blks L m)
def blksM (m : Mem) (n : Int) : List Int := blks (ndOf m n).1.toNat m n
theorem qL2 : ∀ (L : Nat) (m : Mem) (n : Int),n ∈ blks L m n
 | 0,m,n => by rw [blks]; simp
 | L + 1,m,n => by rw [blks]; simp
theorem qq5 {m : Mem} {L : Nat} {n k : Int} {q : List Pr} (h : Tr m L n q) (hk : k ∈ q52 (ndOf m n)) : ∃ L' q',L = L' + 1 ∧ Tr m L' k q' := by
 match L,h with
 | 0,h =>
  rw [Tr] at h
  rw [h.2.1] at hk
  simp [q52] at hk
 | L + 1,h =>
  rw [Tr] at h
  obtain ⟨_,ks,h1,h2,h3,qs,h4,h5⟩ := h
  rw [h1] at hk
  obtain ⟨z,hz,rfl⟩ := List.mem_map.1 hk
  obtain ⟨q',hq',hR⟩ := h5.mem z hz
  exact ⟨L,q',rfl,hR.1⟩
theorem blks_kid {m : Mem} : ∀ {L : Nat} {r b k : Int} {q : List Pr},Tr m L r q → b ∈ blks L m r → k ∈ q52 (ndOf m b) → k ∈ blks L m r
 | 0,r,b,k,q,h,hb,hk => by
  rw [blks] at hb
  have e : b = r := by simpa using hb
  subst e
  obtain ⟨L',q',e,_⟩ := qq5 h hk
  omega
 | L + 1,r,b,k,q,h,hb,hk => by
  rw [blks] at hb ⊢
  rcases List.mem_cons.1 hb with rfl | hb
  ·exact List.mem_cons_of_mem _ (List.mem_flatMap.2 ⟨k,hk,qL2 L m k⟩)
  ·obtain ⟨z,hz,hb⟩ := List.mem_flatMap.1 hb
   obtain ⟨L',q',e,ht⟩ := qq5 h hz
   have e' : L = L' := by omega
   subst e'
   exact List.mem_cons_of_mem _ (List.mem_flatMap.2 ⟨z,hz,blks_kid ht hb hk⟩)
theorem blks_len {m : Mem} : ∀ {L : Nat} {r : Int} {q : List Pr},Tr m L r q → 2 * (blks L m r).length ≤ q.length + 1 ∧ (¬ fewN (ndOf m r) → 2 * (blks L m r).length + 1 ≤ q.length)
 | 0,r,q,h => by
  rw [Tr] at h
  rw [blks,h.2.1]
  refine ⟨by simp; omega,fun hf => ?_⟩
  simp [fewN] at hf
  simp; omega
 | L + 1,r,q,h => by
  rw [Tr] at h
  obtain ⟨_,ks,h1,h2,h3,qs,h4,h5⟩ := h
  rw [blks,h1]
  have key : ∀ {ks : List Kd} {qs : List (List Pr)},F2 (KidR m L) ks qs → 2 * ((ks.map (·.2)).flatMap (blks L m)).length + ks.length ≤ qs.flatten.length := by
   intro ks qs h
   induction h with
   | nil => simp
   | @cons k q ks qs h hs ih =>
    have := (blks_len h.1).2 h.2.1
    simp only [List.map_cons,List.flatMap_cons,List.length_append,List.length_cons,List.flatten_cons]
    omega
  have hk := key h5
  rw [h4] at hk
  refine ⟨?_,fun hf => ?_⟩
  ·simp only [q52,List.length_cons]
   omega
  ·have h0 : ¬ (((L + 1 : Nat) : Int) = 0) := by omega
   simp only [fewN,h0,if_false] at hf
   simp only [q52,List.length_cons]
   omega
theorem blksM_tr {m : Mem} {L : Nat} {r : Int} {q : List Pr} (h : Tr m L r q) : blksM m r = blks L m r := by
 unfold blksM
 rw [(q05 h).1]
 simp
theorem live_from {K : Nat} {m : Mem} {R : List Int} (h : StM K m R) : ∀ {n : Int},cnt m n ≠ 0 → ∃ r ∈ R,n ∈ blksM m r := by
 have key : ∀ (j L : Nat) {n : Int} {q : List Pr},L + j = 12 → Tr m L n q → ∃ r ∈ R,n ∈ blksM m r := by
  intro j
  induction j with
  | zero =>
   intro L n q hL hT
   obtain ⟨L',q',h1,h2,_⟩ := h.live n (qg2 hT)
   have e1 := (q05 hT).1
   have e2 := (q05 h2).1
   omega
  | succ j ih =>
   intro L n q hL hT
   have hc := h.rc n
   have hp := qq4 h.wf (qg2 hT)
   by_cases hR : n ∈ R
   ·exact ⟨n,hR,qL2 _ m n⟩
   ·have h0 : R.count n = 0 := List.count_eq_zero.2 hR
    have hin : 1 ≤ inK m (m.1.2.1.map (·.1)) n := by omega
    have : ∃ b ∈ m.1.2.1.map (·.1),n ∈ q52 (ndOf m b) := by
     refine Classical.byContradiction fun hno => ?_
     have : inK m (m.1.2.1.map (·.1)) n = 0 := by
      unfold inK
      refine List.sum_eq_zero_iff_forall_eq_nat.2 fun x hx => ?_
      obtain ⟨b,hb,rfl⟩ := List.mem_map.1 hx
      exact List.count_eq_zero.2 fun hk => hno ⟨b,hb,hk⟩
     omega
    obtain ⟨b,hb,hk⟩ := this
    have hbl : cnt m b ≠ 0 := by
     obtain ⟨c,hc⟩ := Option.isSome_iff_exists.1 (q81.2 hb)
     have := (h.wf.pos b c hc).1
     unfold cnt
     rw [hc]; simp; omega
    obtain ⟨Lb,qb,b1,b2,_⟩ := h.live b hbl
    obtain ⟨L',q',e,ht⟩ := qq5 b2 hk
    have e1 := (q05 hT).1
    have e2 := (q05 ht).1
    obtain ⟨r,hr,hbr⟩ := ih Lb (by omega) b2
    have hrl : cnt m r ≠ 0 := rc_live h.rc hr
    obtain ⟨Lr,qr,_,hr2,_⟩ := h.live r hrl
    refine ⟨r,hr,?_⟩
    rw [blksM_tr hr2] at hbr ⊢
    exact blks_kid hr2 hbr hk
 intro n hn
 obtain ⟨L,q,h1,h2,_⟩ := h.live n hn
 exact key (12 - L) L (by omega) h2
theorem used_le {K : Nat} {m : Mem} {R : List Int} (h : StM K m R) : used m ≤ (R.flatMap (blksM m)).length := by
 have := sub_len (l := m.1.2.1.map (·.1)) (r := R.flatMap (blksM m)) h.wf.nodup fun n hn => by
  have hl : cnt m n ≠ 0 := by
   obtain ⟨c,hc⟩ := Option.isSome_iff_exists.1 (q81.2 hn)
   have := (h.wf.pos n c hc).1
   unfold cnt
   rw [hc]; simp; omega
  obtain ⟨r,hr,hb⟩ := live_from h hl
  exact List.mem_flatMap.2 ⟨r,hr,hb⟩
 rw [List.length_map] at this
 exact this
theorem used_nil {K : Nat} {m : Mem} (h : StM K m []) : used m = 0 := by
 have := used_le h
 simpa using this
theorem free_eq {K : Nat} {m : Mem} {R : List Int} (h : StM K m R) (hu : used m ≤ 2000000) : qU0 m = some (m.1.1 - 2 - (used m : Int),m) := by
 have := h.wf.blk
 unfold qU0 qX1
 simp only [Option.bind_some]
 rw [w64 (n := m.1.1 - 2) (by omega) (by omega),show ((m.1.2.1.length : Nat) : Int) = (used m : Int) from rfl,w64 (by omega) (by omega)]
theorem new_eq {most : Int} (h : 0 ≤ most ∧ most ≤ 1048576) : ∃ m,qK0 most = some m ∧ StM 1 m [] ∧ m.1.1 = most + 2 ∧ used m = 0 := by
 unfold qK0 refs_New
 have e1 : max most 0 = most := by omega
 have e2 : min most 1048576 = most := by omega
 simp only [e1,e2,Option.bind_some]
 rw [w64 (by omega) (by omega)]
 have e3 : max (2 + most) 2 = 2 + most := by omega
 have e4 : min (2 + most) 4294967296 = 2 + most := by omega
 rw [e3,e4]
 refine ⟨_,rfl,⟨⟨by simp only; omega,by simp only; omega,fun n h1 h2 => ?_,by simp,fun n c h => by cases h⟩,fun n hn => absurd rfl hn,fun n => by simp [inK,cnt,qE2]⟩,by simp only; omega,rfl⟩
 simp only at h2; omega
end Go.Val
namespace Go.Val
open Go.RowKit Go.Lib
def K24s {β : Type} (q : List (Ky × β)) : Prop := ∀ p ∈ q,p.1.length = 24
def allS : Spn := (List.replicate 24 0,List.replicate 24 0,true)
theorem cb_zeros : ∀ (k : List UInt8) (n : Nat),k.length = n → 0 ≤ compareBytes k (List.replicate n 0)
 | [],0,_ => by decide
 | x :: k,n + 1,h => by
  have ih := cb_zeros k n (by simpa using h)
  rw [List.replicate_succ,compareBytes]
  by_cases h0 : x = 0
  ·subst h0; simpa using ih
  ·have : (0 : UInt8) < x := by
    have h1 : (0 : UInt8).toNat ≠ x.toNat := fun e => h0 (UInt8.toNat_inj.1 e.symm)
    rw [UInt8.lt_iff_toNat_lt]
    simp at h1 ⊢
    omega
   have h2 : ¬ x < 0 := by
    rw [UInt8.lt_iff_toNat_lt]
    simp
   simp [this,h2]
theorem inT_all {k : Ky} (h : k.length = 24) : inT allS k = true := by
 have := cb_zeros k 24 h
 show (decide (compareBytes k (List.replicate 24 0) ≥ 0) && (true || decide (compareBytes k (List.replicate 24 0) < 0))) = true
 rw [decide_eq_true this]
 rfl
theorem updF_one (f : Fn) (c : Cg) (k : Ky) : updF f [c] k = if k = c.1 then eff c.2 else f k := by
 have := updF_snoc f [] c
 rw [List.nil_append] at this
 rw [this]; rfl
theorem filter_all {q : List Pr} (h : K24s q) : (q.filter fun p => inT allS p.1) = q := List.filter_eq_self.2 fun p hp => inT_all (h p hp)
theorem applyP_k24 {q : List Pr} {l : List Cg} (hr : Rising q) (hq : K24s q) (hl : K24s l) : K24s (qq2 q l) := fun p hp => by
 have h1 : mget (qq2 q l) p.1 = some p.2 := qu2 (qZ0 q l).nodup hp
 rw [qv2,qT4 hr] at h1
 unfold updF at h1
 cases hm : mget l.reverse p.1 with
 | none => rw [hm] at h1; exact hq _ (qi1 h1)
 | some e => exact hl _ (List.mem_reverse.1 (qi1 hm))
theorem get_zero {m : Mem} {k : Ky} : qW1 m 0 k = some (ByteArray.mk #[],false,0,m) := by
 rw [get_def,qI]
 simp [getB]
theorem count_root {m : Mem} (n : Int) : qJ0 m n = some (cnt m n,m) := by
 unfold qJ0
 rw [count_eq]
 rfl
theorem blks_level {m : Mem} : ∀ {L : Nat} {r b : Int} {q : List Pr},Tr m L r q → b ∈ blks L m r → ∃ L' q',L' ≤ L ∧ Tr m L' b q'
 | 0,r,b,q,h,hb => by
  rw [blks] at hb
  have e : b = r := by simpa using hb
  subst e
  exact ⟨0,q,by omega,h⟩
 | L + 1,r,b,q,h,hb => by
  rw [blks] at hb
  rcases List.mem_cons.1 hb with rfl | hb
  ·exact ⟨L + 1,q,by omega,h⟩
  ·obtain ⟨z,hz,hb⟩ := List.mem_flatMap.1 hb
   obtain ⟨L',q',e,ht⟩ := qq5 h hz
   have e' : L = L' := by omega
   subst e'
   obtain ⟨L2,q2,a,b⟩ := blks_level ht hb
   exact ⟨L2,q2,by omega,b⟩
theorem root_count {K : Nat} {m : Mem} {r : Int} {L : Nat} {q : List Pr} (h : StM K m [r]) (hT : Tr m L r q) : cnt m r = 1 := by
 have hc := h.rc r
 have : inK m (m.1.2.1.map (·.1)) r = 0 := by
  unfold inK
  refine List.sum_eq_zero_iff_forall_eq_nat.2 fun x hx => ?_
  obtain ⟨b,hb,rfl⟩ := List.mem_map.1 hx
  refine List.count_eq_zero.2 fun hk => ?_
  have hbl : cnt m b ≠ 0 := by
   obtain ⟨c,hc⟩ := Option.isSome_iff_exists.1 (q81.2 hb)
   have := (h.wf.pos b c hc).1
   unfold cnt
   rw [hc]; simp; omega
  obtain ⟨r',hr',hbr⟩ := live_from h hbl
  have e : r' = r := by simpa using hr'
  subst e
  rw [blksM_tr hT] at hbr
  obtain ⟨L',q',h1,h2⟩ := blks_level hT hbr
  obtain ⟨L2,q2,e2,h3⟩ := qq5 h2 hk
  have e3 := (q05 hT).1
  have e4 := (q05 h3).1
  omega
 rw [this] at hc
 simpa using hc
def fewC (l : List Cg) (most bytes : Nat) : List Cg := (l.take most).map fun c => (c.1,c.2.1.extract 0 (min c.2.1.size bytes),c.2.2)
theorem lawfew_eq {l : List Cg} {most bytes : Nat} (hm : most ≤ 1000000) : qr3 l most bytes = some (fewC l most bytes) := by
 unfold qr3
 refine qC1 (Q := fun o => o = some (fewC l most bytes)) (fun v => ∃ D Z,l = D ++ Z ∧ D.length ≤ most ∧ v = ((D.length : Int),fewC D most bytes)) (fun v => (most - v.1).toNat) (fun o => o = fewC l most bytes) ⟨[],l,rfl,by simp,by simp [fewC]⟩ ?_ (fun o h => by rw [h])
 rintro v ⟨D,Z,e1,e2,rfl⟩
 have hlen : l.length = D.length + Z.length := by rw [e1]; simp
 have hD : fewC D most bytes = D.map fun c => (c.1,c.2.1.extract 0 (min c.2.1.size bytes),c.2.2) := by
  unfold fewC; rw [List.take_of_length_le e2]
 match Z with
 | [] =>
  right
  have t : ¬ ((D.length : Int) < (l.length : Int)) := by simp at hlen; omega
  rw [List.append_nil] at e1
  exact ⟨fewC D most bytes,by simp only [t,decide_false,cond_false,Option.bind_some],by rw [e1]⟩
 | z :: Z' =>
  simp only [List.length_cons] at hlen
  have t : ((D.length : Int) < (l.length : Int)) := by omega
  have g0 : gx l (D.length : Int) = some z := by rw [e1]; exact qA1 rfl
  by_cases hm' : (D.length : Int) < (most : Int)
  ·left
   refine ⟨((D.length : Int) + 1,fewC (D ++ [z]) most bytes),?_,⟨D ++ [z],Z',by simp [e1],by simp; omega,by simp⟩,by simp; omega⟩
   have hz : fewC (D ++ [z]) most bytes = fewC D most bytes ++ [(z.1,z.2.1.extract 0 (min z.2.1.size bytes),z.2.2)] := by
    rw [hD]; unfold fewC; rw [List.take_of_length_le (by simp; omega)]; simp
   simp only [t,decide_true,cond_true,hm',Option.bind_some,g0]
   have hmin : (min (z.2.1.size : Int) (bytes : Int)).toNat = min z.2.1.size bytes := by omega
   have hcut : cutB 0 (min (z.2.1.size : Int) (bytes : Int)) z.2.1.size = some () := by
    unfold cutB ck
    have : (0 ≤ (0 : Int) ∧ (0 : Int) ≤ min (z.2.1.size : Int) (bytes : Int) ∧ min (z.2.1.size : Int) (bytes : Int) ≤ (z.2.1.size : Int)) := by omega
    simp [this]
   rw [hcut]
   simp only [Option.bind_some,hmin]
   have lD : (fewC D most bytes).length = D.length := by rw [hD]; simp
   rw [qb1 (by simp [lD]; omega),hz,w64 (by omega) (by omega)]
   rfl
  ·right
   have hml : most = D.length := by omega
   refine ⟨fewC D most bytes,by simp only [t,decide_true,cond_true,hm',decide_false,Option.bind_some,cond_false],?_⟩
   rw [hD]
   unfold fewC
   rw [hml,e1,List.take_left]
theorem fewC_len (l : List Cg) (most bytes : Nat) : (fewC l most bytes).length ≤ most := by unfold fewC; simp; omega
theorem fewC_short (l : List Cg) (most : Nat) : ShortC (fewC l most 40) := fun c hc => by
 obtain ⟨x,_,rfl⟩ := List.mem_map.1 hc
 simp [ByteArray.size_extract]
 omega
theorem fewC_k24 {l : List Cg} {most bytes : Nat} (h : K24s l) : K24s (fewC l most bytes) := fun c hc => by
 obtain ⟨x,hx,rfl⟩ := List.mem_map.1 hc
 exact h x (List.mem_of_mem_take hx)
theorem shown_eq : qw2 = some true := by
 obtain ⟨m0,a1,a2,a3,a4⟩ := new_eq (most := 100) (by omega)
 unfold qw2
 rw [a1]
 simp only [Option.bind_some]
 generalize hk : (List.set (List.replicate 24 (0 : UInt8)) 0 (UInt8.ofNat 7)) = k
 have hk24 : k.length = 24 := by rw [← hk]; simp
 obtain ⟨a,m1,c1,b1,b2,b3,b4,b5,b6,b7,_⟩ := apply_eq (l := [(k,ByteArray.mk #[49],false)]) (r := 0) (q := []) a2 (by omega) (by omega) (.inl ⟨rfl,rfl⟩) (by simp [Rising,Asc]) (fun p hp => by cases hp) (fun c hc => by
  have := List.mem_singleton.1 hc; subst this; exact (by decide : (1 : Nat) ≤ 40)) (by simp) (by rw [a3,a4]; simp)
 have q1 : qq2 [] [(k,ByteArray.mk #[49],false)] = [(k,ByteArray.mk #[49])] := by
  refine q63 (qZ0 _ _) (by simp [Rising,Asc]) fun k' => ?_
  rw [qv2,updF_one,qH]
  rfl
 rw [q1] at b2 b7
 have ha : a ≠ 0 := by
  rcases b2 with h | h
  ·exact absurd h.2 (by simp)
  ·exact h.1
 obtain ⟨L,hT⟩ := root_tr b2 ha
 rw [b1]
 simp only [Option.bind_some]
 have hr1 : Rising [(k,ByteArray.mk #[49])] := by simp [Rising,Asc]
 have hs1 : qt5 [(k,ByteArray.mk #[49])] := fun p hp => by have := List.mem_singleton.1 hp; subst this; exact (by decide : (1 : Nat) ≤ 40)
 simp only [List.length_singleton] at b7
 obtain ⟨b,m2,c2,d1,d2,d3,d4,d5,d6,d7,_⟩ := apply_eq (l := [(k,ByteArray.mk #[],true)]) b4 (by omega) (by omega) b2 hr1 hs1 (fun c hc => by
  have := List.mem_singleton.1 hc; subst this; exact (by decide : (0 : Nat) ≤ 40)) (by simp) (by rw [b5,a3]; simp; omega)
 have q2 : qq2 [(k,ByteArray.mk #[49])] [(k,ByteArray.mk #[],true)] = [] := by
  refine q63 (qZ0 _ _) (by simp [Rising,Asc]) fun k' => ?_
  rw [qv2,qT4 hr1,updF_one,qH]
  by_cases h : k' = k <;> simp [h,eff,qE2]
 rw [q2] at d2 d7
 simp only [List.length_nil] at d7
 have hb : b = 0 := by
  rcases d2 with h | ⟨_,L',h⟩
  ·exact h.1
  ·exact absurd rfl (tr_ne h)
 subst hb
 rw [d1]
 simp only [Option.bind_some]
 have hT2 := Tr.ext d3 hT
 have d4' : StM (1 + c1 + c2) m2 [a] := by simpa [rl,ha] using d4
 rw [get_eq d4'.wf hT2 hr1]
 simp only [Option.bind_some]
 rw [get_zero]
 simp only [Option.bind_some]
 rw [show q24 = some allS from rfl]
 simp only [Option.bind_some]
 have hL := q95 hT2 (by simp)
 rw [scan_eq d4'.wf (by omega) hT2 hr1 (by simp),filter_all (q := [(k,ByteArray.mk #[49])]) (fun p hp => by have := List.mem_singleton.1 hp; subst this; exact hk24)]
 have hg : mget [(k,ByteArray.mk #[49])] k = some (ByteArray.mk #[49]) := by simp [qH]
 rw [hg]
 simp only [Option.bind_some,decide_true,cond_true,Option.getD_some,Option.isSome_some,Bool.not_false,List.length_singleton]
 have h11 : decide (((1 : Nat) : Int) = 1) = true := by decide
 rw [h11]
 simp only [cond_true]
 rw [count_root]
 simp only [Option.bind_some,root_count d4' hT2,decide_true,cond_true]
 rw [check_eq d4'.wf hT2 hr1 hs1 (by simp)]
 simp only [Option.bind_some,decide_true,cond_true]
 obtain ⟨m3,e1,e2,e3,e4,e5⟩ := release_eq (R := []) (.inr ⟨ha,L,hT2⟩) (by simpa [rl,ha] using d4') (by omega) (by simp)
 rw [e1]
 simp only [Option.bind_some,decide_true,cond_true]
 rw [free_eq e2 (by rw [used_nil e2]; omega),used_nil e2,e4,d5,b5,a3]
 rfl
end Go.Val
namespace Go.Val
open Go.RowKit Go.Lib
structure Grown (m : Mem) (r : Int) (q : List Pr) (c : Nat) : Prop where
 root : Root m r q
 st : StM (1 + c) m (rl r)
 ris : Rising q
 short : qt5 q
 k24 : K24s q
 len : q.length ≤ 80
 blk : m.1.1 = 3002
 used : used m ≤ c
 cost : 2 * c ≤ q.length + 1
end Go.Val
namespace Go.Val
open Go.RowKit Go.Lib
theorem cb_pre : ∀ (D a b : List UInt8),compareBytes (D ++ a) (D ++ b) = compareBytes a b
 | [],a,b => rfl
 | x :: D,a,b => by
  have h1 : ¬ x < x := by rw [UInt8.lt_iff_toNat_lt]; omega
  rw [List.cons_append,List.cons_append,compareBytes]
  simp only [h1,if_false]
  exact cb_pre D a b
theorem less_eq {a b : Ky} (ha : a.length = 24) (hb : b.length = 24) : qg1 a b = some (decide (Lt a b)) := by
 unfold qg1
 refine qC1 (Q := fun o => o = some (decide (Lt a b))) (fun v => ∃ D A B,a = D ++ A ∧ b = D ++ B ∧ v = (D.length : Int)) (fun v => (24 - v).toNat)
  (fun o => Sum.elim (fun (_ : Unit) => some false) (fun w => some w) o = some (decide (Lt a b))) ⟨[],a,b,rfl,rfl,rfl⟩ ?_ (fun o h => h)
 rintro v ⟨D,A,B,e1,e2,rfl⟩
 have la : D.length + A.length = 24 := by rw [← ha,e1]; simp
 have lb : D.length + B.length = 24 := by rw [← hb,e2]; simp
 match A,B with
 | [],[] =>
  right
  have t : ¬ ((D.length : Int) < 24) := by simp at la; omega
  refine ⟨.inl (),by simp only [t,decide_false,cond_false],?_⟩
  have e : a = b := by rw [e1,e2]
  subst e
  simp [lt_irrefl]
 | [],y :: B' => simp at la lb; omega
 | x :: A',[] => simp at la lb; omega
 | x :: A',y :: B' =>
  simp only [List.length_cons] at la lb
  have t : ((D.length : Int) < 24) := by omega
  have t1 : (0 ≤ (D.length : Int) ∧ (D.length : Int) < 24) := by omega
  have ga : gx a (D.length : Int) = some x := by rw [e1]; exact qA1 rfl
  have gb : gx b (D.length : Int) = some y := by rw [e2]; exact qA1 rfl
  have c1 : ck true = some () := rfl
  simp only [t,decide_true,cond_true,t1,and_self,c1,Option.bind_some,ga,gb]
  by_cases hxy : x = y
  ·left
   subst hxy
   refine ⟨(D.length : Int) + 1,?_,⟨D ++ [x],A',B',by simp [e1],by simp [e2],by simp⟩,by omega⟩
   simp only [ne_eq,not_true_eq_false,decide_false,cond_false]
   rw [w64 (by omega) (by omega)]
  ·right
   have hn : ((x.toNat : Int) ≠ (y.toNat : Int)) := fun e => hxy (UInt8.toNat_inj.1 (by omega))
   refine ⟨.inr (decide ((x.toNat : Int) < (y.toNat : Int))),by simp only [hn,ne_eq,not_false_eq_true,decide_true,cond_true],?_⟩
   simp only [Sum.elim_inr]
   congr 1
   rw [e1,e2,decide_eq_decide]
   unfold Lt
   rw [cb_pre,compareBytes]
   by_cases h1 : x < y
   ·have := UInt8.lt_iff_toNat_lt.1 h1
    simp [h1]
    omega
   ·by_cases h2 : y < x
    ·have := UInt8.lt_iff_toNat_lt.1 h2
     simp [h1,h2]
     omega
    ·have e1 : ¬ x.toNat < y.toNat := fun q => h1 (UInt8.lt_iff_toNat_lt.2 q)
     have e2 : ¬ y.toNat < x.toNat := fun q => h2 (UInt8.lt_iff_toNat_lt.2 q)
     omega
end Go.Val
namespace Go.Val
open Go.RowKit Go.Lib
end Go.Val
namespace Go.Val
open Go.RowKit Go.Lib
end Go.Val
namespace Go.Val
open Go.RowKit Go.Lib
theorem q15 {β : Type} {D : List (Ky × β)} {y z : Ky × β} : Rising (D ++ [y] ++ [z]) ↔ Rising (D ++ [y]) ∧ Lt y.1 z.1 := by
 rw [qF]
 constructor
 ·rintro ⟨h1,h2,h3⟩
  exact ⟨h1,h3 y (by simp) z (by simp)⟩
 ·rintro ⟨h1,h2⟩
  refine ⟨h1,by simp [Rising,Asc],fun x hx w hw => ?_⟩
  have : w = z := by simpa using hw
  subst this
  rcases List.mem_append.1 hx with hx | hx
  ·exact lt_trans ((qF.1 h1).2.2 x hx y (by simp)) h2
  ·have : x = y := by simpa using hx
   rw [this]; exact h2
theorem refPairs_loop {ps : List Pr} (hk : K24s ps) (hn : ps.length ≤ 1000000) : ∃ o,qJ (V := Int) (O := (Unit ⊕ Bool)) (fun v265 =>
     cond (decide (v265 < (ps.length : Int))) (
      (gx ps v265).bind fun x272 =>
      cond (decide ((x272.2.size : Int) > 40)) (
       some (.inr (.inr false))
      ) (
       (((
        cond (decide (v265 > 0)) (
         (gx ps (IntKind.wrap .i64 (v265 - 1))).bind fun x294 =>
         (qg1 x294.1 x272.1).bind fun x297 =>
         some (!x297)
        ) (
         some false
        )
       ) : Option Bool)).bind fun o288 =>
       cond o288 (
        some (.inr (.inr false))
       ) (
        some (.inl (IntKind.wrap .i64 (v265 + 1)))
       )
      )
     ) (
      some (.inr (.inl ()))
     )
    ) 0 = some o ∧ ((o = .inl () ∧ qt5 ps ∧ Rising ps) ∨ (o = .inr false ∧ ¬ (qt5 ps ∧ Rising ps))) := by
 refine whileO_ex (fun v => ∃ D Z,ps = D ++ Z ∧ v = (D.length : Int) ∧ qt5 D ∧ Rising D) (fun v => ((ps.length : Int) - v).toNat) ⟨[],ps,rfl,rfl,(fun p hp => by cases hp),by simp [Rising,Asc]⟩ ?_
 rintro v ⟨D,Z,e1,rfl,h1,h2⟩
 have hl : ps.length = D.length + Z.length := by rw [e1]; simp
 match Z with
 | [] =>
  right
  have t : ¬ ((D.length : Int) < (ps.length : Int)) := by simp at hl; omega
  rw [List.append_nil] at e1
  exact ⟨.inl (),by simp only [t,decide_false,cond_false],.inl ⟨rfl,by rw [e1]; exact ⟨h1,h2⟩⟩⟩
 | z :: Z' =>
  simp only [List.length_cons] at hl
  have t : ((D.length : Int) < (ps.length : Int)) := by omega
  have g0 : gx ps (D.length : Int) = some z := by rw [e1]; exact qA1 rfl
  simp only [t,decide_true,cond_true,g0,Option.bind_some]
  by_cases hz : (z.2.size : Int) > 40
  ·right
   refine ⟨.inr false,by simp only [hz,decide_true,cond_true],.inr ⟨rfl,fun h => ?_⟩⟩
   have := h.1 z (by rw [e1]; simp)
   omega
  ·have hs : qt5 (D ++ [z]) := fun p hp => by
    rcases List.mem_append.1 hp with hp | hp
    ·exact h1 p hp
    ·have : p = z := by simpa using hp
     rw [this]; omega
   rcases qx0 D with rfl | ⟨D',y,rfl⟩
   ·left
    refine ⟨1,?_,⟨[z],Z',by simp [e1],rfl,hs,by simp [Rising,Asc]⟩,by simp at hl ⊢; omega⟩
    simp only [hz,decide_false,cond_false,List.length_nil,Int.lt_irrefl,Option.bind_some]
    simp
    rfl
   ·have hly : (((D' ++ [y]).length : Nat) : Int) = (D'.length : Int) + 1 := by simp
    have w0 : IntKind.wrap .i64 ((((D' ++ [y]).length : Nat) : Int) - 1) = (D'.length : Int) := by rw [w64 (by omega) (by omega)]; omega
    have g1 : gx ps (D'.length : Int) = some y := by rw [e1,List.append_assoc,List.singleton_append]; exact qA1 rfl
    have t3 : (((D' ++ [y]).length : Nat) : Int) > 0 := by omega
    simp only [hz,decide_false,cond_false,t3,decide_true,cond_true,w0,g1,Option.bind_some]
    rw [less_eq (hk y (by rw [e1]; simp)) (hk z (by rw [e1]; simp))]
    simp only [Option.bind_some]
    by_cases hlt : Lt y.1 z.1
    ·left
     refine ⟨((D' ++ [y]).length : Int) + 1,?_,⟨D' ++ [y] ++ [z],Z',by simp [e1],by simp; omega,hs,q15.2 ⟨h2,hlt⟩⟩,by omega⟩
     simp only [hlt,decide_true,Bool.not_true,cond_false]
     rw [w64 (by omega) (by omega)]
    ·right
     refine ⟨.inr false,by simp only [hlt,decide_false,Bool.not_false,cond_true],.inr ⟨rfl,fun h => hlt ?_⟩⟩
     have := h.2
     rw [e1,show D' ++ [y] ++ z :: Z' = (D' ++ [y] ++ [z]) ++ Z' by simp] at this
     exact (q15.1 (qF.1 this).1).2
theorem refSeen_loop {ks : List Kd} {D Z : List Kd} {z : Kd} (e1 : ks = D ++ z :: Z) (hn : ks.length ≤ 1000000) : ∃ o,qJ (V := Int) (O := (Unit ⊕ Bool)) (fun v1529 =>
           cond (decide (v1529 < (D.length : Int))) (
            (gx ks v1529).bind fun x1536 =>
            (gx ks (D.length : Int)).bind fun x1539 =>
            cond (decide (x1536.2 = x1539.2)) (
             some (.inr (.inr false))
            ) (
             some (.inl (IntKind.wrap .i64 (v1529 + 1)))
            )
           ) (
            some (.inr (.inl ()))
           )
          ) 0 = some o ∧ ((o = .inl () ∧ z.2 ∉ D.map (·.2)) ∨ (o = .inr false ∧ z.2 ∈ D.map (·.2))) := by
 refine whileO_ex (fun v => ∃ A B,D = A ++ B ∧ v = (A.length : Int) ∧ z.2 ∉ A.map (·.2)) (fun v => ((D.length : Int) - v).toNat) ⟨[],D,rfl,rfl,by simp⟩ ?_
 rintro v ⟨A,B,e2,rfl,h1⟩
 have hl : D.length = A.length + B.length := by rw [e2]; simp
 have hlk : ks.length = D.length + (Z.length + 1) := by rw [e1]; simp
 match B with
 | [] =>
  right
  have t : ¬ ((A.length : Int) < (D.length : Int)) := by simp at hl; omega
  rw [List.append_nil] at e2
  exact ⟨.inl (),by simp only [t,decide_false,cond_false],.inl ⟨rfl,by rw [e2]; exact h1⟩⟩
 | b :: B' =>
  simp only [List.length_cons] at hl
  have t : ((A.length : Int) < (D.length : Int)) := by omega
  have g0 : gx ks (A.length : Int) = some b := by rw [e1,e2,List.append_assoc,List.cons_append]; exact qA1 rfl
  have g1 : gx ks (D.length : Int) = some z := by rw [e1]; exact qA1 rfl
  simp only [t,decide_true,cond_true,g0,g1,Option.bind_some]
  by_cases hb : b.2 = z.2
  ·right
   exact ⟨.inr false,by simp only [hb,decide_true,cond_true],.inr ⟨rfl,by rw [e2]; simp [hb]⟩⟩
  ·left
   refine ⟨(A.length : Int) + 1,?_,⟨A ++ [b],B',by simp [e2],by simp,?_⟩,by omega⟩
   ·simp only [hb,decide_false,cond_false]
    rw [w64 (by omega) (by omega)]
   ·rw [List.map_append,List.mem_append]
    rintro (h | h)
    ·exact h1 h
    ·have h' : z.2 = b.2 := by simpa using h
     exact hb h'.symm
theorem nodup_snoc {l : List Int} {x : Int} : (l ++ [x]).Nodup ↔ l.Nodup ∧ x ∉ l := by
 rw [List.nodup_append]
 constructor
 ·rintro ⟨h1,_,h3⟩
  exact ⟨h1,fun hx => h3 x hx x (by simp) rfl⟩
 ·rintro ⟨h1,h2⟩
  refine ⟨h1,by simp,fun a ha b hb => ?_⟩
  have : b = x := by simpa using hb
  rw [this]
  intro e; exact h2 (e ▸ ha)
theorem refKids_loop {ks : List Kd} (hk : K24s ks) (hn : ks.length ≤ 1000000) : ∃ o,qJ (V := Int) (O := (Unit ⊕ Bool)) (fun v1341 =>
      cond (decide (v1341 < (ks.length : Int))) (
       (((
        (((
         (gx ks v1341).bind fun x1460 =>
         cond (decide (x1460.2 < 2)) (
          some true
         ) (
          some (decide (x1460.2 > 4294967295))
         )
        ) : Option Bool)).bind fun o1457 =>
        cond o1457 (
         some (.inr false)
        ) (
         (((
          cond (decide (v1341 > 0)) (
           (gx ks (IntKind.wrap .i64 (v1341 - 1))).bind fun x1489 =>
           (gx ks v1341).bind fun x1492 =>
           (qg1 x1489.1 x1492.1).bind fun x1495 =>
           some (!x1495)
          ) (
           some false
          )
         ) : Option Bool)).bind fun o1483 =>
         cond o1483 (
          some (.inr false)
         ) (
          qJ (V := Int) (O := (Unit ⊕ Bool)) (fun v1529 =>
           cond (decide (v1529 < v1341)) (
            (gx ks v1529).bind fun x1536 =>
            (gx ks v1341).bind fun x1539 =>
            cond (decide (x1536.2 = x1539.2)) (
             some (.inr (.inr false))
            ) (
             some (.inl (IntKind.wrap .i64 (v1529 + 1)))
            )
           ) (
            some (.inr (.inl ()))
           )
          ) 0
         )
        )
       ) : Option (Unit ⊕ Bool))).bind fun o1445 =>
       Sum.elim (fun (v1551 : Unit) =>
        some (.inl (IntKind.wrap .i64 (v1341 + 1)))
       ) (fun w1554 =>
        some (.inr (.inr w1554))
       ) o1445
      ) (
       some (.inr (.inl ()))
      )
     ) 0 = some o ∧ ((o = .inl () ∧ qw5 ks ∧ Rising ks) ∨ (o = .inr false ∧ ¬ (qw5 ks ∧ Rising ks))) := by
 refine whileO_ex (fun v => ∃ D Z,ks = D ++ Z ∧ v = (D.length : Int) ∧ qw5 D ∧ Rising D) (fun v => ((ks.length : Int) - v).toNat) ⟨[],ks,rfl,rfl,⟨by simp,by simp⟩,by simp [Rising,Asc]⟩ ?_
 rintro v ⟨D,Z,e1,rfl,h1,h2⟩
 have hl : ks.length = D.length + Z.length := by rw [e1]; simp
 match Z with
 | [] =>
  right
  have t : ¬ ((D.length : Int) < (ks.length : Int)) := by simp at hl; omega
  rw [List.append_nil] at e1
  exact ⟨.inl (),by simp only [t,decide_false,cond_false],.inl ⟨rfl,by rw [e1]; exact ⟨h1,h2⟩⟩⟩
 | z :: Z' =>
  simp only [List.length_cons] at hl
  have t : ((D.length : Int) < (ks.length : Int)) := by omega
  have g0 : gx ks (D.length : Int) = some z := by rw [e1]; exact qA1 rfl
  simp only [t,decide_true,cond_true,g0,Option.bind_some]
  have hb : (cond (decide (z.2 < 2)) (some true) (some (decide (z.2 > 4294967295))) : Option Bool) = some (!decide (2 ≤ z.2 ∧ z.2 ≤ 4294967295)) := by
   by_cases h : z.2 < 2
   ·have : ¬ (2 ≤ z.2 ∧ z.2 ≤ 4294967295) := by omega
    simp [h,this]
   ·by_cases h' : z.2 > 4294967295
    ·have : ¬ (2 ≤ z.2 ∧ z.2 ≤ 4294967295) := by omega
     simp [h,h',this]
    ·have : (2 ≤ z.2 ∧ z.2 ≤ 4294967295) := by omega
     simp [h,h',this]
  rw [hb]
  simp only [Option.bind_some]
  by_cases hz : 2 ≤ z.2 ∧ z.2 ≤ 4294967295
  ·simp only [hz,and_self,decide_true,Bool.not_true,cond_false]
   have hord : ∃ bo,((cond (decide ((D.length : Int) > 0)) (
           (gx ks (IntKind.wrap .i64 ((D.length : Int) - 1))).bind fun x1489 =>
           (qg1 x1489.1 z.1).bind fun x1495 =>
           some (!x1495)
          ) (
           some false
          )) : Option Bool) = some bo ∧ (bo = false ↔ Rising (D ++ [z])) := by
    rcases qx0 D with rfl | ⟨D',y,rfl⟩
    ·exact ⟨false,by simp,by simp [Rising,Asc]⟩
    ·have hly : (((D' ++ [y]).length : Nat) : Int) = (D'.length : Int) + 1 := by simp
     have w0 : IntKind.wrap .i64 ((((D' ++ [y]).length : Nat) : Int) - 1) = (D'.length : Int) := by rw [w64 (by omega) (by omega)]; omega
     have g1 : gx ks (D'.length : Int) = some y := by rw [e1,List.append_assoc,List.singleton_append]; exact qA1 rfl
     have t3 : (((D' ++ [y]).length : Nat) : Int) > 0 := by omega
     refine ⟨!decide (Lt y.1 z.1),?_,?_⟩
     ·simp only [t3,decide_true,cond_true,w0,g1,Option.bind_some]
      rw [less_eq (hk y (by rw [e1]; simp)) (hk z (by rw [e1]; simp))]
      rfl
     ·rw [q15]; simp [h2]
   obtain ⟨bo,o1,o2⟩ := hord
   rw [o1]
   simp only [Option.bind_some]
   cases bo with
   | true =>
    right
    refine ⟨.inr false,by simp only [cond_true,Option.bind_some,Sum.elim_inr],.inr ⟨rfl,fun h => ?_⟩⟩
    have := h.2
    rw [e1,show D ++ z :: Z' = (D ++ [z]) ++ Z' by simp] at this
    have := o2.2 (qF.1 this).1
    cases this
   | false =>
    have hr := o2.1 rfl
    simp only [cond_false]
    obtain ⟨o,s1,s2⟩ := refSeen_loop e1 hn
    rw [g0] at s1
    simp only [Option.bind_some] at s1
    rw [s1]
    simp only [Option.bind_some]
    rcases s2 with ⟨rfl,s2⟩ | ⟨rfl,s2⟩
    ·left
     refine ⟨(D.length : Int) + 1,?_,⟨D ++ [z],Z',by simp [e1],by simp,⟨fun k hk' => ?_,?_⟩,hr⟩,by omega⟩
     ·simp only [Sum.elim_inl]
      rw [w64 (by omega) (by omega)]
     ·rcases List.mem_append.1 hk' with h | h
      ·exact h1.1 k h
      ·have : k = z := by simpa using h
       rw [this]; exact hz
     ·rw [List.map_append]; exact nodup_snoc.2 ⟨h1.2,s2⟩
    ·right
     refine ⟨.inr false,by simp only [Sum.elim_inr],.inr ⟨rfl,fun h => ?_⟩⟩
     have := h.1.2
     rw [e1,show D ++ z :: Z' = (D ++ [z]) ++ Z' by simp,List.map_append,List.map_append] at this
     exact (nodup_snoc.1 (List.nodup_append.1 this).1).2 s2
  ·right
   refine ⟨.inr false,by simp only [hz,decide_false,Bool.not_false,cond_true,Option.bind_some,Sum.elim_inr],.inr ⟨rfl,fun h => hz (h.1.1 z (by rw [e1]; simp))⟩⟩
theorem q14 {x : Nd} (hp : K24s x.2.1) (hk : K24s x.2.2) (h1 : x.2.1.length ≤ 1000000) (h2 : x.2.2.length ≤ 1000000) : ∃ b,q85 x = some b ∧ (b = true ↔ qO3 x) := by
 obtain ⟨l,ps,ks⟩ := x
 simp only at hp hk h1 h2
 unfold q85 qO3
 simp only
 have hlv : (cond (decide (l < 0)) (some true) (some (decide (l > 11))) : Option Bool) = some (!decide (0 ≤ l ∧ l < 12)) := by
  by_cases h : l < 0
  ·have : ¬ (0 ≤ l ∧ l < 12) := by omega
   simp [h,this]
  ·by_cases h' : l > 11
   ·have : ¬ (0 ≤ l ∧ l < 12) := by omega
    simp [h,h',this]
   ·have : (0 ≤ l ∧ l < 12) := by omega
    simp [h,h',this]
 rw [hlv]
 simp only [Option.bind_some]
 by_cases hl : 0 ≤ l ∧ l < 12
 ·simp only [hl,and_self,decide_true,Bool.not_true,cond_false,true_and]
  have hsh : ∃ b,((
   cond (decide (l = 0)) (
    cond (decide ((ps.length : Int) < 1)) (
     some true
    ) (
     cond (decide ((ps.length : Int) > 7)) (
      some true
     ) (
      cond (decide ((ks.length : Int) > 0)) (
       some true
      ) (
       cond (decide (l > 0)) (
        cond (decide ((ks.length : Int) < 2)) (
         some true
        ) (
         cond (decide ((ks.length : Int) > 18)) (
          some true
         ) (
          some (decide ((ps.length : Int) > 0))
         )
        )
       ) (
        some false
       )
      )
     )
    )
   ) (
    cond (decide (l > 0)) (
     cond (decide ((ks.length : Int) < 2)) (
      some true
     ) (
      cond (decide ((ks.length : Int) > 18)) (
       some true
      ) (
       some (decide ((ps.length : Int) > 0))
      )
     )
    ) (
     some false
    )
   )
  ) : Option Bool) = some b ∧ (b = false ↔ ((l = 0 → 1 ≤ ps.length ∧ ps.length ≤ 7 ∧ ks.length = 0) ∧ (0 < l → 2 ≤ ks.length ∧ ks.length ≤ 18 ∧ ps.length = 0))) := by
   by_cases h0 : l = 0
   ·subst h0
    by_cases a1 : ((ps.length : Int) < 1)
    ·exact ⟨true,by simp only [a1,decide_false,decide_true,cond_false,cond_true],by simp only [Bool.true_eq_false,false_iff]; intro h; have := h.1 (by first | trivial | rfl); omega⟩
    ·by_cases a2 : ((ps.length : Int) > 7)
     ·exact ⟨true,by simp only [a1,a2,decide_false,decide_true,cond_false,cond_true],by simp only [Bool.true_eq_false,false_iff]; intro h; have := h.1 (by first | trivial | rfl); omega⟩
     ·by_cases a3 : ((ks.length : Int) > 0)
      ·exact ⟨true,by simp only [a1,a2,a3,decide_false,decide_true,cond_false,cond_true],by simp only [Bool.true_eq_false,false_iff]; intro h; have := h.1 (by first | trivial | rfl); omega⟩
      ·have a4 : ¬ ((0 : Int) > 0) := by omega
       exact ⟨false,by simp only [a1,a2,a3,a4,decide_false,decide_true,cond_false,cond_true],by simp only [true_iff]; exact ⟨fun _ => by omega,fun h => by omega⟩⟩
   ·have hp : l > 0 := by omega
    by_cases a1 : ((ks.length : Int) < 2)
    ·exact ⟨true,by simp only [h0,hp,a1,decide_false,decide_true,cond_false,cond_true],by simp only [Bool.true_eq_false,false_iff]; intro h; have := h.2 hp; omega⟩
    ·by_cases a2 : ((ks.length : Int) > 18)
     ·exact ⟨true,by simp only [h0,hp,a1,a2,decide_false,decide_true,cond_false,cond_true],by simp only [Bool.true_eq_false,false_iff]; intro h; have := h.2 hp; omega⟩
     ·by_cases a3 : ((ps.length : Int) > 0)
      ·exact ⟨true,by simp only [h0,hp,a1,a2,a3,decide_false,decide_true,cond_false,cond_true],by simp only [Bool.true_eq_false,false_iff]; intro h; have := h.2 hp; omega⟩
      ·exact ⟨false,by simp only [h0,hp,a1,a2,a3,decide_false,decide_true,cond_false,cond_true],by simp only [true_iff]; exact ⟨fun h => absurd h h0,fun _ => by omega⟩⟩
  obtain ⟨b,s1,s2⟩ := hsh
  rw [s1]
  simp only [Option.bind_some]
  cases b with
  | false =>
   have hs := s2.1 rfl
   simp only [cond_false]
   obtain ⟨o,p1,p2⟩ := refPairs_loop hp h1
   rw [p1]
   simp only [Option.bind_some]
   rcases p2 with ⟨rfl,p2⟩ | ⟨rfl,p2⟩
   ·simp only [Sum.elim_inl]
    obtain ⟨o',k1,k2⟩ := refKids_loop hk h2
    rw [k1]
    simp only [Option.bind_some]
    rcases k2 with ⟨rfl,k2⟩ | ⟨rfl,k2⟩
    ·exact ⟨true,rfl,by simp only [true_iff]; exact ⟨hs.1,hs.2,p2.1,k2.1,p2.2,k2.2⟩⟩
    ·exact ⟨false,rfl,by simp only [Bool.false_eq_true,false_iff]; exact fun h => k2 ⟨h.2.2.2.1,h.2.2.2.2.2⟩⟩
   ·exact ⟨false,rfl,by simp only [Bool.false_eq_true,false_iff]; exact fun h => p2 ⟨h.2.2.1,h.2.2.2.2.1⟩⟩
  | true =>
   exact ⟨false,rfl,by simp only [Bool.false_eq_true,false_iff]; exact fun h => by have := s2.2 ⟨h.1,h.2.1⟩; cases this⟩
 ·simp only [hl,decide_false,Bool.not_false,cond_true]
  exact ⟨false,rfl,by simp only [Bool.false_eq_true,false_iff]; exact fun h => hl ⟨h.1,h.2.1⟩⟩
end Go.Val
namespace Go.Val
open Go.RowKit Go.Lib
abbrev Ent := List (Int × Nd)
def EntOk (E : Ent) : Prop := ∀ n x,mget E n = some x → K24s x.2.1 ∧ K24s x.2.2 ∧ x.2.1.length ≤ 1000000 ∧ x.2.2.length ≤ 1000000
theorem bagGet_eq {E : Ent} {n : Int} (hn : E.length ≤ 1000000) : qB0 E n = some (match mget E n with
  | some x => (x,0)
  | none => ((0,[],[]),1)) := by
 unfold qB0
 refine qC1 (Q := fun (o : Option (Nd × Int)) => o = some (match mget E n with
  | some x => (x,0)
  | none => ((0,[],[]),1))) (fun v => ∃ A B,E = A ++ B ∧ v = (A.length : Int) ∧ mget A n = none) (fun v => ((E.length : Int) - v).toNat)
  (fun (o : Unit ⊕ (Nd × Int)) => Sum.elim (fun (_ : Unit) => some ((0,[],[]),1)) (fun w => some w) o = some (match mget E n with
  | some x => (x,0)
  | none => ((0,[],[]),1))) ⟨[],E,rfl,rfl,rfl⟩ ?_ (by intro o h; exact h)
 rintro v ⟨A,B,h1,rfl,h2⟩
 have hl : E.length = A.length + B.length := by rw [h1]; simp
 match B with
 | [] =>
  right
  have t : ¬ ((A.length : Int) < (E.length : Int)) := by simp at hl; omega
  rw [List.append_nil] at h1
  refine ⟨.inl (),by simp only [t,decide_false,cond_false],?_⟩
  rw [h1,h2]; rfl
 | p :: B' =>
  simp only [List.length_cons] at hl
  have t : ((A.length : Int) < (E.length : Int)) := by omega
  have g0 : gx E (A.length : Int) = some p := by rw [h1]; exact qA1 rfl
  by_cases hp : p.1 = n
  ·right
   refine ⟨.inr (p.2,0),by simp only [t,decide_true,cond_true,g0,Option.bind_some,hp],?_⟩
   rw [h1,qr0,h2,qH,if_pos hp.symm]
   rfl
  ·left
   refine ⟨(A.length : Int) + 1,?_,⟨A ++ [p],B',by simp [h1],by simp,?_⟩,by omega⟩
   ·simp only [t,decide_true,cond_true,g0,Option.bind_some,hp,decide_false,cond_false]
    rw [w64 (by omega) (by omega)]
   ·rw [qr0,h2,qH,if_neg (fun e => hp e.symm)]
    rfl
theorem refFind_eq {E : Ent} {n : Int} (hn : E.length ≤ 1000000) : qF4 E n = some (match mget E n with
  | some x => (x,true)
  | none => ((0,[],[]),false)) := by
 unfold qF4
 refine qC1 (Q := fun o => o = some (match mget E n with
  | some x => (x,true)
  | none => ((0,[],[]),false))) (fun v => ∃ A B,E = A ++ B ∧ v = (A.length : Int) ∧ mget A n = none) (fun v => ((E.length : Int) - v).toNat)
  (fun o => Sum.elim (fun (_ : Unit) => some ((0,[],[]),false)) (fun w => some w) o = some (match mget E n with
  | some x => (x,true)
  | none => ((0,[],[]),false))) ⟨[],E,rfl,rfl,rfl⟩ ?_ (fun o h => h)
 rintro v ⟨A,B,h1,rfl,h2⟩
 have hl : E.length = A.length + B.length := by rw [h1]; simp
 match B with
 | [] =>
  right
  have t : ¬ ((A.length : Int) < (E.length : Int)) := by simp at hl; omega
  rw [List.append_nil] at h1
  refine ⟨.inl (),by simp only [t,decide_false,cond_false],?_⟩
  rw [h1,h2]; rfl
 | p :: B' =>
  simp only [List.length_cons] at hl
  have t : ((A.length : Int) < (E.length : Int)) := by omega
  have g0 : gx E (A.length : Int) = some p := by rw [h1]; exact qA1 rfl
  by_cases hp : p.1 = n
  ·right
   refine ⟨.inr (p.2,true),by simp only [t,decide_true,cond_true,g0,Option.bind_some,hp],?_⟩
   rw [h1,qr0,h2,qH,if_pos hp.symm]
   rfl
  ·left
   refine ⟨(A.length : Int) + 1,?_,⟨A ++ [p],B',by simp [h1],by simp,?_⟩,by omega⟩
   ·simp only [t,decide_true,cond_true,g0,Option.bind_some,hp,decide_false,cond_false]
    rw [w64 (by omega) (by omega)]
   ·rw [qr0,h2,qH,if_neg (fun e => hp e.symm)]
    rfl
def qV4 (y : Nd) : Ky := match y.2.1 with
 | p :: _ => p.1
 | [] => match y.2.2 with
  | k :: _ => k.1
  | [] => List.replicate 24 0
theorem first_eq (y : Nd) : qR0 y = some (qV4 y) := by
 obtain ⟨l,ps,ks⟩ := y
 unfold qR0 qV4
 match ps,ks with
 | p :: ps,ks =>
  rw [show gx (p :: ps) 0 = some p from rfl]
  simp
 | [],k :: ks =>
  rw [show gx (k :: ks) 0 = some k from rfl]
  simp
 | [],[] => simp
theorem refFirst_eq (y : Nd) : q44 y = some (qV4 y) := by
 obtain ⟨l,ps,ks⟩ := y
 unfold q44 qV4
 match ps,ks with
 | p :: ps,ks =>
  rw [show gx (p :: ps) 0 = some p from rfl]
  simp
 | [],k :: ks =>
  rw [show gx (k :: ks) 0 = some k from rfl]
  simp
 | [],[] => simp
def topB {β : Type} (t : Ky × Bool) (l : List (Ky × β)) : Bool := l.all fun z => !t.2 || decide (Lt z.1 t.1)
theorem topB_last {β : Type} {t : Ky × Bool} {D : List (Ky × β)} {z : Ky × β} (h : Rising (D ++ [z])) : topB t (D ++ [z]) = (!t.2 || decide (Lt z.1 t.1)) := by
 unfold topB
 rw [List.all_append]
 cases ht : t.2 with
 | false => simp
 | true =>
  simp only [Bool.not_true,Bool.false_or,List.all_cons,List.all_nil,Bool.and_true]
  by_cases hz : Lt z.1 t.1
  ·have : (D.all fun z => decide (Lt z.1 t.1)) = true := List.all_eq_true.2 fun x hx => decide_eq_true (lt_trans ((qF.1 h).2.2 x hx z (by simp)) hz)
   simp [this,hz]
  ·simp [hz]
theorem pairsTop_loop {ps : List Pr} {t : Ky × Bool} (hk : K24s ps) (ht : t.1.length = 24) (hn : ps.length ≤ 1000000) : qJ (V := Int) (O := (Unit ⊕ Bool)) (fun v133 =>
    cond (decide (v133 < (ps.length : Int))) (
     (gx ps v133).bind fun x140 =>
     (qg1 x140.1 t.1).bind fun x143 =>
     (((
      cond t.2 (
       some (!x143)
      ) (
       some false
      )
     ) : Option Bool)).bind fun o149 =>
     cond o149 (
      some (.inr (.inr false))
     ) (
      some (.inl (IntKind.wrap .i64 (v133 + 1)))
     )
    ) (
     some (.inr (.inl ()))
    )
   ) 0 = some (if topB t ps = true then .inl () else .inr false) := by
 refine whileO_is (fun v => ∃ D Z,ps = D ++ Z ∧ v = (D.length : Int) ∧ topB t D = true) (fun v => ((ps.length : Int) - v).toNat) ⟨[],ps,rfl,rfl,rfl⟩ ?_
 rintro v ⟨D,Z,e1,rfl,h1⟩
 have hl : ps.length = D.length + Z.length := by rw [e1]; simp
 match Z with
 | [] =>
  right
  have tt : ¬ ((D.length : Int) < (ps.length : Int)) := by simp at hl; omega
  rw [List.append_nil] at e1
  simp only [tt,decide_false,cond_false]
  rw [e1,if_pos h1]
 | z :: Z' =>
  simp only [List.length_cons] at hl
  have tt : ((D.length : Int) < (ps.length : Int)) := by omega
  have g0 : gx ps (D.length : Int) = some z := by rw [e1]; exact qA1 rfl
  simp only [tt,decide_true,cond_true,g0,Option.bind_some]
  rw [less_eq (hk z (by rw [e1]; simp)) ht]
  simp only [Option.bind_some]
  have hc : (cond t.2 (some (!decide (Lt z.1 t.1))) (some false) : Option Bool) = some (!(!t.2 || decide (Lt z.1 t.1))) := by
   cases t.2 <;> simp
  rw [hc]
  simp only [Option.bind_some]
  have htz : topB t ps = (topB t D && ((!t.2 || decide (Lt z.1 t.1)) && topB t Z')) := by
   rw [e1]; unfold topB; rw [List.all_append,List.all_cons]
  cases hz : (!t.2 || decide (Lt z.1 t.1)) with
  | true =>
   left
   refine ⟨(D.length : Int) + 1,?_,⟨D ++ [z],Z',by simp [e1],by simp,?_⟩,by omega⟩
   ·simp only [Bool.not_true,cond_false]
    rw [w64 (by omega) (by omega)]
   ·unfold topB at h1 ⊢
    rw [List.all_append,h1,List.all_cons,hz]; rfl
  | false =>
   right
   have : ¬ topB t ps = true := by rw [htz,hz]; simp
   rw [if_neg this]
   rfl
theorem whileO_branch {V O : Type} {body : V → Option (V ⊕ O)} {v v' : V} {o : O} {c : Bool} (h : body v = some (if c = true then .inl v' else .inr o)) : qJ body v = if c = true then qJ body v' else some o := by
 rw [qI,h]
 cases c <;> rfl
noncomputable def rb (g : Nat) (E : Ent) (y : Nd) (t : Ky × Bool) : Bool := decide (qC0 g E y t.1 t.2 = some true)
def qy5 (t : Ky × Bool) (Z : List Kd) : Ky × Bool := match Z with
 | [] => t
 | w :: _ => (w.1,true)
noncomputable def kb (g : Nat) (E : Ent) (l : Int) (z : Kd) (t : Ky × Bool) : Bool := match mget E z.2 with
 | none => false
 | some y => decide (y.1 = l - 1) && (decide (qV4 y = z.1) && (!decide (fewN y) && rb g E y t))
noncomputable def qB5 (g : Nat) (E : Ent) (l : Int) (t : Ky × Bool) : List Kd → Bool
 | [] => true
 | z :: Z => kb g E l z (qy5 t Z) && qB5 g E l t Z
def Both (f g : Nat) (E : Ent) (y : Nd) (t : Ky × Bool) : Prop := ∃ b,qk0 f E y t = some (if b = true then 0 else 12) ∧ qC0 g E y t.1 t.2 = some b
theorem Both.rb {f g : Nat} {E : Ent} {y : Nd} {t : Ky × Bool} (h : Both f g E y t) : qk0 f E y t = some (if rb g E y t = true then 0 else 12) ∧ qC0 g E y t.1 t.2 = some (rb g E y t) := by
 obtain ⟨b,h1,h2⟩ := h
 have : Go.Val.rb g E y t = b := by unfold Go.Val.rb; rw [h2]; cases b <;> simp
 rw [this]
 exact ⟨h1,h2⟩
theorem nextT_eq {ks D Z : List Kd} {z : Kd} {t : Ky × Bool} (e1 : ks = D ++ z :: Z) (hn : ks.length ≤ 1000000) : ((cond (decide ((D.length : Int) + 1 < (ks.length : Int))) (
         (gx ks ((D.length : Int) + 1)).bind fun x439 =>
         some (x439.1,true)
        ) (
         some t
        )) : Option ((List UInt8) × Bool)) = some (qy5 t Z) := by
 have hl : ks.length = D.length + (Z.length + 1) := by rw [e1]; simp
 match Z with
 | [] =>
  have t2 : ¬ ((D.length : Int) + 1 < (ks.length : Int)) := by simp at hl; omega
  simp only [t2,decide_false,cond_false,qy5]
 | y :: Z2 =>
  simp only [List.length_cons] at hl
  have t2 : ((D.length : Int) + 1 < (ks.length : Int)) := by omega
  have g1 : gx ks ((D.length : Int) + 1) = some y := by
   rw [e1,show D ++ z :: y :: Z2 = (D ++ [z]) ++ y :: Z2 by simp]; exact qA1 (by simp)
  simp only [t2,decide_true,cond_true,g1,Option.bind_some,qy5]
theorem nextT_eq2 {ks D Z : List Kd} {z : Kd} {t : Ky × Bool} (e1 : ks = D ++ z :: Z) (hn : ks.length ≤ 1000000) : ((cond (decide ((D.length : Int) + 1 < (ks.length : Int))) (
         (gx ks ((D.length : Int) + 1)).bind fun x439 =>
         some (true,x439.1)
        ) (
         some (t.2,t.1)
        )) : Option (Bool × (List UInt8))) = some ((qy5 t Z).2,(qy5 t Z).1) := by
 have hl : ks.length = D.length + (Z.length + 1) := by rw [e1]; simp
 match Z with
 | [] =>
  have t2 : ¬ ((D.length : Int) + 1 < (ks.length : Int)) := by simp at hl; omega
  simp only [t2,decide_false,cond_false,qy5]
 | y :: Z2 =>
  simp only [List.length_cons] at hl
  have t2 : ((D.length : Int) + 1 < (ks.length : Int)) := by omega
  have g1 : gx ks ((D.length : Int) + 1) = some y := by
   rw [e1,show D ++ z :: y :: Z2 = (D ++ [z]) ++ y :: Z2 by simp]; exact qA1 (by simp)
  simp only [t2,decide_true,cond_true,g1,Option.bind_some,qy5]
theorem nextT_len {t : Ky × Bool} {Z : List Kd} (ht : t.1.length = 24) (hk : K24s Z) : (qy5 t Z).1.length = 24 := by
 match Z,hk with
 | [],_ => exact ht
 | w :: Z,hk => exact hk w (by simp)
theorem qK4 {f g : Nat} {E : Ent} {l : Int} {ks : List Kd} {t : Ky × Bool} (hl : 0 ≤ l ∧ l < 12) (hE : E.length ≤ 1000000) (hn : ks.length ≤ 1000000) (hk : K24s ks) (ht : t.1.length = 24)
  (ih : ∀ y t,(∃ n,mget E n = some y) → y.1 = l - 1 → t.1.length = 24 → Both f g E y t) : ∀ {Z D : List Kd},ks = D ++ Z → qJ (V := Int) (O := (Unit ⊕ Int)) (fun v407 =>
     cond (decide (v407 < (ks.length : Int))) (
      (gx ks v407).bind fun x414 =>
      (qB0 E x414.2).bind fun x417 =>
      cond (decide (x417.2 ≠ 0)) (
       (qI0 x417.2).bind fun x423 =>
       some (.inr (.inr x423))
      ) (
       (((
        cond (decide ((IntKind.wrap .i64 (v407 + 1)) < (ks.length : Int))) (
         (gx ks (IntKind.wrap .i64 (v407 + 1))).bind fun x439 =>
         some (x439.1,true)
        ) (
         some t
        )
       ) : Option ((List UInt8) × Bool))).bind fun o433 =>
       (((
        cond (decide (x417.1.1 ≠ (IntKind.wrap .i64 (l - 1)))) (
         some true
        ) (
         (qR0 x417.1).bind fun x460 =>
         cond (!(decide (x460 = x414.1))) (
          some true
         ) (
          (ql3 x417.1).bind fun x466 =>
          some x466
         )
        )
       ) : Option Bool)).bind fun o454 =>
       cond o454 (
        some (.inr (.inr 12))
       ) (
        (qk0 f E x417.1 o433).bind fun x473 =>
        cond (decide (x473 ≠ 0)) (
         some (.inr (.inr x473))
        ) (
         some (.inl (IntKind.wrap .i64 (v407 + 1)))
        )
       )
      )
     ) (
      some (.inr (.inl ()))
     )
    ) (D.length : Int) = some (if qB5 g E l t Z = true then .inl () else .inr 12)
 | [],D,e1 => by
  have hln : ks.length = D.length := by rw [e1]; simp
  rw [qI]
  have tt : ¬ ((D.length : Int) < (ks.length : Int)) := by omega
  simp only [tt,decide_false,cond_false,Option.bind_some,qB5,if_true]
 | z :: Z,D,e1 => by
  have hln : ks.length = D.length + (Z.length + 1) := by rw [e1]; simp
  have tt : ((D.length : Int) < (ks.length : Int)) := by omega
  have g0 : gx ks (D.length : Int) = some z := by rw [e1]; exact qA1 rfl
  have w1 : IntKind.wrap .i64 ((D.length : Int) + 1) = (((D ++ [z]).length : Nat) : Int) := by rw [w64 (by omega) (by omega)]; simp
  have w1' : IntKind.wrap .i64 ((D.length : Int) + 1) = (D.length : Int) + 1 := by rw [w64 (by omega) (by omega)]
  have w2 : IntKind.wrap .i64 (l - 1) = l - 1 := w64 (by omega) (by omega)
  have rec' := qK4 hl hE hn hk ht ih (Z := Z) (D := D ++ [z]) (by simp [e1])
  refine (whileO_branch (c := kb g E l z (qy5 t Z)) (v' := (((D ++ [z]).length : Nat) : Int)) (o := .inr 12) ?_).trans ?_
  ·simp only [tt,decide_true,cond_true,g0,Option.bind_some,bagGet_eq hE,w2]
   rw [kb]
   cases hm : mget E z.2 with
   | none =>
    simp [qI0]
   | some y =>
    simp only [ne_eq,not_true_eq_false,decide_false,cond_false]
    rw [w1',nextT_eq e1 hn]
    simp only [Option.bind_some]
    rw [w1'] at w1
    by_cases hy : y.1 = l - 1
    ·simp only [hy,not_true_eq_false,decide_false,cond_false,first_eq,Option.bind_some,few_nd,decide_true,Bool.true_and]
     by_cases hf : qV4 y = z.1
     ·simp only [hf,decide_true,Bool.not_true,cond_false,Option.bind_some,Bool.true_and]
      by_cases hw : fewN y
      ·simp [hw]
      ·simp only [hw,decide_false,cond_false,Bool.not_false,Bool.true_and]
       have hkZ : K24s Z := fun k hk' => hk k (by rw [e1]; simp [hk'])
       obtain ⟨b1,b2⟩ := (ih y (qy5 t Z) ⟨z.2,hm⟩ hy (nextT_len ht hkZ)).rb
       rw [b1]
       simp only [Option.bind_some]
       cases hb : rb g E y (qy5 t Z) with
       | true =>
        simp only [if_true,not_true_eq_false,decide_false,cond_false]
        rw [w1]
       | false => simp
     ·simp [hf]
    ·simp [hy]
  ·rw [qB5]
   cases kb g E l z (qy5 t Z) with
   | true => simp only [if_true,Bool.true_and]; exact rec'
   | false => simp
theorem qT2 {f g : Nat} {E : Ent} {l : Int} {ks : List Kd} {t : Ky × Bool} (hl : 0 ≤ l ∧ l < 12) (hE : E.length ≤ 1000000) (hn : ks.length ≤ 1000000) (hk : K24s ks) (ht : t.1.length = 24) (h1 : ks ≠ [] → 1 ≤ l)
  (ih : ∀ y t,(∃ n,mget E n = some y) → y.1 = l - 1 → t.1.length = 24 → Both f g E y t) : ∀ {Z D : List Kd},ks = D ++ Z → qJ (V := Int) (O := (Unit ⊕ Bool)) (fun v698 =>
     cond (decide (v698 < (ks.length : Int))) (
      (gx ks v698).bind fun x705 =>
      (qg1 x705.1 t.1).bind fun x708 =>
      (((
       cond t.2 (
        some (!x708)
       ) (
        some false
       )
      ) : Option Bool)).bind fun o714 =>
      cond o714 (
       some (.inr (.inr false))
      ) (
       (qF4 E x705.2).bind fun x724 =>
       (((
        cond (!x724.2) (
         some true
        ) (
         cond (decide (x724.1.1 ≠ (IntKind.wrap .i64 (l - 1)))) (
          some true
         ) (
          (q44 x724.1).bind fun x760 =>
          cond (!(decide (x760 = x705.1))) (
           some true
          ) (
           cond (decide (x724.1.1 = 0)) (
            cond (decide ((x724.1.2.1.length : Int) < 3)) (
             some true
            ) (
             cond (decide (x724.1.1 > 0)) (
              some (decide ((x724.1.2.2.length : Int) < 9))
             ) (
              some false
             )
            )
           ) (
            cond (decide (x724.1.1 > 0)) (
             some (decide ((x724.1.2.2.length : Int) < 9))
            ) (
             some false
            )
           )
          )
         )
        )
       ) : Option Bool)).bind fun o751 =>
       cond o751 (
        some (.inr (.inr false))
       ) (
        (((
         cond (decide ((IntKind.wrap .i64 (v698 + 1)) < (ks.length : Int))) (
          (gx ks (IntKind.wrap .i64 (v698 + 1))).bind fun x794 =>
          some (true,x794.1)
         ) (
          some (t.2,t.1)
         )
        ) : Option (Bool × (List UInt8)))).bind fun o788 =>
        (qC0 g E x724.1 o788.2 o788.1).bind fun x797 =>
        cond (!x797) (
         some (.inr (.inr false))
        ) (
         some (.inl (IntKind.wrap .i64 (v698 + 1)))
        )
       )
      )
     ) (
      some (.inr (.inl ()))
     )
    ) (D.length : Int) = some (if (topB t Z && qB5 g E l t Z) = true then .inl () else .inr false)
 | [],D,e1 => by
  have hln : ks.length = D.length := by rw [e1]; simp
  rw [qI]
  have tt : ¬ ((D.length : Int) < (ks.length : Int)) := by omega
  simp only [tt,decide_false,cond_false,Option.bind_some,qB5,topB,List.all_nil,Bool.and_self,if_true]
 | z :: Z,D,e1 => by
  have hln : ks.length = D.length + (Z.length + 1) := by rw [e1]; simp
  have l1 : 1 ≤ l := h1 (by rw [e1]; simp)
  have tt : ((D.length : Int) < (ks.length : Int)) := by omega
  have g0 : gx ks (D.length : Int) = some z := by rw [e1]; exact qA1 rfl
  have w1' : IntKind.wrap .i64 ((D.length : Int) + 1) = (D.length : Int) + 1 := by rw [w64 (by omega) (by omega)]
  have w1 : ((D.length : Int) + 1) = (((D ++ [z]).length : Nat) : Int) := by simp
  have w2 : IntKind.wrap .i64 (l - 1) = l - 1 := w64 (by omega) (by omega)
  have rec' := qT2 hl hE hn hk ht h1 ih (Z := Z) (D := D ++ [z]) (by simp [e1])
  refine (whileO_branch (c := (!t.2 || decide (Lt z.1 t.1)) && kb g E l z (qy5 t Z)) (v' := (((D ++ [z]).length : Nat) : Int)) (o := .inr false) ?_).trans ?_
  ·simp only [tt,decide_true,cond_true,g0,Option.bind_some,w2]
   rw [less_eq (hk z (by rw [e1]; simp)) ht]
   simp only [Option.bind_some]
   have hc : (cond t.2 (some (!decide (Lt z.1 t.1))) (some false) : Option Bool) = some (!(!t.2 || decide (Lt z.1 t.1))) := by
    cases t.2 <;> simp
   rw [hc]
   simp only [Option.bind_some]
   cases hz : (!t.2 || decide (Lt z.1 t.1)) with
   | false => simp
   | true =>
    simp only [Bool.not_true,cond_false,refFind_eq hE,Option.bind_some,Bool.true_and]
    rw [kb]
    cases hm : mget E z.2 with
    | none => simp
    | some y =>
     simp only [Bool.not_true,cond_false]
     by_cases hy : y.1 = l - 1
     ·have hy' : ¬ (y.1 ≠ l - 1) := fun h => h hy
      simp only [hy',decide_false,cond_false,refFirst_eq,Option.bind_some]
      by_cases hf : qV4 y = z.1
      ·have hfew : ((cond (decide (y.1 = 0)) (
             cond (decide ((y.2.1.length : Int) < 3)) (
              some true
             ) (
              cond (decide (y.1 > 0)) (
               some (decide ((y.2.2.length : Int) < 9))
              ) (
               some false
              )
             )
            ) (
             cond (decide (y.1 > 0)) (
              some (decide ((y.2.2.length : Int) < 9))
             ) (
              some false
             )
            )) : Option Bool) = some (decide (fewN y)) := by
        unfold fewN
        by_cases h0 : y.1 = 0
        ·have hp : ¬ y.1 > 0 := by omega
         simp only [h0,decide_true,cond_true,if_true]
         by_cases h3 : (y.2.1.length : Int) < 3
         ·have : y.2.1.length < 3 := by omega
          simp only [h3,this,decide_true,cond_true]
         ·have : ¬ y.2.1.length < 3 := by omega
          have h00 : ¬ ((0 : Int) > 0) := by omega
          simp only [h3,this,h00,decide_false,cond_false]
        ·have hp : y.1 > 0 := by omega
         simp only [h0,hp,decide_true,decide_false,cond_true,cond_false,if_false]
         congr 1
         rw [decide_eq_decide]
         omega
       simp only [hf,decide_true,Bool.not_true,cond_false]
       rw [hfew]
       simp only [Option.bind_some]
       by_cases hw : fewN y
       ·simp [hw]
       ·simp only [hw,decide_false,cond_false,Bool.not_false,Bool.true_and]
        rw [w1',nextT_eq2 e1 hn]
        simp only [Option.bind_some]
        have hkZ : K24s Z := fun k hk' => hk k (by rw [e1]; simp [hk'])
        obtain ⟨b1,b2⟩ := (ih y (qy5 t Z) ⟨z.2,hm⟩ hy (nextT_len ht hkZ)).rb
        rw [b2]
        simp only [Option.bind_some,hy,decide_true,Bool.true_and]
        cases hb : rb g E y (qy5 t Z) with
        | true =>
         simp only [Bool.not_true,cond_false,if_true]
         rw [w1]
        | false => simp
      ·simp [hf]
     ·simp [hy]
  ·have htz : topB t (z :: Z) = ((!t.2 || decide (Lt z.1 t.1)) && topB t Z) := rfl
   rw [htz,qB5]
   cases (!t.2 || decide (Lt z.1 t.1)) with
   | false => simp
   | true =>
    cases kb g E l z (qy5 t Z) with
    | true => simp only [Bool.and_self,if_true,Bool.true_and]; exact rec'
    | false => simp
theorem check_both {E : Ent} (hE : E.length ≤ 1000000) (hok : EntOk E) : ∀ (j f g : Nat) (y : Nd) (t : Ky × Bool),(∃ n,mget E n = some y) → y.1 < (j : Int) → j ≤ f → j ≤ g → 1 ≤ f → 1 ≤ g → t.1.length = 24 → Both f g E y t := by
 intro j
 induction j with
 | zero =>
  intro f g y t hm hj hf hg hf1 hg1 ht
  obtain ⟨n,hn⟩ := hm
  obtain ⟨k1,k2,n1,n2⟩ := hok n y hn
  obtain ⟨f,rfl⟩ : ∃ f',f = f' + 1 := ⟨f - 1,by omega⟩
  obtain ⟨g,rfl⟩ : ∃ g',g = g' + 1 := ⟨g - 1,by omega⟩
  have hR : ¬ qO3 y := fun h => by have := h.1; omega
  obtain ⟨b,r1,r2⟩ := right_eq (x := y) (by omega) (by omega)
  have hb : b = false := by cases b with
   | false => rfl
   | true => exact absurd (r2.1 rfl) hR
  obtain ⟨b',s1,s2⟩ := q14 k1 k2 n1 n2
  have hb' : b' = false := by cases b' with
   | false => rfl
   | true => exact absurd (s2.1 rfl) hR
  subst hb; subst hb'
  refine ⟨false,?_,?_⟩
  ·rw [qk0]; unfold qw0; rw [r1]; rfl
  ·rw [qC0]; unfold qS0; rw [s1]; rfl
 | succ j ih =>
  intro f g y t hm hj hf hg hf1 hg1 ht
  obtain ⟨n,hn⟩ := hm
  obtain ⟨k1,k2,n1,n2⟩ := hok n y hn
  obtain ⟨f,rfl⟩ : ∃ f',f = f' + 1 := ⟨f - 1,by omega⟩
  obtain ⟨g,rfl⟩ : ∃ g',g = g' + 1 := ⟨g - 1,by omega⟩
  obtain ⟨b,r1,r2⟩ := right_eq (x := y) (by omega) (by omega)
  obtain ⟨b',s1,s2⟩ := q14 k1 k2 n1 n2
  by_cases hR : qO3 y
  ·have hb := r2.2 hR
   have hb' := s2.2 hR
   subst hb; subst hb'
   have ih' : ∀ z t,(∃ n,mget E n = some z) → z.1 = y.1 - 1 → t.1.length = 24 → y.2.2 ≠ [] → Both f g E z t := fun z t hz hl ht hne => by
    have hl0 : 1 ≤ y.1 := by
     obtain ⟨a1,a2,a3,a4,_⟩ := hR
     by_cases h0 : y.1 = 0
     ·have := (a3 h0).2.2
      exact absurd (List.length_eq_zero_iff.1 this) hne
     ·omega
    exact ih f g z t hz (by omega) (by omega) (by omega) (by omega) (by omega) ht
   obtain ⟨a1,a2,a3,a4,a5,a6,a7,a8⟩ := hR
   unfold Both
   rw [qk0,qC0]
   unfold qw0 qS0
   rw [r1,s1]
   simp only [Option.bind_some,Bool.not_true,cond_false]
   obtain ⟨l,ps,ks⟩ := y
   simp only at a1 a2 a3 a4 a5 a6 a7 a8 k1 k2 n1 n2 ih' ⊢
   rw [pairsTop_loop k1 ht n1]
   simp only [Option.bind_some]
   by_cases h0 : l = 0
   ·subst h0
    obtain ⟨b1,b2,b3⟩ := a3 rfl
    have hks : ks = [] := List.length_eq_zero_iff.1 b3
    subst hks
    rcases qx0 ps with rfl | ⟨D,z,rfl⟩
    ·simp at b1
    ·simp only [List.length_append,List.length_singleton] at b2
     have e : IntKind.wrap .i64 (((D ++ [z]).length : Int) - 1) = (D.length : Int) := by
      rw [w64 (by simp <;> omega) (by simp <;> omega)]; simp
     rw [e,show gx (D ++ [z]) (D.length : Int) = some z from qA1 rfl,topB_last a7]
     simp only [decide_true,cond_true,Option.bind_some]
     have hc : (cond t.2 ((qu z.1 t.1).bind fun x40 => some (decide (x40 ≥ 0))) (some false) : Option Bool) = some (!(!t.2 || decide (Lt z.1 t.1))) := by
      cases t.2 with
      | false => rfl
      | true =>
       simp only [cond_true,cmp_eq,Option.bind_some,Bool.not_true,Bool.false_or]
       unfold Lt
       by_cases h : compareBytes z.1 t.1 ≥ 0
       ·have : ¬ compareBytes z.1 t.1 < 0 := by omega
        simp [h,this]
       ·have : compareBytes z.1 t.1 < 0 := by omega
        simp [h,this]
     rw [hc]
     simp only [Option.bind_some]
     cases hb : (!t.2 || decide (Lt z.1 t.1)) with
     | false => exact ⟨false,by simp,by simp⟩
     | true =>
      refine ⟨true,?_,?_⟩
      ·simp only [Bool.not_true,cond_false]
       rw [qI]
       simp
      ·simp only [if_true,Sum.elim_inl]
       rw [qI]
       simp
   ·obtain ⟨b1,b2,b3⟩ := a4 (by omega)
    have hps : ps = [] := List.length_eq_zero_iff.1 b3
    subst hps
    have hne : ks ≠ [] := fun e => by rw [e] at b1; simp at b1
    have ihk : ∀ z t,(∃ n,mget E n = some z) → z.1 = l - 1 → t.1.length = 24 → Both f g E z t := fun z t h1 h2 h3 => ih' z t h1 h2 h3 hne
    have c1 := qK4 (ks := ks) (l := l) (t := t) ⟨a1,a2⟩ hE n2 k2 ht ihk (Z := ks) (D := []) rfl
    have c2 := qT2 (ks := ks) (l := l) (t := t) ⟨a1,a2⟩ hE n2 k2 ht (fun _ => by omega) ihk (Z := ks) (D := []) rfl
    have z0 : ((([] : List Kd).length : Nat) : Int) = 0 := rfl
    rw [z0] at c1 c2
    simp only [h0,decide_false,cond_false,topB,List.all_nil,if_true,Sum.elim_inl]
    rw [c1,c2]
    rcases qx0 ks with rfl | ⟨D,z,rfl⟩
    ·exact absurd rfl hne
    ·simp only [List.length_append,List.length_singleton] at b2
     have e : IntKind.wrap .i64 (((D ++ [z]).length : Int) - 1) = (D.length : Int) := by
      rw [w64 (by simp <;> omega) (by simp <;> omega)]; simp
     rw [e,show gx (D ++ [z]) (D.length : Int) = some z from qA1 rfl,topB_last a8]
     simp only [Option.bind_some]
     have hc : (cond t.2 ((qu z.1 t.1).bind fun x40 => some (decide (x40 ≥ 0))) (some false) : Option Bool) = some (!(!t.2 || decide (Lt z.1 t.1))) := by
      cases t.2 with
      | false => rfl
      | true =>
       simp only [cond_true,cmp_eq,Option.bind_some,Bool.not_true,Bool.false_or]
       unfold Lt
       by_cases h : compareBytes z.1 t.1 ≥ 0
       ·have : ¬ compareBytes z.1 t.1 < 0 := by omega
        simp [h,this]
       ·have : compareBytes z.1 t.1 < 0 := by omega
        simp [h,this]
     rw [hc]
     simp only [Option.bind_some]
     cases hb : (!t.2 || decide (Lt z.1 t.1)) with
     | false => exact ⟨false,by simp,by simp⟩
     | true =>
      refine ⟨qB5 g E l t (D ++ [z]),?_,?_⟩
      ·simp only [Bool.not_true,cond_false]
       cases qB5 g E l t (D ++ [z]) <;> simp
      ·simp only [Bool.true_and]
       cases qB5 g E l t (D ++ [z]) <;> simp
  ·have hb : b = false := by cases b with
    | false => rfl
    | true => exact absurd (r2.1 rfl) hR
   have hb' : b' = false := by cases b' with
    | false => rfl
    | true => exact absurd (s2.1 rfl) hR
   subst hb; subst hb'
   refine ⟨false,?_,?_⟩
   ·rw [qk0]; unfold qw0; rw [r1]; rfl
   ·rw [qC0]; unfold qS0; rw [s1]; rfl
end Go.Val
namespace Go.Val
open Go.RowKit Go.Lib
theorem both_not {E : Ent} {y : Nd} {t : Ky × Bool} {f g : Nat} (hok : K24s y.2.1 ∧ K24s y.2.2 ∧ y.2.1.length ≤ 1000000 ∧ y.2.2.length ≤ 1000000) (hR : ¬ qO3 y) : Both (f + 1) (g + 1) E y t := by
 obtain ⟨k1,k2,n1,n2⟩ := hok
 obtain ⟨b,r1,r2⟩ := right_eq (x := y) (by omega) (by omega)
 have hb : b = false := by cases b with
  | false => rfl
  | true => exact absurd (r2.1 rfl) hR
 obtain ⟨b',s1,s2⟩ := q14 k1 k2 n1 n2
 have hb' : b' = false := by cases b' with
  | false => rfl
  | true => exact absurd (s2.1 rfl) hR
 subst hb; subst hb'
 refine ⟨false,?_,?_⟩
 ·rw [qk0]; unfold qw0; rw [r1]; rfl
 ·rw [qC0]; unfold qS0; rw [s1]; rfl
end Go.Val
namespace Go.Val
open Go.RowKit Go.Lib
theorem and_le {a : Int} {b : Nat} (hb : b < 9223372036854775808) : ∃ m : Nat,q61 .i64 a (b : Int) = (m : Int) ∧ m ≤ b := by
 unfold q61
 rw [BitVec.toNat_and,BitVec.toNat_ofInt,BitVec.toNat_ofInt]
 have h64 : (2 : Nat) ^ IntKind.bits .i64 = 18446744073709551616 := by decide
 have e3 : ((b : Int) % ((2 ^ IntKind.bits .i64 : Nat) : Int)).toNat = b := by rw [h64]; omega
 rw [e3]
 have := @Nat.and_le_right ((a % ((2 ^ IntKind.bits .i64 : Nat) : Int)).toNat) b
 exact ⟨_,by rw [wI64 (by omega)],this⟩
end Go.Val
namespace Go.Val
open Go.RowKit Go.Lib
theorem rb_iff {E : Ent} (hE : E.length ≤ 1000000) (hok : EntOk E) {g : Nat} {y : Nd} {t : Ky × Bool} {n : Int} (hm : mget E n = some y) (hy : y.1 ≤ (g : Int)) (hg : 1 ≤ g) (ht : t.1.length = 24) :
  rb (g + 1) E y t = true ↔ qO3 y ∧ topB t y.2.1 = true ∧ topB t y.2.2 = true ∧ qB5 g E y.1 t y.2.2 = true := by
 obtain ⟨k1,k2,n1,n2⟩ := hok n y hm
 obtain ⟨b',s1,s2⟩ := q14 k1 k2 n1 n2
 unfold rb
 rw [qC0]
 unfold qS0
 rw [s1]
 simp only [Option.bind_some]
 by_cases hR : qO3 y
 ·have hb' := s2.2 hR
  subst hb'
  have hR0 := hR
  obtain ⟨a1,a2,a3,a4,a5,a6,a7,a8⟩ := hR
  simp only [Bool.not_true,cond_false]
  rw [pairsTop_loop k1 ht n1]
  simp only [Option.bind_some]
  have c2 := qT2 (f := g) (g := g) (ks := y.2.2) (l := y.1) (t := t) ⟨a1,a2⟩ hE n2 k2 ht (fun hne => by
   by_cases h0 : y.1 = 0
   ·have := (a3 h0).2.2
    exact absurd (List.length_eq_zero_iff.1 this) hne
   ·omega) (fun z t hz hl ht => check_both hE hok y.1.toNat g g z t hz (by omega) (by omega) (by omega) hg hg ht) (Z := y.2.2) (D := []) rfl
  have z0 : ((([] : List Kd).length : Nat) : Int) = 0 := rfl
  rw [z0] at c2
  cases h1 : topB t y.2.1 with
  | false => simp
  | true =>
   simp only [if_true,Sum.elim_inl]
   rw [c2]
   cases h2 : topB t y.2.2 with
   | false => simp
   | true =>
    cases h3 : qB5 g E y.1 t y.2.2 with
    | false => simp
    | true => simp [hR0]
 ·have hb' : b' = false := by cases b' with
   | false => rfl
   | true => exact absurd (s2.1 rfl) hR
  subst hb'
  simp [hR]
theorem check_bag {E : Ent} (hE : E.length ≤ 1000000) (hok : EntOk E) {root : Int} {y : Nd} (h0 : root ≠ 0) (hm : mget E root = some y) : q11 E root = some (if rb 16 E y (List.replicate 24 0,false) = true then 0 else 12) := by
 unfold q11
 simp only [h0,decide_false,cond_false]
 rw [bagGet_eq hE]
 simp only [Option.bind_some,hm]
 have hB : Both 16 16 E y (List.replicate 24 0,false) := by
  by_cases hR : qO3 y
  ·have := hR.2.1
   exact check_both hE hok 12 16 16 y _ ⟨root,hm⟩ (by omega) (by omega) (by omega) (by omega) (by omega) (by simp)
  ·exact both_not (hok root y hm) hR
 simp only [ne_eq,not_true_eq_false,decide_false,cond_false]
 unfold qk3
 rw [hB.rb.1]
 rfl
theorem topB_of {β : Type} {t : Ky × Bool} {l : List (Ky × β)} (h : t.2 = true → ∀ x ∈ l,Lt x.1 t.1) : topB t l = true := by
 unfold topB
 refine List.all_eq_true.2 fun x hx => ?_
 cases ht : t.2 with
 | false => rfl
 | true => simpa using h ht x hx
theorem kids_key {m : Mem} {L : Nat} : ∀ {ks : List Kd} {qs : List (List Pr)},F2 (KidR m L) ks qs → ∀ k ∈ ks,∃ x ∈ qs.flatten,x.1 = k.1
 | _,_,.cons (a := k0) (b := q0) (l := ks) (r := qs) h hs,k,hk => by
  rcases List.mem_cons.1 hk with rfl | hk
  ·obtain ⟨x,hx,e⟩ := qv5 h.2.2
   exact ⟨x,by rw [List.flatten_cons]; exact List.mem_append.2 (.inl hx),e⟩
  ·obtain ⟨x,hx,e⟩ := kids_key hs k hk
   exact ⟨x,by rw [List.flatten_cons]; exact List.mem_append.2 (.inr hx),e⟩
theorem nextT_bound {m : Mem} {L : Nat} {q0 : List Pr} {ks : List Kd} {qs : List (List Pr)} {t : Ky × Bool} (hs : F2 (KidR m L) ks qs) (hr : Rising (q0 ++ qs.flatten)) (ht : t.2 = true → ∀ x ∈ q0 ++ qs.flatten,Lt x.1 t.1) :
  (qy5 t ks).2 = true → ∀ x ∈ q0,Lt x.1 (qy5 t ks).1 := by
 match ks,qs,hs with
 | [],_,_ => exact fun h x hx => ht h x (List.mem_append.2 (.inl hx))
 | k :: ks,q :: qs,.cons h _ =>
  intro _ x hx
  obtain ⟨y,hy,e⟩ := qv5 h.2.2
  have := (qF.1 hr).2.2 x hx y (by rw [List.flatten_cons]; exact List.mem_append.2 (.inl hy))
  rw [e] at this
  exact this
theorem tr_firstK {m : Mem} {L : Nat} {n : Int} {q : List Pr} {k : Ky} (h : Tr m L n q) (hk : hd q = some k) : qV4 (ndOf m n) = k := by
 have := first_tr h hk
 rw [first_eq] at this
 exact Option.some.inj this
theorem tr_rb {K : Int} {m : Mem} (hw : WfM K m) {E : Ent} (hE : E.length ≤ 1000000) (hok : EntOk E) : ∀ {L g : Nat} {n : Int} {q : List Pr} {t : Ky × Bool},L < 12 → L + 1 < g → Tr m L n q → Rising q → qt5 q → t.1.length = 24 → (t.2 = true → ∀ x ∈ q,Lt x.1 t.1) → (∀ b ∈ blks L m n,mget E b = some (ndOf m b)) → rb g E (ndOf m n) t = true
 | 0,g,n,q,t,hL,hg,h,hr,hs,ht,htq,hc => by
  obtain ⟨g,rfl⟩ : ∃ g',g = g' + 1 := ⟨g - 1,by omega⟩
  have hR := tr_right hw hL h hr hs
  have h0 := h
  rw [Tr] at h
  refine (rb_iff hE hok (hc n (qL2 0 m n)) (by rw [h.2.1]; simp) (by omega) ht).2 ⟨hR,?_,?_,?_⟩
  ·rw [h.2.1]; exact topB_of htq
  ·rw [h.2.1]; rfl
  ·rw [h.2.1,qB5]
 | L + 1,g,n,q,t,hL,hg,h,hr,hs,ht,htq,hc => by
  obtain ⟨g,rfl⟩ : ∃ g',g = g' + 1 := ⟨g - 1,by omega⟩
  have hR := tr_right hw hL h hr hs
  have hn := (q05 h).1
  have hk24 := (hok n _ (hc n (qL2 _ m n))).2.1
  rw [blks] at hc
  have hcn := hc n (by simp)
  rw [Tr] at h
  obtain ⟨_,ks,h1,h2,h3,qs,h4,h5⟩ := h
  refine (rb_iff hE hok hcn (by rw [hn]; omega) (by omega) ht).2 ⟨hR,by rw [h1]; rfl,?_,?_⟩
  ·rw [h1]
   refine topB_of fun h2 k hk => ?_
   obtain ⟨x,hx,e⟩ := kids_key h5 k hk
   rw [← e]
   exact htq h2 x (h4 ▸ hx)
  ·rw [h1] at hk24 ⊢
   have hcov : ∀ k ∈ ks,∀ b ∈ blks L m k.2,mget E b = some (ndOf m b) := fun k hk b hb => hc b (by
    rw [h1]
    exact List.mem_cons_of_mem _ (List.mem_flatMap.2 ⟨k.2,List.mem_map.2 ⟨k,hk,rfl⟩,hb⟩))
   have key : ∀ {ks : List Kd} {qs : List (List Pr)},F2 (KidR m L) ks qs → Rising qs.flatten → qt5 qs.flatten → K24s ks → (t.2 = true → ∀ x ∈ qs.flatten,Lt x.1 t.1) → (∀ k ∈ ks,∀ b ∈ blks L m k.2,mget E b = some (ndOf m b)) → qB5 g E ((L + 1 : Nat) : Int) t ks = true := by
    intro ks qs hF
    induction hF with
    | nil => intros; rw [qB5]
    | @cons k q ks qs hk hF ih =>
     intro r s k24 b c
     rw [List.flatten_cons] at r s b
     have hr2 := qF.1 r
     rw [qB5,ih hr2.2.1 (fun p hp => s p (List.mem_append.2 (.inr hp))) (fun p hp => k24 p (by simp [hp])) (fun h x hx => b h x (List.mem_append.2 (.inr hx))) (fun k hk => c k (by simp [hk])),Bool.and_true]
     rw [kb,c k (by simp) k.2 (qL2 L m k.2)]
     have e1 : (ndOf m k.2).1 = ((L + 1 : Nat) : Int) - 1 := by rw [(q05 hk.1).1]; omega
     have e2 : qV4 (ndOf m k.2) = k.1 := tr_firstK hk.1 hk.2.2
     have e3 := tr_rb hw hE hok (L := L) (g := g) (t := qy5 t ks) (by omega) (by omega) hk.1 hr2.1 (fun p hp => s p (List.mem_append.2 (.inl hp))) (nextT_len ht (fun p hp => k24 p (by simp [hp]))) (nextT_bound hF r b) (c k (by simp))
     simp only [e1,e2,e3,hk.2.1,decide_true,decide_false,Bool.not_false,Bool.and_self]
   exact key h5 (h4 ▸ hr) (h4 ▸ hs) hk24 (fun h x hx => htq h x (h4 ▸ hx)) hcov
theorem kidsB_mem {g : Nat} {E : Ent} {l : Int} {t : Ky × Bool} (ht : t.1.length = 24) : ∀ {ks : List Kd},K24s ks → qB5 g E l t ks = true → ∀ z ∈ ks,∃ t' : Ky × Bool,t'.1.length = 24 ∧ kb g E l z t' = true
 | [],_,_,z,hz => by cases hz
 | k :: ks,hk,h,z,hz => by
  rw [qB5,Bool.and_eq_true] at h
  rcases List.mem_cons.1 hz with rfl | hz
  ·exact ⟨_,nextT_len ht (fun p hp => hk p (by simp [hp])),h.1⟩
  ·exact kidsB_mem ht (fun p hp => hk p (by simp [hp])) h.2 z hz
def BadN (x y : Nd) : Prop := ¬ (y.1 = x.1 ∧ qV4 y = qV4 x ∧ ¬ fewN y)
theorem bad_rb {m : Mem} {E : Ent} (hE : E.length ≤ 1000000) (hok : EntOk E) {b' : Int} {y' : Nd} (hb' : mget E b' = some y') (hbad : BadN (ndOf m b') y') : ∀ {L g : Nat} {n : Int} {q : List Pr} {t : Ky × Bool},L + 1 < g → Tr m L n q → t.1.length = 24 →
  b' ∈ blks L m n → b' ≠ n → (∀ b ∈ blks L m n,b ≠ b' → mget E b = some (ndOf m b)) → rb g E (ndOf m n) t ≠ true
 | 0,g,n,q,t,hg,h,ht,hb,hne,hc => by
  rw [blks] at hb
  exact absurd (by simpa using hb) hne
 | L + 1,g,n,q,t,hg,h,ht,hb,hne,hc => by
  obtain ⟨g,rfl⟩ : ∃ g',g = g' + 1 := ⟨g - 1,by omega⟩
  intro hrb
  have hn := (q05 h).1
  have hcn := hc n (qL2 _ m n) (fun e => hne e.symm)
  have hk24 := (hok n _ hcn).2.1
  obtain ⟨_,_,_,r4⟩ := (rb_iff hE hok hcn (by rw [hn]; omega) (by omega) ht).1 hrb
  rw [Tr] at h
  obtain ⟨_,ks,h1,h2,h3,qs,h4,h5⟩ := h
  rw [h1] at hk24 r4
  rw [blks,h1] at hb
  rw [blks,h1] at hc
  rcases List.mem_cons.1 hb with rfl | hb
  ·exact hne rfl
  ·obtain ⟨z2,hz2,hbz⟩ := List.mem_flatMap.1 hb
   obtain ⟨z,hz,rfl⟩ := List.mem_map.1 hz2
   obtain ⟨q0,_,hT⟩ := h5.mem z hz
   obtain ⟨t',ht',hkb⟩ := kidsB_mem ht hk24 r4 z hz
   rw [kb] at hkb
   by_cases e : z.2 = b'
   ·rw [e,hb'] at hkb
    simp only [Bool.and_eq_true,decide_eq_true_eq,Bool.not_eq_true',decide_eq_false_iff_not] at hkb
    obtain ⟨c1,c2,c3,_⟩ := hkb
    have e1 := (q05 hT.1).1
    have e2 := tr_firstK hT.1 hT.2.2
    rw [e] at e1 e2
    exact hbad ⟨by rw [e1,c1]; omega,by rw [e2,c2],c3⟩
   ·have hcov : ∀ b ∈ blks L m z.2,b ≠ b' → mget E b = some (ndOf m b) := fun b hb hbn => hc b (List.mem_cons_of_mem _ (List.mem_flatMap.2 ⟨z.2,hz2,hb⟩)) hbn
    rw [hcov z.2 (qL2 L m z.2) e] at hkb
    simp only [Bool.and_eq_true] at hkb
    exact bad_rb hE hok hb' hbad (by omega) hT.1 ht' hbz (fun h => e h.symm) hcov hkb.2.2.2
theorem qX4 {m : Mem} : ∀ {L : Nat} {n b : Int} {q : List Pr},Tr m L n q → b ∈ blks L m n → ∃ L' q',Tr m L' b q' ∧ L' ≤ L ∧ (b ≠ n → L' < L) ∧ ∀ x ∈ q',x ∈ q
 | 0,n,b,q,h,hb => by
  rw [blks] at hb
  have e : b = n := by simpa using hb
  subst e
  exact ⟨0,q,h,by omega,fun h => absurd rfl h,fun x hx => hx⟩
 | L + 1,n,b,q,h,hb => by
  rw [blks] at hb
  rcases List.mem_cons.1 hb with rfl | hb
  ·exact ⟨L + 1,q,h,by omega,fun h => absurd rfl h,fun x hx => hx⟩
  ·rw [Tr] at h
   obtain ⟨_,ks,h1,h2,h3,qs,h4,h5⟩ := h
   rw [h1] at hb
   obtain ⟨z2,hz2,hbz⟩ := List.mem_flatMap.1 hb
   obtain ⟨z,hz,rfl⟩ := List.mem_map.1 hz2
   obtain ⟨q0,hq0,hT⟩ := h5.mem z hz
   obtain ⟨L',q',t1,t2,_,t4⟩ := qX4 hT.1 hbz
   exact ⟨L',q',t1,by omega,fun _ => by omega,fun x hx => by rw [← h4]; exact List.mem_flatten.2 ⟨q0,hq0,t4 x hx⟩⟩
theorem blks_nodup {m : Mem} : ∀ {L : Nat} {n : Int} {q : List Pr},Tr m L n q → Rising q → (blks L m n).Nodup
 | 0,n,q,h,hr => by rw [blks]; simp
 | L + 1,n,q,h,hr => by
  have hn := (q05 h).1
  rw [blks]
  rw [Tr] at h
  obtain ⟨_,ks,h1,h2,h3,qs,h4,h5⟩ := h
  rw [h1]
  refine List.nodup_cons.2 ⟨fun hm => ?_,?_⟩
  ·obtain ⟨z2,hz2,hbz⟩ := List.mem_flatMap.1 hm
   obtain ⟨z,hz,rfl⟩ := List.mem_map.1 hz2
   obtain ⟨q0,hq0,hT⟩ := h5.mem z hz
   obtain ⟨L',q',t1,t2,_,t4⟩ := qX4 hT.1 hbz
   have := (q05 t1).1
   omega
  ·have key : ∀ {ks : List Kd} {qs : List (List Pr)},F2 (KidR m L) ks qs → Rising qs.flatten → ((ks.map (·.2)).flatMap (blks L m)).Nodup := by
    intro ks qs hF
    induction hF with
    | nil => intro _; simp
    | @cons k q ks qs hk hF ih =>
     intro r
     rw [List.flatten_cons] at r
     obtain ⟨r1,r2,r3⟩ := qF.1 r
     rw [List.map_cons,List.flatMap_cons]
     refine List.nodup_append.2 ⟨blks_nodup hk.1 r1,ih r2,fun a ha b hb => ?_⟩
     rintro rfl
     obtain ⟨z2,hz2,hbz⟩ := List.mem_flatMap.1 hb
     obtain ⟨z,hz,rfl⟩ := List.mem_map.1 hz2
     obtain ⟨q0,hq0,hT⟩ := hF.mem z hz
     obtain ⟨L1,q1,t1,_,_,t4⟩ := qX4 hk.1 ha
     obtain ⟨L2,q2,u1,_,_,u4⟩ := qX4 hT.1 hbz
     have e1 := (q05 t1).1
     have e2 := (q05 u1).1
     have e : L1 = L2 := by omega
     subst e
     have := tr_unique t1 u1
     subst this
     obtain ⟨x,hx⟩ := List.exists_mem_of_ne_nil _ (tr_ne t1)
     exact lt_irrefl _ (r3 x (t4 x hx) x (List.mem_flatten.2 ⟨q0,hq0,u4 x hx⟩))
   exact key h5 (h4 ▸ hr)
end Go.Val
namespace Go.Val
open Go.RowKit Go.Lib
theorem whileO_gw {V O X : Type} {body : V → Option (V ⊕ O)} (J : V → X → Prop) (μ : X → Nat) (Post : O → Prop)
  (h : ∀ v x,J v x → (∃ v' x',body v = some (.inl v') ∧ J v' x' ∧ μ x' < μ x) ∨ (∃ o,body v = some (.inr o) ∧ Post o)) {v : V} {x : X} (hv : J v x) : ∃ o,qJ body v = some o ∧ Post o := by
 have key : ∀ n v x,J v x → μ x ≤ n → ∃ o,qJ body v = some o ∧ Post o := by
  intro n
  induction n with
  | zero =>
   intro v x hv hm
   rcases h v x hv with ⟨v',x',h1,h2,h3⟩ | ⟨o,h1,h2⟩
   ·omega
   ·exact ⟨o,by rw [qI,h1]; rfl,h2⟩
  | succ n ih =>
   intro v x hv hm
   rcases h v x hv with ⟨v',x',h1,h2,h3⟩ | ⟨o,h1,h2⟩
   ·obtain ⟨o,k1,k2⟩ := ih v' x' h2 (by omega)
    exact ⟨o,by rw [qI,h1]; exact k1,k2⟩
   ·exact ⟨o,by rw [qI,h1]; rfl,h2⟩
 exact key _ v x hv (Nat.le_refl _)
theorem flatMap_same {α β : Type} {l : List α} {f g : α → List β} (h : ∀ a ∈ l,f a = g a) : l.flatMap f = l.flatMap g := by
 induction l with
 | nil => rfl
 | cons a l ih => rw [List.flatMap_cons,List.flatMap_cons,h a (by simp),ih fun b hb => h b (by simp [hb])]
def qe4 (m : Mem) (b : Int) : Int × Nd := (b,ndOf m b)
theorem kids_queue {m : Mem} {ents : Ent} {ks : List Kd} {T : List Int} (hn : ks.length ≤ 1000000) (hT : T.length ≤ 1000000) :
  qJ (V := (Int × (List Int))) (O := ((Mem × Ent × (List Int)) ⊕ Bool)) (fun v721 =>
        cond (decide (v721.1 < (ks.length : Int))) (
         (gx ks v721.1).bind fun x728 =>
         (fits (v721.2.length + ([x728.2]).length) 8).bind fun _ =>
         some (.inl ((IntKind.wrap .i64 (v721.1 + 1)),(v721.2 ++ [x728.2])))
        ) (
         some (.inr (.inl (m,ents,v721.2)))
        )
       ) (0,T) = some (.inl (m,ents,T ++ ks.map (·.2))) := by
 refine whileO_is (fun v => ∃ D Z,ks = D ++ Z ∧ v = ((D.length : Int),T ++ D.map (·.2))) (fun v => ((ks.length : Int) - v.1).toNat) ⟨[],ks,rfl,by simp⟩ ?_
 rintro v ⟨D,Z,e1,rfl⟩
 have hl : ks.length = D.length + Z.length := by rw [e1]; simp
 match Z with
 | [] =>
  right
  have t : ¬ ((D.length : Int) < (ks.length : Int)) := by simp at hl; omega
  rw [List.append_nil] at e1
  simp only [t,decide_false,cond_false]
  rw [e1]
 | z :: Z' =>
  left
  simp only [List.length_cons] at hl
  have t : ((D.length : Int) < (ks.length : Int)) := by omega
  have g0 : gx ks (D.length : Int) = some z := by rw [e1]; exact qA1 rfl
  refine ⟨((D.length : Int) + 1,T ++ (D ++ [z]).map (·.2)),?_,⟨D ++ [z],Z',by simp [e1],by simp⟩,by simp only; omega⟩
  simp only [t,decide_true,cond_true,g0,Option.bind_some]
  rw [qb1 (by simp; omega),w64 (by omega) (by omega)]
  simp
theorem bfs_loop {m : Mem} {L : Nat} {r : Int} {q : List Pr} (hT : Tr m L r q) (hr0 : r ≠ 0) (hq : q.length ≤ 100) :
  ∃ D : List Int,qJ (V := (Int × Mem × Ent × (List Int))) (O := (Ent ⊕ Bool)) (fun v617 =>
    (((
     cond (decide (v617.1 < (v617.2.2.2.length : Int))) (
      cond (decide (r ≠ 0)) (
       some (decide (v617.1 < 200))
      ) (
       some false
      )
     ) (
      some false
     )
    ) : Option Bool)).bind fun o627 =>
    cond o627 (
     (((
      (gx v617.2.2.2 v617.1).bind fun x687 =>
      (qx v617.2.1 x687).bind fun x690 =>
      cond (decide (x690.2.1 ≠ 0)) (
       some (.inr false)
      ) (
       (fits (v617.2.2.1.length + ([(x687,x690.1)]).length) 64).bind fun _ =>
       qJ (V := (Int × (List Int))) (O := ((Mem × Ent × (List Int)) ⊕ Bool)) (fun v721 =>
        cond (decide (v721.1 < (x690.1.2.2.length : Int))) (
         (gx x690.1.2.2 v721.1).bind fun x728 =>
         (fits (v721.2.length + ([x728.2]).length) 8).bind fun _ =>
         some (.inl ((IntKind.wrap .i64 (v721.1 + 1)),(v721.2 ++ [x728.2])))
        ) (
         some (.inr (.inl (x690.2.2,(v617.2.2.1 ++ [(x687,x690.1)]),v721.2)))
        )
       ) (0,v617.2.2.2)
      )
     ) : Option ((Mem × Ent × (List Int)) ⊕ Bool))).bind fun o684 =>
     Sum.elim (fun (v734 : (Mem × Ent × (List Int))) =>
      some (.inl ((IntKind.wrap .i64 (v617.1 + 1)),v734.1,v734.2.1,v734.2.2))
     ) (fun w737 =>
      some (.inr (.inr w737))
     ) o684
    ) (
     some (.inr (.inl v617.2.2.1))
    )
   ) (0,m,[],[r]) = some (.inl (D.map (qe4 m))) ∧ D.Perm (blks L m r) ∧ D.head? = some r := by
 have hlen := (blks_len hT).1
 obtain ⟨o,ho,D,e,h⟩ := whileO_gw (V := (Int × Mem × Ent × (List Int))) (O := (Ent ⊕ Bool)) (X := List Int) (body := fun v617 =>
    (((
     cond (decide (v617.1 < (v617.2.2.2.length : Int))) (
      cond (decide (r ≠ 0)) (
       some (decide (v617.1 < 200))
      ) (
       some false
      )
     ) (
      some false
     )
    ) : Option Bool)).bind fun o627 =>
    cond o627 (
     (((
      (gx v617.2.2.2 v617.1).bind fun x687 =>
      (qx v617.2.1 x687).bind fun x690 =>
      cond (decide (x690.2.1 ≠ 0)) (
       some (.inr false)
      ) (
       (fits (v617.2.2.1.length + ([(x687,x690.1)]).length) 64).bind fun _ =>
       qJ (V := (Int × (List Int))) (O := ((Mem × Ent × (List Int)) ⊕ Bool)) (fun v721 =>
        cond (decide (v721.1 < (x690.1.2.2.length : Int))) (
         (gx x690.1.2.2 v721.1).bind fun x728 =>
         (fits (v721.2.length + ([x728.2]).length) 8).bind fun _ =>
         some (.inl ((IntKind.wrap .i64 (v721.1 + 1)),(v721.2 ++ [x728.2])))
        ) (
         some (.inr (.inl (x690.2.2,(v617.2.2.1 ++ [(x687,x690.1)]),v721.2)))
        )
       ) (0,v617.2.2.2)
      )
     ) : Option ((Mem × Ent × (List Int)) ⊕ Bool))).bind fun o684 =>
     Sum.elim (fun (v734 : (Mem × Ent × (List Int))) =>
      some (.inl ((IntKind.wrap .i64 (v617.1 + 1)),v734.1,v734.2.1,v734.2.2))
     ) (fun w737 =>
      some (.inr (.inr w737))
     ) o684
    ) (
     some (.inr (.inl v617.2.2.1))
    ))
  (fun v D => ∃ rest,v = ((D.length : Int),m,D.map (qe4 m),D ++ rest) ∧ (D ++ rest.flatMap (blksM m)).Perm (blks L m r) ∧ (∀ b ∈ rest,∃ L' q',Tr m L' b q') ∧ (D ++ rest).head? = some r ∧ rest.length ≤ 10000 ∧ rest.length ≤ 18 * D.length + 1)
  (fun D => (blks L m r).length + 1 - D.length) (fun o => ∃ D : List Int,o = .inl (D.map (qe4 m)) ∧ D.Perm (blks L m r) ∧ D.head? = some r) (by
  rintro v D ⟨rest,rfl,hp,hl,hh,hrl,hrl2⟩
  have hdl := hp.length_eq
  rw [List.length_append] at hdl
  match rest with
  | [] =>
   right
   have t : ¬ ((D.length : Int) < ((D ++ ([] : List Int)).length : Int)) := by simp
   simp only [t,decide_false,cond_false,Option.bind_some]
   exact ⟨_,rfl,D,rfl,by simpa using hp,by simpa using hh⟩
  | x :: rest =>
   left
   obtain ⟨L',q',ht⟩ := hl x (by simp)
   have hk18 := (q05 ht).2.2
   have hbx : blksM m x = x :: (q52 (ndOf m x)).flatMap (blksM m) := by
    rw [blksM_tr ht]
    match L',ht with
    | 0,ht =>
     rw [Tr] at ht
     rw [blks,ht.2.1]; rfl
    | L'' + 1,ht =>
     rw [blks]
     congr 1
     refine flatMap_same fun k hk => ?_
     obtain ⟨L3,q3,e3,h3⟩ := qq5 ht hk
     have : L3 = L'' := by omega
     subst this
     exact (blksM_tr h3).symm
   rw [List.flatMap_cons,hbx,List.length_append,List.length_cons] at hdl
   have t1 : ((D.length : Int) < ((D ++ x :: rest).length : Int)) := by simp; omega
   have t2 : ((D.length : Int) < 200) := by omega
   have t3 : r ≠ 0 := hr0
   have g0 : gx (D ++ x :: rest) (D.length : Int) = some x := qA1 rfl
   refine ⟨((((D ++ [x]).length : Nat) : Int),m,(D ++ [x]).map (qe4 m),(D ++ [x]) ++ (rest ++ q52 (ndOf m x))),D ++ [x],?_,⟨rest ++ q52 (ndOf m x),rfl,?_,?_,?_,?_,?_⟩,by simp only [List.length_append,List.length_cons,List.length_nil]; omega⟩
   ·simp only [t1,t2,t3,ne_eq,not_false_eq_true,decide_true,cond_true,Option.bind_some,g0,tr_get ht,not_true_eq_false,decide_false,cond_false]
    rw [qb1 (by simp; omega)]
    simp only [Option.bind_some]
    rw [kids_queue (by omega) (by simp at hrl ⊢; omega)]
    simp only [Option.bind_some,Sum.elim_inl]
    rw [w64 (by omega) (by omega)]
    simp [qe4,q52]
   ·refine List.Perm.trans ?_ hp
    rw [List.flatMap_cons,hbx,List.flatMap_append,List.append_assoc,List.singleton_append,List.cons_append]
    exact List.Perm.append_left _ (List.Perm.cons _ List.perm_append_comm)
   ·intro b hb
    rcases List.mem_append.1 hb with hb | hb
    ·exact hl b (by simp [hb])
    ·obtain ⟨L3,q3,_,h3⟩ := qq5 ht hb
     exact ⟨L3,q3,h3⟩
   ·rw [← hh]
    cases D <;> simp
   ·simp only [List.length_append,q52,List.length_map,List.length_cons] at hrl hrl2 ⊢
    omega
   ·simp only [List.length_append,q52,List.length_map,List.length_cons,List.length_nil] at hrl2 ⊢
    omega) (v := (0,m,[],[r])) (x := []) ⟨[r],rfl,by simp [blksM_tr hT],fun b hb => ⟨L,q,by
   have : b = r := by simpa using hb
   subst this; exact hT⟩,rfl,by simp,by simp⟩
 subst e
 exact ⟨D,ho,h⟩
theorem mget_ent {m : Mem} {D : List Int} {b : Int} (h : b ∈ D) : mget (D.map (qe4 m)) b = some (ndOf m b) := by
 induction D with
 | nil => cases h
 | cons d D ih =>
  rw [List.map_cons,qe4,qH]
  by_cases e : b = d
  ·subst e; rw [if_pos rfl]
  ·rw [if_neg e]
   exact ih ((List.mem_cons.1 h).resolve_left e)
theorem mget_ent_none {m : Mem} {D : List Int} {b : Int} (h : b ∉ D) : mget (D.map (qe4 m)) b = none := by
 refine qO1.2 fun hm => h ?_
 rw [List.map_map] at hm
 obtain ⟨x,hx,e⟩ := List.mem_map.1 hm
 have : x = b := e
 rw [← this]; exact hx
theorem mget_ent_some {m : Mem} {D : List Int} {b : Int} {x : Nd} (h : mget (D.map (qe4 m)) b = some x) : b ∈ D ∧ x = ndOf m b := by
 by_cases hb : b ∈ D
 ·rw [mget_ent hb] at h
  exact ⟨hb,(Option.some.inj h).symm⟩
 ·rw [mget_ent_none hb] at h; cases h
theorem mget_set {m : Mem} {A B : List Int} {b' : Int} {y' : Nd} (hn : (A ++ b' :: B).Nodup) (b : Int) :
  mget ((A ++ b' :: B).map (qe4 m) |>.set A.length (b',y')) b = if b = b' then some y' else mget ((A ++ b' :: B).map (qe4 m)) b := by
 have hA : b' ∉ A := fun h => (List.nodup_append.1 hn).2.2 b' h b' (by simp) rfl
 have e : ((A ++ b' :: B).map (qe4 m)).set A.length (b',y') = A.map (qe4 m) ++ (b',y') :: B.map (qe4 m) := by
  rw [List.map_append,List.map_cons,List.set_append_right _ _ (by simp)]
  simp
 rw [e,qr0,qH,List.map_append,List.map_cons,qr0,qe4,qH]
 by_cases h : b = b'
 ·subst h
  rw [mget_ent_none hA,if_pos rfl,if_pos rfl]; rfl
 ·rw [if_neg h,if_neg h,if_neg h]
end Go.Val
namespace Go.Val
open Go.RowKit Go.Lib
theorem blks_few {m : Mem} : ∀ {L : Nat} {n b : Int} {q : List Pr},Tr m L n q → b ∈ blks L m n → b ≠ n → ¬ fewN (ndOf m b)
 | 0,n,b,q,h,hb,hne => by
  rw [blks] at hb
  exact absurd (by simpa using hb) hne
 | L + 1,n,b,q,h,hb,hne => by
  rw [blks] at hb
  rcases List.mem_cons.1 hb with rfl | hb
  ·exact absurd rfl hne
  ·rw [Tr] at h
   obtain ⟨_,ks,h1,h2,h3,qs,h4,h5⟩ := h
   rw [h1] at hb
   obtain ⟨z2,hz2,hbz⟩ := List.mem_flatMap.1 hb
   obtain ⟨z,hz,rfl⟩ := List.mem_map.1 hz2
   obtain ⟨q0,hq0,hT⟩ := h5.mem z hz
   by_cases e : b = z.2
   ·rw [e]; exact hT.2.1
   ·exact blks_few hT.1 hbz e
theorem node_k24 {m : Mem} {L : Nat} {n : Int} {q : List Pr} (h : Tr m L n q) (hq : K24s q) : K24s (ndOf m n).2.1 ∧ K24s (ndOf m n).2.2 := by
 match L,h with
 | 0,h =>
  rw [Tr] at h
  rw [h.2.1]
  exact ⟨hq,fun p hp => by cases hp⟩
 | L + 1,h =>
  rw [Tr] at h
  obtain ⟨_,ks,h1,h2,h3,qs,h4,h5⟩ := h
  rw [h1]
  refine ⟨(fun p hp => by cases hp),fun k hk => ?_⟩
  obtain ⟨x,hx,e⟩ := kids_key h5 k hk
  rw [← e]
  exact hq x (h4 ▸ hx)
def SubN (y y' : Nd) : Prop := (∀ p ∈ y'.2.1,p ∈ y.2.1) ∧ (∀ p ∈ y'.2.2,p ∈ y.2.2) ∧ y'.2.1.length ≤ 7 ∧ y'.2.2.length ≤ 18
theorem piece_tl {α : Type} (a : α) (l : List α) : qY0 (a :: l) 1 (((a :: l).length : Nat) : Int) = l := by
 unfold qY0
 rw [Int.toNat_natCast,List.take_length]
 rfl
theorem spoil_eq {y : Nd} {z : Int × Nd} {E : Ent} {how : Int} (hR : qO3 y) (hf : ¬ fewN y) (hE : gx E 0 = some z) (e0 : E ≠ []) (hz : y.1 < z.2.1) (hzl : z.2.2.1.length ≤ 7 ∧ z.2.2.2.length ≤ 18) :
  ∃ y',(cond (decide ((q61 .i64 how 3) = 0)) (
       some ((IntKind.wrap .i64 (y.1 + 1)),y.2.1,y.2.2)
      ) (
       cond (decide ((q61 .i64 how 3) = 1)) (
        cond (decide ((y.2.1.length : Int) > 0)) (
         (cutB 1 (y.2.1.length : Int) y.2.1.length).bind fun _ =>
         some (y.1,(qY0 y.2.1 1 (y.2.1.length : Int)),y.2.2)
        ) (
         (cutB 1 (y.2.2.length : Int) y.2.2.length).bind fun _ =>
         some (y.1,y.2.1,(qY0 y.2.2 1 (y.2.2.length : Int)))
        )
       ) (
        cond (decide ((q61 .i64 how 3) = 2)) (
         (cutB 0 (min (y.2.1.length : Int) 2) y.2.1.length).bind fun _ =>
         (cutB 0 (min (y.2.2.length : Int) 8) y.2.2.length).bind fun _ =>
         some (y.1,(qY0 y.2.1 0 (min (y.2.1.length : Int) 2)),(qY0 y.2.2 0 (min (y.2.2.length : Int) 8)))
        ) (
         cond (decide ((q61 .i64 how 3) = 3)) (
          (gx E 0).bind fun x816 =>
          some x816.2
         ) (
          some y
         )
        )
       )
      ) : Option Nd) = some y' ∧ BadN y y' ∧ (SubN y y' ∨ SubN z.2 y') := by
 obtain ⟨w,hw,hw3⟩ := and_le (a := how) (b := 3) (by omega)
 have hw' : q61 .i64 how 3 = (w : Int) := hw
 rw [hw']
 obtain ⟨a1,a2,a3,a4,a5,a6,a7,a8⟩ := hR
 obtain ⟨l,ps,ks⟩ := y
 simp only at a1 a2 a3 a4 a5 a6 a7 a8 hz ⊢
 have h7 : ps.length ≤ 7 := by
  by_cases h0 : l = 0
  ·exact (a3 h0).2.1
  ·have := (a4 (by omega)).2.2; omega
 have h18 : ks.length ≤ 18 := by
  by_cases h0 : l = 0
  ·have := (a3 h0).2.2; omega
  ·exact (a4 (by omega)).2.1
 have hcase : w = 0 ∨ w = 1 ∨ w = 2 ∨ w = 3 := by omega
 rcases hcase with rfl | rfl | rfl | rfl
 ·refine ⟨(IntKind.wrap .i64 (l + 1),ps,ks),by simp,fun h => ?_,.inl ⟨fun p hp => hp,fun p hp => hp,h7,h18⟩⟩
  have := h.1
  simp only at this
  rw [w64 (by omega) (by omega)] at this
  omega
 ·by_cases h0 : l = 0
  ·obtain ⟨b1,b2,b3⟩ := a3 h0
   subst h0
   simp only [fewN,if_true] at hf
   match ps,hf,a7,h7 with
   | [],hf,_,_ => simp at hf
   | [p0],hf,_,_ => simp at hf
   | p0 :: p1 :: ps,hf,a7,h7 =>
    have t : (((p0 :: p1 :: ps).length : Nat) : Int) > 0 := by simp only [List.length_cons]; omega
    have hc : cutB 1 ((p0 :: p1 :: ps).length : Int) (p0 :: p1 :: ps).length = some () := qd5 (by simp only [List.length_cons]; omega)
    refine ⟨(0,p1 :: ps,ks),?_,fun h => ?_,.inl ⟨fun p hp => List.mem_cons_of_mem _ hp,fun p hp => hp,by simp at h7 ⊢; omega,h18⟩⟩
    ·have e1 : decide (((1 : Nat) : Int) = 0) = false := by decide
     have e2 : decide (((1 : Nat) : Int) = 1) = true := by decide
     rw [e1,e2,decide_eq_true t]
     simp only [cond_true,cond_false]
     rw [hc,Option.bind_some,piece_tl]
    ·have h2 := h.2.1
     simp only [qV4] at h2
     have := (qn0.1 a7).1 p1 (by simp)
     rw [h2] at this
     exact lt_irrefl _ this
  ·obtain ⟨b1,b2,b3⟩ := a4 (by omega)
   have hps : ps = [] := List.length_eq_zero_iff.1 b3
   subst hps
   simp only [fewN,h0,if_false] at hf
   match ks,hf,a8,h18 with
   | [],hf,_,_ => simp at hf
   | [p0],hf,_,_ => simp at hf
   | p0 :: p1 :: ks,hf,a8,h18 =>
    have hc : cutB 1 ((p0 :: p1 :: ks).length : Int) (p0 :: p1 :: ks).length = some () := qd5 (by simp only [List.length_cons]; omega)
    refine ⟨(l,[],p1 :: ks),?_,fun h => ?_,.inl ⟨fun p hp => hp,fun p hp => List.mem_cons_of_mem _ hp,by simp,by simp at h18 ⊢; omega⟩⟩
    ·have e1 : decide (((1 : Nat) : Int) = 0) = false := by decide
     have e2 : decide (((1 : Nat) : Int) = 1) = true := by decide
     have e3 : decide (((([] : List Pr).length : Nat) : Int) > 0) = false := by decide
     rw [e1,e2,e3]
     simp only [cond_true,cond_false]
     rw [hc,Option.bind_some,piece_tl]
    ·have h2 := h.2.1
     simp only [qV4] at h2
     have := (qn0.1 a8).1 p1 (by simp)
     rw [h2] at this
     exact lt_irrefl _ this
 ·have hc1 : cutB 0 (min (ps.length : Int) 2) ps.length = some () := qd5 (by omega)
  have hc2 : cutB 0 (min (ks.length : Int) 8) ks.length = some () := qd5 (by omega)
  have e1 : decide (((2 : Nat) : Int) = 0) = false := by decide
  have e2 : decide (((2 : Nat) : Int) = 1) = false := by decide
  have e3 : decide (((2 : Nat) : Int) = 2) = true := by decide
  rw [e1,e2,e3,hc1,hc2]
  refine ⟨_,rfl,fun h => ?_,.inl ⟨fun p hp => ?_,fun p hp => ?_,?_,?_⟩⟩
  ·refine h.2.2 ?_
   simp only [fewN,qY0]
   split
   ·simp only [List.length_drop,List.length_take]; omega
   ·simp only [List.length_drop,List.length_take]; omega
  ·exact List.mem_of_mem_take (List.mem_of_mem_drop hp)
  ·exact List.mem_of_mem_take (List.mem_of_mem_drop hp)
  ·simp only [qY0,List.length_drop,List.length_take]; omega
  ·simp only [qY0,List.length_drop,List.length_take]; omega
 ·have e1 : decide (((3 : Nat) : Int) = 0) = false := by decide
  have e2 : decide (((3 : Nat) : Int) = 1) = false := by decide
  have e3 : decide (((3 : Nat) : Int) = 2) = false := by decide
  have e4 : decide (((3 : Nat) : Int) = 3) = true := by decide
  rw [e1,e2,e3,e4,hE]
  refine ⟨z.2,rfl,fun h => ?_,.inr ⟨fun p hp => hp,fun p hp => hp,hzl.1,hzl.2⟩⟩
  have := h.1
  simp only at this
  omega
theorem treeSpoilt_true (l : List Cg) (at_ how : Int) (hl : K24s l) : qK1 l at_ how = some true := by
 unfold qK1
 obtain ⟨m0,a1,a2,a3,a4⟩ := new_eq (most := 3000) (by omega)
 rw [shown_eq,a1]
 simp only [Option.bind_some]
 rw [show qr3 l 100 40 = some (fewC l 100 40) from lawfew_eq (most := 100) (bytes := 40) (by omega)]
 simp only [Option.bind_some]
 have hlen := fewC_len l 100 40
 obtain ⟨r,m,c1,b1,b2,b3,b4,b5,b6,b7,_⟩ := apply_eq (l := fewC l 100 40) (r := 0) (q := []) a2 (by omega) (by omega) (.inl ⟨rfl,rfl⟩) (by simp [Rising,Asc]) (fun p hp => by cases hp) (fewC_short l 100) (by simp; omega) (by rw [a3,a4]; simp; omega)
 rw [b1]
 simp only [Option.bind_some,ne_eq,not_true_eq_false,decide_false,cond_false]
 have hql := qH4 ([] : List Pr) (fewC l 100 40)
 simp only [List.length_nil] at hql
 have hr : Rising (qq2 [] (fewC l 100 40)) := qZ0 _ _
 have hs : qt5 (qq2 [] (fewC l 100 40)) := applyP_short (by simp [Rising,Asc]) (fun p hp => by cases hp) (fewC_short l 100)
 have hk : K24s (qq2 [] (fewC l 100 40)) := applyP_k24 (by simp [Rising,Asc]) (fun p hp => by cases hp) (fewC_k24 hl)
 generalize qq2 [] (fewC l 100 40) = q at b2 b7 hql hr hs hk
 by_cases hr0 : r = 0
 ·subst hr0
  rw [qI]
  simp [q11]
 ·obtain ⟨L,hT⟩ := root_tr b2 hr0
  have hL7 := q95 hT (by omega)
  obtain ⟨D,d1,d2,d3⟩ := bfs_loop hT hr0 (by omega)
  have hrne : ¬ r = 0 := hr0
  simp only [ne_eq,hrne,not_false_eq_true,decide_true] at d1 ⊢
  rw [d1]
  simp only [Option.bind_some,Sum.elim_inl]
  have hDn : D.Nodup := d2.nodup_iff.2 (blks_nodup hT hr)
  have hDm : ∀ b,b ∈ D ↔ b ∈ blks L m r := fun b => d2.mem_iff
  have hDl : D.length ≤ 51 := by have := (blks_len hT).1; have := d2.length_eq; omega
  have hnode : ∀ b ∈ D,K24s (ndOf m b).2.1 ∧ K24s (ndOf m b).2.2 ∧ (ndOf m b).2.1.length ≤ 7 ∧ (ndOf m b).2.2.length ≤ 18 := fun b hb => by
   obtain ⟨L',q',t1,_,_,t4⟩ := qX4 hT ((hDm b).1 hb)
   obtain ⟨u1,u2⟩ := node_k24 t1 (fun p hp => hk p (t4 p hp))
   exact ⟨u1,u2,(q05 t1).2.1,(q05 t1).2.2⟩
  have hEl : (D.map (qe4 m)).length ≤ 1000000 := by simp; omega
  have hok : EntOk (D.map (qe4 m)) := fun n x hx => by
   obtain ⟨h1,rfl⟩ := mget_ent_some hx
   obtain ⟨u1,u2,u3,u4⟩ := hnode n h1
   exact ⟨u1,u2,by omega,by omega⟩
  have hrD : r ∈ D := (hDm r).2 (qL2 L m r)
  rw [check_bag hEl hok hr0 (mget_ent hrD),if_pos (tr_rb b4.wf hEl hok (L := L) (g := 16) (by omega) (by omega) hT hr hs (by simp) (fun h => by cases h) (fun b hb => mget_ent ((hDm b).2 hb)))]
  simp only [Option.bind_some,not_true_eq_false,decide_false,cond_false]
  have hml : (D.map (qe4 m)).length = D.length := by simp
  by_cases h2 : D.length < 2
  ·have t : (((D.map (qe4 m)).length : Nat) : Int) < 2 := by omega
   rw [decide_eq_true t]; rfl
  ·have t : ¬ ((((D.map (qe4 m)).length : Nat) : Int) < 2) := by omega
   rw [decide_eq_false t]
   simp only [cond_false]
   have e1 : IntKind.wrap .i64 (((D.map (qe4 m)).length : Int) - 1) = ((D.length - 1 : Nat) : Int) := by rw [w64 (by omega) (by omega)]; omega
   rw [e1]
   obtain ⟨w,hw,hw3⟩ := and_le (a := at_) (b := 65535) (by omega)
   have hw' : q61 .i64 at_ 65535 = (w : Int) := hw
   rw [hw']
   have hne : ¬ (((D.length - 1 : Nat) : Int) = 0) := by omega
   have e2 : Int.tmod (w : Int) ((D.length - 1 : Nat) : Int) = ((w % (D.length - 1) : Nat) : Int) := rfl
   have hmod : w % (D.length - 1) < D.length - 1 := Nat.mod_lt _ (by omega)
   obtain ⟨k,hk1,hk2⟩ : ∃ k,w % (D.length - 1) = k ∧ k < D.length - 1 := ⟨_,rfl,hmod⟩
   rw [e2,hk1]
   have e3 : IntKind.wrap .i64 (1 + (k : Int)) = ((k + 1 : Nat) : Int) := by rw [w64 (by omega) (by omega)]; omega
   rw [e3]
   obtain ⟨A,b',B,hD,hA⟩ : ∃ A b' B,D = A ++ b' :: B ∧ A.length = k + 1 := ⟨D.take (k + 1),D[k + 1],D.drop (k + 2),by simp,by simp; omega⟩
   have hb'D : b' ∈ D := by rw [hD]; simp
   have hb'r : b' ≠ r := fun e => by
    subst e
    match A,hA with
    | x :: A',_ =>
     rw [hD] at d3 hDn
     have : x = b' := by simpa using d3
     subst this
     exact (List.nodup_cons.1 hDn).1 (by simp)
   have hb'b := (hDm b').1 hb'D
   obtain ⟨L',q',t1,t2,t3,t4⟩ := qX4 hT hb'b
   have hLL := t3 hb'r
   have hR : qO3 (ndOf m b') := by
    obtain ⟨L3,q3,u1,u2,u3,u4⟩ := b4.live b' (qg2 t1)
    exact tr_right b4.wf u1 u2 u3 u4
   have hfew := blks_few hT hb'b hb'r
   have g1 : gx (D.map (qe4 m)) ((k + 1 : Nat) : Int) = some (qe4 m b') := by
    rw [hD,List.map_append,List.map_cons]; exact qA1 (by simp [hA])
   have hck : ck (decide (¬ (((D.length - 1 : Nat) : Int) = 0))) = some () := ck_of hne
   have g2 : gx (D.map (qe4 m)) 0 = some (qe4 m r) := by
    match D,d3 with
    | x :: D',d3 =>
     have : x = r := by simpa using d3
     subst this; rfl
   rw [hck,Option.bind_some,g1,Option.bind_some]
   have hrn := hnode r hrD
   obtain ⟨y',y1,y2,y3⟩ := spoil_eq (how := how) hR hfew g2 (by intro h; rw [h] at hml; simp at hml; omega) (by
    have e1 := (q05 t1).1
    have e2 := (q05 hT).1
    show (ndOf m b').1 < (ndOf m r).1
    omega) ⟨hrn.2.2.1,hrn.2.2.2⟩
   simp only [show qe4 m b' = (b',ndOf m b') from rfl]
   rw [y1,Option.bind_some]
   simp only [cond_true]
   have hset : List.set (D.map (qe4 m)) (((k + 1 : Nat) : Int)).toNat (b',y') = ((A ++ b' :: B).map (qe4 m)).set A.length (b',y') := by rw [hD,hA]; rfl
   have hmg := fun b => mget_set (m := m) (y' := y') (hD ▸ hDn) b
   have hEl' : (((A ++ b' :: B).map (qe4 m)).set A.length (b',y')).length ≤ 1000000 := by rw [List.length_set,← hD]; exact hEl
   have hyok : K24s y'.2.1 ∧ K24s y'.2.2 ∧ y'.2.1.length ≤ 1000000 ∧ y'.2.2.length ≤ 1000000 := by
    have hbn := hnode b' hb'D
    rcases y3 with ⟨z1,z2,z3,z4⟩ | ⟨z1,z2,z3,z4⟩
    ·exact ⟨fun p hp => hbn.1 p (z1 p hp),fun p hp => hbn.2.1 p (z2 p hp),by omega,by omega⟩
    ·exact ⟨fun p hp => hrn.1 p (z1 p hp),fun p hp => hrn.2.1 p (z2 p hp),by omega,by omega⟩
   have hok' : EntOk (((A ++ b' :: B).map (qe4 m)).set A.length (b',y')) := fun n x hx => by
    rw [hmg n] at hx
    by_cases e : n = b'
    ·rw [if_pos e] at hx
     have := Option.some.inj hx
     rw [← this]; exact hyok
    ·rw [if_neg e,← hD] at hx
     exact hok n x hx
   have hmr : mget (((A ++ b' :: B).map (qe4 m)).set A.length (b',y')) r = some (ndOf m r) := by
    rw [hmg r,if_neg (fun e => hb'r e.symm),← hD]; exact mget_ent hrD
   have hbad := bad_rb hEl' hok' (b' := b') (y' := y') (by rw [hmg b',if_pos rfl]) y2 (L := L) (g := 16) (t := (List.replicate 24 0,false)) (by omega) hT (by simp) hb'b hb'r (fun b hb hbn => by rw [hmg b,if_neg hbn,← hD]; exact mget_ent ((hDm b).2 hb))
   rw [hset]
   rw [check_bag hEl' hok' hr0 hmr,if_neg hbad]
   rfl
end Go.Val
