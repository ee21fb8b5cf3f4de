/- Scan,over a tree. -/
import Derived.Test.YtfbnhflapgddbaaT1
import Derived.Test.YtfbnhflapgddbaaWi
import Derived.Test.YtfbnhflapgddbaaLd
import Derived.Test.YtfbnhflapgddbaaWj
set_option linter.unusedSectionVars false
set_option linter.unusedVariables false
set_option linter.unusedSimpArgs false
namespace Go.Val
open Go.RowKit Go.Lib
theorem q52 {V O R : Type} {body : V → Option (V ⊕ O)} {f : O → Option R} {Q : Option R → Prop} (J : V → Prop) (μ : V → Nat) (Post : O → Prop) {v : V} (hv : J v)
  (hs : ∀ v,J v → (∃ v',body v = some (.inl v') ∧ J v' ∧ μ v' < μ v) ∨ ∃ o,body v = some (.inr o) ∧ Post o)
  (hp : ∀ o,Post o → Q (f o)) : Q ((qQ body v).bind f) := by
 obtain ⟨o,h1,h2⟩ := qU J μ Post hs hv
 rw [h1]
 exact hp o h2
theorem whileO_is {V O : Type} {body : V → Option (V ⊕ O)} {o : O} (J : V → Prop) (μ : V → Nat) {v : V} (hv : J v)
  (hs : ∀ v,J v → (∃ v',body v = some (.inl v') ∧ J v' ∧ μ v' < μ v) ∨ body v = some (.inr o)) : qQ body v = some o := by
 obtain ⟨o',h1,h2⟩ := qU J μ (fun x => x = o) (fun v hv => (hs v hv).imp id fun h => ⟨o,h,rfl⟩) hv
 rw [h1,h2]
theorem whileO_ex {V O : Type} {body : V → Option (V ⊕ O)} {Post : O → Prop} (J : V → Prop) (μ : V → Nat) {v : V} (hv : J v)
  (hs : ∀ v,J v → (∃ v',body v = some (.inl v') ∧ J v' ∧ μ v' < μ v) ∨ ∃ o,body v = some (.inr o) ∧ Post o) : ∃ o,qQ body v = some o ∧ Post o :=
 qU J μ Post hs hv
theorem cmp_eq (a b : Ky) : qv a b = some (compareBytes a b) := by simp [qv,qV]
theorem filter_none {s : Spn} {q : List Pr} (h : ∀ x ∈ q,inT s x.1 = false) : (q.filter fun p => inT s p.1) = [] := by
 refine List.filter_eq_nil_iff.2 fun x hx => ?_
 rw [h x hx]; simp
theorem inT_low {s : Spn} {k : Ky} (h : Lt k s.1) : inT s k = false := by
 unfold inT Lt at *
 have : ¬ compareBytes k s.1 ≥ 0 := by omega
 simp [this]
theorem inT_high {s : Spn} {k : Ky} (he : s.2.2 = false) (h : ¬ Lt k s.2.1) : inT s k = false := by
 unfold inT Lt at *
 simp [he,h]
theorem scan_n {K : Int} {m : Mem} {s : Spn} (hw : WfM K m) : ∀ (fuel L : Nat) {n : Int} {q : List Pr},L < fuel → Tr m L n q → Rising q → q.length ≤ 1000000 →
  qI1 fuel m n s = some (q.filter fun p => inT s p.1,0,m) := by
 intro fuel
 induction fuel with
 | zero => intro L n q h; omega
 | succ fuel ih =>
  intro L n q hL hT hq hn
  have hc := qN4 (qr2 hT)
  have hp := hw.pos n _ hc.2
  have n0 : ¬ n = 0 := by omega
  have hg := tr_get hT
  have hnd := tr_nd hT
  rw [qI1]
  unfold qT1
  rw [hg]
  simp only [n0,decide_false,cond_false,Option.bind_some,ne_eq,not_true_eq_false]
  rw [scan_leaf (by omega)]
  simp only [Option.bind_some]
  match L,hT with
  | 0,hT =>
   rw [Tr] at hT
   rw [hT.2.1]
   rw [qR]
   simp
  | L + 1,hT =>
   rw [Tr] at hT
   obtain ⟨_,ks,h1,h2,h3,qs,h4,h5⟩ := hT
   rw [h1]
   simp only [List.filter_nil]
   have hqf : Rising qs.flatten := h4 ▸ hq
   refine q52 (Q := fun o => o = some (q.filter fun p => inT s p.1,0,m)) (fun v => ∃ D Z QD QZ,ks = D ++ Z ∧ qs = QD ++ QZ ∧ F2 (fun k q => Tr m L k.2 q ∧ ¬ fewN (ndOf m k.2) ∧ hd q = some k.1) Z QZ ∧ v = ((D.length : Int),m,QD.flatten.filter fun p => inT s p.1))
    (fun v => ((ks.length : Int) - v.1).toNat) (fun o => o = .inl (m,q.filter fun p => inT s p.1)) ⟨[],ks,[],qs,rfl,rfl,h5,rfl⟩ ?_ ?_
   ·rintro v ⟨D,Z,QD,QZ,e1,e2,e3,rfl⟩
    have hl : ks.length = D.length + Z.length := by rw [e1]; simp
    cases e3 with
    | nil =>
     right
     have t : ¬ ((D.length : Int) < (ks.length : Int)) := by simp at hl; omega
     refine ⟨.inl (m,q.filter fun p => inT s p.1),?_,rfl⟩
     simp only [t,decide_false,cond_false]
     rw [← h4,e2]; simp
    | @cons z qz Z' QZ' hz hzs =>
     left
     simp only [List.length_cons] at hl
     have t : ((D.length : Int) < (ks.length : Int)) := by omega
     have g0 : gx ks (D.length : Int) = some z := by rw [e1]; exact qJ1 rfl
     have w1 : IntKind.wrap .i64 ((D.length : Int) + 1) = (D.length : Int) + 1 := w64 (by omega) (by omega)
     rw [e2,List.flatten_append,List.flatten_cons] at hqf
     obtain ⟨r1,r2,r3⟩ := qI.1 hqf
     obtain ⟨r4,r5,r6⟩ := qI.1 r2
     have lq : qs.flatten.length = q.length := by rw [h4]
     have lq' : QD.flatten.length + qz.length ≤ q.length := by rw [← lq,e2]; simp
     have fl1 := List.length_filter_le (fun p : Pr => inT s p.1) QD.flatten
     have fl2 := List.length_filter_le (fun p : Pr => inT s p.1) qz
     refine ⟨((D.length : Int) + 1,m,(QD ++ [qz]).flatten.filter fun p => inT s p.1),?_,⟨D ++ [z],Z',QD ++ [qz],QZ',by simp [e1],by simp [e2],hzs,by simp⟩,by simp; omega⟩
     simp only [t,decide_true,cond_true,w1]
     have hbe : ∃ bh,((cond (decide ((D.length : Int) + 1 < (ks.length : Int))) (
         (gx ks ((D.length : Int) + 1)).bind fun x1100 =>
         (qv x1100.1 s.1).bind fun x1103 =>
         some (decide (x1103 ≤ 0))
        ) (
         some false
        )) : Option Bool) = some bh ∧ (bh = true → ∀ x ∈ qz,inT s x.1 = false) := by
      cases hzs with
      | nil =>
       have t2 : ¬ ((D.length : Int) + 1 < (ks.length : Int)) := by simp at hl; omega
       exact ⟨false,by simp only [t2,decide_false,cond_false],fun h => by cases h⟩
      | @cons y qy Z2 QZ2 hy hys =>
       simp only [List.length_cons] at hl
       have t2 : ((D.length : Int) + 1 < (ks.length : Int)) := by omega
       have g1 : gx ks ((D.length : Int) + 1) = some y := by
        rw [e1,show D ++ z :: y :: Z2 = (D ++ [z]) ++ y :: Z2 by simp]; exact qJ1 (by simp)
       refine ⟨decide (compareBytes y.1 s.1 ≤ 0),by simp only [t2,decide_true,cond_true,g1,Option.bind_some,cmp_eq],fun h x hx => ?_⟩
       have h' := of_decide_eq_true h
       obtain ⟨b,hb,eb⟩ := hd_mem hy.2.2
       have := r6 x hx b (by simp [hb])
       rw [eb] at this
       exact inT_low (cb_lt_le this h')
     obtain ⟨bh,b1,b2⟩ := hbe
     rw [b1]
     simp only [Option.bind_some]
     have hah : ∃ ah,((cond (!s.2.2) (
         (gx ks (D.length : Int)).bind fun x1121 =>
         (qv x1121.1 s.2.1).bind fun x1124 =>
         some (decide (x1124 ≥ 0))
        ) (
         some false
        )) : Option Bool) = some ah ∧ (ah = true → ∀ x ∈ qz,inT s x.1 = false) := by
      cases hs : s.2.2 with
      | true => exact ⟨false,rfl,fun h => by cases h⟩
      | false =>
       refine ⟨decide (compareBytes z.1 s.2.1 ≥ 0),by simp only [Bool.not_false,cond_true,g0,Option.bind_some,cmp_eq],fun h x hx => ?_⟩
       have h' := of_decide_eq_true h
       refine inT_high hs fun hl => ?_
       rcases hd_le hz.2.2 r4 x hx with e | e
       ·rw [e] at hl; unfold Lt at hl; omega
       ·have := lt_trans e hl; unfold Lt at this; omega
     obtain ⟨ah,a1,a2⟩ := hah
     rw [a1]
     simp only [Option.bind_some]
     have hor : (cond bh (some true) (some ah) : Option Bool) = some (bh || ah) := by cases bh <;> rfl
     rw [hor]
     simp only [Option.bind_some]
     have e0 : ((QD ++ [qz]).flatten.filter fun p => inT s p.1) = (QD.flatten.filter fun p => inT s p.1) ++ qz.filter fun p => inT s p.1 := by simp
     rw [e0]
     cases hb : (bh || ah) with
     | true =>
      have : (qz.filter fun p => inT s p.1) = [] := filter_none (by
       rcases Bool.or_eq_true _ _ |>.mp hb with h | h
       ·exact b2 h
       ·exact a2 h)
      rw [this]
      simp
     | false =>
      simp only [cond_false,g0,Option.bind_some]
      rw [ih L (by omega) hz.1 r4 (by omega)]
      simp only [Option.bind_some,not_true_eq_false,decide_false,cond_false]
      rw [qu1 (by omega)]
      rfl
   ·rintro o rfl
    rfl
theorem scan_eq {K : Int} {m : Mem} {s : Spn} (hw : WfM K m) {L : Nat} {n : Int} {q : List Pr} (hL : L < 16) (h : Tr m L n q) (hq : Rising q) (hn : q.length ≤ 1000000) : q64 m n s = some (q.filter fun p => inT s p.1,0,m) :=
 scan_n hw 16 L hL h hq hn
end Go.Val
namespace Go.Val
open Go.RowKit Go.Lib
abbrev KidR (m : Mem) (L : Nat) (k : Kd) (q : List Pr) : Prop := Tr m L k.2 q ∧ ¬ fewN (ndOf m k.2) ∧ hd q = some k.1
def qi5 (q : List Pr) : Prop := ∀ p ∈ q,p.2.size ≤ 40
theorem qq4 {K : Int} {m : Mem} {n : Int} (hw : WfM K m) (h : cnt m n ≠ 0) : 1 ≤ cnt m n ∧ cnt m n ≤ K ∧ 2 ≤ n ∧ n < m.1.1 := hw.pos n _ (qN4 h).2
theorem kids_ok {K : Int} {m : Mem} (hw : WfM K m) {L : Nat} : ∀ {ks : List Kd} {qs : List (List Pr)},F2 (KidR m L) ks qs → Rising qs.flatten → qf5 ks
 | _,_,.nil,_ => ⟨by simp,by simp⟩
 | _,_,.cons (a := k) (b := q) (l := ks) (r := qs) h hs,hr => by
  rw [List.flatten_cons] at hr
  obtain ⟨r1,r2,r3⟩ := qI.1 hr
  obtain ⟨i1,i2⟩ := kids_ok hw hs r2
  have hp := qq4 hw (qr2 h.1)
  have hb := hw.blk
  refine ⟨fun k' hk' => ?_,?_⟩
  ·rcases List.mem_cons.1 hk' with rfl | hk'
   ·exact ⟨hp.2.2.1,by omega⟩
   ·exact i1 k' hk'
  ·rw [List.map_cons,List.nodup_cons]
   refine ⟨fun hm => ?_,i2⟩
   obtain ⟨k',hk',e⟩ := List.mem_map.1 hm
   obtain ⟨q',hq',hR⟩ := hs.mem k' hk'
   have e2 : q' = q := by
    have := hR.1
    rw [e] at this
    exact tr_unique this h.1
   obtain ⟨x,hx,_⟩ := hd_mem h.2.2
   exact lt_irrefl _ (r3 x hx x (List.mem_flatten.2 ⟨q',hq',by rw [e2]; exact hx⟩))
theorem right_inner {K : Int} {m : Mem} (hw : WfM K m) {L : Nat} {ks : List Kd} {qs : List (List Pr)} (hL : L + 1 < 12) (h2 : 2 ≤ ks.length) (h18 : ks.length ≤ 18) (h : F2 (KidR m L) ks qs) (hr : Rising qs.flatten) : qO4 (((L + 1 : Nat) : Int),[],ks) := by
 refine ⟨by simp only; omega,by simp only; omega,fun h0 => ?_,fun _ => ⟨h2,h18,rfl⟩,by simp,kids_ok hw h hr,by simp [Rising,Asc],qW4 (fun k q hk => hk.2.2) h hr⟩
 have h0' : ((L + 1 : Nat) : Int) = 0 := h0
 omega
theorem right_leaf {q : List Pr} (h1 : 1 ≤ q.length) (h7 : q.length ≤ 7) (hr : Rising q) (hs : qi5 q) : qO4 (0,q,[]) :=
 ⟨by simp,by simp,fun _ => ⟨h1,h7,rfl⟩,fun h => by simp at h,hs,⟨by simp,by simp⟩,hr,by simp [Rising,Asc]⟩
theorem tr_right {K : Int} {m : Mem} (hw : WfM K m) : ∀ {L : Nat} {n : Int} {q : List Pr},L < 12 → Tr m L n q → Rising q → qi5 q → qO4 (ndOf m n)
 | 0,n,q,_,h,hr,hs => by
  rw [Tr] at h
  rw [h.2.1]
  exact right_leaf h.2.2.1 h.2.2.2 hr hs
 | L + 1,n,q,hL,h,hr,hs => by
  rw [Tr] at h
  obtain ⟨_,ks,h1,h2,h3,qs,h4,h5⟩ := h
  rw [h1]
  exact right_inner hw hL h2 h3 h5 (h4 ▸ hr)
theorem rightB {x : Nd} (h : qO4 x) : qk1 x = some true := by
 have h1 : x.2.1.length ≤ 1000000000 := by
  obtain ⟨a,b,c,d,_⟩ := h
  by_cases e : x.1 = 0
  ·have := c e; omega
  ·have := d (by omega); omega
 have h2 : x.2.2.length ≤ 1000000000 := by
  obtain ⟨a,b,c,d,_⟩ := h
  by_cases e : x.1 = 0
  ·have := c e; omega
  ·have := d (by omega); omega
 obtain ⟨b,e1,e2⟩ := right_eq h1 h2
 rw [e1,e2.2 h]
theorem tr_level {m : Mem} {L : Nat} {n : Int} {q : List Pr} (h : Tr m L n q) (hn : q.length ≤ 1000000) : L < 7 := by
 match L,h with
 | 0,_ => omega
 | L + 1,h =>
  rw [Tr] at h
  obtain ⟨_,ks,h1,h2,h3,qs,h4,h5⟩ := h
  have := flat_size (R := KidR m L) (c := 3 * 9 ^ L) (fun k q hk => tr_size hk.1 hk.2.1) h5
  rw [h4] at this
  have h2' : 2 * (3 * 9 ^ L) ≤ ks.length * (3 * 9 ^ L) := Nat.mul_le_mul_right _ h2
  refine Nat.lt_of_not_le fun h6 => ?_
  have h9 : 9 ^ 6 ≤ 9 ^ L := Nat.pow_le_pow_right (by omega) (by omega)
  have : (9 : Nat) ^ 6 = 531441 := by decide
  omega
instance (x : Nd) : Decidable (fewN x) := by
 unfold fewN
 split <;> infer_instance
theorem few_nd (x : Nd) : qm3 x = some (decide (fewN x)) := by
 obtain ⟨l,ps,ks⟩ := x
 unfold qm3 fewN
 by_cases h : l = 0
 ·simp [h]
  constructor <;> intro <;> omega
 ·simp [h]
  constructor <;> intro <;> omega
theorem first_tr {m : Mem} : ∀ {L : Nat} {n : Int} {q : List Pr} {k : Ky},Tr m L n q → hd q = some k → qU0 (ndOf m n) = some k
 | 0,n,q,k,h,hk => by
  rw [Tr] at h
  rw [h.2.1]
  match q,hk with
  | x :: q,hk =>
   have e : x.1 = k := by simpa [hd] using hk
   unfold qU0
   rw [show gx (x :: q) 0 = some x from rfl]
   simp [e]
 | L + 1,n,q,k,h,hk => by
  rw [Tr] at h
  obtain ⟨_,ks,h1,h2,h3,qs,h4,h5⟩ := h
  rw [h1]
  match ks,qs,h5 with
  | k0 :: ks,q0 :: qs,.cons h h5 =>
   have e : k0.1 = k := by
    rw [← h4,List.flatten_cons,hd_app (hd_ne h.2.2),h.2.2] at hk
    exact Option.some.inj hk
   unfold qU0
   rw [show gx (k0 :: ks) 0 = some k0 from rfl]
   simp [e]
theorem check_n {K : Int} {m : Mem} (hw : WfM K m) : ∀ (fuel L : Nat) {n : Int} {q : List Pr} {t : Ky × Bool},L < fuel → L < 12 → Tr m L n q → Rising q → qi5 q → (t.2 = true → ∀ x ∈ q,Lt x.1 t.1) →
  qs1 fuel m (ndOf m n) t = some (0,m) := by
 intro fuel
 induction fuel with
 | zero => intro L n q t h; omega
 | succ fuel ih =>
  intro L n q t hL h12 hT hr hs ht
  have hR := tr_right hw h12 hT hr hs
  rw [qs1]
  unfold qy1
  rw [rightB hR]
  simp only [Option.bind_some,Bool.not_true,cond_false]
  have hlast : ∃ k,((cond (decide ((ndOf m n).1 = 0)) (
    (gx (ndOf m n).2.1 (IntKind.wrap .i64 (((ndOf m n).2.1.length : Int) - 1))).bind fun x22 =>
    some x22.1
   ) (
    (gx (ndOf m n).2.2 (IntKind.wrap .i64 (((ndOf m n).2.2.length : Int) - 1))).bind fun x25 =>
    some x25.1
   )) : Option (List UInt8)) = some k ∧ ∃ x ∈ q,x.1 = k := by
   match L,hT with
   | 0,hT =>
    rw [Tr] at hT
    rw [hT.2.1]
    rcases qD0 q with rfl | ⟨D,z,rfl⟩
    ·simp at hT
    ·refine ⟨z.1,?_,z,by simp,rfl⟩
     have hl7 := hT.2.2.2
     simp only [List.length_append,List.length_cons,List.length_nil] at hl7
     have e : IntKind.wrap .i64 (((D ++ [z]).length : Int) - 1) = (D.length : Int) := by
      rw [w64 (by simp <;> omega) (by simp <;> omega)]; simp
     simp only [decide_true,cond_true]
     rw [e,show gx (D ++ [z]) (D.length : Int) = some z from qJ1 rfl]
     rfl
   | L + 1,hT =>
    rw [Tr] at hT
    obtain ⟨_,ks,h1,h2,h3,qs,h4,h5⟩ := hT
    rw [h1]
    rcases qD0 ks with rfl | ⟨D,z,rfl⟩
    ·simp at h2
    ·have h0 : ¬ ((L + 1 : Nat) : Int) = 0 := by omega
     simp only [List.length_append,List.length_cons,List.length_nil] at h3
     have e : IntKind.wrap .i64 (((D ++ [z]).length : Int) - 1) = (D.length : Int) := by
      rw [w64 (by simp <;> omega) (by simp <;> omega)]; simp
     obtain ⟨q',hq',hR'⟩ := h5.mem z (by simp)
     obtain ⟨x,hx,ex⟩ := hd_mem hR'.2.2
     refine ⟨z.1,?_,x,by rw [← h4]; exact List.mem_flatten.2 ⟨q',hq',hx⟩,ex⟩
     simp only [h0,decide_false,cond_false]
     rw [e,show gx (D ++ [z]) (D.length : Int) = some z from qJ1 rfl]
     rfl
  obtain ⟨k,k1,x,hx,ex⟩ := hlast
  rw [k1]
  simp only [Option.bind_some]
  have hb : ((cond t.2 (
    (qv k t.1).bind fun x40 =>
    some (decide (x40 ≥ 0))
   ) (
    some false
   )) : Option Bool) = some false := by
   cases h : t.2 with
   | false => rfl
   | true =>
    have := ht h x hx
    rw [ex] at this
    unfold Lt at this
    have h' : ¬ (compareBytes k t.1 ≥ 0) := by omega
    simp only [cond_true,cmp_eq,Option.bind_some,h',decide_false]
  rw [hb]
  simp only [Option.bind_some,cond_false]
  match L,hT with
  | 0,hT =>
   rw [Tr] at hT
   rw [hT.2.1,qR]
   simp
  | L + 1,hT =>
   rw [Tr] at hT
   obtain ⟨_,ks,h1,h2,h3,qs,h4,h5⟩ := hT
   rw [h1]
   have hqf : Rising qs.flatten := h4 ▸ hr
   refine q52 (Q := fun o => o = some (0,m)) (fun v => ∃ D Z QD QZ,ks = D ++ Z ∧ qs = QD ++ QZ ∧ F2 (KidR m L) Z QZ ∧ v = ((D.length : Int),m))
    (fun v => ((ks.length : Int) - v.1).toNat) (fun o => o = .inl m) ⟨[],ks,[],qs,rfl,rfl,h5,rfl⟩ ?_ ?_
   ·rintro v ⟨D,Z,QD,QZ,e1,e2,e3,rfl⟩
    have hl : ks.length = D.length + Z.length := by rw [e1]; simp
    cases e3 with
    | nil =>
     right
     have t : ¬ ((D.length : Int) < (ks.length : Int)) := by simp at hl; omega
     exact ⟨.inl m,by simp only [t,decide_false,cond_false],rfl⟩
    | @cons z qz Z' QZ' hz hzs =>
     left
     simp only [List.length_cons] at hl
     have tt : ((D.length : Int) < (ks.length : Int)) := by omega
     have g0 : gx ks (D.length : Int) = some z := by rw [e1]; exact qJ1 rfl
     have w1 : IntKind.wrap .i64 ((D.length : Int) + 1) = (D.length : Int) + 1 := w64 (by omega) (by omega)
     have w2 : IntKind.wrap .i64 (((L + 1 : Nat) : Int) - 1) = (L : Int) := by rw [w64 (by omega) (by omega)]; omega
     rw [e2,List.flatten_append,List.flatten_cons] at hqf
     obtain ⟨r1,r2,r3⟩ := qI.1 hqf
     obtain ⟨r4,r5,r6⟩ := qI.1 r2
     refine ⟨((D.length : Int) + 1,m),?_,⟨D ++ [z],Z',QD ++ [qz],QZ',by simp [e1],by simp [e2],hzs,by simp⟩,by simp; omega⟩
     simp only [tt,decide_true,cond_true,w1,g0,Option.bind_some,tr_get hz.1,ne_eq,not_true_eq_false,decide_false,cond_false]
     have hsub : ∀ x ∈ qz,x ∈ q := fun x hx => by rw [← h4,e2]; simp [hx]
     have hnx : ∃ t',((cond (decide ((D.length : Int) + 1 < (ks.length : Int))) (
         (gx ks ((D.length : Int) + 1)).bind fun x439 =>
         some (x439.1,true)
        ) (
         some t
        )) : Option ((List UInt8) × Bool)) = some t' ∧ (t'.2 = true → ∀ x ∈ qz,Lt x.1 t'.1) := by
      cases hzs with
      | nil =>
       have t2 : ¬ ((D.length : Int) + 1 < (ks.length : Int)) := by simp at hl; omega
       exact ⟨t,by simp only [t2,decide_false,cond_false],fun h x hx => ht h x (hsub x hx)⟩
      | @cons y qy Z2 QZ2 hy hys =>
       simp only [List.length_cons] at hl
       have t2 : ((D.length : Int) + 1 < (ks.length : Int)) := by omega
       have g1 : gx ks ((D.length : Int) + 1) = some y := by
        rw [e1,show D ++ z :: y :: Z2 = (D ++ [z]) ++ y :: Z2 by simp]; exact qJ1 (by simp)
       refine ⟨(y.1,true),by simp only [t2,decide_true,cond_true,g1,Option.bind_some],fun h x hx => ?_⟩
       obtain ⟨b,hb,eb⟩ := hd_mem hy.2.2
       have := r6 x hx b (by simp [hb])
       rw [eb] at this
       exact this
     obtain ⟨t',n1,n2⟩ := hnx
     rw [n1]
     simp only [Option.bind_some,w2,(tr_nd hz.1).1,not_true_eq_false,decide_false,cond_false,first_tr hz.1 hz.2.2,decide_true,Bool.not_true,few_nd,hz.2.1]
     rw [ih L (by omega) (by omega) hz.1 r4 (fun x hx => hs x (hsub x hx)) n2]
     rfl
   ·rintro o rfl
    rfl
theorem check_eq {K : Int} {m : Mem} (hw : WfM K m) {L : Nat} {n : Int} {q : List Pr} (h : Tr m L n q) (hr : Rising q) (hs : qi5 q) (hn : q.length ≤ 1000000) : q82 m n = some (0,m) := by
 have hp := qq4 hw (qr2 h)
 have n0 : ¬ n = 0 := by omega
 have hL := tr_level h hn
 unfold q82 qi3
 simp only [n0,decide_false,cond_false,tr_get h,Option.bind_some,ne_eq,not_true_eq_false]
 rw [check_n hw 16 L (by omega) (by omega) h hr hs (fun h => by cases h)]
 rfl
end Go.Val
namespace Go.Val
open Go.RowKit Go.Lib
def used (m : Mem) : Nat := m.1.2.1.length
def Live (m : Mem) : Prop := ∀ n,cnt m n ≠ 0 → ∃ L q,L < 12 ∧ Tr m L n q ∧ Rising q ∧ qi5 q
structure StM (K : Nat) (m : Mem) (R : List Int) : Prop where
 wf : WfM (K : Int) m
 live : Live m
 rc : RC m R
structure Wr (K : Nat) (m : Mem) (d R : List Int) (L : Nat) (p : Pt) (q : List Pr) (n : Int) (d' : List Int) (m' : Mem) (c : Nat) : Prop where
 tr : Tr m' L n q
 grow : Grow m m'
 st : StM (K + c) m' (R ++ [n])
 blk : m'.1.1 = m.1.1
 used : used m' = used m + frs L p
 dlen : d'.length = d.length + c
 fr : frs L p ≤ c
 c1 : 2 * c ≤ q.length + 1
 c2 : ¬ fewP p → ¬ fewN (ndOf m' n) ∧ 2 * c + 1 ≤ q.length
theorem WfM.mono {K K' : Int} {m : Mem} (h : WfM K m) (hK : K ≤ K') : WfM K' m := ⟨h.blk,h.low,h.full,h.nodup,fun n c hc => by
 obtain ⟨a,b,c,d⟩ := h.pos n c hc
 exact ⟨a,by omega,c,d⟩⟩
theorem live_grow {m m' : Mem} (h : Live m) (hg : Grow m m') (hn : ∀ n,cnt m' n ≠ 0 → cnt m n = 0 → ∃ L q,L < 12 ∧ Tr m' L n q ∧ Rising q ∧ qi5 q) : Live m' := fun n hc => by
 by_cases h0 : cnt m n = 0
 ·exact hn n hc h0
 ·obtain ⟨L,q,a,b,c⟩ := h n h0
  exact ⟨L,q,a,Tr.ext hg b,c⟩
theorem tr_rising_level {m : Mem} {L : Nat} {n : Int} {q : List Pr} (h : Tr m L n q) (hn : q.length ≤ 1000000) : L < 12 := by
 have := tr_level h hn
 omega
theorem inc_st {K : Nat} {m : Mem} {R : List Int} {b : Int} (h : StM K m R) (hK : K ≤ 1000000000000) (hb : cnt m b ≠ 0) :
  qx0 m b = some (0,incM m b) ∧ StM (K + 1) (incM m b) (R ++ [b]) ∧ Grow m (incM m b) ∧ (incM m b).1.1 = m.1.1 ∧ used (incM m b) = used m := by
 obtain ⟨e1,e2⟩ := inc_eq h.wf (by omega) hb
 have hg : Grow m (incM m b) := ext_inc hb (qq4 h.wf hb).1
 refine ⟨e1,⟨e2.mono (by omega),live_grow h.live hg fun n hc h0 => ?_,rc_inc h.rc hb⟩,hg,rfl,mset_len (qN4 hb).1⟩
 rw [cnt_inc] at hc
 by_cases e : n = b
 ·exact absurd h0 (e ▸ hb)
 ·rw [if_neg e] at hc; exact absurd h0 hc
theorem put_st {K : Nat} {m : Mem} {R : List Int} {x : Nd} (h : StM K m (R ++ qr3 x)) (hK : 1 ≤ K) (hx : qO4 x) (h1 : x.2.1.length ≤ 1000000000) (h2 : x.2.2.length ≤ 1000000000) (hf : (used m : Int) < m.1.1 - 2)
  {L : Nat} {q : List Pr} (hT : ∀ m' n,Grow m m' → cnt m' n ≠ 0 → ndOf m' n = x → Tr m' L n q) (hL : L < 12) (hr : Rising q) (hs : qi5 q) :
  ∃ n m',qT0 m x = some (n,0,m') ∧ Tr m' L n q ∧ ndOf m' n = x ∧ StM K m' (R ++ [n]) ∧ Grow m m' ∧ m'.1.1 = m.1.1 ∧ used m' = used m + 1 ∧ cnt m n = 0 := by
 obtain ⟨n,e1,e2,e3,e4,e5⟩ := put_eq h.wf (by omega) hx h1 h2 hf
 have hg : Grow m (putM m n x) := ext_put e2
 have hn : ndOf (putM m n x) n = x := by rw [nd_put,if_pos rfl]
 have hc : cnt (putM m n x) n ≠ 0 := by rw [cnt_put,if_pos rfl]; omega
 have ht := hT _ n hg hc hn
 refine ⟨n,putM m n x,e1,ht,hn,⟨e5,live_grow h.live hg fun k hk h0 => ?_,rc_put h.wf h.rc e2⟩,hg,rfl,mset_len_new (cnt_not h.wf e2),e2⟩
 by_cases e : k = n
 ·subst e; exact ⟨L,q,hL,ht,hr,hs⟩
 ·rw [cnt_put,if_neg e] at hk; exact absurd h0 hk
theorem ptOk_none {m : Mem} {L : Nat} {k : Ky} {b : Int} {q : List Pr} (h : PtOk m L (k,b,none) q) : Tr m L b q ∧ ¬ fewN (ndOf m b) ∧ hd q = some k := by
 match L,h with
 | 0,h => rw [PtOk] at h; exact h
 | L + 1,h => rw [PtOk] at h; exact h
theorem F2.snoc {α β : Type} {R : α → β → Prop} {l : List α} {r : List β} {a : α} {b : β} (h : F2 R l r) (k : R a b) : F2 R (l ++ [a]) (r ++ [b]) := h.app (.cons k .nil)
theorem kidR_grow {m m' : Mem} (hg : Grow m m') {L : Nat} {k : Kd} {q : List Pr} (h : KidR m L k q) : KidR m' L k q := by
 obtain ⟨_,g2⟩ := hg k.2 (qr2 h.1)
 exact ⟨Tr.ext hg h.1,by rw [g2]; exact h.2.1,h.2.2⟩
def NotOne (p : Pt) : Prop := ∀ l ps ks,p.2.2 = some (.mk l ps ks) → ks.length ≠ 1
theorem notFew_notOne {m : Mem} : ∀ {L : Nat} {p : Pt} {q : List Pr},PtOk m L p q → ¬ fewP p → NotOne p
 | 0,(k,b,none),q,h,_ => fun l ps ks e => by cases e
 | L + 1,(k,b,none),q,h,_ => fun l ps ks e => by cases e
 | 0,(k,b,some (.mk l ps ks)),q,h,hf => fun l' ps' ks' e => by
  rw [PtOk] at h
  simp only [Option.some.injEq,Fr.mk.injEq] at e
  rw [← e.2.2,h.2.1]; simp
 | L + 1,(k,b,some (.mk l ps ks)),q,h,hf => fun l' ps' ks' e => by
  rw [PtOk] at h
  have h0 : ¬ (l = 0) := by omega
  simp only [fewP,h0,if_false] at hf
  simp only [Option.some.injEq,Fr.mk.injEq] at e
  rw [← e.2.2]; omega
theorem write_n : ∀ (fuel L : Nat) {K : Nat} {m : Mem} {d R : List Int} {p : Pt} {q : List Pr},L < fuel → L < 12 → PtOk m L p q → NotOne p → StM K m R → 1 ≤ K → K + q.length ≤ 1000000000000 → d.length + q.length ≤ 1000000000 →
  (used m : Int) + q.length ≤ m.1.1 - 2 → Rising q → qi5 q →
  ∃ n d' m' c,qo0 fuel d p m = some (n,0,d',m') ∧ Wr K m d R L p q n d' m' c := by
 intro fuel
 induction fuel with
 | zero => intro L K m d R p q h; omega
 | succ fuel ih =>
  intro L K m d R p q hL h12 hp h1 hst hK hKq hd hroom hr hs
  rw [qo0]
  unfold qE0
  obtain ⟨k,b,f⟩ := p
  match f with
  | none =>
   obtain ⟨t1,t2,t3⟩ := ptOk_none hp
   obtain ⟨i1,i2,i3,i4,i5⟩ := inc_st hst (by omega) (qr2 t1)
   have hq := tr_size t1 t2
   have h9 : 1 ≤ 9 ^ L := Nat.one_le_pow _ _ (by omega)
   refine ⟨b,d ++ [b],incM m b,1,?_,⟨Tr.ext i3 t1,i3,i2,i4,by rw [i5,frs_none]; rfl,by simp,by rw [frs_none]; omega,by omega,fun _ => ⟨?_,by omega⟩⟩⟩
   ·simp only [Option.isNone_none,cond_true]
    rw [i1]
    simp only [Option.bind_some,decide_true,cond_true]
    rw [qu1 (by simp; omega)]
    rfl
   ·rw [(i3 b (qr2 t1)).2]; exact t2
  | some (.mk l ps ks) =>
   simp only [Option.isNone_some,cond_false,frOf,Option.bind_some]
   match L,hp with
   | 0,hp =>
    rw [PtOk] at hp
    obtain ⟨rfl,rfl,rfl,a1,a2,a3⟩ := hp
    rw [qR]
    obtain ⟨n,m',e1,e2,e3,e4,e5,e6,e7,e8⟩ := put_st (x := (0,ps,[])) (R := R) (K := K) (by simpa [qr3] using hst) hK (right_leaf a1 a2 hr hs) (by simp only; omega) (by simp) (by omega) (L := 0) (q := ps)
     (fun m' n hg hc hn => by rw [Tr]; exact ⟨hc,hn,a1,a2⟩) (by omega) hr hs
    refine ⟨n,d ++ [n],m',1,?_,⟨e2,e5,⟨e4.wf.mono (by omega),e4.live,e4.rc⟩,e6,by rw [e7,frs],by simp,by rw [frs]; omega,by omega,fun hf => ?_⟩⟩
    ·have : ¬ ((0 : Int) < ((([] : List Pt).length : Nat) : Int)) := by simp
     simp only [this,decide_false,cond_false,Option.bind_some,Sum.elim_inl]
     rw [e1]
     simp only [Option.bind_some,decide_true,cond_true]
     rw [qu1 (by simp; omega)]
     rfl
    ·simp [fewP] at hf
     rw [e3]
     refine ⟨?_,by omega⟩
     simp [fewN]; omega
   | L + 1,hp =>
    rw [PtOk] at hp
    obtain ⟨rfl,rfl,a1,a2,a3,qs,a4,a5,a6⟩ := hp
    have hk1 : ks.length ≠ 1 := h1 _ _ _ rfl
    have a6' := a6 (by omega)
    have hrf : Rising qs.flatten := a4 ▸ hr
    refine q52 (Q := fun o => ∃ n d' m' c,o = some (n,0,d',m') ∧ Wr K m d R (L + 1) (k,b,some (.mk ((L + 1 : Nat) : Int) [] ks)) q n d' m' c)
     (fun v => ∃ D Z QD QZ c,∃ (d1 : List Int) (m1 : Mem) (kds : List Kd),ks = D ++ Z ∧ qs = QD ++ QZ ∧ F2 (PtOk m1 L) Z QZ ∧ v = ((D.length : Int),d1,m1,(((L + 1 : Nat) : Int),[],kds)) ∧ F2 (KidR m1 L) kds QD ∧ kds.length = D.length ∧
      Grow m m1 ∧ StM (K + c) m1 (R ++ kds.map (·.2)) ∧ m1.1.1 = m.1.1 ∧ used m1 = used m + (D.map (frs L)).sum ∧ d1.length = d.length + c ∧ (D.map (frs L)).sum ≤ c ∧ 2 * c + D.length ≤ QD.flatten.length)
     (fun v => ((ks.length : Int) - v.1).toNat)
     (fun o => ∃ c,∃ (d1 : List Int) (m1 : Mem) (kds : List Kd),o = .inl (d1,m1,(((L + 1 : Nat) : Int),[],kds)) ∧ F2 (KidR m1 L) kds qs ∧ kds.length = ks.length ∧
      Grow m m1 ∧ StM (K + c) m1 (R ++ kds.map (·.2)) ∧ m1.1.1 = m.1.1 ∧ used m1 = used m + (ks.map (frs L)).sum ∧ d1.length = d.length + c ∧ (ks.map (frs L)).sum ≤ c ∧ 2 * c + ks.length ≤ qs.flatten.length)
     ⟨[],ks,[],qs,0,d,m,[],rfl,rfl,a5,rfl,.nil,rfl,Grow.refl m,by simpa using hst,rfl,by simp,by simp,by simp,by simp⟩ ?_ ?_
    ·rintro v ⟨D,Z,QD,QZ,c,d1,m1,kds,e1,e2,e3,rfl,e4,e5,e6,e7,e8,e9,e10,e11,e12⟩
     have hl : ks.length = D.length + Z.length := by rw [e1]; simp
     cases e3 with
     | nil =>
      right
      have t : ¬ ((D.length : Int) < (ks.length : Int)) := by simp at hl; omega
      rw [List.append_nil] at e1 e2
      subst e1; subst e2
      exact ⟨.inl (d1,m1,(((L + 1 : Nat) : Int),[],kds)),by simp only [t,decide_false,cond_false],c,d1,m1,kds,rfl,e4,e5,e6,e7,e8,e9,e10,e11,e12⟩
     | @cons z qz Z' QZ' hz hzs =>
      left
      simp only [List.length_cons] at hl
      have tt : ((D.length : Int) < (ks.length : Int)) := by omega
      have g0 : gx ks (D.length : Int) = some z := by rw [e1]; exact qJ1 rfl
      have w1 : IntKind.wrap .i64 ((D.length : Int) + 1) = (D.length : Int) + 1 := w64 (by omega) (by omega)
      have hrf' := hrf
      rw [e2,List.flatten_append,List.flatten_cons] at hrf'
      have r4 := (qI.1 (qI.1 hrf').2.1).1
      have hsz : qi5 qz := fun x hx => hs x (by rw [← a4,e2]; simp [hx])
      have lq : q.length = QD.flatten.length + qz.length + QZ'.flatten.length := by rw [← a4,e2]; simp; omega
      have hzf : ¬ fewP z := a6' z (by rw [e1]; simp)
      obtain ⟨n,d2,m2,c2,f1,f2⟩ := ih L (K := K + c) (m := m1) (d := d1) (R := R ++ kds.map (·.2)) (p := z) (q := qz) (by omega) (by omega) hz (notFew_notOne hz hzf) e7 (by omega) (by omega) (by omega) (by rw [e8]; omega) r4 hsz
      obtain ⟨f3,f4⟩ := f2.c2 hzf
      have hhd := ptOk_hd hz
      refine ⟨((D.length : Int) + 1,d2,m2,(((L + 1 : Nat) : Int),[],kds ++ [(z.1,n)])),?_,⟨D ++ [z],Z',QD ++ [qz],QZ',c + c2,d2,m2,kds ++ [(z.1,n)],by simp [e1],by simp [e2],hzs.imp fun p q h => PtOk.ext f2.grow h,by simp,?_,by simp [e5],e6.trans f2.grow,?_,by rw [f2.blk,e8],?_,by rw [f2.dlen]; omega,?_,?_⟩,by simp; omega⟩
      ·simp only [tt,decide_true,cond_true,g0,Option.bind_some]
       rw [f1]
       simp only [Option.bind_some,ne_eq,not_true_eq_false,decide_false,cond_false,w1]
       rw [qu1 (by simp; omega)]
       rfl
      ·exact (e4.imp fun k q h => kidR_grow f2.grow h).snoc ⟨f2.tr,f3,hhd⟩
      ·have := f2.st
       rw [show K + (c + c2) = K + c + c2 by omega]
       rw [List.map_append,← List.append_assoc]
       exact this
      ·rw [f2.used,e9]; simp; omega
      ·have := f2.fr; simp; omega
      ·have : (QD ++ [qz]).flatten.length = QD.flatten.length + qz.length := by simp
       rw [this,List.length_append,List.length_singleton]; omega
    ·rintro o ⟨c,d1,m1,kds,rfl,e4,e5,e6,e7,e8,e9,e10,e11,e12⟩
     simp only [Sum.elim_inl]
     have lq : qs.flatten.length = q.length := by rw [a4]
     obtain ⟨n,m',p1,p2,p3,p4,p5,p6,p7,p8⟩ := put_st (x := (((L + 1 : Nat) : Int),[],kds)) (R := R) (K := K + c) e7 (by omega) (right_inner e7.wf (by omega) (by omega) (by omega) e4 hrf) (by simp) (by simp only; omega) (by rw [e8]; omega) (L := L + 1) (q := q)
      (fun m' n hg hc hn => by
       rw [Tr]
       exact ⟨hc,kds,hn,by omega,by omega,qs,a4,e4.imp fun k q h => kidR_grow hg h⟩) (by omega) hr hs
     refine ⟨n,d1 ++ [n],m',c + 1,?_,⟨p2,e6.trans p5,⟨p4.wf.mono (by omega),p4.live,p4.rc⟩,by rw [p6,e8],?_,by simp; omega,?_,by omega,fun hf => ⟨?_,?_⟩⟩⟩
     ·rw [p1]
      simp only [Option.bind_some,decide_true,cond_true]
      rw [qu1 (by simp; omega)]
      rfl
     ·rw [p7,e9,frs]; omega
     ·rw [frs]; omega
     ·have h0 : ¬ (((L + 1 : Nat) : Int) = 0) := by omega
      simp only [fewP,h0,if_false] at hf
      rw [p3]
      simp only [fewN,h0,if_false]
      omega
     ·have h0 : ¬ (((L + 1 : Nat) : Int) = 0) := by omega
      simp only [fewP,h0,if_false] at hf
      omega
theorem write_eq {L K : Nat} {m : Mem} {d R : List Int} {p : Pt} {q : List Pr} (hL : L < 12) (hp : PtOk m L p q) (h1 : NotOne p) (hst : StM K m R) (hK : 1 ≤ K) (hKq : K + q.length ≤ 1000000000000) (hd : d.length + q.length ≤ 1000000000)
  (hroom : (used m : Int) + q.length ≤ m.1.1 - 2) (hr : Rising q) (hs : qi5 q) :
  ∃ n d' m' c,qe1 d p m = some (n,0,d',m') ∧ Wr K m d R L p q n d' m' c :=
 write_n 16 L (by omega) hL hp h1 hst hK hKq hd hroom hr hs
end Go.Val
namespace Go.Val
open Go.RowKit Go.Lib
def Root (m : Mem) (r : Int) (q : List Pr) : Prop := (r = 0 ∧ q = []) ∨ (r ≠ 0 ∧ ∃ L,Tr m L r q)
def rl (r : Int) : List Int := if r = 0 then [] else [r]
def ShortC (l : List Cg) : Prop := ∀ c ∈ l,c.2.1.size ≤ 40
theorem root_grow {m m' : Mem} (hg : Grow m m') {r : Int} {q : List Pr} (h : Root m r q) : Root m' r q := by
 rcases h with h | ⟨h0,L,h⟩
 ·exact .inl h
 ·exact .inr ⟨h0,L,Tr.ext hg h⟩
theorem root_tr {m : Mem} {r : Int} {q : List Pr} (h : Root m r q) (h0 : r ≠ 0) : ∃ L,Tr m L r q := by
 rcases h with ⟨h,_⟩ | ⟨_,h⟩
 ·exact absurd h h0
 ·exact h
theorem apply_loop {l : List Cg} {m : Mem} (hl : ShortC l) (hn : l.length ≤ 1000000) : (qQ (V := Int) (O := (Unit ⊕ (Int × Int × Mem))) (fun v57 =>
   cond (decide (v57 < (l.length : Int))) (
    (gx l v57).bind fun x64 =>
    cond (decide ((x64.2.1.size : Int) > 40)) (
     some (.inr (.inr (0,1,m)))
    ) (
     some (.inl (IntKind.wrap .i64 (v57 + 1)))
    )
   ) (
    some (.inr (.inl ()))
   )
  ) 0) = some (.inl ()) := by
 refine whileO_is (fun v => ∃ D Z,l = D ++ Z ∧ v = (D.length : Int)) (fun v => ((l.length : Int) - v).toNat) ⟨[],l,rfl,rfl⟩ ?_
 rintro v ⟨D,Z,e1,rfl⟩
 have hlen : l.length = D.length + Z.length := by rw [e1]; simp
 match Z with
 | [] =>
  right
  have t : ¬ ((D.length : Int) < (l.length : Int)) := by simp at hlen; omega
  simp only [t,decide_false,cond_false]
 | z :: Z' =>
  left
  simp only [List.length_cons] at hlen
  have t : ((D.length : Int) < (l.length : Int)) := by omega
  have g0 : gx l (D.length : Int) = some z := by rw [e1]; exact qJ1 rfl
  have hz := hl z (by rw [e1]; simp)
  have t2 : ¬ ((z.2.1.size : Int) > 40) := by omega
  refine ⟨(D.length : Int) + 1,?_,⟨D ++ [z],Z',by simp [e1],by simp⟩,by omega⟩
  simp only [t,decide_true,cond_true,g0,Option.bind_some,t2,decide_false,cond_false]
  rw [w64 (by omega) (by omega)]
theorem mg_apply {q : List Pr} {l s : List Cg} (hr : Rising q) (hs : Rising s) (hg : ∀ k,mget s k = mget l.reverse k) : mgP q s = qB3 q l := by
 obtain ⟨h1,h2⟩ := mgP_spec hr hs
 refine q63 h1 (qG1 q l) fun k => ?_
 rw [h2,qg3,fn_rising hr,hg]
 rfl
theorem applyP_short {q : List Pr} {l : List Cg} (hr : Rising q) (hs : qi5 q) (hl : ShortC l) : qi5 (qB3 q l) := fun p hp => by
 have h1 : mget (qB3 q l) p.1 = some p.2 := qc3 (qG1 q l).nodup hp
 rw [qg3,fn_rising hr] at h1
 unfold updF at h1
 cases hm : mget l.reverse p.1 with
 | none => rw [hm] at h1; exact hs _ (qB1 h1)
 | some e =>
  rw [hm] at h1
  have h1 : eff e = some p.2 := h1
  unfold eff at h1
  have := hl _ (List.mem_reverse.1 (qB1 hm))
  by_cases hg : e.2 = true
  ·rw [if_pos hg] at h1; cases h1
  ·rw [if_neg hg] at h1
   rw [← Option.some.inj h1]; exact this
theorem applyP_nil {q : List Pr} (hr : Rising q) : qB3 q [] = q := by
 refine q63 (qG1 q []) hr fun k => ?_
 rw [qg3,fn_rising hr]; rfl
theorem apply_eq {K : Nat} {m : Mem} {R : List Int} {r : Int} {q : List Pr} {l : List Cg} (hst : StM K m R) (hK : 1 ≤ K) (hKq : K ≤ 100000000000) (hroot : Root m r q) (hr : Rising q) (hs : qi5 q) (hl : ShortC l)
  (hn : q.length + l.length ≤ 1000000) (hroom : (used m : Int) + (q.length + l.length) ≤ m.1.1 - 2) :
  ∃ n m' c,qj1 m r l = some (n,0,m') ∧ Root m' n (qB3 q l) ∧ Grow m m' ∧ StM (K + c) m' (R ++ rl n) ∧ m'.1.1 = m.1.1 ∧ used m' ≤ used m + c ∧ 2 * c ≤ (qB3 q l).length + 1 ∧
   (l = [] → n = r ∧ (r ≠ 0 → m' = incM m r)) ∧ (l.length = 1 → ∀ L : Nat,(r = 0 → L = 0) → (r ≠ 0 → Tr m L r q) → used m' ≤ used m + (2 * (L + 1) + 1)) := by
 unfold qj1
 rw [apply_loop hl (by omega)]
 simp only [Option.bind_some,Sum.elim_inl]
 by_cases hl0 : l = []
 ·subst hl0
  rw [applyP_nil hr]
  have : ((([] : List Cg).length : Nat) : Int) = 0 := rfl
  simp only [this,decide_true,cond_true]
  by_cases hr0 : r = 0
  ·subst hr0
   refine ⟨0,m,0,by simp [qa2],hroot,Grow.refl m,by simpa [rl] using hst,rfl,by omega,by omega,fun _ => ⟨rfl,fun h => absurd rfl h⟩,fun h => by simp at h⟩
  ·obtain ⟨L,hT⟩ := root_tr hroot hr0
   obtain ⟨i1,i2,i3,i4,i5⟩ := inc_st hst (by omega) (qr2 hT)
   have hq := List.length_pos_iff.2 (tr_ne hT)
   refine ⟨r,incM m r,1,?_,root_grow i3 hroot,i3,by rw [rl,if_neg hr0]; exact i2,i4,by omega,by omega,fun _ => ⟨rfl,fun _ => rfl⟩,fun h => by simp at h⟩
   unfold qa2
   simp only [hr0,decide_false,cond_false]
   rw [i1]
   rfl
 ·have hlp : ¬ ((l.length : Int) = 0) := by have := List.length_pos_iff.2 hl0; omega
  obtain ⟨s,s1,s2,s3,s4⟩ := tree_sorted_eq (l := l) (by omega)
  simp only [hlp,decide_false,cond_false]
  rw [s1]
  simp only [Option.bind_some]
  have hmg : mgP q s = qB3 q l := mg_apply hr s2 s3
  have hrow : ∃ (lv : Nat) (row : List Pt),((cond (decide (r = 0)) (
     (qo1 ([]) s).bind fun x111 =>
     (qW0 x111).bind fun x114 =>
     some (.inl (0,x114,m,[]))
    ) (
     (qF m r).bind fun x117 =>
     cond (decide (x117.2.1 ≠ 0)) (
      some (.inr (0,x117.2.1,x117.2.2))
     ) (
      (qV0 ([]) r s x117.2.2).bind fun x124 =>
      cond (decide (x124.2.1 ≠ 0)) (
       some (.inr (0,x124.2.1,x124.2.2.2))
      ) (
       some (.inl (x117.1.1,x124.1,x124.2.2.2,x124.2.2.1))
      )
     )
    )) : Option ((Int × (List Pt) × Mem × (List Int)) ⊕ (Int × Int × Mem))) = some (.inl ((lv : Int),row,m,[])) ∧ RowOk m lv row (qB3 q l) ∧ qh2 row ∧ (l.length = 1 → row.length ≤ 2 ∧ ((r = 0 → frsS lv row ≤ 2) ∧ ∀ L,Tr m L r q → frsS lv row ≤ 2 * (L + 1))) := by
   by_cases hr0 : r = 0
   ·have hq0 : q = [] := by
     rcases hroot with h | h
     ·exact h.2
     ·exact absurd hr0 h.1
    subst hq0
    obtain ⟨row,e1,e2,e3,e4⟩ := leaves_eq (m := m) (q := qB3 [] l) (by have := applyP_len ([] : List Pr) l; simp at this; omega)
    refine ⟨0,row,?_,e2,e3,fun h1 => ?_⟩
    rotate_left
    ·have hl1 := applyP_len ([] : List Pr) l
     simp only [List.length_nil] at hl1
     have r5 : row.length ≤ 2 := by omega
     have h2 := psi0_le row
     have h3 := good_le e3 r5
     have h4 := frsS_psi 0 row
     exact ⟨r5,fun _ => by omega,fun L _ => by omega⟩
    simp only [hr0,decide_true,cond_true]
    rw [merged_eq (by simp; omega),hmg]
    simp only [Option.bind_some]
    rw [e1]
    rfl
   ·obtain ⟨L,hT⟩ := root_tr hroot hr0
    have hL := tr_level hT (by omega)
    obtain ⟨row,e1,e2,e3,e4⟩ := edit_eq (d := []) (by omega) hT hr s2 (by omega)
    refine ⟨L,row,?_,hmg ▸ e2,e3,fun h1 => ?_⟩
    rotate_left
    ·obtain ⟨h2,h3⟩ := e4 (by omega)
     have h4 := frsS_psi L row
     refine ⟨h3,fun h => absurd h hr0,fun L' hT' => ?_⟩
     have u1 := (tr_nd hT).1
     have u2 := (tr_nd hT').1
     have : L = L' := by omega
     subst this
     omega
    simp only [hr0,decide_false,cond_false]
    rw [tr_get hT]
    simp only [Option.bind_some,ne_eq,not_true_eq_false,decide_false,cond_false]
    rw [e1]
    simp only [Option.bind_some,ne_eq,not_true_eq_false,decide_false,cond_false,(tr_nd hT).1]
  obtain ⟨lv,row,r1,r2,r3,r4⟩ := hrow
  rw [r1]
  simp only [Option.bind_some,Sum.elim_inl]
  have hlen := applyP_len q l
  obtain ⟨t1,t2⟩ := top_eq r2 r3 (by omega)
  by_cases hq0 : qB3 q l = []
  ·obtain ⟨p,p1⟩ := t1 hq0
   rw [p1]
   refine ⟨0,m,0,?_,.inl ⟨rfl,hq0⟩,Grow.refl m,by simpa [rl] using hst,rfl,by omega,by omega,fun h => absurd h hl0,fun _ L _ _ => by omega⟩
   simp
  ·obtain ⟨p,L',p1,p2,p3,p4⟩ := t2 hq0
   rw [p1]
   have hL' : L' < 12 := by
    obtain ⟨k,b,f⟩ := p
    match f with
    | none =>
     exact tr_rising_level (ptOk_none p2).1 (by omega)
    | some (.mk l0 ps ks) =>
     match L',p2 with
     | 0,_ => omega
     | L3 + 1,p2 =>
      rw [PtOk] at p2
      obtain ⟨_,_,a1,a2,_,qs,a4,a5,a6⟩ := p2
      have hk1 := p3 l0 ps ks rfl
      have := level_lt (m := m) (L := L3) (row := ks) (q := qB3 q l) ⟨qs,a4,a5⟩ (fun h => a6 h) (by omega) (by omega)
      omega
   obtain ⟨n,d',m',c,w1,w2⟩ := write_eq (d := []) hL' p2 p3 hst hK (by omega) (by simp; omega) (by omega) (qG1 q l) (applyP_short hr hs hl)
   simp only [Option.bind_some,ne_eq,not_true_eq_false,decide_false,cond_false,Bool.not_true]
   rw [w1]
   have n0 : n ≠ 0 := by have := qq4 w2.st.wf (qr2 w2.tr); omega
   refine ⟨n,m',c,by simp,.inr ⟨n0,L',w2.tr⟩,w2.grow,by rw [rl,if_neg n0]; exact w2.st,w2.blk,by rw [w2.used]; have := w2.fr; omega,w2.c1,fun h => absurd h hl0,fun h1 L hz ht => ?_⟩
   obtain ⟨h2,h3,h4⟩ := r4 h1
   have h5 := p4 h2
   rw [w2.used]
   by_cases hr0 : r = 0
   ·have := h3 hr0
    omega
   ·have := h4 L (ht hr0)
    omega
end Go.Val
namespace Go.Val
open Go.RowKit Go.Lib
def Shrink (m m' : Mem) : Prop := ∀ n,cnt m' n ≠ 0 → cnt m n ≠ 0 ∧ ndOf m' n = ndOf m n
theorem Shrink.refl (m : Mem) : Shrink m m := fun n h => ⟨h,rfl⟩
theorem Shrink.trans {a b c : Mem} (h : Shrink a b) (k : Shrink b c) : Shrink a c := fun n hn => by
 obtain ⟨k1,k2⟩ := k n hn
 obtain ⟨h1,h2⟩ := h n k1
 exact ⟨h1,k2.trans h2⟩
theorem rc_count {m : Mem} {R R' : List Int} (h : RC m R) (hp : ∀ n,R'.count n = R.count n) : RC m R' := fun n => by rw [hp n]; exact h n
theorem StM.perm {K : Nat} {m : Mem} {R R' : List Int} (h : StM K m R) (hp : R'.Perm R) : StM K m R' := ⟨h.wf,h.live,rc_count h.rc fun n => hp.count_eq n⟩
theorem inK_pos {m : Mem} {bs : List Int} {b n : Int} (hb : b ∈ bs) (hn : n ∈ qr3 (ndOf m b)) : 1 ≤ inK m bs n := by
 obtain ⟨A,B,rfl⟩ := List.append_of_mem hb
 rw [inK_app,show b :: B = [b] ++ B from rfl,inK_app]
 have : inK m [b] n = (qr3 (ndOf m b)).count n := by simp [inK]
 have h1 := List.count_pos_iff.2 hn
 omega
theorem rc_live {m : Mem} {R : List Int} {n : Int} (h : RC m R) (hn : n ∈ R) : cnt m n ≠ 0 := by
 have := h n
 have h1 := List.count_pos_iff.2 hn
 omega
theorem rc_kid {m : Mem} {R : List Int} {b n : Int} (h : RC m R) (hb : cnt m b ≠ 0) (hn : n ∈ qr3 (ndOf m b)) : cnt m n ≠ 0 := by
 have := h n
 have h1 := inK_pos (bs := m.1.2.1.map (·.1)) (qN4 hb).1 hn
 omega
theorem F2.impMem {α β : Type} {R S : α → β → Prop} {l : List α} {r : List β} (h : F2 R l r) (hRS : ∀ a ∈ l,∀ b,R a b → S a b) : F2 S l r := by
 induction h with
 | nil => exact .nil
 | cons h _ ih => exact .cons (hRS _ (by simp) _ h) (ih fun a ha b hab => hRS a (by simp [ha]) b hab)
theorem tr_shrink {m m' : Mem} {R : List Int} (hs : Shrink m m') (hrc : RC m' R) : ∀ {L : Nat} {n : Int} {q : List Pr},cnt m' n ≠ 0 → Tr m L n q → Tr m' L n q
 | 0,n,q,hn,h => by
  rw [Tr] at h ⊢
  rw [(hs n hn).2]
  exact ⟨hn,h.2⟩
 | L + 1,n,q,hn,h => by
  rw [Tr] at h ⊢
  obtain ⟨_,ks,h1,h2,h3,qs,h4,h5⟩ := h
  have e := (hs n hn).2
  rw [e]
  refine ⟨hn,ks,h1,h2,h3,qs,h4,h5.impMem fun k hk q hkq => ?_⟩
  have hkl : cnt m' k.2 ≠ 0 := rc_kid hrc hn (by rw [e,h1]; exact List.mem_map.2 ⟨k,hk,rfl⟩)
  exact ⟨tr_shrink hs hrc hkl hkq.1,by rw [(hs _ hkl).2]; exact hkq.2.1,hkq.2.2⟩
theorem live_shrink {m m' : Mem} {R : List Int} (hl : Live m) (hs : Shrink m m') (hrc : RC m' R) : Live m' := fun n hn => by
 obtain ⟨L,q,a,b,c⟩ := hl n (hs n hn).1
 exact ⟨L,q,a,tr_shrink hs hrc hn b,c⟩
theorem mdel_split {β : Type} {m : List (Int × β)} {k : Int} (h : k ∈ m.map (·.1)) : ∃ A v B,m = A ++ (k,v) :: B ∧ mdel m k = A ++ B := by
 induction m with
 | nil => cases h
 | cons p m ih =>
  rw [mdel_cons]
  by_cases e : k = p.1
  ·rw [if_pos e]
   exact ⟨[],p.2,m,by rw [e]; rfl,rfl⟩
  ·rw [if_neg e]
   obtain ⟨A,v,B,h1,h2⟩ := ih (by
    rcases List.mem_cons.1 h with h | h
    ·exact absurd h e
    ·exact h)
   exact ⟨p :: A,v,B,by rw [h1]; rfl,by rw [h2]; rfl⟩
theorem mget_mdel_ne {β : Type} (m : List (Int × β)) {k k' : Int} (h : k' ≠ k) : mget (mdel m k) k' = mget m k' := by
 induction m with
 | nil => rfl
 | cons p m ih =>
  rw [mdel_cons,qN]
  by_cases e : k = p.1
  ·rw [if_pos e,if_neg (fun h' => h (h'.trans e.symm))]
  ·rw [if_neg e,qN,ih]
def decM (m : Mem) (n : Int) : Mem := ((m.1.1,mset m.1.2.1 n (cnt m n - 1),m.1.2.2),m.2)
def delM (m : Mem) (n : Int) : Mem := ((m.1.1,mdel m.1.2.1 n,min m.1.2.2 n),mdel m.2 n)
theorem cnt_dec (m : Mem) (n k : Int) : cnt (decM m n) k = if k = n then cnt m n - 1 else cnt m k := by
 unfold cnt decM
 simp only [qb2]
 split <;> rfl
theorem cnt_del {m : Mem} (hn : (m.1.2.1.map (·.1)).Nodup) (n k : Int) : cnt (delM m n) k = if k = n then 0 else cnt m k := by
 unfold cnt delM
 simp only [mget_mdel hn]
 split <;> rfl
theorem dec_st {K : Nat} {m : Mem} {R : List Int} {r : Int} (h : StM K m (r :: R)) (hK : K ≤ 1000000000000) :
  cnt m r ≠ 0 ∧ ((∃ m',qF0 m r = some (false,0,m') ∧ StM K m' R ∧ Shrink m m' ∧ m'.1.1 = m.1.1 ∧ used m' = used m) ∨
   (∃ m',qF0 m r = some (true,0,m') ∧ StM K m' (qr3 (ndOf m r) ++ R) ∧ Shrink m m' ∧ m'.1.1 = m.1.1 ∧ used m' + 1 = used m)) := by
 have hl : cnt m r ≠ 0 := rc_live h.rc (by simp)
 obtain ⟨p1,p2,p3,p4⟩ := qq4 h.wf hl
 have hmem := qN4 hl
 have t1 : ¬ r < 2 := by omega
 have t2 : ¬ r ≥ m.1.1 := by omega
 have hc : (mget m.1.2.1 r).getD 0 = cnt m r := rfl
 refine ⟨hl,?_⟩
 by_cases h1 : cnt m r > 1
 ·left
  have hsh : Shrink m (decM m r) := fun n hn => by
   refine ⟨?_,rfl⟩
   rw [cnt_dec] at hn
   by_cases e : n = r
   ·rw [e]; exact hl
   ·rwa [if_neg e] at hn
  have hrc : RC (decM m r) R := fun n => by
   have hk : (decM m r).1.2.1.map (·.1) = m.1.2.1.map (·.1) := by
    show (mset m.1.2.1 r (cnt m r - 1)).map (·.1) = _
    rw [qw3,if_pos hmem.1]
   have e0 : inK (decM m r) (m.1.2.1.map (·.1)) n = inK m (m.1.2.1.map (·.1)) n := inK_congr fun _ _ => rfl
   rw [cnt_dec,hk,e0]
   have hr := h.rc n
   rw [List.count_cons] at hr
   by_cases e : n = r
   ·subst e; simp at hr; rw [if_pos rfl]; omega
   ·have : (r == n) = false := by simp; exact fun h => e h.symm
    rw [this] at hr
    rw [if_neg e]; simp at hr; omega
  refine ⟨decM m r,?_,⟨⟨h.wf.blk,h.wf.low,fun n n1 n2 => ?_,qL3 h.wf.nodup _ _,fun n c hn => ?_⟩,live_shrink h.live hsh hrc,hrc⟩,hsh,rfl,mset_len hmem.1⟩
  ·unfold qF0 qE1 qP0 qa1
   simp only [t1,t2,decide_false,cond_false,Option.bind_some,cond_true,hc,hl,h1,decide_true]
   rw [w64 (by omega) (by omega)]
   rfl
  ·rw [cnt_dec]
   split
   ·omega
   ·exact h.wf.full n n1 n2
  ·have hn' : mget (mset m.1.2.1 r (cnt m r - 1)) n = some c := hn
   rw [qb2] at hn'
   by_cases e : n = r
   ·rw [if_pos e] at hn'
    have := Option.some.inj hn'
    subst e
    exact ⟨by omega,by omega,p3,p4⟩
   ·rw [if_neg e] at hn'
    exact h.wf.pos n c hn'
 ·right
  have hc1 : cnt m r = 1 := by omega
  have hsh : Shrink m (delM m r) := fun n hn => by
   rw [cnt_del h.wf.nodup] at hn
   by_cases e : n = r
   ·rw [if_pos e] at hn; exact absurd rfl hn
   ·rw [if_neg e] at hn
    refine ⟨hn,?_⟩
    unfold ndOf delM
    simp only
    rw [mget_mdel_ne _ e]
  obtain ⟨A,v,B,s1,s2⟩ := mdel_split hmem.1
  have hrc : RC (delM m r) (qr3 (ndOf m r) ++ R) := fun n => by
   have hk : (delM m r).1.2.1.map (·.1) = A.map (·.1) ++ B.map (·.1) := by
    show (mdel m.1.2.1 r).map (·.1) = _
    rw [s2,List.map_append]
   have hnd : (m.1.2.1.map (·.1)).Nodup := h.wf.nodup
   have hk0 : m.1.2.1.map (·.1) = A.map (·.1) ++ r :: B.map (·.1) := by rw [s1]; simp
   have hnr : ∀ b ∈ A.map (·.1) ++ B.map (·.1),b ≠ r := by
    rw [hk0] at hnd
    intro b hb e
    subst e
    have h1 := List.nodup_append.1 hnd
    rcases List.mem_append.1 hb with hb | hb
    ·exact h1.2.2 b hb b (by simp) rfl
    ·exact (List.nodup_cons.1 h1.2.1).1 hb
   have e1 : inK (delM m r) (A.map (·.1) ++ B.map (·.1)) n = inK m (A.map (·.1) ++ B.map (·.1)) n := inK_congr fun b hb => by
    unfold ndOf delM
    simp only
    rw [mget_mdel_ne _ (hnr b hb)]
   have e2 : inK m (A.map (·.1) ++ r :: B.map (·.1)) n = inK m (A.map (·.1) ++ B.map (·.1)) n + (qr3 (ndOf m r)).count n := by
    rw [inK_app,inK_app,show r :: B.map (·.1) = [r] ++ B.map (·.1) from rfl,inK_app]
    have : inK m [r] n = (qr3 (ndOf m r)).count n := by simp [inK]
    omega
   rw [cnt_del hnd,hk,e1,List.count_append]
   have hr := h.rc n
   rw [hk0,e2,List.count_cons] at hr
   by_cases e : n = r
   ·subst e; simp at hr; rw [if_pos rfl]; omega
   ·have : (r == n) = false := by simp; exact fun h => e h.symm
    rw [this] at hr
    rw [if_neg e]; simp at hr; omega
  refine ⟨delM m r,?_,⟨⟨h.wf.blk,?_,fun n n1 n2 => ?_,nodup_mdel h.wf.nodup _,fun n c hn => ?_⟩,live_shrink h.live hsh hrc,hrc⟩,hsh,rfl,?_⟩
  ·unfold qF0 qE1 qP0 qa1
   simp only [t1,t2,decide_false,cond_false,Option.bind_some,cond_true,hc,hl,h1,decide_true]
   rfl
  ·have := h.wf.low
   show 2 ≤ min m.1.2.2 r ∧ min m.1.2.2 r ≤ m.1.1
   omega
  ·have n2' : n < min m.1.2.2 r := n2
   rw [cnt_del h.wf.nodup,if_neg (by omega)]
   exact h.wf.full n n1 (by omega)
  ·have hn' : mget (mdel m.1.2.1 r) n = some c := hn
   rw [mget_mdel h.wf.nodup] at hn'
   by_cases e : n = r
   ·rw [if_pos e] at hn'; cases hn'
   ·rw [if_neg e] at hn'
    exact h.wf.pos n c hn'
  ·show (mdel m.1.2.1 r).length + 1 = m.1.2.1.length
   rw [s2,s1]; simp; omega
theorem release_n : ∀ (fuel L : Nat) {K : Nat} {m : Mem} {R : List Int} {r : Int} {q : List Pr},L < fuel → Tr m L r q → StM K m (r :: R) → K ≤ 1000000000000 →
  ∃ m',qK0 fuel m r = some (0,m') ∧ StM K m' R ∧ Shrink m m' ∧ m'.1.1 = m.1.1 ∧ used m' ≤ used m := by
 intro fuel
 induction fuel with
 | zero => intro L K m R r q h; omega
 | succ fuel ih =>
  intro L K m R r q hL hT hst hK
  obtain ⟨d1,d2⟩ := dec_st hst hK
  have n0 : ¬ r = 0 := by have := qq4 hst.wf d1; omega
  rw [qK0]
  unfold qQ0
  simp only [n0,decide_false,cond_false,tr_get hT,Option.bind_some,ne_eq,not_true_eq_false]
  rcases d2 with ⟨m1,e1,e2,e3,e4,e5⟩ | ⟨m1,e1,e2,e3,e4,e5⟩
  ·rw [e1]
   exact ⟨m1,by simp,e2,e3,e4,by omega⟩
  ·rw [e1]
   simp only [Option.bind_some,not_true_eq_false,decide_false,cond_false,Bool.not_true]
   match L,hT with
   | 0,hT =>
    rw [Tr] at hT
    rw [hT.2.1] at e2 ⊢
    rw [qR]
    exact ⟨m1,by simp,by simpa [qr3] using e2,e3,e4,by omega⟩
   | L + 1,hT =>
    rw [Tr] at hT
    obtain ⟨_,ks,h1,h2,h3,qs,h4,h5⟩ := hT
    rw [h1] at e2 ⊢
    simp only [qr3] at e2
    simp only
    refine q52 (Q := fun o => ∃ m',o = some (0,m') ∧ StM K m' R ∧ Shrink m m' ∧ m'.1.1 = m.1.1 ∧ used m' ≤ used m)
     (fun v => ∃ D Z QD QZ m2,ks = D ++ Z ∧ qs = QD ++ QZ ∧ F2 (KidR m L) Z QZ ∧ v = ((D.length : Int),m2) ∧ StM K m2 (Z.map (·.2) ++ R) ∧ Shrink m m2 ∧ m2.1.1 = m.1.1 ∧ used m2 ≤ used m)
     (fun v => ((ks.length : Int) - v.1).toNat) (fun o => ∃ m2,o = .inl m2 ∧ StM K m2 R ∧ Shrink m m2 ∧ m2.1.1 = m.1.1 ∧ used m2 ≤ used m) ⟨[],ks,[],qs,m1,rfl,rfl,h5,rfl,e2,e3,e4,by omega⟩ ?_ ?_
    ·rintro v ⟨D,Z,QD,QZ,m2,g1,g2,g3,rfl,g4,g5,g6,g7⟩
     have hl : ks.length = D.length + Z.length := by rw [g1]; simp
     cases g3 with
     | nil =>
      right
      have t : ¬ ((D.length : Int) < (ks.length : Int)) := by simp at hl; omega
      exact ⟨.inl m2,by simp only [t,decide_false,cond_false],m2,rfl,by simpa using g4,g5,g6,g7⟩
     | @cons z qz Z' QZ' hz hzs =>
      left
      simp only [List.length_cons] at hl
      have t : ((D.length : Int) < (ks.length : Int)) := by omega
      have g0 : gx ks (D.length : Int) = some z := by rw [g1]; exact qJ1 rfl
      have hzl : cnt m2 z.2 ≠ 0 := rc_live g4.rc (by simp)
      have hzt : Tr m2 L z.2 qz := tr_shrink g5 g4.rc hzl hz.1
      obtain ⟨m3,i1,i2,i3,i4,i5⟩ := ih L (by omega) hzt (R := Z'.map (·.2) ++ R) (by simpa using g4) hK
      refine ⟨((D.length : Int) + 1,m3),?_,⟨D ++ [z],Z',QD ++ [qz],QZ',m3,by simp [g1],by simp [g2],hzs,by simp,i2,g5.trans i3,i4.trans g6,by omega⟩,by simp; omega⟩
      simp only [t,decide_true,cond_true,g0,Option.bind_some]
      rw [i1]
      simp only [Option.bind_some,not_true_eq_false,decide_false,cond_false]
      rw [w64 (by omega) (by omega)]
    ·rintro o ⟨m2,rfl,h⟩
     exact ⟨m2,rfl,h⟩
theorem release_eq {K : Nat} {m : Mem} {R : List Int} {r : Int} {q : List Pr} (hr : Root m r q) (hst : StM K m (rl r ++ R)) (hK : K ≤ 1000000000000) (hn : q.length ≤ 1000000) :
  ∃ m',qO1 m r = some (0,m') ∧ StM K m' R ∧ Shrink m m' ∧ m'.1.1 = m.1.1 ∧ used m' ≤ used m := by
 by_cases h0 : r = 0
 ·subst h0
  refine ⟨m,?_,by simpa [rl] using hst,Shrink.refl m,rfl,by omega⟩
  unfold qO1
  rw [qK0]
  unfold qQ0
  simp
 ·obtain ⟨L,hT⟩ := root_tr hr h0
  have := tr_level hT hn
  exact release_n 16 L (by omega) hT (by simpa [rl,h0] using hst) hK
end Go.Val
namespace Go.Val
open Go.RowKit Go.Lib
def blks : Nat → Mem → Int → List Int
 | 0,_,n => [n]
 | L + 1,m,n => n :: (qr3 (ndOf m n)).flatMap (blks L m)
def blksM (m : Mem) (n : Int) : List Int := blks (ndOf m n).1.toNat m n
theorem blks_self : ∀ (L : Nat) (m : Mem) (n : Int),n ∈ blks L m n
 | 0,m,n => by rw [blks]; simp
 | L + 1,m,n => by rw [blks]; simp
theorem tr_kids {m : Mem} {L : Nat} {n k : Int} {q : List Pr} (h : Tr m L n q) (hk : k ∈ qr3 (ndOf m n)) : ∃ L' q',L = L' + 1 ∧ Tr m L' k q' := by
 match L,h with
 | 0,h =>
  rw [Tr] at h
  rw [h.2.1] at hk
  simp [qr3] at hk
 | L + 1,h =>
  rw [Tr] at h
  obtain ⟨_,ks,h1,h2,h3,qs,h4,h5⟩ := h
  rw [h1] at hk
  obtain ⟨z,hz,rfl⟩ := List.mem_map.1 hk
  obtain ⟨q',hq',hR⟩ := h5.mem z hz
  exact ⟨L,q',rfl,hR.1⟩
theorem blks_kid {m : Mem} : ∀ {L : Nat} {r b k : Int} {q : List Pr},Tr m L r q → b ∈ blks L m r → k ∈ qr3 (ndOf m b) → k ∈ blks L m r
 | 0,r,b,k,q,h,hb,hk => by
  rw [blks] at hb
  have e : b = r := by simpa using hb
  subst e
  obtain ⟨L',q',e,_⟩ := tr_kids h hk
  omega
 | L + 1,r,b,k,q,h,hb,hk => by
  rw [blks] at hb ⊢
  rcases List.mem_cons.1 hb with rfl | hb
  ·exact List.mem_cons_of_mem _ (List.mem_flatMap.2 ⟨k,hk,blks_self L m k⟩)
  ·obtain ⟨z,hz,hb⟩ := List.mem_flatMap.1 hb
   obtain ⟨L',q',e,ht⟩ := tr_kids h hz
   have e' : L = L' := by omega
   subst e'
   exact List.mem_cons_of_mem _ (List.mem_flatMap.2 ⟨z,hz,blks_kid ht hb hk⟩)
theorem blksM_tr {m : Mem} {L : Nat} {r : Int} {q : List Pr} (h : Tr m L r q) : blksM m r = blks L m r := by
 unfold blksM
 rw [(tr_nd h).1]
 simp
theorem live_from {K : Nat} {m : Mem} {R : List Int} (h : StM K m R) : ∀ {n : Int},cnt m n ≠ 0 → ∃ r ∈ R,n ∈ blksM m r := by
 have key : ∀ (j L : Nat) {n : Int} {q : List Pr},L + j = 12 → Tr m L n q → ∃ r ∈ R,n ∈ blksM m r := by
  intro j
  induction j with
  | zero =>
   intro L n q hL hT
   obtain ⟨L',q',h1,h2,_⟩ := h.live n (qr2 hT)
   have e1 := (tr_nd hT).1
   have e2 := (tr_nd h2).1
   omega
  | succ j ih =>
   intro L n q hL hT
   have hc := h.rc n
   have hp := qq4 h.wf (qr2 hT)
   by_cases hR : n ∈ R
   ·exact ⟨n,hR,blks_self _ m n⟩
   ·have h0 : R.count n = 0 := List.count_eq_zero.2 hR
    have hin : 1 ≤ inK m (m.1.2.1.map (·.1)) n := by omega
    have : ∃ b ∈ m.1.2.1.map (·.1),n ∈ qr3 (ndOf m b) := by
     refine Classical.byContradiction fun hno => ?_
     have : inK m (m.1.2.1.map (·.1)) n = 0 := by
      unfold inK
      refine List.sum_eq_zero_iff_forall_eq_nat.2 fun x hx => ?_
      obtain ⟨b,hb,rfl⟩ := List.mem_map.1 hx
      exact List.count_eq_zero.2 fun hk => hno ⟨b,hb,hk⟩
     omega
    obtain ⟨b,hb,hk⟩ := this
    have hbl : cnt m b ≠ 0 := by
     obtain ⟨c,hc⟩ := Option.isSome_iff_exists.1 (qc1.2 hb)
     have := (h.wf.pos b c hc).1
     unfold cnt
     rw [hc]; simp; omega
    obtain ⟨Lb,qb,b1,b2,_⟩ := h.live b hbl
    obtain ⟨L',q',e,ht⟩ := tr_kids b2 hk
    have e1 := (tr_nd hT).1
    have e2 := (tr_nd ht).1
    obtain ⟨r,hr,hbr⟩ := ih Lb (by omega) b2
    have hrl : cnt m r ≠ 0 := rc_live h.rc hr
    obtain ⟨Lr,qr,_,hr2,_⟩ := h.live r hrl
    refine ⟨r,hr,?_⟩
    rw [blksM_tr hr2] at hbr ⊢
    exact blks_kid hr2 hbr hk
 intro n hn
 obtain ⟨L,q,h1,h2,_⟩ := h.live n hn
 exact key (12 - L) L (by omega) h2
theorem used_le {K : Nat} {m : Mem} {R : List Int} (h : StM K m R) : used m ≤ (R.flatMap (blksM m)).length := by
 have := sub_len (l := m.1.2.1.map (·.1)) (r := R.flatMap (blksM m)) h.wf.nodup fun n hn => by
  have hl : cnt m n ≠ 0 := by
   obtain ⟨c,hc⟩ := Option.isSome_iff_exists.1 (qc1.2 hn)
   have := (h.wf.pos n c hc).1
   unfold cnt
   rw [hc]; simp; omega
  obtain ⟨r,hr,hb⟩ := live_from h hl
  exact List.mem_flatMap.2 ⟨r,hr,hb⟩
 rw [List.length_map] at this
 exact this
theorem used_nil {K : Nat} {m : Mem} (h : StM K m []) : used m = 0 := by
 have := used_le h
 simpa using this
theorem free_eq {K : Nat} {m : Mem} {R : List Int} (h : StM K m R) (hu : used m ≤ 2000000) : qX0 m = some (m.1.1 - 2 - (used m : Int),m) := by
 have := h.wf.blk
 unfold qX0 qV1
 simp only [Option.bind_some]
 rw [w64 (n := m.1.1 - 2) (by omega) (by omega),show ((m.1.2.1.length : Nat) : Int) = (used m : Int) from rfl,w64 (by omega) (by omega)]
theorem new_eq {most : Int} (h : 0 ≤ most ∧ most ≤ 1048576) : ∃ m,qp1 most = some m ∧ StM 1 m [] ∧ m.1.1 = most + 2 ∧ used m = 0 := by
 unfold qp1 refs_New
 have e1 : max most 0 = most := by omega
 have e2 : min most 1048576 = most := by omega
 simp only [e1,e2,Option.bind_some]
 rw [w64 (by omega) (by omega)]
 have e3 : max (2 + most) 2 = 2 + most := by omega
 have e4 : min (2 + most) 4294967296 = 2 + most := by omega
 rw [e3,e4]
 refine ⟨_,rfl,⟨⟨by simp only; omega,by simp only; omega,fun n h1 h2 => ?_,by simp,fun n c h => by cases h⟩,fun n hn => absurd rfl hn,fun n => by simp [inK,cnt,qJ2]⟩,by simp only; omega,rfl⟩
 simp only at h2; omega
end Go.Val
namespace Go.Val
open Go.RowKit Go.Lib
def K24s {β : Type} (q : List (Ky × β)) : Prop := ∀ p ∈ q,p.1.length = 24
def allS : Spn := (List.replicate 24 0,List.replicate 24 0,true)
theorem cb_zeros : ∀ (k : List UInt8) (n : Nat),k.length = n → 0 ≤ compareBytes k (List.replicate n 0)
 | [],0,_ => by decide
 | x :: k,n + 1,h => by
  have ih := cb_zeros k n (by simpa using h)
  rw [List.replicate_succ,compareBytes]
  by_cases h0 : x = 0
  ·subst h0; simpa using ih
  ·have : (0 : UInt8) < x := by
    have h1 : (0 : UInt8).toNat ≠ x.toNat := fun e => h0 (UInt8.toNat_inj.1 e.symm)
    rw [UInt8.lt_iff_toNat_lt]
    simp at h1 ⊢
    omega
   have h2 : ¬ x < 0 := by
    rw [UInt8.lt_iff_toNat_lt]
    simp
   simp [this,h2]
theorem inT_all {k : Ky} (h : k.length = 24) : inT allS k = true := by
 have := cb_zeros k 24 h
 show (decide (compareBytes k (List.replicate 24 0) ≥ 0) && (true || decide (compareBytes k (List.replicate 24 0) < 0))) = true
 rw [decide_eq_true this]
 rfl
theorem updF_one (f : Fn) (c : Cg) (k : Ky) : updF f [c] k = if k = c.1 then eff c.2 else f k := by
 have := updF_snoc f [] c
 rw [List.nil_append] at this
 rw [this]; rfl
theorem filter_all {q : List Pr} (h : K24s q) : (q.filter fun p => inT allS p.1) = q := List.filter_eq_self.2 fun p hp => inT_all (h p hp)
theorem get_zero {m : Mem} {k : Ky} : qW1 m 0 k = some (ByteArray.mk #[],false,0,m) := by
 rw [get_def,qR]
 simp [getB]
theorem count_root {m : Mem} (n : Int) : qO0 m n = some (cnt m n,m) := by
 unfold qO0
 rw [count_eq]
 rfl
theorem blks_level {m : Mem} : ∀ {L : Nat} {r b : Int} {q : List Pr},Tr m L r q → b ∈ blks L m r → ∃ L' q',L' ≤ L ∧ Tr m L' b q'
 | 0,r,b,q,h,hb => by
  rw [blks] at hb
  have e : b = r := by simpa using hb
  subst e
  exact ⟨0,q,by omega,h⟩
 | L + 1,r,b,q,h,hb => by
  rw [blks] at hb
  rcases List.mem_cons.1 hb with rfl | hb
  ·exact ⟨L + 1,q,by omega,h⟩
  ·obtain ⟨z,hz,hb⟩ := List.mem_flatMap.1 hb
   obtain ⟨L',q',e,ht⟩ := tr_kids h hz
   have e' : L = L' := by omega
   subst e'
   obtain ⟨L2,q2,a,b⟩ := blks_level ht hb
   exact ⟨L2,q2,by omega,b⟩
theorem root_count {K : Nat} {m : Mem} {r : Int} {L : Nat} {q : List Pr} (h : StM K m [r]) (hT : Tr m L r q) : cnt m r = 1 := by
 have hc := h.rc r
 have : inK m (m.1.2.1.map (·.1)) r = 0 := by
  unfold inK
  refine List.sum_eq_zero_iff_forall_eq_nat.2 fun x hx => ?_
  obtain ⟨b,hb,rfl⟩ := List.mem_map.1 hx
  refine List.count_eq_zero.2 fun hk => ?_
  have hbl : cnt m b ≠ 0 := by
   obtain ⟨c,hc⟩ := Option.isSome_iff_exists.1 (qc1.2 hb)
   have := (h.wf.pos b c hc).1
   unfold cnt
   rw [hc]; simp; omega
  obtain ⟨r',hr',hbr⟩ := live_from h hbl
  have e : r' = r := by simpa using hr'
  subst e
  rw [blksM_tr hT] at hbr
  obtain ⟨L',q',h1,h2⟩ := blks_level hT hbr
  obtain ⟨L2,q2,e2,h3⟩ := tr_kids h2 hk
  have e3 := (tr_nd hT).1
  have e4 := (tr_nd h3).1
  omega
 rw [this] at hc
 simpa using hc
theorem shown_eq : qx2 = some true := by
 obtain ⟨m0,a1,a2,a3,a4⟩ := new_eq (most := 100) (by omega)
 unfold qx2
 rw [a1]
 simp only [Option.bind_some]
 generalize hk : (List.set (List.replicate 24 (0 : UInt8)) 0 (UInt8.ofNat 7)) = k
 have hk24 : k.length = 24 := by rw [← hk]; simp
 obtain ⟨a,m1,c1,b1,b2,b3,b4,b5,b6,b7,_⟩ := apply_eq (l := [(k,ByteArray.mk #[49],false)]) (r := 0) (q := []) a2 (by omega) (by omega) (.inl ⟨rfl,rfl⟩) (by simp [Rising,Asc]) (fun p hp => by cases hp) (fun c hc => by
  have := List.mem_singleton.1 hc; subst this; exact (by decide : (1 : Nat) ≤ 40)) (by simp) (by rw [a3,a4]; simp)
 have q1 : qB3 [] [(k,ByteArray.mk #[49],false)] = [(k,ByteArray.mk #[49])] := by
  refine q63 (qG1 _ _) (by simp [Rising,Asc]) fun k' => ?_
  rw [qg3,updF_one,qN]
  rfl
 rw [q1] at b2 b7
 have ha : a ≠ 0 := by
  rcases b2 with h | h
  ·exact absurd h.2 (by simp)
  ·exact h.1
 obtain ⟨L,hT⟩ := root_tr b2 ha
 rw [b1]
 simp only [Option.bind_some]
 have hr1 : Rising [(k,ByteArray.mk #[49])] := by simp [Rising,Asc]
 have hs1 : qi5 [(k,ByteArray.mk #[49])] := fun p hp => by have := List.mem_singleton.1 hp; subst this; exact (by decide : (1 : Nat) ≤ 40)
 simp only [List.length_singleton] at b7
 obtain ⟨b,m2,c2,d1,d2,d3,d4,d5,d6,d7,_⟩ := apply_eq (l := [(k,ByteArray.mk #[],true)]) b4 (by omega) (by omega) b2 hr1 hs1 (fun c hc => by
  have := List.mem_singleton.1 hc; subst this; exact (by decide : (0 : Nat) ≤ 40)) (by simp) (by rw [b5,a3]; simp; omega)
 have q2 : qB3 [(k,ByteArray.mk #[49])] [(k,ByteArray.mk #[],true)] = [] := by
  refine q63 (qG1 _ _) (by simp [Rising,Asc]) fun k' => ?_
  rw [qg3,fn_rising hr1,updF_one,qN]
  by_cases h : k' = k <;> simp [h,eff,qJ2]
 rw [q2] at d2 d7
 simp only [List.length_nil] at d7
 have hb : b = 0 := by
  rcases d2 with h | ⟨_,L',h⟩
  ·exact h.1
  ·exact absurd rfl (tr_ne h)
 subst hb
 rw [d1]
 simp only [Option.bind_some]
 have hT2 := Tr.ext d3 hT
 have d4' : StM (1 + c1 + c2) m2 [a] := by simpa [rl,ha] using d4
 rw [get_eq d4'.wf hT2 hr1]
 simp only [Option.bind_some]
 rw [get_zero]
 simp only [Option.bind_some]
 rw [show q74 = some allS from rfl]
 simp only [Option.bind_some]
 have hL := tr_level hT2 (by simp)
 rw [scan_eq d4'.wf (by omega) hT2 hr1 (by simp),filter_all (q := [(k,ByteArray.mk #[49])]) (fun p hp => by have := List.mem_singleton.1 hp; subst this; exact hk24)]
 have hg : mget [(k,ByteArray.mk #[49])] k = some (ByteArray.mk #[49]) := by simp [qN]
 rw [hg]
 simp only [Option.bind_some,decide_true,cond_true,Option.getD_some,Option.isSome_some,Bool.not_false,List.length_singleton]
 have h11 : decide (((1 : Nat) : Int) = 1) = true := by decide
 rw [h11]
 simp only [cond_true]
 rw [count_root]
 simp only [Option.bind_some,root_count d4' hT2,decide_true,cond_true]
 rw [check_eq d4'.wf hT2 hr1 hs1 (by simp)]
 simp only [Option.bind_some,decide_true,cond_true]
 obtain ⟨m3,e1,e2,e3,e4,e5⟩ := release_eq (R := []) (.inr ⟨ha,L,hT2⟩) (by simpa [rl,ha] using d4') (by omega) (by simp)
 rw [e1]
 simp only [Option.bind_some,decide_true,cond_true]
 rw [free_eq e2 (by rw [used_nil e2]; omega),used_nil e2,e4,d5,b5,a3]
 rfl
end Go.Val
namespace Go.Val
open Go.RowKit Go.Lib
structure Grown (m : Mem) (r : Int) (q : List Pr) (c : Nat) : Prop where
 root : Root m r q
 st : StM (1 + c) m (rl r)
 ris : Rising q
 short : qi5 q
 k24 : K24s q
 len : q.length ≤ 80
 blk : m.1.1 = 3002
 used : used m ≤ c
 cost : 2 * c ≤ q.length + 1
end Go.Val
namespace Go.Val
open Go.RowKit Go.Lib
theorem cb_pre : ∀ (D a b : List UInt8),compareBytes (D ++ a) (D ++ b) = compareBytes a b
 | [],a,b => rfl
 | x :: D,a,b => by
  have h1 : ¬ x < x := by rw [UInt8.lt_iff_toNat_lt]; omega
  rw [List.cons_append,List.cons_append,compareBytes]
  simp only [h1,if_false]
  exact cb_pre D a b
theorem less_eq {a b : Ky} (ha : a.length = 24) (hb : b.length = 24) : qy0 a b = some (decide (Lt a b)) := by
 unfold qy0
 refine q52 (Q := fun o => o = some (decide (Lt a b))) (fun v => ∃ D A B,a = D ++ A ∧ b = D ++ B ∧ v = (D.length : Int)) (fun v => (24 - v).toNat)
  (fun o => Sum.elim (fun (_ : Unit) => some false) (fun w => some w) o = some (decide (Lt a b))) ⟨[],a,b,rfl,rfl,rfl⟩ ?_ (fun o h => h)
 rintro v ⟨D,A,B,e1,e2,rfl⟩
 have la : D.length + A.length = 24 := by rw [← ha,e1]; simp
 have lb : D.length + B.length = 24 := by rw [← hb,e2]; simp
 match A,B with
 | [],[] =>
  right
  have t : ¬ ((D.length : Int) < 24) := by simp at la; omega
  refine ⟨.inl (),by simp only [t,decide_false,cond_false],?_⟩
  have e : a = b := by rw [e1,e2]
  subst e
  simp [lt_irrefl]
 | [],y :: B' => simp at la lb; omega
 | x :: A',[] => simp at la lb; omega
 | x :: A',y :: B' =>
  simp only [List.length_cons] at la lb
  have t : ((D.length : Int) < 24) := by omega
  have t1 : (0 ≤ (D.length : Int) ∧ (D.length : Int) < 24) := by omega
  have ga : gx a (D.length : Int) = some x := by rw [e1]; exact qJ1 rfl
  have gb : gx b (D.length : Int) = some y := by rw [e2]; exact qJ1 rfl
  have c1 : ck true = some () := rfl
  simp only [t,decide_true,cond_true,t1,and_self,c1,Option.bind_some,ga,gb]
  by_cases hxy : x = y
  ·left
   subst hxy
   refine ⟨(D.length : Int) + 1,?_,⟨D ++ [x],A',B',by simp [e1],by simp [e2],by simp⟩,by omega⟩
   simp only [ne_eq,not_true_eq_false,decide_false,cond_false]
   rw [w64 (by omega) (by omega)]
  ·right
   have hn : ((x.toNat : Int) ≠ (y.toNat : Int)) := fun e => hxy (UInt8.toNat_inj.1 (by omega))
   refine ⟨.inr (decide ((x.toNat : Int) < (y.toNat : Int))),by simp only [hn,ne_eq,not_false_eq_true,decide_true,cond_true],?_⟩
   simp only [Sum.elim_inr]
   congr 1
   rw [e1,e2,decide_eq_decide]
   unfold Lt
   rw [cb_pre,compareBytes]
   by_cases h1 : x < y
   ·have := UInt8.lt_iff_toNat_lt.1 h1
    simp [h1]
    omega
   ·by_cases h2 : y < x
    ·have := UInt8.lt_iff_toNat_lt.1 h2
     simp [h1,h2]
     omega
    ·have e1 : ¬ x.toNat < y.toNat := fun q => h1 (UInt8.lt_iff_toNat_lt.2 q)
     have e2 : ¬ y.toNat < x.toNat := fun q => h2 (UInt8.lt_iff_toNat_lt.2 q)
     omega
end Go.Val
namespace Go.Val
open Go.RowKit Go.Lib
theorem qV4 {β : Type} {D : List (Ky × β)} {y z : Ky × β} : Rising (D ++ [y] ++ [z]) ↔ Rising (D ++ [y]) ∧ Lt y.1 z.1 := by
 rw [qI]
 constructor
 ·rintro ⟨h1,h2,h3⟩
  exact ⟨h1,h3 y (by simp) z (by simp)⟩
 ·rintro ⟨h1,h2⟩
  refine ⟨h1,by simp [Rising,Asc],fun x hx w hw => ?_⟩
  have : w = z := by simpa using hw
  subst this
  rcases List.mem_append.1 hx with hx | hx
  ·exact lt_trans ((qI.1 h1).2.2 x hx y (by simp)) h2
  ·have : x = y := by simpa using hx
   rw [this]; exact h2
theorem refPairs_loop {ps : List Pr} (hk : K24s ps) (hn : ps.length ≤ 1000000) : ∃ o,qQ (V := Int) (O := (Unit ⊕ Bool)) (fun v265 =>
     cond (decide (v265 < (ps.length : Int))) (
      (gx ps v265).bind fun x272 =>
      cond (decide ((x272.2.size : Int) > 40)) (
       some (.inr (.inr false))
      ) (
       (((
        cond (decide (v265 > 0)) (
         (gx ps (IntKind.wrap .i64 (v265 - 1))).bind fun x294 =>
         (qy0 x294.1 x272.1).bind fun x297 =>
         some (!x297)
        ) (
         some false
        )
       ) : Option Bool)).bind fun o288 =>
       cond o288 (
        some (.inr (.inr false))
       ) (
        some (.inl (IntKind.wrap .i64 (v265 + 1)))
       )
      )
     ) (
      some (.inr (.inl ()))
     )
    ) 0 = some o ∧ ((o = .inl () ∧ qi5 ps ∧ Rising ps) ∨ (o = .inr false ∧ ¬ (qi5 ps ∧ Rising ps))) := by
 refine whileO_ex (fun v => ∃ D Z,ps = D ++ Z ∧ v = (D.length : Int) ∧ qi5 D ∧ Rising D) (fun v => ((ps.length : Int) - v).toNat) ⟨[],ps,rfl,rfl,(fun p hp => by cases hp),by simp [Rising,Asc]⟩ ?_
 rintro v ⟨D,Z,e1,rfl,h1,h2⟩
 have hl : ps.length = D.length + Z.length := by rw [e1]; simp
 match Z with
 | [] =>
  right
  have t : ¬ ((D.length : Int) < (ps.length : Int)) := by simp at hl; omega
  rw [List.append_nil] at e1
  exact ⟨.inl (),by simp only [t,decide_false,cond_false],.inl ⟨rfl,by rw [e1]; exact ⟨h1,h2⟩⟩⟩
 | z :: Z' =>
  simp only [List.length_cons] at hl
  have t : ((D.length : Int) < (ps.length : Int)) := by omega
  have g0 : gx ps (D.length : Int) = some z := by rw [e1]; exact qJ1 rfl
  simp only [t,decide_true,cond_true,g0,Option.bind_some]
  by_cases hz : (z.2.size : Int) > 40
  ·right
   refine ⟨.inr false,by simp only [hz,decide_true,cond_true],.inr ⟨rfl,fun h => ?_⟩⟩
   have := h.1 z (by rw [e1]; simp)
   omega
  ·have hs : qi5 (D ++ [z]) := fun p hp => by
    rcases List.mem_append.1 hp with hp | hp
    ·exact h1 p hp
    ·have : p = z := by simpa using hp
     rw [this]; omega
   rcases qD0 D with rfl | ⟨D',y,rfl⟩
   ·left
    refine ⟨1,?_,⟨[z],Z',by simp [e1],rfl,hs,by simp [Rising,Asc]⟩,by simp at hl ⊢; omega⟩
    simp only [hz,decide_false,cond_false,List.length_nil,Int.lt_irrefl,Option.bind_some]
    simp
    rfl
   ·have hly : (((D' ++ [y]).length : Nat) : Int) = (D'.length : Int) + 1 := by simp
    have w0 : IntKind.wrap .i64 ((((D' ++ [y]).length : Nat) : Int) - 1) = (D'.length : Int) := by rw [w64 (by omega) (by omega)]; omega
    have g1 : gx ps (D'.length : Int) = some y := by rw [e1,List.append_assoc,List.singleton_append]; exact qJ1 rfl
    have t3 : (((D' ++ [y]).length : Nat) : Int) > 0 := by omega
    simp only [hz,decide_false,cond_false,t3,decide_true,cond_true,w0,g1,Option.bind_some]
    rw [less_eq (hk y (by rw [e1]; simp)) (hk z (by rw [e1]; simp))]
    simp only [Option.bind_some]
    by_cases hlt : Lt y.1 z.1
    ·left
     refine ⟨((D' ++ [y]).length : Int) + 1,?_,⟨D' ++ [y] ++ [z],Z',by simp [e1],by simp; omega,hs,qV4.2 ⟨h2,hlt⟩⟩,by omega⟩
     simp only [hlt,decide_true,Bool.not_true,cond_false]
     rw [w64 (by omega) (by omega)]
    ·right
     refine ⟨.inr false,by simp only [hlt,decide_false,Bool.not_false,cond_true],.inr ⟨rfl,fun h => hlt ?_⟩⟩
     have := h.2
     rw [e1,show D' ++ [y] ++ z :: Z' = (D' ++ [y] ++ [z]) ++ Z' by simp] at this
     exact (qV4.1 (qI.1 this).1).2
theorem refSeen_loop {ks : List Kd} {D Z : List Kd} {z : Kd} (e1 : ks = D ++ z :: Z) (hn : ks.length ≤ 1000000) : ∃ o,qQ (V := Int) (O := (Unit ⊕ Bool)) (fun v1529 =>
           cond (decide (v1529 < (D.length : Int))) (
            (gx ks v1529).bind fun x1536 =>
            (gx ks (D.length : Int)).bind fun x1539 =>
            cond (decide (x1536.2 = x1539.2)) (
             some (.inr (.inr false))
            ) (
             some (.inl (IntKind.wrap .i64 (v1529 + 1)))
            )
           ) (
            some (.inr (.inl ()))
           )
          ) 0 = some o ∧ ((o = .inl () ∧ z.2 ∉ D.map (·.2)) ∨ (o = .inr false ∧ z.2 ∈ D.map (·.2))) := by
 refine whileO_ex (fun v => ∃ A B,D = A ++ B ∧ v = (A.length : Int) ∧ z.2 ∉ A.map (·.2)) (fun v => ((D.length : Int) - v).toNat) ⟨[],D,rfl,rfl,by simp⟩ ?_
 rintro v ⟨A,B,e2,rfl,h1⟩
 have hl : D.length = A.length + B.length := by rw [e2]; simp
 have hlk : ks.length = D.length + (Z.length + 1) := by rw [e1]; simp
 match B with
 | [] =>
  right
  have t : ¬ ((A.length : Int) < (D.length : Int)) := by simp at hl; omega
  rw [List.append_nil] at e2
  exact ⟨.inl (),by simp only [t,decide_false,cond_false],.inl ⟨rfl,by rw [e2]; exact h1⟩⟩
 | b :: B' =>
  simp only [List.length_cons] at hl
  have t : ((A.length : Int) < (D.length : Int)) := by omega
  have g0 : gx ks (A.length : Int) = some b := by rw [e1,e2,List.append_assoc,List.cons_append]; exact qJ1 rfl
  have g1 : gx ks (D.length : Int) = some z := by rw [e1]; exact qJ1 rfl
  simp only [t,decide_true,cond_true,g0,g1,Option.bind_some]
  by_cases hb : b.2 = z.2
  ·right
   exact ⟨.inr false,by simp only [hb,decide_true,cond_true],.inr ⟨rfl,by rw [e2]; simp [hb]⟩⟩
  ·left
   refine ⟨(A.length : Int) + 1,?_,⟨A ++ [b],B',by simp [e2],by simp,?_⟩,by omega⟩
   ·simp only [hb,decide_false,cond_false]
    rw [w64 (by omega) (by omega)]
   ·rw [List.map_append,List.mem_append]
    rintro (h | h)
    ·exact h1 h
    ·have h' : z.2 = b.2 := by simpa using h
     exact hb h'.symm
theorem nodup_snoc {l : List Int} {x : Int} : (l ++ [x]).Nodup ↔ l.Nodup ∧ x ∉ l := by
 rw [List.nodup_append]
 constructor
 ·rintro ⟨h1,_,h3⟩
  exact ⟨h1,fun hx => h3 x hx x (by simp) rfl⟩
 ·rintro ⟨h1,h2⟩
  refine ⟨h1,by simp,fun a ha b hb => ?_⟩
  have : b = x := by simpa using hb
  rw [this]
  intro e; exact h2 (e ▸ ha)
theorem refKids_loop {ks : List Kd} (hk : K24s ks) (hn : ks.length ≤ 1000000) : ∃ o,qQ (V := Int) (O := (Unit ⊕ Bool)) (fun v1341 =>
      cond (decide (v1341 < (ks.length : Int))) (
       (((
        (((
         (gx ks v1341).bind fun x1460 =>
         cond (decide (x1460.2 < 2)) (
          some true
         ) (
          some (decide (x1460.2 > 4294967295))
         )
        ) : Option Bool)).bind fun o1457 =>
        cond o1457 (
         some (.inr false)
        ) (
         (((
          cond (decide (v1341 > 0)) (
           (gx ks (IntKind.wrap .i64 (v1341 - 1))).bind fun x1489 =>
           (gx ks v1341).bind fun x1492 =>
           (qy0 x1489.1 x1492.1).bind fun x1495 =>
           some (!x1495)
          ) (
           some false
          )
         ) : Option Bool)).bind fun o1483 =>
         cond o1483 (
          some (.inr false)
         ) (
          qQ (V := Int) (O := (Unit ⊕ Bool)) (fun v1529 =>
           cond (decide (v1529 < v1341)) (
            (gx ks v1529).bind fun x1536 =>
            (gx ks v1341).bind fun x1539 =>
            cond (decide (x1536.2 = x1539.2)) (
             some (.inr (.inr false))
            ) (
             some (.inl (IntKind.wrap .i64 (v1529 + 1)))
            )
           ) (
            some (.inr (.inl ()))
           )
          ) 0
         )
        )
       ) : Option (Unit ⊕ Bool))).bind fun o1445 =>
       Sum.elim (fun (v1551 : Unit) =>
        some (.inl (IntKind.wrap .i64 (v1341 + 1)))
       ) (fun w1554 =>
        some (.inr (.inr w1554))
       ) o1445
      ) (
       some (.inr (.inl ()))
      )
     ) 0 = some o ∧ ((o = .inl () ∧ qf5 ks ∧ Rising ks) ∨ (o = .inr false ∧ ¬ (qf5 ks ∧ Rising ks))) := by
 refine whileO_ex (fun v => ∃ D Z,ks = D ++ Z ∧ v = (D.length : Int) ∧ qf5 D ∧ Rising D) (fun v => ((ks.length : Int) - v).toNat) ⟨[],ks,rfl,rfl,⟨by simp,by simp⟩,by simp [Rising,Asc]⟩ ?_
 rintro v ⟨D,Z,e1,rfl,h1,h2⟩
 have hl : ks.length = D.length + Z.length := by rw [e1]; simp
 match Z with
 | [] =>
  right
  have t : ¬ ((D.length : Int) < (ks.length : Int)) := by simp at hl; omega
  rw [List.append_nil] at e1
  exact ⟨.inl (),by simp only [t,decide_false,cond_false],.inl ⟨rfl,by rw [e1]; exact ⟨h1,h2⟩⟩⟩
 | z :: Z' =>
  simp only [List.length_cons] at hl
  have t : ((D.length : Int) < (ks.length : Int)) := by omega
  have g0 : gx ks (D.length : Int) = some z := by rw [e1]; exact qJ1 rfl
  simp only [t,decide_true,cond_true,g0,Option.bind_some]
  have hb : (cond (decide (z.2 < 2)) (some true) (some (decide (z.2 > 4294967295))) : Option Bool) = some (!decide (2 ≤ z.2 ∧ z.2 ≤ 4294967295)) := by
   by_cases h : z.2 < 2
   ·have : ¬ (2 ≤ z.2 ∧ z.2 ≤ 4294967295) := by omega
    simp [h,this]
   ·by_cases h' : z.2 > 4294967295
    ·have : ¬ (2 ≤ z.2 ∧ z.2 ≤ 4294967295) := by omega
     simp [h,h',this]
    ·have : (2 ≤ z.2 ∧ z.2 ≤ 4294967295) := by omega
     simp [h,h',this]
  rw [hb]
  simp only [Option.bind_some]
  by_cases hz : 2 ≤ z.2 ∧ z.2 ≤ 4294967295
  ·simp only [hz,and_self,decide_true,Bool.not_true,cond_false]
   have hord : ∃ bo,((cond (decide ((D.length : Int) > 0)) (
           (gx ks (IntKind.wrap .i64 ((D.length : Int) - 1))).bind fun x1489 =>
           (qy0 x1489.1 z.1).bind fun x1495 =>
           some (!x1495)
          ) (
           some false
          )) : Option Bool) = some bo ∧ (bo = false ↔ Rising (D ++ [z])) := by
    rcases qD0 D with rfl | ⟨D',y,rfl⟩
    ·exact ⟨false,by simp,by simp [Rising,Asc]⟩
    ·have hly : (((D' ++ [y]).length : Nat) : Int) = (D'.length : Int) + 1 := by simp
     have w0 : IntKind.wrap .i64 ((((D' ++ [y]).length : Nat) : Int) - 1) = (D'.length : Int) := by rw [w64 (by omega) (by omega)]; omega
     have g1 : gx ks (D'.length : Int) = some y := by rw [e1,List.append_assoc,List.singleton_append]; exact qJ1 rfl
     have t3 : (((D' ++ [y]).length : Nat) : Int) > 0 := by omega
     refine ⟨!decide (Lt y.1 z.1),?_,?_⟩
     ·simp only [t3,decide_true,cond_true,w0,g1,Option.bind_some]
      rw [less_eq (hk y (by rw [e1]; simp)) (hk z (by rw [e1]; simp))]
      rfl
     ·rw [qV4]; simp [h2]
   obtain ⟨bo,o1,o2⟩ := hord
   rw [o1]
   simp only [Option.bind_some]
   cases bo with
   | true =>
    right
    refine ⟨.inr false,by simp only [cond_true,Option.bind_some,Sum.elim_inr],.inr ⟨rfl,fun h => ?_⟩⟩
    have := h.2
    rw [e1,show D ++ z :: Z' = (D ++ [z]) ++ Z' by simp] at this
    have := o2.2 (qI.1 this).1
    cases this
   | false =>
    have hr := o2.1 rfl
    simp only [cond_false]
    obtain ⟨o,s1,s2⟩ := refSeen_loop e1 hn
    rw [g0] at s1
    simp only [Option.bind_some] at s1
    rw [s1]
    simp only [Option.bind_some]
    rcases s2 with ⟨rfl,s2⟩ | ⟨rfl,s2⟩
    ·left
     refine ⟨(D.length : Int) + 1,?_,⟨D ++ [z],Z',by simp [e1],by simp,⟨fun k hk' => ?_,?_⟩,hr⟩,by omega⟩
     ·simp only [Sum.elim_inl]
      rw [w64 (by omega) (by omega)]
     ·rcases List.mem_append.1 hk' with h | h
      ·exact h1.1 k h
      ·have : k = z := by simpa using h
       rw [this]; exact hz
     ·rw [List.map_append]; exact nodup_snoc.2 ⟨h1.2,s2⟩
    ·right
     refine ⟨.inr false,by simp only [Sum.elim_inr],.inr ⟨rfl,fun h => ?_⟩⟩
     have := h.1.2
     rw [e1,show D ++ z :: Z' = (D ++ [z]) ++ Z' by simp,List.map_append,List.map_append] at this
     exact (nodup_snoc.1 (List.nodup_append.1 this).1).2 s2
  ·right
   refine ⟨.inr false,by simp only [hz,decide_false,Bool.not_false,cond_true,Option.bind_some,Sum.elim_inr],.inr ⟨rfl,fun h => hz (h.1.1 z (by rw [e1]; simp))⟩⟩
theorem q25 {x : Nd} (hp : K24s x.2.1) (hk : K24s x.2.2) (h1 : x.2.1.length ≤ 1000000) (h2 : x.2.2.length ≤ 1000000) : ∃ b,qy2 x = some b ∧ (b = true ↔ qO4 x) := by
 obtain ⟨l,ps,ks⟩ := x
 simp only at hp hk h1 h2
 unfold qy2 qO4
 simp only
 have hlv : (cond (decide (l < 0)) (some true) (some (decide (l > 11))) : Option Bool) = some (!decide (0 ≤ l ∧ l < 12)) := by
  by_cases h : l < 0
  ·have : ¬ (0 ≤ l ∧ l < 12) := by omega
   simp [h,this]
  ·by_cases h' : l > 11
   ·have : ¬ (0 ≤ l ∧ l < 12) := by omega
    simp [h,h',this]
   ·have : (0 ≤ l ∧ l < 12) := by omega
    simp [h,h',this]
 rw [hlv]
 simp only [Option.bind_some]
 by_cases hl : 0 ≤ l ∧ l < 12
 ·simp only [hl,and_self,decide_true,Bool.not_true,cond_false,true_and]
  have hsh : ∃ b,((
   cond (decide (l = 0)) (
    cond (decide ((ps.length : Int) < 1)) (
     some true
    ) (
     cond (decide ((ps.length : Int) > 7)) (
      some true
     ) (
      cond (decide ((ks.length : Int) > 0)) (
       some true
      ) (
       cond (decide (l > 0)) (
        cond (decide ((ks.length : Int) < 2)) (
         some true
        ) (
         cond (decide ((ks.length : Int) > 18)) (
          some true
         ) (
          some (decide ((ps.length : Int) > 0))
         )
        )
       ) (
        some false
       )
      )
     )
    )
   ) (
    cond (decide (l > 0)) (
     cond (decide ((ks.length : Int) < 2)) (
      some true
     ) (
      cond (decide ((ks.length : Int) > 18)) (
       some true
      ) (
       some (decide ((ps.length : Int) > 0))
      )
     )
    ) (
     some false
    )
   )
  ) : Option Bool) = some b ∧ (b = false ↔ ((l = 0 → 1 ≤ ps.length ∧ ps.length ≤ 7 ∧ ks.length = 0) ∧ (0 < l → 2 ≤ ks.length ∧ ks.length ≤ 18 ∧ ps.length = 0))) := by
   by_cases h0 : l = 0
   ·subst h0
    by_cases a1 : ((ps.length : Int) < 1)
    ·exact ⟨true,by simp only [a1,decide_false,decide_true,cond_false,cond_true],by simp only [Bool.true_eq_false,false_iff]; intro h; have := h.1 (by first | trivial | rfl); omega⟩
    ·by_cases a2 : ((ps.length : Int) > 7)
     ·exact ⟨true,by simp only [a1,a2,decide_false,decide_true,cond_false,cond_true],by simp only [Bool.true_eq_false,false_iff]; intro h; have := h.1 (by first | trivial | rfl); omega⟩
     ·by_cases a3 : ((ks.length : Int) > 0)
      ·exact ⟨true,by simp only [a1,a2,a3,decide_false,decide_true,cond_false,cond_true],by simp only [Bool.true_eq_false,false_iff]; intro h; have := h.1 (by first | trivial | rfl); omega⟩
      ·have a4 : ¬ ((0 : Int) > 0) := by omega
       exact ⟨false,by simp only [a1,a2,a3,a4,decide_false,decide_true,cond_false,cond_true],by simp only [true_iff]; exact ⟨fun _ => by omega,fun h => by omega⟩⟩
   ·have hp : l > 0 := by omega
    by_cases a1 : ((ks.length : Int) < 2)
    ·exact ⟨true,by simp only [h0,hp,a1,decide_false,decide_true,cond_false,cond_true],by simp only [Bool.true_eq_false,false_iff]; intro h; have := h.2 hp; omega⟩
    ·by_cases a2 : ((ks.length : Int) > 18)
     ·exact ⟨true,by simp only [h0,hp,a1,a2,decide_false,decide_true,cond_false,cond_true],by simp only [Bool.true_eq_false,false_iff]; intro h; have := h.2 hp; omega⟩
     ·by_cases a3 : ((ps.length : Int) > 0)
      ·exact ⟨true,by simp only [h0,hp,a1,a2,a3,decide_false,decide_true,cond_false,cond_true],by simp only [Bool.true_eq_false,false_iff]; intro h; have := h.2 hp; omega⟩
      ·exact ⟨false,by simp only [h0,hp,a1,a2,a3,decide_false,decide_true,cond_false,cond_true],by simp only [true_iff]; exact ⟨fun h => absurd h h0,fun _ => by omega⟩⟩
  obtain ⟨b,s1,s2⟩ := hsh
  rw [s1]
  simp only [Option.bind_some]
  cases b with
  | false =>
   have hs := s2.1 rfl
   simp only [cond_false]
   obtain ⟨o,p1,p2⟩ := refPairs_loop hp h1
   rw [p1]
   simp only [Option.bind_some]
   rcases p2 with ⟨rfl,p2⟩ | ⟨rfl,p2⟩
   ·simp only [Sum.elim_inl]
    obtain ⟨o',k1,k2⟩ := refKids_loop hk h2
    rw [k1]
    simp only [Option.bind_some]
    rcases k2 with ⟨rfl,k2⟩ | ⟨rfl,k2⟩
    ·exact ⟨true,rfl,by simp only [true_iff]; exact ⟨hs.1,hs.2,p2.1,k2.1,p2.2,k2.2⟩⟩
    ·exact ⟨false,rfl,by simp only [Bool.false_eq_true,false_iff]; exact fun h => k2 ⟨h.2.2.2.1,h.2.2.2.2.2⟩⟩
   ·exact ⟨false,rfl,by simp only [Bool.false_eq_true,false_iff]; exact fun h => p2 ⟨h.2.2.1,h.2.2.2.2.1⟩⟩
  | true =>
   exact ⟨false,rfl,by simp only [Bool.false_eq_true,false_iff]; exact fun h => by have := s2.2 ⟨h.1,h.2.1⟩; cases this⟩
 ·simp only [hl,decide_false,Bool.not_false,cond_true]
  exact ⟨false,rfl,by simp only [Bool.false_eq_true,false_iff]; exact fun h => hl ⟨h.1,h.2.1⟩⟩
end Go.Val
namespace Go.Val
open Go.RowKit Go.Lib
abbrev Ent := List (Int × Nd)
def EntOk (E : Ent) : Prop := ∀ n x,mget E n = some x → K24s x.2.1 ∧ K24s x.2.2 ∧ x.2.1.length ≤ 1000000 ∧ x.2.2.length ≤ 1000000
theorem bagGet_eq {E : Ent} {n : Int} (hn : E.length ≤ 1000000) : qG0 E n = some (match mget E n with
  | some x => (x,0)
  | none => ((0,[],[]),1)) := by
 unfold qG0
 refine q52 (Q := fun (o : Option (Nd × Int)) => o = some (match mget E n with
  | some x => (x,0)
  | none => ((0,[],[]),1))) (fun v => ∃ A B,E = A ++ B ∧ v = (A.length : Int) ∧ mget A n = none) (fun v => ((E.length : Int) - v).toNat)
  (fun (o : Unit ⊕ (Nd × Int)) => Sum.elim (fun (_ : Unit) => some ((0,[],[]),1)) (fun w => some w) o = some (match mget E n with
  | some x => (x,0)
  | none => ((0,[],[]),1))) ⟨[],E,rfl,rfl,rfl⟩ ?_ (by intro o h; exact h)
 rintro v ⟨A,B,h1,rfl,h2⟩
 have hl : E.length = A.length + B.length := by rw [h1]; simp
 match B with
 | [] =>
  right
  have t : ¬ ((A.length : Int) < (E.length : Int)) := by simp at hl; omega
  rw [List.append_nil] at h1
  refine ⟨.inl (),by simp only [t,decide_false,cond_false],?_⟩
  rw [h1,h2]; rfl
 | p :: B' =>
  simp only [List.length_cons] at hl
  have t : ((A.length : Int) < (E.length : Int)) := by omega
  have g0 : gx E (A.length : Int) = some p := by rw [h1]; exact qJ1 rfl
  by_cases hp : p.1 = n
  ·right
   refine ⟨.inr (p.2,0),by simp only [t,decide_true,cond_true,g0,Option.bind_some,hp],?_⟩
   rw [h1,qI0,h2,qN,if_pos hp.symm]
   rfl
  ·left
   refine ⟨(A.length : Int) + 1,?_,⟨A ++ [p],B',by simp [h1],by simp,?_⟩,by omega⟩
   ·simp only [t,decide_true,cond_true,g0,Option.bind_some,hp,decide_false,cond_false]
    rw [w64 (by omega) (by omega)]
   ·rw [qI0,h2,qN,if_neg (fun e => hp e.symm)]
    rfl
theorem refFind_eq {E : Ent} {n : Int} (hn : E.length ≤ 1000000) : qx1 E n = some (match mget E n with
  | some x => (x,true)
  | none => ((0,[],[]),false)) := by
 unfold qx1
 refine q52 (Q := fun o => o = some (match mget E n with
  | some x => (x,true)
  | none => ((0,[],[]),false))) (fun v => ∃ A B,E = A ++ B ∧ v = (A.length : Int) ∧ mget A n = none) (fun v => ((E.length : Int) - v).toNat)
  (fun o => Sum.elim (fun (_ : Unit) => some ((0,[],[]),false)) (fun w => some w) o = some (match mget E n with
  | some x => (x,true)
  | none => ((0,[],[]),false))) ⟨[],E,rfl,rfl,rfl⟩ ?_ (fun o h => h)
 rintro v ⟨A,B,h1,rfl,h2⟩
 have hl : E.length = A.length + B.length := by rw [h1]; simp
 match B with
 | [] =>
  right
  have t : ¬ ((A.length : Int) < (E.length : Int)) := by simp at hl; omega
  rw [List.append_nil] at h1
  refine ⟨.inl (),by simp only [t,decide_false,cond_false],?_⟩
  rw [h1,h2]; rfl
 | p :: B' =>
  simp only [List.length_cons] at hl
  have t : ((A.length : Int) < (E.length : Int)) := by omega
  have g0 : gx E (A.length : Int) = some p := by rw [h1]; exact qJ1 rfl
  by_cases hp : p.1 = n
  ·right
   refine ⟨.inr (p.2,true),by simp only [t,decide_true,cond_true,g0,Option.bind_some,hp],?_⟩
   rw [h1,qI0,h2,qN,if_pos hp.symm]
   rfl
  ·left
   refine ⟨(A.length : Int) + 1,?_,⟨A ++ [p],B',by simp [h1],by simp,?_⟩,by omega⟩
   ·simp only [t,decide_true,cond_true,g0,Option.bind_some,hp,decide_false,cond_false]
    rw [w64 (by omega) (by omega)]
   ·rw [qI0,h2,qN,if_neg (fun e => hp e.symm)]
    rfl
def firstK (y : Nd) : Ky := match y.2.1 with
 | p :: _ => p.1
 | [] => match y.2.2 with
  | k :: _ => k.1
  | [] => List.replicate 24 0
theorem first_eq (y : Nd) : qU0 y = some (firstK y) := by
 obtain ⟨l,ps,ks⟩ := y
 unfold qU0 firstK
 match ps,ks with
 | p :: ps,ks =>
  rw [show gx (p :: ps) 0 = some p from rfl]
  simp
 | [],k :: ks =>
  rw [show gx (k :: ks) 0 = some k from rfl]
  simp
 | [],[] => simp
theorem refFirst_eq (y : Nd) : qC1 y = some (firstK y) := by
 obtain ⟨l,ps,ks⟩ := y
 unfold qC1 firstK
 match ps,ks with
 | p :: ps,ks =>
  rw [show gx (p :: ps) 0 = some p from rfl]
  simp
 | [],k :: ks =>
  rw [show gx (k :: ks) 0 = some k from rfl]
  simp
 | [],[] => simp
def topB {β : Type} (t : Ky × Bool) (l : List (Ky × β)) : Bool := l.all fun z => !t.2 || decide (Lt z.1 t.1)
theorem topB_last {β : Type} {t : Ky × Bool} {D : List (Ky × β)} {z : Ky × β} (h : Rising (D ++ [z])) : topB t (D ++ [z]) = (!t.2 || decide (Lt z.1 t.1)) := by
 unfold topB
 rw [List.all_append]
 cases ht : t.2 with
 | false => simp
 | true =>
  simp only [Bool.not_true,Bool.false_or,List.all_cons,List.all_nil,Bool.and_true]
  by_cases hz : Lt z.1 t.1
  ·have : (D.all fun z => decide (Lt z.1 t.1)) = true := List.all_eq_true.2 fun x hx => decide_eq_true (lt_trans ((qI.1 h).2.2 x hx z (by simp)) hz)
   simp [this,hz]
  ·simp [hz]
theorem pairsTop_loop {ps : List Pr} {t : Ky × Bool} (hk : K24s ps) (ht : t.1.length = 24) (hn : ps.length ≤ 1000000) : qQ (V := Int) (O := (Unit ⊕ Bool)) (fun v133 =>
    cond (decide (v133 < (ps.length : Int))) (
     (gx ps v133).bind fun x140 =>
     (qy0 x140.1 t.1).bind fun x143 =>
     (((
      cond t.2 (
       some (!x143)
      ) (
       some false
      )
     ) : Option Bool)).bind fun o149 =>
     cond o149 (
      some (.inr (.inr false))
     ) (
      some (.inl (IntKind.wrap .i64 (v133 + 1)))
     )
    ) (
     some (.inr (.inl ()))
    )
   ) 0 = some (if topB t ps = true then .inl () else .inr false) := by
 refine whileO_is (fun v => ∃ D Z,ps = D ++ Z ∧ v = (D.length : Int) ∧ topB t D = true) (fun v => ((ps.length : Int) - v).toNat) ⟨[],ps,rfl,rfl,rfl⟩ ?_
 rintro v ⟨D,Z,e1,rfl,h1⟩
 have hl : ps.length = D.length + Z.length := by rw [e1]; simp
 match Z with
 | [] =>
  right
  have tt : ¬ ((D.length : Int) < (ps.length : Int)) := by simp at hl; omega
  rw [List.append_nil] at e1
  simp only [tt,decide_false,cond_false]
  rw [e1,if_pos h1]
 | z :: Z' =>
  simp only [List.length_cons] at hl
  have tt : ((D.length : Int) < (ps.length : Int)) := by omega
  have g0 : gx ps (D.length : Int) = some z := by rw [e1]; exact qJ1 rfl
  simp only [tt,decide_true,cond_true,g0,Option.bind_some]
  rw [less_eq (hk z (by rw [e1]; simp)) ht]
  simp only [Option.bind_some]
  have hc : (cond t.2 (some (!decide (Lt z.1 t.1))) (some false) : Option Bool) = some (!(!t.2 || decide (Lt z.1 t.1))) := by
   cases t.2 <;> simp
  rw [hc]
  simp only [Option.bind_some]
  have htz : topB t ps = (topB t D && ((!t.2 || decide (Lt z.1 t.1)) && topB t Z')) := by
   rw [e1]; unfold topB; rw [List.all_append,List.all_cons]
  cases hz : (!t.2 || decide (Lt z.1 t.1)) with
  | true =>
   left
   refine ⟨(D.length : Int) + 1,?_,⟨D ++ [z],Z',by simp [e1],by simp,?_⟩,by omega⟩
   ·simp only [Bool.not_true,cond_false]
    rw [w64 (by omega) (by omega)]
   ·unfold topB at h1 ⊢
    rw [List.all_append,h1,List.all_cons,hz]; rfl
  | false =>
   right
   have : ¬ topB t ps = true := by rw [htz,hz]; simp
   rw [if_neg this]
   rfl
theorem whileO_branch {V O : Type} {body : V → Option (V ⊕ O)} {v v' : V} {o : O} {c : Bool} (h : body v = some (if c = true then .inl v' else .inr o)) : qQ body v = if c = true then qQ body v' else some o := by
 rw [qR,h]
 cases c <;> rfl
noncomputable def rb (g : Nat) (E : Ent) (y : Nd) (t : Ky × Bool) : Bool := decide (qr0 g E y t.1 t.2 = some true)
def qk5 (t : Ky × Bool) (Z : List Kd) : Ky × Bool := match Z with
 | [] => t
 | w :: _ => (w.1,true)
noncomputable def kb (g : Nat) (E : Ent) (l : Int) (z : Kd) (t : Ky × Bool) : Bool := match mget E z.2 with
 | none => false
 | some y => decide (y.1 = l - 1) && (decide (firstK y = z.1) && (!decide (fewN y) && rb g E y t))
noncomputable def kidsB (g : Nat) (E : Ent) (l : Int) (t : Ky × Bool) : List Kd → Bool
 | [] => true
 | z :: Z => kb g E l z (qk5 t Z) && kidsB g E l t Z
def Both (f g : Nat) (E : Ent) (y : Nd) (t : Ky × Bool) : Prop := ∃ b,ql0 f E y t = some (if b = true then 0 else 12) ∧ qr0 g E y t.1 t.2 = some b
theorem Both.rb {f g : Nat} {E : Ent} {y : Nd} {t : Ky × Bool} (h : Both f g E y t) : ql0 f E y t = some (if rb g E y t = true then 0 else 12) ∧ qr0 g E y t.1 t.2 = some (rb g E y t) := by
 obtain ⟨b,h1,h2⟩ := h
 have : Go.Val.rb g E y t = b := by unfold Go.Val.rb; rw [h2]; cases b <;> simp
 rw [this]
 exact ⟨h1,h2⟩
theorem nextT_eq {ks D Z : List Kd} {z : Kd} {t : Ky × Bool} (e1 : ks = D ++ z :: Z) (hn : ks.length ≤ 1000000) : ((cond (decide ((D.length : Int) + 1 < (ks.length : Int))) (
         (gx ks ((D.length : Int) + 1)).bind fun x439 =>
         some (x439.1,true)
        ) (
         some t
        )) : Option ((List UInt8) × Bool)) = some (qk5 t Z) := by
 have hl : ks.length = D.length + (Z.length + 1) := by rw [e1]; simp
 match Z with
 | [] =>
  have t2 : ¬ ((D.length : Int) + 1 < (ks.length : Int)) := by simp at hl; omega
  simp only [t2,decide_false,cond_false,qk5]
 | y :: Z2 =>
  simp only [List.length_cons] at hl
  have t2 : ((D.length : Int) + 1 < (ks.length : Int)) := by omega
  have g1 : gx ks ((D.length : Int) + 1) = some y := by
   rw [e1,show D ++ z :: y :: Z2 = (D ++ [z]) ++ y :: Z2 by simp]; exact qJ1 (by simp)
  simp only [t2,decide_true,cond_true,g1,Option.bind_some,qk5]
theorem nextT_eq2 {ks D Z : List Kd} {z : Kd} {t : Ky × Bool} (e1 : ks = D ++ z :: Z) (hn : ks.length ≤ 1000000) : ((cond (decide ((D.length : Int) + 1 < (ks.length : Int))) (
         (gx ks ((D.length : Int) + 1)).bind fun x439 =>
         some (true,x439.1)
        ) (
         some (t.2,t.1)
        )) : Option (Bool × (List UInt8))) = some ((qk5 t Z).2,(qk5 t Z).1) := by
 have hl : ks.length = D.length + (Z.length + 1) := by rw [e1]; simp
 match Z with
 | [] =>
  have t2 : ¬ ((D.length : Int) + 1 < (ks.length : Int)) := by simp at hl; omega
  simp only [t2,decide_false,cond_false,qk5]
 | y :: Z2 =>
  simp only [List.length_cons] at hl
  have t2 : ((D.length : Int) + 1 < (ks.length : Int)) := by omega
  have g1 : gx ks ((D.length : Int) + 1) = some y := by
   rw [e1,show D ++ z :: y :: Z2 = (D ++ [z]) ++ y :: Z2 by simp]; exact qJ1 (by simp)
  simp only [t2,decide_true,cond_true,g1,Option.bind_some,qk5]
theorem nextT_len {t : Ky × Bool} {Z : List Kd} (ht : t.1.length = 24) (hk : K24s Z) : (qk5 t Z).1.length = 24 := by
 match Z,hk with
 | [],_ => exact ht
 | w :: Z,hk => exact hk w (by simp)
theorem qv4 {f g : Nat} {E : Ent} {l : Int} {ks : List Kd} {t : Ky × Bool} (hl : 0 ≤ l ∧ l < 12) (hE : E.length ≤ 1000000) (hn : ks.length ≤ 1000000) (hk : K24s ks) (ht : t.1.length = 24)
  (ih : ∀ y t,(∃ n,mget E n = some y) → y.1 = l - 1 → t.1.length = 24 → Both f g E y t) : ∀ {Z D : List Kd},ks = D ++ Z → qQ (V := Int) (O := (Unit ⊕ Int)) (fun v407 =>
     cond (decide (v407 < (ks.length : Int))) (
      (gx ks v407).bind fun x414 =>
      (qG0 E x414.2).bind fun x417 =>
      cond (decide (x417.2 ≠ 0)) (
       (qH0 x417.2).bind fun x423 =>
       some (.inr (.inr x423))
      ) (
       (((
        cond (decide ((IntKind.wrap .i64 (v407 + 1)) < (ks.length : Int))) (
         (gx ks (IntKind.wrap .i64 (v407 + 1))).bind fun x439 =>
         some (x439.1,true)
        ) (
         some t
        )
       ) : Option ((List UInt8) × Bool))).bind fun o433 =>
       (((
        cond (decide (x417.1.1 ≠ (IntKind.wrap .i64 (l - 1)))) (
         some true
        ) (
         (qU0 x417.1).bind fun x460 =>
         cond (!(decide (x460 = x414.1))) (
          some true
         ) (
          (qm3 x417.1).bind fun x466 =>
          some x466
         )
        )
       ) : Option Bool)).bind fun o454 =>
       cond o454 (
        some (.inr (.inr 12))
       ) (
        (ql0 f E x417.1 o433).bind fun x473 =>
        cond (decide (x473 ≠ 0)) (
         some (.inr (.inr x473))
        ) (
         some (.inl (IntKind.wrap .i64 (v407 + 1)))
        )
       )
      )
     ) (
      some (.inr (.inl ()))
     )
    ) (D.length : Int) = some (if kidsB g E l t Z = true then .inl () else .inr 12)
 | [],D,e1 => by
  have hln : ks.length = D.length := by rw [e1]; simp
  rw [qR]
  have tt : ¬ ((D.length : Int) < (ks.length : Int)) := by omega
  simp only [tt,decide_false,cond_false,Option.bind_some,kidsB,if_true]
 | z :: Z,D,e1 => by
  have hln : ks.length = D.length + (Z.length + 1) := by rw [e1]; simp
  have tt : ((D.length : Int) < (ks.length : Int)) := by omega
  have g0 : gx ks (D.length : Int) = some z := by rw [e1]; exact qJ1 rfl
  have w1 : IntKind.wrap .i64 ((D.length : Int) + 1) = (((D ++ [z]).length : Nat) : Int) := by rw [w64 (by omega) (by omega)]; simp
  have w1' : IntKind.wrap .i64 ((D.length : Int) + 1) = (D.length : Int) + 1 := by rw [w64 (by omega) (by omega)]
  have w2 : IntKind.wrap .i64 (l - 1) = l - 1 := w64 (by omega) (by omega)
  have rec' := qv4 hl hE hn hk ht ih (Z := Z) (D := D ++ [z]) (by simp [e1])
  refine (whileO_branch (c := kb g E l z (qk5 t Z)) (v' := (((D ++ [z]).length : Nat) : Int)) (o := .inr 12) ?_).trans ?_
  ·simp only [tt,decide_true,cond_true,g0,Option.bind_some,bagGet_eq hE,w2]
   rw [kb]
   cases hm : mget E z.2 with
   | none =>
    simp [qH0]
   | some y =>
    simp only [ne_eq,not_true_eq_false,decide_false,cond_false]
    rw [w1',nextT_eq e1 hn]
    simp only [Option.bind_some]
    rw [w1'] at w1
    by_cases hy : y.1 = l - 1
    ·simp only [hy,not_true_eq_false,decide_false,cond_false,first_eq,Option.bind_some,few_nd,decide_true,Bool.true_and]
     by_cases hf : firstK y = z.1
     ·simp only [hf,decide_true,Bool.not_true,cond_false,Option.bind_some,Bool.true_and]
      by_cases hw : fewN y
      ·simp [hw]
      ·simp only [hw,decide_false,cond_false,Bool.not_false,Bool.true_and]
       have hkZ : K24s Z := fun k hk' => hk k (by rw [e1]; simp [hk'])
       obtain ⟨b1,b2⟩ := (ih y (qk5 t Z) ⟨z.2,hm⟩ hy (nextT_len ht hkZ)).rb
       rw [b1]
       simp only [Option.bind_some]
       cases hb : rb g E y (qk5 t Z) with
       | true =>
        simp only [if_true,not_true_eq_false,decide_false,cond_false]
        rw [w1]
       | false => simp
     ·simp [hf]
    ·simp [hy]
  ·rw [kidsB]
   cases kb g E l z (qk5 t Z) with
   | true => simp only [if_true,Bool.true_and]; exact rec'
   | false => simp
theorem qb4 {f g : Nat} {E : Ent} {l : Int} {ks : List Kd} {t : Ky × Bool} (hl : 0 ≤ l ∧ l < 12) (hE : E.length ≤ 1000000) (hn : ks.length ≤ 1000000) (hk : K24s ks) (ht : t.1.length = 24) (h1 : ks ≠ [] → 1 ≤ l)
  (ih : ∀ y t,(∃ n,mget E n = some y) → y.1 = l - 1 → t.1.length = 24 → Both f g E y t) : ∀ {Z D : List Kd},ks = D ++ Z → qQ (V := Int) (O := (Unit ⊕ Bool)) (fun v698 =>
     cond (decide (v698 < (ks.length : Int))) (
      (gx ks v698).bind fun x705 =>
      (qy0 x705.1 t.1).bind fun x708 =>
      (((
       cond t.2 (
        some (!x708)
       ) (
        some false
       )
      ) : Option Bool)).bind fun o714 =>
      cond o714 (
       some (.inr (.inr false))
      ) (
       (qx1 E x705.2).bind fun x724 =>
       (((
        cond (!x724.2) (
         some true
        ) (
         cond (decide (x724.1.1 ≠ (IntKind.wrap .i64 (l - 1)))) (
          some true
         ) (
          (qC1 x724.1).bind fun x760 =>
          cond (!(decide (x760 = x705.1))) (
           some true
          ) (
           cond (decide (x724.1.1 = 0)) (
            cond (decide ((x724.1.2.1.length : Int) < 3)) (
             some true
            ) (
             cond (decide (x724.1.1 > 0)) (
              some (decide ((x724.1.2.2.length : Int) < 9))
             ) (
              some false
             )
            )
           ) (
            cond (decide (x724.1.1 > 0)) (
             some (decide ((x724.1.2.2.length : Int) < 9))
            ) (
             some false
            )
           )
          )
         )
        )
       ) : Option Bool)).bind fun o751 =>
       cond o751 (
        some (.inr (.inr false))
       ) (
        (((
         cond (decide ((IntKind.wrap .i64 (v698 + 1)) < (ks.length : Int))) (
          (gx ks (IntKind.wrap .i64 (v698 + 1))).bind fun x794 =>
          some (true,x794.1)
         ) (
          some (t.2,t.1)
         )
        ) : Option (Bool × (List UInt8)))).bind fun o788 =>
        (qr0 g E x724.1 o788.2 o788.1).bind fun x797 =>
        cond (!x797) (
         some (.inr (.inr false))
        ) (
         some (.inl (IntKind.wrap .i64 (v698 + 1)))
        )
       )
      )
     ) (
      some (.inr (.inl ()))
     )
    ) (D.length : Int) = some (if (topB t Z && kidsB g E l t Z) = true then .inl () else .inr false)
 | [],D,e1 => by
  have hln : ks.length = D.length := by rw [e1]; simp
  rw [qR]
  have tt : ¬ ((D.length : Int) < (ks.length : Int)) := by omega
  simp only [tt,decide_false,cond_false,Option.bind_some,kidsB,topB,List.all_nil,Bool.and_self,if_true]
 | z :: Z,D,e1 => by
  have hln : ks.length = D.length + (Z.length + 1) := by rw [e1]; simp
  have l1 : 1 ≤ l := h1 (by rw [e1]; simp)
  have tt : ((D.length : Int) < (ks.length : Int)) := by omega
  have g0 : gx ks (D.length : Int) = some z := by rw [e1]; exact qJ1 rfl
  have w1' : IntKind.wrap .i64 ((D.length : Int) + 1) = (D.length : Int) + 1 := by rw [w64 (by omega) (by omega)]
  have w1 : ((D.length : Int) + 1) = (((D ++ [z]).length : Nat) : Int) := by simp
  have w2 : IntKind.wrap .i64 (l - 1) = l - 1 := w64 (by omega) (by omega)
  have rec' := qb4 hl hE hn hk ht h1 ih (Z := Z) (D := D ++ [z]) (by simp [e1])
  refine (whileO_branch (c := (!t.2 || decide (Lt z.1 t.1)) && kb g E l z (qk5 t Z)) (v' := (((D ++ [z]).length : Nat) : Int)) (o := .inr false) ?_).trans ?_
  ·simp only [tt,decide_true,cond_true,g0,Option.bind_some,w2]
   rw [less_eq (hk z (by rw [e1]; simp)) ht]
   simp only [Option.bind_some]
   have hc : (cond t.2 (some (!decide (Lt z.1 t.1))) (some false) : Option Bool) = some (!(!t.2 || decide (Lt z.1 t.1))) := by
    cases t.2 <;> simp
   rw [hc]
   simp only [Option.bind_some]
   cases hz : (!t.2 || decide (Lt z.1 t.1)) with
   | false => simp
   | true =>
    simp only [Bool.not_true,cond_false,refFind_eq hE,Option.bind_some,Bool.true_and]
    rw [kb]
    cases hm : mget E z.2 with
    | none => simp
    | some y =>
     simp only [Bool.not_true,cond_false]
     by_cases hy : y.1 = l - 1
     ·have hy' : ¬ (y.1 ≠ l - 1) := fun h => h hy
      simp only [hy',decide_false,cond_false,refFirst_eq,Option.bind_some]
      by_cases hf : firstK y = z.1
      ·have hfew : ((cond (decide (y.1 = 0)) (
             cond (decide ((y.2.1.length : Int) < 3)) (
              some true
             ) (
              cond (decide (y.1 > 0)) (
               some (decide ((y.2.2.length : Int) < 9))
              ) (
               some false
              )
             )
            ) (
             cond (decide (y.1 > 0)) (
              some (decide ((y.2.2.length : Int) < 9))
             ) (
              some false
             )
            )) : Option Bool) = some (decide (fewN y)) := by
        unfold fewN
        by_cases h0 : y.1 = 0
        ·have hp : ¬ y.1 > 0 := by omega
         simp only [h0,decide_true,cond_true,if_true]
         by_cases h3 : (y.2.1.length : Int) < 3
         ·have : y.2.1.length < 3 := by omega
          simp only [h3,this,decide_true,cond_true]
         ·have : ¬ y.2.1.length < 3 := by omega
          have h00 : ¬ ((0 : Int) > 0) := by omega
          simp only [h3,this,h00,decide_false,cond_false]
        ·have hp : y.1 > 0 := by omega
         simp only [h0,hp,decide_true,decide_false,cond_true,cond_false,if_false]
         congr 1
         rw [decide_eq_decide]
         omega
       simp only [hf,decide_true,Bool.not_true,cond_false]
       rw [hfew]
       simp only [Option.bind_some]
       by_cases hw : fewN y
       ·simp [hw]
       ·simp only [hw,decide_false,cond_false,Bool.not_false,Bool.true_and]
        rw [w1',nextT_eq2 e1 hn]
        simp only [Option.bind_some]
        have hkZ : K24s Z := fun k hk' => hk k (by rw [e1]; simp [hk'])
        obtain ⟨b1,b2⟩ := (ih y (qk5 t Z) ⟨z.2,hm⟩ hy (nextT_len ht hkZ)).rb
        rw [b2]
        simp only [Option.bind_some,hy,decide_true,Bool.true_and]
        cases hb : rb g E y (qk5 t Z) with
        | true =>
         simp only [Bool.not_true,cond_false,if_true]
         rw [w1]
        | false => simp
      ·simp [hf]
     ·simp [hy]
  ·have htz : topB t (z :: Z) = ((!t.2 || decide (Lt z.1 t.1)) && topB t Z) := rfl
   rw [htz,kidsB]
   cases (!t.2 || decide (Lt z.1 t.1)) with
   | false => simp
   | true =>
    cases kb g E l z (qk5 t Z) with
    | true => simp only [Bool.and_self,if_true,Bool.true_and]; exact rec'
    | false => simp
theorem check_both {E : Ent} (hE : E.length ≤ 1000000) (hok : EntOk E) : ∀ (j f g : Nat) (y : Nd) (t : Ky × Bool),(∃ n,mget E n = some y) → y.1 < (j : Int) → j ≤ f → j ≤ g → 1 ≤ f → 1 ≤ g → t.1.length = 24 → Both f g E y t := by
 intro j
 induction j with
 | zero =>
  intro f g y t hm hj hf hg hf1 hg1 ht
  obtain ⟨n,hn⟩ := hm
  obtain ⟨k1,k2,n1,n2⟩ := hok n y hn
  obtain ⟨f,rfl⟩ : ∃ f',f = f' + 1 := ⟨f - 1,by omega⟩
  obtain ⟨g,rfl⟩ : ∃ g',g = g' + 1 := ⟨g - 1,by omega⟩
  have hR : ¬ qO4 y := fun h => by have := h.1; omega
  obtain ⟨b,r1,r2⟩ := right_eq (x := y) (by omega) (by omega)
  have hb : b = false := by cases b with
   | false => rfl
   | true => exact absurd (r2.1 rfl) hR
  obtain ⟨b',s1,s2⟩ := q25 k1 k2 n1 n2
  have hb' : b' = false := by cases b' with
   | false => rfl
   | true => exact absurd (s2.1 rfl) hR
  subst hb; subst hb'
  refine ⟨false,?_,?_⟩
  ·rw [ql0]; unfold qC0; rw [r1]; rfl
  ·rw [qr0]; unfold qM0; rw [s1]; rfl
 | succ j ih =>
  intro f g y t hm hj hf hg hf1 hg1 ht
  obtain ⟨n,hn⟩ := hm
  obtain ⟨k1,k2,n1,n2⟩ := hok n y hn
  obtain ⟨f,rfl⟩ : ∃ f',f = f' + 1 := ⟨f - 1,by omega⟩
  obtain ⟨g,rfl⟩ : ∃ g',g = g' + 1 := ⟨g - 1,by omega⟩
  obtain ⟨b,r1,r2⟩ := right_eq (x := y) (by omega) (by omega)
  obtain ⟨b',s1,s2⟩ := q25 k1 k2 n1 n2
  by_cases hR : qO4 y
  ·have hb := r2.2 hR
   have hb' := s2.2 hR
   subst hb; subst hb'
   have ih' : ∀ z t,(∃ n,mget E n = some z) → z.1 = y.1 - 1 → t.1.length = 24 → y.2.2 ≠ [] → Both f g E z t := fun z t hz hl ht hne => by
    have hl0 : 1 ≤ y.1 := by
     obtain ⟨a1,a2,a3,a4,_⟩ := hR
     by_cases h0 : y.1 = 0
     ·have := (a3 h0).2.2
      exact absurd (List.length_eq_zero_iff.1 this) hne
     ·omega
    exact ih f g z t hz (by omega) (by omega) (by omega) (by omega) (by omega) ht
   obtain ⟨a1,a2,a3,a4,a5,a6,a7,a8⟩ := hR
   unfold Both
   rw [ql0,qr0]
   unfold qC0 qM0
   rw [r1,s1]
   simp only [Option.bind_some,Bool.not_true,cond_false]
   obtain ⟨l,ps,ks⟩ := y
   simp only at a1 a2 a3 a4 a5 a6 a7 a8 k1 k2 n1 n2 ih' ⊢
   rw [pairsTop_loop k1 ht n1]
   simp only [Option.bind_some]
   by_cases h0 : l = 0
   ·subst h0
    obtain ⟨b1,b2,b3⟩ := a3 rfl
    have hks : ks = [] := List.length_eq_zero_iff.1 b3
    subst hks
    rcases qD0 ps with rfl | ⟨D,z,rfl⟩
    ·simp at b1
    ·simp only [List.length_append,List.length_singleton] at b2
     have e : IntKind.wrap .i64 (((D ++ [z]).length : Int) - 1) = (D.length : Int) := by
      rw [w64 (by simp <;> omega) (by simp <;> omega)]; simp
     rw [e,show gx (D ++ [z]) (D.length : Int) = some z from qJ1 rfl,topB_last a7]
     simp only [decide_true,cond_true,Option.bind_some]
     have hc : (cond t.2 ((qv z.1 t.1).bind fun x40 => some (decide (x40 ≥ 0))) (some false) : Option Bool) = some (!(!t.2 || decide (Lt z.1 t.1))) := by
      cases t.2 with
      | false => rfl
      | true =>
       simp only [cond_true,cmp_eq,Option.bind_some,Bool.not_true,Bool.false_or]
       unfold Lt
       by_cases h : compareBytes z.1 t.1 ≥ 0
       ·have : ¬ compareBytes z.1 t.1 < 0 := by omega
        simp [h,this]
       ·have : compareBytes z.1 t.1 < 0 := by omega
        simp [h,this]
     rw [hc]
     simp only [Option.bind_some]
     cases hb : (!t.2 || decide (Lt z.1 t.1)) with
     | false => exact ⟨false,by simp,by simp⟩
     | true =>
      refine ⟨true,?_,?_⟩
      ·simp only [Bool.not_true,cond_false]
       rw [qR]
       simp
      ·simp only [if_true,Sum.elim_inl]
       rw [qR]
       simp
   ·obtain ⟨b1,b2,b3⟩ := a4 (by omega)
    have hps : ps = [] := List.length_eq_zero_iff.1 b3
    subst hps
    have hne : ks ≠ [] := fun e => by rw [e] at b1; simp at b1
    have ihk : ∀ z t,(∃ n,mget E n = some z) → z.1 = l - 1 → t.1.length = 24 → Both f g E z t := fun z t h1 h2 h3 => ih' z t h1 h2 h3 hne
    have c1 := qv4 (ks := ks) (l := l) (t := t) ⟨a1,a2⟩ hE n2 k2 ht ihk (Z := ks) (D := []) rfl
    have c2 := qb4 (ks := ks) (l := l) (t := t) ⟨a1,a2⟩ hE n2 k2 ht (fun _ => by omega) ihk (Z := ks) (D := []) rfl
    have z0 : ((([] : List Kd).length : Nat) : Int) = 0 := rfl
    rw [z0] at c1 c2
    simp only [h0,decide_false,cond_false,topB,List.all_nil,if_true,Sum.elim_inl]
    rw [c1,c2]
    rcases qD0 ks with rfl | ⟨D,z,rfl⟩
    ·exact absurd rfl hne
    ·simp only [List.length_append,List.length_singleton] at b2
     have e : IntKind.wrap .i64 (((D ++ [z]).length : Int) - 1) = (D.length : Int) := by
      rw [w64 (by simp <;> omega) (by simp <;> omega)]; simp
     rw [e,show gx (D ++ [z]) (D.length : Int) = some z from qJ1 rfl,topB_last a8]
     simp only [Option.bind_some]
     have hc : (cond t.2 ((qv z.1 t.1).bind fun x40 => some (decide (x40 ≥ 0))) (some false) : Option Bool) = some (!(!t.2 || decide (Lt z.1 t.1))) := by
      cases t.2 with
      | false => rfl
      | true =>
       simp only [cond_true,cmp_eq,Option.bind_some,Bool.not_true,Bool.false_or]
       unfold Lt
       by_cases h : compareBytes z.1 t.1 ≥ 0
       ·have : ¬ compareBytes z.1 t.1 < 0 := by omega
        simp [h,this]
       ·have : compareBytes z.1 t.1 < 0 := by omega
        simp [h,this]
     rw [hc]
     simp only [Option.bind_some]
     cases hb : (!t.2 || decide (Lt z.1 t.1)) with
     | false => exact ⟨false,by simp,by simp⟩
     | true =>
      refine ⟨kidsB g E l t (D ++ [z]),?_,?_⟩
      ·simp only [Bool.not_true,cond_false]
       cases kidsB g E l t (D ++ [z]) <;> simp
      ·simp only [Bool.true_and]
       cases kidsB g E l t (D ++ [z]) <;> simp
  ·have hb : b = false := by cases b with
    | false => rfl
    | true => exact absurd (r2.1 rfl) hR
   have hb' : b' = false := by cases b' with
    | false => rfl
    | true => exact absurd (s2.1 rfl) hR
   subst hb; subst hb'
   refine ⟨false,?_,?_⟩
   ·rw [ql0]; unfold qC0; rw [r1]; rfl
   ·rw [qr0]; unfold qM0; rw [s1]; rfl
end Go.Val
namespace Go.Val
open Go.RowKit Go.Lib
def cutE (x : Int × Nd) : Int × Nd := (x.1,x.2.1,x.2.2.1.take 20,x.2.2.2.take 20)
theorem piece_take {α : Type} (l : List α) : qY0 l 0 (min (l.length : Int) 20) = l.take 20 := by
 unfold qY0
 by_cases h : l.length ≤ 20
 ·have : (min (l.length : Int) 20).toNat = l.length := by omega
  rw [this,List.take_of_length_le (Nat.le_refl _),List.take_of_length_le h]; rfl
 ·have : (min (l.length : Int) 20).toNat = 20 := by omega
  rw [this]; rfl
theorem both_not {E : Ent} {y : Nd} {t : Ky × Bool} {f g : Nat} (hok : K24s y.2.1 ∧ K24s y.2.2 ∧ y.2.1.length ≤ 1000000 ∧ y.2.2.length ≤ 1000000) (hR : ¬ qO4 y) : Both (f + 1) (g + 1) E y t := by
 obtain ⟨k1,k2,n1,n2⟩ := hok
 obtain ⟨b,r1,r2⟩ := right_eq (x := y) (by omega) (by omega)
 have hb : b = false := by cases b with
  | false => rfl
  | true => exact absurd (r2.1 rfl) hR
 obtain ⟨b',s1,s2⟩ := q25 k1 k2 n1 n2
 have hb' : b' = false := by cases b' with
  | false => rfl
  | true => exact absurd (s2.1 rfl) hR
 subst hb; subst hb'
 refine ⟨false,?_,?_⟩
 ·rw [ql0]; unfold qC0; rw [r1]; rfl
 ·rw [qr0]; unfold qM0; rw [s1]; rfl
theorem cut_loop {l : Ent} : (qQ (V := (Int × (List (Int × Nd)))) (O := (List (Int × Nd))) (fun v145 =>
   (((
    cond (decide (v145.1 < (l.length : Int))) (
     some (decide (v145.1 < 60))
    ) (
     some false
    )
   ) : Option Bool)).bind fun o152 =>
   cond o152 (
    (gx l v145.1).bind fun x161 =>
    (cutB 0 (min (x161.2.2.1.length : Int) 20) x161.2.2.1.length).bind fun _ =>
    (cutB 0 (min (x161.2.2.2.length : Int) 20) x161.2.2.2.length).bind fun _ =>
    (fits (v145.2.length + ([(x161.1,(x161.2.1,(qY0 x161.2.2.1 0 (min (x161.2.2.1.length : Int) 20)),(qY0 x161.2.2.2 0 (min (x161.2.2.2.length : Int) 20))))]).length) 64).bind fun _ =>
    some (.inl ((IntKind.wrap .i64 (v145.1 + 1)),(v145.2 ++ [(x161.1,(x161.2.1,(qY0 x161.2.2.1 0 (min (x161.2.2.1.length : Int) 20)),(qY0 x161.2.2.2 0 (min (x161.2.2.2.length : Int) 20))))])))
   ) (
    some (.inr v145.2)
   )
  ) (0,[])) = some ((l.take 60).map cutE) := by
 refine whileO_is (fun v => ∃ D Z,l = D ++ Z ∧ D.length ≤ 60 ∧ v = ((D.length : Int),D.map cutE)) (fun v => (60 - v.1).toNat) ⟨[],l,rfl,by simp,rfl⟩ ?_
 rintro v ⟨D,Z,e1,e2,rfl⟩
 have hlen : l.length = D.length + Z.length := by rw [e1]; simp
 match Z with
 | [] =>
  right
  have t : ¬ ((D.length : Int) < (l.length : Int)) := by simp at hlen; omega
  rw [List.append_nil] at e1
  simp only [t,decide_false,cond_false,Option.bind_some]
  rw [e1,List.take_of_length_le e2]
 | z :: Z' =>
  simp only [List.length_cons] at hlen
  have t : ((D.length : Int) < (l.length : Int)) := by omega
  have g0 : gx l (D.length : Int) = some z := by rw [e1]; exact qJ1 rfl
  by_cases hm' : (D.length : Int) < 60
  ·left
   refine ⟨((D.length : Int) + 1,(D ++ [z]).map cutE),?_,⟨D ++ [z],Z',by simp [e1],by simp; omega,by simp⟩,by simp; omega⟩
   simp only [t,decide_true,cond_true,hm',Option.bind_some,g0]
   rw [cutB_of ⟨by omega,by omega,by omega⟩]
   simp only [Option.bind_some]
   rw [cutB_of ⟨by omega,by omega,by omega⟩]
   simp only [Option.bind_some]
   rw [qu1 (by simp; omega),w64 (by omega) (by omega),piece_take,piece_take]
   simp [cutE]
  ·right
   simp only [t,decide_true,cond_true,hm',decide_false,Option.bind_some,cond_false]
   have hml : D.length = 60 := by omega
   rw [e1,← hml,List.take_left]
theorem treeChecks_true (l : Ent) (root : Int) (hk : ∀ x ∈ l,K24s x.2.2.1 ∧ K24s x.2.2.2) : qU1 l root = some true := by
 unfold qU1
 rw [shown_eq,cut_loop]
 simp only [Option.bind_some]
 have hlen : ((l.take 60).map cutE).length ≤ 1000000 := by simp; omega
 have hok : EntOk ((l.take 60).map cutE) := fun n x hx => by
  have hm := qB1 hx
  obtain ⟨z,hz,e⟩ := List.mem_map.1 hm
  obtain ⟨k1,k2⟩ := hk z (List.mem_of_mem_take hz)
  simp only [cutE,Prod.mk.injEq] at e
  obtain ⟨_,rfl⟩ := e
  refine ⟨fun p hp => k1 p (List.mem_of_mem_take hp),fun p hp => k2 p (List.mem_of_mem_take hp),by simp; omega,by simp; omega⟩
 generalize (l.take 60).map cutE = E at hlen hok
 have key : ∃ b,q92 E root = some (if b = true then 0 else 12) ∧ qA2 E root = some b := by
  unfold q92 qA2
  by_cases h0 : root = 0
  ·exact ⟨true,by simp [h0],by simp [h0]⟩
  ·simp only [h0,decide_false,cond_false]
   rw [bagGet_eq hlen,refFind_eq hlen]
   simp only [Option.bind_some]
   cases hm : mget E root with
   | none => exact ⟨false,by simp [qH0],by simp⟩
   | some y =>
    have hB : Both 16 16 E y (List.replicate 24 0,false) := by
     by_cases hR : qO4 y
     ·have := hR.2.1
      exact check_both hlen hok 12 16 16 y _ ⟨root,hm⟩ (by omega) (by omega) (by omega) (by omega) (by omega) (by simp)
     ·exact both_not (hok root y hm) hR
    obtain ⟨b,b1,b2⟩ := hB
    refine ⟨b,?_,?_⟩
    ·simp only [ne_eq,not_true_eq_false,decide_false,cond_false]
     unfold ql3
     rw [b1]; rfl
    ·simp only [Bool.not_true,cond_false]
     unfold q54
     rw [b2]; rfl
 obtain ⟨b,b1,b2⟩ := key
 rw [b1,b2]
 cases b <;> simp
end Go.Val
