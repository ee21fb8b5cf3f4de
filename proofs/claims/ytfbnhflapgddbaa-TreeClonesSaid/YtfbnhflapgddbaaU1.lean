/- Scan,over a tree. -/
import Derived.Test.YtfbnhflapgddbaaT1
import Derived.Test.YtfbnhflapgddbaaWi
import Derived.Test.YtfbnhflapgddbaaLd
import Derived.Test.YtfbnhflapgddbaaWj
import Derived.Test.YtfbnhflapgddbaaHk
import Derived.Test.YtfbnhflapgddbaaWk
set_option linter.unusedSectionVars false
set_option linter.unusedVariables false
set_option linter.unusedSimpArgs false
namespace Go.Val
open Go.RowKit Go.Lib
theorem qu2 {V O R : Type} {body : V → Option (V ⊕ O)} {f : O → Option R} {Q : Option R → Prop} (J : V → Prop) (μ : V → Nat) (Post : O → Prop) {v : V} (hv : J v)
  (hs : ∀ v,J v → (∃ v',body v = some (.inl v') ∧ J v' ∧ μ v' < μ v) ∨ ∃ o,body v = some (.inr o) ∧ Post o)
  (hp : ∀ o,Post o → Q (f o)) : Q ((qG body v).bind f) := by
 obtain ⟨o,h1,h2⟩ := qJ J μ Post hs hv
 rw [h1]
 exact hp o h2
theorem whileO_is {V O : Type} {body : V → Option (V ⊕ O)} {o : O} (J : V → Prop) (μ : V → Nat) {v : V} (hv : J v)
  (hs : ∀ v,J v → (∃ v',body v = some (.inl v') ∧ J v' ∧ μ v' < μ v) ∨ body v = some (.inr o)) : qG body v = some o := by
 obtain ⟨o',h1,h2⟩ := qJ J μ (fun x => x = o) (fun v hv => (hs v hv).imp id fun h => ⟨o,h,rfl⟩) hv
 rw [h1,h2]
theorem cmp_eq (a b : Ky) : qu a b = some (compareBytes a b) := by simp [qu,qR]
theorem filter_none {s : Spn} {q : List Pr} (h : ∀ x ∈ q,inT s x.1 = false) : (q.filter fun p => inT s p.1) = [] := by
 refine List.filter_eq_nil_iff.2 fun x hx => ?_
 rw [h x hx]; simp
theorem inT_low {s : Spn} {k : Ky} (h : Lt k s.1) : inT s k = false := by
 unfold inT Lt at *
 have : ¬ compareBytes k s.1 ≥ 0 := by omega
 simp [this]
theorem inT_high {s : Spn} {k : Ky} (he : s.2.2 = false) (h : ¬ Lt k s.2.1) : inT s k = false := by
 unfold inT Lt at *
 simp [he,h]
theorem scan_n {K : Int} {m : Mem} {s : Spn} (hw : WfM K m) : ∀ (fuel L : Nat) {n : Int} {q : List Pr},L < fuel → Tr m L n q → Rising q → q.length ≤ 1000000 →
  q71 fuel m n s = some (q.filter fun p => inT s p.1,0,m) := by
 intro fuel
 induction fuel with
 | zero => intro L n q h; omega
 | succ fuel ih =>
  intro L n q hL hT hq hn
  have hc := qT2 (q72 hT)
  have hp := hw.pos n _ hc.2
  have n0 : ¬ n = 0 := by omega
  have hg := tr_get hT
  have hnd := qa5 hT
  rw [q71]
  unfold q91
  rw [hg]
  simp only [n0,decide_false,cond_false,Option.bind_some,ne_eq,not_true_eq_false]
  rw [scan_leaf (by omega)]
  simp only [Option.bind_some]
  match L,hT with
  | 0,hT =>
   rw [Tr] at hT
   rw [hT.2.1]
   rw [qM]
   simp
  | L + 1,hT =>
   rw [Tr] at hT
   obtain ⟨_,ks,h1,h2,h3,qs,h4,h5⟩ := hT
   rw [h1]
   simp only [List.filter_nil]
   have hqf : Rising qs.flatten := h4 ▸ hq
   refine qu2 (Q := fun o => o = some (q.filter fun p => inT s p.1,0,m)) (fun v => ∃ D Z QD QZ,ks = D ++ Z ∧ qs = QD ++ QZ ∧ F2 (fun k q => Tr m L k.2 q ∧ ¬ fewN (ndOf m k.2) ∧ hd q = some k.1) Z QZ ∧ v = ((D.length : Int),m,QD.flatten.filter fun p => inT s p.1))
    (fun v => ((ks.length : Int) - v.1).toNat) (fun o => o = .inl (m,q.filter fun p => inT s p.1)) ⟨[],ks,[],qs,rfl,rfl,h5,rfl⟩ ?_ ?_
   ·rintro v ⟨D,Z,QD,QZ,e1,e2,e3,rfl⟩
    have hl : ks.length = D.length + Z.length := by rw [e1]; simp
    cases e3 with
    | nil =>
     right
     have t : ¬ ((D.length : Int) < (ks.length : Int)) := by simp at hl; omega
     refine ⟨.inl (m,q.filter fun p => inT s p.1),?_,rfl⟩
     simp only [t,decide_false,cond_false]
     rw [← h4,e2]; simp
    | @cons z qz Z' QZ' hz hzs =>
     left
     simp only [List.length_cons] at hl
     have t : ((D.length : Int) < (ks.length : Int)) := by omega
     have g0 : gx ks (D.length : Int) = some z := by rw [e1]; exact qm2 rfl
     have w1 : IntKind.wrap .i64 ((D.length : Int) + 1) = (D.length : Int) + 1 := w64 (by omega) (by omega)
     rw [e2,List.flatten_append,List.flatten_cons] at hqf
     obtain ⟨r1,r2,r3⟩ := qK.1 hqf
     obtain ⟨r4,r5,r6⟩ := qK.1 r2
     have lq : qs.flatten.length = q.length := by rw [h4]
     have lq' : QD.flatten.length + qz.length ≤ q.length := by rw [← lq,e2]; simp
     have fl1 := List.length_filter_le (fun p : Pr => inT s p.1) QD.flatten
     have fl2 := List.length_filter_le (fun p : Pr => inT s p.1) qz
     refine ⟨((D.length : Int) + 1,m,(QD ++ [qz]).flatten.filter fun p => inT s p.1),?_,⟨D ++ [z],Z',QD ++ [qz],QZ',by simp [e1],by simp [e2],hzs,by simp⟩,by simp; omega⟩
     simp only [t,decide_true,cond_true,w1]
     have hbe : ∃ bh,((cond (decide ((D.length : Int) + 1 < (ks.length : Int))) (
         (gx ks ((D.length : Int) + 1)).bind fun x1100 =>
         (qu x1100.1 s.1).bind fun x1103 =>
         some (decide (x1103 ≤ 0))
        ) (
         some false
        )) : Option Bool) = some bh ∧ (bh = true → ∀ x ∈ qz,inT s x.1 = false) := by
      cases hzs with
      | nil =>
       have t2 : ¬ ((D.length : Int) + 1 < (ks.length : Int)) := by simp at hl; omega
       exact ⟨false,by simp only [t2,decide_false,cond_false],fun h => by cases h⟩
      | @cons y qy Z2 QZ2 hy hys =>
       simp only [List.length_cons] at hl
       have t2 : ((D.length : Int) + 1 < (ks.length : Int)) := by omega
       have g1 : gx ks ((D.length : Int) + 1) = some y := by
        rw [e1,show D ++ z :: y :: Z2 = (D ++ [z]) ++ y :: Z2 by simp]; exact qm2 (by simp)
       refine ⟨decide (compareBytes y.1 s.1 ≤ 0),by simp only [t2,decide_true,cond_true,g1,Option.bind_some,cmp_eq],fun h x hx => ?_⟩
       have h' := of_decide_eq_true h
       obtain ⟨b,hb,eb⟩ := hd_mem hy.2.2
       have := r6 x hx b (by simp [hb])
       rw [eb] at this
       exact inT_low (cb_lt_le this h')
     obtain ⟨bh,b1,b2⟩ := hbe
     rw [b1]
     simp only [Option.bind_some]
     have hah : ∃ ah,((cond (!s.2.2) (
         (gx ks (D.length : Int)).bind fun x1121 =>
         (qu x1121.1 s.2.1).bind fun x1124 =>
         some (decide (x1124 ≥ 0))
        ) (
         some false
        )) : Option Bool) = some ah ∧ (ah = true → ∀ x ∈ qz,inT s x.1 = false) := by
      cases hs : s.2.2 with
      | true => exact ⟨false,rfl,fun h => by cases h⟩
      | false =>
       refine ⟨decide (compareBytes z.1 s.2.1 ≥ 0),by simp only [Bool.not_false,cond_true,g0,Option.bind_some,cmp_eq],fun h x hx => ?_⟩
       have h' := of_decide_eq_true h
       refine inT_high hs fun hl => ?_
       rcases hd_le hz.2.2 r4 x hx with e | e
       ·rw [e] at hl; unfold Lt at hl; omega
       ·have := lt_trans e hl; unfold Lt at this; omega
     obtain ⟨ah,a1,a2⟩ := hah
     rw [a1]
     simp only [Option.bind_some]
     have hor : (cond bh (some true) (some ah) : Option Bool) = some (bh || ah) := by cases bh <;> rfl
     rw [hor]
     simp only [Option.bind_some]
     have e0 : ((QD ++ [qz]).flatten.filter fun p => inT s p.1) = (QD.flatten.filter fun p => inT s p.1) ++ qz.filter fun p => inT s p.1 := by simp
     rw [e0]
     cases hb : (bh || ah) with
     | true =>
      have : (qz.filter fun p => inT s p.1) = [] := filter_none (by
       rcases Bool.or_eq_true _ _ |>.mp hb with h | h
       ·exact b2 h
       ·exact a2 h)
      rw [this]
      simp
     | false =>
      simp only [cond_false,g0,Option.bind_some]
      rw [ih L (by omega) hz.1 r4 (by omega)]
      simp only [Option.bind_some,not_true_eq_false,decide_false,cond_false]
      rw [qj1 (by omega)]
      rfl
   ·rintro o rfl
    rfl
theorem scan_eq {K : Int} {m : Mem} {s : Spn} (hw : WfM K m) {L : Nat} {n : Int} {q : List Pr} (hL : L < 16) (h : Tr m L n q) (hq : Rising q) (hn : q.length ≤ 1000000) : ql0 m n s = some (q.filter fun p => inT s p.1,0,m) :=
 scan_n hw 16 L hL h hq hn
theorem scan_zero {m : Mem} {s : Spn} : ql0 m 0 s = some ([],0,m) := by
 unfold ql0
 rw [q71]
 unfold q91
 simp
end Go.Val
namespace Go.Val
open Go.RowKit Go.Lib
abbrev KidR (m : Mem) (L : Nat) (k : Kd) (q : List Pr) : Prop := Tr m L k.2 q ∧ ¬ fewN (ndOf m k.2) ∧ hd q = some k.1
def q95 (q : List Pr) : Prop := ∀ p ∈ q,p.2.size ≤ 40
theorem ql3 {K : Int} {m : Mem} {n : Int} (hw : WfM K m) (h : cnt m n ≠ 0) : 1 ≤ cnt m n ∧ cnt m n ≤ K ∧ 2 ≤ n ∧ n < m.1.1 := hw.pos n _ (qT2 h).2
theorem kids_ok {K : Int} {m : Mem} (hw : WfM K m) {L : Nat} : ∀ {ks : List Kd} {qs : List (List Pr)},F2 (KidR m L) ks qs → Rising qs.flatten → KidsOk ks
 | _,_,.nil,_ => ⟨by simp,by simp⟩
 | _,_,.cons (a := k) (b := q) (l := ks) (r := qs) h hs,hr => by
  rw [List.flatten_cons] at hr
  obtain ⟨r1,r2,r3⟩ := qK.1 hr
  obtain ⟨i1,i2⟩ := kids_ok hw hs r2
  have hp := ql3 hw (q72 h.1)
  have hb := hw.blk
  refine ⟨fun k' hk' => ?_,?_⟩
  ·rcases List.mem_cons.1 hk' with rfl | hk'
   ·exact ⟨hp.2.2.1,by omega⟩
   ·exact i1 k' hk'
  ·rw [List.map_cons,List.nodup_cons]
   refine ⟨fun hm => ?_,i2⟩
   obtain ⟨k',hk',e⟩ := List.mem_map.1 hm
   obtain ⟨q',hq',hR⟩ := hs.mem k' hk'
   have e2 : q' = q := by
    have := hR.1
    rw [e] at this
    exact tr_unique this h.1
   obtain ⟨x,hx,_⟩ := hd_mem h.2.2
   exact lt_irrefl _ (r3 x hx x (List.mem_flatten.2 ⟨q',hq',by rw [e2]; exact hx⟩))
theorem right_inner {K : Int} {m : Mem} (hw : WfM K m) {L : Nat} {ks : List Kd} {qs : List (List Pr)} (hL : L + 1 < 12) (h2 : 2 ≤ ks.length) (h18 : ks.length ≤ 18) (h : F2 (KidR m L) ks qs) (hr : Rising qs.flatten) : RightN (((L + 1 : Nat) : Int),[],ks) := by
 refine ⟨by simp only; omega,by simp only; omega,fun h0 => ?_,fun _ => ⟨h2,h18,rfl⟩,by simp,kids_ok hw h hr,by simp [Rising,Asc],qF4 (fun k q hk => hk.2.2) h hr⟩
 have h0' : ((L + 1 : Nat) : Int) = 0 := h0
 omega
theorem right_leaf {q : List Pr} (h1 : 1 ≤ q.length) (h7 : q.length ≤ 7) (hr : Rising q) (hs : q95 q) : RightN (0,q,[]) :=
 ⟨by simp,by simp,fun _ => ⟨h1,h7,rfl⟩,fun h => by simp at h,hs,⟨by simp,by simp⟩,hr,by simp [Rising,Asc]⟩
theorem tr_right {K : Int} {m : Mem} (hw : WfM K m) : ∀ {L : Nat} {n : Int} {q : List Pr},L < 12 → Tr m L n q → Rising q → q95 q → RightN (ndOf m n)
 | 0,n,q,_,h,hr,hs => by
  rw [Tr] at h
  rw [h.2.1]
  exact right_leaf h.2.2.1 h.2.2.2 hr hs
 | L + 1,n,q,hL,h,hr,hs => by
  rw [Tr] at h
  obtain ⟨_,ks,h1,h2,h3,qs,h4,h5⟩ := h
  rw [h1]
  exact right_inner hw hL h2 h3 h5 (h4 ▸ hr)
theorem rightB {x : Nd} (h : RightN x) : qK1 x = some true := by
 have h1 : x.2.1.length ≤ 1000000000 := by
  obtain ⟨a,b,c,d,_⟩ := h
  by_cases e : x.1 = 0
  ·have := c e; omega
  ·have := d (by omega); omega
 have h2 : x.2.2.length ≤ 1000000000 := by
  obtain ⟨a,b,c,d,_⟩ := h
  by_cases e : x.1 = 0
  ·have := c e; omega
  ·have := d (by omega); omega
 obtain ⟨b,e1,e2⟩ := right_eq h1 h2
 rw [e1,e2.2 h]
theorem qH4 {m : Mem} {L : Nat} {n : Int} {q : List Pr} (h : Tr m L n q) (hn : q.length ≤ 1000000) : L < 7 := by
 match L,h with
 | 0,_ => omega
 | L + 1,h =>
  rw [Tr] at h
  obtain ⟨_,ks,h1,h2,h3,qs,h4,h5⟩ := h
  have := flat_size (R := KidR m L) (c := 3 * 9 ^ L) (fun k q hk => tr_size hk.1 hk.2.1) h5
  rw [h4] at this
  have h2' : 2 * (3 * 9 ^ L) ≤ ks.length * (3 * 9 ^ L) := Nat.mul_le_mul_right _ h2
  refine Nat.lt_of_not_le fun h6 => ?_
  have h9 : 9 ^ 6 ≤ 9 ^ L := Nat.pow_le_pow_right (by omega) (by omega)
  have : (9 : Nat) ^ 6 = 531441 := by decide
  omega
instance (x : Nd) : Decidable (fewN x) := by
 unfold fewN
 split <;> infer_instance
theorem few_nd (x : Nd) : qM4 x = some (decide (fewN x)) := by
 obtain ⟨l,ps,ks⟩ := x
 unfold qM4 fewN
 by_cases h : l = 0
 ·simp [h]
  constructor <;> intro <;> omega
 ·simp [h]
  constructor <;> intro <;> omega
theorem first_tr {m : Mem} : ∀ {L : Nat} {n : Int} {q : List Pr} {k : Ky},Tr m L n q → hd q = some k → q42 (ndOf m n) = some k
 | 0,n,q,k,h,hk => by
  rw [Tr] at h
  rw [h.2.1]
  match q,hk with
  | x :: q,hk =>
   have e : x.1 = k := by simpa [hd] using hk
   unfold q42
   rw [show gx (x :: q) 0 = some x from rfl]
   simp [e]
 | L + 1,n,q,k,h,hk => by
  rw [Tr] at h
  obtain ⟨_,ks,h1,h2,h3,qs,h4,h5⟩ := h
  rw [h1]
  match ks,qs,h5 with
  | k0 :: ks,q0 :: qs,.cons h h5 =>
   have e : k0.1 = k := by
    rw [← h4,List.flatten_cons,hd_app (hd_ne h.2.2),h.2.2] at hk
    exact Option.some.inj hk
   unfold q42
   rw [show gx (k0 :: ks) 0 = some k0 from rfl]
   simp [e]
theorem check_n {K : Int} {m : Mem} (hw : WfM K m) : ∀ (fuel L : Nat) {n : Int} {q : List Pr} {t : Ky × Bool},L < fuel → L < 12 → Tr m L n q → Rising q → q95 q → (t.2 = true → ∀ x ∈ q,Lt x.1 t.1) →
  qh1 fuel m (ndOf m n) t = some (0,m) := by
 intro fuel
 induction fuel with
 | zero => intro L n q t h; omega
 | succ fuel ih =>
  intro L n q t hL h12 hT hr hs ht
  have hR := tr_right hw h12 hT hr hs
  rw [qh1]
  unfold qq1
  rw [rightB hR]
  simp only [Option.bind_some,Bool.not_true,cond_false]
  have hlast : ∃ k,((cond (decide ((ndOf m n).1 = 0)) (
    (gx (ndOf m n).2.1 (IntKind.wrap .i64 (((ndOf m n).2.1.length : Int) - 1))).bind fun x22 =>
    some x22.1
   ) (
    (gx (ndOf m n).2.2 (IntKind.wrap .i64 (((ndOf m n).2.2.length : Int) - 1))).bind fun x25 =>
    some x25.1
   )) : Option (List UInt8)) = some k ∧ ∃ x ∈ q,x.1 = k := by
   match L,hT with
   | 0,hT =>
    rw [Tr] at hT
    rw [hT.2.1]
    rcases q01 q with rfl | ⟨D,z,rfl⟩
    ·simp at hT
    ·refine ⟨z.1,?_,z,by simp,rfl⟩
     have hl7 := hT.2.2.2
     simp only [List.length_append,List.length_cons,List.length_nil] at hl7
     have e : IntKind.wrap .i64 (((D ++ [z]).length : Int) - 1) = (D.length : Int) := by
      rw [w64 (by simp <;> omega) (by simp <;> omega)]; simp
     simp only [decide_true,cond_true]
     rw [e,show gx (D ++ [z]) (D.length : Int) = some z from qm2 rfl]
     rfl
   | L + 1,hT =>
    rw [Tr] at hT
    obtain ⟨_,ks,h1,h2,h3,qs,h4,h5⟩ := hT
    rw [h1]
    rcases q01 ks with rfl | ⟨D,z,rfl⟩
    ·simp at h2
    ·have h0 : ¬ ((L + 1 : Nat) : Int) = 0 := by omega
     simp only [List.length_append,List.length_cons,List.length_nil] at h3
     have e : IntKind.wrap .i64 (((D ++ [z]).length : Int) - 1) = (D.length : Int) := by
      rw [w64 (by simp <;> omega) (by simp <;> omega)]; simp
     obtain ⟨q',hq',hR'⟩ := h5.mem z (by simp)
     obtain ⟨x,hx,ex⟩ := hd_mem hR'.2.2
     refine ⟨z.1,?_,x,by rw [← h4]; exact List.mem_flatten.2 ⟨q',hq',hx⟩,ex⟩
     simp only [h0,decide_false,cond_false]
     rw [e,show gx (D ++ [z]) (D.length : Int) = some z from qm2 rfl]
     rfl
  obtain ⟨k,k1,x,hx,ex⟩ := hlast
  rw [k1]
  simp only [Option.bind_some]
  have hb : ((cond t.2 (
    (qu k t.1).bind fun x40 =>
    some (decide (x40 ≥ 0))
   ) (
    some false
   )) : Option Bool) = some false := by
   cases h : t.2 with
   | false => rfl
   | true =>
    have := ht h x hx
    rw [ex] at this
    unfold Lt at this
    have h' : ¬ (compareBytes k t.1 ≥ 0) := by omega
    simp only [cond_true,cmp_eq,Option.bind_some,h',decide_false]
  rw [hb]
  simp only [Option.bind_some,cond_false]
  match L,hT with
  | 0,hT =>
   rw [Tr] at hT
   rw [hT.2.1,qM]
   simp
  | L + 1,hT =>
   rw [Tr] at hT
   obtain ⟨_,ks,h1,h2,h3,qs,h4,h5⟩ := hT
   rw [h1]
   have hqf : Rising qs.flatten := h4 ▸ hr
   refine qu2 (Q := fun o => o = some (0,m)) (fun v => ∃ D Z QD QZ,ks = D ++ Z ∧ qs = QD ++ QZ ∧ F2 (KidR m L) Z QZ ∧ v = ((D.length : Int),m))
    (fun v => ((ks.length : Int) - v.1).toNat) (fun o => o = .inl m) ⟨[],ks,[],qs,rfl,rfl,h5,rfl⟩ ?_ ?_
   ·rintro v ⟨D,Z,QD,QZ,e1,e2,e3,rfl⟩
    have hl : ks.length = D.length + Z.length := by rw [e1]; simp
    cases e3 with
    | nil =>
     right
     have t : ¬ ((D.length : Int) < (ks.length : Int)) := by simp at hl; omega
     exact ⟨.inl m,by simp only [t,decide_false,cond_false],rfl⟩
    | @cons z qz Z' QZ' hz hzs =>
     left
     simp only [List.length_cons] at hl
     have tt : ((D.length : Int) < (ks.length : Int)) := by omega
     have g0 : gx ks (D.length : Int) = some z := by rw [e1]; exact qm2 rfl
     have w1 : IntKind.wrap .i64 ((D.length : Int) + 1) = (D.length : Int) + 1 := w64 (by omega) (by omega)
     have w2 : IntKind.wrap .i64 (((L + 1 : Nat) : Int) - 1) = (L : Int) := by rw [w64 (by omega) (by omega)]; omega
     rw [e2,List.flatten_append,List.flatten_cons] at hqf
     obtain ⟨r1,r2,r3⟩ := qK.1 hqf
     obtain ⟨r4,r5,r6⟩ := qK.1 r2
     refine ⟨((D.length : Int) + 1,m),?_,⟨D ++ [z],Z',QD ++ [qz],QZ',by simp [e1],by simp [e2],hzs,by simp⟩,by simp; omega⟩
     simp only [tt,decide_true,cond_true,w1,g0,Option.bind_some,tr_get hz.1,ne_eq,not_true_eq_false,decide_false,cond_false]
     have hsub : ∀ x ∈ qz,x ∈ q := fun x hx => by rw [← h4,e2]; simp [hx]
     have hnx : ∃ t',((cond (decide ((D.length : Int) + 1 < (ks.length : Int))) (
         (gx ks ((D.length : Int) + 1)).bind fun x439 =>
         some (x439.1,true)
        ) (
         some t
        )) : Option ((List UInt8) × Bool)) = some t' ∧ (t'.2 = true → ∀ x ∈ qz,Lt x.1 t'.1) := by
      cases hzs with
      | nil =>
       have t2 : ¬ ((D.length : Int) + 1 < (ks.length : Int)) := by simp at hl; omega
       exact ⟨t,by simp only [t2,decide_false,cond_false],fun h x hx => ht h x (hsub x hx)⟩
      | @cons y qy Z2 QZ2 hy hys =>
       simp only [List.length_cons] at hl
       have t2 : ((D.length : Int) + 1 < (ks.length : Int)) := by omega
       have g1 : gx ks ((D.length : Int) + 1) = some y := by
        rw [e1,show D ++ z :: y :: Z2 = (D ++ [z]) ++ y :: Z2 by simp]; exact qm2 (by simp)
       refine ⟨(y.1,true),by simp only [t2,decide_true,cond_true,g1,Option.bind_some],fun h x hx => ?_⟩
       obtain ⟨b,hb,eb⟩ := hd_mem hy.2.2
       have := r6 x hx b (by simp [hb])
       rw [eb] at this
       exact this
     obtain ⟨t',n1,n2⟩ := hnx
     rw [n1]
     simp only [Option.bind_some,w2,(qa5 hz.1).1,not_true_eq_false,decide_false,cond_false,first_tr hz.1 hz.2.2,decide_true,Bool.not_true,few_nd,hz.2.1]
     rw [ih L (by omega) (by omega) hz.1 r4 (fun x hx => hs x (hsub x hx)) n2]
     rfl
   ·rintro o rfl
    rfl
theorem check_eq {K : Int} {m : Mem} (hw : WfM K m) {L : Nat} {n : Int} {q : List Pr} (h : Tr m L n q) (hr : Rising q) (hs : q95 q) (hn : q.length ≤ 1000000) : qO1 m n = some (0,m) := by
 have hp := ql3 hw (q72 h)
 have n0 : ¬ n = 0 := by omega
 have hL := qH4 h hn
 unfold qO1 qj3
 simp only [n0,decide_false,cond_false,tr_get h,Option.bind_some,ne_eq,not_true_eq_false]
 rw [check_n hw 16 L (by omega) (by omega) h hr hs (fun h => by cases h)]
 rfl
end Go.Val
namespace Go.Val
open Go.RowKit Go.Lib
def used (m : Mem) : Nat := m.1.2.1.length
def Live (m : Mem) : Prop := ∀ n,cnt m n ≠ 0 → ∃ L q,L < 12 ∧ Tr m L n q ∧ Rising q ∧ q95 q
structure StM (K : Nat) (m : Mem) (R : List Int) : Prop where
 wf : WfM (K : Int) m
 live : Live m
 rc : RC m R
structure Wr (K : Nat) (m : Mem) (d R : List Int) (L : Nat) (p : Pt) (q : List Pr) (n : Int) (d' : List Int) (m' : Mem) (c : Nat) : Prop where
 tr : Tr m' L n q
 grow : Grow m m'
 st : StM (K + c) m' (R ++ [n])
 blk : m'.1.1 = m.1.1
 used : used m' = used m + frs L p
 dlen : d'.length = d.length + c
 fr : frs L p ≤ c
 c1 : 2 * c ≤ q.length + 1
 c2 : ¬ fewP p → ¬ fewN (ndOf m' n) ∧ 2 * c + 1 ≤ q.length
theorem WfM.mono {K K' : Int} {m : Mem} (h : WfM K m) (hK : K ≤ K') : WfM K' m := ⟨h.blk,h.low,h.full,h.nodup,fun n c hc => by
 obtain ⟨a,b,c,d⟩ := h.pos n c hc
 exact ⟨a,by omega,c,d⟩⟩
theorem live_grow {m m' : Mem} (h : Live m) (hg : Grow m m') (hn : ∀ n,cnt m' n ≠ 0 → cnt m n = 0 → ∃ L q,L < 12 ∧ Tr m' L n q ∧ Rising q ∧ q95 q) : Live m' := fun n hc => by
 by_cases h0 : cnt m n = 0
 ·exact hn n hc h0
 ·obtain ⟨L,q,a,b,c⟩ := h n h0
  exact ⟨L,q,a,Tr.ext hg b,c⟩
theorem tr_rising_level {m : Mem} {L : Nat} {n : Int} {q : List Pr} (h : Tr m L n q) (hn : q.length ≤ 1000000) : L < 12 := by
 have := qH4 h hn
 omega
theorem inc_st {K : Nat} {m : Mem} {R : List Int} {b : Int} (h : StM K m R) (hK : K ≤ 1000000000000) (hb : cnt m b ≠ 0) :
  qs0 m b = some (0,incM m b) ∧ StM (K + 1) (incM m b) (R ++ [b]) ∧ Grow m (incM m b) ∧ (incM m b).1.1 = m.1.1 ∧ used (incM m b) = used m := by
 obtain ⟨e1,e2⟩ := inc_eq h.wf (by omega) hb
 have hg : Grow m (incM m b) := ext_inc hb (ql3 h.wf hb).1
 refine ⟨e1,⟨e2.mono (by omega),live_grow h.live hg fun n hc h0 => ?_,rc_inc h.rc hb⟩,hg,rfl,mset_len (qT2 hb).1⟩
 rw [cnt_inc] at hc
 by_cases e : n = b
 ·exact absurd h0 (e ▸ hb)
 ·rw [if_neg e] at hc; exact absurd h0 hc
theorem put_st {K : Nat} {m : Mem} {R : List Int} {x : Nd} (h : StM K m (R ++ qm1 x)) (hK : 1 ≤ K) (hx : RightN x) (h1 : x.2.1.length ≤ 1000000000) (h2 : x.2.2.length ≤ 1000000000) (hf : (used m : Int) < m.1.1 - 2)
  {L : Nat} {q : List Pr} (hT : ∀ m' n,Grow m m' → cnt m' n ≠ 0 → ndOf m' n = x → Tr m' L n q) (hL : L < 12) (hr : Rising q) (hs : q95 q) :
  ∃ n m',qK0 m x = some (n,0,m') ∧ Tr m' L n q ∧ ndOf m' n = x ∧ StM K m' (R ++ [n]) ∧ Grow m m' ∧ m'.1.1 = m.1.1 ∧ used m' = used m + 1 ∧ cnt m n = 0 := by
 obtain ⟨n,e1,e2,e3,e4,e5⟩ := put_eq h.wf (by omega) hx h1 h2 hf
 have hg : Grow m (putM m n x) := ext_put e2
 have hn : ndOf (putM m n x) n = x := by rw [nd_put,if_pos rfl]
 have hc : cnt (putM m n x) n ≠ 0 := by rw [cnt_put,if_pos rfl]; omega
 have ht := hT _ n hg hc hn
 refine ⟨n,putM m n x,e1,ht,hn,⟨e5,live_grow h.live hg fun k hk h0 => ?_,rc_put h.wf h.rc e2⟩,hg,rfl,mset_len_new (cnt_not h.wf e2),e2⟩
 by_cases e : k = n
 ·subst e; exact ⟨L,q,hL,ht,hr,hs⟩
 ·rw [cnt_put,if_neg e] at hk; exact absurd h0 hk
theorem ptOk_none {m : Mem} {L : Nat} {k : Ky} {b : Int} {q : List Pr} (h : PtOk m L (k,b,none) q) : Tr m L b q ∧ ¬ fewN (ndOf m b) ∧ hd q = some k := by
 match L,h with
 | 0,h => rw [PtOk] at h; exact h
 | L + 1,h => rw [PtOk] at h; exact h
theorem F2.snoc {α β : Type} {R : α → β → Prop} {l : List α} {r : List β} {a : α} {b : β} (h : F2 R l r) (k : R a b) : F2 R (l ++ [a]) (r ++ [b]) := h.app (.cons k .nil)
theorem kidR_grow {m m' : Mem} (hg : Grow m m') {L : Nat} {k : Kd} {q : List Pr} (h : KidR m L k q) : KidR m' L k q := by
 obtain ⟨_,g2⟩ := hg k.2 (q72 h.1)
 exact ⟨Tr.ext hg h.1,by rw [g2]; exact h.2.1,h.2.2⟩
def NotOne (p : Pt) : Prop := ∀ l ps ks,p.2.2 = some (.mk l ps ks) → ks.length ≠ 1
theorem notFew_notOne {m : Mem} : ∀ {L : Nat} {p : Pt} {q : List Pr},PtOk m L p q → ¬ fewP p → NotOne p
 | 0,(k,b,none),q,h,_ => fun l ps ks e => by cases e
 | L + 1,(k,b,none),q,h,_ => fun l ps ks e => by cases e
 | 0,(k,b,some (.mk l ps ks)),q,h,hf => fun l' ps' ks' e => by
  rw [PtOk] at h
  simp only [Option.some.injEq,Fr.mk.injEq] at e
  rw [← e.2.2,h.2.1]; simp
 | L + 1,(k,b,some (.mk l ps ks)),q,h,hf => fun l' ps' ks' e => by
  rw [PtOk] at h
  have h0 : ¬ (l = 0) := by omega
  simp only [fewP,h0,if_false] at hf
  simp only [Option.some.injEq,Fr.mk.injEq] at e
  rw [← e.2.2]; omega
theorem write_n : ∀ (fuel L : Nat) {K : Nat} {m : Mem} {d R : List Int} {p : Pt} {q : List Pr},L < fuel → L < 12 → PtOk m L p q → NotOne p → StM K m R → 1 ≤ K → K + q.length ≤ 1000000000000 → d.length + q.length ≤ 1000000000 →
  (used m : Int) + q.length ≤ m.1.1 - 2 → Rising q → q95 q →
  ∃ n d' m' c,qm0 fuel d p m = some (n,0,d',m') ∧ Wr K m d R L p q n d' m' c := by
 intro fuel
 induction fuel with
 | zero => intro L K m d R p q h; omega
 | succ fuel ih =>
  intro L K m d R p q hL h12 hp h1 hst hK hKq hd hroom hr hs
  rw [qm0]
  unfold qx0
  obtain ⟨k,b,f⟩ := p
  match f with
  | none =>
   obtain ⟨t1,t2,t3⟩ := ptOk_none hp
   obtain ⟨i1,i2,i3,i4,i5⟩ := inc_st hst (by omega) (q72 t1)
   have hq := tr_size t1 t2
   have h9 : 1 ≤ 9 ^ L := Nat.one_le_pow _ _ (by omega)
   refine ⟨b,d ++ [b],incM m b,1,?_,⟨Tr.ext i3 t1,i3,i2,i4,by rw [i5,frs_none]; rfl,by simp,by rw [frs_none]; omega,by omega,fun _ => ⟨?_,by omega⟩⟩⟩
   ·simp only [Option.isNone_none,cond_true]
    rw [i1]
    simp only [Option.bind_some,decide_true,cond_true]
    rw [qj1 (by simp; omega)]
    rfl
   ·rw [(i3 b (q72 t1)).2]; exact t2
  | some (.mk l ps ks) =>
   simp only [Option.isNone_some,cond_false,frOf,Option.bind_some]
   match L,hp with
   | 0,hp =>
    rw [PtOk] at hp
    obtain ⟨rfl,rfl,rfl,a1,a2,a3⟩ := hp
    rw [qM]
    obtain ⟨n,m',e1,e2,e3,e4,e5,e6,e7,e8⟩ := put_st (x := (0,ps,[])) (R := R) (K := K) (by simpa [qm1] using hst) hK (right_leaf a1 a2 hr hs) (by simp only; omega) (by simp) (by omega) (L := 0) (q := ps)
     (fun m' n hg hc hn => by rw [Tr]; exact ⟨hc,hn,a1,a2⟩) (by omega) hr hs
    refine ⟨n,d ++ [n],m',1,?_,⟨e2,e5,⟨e4.wf.mono (by omega),e4.live,e4.rc⟩,e6,by rw [e7,frs],by simp,by rw [frs]; omega,by omega,fun hf => ?_⟩⟩
    ·have : ¬ ((0 : Int) < ((([] : List Pt).length : Nat) : Int)) := by simp
     simp only [this,decide_false,cond_false,Option.bind_some,Sum.elim_inl]
     rw [e1]
     simp only [Option.bind_some,decide_true,cond_true]
     rw [qj1 (by simp; omega)]
     rfl
    ·simp [fewP] at hf
     rw [e3]
     refine ⟨?_,by omega⟩
     simp [fewN]; omega
   | L + 1,hp =>
    rw [PtOk] at hp
    obtain ⟨rfl,rfl,a1,a2,a3,qs,a4,a5,a6⟩ := hp
    have hk1 : ks.length ≠ 1 := h1 _ _ _ rfl
    have a6' := a6 (by omega)
    have hrf : Rising qs.flatten := a4 ▸ hr
    refine qu2 (Q := fun o => ∃ n d' m' c,o = some (n,0,d',m') ∧ Wr K m d R (L + 1) (k,b,some (.mk ((L + 1 : Nat) : Int) [] ks)) q n d' m' c)
     (fun v => ∃ D Z QD QZ c,∃ (d1 : List Int) (m1 : Mem) (kds : List Kd),ks = D ++ Z ∧ qs = QD ++ QZ ∧ F2 (PtOk m1 L) Z QZ ∧ v = ((D.length : Int),d1,m1,(((L + 1 : Nat) : Int),[],kds)) ∧ F2 (KidR m1 L) kds QD ∧ kds.length = D.length ∧
      Grow m m1 ∧ StM (K + c) m1 (R ++ kds.map (·.2)) ∧ m1.1.1 = m.1.1 ∧ used m1 = used m + (D.map (frs L)).sum ∧ d1.length = d.length + c ∧ (D.map (frs L)).sum ≤ c ∧ 2 * c + D.length ≤ QD.flatten.length)
     (fun v => ((ks.length : Int) - v.1).toNat)
     (fun o => ∃ c,∃ (d1 : List Int) (m1 : Mem) (kds : List Kd),o = .inl (d1,m1,(((L + 1 : Nat) : Int),[],kds)) ∧ F2 (KidR m1 L) kds qs ∧ kds.length = ks.length ∧
      Grow m m1 ∧ StM (K + c) m1 (R ++ kds.map (·.2)) ∧ m1.1.1 = m.1.1 ∧ used m1 = used m + (ks.map (frs L)).sum ∧ d1.length = d.length + c ∧ (ks.map (frs L)).sum ≤ c ∧ 2 * c + ks.length ≤ qs.flatten.length)
     ⟨[],ks,[],qs,0,d,m,[],rfl,rfl,a5,rfl,.nil,rfl,Grow.refl m,by simpa using hst,rfl,by simp,by simp,by simp,by simp⟩ ?_ ?_
    ·rintro v ⟨D,Z,QD,QZ,c,d1,m1,kds,e1,e2,e3,rfl,e4,e5,e6,e7,e8,e9,e10,e11,e12⟩
     have hl : ks.length = D.length + Z.length := by rw [e1]; simp
     cases e3 with
     | nil =>
      right
      have t : ¬ ((D.length : Int) < (ks.length : Int)) := by simp at hl; omega
      rw [List.append_nil] at e1 e2
      subst e1; subst e2
      exact ⟨.inl (d1,m1,(((L + 1 : Nat) : Int),[],kds)),by simp only [t,decide_false,cond_false],c,d1,m1,kds,rfl,e4,e5,e6,e7,e8,e9,e10,e11,e12⟩
     | @cons z qz Z' QZ' hz hzs =>
      left
      simp only [List.length_cons] at hl
      have tt : ((D.length : Int) < (ks.length : Int)) := by omega
      have g0 : gx ks (D.length : Int) = some z := by rw [e1]; exact qm2 rfl
      have w1 : IntKind.wrap .i64 ((D.length : Int) + 1) = (D.length : Int) + 1 := w64 (by omega) (by omega)
      have hrf' := hrf
      rw [e2,List.flatten_append,List.flatten_cons] at hrf'
      have r4 := (qK.1 (qK.1 hrf').2.1).1
      have hsz : q95 qz := fun x hx => hs x (by rw [← a4,e2]; simp [hx])
      have lq : q.length = QD.flatten.length + qz.length + QZ'.flatten.length := by rw [← a4,e2]; simp; omega
      have hzf : ¬ fewP z := a6' z (by rw [e1]; simp)
      obtain ⟨n,d2,m2,c2,f1,f2⟩ := ih L (K := K + c) (m := m1) (d := d1) (R := R ++ kds.map (·.2)) (p := z) (q := qz) (by omega) (by omega) hz (notFew_notOne hz hzf) e7 (by omega) (by omega) (by omega) (by rw [e8]; omega) r4 hsz
      obtain ⟨f3,f4⟩ := f2.c2 hzf
      have hhd := ptOk_hd hz
      refine ⟨((D.length : Int) + 1,d2,m2,(((L + 1 : Nat) : Int),[],kds ++ [(z.1,n)])),?_,⟨D ++ [z],Z',QD ++ [qz],QZ',c + c2,d2,m2,kds ++ [(z.1,n)],by simp [e1],by simp [e2],hzs.imp fun p q h => PtOk.ext f2.grow h,by simp,?_,by simp [e5],e6.trans f2.grow,?_,by rw [f2.blk,e8],?_,by rw [f2.dlen]; omega,?_,?_⟩,by simp; omega⟩
      ·simp only [tt,decide_true,cond_true,g0,Option.bind_some]
       rw [f1]
       simp only [Option.bind_some,ne_eq,not_true_eq_false,decide_false,cond_false,w1]
       rw [qj1 (by simp; omega)]
       rfl
      ·exact (e4.imp fun k q h => kidR_grow f2.grow h).snoc ⟨f2.tr,f3,hhd⟩
      ·have := f2.st
       rw [show K + (c + c2) = K + c + c2 by omega]
       rw [List.map_append,← List.append_assoc]
       exact this
      ·rw [f2.used,e9]; simp; omega
      ·have := f2.fr; simp; omega
      ·have : (QD ++ [qz]).flatten.length = QD.flatten.length + qz.length := by simp
       rw [this,List.length_append,List.length_singleton]; omega
    ·rintro o ⟨c,d1,m1,kds,rfl,e4,e5,e6,e7,e8,e9,e10,e11,e12⟩
     simp only [Sum.elim_inl]
     have lq : qs.flatten.length = q.length := by rw [a4]
     obtain ⟨n,m',p1,p2,p3,p4,p5,p6,p7,p8⟩ := put_st (x := (((L + 1 : Nat) : Int),[],kds)) (R := R) (K := K + c) e7 (by omega) (right_inner e7.wf (by omega) (by omega) (by omega) e4 hrf) (by simp) (by simp only; omega) (by rw [e8]; omega) (L := L + 1) (q := q)
      (fun m' n hg hc hn => by
       rw [Tr]
       exact ⟨hc,kds,hn,by omega,by omega,qs,a4,e4.imp fun k q h => kidR_grow hg h⟩) (by omega) hr hs
     refine ⟨n,d1 ++ [n],m',c + 1,?_,⟨p2,e6.trans p5,⟨p4.wf.mono (by omega),p4.live,p4.rc⟩,by rw [p6,e8],?_,by simp; omega,?_,by omega,fun hf => ⟨?_,?_⟩⟩⟩
     ·rw [p1]
      simp only [Option.bind_some,decide_true,cond_true]
      rw [qj1 (by simp; omega)]
      rfl
     ·rw [p7,e9,frs]; omega
     ·rw [frs]; omega
     ·have h0 : ¬ (((L + 1 : Nat) : Int) = 0) := by omega
      simp only [fewP,h0,if_false] at hf
      rw [p3]
      simp only [fewN,h0,if_false]
      omega
     ·have h0 : ¬ (((L + 1 : Nat) : Int) = 0) := by omega
      simp only [fewP,h0,if_false] at hf
      omega
theorem write_eq {L K : Nat} {m : Mem} {d R : List Int} {p : Pt} {q : List Pr} (hL : L < 12) (hp : PtOk m L p q) (h1 : NotOne p) (hst : StM K m R) (hK : 1 ≤ K) (hKq : K + q.length ≤ 1000000000000) (hd : d.length + q.length ≤ 1000000000)
  (hroom : (used m : Int) + q.length ≤ m.1.1 - 2) (hr : Rising q) (hs : q95 q) :
  ∃ n d' m' c,q31 d p m = some (n,0,d',m') ∧ Wr K m d R L p q n d' m' c :=
 write_n 16 L (by omega) hL hp h1 hst hK hKq hd hroom hr hs
end Go.Val
namespace Go.Val
open Go.RowKit Go.Lib
def Root (m : Mem) (r : Int) (q : List Pr) : Prop := (r = 0 ∧ q = []) ∨ (r ≠ 0 ∧ ∃ L,Tr m L r q)
def rl (r : Int) : List Int := if r = 0 then [] else [r]
def ShortC (l : List Cg) : Prop := ∀ c ∈ l,c.2.1.size ≤ 40
theorem qR3 {m m' : Mem} (hg : Grow m m') {r : Int} {q : List Pr} (h : Root m r q) : Root m' r q := by
 rcases h with h | ⟨h0,L,h⟩
 ·exact .inl h
 ·exact .inr ⟨h0,L,Tr.ext hg h⟩
theorem root_tr {m : Mem} {r : Int} {q : List Pr} (h : Root m r q) (h0 : r ≠ 0) : ∃ L,Tr m L r q := by
 rcases h with ⟨h,_⟩ | ⟨_,h⟩
 ·exact absurd h h0
 ·exact h
theorem apply_loop {l : List Cg} {m : Mem} (hl : ShortC l) (hn : l.length ≤ 1000000) : (qG (V := Int) (O := (Unit ⊕ (Int × Int × Mem))) (fun v57 =>
   cond (decide (v57 < (l.length : Int))) (
    (gx l v57).bind fun x64 =>
    cond (decide ((x64.2.1.size : Int) > 40)) (
     some (.inr (.inr (0,1,m)))
    ) (
     some (.inl (IntKind.wrap .i64 (v57 + 1)))
    )
   ) (
    some (.inr (.inl ()))
   )
  ) 0) = some (.inl ()) := by
 refine whileO_is (fun v => ∃ D Z,l = D ++ Z ∧ v = (D.length : Int)) (fun v => ((l.length : Int) - v).toNat) ⟨[],l,rfl,rfl⟩ ?_
 rintro v ⟨D,Z,e1,rfl⟩
 have hlen : l.length = D.length + Z.length := by rw [e1]; simp
 match Z with
 | [] =>
  right
  have t : ¬ ((D.length : Int) < (l.length : Int)) := by simp at hlen; omega
  simp only [t,decide_false,cond_false]
 | z :: Z' =>
  left
  simp only [List.length_cons] at hlen
  have t : ((D.length : Int) < (l.length : Int)) := by omega
  have g0 : gx l (D.length : Int) = some z := by rw [e1]; exact qm2 rfl
  have hz := hl z (by rw [e1]; simp)
  have t2 : ¬ ((z.2.1.size : Int) > 40) := by omega
  refine ⟨(D.length : Int) + 1,?_,⟨D ++ [z],Z',by simp [e1],by simp⟩,by omega⟩
  simp only [t,decide_true,cond_true,g0,Option.bind_some,t2,decide_false,cond_false]
  rw [w64 (by omega) (by omega)]
theorem mg_apply {q : List Pr} {l s : List Cg} (hr : Rising q) (hs : Rising s) (hg : ∀ k,mget s k = mget l.reverse k) : mgP q s = qR1 q l := by
 obtain ⟨h1,h2⟩ := mgP_spec hr hs
 refine q53 h1 (qG0 q l) fun k => ?_
 rw [h2,qp2,qi4 hr,hg]
 rfl
theorem applyP_short {q : List Pr} {l : List Cg} (hr : Rising q) (hs : q95 q) (hl : ShortC l) : q95 (qR1 q l) := fun p hp => by
 have h1 : mget (qR1 q l) p.1 = some p.2 := qr2 (qG0 q l).nodup hp
 rw [qp2,qi4 hr] at h1
 unfold updF at h1
 cases hm : mget l.reverse p.1 with
 | none => rw [hm] at h1; exact hs _ (q41 h1)
 | some e =>
  rw [hm] at h1
  have h1 : eff e = some p.2 := h1
  unfold eff at h1
  have := hl _ (List.mem_reverse.1 (q41 hm))
  by_cases hg : e.2 = true
  ·rw [if_pos hg] at h1; cases h1
  ·rw [if_neg hg] at h1
   rw [← Option.some.inj h1]; exact this
theorem applyP_nil {q : List Pr} (hr : Rising q) : qR1 q [] = q := by
 refine q53 (qG0 q []) hr fun k => ?_
 rw [qp2,qi4 hr]; rfl
theorem apply_eq {K : Nat} {m : Mem} {R : List Int} {r : Int} {q : List Pr} {l : List Cg} (hst : StM K m R) (hK : 1 ≤ K) (hKq : K ≤ 100000000000) (hroot : Root m r q) (hr : Rising q) (hs : q95 q) (hl : ShortC l)
  (hn : q.length + l.length ≤ 1000000) (hroom : (used m : Int) + (q.length + l.length) ≤ m.1.1 - 2) :
  ∃ n m' c,qw0 m r l = some (n,0,m') ∧ Root m' n (qR1 q l) ∧ Grow m m' ∧ StM (K + c) m' (R ++ rl n) ∧ m'.1.1 = m.1.1 ∧ used m' ≤ used m + c ∧ 2 * c ≤ (qR1 q l).length + 1 ∧
   (l = [] → n = r ∧ (r ≠ 0 → m' = incM m r)) ∧ (l.length = 1 → ∀ L : Nat,(r = 0 → L = 0) → (r ≠ 0 → Tr m L r q) → used m' ≤ used m + (2 * (L + 1) + 1)) := by
 unfold qw0
 rw [apply_loop hl (by omega)]
 simp only [Option.bind_some,Sum.elim_inl]
 by_cases hl0 : l = []
 ·subst hl0
  rw [applyP_nil hr]
  have : ((([] : List Cg).length : Nat) : Int) = 0 := rfl
  simp only [this,decide_true,cond_true]
  by_cases hr0 : r = 0
  ·subst hr0
   refine ⟨0,m,0,by simp [q30],hroot,Grow.refl m,by simpa [rl] using hst,rfl,by omega,by omega,fun _ => ⟨rfl,fun h => absurd rfl h⟩,fun h => by simp at h⟩
  ·obtain ⟨L,hT⟩ := root_tr hroot hr0
   obtain ⟨i1,i2,i3,i4,i5⟩ := inc_st hst (by omega) (q72 hT)
   have hq := List.length_pos_iff.2 (tr_ne hT)
   refine ⟨r,incM m r,1,?_,qR3 i3 hroot,i3,by rw [rl,if_neg hr0]; exact i2,i4,by omega,by omega,fun _ => ⟨rfl,fun _ => rfl⟩,fun h => by simp at h⟩
   unfold q30
   simp only [hr0,decide_false,cond_false]
   rw [i1]
   rfl
 ·have hlp : ¬ ((l.length : Int) = 0) := by have := List.length_pos_iff.2 hl0; omega
  obtain ⟨s,s1,s2,s3,s4⟩ := tree_sorted_eq (l := l) (by omega)
  simp only [hlp,decide_false,cond_false]
  rw [s1]
  simp only [Option.bind_some]
  have hmg : mgP q s = qR1 q l := mg_apply hr s2 s3
  have hrow : ∃ (lv : Nat) (row : List Pt),((cond (decide (r = 0)) (
     (qc1 ([]) s).bind fun x111 =>
     (qQ0 x111).bind fun x114 =>
     some (.inl (0,x114,m,[]))
    ) (
     (qt m r).bind fun x117 =>
     cond (decide (x117.2.1 ≠ 0)) (
      some (.inr (0,x117.2.1,x117.2.2))
     ) (
      (qO0 ([]) r s x117.2.2).bind fun x124 =>
      cond (decide (x124.2.1 ≠ 0)) (
       some (.inr (0,x124.2.1,x124.2.2.2))
      ) (
       some (.inl (x117.1.1,x124.1,x124.2.2.2,x124.2.2.1))
      )
     )
    )) : Option ((Int × (List Pt) × Mem × (List Int)) ⊕ (Int × Int × Mem))) = some (.inl ((lv : Int),row,m,[])) ∧ RowOk m lv row (qR1 q l) ∧ q52 row ∧ (l.length = 1 → row.length ≤ 2 ∧ ((r = 0 → frsS lv row ≤ 2) ∧ ∀ L,Tr m L r q → frsS lv row ≤ 2 * (L + 1))) := by
   by_cases hr0 : r = 0
   ·have hq0 : q = [] := by
     rcases hroot with h | h
     ·exact h.2
     ·exact absurd hr0 h.1
    subst hq0
    obtain ⟨row,e1,e2,e3,e4⟩ := leaves_eq (m := m) (q := qR1 [] l) (by have := qK3 ([] : List Pr) l; simp at this; omega)
    refine ⟨0,row,?_,e2,e3,fun h1 => ?_⟩
    rotate_left
    ·have hl1 := qK3 ([] : List Pr) l
     simp only [List.length_nil] at hl1
     have r5 : row.length ≤ 2 := by omega
     have h2 := psi0_le row
     have h3 := good_le e3 r5
     have h4 := frsS_psi 0 row
     exact ⟨r5,fun _ => by omega,fun L _ => by omega⟩
    simp only [hr0,decide_true,cond_true]
    rw [merged_eq (by simp; omega),hmg]
    simp only [Option.bind_some]
    rw [e1]
    rfl
   ·obtain ⟨L,hT⟩ := root_tr hroot hr0
    have hL := qH4 hT (by omega)
    obtain ⟨row,e1,e2,e3,e4⟩ := edit_eq (d := []) (by omega) hT hr s2 (by omega)
    refine ⟨L,row,?_,hmg ▸ e2,e3,fun h1 => ?_⟩
    rotate_left
    ·obtain ⟨h2,h3⟩ := e4 (by omega)
     have h4 := frsS_psi L row
     refine ⟨h3,fun h => absurd h hr0,fun L' hT' => ?_⟩
     have u1 := (qa5 hT).1
     have u2 := (qa5 hT').1
     have : L = L' := by omega
     subst this
     omega
    simp only [hr0,decide_false,cond_false]
    rw [tr_get hT]
    simp only [Option.bind_some,ne_eq,not_true_eq_false,decide_false,cond_false]
    rw [e1]
    simp only [Option.bind_some,ne_eq,not_true_eq_false,decide_false,cond_false,(qa5 hT).1]
  obtain ⟨lv,row,r1,r2,r3,r4⟩ := hrow
  rw [r1]
  simp only [Option.bind_some,Sum.elim_inl]
  have hlen := qK3 q l
  obtain ⟨t1,t2⟩ := top_eq r2 r3 (by omega)
  by_cases hq0 : qR1 q l = []
  ·obtain ⟨p,p1⟩ := t1 hq0
   rw [p1]
   refine ⟨0,m,0,?_,.inl ⟨rfl,hq0⟩,Grow.refl m,by simpa [rl] using hst,rfl,by omega,by omega,fun h => absurd h hl0,fun _ L _ _ => by omega⟩
   simp
  ·obtain ⟨p,L',p1,p2,p3,p4⟩ := t2 hq0
   rw [p1]
   have hL' : L' < 12 := by
    obtain ⟨k,b,f⟩ := p
    match f with
    | none =>
     exact tr_rising_level (ptOk_none p2).1 (by omega)
    | some (.mk l0 ps ks) =>
     match L',p2 with
     | 0,_ => omega
     | L3 + 1,p2 =>
      rw [PtOk] at p2
      obtain ⟨_,_,a1,a2,_,qs,a4,a5,a6⟩ := p2
      have hk1 := p3 l0 ps ks rfl
      have := level_lt (m := m) (L := L3) (row := ks) (q := qR1 q l) ⟨qs,a4,a5⟩ (fun h => a6 h) (by omega) (by omega)
      omega
   obtain ⟨n,d',m',c,w1,w2⟩ := write_eq (d := []) hL' p2 p3 hst hK (by omega) (by simp; omega) (by omega) (qG0 q l) (applyP_short hr hs hl)
   simp only [Option.bind_some,ne_eq,not_true_eq_false,decide_false,cond_false,Bool.not_true]
   rw [w1]
   have n0 : n ≠ 0 := by have := ql3 w2.st.wf (q72 w2.tr); omega
   refine ⟨n,m',c,by simp,.inr ⟨n0,L',w2.tr⟩,w2.grow,by rw [rl,if_neg n0]; exact w2.st,w2.blk,by rw [w2.used]; have := w2.fr; omega,w2.c1,fun h => absurd h hl0,fun h1 L hz ht => ?_⟩
   obtain ⟨h2,h3,h4⟩ := r4 h1
   have h5 := p4 h2
   rw [w2.used]
   by_cases hr0 : r = 0
   ·have := h3 hr0
    omega
   ·have := h4 L (ht hr0)
    omega
end Go.Val
namespace Go.Val
open Go.RowKit Go.Lib
def Shrink (m m' : Mem) : Prop := ∀ n,cnt m' n ≠ 0 → cnt m n ≠ 0 ∧ ndOf m' n = ndOf m n
theorem Shrink.refl (m : Mem) : Shrink m m := fun n h => ⟨h,rfl⟩
theorem Shrink.trans {a b c : Mem} (h : Shrink a b) (k : Shrink b c) : Shrink a c := fun n hn => by
 obtain ⟨k1,k2⟩ := k n hn
 obtain ⟨h1,h2⟩ := h n k1
 exact ⟨h1,k2.trans h2⟩
theorem rc_count {m : Mem} {R R' : List Int} (h : RC m R) (hp : ∀ n,R'.count n = R.count n) : RC m R' := fun n => by rw [hp n]; exact h n
theorem StM.perm {K : Nat} {m : Mem} {R R' : List Int} (h : StM K m R) (hp : R'.Perm R) : StM K m R' := ⟨h.wf,h.live,rc_count h.rc fun n => hp.count_eq n⟩
theorem inK_pos {m : Mem} {bs : List Int} {b n : Int} (hb : b ∈ bs) (hn : n ∈ qm1 (ndOf m b)) : 1 ≤ inK m bs n := by
 obtain ⟨A,B,rfl⟩ := List.append_of_mem hb
 rw [inK_app,show b :: B = [b] ++ B from rfl,inK_app]
 have : inK m [b] n = (qm1 (ndOf m b)).count n := by simp [inK]
 have h1 := List.count_pos_iff.2 hn
 omega
theorem qX4 {m : Mem} {R : List Int} {n : Int} (h : RC m R) (hn : n ∈ R) : cnt m n ≠ 0 := by
 have := h n
 have h1 := List.count_pos_iff.2 hn
 omega
theorem rc_kid {m : Mem} {R : List Int} {b n : Int} (h : RC m R) (hb : cnt m b ≠ 0) (hn : n ∈ qm1 (ndOf m b)) : cnt m n ≠ 0 := by
 have := h n
 have h1 := inK_pos (bs := m.1.2.1.map (·.1)) (qT2 hb).1 hn
 omega
theorem F2.impMem {α β : Type} {R S : α → β → Prop} {l : List α} {r : List β} (h : F2 R l r) (hRS : ∀ a ∈ l,∀ b,R a b → S a b) : F2 S l r := by
 induction h with
 | nil => exact .nil
 | cons h _ ih => exact .cons (hRS _ (by simp) _ h) (ih fun a ha b hab => hRS a (by simp [ha]) b hab)
theorem tr_shrink {m m' : Mem} {R : List Int} (hs : Shrink m m') (hrc : RC m' R) : ∀ {L : Nat} {n : Int} {q : List Pr},cnt m' n ≠ 0 → Tr m L n q → Tr m' L n q
 | 0,n,q,hn,h => by
  rw [Tr] at h ⊢
  rw [(hs n hn).2]
  exact ⟨hn,h.2⟩
 | L + 1,n,q,hn,h => by
  rw [Tr] at h ⊢
  obtain ⟨_,ks,h1,h2,h3,qs,h4,h5⟩ := h
  have e := (hs n hn).2
  rw [e]
  refine ⟨hn,ks,h1,h2,h3,qs,h4,h5.impMem fun k hk q hkq => ?_⟩
  have hkl : cnt m' k.2 ≠ 0 := rc_kid hrc hn (by rw [e,h1]; exact List.mem_map.2 ⟨k,hk,rfl⟩)
  exact ⟨tr_shrink hs hrc hkl hkq.1,by rw [(hs _ hkl).2]; exact hkq.2.1,hkq.2.2⟩
theorem live_shrink {m m' : Mem} {R : List Int} (hl : Live m) (hs : Shrink m m') (hrc : RC m' R) : Live m' := fun n hn => by
 obtain ⟨L,q,a,b,c⟩ := hl n (hs n hn).1
 exact ⟨L,q,a,tr_shrink hs hrc hn b,c⟩
theorem root_shrink {m m' : Mem} {R : List Int} (hs : Shrink m m') (hrc : RC m' R) {r : Int} {q : List Pr} (hr : r ≠ 0 → cnt m' r ≠ 0) (h : Root m r q) : Root m' r q := by
 rcases h with h | ⟨h0,L,h⟩
 ·exact .inl h
 ·exact .inr ⟨h0,L,tr_shrink hs hrc (hr h0) h⟩
theorem mdel_split {β : Type} {m : List (Int × β)} {k : Int} (h : k ∈ m.map (·.1)) : ∃ A v B,m = A ++ (k,v) :: B ∧ mdel m k = A ++ B := by
 induction m with
 | nil => cases h
 | cons p m ih =>
  rw [mdel_cons]
  by_cases e : k = p.1
  ·rw [if_pos e]
   exact ⟨[],p.2,m,by rw [e]; rfl,rfl⟩
  ·rw [if_neg e]
   obtain ⟨A,v,B,h1,h2⟩ := ih (by
    rcases List.mem_cons.1 h with h | h
    ·exact absurd h e
    ·exact h)
   exact ⟨p :: A,v,B,by rw [h1]; rfl,by rw [h2]; rfl⟩
theorem mget_mdel_ne {β : Type} (m : List (Int × β)) {k k' : Int} (h : k' ≠ k) : mget (mdel m k) k' = mget m k' := by
 induction m with
 | nil => rfl
 | cons p m ih =>
  rw [mdel_cons,qN]
  by_cases e : k = p.1
  ·rw [if_pos e,if_neg (fun h' => h (h'.trans e.symm))]
  ·rw [if_neg e,qN,ih]
def decM (m : Mem) (n : Int) : Mem := ((m.1.1,mset m.1.2.1 n (cnt m n - 1),m.1.2.2),m.2)
def delM (m : Mem) (n : Int) : Mem := ((m.1.1,mdel m.1.2.1 n,min m.1.2.2 n),mdel m.2 n)
theorem cnt_dec (m : Mem) (n k : Int) : cnt (decM m n) k = if k = n then cnt m n - 1 else cnt m k := by
 unfold cnt decM
 simp only [qY1]
 split <;> rfl
theorem cnt_del {m : Mem} (hn : (m.1.2.1.map (·.1)).Nodup) (n k : Int) : cnt (delM m n) k = if k = n then 0 else cnt m k := by
 unfold cnt delM
 simp only [mget_mdel hn]
 split <;> rfl
theorem dec_st {K : Nat} {m : Mem} {R : List Int} {r : Int} (h : StM K m (r :: R)) (hK : K ≤ 1000000000000) :
  cnt m r ≠ 0 ∧ ((∃ m',qy0 m r = some (false,0,m') ∧ StM K m' R ∧ Shrink m m' ∧ m'.1.1 = m.1.1 ∧ used m' = used m) ∨
   (∃ m',qy0 m r = some (true,0,m') ∧ StM K m' (qm1 (ndOf m r) ++ R) ∧ Shrink m m' ∧ m'.1.1 = m.1.1 ∧ used m' + 1 = used m)) := by
 have hl : cnt m r ≠ 0 := qX4 h.rc (by simp)
 obtain ⟨p1,p2,p3,p4⟩ := ql3 h.wf hl
 have hmem := qT2 hl
 have t1 : ¬ r < 2 := by omega
 have t2 : ¬ r ≥ m.1.1 := by omega
 have hc : (mget m.1.2.1 r).getD 0 = cnt m r := rfl
 refine ⟨hl,?_⟩
 by_cases h1 : cnt m r > 1
 ·left
  have hsh : Shrink m (decM m r) := fun n hn => by
   refine ⟨?_,rfl⟩
   rw [cnt_dec] at hn
   by_cases e : n = r
   ·rw [e]; exact hl
   ·rwa [if_neg e] at hn
  have hrc : RC (decM m r) R := fun n => by
   have hk : (decM m r).1.2.1.map (·.1) = m.1.2.1.map (·.1) := by
    show (mset m.1.2.1 r (cnt m r - 1)).map (·.1) = _
    rw [q93,if_pos hmem.1]
   have e0 : inK (decM m r) (m.1.2.1.map (·.1)) n = inK m (m.1.2.1.map (·.1)) n := inK_congr fun _ _ => rfl
   rw [cnt_dec,hk,e0]
   have hr := h.rc n
   rw [List.count_cons] at hr
   by_cases e : n = r
   ·subst e; simp at hr; rw [if_pos rfl]; omega
   ·have : (r == n) = false := by simp; exact fun h => e h.symm
    rw [this] at hr
    rw [if_neg e]; simp at hr; omega
  refine ⟨decM m r,?_,⟨⟨h.wf.blk,h.wf.low,fun n n1 n2 => ?_,qN3 h.wf.nodup _ _,fun n c hn => ?_⟩,live_shrink h.live hsh hrc,hrc⟩,hsh,rfl,mset_len hmem.1⟩
  ·unfold qy0 qw1 qD0 q21
   simp only [t1,t2,decide_false,cond_false,Option.bind_some,cond_true,hc,hl,h1,decide_true]
   rw [w64 (by omega) (by omega)]
   rfl
  ·rw [cnt_dec]
   split
   ·omega
   ·exact h.wf.full n n1 n2
  ·have hn' : mget (mset m.1.2.1 r (cnt m r - 1)) n = some c := hn
   rw [qY1] at hn'
   by_cases e : n = r
   ·rw [if_pos e] at hn'
    have := Option.some.inj hn'
    subst e
    exact ⟨by omega,by omega,p3,p4⟩
   ·rw [if_neg e] at hn'
    exact h.wf.pos n c hn'
 ·right
  have hc1 : cnt m r = 1 := by omega
  have hsh : Shrink m (delM m r) := fun n hn => by
   rw [cnt_del h.wf.nodup] at hn
   by_cases e : n = r
   ·rw [if_pos e] at hn; exact absurd rfl hn
   ·rw [if_neg e] at hn
    refine ⟨hn,?_⟩
    unfold ndOf delM
    simp only
    rw [mget_mdel_ne _ e]
  obtain ⟨A,v,B,s1,s2⟩ := mdel_split hmem.1
  have hrc : RC (delM m r) (qm1 (ndOf m r) ++ R) := fun n => by
   have hk : (delM m r).1.2.1.map (·.1) = A.map (·.1) ++ B.map (·.1) := by
    show (mdel m.1.2.1 r).map (·.1) = _
    rw [s2,List.map_append]
   have hnd : (m.1.2.1.map (·.1)).Nodup := h.wf.nodup
   have hk0 : m.1.2.1.map (·.1) = A.map (·.1) ++ r :: B.map (·.1) := by rw [s1]; simp
   have hnr : ∀ b ∈ A.map (·.1) ++ B.map (·.1),b ≠ r := by
    rw [hk0] at hnd
    intro b hb e
    subst e
    have h1 := List.nodup_append.1 hnd
    rcases List.mem_append.1 hb with hb | hb
    ·exact h1.2.2 b hb b (by simp) rfl
    ·exact (List.nodup_cons.1 h1.2.1).1 hb
   have e1 : inK (delM m r) (A.map (·.1) ++ B.map (·.1)) n = inK m (A.map (·.1) ++ B.map (·.1)) n := inK_congr fun b hb => by
    unfold ndOf delM
    simp only
    rw [mget_mdel_ne _ (hnr b hb)]
   have e2 : inK m (A.map (·.1) ++ r :: B.map (·.1)) n = inK m (A.map (·.1) ++ B.map (·.1)) n + (qm1 (ndOf m r)).count n := by
    rw [inK_app,inK_app,show r :: B.map (·.1) = [r] ++ B.map (·.1) from rfl,inK_app]
    have : inK m [r] n = (qm1 (ndOf m r)).count n := by simp [inK]
    omega
   rw [cnt_del hnd,hk,e1,List.count_append]
   have hr := h.rc n
   rw [hk0,e2,List.count_cons] at hr
   by_cases e : n = r
   ·subst e; simp at hr; rw [if_pos rfl]; omega
   ·have : (r == n) = false := by simp; exact fun h => e h.symm
    rw [this] at hr
    rw [if_neg e]; simp at hr; omega
  refine ⟨delM m r,?_,⟨⟨h.wf.blk,?_,fun n n1 n2 => ?_,nodup_mdel h.wf.nodup _,fun n c hn => ?_⟩,live_shrink h.live hsh hrc,hrc⟩,hsh,rfl,?_⟩
  ·unfold qy0 qw1 qD0 q21
   simp only [t1,t2,decide_false,cond_false,Option.bind_some,cond_true,hc,hl,h1,decide_true]
   rfl
  ·have := h.wf.low
   show 2 ≤ min m.1.2.2 r ∧ min m.1.2.2 r ≤ m.1.1
   omega
  ·have n2' : n < min m.1.2.2 r := n2
   rw [cnt_del h.wf.nodup,if_neg (by omega)]
   exact h.wf.full n n1 (by omega)
  ·have hn' : mget (mdel m.1.2.1 r) n = some c := hn
   rw [mget_mdel h.wf.nodup] at hn'
   by_cases e : n = r
   ·rw [if_pos e] at hn'; cases hn'
   ·rw [if_neg e] at hn'
    exact h.wf.pos n c hn'
  ·show (mdel m.1.2.1 r).length + 1 = m.1.2.1.length
   rw [s2,s1]; simp; omega
theorem release_n : ∀ (fuel L : Nat) {K : Nat} {m : Mem} {R : List Int} {r : Int} {q : List Pr},L < fuel → Tr m L r q → StM K m (r :: R) → K ≤ 1000000000000 →
  ∃ m',qz0 fuel m r = some (0,m') ∧ StM K m' R ∧ Shrink m m' ∧ m'.1.1 = m.1.1 ∧ used m' ≤ used m := by
 intro fuel
 induction fuel with
 | zero => intro L K m R r q h; omega
 | succ fuel ih =>
  intro L K m R r q hL hT hst hK
  obtain ⟨d1,d2⟩ := dec_st hst hK
  have n0 : ¬ r = 0 := by have := ql3 hst.wf d1; omega
  rw [qz0]
  unfold qF0
  simp only [n0,decide_false,cond_false,tr_get hT,Option.bind_some,ne_eq,not_true_eq_false]
  rcases d2 with ⟨m1,e1,e2,e3,e4,e5⟩ | ⟨m1,e1,e2,e3,e4,e5⟩
  ·rw [e1]
   exact ⟨m1,by simp,e2,e3,e4,by omega⟩
  ·rw [e1]
   simp only [Option.bind_some,not_true_eq_false,decide_false,cond_false,Bool.not_true]
   match L,hT with
   | 0,hT =>
    rw [Tr] at hT
    rw [hT.2.1] at e2 ⊢
    rw [qM]
    exact ⟨m1,by simp,by simpa [qm1] using e2,e3,e4,by omega⟩
   | L + 1,hT =>
    rw [Tr] at hT
    obtain ⟨_,ks,h1,h2,h3,qs,h4,h5⟩ := hT
    rw [h1] at e2 ⊢
    simp only [qm1] at e2
    simp only
    refine qu2 (Q := fun o => ∃ m',o = some (0,m') ∧ StM K m' R ∧ Shrink m m' ∧ m'.1.1 = m.1.1 ∧ used m' ≤ used m)
     (fun v => ∃ D Z QD QZ m2,ks = D ++ Z ∧ qs = QD ++ QZ ∧ F2 (KidR m L) Z QZ ∧ v = ((D.length : Int),m2) ∧ StM K m2 (Z.map (·.2) ++ R) ∧ Shrink m m2 ∧ m2.1.1 = m.1.1 ∧ used m2 ≤ used m)
     (fun v => ((ks.length : Int) - v.1).toNat) (fun o => ∃ m2,o = .inl m2 ∧ StM K m2 R ∧ Shrink m m2 ∧ m2.1.1 = m.1.1 ∧ used m2 ≤ used m) ⟨[],ks,[],qs,m1,rfl,rfl,h5,rfl,e2,e3,e4,by omega⟩ ?_ ?_
    ·rintro v ⟨D,Z,QD,QZ,m2,g1,g2,g3,rfl,g4,g5,g6,g7⟩
     have hl : ks.length = D.length + Z.length := by rw [g1]; simp
     cases g3 with
     | nil =>
      right
      have t : ¬ ((D.length : Int) < (ks.length : Int)) := by simp at hl; omega
      exact ⟨.inl m2,by simp only [t,decide_false,cond_false],m2,rfl,by simpa using g4,g5,g6,g7⟩
     | @cons z qz Z' QZ' hz hzs =>
      left
      simp only [List.length_cons] at hl
      have t : ((D.length : Int) < (ks.length : Int)) := by omega
      have g0 : gx ks (D.length : Int) = some z := by rw [g1]; exact qm2 rfl
      have hzl : cnt m2 z.2 ≠ 0 := qX4 g4.rc (by simp)
      have hzt : Tr m2 L z.2 qz := tr_shrink g5 g4.rc hzl hz.1
      obtain ⟨m3,i1,i2,i3,i4,i5⟩ := ih L (by omega) hzt (R := Z'.map (·.2) ++ R) (by simpa using g4) hK
      refine ⟨((D.length : Int) + 1,m3),?_,⟨D ++ [z],Z',QD ++ [qz],QZ',m3,by simp [g1],by simp [g2],hzs,by simp,i2,g5.trans i3,i4.trans g6,by omega⟩,by simp; omega⟩
      simp only [t,decide_true,cond_true,g0,Option.bind_some]
      rw [i1]
      simp only [Option.bind_some,not_true_eq_false,decide_false,cond_false]
      rw [w64 (by omega) (by omega)]
    ·rintro o ⟨m2,rfl,h⟩
     exact ⟨m2,rfl,h⟩
theorem release_eq {K : Nat} {m : Mem} {R : List Int} {r : Int} {q : List Pr} (hr : Root m r q) (hst : StM K m (rl r ++ R)) (hK : K ≤ 1000000000000) (hn : q.length ≤ 1000000) :
  ∃ m',qj0 m r = some (0,m') ∧ StM K m' R ∧ Shrink m m' ∧ m'.1.1 = m.1.1 ∧ used m' ≤ used m := by
 by_cases h0 : r = 0
 ·subst h0
  refine ⟨m,?_,by simpa [rl] using hst,Shrink.refl m,rfl,by omega⟩
  unfold qj0
  rw [qz0]
  unfold qF0
  simp
 ·obtain ⟨L,hT⟩ := root_tr hr h0
  have := qH4 hT hn
  exact release_n 16 L (by omega) hT (by simpa [rl,h0] using hst) hK
end Go.Val
namespace Go.Val
open Go.RowKit Go.Lib
def blks : Nat → Mem → Int → List Int
 | 0,_,n => [n]
 | L + 1,m,n => n :: (qm1 (ndOf m n)).flatMap (blks L m)
def blksM (m : Mem) (n : Int) : List Int := blks (ndOf m n).1.toNat m n
theorem blks_self : ∀ (L : Nat) (m : Mem) (n : Int),n ∈ blks L m n
 | 0,m,n => by rw [blks]; simp
 | L + 1,m,n => by rw [blks]; simp
theorem tr_kids {m : Mem} {L : Nat} {n k : Int} {q : List Pr} (h : Tr m L n q) (hk : k ∈ qm1 (ndOf m n)) : ∃ L' q',L = L' + 1 ∧ Tr m L' k q' := by
 match L,h with
 | 0,h =>
  rw [Tr] at h
  rw [h.2.1] at hk
  simp [qm1] at hk
 | L + 1,h =>
  rw [Tr] at h
  obtain ⟨_,ks,h1,h2,h3,qs,h4,h5⟩ := h
  rw [h1] at hk
  obtain ⟨z,hz,rfl⟩ := List.mem_map.1 hk
  obtain ⟨q',hq',hR⟩ := h5.mem z hz
  exact ⟨L,q',rfl,hR.1⟩
theorem blks_kid {m : Mem} : ∀ {L : Nat} {r b k : Int} {q : List Pr},Tr m L r q → b ∈ blks L m r → k ∈ qm1 (ndOf m b) → k ∈ blks L m r
 | 0,r,b,k,q,h,hb,hk => by
  rw [blks] at hb
  have e : b = r := by simpa using hb
  subst e
  obtain ⟨L',q',e,_⟩ := tr_kids h hk
  omega
 | L + 1,r,b,k,q,h,hb,hk => by
  rw [blks] at hb ⊢
  rcases List.mem_cons.1 hb with rfl | hb
  ·exact List.mem_cons_of_mem _ (List.mem_flatMap.2 ⟨k,hk,blks_self L m k⟩)
  ·obtain ⟨z,hz,hb⟩ := List.mem_flatMap.1 hb
   obtain ⟨L',q',e,ht⟩ := tr_kids h hz
   have e' : L = L' := by omega
   subst e'
   exact List.mem_cons_of_mem _ (List.mem_flatMap.2 ⟨z,hz,blks_kid ht hb hk⟩)
theorem blksM_tr {m : Mem} {L : Nat} {r : Int} {q : List Pr} (h : Tr m L r q) : blksM m r = blks L m r := by
 unfold blksM
 rw [(qa5 h).1]
 simp
theorem live_from {K : Nat} {m : Mem} {R : List Int} (h : StM K m R) : ∀ {n : Int},cnt m n ≠ 0 → ∃ r ∈ R,n ∈ blksM m r := by
 have key : ∀ (j L : Nat) {n : Int} {q : List Pr},L + j = 12 → Tr m L n q → ∃ r ∈ R,n ∈ blksM m r := by
  intro j
  induction j with
  | zero =>
   intro L n q hL hT
   obtain ⟨L',q',h1,h2,_⟩ := h.live n (q72 hT)
   have e1 := (qa5 hT).1
   have e2 := (qa5 h2).1
   omega
  | succ j ih =>
   intro L n q hL hT
   have hc := h.rc n
   have hp := ql3 h.wf (q72 hT)
   by_cases hR : n ∈ R
   ·exact ⟨n,hR,blks_self _ m n⟩
   ·have h0 : R.count n = 0 := List.count_eq_zero.2 hR
    have hin : 1 ≤ inK m (m.1.2.1.map (·.1)) n := by omega
    have : ∃ b ∈ m.1.2.1.map (·.1),n ∈ qm1 (ndOf m b) := by
     refine Classical.byContradiction fun hno => ?_
     have : inK m (m.1.2.1.map (·.1)) n = 0 := by
      unfold inK
      refine List.sum_eq_zero_iff_forall_eq_nat.2 fun x hx => ?_
      obtain ⟨b,hb,rfl⟩ := List.mem_map.1 hx
      exact List.count_eq_zero.2 fun hk => hno ⟨b,hb,hk⟩
     omega
    obtain ⟨b,hb,hk⟩ := this
    have hbl : cnt m b ≠ 0 := by
     obtain ⟨c,hc⟩ := Option.isSome_iff_exists.1 (qP0.2 hb)
     have := (h.wf.pos b c hc).1
     unfold cnt
     rw [hc]; simp; omega
    obtain ⟨Lb,qb,b1,b2,_⟩ := h.live b hbl
    obtain ⟨L',q',e,ht⟩ := tr_kids b2 hk
    have e1 := (qa5 hT).1
    have e2 := (qa5 ht).1
    obtain ⟨r,hr,hbr⟩ := ih Lb (by omega) b2
    have hrl : cnt m r ≠ 0 := qX4 h.rc hr
    obtain ⟨Lr,qr,_,hr2,_⟩ := h.live r hrl
    refine ⟨r,hr,?_⟩
    rw [blksM_tr hr2] at hbr ⊢
    exact blks_kid hr2 hbr hk
 intro n hn
 obtain ⟨L,q,h1,h2,_⟩ := h.live n hn
 exact key (12 - L) L (by omega) h2
theorem used_le {K : Nat} {m : Mem} {R : List Int} (h : StM K m R) : used m ≤ (R.flatMap (blksM m)).length := by
 have := qZ4 (l := m.1.2.1.map (·.1)) (r := R.flatMap (blksM m)) h.wf.nodup fun n hn => by
  have hl : cnt m n ≠ 0 := by
   obtain ⟨c,hc⟩ := Option.isSome_iff_exists.1 (qP0.2 hn)
   have := (h.wf.pos n c hc).1
   unfold cnt
   rw [hc]; simp; omega
  obtain ⟨r,hr,hb⟩ := live_from h hl
  exact List.mem_flatMap.2 ⟨r,hr,hb⟩
 rw [List.length_map] at this
 exact this
theorem used_nil {K : Nat} {m : Mem} (h : StM K m []) : used m = 0 := by
 have := used_le h
 simpa using this
theorem free_eq {K : Nat} {m : Mem} {R : List Int} (h : StM K m R) (hu : used m ≤ 2000000) : q90 m = some (m.1.1 - 2 - (used m : Int),m) := by
 have := h.wf.blk
 unfold q90 qC1
 simp only [Option.bind_some]
 rw [w64 (n := m.1.1 - 2) (by omega) (by omega),show ((m.1.2.1.length : Nat) : Int) = (used m : Int) from rfl,w64 (by omega) (by omega)]
theorem new_eq {most : Int} (h : 0 ≤ most ∧ most ≤ 1048576) : ∃ m,qE0 most = some m ∧ StM 1 m [] ∧ m.1.1 = most + 2 ∧ used m = 0 := by
 unfold qE0 refs_New
 have e1 : max most 0 = most := by omega
 have e2 : min most 1048576 = most := by omega
 simp only [e1,e2,Option.bind_some]
 rw [w64 (by omega) (by omega)]
 have e3 : max (2 + most) 2 = 2 + most := by omega
 have e4 : min (2 + most) 4294967296 = 2 + most := by omega
 rw [e3,e4]
 refine ⟨_,rfl,⟨⟨by simp only; omega,by simp only; omega,fun n h1 h2 => ?_,by simp,fun n c h => by cases h⟩,fun n hn => absurd rfl hn,fun n => by simp [inK,cnt,qF2]⟩,by simp only; omega,rfl⟩
 simp only at h2; omega
end Go.Val
namespace Go.Val
open Go.RowKit Go.Lib
def K24s {β : Type} (q : List (Ky × β)) : Prop := ∀ p ∈ q,p.1.length = 24
def allS : Spn := (List.replicate 24 0,List.replicate 24 0,true)
theorem cb_zeros : ∀ (k : List UInt8) (n : Nat),k.length = n → 0 ≤ compareBytes k (List.replicate n 0)
 | [],0,_ => by decide
 | x :: k,n + 1,h => by
  have ih := cb_zeros k n (by simpa using h)
  rw [List.replicate_succ,compareBytes]
  by_cases h0 : x = 0
  ·subst h0; simpa using ih
  ·have : (0 : UInt8) < x := by
    have h1 : (0 : UInt8).toNat ≠ x.toNat := fun e => h0 (UInt8.toNat_inj.1 e.symm)
    rw [UInt8.lt_iff_toNat_lt]
    simp at h1 ⊢
    omega
   have h2 : ¬ x < 0 := by
    rw [UInt8.lt_iff_toNat_lt]
    simp
   simp [this,h2]
theorem inT_all {k : Ky} (h : k.length = 24) : inT allS k = true := by
 have := cb_zeros k 24 h
 show (decide (compareBytes k (List.replicate 24 0) ≥ 0) && (true || decide (compareBytes k (List.replicate 24 0) < 0))) = true
 rw [decide_eq_true this]
 rfl
theorem updF_one (f : Fn) (c : Cg) (k : Ky) : updF f [c] k = if k = c.1 then eff c.2 else f k := by
 have := updF_snoc f [] c
 rw [List.nil_append] at this
 rw [this]; rfl
theorem qv4 {q : List Pr} (h : K24s q) : (q.filter fun p => inT allS p.1) = q := List.filter_eq_self.2 fun p hp => inT_all (h p hp)
theorem applyP_k24 {q : List Pr} {l : List Cg} (hr : Rising q) (hq : K24s q) (hl : K24s l) : K24s (qR1 q l) := fun p hp => by
 have h1 : mget (qR1 q l) p.1 = some p.2 := qr2 (qG0 q l).nodup hp
 rw [qp2,qi4 hr] at h1
 unfold updF at h1
 cases hm : mget l.reverse p.1 with
 | none => rw [hm] at h1; exact hq _ (q41 h1)
 | some e => exact hl _ (List.mem_reverse.1 (q41 hm))
theorem get_zero {m : Mem} {k : Ky} : qH1 m 0 k = some (ByteArray.mk #[],false,0,m) := by
 rw [get_def,qM]
 simp [getB]
theorem count_root {m : Mem} (n : Int) : qc0 m n = some (cnt m n,m) := by
 unfold qc0
 rw [count_eq]
 rfl
theorem blks_level {m : Mem} : ∀ {L : Nat} {r b : Int} {q : List Pr},Tr m L r q → b ∈ blks L m r → ∃ L' q',L' ≤ L ∧ Tr m L' b q'
 | 0,r,b,q,h,hb => by
  rw [blks] at hb
  have e : b = r := by simpa using hb
  subst e
  exact ⟨0,q,by omega,h⟩
 | L + 1,r,b,q,h,hb => by
  rw [blks] at hb
  rcases List.mem_cons.1 hb with rfl | hb
  ·exact ⟨L + 1,q,by omega,h⟩
  ·obtain ⟨z,hz,hb⟩ := List.mem_flatMap.1 hb
   obtain ⟨L',q',e,ht⟩ := tr_kids h hz
   have e' : L = L' := by omega
   subst e'
   obtain ⟨L2,q2,a,b⟩ := blks_level ht hb
   exact ⟨L2,q2,by omega,b⟩
theorem root_count {K : Nat} {m : Mem} {r : Int} {L : Nat} {q : List Pr} (h : StM K m [r]) (hT : Tr m L r q) : cnt m r = 1 := by
 have hc := h.rc r
 have : inK m (m.1.2.1.map (·.1)) r = 0 := by
  unfold inK
  refine List.sum_eq_zero_iff_forall_eq_nat.2 fun x hx => ?_
  obtain ⟨b,hb,rfl⟩ := List.mem_map.1 hx
  refine List.count_eq_zero.2 fun hk => ?_
  have hbl : cnt m b ≠ 0 := by
   obtain ⟨c,hc⟩ := Option.isSome_iff_exists.1 (qP0.2 hb)
   have := (h.wf.pos b c hc).1
   unfold cnt
   rw [hc]; simp; omega
  obtain ⟨r',hr',hbr⟩ := live_from h hbl
  have e : r' = r := by simpa using hr'
  subst e
  rw [blksM_tr hT] at hbr
  obtain ⟨L',q',h1,h2⟩ := blks_level hT hbr
  obtain ⟨L2,q2,e2,h3⟩ := tr_kids h2 hk
  have e3 := (qa5 hT).1
  have e4 := (qa5 h3).1
  omega
 rw [this] at hc
 simpa using hc
def fewC (l : List Cg) (most bytes : Nat) : List Cg := (l.take most).map fun c => (c.1,c.2.1.extract 0 (min c.2.1.size bytes),c.2.2)
theorem lawfew_eq {l : List Cg} {most bytes : Nat} (hm : most ≤ 1000000) : qX1 l most bytes = some (fewC l most bytes) := by
 unfold qX1
 refine qu2 (Q := fun o => o = some (fewC l most bytes)) (fun v => ∃ D Z,l = D ++ Z ∧ D.length ≤ most ∧ v = ((D.length : Int),fewC D most bytes)) (fun v => (most - v.1).toNat) (fun o => o = fewC l most bytes) ⟨[],l,rfl,by simp,by simp [fewC]⟩ ?_ (fun o h => by rw [h])
 rintro v ⟨D,Z,e1,e2,rfl⟩
 have hlen : l.length = D.length + Z.length := by rw [e1]; simp
 have hD : fewC D most bytes = D.map fun c => (c.1,c.2.1.extract 0 (min c.2.1.size bytes),c.2.2) := by
  unfold fewC; rw [List.take_of_length_le e2]
 match Z with
 | [] =>
  right
  have t : ¬ ((D.length : Int) < (l.length : Int)) := by simp at hlen; omega
  rw [List.append_nil] at e1
  exact ⟨fewC D most bytes,by simp only [t,decide_false,cond_false,Option.bind_some],by rw [e1]⟩
 | z :: Z' =>
  simp only [List.length_cons] at hlen
  have t : ((D.length : Int) < (l.length : Int)) := by omega
  have g0 : gx l (D.length : Int) = some z := by rw [e1]; exact qm2 rfl
  by_cases hm' : (D.length : Int) < (most : Int)
  ·left
   refine ⟨((D.length : Int) + 1,fewC (D ++ [z]) most bytes),?_,⟨D ++ [z],Z',by simp [e1],by simp; omega,by simp⟩,by simp; omega⟩
   have hz : fewC (D ++ [z]) most bytes = fewC D most bytes ++ [(z.1,z.2.1.extract 0 (min z.2.1.size bytes),z.2.2)] := by
    rw [hD]; unfold fewC; rw [List.take_of_length_le (by simp; omega)]; simp
   simp only [t,decide_true,cond_true,hm',Option.bind_some,g0]
   have hmin : (min (z.2.1.size : Int) (bytes : Int)).toNat = min z.2.1.size bytes := by omega
   have hcut : cutB 0 (min (z.2.1.size : Int) (bytes : Int)) z.2.1.size = some () := by
    unfold cutB ck
    have : (0 ≤ (0 : Int) ∧ (0 : Int) ≤ min (z.2.1.size : Int) (bytes : Int) ∧ min (z.2.1.size : Int) (bytes : Int) ≤ (z.2.1.size : Int)) := by omega
    simp [this]
   rw [hcut]
   simp only [Option.bind_some,hmin]
   have lD : (fewC D most bytes).length = D.length := by rw [hD]; simp
   rw [qj1 (by simp [lD]; omega),hz,w64 (by omega) (by omega)]
   rfl
  ·right
   have hml : most = D.length := by omega
   refine ⟨fewC D most bytes,by simp only [t,decide_true,cond_true,hm',decide_false,Option.bind_some,cond_false],?_⟩
   rw [hD]
   unfold fewC
   rw [hml,e1,List.take_left]
theorem fewC_len (l : List Cg) (most bytes : Nat) : (fewC l most bytes).length ≤ most := by unfold fewC; simp; omega
theorem fewC_short (l : List Cg) (most : Nat) : ShortC (fewC l most 40) := fun c hc => by
 obtain ⟨x,_,rfl⟩ := List.mem_map.1 hc
 simp [ByteArray.size_extract]
 omega
theorem fewC_k24 {l : List Cg} {most bytes : Nat} (h : K24s l) : K24s (fewC l most bytes) := fun c hc => by
 obtain ⟨x,hx,rfl⟩ := List.mem_map.1 hc
 exact h x (List.mem_of_mem_take hx)
theorem shown_eq : qs2 = some true := by
 obtain ⟨m0,a1,a2,a3,a4⟩ := new_eq (most := 100) (by omega)
 unfold qs2
 rw [a1]
 simp only [Option.bind_some]
 generalize hk : (List.set (List.replicate 24 (0 : UInt8)) 0 (UInt8.ofNat 7)) = k
 have hk24 : k.length = 24 := by rw [← hk]; simp
 obtain ⟨a,m1,c1,b1,b2,b3,b4,b5,b6,b7,_⟩ := apply_eq (l := [(k,ByteArray.mk #[49],false)]) (r := 0) (q := []) a2 (by omega) (by omega) (.inl ⟨rfl,rfl⟩) (by simp [Rising,Asc]) (fun p hp => by cases hp) (fun c hc => by
  have := List.mem_singleton.1 hc; subst this; exact (by decide : (1 : Nat) ≤ 40)) (by simp) (by rw [a3,a4]; simp)
 have q1 : qR1 [] [(k,ByteArray.mk #[49],false)] = [(k,ByteArray.mk #[49])] := by
  refine q53 (qG0 _ _) (by simp [Rising,Asc]) fun k' => ?_
  rw [qp2,updF_one,qN]
  rfl
 rw [q1] at b2 b7
 have ha : a ≠ 0 := by
  rcases b2 with h | h
  ·exact absurd h.2 (by simp)
  ·exact h.1
 obtain ⟨L,hT⟩ := root_tr b2 ha
 rw [b1]
 simp only [Option.bind_some]
 have hr1 : Rising [(k,ByteArray.mk #[49])] := by simp [Rising,Asc]
 have hs1 : q95 [(k,ByteArray.mk #[49])] := fun p hp => by have := List.mem_singleton.1 hp; subst this; exact (by decide : (1 : Nat) ≤ 40)
 simp only [List.length_singleton] at b7
 obtain ⟨b,m2,c2,d1,d2,d3,d4,d5,d6,d7,_⟩ := apply_eq (l := [(k,ByteArray.mk #[],true)]) b4 (by omega) (by omega) b2 hr1 hs1 (fun c hc => by
  have := List.mem_singleton.1 hc; subst this; exact (by decide : (0 : Nat) ≤ 40)) (by simp) (by rw [b5,a3]; simp; omega)
 have q2 : qR1 [(k,ByteArray.mk #[49])] [(k,ByteArray.mk #[],true)] = [] := by
  refine q53 (qG0 _ _) (by simp [Rising,Asc]) fun k' => ?_
  rw [qp2,qi4 hr1,updF_one,qN]
  by_cases h : k' = k <;> simp [h,eff,qF2]
 rw [q2] at d2 d7
 simp only [List.length_nil] at d7
 have hb : b = 0 := by
  rcases d2 with h | ⟨_,L',h⟩
  ·exact h.1
  ·exact absurd rfl (tr_ne h)
 subst hb
 rw [d1]
 simp only [Option.bind_some]
 have hT2 := Tr.ext d3 hT
 have d4' : StM (1 + c1 + c2) m2 [a] := by simpa [rl,ha] using d4
 rw [get_eq d4'.wf hT2 hr1]
 simp only [Option.bind_some]
 rw [get_zero]
 simp only [Option.bind_some]
 rw [show qh2 = some allS from rfl]
 simp only [Option.bind_some]
 have hL := qH4 hT2 (by simp)
 rw [scan_eq d4'.wf (by omega) hT2 hr1 (by simp),qv4 (q := [(k,ByteArray.mk #[49])]) (fun p hp => by have := List.mem_singleton.1 hp; subst this; exact hk24)]
 have hg : mget [(k,ByteArray.mk #[49])] k = some (ByteArray.mk #[49]) := by simp [qN]
 rw [hg]
 simp only [Option.bind_some,decide_true,cond_true,Option.getD_some,Option.isSome_some,Bool.not_false,List.length_singleton]
 have h11 : decide (((1 : Nat) : Int) = 1) = true := by decide
 rw [h11]
 simp only [cond_true]
 rw [count_root]
 simp only [Option.bind_some,root_count d4' hT2,decide_true,cond_true]
 rw [check_eq d4'.wf hT2 hr1 hs1 (by simp)]
 simp only [Option.bind_some,decide_true,cond_true]
 obtain ⟨m3,e1,e2,e3,e4,e5⟩ := release_eq (R := []) (.inr ⟨ha,L,hT2⟩) (by simpa [rl,ha] using d4') (by omega) (by simp)
 rw [e1]
 simp only [Option.bind_some,decide_true,cond_true]
 rw [free_eq e2 (by rw [used_nil e2]; omega),used_nil e2,e4,d5,b5,a3]
 rfl
theorem grown_eq {l : List Cg} (hk : K24s l) : ∃ m r q c,qS1 l = some (m,r,true) ∧ Root m r q ∧ StM (1 + c) m (rl r) ∧ Rising q ∧ q95 q ∧ K24s q ∧ q.length ≤ 80 ∧ m.1.1 = 3002 ∧ used m ≤ c ∧ 2 * c ≤ q.length + 1 ∧ q = qR1 [] (fewC l 80 40) := by
 obtain ⟨m0,a1,a2,a3,a4⟩ := new_eq (most := 3000) (by omega)
 unfold qS1
 rw [a1]
 simp only [Option.bind_some]
 rw [show qX1 l 80 40 = some (fewC l 80 40) from lawfew_eq (most := 80) (bytes := 40) (by omega)]
 simp only [Option.bind_some]
 have hl := fewC_len l 80 40
 obtain ⟨a,m1,c1,b1,b2,b3,b4,b5,b6,b7,_⟩ := apply_eq (l := fewC l 80 40) (r := 0) (q := []) a2 (by omega) (by omega) (.inl ⟨rfl,rfl⟩) (by simp [Rising,Asc]) (fun p hp => by cases hp) (fewC_short l 80) (by simp; omega) (by rw [a3,a4]; simp; omega)
 rw [b1]
 have hlen := qK3 ([] : List Pr) (fewC l 80 40)
 simp only [List.length_nil] at hlen
 exact ⟨m1,a,_,c1,rfl,b2,by simpa using b4,qG0 _ _,applyP_short (by simp [Rising,Asc]) (fun p hp => by cases hp) (fewC_short l 80),applyP_k24 (by simp [Rising,Asc]) (fun p hp => by cases hp) (fewC_k24 hk),by omega,by rw [b5,a3]; rfl,by omega,b7,rfl⟩
end Go.Val
namespace Go.Val
open Go.RowKit Go.Lib
structure Grown (m : Mem) (r : Int) (q : List Pr) (c : Nat) : Prop where
 root : Root m r q
 st : StM (1 + c) m (rl r)
 ris : Rising q
 short : q95 q
 k24 : K24s q
 len : q.length ≤ 80
 blk : m.1.1 = 3002
 used : used m ≤ c
 cost : 2 * c ≤ q.length + 1
theorem grown_ex {l : List Cg} (hk : K24s l) : ∃ m r c,qS1 l = some (m,r,true) ∧ Grown m r (qR1 [] (fewC l 80 40)) c := by
 obtain ⟨m,r,q,c,h1,h2,h3,h4,h5,h6,h7,h8,h9,h10,rfl⟩ := grown_eq hk
 exact ⟨m,r,c,h1,⟨h2,h3,h4,h5,h6,h7,h8,h9,h10⟩⟩
theorem scan_root {K : Int} {m : Mem} {s : Spn} {n : Int} {q : List Pr} (hw : WfM K m) (h : Root m n q) (hq : Rising q) (hn : q.length ≤ 1000000) : ql0 m n s = some (q.filter fun p => inT s p.1,0,m) := by
 rcases h with ⟨rfl,rfl⟩ | ⟨_,L,h⟩
 ·rw [scan_zero]; rfl
 ·have := qH4 h hn
  exact scan_eq hw (by omega) h hq hn
end Go.Val
namespace Go.Val
open Go.RowKit Go.Lib
theorem same_eq {a b : List Pr} (hn : a.length ≤ 1000000000) : qL1 a b = some (decide (a = b)) := by
 unfold qL1
 by_cases hl : a.length = b.length
 ·have t : ¬ ((a.length : Int) ≠ (b.length : Int)) := by omega
  simp only [t,decide_false,cond_false]
  refine qu2 (Q := fun o => o = some (decide (a = b))) (fun v => ∃ D A B,a = D ++ A ∧ b = D ++ B ∧ v = (D.length : Int)) (fun v => ((a.length : Int) - v).toNat)
   (fun o => Sum.elim (fun (_ : Unit) => some true) (fun w => some w) o = some (decide (a = b))) ⟨[],a,b,rfl,rfl,rfl⟩ ?_ (fun o h => h)
  rintro v ⟨D,A,B,e1,e2,rfl⟩
  have la : a.length = D.length + A.length := by rw [e1]; simp
  have lb : b.length = D.length + B.length := by rw [e2]; simp
  match A,B with
  | [],[] =>
   right
   have t : ¬ ((D.length : Int) < (a.length : Int)) := by simp at la; omega
   refine ⟨.inl (),by simp only [t,decide_false,cond_false],?_⟩
   have e : a = b := by rw [e1,e2]
   simp [e]
  | [],y :: B' => simp at la lb; omega
  | x :: A',[] => simp at la lb; omega
  | x :: A',y :: B' =>
   simp only [List.length_cons] at la lb
   have t : ((D.length : Int) < (a.length : Int)) := by omega
   have ga : gx a (D.length : Int) = some x := by rw [e1]; exact qm2 rfl
   have gb : gx b (D.length : Int) = some y := by rw [e2]; exact qm2 rfl
   simp only [t,decide_true,cond_true,Option.bind_some,ga,gb]
   by_cases hxy : x = y
   ·left
    subst hxy
    refine ⟨(D.length : Int) + 1,?_,⟨D ++ [x],A',B',by simp [e1],by simp [e2],by simp⟩,by omega⟩
    simp only [decide_true,Bool.and_self,Bool.not_true,cond_false]
    rw [w64 (by omega) (by omega)]
   ·right
    have hn : ((decide (x.1 = y.1)) && ((decide (x.2 = y.2)) && true)) = false := by
     rw [Bool.eq_false_iff]
     intro h
     simp only [Bool.and_eq_true,decide_eq_true_eq,and_true] at h
     exact hxy (Prod.ext h.1 h.2)
    refine ⟨.inr false,by simp only [hn,Bool.not_false,cond_true],?_⟩
    have hab : a ≠ b := fun e => hxy (by rw [e1,e2] at e; have := List.append_cancel_left e; simp at this; exact this.1)
    simp [hab]
 ·have t : ((a.length : Int) ≠ (b.length : Int)) := by omega
  have hab : a ≠ b := fun e => hl (by rw [e])
  simp only [t,ne_eq,not_false_eq_true,decide_true,cond_true,hab,decide_false]
end Go.Val
namespace Go.Val
open Go.RowKit Go.Lib
end Go.Val
namespace Go.Val
open Go.RowKit Go.Lib
end Go.Val
namespace Go.Val
open Go.RowKit Go.Lib
theorem and_le {a : Int} {b : Nat} (hb : b < 9223372036854775808) : ∃ m : Nat,qv .i64 a (b : Int) = (m : Int) ∧ m ≤ b := by
 unfold qv
 rw [BitVec.toNat_and,BitVec.toNat_ofInt,BitVec.toNat_ofInt]
 have h64 : (2 : Nat) ^ IntKind.bits .i64 = 18446744073709551616 := by decide
 have e3 : ((b : Int) % ((2 ^ IntKind.bits .i64 : Nat) : Int)).toNat = b := by rw [h64]; omega
 rw [e3]
 have := @Nat.and_le_right ((a % ((2 ^ IntKind.bits .i64 : Nat) : Int)).toNat) b
 exact ⟨_,by rw [wI64 (by omega)],this⟩
end Go.Val
namespace Go.Val
open Go.RowKit Go.Lib
theorem whileO_gh {V O X : Type} {body : V → Option (V ⊕ O)} (J : V → X → Prop) (μ : X → Nat) (Post : O → Prop)
  (h : ∀ v x,J v x → (∃ v' x',body v = some (.inl v') ∧ J v' x' ∧ μ x' < μ x) ∨ (∃ o,body v = some (.inr o) ∧ Post o)) {v : V} {x : X} (hv : J v x) : ∃ o,qG body v = some o ∧ Post o := by
 have key : ∀ n v x,J v x → μ x ≤ n → ∃ o,qG body v = some o ∧ Post o := by
  intro n
  induction n with
  | zero =>
   intro v x hv hm
   rcases h v x hv with ⟨v',x',h1,h2,h3⟩ | ⟨o,h1,h2⟩
   ·omega
   ·exact ⟨o,by rw [qM,h1]; rfl,h2⟩
  | succ n ih =>
   intro v x hv hm
   rcases h v x hv with ⟨v',x',h1,h2,h3⟩ | ⟨o,h1,h2⟩
   ·obtain ⟨o,k1,k2⟩ := ih v' x' h2 (by omega)
    exact ⟨o,by rw [qM,h1]; exact k1,k2⟩
   ·exact ⟨o,by rw [qM,h1]; rfl,h2⟩
 exact key _ v x hv (Nat.le_refl _)
structure CQ (most : Int) (n T A : List Int) : Prop where
 len : (n.length : Int) = most + 2
 get : ∀ k : Nat,k < n.length → n[k]? = some ((A.count (k : Int) : Nat) : Int)
 nodup : T.Nodup
 mem : ∀ k,k ∈ T ↔ k ∈ A
 rng : ∀ k ∈ A,2 ≤ k ∧ k < most + 2
theorem CQ.tlen {most : Int} {n T A : List Int} (h : CQ most n T A) : T.length ≤ A.length := qZ4 h.nodup fun x hx => (h.mem x).1 hx
theorem cq_hit {most : Int} {n D Q A : List Int} {k : Int} (h : CQ most n (D ++ Q) A) (h1 : 2 ≤ k) (h2 : k < most + 2) (hA : A.length ≤ 1000000000000) :
  gx n k = some ((A.count k : Nat) : Int) ∧ (cond (decide (((A.count k : Nat) : Int) = 0)) ((fits (Q.length + ([k]).length) 8).bind fun _ => some (Q ++ [k])) (some Q)) = some (if A.count k = 0 then Q ++ [k] else Q) ∧
  CQ most (List.set n k.toNat (IntKind.wrap .i64 (((A.count k : Nat) : Int) + 1))) (D ++ (if A.count k = 0 then Q ++ [k] else Q)) (A ++ [k]) := by
 have hl := h.len
 have hk : ((k.toNat : Nat) : Int) = k := by omega
 have hc : A.count k ≤ A.length := List.count_le_length
 have ht := h.tlen
 rw [List.length_append] at ht
 refine ⟨?_,?_,⟨by simp [hl],fun j hj => ?_,?_,fun j => ?_,fun j hj => ?_⟩⟩
 ·have h0 : 0 ≤ k := by omega
  unfold gx
  rw [decide_eq_true h0,cond_true,h.get k.toNat (by omega),hk]
 ·by_cases h0 : A.count k = 0
  ·have e : ((A.count k : Nat) : Int) = 0 := by omega
   rw [decide_eq_true e,cond_true,if_pos h0]
   unfold fits
   rw [ck_of (by simp only [List.length_cons,List.length_nil]; omega)]
   rfl
  ·have e : ¬ ((A.count k : Nat) : Int) = 0 := by omega
   rw [decide_eq_false e,cond_false,if_neg h0]
 ·rw [List.length_set] at hj
  rw [w64 (by omega) (by omega),List.getElem?_set,List.count_append,List.count_singleton]
  by_cases e : k.toNat = j
  ·subst e
   rw [if_pos rfl,if_pos hj,hk]
   simp
  ·rw [if_neg e,h.get j hj]
   have : ¬ (k = (j : Int)) := by omega
   simp [this]
 ·by_cases h0 : A.count k = 0
  ·rw [if_pos h0,← List.append_assoc]
   refine List.nodup_append.2 ⟨h.nodup,by simp,fun a ha b hb => ?_⟩
   have hb' : b = k := by simpa using hb
   rintro rfl
   subst hb'
   exact List.count_eq_zero.1 h0 ((h.mem _).1 ha)
  ·rw [if_neg h0]; exact h.nodup
 ·rw [List.mem_append (s := A)]
  by_cases h0 : A.count k = 0
  ·rw [if_pos h0,← List.append_assoc,List.mem_append,h.mem j]
  ·rw [if_neg h0,h.mem j]
   have : k ∈ A := by
    refine Classical.byContradiction fun hn => h0 (List.count_eq_zero.2 hn)
   constructor
   ·exact .inl
   ·rintro (h | h)
    ·exact h
    ·have : j = k := by simpa using h
     subst this; assumption
 ·rcases List.mem_append.1 hj with hj | hj
  ·exact h.rng j hj
  ·have : j = k := by simpa using hj
   subst this; exact ⟨h1,h2⟩
theorem inK_flat (m : Mem) (bs : List Int) (n : Int) : inK m bs n = (bs.flatMap fun b => qm1 (ndOf m b)).count n := by
 unfold inK
 induction bs with
 | nil => rfl
 | cons b bs ih => simp [List.count_append,ih]
theorem count_same {l r : List Int} (hl : l.Nodup) (hr : r.Nodup) (h : ∀ x,x ∈ l ↔ x ∈ r) : l.length = r.length :=
 Nat.le_antisymm (qZ4 hl fun x hx => (h x).1 hx) (qZ4 hr fun x hx => (h x).2 hx)
theorem inK_same {m : Mem} {l r : List Int} (hl : l.Nodup) (hr : r.Nodup) (h : ∀ x,x ∈ l ↔ x ∈ r) (n : Int) : inK m l n = inK m r n := by
 have hp : l.Perm r := (List.perm_ext_iff_of_nodup hl hr).2 h
 rw [inK_flat,inK_flat]
 exact (hp.flatMap_right _).count_eq n
theorem count1_eq {most : Int} {roots : List Int} {a0 : Mem} (hm : 0 ≤ most ∧ most ≤ 1000000) (hr : ∀ r ∈ roots,r = 0 ∨ 2 ≤ r ∧ r < most + 2) (hn : roots.length ≤ 1000000) :
  ∃ n T,(qG (V := (Int × (List Int) × (List Int))) (O := (((List Int) × (List Int)) ⊕ (Bool × Mem))) (fun v530 =>
   cond (decide (v530.1 < (roots.length : Int))) (
    (((
     (gx roots v530.1).bind fun x586 =>
     cond (decide (x586 = 0)) (
      some (.inl (v530.2.1,v530.2.2))
     ) (
      (((
       cond (decide (x586 < 2)) (
        some true
       ) (
        some (decide (x586 ≥ (v530.2.1.length : Int)))
       )
      ) : Option Bool)).bind fun o595 =>
      cond o595 (
       some (.inr (false,a0))
      ) (
       (((
        (gx v530.2.1 x586).bind fun x618 =>
        cond (decide (x618 = 0)) (
         (fits (v530.2.2.length + ([x586]).length) 8).bind fun _ =>
         some (v530.2.2 ++ [x586])
        ) (
         some v530.2.2
        )
       ) : Option (List Int))).bind fun o615 =>
       (gx v530.2.1 x586).bind fun x627 =>
       some (.inl ((List.set v530.2.1 x586.toNat (IntKind.wrap .i64 (x627 + 1))),o615))
      )
     )
    ) : Option (((List Int) × (List Int)) ⊕ (Bool × Mem)))).bind fun o583 =>
    Sum.elim (fun (v634 : ((List Int) × (List Int))) =>
     some (.inl ((IntKind.wrap .i64 (v530.1 + 1)),v634.1,v634.2))
    ) (fun w637 =>
     some (.inr (.inr w637))
    ) o583
   ) (
    some (.inr (.inl (v530.2.1,v530.2.2)))
   )
  ) (0,(List.replicate (IntKind.wrap .i64 (most + 2)).toNat 0),[])) = some (.inl (n,T)) ∧ CQ most n T (roots.flatMap rl) := by
 rw [w64 (n := most + 2) (by omega) (by omega)]
 obtain ⟨o,ho,n,T,e,hc⟩ := qJ (V := (Int × (List Int) × (List Int))) (O := (((List Int) × (List Int)) ⊕ (Bool × Mem))) (body := fun v530 =>
   cond (decide (v530.1 < (roots.length : Int))) (
    (((
     (gx roots v530.1).bind fun x586 =>
     cond (decide (x586 = 0)) (
      some (.inl (v530.2.1,v530.2.2))
     ) (
      (((
       cond (decide (x586 < 2)) (
        some true
       ) (
        some (decide (x586 ≥ (v530.2.1.length : Int)))
       )
      ) : Option Bool)).bind fun o595 =>
      cond o595 (
       some (.inr (false,a0))
      ) (
       (((
        (gx v530.2.1 x586).bind fun x618 =>
        cond (decide (x618 = 0)) (
         (fits (v530.2.2.length + ([x586]).length) 8).bind fun _ =>
         some (v530.2.2 ++ [x586])
        ) (
         some v530.2.2
        )
       ) : Option (List Int))).bind fun o615 =>
       (gx v530.2.1 x586).bind fun x627 =>
       some (.inl ((List.set v530.2.1 x586.toNat (IntKind.wrap .i64 (x627 + 1))),o615))
      )
     )
    ) : Option (((List Int) × (List Int)) ⊕ (Bool × Mem)))).bind fun o583 =>
    Sum.elim (fun (v634 : ((List Int) × (List Int))) =>
     some (.inl ((IntKind.wrap .i64 (v530.1 + 1)),v634.1,v634.2))
    ) (fun w637 =>
     some (.inr (.inr w637))
    ) o583
   ) (
    some (.inr (.inl (v530.2.1,v530.2.2)))
   )) (fun v => ∃ D Z,roots = D ++ Z ∧ v.1 = (D.length : Int) ∧ CQ most v.2.1 v.2.2 (D.flatMap rl)) (fun v => ((roots.length : Int) - v.1).toNat) (fun o => ∃ n T,o = .inl (n,T) ∧ CQ most n T (roots.flatMap rl)) (by
  rintro ⟨i,n,Q⟩ ⟨D,Z,e1,e2,hc⟩
  simp only at e2 hc
  subst e2
  have hlen : roots.length = D.length + Z.length := by rw [e1]; simp
  match Z with
  | [] =>
   right
   have t : ¬ ((D.length : Int) < (roots.length : Int)) := by simp at hlen; omega
   simp only [t,decide_false,cond_false]
   exact ⟨_,rfl,n,Q,rfl,by rw [e1,List.append_nil]; exact hc⟩
  | z :: Z' =>
   left
   simp only [List.length_cons] at hlen
   have t : ((D.length : Int) < (roots.length : Int)) := by omega
   have g0 : gx roots (D.length : Int) = some z := by rw [e1]; exact qm2 rfl
   have hz := hr z (by rw [e1]; simp)
   simp only [t,decide_true,cond_true,g0,Option.bind_some]
   rw [w64 (n := (D.length : Int) + 1) (by omega) (by omega)]
   have hfl : (D.flatMap rl).length ≤ D.length := by
    clear hc hlen t g0 e1
    induction D with
    | nil => simp
    | cons d D ih =>
     rw [List.flatMap_cons,List.length_append,List.length_cons]
     have : (rl d).length ≤ 1 := by unfold rl; split <;> simp
     omega
   by_cases h0 : z = 0
   ·subst h0
    refine ⟨_,by rw [decide_eq_true rfl,cond_true]; rfl,⟨D ++ [0],Z',by simp [e1],by simp,?_⟩,by simp only; omega⟩
    rw [List.flatMap_append]
    simpa [rl] using hc
   ·have h2 : 2 ≤ z ∧ z < most + 2 := by omega
    have c2 : ¬ z < 2 := by omega
    have hl := hc.len
    have c3 : ¬ z ≥ (n.length : Int) := by omega
    obtain ⟨a1,a2,a3⟩ := cq_hit (D := []) (Q := Q) hc h2.1 h2.2 (by omega)
    rw [decide_eq_false h0,cond_false,decide_eq_false c2,cond_false,Option.bind_some,decide_eq_false c3,cond_false,a1,Option.bind_some,a2,Option.bind_some,Option.bind_some]
    refine ⟨_,rfl,⟨D ++ [z],Z',by simp [e1],by simp,?_⟩,by simp only; omega⟩
    rw [List.flatMap_append]
    simpa [rl,h0] using a3) (v := (0,List.replicate (most + 2).toNat 0,[])) ⟨[],roots,rfl,rfl,⟨by simp; omega,fun k hk => by
    have hk' : k < (most + 2).toNat := by simpa using hk
    simp only [List.flatMap_nil,List.count_nil]
    rw [List.getElem?_replicate,if_pos hk']; rfl,by simp,by simp,by simp⟩⟩
 subst e
 exact ⟨n,T,ho,hc⟩
theorem count3_eq {most : Int} {m : Mem} {n D Q A : List Int} {ks : List Kd} (hc : CQ most n (D ++ Q) A) (hA : A.length ≤ 100000000000) (hl : ks.length ≤ 1000000) (hk : ∀ k ∈ ks,2 ≤ k.2 ∧ k.2 < most + 2) :
  ∃ n' Q',qG (V := (Int × (List Int) × (List Int))) (O := ((Mem × (List Int) × (List Int)) ⊕ ((Mem × (List Int)) ⊕ (Bool × Mem)))) (fun v1559 =>
       cond (decide (v1559.1 < (ks.length : Int))) (
        (gx ks v1559.1).bind fun x1566 =>
        (((
         cond (decide (x1566.2 < 2)) (
          some true
         ) (
          some (decide (x1566.2 ≥ (v1559.2.1.length : Int)))
         )
        ) : Option Bool)).bind fun o1572 =>
        cond o1572 (
         some (.inr (.inr (.inr (false,m))))
        ) (
         (((
          (gx v1559.2.1 x1566.2).bind fun x1594 =>
          cond (decide (x1594 = 0)) (
           (fits (v1559.2.2.length + ([x1566.2]).length) 8).bind fun _ =>
           some (v1559.2.2 ++ [x1566.2])
          ) (
           some v1559.2.2
          )
         ) : Option (List Int))).bind fun o1591 =>
         (gx v1559.2.1 x1566.2).bind fun x1603 =>
         some (.inl ((IntKind.wrap .i64 (v1559.1 + 1)),(List.set v1559.2.1 x1566.2.toNat (IntKind.wrap .i64 (x1603 + 1))),o1591))
        )
       ) (
        some (.inr (.inl (m,v1559.2.1,v1559.2.2)))
       )
      ) (0,n,Q) = some (.inl (m,n',Q')) ∧ CQ most n' (D ++ Q') (A ++ ks.map (·.2)) := by
 obtain ⟨o,ho,n',Q',e,h⟩ := qJ (V := (Int × (List Int) × (List Int))) (O := ((Mem × (List Int) × (List Int)) ⊕ ((Mem × (List Int)) ⊕ (Bool × Mem)))) (body := (fun v1559 =>
       cond (decide (v1559.1 < (ks.length : Int))) (
        (gx ks v1559.1).bind fun x1566 =>
        (((
         cond (decide (x1566.2 < 2)) (
          some true
         ) (
          some (decide (x1566.2 ≥ (v1559.2.1.length : Int)))
         )
        ) : Option Bool)).bind fun o1572 =>
        cond o1572 (
         some (.inr (.inr (.inr (false,m))))
        ) (
         (((
          (gx v1559.2.1 x1566.2).bind fun x1594 =>
          cond (decide (x1594 = 0)) (
           (fits (v1559.2.2.length + ([x1566.2]).length) 8).bind fun _ =>
           some (v1559.2.2 ++ [x1566.2])
          ) (
           some v1559.2.2
          )
         ) : Option (List Int))).bind fun o1591 =>
         (gx v1559.2.1 x1566.2).bind fun x1603 =>
         some (.inl ((IntKind.wrap .i64 (v1559.1 + 1)),(List.set v1559.2.1 x1566.2.toNat (IntKind.wrap .i64 (x1603 + 1))),o1591))
        )
       ) (
        some (.inr (.inl (m,v1559.2.1,v1559.2.2)))
       )
      )) (fun v => ∃ B Z,ks = B ++ Z ∧ v.1 = (B.length : Int) ∧ CQ most v.2.1 (D ++ v.2.2) (A ++ B.map (·.2))) (fun v => ((ks.length : Int) - v.1).toNat) (fun o => ∃ n' Q',o = .inl (m,n',Q') ∧ CQ most n' (D ++ Q') (A ++ ks.map (·.2))) (by
  rintro ⟨i,n,Q⟩ ⟨B,Z,e1,e2,hc⟩
  simp only at e2 hc
  subst e2
  have hlen : ks.length = B.length + Z.length := by rw [e1]; simp
  match Z with
  | [] =>
   right
   have t : ¬ ((B.length : Int) < (ks.length : Int)) := by simp at hlen; omega
   simp only [t,decide_false,cond_false]
   exact ⟨_,rfl,n,Q,rfl,by rw [e1,List.append_nil]; exact hc⟩
  | z :: Z' =>
   left
   simp only [List.length_cons] at hlen
   have t : ((B.length : Int) < (ks.length : Int)) := by omega
   have g0 : gx ks (B.length : Int) = some z := by rw [e1]; exact qm2 rfl
   have h2 := hk z (by rw [e1]; simp)
   simp only [t,decide_true,cond_true,g0,Option.bind_some]
   rw [w64 (n := (B.length : Int) + 1) (by omega) (by omega)]
   have c2 : ¬ z.2 < 2 := by omega
   have hl := hc.len
   have c3 : ¬ z.2 ≥ (n.length : Int) := by omega
   obtain ⟨a1,a2,a3⟩ := cq_hit (D := D) (Q := Q) hc h2.1 h2.2 (by simp; omega)
   rw [decide_eq_false c2,cond_false,Option.bind_some,decide_eq_false c3,cond_false,a1,Option.bind_some,a2,Option.bind_some,Option.bind_some]
   refine ⟨_,rfl,⟨B ++ [z],Z',by simp [e1],by simp,?_⟩,by simp only; omega⟩
   simpa using a3) (v := (0,n,Q)) ⟨[],ks,rfl,rfl,by simpa using hc⟩
 subst e
 exact ⟨n',Q',ho,h⟩
theorem count2_eq {K : Nat} {m : Mem} {R : List Int} {most : Int} {n T : List Int} (hst : StM K m R) (hb : m.1.1 = most + 2) (hm : 0 ≤ most ∧ most ≤ 1000000) (hR : R.length ≤ 1000000) (hu : used m ≤ 2000000) (hc : CQ most n T R) :
  ∃ n' D,(qG (V := (Mem × (List Int) × (List Int))) (O := ((Mem × (List Int)) ⊕ (Bool × Mem))) (fun v1445 =>
    cond (decide ((v1445.2.2.length : Int) > 0)) (
     (gx v1445.2.2 0).bind fun x1452 =>
     (qt v1445.1 x1452).bind fun x1455 =>
     (ck (decide (0 < v1445.2.2.length))).bind fun _ =>
     cond (decide (x1455.2.1 ≠ 0)) (
      some (.inr (.inr (false,x1455.2.2)))
     ) (
      qG (V := (Int × (List Int) × (List Int))) (O := ((Mem × (List Int) × (List Int)) ⊕ ((Mem × (List Int)) ⊕ (Bool × Mem)))) (fun v1559 =>
       cond (decide (v1559.1 < (x1455.1.2.2.length : Int))) (
        (gx x1455.1.2.2 v1559.1).bind fun x1566 =>
        (((
         cond (decide (x1566.2 < 2)) (
          some true
         ) (
          some (decide (x1566.2 ≥ (v1559.2.1.length : Int)))
         )
        ) : Option Bool)).bind fun o1572 =>
        cond o1572 (
         some (.inr (.inr (.inr (false,x1455.2.2))))
        ) (
         (((
          (gx v1559.2.1 x1566.2).bind fun x1594 =>
          cond (decide (x1594 = 0)) (
           (fits (v1559.2.2.length + ([x1566.2]).length) 8).bind fun _ =>
           some (v1559.2.2 ++ [x1566.2])
          ) (
           some v1559.2.2
          )
         ) : Option (List Int))).bind fun o1591 =>
         (gx v1559.2.1 x1566.2).bind fun x1603 =>
         some (.inl ((IntKind.wrap .i64 (v1559.1 + 1)),(List.set v1559.2.1 x1566.2.toNat (IntKind.wrap .i64 (x1603 + 1))),o1591))
        )
       ) (
        some (.inr (.inl (x1455.2.2,v1559.2.1,v1559.2.2)))
       )
      ) (0,v1445.2.1,(List.drop 1 v1445.2.2))
     )
    ) (
     some (.inr (.inl (v1445.1,v1445.2.1)))
    )
   ) (m,n,T)) = some (.inl (m,n')) ∧ CQ most n' D (R ++ D.flatMap fun b => qm1 (ndOf m b)) ∧ ∀ b ∈ D,cnt m b ≠ 0 := by
 have hlive : ∀ {n' D Q : List Int},CQ most n' (D ++ Q) (R ++ D.flatMap fun b => qm1 (ndOf m b)) → (∀ b ∈ D,cnt m b ≠ 0) → ∀ x ∈ D ++ Q,cnt m x ≠ 0 := by
  intro n' D Q h hD x hx
  rcases List.mem_append.1 ((h.mem x).1 hx) with hx | hx
  ·exact qX4 hst.rc hx
  ·obtain ⟨b,hb,hk⟩ := List.mem_flatMap.1 hx
   exact rc_kid hst.rc (hD b hb) hk
 have hkl : ∀ b,cnt m b ≠ 0 → (qm1 (ndOf m b)).length ≤ 18 := by
  intro b hb
  obtain ⟨L,q,_,ht,_⟩ := hst.live b hb
  have := (qa5 ht).2.2
  simpa [qm1] using this
 have hdl : ∀ {D : List Int},D.Nodup → (∀ b ∈ D,cnt m b ≠ 0) → D.length ≤ used m := by
  intro D hn hD
  have := qZ4 hn fun x hx => (qT2 (hD x hx)).1
  rwa [List.length_map] at this
 have hfl : ∀ {D : List Int},(∀ b ∈ D,cnt m b ≠ 0) → (D.flatMap fun b => qm1 (ndOf m b)).length ≤ 18 * D.length := by
  intro D
  induction D with
  | nil => intro _; simp
  | cons d D ih =>
   intro h
   have h1 := hkl d (h d (by simp))
   have h2 := ih fun b hb => h b (by simp [hb])
   rw [List.flatMap_cons,List.length_append,List.length_cons]
   omega
 obtain ⟨o,ho,n',D,e,h1,h2⟩ := whileO_gh (V := (Mem × (List Int) × (List Int))) (O := ((Mem × (List Int)) ⊕ (Bool × Mem))) (X := List Int) (body := (fun v1445 =>
    cond (decide ((v1445.2.2.length : Int) > 0)) (
     (gx v1445.2.2 0).bind fun x1452 =>
     (qt v1445.1 x1452).bind fun x1455 =>
     (ck (decide (0 < v1445.2.2.length))).bind fun _ =>
     cond (decide (x1455.2.1 ≠ 0)) (
      some (.inr (.inr (false,x1455.2.2)))
     ) (
      qG (V := (Int × (List Int) × (List Int))) (O := ((Mem × (List Int) × (List Int)) ⊕ ((Mem × (List Int)) ⊕ (Bool × Mem)))) (fun v1559 =>
       cond (decide (v1559.1 < (x1455.1.2.2.length : Int))) (
        (gx x1455.1.2.2 v1559.1).bind fun x1566 =>
        (((
         cond (decide (x1566.2 < 2)) (
          some true
         ) (
          some (decide (x1566.2 ≥ (v1559.2.1.length : Int)))
         )
        ) : Option Bool)).bind fun o1572 =>
        cond o1572 (
         some (.inr (.inr (.inr (false,x1455.2.2))))
        ) (
         (((
          (gx v1559.2.1 x1566.2).bind fun x1594 =>
          cond (decide (x1594 = 0)) (
           (fits (v1559.2.2.length + ([x1566.2]).length) 8).bind fun _ =>
           some (v1559.2.2 ++ [x1566.2])
          ) (
           some v1559.2.2
          )
         ) : Option (List Int))).bind fun o1591 =>
         (gx v1559.2.1 x1566.2).bind fun x1603 =>
         some (.inl ((IntKind.wrap .i64 (v1559.1 + 1)),(List.set v1559.2.1 x1566.2.toNat (IntKind.wrap .i64 (x1603 + 1))),o1591))
        )
       ) (
        some (.inr (.inl (x1455.2.2,v1559.2.1,v1559.2.2)))
       )
      ) (0,v1445.2.1,(List.drop 1 v1445.2.2))
     )
    ) (
     some (.inr (.inl (v1445.1,v1445.2.1)))
    )
   )) (fun v D => v.1 = m ∧ CQ most v.2.1 (D ++ v.2.2) (R ++ D.flatMap fun b => qm1 (ndOf m b)) ∧ ∀ b ∈ D,cnt m b ≠ 0) (fun D => used m + 1 - D.length) (fun o => ∃ n' D,o = .inl (m,n') ∧ CQ most n' D (R ++ D.flatMap fun b => qm1 (ndOf m b)) ∧ ∀ b ∈ D,cnt m b ≠ 0) (by
  rintro ⟨m',n,Q⟩ D ⟨e,hc,hD⟩
  simp only at e hc
  subst e
  match Q with
  | [] =>
   right
   refine ⟨_,rfl,n,D,rfl,by simpa using hc,hD⟩
  | q :: Q' =>
   left
   have hq := hlive hc hD q (by simp)
   obtain ⟨L,q0,_,ht,_⟩ := hst.live q hq
   have hDq : ∀ b ∈ D ++ [q],cnt m' b ≠ 0 := by
    intro b hb
    rcases List.mem_append.1 hb with hb | hb
    ·exact hD b hb
    ·have : b = q := by simpa using hb
     subst this; exact hq
   have hnd : (D ++ [q]).Nodup := by
    have := hc.nodup
    rw [show D ++ q :: Q' = (D ++ [q]) ++ Q' by simp] at this
    exact (List.nodup_append.1 this).1
   have hlen := hdl hnd hDq
   simp only [List.length_append,List.length_cons,List.length_nil] at hlen
   have hf := hfl hD
   obtain ⟨n',Q'',w1,w2⟩ := count3_eq (m := m') (D := D ++ [q]) (Q := Q') (n := n) (A := R ++ D.flatMap fun b => qm1 (ndOf m' b)) (ks := (ndOf m' q).2.2) (most := most) (by simpa using hc) (by simp only [List.length_append]; omega) (by have := (qa5 ht).2.2; omega) (fun k hk => by
    have hkl := rc_kid hst.rc hq (n := k.2) (List.mem_map.2 ⟨k,hk,rfl⟩)
    have := ql3 hst.wf hkl
    omega)
   refine ⟨(m',n',Q''),D ++ [q],?_,⟨rfl,?_,hDq⟩,by simp only [List.length_append,List.length_cons,List.length_nil]; omega⟩
   ·have t : (((q :: Q').length : Nat) : Int) > 0 := by simp only [List.length_cons]; omega
    have g0 : gx (q :: Q') 0 = some q := rfl
    have t2 : 0 < (q :: Q').length := by simp
    simp only [t,decide_true,cond_true,g0,Option.bind_some,tr_get ht,ck_of t2,ne_eq,not_true_eq_false,decide_false,cond_false,List.drop_one,List.tail_cons]
    exact w1
   ·have e3 : (R ++ List.flatMap (fun b => qm1 (ndOf m' b)) D) ++ List.map (fun x => x.snd) (ndOf m' q).2.2 = R ++ List.flatMap (fun b => qm1 (ndOf m' b)) (D ++ [q]) := by simp [qm1]
    rw [← e3]; exact w2) (v := (m,n,T)) (x := []) ⟨rfl,by simpa using hc,by simp⟩
 subst e
 exact ⟨n',D,ho,h1,h2⟩
def alive (m : Mem) (j : Nat) : List Int := ((List.range j).map fun (t : Nat) => (t : Int) + 2).filter fun k => decide (cnt m k ≠ 0)
theorem alive_succ (m : Mem) (j : Nat) : alive m (j + 1) = alive m j ++ (if cnt m ((j : Int) + 2) = 0 then [] else [(j : Int) + 2]) := by
 unfold alive
 rw [List.range_succ,List.map_append,List.filter_append]
 congr 1
 by_cases h : cnt m ((j : Int) + 2) = 0 <;> simp [h]
theorem alive_all {K : Int} {m : Mem} {j : Nat} (hw : WfM K m) (hj : m.1.1 = (j : Int) + 2) : (alive m j).length = used m := by
 have := count_same (l := alive m j) (r := m.1.2.1.map (·.1)) (by
  unfold alive
  show List.Pairwise _ _
  refine List.Pairwise.filter _ ?_
  rw [List.pairwise_map]
  exact List.Pairwise.imp (fun hne => by omega) (List.nodup_range (n := j))) hw.nodup (fun x => by
  unfold alive
  constructor
  ·intro h
   have := (List.mem_filter.1 h).2
   exact (qT2 (of_decide_eq_true this)).1
  ·intro h
   obtain ⟨c,hc⟩ := Option.isSome_iff_exists.1 (qP0.2 h)
   have hp := hw.pos x c hc
   have hcn : cnt m x = c := by unfold cnt; rw [hc]; rfl
   refine List.mem_filter.2 ⟨List.mem_map.2 ⟨(x - 2).toNat,List.mem_range.2 (by omega),by omega⟩,?_⟩
   rw [hcn]
   exact decide_eq_true (by omega))
 rwa [List.length_map] at this
theorem count4_eq {K : Int} {m : Mem} {N : Nat} {n : List Int} (hw : WfM K m) (hN : m.1.1 = (N : Int) + 2) (hn : n.length = N + 2) (hN2 : N ≤ 1000000) (hg : ∀ k : Nat,k < N → n[k + 2]? = some (cnt m ((k : Int) + 2))) :
  qG (V := (Int × Int × Mem)) (O := ((Int × Mem) ⊕ (Bool × Mem))) (fun v1797 =>
     cond (decide (v1797.2.1 < (n.length : Int))) (
      (((
       (qc0 v1797.2.2 v1797.2.1).bind fun x1819 =>
       (gx n v1797.2.1).bind fun x1822 =>
       cond (decide (x1819.1 ≠ x1822)) (
        some (.inr (false,x1819.2))
       ) (
        cond (decide (x1822 > 0)) (
         some (.inl ((IntKind.wrap .i64 (v1797.1 + 1)),x1819.2))
        ) (
         some (.inl (v1797.1,x1819.2))
        )
       )
      ) : Option ((Int × Mem) ⊕ (Bool × Mem)))).bind fun o1816 =>
      Sum.elim (fun (v1833 : (Int × Mem)) =>
       some (.inl (v1833.1,(IntKind.wrap .i64 (v1797.2.1 + 1)),v1833.2))
      ) (fun w1836 =>
       some (.inr (.inr w1836))
      ) o1816
     ) (
      some (.inr (.inl (v1797.1,v1797.2.2)))
     )
    ) (0,2,m) = some (.inl ((used m : Int),m)) := by
 refine whileO_is (fun v => ∃ j : Nat,j ≤ N ∧ v = (((alive m j).length : Int),(j : Int) + 2,m)) (fun v => ((n.length : Int) - v.2.1).toNat) ⟨0,by omega,rfl⟩ ?_
 rintro v ⟨j,hj,rfl⟩
 have hal : (alive m j).length ≤ j := by
  unfold alive
  refine Nat.le_trans (List.length_filter_le _ _) (by simp)
 by_cases h : j = N
 ·right
  subst h
  have t : ¬ ((j : Int) + 2 < (n.length : Int)) := by omega
  simp only [t,decide_false,cond_false]
  rw [alive_all hw hN]
 ·left
  have t : ((j : Int) + 2 < (n.length : Int)) := by omega
  have g0 : gx n ((j : Int) + 2) = some (cnt m ((j : Int) + 2)) := by
   have h0 : (0 : Int) ≤ (j : Int) + 2 := by omega
   unfold gx
   rw [decide_eq_true h0,cond_true,show ((j : Int) + 2).toNat = j + 2 by omega]
   exact hg j (by omega)
  have hp : 0 ≤ cnt m ((j : Int) + 2) := by
   by_cases hc : cnt m ((j : Int) + 2) = 0
   ·omega
   ·have := (hw.pos _ _ (qT2 hc).2).1; omega
  refine ⟨(((alive m (j + 1)).length : Int),((j + 1 : Nat) : Int) + 2,m),?_,⟨j + 1,by omega,rfl⟩,by simp only; omega⟩
  simp only [t,decide_true,cond_true,count_root,g0,Option.bind_some,ne_eq,not_true_eq_false,decide_false,cond_false]
  rw [w64 (n := (j : Int) + 2 + 1) (by omega) (by omega),w64 (n := ((alive m j).length : Int) + 1) (by omega) (by omega),alive_succ]
  by_cases hc : cnt m ((j : Int) + 2) = 0
  ·have t2 : ¬ cnt m ((j : Int) + 2) > 0 := by omega
   rw [decide_eq_false t2,cond_false,if_pos hc,List.append_nil]
   simp only [Option.bind_some,Sum.elim_inl]
   congr 4
  ·have t2 : cnt m ((j : Int) + 2) > 0 := by omega
   rw [decide_eq_true t2,cond_true,if_neg hc]
   simp only [Option.bind_some,Sum.elim_inl,List.length_append,List.length_cons,List.length_nil]
   congr 4
theorem counts_eq {K : Nat} {m : Mem} {roots : List Int} {most : Int} (hst : StM K m (roots.flatMap rl)) (hb : m.1.1 = most + 2) (hm : 0 ≤ most ∧ most ≤ 1000000) (hR : roots.length ≤ 1000000) (hu : used m ≤ 2000000) : qM0 m most roots = some (true,m) := by
 have hr : ∀ r ∈ roots,r = 0 ∨ 2 ≤ r ∧ r < most + 2 := fun r hr => by
  by_cases h0 : r = 0
  ·exact .inl h0
  ·have := ql3 hst.wf (qX4 hst.rc (n := r) (List.mem_flatMap.2 ⟨r,hr,by simp [rl,h0]⟩))
   omega
 have hRl : (roots.flatMap rl).length ≤ roots.length := by
  clear hst hr hR
  induction roots with
  | nil => simp
  | cons d D ih =>
   rw [List.flatMap_cons,List.length_append,List.length_cons]
   have : (rl d).length ≤ 1 := by unfold rl; split <;> simp
   omega
 obtain ⟨n,T,w1,c1⟩ := count1_eq (a0 := m) hm hr hR
 obtain ⟨n',D,w2,c2,hD⟩ := count2_eq hst hb hm (by omega) hu c1
 have hall : ∀ x,x ∈ D ↔ x ∈ m.1.2.1.map (·.1) := fun x => by
  refine ⟨fun h => (qT2 (hD x h)).1,fun h => ?_⟩
  have hl : cnt m x ≠ 0 := fun h0 => cnt_not hst.wf h0 h
  obtain ⟨r,hr,hx⟩ := live_from hst hl
  obtain ⟨L,q,_,ht,_⟩ := hst.live r (qX4 hst.rc hr)
  rw [blksM_tr ht] at hx
  have key : ∀ {L : Nat} {r x : Int} {q : List Pr},Tr m L r q → r ∈ D → x ∈ blks L m r → x ∈ D := by
   intro L
   induction L with
   | zero => intro r x q _ hr hx; rw [blks] at hx; have : x = r := by simpa using hx
             subst this; exact hr
   | succ L ih =>
    intro r x q ht hr hx
    rw [blks] at hx
    rcases List.mem_cons.1 hx with rfl | hx
    ·exact hr
    ·obtain ⟨k,hk,hx⟩ := List.mem_flatMap.1 hx
     obtain ⟨L',q',e,ht'⟩ := tr_kids ht hk
     have e' : L = L' := by omega
     subst e'
     exact ih ht' ((c2.mem k).2 (List.mem_append.2 (.inr (List.mem_flatMap.2 ⟨r,hr,hk⟩)))) hx
  exact key ht ((c2.mem r).2 (List.mem_append.2 (.inl hr))) hx
 have hcnt : ∀ k : Int,(((roots.flatMap rl ++ D.flatMap fun b => qm1 (ndOf m b)).count k : Nat) : Int) = cnt m k := fun k => by
  rw [hst.rc k,List.count_append,← inK_flat,inK_same c2.nodup hst.wf.nodup hall]
 obtain ⟨N,rfl⟩ : ∃ N : Nat,most = (N : Int) := ⟨most.toNat,by omega⟩
 have hl' := c2.len
 have w3 := count4_eq (n := n') hst.wf hb (by omega) (by omega) (fun k hk => by
  rw [c2.get (k + 2) (by omega),hcnt]
  rfl)
 unfold qM0
 have hw : IntKind.wrap .i64 ((N : Int) + 2) = (N : Int) + 2 := w64 (by omega) (by omega)
 have hck : 0 ≤ IntKind.wrap .i64 ((N : Int) + 2) ∧ IntKind.wrap .i64 ((N : Int) + 2) ≤ 17592186044416 := by omega
 rw [ck_of hck,Option.bind_some,w1,Option.bind_some]
 simp only [Sum.elim_inl]
 rw [w2,Option.bind_some]
 simp only [Sum.elim_inl]
 rw [w3,Option.bind_some]
 simp only [Sum.elim_inl]
 rw [free_eq hst hu,Option.bind_some]
 have hu2 := alive_all hst.wf hb
 have : used m ≤ N := by
  rw [← hu2]
  unfold alive
  exact Nat.le_trans (List.length_filter_le _ _) (by simp)
 rw [w64 (by omega) (by omega)]
 congr 2
 exact decide_eq_true (by simp only; omega)
end Go.Val
namespace Go.Val
open Go.RowKit Go.Lib
theorem wrap_u64 {n : Nat} (h : n ≤ 1000000) : IntKind.wrap .u64 (n : Int) = (n : Int) := by
 simp only [IntKind.wrap,IntKind.bits,IntKind.signed,Bool.false_and,Bool.false_eq_true,if_false]
 omega
theorem clone_eq {K : Nat} {m : Mem} {R : List Int} {r : Int} {q : List Pr} (h : StM K m R) (hK : K ≤ 1000000000000) (hr : Root m r q) :
  ∃ m',q30 m r = some (0,m') ∧ StM (K + 1) m' (R ++ rl r) ∧ Grow m m' ∧ m'.1.1 = m.1.1 ∧ used m' = used m := by
 by_cases h0 : r = 0
 ·subst h0
  refine ⟨m,by simp [q30],⟨h.wf.mono (by omega),h.live,by simpa [rl] using h.rc⟩,Grow.refl m,rfl,rfl⟩
 ·obtain ⟨L,ht⟩ := root_tr hr h0
  obtain ⟨e1,e2,e3,e4,e5⟩ := inc_st h hK (q72 ht)
  refine ⟨incM m r,?_,by simpa [rl,h0] using e2,e3,e4,e5⟩
  unfold q30
  simp only [h0,decide_false,cond_false,e1,Option.bind_some]
theorem scans_loop {K : Int} {m : Mem} {L : List Int} {n : Int} {q q' : List Pr} (hw : WfM K m) (hL : ∀ x ∈ L,∃ p,Root m x p ∧ Rising p ∧ K24s p ∧ p.length ≤ 1000000 ∧ p = if x = n then q' else q) (hn : L.length ≤ 1000000) :
  qG (V := ((List Int) × Int × Mem)) (O := (((List Int) × Mem) ⊕ Bool)) (fun v2077 =>
            cond (decide (v2077.2.1 < (v2077.1.length : Int))) (
             (gx v2077.1 v2077.2.1).bind fun x2084 =>
             (ql0 v2077.2.2 x2084 allS).bind fun x2087 =>
             (((
              cond (decide (x2084 = n)) (
               some q'
              ) (
               some q
              )
             ) : Option (List ((List UInt8) × ByteArray)))).bind fun o2093 =>
             (qL1 x2087.1 o2093).bind fun x2099 =>
             (((
              cond (decide (x2087.2.1 ≠ 0)) (
               some true
              ) (
               some (!x2099)
              )
             ) : Option Bool)).bind fun o2105 =>
             cond o2105 (
              some (.inr (.inr false))
             ) (
              some (.inl (v2077.1,(IntKind.wrap .i64 (v2077.2.1 + 1)),x2087.2.2))
             )
            ) (
             some (.inr (.inl (v2077.1,v2077.2.2)))
            )
           ) (L,0,m) = some (.inl (L,m)) := by
 refine whileO_is (fun v => ∃ D Z,L = D ++ Z ∧ v = (L,(D.length : Int),m)) (fun v => ((L.length : Int) - v.2.1).toNat) ⟨[],L,rfl,rfl⟩ ?_
 rintro v ⟨D,Z,e1,rfl⟩
 have hl : L.length = D.length + Z.length := by rw [e1]; simp
 match Z with
 | [] =>
  right
  have t : ¬ ((D.length : Int) < (L.length : Int)) := by simp at hl; omega
  simp only [t,decide_false,cond_false]
 | z :: Z' =>
  left
  simp only [List.length_cons] at hl
  have t : ((D.length : Int) < (L.length : Int)) := by omega
  have g0 : gx L (D.length : Int) = some z := by rw [e1]; exact qm2 rfl
  obtain ⟨p,p1,p2,p3,p4,p5⟩ := hL z (by rw [e1]; simp)
  refine ⟨(L,(D.length : Int) + 1,m),?_,⟨D ++ [z],Z',by simp [e1],by simp⟩,by simp only; omega⟩
  simp only [t,decide_true,cond_true,g0,Option.bind_some]
  rw [scan_root hw p1 p2 p4,qv4 p3,w64 (by omega) (by omega)]
  have e2 : (cond (decide (z = n)) (some q') (some q)) = some p := by
   rw [p5]
   by_cases h : z = n <;> simp [h]
  simp only [Option.bind_some,e2]
  rw [same_eq (by omega)]
  simp
theorem clone_loop {K : Nat} {m : Mem} {r n : Int} {q q' : List Pr} {A B : Int} (hst : StM K m (rl r ++ rl n)) (hK : K ≤ 1000000) (hr : Root m r q) (hn : Root m n q') (hA : 0 ≤ A ∧ A ≤ 6) :
  ∃ m' L,qG (V := (Int × Mem × (List Int))) (O := ((Mem × (List Int)) ⊕ Bool)) (fun v154 =>
     cond (decide (v154.1 < A)) (
      (((
       cond (decide (v154.1 ≥ B)) (
        some n
       ) (
        some r
       )
      ) : Option Int)).bind fun o164 =>
      (q30 v154.2.1 o164).bind fun x170 =>
      cond (decide (x170.1 ≠ 0)) (
       some (.inr (.inr false))
      ) (
       (fits (v154.2.2.length + ([o164]).length) 8).bind fun _ =>
       some (.inl ((IntKind.wrap .i64 (v154.1 + 1)),x170.2,(v154.2.2 ++ [o164])))
      )
     ) (
      some (.inr (.inl (v154.2.1,v154.2.2)))
     )
    ) (0,m,[r,n]) = some (.inl (m',L)) ∧ StM (K + 6) m' (L.flatMap rl) ∧ Grow m m' ∧ m'.1.1 = m.1.1 ∧ used m' = used m ∧ (∀ x ∈ L,x = r ∨ x = n) ∧ L.length ≤ 8 := by
 obtain ⟨o,ho,m',L,e,h⟩ := qJ (V := (Int × Mem × (List Int))) (O := ((Mem × (List Int)) ⊕ Bool)) (body := fun v154 =>
     cond (decide (v154.1 < A)) (
      (((
       cond (decide (v154.1 ≥ B)) (
        some n
       ) (
        some r
       )
      ) : Option Int)).bind fun o164 =>
      (q30 v154.2.1 o164).bind fun x170 =>
      cond (decide (x170.1 ≠ 0)) (
       some (.inr (.inr false))
      ) (
       (fits (v154.2.2.length + ([o164]).length) 8).bind fun _ =>
       some (.inl ((IntKind.wrap .i64 (v154.1 + 1)),x170.2,(v154.2.2 ++ [o164])))
      )
     ) (
      some (.inr (.inl (v154.2.1,v154.2.2)))
     )) (fun v => ∃ i : Nat,v.1 = (i : Int) ∧ (i : Int) ≤ A ∧ StM (K + i) v.2.1 (v.2.2.flatMap rl) ∧ Grow m v.2.1 ∧ v.2.1.1.1 = m.1.1 ∧ used v.2.1 = used m ∧ (∀ x ∈ v.2.2,x = r ∨ x = n) ∧ v.2.2.length = i + 2)
    (fun v => (A - v.1).toNat) (fun o => ∃ m' L,o = .inl (m',L) ∧ StM (K + 6) m' (L.flatMap rl) ∧ Grow m m' ∧ m'.1.1 = m.1.1 ∧ used m' = used m ∧ (∀ x ∈ L,x = r ∨ x = n) ∧ L.length ≤ 8) (by
  rintro ⟨i',m2,L⟩ ⟨i,e,h1,h2,h3,h4,h5,h6,h7⟩
  simp only at e h2 h3 h4 h5 h6 h7
  subst e
  by_cases t : (i : Int) < A
  ·left
   simp only [t,decide_true,cond_true]
   obtain ⟨x,hx,hx2⟩ : ∃ x,(cond (decide ((i : Int) ≥ B)) (some n) (some r) : Option Int) = some x ∧ (x = r ∨ x = n) := by
    by_cases h : (i : Int) ≥ B
    ·exact ⟨n,by simp [h],.inr rfl⟩
    ·exact ⟨r,by simp [h],.inl rfl⟩
   rw [hx,Option.bind_some]
   obtain ⟨p,hp⟩ : ∃ p,Root m2 x p := by
    rcases hx2 with rfl | rfl
    ·exact ⟨q,qR3 h3 hr⟩
    ·exact ⟨q',qR3 h3 hn⟩
   obtain ⟨m3,c1,c2,c3,c4,c5⟩ := clone_eq h2 (by omega) hp
   rw [c1,Option.bind_some]
   have hf : fits (L.length + [x].length) 8 = some () := ck_of (by simp; omega)
   simp only [ne_eq,not_true_eq_false,decide_false,cond_false,hf,Option.bind_some]
   rw [w64 (by omega) (by omega)]
   refine ⟨_,rfl,⟨i + 1,by simp,by omega,by simpa [Nat.add_assoc] using c2,h3.trans c3,by simp only; omega,by simp only; omega,?_,by simp; omega⟩,by simp only; omega⟩
   intro y hy
   rcases List.mem_append.1 hy with hy | hy
   ·exact h6 y hy
   ·have : y = x := by simpa using hy
    subst this; exact hx2
  ·right
   simp only [t,decide_false,cond_false]
   exact ⟨_,rfl,m2,L,rfl,⟨h2.wf.mono (by omega),h2.live,h2.rc⟩,h3,h4,h5,h6,by omega⟩) (v := (0,m,[r,n])) ⟨0,rfl,by omega,by simpa using hst,Grow.refl m,rfl,rfl,by simp,rfl⟩
 subst e
 exact ⟨m',L,ho,h⟩
def GoodR (n : Int) (q q' : List Pr) (m : Mem) (x : Int) : Prop := ∃ p,Root m x p ∧ Rising p ∧ K24s p ∧ p.length ≤ 1000000 ∧ p = if x = n then q' else q
theorem drop_loop {K : Nat} {m : Mem} {n a4 : Int} {q q' : List Pr} {L : List Int} (hst : StM K m (L.flatMap rl)) (hK : K ≤ 1000000) (hL : ∀ x ∈ L,GoodR n q q' m x) (h8 : L.length ≤ 8) (hb : m.1.1 = 3002) (hu : used m ≤ 2000000) :
  ∃ m',qG (V := ((List Int) × Int × Mem)) (O := (Mem ⊕ Bool)) (fun v1798 =>
       cond (decide ((v1798.1.length : Int) > 0)) (
        (((
         (ck (decide (0 ≤ (IntKind.wrap .u64 (qv .i64 (IntKind.wrap .i64 (2 * v1798.2.1)) 31))))).bind fun _ =>
         (ck (decide ((v1798.1.length : Int) ≠ 0))).bind fun _ =>
         (gx v1798.1 (Int.tmod (qv .i64 (Int.fdiv a4 (2 ^ (min (IntKind.wrap .u64 (qv .i64 (IntKind.wrap .i64 (2 * v1798.2.1)) 31)).toNat (IntKind.bits .i64)))) 3) (v1798.1.length : Int))).bind fun x1967 =>
         (qj0 v1798.2.2 x1967).bind fun x1970 =>
         cond (decide (x1970.1 ≠ 0)) (
          some (.inr false)
         ) (
          (cutB 0 (Int.tmod (qv .i64 (Int.fdiv a4 (2 ^ (min (IntKind.wrap .u64 (qv .i64 (IntKind.wrap .i64 (2 * v1798.2.1)) 31)).toNat (IntKind.bits .i64)))) 3) (v1798.1.length : Int)) v1798.1.length).bind fun _ =>
          (fits (([] : List Int).length + (qA0 v1798.1 0 (Int.tmod (qv .i64 (Int.fdiv a4 (2 ^ (min (IntKind.wrap .u64 (qv .i64 (IntKind.wrap .i64 (2 * v1798.2.1)) 31)).toNat (IntKind.bits .i64)))) 3) (v1798.1.length : Int))).length) 8).bind fun _ =>
          (cutB (IntKind.wrap .i64 ((Int.tmod (qv .i64 (Int.fdiv a4 (2 ^ (min (IntKind.wrap .u64 (qv .i64 (IntKind.wrap .i64 (2 * v1798.2.1)) 31)).toNat (IntKind.bits .i64)))) 3) (v1798.1.length : Int)) + 1)) (v1798.1.length : Int) v1798.1.length).bind fun _ =>
          (fits ((([] : List Int) ++ (qA0 v1798.1 0 (Int.tmod (qv .i64 (Int.fdiv a4 (2 ^ (min (IntKind.wrap .u64 (qv .i64 (IntKind.wrap .i64 (2 * v1798.2.1)) 31)).toNat (IntKind.bits .i64)))) 3) (v1798.1.length : Int)))).length + (qA0 v1798.1 (IntKind.wrap .i64 ((Int.tmod (qv .i64 (Int.fdiv a4 (2 ^ (min (IntKind.wrap .u64 (qv .i64 (IntKind.wrap .i64 (2 * v1798.2.1)) 31)).toNat (IntKind.bits .i64)))) 3) (v1798.1.length : Int)) + 1)) (v1798.1.length : Int)).length) 8).bind fun _ =>
          (qM0 x1970.2 3000 ((([] : List Int) ++ (qA0 v1798.1 0 (Int.tmod (qv .i64 (Int.fdiv a4 (2 ^ (min (IntKind.wrap .u64 (qv .i64 (IntKind.wrap .i64 (2 * v1798.2.1)) 31)).toNat (IntKind.bits .i64)))) 3) (v1798.1.length : Int)))) ++ (qA0 v1798.1 (IntKind.wrap .i64 ((Int.tmod (qv .i64 (Int.fdiv a4 (2 ^ (min (IntKind.wrap .u64 (qv .i64 (IntKind.wrap .i64 (2 * v1798.2.1)) 31)).toNat (IntKind.bits .i64)))) 3) (v1798.1.length : Int)) + 1)) (v1798.1.length : Int)))).bind fun x1993 =>
          cond (!x1993.1) (
           some (.inr false)
          ) (
           qG (V := ((List Int) × Int × Mem)) (O := (((List Int) × Mem) ⊕ Bool)) (fun v2077 =>
            cond (decide (v2077.2.1 < (v2077.1.length : Int))) (
             (gx v2077.1 v2077.2.1).bind fun x2084 =>
             (ql0 v2077.2.2 x2084 allS).bind fun x2087 =>
             (((
              cond (decide (x2084 = n)) (
               some q'
              ) (
               some q
              )
             ) : Option (List ((List UInt8) × ByteArray)))).bind fun o2093 =>
             (qL1 x2087.1 o2093).bind fun x2099 =>
             (((
              cond (decide (x2087.2.1 ≠ 0)) (
               some true
              ) (
               some (!x2099)
              )
             ) : Option Bool)).bind fun o2105 =>
             cond o2105 (
              some (.inr (.inr false))
             ) (
              some (.inl (v2077.1,(IntKind.wrap .i64 (v2077.2.1 + 1)),x2087.2.2))
             )
            ) (
             some (.inr (.inl (v2077.1,v2077.2.2)))
            )
           ) (((([] : List Int) ++ (qA0 v1798.1 0 (Int.tmod (qv .i64 (Int.fdiv a4 (2 ^ (min (IntKind.wrap .u64 (qv .i64 (IntKind.wrap .i64 (2 * v1798.2.1)) 31)).toNat (IntKind.bits .i64)))) 3) (v1798.1.length : Int)))) ++ (qA0 v1798.1 (IntKind.wrap .i64 ((Int.tmod (qv .i64 (Int.fdiv a4 (2 ^ (min (IntKind.wrap .u64 (qv .i64 (IntKind.wrap .i64 (2 * v1798.2.1)) 31)).toNat (IntKind.bits .i64)))) 3) (v1798.1.length : Int)) + 1)) (v1798.1.length : Int))),0,x1993.2)
          )
         )
        ) : Option (((List Int) × Mem) ⊕ Bool))).bind fun o1958 =>
        Sum.elim (fun (v2120 : ((List Int) × Mem)) =>
         some (.inl (v2120.1,(IntKind.wrap .i64 (v1798.2.1 + 1)),v2120.2))
        ) (fun w2123 =>
         some (.inr (.inr w2123))
        ) o1958
       ) (
        some (.inr (.inl v1798.2.2))
       )
      ) (L,0,m) = some (.inl m') ∧ StM K m' [] ∧ m'.1.1 = 3002 ∧ used m' ≤ 2000000 := by
 obtain ⟨o,ho,m',e,h⟩ := qJ (V := ((List Int) × Int × Mem)) (O := (Mem ⊕ Bool)) (body := (fun v1798 =>
       cond (decide ((v1798.1.length : Int) > 0)) (
        (((
         (ck (decide (0 ≤ (IntKind.wrap .u64 (qv .i64 (IntKind.wrap .i64 (2 * v1798.2.1)) 31))))).bind fun _ =>
         (ck (decide ((v1798.1.length : Int) ≠ 0))).bind fun _ =>
         (gx v1798.1 (Int.tmod (qv .i64 (Int.fdiv a4 (2 ^ (min (IntKind.wrap .u64 (qv .i64 (IntKind.wrap .i64 (2 * v1798.2.1)) 31)).toNat (IntKind.bits .i64)))) 3) (v1798.1.length : Int))).bind fun x1967 =>
         (qj0 v1798.2.2 x1967).bind fun x1970 =>
         cond (decide (x1970.1 ≠ 0)) (
          some (.inr false)
         ) (
          (cutB 0 (Int.tmod (qv .i64 (Int.fdiv a4 (2 ^ (min (IntKind.wrap .u64 (qv .i64 (IntKind.wrap .i64 (2 * v1798.2.1)) 31)).toNat (IntKind.bits .i64)))) 3) (v1798.1.length : Int)) v1798.1.length).bind fun _ =>
          (fits (([] : List Int).length + (qA0 v1798.1 0 (Int.tmod (qv .i64 (Int.fdiv a4 (2 ^ (min (IntKind.wrap .u64 (qv .i64 (IntKind.wrap .i64 (2 * v1798.2.1)) 31)).toNat (IntKind.bits .i64)))) 3) (v1798.1.length : Int))).length) 8).bind fun _ =>
          (cutB (IntKind.wrap .i64 ((Int.tmod (qv .i64 (Int.fdiv a4 (2 ^ (min (IntKind.wrap .u64 (qv .i64 (IntKind.wrap .i64 (2 * v1798.2.1)) 31)).toNat (IntKind.bits .i64)))) 3) (v1798.1.length : Int)) + 1)) (v1798.1.length : Int) v1798.1.length).bind fun _ =>
          (fits ((([] : List Int) ++ (qA0 v1798.1 0 (Int.tmod (qv .i64 (Int.fdiv a4 (2 ^ (min (IntKind.wrap .u64 (qv .i64 (IntKind.wrap .i64 (2 * v1798.2.1)) 31)).toNat (IntKind.bits .i64)))) 3) (v1798.1.length : Int)))).length + (qA0 v1798.1 (IntKind.wrap .i64 ((Int.tmod (qv .i64 (Int.fdiv a4 (2 ^ (min (IntKind.wrap .u64 (qv .i64 (IntKind.wrap .i64 (2 * v1798.2.1)) 31)).toNat (IntKind.bits .i64)))) 3) (v1798.1.length : Int)) + 1)) (v1798.1.length : Int)).length) 8).bind fun _ =>
          (qM0 x1970.2 3000 ((([] : List Int) ++ (qA0 v1798.1 0 (Int.tmod (qv .i64 (Int.fdiv a4 (2 ^ (min (IntKind.wrap .u64 (qv .i64 (IntKind.wrap .i64 (2 * v1798.2.1)) 31)).toNat (IntKind.bits .i64)))) 3) (v1798.1.length : Int)))) ++ (qA0 v1798.1 (IntKind.wrap .i64 ((Int.tmod (qv .i64 (Int.fdiv a4 (2 ^ (min (IntKind.wrap .u64 (qv .i64 (IntKind.wrap .i64 (2 * v1798.2.1)) 31)).toNat (IntKind.bits .i64)))) 3) (v1798.1.length : Int)) + 1)) (v1798.1.length : Int)))).bind fun x1993 =>
          cond (!x1993.1) (
           some (.inr false)
          ) (
           qG (V := ((List Int) × Int × Mem)) (O := (((List Int) × Mem) ⊕ Bool)) (fun v2077 =>
            cond (decide (v2077.2.1 < (v2077.1.length : Int))) (
             (gx v2077.1 v2077.2.1).bind fun x2084 =>
             (ql0 v2077.2.2 x2084 allS).bind fun x2087 =>
             (((
              cond (decide (x2084 = n)) (
               some q'
              ) (
               some q
              )
             ) : Option (List ((List UInt8) × ByteArray)))).bind fun o2093 =>
             (qL1 x2087.1 o2093).bind fun x2099 =>
             (((
              cond (decide (x2087.2.1 ≠ 0)) (
               some true
              ) (
               some (!x2099)
              )
             ) : Option Bool)).bind fun o2105 =>
             cond o2105 (
              some (.inr (.inr false))
             ) (
              some (.inl (v2077.1,(IntKind.wrap .i64 (v2077.2.1 + 1)),x2087.2.2))
             )
            ) (
             some (.inr (.inl (v2077.1,v2077.2.2)))
            )
           ) (((([] : List Int) ++ (qA0 v1798.1 0 (Int.tmod (qv .i64 (Int.fdiv a4 (2 ^ (min (IntKind.wrap .u64 (qv .i64 (IntKind.wrap .i64 (2 * v1798.2.1)) 31)).toNat (IntKind.bits .i64)))) 3) (v1798.1.length : Int)))) ++ (qA0 v1798.1 (IntKind.wrap .i64 ((Int.tmod (qv .i64 (Int.fdiv a4 (2 ^ (min (IntKind.wrap .u64 (qv .i64 (IntKind.wrap .i64 (2 * v1798.2.1)) 31)).toNat (IntKind.bits .i64)))) 3) (v1798.1.length : Int)) + 1)) (v1798.1.length : Int))),0,x1993.2)
          )
         )
        ) : Option (((List Int) × Mem) ⊕ Bool))).bind fun o1958 =>
        Sum.elim (fun (v2120 : ((List Int) × Mem)) =>
         some (.inl (v2120.1,(IntKind.wrap .i64 (v1798.2.1 + 1)),v2120.2))
        ) (fun w2123 =>
         some (.inr (.inr w2123))
        ) o1958
       ) (
        some (.inr (.inl v1798.2.2))
       )
      )) (fun v => ∃ i : Nat,v.2.1 = (i : Int) ∧ i + v.1.length ≤ 8 ∧ StM K v.2.2 (v.1.flatMap rl) ∧ (∀ x ∈ v.1,GoodR n q q' v.2.2 x) ∧ v.2.2.1.1 = 3002 ∧ used v.2.2 ≤ 2000000)
    (fun v => v.1.length) (fun o => ∃ m',o = .inl m' ∧ StM K m' [] ∧ m'.1.1 = 3002 ∧ used m' ≤ 2000000) (by
  rintro ⟨L,i',m⟩ ⟨i,e,h1,h2,h3,h4,h5⟩
  simp only at e h1 h2 h3 h4 h5
  subst e
  by_cases t : (L.length : Int) > 0
  ·left
   simp only [t,decide_true,cond_true]
   have ei : IntKind.wrap .i64 (2 * (i : Int)) = 2 * (i : Int) := w64 (by omega) (by omega)
   obtain ⟨w1,hw1,hw2⟩ := and_le (a := 2 * (i : Int)) (b := 31) (by omega)
   have hw1' : qv .i64 (2 * (i : Int)) 31 = (w1 : Int) := hw1
   have eu : IntKind.wrap .u64 (w1 : Int) = (w1 : Int) := wrap_u64 (by omega)
   rw [ei,hw1',eu]
   obtain ⟨w,hw3,hw4⟩ := and_le (a := Int.fdiv a4 (2 ^ (min ((w1 : Int)).toNat (IntKind.bits .i64)))) (b := 3) (by omega)
   have hw3' : qv .i64 (Int.fdiv a4 (2 ^ (min ((w1 : Int)).toNat (IntKind.bits .i64)))) 3 = (w : Int) := hw3
   rw [hw3']
   obtain ⟨at_,ha,hal⟩ : ∃ a : Nat,Int.tmod (w : Int) (L.length : Int) = (a : Int) ∧ a < L.length := ⟨w % L.length,rfl,Nat.mod_lt _ (by omega)⟩
   rw [ha]
   have hsp : L = L.take at_ ++ L[at_] :: L.drop (at_ + 1) := by simp
   have e9 : IntKind.wrap .i64 ((at_ : Int) + 1) = ((at_ + 1 : Nat) : Int) := by rw [w64 (by omega) (by omega)]; rfl
   rw [e9]
   have p1 : qA0 L 0 (at_ : Int) = L.take at_ := by simp [qA0]
   have p2 : qA0 L ((at_ + 1 : Nat) : Int) (L.length : Int) = L.drop (at_ + 1) := by simp [qA0]
   have k1 : (0 : Int) ≤ (w1 : Int) := by omega
   have k2 : (L.length : Int) ≠ 0 := by omega
   have g0 : gx L (at_ : Int) = some L[at_] := gx_nat hal
   obtain ⟨p,r1,r2,r3,r4,r5⟩ := h3 L[at_] (List.getElem_mem _)
   have hst' : StM K m (rl L[at_] ++ (L.take at_ ++ L.drop (at_ + 1)).flatMap rl) := h2.perm (by
    conv => rhs; rw [hsp]
    simp only [List.flatMap_append,List.flatMap_cons]
    rw [← List.append_assoc,← List.append_assoc]
    exact List.Perm.append_right _ List.perm_append_comm)
   obtain ⟨m1,c1,c2,c3,c4,c5⟩ := release_eq r1 hst' (by omega) r4
   have q1 : cutB 0 (at_ : Int) L.length = some () := by unfold cutB; exact ck_of (by omega)
   have q2 : cutB ((at_ + 1 : Nat) : Int) (L.length : Int) L.length = some () := by unfold cutB; exact ck_of (by omega)
   have ltk : (L.take at_).length = at_ := by simp; omega
   have q3 : fits (([] : List Int).length + (L.take at_).length) 8 = some () := ck_of (by rw [ltk,List.length_nil]; omega)
   have q4 : fits ((([] : List Int) ++ L.take at_).length + (L.drop (at_ + 1)).length) 8 = some () := ck_of (by simp; omega)
   rw [p1,p2,ck_of k1,Option.bind_some,ck_of k2,Option.bind_some,g0,Option.bind_some,c1,Option.bind_some]
   simp only [ne_eq,not_true_eq_false,decide_false,cond_false]
   rw [q1,Option.bind_some,q3,Option.bind_some,q2,Option.bind_some,q4,Option.bind_some,List.nil_append]
   rw [counts_eq (roots := L.take at_ ++ L.drop (at_ + 1)) c2 (by rw [c4]; exact h4) (by omega) (by simp; omega) (by omega)]
   simp only [Option.bind_some,Bool.not_true,cond_false]
   have hG : ∀ x ∈ L.take at_ ++ L.drop (at_ + 1),GoodR n q q' m1 x := fun x hx => by
    obtain ⟨p,r1,r2⟩ := h3 x (by
     rcases List.mem_append.1 hx with h | h
     ·exact List.mem_of_mem_take h
     ·exact List.mem_of_mem_drop h)
    exact ⟨p,root_shrink c3 c2.rc (fun h0 => qX4 c2.rc (List.mem_flatMap.2 ⟨x,hx,by simp [rl,h0]⟩)) r1,r2⟩
   rw [scans_loop c2.wf hG (by simp; omega)]
   simp only [Option.bind_some,Sum.elim_inl]
   rw [w64 (by omega) (by omega)]
   refine ⟨_,rfl,⟨i + 1,by simp,by simp; omega,c2,hG,by rw [c4]; exact h4,by simp only; omega⟩,by simp; omega⟩
  ·right
   have : L = [] := List.eq_nil_of_length_eq_zero (by omega)
   subst this
   exact ⟨_,rfl,m,rfl,h2,h4,h5⟩) (v := (L,0,m)) ⟨0,rfl,by simpa using h8,hst,hL,hb,hu⟩
 subst e
 exact ⟨m',ho,h⟩
theorem treeClones_true (l more : List Cg) (a b order : Int) (hl : K24s l) (hm : K24s more) : qA1 l more a b order = some true := by
 unfold qA1
 obtain ⟨m,r,c,h1,h2⟩ := grown_ex hl
 generalize qR1 [] (fewC l 80 40) = q at h2
 rw [shown_eq,h1]
 simp only [Option.bind_some,Bool.not_true,cond_false]
 rw [show qX1 more 30 40 = _ from lawfew_eq (most := 30) (bytes := 40) (by omega)]
 simp only [Option.bind_some]
 have hlq := h2.len
 have hc := h2.cost
 have hu := h2.used
 have hml := fewC_len more 30 40
 obtain ⟨n,m1,c1,b1,b2,b3,b4,b5,b6,b7,_⟩ := apply_eq (l := fewC more 30 40) h2.st (by omega) (by omega) h2.root h2.ris h2.short (fewC_short more 30) (by omega) (by rw [h2.blk]; omega)
 rw [b1]
 simp only [Option.bind_some,ne_eq,not_true_eq_false,decide_false,cond_false]
 rw [show qh2 = some allS from rfl]
 simp only [Option.bind_some]
 have hk2 : K24s (qR1 q (fewC more 30 40)) := applyP_k24 h2.ris h2.k24 (fewC_k24 hm)
 have hr2 : Rising (qR1 q (fewC more 30 40)) := qG0 _ _
 have hrt : Root m1 r q := qR3 b3 h2.root
 have hln : (qR1 q (fewC more 30 40)).length ≤ 1000 := by have := qK3 q (fewC more 30 40); omega
 generalize qR1 q (fewC more 30 40) = q' at b2 b7 hk2 hr2 hln
 rw [scan_root b4.wf hrt h2.ris (by omega),qv4 h2.k24]
 simp only [Option.bind_some]
 rw [scan_root b4.wf b2 hr2 (by omega),qv4 hk2]
 simp only [Option.bind_some]
 obtain ⟨wa,hwa,hwa2⟩ := and_le (a := a) (b := 3) (by omega)
 have hwa' : qv .i64 a 3 = (wa : Int) := hwa
 obtain ⟨wb,hwb,hwb2⟩ := and_le (a := b) (b := 3) (by omega)
 have hwb' : qv .i64 b 3 = (wb : Int) := hwb
 rw [hwa',hwb',w64 (n := (wa : Int) + (wb : Int)) (by omega) (by omega)]
 obtain ⟨m2,L,d1,d2,d3,d4,d5,d6,d7⟩ := clone_loop (A := (wa : Int) + (wb : Int)) (B := (wa : Int)) b4 (by omega) hrt b2 (by omega)
 rw [d1]
 simp only [Option.bind_some,Sum.elim_inl]
 have hblk : m2.1.1 = 3002 := by rw [d4,b5]; exact h2.blk
 rw [counts_eq d2 (by rw [hblk]; rfl) (by omega) (by omega) (by omega)]
 simp only [Option.bind_some,Bool.not_true,cond_false]
 have hG : ∀ x ∈ L,GoodR n q q' m2 x := fun x hx => by
  by_cases e : x = n
  ·exact ⟨q',by rw [e]; exact qR3 d3 b2,hr2,hk2,by omega,by rw [if_pos e]⟩
  ·rcases d6 x hx with e2 | e2
   ·exact ⟨q,by rw [e2]; exact qR3 d3 hrt,h2.ris,h2.k24,by omega,by rw [if_neg e]⟩
   ·exact absurd e2 e
 obtain ⟨m3,f1,f2,f3,f4⟩ := drop_loop (a4 := order) d2 (by omega) hG d7 hblk (by omega)
 rw [f1]
 simp only [Option.bind_some,Sum.elim_inl,cond_true]
 rw [free_eq f2 f4,used_nil f2]
 simp only [Option.bind_some,f3]
 have hrel := release_eq (r := 0) (q := []) (m := m3) (R := []) (.inl ⟨rfl,rfl⟩) (by simpa [rl] using f2) (by omega) (by simp)
 obtain ⟨m4,g1,_⟩ := hrel
 have hcl : q30 m3 0 = some (0,m3) := by simp [q30]
 simp [hcl,g1]
end Go.Val
