/- Walks of the program's functions,printed. -/
import Derived.Test.YthipaajmgfnagaaGreatDoorWf
import Derived.Test.YthipaajmgfnagaaGreatDoorHe2
set_option linter.unusedSectionVars false
set_option linter.unusedVariables false
set_option linter.unusedSimpArgs false
set_option maxRecDepth 100000
namespace Go.Val
open Go.RowKit Go.Proofs
section
variable [NoDrw]
noncomputable def qA0 (a0 : (List (B8 × ByteArray))) (a1 : (B8 × B8 × Bool)) : Option ((List (B8 × ByteArray)) × Int) := (qK0 a0 a1.1).bind fun x0 => (((cond (!a1.2.2) ((qK0 a0 a1.2.1).bind fun x1 => some x1.1) (some (a0.length : Int))) : Option Int)).bind fun o0 => (cutB x0.1 (max x0.1 o0) a0.length).bind fun _ =>
 (q91 (qm0 a0 x0.1 (max x0.1 o0))).bind fun x2 => some (x2,0)
noncomputable def qt1 (a0 : List (B8 × ByteArray)) : Option (List (B8 × ByteArray)) := (qq3 a0).bind fun x0 => some x0
noncomputable def qn0 (a0 : VwT) : Option ((List (B8 × B8 × Bool)) × VwT) := (q10 a0.2.2.1).bind fun x0 => some (x0,(a0.1,a0.2.1,a0.2.2.1,a0.2.2.2))
noncomputable def q40 (a0 : VwT) (a1 : List UInt8) : Option (ByteArray × Bool × Int × VwT) := cond ((mget a0.2.1 a1).isSome) (some (((mget a0.2.1 a1).getD ((List.replicate 24 0),(ByteArray.mk #[]),false)).2.1,(!((mget a0.2.1 a1).getD ((List.replicate 24 0),(ByteArray.mk #[]),false)).2.2),0,(a0.1,a0.2.1,a0.2.2.1,a0.2.2.2))) ((qP4 a1).bind fun x0 =>
  (qc0 (a0.1,a0.2.1,a0.2.2.1,a0.2.2.2) x0).bind fun x1 => (qX0 x1.1 a1).bind fun x2 => cond (decide (x2.2.2 ≠ 0)) (some ((ByteArray.mk #[]),false,x2.2.2,(x1.1,x1.2.1,x1.2.2.1,x1.2.2.2))) (some (x2.1,x2.2.1,0,(x1.1,x1.2.1,x1.2.2.1,x1.2.2.2))))
noncomputable def qJ (a0 : VwT) : Option ((List (B8 × ByteArray × Bool)) × VwT) := (fits a0.2.1.length 48).bind fun _ => forOrd a0.2.1 (fun x0 => ((qj2 ([(x0.map fun p => p.2)])).bind fun x1 => some (x1,(a0.1,a0.2.1,a0.2.2.1,a0.2.2.2))))
noncomputable def qd0 (a0 : VwT) (a1 : (B8 × B8 × Bool)) : Option ((List (B8 × ByteArray)) × Int × VwT) := (qc0 a0 a1).bind fun x0 => (qA0 x0.1 a1).bind fun x1 => cond (decide (x1.2 ≠ 0)) (some ([],x1.2,(x0.1,x0.2.1,x0.2.2.1,x0.2.2.2))) (
  forOrd x0.2.1 (fun x2 => (List.foldlM (m := Option) (fun (v0 : (List (B8 × ByteArray × Bool))) (x3 : (B8 × (B8 × ByteArray × Bool))) => (((key_In a1 x3.1).bind fun x4 => cond x4 ((fits (v0.length + ([x3.2]).length) 48).bind fun _ => some (v0 ++ [x3.2])) (some v0)) : Option (List (B8 × ByteArray × Bool)))) ([]) x2).bind fun (v1 : (List (B8 × ByteArray × Bool))) =>
   (q82 x1.1 v1).bind fun x5 => some (x5,0,(x0.1,x0.2.1,x0.2.2.1,x0.2.2.2))))
noncomputable def qK1 : Option VwT := ((((qt1 ([])).bind fun x0 => some x0) : Option (List (B8 × ByteArray)))).bind fun o0 => some (o0,[],[],[])
theorem view_Plain_Scan_ok {a0 : (List (B8 × ByteArray))} {a1 : (B8 × B8 × Bool)} {r : ((List (B8 × ByteArray)) × Int)} (h : qA0 a0 a1 = some r) : FnOk Tryz.prog 201 [.d (qE4 a0),.d (eSp a1)] 0 (lk []) (fun rr oo => rr = .tup [.d (eSP_ r.1),.d (eErr r.2)] ∧ oo = lk []) := by
 refine fnO Tryz.func201 rfl rfl (cwP ?_)
 unfold qA0 at h
 refine cwS (cwR (
  .c (uX 0 rfl)<|
  .c (uA rfl)<|
  .c (uA rfl)<|.nil rfl) ?_)
 have ⟨x0,hx0,h0⟩ := bdS (x := qK0 a0 a1.1) h
 refine cwS (cwRA mixed (by kernel_rfl) (
  .c (uM rfl)<|
  .c (o_nilA rfl rfl .no rfl)<|
  .c (qT4 rfl rfl .no rfl qG4 (by decide) rfl rfl)<|
  .c (o_ld rfl rfl .no rfl ta35 rfl rfl)<|
  .c (uF rfl qq2 rfl)<|
  .c (uL [0] rfl ta39 rfl)<|
  .c (qj rfl rfl .no Tryz.func202 rfl rfl (qg3 hx0) (.cons rfl .d (.cons rfl .d .nil)) ⟨trivial,trivial,trivial⟩ (.inl rfl))<|
  .c (uM rfl)<|
  .c (uE rfl)<|
  .c (uE rfl)<|
  .c (uA rfl)<|
  .c (uA rfl)<|.nil rfl) (by kernel_rfl) ?_)
 refine cwS (cwR (
  .c (uM rfl)<|
  .c (o_nilA rfl rfl .no rfl)<|
  .c (qT4 rfl rfl .no rfl qG4 (by decide) rfl rfl)<|
  .c (o_ld rfl rfl .no rfl ta35 rfl rfl)<|
  .c (qo0 (enc := ePr) (xs := a0) rfl rfl .no rfl sl35)<|
  .c (uA rfl)<|.nil rfl) ?_)
 have ⟨o0,hj0,h1⟩ := bdS h0
 refine cwJ (fun (z : Int) => St.of [(0,.d (.at (ePl a0))),(6,.d (eint x0.1)),(8,.d (eint z))] []) (fun (z : Int) => o0 = z) ?_ ?_
 ·intro v0 hv0; subst hv0
  have ⟨x1,hx1,h2⟩ := bdS h1
  have hx1g := qE hx1
  have ⟨x2,hx2,h3⟩ := bdS (x := q91 (qm0 a0 x0.1 (max x0.1 o0))) h2
  refine cwS (cwR (
   .c (uM rfl)<|
   .c (o_nilA rfl rfl .no rfl)<|
   .c (qT4 rfl rfl .no rfl qG4 (by decide) rfl rfl)<|
   .c (o_ld rfl rfl .no rfl ta35 rfl rfl)<|
   .c (uM rfl)<|
   .c (uM rfl)<|
   .c (uM rfl)<|
   .c (o_max rfl rfl .no rfl rfl)<|
   .c (o_slM (enc := ePr) (xs := a0) rfl rfl .no rfl sl35 sz47 (.val rfl hx1g.1) (.val rfl hx1g.2.1) hx1g.2.2.1 hx1g.2.2.2)<|
   .c (qd2 1 rfl rfl .no Tryz.func203 rfl rfl (slices_Clone203_ok hx2) (.cons rfl .d .nil) ⟨trivial,trivial⟩ rfl (.inl rfl))<|
   .c (uA rfl)<|
   .c (uA rfl)<|.nil rfl) ?_)
  have heq := ((sJ h3)).symm
  subst heq
  exact qe ⟨_,(show Leads _ _ (St.of [(4,.d (eSP_ x2)),(5,.d (eErr 0))] []) from .w (wkF ⟨⟨_,rfl,.frz rfl rfl rfl⟩,wD rfl,trivial⟩ trivial qd)),.inr rfl,_,res2 rfl rfl rfl,rfl,rfl⟩
 refine cwS (cwR (
  .c (uF rfl qO4 rfl)<|
  .c (uL [2] rfl ta4 rfl)<|
  .c (uT rfl)<|.nil rfl) ?_)
 rcases cdS hj0 with ⟨hc0,h4⟩ | ⟨hc0,h5⟩
 ·refine cwT rfl hc0 ?_
  have ⟨x3,hx3,h6⟩ := bdS (x := qK0 a0 a1.2.1) h4
  refine cwRA mixed (by kernel_rfl) (
   .c (uM rfl)<|
   .c (o_nilA rfl rfl .no rfl)<|
   .c (qT4 rfl rfl .no rfl qG4 (by decide) rfl rfl)<|
   .c (o_ld rfl rfl .no rfl ta35 rfl rfl)<|
   .c (uF rfl qm4 rfl)<|
   .c (uL [1] rfl ta39 rfl)<|
   .c (qj rfl rfl .no Tryz.func202 rfl rfl (qg3 hx3) (.cons rfl .d (.cons rfl .d .nil)) ⟨trivial,trivial,trivial⟩ (.inl rfl))<|
   .c (uM rfl)<|
   .c (uE rfl)<|
   .c (uE rfl)<|
   .c (uA rfl)<|.nil rfl) (by kernel_rfl) ?_
  exact ⟨x3.1,(sJ h6),.w (wkF ⟨wD rfl,wD rfl,wD rfl,trivial⟩ trivial qd)⟩
 refine cwF rfl hc0 ?_
 refine cwK ?_
 exact ⟨(a0.length : Int),(sJ h5),.w (wkF ⟨wD rfl,wD rfl,wD rfl,trivial⟩ trivial qd)⟩
theorem view_NewPlain_ok {a0 : List (B8 × ByteArray)} {r : (List (B8 × ByteArray))} (h : qt1 a0 = some r) : FnOk Tryz.prog 27 [.d (eSP_ a0)] 0 (lk []) (fun rr oo => rr = .d (qE4 r) ∧ oo = lk []) := by
 refine fnO Tryz.func27 rfl rfl (cwP ?_)
 unfold qt1 at h
 refine cwS (cwR (
  .c (uA rfl)<|.nil rfl) ?_)
 have ⟨x0,hx0,h0⟩ := bdS (x := qq3 a0) h
 refine cwS (cwR (
  .c (uM rfl)<|
  .c (qj rfl rfl .no Tryz.func60 rfl rfl (delta_Map_ok hx0) (.cons rfl .d .nil) ⟨trivial,trivial⟩ (.inl rfl))<|
  .c (qL4 (ds := [eSP_ x0]) rfl rfl .no zs113 rfl pl113 (.cons rfl rfl rfl rfl rfl rfl rfl .nil))<|
  .c (uX 0 rfl)<|
  .c (uA rfl)<|.nil rfl) ?_)
 have heq := ((sJ h0)).symm
 subst heq
 exact qe ⟨_,(show Leads _ _ (St.of [(2,.d (.at (ePl x0)))] []) from .w (wkF ⟨⟨_,rfl,.pin rfl rfl⟩,trivial⟩ trivial qd)),.inr rfl,_,res1 rfl rfl,rfl,rfl⟩
theorem view_View_Reads_ok {a0 : VwT} {r : ((List (B8 × B8 × Bool)) × VwT)} (h : qn0 a0 = some r) : FnOk Tryz.prog 24 [.ptr 0 0] 1 (lk [(0,.own (oVV a0))]) (fun rr oo => rr = .arr 1 0 ∧ oo = lk [(0,.own (oVV r.2)),(1,.arr 0 49 (r.1.map eSp))]) := by
 refine fnO Tryz.func24 rfl rfl (cwP ?_)
 unfold qn0 at h
 refine cwS (cwR (
  .c (uA rfl)<|.nil rfl) ?_)
 refine cwL (lOp (o := 0) (y := .st [.ifc 71 (.d (.at (ePl a0.1))),.map 4,.arr 2 0,.arr 3 0]) (news := [(4,.map 0 (mD eK eCg a0.2.1)),(2,.arr 0 49 (a0.2.2.1.map eSp)),(3,.arr 0 1 (a0.2.2.2.map eMKC))]) rfl (.st (.cons (.av rfl) (.cons (.map rfl) (.cons (.arr rfl) (.cons (.arr rfl) .nil))))) rfl rfl ⟨rfl,rfl,rfl,trivial⟩) ?_
 refine cwW (wkF (l := [(0,.ptr 0 0)]) (m := [(0,.box (.st [.ifc 71 (.d (.at (ePl a0.1))),.map 4,.arr 2 0,.arr 3 0])),(2,.arr 0 49 (a0.2.2.1.map eSp)),(3,.arr 0 1 (a0.2.2.2.map eMKC)),(4,.map 0 (mD eK eCg a0.2.1))]) ⟨⟨_,rfl,.ptr rfl rfl⟩,trivial⟩ ⟨.box rfl (.st (.cons (.ifc (.d rfl)) (.cons (.map rfl rfl) (.cons (.arr rfl rfl) (.cons (.arr rfl rfl) .nil))))),.arr rfl rfl,.arr rfl rfl,.map rfl rfl,trivial⟩ (qq rfl)) ?_
 have ⟨x0,hx0,h0⟩ := bdS (x := q10 a0.2.2.1) h
 refine cwS (cwR (
  .c (uM rfl)<|
  .c (uP rfl)<|
  .c (uF rfl fld76_2 rfl)<|
  .c (uL [2] rfl ta59 rfl)<|
  .c (qd2 1 rfl rfl .no Tryz.func55 rfl rfl (q23 hx0) (.cons rfl (.arrM rfl) .nil) ⟨trivial,trivial⟩ rfl (.inr ⟨trivial,(qr3 fun _ => (qs4 _))⟩))<|
  .c (uA rfl)<|.nil rfl) ?_)
 have heq := ((sJ h0)).symm
 subst heq
 exact qe ⟨_,(show Leads _ _ (St.of [(2,.arr 1 0)] [(0,.own (oVV (a0.1,a0.2.1,a0.2.2.1,a0.2.2.2))),(1,.arr 0 49 (x0.map eSp))]) from .trans (lPk (o := 0) (y := .st [.ifc 71 (.d (.at (ePl a0.1))),.map 4,.arr 2 0,.arr 3 0]) (x := oVV (a0.1,a0.2.1,a0.2.2.1,a0.2.2.2)) (l := [(2,.arr 1 0)]) (m := [(0,.own (oVV (a0.1,a0.2.1,a0.2.2.1,a0.2.2.2))),(1,.arr 0 49 (x0.map eSp))]) rfl (.st (.cons (.av rfl) (.cons (.map rfl) (.cons (.arr rfl) (.cons (.arr rfl) .nil))))) rfl rfl ⟨⟨rfl,(by simp [AV.live,AV.lives,lk,Nat.beq])⟩,trivial⟩ ⟨.inl rfl,(.inr ⟨rfl,trivial⟩),trivial⟩ rfl (OD.dat_live (oVV_d _)) ⟨rfl,rfl,rfl,trivial⟩ (qq rfl)) (.w (wkF ⟨⟨_,rfl,.arr rfl rfl⟩,trivial⟩ ⟨.own rfl (.of_eq rfl (oVV_d _)),.arr rfl rfl,trivial⟩ (qq rfl)))),.inr rfl,_,res1 rfl rfl,rfl,rfl⟩
theorem view_View_Get_ok {a0 : VwT} {a1 : List UInt8} {r : (ByteArray × Bool × Int × VwT)} (h : q40 a0 a1 = some r) : FnOk Tryz.prog 33 [.ptr 0 0,.d (eK a1)] 1 (lk [(0,.own (oVV a0))]) (fun rr oo => rr = .tup [.d (eStr r.1),.d (qz r.2.1),.d (eErr r.2.2.1)] ∧ oo = lk [(0,.own (oVV r.2.2.2))]) := by
 refine fnO Tryz.func33 rfl rfl (cwP ?_)
 unfold q40 at h
 refine cwS (cwR (
  .c (uX 1 rfl)<|
  .c (uA rfl)<|
  .c (uA rfl)<|
  .c (uA rfl)<|.nil rfl) ?_)
 refine cwS ?_
 refine cwL (lOp (o := 0) (y := .st [.ifc 71 (.d (.at (ePl a0.1))),.map 2,.arr 3 0,.arr 4 0]) (news := [(2,.map 0 (mD eK eCg a0.2.1)),(3,.arr 0 49 (a0.2.2.1.map eSp)),(4,.arr 0 1 (a0.2.2.2.map eMKC))]) rfl (.st (.cons (.av rfl) (.cons (.map rfl) (.cons (.arr rfl) (.cons (.arr rfl) .nil))))) rfl rfl ⟨rfl,rfl,rfl,trivial⟩) ?_
 refine cwW (wkF (l := [(0,.ptr 0 0),(3,.ptr 1 0)]) (m := [(0,.box (.st [.ifc 71 (.d (.at (ePl a0.1))),.map 2,.arr 3 0,.arr 4 0])),(1,.box (.d (eK a1))),(2,.map 0 (mD eK eCg a0.2.1)),(3,.arr 0 49 (a0.2.2.1.map eSp)),(4,.arr 0 1 (a0.2.2.2.map eMKC))]) ⟨⟨_,rfl,.ptr rfl rfl⟩,⟨_,rfl,.ptr rfl rfl⟩,trivial⟩ ⟨.box rfl (.st (.cons (.ifc (.d rfl)) (.cons (.map rfl rfl) (.cons (.arr rfl rfl) (.cons (.arr rfl rfl) .nil))))),.box rfl (.d rfl),.map rfl rfl,.arr rfl rfl,.arr rfl rfl,trivial⟩ (qq rfl)) ?_
 refine cwS (cwRA mixed (by kernel_rfl) (
  .c (uM rfl)<|
  .c (uP rfl)<|
  .c (uF rfl fld76_1 rfl)<|
  .c (uL [1] rfl ta73 rfl)<|
  .c (uL [] rfl ta39 rfl)<|
  .c (o_mapget (ek := eK) (ev := eCg) (m := a0.2.1) a1 ((List.replicate 24 0),(ByteArray.mk #[]),false) rfl rfl .no rfl rfl rfl mp73 kl39 ze88 rfl rfl)<|
  .c (uM rfl)<|
  .c (uE rfl)<|
  .c (uE rfl)<|
  .c (qm 5 rfl rfl .no ze88 rfl)<|
  .c (uS [] rfl sz88 rfl)<|
  .c (uA rfl)<|.nil rfl) (by kernel_rfl) ?_)
 refine cwS (cwR (
  .c (uM rfl)<|.nil rfl) ?_)
 rcases cdS h with ⟨hc0,h0⟩ | ⟨hc0,h1⟩
 ·refine cwT rfl hc0 ?_
  refine cwS (cwRA mixed (by kernel_rfl) (
   .c (uF rfl fld88_1 rfl)<|
   .c (uL [1] rfl ta9 rfl)<|
   .c (uF rfl fld88_2 rfl)<|
   .c (uL [2] rfl ta4 rfl)<|
   .c (uT rfl)<|
   .c (uA rfl)<|
   .c (uA rfl)<|
   .c (uA rfl)<|.nil rfl) (by kernel_rfl) ?_)
  have heq := ((sJ h0)).symm
  subst heq
  exact qe ⟨_,(show Leads _ _ (St.of [(4,.d (eStr ((mget a0.2.1 a1).getD ((List.replicate 24 0),(ByteArray.mk #[]),false)).2.1)),(5,.d (qz (!((mget a0.2.1 a1).getD ((List.replicate 24 0),(ByteArray.mk #[]),false)).2.2))),(6,.d (eErr 0))] [(0,.own (oVV (a0.1,a0.2.1,a0.2.2.1,a0.2.2.2)))]) from .trans (lPk (o := 0) (y := .st [.ifc 71 (.d (.at (ePl a0.1))),.map 2,.arr 3 0,.arr 4 0]) (x := oVV (a0.1,a0.2.1,a0.2.2.1,a0.2.2.2)) (l := [(4,.d (eStr ((mget a0.2.1 a1).getD ((List.replicate 24 0),(ByteArray.mk #[]),false)).2.1)),(5,.d (qz (!((mget a0.2.1 a1).getD ((List.replicate 24 0),(ByteArray.mk #[]),false)).2.2))),(6,.d (eint 0))]) (m := [(0,.own (oVV (a0.1,a0.2.1,a0.2.2.1,a0.2.2.2)))]) rfl (.st (.cons (.av rfl) (.cons (.map rfl) (.cons (.arr rfl) (.cons (.arr rfl) .nil))))) rfl rfl ⟨⟨rfl,trivial⟩,⟨rfl,trivial⟩,⟨rfl,trivial⟩,trivial⟩ ⟨.inl rfl,trivial⟩ rfl (OD.dat_live (oVV_d _)) ⟨rfl,rfl,rfl,trivial⟩ (qq rfl)) (.w (wkF ⟨wD rfl,wD rfl,wD rfl,trivial⟩ ⟨.own rfl (.of_eq rfl (oVV_d _)),trivial⟩ (qq rfl)))),.inr rfl,_,res3 rfl rfl rfl rfl,rfl,rfl⟩
 refine cwF rfl hc0 ?_
 refine cwK ?_
 refine cwL (lPk (o := 0) (y := .st [.ifc 71 (.d (.at (ePl a0.1))),.map 2,.arr 3 0,.arr 4 0]) (x := oVV (a0.1,a0.2.1,a0.2.2.1,a0.2.2.2)) (l := [(0,.ptr 0 0),(3,.ptr 1 0)]) (m := [(0,.own (oVV (a0.1,a0.2.1,a0.2.2.1,a0.2.2.2))),(1,.box (.d (eK a1)))]) rfl (.st (.cons (.av rfl) (.cons (.map rfl) (.cons (.arr rfl) (.cons (.arr rfl) .nil))))) rfl rfl ⟨⟨rfl,(by simp [AV.live,AV.lives,lk,Nat.beq])⟩,⟨rfl,(by simp [AV.live,AV.lives,lk,Nat.beq])⟩,trivial⟩ ⟨.inl rfl,(.inr ⟨rfl,trivial⟩),trivial⟩ rfl (OD.dat_live (oVV_d _)) ⟨rfl,rfl,rfl,trivial⟩ (qq rfl)) ?_
 have ⟨x0,hx0,h2⟩ := bdS (x := qP4 a1) h1
 have ⟨x1,hx1,h3⟩ := bdS (x := qc0 (a0.1,a0.2.1,a0.2.2.1,a0.2.2.2) x0) h2
 refine cwS (cwR (
  .c (uM rfl)<|
  .c (uL [] rfl ta39 rfl)<|
  .c (qj rfl rfl .no Tryz.func65 rfl rfl (key_One_ok hx0) (.cons rfl .d .nil) ⟨trivial,trivial⟩ (.inl rfl))<|
  .c (qC (fun _ => 0) rfl rfl .no Tryz.func35 rfl rfl (q73 hx1) (.cons rfl (.p rfl) (.cons rfl .d .nil)) (q60 rfl ⟨(by simp [AV.live,lk,Nat.beq]),trivial,trivial⟩ rfl (OD.dat_live (oVV_d _)) (by simp)) (.inl rfl))<|.nil rfl) ?_)
 refine cwL (lOp (o := 0) (y := .st [.ifc 71 (.d (.at (ePl x1.1))),.map 6,.arr 7 0,.arr 8 0]) (news := [(6,.map 0 (mD eK eCg x1.2.1)),(7,.arr 0 49 (x1.2.2.1.map eSp)),(8,.arr 0 1 (x1.2.2.2.map eMKC))]) rfl (.st (.cons (.av rfl) (.cons (.map rfl) (.cons (.arr rfl) (.cons (.arr rfl) .nil))))) rfl rfl ⟨rfl,rfl,rfl,trivial⟩) ?_
 refine cwW (wkF (l := [(0,.ptr 0 0),(3,.ptr 1 0)]) (m := [(0,.box (.st [.ifc 71 (.d (.at (ePl x1.1))),.map 6,.arr 7 0,.arr 8 0])),(1,.box (.d (eK a1))),(6,.map 0 (mD eK eCg x1.2.1)),(7,.arr 0 49 (x1.2.2.1.map eSp)),(8,.arr 0 1 (x1.2.2.2.map eMKC))]) ⟨⟨_,rfl,.ptr rfl rfl⟩,⟨_,rfl,.ptr rfl rfl⟩,trivial⟩ ⟨.box rfl (.st (.cons (.ifc (.d rfl)) (.cons (.map rfl rfl) (.cons (.arr rfl rfl) (.cons (.arr rfl rfl) .nil))))),.box rfl (.d rfl),.map rfl rfl,.arr rfl rfl,.arr rfl rfl,trivial⟩ (qq rfl)) ?_
 have ⟨x2,hx2,h4⟩ := bdS (x := qX0 x1.1 a1) h3
 refine cwS (cwRA mixed (by kernel_rfl) (
  .c (uM rfl)<|
  .c (uP rfl)<|
  .c (uF rfl fld76_0 rfl)<|
  .c (uL [0] rfl ta70 rfl)<|
  .c (uL [] rfl ta39 rfl)<|
  .c (o_inv (fun o => o) rfl rfl .no rfl Tryz.func199 rfl rfl rfl hm71_Get (view_Plain_Get_ok hx2) (.cons rfl .d (.cons rfl .d .nil)) (by decide) (callIn0 ⟨trivial,trivial,trivial⟩) (.inl rfl))<|
  .c (uM rfl)<|
  .c (uE rfl)<|
  .c (uE rfl)<|
  .c (uE rfl)<|
  .c (uA rfl)<|
  .c (uA rfl)<|
  .c (uA rfl)<|.nil rfl) (by kernel_rfl) ?_)
 refine cwS ?_
 refine cwS (cwR (
  .c (uM rfl)<|
  .c (uB rfl (b_neq _ _) rfl)<|.nil rfl) ?_)
 rcases cdS h4 with ⟨hc1,h5⟩ | ⟨hc1,h6⟩
 ·refine cwT rfl hc1 ?_
  refine cwS (cwR (
   .c (uM rfl)<|
   .c (uA rfl)<|
   .c (uA rfl)<|
   .c (uA rfl)<|.nil rfl) ?_)
  have heq := ((sJ h5)).symm
  subst heq
  exact qe ⟨_,(show Leads _ _ (St.of [(4,.d (eStr (ByteArray.mk #[]))),(5,.d (qz false)),(6,.d (eErr x2.2.2))] [(0,.own (oVV (x1.1,x1.2.1,x1.2.2.1,x1.2.2.2)))]) from .trans (lPk (o := 0) (y := .st [.ifc 71 (.d (.at (ePl x1.1))),.map 6,.arr 7 0,.arr 8 0]) (x := oVV (x1.1,x1.2.1,x1.2.2.1,x1.2.2.2)) (l := [(4,.d (eStr (ByteArray.mk #[]))),(5,.d (qz false)),(6,.d (eErr x2.2.2))]) (m := [(0,.own (oVV (x1.1,x1.2.1,x1.2.2.1,x1.2.2.2)))]) rfl (.st (.cons (.av rfl) (.cons (.map rfl) (.cons (.arr rfl) (.cons (.arr rfl) .nil))))) rfl rfl ⟨⟨rfl,trivial⟩,⟨rfl,trivial⟩,⟨rfl,trivial⟩,trivial⟩ ⟨.inl rfl,trivial⟩ rfl (OD.dat_live (oVV_d _)) ⟨rfl,rfl,rfl,trivial⟩ (qq rfl)) (.w (wkF ⟨wD rfl,wD rfl,wD rfl,trivial⟩ ⟨.own rfl (.of_eq rfl (oVV_d _)),trivial⟩ (qq rfl)))),.inr rfl,_,res3 rfl rfl rfl rfl,rfl,rfl⟩
 refine cwF rfl hc1 ?_
 refine cwK ?_
 refine cwS (cwR (
  .c (uM rfl)<|
  .c (uM rfl)<|
  .c (uA rfl)<|
  .c (uA rfl)<|
  .c (uA rfl)<|.nil rfl) ?_)
 have heq := ((sJ h6)).symm
 subst heq
 exact qe ⟨_,(show Leads _ _ (St.of [(4,.d (eStr x2.1)),(5,.d (qz x2.2.1)),(6,.d (eErr 0))] [(0,.own (oVV (x1.1,x1.2.1,x1.2.2.1,x1.2.2.2)))]) from .trans (lPk (o := 0) (y := .st [.ifc 71 (.d (.at (ePl x1.1))),.map 6,.arr 7 0,.arr 8 0]) (x := oVV (x1.1,x1.2.1,x1.2.2.1,x1.2.2.2)) (l := [(4,.d (eStr x2.1)),(5,.d (qz x2.2.1)),(6,.d (eint 0))]) (m := [(0,.own (oVV (x1.1,x1.2.1,x1.2.2.1,x1.2.2.2)))]) rfl (.st (.cons (.av rfl) (.cons (.map rfl) (.cons (.arr rfl) (.cons (.arr rfl) .nil))))) rfl rfl ⟨⟨rfl,trivial⟩,⟨rfl,trivial⟩,⟨rfl,trivial⟩,trivial⟩ ⟨.inl rfl,trivial⟩ rfl (OD.dat_live (oVV_d _)) ⟨rfl,rfl,rfl,trivial⟩ (qq rfl)) (.w (wkF ⟨wD rfl,wD rfl,wD rfl,trivial⟩ ⟨.own rfl (.of_eq rfl (oVV_d _)),trivial⟩ (qq rfl)))),.inr rfl,_,res3 rfl rfl rfl rfl,rfl,rfl⟩
set_option maxHeartbeats 4000000 in
theorem qj1 {a0 : VwT} {r : ((List (B8 × ByteArray × Bool)) × VwT)} (h : qJ a0 = some r) : FnOk Tryz.prog 17 [.ptr 0 0] 1 (lk [(0,.own (oVV a0))]) (fun rr oo => rr = .arr 1 0 ∧ oo = lk [(0,.own (oVV r.2)),(1,.arr 0 26 (r.1.map eCg))]) := by
 refine fnO Tryz.func17 rfl rfl (cwP ?_)
 unfold qJ at h
 refine cwS (cwR (
  .c (uA rfl)<|.nil rfl) ?_)
 refine cwL (lOp (o := 0) (y := .st [.ifc 71 (.d (.at (ePl a0.1))),.map 5,.arr 2 0,.arr 3 0]) (news := [(5,.map 0 (mD eK eCg a0.2.1)),(2,.arr 0 49 (a0.2.2.1.map eSp)),(3,.arr 0 1 (a0.2.2.2.map eMKC))]) rfl (.st (.cons (.av rfl) (.cons (.map rfl) (.cons (.arr rfl) (.cons (.arr rfl) .nil))))) rfl rfl ⟨rfl,rfl,rfl,trivial⟩) ?_
 refine cwW (wkF (l := [(0,.ptr 0 0)]) (m := [(0,.box (.st [.ifc 71 (.d (.at (ePl a0.1))),.map 5,.arr 2 0,.arr 3 0])),(2,.arr 0 49 (a0.2.2.1.map eSp)),(3,.arr 0 1 (a0.2.2.2.map eMKC)),(5,.map 0 (mD eK eCg a0.2.1))]) ⟨⟨_,rfl,.ptr rfl rfl⟩,trivial⟩ ⟨.box rfl (.st (.cons (.ifc (.d rfl)) (.cons (.map rfl rfl) (.cons (.arr rfl rfl) (.cons (.arr rfl rfl) .nil))))),.arr rfl rfl,.arr rfl rfl,.map rfl rfl,trivial⟩ (qq rfl)) ?_
 have ⟨x0,hx0,h0⟩ := bdS h
 have hx0g := qt hx0
 have ho0 := forOrd_some h0
 refine cwS (cw_regionA (
  .c (uM rfl)<|
  .c (uP rfl)<|
  .c (uF rfl fld76_1 rfl)<|
  .c (uL [1] rfl ta73 rfl)<|
  .c (qC (fun n => bif Nat.beq n 0 then 5 else 4) rfl rfl .no Tryz.func43 rfl rfl (values43_ok (ek := eK) (ev := eCg) (m := a0.2.1) 0) (.cons rfl (.m rfl) .nil) (qX1 rfl ⟨(by simp [AV.live,lk]),trivial⟩ (by decide) rfl trivial rfl (by simp)) (.inl rfl))<|
  .any (a_callX (fun n => bif Nat.beq n 0 then 5 else 4) rfl rfl Tryz.func42 rfl rfl (collect42_ok (ek := eK) (m := a0.2.1) 0 hx0g) (.cons rfl (.f1 rfl) .nil) (callIn2 rfl ⟨(by simp [AV.live,AV.lives,lk,Nat.beq]),trivial⟩ (by decide) rfl trivial rfl (by simp [OB.live,AV.live,lk,Nat.beq]) (by simp)) (fun _ => (callIn2 rfl ⟨(by simp [AV.live,AV.lives,lk,Nat.beq]),trivial⟩ (by decide) rfl trivial rfl (by simp [OB.live,AV.live,lk,Nat.beq]) (by simp))) (.inl rfl)) fun s' hs => ?_))
 obtain ⟨x1,hl0,rfl⟩ := hs
 have h1 := ho0 x1 hl0
 have ⟨x2,hx1,h2⟩ := bdS (x := qj2 ([(x1.map fun p => p.2)])) h1
 refine (
  .c (qc5 (rows := ([(x1.map fun p => p.2)] : List (List (B8 × ByteArray × Bool))).map eSC) rfl rfl .no (.cons rfl .nil) rfl sl60 sz49 ze49 rfl (qC1 qL3) (by decide))<|
  .c (qd2 1 rfl rfl .no Tryz.func41 rfl rfl (delta_Join_ok hx1) (.cons rfl .d .nil) ⟨trivial,trivial⟩ rfl (.inl rfl))<|
  .c (uA rfl)<|.nil rfl ?_)
 have heq := ((sJ h2)).symm
 subst heq
 exact qe ⟨_,(show Leads _ _ (St.of [(2,.arr 1 0)] [(0,.own (oVV (a0.1,a0.2.1,a0.2.2.1,a0.2.2.2))),(1,.arr 0 26 (x2.map eCg))]) from .trans (lPk (o := 0) (y := .st [.ifc 71 (.d (.at (ePl a0.1))),.map 5,.arr 2 0,.arr 3 0]) (x := oVV (a0.1,a0.2.1,a0.2.2.1,a0.2.2.2)) (l := [(2,.arr 1 0)]) (m := [(0,.own (oVV (a0.1,a0.2.1,a0.2.2.1,a0.2.2.2))),(1,.arr 0 26 (x2.map eCg))]) rfl (.st (.cons (.av rfl) (.cons (.map rfl) (.cons (.arr rfl) (.cons (.arr rfl) .nil))))) rfl rfl ⟨⟨rfl,(by simp [AV.live,AV.lives,lk,Nat.beq])⟩,trivial⟩ ⟨.inl rfl,(.inr ⟨rfl,trivial⟩),trivial⟩ rfl (OD.dat_live (oVV_d _)) ⟨rfl,rfl,rfl,trivial⟩ (qq rfl)) (.w (wkF ⟨⟨_,rfl,.arr rfl rfl⟩,trivial⟩ ⟨.own rfl (.of_eq rfl (oVV_d _)),.arr rfl rfl,trivial⟩ (qq rfl)))),.inr rfl,_,res1 rfl rfl,rfl,rfl⟩
theorem q83 {a0 : VwT} {a1 : (B8 × B8 × Bool)} {r : ((List (B8 × ByteArray)) × Int × VwT)} (h : qd0 a0 a1 = some r) : FnOk Tryz.prog 15 [.ptr 0 0,.d (eSp a1)] 1 (lk [(0,.own (oVV a0))]) (fun rr oo => rr = .tup [.arr 1 0,.d (eErr r.2.1)] ∧ oo = lk [(0,.own (oVV r.2.2)),(1,.arr 0 25 (r.1.map ePr))]) := by
 refine fnO Tryz.func15 rfl rfl (cwP ?_)
 unfold qd0 at h
 refine cwS (cwR (
  .c (uX 9 rfl)<|
  .c (uA rfl)<|
  .c (uA rfl)<|.nil rfl) ?_)
 have ⟨x0,hx0,h0⟩ := bdS (x := qc0 a0 a1) h
 refine cwS (cwR (
  .c (uM rfl)<|
  .c (uL [] rfl ta41 rfl)<|
  .c (qC (fun _ => 0) rfl rfl .no Tryz.func35 rfl rfl (q73 hx0) (.cons rfl (.p rfl) (.cons rfl .d .nil)) (q60 rfl ⟨(by simp [AV.live,lk,Nat.beq]),trivial,trivial⟩ rfl (OD.dat_live (oVV_d _)) (by simp)) (.inl rfl))<|.nil rfl) ?_)
 refine cwL (lOp (o := 0) (y := .st [.ifc 71 (.d (.at (ePl x0.1))),.map 2,.arr 3 0,.arr 4 0]) (news := [(2,.map 0 (mD eK eCg x0.2.1)),(3,.arr 0 49 (x0.2.2.1.map eSp)),(4,.arr 0 1 (x0.2.2.2.map eMKC))]) rfl (.st (.cons (.av rfl) (.cons (.map rfl) (.cons (.arr rfl) (.cons (.arr rfl) .nil))))) rfl rfl ⟨rfl,rfl,rfl,trivial⟩) ?_
 refine cwW (wkF (l := [(0,.ptr 0 0),(3,.ptr 9 0)]) (m := [(0,.box (.st [.ifc 71 (.d (.at (ePl x0.1))),.map 2,.arr 3 0,.arr 4 0])),(2,.map 0 (mD eK eCg x0.2.1)),(3,.arr 0 49 (x0.2.2.1.map eSp)),(4,.arr 0 1 (x0.2.2.2.map eMKC)),(9,.box (.d (eSp a1)))]) ⟨⟨_,rfl,.ptr rfl rfl⟩,⟨_,rfl,.ptr rfl rfl⟩,trivial⟩ ⟨.box rfl (.st (.cons (.ifc (.d rfl)) (.cons (.map rfl rfl) (.cons (.arr rfl rfl) (.cons (.arr rfl rfl) .nil))))),.map rfl rfl,.arr rfl rfl,.arr rfl rfl,.box rfl (.d rfl),trivial⟩ (qq rfl)) ?_
 have ⟨x1,hx1,h1⟩ := bdS (x := qA0 x0.1 a1) h0
 refine cwS (cwRA mixed (by kernel_rfl) (
  .c (uM rfl)<|
  .c (uP rfl)<|
  .c (uF rfl fld76_0 rfl)<|
  .c (uL [0] rfl ta70 rfl)<|
  .c (uL [] rfl ta41 rfl)<|
  .c (o_inv (fun o => o) rfl rfl .no rfl Tryz.func201 rfl rfl rfl hm71_Scan (view_Plain_Scan_ok hx1) (.cons rfl .d (.cons rfl .d .nil)) (by decide) (callIn0 ⟨trivial,trivial,trivial⟩) (.inl rfl))<|
  .c (uM rfl)<|
  .c (uE rfl)<|
  .c (uE rfl)<|
  .c (uA rfl)<|
  .c (uA rfl)<|.nil rfl) (by kernel_rfl) ?_)
 refine cwS ?_
 refine cwS (cwR (
  .c (uM rfl)<|
  .c (uB rfl (b_neq _ _) rfl)<|.nil rfl) ?_)
 rcases cdS h1 with ⟨hc0,h2⟩ | ⟨hc0,h3⟩
 ·refine cwT rfl hc0 ?_
  refine cwS (cwR (
   .c (uM rfl)<|
   .c (uA rfl)<|
   .c (uA rfl)<|.nil rfl) ?_)
  have heq := ((sJ h2)).symm
  subst heq
  exact qe ⟨_,(show Leads _ _ (St.of [(4,.arr 1 0),(5,.d (eErr x1.2))] [(0,.own (oVV (x0.1,x0.2.1,x0.2.2.1,x0.2.2.2))),(1,.arr 0 25 (([]).map ePr))]) from .trans (lPk (o := 0) (y := .st [.ifc 71 (.d (.at (ePl x0.1))),.map 2,.arr 3 0,.arr 4 0]) (x := oVV (x0.1,x0.2.1,x0.2.2.1,x0.2.2.2)) (l := [(4,.d (.v (.slice none 0 0))),(5,.d (eErr x1.2))]) (m := [(0,.own (oVV (x0.1,x0.2.1,x0.2.2.1,x0.2.2.2)))]) rfl (.st (.cons (.av rfl) (.cons (.map rfl) (.cons (.arr rfl) (.cons (.arr rfl) .nil))))) rfl rfl ⟨⟨rfl,trivial⟩,⟨rfl,trivial⟩,trivial⟩ ⟨.inl rfl,trivial⟩ rfl (OD.dat_live (oVV_d _)) ⟨rfl,rfl,rfl,trivial⟩ (qq rfl)) (.w (wkF ⟨⟨_,rfl,.nila rfl rfl⟩,wD rfl,trivial⟩ ⟨.own rfl (.of_eq rfl (oVV_d _)),.nil rfl,trivial⟩ (qq rfl)))),.inr rfl,_,res2 rfl rfl rfl,rfl,rfl⟩
 refine cwF rfl hc0 ?_
 refine cwK ?_
 refine cwS (cwR (
  .c (uA rfl)<|.nil rfl) ?_)
 refine cwS ?_
 refine cwS (cwR (
  .c (uM rfl)<|
  .c (uP rfl)<|
  .c (uF rfl fld76_1 rfl)<|
  .c (uL [1] rfl ta73 rfl)<|
  .c (o_range 5 rfl rfl .no rfl rfl mp73 rfl)<|.nil rfl) ?_)
 have ho0 := forOrd_some h3
 refine cw_mapRange (V := (List (B8 × ByteArray × Bool))) (ek := eK) (ev := eCg) (M := x0.2.1) (fun x2 hl0 => bind_ex (ho0 x2 hl0)) (fun (z : (List (B8 × ByteArray × Bool))) (l : List (B8 × (B8 × ByteArray × Bool))) => St.of [(3,.ptr 9 0),(6,.d (eSP_ x1.1)),(8,.arr 8 0),(30,.it 5)] [(0,.box (.st [.ifc 71 (.d (.at (ePl x0.1))),.map 2,.arr 3 0,.arr 4 0])),(2,.map 0 (mD eK eCg x0.2.1)),(3,.arr 0 49 (x0.2.2.1.map eSp)),(4,.arr 0 1 (x0.2.2.2.map eMKC)),(5,.iter 2 0 (mD eK eCg l) none),(8,.arr 0 26 (z.map eCg)),(9,.box (.d (eSp a1)))]) (fun (z : (List (B8 × ByteArray × Bool))) => St.of [(6,.d (eSP_ x1.1)),(8,.arr 8 0)] [(0,.box (.st [.ifc 71 (.d (.at (ePl x0.1))),.map 2,.arr 3 0,.arr 4 0])),(2,.map 0 (mD eK eCg x0.2.1)),(3,.arr 0 49 (x0.2.2.1.map eSp)),(4,.arr 0 1 (x0.2.2.2.map eMKC)),(8,.arr 0 26 (z.map eCg))]) rfl rfl (.w (wkF ⟨⟨_,rfl,.ptr rfl rfl⟩,wD rfl,⟨_,rfl,.nila rfl rfl⟩,⟨_,rfl,.it rfl rfl⟩,trivial⟩ ⟨.box rfl (.st (.cons (.ifc (.d rfl)) (.cons (.map rfl rfl) (.cons (.arr rfl rfl) (.cons (.arr rfl rfl) .nil))))),.map rfl rfl,.arr rfl rfl,.arr rfl rfl,.iter rfl rfl rfl rfl rfl (.inl rfl),.nil rfl,.box rfl (.d rfl),trivial⟩ (qq rfl))) (fun _ _ => ⟨rfl,rfl,rfl⟩) (fun z => .w (wkF ⟨wD rfl,⟨_,rfl,.arr rfl rfl⟩,trivial⟩ ⟨.box rfl (.st (.cons (.ifc (.d rfl)) (.cons (.map rfl rfl) (.cons (.arr rfl rfl) (.cons (.arr rfl rfl) .nil))))),.map rfl rfl,.arr rfl rfl,.arr rfl rfl,.arr rfl rfl,trivial⟩ (qq rfl))) ?_ ?_
 ·intro v0 h4
  have ⟨x3,hx2,h5⟩ := bdS (x := q82 x1.1 v0) h4
  refine cwS (cwR (
   .c (uM rfl)<|
   .c (uM rfl)<|
   .c (qd2 1 rfl rfl .no Tryz.func37 rfl rfl (delta_Apply_ok hx2) (.cons rfl .d (.cons rfl (.arrM rfl) .nil)) ⟨trivial,trivial,trivial⟩ rfl (.inr ⟨trivial,(qr3 fun _ => (flapiPair _))⟩))<|
   .c (uA rfl)<|
   .c (uA rfl)<|.nil rfl) ?_)
  have heq := ((sJ h5)).symm
  subst heq
  exact qe ⟨_,(show Leads _ _ (St.of [(4,.arr 1 0),(5,.d (eErr 0))] [(0,.own (oVV (x0.1,x0.2.1,x0.2.2.1,x0.2.2.2))),(1,.arr 0 25 (x3.map ePr))]) from .trans (lPk (o := 0) (y := .st [.ifc 71 (.d (.at (ePl x0.1))),.map 2,.arr 3 0,.arr 4 0]) (x := oVV (x0.1,x0.2.1,x0.2.2.1,x0.2.2.2)) (l := [(4,.arr 1 0),(5,.d (eint 0))]) (m := [(0,.own (oVV (x0.1,x0.2.1,x0.2.2.1,x0.2.2.2))),(1,.arr 0 25 (x3.map ePr))]) rfl (.st (.cons (.av rfl) (.cons (.map rfl) (.cons (.arr rfl) (.cons (.arr rfl) .nil))))) rfl rfl ⟨⟨rfl,(by simp [AV.live,AV.lives,lk,Nat.beq])⟩,⟨rfl,trivial⟩,trivial⟩ ⟨.inl rfl,(.inr ⟨rfl,trivial⟩),trivial⟩ rfl (OD.dat_live (oVV_d _)) ⟨rfl,rfl,rfl,trivial⟩ (qq rfl)) (.w (wkF ⟨⟨_,rfl,.arr rfl rfl⟩,wD rfl,trivial⟩ ⟨.own rfl (.of_eq rfl (oVV_d _)),.arr rfl rfl,trivial⟩ (qq rfl)))),.inr rfl,_,res2 rfl rfl rfl,rfl,rfl⟩
 ·intro Q0 v1 x4 x2 x5 v2 hb0
  refine cwB ?_
  refine cwS (cwR (
   .c (o_entry rfl rfl .no rfl rfl rfl)<|
   .c (uE rfl)<|
   .c (uE rfl)<|
   .c (qm 6 rfl rfl .no ze39 rfl)<|
   .c (qm 7 rfl rfl .no ze88 rfl)<|
   .c (uS [] rfl sz39 rfl)<|
   .c (uS [] rfl sz88 rfl)<|.nil rfl) ?_)
  have ⟨x6,hx3,h6⟩ := bdS (x := key_In a1 x4.1) hb0
  refine cwS (cwR (
   .c (uL [] rfl ta41 rfl)<|
   .c (uL [] rfl ta39 rfl)<|
   .c (qj rfl rfl .no Tryz.func36 rfl rfl (key_In_ok hx3) (.cons rfl .d (.cons rfl .d .nil)) ⟨trivial,trivial,trivial⟩ (.inl rfl))<|.nil rfl) ?_)
  rcases cdS h6 with ⟨hc1,h7⟩ | ⟨hc1,h8⟩
  ·refine cwT rfl hc1 ?_
   have ⟨x7,hx4,h9⟩ := bdS h7
   have hx4g := qt hx4
   refine cwR (
    .c (uM rfl)<|
    .c (uL [] rfl ta88 rfl)<|
    .c (qc5 (rows := ([x4.2] : List (B8 × ByteArray × Bool)).map eCg) rfl rfl .no (.cons rfl .nil) rfl sl49 sz88 ze88 rfl (qC1 q70) (by decide))<|
    .c (qN1 (enc := eCg) (xs := v1) (ys := [x4.2]) rfl rfl .no rfl rfl rfl q70 sl49 sl49 sz88 by88 ze88 rfl (by decide) hx4g)<|
    .c (uA rfl)<|.nil rfl
   ) ?_
   have heq := ((sJ h9)).symm
   subst heq
   exact .w (wkF ⟨⟨_,rfl,.ptr rfl rfl⟩,wD rfl,⟨_,rfl,.arr rfl rfl⟩,⟨_,rfl,.it rfl rfl⟩,trivial⟩ ⟨.box rfl (.st (.cons (.ifc (.d rfl)) (.cons (.map rfl rfl) (.cons (.arr rfl rfl) (.cons (.arr rfl rfl) .nil))))),.map rfl rfl,.arr rfl rfl,.arr rfl rfl,.iter rfl rfl rfl rfl rfl (.inl rfl),.arr0 rfl rfl rfl,.box rfl (.d rfl),trivial⟩ (qq rfl))
  refine cwF rfl hc1 ?_
  refine cwK ?_
  have heq := ((sJ h8)).symm
  subst heq
  exact .w (wkF ⟨⟨_,rfl,.ptr rfl rfl⟩,wD rfl,⟨_,rfl,.arr rfl rfl⟩,⟨_,rfl,.it rfl rfl⟩,trivial⟩ ⟨.box rfl (.st (.cons (.ifc (.d rfl)) (.cons (.map rfl rfl) (.cons (.arr rfl rfl) (.cons (.arr rfl rfl) .nil))))),.map rfl rfl,.arr rfl rfl,.arr rfl rfl,.iter rfl rfl rfl rfl rfl (.inl rfl),.arr rfl rfl,.box rfl (.d rfl),trivial⟩ (qq rfl))
theorem view_New_n_ok {r : VwT} (h : qK1 = some r) : FnOk Tryz.prog 11 [.d (.v .nilIface)] 0 (lk []) (fun rr oo => rr = .ptr 0 0 ∧ oo = lk [(0,.own (oVV r))]) := by
 refine fnO Tryz.func11 rfl rfl (cwP ?_)
 unfold qK1 at h
 refine cwS (cwR (
  .c (uA rfl)<|.nil rfl) ?_)
 have ⟨o0,hj0,h0⟩ := bdS h
 refine cwJ (fun (z : (List (B8 × ByteArray))) => St.of [(0,.ifc 71 (.d (.at (ePl z))))] []) (fun (z : (List (B8 × ByteArray))) => o0 = z) ?_ ?_
 ·intro v0 hv0; subst hv0
  refine cwS (cwR (
   .c (uM rfl)<|
   .c (o_mkmap eK eCg 1 rfl rfl .no rfl)<|
   .c (o_bldA rfl rfl .no zo76 rfl pl76 (.cons rfl rfl rfl rfl rfl rfl rfl (.cons rfl rfl rfl rfl rfl rfl rfl .nil)))<|
   .c (uX 0 rfl)<|
   .c (uA rfl)<|.nil rfl) ?_)
  have heq := ((sJ h0)).symm
  subst heq
  exact qe ⟨_,(show Leads _ _ (St.of [(2,.ptr 0 0)] [(0,.own (oVV (o0,[],[],[])))]) from .trans (lPk (o := 0) (y := .st [.ifc 71 (.d (.at (ePl o0))),.map 1,.d (.v (.slice none 0 0)),.d (.v (.slice none 0 0))]) (x := oVV (o0,[],[],[])) (l := [(2,.ptr 0 0)]) (m := [(0,.own (oVV (o0,[],[],[])))]) rfl (.st (.cons (.av rfl) (.cons (.map rfl) (.cons (.nil rfl) (.cons (.nil rfl) .nil))))) rfl rfl ⟨⟨rfl,(by simp [AV.live,AV.lives,lk,Nat.beq])⟩,trivial⟩ ⟨.inl rfl,trivial⟩ rfl (OD.dat_live (oVV_d _)) ⟨rfl,trivial⟩ qd) (.w (wkF ⟨⟨_,rfl,.ptro rfl rfl⟩,trivial⟩ ⟨.own rfl (.of_eq rfl (oVV_d _)),trivial⟩ qd))),.inr rfl,_,res1 rfl rfl,rfl,rfl⟩
 refine cwS (cwR (
  .c (uM rfl)<|
  .c (o_ifnilT rfl rfl .no rfl ifcB70)<|.nil rfl) ?_)
 refine cwT rfl rfl ?_
 have ⟨x0,hx0,h1⟩ := bdS (x := qt1 ([])) hj0
 refine cwR (
  .c (qj rfl rfl .no Tryz.func27 rfl rfl (view_NewPlain_ok hx0) (.cons rfl .nil .nil) ⟨trivial,trivial⟩ (.inl rfl))<|
  .c (o_mkif rfl rfl .no rfl ifB71)<|
  .c (uA rfl)<|.nil rfl
 ) ?_
 exact ⟨x0,(sJ h1),.w (wkF ⟨⟨_,rfl,.ifc (.d rfl)⟩,trivial⟩ trivial qd)⟩
end
end Go.Val
