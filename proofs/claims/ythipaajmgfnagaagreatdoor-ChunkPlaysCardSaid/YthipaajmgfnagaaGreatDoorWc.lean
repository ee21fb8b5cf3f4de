/- Walks of the program's functions,printed. -/
import Derived.Test.YthipaajmgfnagaaGreatDoorWb
set_option linter.unusedSectionVars false
set_option linter.unusedVariables false
set_option linter.unusedSimpArgs false
set_option maxRecDepth 100000
namespace Go.Val
open Go.RowKit Go.Proofs
section
variable [Drw]
noncomputable def qr1 (a0 : VwT) (a1 : List UInt8) (a2 : ByteArray) : Option (Int × VwT) := (((cond (decide (a2 = (ByteArray.mk #[]))) (some true) (some (decide ((a2.size : Int) > 40)))) : Option Bool)).bind fun o0 => cond o0 (some (1,a0)) (some (0,(a0.1,(mset a0.2.1 a1 (a1,a2,false)),a0.2.2.1,a0.2.2.2)))
noncomputable def qH0 (a0 : VwT) (a1 : List UInt8) : Option (Int × VwT) := some (0,(a0.1,(mset a0.2.1 a1 (a1,(ByteArray.mk #[]),true)),a0.2.2.1,a0.2.2.2))
def q10 (a0 : List (B8 × B8 × Bool)) : Option (List (B8 × B8 × Bool)) := (fits (([] : List (B8 × B8 × Bool)).length + a0.length) 49).bind fun _ => some a0
def q91 (a0 : List (B8 × ByteArray)) : Option (List (B8 × ByteArray)) := (fits (([] : List (B8 × ByteArray)).length + a0.length) 40).bind fun _ => some a0
theorem view_View_Put_ok {a0 : VwT} {a1 : List UInt8} {a2 : ByteArray} {r : (Int × VwT)} (h : qr1 a0 a1 a2 = some r) : FnOk Tryz.prog 63 [.ptr 0 0,.d (eK a1),.d (eStr a2)] 1 (lk [(0,.own (oVV a0))]) (fun rr oo => rr = .d (eErr r.1) ∧ oo = lk [(0,.own (oVV r.2))]) := by
 refine fnO Tryz.func63 rfl rfl (cwP ?_)
 unfold qr1 at h
 refine cwS (cwR (
  .c (uX 1 rfl)<|
  .c (uA rfl)<|.nil rfl) ?_)
 refine cwS ?_
 have ⟨o0,hj0,h0⟩ := bdS h
 refine cwJ (fun (z : Bool) => St.of [(0,.ptr 0 0),(2,.d (eStr a2)),(4,.ptr 1 0),(13,.d (qz z))] [(0,.own (oVV a0)),(1,.box (.d (eK a1)))]) (fun (z : Bool) => o0 = z) ?_ ?_
 ·intro v0 hv0; subst hv0
  rcases cdS h0 with ⟨hc0,h1⟩ | ⟨hc0,h2⟩
  ·refine cwT rfl hc0 ?_
   refine cwS (cwR (
    .c (uA rfl)<|.nil rfl) ?_)
   have heq := ((sJ h1)).symm
   subst heq
   exact qe ⟨_,(show Leads _ _ (St.of [(6,.d (eErr 1))] [(0,.own (oVV a0))]) from .w (wkF ⟨wD rfl,trivial⟩ ⟨.own rfl (.of_eq rfl (oVV_d _)),trivial⟩ (qq rfl))),.inr rfl,_,res1 rfl rfl,rfl,rfl⟩
  refine cwF rfl hc0 ?_
  refine cwK ?_
  refine cwL (lOp (o := 0) (y := .st [.ifc 71 (.d (.at (ePl a0.1))),.map 2,.arr 3 0,.arr 4 0]) (news := [(2,.map 0 (mD eK eCg a0.2.1)),(3,.arr 0 49 (a0.2.2.1.map eSp)),(4,.arr 0 1 (a0.2.2.2.map eMKC))]) rfl (.st (.cons (.av rfl) (.cons (.map rfl) (.cons (.arr rfl) (.cons (.arr rfl) .nil))))) rfl rfl ⟨rfl,rfl,rfl,trivial⟩) ?_
  refine cwW (wkF (l := [(0,.ptr 0 0),(2,.d (eStr a2)),(4,.ptr 1 0)]) (m := [(0,.box (.st [.ifc 71 (.d (.at (ePl a0.1))),.map 2,.arr 3 0,.arr 4 0])),(1,.box (.d (eK a1))),(2,.map 0 (mD eK eCg a0.2.1)),(3,.arr 0 49 (a0.2.2.1.map eSp)),(4,.arr 0 1 (a0.2.2.2.map eMKC))]) ⟨⟨_,rfl,.ptr rfl rfl⟩,wD rfl,⟨_,rfl,.ptr rfl rfl⟩,trivial⟩ ⟨.box rfl (.st (.cons (.ifc (.d rfl)) (.cons (.map rfl rfl) (.cons (.arr rfl rfl) (.cons (.arr rfl rfl) .nil))))),.box rfl (.d rfl),.map rfl rfl,.arr rfl rfl,.arr rfl rfl,trivial⟩ (qq rfl)) ?_
  refine cwS (cwRA mixed (by kernel_rfl) (
   .c (uM rfl)<|
   .c (uP rfl)<|
   .c (uF rfl fld76_1 rfl)<|
   .c (uL [1] rfl ta73 rfl)<|
   .c (uL [] rfl ta39 rfl)<|
   .c (uL [] rfl ta39 rfl)<|
   .c (uM rfl)<|
   .c (qL4 (ds := [eK a1,eStr a2,qz false]) rfl rfl .no zs88 rfl pl88 (.cons rfl rfl rfl rfl rfl rfl rfl (.cons rfl rfl rfl rfl rfl rfl rfl .nil)))<|
   .c (o_mapset (ek := eK) (ev := eCg) (m := a0.2.1) a1 (a1,a2,false) rfl .no rfl rfl rfl rfl mp73 kl39 rfl)<|.nil rfl) (by kernel_rfl) ?_)
  refine cwS (cwR (
   .c (uA rfl)<|.nil rfl) ?_)
  have heq := ((sJ h2)).symm
  subst heq
  exact qe ⟨_,(show Leads _ _ (St.of [(6,.d (eErr 0))] [(0,.own (oVV (a0.1,(mset a0.2.1 a1 (a1,a2,false)),a0.2.2.1,a0.2.2.2)))]) from .trans (lPk (o := 0) (y := .st [.ifc 71 (.d (.at (ePl a0.1))),.map 2,.arr 3 0,.arr 4 0]) (x := oVV (a0.1,(mset a0.2.1 a1 (a1,a2,false)),a0.2.2.1,a0.2.2.2)) (l := [(6,.d (eint 0))]) (m := [(0,.own (oVV (a0.1,(mset a0.2.1 a1 (a1,a2,false)),a0.2.2.1,a0.2.2.2)))]) rfl (.st (.cons (.av rfl) (.cons (.map rfl) (.cons (.arr rfl) (.cons (.arr rfl) .nil))))) rfl rfl ⟨⟨rfl,trivial⟩,trivial⟩ ⟨.inl rfl,trivial⟩ rfl (OD.dat_live (oVV_d _)) ⟨rfl,rfl,rfl,trivial⟩ (qq rfl)) (.w (wkF ⟨wD rfl,trivial⟩ ⟨.own rfl (.of_eq rfl (oVV_d _)),trivial⟩ (qq rfl)))),.inr rfl,_,res1 rfl rfl,rfl,rfl⟩
 rcases cdS hj0 with ⟨hc1,h3⟩ | ⟨hc1,h4⟩
 ·skip
  refine cwR (
   .c (uM rfl)<|
   .c (qc rfl rfl .no rfl rfl (qd5 _ _) rfl)<|
   .c (uM rfl)<|
   .c (uN rfl rfl hc1)<|
   .c (uN rfl rfl hc1)<|
   .c (uN rfl rfl hc1)<|
   .c (uPT rfl hc1)<|.nil rfl
  ) ?_
  exact ⟨true,(sJ h3),.w (wkF ⟨⟨_,rfl,.ptro rfl rfl⟩,wD rfl,⟨_,rfl,.ptr rfl rfl⟩,wD rfl,trivial⟩ ⟨.own rfl (.of_eq rfl (oVV_d _)),.box rfl (.d rfl),trivial⟩ (qq rfl))⟩
 refine cwR (
  .c (uM rfl)<|
  .c (qc rfl rfl .no rfl rfl (qd5 _ _) rfl)<|
  .c (uM rfl)<|
  .c (o_mv rfl rfl (.yes rfl rfl hc1) rfl)<|
  .c (qa3 rfl rfl (.yes rfl rfl hc1) rfl un9)<|
  .c (qc rfl rfl (.yes rfl rfl hc1) rfl rfl (b_gtr _ _) rfl)<|
  .c (uPF rfl hc1)<|.nil rfl
 ) ?_
 exact ⟨(decide ((a2.size : Int) > 40)),(sJ h4),.w (wkF ⟨⟨_,rfl,.ptro rfl rfl⟩,wD rfl,⟨_,rfl,.ptr rfl rfl⟩,wD rfl,trivial⟩ ⟨.own rfl (.of_eq rfl (oVV_d _)),.box rfl (.d rfl),trivial⟩ (qq rfl))⟩
theorem ql4 {a0 : VwT} {a1 : List UInt8} {r : (Int × VwT)} (h : qH0 a0 a1 = some r) : FnOk Tryz.prog 62 [.ptr 0 0,.d (eK a1)] 1 (lk [(0,.own (oVV a0))]) (fun rr oo => rr = .d (eErr r.1) ∧ oo = lk [(0,.own (oVV r.2))]) := by
 refine fnO Tryz.func62 rfl rfl (cwP ?_)
 unfold qH0 at h
 refine cwS (cwR (
  .c (uX 1 rfl)<|
  .c (uA rfl)<|.nil rfl) ?_)
 refine cwL (lOp (o := 0) (y := .st [.ifc 71 (.d (.at (ePl a0.1))),.map 2,.arr 3 0,.arr 4 0]) (news := [(2,.map 0 (mD eK eCg a0.2.1)),(3,.arr 0 49 (a0.2.2.1.map eSp)),(4,.arr 0 1 (a0.2.2.2.map eMKC))]) rfl (.st (.cons (.av rfl) (.cons (.map rfl) (.cons (.arr rfl) (.cons (.arr rfl) .nil))))) rfl rfl ⟨rfl,rfl,rfl,trivial⟩) ?_
 refine cwW (wkF (l := [(0,.ptr 0 0),(3,.ptr 1 0)]) (m := [(0,.box (.st [.ifc 71 (.d (.at (ePl a0.1))),.map 2,.arr 3 0,.arr 4 0])),(1,.box (.d (eK a1))),(2,.map 0 (mD eK eCg a0.2.1)),(3,.arr 0 49 (a0.2.2.1.map eSp)),(4,.arr 0 1 (a0.2.2.2.map eMKC))]) ⟨⟨_,rfl,.ptr rfl rfl⟩,⟨_,rfl,.ptr rfl rfl⟩,trivial⟩ ⟨.box rfl (.st (.cons (.ifc (.d rfl)) (.cons (.map rfl rfl) (.cons (.arr rfl rfl) (.cons (.arr rfl rfl) .nil))))),.box rfl (.d rfl),.map rfl rfl,.arr rfl rfl,.arr rfl rfl,trivial⟩ (qq rfl)) ?_
 refine cwS (cwRA mixed (by kernel_rfl) (
  .c (uM rfl)<|
  .c (uP rfl)<|
  .c (uF rfl fld76_1 rfl)<|
  .c (uL [1] rfl ta73 rfl)<|
  .c (uL [] rfl ta39 rfl)<|
  .c (uL [] rfl ta39 rfl)<|
  .c (qL4 (ds := [eK a1,eStr (ByteArray.mk #[]),qz true]) rfl rfl .no zs88 rfl pl88 (.cons rfl rfl rfl rfl rfl rfl rfl (.cons rfl rfl rfl rfl rfl rfl rfl .nil)))<|
  .c (o_mapset (ek := eK) (ev := eCg) (m := a0.2.1) a1 (a1,(ByteArray.mk #[]),true) rfl .no rfl rfl rfl rfl mp73 kl39 rfl)<|.nil rfl) (by kernel_rfl) ?_)
 refine cwS (cwR (
  .c (uA rfl)<|.nil rfl) ?_)
 have heq := ((sJ h)).symm
 subst heq
 exact qe ⟨_,(show Leads _ _ (St.of [(4,.d (eErr 0))] [(0,.own (oVV (a0.1,(mset a0.2.1 a1 (a1,(ByteArray.mk #[]),true)),a0.2.2.1,a0.2.2.2)))]) from .trans (lPk (o := 0) (y := .st [.ifc 71 (.d (.at (ePl a0.1))),.map 2,.arr 3 0,.arr 4 0]) (x := oVV (a0.1,(mset a0.2.1 a1 (a1,(ByteArray.mk #[]),true)),a0.2.2.1,a0.2.2.2)) (l := [(4,.d (eint 0))]) (m := [(0,.own (oVV (a0.1,(mset a0.2.1 a1 (a1,(ByteArray.mk #[]),true)),a0.2.2.1,a0.2.2.2)))]) rfl (.st (.cons (.av rfl) (.cons (.map rfl) (.cons (.arr rfl) (.cons (.arr rfl) .nil))))) rfl rfl ⟨⟨rfl,trivial⟩,trivial⟩ ⟨.inl rfl,trivial⟩ rfl (OD.dat_live (oVV_d _)) ⟨rfl,rfl,rfl,trivial⟩ (qq rfl)) (.w (wkF ⟨wD rfl,trivial⟩ ⟨.own rfl (.of_eq rfl (oVV_d _)),trivial⟩ (qq rfl)))),.inr rfl,_,res1 rfl rfl,rfl,rfl⟩
theorem q23 {a0 : List (B8 × B8 × Bool)} {r : List (B8 × B8 × Bool)} (h : q10 a0 = some r) : FnOk Tryz.prog 55 [.d (eSS a0)] 0 (lk []) (fun rr oo => rr = .arr 0 0 ∧ oo = lk [(0,.arr 0 49 (List.map eSp r))]) := by
 refine fnO Tryz.func55 rfl rfl (cwP ?_)
 unfold q10 at h
 have ⟨x0,hx0,h0⟩ := bdS h
 have hx0g := qt hx0
 have heq := Option.some.inj h0
 subst heq
 refine cwS (cwR (
  .c (uA rfl)<|.nil rfl) ?_)
 refine cwS (cwS (cw_regionA (.cons (uM rfl) <| .any (a_nilq rfl rfl rfl sl59) fun s' hs => .nil rfl ?_)))
 obtain ⟨b,hb,rfl⟩ := hs
 cases b with
 | true =>
  have hz : a0 = [] := List.map_eq_nil_iff.1 (hb rfl)
  subst hz
  refine cwT rfl rfl (cwS (cwR (
   .c (uA rfl)<|.nil rfl) ?_))
  exact qe ⟨_,(show Leads _ _ (St.of [(2,.arr 0 0)] [(0,.arr 0 49 (List.map eSp []))]) from .w (wkF ⟨⟨_,rfl,.nila rfl rfl⟩,trivial⟩ ⟨.nil rfl,trivial⟩ qd)),.inr rfl,_,res1 rfl rfl,rfl,rfl⟩
 | false =>
  refine cwF rfl rfl (cwK ?_)
  refine cwS (cwR (
   .c (o_bslO (rows := ([] : List (B8 × B8 × Bool)).map eSp) 0 rfl rfl .no .nil rfl sl59 sz41 ze41 rfl (qC1 q00) (by decide) rfl)<|
   .c (uM rfl)<|
   .c (qN1 (enc := eSp) (xs := ([] : List (B8 × B8 × Bool))) (ys := a0) rfl rfl .no rfl rfl rfl q00 sl59 sl59 sz41 by41 ze41 rfl (by decide) hx0g)<|
   .c (uA rfl)<|.nil rfl) ?_)
  exact qe ⟨_,(show Leads _ _ (St.of [(2,.arr 0 0)] [(0,.arr 0 49 (List.map eSp a0))]) from .w (wkF ⟨⟨_,rfl,.arr rfl rfl⟩,trivial⟩ ⟨.arr0 rfl rfl rfl,trivial⟩ qd)),.inr rfl,_,res1 rfl rfl,rfl,rfl⟩
theorem slices_Clone203_ok {a0 : List (B8 × ByteArray)} {r : List (B8 × ByteArray)} (h : q91 a0 = some r) : FnOk Tryz.prog 203 [.d (eSP_ a0)] 0 (lk []) (fun rr oo => rr = .arr 0 0 ∧ oo = lk [(0,.arr 0 25 (List.map ePr r))]) := by
 refine fnO Tryz.func203 rfl rfl (cwP ?_)
 unfold q91 at h
 have ⟨x0,hx0,h0⟩ := bdS h
 have hx0g := qt hx0
 have heq := Option.some.inj h0
 subst heq
 refine cwS (cwR (
  .c (uA rfl)<|.nil rfl) ?_)
 refine cwS (cwS (cw_regionA (.cons (uM rfl) <| .any (a_nilq rfl rfl rfl sl35) fun s' hs => .nil rfl ?_)))
 obtain ⟨b,hb,rfl⟩ := hs
 cases b with
 | true =>
  have hz : a0 = [] := List.map_eq_nil_iff.1 (hb rfl)
  subst hz
  refine cwT rfl rfl (cwS (cwR (
   .c (uA rfl)<|.nil rfl) ?_))
  exact qe ⟨_,(show Leads _ _ (St.of [(2,.arr 0 0)] [(0,.arr 0 25 (List.map ePr []))]) from .w (wkF ⟨⟨_,rfl,.nila rfl rfl⟩,trivial⟩ ⟨.nil rfl,trivial⟩ qd)),.inr rfl,_,res1 rfl rfl,rfl,rfl⟩
 | false =>
  refine cwF rfl rfl (cwK ?_)
  refine cwS (cwR (
   .c (o_bslO (rows := ([] : List (B8 × ByteArray)).map ePr) 0 rfl rfl .no .nil rfl sl35 sz47 ze47 rfl (qC1 qE0) (by decide) rfl)<|
   .c (uM rfl)<|
   .c (qN1 (enc := ePr) (xs := ([] : List (B8 × ByteArray))) (ys := a0) rfl rfl .no rfl rfl rfl qE0 sl35 sl35 sz47 by47 ze47 rfl (by decide) hx0g)<|
   .c (uA rfl)<|.nil rfl) ?_)
  exact qe ⟨_,(show Leads _ _ (St.of [(2,.arr 0 0)] [(0,.arr 0 25 (List.map ePr a0))]) from .w (wkF ⟨⟨_,rfl,.arr rfl rfl⟩,trivial⟩ ⟨.arr0 rfl rfl rfl,trivial⟩ qd)),.inr rfl,_,res1 rfl rfl,rfl,rfl⟩
end
end Go.Val
