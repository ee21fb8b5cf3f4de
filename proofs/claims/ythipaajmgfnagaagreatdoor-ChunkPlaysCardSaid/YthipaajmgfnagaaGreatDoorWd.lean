/- Walks of the program's functions,printed. -/
import Derived.Test.YthipaajmgfnagaaGreatDoorWc
set_option linter.unusedSectionVars false
set_option linter.unusedVariables false
set_option linter.unusedSimpArgs false
set_option maxRecDepth 100000
namespace Go.Val
open Go.RowKit Go.Proofs
section
variable [Drw]
noncomputable def q80 (a0 : List (B8 × B8 × Bool)) : Option (List (B8 × B8 × Bool)) := (qu0 a0).bind fun x0 => cond (decide (x0 = (-1))) (some a0) ((((qA (V := (Int × Int × (List (B8 × B8 × Bool)))) (O := (Int × (List (B8 × B8 × Bool)))) (fun v0 => cond (decide (v0.2.1 < (v0.2.2.length : Int))) (((((gx v0.2.2 v0.2.1).bind fun x1 => (ql0 x1).bind fun x2 =>
      cond (!x2) ((gx v0.2.2 v0.1).bind fun x3 => some ((IntKind.wrap .i64 (v0.1 + 1)),(List.set v0.2.2 v0.1.toNat x1))) (some (v0.1,v0.2.2))) : Option (Int × (List (B8 × B8 × Bool))))).bind fun o0 => some (.inl (o0.1,(IntKind.wrap .i64 (v0.2.1 + 1)),o0.2))) (some (.inr (v0.1,v0.2.2)))) (x0,(IntKind.wrap .i64 (x0 + 1)),a0)) : Option (Int × (List (B8 × B8 × Bool))))).bind fun o1 =>
  (ck (decide (0 ≤ o1.1 ∧ o1.1.toNat ≤ o1.2.length))).bind fun _ => (cutB 0 o1.1 (List.take o1.1.toNat o1.2 ++ List.replicate (o1.2.length - o1.1.toNat) ((List.replicate 24 0),(List.replicate 24 0),false)).length).bind fun _ => some (List.take o1.1.toNat (List.take o1.1.toNat o1.2 ++ List.replicate (o1.2.length - o1.1.toNat) ((List.replicate 24 0),(List.replicate 24 0),false))))
theorem qV3 {a0 : List (B8 × B8 × Bool)} {r : (List (B8 × B8 × Bool))} (h : q80 a0 = some r) (u0 : Nat) : FnOk Tryz.prog 100 [.arr 0 u0,.fn 101 [] []] 1 (lk [(0,.arr u0 49 (List.map eSp a0))]) (fun rr oo => rr = .arr 0 (u0 + 1) ∧ oo = lk [(0,.arr (u0 + 1) 49 (r.map eSp))]) := by
 refine fnO Tryz.func100 rfl rfl (cwP ?_)
 unfold q80 at h
 refine cwS (cwR (
  .c (uA rfl)<|.nil rfl) ?_)
 have ⟨x0,hx0,h0⟩ := bdS (x := qu0 a0) h
 refine cwS (cwR (
  .c (uM rfl)<|
  .c (uM rfl)<|
  .c (qj rfl rfl .no Tryz.func127 rfl rfl (qe4 hx0) (.cons rfl (.arrM rfl) (.cons rfl .f0 .nil)) ⟨trivial,(by simp [AV.live,AV.lives]),trivial⟩ (.inr (DFlat.v _)))<|
  .c (uA rfl)<|.nil rfl) ?_)
 refine cwS ?_
 refine cwS (cwR (
  .c (uM rfl)<|
  .c (uB rfl (q43 _ _) rfl)<|.nil rfl) ?_)
 rcases cdS h0 with ⟨hc0,h1⟩ | ⟨hc0,h2⟩
 ·refine cwT rfl hc0 ?_
  refine cwS (cwR (
   .c (uM rfl)<|
   .c (uA rfl)<|.nil rfl) ?_)
  have heq := ((sJ h1)).symm
  subst heq
  exact qe ⟨_,(show Leads _ _ (St.of [(4,.arr 0 (u0 + 1))] [(0,.arr (u0 + 1) 49 (a0.map eSp))]) from .w (wkF ⟨⟨_,rfl,.arr rfl rfl⟩,trivial⟩ ⟨.arrU rfl (by omega) rfl,trivial⟩ (qq rfl))),.inr rfl,_,res1 rfl rfl,rfl,rfl⟩
 refine cwF rfl hc0 ?_
 refine cwK ?_
 have ⟨o0,hj0,h3⟩ := bdS h2
 refine cwJ (fun (z : (Int × (List (B8 × B8 × Bool)))) => St.of [(0,.arr 0 u0),(5,.d (eint z.1))] [(0,.arr u0 49 (z.2.map eSp))]) (fun (z : (Int × (List (B8 × B8 × Bool)))) => o0 = z) ?_ ?_
 ·intro v0 hv0; subst hv0
  have ⟨x1,hx1,h4⟩ := bdS h3
  have hx1g := qK hx1
  refine cwS (cwR (
   .c (uM rfl)<|
   .c (uM rfl)<|
   .c (o_tailM (enc := eSp) (xs := o0.2) rfl rfl .no rfl rfl rfl sl59 sz41 hx1g.1 hx1g.2)<|
   .c (o_clrM (enc := eSp) (xs := o0.2) (z := ((List.replicate 24 0),(List.replicate 24 0),false)) rfl .no rfl rfl sl59 ze41 rfl (by decide) hx1g.2)<|.nil rfl) ?_)
  have ⟨x2,hx2,h5⟩ := bdS h4
  have hx2g := qE hx2
  refine cwS (cwR (
   .c (uM rfl)<|
   .c (uM rfl)<|
   .c (o_preM (enc := eSp) (xs := (List.take o0.1.toNat o0.2 ++ List.replicate (o0.2.length - o0.1.toNat) ((List.replicate 24 0),(List.replicate 24 0),false))) rfl rfl .no rfl rfl sl59 sz41 (.val rfl hx2g.2.1) hx2g.2.2.2)<|
   .c (uA rfl)<|.nil rfl) ?_)
  have heq := ((sJ h5)).symm
  subst heq
  exact qe ⟨_,(show Leads _ _ (St.of [(4,.arr 0 (u0 + 1))] [(0,.arr (u0 + 1) 49 ((List.take o0.1.toNat (List.take o0.1.toNat o0.2 ++ List.replicate (o0.2.length - o0.1.toNat) ((List.replicate 24 0),(List.replicate 24 0),false))).map eSp))]) from .w (wkF ⟨⟨_,rfl,.arr rfl rfl⟩,trivial⟩ ⟨.arr rfl rfl,trivial⟩ (qq rfl))),.inr rfl,_,res1 rfl rfl,rfl,rfl⟩
 refine cwS (cwR (
  .c (uM rfl)<|
  .c (uB rfl (q61 _ _) rfl)<|
  .c (uA rfl)<|.nil rfl) ?_)
 refine cwB ?_
 refine qr (V := (Int × Int × (List (B8 × B8 × Bool)))) (O := (Int × (List (B8 × B8 × Bool)))) (fun (z : (Int × Int × (List (B8 × B8 × Bool)))) => St.of [(0,.arr 0 u0),(1,.fn 101 [] []),(5,.d (eint z.1)),(6,.d (eint z.2.1))] [(0,.arr u0 49 (z.2.2.map eSp))]) hj0 (.w (wkF ⟨⟨_,rfl,.arr rfl rfl⟩,⟨_,rfl,.fn .nil .nil⟩,wD rfl,wD rfl,trivial⟩ ⟨.arr rfl rfl,trivial⟩ (qq rfl))) ?_
 intro v1 x3 hb0 hx3
 refine cwS ?_
 refine cwS (cwR (
  .c (uM rfl)<|
  .c (uM rfl)<|
  .c (q35 (enc := eSp) (xs := v1.2.2) rfl rfl .no rfl rfl sl59)<|
  .c (uB rfl (q31 _ _) rfl)<|.nil rfl) ?_)
 rcases cdS hb0 with ⟨hc1,h6⟩ | ⟨hc1,h7⟩
 ·refine cwT rfl hc1 ?_
  refine cwK ?_
  have ⟨o1,hj1,h8⟩ := bdS h6
  refine cwJ (fun (z : (Int × (List (B8 × B8 × Bool)))) => St.of [(0,.arr 0 u0),(1,.fn 101 [] []),(5,.d (eint z.1)),(6,.d (eint v1.2.1))] [(0,.arr u0 49 (z.2.map eSp))]) (fun (z : (Int × (List (B8 × B8 × Bool)))) => o1 = z) ?_ ?_
  ·intro v2 hv1; subst hv1
   refine cwR (
    .c (uM rfl)<|
    .c (uB rfl (q61 _ _) rfl)<|
    .c (uA rfl)<|.nil rfl
   ) ?_
   exact ⟨(o1.1,(IntKind.wrap .i64 (v1.2.1 + 1)),o1.2),(sJ h8),.w (wkF ⟨⟨_,rfl,.arr rfl rfl⟩,⟨_,rfl,.fn .nil .nil⟩,wD rfl,wD rfl,trivial⟩ ⟨.arr rfl rfl,trivial⟩ (qq rfl))⟩
  refine cwB ?_
  have ⟨x4,hx4,h9⟩ := bdS hj1
  have hx4g := qn hx4
  refine cwS (cwR (
   .c (uM rfl)<|
   .c (uM rfl)<|
   .c (q55 (enc := eSp) (xs := v1.2.2) rfl rfl .no rfl rfl rfl sl59 sz41 hx4g.1 hx4g.2)<|
   .c (o_ldEM (enc := eSp) (xs := v1.2.2) (r := x4) [] rfl rfl .no rfl rfl hx4g.2 rfl ta41 rfl rfl)<|
   .c (qm 1 rfl rfl .no ze41 rfl)<|
   .c (uS [] rfl sz41 rfl)<|.nil rfl) ?_)
  have ⟨x5,hx5,h10⟩ := bdS (x := ql0 x4) h9
  refine cwS (cwR (
   .c (uM rfl)<|
   .c (uL [] rfl ta41 rfl)<|
   .c (o_callV rfl rfl .no rfl Tryz.func101 rfl rfl (qG3 hx5) (.cons rfl .d .nil) ⟨trivial,trivial⟩ (.inl rfl))<|
   .c (uT rfl)<|.nil rfl) ?_)
  rcases cdS h10 with ⟨hc2,h11⟩ | ⟨hc2,h12⟩
  ·refine cwT rfl hc2 ?_
   have ⟨x6,hx6,h13⟩ := bdS h11
   have hx6g := qn hx6
   refine cwS (cwR (
    .c (uM rfl)<|
    .c (uM rfl)<|
    .c (uL [] rfl ta41 rfl)<|
    .c (q55 (enc := eSp) (xs := v1.2.2) rfl rfl .no rfl rfl rfl sl59 sz41 hx6g.1 hx6g.2)<|
    .c (o_stEM (enc := eSp) (xs := v1.2.2) (y := x4) (r := x6) rfl .no rfl rfl rfl hx6g.2 sz41 rfl (q00 _))<|.nil rfl) ?_)
   refine cwR (
    .c (uM rfl)<|
    .c (uB rfl (q61 _ _) rfl)<|
    .c (uA rfl)<|.nil rfl
   ) ?_
   exact ⟨((IntKind.wrap .i64 (v1.1 + 1)),(List.set v1.2.2 v1.1.toNat x4)),(sJ h13),.w (wkF ⟨⟨_,rfl,.arr rfl rfl⟩,⟨_,rfl,.fn .nil .nil⟩,wD rfl,wD rfl,trivial⟩ ⟨.arr rfl rfl,trivial⟩ (qq rfl))⟩
  refine cwF rfl hc2 ?_
  refine cwK ?_
  exact ⟨(v1.1,v1.2.2),(sJ h12),.w (wkF ⟨⟨_,rfl,.arr rfl rfl⟩,⟨_,rfl,.fn .nil .nil⟩,wD rfl,wD rfl,trivial⟩ ⟨.arr rfl rfl,trivial⟩ (qq rfl))⟩
 refine cwF rfl hc1 ?_
 refine qG ?_
 exact ⟨(v1.1,v1.2.2),(hx3 _ (sJ h7)).symm,.w (wkF ⟨⟨_,rfl,.arr rfl rfl⟩,wD rfl,trivial⟩ ⟨.arr rfl rfl,trivial⟩ (qq rfl))⟩
end
end Go.Val
