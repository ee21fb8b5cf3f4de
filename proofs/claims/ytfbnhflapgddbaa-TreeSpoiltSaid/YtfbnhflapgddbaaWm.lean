/- Walks of the program's functions,printed. -/
import Derived.Test.YtfbnhflapgddbaaWi
set_option linter.unusedSectionVars false
set_option linter.unusedVariables false
set_option linter.unusedSimpArgs false
set_option maxRecDepth 100000
namespace Go.Val
open Go.RowKit Go.Proofs
section
variable [NoDrw]
noncomputable def qK1 (a0 : List ttC) (a1 : Int) (a2 : Int) : Option Bool := (qw2).bind fun x0 => (qK0 3000).bind fun x1 => (qr3 a0 100 40).bind fun x2 => (qQ0 x1 0 x2).bind fun x3 => cond (decide (x3.2.1 ≠ 0)) (some false) ((((qJ (V := (Int × ttM × (List (Int × ttN)) × (List Int))) (O := ((List (Int × ttN)) ⊕ Bool)) (fun v0 => (((
     cond (decide (v0.1 < (v0.2.2.2.length : Int))) (cond (decide (x3.1 ≠ 0)) (some (decide (v0.1 < 200))) (some false)) (some false)) : Option Bool)).bind fun o0 => cond o0 (((((gx v0.2.2.2 v0.1).bind fun x4 => (qx v0.2.1 x4).bind fun x5 => cond (decide (x5.2.1 ≠ 0)) (some (.inr false)) ((fits (v0.2.2.1.length + ([(x4,x5.1)]).length) 64).bind fun _ =>
       qJ (V := (Int × (List Int))) (O := ((ttM × (List (Int × ttN)) × (List Int)) ⊕ Bool)) (fun v1 => cond (decide (v1.1 < (x5.1.2.2.length : Int))) ((gx x5.1.2.2 v1.1).bind fun x6 => (fits (v1.2.length + ([x6.2]).length) 8).bind fun _ => some (.inl ((IntKind.wrap .i64 (v1.1 + 1)),(v1.2 ++ [x6.2])))) (some (.inr (.inl (x5.2.2,(v0.2.2.1 ++ [(x4,x5.1)]),v1.2))))) (0,v0.2.2.2))
     ) : Option ((ttM × (List (Int × ttN)) × (List Int)) ⊕ Bool))).bind fun o1 => Sum.elim (fun (v2 : (ttM × (List (Int × ttN)) × (List Int))) => some (.inl ((IntKind.wrap .i64 (v0.1 + 1)),v2.1,v2.2.1,v2.2.2))) (fun w0 => some (.inr (.inr w0))) o1) (some (.inr (.inl v0.2.2.1)))) (0,x3.2.2,[],[x3.1])) : Option ((List (Int × ttN)) ⊕ Bool))).bind fun o2 =>
  Sum.elim (fun (v3 : (List (Int × ttN))) => (q11 v3 x3.1).bind fun x7 => cond (decide (x7 ≠ 0)) (some false) (cond (decide ((v3.length : Int) < 2)) (some x0) ((ck (decide ((IntKind.wrap .i64 ((v3.length : Int) - 1)) ≠ 0))).bind fun _ => (gx v3 (IntKind.wrap .i64 (1 + (Int.tmod (q61 .i64 a1 65535) (IntKind.wrap .i64 ((v3.length : Int) - 1)))))).bind fun x8 => (((
      cond (decide ((q61 .i64 a2 3) = 0)) (some ((IntKind.wrap .i64 (x8.2.1 + 1)),x8.2.2.1,x8.2.2.2)) (cond (decide ((q61 .i64 a2 3) = 1)) (cond (decide ((x8.2.2.1.length : Int) > 0)) ((cutB 1 (x8.2.2.1.length : Int) x8.2.2.1.length).bind fun _ => some (x8.2.1,(qY0 x8.2.2.1 1 (x8.2.2.1.length : Int)),x8.2.2.2)) ((cutB 1 (x8.2.2.2.length : Int) x8.2.2.2.length).bind fun _ =>
         some (x8.2.1,x8.2.2.1,(qY0 x8.2.2.2 1 (x8.2.2.2.length : Int))))) (cond (decide ((q61 .i64 a2 3) = 2)) ((cutB 0 (min (x8.2.2.1.length : Int) 2) x8.2.2.1.length).bind fun _ => (cutB 0 (min (x8.2.2.2.length : Int) 8) x8.2.2.2.length).bind fun _ => some (x8.2.1,(qY0 x8.2.2.1 0 (min (x8.2.2.1.length : Int) 2)),(qY0 x8.2.2.2 0 (min (x8.2.2.2.length : Int) 8)))) (
         cond (decide ((q61 .i64 a2 3) = 3)) ((gx v3 0).bind fun x9 => some x9.2) (some x8.2))))) : Option ttN)).bind fun o3 => (((cond x0 ((q11 (List.set v3 (IntKind.wrap .i64 (1 + (Int.tmod (q61 .i64 a1 65535) (IntKind.wrap .i64 ((v3.length : Int) - 1))))).toNat (x8.1,o3)) x3.1).bind fun x10 => some (decide (x10 = 12))) (some false)) : Option Bool)).bind fun o4 =>
     some o4))) (fun w1 => some w1) o2)
theorem qx4 {a0 : List ttC} {a1 : Int} {a2 : Int} {r : Bool} (h : qK1 a0 a1 a2 = some r) : FnOk Try.prog 7 [.d (eSC a0),.d (eint a1),.d (eint a2)] 0 (lk []) (fun rr oo => rr = .d (qU r) ∧ oo = lk []) := by
 refine fnO Try.func7 rfl rfl (cwP ?_)
 unfold qK1 at h
 refine cwS (cwR (
  .c (uA rfl)<|.nil rfl) ?_)
 have ⟨x0,hx0,h0⟩ := bdS (x := qw2) h
 refine cwS (cwR (
  .c (qe0 rfl rfl .no Try.func13 rfl rfl (law07_shown_ok hx0) .nil trivial (.inl rfl))<|
  .c (uA rfl)<|.nil rfl) ?_)
 have ⟨x1,hx1,h1⟩ := bdS (x := qK0 3000) h0
 refine cwS (cwR (
  .c (qr5 0 rfl rfl .no Try.func14 rfl rfl (qx3 hx1) (.cons rfl .d .nil) ⟨trivial,trivial⟩ rfl (.inl rfl))<|
  .c (uA rfl)<|.nil rfl) ?_)
 refine cwS ?_
 refine cwS (cwR (
  .c (uM rfl)<|
  .c (o_pnilP rfl rfl .no rfl up24)<|.nil rfl) ?_)
 refine cwF rfl rfl ?_
 refine cwK ?_
 have ⟨x2,hx2,h2⟩ := bdS (x := qr3 a0 100 40) h1
 have ⟨x3,hx3,h3⟩ := bdS (x := qQ0 x1 0 x2) h2
 refine cwS (cwR (
  .c (uM rfl)<|
  .c (qd4 rfl rfl .no rfl ifB24)<|
  .c (uM rfl)<|
  .c (qe0 rfl rfl .no Try.func16 rfl rfl (law07_few_ok hx2) (.cons rfl .d (.cons rfl .d (.cons rfl .d .nil))) ⟨trivial,trivial,trivial,trivial⟩ (.inl rfl))<|
  .c (qQ (fun _ => 0) rfl rfl .no Try.func15 rfl rfl (qS2 hx3) (.cons rfl (.ip rfl) (.cons rfl .d (.cons rfl .d .nil))) (q40 rfl ⟨(by simp [AV.live,lk,Nat.beq]),trivial,trivial,trivial⟩ rfl (OD.dat_live (q9 _)) (by simp)) (.inl rfl))<|
  .c (uM rfl)<|
  .c (uE rfl)<|
  .c (uE rfl)<|
  .c (uA rfl)<|
  .c (uA rfl)<|.nil rfl) ?_)
 refine cwS ?_
 refine cwS (cwR (
  .c (uM rfl)<|
  .c (uB rfl (qd3 _ _) rfl)<|.nil rfl) ?_)
 rcases cdS h3 with ⟨hc0,h4⟩ | ⟨hc0,h5⟩
 ·refine cwT rfl hc0 ?_
  refine cwS (cwR (
   .c (uA rfl)<|.nil rfl) ?_)
  have heq := ((sJ h4)).symm
  subst heq
  exact qw ⟨_,(show Leads _ _ (St.of [(6,.d (qU false))] []) from .w (wkF ⟨wD rfl,trivial⟩ trivial qG)),.inr rfl,_,res1 rfl rfl,rfl,rfl⟩
 refine cwF rfl hc0 ?_
 refine cwK ?_
 refine cwS (cwR (
  .c (o_bldA rfl rfl .no zo64 rfl pl64 .nil)<|
  .c (q50 1 rfl rfl .no ze64 rfl)<|
  .c (uS [] rfl sz64 rfl)<|.nil rfl) ?_)
 refine cwS (cwR (
  .c (uM rfl)<|
  .c (o_bslO (rows := ([x3.1] : List Int).map eint) 2 rfl rfl .no (.cons rfl .nil) rfl sl59 sz3 ze3 rfl (qL1 siint) (by decide) rfl)<|
  .c (uA rfl)<|.nil rfl) ?_)
 have ⟨o0,hj0,h6⟩ := bdS h5
 refine cwJ (fun (z : (List (Int × ttN))) => St.of [(1,.d (eint a1)),(2,.d (eint a2)),(7,.d (qU x0)),(9,.d (eint x3.1)),(11,.ptr 1 0)] [(1,.own (qt z))]) (fun (z : (List (Int × ttN))) => o0 = (.inl z)) ?_ ?_
 ·intro v0 hv0; subst hv0
  simp only [Sum.elim_inl] at h6
  refine cwS ?_
  refine cwL (lOp (o := 1) (y := .st [.arr 6 0]) (news := [(6,.arr 0 4 (v0.map qp))]) rfl (.st (.cons (.arr rfl) .nil)) rfl rfl ⟨rfl,trivial⟩) ?_
  refine cwW (wkF (l := [(1,.d (eint a1)),(2,.d (eint a2)),(7,.d (qU x0)),(9,.d (eint x3.1)),(11,.ptr 1 0)]) (m := [(1,.box (.st [.arr 6 0])),(6,.arr 0 4 (v0.map qp))]) ⟨wD rfl,wD rfl,wD rfl,wD rfl,⟨_,rfl,.ptr rfl rfl⟩,trivial⟩ ⟨.box rfl (.st (.cons (.arr rfl rfl) .nil)),.arr rfl rfl,trivial⟩ qG) ?_
  have ⟨x4,hx4,h7⟩ := bdS (x := q11 v0 x3.1) h6
  refine cwS (cwR (
   .c (uL [] rfl ta64 rfl)<|
   .c (qd4 rfl rfl .no rfl ifB64)<|
   .c (uM rfl)<|
   .c (qe0 rfl rfl .no Try.func22 rfl rfl (q94 hx4) (.cons rfl (.bag rfl) (.cons rfl .d .nil)) ⟨(by simp [AV.live]),trivial,trivial⟩ (.inr (DFlat.v _)))<|
   .c (uB rfl (qd3 _ _) rfl)<|.nil rfl) ?_)
  rcases cdS h7 with ⟨hc1,h8⟩ | ⟨hc1,h9⟩
  ·refine cwT rfl hc1 ?_
   refine cwS (cwR (
    .c (uA rfl)<|.nil rfl) ?_)
   have heq := ((sJ h8)).symm
   subst heq
   exact qw ⟨_,(show Leads _ _ (St.of [(6,.d (qU false))] []) from .w (wkF ⟨wD rfl,trivial⟩ trivial qG)),.inr rfl,_,res1 rfl rfl,rfl,rfl⟩
  refine cwF rfl hc1 ?_
  refine cwK ?_
  refine cwS ?_
  refine cwS (cwR (
   .c (uF rfl q84 rfl)<|
   .c (uL [0] rfl ta62 rfl)<|
   .c (qJ4 (enc := qp) (xs := v0) rfl rfl .no rfl rfl sl62)<|
   .c (uB rfl (qG0 _ _) rfl)<|.nil rfl) ?_)
  rcases cdS h9 with ⟨hc2,h10⟩ | ⟨hc2,h11⟩
  ·refine cwT rfl hc2 ?_
   refine cwS (cwR (
    .c (uM rfl)<|
    .c (uA rfl)<|.nil rfl) ?_)
   have heq := ((sJ h10)).symm
   subst heq
   exact qw ⟨_,(show Leads _ _ (St.of [(6,.d (qU x0))] []) from .w (wkF ⟨wD rfl,trivial⟩ trivial qG)),.inr rfl,_,res1 rfl rfl,rfl,rfl⟩
  refine cwF rfl hc2 ?_
  refine cwK ?_
  have ⟨x5,hx5,h12⟩ := bdS h11
  have hx5g := qs5 hx5
  refine cwS (cwR (
   .c (uM rfl)<|
   .c (uB rfl (b_and _ _) rfl)<|
   .c (uF rfl q84 rfl)<|
   .c (uL [0] rfl ta62 rfl)<|
   .c (qJ4 (enc := qp) (xs := v0) rfl rfl .no rfl rfl sl62)<|
   .c (uB rfl (qW2 _ _) rfl)<|
   .c (uB rfl (b_rem _ _ hx5g) rfl)<|
   .c (uB rfl (qN0 _ _) rfl)<|
   .c (uA rfl)<|.nil rfl) ?_)
  have ⟨x6,hx6,h13⟩ := bdS h12
  have hx6g := qD hx6
  refine cwS (cwR (
   .c (uF rfl q84 rfl)<|
   .c (uL [0] rfl ta62 rfl)<|
   .c (uM rfl)<|
   .c (qw1 (enc := qp) (xs := v0) rfl rfl .no rfl rfl rfl sl62 sz66 hx6g.1 hx6g.2)<|
   .c (o_fldE rfl rfl .no rfl rfl fld66_1 (by decide))<|
   .c (qH2 (enc := qp) (xs := v0) (r := x6) [1] rfl rfl .no rfl rfl hx6g.2 rfl ta46 rfl rfl)<|
   .c (q50 7 rfl rfl .no ze46 rfl)<|
   .c (uS [] rfl sz46 rfl)<|.nil rfl) ?_)
  have ⟨o1,hj1,h14⟩ := bdS h13
  refine cwJ (fun (z : ttN) => St.of [(7,.d (qU x0)),(9,.d (eint x3.1)),(11,.ptr 1 0),(17,.d (eint (IntKind.wrap .i64 (1 + (Int.tmod (q61 .i64 a1 65535) (IntKind.wrap .i64 ((v0.length : Int) - 1))))))),(18,.ptr 7 0)] [(1,.own (qt v0)),(7,.box (.d (qm z)))]) (fun (z : ttN) => o1 = z) ?_ ?_
  ·intro v1 hv1; subst hv1
   refine cwL (lOp (o := 1) (y := .st [.arr 8 0]) (news := [(8,.arr 0 4 (v0.map qp))]) rfl (.st (.cons (.arr rfl) .nil)) rfl rfl ⟨rfl,trivial⟩) ?_
   refine cwW (wkF (l := [(7,.d (qU x0)),(9,.d (eint x3.1)),(11,.ptr 1 0),(17,.d (eint (IntKind.wrap .i64 (1 + (Int.tmod (q61 .i64 a1 65535) (IntKind.wrap .i64 ((v0.length : Int) - 1))))))),(18,.ptr 7 0)]) (m := [(1,.box (.st [.arr 8 0])),(7,.box (.d (qm o1))),(8,.arr 0 4 (v0.map qp))]) ⟨wD rfl,wD rfl,⟨_,rfl,.ptr rfl rfl⟩,wD rfl,⟨_,rfl,.ptr rfl rfl⟩,trivial⟩ ⟨.box rfl (.st (.cons (.arr rfl rfl) .nil)),.box rfl (.d rfl),.arr rfl rfl,trivial⟩ qG) ?_
   refine cwS (cwR (
    .c (uF rfl q84 rfl)<|
    .c (uL [0] rfl ta62 rfl)<|
    .c (uM rfl)<|
    .c (uL [] rfl ta46 rfl)<|
    .c (qw1 (enc := qp) (xs := v0) rfl rfl .no rfl rfl rfl sl62 sz66 hx6g.1 hx6g.2)<|
    .c (o_fldE rfl rfl .no rfl rfl fld66_1 (by decide))<|
    .c (o_stEPM (enc := qp) (xs := v0) (y := (x6.1,o1)) (r := x6) [1] rfl .no rfl rfl rfl hx6g.2 rfl rfl sz46 rfl rfl (qx1 _))<|.nil rfl) ?_)
   have ⟨o2,hj2,h15⟩ := bdS h14
   refine cwJ (fun (z : Bool) => St.of [(6,.d (qU z))] []) (fun (z : Bool) => o2 = z) ?_ ?_
   ·intro v2 hv2; subst hv2
    have heq := ((sJ h15)).symm
    subst heq
    exact qw ⟨_,(show Leads _ _ (St.of [(6,.d (qU o2))] []) from .w (wkF ⟨wD rfl,trivial⟩ trivial qG)),.inr rfl,_,res1 rfl rfl,rfl,rfl⟩
   rcases cdS hj2 with ⟨hc3,h16⟩ | ⟨hc3,h17⟩
   ·skip
    have ⟨x7,hx7,h18⟩ := bdS (x := q11 (List.set v0 (IntKind.wrap .i64 (1 + (Int.tmod (q61 .i64 a1 65535) (IntKind.wrap .i64 ((v0.length : Int) - 1))))).toNat (x6.1,o1)) x3.1) h16
    refine cwR (
     .c (uM rfl)<|
     .c (uM rfl)<|
     .c (qA [] rfl rfl (.yes rfl rfl hc3) rfl rfl rfl ta64 rfl rfl)<|
     .c (qd4 rfl rfl (.yes rfl rfl hc3) rfl ifB64)<|
     .c (o_mv rfl rfl (.yes rfl rfl hc3) rfl)<|
     .c (qe0 rfl rfl (.yes rfl rfl hc3) Try.func22 rfl rfl (q94 hx7) (.cons rfl (.bag rfl) (.cons rfl .d .nil)) ⟨(by simp [AV.live]),trivial,trivial⟩ (.inr (DFlat.v _)))<|
     .c (qj rfl rfl (.yes rfl rfl hc3) rfl rfl (qd0 _ _) rfl)<|
     .c (uPT rfl hc3)<|
     .c (uA rfl)<|.nil rfl
    ) ?_
    exact ⟨(decide (x7 = 12)),(sJ h18),.w (wkF ⟨wD rfl,trivial⟩ trivial qG)⟩
   refine cwR (
    .c (uM rfl)<|
    .c (uM rfl)<|
    .c (uN rfl rfl hc3)<|
    .c (uN rfl rfl hc3)<|
    .c (uN rfl rfl hc3)<|
    .c (uN rfl rfl hc3)<|
    .c (uN rfl rfl hc3)<|
    .c (uPF rfl hc3)<|
    .c (uA rfl)<|.nil rfl
   ) ?_
   exact ⟨false,(sJ h17),.w (wkF ⟨wD rfl,trivial⟩ trivial qG)⟩
  refine cwS (cwR (
   .c (uM rfl)<|
   .c (uB rfl (b_and _ _) rfl)<|.nil rfl) ?_)
  refine cwB ?_
  refine cwS (cwR (
   .c (uB rfl (qd0 _ _) rfl)<|
   .c (uA rfl)<|.nil rfl) ?_)
  rcases cdS hj1 with ⟨hc4,h19⟩ | ⟨hc4,h20⟩
  ·refine cwT rfl hc4 ?_
   refine cwR (
    .c (uF rfl qE0 rfl)<|
    .c (uL [0] rfl ta3 rfl)<|
    .c (uB rfl (qN0 _ _) rfl)<|
    .c (uF rfl qE0 rfl)<|
    .c (uS [0] rfl sz3 rfl)<|.nil rfl
   ) ?_
   exact ⟨((IntKind.wrap .i64 (x6.2.1 + 1)),x6.2.2.1,x6.2.2.2),(sJ h19),.trans (lPk (o := 1) (y := .st [.arr 6 0]) (x := qt v0) (l := [(7,.d (qU x0)),(9,.d (eint x3.1)),(11,.ptr 1 0),(17,.d (eint (IntKind.wrap .i64 (1 + (Int.tmod (q61 .i64 a1 65535) (IntKind.wrap .i64 ((v0.length : Int) - 1))))))),(18,.ptr 7 0)]) (m := [(1,.own (qt v0)),(7,.box (.d (qm ((IntKind.wrap .i64 (x6.2.1 + 1)),x6.2.2.1,x6.2.2.2))))]) rfl (.st (.cons (.arr rfl) .nil)) rfl rfl ⟨⟨rfl,trivial⟩,⟨rfl,trivial⟩,⟨rfl,(by simp [AV.live,AV.lives,lk,Nat.beq])⟩,⟨rfl,trivial⟩,⟨rfl,(by simp [AV.live,AV.lives,lk,Nat.beq])⟩,trivial⟩ ⟨.inl rfl,(.inr ⟨rfl,trivial⟩),trivial⟩ rfl (OD.dat_live (qo _)) ⟨rfl,trivial⟩ qG) (.w (wkF ⟨wD rfl,wD rfl,⟨_,rfl,.ptro rfl rfl⟩,wD rfl,⟨_,rfl,.ptr rfl rfl⟩,trivial⟩ ⟨.own rfl (.of_eq rfl (qo _)),.box rfl (.d rfl),trivial⟩ qG))⟩
  refine cwF rfl hc4 ?_
  refine cwS (cwR (
   .c (uB rfl (qd0 _ _) rfl)<|
   .c (uA rfl)<|.nil rfl) ?_)
  rcases cdS h20 with ⟨hc5,h21⟩ | ⟨hc5,h22⟩
  ·refine cwT rfl hc5 ?_
   refine cwS (cwR (
    .c (uF rfl qr1 rfl)<|
    .c (uL [1] rfl ta34 rfl)<|
    .c (qV (enc := ePr) (xs := x6.2.2.1) rfl rfl .no rfl sl34)<|
    .c (uB rfl (qy3 _ _) rfl)<|.nil rfl) ?_)
   rcases cdS h21 with ⟨hc6,h23⟩ | ⟨hc6,h24⟩
   ·refine cwT rfl hc6 ?_
    have ⟨x8,hx8,h25⟩ := bdS h23
    have hx8g := qt1 hx8
    refine cwR (
     .c (uF rfl qr1 rfl)<|
     .c (uL [1] rfl ta34 rfl)<|
     .c (o_slM (enc := ePr) (xs := x6.2.2.1) rfl rfl .no rfl sl34 sz52 (.val rfl hx8g.1) .no hx8g.2.2.1 hx8g.2.2.2)<|
     .c (uF rfl qr1 rfl)<|
     .c (uS [1] rfl sz34 rfl)<|.nil rfl
    ) ?_
    exact ⟨(x6.2.1,(qY0 x6.2.2.1 1 (x6.2.2.1.length : Int)),x6.2.2.2),(sJ h25),.trans (lPk (o := 1) (y := .st [.arr 6 0]) (x := qt v0) (l := [(7,.d (qU x0)),(9,.d (eint x3.1)),(11,.ptr 1 0),(17,.d (eint (IntKind.wrap .i64 (1 + (Int.tmod (q61 .i64 a1 65535) (IntKind.wrap .i64 ((v0.length : Int) - 1))))))),(18,.ptr 7 0)]) (m := [(1,.own (qt v0)),(7,.box (.d (qm (x6.2.1,(qY0 x6.2.2.1 1 (x6.2.2.1.length : Int)),x6.2.2.2))))]) rfl (.st (.cons (.arr rfl) .nil)) rfl rfl ⟨⟨rfl,trivial⟩,⟨rfl,trivial⟩,⟨rfl,(by simp [AV.live,AV.lives,lk,Nat.beq])⟩,⟨rfl,trivial⟩,⟨rfl,(by simp [AV.live,AV.lives,lk,Nat.beq])⟩,trivial⟩ ⟨.inl rfl,(.inr ⟨rfl,trivial⟩),trivial⟩ rfl (OD.dat_live (qo _)) ⟨rfl,trivial⟩ qG) (.w (wkF ⟨wD rfl,wD rfl,⟨_,rfl,.ptro rfl rfl⟩,wD rfl,⟨_,rfl,.ptr rfl rfl⟩,trivial⟩ ⟨.own rfl (.of_eq rfl (qo _)),.box rfl (.d rfl),trivial⟩ qG))⟩
   refine cwF rfl hc6 ?_
   have ⟨x9,hx9,h26⟩ := bdS h24
   have hx9g := qt1 hx9
   refine cwR (
    .c (uF rfl qo0 rfl)<|
    .c (uL [2] rfl ta44 rfl)<|
    .c (o_slM (enc := qP) (xs := x6.2.2.2) rfl rfl .no rfl sl44 sz69 (.val rfl hx9g.1) .no hx9g.2.2.1 hx9g.2.2.2)<|
    .c (uF rfl qo0 rfl)<|
    .c (uS [2] rfl sz44 rfl)<|.nil rfl
   ) ?_
   exact ⟨(x6.2.1,x6.2.2.1,(qY0 x6.2.2.2 1 (x6.2.2.2.length : Int))),(sJ h26),.trans (lPk (o := 1) (y := .st [.arr 6 0]) (x := qt v0) (l := [(7,.d (qU x0)),(9,.d (eint x3.1)),(11,.ptr 1 0),(17,.d (eint (IntKind.wrap .i64 (1 + (Int.tmod (q61 .i64 a1 65535) (IntKind.wrap .i64 ((v0.length : Int) - 1))))))),(18,.ptr 7 0)]) (m := [(1,.own (qt v0)),(7,.box (.d (qm (x6.2.1,x6.2.2.1,(qY0 x6.2.2.2 1 (x6.2.2.2.length : Int))))))]) rfl (.st (.cons (.arr rfl) .nil)) rfl rfl ⟨⟨rfl,trivial⟩,⟨rfl,trivial⟩,⟨rfl,(by simp [AV.live,AV.lives,lk,Nat.beq])⟩,⟨rfl,trivial⟩,⟨rfl,(by simp [AV.live,AV.lives,lk,Nat.beq])⟩,trivial⟩ ⟨.inl rfl,(.inr ⟨rfl,trivial⟩),trivial⟩ rfl (OD.dat_live (qo _)) ⟨rfl,trivial⟩ qG) (.w (wkF ⟨wD rfl,wD rfl,⟨_,rfl,.ptro rfl rfl⟩,wD rfl,⟨_,rfl,.ptr rfl rfl⟩,trivial⟩ ⟨.own rfl (.of_eq rfl (qo _)),.box rfl (.d rfl),trivial⟩ qG))⟩
  refine cwF rfl hc5 ?_
  refine cwS (cwR (
   .c (uB rfl (qd0 _ _) rfl)<|
   .c (uA rfl)<|.nil rfl) ?_)
  rcases cdS h22 with ⟨hc7,h27⟩ | ⟨hc7,h28⟩
  ·refine cwT rfl hc7 ?_
   have ⟨x10,hx10,h29⟩ := bdS h27
   have hx10g := qt1 hx10
   refine cwS (cwR (
    .c (uF rfl qr1 rfl)<|
    .c (uL [1] rfl ta34 rfl)<|
    .c (uF rfl qr1 rfl)<|
    .c (uL [1] rfl ta34 rfl)<|
    .c (qV (enc := ePr) (xs := x6.2.2.1) rfl rfl .no rfl sl34)<|
    .c (o_min rfl rfl .no rfl rfl)<|
    .c (o_slM (enc := ePr) (xs := x6.2.2.1) rfl rfl .no rfl sl34 sz52 .no (.val rfl hx10g.2.1) hx10g.2.2.1 hx10g.2.2.2)<|
    .c (uF rfl qr1 rfl)<|
    .c (uS [1] rfl sz34 rfl)<|.nil rfl) ?_)
   have ⟨x11,hx11,h30⟩ := bdS h29
   have hx11g := qt1 hx11
   refine cwR (
    .c (uF rfl qo0 rfl)<|
    .c (uL [2] rfl ta44 rfl)<|
    .c (uF rfl qo0 rfl)<|
    .c (uL [2] rfl ta44 rfl)<|
    .c (qV (enc := qP) (xs := x6.2.2.2) rfl rfl .no rfl sl44)<|
    .c (o_min rfl rfl .no rfl rfl)<|
    .c (o_slM (enc := qP) (xs := x6.2.2.2) rfl rfl .no rfl sl44 sz69 .no (.val rfl hx11g.2.1) hx11g.2.2.1 hx11g.2.2.2)<|
    .c (uF rfl qo0 rfl)<|
    .c (uS [2] rfl sz44 rfl)<|.nil rfl
   ) ?_
   exact ⟨(x6.2.1,(qY0 x6.2.2.1 0 (min (x6.2.2.1.length : Int) 2)),(qY0 x6.2.2.2 0 (min (x6.2.2.2.length : Int) 8))),(sJ h30),.trans (lPk (o := 1) (y := .st [.arr 6 0]) (x := qt v0) (l := [(7,.d (qU x0)),(9,.d (eint x3.1)),(11,.ptr 1 0),(17,.d (eint (IntKind.wrap .i64 (1 + (Int.tmod (q61 .i64 a1 65535) (IntKind.wrap .i64 ((v0.length : Int) - 1))))))),(18,.ptr 7 0)]) (m := [(1,.own (qt v0)),(7,.box (.d (qm (x6.2.1,(qY0 x6.2.2.1 0 (min (x6.2.2.1.length : Int) 2)),(qY0 x6.2.2.2 0 (min (x6.2.2.2.length : Int) 8))))))]) rfl (.st (.cons (.arr rfl) .nil)) rfl rfl ⟨⟨rfl,trivial⟩,⟨rfl,trivial⟩,⟨rfl,(by simp [AV.live,AV.lives,lk,Nat.beq])⟩,⟨rfl,trivial⟩,⟨rfl,(by simp [AV.live,AV.lives,lk,Nat.beq])⟩,trivial⟩ ⟨.inl rfl,(.inr ⟨rfl,trivial⟩),trivial⟩ rfl (OD.dat_live (qo _)) ⟨rfl,trivial⟩ qG) (.w (wkF ⟨wD rfl,wD rfl,⟨_,rfl,.ptro rfl rfl⟩,wD rfl,⟨_,rfl,.ptr rfl rfl⟩,trivial⟩ ⟨.own rfl (.of_eq rfl (qo _)),.box rfl (.d rfl),trivial⟩ qG))⟩
  refine cwF rfl hc7 ?_
  refine cwS (cwR (
   .c (uB rfl (qd0 _ _) rfl)<|
   .c (uA rfl)<|.nil rfl) ?_)
  rcases cdS h28 with ⟨hc8,h31⟩ | ⟨hc8,h32⟩
  ·refine cwT rfl hc8 ?_
   have ⟨x12,hx12,h33⟩ := bdS h31
   have hx12g := qD hx12
   refine cwR (
    .c (uF rfl q84 rfl)<|
    .c (uL [0] rfl ta62 rfl)<|
    .c (qw1 (enc := qp) (xs := v0) rfl rfl .no rfl rfl rfl sl62 sz66 hx12g.1 hx12g.2)<|
    .c (o_fldE rfl rfl .no rfl rfl fld66_1 (by decide))<|
    .c (qH2 (enc := qp) (xs := v0) (r := x12) [1] rfl rfl .no rfl rfl hx12g.2 rfl ta46 rfl rfl)<|
    .c (uS [] rfl sz46 rfl)<|.nil rfl
   ) ?_
   exact ⟨x12.2,(sJ h33),.trans (lPk (o := 1) (y := .st [.arr 6 0]) (x := qt v0) (l := [(7,.d (qU x0)),(9,.d (eint x3.1)),(11,.ptr 1 0),(17,.d (eint (IntKind.wrap .i64 (1 + (Int.tmod (q61 .i64 a1 65535) (IntKind.wrap .i64 ((v0.length : Int) - 1))))))),(18,.ptr 7 0)]) (m := [(1,.own (qt v0)),(7,.box (.d (qm x12.2)))]) rfl (.st (.cons (.arr rfl) .nil)) rfl rfl ⟨⟨rfl,trivial⟩,⟨rfl,trivial⟩,⟨rfl,(by simp [AV.live,AV.lives,lk,Nat.beq])⟩,⟨rfl,trivial⟩,⟨rfl,(by simp [AV.live,AV.lives,lk,Nat.beq])⟩,trivial⟩ ⟨.inl rfl,(.inr ⟨rfl,trivial⟩),trivial⟩ rfl (OD.dat_live (qo _)) ⟨rfl,trivial⟩ qG) (.w (wkF ⟨wD rfl,wD rfl,⟨_,rfl,.ptro rfl rfl⟩,wD rfl,⟨_,rfl,.ptr rfl rfl⟩,trivial⟩ ⟨.own rfl (.of_eq rfl (qo _)),.box rfl (.d rfl),trivial⟩ qG))⟩
  refine cwF rfl hc8 ?_
  refine cwK ?_
  exact ⟨x6.2,(sJ h32),.trans (lPk (o := 1) (y := .st [.arr 6 0]) (x := qt v0) (l := [(7,.d (qU x0)),(9,.d (eint x3.1)),(11,.ptr 1 0),(17,.d (eint (IntKind.wrap .i64 (1 + (Int.tmod (q61 .i64 a1 65535) (IntKind.wrap .i64 ((v0.length : Int) - 1))))))),(18,.ptr 7 0)]) (m := [(1,.own (qt v0)),(7,.box (.d (qm x6.2)))]) rfl (.st (.cons (.arr rfl) .nil)) rfl rfl ⟨⟨rfl,trivial⟩,⟨rfl,trivial⟩,⟨rfl,(by simp [AV.live,AV.lives,lk,Nat.beq])⟩,⟨rfl,trivial⟩,⟨rfl,(by simp [AV.live,AV.lives,lk,Nat.beq])⟩,trivial⟩ ⟨.inl rfl,(.inr ⟨rfl,trivial⟩),trivial⟩ rfl (OD.dat_live (qo _)) ⟨rfl,trivial⟩ qG) (.w (wkF ⟨wD rfl,wD rfl,⟨_,rfl,.ptro rfl rfl⟩,wD rfl,⟨_,rfl,.ptr rfl rfl⟩,trivial⟩ ⟨.own rfl (.of_eq rfl (qo _)),.box rfl (.d rfl),trivial⟩ qG))⟩
 refine cwS (cwR (
  .c (uA rfl)<|.nil rfl) ?_)
 refine cwB ?_
 refine qM (V := (Int × ttM × (List (Int × ttN)) × (List Int))) (O := ((List (Int × ttN)) ⊕ Bool)) (fun (z : (Int × ttM × (List (Int × ttN)) × (List Int))) => St.of [(1,.d (eint a1)),(2,.d (eint a2)),(7,.d (qU x0)),(8,.ptr 0 0),(9,.d (eint x3.1)),(11,.ptr 1 0),(12,.arr 2 0),(13,.d (eint z.1))] [(0,.own (qc z.2.1)),(1,.own (qt z.2.2.1)),(2,.arr 0 1 (z.2.2.2.map eint))]) hj0 (.trans (lPk (o := 1) (y := .st [.d (.v (.slice none 0 0))]) (x := qt ([])) (l := [(1,.d (eint a1)),(2,.d (eint a2)),(7,.d (qU x0)),(8,.ptr 0 0),(9,.d (eint x3.1)),(11,.ptr 1 0),(12,.arr 2 0),(13,.d (eint 0))]) (m := [(0,.own (qc x3.2.2)),(1,.own (qt ([]))),(2,.arr 0 1 (([x3.1]).map eint))]) rfl (.st (.cons (.nil rfl) .nil)) rfl rfl ⟨⟨rfl,trivial⟩,⟨rfl,trivial⟩,⟨rfl,trivial⟩,⟨rfl,(by simp [AV.live,AV.lives,lk,Nat.beq])⟩,⟨rfl,trivial⟩,⟨rfl,(by simp [AV.live,AV.lives,lk,Nat.beq])⟩,⟨rfl,(by simp [AV.live,AV.lives,lk,Nat.beq])⟩,⟨rfl,trivial⟩,trivial⟩ ⟨(.inr ⟨rfl,(OD.dat_live (q9 _))⟩),.inl rfl,(.inr ⟨rfl,trivial⟩),trivial⟩ rfl (OD.dat_live (qo _)) trivial qG) (.w (wkF ⟨wD rfl,wD rfl,wD rfl,⟨_,rfl,.ptro rfl rfl⟩,wD rfl,⟨_,rfl,.ptro rfl rfl⟩,⟨_,rfl,.arr rfl rfl⟩,wD rfl,trivial⟩ ⟨.own rfl (.of_eq rfl (q9 _)),.own rfl (.of_eq rfl (qo _)),.arr rfl rfl,trivial⟩ qG))) ?_
 intro v3 x13 hb0 hx13
 refine cwS ?_
 have ⟨o3,hj3,h34⟩ := bdS hb0
 refine cwJ (fun (z : Bool) => St.of [(1,.d (eint a1)),(2,.d (eint a2)),(7,.d (qU x0)),(8,.ptr 0 0),(9,.d (eint x3.1)),(11,.ptr 1 0),(12,.arr 2 0),(13,.d (eint v3.1)),(47,.d (qU z))] [(0,.own (qc v3.2.1)),(1,.own (qt v3.2.2.1)),(2,.arr 0 1 (v3.2.2.2.map eint))]) (fun (z : Bool) => o3 = z) ?_ ?_
 ·intro v4 hv3; subst hv3
  rcases cdS h34 with ⟨hc9,h35⟩ | ⟨hc9,h36⟩
  ·refine cwT rfl hc9 ?_
   refine cwK ?_
   have ⟨o4,hj4,h37⟩ := bdS h35
   refine cwJ (fun (z : (ttM × (List (Int × ttN)) × (List Int))) => St.of [(1,.d (eint a1)),(2,.d (eint a2)),(7,.d (qU x0)),(8,.ptr 0 0),(9,.d (eint x3.1)),(11,.ptr 1 0),(12,.arr 2 0),(13,.d (eint v3.1))] [(0,.own (qc z.1)),(1,.own (qt z.2.1)),(2,.arr 0 1 (z.2.2.map eint))]) (fun (z : (ttM × (List (Int × ttN)) × (List Int))) => o4 = (.inl z)) ?_ ?_
   ·intro v5 hv4; subst hv4
    simp only [Sum.elim_inl] at h37
    refine cwR (
     .c (uM rfl)<|
     .c (uB rfl (qN0 _ _) rfl)<|
     .c (uA rfl)<|.nil rfl
    ) ?_
    exact ⟨((IntKind.wrap .i64 (v3.1 + 1)),v5.1,v5.2.1,v5.2.2),(sJ h37),.w (wkF ⟨wD rfl,wD rfl,wD rfl,⟨_,rfl,.ptro rfl rfl⟩,wD rfl,⟨_,rfl,.ptro rfl rfl⟩,⟨_,rfl,.arr rfl rfl⟩,wD rfl,trivial⟩ ⟨.own rfl (.of_eq rfl (q9 _)),.own rfl (.of_eq rfl (qo _)),.arr rfl rfl,trivial⟩ qG)⟩
   refine cwB ?_
   have ⟨x14,hx14,h38⟩ := bdS hj4
   have hx14g := qD hx14
   have ⟨x15,hx15,h39⟩ := bdS (x := qx v3.2.1 x14) h38
   refine cwS (cwR (
    .c (uM rfl)<|
    .c (uM rfl)<|
    .c (uM rfl)<|
    .c (qw1 (enc := eint) (xs := v3.2.2.2) rfl rfl .no rfl rfl rfl sl59 sz3 hx14g.1 hx14g.2)<|
    .c (qH2 (enc := eint) (xs := v3.2.2.2) (r := x14) [] rfl rfl .no rfl rfl hx14g.2 rfl ta3 rfl rfl)<|
    .c (qQ (fun n => bif Nat.beq n 0 then 0 else 3) rfl rfl .no Try.func23 rfl rfl (qh0 hx15) (.cons rfl (.p rfl) (.cons rfl .d .nil)) (qP2 [1] rfl ⟨(by simp [AV.live,AV.lives,lk,Nat.beq]),trivial,trivial⟩ ⟨⟨rfl,(OD.dat_live (q9 _))⟩,trivial⟩ rfl rfl rfl ⟨rfl,trivial⟩ rfl) (.inl rfl))<|
    .c (uM rfl)<|
    .c (uE rfl)<|
    .c (uE rfl)<|
    .c (q50 4 rfl rfl .no ze46 rfl)<|
    .c (uS [] rfl sz46 rfl)<|
    .c (uA rfl)<|.nil rfl) ?_)
   refine cwS ?_
   refine cwS (cwR (
    .c (uM rfl)<|
    .c (uB rfl (qd3 _ _) rfl)<|.nil rfl) ?_)
   rcases cdS h39 with ⟨hc10,h40⟩ | ⟨hc10,h41⟩
   ·refine cwT rfl hc10 ?_
    refine cwS (cwR (
     .c (uA rfl)<|.nil rfl) ?_)
    have he0 := ((sJ h40)).symm
    subst he0
    have he1 := ((hx13 _ (sJ h37)).symm).symm
    subst he1
    have heq := ((sJ h6)).symm
    subst heq
    exact qw ⟨_,(show Leads _ _ (St.of [(6,.d (qU false))] []) from .w (wkF ⟨wD rfl,trivial⟩ trivial qG)),.inr rfl,_,res1 rfl rfl,rfl,rfl⟩
   refine cwF rfl hc10 ?_
   refine cwK ?_
   refine cwL (lOp (o := 1) (y := .st [.arr 5 0]) (news := [(5,.arr 0 4 (v3.2.2.1.map qp))]) rfl (.st (.cons (.arr rfl) .nil)) rfl rfl ⟨rfl,trivial⟩) ?_
   refine cwW (wkF (l := [(1,.d (eint a1)),(2,.d (eint a2)),(7,.d (qU x0)),(8,.ptr 0 0),(9,.d (eint x3.1)),(11,.ptr 1 0),(12,.arr 2 0),(13,.d (eint v3.1)),(14,.ptr 4 0)]) (m := [(0,.own (qc x15.2.2)),(1,.box (.st [.arr 5 0])),(2,.arr 0 1 (v3.2.2.2.map eint)),(4,.box (.d (qm x15.1))),(5,.arr 0 4 (v3.2.2.1.map qp))]) ⟨wD rfl,wD rfl,wD rfl,⟨_,rfl,.ptro rfl rfl⟩,wD rfl,⟨_,rfl,.ptr rfl rfl⟩,⟨_,rfl,.arr rfl rfl⟩,wD rfl,⟨_,rfl,.ptr rfl rfl⟩,trivial⟩ ⟨.own rfl (.of_eq rfl (q9 _)),.box rfl (.st (.cons (.arr rfl rfl) .nil)),.arr rfl rfl,.box rfl (.d rfl),.arr rfl rfl,trivial⟩ qG) ?_
   have ⟨x16,hx16,h42⟩ := bdS h41
   have hx16g := qj0 hx16
   refine cwS (cwRA mixed (by kernel_rfl) (
    .c (uF rfl q84 rfl)<|
    .c (uL [0] rfl ta62 rfl)<|
    .c (uM rfl)<|
    .c (uM rfl)<|
    .c (qw1 (enc := eint) (xs := v3.2.2.2) rfl rfl .no rfl rfl rfl sl59 sz3 hx14g.1 hx14g.2)<|
    .c (qH2 (enc := eint) (xs := v3.2.2.2) (r := x14) [] rfl rfl .no rfl rfl hx14g.2 rfl ta3 rfl rfl)<|
    .c (uL [] rfl ta46 rfl)<|
    .c (qz5 (ds := [eint x14,qm x15.1]) rfl rfl .no zs66 rfl pl66 (.cons rfl rfl rfl rfl rfl rfl rfl (.cons rfl rfl rfl rfl rfl rfl rfl .nil)))<|
    .c (qu5 (rows := ([(x14,x15.1)] : List (Int × ttN)).map qp) rfl rfl .no (.cons rfl .nil) rfl sl62 sz66 ze66 rfl (qL1 qx1) (by decide))<|
    .c (qo2 (enc := qp) (xs := v3.2.2.1) (ys := [(x14,x15.1)]) rfl rfl .no rfl rfl rfl qx1 sl62 sl62 sz66 by66 ze66 rfl (by decide) hx16g)<|
    .c (uF rfl q84 rfl)<|
    .c (uS [0] rfl sz62 rfl)<|.nil rfl) (by kernel_rfl) ?_)
   refine cwS (cwR (
    .c (uA rfl)<|.nil rfl) ?_)
   refine cwB ?_
   refine qM (V := (Int × (List Int))) (O := ((ttM × (List (Int × ttN)) × (List Int)) ⊕ Bool)) (fun (z : (Int × (List Int))) => St.of [(1,.d (eint a1)),(2,.d (eint a2)),(7,.d (qU x0)),(8,.ptr 0 0),(9,.d (eint x3.1)),(11,.ptr 1 0),(12,.arr 2 0),(13,.d (eint v3.1)),(14,.ptr 4 0),(16,.d (eint z.1))] [(0,.own (qc x15.2.2)),(1,.own (qt (v3.2.2.1 ++ [(x14,x15.1)]))),(2,.arr 0 1 (z.2.map eint)),(4,.box (.d (qm x15.1)))]) h42 (.trans (lPk (o := 1) (y := .st [.arr 5 (0 + 1)]) (x := qt (v3.2.2.1 ++ [(x14,x15.1)])) (l := [(1,.d (eint a1)),(2,.d (eint a2)),(7,.d (qU x0)),(8,.ptr 0 0),(9,.d (eint x3.1)),(11,.ptr 1 0),(12,.arr 2 0),(13,.d (eint v3.1)),(14,.ptr 4 0),(16,.d (eint 0))]) (m := [(0,.own (qc x15.2.2)),(1,.own (qt (v3.2.2.1 ++ [(x14,x15.1)]))),(2,.arr 0 1 (v3.2.2.2.map eint)),(4,.box (.d (qm x15.1)))]) rfl (.st (.cons (.arr rfl) .nil)) rfl rfl ⟨⟨rfl,trivial⟩,⟨rfl,trivial⟩,⟨rfl,trivial⟩,⟨rfl,(by simp [AV.live,AV.lives,lk,Nat.beq])⟩,⟨rfl,trivial⟩,⟨rfl,(by simp [AV.live,AV.lives,lk,Nat.beq])⟩,⟨rfl,(by simp [AV.live,AV.lives,lk,Nat.beq])⟩,⟨rfl,trivial⟩,⟨rfl,(by simp [AV.live,AV.lives,lk,Nat.beq])⟩,⟨rfl,trivial⟩,trivial⟩ ⟨(.inr ⟨rfl,(OD.dat_live (q9 _))⟩),.inl rfl,(.inr ⟨rfl,trivial⟩),(.inr ⟨rfl,trivial⟩),trivial⟩ rfl (OD.dat_live (qo _)) ⟨rfl,trivial⟩ qG) (.w (wkF ⟨wD rfl,wD rfl,wD rfl,⟨_,rfl,.ptro rfl rfl⟩,wD rfl,⟨_,rfl,.ptro rfl rfl⟩,⟨_,rfl,.arr rfl rfl⟩,wD rfl,⟨_,rfl,.ptr rfl rfl⟩,wD rfl,trivial⟩ ⟨.own rfl (.of_eq rfl (q9 _)),.own rfl (.of_eq rfl (qo _)),.arr rfl rfl,.box rfl (.d rfl),trivial⟩ qG))) ?_
   intro v6 x17 hb1 hx17
   refine cwS ?_
   refine cwS (cwR (
    .c (uM rfl)<|
    .c (uF rfl qo0 rfl)<|
    .c (uL [2] rfl ta44 rfl)<|
    .c (qV (enc := qP) (xs := x15.1.2.2) rfl rfl .no rfl sl44)<|
    .c (uB rfl (qG0 _ _) rfl)<|.nil rfl) ?_)
   rcases cdS hb1 with ⟨hc11,h43⟩ | ⟨hc11,h44⟩
   ·refine cwT rfl hc11 ?_
    refine cwK ?_
    refine cwS ?_
    refine cwB ?_
    have ⟨x18,hx18,h45⟩ := bdS h43
    have hx18g := qD hx18
    have ⟨x19,hx19,h46⟩ := bdS h45
    have hx19g := qj0 hx19
    refine cwR (
     .c (uM rfl)<|
     .c (uF rfl qo0 rfl)<|
     .c (uL [2] rfl ta44 rfl)<|
     .c (uM rfl)<|
     .c (qJ1 (enc := qP) (xs := x15.1.2.2) rfl rfl .no rfl rfl sl44 sz69 hx18g.1 hx18g.2)<|
     .c (qa2 rfl rfl .no rfl qM2 (by decide) rfl rfl)<|
     .c (o_ld rfl rfl .no rfl ta3 rfl rfl)<|
     .c (qu5 (rows := ([x18.2] : List Int).map eint) rfl rfl .no (.cons rfl .nil) rfl sl59 sz3 ze3 rfl (qL1 siint) (by decide))<|
     .c (qo2 (enc := eint) (xs := v6.2) (ys := [x18.2]) rfl rfl .no rfl rfl rfl siint sl59 sl59 sz3 by3 ze3 rfl (by decide) hx19g)<|
     .c (uA rfl)<|.nil rfl
    ) ?_
    refine cwR (
     .c (uM rfl)<|
     .c (uB rfl (qN0 _ _) rfl)<|
     .c (uA rfl)<|.nil rfl
    ) ?_
    exact ⟨((IntKind.wrap .i64 (v6.1 + 1)),(v6.2 ++ [x18.2])),(sJ h46),.w (wkF ⟨wD rfl,wD rfl,wD rfl,⟨_,rfl,.ptro rfl rfl⟩,wD rfl,⟨_,rfl,.ptro rfl rfl⟩,⟨_,rfl,.arr rfl rfl⟩,wD rfl,⟨_,rfl,.ptr rfl rfl⟩,wD rfl,trivial⟩ ⟨.own rfl (.of_eq rfl (q9 _)),.own rfl (.of_eq rfl (qo _)),.arr0 rfl rfl rfl,.box rfl (.d rfl),trivial⟩ qG)⟩
   refine cwF rfl hc11 ?_
   refine q10 ?_
   exact ⟨(x15.2.2,(v3.2.2.1 ++ [(x14,x15.1)]),v6.2),(hx17 _ (sJ h44)).symm,.w (wkF ⟨wD rfl,wD rfl,wD rfl,⟨_,rfl,.ptro rfl rfl⟩,wD rfl,⟨_,rfl,.ptro rfl rfl⟩,⟨_,rfl,.arr rfl rfl⟩,wD rfl,trivial⟩ ⟨.own rfl (.of_eq rfl (q9 _)),.own rfl (.of_eq rfl (qo _)),.arr rfl rfl,trivial⟩ qG)⟩
  refine cwF rfl hc9 ?_
  refine q10 ?_
  exact ⟨v3.2.2.1,(hx13 _ (sJ h36)).symm,.w (wkF ⟨wD rfl,wD rfl,wD rfl,wD rfl,⟨_,rfl,.ptro rfl rfl⟩,trivial⟩ ⟨.own rfl (.of_eq rfl (qo _)),trivial⟩ qG)⟩
 rcases cdS hj3 with ⟨hc12,h47⟩ | ⟨hc12,h48⟩
 ·skip
  rcases cdS h47 with ⟨hc13,h49⟩ | ⟨hc13,h50⟩
  ·skip
   refine cwR (
    .c (uM rfl)<|
    .c (uM rfl)<|
    .c (qJ4 (enc := eint) (xs := v3.2.2.2) rfl rfl .no rfl rfl sl59)<|
    .c (uB rfl (qG0 _ _) rfl)<|
    .c (uM rfl)<|
    .c (o_mv rfl rfl (.yes rfl rfl hc12) rfl)<|
    .c (qj rfl rfl (.yes rfl rfl hc12) rfl rfl (qd3 _ _) rfl)<|
    .c (uPT rfl hc12)<|
    .c (uM rfl)<|
    .c (o_mv rfl rfl (.yes rfl rfl hc13) rfl)<|
    .c (qj rfl rfl (.yes rfl rfl hc13) rfl rfl (qG0 _ _) rfl)<|
    .c (uPT rfl hc13)<|.nil rfl
   ) ?_
   exact ⟨(decide (v3.1 < 200)),(sJ h49),.w (wkF ⟨wD rfl,wD rfl,wD rfl,⟨_,rfl,.ptro rfl rfl⟩,wD rfl,⟨_,rfl,.ptro rfl rfl⟩,⟨_,rfl,.arr rfl rfl⟩,wD rfl,wD rfl,trivial⟩ ⟨.own rfl (.of_eq rfl (q9 _)),.own rfl (.of_eq rfl (qo _)),.arr rfl rfl,trivial⟩ qG)⟩
  refine cwR (
   .c (uM rfl)<|
   .c (uM rfl)<|
   .c (qJ4 (enc := eint) (xs := v3.2.2.2) rfl rfl .no rfl rfl sl59)<|
   .c (uB rfl (qG0 _ _) rfl)<|
   .c (uM rfl)<|
   .c (o_mv rfl rfl (.yes rfl rfl hc12) rfl)<|
   .c (qj rfl rfl (.yes rfl rfl hc12) rfl rfl (qd3 _ _) rfl)<|
   .c (uPT rfl hc12)<|
   .c (uM rfl)<|
   .c (uN rfl rfl hc13)<|
   .c (uN rfl rfl hc13)<|
   .c (uPF rfl hc13)<|.nil rfl
  ) ?_
  exact ⟨false,(sJ h50),.w (wkF ⟨wD rfl,wD rfl,wD rfl,⟨_,rfl,.ptro rfl rfl⟩,wD rfl,⟨_,rfl,.ptro rfl rfl⟩,⟨_,rfl,.arr rfl rfl⟩,wD rfl,wD rfl,trivial⟩ ⟨.own rfl (.of_eq rfl (q9 _)),.own rfl (.of_eq rfl (qo _)),.arr rfl rfl,trivial⟩ qG)⟩
 refine cwR (
  .c (uM rfl)<|
  .c (uM rfl)<|
  .c (qJ4 (enc := eint) (xs := v3.2.2.2) rfl rfl .no rfl rfl sl59)<|
  .c (uB rfl (qG0 _ _) rfl)<|
  .c (uM rfl)<|
  .c (uN rfl rfl hc12)<|
  .c (uN rfl rfl hc12)<|
  .c (uPF rfl hc12)<|
  .c (uM rfl)<|
  .c (uN rfl rfl rfl)<|
  .c (uN rfl rfl rfl)<|
  .c (uPF rfl rfl)<|.nil rfl
 ) ?_
 exact ⟨false,(sJ h48),.w (wkF ⟨wD rfl,wD rfl,wD rfl,⟨_,rfl,.ptro rfl rfl⟩,wD rfl,⟨_,rfl,.ptro rfl rfl⟩,⟨_,rfl,.arr rfl rfl⟩,wD rfl,wD rfl,trivial⟩ ⟨.own rfl (.of_eq rfl (q9 _)),.own rfl (.of_eq rfl (qo _)),.arr rfl rfl,trivial⟩ qG)⟩
end
end Go.Val
