/- Walks of the program's functions,printed. -/
import Derived.Test.YtfbnhflapgddbaaWj
import Derived.Test.YtfbnhflapgddbaaHk
set_option linter.unusedSectionVars false
set_option linter.unusedVariables false
set_option linter.unusedSimpArgs false
set_option maxRecDepth 100000
namespace Go.Val
open Go.RowKit Go.Proofs
section
variable [NoDrw]
noncomputable def qE1 (a0 : List ttC) (a1 : ttC) : Option Bool := (qh2).bind fun x0 => (qO1 a0).bind fun x1 => cond (!x1.2.2) (some false) ((((cond (decide (x1.2.1 ≠ 0)) ((qp x1.1 x1.2.1).bind fun x2 => cond (decide (x2.2.1 ≠ 0)) (some (.inr false)) (some (.inl (x2.1.1,x2.2.2)))) (some (.inl (0,x1.1)))) : Option ((Int × ttM) ⊕ Bool))).bind fun o0 =>
  Sum.elim (fun (v0 : (Int × ttM)) => (cutB 0 (min (a1.2.1.size : Int) 40) a1.2.1.size).bind fun _ => (qY v0.2).bind fun x3 => (qr0 x3.2 x1.2.1 ([(a1.1,(a1.2.1.extract 0 (min (a1.2.1.size : Int) 40).toNat),a1.2.2)])).bind fun x4 => (qY x4.2.2).bind fun x5 => (((cond (decide (x4.2.1 ≠ 0)) (some true) (cond (decide ((IntKind.wrap .i64 (x3.1 - x5.1)) < 0)) (
      some true) (some (decide ((IntKind.wrap .i64 (x3.1 - x5.1)) > (IntKind.wrap .i64 ((IntKind.wrap .i64 (2 * (IntKind.wrap .i64 (v0.1 + 1)))) + 1))))))) : Option Bool)).bind fun o1 => cond o1 (some false) ((((cond x0 ((qQ0 x5.2 x1.2.1).bind fun x6 => cond (decide (x6.1 = 0)) ((qN1 x6.2 3000 ([x4.1])).bind fun x7 => cond x7.1 ((qv0 x7.2 x4.1).bind fun x8 =>
        some (decide (x8.1 = 0))) (some false)) (some false)) (some false)) : Option Bool)).bind fun o2 => some o2)) (fun w0 => some w0) o0)
theorem qp4 {a0 : List ttC} {a1 : ttC} {r : Bool} (h : qE1 a0 a1 = some r) : FnOk Try.prog 10 [.d (eSC a0),.d (eCg a1)] 0 (lk []) (fun rr oo => rr = .d (qW r) ∧ oo = lk []) := by
 refine fnO Try.func10 rfl rfl (cwP ?_)
 unfold qE1 at h
 refine cwS (cwR (
  .c (uX 0 rfl)<|
  .c (uA rfl)<|.nil rfl) ?_)
 have ⟨x0,hx0,h0⟩ := bdS (x := qh2) h
 refine cwS (cwR (
  .c (qo0 rfl rfl .no Try.func13 rfl rfl (law07_shown_ok hx0) .nil trivial (.inl rfl))<|
  .c (uA rfl)<|.nil rfl) ?_)
 have ⟨x1,hx1,h1⟩ := bdS (x := qO1 a0) h0
 refine cwS (cwR (
  .c (uM rfl)<|
  .c (qJ4 1 rfl rfl .no Try.func29 rfl rfl (law07_grown_ok hx1) (.cons rfl .d .nil) ⟨trivial,trivial⟩ rfl (.inl rfl))<|
  .c (uM rfl)<|
  .c (uE rfl)<|
  .c (uE rfl)<|
  .c (uE rfl)<|
  .c (uA rfl)<|
  .c (uA rfl)<|
  .c (uA rfl)<|.nil rfl) ?_)
 refine cwS ?_
 refine cwS (cwR (
  .c (uM rfl)<|
  .c (uT rfl)<|.nil rfl) ?_)
 rcases cdS h1 with ⟨hc0,h2⟩ | ⟨hc0,h3⟩
 ·refine cwT rfl hc0 ?_
  refine cwS (cwR (
   .c (uA rfl)<|.nil rfl) ?_)
  have heq := ((sJ h2)).symm
  subst heq
  exact qt ⟨_,(show Leads _ _ (St.of [(4,.d (qW false))] []) from .w (wkF ⟨wD rfl,trivial⟩ trivial qF)),.inr rfl,_,res1 rfl rfl,rfl,rfl⟩
 refine cwF rfl hc0 ?_
 refine cwK ?_
 refine cwS (cwR (
  .c (uA rfl)<|.nil rfl) ?_)
 have ⟨o0,hj0,h4⟩ := bdS h3
 refine cwJ (fun (z : (Int × ttM)) => St.of [(3,.ptr 0 0),(5,.d (qW x0)),(6,.ptr 1 0),(7,.d (eint x1.2.1)),(9,.d (eint z.1))] [(0,.box (.d (eCg a1))),(1,.own (qc z.2))]) (fun (z : (Int × ttM)) => o0 = (.inl z)) ?_ ?_
 ·intro v0 hv0; subst hv0
  simp only [Sum.elim_inl] at h4
  have ⟨x2,hx2,h5⟩ := bdS h4
  have hx2g := qb2 hx2
  refine cwS (cwR (
   .c (uF rfl qH4 rfl)<|
   .c (uL [1] rfl ta9 rfl)<|
   .c (uF rfl qH4 rfl)<|
   .c (uL [1] rfl ta9 rfl)<|
   .c (o_lenS rfl rfl .no rfl un9)<|
   .c (o_min rfl rfl .no rfl rfl)<|
   .c (o_slS rfl rfl .no rfl un9 .no (.val rfl hx2g.2.1) hx2g.2.2.1 hx2g.2.2.2)<|
   .c (uF rfl qH4 rfl)<|
   .c (uS [1] rfl sz9 rfl)<|.nil rfl) ?_)
  have ⟨x3,hx3,h6⟩ := bdS (x := qY v0.2) h5
  refine cwS (cwR (
   .c (uM rfl)<|
   .c (qC (fun _ => 1) rfl rfl .no Try.func25 rfl rfl (qC0 hx3) (.cons rfl (.p rfl) .nil) (qM rfl ⟨(by simp [AV.live,lk,Nat.beq]),trivial⟩ rfl (OD.dat_live (q9 _)) (by simp)) (.inl rfl))<|
   .c (uA rfl)<|.nil rfl) ?_)
  have ⟨x4,hx4,h7⟩ := bdS (x := qr0 x3.2 x1.2.1 ([(a1.1,(a1.2.1.extract 0 (min (a1.2.1.size : Int) 40).toNat),a1.2.2)])) h6
  refine cwS (cwR (
   .c (uM rfl)<|
   .c (qj3 rfl rfl .no rfl q35)<|
   .c (uM rfl)<|
   .c (uL [] rfl ta33 rfl)<|
   .c (qR4 (rows := ([(a1.1,(a1.2.1.extract 0 (min (a1.2.1.size : Int) 40).toNat),a1.2.2)] : List ttC).map eCg) rfl rfl .no (.cons rfl .nil) rfl sl22 sz33 ze33 rfl (qh1 q50) (by decide))<|
   .c (qC (fun _ => 1) rfl rfl .no Try.func15 rfl rfl (qV1 hx4) (.cons rfl (.ip rfl) (.cons rfl .d (.cons rfl .d .nil))) (qM rfl ⟨(by simp [AV.live,lk,Nat.beq]),trivial,trivial,trivial⟩ rfl (OD.dat_live (q9 _)) (by simp)) (.inl rfl))<|
   .c (uM rfl)<|
   .c (uE rfl)<|
   .c (uE rfl)<|
   .c (uA rfl)<|
   .c (uA rfl)<|.nil rfl) ?_)
  have ⟨x5,hx5,h8⟩ := bdS (x := qY x4.2.2) h7
  refine cwS (cwR (
   .c (uM rfl)<|
   .c (uM rfl)<|
   .c (qC (fun _ => 1) rfl rfl .no Try.func25 rfl rfl (qC0 hx5) (.cons rfl (.p rfl) .nil) (qM rfl ⟨(by simp [AV.live,lk,Nat.beq]),trivial⟩ rfl (OD.dat_live (q9 _)) (by simp)) (.inl rfl))<|
   .c (uB rfl (qf3 _ _) rfl)<|
   .c (uA rfl)<|.nil rfl) ?_)
  refine cwS ?_
  have ⟨o1,hj1,h9⟩ := bdS h8
  refine cwJ (fun (z : Bool) => St.of [(5,.d (qW x0)),(6,.ptr 1 0),(7,.d (eint x1.2.1)),(13,.d (eint x4.1)),(73,.d (qW z))] [(1,.own (qc x5.2))]) (fun (z : Bool) => o1 = z) ?_ ?_
  ·intro v1 hv1; subst hv1
   rcases cdS h9 with ⟨hc1,h10⟩ | ⟨hc1,h11⟩
   ·refine cwT rfl hc1 ?_
    refine cwS (cwR (
     .c (uA rfl)<|.nil rfl) ?_)
    have heq := ((sJ h10)).symm
    subst heq
    exact qt ⟨_,(show Leads _ _ (St.of [(4,.d (qW false))] []) from .w (wkF ⟨wD rfl,trivial⟩ trivial qF)),.inr rfl,_,res1 rfl rfl,rfl,rfl⟩
   refine cwF rfl hc1 ?_
   refine cwK ?_
   have ⟨o2,hj2,h12⟩ := bdS h11
   refine cwJ (fun (z : Bool) => St.of [(4,.d (qW z))] []) (fun (z : Bool) => o2 = z) ?_ ?_
   ·intro v2 hv2; subst hv2
    have heq := ((sJ h12)).symm
    subst heq
    exact qt ⟨_,(show Leads _ _ (St.of [(4,.d (qW o2))] []) from .w (wkF ⟨wD rfl,trivial⟩ trivial qF)),.inr rfl,_,res1 rfl rfl,rfl,rfl⟩
   rcases cdS hj2 with ⟨hc2,h13⟩ | ⟨hc2,h14⟩
   ·skip
    have ⟨x6,hx6,h15⟩ := bdS (x := qQ0 x5.2 x1.2.1) h13
    rcases cdS h15 with ⟨hc3,h16⟩ | ⟨hc3,h17⟩
    ·skip
     have ⟨x7,hx7,h18⟩ := bdS (x := qN1 x6.2 3000 ([x4.1])) h16
     rcases cdS h18 with ⟨hc4,h19⟩ | ⟨hc4,h20⟩
     ·skip
      have ⟨x8,hx8,h21⟩ := bdS (x := qv0 x7.2 x4.1) h19
      refine cwR (
       .c (uM rfl)<|
       .c (uM rfl)<|
       .c (o_mv rfl rfl (.yes rfl rfl hc2) rfl)<|
       .c (qj3 rfl rfl (.yes rfl rfl hc2) rfl q35)<|
       .c (o_mv rfl rfl (.yes rfl rfl hc2) rfl)<|
       .c (qC (fun _ => 1) rfl rfl (.yes rfl rfl hc2) Try.func21 rfl rfl (qx0 hx6) (.cons rfl (.ip rfl) (.cons rfl .d .nil)) (qM rfl ⟨(by simp [AV.live,lk,Nat.beq]),trivial,trivial⟩ rfl (OD.dat_live (q9 _)) (by simp)) (.inl rfl))<|
       .c (qj rfl rfl (.yes rfl rfl hc2) rfl rfl (q80 _ _) rfl)<|
       .c (uPT rfl hc2)<|
       .c (uM rfl)<|
       .c (o_mv rfl rfl (.yes rfl rfl hc3) rfl)<|
       .c (o_mv rfl rfl (.yes rfl rfl hc3) rfl)<|
       .c (qR4 (rows := ([x4.1] : List Int).map eint) rfl rfl (.yes rfl rfl hc3) (.cons rfl .nil) rfl sl59 sz3 ze3 rfl (qh1 siint) (by decide))<|
       .c (qC (fun _ => 1) rfl rfl (.yes rfl rfl hc3) Try.func26 rfl rfl (qP3 hx7) (.cons rfl (.p rfl) (.cons rfl .d (.cons rfl .d .nil))) (qM rfl ⟨(by simp [AV.live,lk,Nat.beq]),trivial,trivial,trivial⟩ rfl (OD.dat_live (q9 _)) (by simp)) (.inl rfl))<|
       .c (uPT rfl hc3)<|
       .c (uM rfl)<|
       .c (o_mv rfl rfl (.yes rfl rfl hc4) rfl)<|
       .c (qj3 rfl rfl (.yes rfl rfl hc4) rfl q35)<|
       .c (o_mv rfl rfl (.yes rfl rfl hc4) rfl)<|
       .c (qC (fun _ => 1) rfl rfl (.yes rfl rfl hc4) Try.func22 rfl rfl (qi1 hx8) (.cons rfl (.ip rfl) (.cons rfl .d .nil)) (qM rfl ⟨(by simp [AV.live,lk,Nat.beq]),trivial,trivial⟩ rfl (OD.dat_live (q9 _)) (by simp)) (.inl rfl))<|
       .c (qj rfl rfl (.yes rfl rfl hc4) rfl rfl (q80 _ _) rfl)<|
       .c (uPT rfl hc4)<|
       .c (uA rfl)<|.nil rfl
      ) ?_
      exact ⟨(decide (x8.1 = 0)),(sJ h21),.w (wkF ⟨wD rfl,trivial⟩ trivial qF)⟩
     refine cwR (
      .c (uM rfl)<|
      .c (uM rfl)<|
      .c (o_mv rfl rfl (.yes rfl rfl hc2) rfl)<|
      .c (qj3 rfl rfl (.yes rfl rfl hc2) rfl q35)<|
      .c (o_mv rfl rfl (.yes rfl rfl hc2) rfl)<|
      .c (qC (fun _ => 1) rfl rfl (.yes rfl rfl hc2) Try.func21 rfl rfl (qx0 hx6) (.cons rfl (.ip rfl) (.cons rfl .d .nil)) (qM rfl ⟨(by simp [AV.live,lk,Nat.beq]),trivial,trivial⟩ rfl (OD.dat_live (q9 _)) (by simp)) (.inl rfl))<|
      .c (qj rfl rfl (.yes rfl rfl hc2) rfl rfl (q80 _ _) rfl)<|
      .c (uPT rfl hc2)<|
      .c (uM rfl)<|
      .c (o_mv rfl rfl (.yes rfl rfl hc3) rfl)<|
      .c (o_mv rfl rfl (.yes rfl rfl hc3) rfl)<|
      .c (qR4 (rows := ([x4.1] : List Int).map eint) rfl rfl (.yes rfl rfl hc3) (.cons rfl .nil) rfl sl59 sz3 ze3 rfl (qh1 siint) (by decide))<|
      .c (qC (fun _ => 1) rfl rfl (.yes rfl rfl hc3) Try.func26 rfl rfl (qP3 hx7) (.cons rfl (.p rfl) (.cons rfl .d (.cons rfl .d .nil))) (qM rfl ⟨(by simp [AV.live,lk,Nat.beq]),trivial,trivial,trivial⟩ rfl (OD.dat_live (q9 _)) (by simp)) (.inl rfl))<|
      .c (uPT rfl hc3)<|
      .c (uM rfl)<|
      .c (uN rfl rfl hc4)<|
      .c (uN rfl rfl hc4)<|
      .c (uN rfl rfl hc4)<|
      .c (uN rfl rfl hc4)<|
      .c (uN rfl rfl hc4)<|
      .c (uPF rfl hc4)<|
      .c (uA rfl)<|.nil rfl
     ) ?_
     exact ⟨false,(sJ h20),.w (wkF ⟨wD rfl,trivial⟩ trivial qF)⟩
    refine cwR (
     .c (uM rfl)<|
     .c (uM rfl)<|
     .c (o_mv rfl rfl (.yes rfl rfl hc2) rfl)<|
     .c (qj3 rfl rfl (.yes rfl rfl hc2) rfl q35)<|
     .c (o_mv rfl rfl (.yes rfl rfl hc2) rfl)<|
     .c (qC (fun _ => 1) rfl rfl (.yes rfl rfl hc2) Try.func21 rfl rfl (qx0 hx6) (.cons rfl (.ip rfl) (.cons rfl .d .nil)) (qM rfl ⟨(by simp [AV.live,lk,Nat.beq]),trivial,trivial⟩ rfl (OD.dat_live (q9 _)) (by simp)) (.inl rfl))<|
     .c (qj rfl rfl (.yes rfl rfl hc2) rfl rfl (q80 _ _) rfl)<|
     .c (uPT rfl hc2)<|
     .c (uM rfl)<|
     .c (uN rfl rfl hc3)<|
     .c (uN rfl rfl hc3)<|
     .c (uN rfl rfl hc3)<|
     .c (uN rfl rfl hc3)<|
     .c (uPF rfl hc3)<|
     .c (uM rfl)<|
     .c (uN rfl rfl rfl)<|
     .c (uN rfl rfl rfl)<|
     .c (uN rfl rfl rfl)<|
     .c (uN rfl rfl rfl)<|
     .c (uN rfl rfl rfl)<|
     .c (uPF rfl rfl)<|
     .c (uA rfl)<|.nil rfl
    ) ?_
    exact ⟨false,(sJ h17),.w (wkF ⟨wD rfl,trivial⟩ trivial qF)⟩
   refine cwR (
    .c (uM rfl)<|
    .c (uM rfl)<|
    .c (uN rfl rfl hc2)<|
    .c (uN rfl rfl hc2)<|
    .c (uN rfl rfl hc2)<|
    .c (uN rfl rfl hc2)<|
    .c (uN rfl rfl hc2)<|
    .c (uPF rfl hc2)<|
    .c (uM rfl)<|
    .c (uN rfl rfl rfl)<|
    .c (uN rfl rfl rfl)<|
    .c (uN rfl rfl rfl)<|
    .c (uN rfl rfl rfl)<|
    .c (uPF rfl rfl)<|
    .c (uM rfl)<|
    .c (uN rfl rfl rfl)<|
    .c (uN rfl rfl rfl)<|
    .c (uN rfl rfl rfl)<|
    .c (uN rfl rfl rfl)<|
    .c (uN rfl rfl rfl)<|
    .c (uPF rfl rfl)<|
    .c (uA rfl)<|.nil rfl
   ) ?_
   exact ⟨false,(sJ h14),.w (wkF ⟨wD rfl,trivial⟩ trivial qF)⟩
  rcases cdS hj1 with ⟨hc5,h22⟩ | ⟨hc5,h23⟩
  ·skip
   refine cwR (
    .c (uM rfl)<|
    .c (uB rfl (ql3 _ _) rfl)<|
    .c (uM rfl)<|
    .c (uN rfl rfl hc5)<|
    .c (uN rfl rfl hc5)<|
    .c (uPT rfl hc5)<|
    .c (uM rfl)<|
    .c (uN rfl rfl rfl)<|
    .c (uN rfl rfl rfl)<|
    .c (uN rfl rfl rfl)<|
    .c (uN rfl rfl rfl)<|
    .c (uN rfl rfl rfl)<|
    .c (uN rfl rfl rfl)<|
    .c (uPT rfl rfl)<|.nil rfl
   ) ?_
   exact ⟨true,(sJ h22),.w (wkF ⟨wD rfl,⟨_,rfl,.ptro rfl rfl⟩,wD rfl,wD rfl,wD rfl,trivial⟩ ⟨.own rfl (.of_eq rfl (q9 _)),trivial⟩ qF)⟩
  rcases cdS h23 with ⟨hc6,h24⟩ | ⟨hc6,h25⟩
  ·skip
   refine cwR (
    .c (uM rfl)<|
    .c (uB rfl (ql3 _ _) rfl)<|
    .c (uM rfl)<|
    .c (o_mv rfl rfl (.yes rfl rfl hc5) rfl)<|
    .c (qj rfl rfl (.yes rfl rfl hc5) rfl rfl (qw0 _ _) rfl)<|
    .c (uPF rfl hc5)<|
    .c (uM rfl)<|
    .c (uN rfl rfl hc6)<|
    .c (uN rfl rfl hc6)<|
    .c (uN rfl rfl hc6)<|
    .c (uN rfl rfl hc6)<|
    .c (uN rfl rfl hc6)<|
    .c (uN rfl rfl hc6)<|
    .c (uPT rfl hc6)<|.nil rfl
   ) ?_
   exact ⟨true,(sJ h24),.w (wkF ⟨wD rfl,⟨_,rfl,.ptro rfl rfl⟩,wD rfl,wD rfl,wD rfl,trivial⟩ ⟨.own rfl (.of_eq rfl (q9 _)),trivial⟩ qF)⟩
  refine cwR (
   .c (uM rfl)<|
   .c (uB rfl (ql3 _ _) rfl)<|
   .c (uM rfl)<|
   .c (o_mv rfl rfl (.yes rfl rfl hc5) rfl)<|
   .c (qj rfl rfl (.yes rfl rfl hc5) rfl rfl (qw0 _ _) rfl)<|
   .c (uPF rfl hc5)<|
   .c (uM rfl)<|
   .c (o_mv rfl rfl (.yes rfl rfl hc6) rfl)<|
   .c (o_mv rfl rfl (.yes rfl rfl hc6) rfl)<|
   .c (qj rfl rfl (.yes rfl rfl hc6) rfl rfl (qD0 _ _) rfl)<|
   .c (qj rfl rfl (.yes rfl rfl hc6) rfl rfl (b_mul _ _) rfl)<|
   .c (qj rfl rfl (.yes rfl rfl hc6) rfl rfl (qD0 _ _) rfl)<|
   .c (qj rfl rfl (.yes rfl rfl hc6) rfl rfl (q43 _ _) rfl)<|
   .c (uPF rfl hc6)<|.nil rfl
  ) ?_
  exact ⟨(decide ((IntKind.wrap .i64 (x3.1 - x5.1)) > (IntKind.wrap .i64 ((IntKind.wrap .i64 (2 * (IntKind.wrap .i64 (v0.1 + 1)))) + 1)))),(sJ h25),.w (wkF ⟨wD rfl,⟨_,rfl,.ptro rfl rfl⟩,wD rfl,wD rfl,wD rfl,trivial⟩ ⟨.own rfl (.of_eq rfl (q9 _)),trivial⟩ qF)⟩
 refine cwS (cwR (
  .c (uM rfl)<|
  .c (uB rfl (ql3 _ _) rfl)<|.nil rfl) ?_)
 rcases cdS hj0 with ⟨hc7,h26⟩ | ⟨hc7,h27⟩
 ·refine cwT rfl hc7 ?_
  have ⟨x9,hx9,h28⟩ := bdS (x := qp x1.1 x1.2.1) h26
  refine cwS (cwR (
   .c (uM rfl)<|
   .c (uM rfl)<|
   .c (qC (fun n => bif Nat.beq n 0 then 1 else 2) rfl rfl .no Try.func23 rfl rfl (q40 hx9) (.cons rfl (.p rfl) (.cons rfl .d .nil)) (qs2 [1] rfl ⟨(by simp [AV.live,AV.lives,lk,Nat.beq]),trivial,trivial⟩ ⟨⟨rfl,(OD.dat_live (q9 _))⟩,trivial⟩ rfl rfl rfl ⟨rfl,trivial⟩ rfl) (.inl rfl))<|
   .c (uM rfl)<|
   .c (uE rfl)<|
   .c (uE rfl)<|
   .c (qe0 3 rfl rfl .no ze46 rfl)<|
   .c (uS [] rfl sz46 rfl)<|
   .c (uA rfl)<|.nil rfl) ?_)
  refine cwS ?_
  refine cwS (cwR (
   .c (uM rfl)<|
   .c (uB rfl (ql3 _ _) rfl)<|.nil rfl) ?_)
  rcases cdS h28 with ⟨hc8,h29⟩ | ⟨hc8,h30⟩
  ·refine cwT rfl hc8 ?_
   refine cwS (cwR (
    .c (uA rfl)<|.nil rfl) ?_)
   have he0 := ((sJ h29)).symm
   subst he0
   have heq := ((sJ h4)).symm
   subst heq
   exact qt ⟨_,(show Leads _ _ (St.of [(4,.d (qW false))] []) from .w (wkF ⟨wD rfl,trivial⟩ trivial qF)),.inr rfl,_,res1 rfl rfl,rfl,rfl⟩
  refine cwF rfl hc8 ?_
  refine cwK ?_
  refine cwR (
   .c (uF rfl q01 rfl)<|
   .c (uL [0] rfl ta3 rfl)<|
   .c (uA rfl)<|.nil rfl
  ) ?_
  exact ⟨(x9.1.1,x9.2.2),(sJ h30),.w (wkF ⟨⟨_,rfl,.ptr rfl rfl⟩,wD rfl,⟨_,rfl,.ptro rfl rfl⟩,wD rfl,wD rfl,trivial⟩ ⟨.box rfl (.d rfl),.own rfl (.of_eq rfl (q9 _)),trivial⟩ qF)⟩
 refine cwF rfl hc7 ?_
 refine cwK ?_
 exact ⟨(0,x1.1),(sJ h27),.w (wkF ⟨⟨_,rfl,.ptr rfl rfl⟩,wD rfl,⟨_,rfl,.ptro rfl rfl⟩,wD rfl,wD rfl,trivial⟩ ⟨.box rfl (.d rfl),.own rfl (.of_eq rfl (q9 _)),trivial⟩ qF)⟩
end
end Go.Val
