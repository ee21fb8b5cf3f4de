/- Walks of the program's functions,printed. -/
import Derived.Test.YtfbnhflapgddbaaWh
set_option linter.unusedSectionVars false
set_option linter.unusedVariables false
set_option linter.unusedSimpArgs false
set_option maxRecDepth 100000
namespace Go.Val
open Go.RowKit Go.Proofs
section
variable [NoDrw]
noncomputable def qQ0 (a0 : ttM) (a1 : Int) (a2 : List ttC) : Option (Int × Int × ttM) := (((qJ (V := Int) (O := (Unit ⊕ (Int × Int × ttM))) (fun v0 => cond (decide (v0 < (a2.length : Int))) ((gx a2 v0).bind fun x0 => cond (decide ((x0.2.1.size : Int) > 40)) (some (.inr (.inr (0,1,a0)))) (some (.inl (IntKind.wrap .i64 (v0 + 1))))) (some (.inr (.inl ())))) 0
 ) : Option (Unit ⊕ (Int × Int × ttM)))).bind fun o0 => Sum.elim (fun (v1 : Unit) => cond (decide ((a2.length : Int) = 0)) ((q22 a0 a1).bind fun x1 => cond (decide (x1.1 ≠ 0)) (some (0,x1.1,x1.2)) (some (a1,0,x1.2))) ((qx2 a2).bind fun x2 => (((cond (decide (a1 = 0)) ((qk1 ([]) x2).bind fun x3 => (qT0 x3).bind fun x4 => some (.inl (0,x4,a0,[]))) (
     (qx a0 a1).bind fun x5 => cond (decide (x5.2.1 ≠ 0)) (some (.inr (0,x5.2.1,x5.2.2))) ((qV0 ([]) a1 x2 x5.2.2).bind fun x6 => cond (decide (x6.2.1 ≠ 0)) (some (.inr (0,x6.2.1,x6.2.2.2))) (some (.inl (x5.1.1,x6.1,x6.2.2.2,x6.2.2.1)))))) : Option ((Int × (List ttP) × ttM × (List Int)) ⊕ (Int × Int × ttM)))).bind fun o1 =>
   Sum.elim (fun (v2 : (Int × (List ttP) × ttM × (List Int))) => (qN3 v2.1 v2.2.1).bind fun x7 => (((cond (decide (x7.2.2 ≠ 0)) (some true) (some (!x7.2.1))) : Option Bool)).bind fun o2 => cond o2 (some (0,x7.2.2,v2.2.2.1)) ((qa1 v2.2.2.2 x7.1 v2.2.2.1).bind fun x8 => cond (decide (x8.2.1 ≠ 0)) (none) (some (x8.1,0,x8.2.2.2)))) (fun w0 => some w0) o1)) (fun w1 =>
  some w1) o0
noncomputable def qw2 : Option Bool := (qK0 100).bind fun x0 => (qQ0 x0 0 ([((List.set (List.replicate 24 0) 0 (UInt8.ofNat 7)),(ByteArray.mk #[49]),false)])).bind fun x1 => (qQ0 x1.2.2 x1.1 ([((List.set (List.replicate 24 0) 0 (UInt8.ofNat 7)),(ByteArray.mk #[]),true)])).bind fun x2 =>
 (qW1 x2.2.2 x1.1 (List.set (List.replicate 24 0) 0 (UInt8.ofNat 7))).bind fun x3 => (qW1 x3.2.2.2 x2.1 (List.set (List.replicate 24 0) 0 (UInt8.ofNat 7))).bind fun x4 => (q24).bind fun x5 => (q54 x4.2.2.2 x1.1 x5).bind fun x6 => (((cond (decide (x1.2.1 = 0)) (cond (decide (x2.2.1 = 0)) (cond (decide (x2.1 = 0)) (cond (decide (x3.1 = (ByteArray.mk #[49]))) (
      cond x3.2.1 (cond (decide (x3.2.2.1 = 0)) (cond (!x4.2.1) (cond (decide (x4.2.2.1 = 0)) (cond (decide ((x6.1.length : Int) = 1)) (cond (decide (x6.2.1 = 0)) ((qJ0 x6.2.2 x1.1).bind fun x7 => cond (decide (x7.1 = 1)) ((q02 x7.2 x1.1).bind fun x8 => cond (decide (x8.1 = 0)) ((qV1 x8.2 x1.1).bind fun x9 => cond (decide (x9.1 = 0)) (
               (qU0 x9.2).bind fun x10 => cond (decide (x10.1 = 100)) (some true) (some false)) (some false)) (some false)) (some false)) (some false)) (some false)) (some false)) (some false)) (some false)) (some false)) (some false)) (some false)) (some false)) (some false)) : Option Bool)).bind fun o0 => some o0
theorem qS2 {a0 : ttM} {a1 : Int} {a2 : List ttC} {r : (Int × Int × ttM)} (h : qQ0 a0 a1 a2 = some r) : FnOk Try.prog 15 [.ifc 24 (.ptr 0 0),.d (eint a1),.d (eSC a2)] 1 (lk [(0,.own (qc a0))]) (fun rr oo => rr = .tup [.d (eint r.1),.d (eErr r.2.1)] ∧ oo = lk [(0,.own (qc r.2.2))]) := by
 refine fnO Try.func15 rfl rfl (cwP ?_)
 unfold qQ0 at h
 refine cwS (cwR (
  .c (uX 1 rfl)<|
  .c (uA rfl)<|
  .c (uA rfl)<|.nil rfl) ?_)
 have ⟨o0,hj0,h0⟩ := bdS h
 refine cwJ (fun (z : Unit) => St.of [(1,.d (eint a1)),(2,.d (eSC a2)),(3,.ptr 1 0)] [(0,.own (qc a0)),(1,.box (.ifc 24 (.ptr 0 0)))]) (fun (z : Unit) => o0 = (.inl z)) ?_ ?_
 ·intro v0 hv0; subst hv0
  simp only [Sum.elim_inl] at h0
  refine cwS ?_
  refine cwS (cwR (
   .c (uM rfl)<|
   .c (qV (enc := eCg) (xs := a2) rfl rfl .no rfl sl22)<|
   .c (uB rfl (qd0 _ _) rfl)<|.nil rfl) ?_)
  rcases cdS h0 with ⟨hc0,h1⟩ | ⟨hc0,h2⟩
  ·refine cwT rfl hc0 ?_
   have ⟨x0,hx0,h3⟩ := bdS (x := q22 a0 a1) h1
   refine cwS (cwR (
    .c (uL [] rfl ta90 rfl)<|
    .c (uM rfl)<|
    .c (qQ (fun _ => 0) rfl rfl .no Try.func33 rfl rfl (tree_Clone_o_ok hx0) (.cons rfl (.ip rfl) (.cons rfl .d .nil)) (q40 rfl ⟨(by simp [AV.live,lk,Nat.beq]),trivial,trivial⟩ rfl (OD.dat_live (q9 _)) (by simp)) (.inl rfl))<|
    .c (uA rfl)<|.nil rfl) ?_)
   refine cwS ?_
   refine cwS (cwR (
    .c (uM rfl)<|
    .c (uB rfl (qd3 _ _) rfl)<|.nil rfl) ?_)
   rcases cdS h3 with ⟨hc1,h4⟩ | ⟨hc1,h5⟩
   ·refine cwT rfl hc1 ?_
    refine cwS (cwR (
     .c (uM rfl)<|
     .c (uA rfl)<|
     .c (uA rfl)<|.nil rfl) ?_)
    have heq := ((sJ h4)).symm
    subst heq
    exact qw ⟨_,(show Leads _ _ (St.of [(6,.d (eint 0)),(7,.d (eErr x0.1))] [(0,.own (qc x0.2))]) from .w (wkF ⟨wD rfl,wD rfl,trivial⟩ ⟨.own rfl (.of_eq rfl (q9 _)),trivial⟩ (qv rfl))),.inr rfl,_,res2 rfl rfl rfl,rfl,rfl⟩
   refine cwF rfl hc1 ?_
   refine cwK ?_
   refine cwS (cwR (
    .c (uM rfl)<|
    .c (uA rfl)<|
    .c (uA rfl)<|.nil rfl) ?_)
   have heq := ((sJ h5)).symm
   subst heq
   exact qw ⟨_,(show Leads _ _ (St.of [(6,.d (eint a1)),(7,.d (eErr 0))] [(0,.own (qc x0.2))]) from .w (wkF ⟨wD rfl,wD rfl,trivial⟩ ⟨.own rfl (.of_eq rfl (q9 _)),trivial⟩ (qv rfl))),.inr rfl,_,res2 rfl rfl rfl,rfl,rfl⟩
  refine cwF rfl hc0 ?_
  refine cwK ?_
  refine cwS (cwR (
   .c (uL [] rfl ta90 rfl)<|
   .c (o_bldA rfl rfl .no zo93 rfl pl93 (.cons rfl rfl rfl rfl rfl rfl rfl .nil))<|
   .c (uX 3 rfl)<|
   .c (uA rfl)<|.nil rfl) ?_)
  have ⟨x1,hx1,h6⟩ := bdS (x := qx2 a2) h2
  refine cwS (cwR (
   .c (uM rfl)<|
   .c (qe0 rfl rfl .no Try.func35 rfl rfl (tree_sorted_ok hx1) (.cons rfl .d .nil) ⟨trivial,trivial⟩ (.inl rfl))<|
   .c (uA rfl)<|.nil rfl) ?_)
  refine cwS (cwR (
   .c (o_bslO (rows := ([] : List ttP).map qf) 4 rfl rfl .no .nil rfl sl95 qj2 qj5 rfl (qL1 qq) (by decide) rfl)<|
   .c (uA rfl)<|
   .c (uA rfl)<|.nil rfl) ?_)
  have ⟨o1,hj1,h7⟩ := bdS h6
  refine cwJ (fun (z : (Int × (List ttP) × ttM × (List Int))) => St.of [(3,.ptr 1 0),(11,.ptr 3 0),(12,.d (eint z.1)),(13,.d (qk z.2.1))] [(0,.own (qc z.2.2.1)),(1,.box (.ifc 24 (.ptr 0 0))),(3,.own (qd 0 z.2.2.2))]) (fun (z : (Int × (List ttP) × ttM × (List Int))) => o1 = (.inl z)) ?_ ?_
  ·intro v1 hv1; subst hv1
   simp only [Sum.elim_inl] at h7
   have ⟨x2,hx2,h8⟩ := bdS (x := qN3 v1.1 v1.2.1) h7
   refine cwS (cwR (
    .c (uM rfl)<|
    .c (uM rfl)<|
    .c (qe0 rfl rfl .no Try.func39 rfl rfl (tree_top_ok hx2) (.cons rfl .d (.cons rfl .d .nil)) ⟨trivial,trivial,trivial⟩ (.inl rfl))<|
    .c (uM rfl)<|
    .c (uE rfl)<|
    .c (uE rfl)<|
    .c (uE rfl)<|
    .c (q50 7 rfl rfl .no qj5 rfl)<|
    .c (o_st [] rfl .no rfl rfl rfl rfl rfl qj2 (qq x2.1) (qq ((List.replicate 24 0),0,(none : Option Fr))))<|
    .c (uA rfl)<|
    .c (uA rfl)<|.nil rfl) ?_)
   refine cwS ?_
   have ⟨o2,hj2,h9⟩ := bdS h8
   refine cwJ (fun (z : Bool) => St.of [(3,.ptr 1 0),(11,.ptr 3 0),(16,.ptr 7 0),(18,.d (eErr x2.2.2)),(87,.d (qU z))] [(0,.own (qc v1.2.2.1)),(1,.box (.ifc 24 (.ptr 0 0))),(3,.own (qd 0 v1.2.2.2)),(7,.box (.d (qf x2.1)))]) (fun (z : Bool) => o2 = z) ?_ ?_
   ·intro v2 hv2; subst hv2
    rcases cdS h9 with ⟨hc2,h10⟩ | ⟨hc2,h11⟩
    ·refine cwT rfl hc2 ?_
     refine cwS (cwR (
      .c (uM rfl)<|
      .c (uA rfl)<|
      .c (uA rfl)<|.nil rfl) ?_)
     have heq := ((sJ h10)).symm
     subst heq
     exact qw ⟨_,(show Leads _ _ (St.of [(6,.d (eint 0)),(7,.d (eErr x2.2.2))] [(0,.own (qc v1.2.2.1))]) from .w (wkF ⟨wD rfl,wD rfl,trivial⟩ ⟨.own rfl (.of_eq rfl (q9 _)),trivial⟩ (qv rfl))),.inr rfl,_,res2 rfl rfl rfl,rfl,rfl⟩
    refine cwF rfl hc2 ?_
    refine cwK ?_
    have ⟨x3,hx3,h12⟩ := bdS (x := qa1 v1.2.2.2 x2.1 v1.2.2.1) h11
    refine cwS (cwR (
     .c (uM rfl)<|
     .c (qA [] rfl rfl .no rfl rfl rfl qA5 rfl (qq x2.1))<|
     .c (qQ (fun n => bif Nat.beq n 0 then 3 else 0) rfl rfl .no Try.func40 rfl rfl (qC3 hx3) (.cons rfl (.p rfl) (.cons rfl .d .nil)) (qQ4 rfl ⟨(by simp [AV.live,lk,Nat.beq]),trivial,trivial⟩ (by decide) rfl (by simp [qd,OB.live,OD.live,OD.lives,AV.live,lk,Nat.beq]) rfl (OD.dat_live (q9 _)) (by simp)) (.inl rfl))<|
     .c (uM rfl)<|
     .c (uE rfl)<|
     .c (uE rfl)<|
     .c (uA rfl)<|
     .c (uA rfl)<|.nil rfl) ?_)
    refine cwS ?_
    refine cwS (cwR (
     .c (uM rfl)<|
     .c (uB rfl (qd3 _ _) rfl)<|.nil rfl) ?_)
    rcases cdS h12 with ⟨hc3,h13⟩ | ⟨hc3,h14⟩
    ·refine cwT rfl hc3 ?_
     refine cwS ?_
     exact nomatch h13
    refine cwF rfl hc3 ?_
    refine cwK ?_
    refine cwS (cwR (
     .c (uM rfl)<|
     .c (uA rfl)<|
     .c (uA rfl)<|.nil rfl) ?_)
    have heq := ((sJ h14)).symm
    subst heq
    exact qw ⟨_,(show Leads _ _ (St.of [(6,.d (eint x3.1)),(7,.d (eErr 0))] [(0,.own (qc x3.2.2.2))]) from .w (wkF ⟨wD rfl,wD rfl,trivial⟩ ⟨.own rfl (.of_eq rfl (q9 _)),trivial⟩ (qv rfl))),.inr rfl,_,res2 rfl rfl rfl,rfl,rfl⟩
   rcases cdS hj2 with ⟨hc4,h15⟩ | ⟨hc4,h16⟩
   ·skip
    refine cwR (
     .c (uM rfl)<|
     .c (uB rfl (qd3 _ _) rfl)<|
     .c (uM rfl)<|
     .c (uN rfl rfl hc4)<|
     .c (uN rfl rfl hc4)<|
     .c (uPT rfl hc4)<|.nil rfl
    ) ?_
    exact ⟨true,(sJ h15),.w (wkF ⟨⟨_,rfl,.ptr rfl rfl⟩,⟨_,rfl,.ptro rfl rfl⟩,⟨_,rfl,.ptr rfl rfl⟩,wD rfl,wD rfl,trivial⟩ ⟨.own rfl (.of_eq rfl (q9 _)),.box rfl (.ifc (.ptro rfl rfl)),.own rfl (.st (.cons (.av (.ifc (.ptro rfl rfl))) (.cons (.arr rfl) .nil))),.box rfl (.d rfl),trivial⟩ (qv rfl))⟩
   refine cwR (
    .c (uM rfl)<|
    .c (uB rfl (qd3 _ _) rfl)<|
    .c (uM rfl)<|
    .c (o_mv rfl rfl (.yes rfl rfl hc4) rfl)<|
    .c (qo5 rfl rfl (.yes rfl rfl hc4) rfl)<|
    .c (uPF rfl hc4)<|.nil rfl
   ) ?_
   exact ⟨(!x2.2.1),(sJ h16),.w (wkF ⟨⟨_,rfl,.ptr rfl rfl⟩,⟨_,rfl,.ptro rfl rfl⟩,⟨_,rfl,.ptr rfl rfl⟩,wD rfl,wD rfl,trivial⟩ ⟨.own rfl (.of_eq rfl (q9 _)),.box rfl (.ifc (.ptro rfl rfl)),.own rfl (.st (.cons (.av (.ifc (.ptro rfl rfl))) (.cons (.arr rfl) .nil))),.box rfl (.d rfl),trivial⟩ (qv rfl))⟩
  refine cwS (cwR (
   .c (uM rfl)<|
   .c (uB rfl (qd0 _ _) rfl)<|.nil rfl) ?_)
  rcases cdS hj1 with ⟨hc5,h17⟩ | ⟨hc5,h18⟩
  ·refine cwT rfl hc5 ?_
   have ⟨x4,hx4,h19⟩ := bdS (x := qk1 ([]) x1) h17
   have ⟨x5,hx5,h20⟩ := bdS (x := qT0 x4) h19
   refine cwR (
    .c (uM rfl)<|
    .c (qe0 rfl rfl .no Try.func37 rfl rfl (qv4 hx4) (.cons rfl .nil (.cons rfl .d .nil)) ⟨trivial,trivial,trivial⟩ (.inl rfl))<|
    .c (qe0 rfl rfl .no Try.func36 rfl rfl (qt3 hx5) (.cons rfl .d .nil) ⟨trivial,trivial⟩ (.inl rfl))<|
    .c (uA rfl)<|.nil rfl
   ) ?_
   exact ⟨(0,x5,a0,[]),(sJ h20),.trans (lPk (o := 3) (y := .st [.ifc 24 (.ptr 0 0),.d (.v (.slice none 0 0))]) (x := qd 0 ([])) (l := [(3,.ptr 1 0),(11,.ptr 3 0),(12,.d (eint 0)),(13,.d (qk x5))]) (m := [(0,.own (qc a0)),(1,.box (.ifc 24 (.ptr 0 0))),(3,.own (qd 0 ([])))]) rfl (.st (.cons (.av rfl) (.cons (.nil rfl) .nil))) rfl rfl ⟨⟨rfl,(by simp [AV.live,AV.lives,lk,Nat.beq])⟩,⟨rfl,(by simp [AV.live,AV.lives,lk,Nat.beq])⟩,⟨rfl,trivial⟩,⟨rfl,trivial⟩,trivial⟩ ⟨(.inr ⟨rfl,(OD.dat_live (q9 _))⟩),(.inr ⟨rfl,(by simp [OB.live,AV.live,AV.lives,lk,Nat.beq])⟩),.inl rfl,trivial⟩ rfl (by simp [qd,OB.live,OD.live,OD.lives,AV.live,lk,Nat.beq]) trivial (qv rfl)) (.w (wkF ⟨⟨_,rfl,.ptr rfl rfl⟩,⟨_,rfl,.ptro rfl rfl⟩,wD rfl,wD rfl,trivial⟩ ⟨.own rfl (.of_eq rfl (q9 _)),.box rfl (.ifc (.ptro rfl rfl)),.own rfl (.st (.cons (.av (.ifc (.ptro rfl rfl))) (.cons (.arr rfl) .nil))),trivial⟩ (qv rfl)))⟩
  refine cwF rfl hc5 ?_
  have ⟨x6,hx6,h21⟩ := bdS (x := qx a0 a1) h18
  refine cwS (cwR (
   .c (uL [] rfl ta90 rfl)<|
   .c (uM rfl)<|
   .c (o_inv (fun n => bif Nat.beq n 0 then 0 else 5) rfl rfl .no rfl Try.func23 rfl rfl rfl qr4 (qh0 hx6) (.cons rfl (.p rfl) (.cons rfl .d .nil)) (by decide) (qP2 [1] rfl ⟨(by simp [AV.live,AV.lives,lk,Nat.beq]),trivial,trivial⟩ ⟨⟨rfl,(OD.dat_live (q9 _))⟩,trivial⟩ rfl rfl rfl ⟨rfl,trivial⟩ rfl) (.inl rfl))<|
   .c (uM rfl)<|
   .c (uE rfl)<|
   .c (uE rfl)<|
   .c (q50 6 rfl rfl .no ze46 rfl)<|
   .c (uS [] rfl sz46 rfl)<|
   .c (uA rfl)<|.nil rfl) ?_)
  refine cwS ?_
  refine cwS (cwR (
   .c (uM rfl)<|
   .c (uB rfl (qd3 _ _) rfl)<|.nil rfl) ?_)
  rcases cdS h21 with ⟨hc6,h22⟩ | ⟨hc6,h23⟩
  ·refine cwT rfl hc6 ?_
   refine cwS (cwR (
    .c (uM rfl)<|
    .c (uA rfl)<|
    .c (uA rfl)<|.nil rfl) ?_)
   have he0 := ((sJ h22)).symm
   subst he0
   have heq := ((sJ h7)).symm
   subst heq
   exact qw ⟨_,(show Leads _ _ (St.of [(6,.d (eint 0)),(7,.d (eErr x6.2.1))] [(0,.own (qc x6.2.2))]) from .w (wkF ⟨wD rfl,wD rfl,trivial⟩ ⟨.own rfl (.of_eq rfl (q9 _)),trivial⟩ (qv rfl))),.inr rfl,_,res2 rfl rfl rfl,rfl,rfl⟩
  refine cwF rfl hc6 ?_
  refine cwK ?_
  refine cwS (cwR (
   .c (uF rfl qE0 rfl)<|
   .c (uL [0] rfl ta3 rfl)<|
   .c (uA rfl)<|.nil rfl) ?_)
  refine cwL (lPk (o := 3) (y := .st [.ifc 24 (.ptr 0 0),.d (.v (.slice none 0 0))]) (x := qd 0 ([])) (l := [(1,.d (eint a1)),(2,.d (eSC x1)),(3,.ptr 1 0),(11,.ptr 3 0),(12,.d (eint x6.1.1))]) (m := [(0,.own (qc x6.2.2)),(1,.box (.ifc 24 (.ptr 0 0))),(3,.own (qd 0 ([])))]) rfl (.st (.cons (.av rfl) (.cons (.nil rfl) .nil))) rfl rfl ⟨⟨rfl,trivial⟩,⟨rfl,trivial⟩,⟨rfl,(by simp [AV.live,AV.lives,lk,Nat.beq])⟩,⟨rfl,(by simp [AV.live,AV.lives,lk,Nat.beq])⟩,⟨rfl,trivial⟩,trivial⟩ ⟨(.inr ⟨rfl,(OD.dat_live (q9 _))⟩),(.inr ⟨rfl,(by simp [OB.live,AV.live,AV.lives,lk,Nat.beq])⟩),.inl rfl,trivial⟩ rfl (by simp [qd,OB.live,OD.live,OD.lives,AV.live,lk,Nat.beq]) trivial (qv rfl)) ?_
  have ⟨x7,hx7,h24⟩ := bdS (x := qV0 ([]) a1 x1 x6.2.2) h23
  refine cwS (cwR (
   .c (uM rfl)<|
   .c (uM rfl)<|
   .c (uM rfl)<|
   .c (qQ (fun n => bif Nat.beq n 0 then 3 else 0) rfl rfl .no Try.func38 rfl rfl (q64 hx7) (.cons rfl (.p rfl) (.cons rfl .d (.cons rfl .d .nil))) (qQ4 rfl ⟨(by simp [AV.live,lk,Nat.beq]),trivial,trivial,trivial⟩ (by decide) rfl (by simp [qd,OB.live,OD.live,OD.lives,AV.live,lk,Nat.beq]) rfl (OD.dat_live (q9 _)) (by simp)) (.inl rfl))<|
   .c (uM rfl)<|
   .c (uE rfl)<|
   .c (uE rfl)<|
   .c (uA rfl)<|
   .c (uA rfl)<|.nil rfl) ?_)
  refine cwS (cwR (
   .c (uM rfl)<|
   .c (uB rfl (qd3 _ _) rfl)<|.nil rfl) ?_)
  rcases cdS h24 with ⟨hc7,h25⟩ | ⟨hc7,h26⟩
  ·refine cwT rfl hc7 ?_
   refine cwS (cwR (
    .c (uM rfl)<|
    .c (uA rfl)<|
    .c (uA rfl)<|.nil rfl) ?_)
   have he1 := ((sJ h25)).symm
   subst he1
   have heq := ((sJ h7)).symm
   subst heq
   exact qw ⟨_,(show Leads _ _ (St.of [(6,.d (eint 0)),(7,.d (eErr x7.2.1))] [(0,.own (qc x7.2.2.2))]) from .w (wkF ⟨wD rfl,wD rfl,trivial⟩ ⟨.own rfl (.of_eq rfl (q9 _)),trivial⟩ (qv rfl))),.inr rfl,_,res2 rfl rfl rfl,rfl,rfl⟩
  refine cwF rfl hc7 ?_
  refine cwK ?_
  exact ⟨(x6.1.1,x7.1,x7.2.2.2,x7.2.2.1),(sJ h26),.w (wkF ⟨⟨_,rfl,.ptr rfl rfl⟩,⟨_,rfl,.ptro rfl rfl⟩,wD rfl,wD rfl,trivial⟩ ⟨.own rfl (.of_eq rfl (q9 _)),.box rfl (.ifc (.ptro rfl rfl)),.own rfl (.st (.cons (.av (.ifc (.ptro rfl rfl))) (.cons (.arr rfl) .nil))),trivial⟩ (qv rfl))⟩
 refine cwS (cwR (
  .c (uM rfl)<|
  .c (qV (enc := eCg) (xs := a2) rfl rfl .no rfl sl22)<|
  .c (uM rfl)<|.nil rfl) ?_)
 refine cwB ?_
 refine qM (V := Int) (O := (Unit ⊕ (Int × Int × ttM))) (fun (z : Int) => St.of [(1,.d (eint a1)),(2,.d (eSC a2)),(3,.ptr 1 0),(22,.d (eSC a2)),(23,.d (eint (a2.length : Int))),(24,.d (eint z))] [(0,.own (qc a0)),(1,.box (.ifc 24 (.ptr 0 0)))]) hj0 (.w (wkF ⟨wD rfl,wD rfl,⟨_,rfl,.ptr rfl rfl⟩,wD rfl,wD rfl,wD rfl,trivial⟩ ⟨.own rfl (.of_eq rfl (q9 _)),.box rfl (.ifc (.ptro rfl rfl)),trivial⟩ (qv rfl))) ?_
 intro v3 x8 hb0 hx8
 refine cwS (cwR (
  .c (uB rfl (qG0 _ _) rfl)<|.nil rfl) ?_)
 refine cwS ?_
 rcases cdS hb0 with ⟨hc8,h27⟩ | ⟨hc8,h28⟩
 ·refine cwT rfl hc8 ?_
  refine cwK ?_
  refine cwS ?_
  refine cwB ?_
  have ⟨x9,hx9,h29⟩ := bdS h27
  have hx9g := qD hx9
  refine cwS (cwR (
   .c (qJ1 (enc := eCg) (xs := a2) rfl rfl .no rfl rfl sl22 sz33 hx9g.1 hx9g.2)<|
   .c (o_ld rfl rfl .no rfl ta33 rfl rfl)<|
   .c (q50 2 rfl rfl .no ze33 rfl)<|
   .c (uS [] rfl sz33 rfl)<|.nil rfl) ?_)
  refine cwS (cwR (
   .c (uF rfl fld33_1 rfl)<|
   .c (uL [1] rfl ta9 rfl)<|
   .c (o_lenS rfl rfl .no rfl un9)<|
   .c (uB rfl (qy3 _ _) rfl)<|.nil rfl) ?_)
  rcases cdS h29 with ⟨hc9,h30⟩ | ⟨hc9,h31⟩
  ·refine cwT rfl hc9 ?_
   refine cwS (cwR (
    .c (uA rfl)<|
    .c (uA rfl)<|.nil rfl) ?_)
   have he2 := ((hx8 _ (sJ h30)).symm).symm
   subst he2
   have heq := ((sJ h0)).symm
   subst heq
   exact qw ⟨_,(show Leads _ _ (St.of [(6,.d (eint 0)),(7,.d (eErr 1))] [(0,.own (qc a0))]) from .w (wkF ⟨wD rfl,wD rfl,trivial⟩ ⟨.own rfl (.of_eq rfl (q9 _)),trivial⟩ (qv rfl))),.inr rfl,_,res2 rfl rfl rfl,rfl,rfl⟩
  refine cwF rfl hc9 ?_
  refine cwK ?_
  refine cwR (
   .c (uB rfl (qN0 _ _) rfl)<|
   .c (uM rfl)<|.nil rfl
  ) ?_
  exact ⟨(IntKind.wrap .i64 (v3 + 1)),(sJ h31),.w (wkF ⟨wD rfl,wD rfl,⟨_,rfl,.ptr rfl rfl⟩,wD rfl,wD rfl,wD rfl,trivial⟩ ⟨.own rfl (.of_eq rfl (q9 _)),.box rfl (.ifc (.ptro rfl rfl)),trivial⟩ (qv rfl))⟩
 refine cwF rfl hc8 ?_
 refine q10 ?_
 exact ⟨(),(hx8 _ (sJ h28)).symm,.w (wkF ⟨wD rfl,wD rfl,⟨_,rfl,.ptr rfl rfl⟩,trivial⟩ ⟨.own rfl (.of_eq rfl (q9 _)),.box rfl (.ifc (.ptro rfl rfl)),trivial⟩ (qv rfl))⟩
theorem law07_shown_ok {r : Bool} (h : qw2 = some r) : FnOk Try.prog 13 [] 0 (lk []) (fun rr oo => rr = .d (qU r) ∧ oo = lk []) := by
 refine fnO Try.func13 rfl rfl (cwP ?_)
 unfold qw2 at h
 refine cwS (cwR (
  .c (uA rfl)<|.nil rfl) ?_)
 have ⟨x0,hx0,h0⟩ := bdS (x := qK0 100) h
 refine cwS (cwR (
  .c (qr5 0 rfl rfl .no Try.func14 rfl rfl (qx3 hx0) (.cons rfl .d .nil) ⟨trivial,trivial⟩ rfl (.inl rfl))<|
  .c (uA rfl)<|.nil rfl) ?_)
 refine cwS ?_
 refine cwS (cwR (
  .c (uM rfl)<|
  .c (o_pnilP rfl rfl .no rfl up24)<|.nil rfl) ?_)
 refine cwF rfl rfl ?_
 refine cwK ?_
 refine cwS (cwR (
  .c (o_bldB (l := (List.replicate 24 0)) (r := (List.set (List.replicate 24 0) 0 (UInt8.ofNat 7))) rfl rfl .no ze31 ar31 sz5 (.cons rfl (by decide) rfl .nil))<|
  .c (q50 1 rfl rfl .no ze31 rfl)<|
  .c (uS [] rfl sz31 rfl)<|.nil rfl) ?_)
 have ⟨x1,hx1,h1⟩ := bdS (x := qQ0 x0 0 ([((List.set (List.replicate 24 0) 0 (UInt8.ofNat 7)),(ByteArray.mk #[49]),false)])) h0
 refine cwS (cwR (
  .c (uM rfl)<|
  .c (qd4 rfl rfl .no rfl ifB24)<|
  .c (uL [] rfl ta31 rfl)<|
  .c (qz5 (ds := [eK (List.set (List.replicate 24 0) 0 (UInt8.ofNat 7)),eStr (ByteArray.mk #[49]),qU false]) rfl rfl .no zs33 rfl pl33 (.cons rfl rfl rfl rfl rfl rfl rfl (.cons rfl rfl rfl rfl rfl rfl rfl .nil)))<|
  .c (qu5 (rows := ([((List.set (List.replicate 24 0) 0 (UInt8.ofNat 7)),(ByteArray.mk #[49]),false)] : List ttC).map eCg) rfl rfl .no (.cons rfl .nil) rfl sl22 sz33 ze33 rfl (qL1 qb0) (by decide))<|
  .c (qQ (fun _ => 0) rfl rfl .no Try.func15 rfl rfl (qS2 hx1) (.cons rfl (.ip rfl) (.cons rfl .d (.cons rfl .d .nil))) (q40 rfl ⟨(by simp [AV.live,lk,Nat.beq]),trivial,trivial,trivial⟩ rfl (OD.dat_live (q9 _)) (by simp)) (.inl rfl))<|
  .c (uM rfl)<|
  .c (uE rfl)<|
  .c (uE rfl)<|
  .c (uA rfl)<|
  .c (uA rfl)<|.nil rfl) ?_)
 have ⟨x2,hx2,h2⟩ := bdS (x := qQ0 x1.2.2 x1.1 ([((List.set (List.replicate 24 0) 0 (UInt8.ofNat 7)),(ByteArray.mk #[]),true)])) h1
 refine cwS (cwR (
  .c (uM rfl)<|
  .c (qd4 rfl rfl .no rfl ifB24)<|
  .c (uM rfl)<|
  .c (uL [] rfl ta31 rfl)<|
  .c (qz5 (ds := [eK (List.set (List.replicate 24 0) 0 (UInt8.ofNat 7)),eStr (ByteArray.mk #[]),qU true]) rfl rfl .no zs33 rfl pl33 (.cons rfl rfl rfl rfl rfl rfl rfl (.cons rfl rfl rfl rfl rfl rfl rfl .nil)))<|
  .c (qu5 (rows := ([((List.set (List.replicate 24 0) 0 (UInt8.ofNat 7)),(ByteArray.mk #[]),true)] : List ttC).map eCg) rfl rfl .no (.cons rfl .nil) rfl sl22 sz33 ze33 rfl (qL1 qb0) (by decide))<|
  .c (qQ (fun _ => 0) rfl rfl .no Try.func15 rfl rfl (qS2 hx2) (.cons rfl (.ip rfl) (.cons rfl .d (.cons rfl .d .nil))) (q40 rfl ⟨(by simp [AV.live,lk,Nat.beq]),trivial,trivial,trivial⟩ rfl (OD.dat_live (q9 _)) (by simp)) (.inl rfl))<|
  .c (uM rfl)<|
  .c (uE rfl)<|
  .c (uE rfl)<|
  .c (uA rfl)<|
  .c (uA rfl)<|.nil rfl) ?_)
 have ⟨x3,hx3,h3⟩ := bdS (x := qW1 x2.2.2 x1.1 (List.set (List.replicate 24 0) 0 (UInt8.ofNat 7))) h2
 refine cwS (cwR (
  .c (uM rfl)<|
  .c (qd4 rfl rfl .no rfl ifB24)<|
  .c (uM rfl)<|
  .c (uL [] rfl ta31 rfl)<|
  .c (qQ (fun _ => 0) rfl rfl .no Try.func24 rfl rfl (tree_Get_o_ok hx3) (.cons rfl (.ip rfl) (.cons rfl .d (.cons rfl .d .nil))) (q40 rfl ⟨(by simp [AV.live,lk,Nat.beq]),trivial,trivial,trivial⟩ rfl (OD.dat_live (q9 _)) (by simp)) (.inl rfl))<|
  .c (uM rfl)<|
  .c (uE rfl)<|
  .c (uE rfl)<|
  .c (uE rfl)<|
  .c (uA rfl)<|
  .c (uA rfl)<|
  .c (uA rfl)<|.nil rfl) ?_)
 have ⟨x4,hx4,h4⟩ := bdS (x := qW1 x3.2.2.2 x2.1 (List.set (List.replicate 24 0) 0 (UInt8.ofNat 7))) h3
 refine cwS (cwR (
  .c (uM rfl)<|
  .c (qd4 rfl rfl .no rfl ifB24)<|
  .c (uM rfl)<|
  .c (uL [] rfl ta31 rfl)<|
  .c (qQ (fun _ => 0) rfl rfl .no Try.func24 rfl rfl (tree_Get_o_ok hx4) (.cons rfl (.ip rfl) (.cons rfl .d (.cons rfl .d .nil))) (q40 rfl ⟨(by simp [AV.live,lk,Nat.beq]),trivial,trivial,trivial⟩ rfl (OD.dat_live (q9 _)) (by simp)) (.inl rfl))<|
  .c (uM rfl)<|
  .c (uE rfl)<|
  .c (uE rfl)<|
  .c (uE rfl)<|
  .c (uA rfl)<|
  .c (uA rfl)<|
  .c (uA rfl)<|.nil rfl) ?_)
 have ⟨x5,hx5,h5⟩ := bdS (x := q24) h4
 have ⟨x6,hx6,h6⟩ := bdS (x := q54 x4.2.2.2 x1.1 x5) h5
 refine cwS (cwR (
  .c (uM rfl)<|
  .c (qd4 rfl rfl .no rfl ifB24)<|
  .c (uM rfl)<|
  .c (qe0 rfl rfl .no Try.func18 rfl rfl (law07_all_ok hx5) .nil trivial (.inl rfl))<|
  .c (qQ (fun _ => 0) rfl rfl .no Try.func17 rfl rfl (tree_Scan_o_ok hx6) (.cons rfl (.ip rfl) (.cons rfl .d (.cons rfl .d .nil))) (q40 rfl ⟨(by simp [AV.live,lk,Nat.beq]),trivial,trivial,trivial⟩ rfl (OD.dat_live (q9 _)) (by simp)) (.inl rfl))<|
  .c (uM rfl)<|
  .c (uE rfl)<|
  .c (uE rfl)<|
  .c (uA rfl)<|
  .c (uA rfl)<|.nil rfl) ?_)
 have ⟨o0,hj0,h7⟩ := bdS h6
 refine cwJ (fun (z : Bool) => St.of [(0,.d (qU z))] []) (fun (z : Bool) => o0 = z) ?_ ?_
 ·intro v0 hv0; subst hv0
  have heq := ((sJ h7)).symm
  subst heq
  exact qw ⟨_,(show Leads _ _ (St.of [(0,.d (qU o0))] []) from .w (wkF ⟨wD rfl,trivial⟩ trivial qG)),.inr rfl,_,res1 rfl rfl,rfl,rfl⟩
 rcases cdS hj0 with ⟨hc0,h8⟩ | ⟨hc0,h9⟩
 ·skip
  rcases cdS h8 with ⟨hc1,h10⟩ | ⟨hc1,h11⟩
  ·skip
   rcases cdS h10 with ⟨hc2,h12⟩ | ⟨hc2,h13⟩
   ·skip
    rcases cdS h12 with ⟨hc3,h14⟩ | ⟨hc3,h15⟩
    ·skip
     rcases cdS h14 with ⟨hc4,h16⟩ | ⟨hc4,h17⟩
     ·skip
      rcases cdS h16 with ⟨hc5,h18⟩ | ⟨hc5,h19⟩
      ·skip
       rcases cdS h18 with ⟨hc6,h20⟩ | ⟨hc6,h21⟩
       ·skip
        rcases cdS h20 with ⟨hc7,h22⟩ | ⟨hc7,h23⟩
        ·skip
         rcases cdS h22 with ⟨hc8,h24⟩ | ⟨hc8,h25⟩
         ·skip
          rcases cdS h24 with ⟨hc9,h26⟩ | ⟨hc9,h27⟩
          ·skip
           have ⟨x7,hx7,h28⟩ := bdS (x := qJ0 x6.2.2 x1.1) h26
           rcases cdS h28 with ⟨hc10,h29⟩ | ⟨hc10,h30⟩
           ·skip
            have ⟨x8,hx8,h31⟩ := bdS (x := q02 x7.2 x1.1) h29
            rcases cdS h31 with ⟨hc11,h32⟩ | ⟨hc11,h33⟩
            ·skip
             have ⟨x9,hx9,h34⟩ := bdS (x := qV1 x8.2 x1.1) h32
             rcases cdS h34 with ⟨hc12,h35⟩ | ⟨hc12,h36⟩
             ·skip
              have ⟨x10,hx10,h37⟩ := bdS (x := qU0 x9.2) h35
              rcases cdS h37 with ⟨hc13,h38⟩ | ⟨hc13,h39⟩
              ·skip
               refine cwR (
                .c (uM rfl)<|
                .c (uB rfl (qd0 _ _) rfl)<|
                .c (uM rfl)<|
                .c (o_mv rfl rfl (.yes rfl rfl hc0) rfl)<|
                .c (qj rfl rfl (.yes rfl rfl hc0) rfl rfl (qd0 _ _) rfl)<|
                .c (uPT rfl hc0)<|
                .c (uM rfl)<|
                .c (o_mv rfl rfl (.yes rfl rfl hc1) rfl)<|
                .c (qj rfl rfl (.yes rfl rfl hc1) rfl rfl (qd0 _ _) rfl)<|
                .c (uPT rfl hc1)<|
                .c (uM rfl)<|
                .c (o_mv rfl rfl (.yes rfl rfl hc2) rfl)<|
                .c (qj rfl rfl (.yes rfl rfl hc2) rfl rfl (s_eql _ _) rfl)<|
                .c (uPT rfl hc2)<|
                .c (uM rfl)<|
                .c (o_mv rfl rfl (.yes rfl rfl hc3) rfl)<|
                .c (uPT rfl hc3)<|
                .c (uM rfl)<|
                .c (o_mv rfl rfl (.yes rfl rfl hc4) rfl)<|
                .c (qj rfl rfl (.yes rfl rfl hc4) rfl rfl (qd0 _ _) rfl)<|
                .c (uPT rfl hc4)<|
                .c (uM rfl)<|
                .c (o_mv rfl rfl (.yes rfl rfl hc5) rfl)<|
                .c (qo5 rfl rfl (.yes rfl rfl hc5) rfl)<|
                .c (uPT rfl hc5)<|
                .c (uM rfl)<|
                .c (o_mv rfl rfl (.yes rfl rfl hc6) rfl)<|
                .c (qj rfl rfl (.yes rfl rfl hc6) rfl rfl (qd0 _ _) rfl)<|
                .c (uPT rfl hc6)<|
                .c (uM rfl)<|
                .c (o_mv rfl rfl (.yes rfl rfl hc7) rfl)<|
                .c (qV (enc := ePr) (xs := x6.1) rfl rfl (.yes rfl rfl hc7) rfl sl34)<|
                .c (qj rfl rfl (.yes rfl rfl hc7) rfl rfl (qd0 _ _) rfl)<|
                .c (uPT rfl hc7)<|
                .c (uM rfl)<|
                .c (o_mv rfl rfl (.yes rfl rfl hc8) rfl)<|
                .c (qj rfl rfl (.yes rfl rfl hc8) rfl rfl (qd0 _ _) rfl)<|
                .c (uPT rfl hc8)<|
                .c (uM rfl)<|
                .c (o_mv rfl rfl (.yes rfl rfl hc9) rfl)<|
                .c (o_mv rfl rfl (.yes rfl rfl hc9) rfl)<|
                .c (qQ (fun _ => 0) rfl rfl (.yes rfl rfl hc9) Try.func32 rfl rfl (qD0 hx7) (.cons rfl (.p rfl) (.cons rfl .d .nil)) (q40 rfl ⟨(by simp [AV.live,lk,Nat.beq]),trivial,trivial⟩ rfl (OD.dat_live (q9 _)) (by simp)) (.inl rfl))<|
                .c (qj rfl rfl (.yes rfl rfl hc9) rfl rfl (qd0 _ _) rfl)<|
                .c (uPT rfl hc9)<|
                .c (uM rfl)<|
                .c (o_mv rfl rfl (.yes rfl rfl hc10) rfl)<|
                .c (qd4 rfl rfl (.yes rfl rfl hc10) rfl ifB24)<|
                .c (o_mv rfl rfl (.yes rfl rfl hc10) rfl)<|
                .c (qQ (fun _ => 0) rfl rfl (.yes rfl rfl hc10) Try.func22 rfl rfl (q92 hx8) (.cons rfl (.ip rfl) (.cons rfl .d .nil)) (q40 rfl ⟨(by simp [AV.live,lk,Nat.beq]),trivial,trivial⟩ rfl (OD.dat_live (q9 _)) (by simp)) (.inl rfl))<|
                .c (qj rfl rfl (.yes rfl rfl hc10) rfl rfl (qd0 _ _) rfl)<|
                .c (uPT rfl hc10)<|
                .c (uM rfl)<|
                .c (o_mv rfl rfl (.yes rfl rfl hc11) rfl)<|
                .c (qd4 rfl rfl (.yes rfl rfl hc11) rfl ifB24)<|
                .c (o_mv rfl rfl (.yes rfl rfl hc11) rfl)<|
                .c (qQ (fun _ => 0) rfl rfl (.yes rfl rfl hc11) Try.func21 rfl rfl (qi2 hx9) (.cons rfl (.ip rfl) (.cons rfl .d .nil)) (q40 rfl ⟨(by simp [AV.live,lk,Nat.beq]),trivial,trivial⟩ rfl (OD.dat_live (q9 _)) (by simp)) (.inl rfl))<|
                .c (qj rfl rfl (.yes rfl rfl hc11) rfl rfl (qd0 _ _) rfl)<|
                .c (uPT rfl hc11)<|
                .c (uM rfl)<|
                .c (o_mv rfl rfl (.yes rfl rfl hc12) rfl)<|
                .c (qQ (fun _ => 0) rfl rfl (.yes rfl rfl hc12) Try.func25 rfl rfl (qJ2 hx10) (.cons rfl (.p rfl) .nil) (q40 rfl ⟨(by simp [AV.live,lk,Nat.beq]),trivial⟩ rfl (OD.dat_live (q9 _)) (by simp)) (.inl rfl))<|
                .c (qj rfl rfl (.yes rfl rfl hc12) rfl rfl (qd0 _ _) rfl)<|
                .c (uPT rfl hc12)<|
                .c (uM rfl)<|
                .c (uPT rfl hc13)<|
                .c (uM rfl)<|
                .c (uPT rfl rfl)<|
                .c (uA rfl)<|.nil rfl
               ) ?_
               exact ⟨true,(sJ h38),.w (wkF ⟨wD rfl,trivial⟩ trivial qG)⟩
              refine cwR (
               .c (uM rfl)<|
               .c (uB rfl (qd0 _ _) rfl)<|
               .c (uM rfl)<|
               .c (o_mv rfl rfl (.yes rfl rfl hc0) rfl)<|
               .c (qj rfl rfl (.yes rfl rfl hc0) rfl rfl (qd0 _ _) rfl)<|
               .c (uPT rfl hc0)<|
               .c (uM rfl)<|
               .c (o_mv rfl rfl (.yes rfl rfl hc1) rfl)<|
               .c (qj rfl rfl (.yes rfl rfl hc1) rfl rfl (qd0 _ _) rfl)<|
               .c (uPT rfl hc1)<|
               .c (uM rfl)<|
               .c (o_mv rfl rfl (.yes rfl rfl hc2) rfl)<|
               .c (qj rfl rfl (.yes rfl rfl hc2) rfl rfl (s_eql _ _) rfl)<|
               .c (uPT rfl hc2)<|
               .c (uM rfl)<|
               .c (o_mv rfl rfl (.yes rfl rfl hc3) rfl)<|
               .c (uPT rfl hc3)<|
               .c (uM rfl)<|
               .c (o_mv rfl rfl (.yes rfl rfl hc4) rfl)<|
               .c (qj rfl rfl (.yes rfl rfl hc4) rfl rfl (qd0 _ _) rfl)<|
               .c (uPT rfl hc4)<|
               .c (uM rfl)<|
               .c (o_mv rfl rfl (.yes rfl rfl hc5) rfl)<|
               .c (qo5 rfl rfl (.yes rfl rfl hc5) rfl)<|
               .c (uPT rfl hc5)<|
               .c (uM rfl)<|
               .c (o_mv rfl rfl (.yes rfl rfl hc6) rfl)<|
               .c (qj rfl rfl (.yes rfl rfl hc6) rfl rfl (qd0 _ _) rfl)<|
               .c (uPT rfl hc6)<|
               .c (uM rfl)<|
               .c (o_mv rfl rfl (.yes rfl rfl hc7) rfl)<|
               .c (qV (enc := ePr) (xs := x6.1) rfl rfl (.yes rfl rfl hc7) rfl sl34)<|
               .c (qj rfl rfl (.yes rfl rfl hc7) rfl rfl (qd0 _ _) rfl)<|
               .c (uPT rfl hc7)<|
               .c (uM rfl)<|
               .c (o_mv rfl rfl (.yes rfl rfl hc8) rfl)<|
               .c (qj rfl rfl (.yes rfl rfl hc8) rfl rfl (qd0 _ _) rfl)<|
               .c (uPT rfl hc8)<|
               .c (uM rfl)<|
               .c (o_mv rfl rfl (.yes rfl rfl hc9) rfl)<|
               .c (o_mv rfl rfl (.yes rfl rfl hc9) rfl)<|
               .c (qQ (fun _ => 0) rfl rfl (.yes rfl rfl hc9) Try.func32 rfl rfl (qD0 hx7) (.cons rfl (.p rfl) (.cons rfl .d .nil)) (q40 rfl ⟨(by simp [AV.live,lk,Nat.beq]),trivial,trivial⟩ rfl (OD.dat_live (q9 _)) (by simp)) (.inl rfl))<|
               .c (qj rfl rfl (.yes rfl rfl hc9) rfl rfl (qd0 _ _) rfl)<|
               .c (uPT rfl hc9)<|
               .c (uM rfl)<|
               .c (o_mv rfl rfl (.yes rfl rfl hc10) rfl)<|
               .c (qd4 rfl rfl (.yes rfl rfl hc10) rfl ifB24)<|
               .c (o_mv rfl rfl (.yes rfl rfl hc10) rfl)<|
               .c (qQ (fun _ => 0) rfl rfl (.yes rfl rfl hc10) Try.func22 rfl rfl (q92 hx8) (.cons rfl (.ip rfl) (.cons rfl .d .nil)) (q40 rfl ⟨(by simp [AV.live,lk,Nat.beq]),trivial,trivial⟩ rfl (OD.dat_live (q9 _)) (by simp)) (.inl rfl))<|
               .c (qj rfl rfl (.yes rfl rfl hc10) rfl rfl (qd0 _ _) rfl)<|
               .c (uPT rfl hc10)<|
               .c (uM rfl)<|
               .c (o_mv rfl rfl (.yes rfl rfl hc11) rfl)<|
               .c (qd4 rfl rfl (.yes rfl rfl hc11) rfl ifB24)<|
               .c (o_mv rfl rfl (.yes rfl rfl hc11) rfl)<|
               .c (qQ (fun _ => 0) rfl rfl (.yes rfl rfl hc11) Try.func21 rfl rfl (qi2 hx9) (.cons rfl (.ip rfl) (.cons rfl .d .nil)) (q40 rfl ⟨(by simp [AV.live,lk,Nat.beq]),trivial,trivial⟩ rfl (OD.dat_live (q9 _)) (by simp)) (.inl rfl))<|
               .c (qj rfl rfl (.yes rfl rfl hc11) rfl rfl (qd0 _ _) rfl)<|
               .c (uPT rfl hc11)<|
               .c (uM rfl)<|
               .c (o_mv rfl rfl (.yes rfl rfl hc12) rfl)<|
               .c (qQ (fun _ => 0) rfl rfl (.yes rfl rfl hc12) Try.func25 rfl rfl (qJ2 hx10) (.cons rfl (.p rfl) .nil) (q40 rfl ⟨(by simp [AV.live,lk,Nat.beq]),trivial⟩ rfl (OD.dat_live (q9 _)) (by simp)) (.inl rfl))<|
               .c (qj rfl rfl (.yes rfl rfl hc12) rfl rfl (qd0 _ _) rfl)<|
               .c (uPT rfl hc12)<|
               .c (uM rfl)<|
               .c (uPF rfl hc13)<|
               .c (uM rfl)<|
               .c (uPF rfl rfl)<|
               .c (uA rfl)<|.nil rfl
              ) ?_
              exact ⟨false,(sJ h39),.w (wkF ⟨wD rfl,trivial⟩ trivial qG)⟩
             refine cwR (
              .c (uM rfl)<|
              .c (uB rfl (qd0 _ _) rfl)<|
              .c (uM rfl)<|
              .c (o_mv rfl rfl (.yes rfl rfl hc0) rfl)<|
              .c (qj rfl rfl (.yes rfl rfl hc0) rfl rfl (qd0 _ _) rfl)<|
              .c (uPT rfl hc0)<|
              .c (uM rfl)<|
              .c (o_mv rfl rfl (.yes rfl rfl hc1) rfl)<|
              .c (qj rfl rfl (.yes rfl rfl hc1) rfl rfl (qd0 _ _) rfl)<|
              .c (uPT rfl hc1)<|
              .c (uM rfl)<|
              .c (o_mv rfl rfl (.yes rfl rfl hc2) rfl)<|
              .c (qj rfl rfl (.yes rfl rfl hc2) rfl rfl (s_eql _ _) rfl)<|
              .c (uPT rfl hc2)<|
              .c (uM rfl)<|
              .c (o_mv rfl rfl (.yes rfl rfl hc3) rfl)<|
              .c (uPT rfl hc3)<|
              .c (uM rfl)<|
              .c (o_mv rfl rfl (.yes rfl rfl hc4) rfl)<|
              .c (qj rfl rfl (.yes rfl rfl hc4) rfl rfl (qd0 _ _) rfl)<|
              .c (uPT rfl hc4)<|
              .c (uM rfl)<|
              .c (o_mv rfl rfl (.yes rfl rfl hc5) rfl)<|
              .c (qo5 rfl rfl (.yes rfl rfl hc5) rfl)<|
              .c (uPT rfl hc5)<|
              .c (uM rfl)<|
              .c (o_mv rfl rfl (.yes rfl rfl hc6) rfl)<|
              .c (qj rfl rfl (.yes rfl rfl hc6) rfl rfl (qd0 _ _) rfl)<|
              .c (uPT rfl hc6)<|
              .c (uM rfl)<|
              .c (o_mv rfl rfl (.yes rfl rfl hc7) rfl)<|
              .c (qV (enc := ePr) (xs := x6.1) rfl rfl (.yes rfl rfl hc7) rfl sl34)<|
              .c (qj rfl rfl (.yes rfl rfl hc7) rfl rfl (qd0 _ _) rfl)<|
              .c (uPT rfl hc7)<|
              .c (uM rfl)<|
              .c (o_mv rfl rfl (.yes rfl rfl hc8) rfl)<|
              .c (qj rfl rfl (.yes rfl rfl hc8) rfl rfl (qd0 _ _) rfl)<|
              .c (uPT rfl hc8)<|
              .c (uM rfl)<|
              .c (o_mv rfl rfl (.yes rfl rfl hc9) rfl)<|
              .c (o_mv rfl rfl (.yes rfl rfl hc9) rfl)<|
              .c (qQ (fun _ => 0) rfl rfl (.yes rfl rfl hc9) Try.func32 rfl rfl (qD0 hx7) (.cons rfl (.p rfl) (.cons rfl .d .nil)) (q40 rfl ⟨(by simp [AV.live,lk,Nat.beq]),trivial,trivial⟩ rfl (OD.dat_live (q9 _)) (by simp)) (.inl rfl))<|
              .c (qj rfl rfl (.yes rfl rfl hc9) rfl rfl (qd0 _ _) rfl)<|
              .c (uPT rfl hc9)<|
              .c (uM rfl)<|
              .c (o_mv rfl rfl (.yes rfl rfl hc10) rfl)<|
              .c (qd4 rfl rfl (.yes rfl rfl hc10) rfl ifB24)<|
              .c (o_mv rfl rfl (.yes rfl rfl hc10) rfl)<|
              .c (qQ (fun _ => 0) rfl rfl (.yes rfl rfl hc10) Try.func22 rfl rfl (q92 hx8) (.cons rfl (.ip rfl) (.cons rfl .d .nil)) (q40 rfl ⟨(by simp [AV.live,lk,Nat.beq]),trivial,trivial⟩ rfl (OD.dat_live (q9 _)) (by simp)) (.inl rfl))<|
              .c (qj rfl rfl (.yes rfl rfl hc10) rfl rfl (qd0 _ _) rfl)<|
              .c (uPT rfl hc10)<|
              .c (uM rfl)<|
              .c (o_mv rfl rfl (.yes rfl rfl hc11) rfl)<|
              .c (qd4 rfl rfl (.yes rfl rfl hc11) rfl ifB24)<|
              .c (o_mv rfl rfl (.yes rfl rfl hc11) rfl)<|
              .c (qQ (fun _ => 0) rfl rfl (.yes rfl rfl hc11) Try.func21 rfl rfl (qi2 hx9) (.cons rfl (.ip rfl) (.cons rfl .d .nil)) (q40 rfl ⟨(by simp [AV.live,lk,Nat.beq]),trivial,trivial⟩ rfl (OD.dat_live (q9 _)) (by simp)) (.inl rfl))<|
              .c (qj rfl rfl (.yes rfl rfl hc11) rfl rfl (qd0 _ _) rfl)<|
              .c (uPT rfl hc11)<|
              .c (uM rfl)<|
              .c (uN rfl rfl hc12)<|
              .c (uN rfl rfl hc12)<|
              .c (uN rfl rfl hc12)<|
              .c (uPF rfl hc12)<|
              .c (uM rfl)<|
              .c (uPF rfl rfl)<|
              .c (uM rfl)<|
              .c (uPF rfl rfl)<|
              .c (uA rfl)<|.nil rfl
             ) ?_
             exact ⟨false,(sJ h36),.w (wkF ⟨wD rfl,trivial⟩ trivial qG)⟩
            refine cwR (
             .c (uM rfl)<|
             .c (uB rfl (qd0 _ _) rfl)<|
             .c (uM rfl)<|
             .c (o_mv rfl rfl (.yes rfl rfl hc0) rfl)<|
             .c (qj rfl rfl (.yes rfl rfl hc0) rfl rfl (qd0 _ _) rfl)<|
             .c (uPT rfl hc0)<|
             .c (uM rfl)<|
             .c (o_mv rfl rfl (.yes rfl rfl hc1) rfl)<|
             .c (qj rfl rfl (.yes rfl rfl hc1) rfl rfl (qd0 _ _) rfl)<|
             .c (uPT rfl hc1)<|
             .c (uM rfl)<|
             .c (o_mv rfl rfl (.yes rfl rfl hc2) rfl)<|
             .c (qj rfl rfl (.yes rfl rfl hc2) rfl rfl (s_eql _ _) rfl)<|
             .c (uPT rfl hc2)<|
             .c (uM rfl)<|
             .c (o_mv rfl rfl (.yes rfl rfl hc3) rfl)<|
             .c (uPT rfl hc3)<|
             .c (uM rfl)<|
             .c (o_mv rfl rfl (.yes rfl rfl hc4) rfl)<|
             .c (qj rfl rfl (.yes rfl rfl hc4) rfl rfl (qd0 _ _) rfl)<|
             .c (uPT rfl hc4)<|
             .c (uM rfl)<|
             .c (o_mv rfl rfl (.yes rfl rfl hc5) rfl)<|
             .c (qo5 rfl rfl (.yes rfl rfl hc5) rfl)<|
             .c (uPT rfl hc5)<|
             .c (uM rfl)<|
             .c (o_mv rfl rfl (.yes rfl rfl hc6) rfl)<|
             .c (qj rfl rfl (.yes rfl rfl hc6) rfl rfl (qd0 _ _) rfl)<|
             .c (uPT rfl hc6)<|
             .c (uM rfl)<|
             .c (o_mv rfl rfl (.yes rfl rfl hc7) rfl)<|
             .c (qV (enc := ePr) (xs := x6.1) rfl rfl (.yes rfl rfl hc7) rfl sl34)<|
             .c (qj rfl rfl (.yes rfl rfl hc7) rfl rfl (qd0 _ _) rfl)<|
             .c (uPT rfl hc7)<|
             .c (uM rfl)<|
             .c (o_mv rfl rfl (.yes rfl rfl hc8) rfl)<|
             .c (qj rfl rfl (.yes rfl rfl hc8) rfl rfl (qd0 _ _) rfl)<|
             .c (uPT rfl hc8)<|
             .c (uM rfl)<|
             .c (o_mv rfl rfl (.yes rfl rfl hc9) rfl)<|
             .c (o_mv rfl rfl (.yes rfl rfl hc9) rfl)<|
             .c (qQ (fun _ => 0) rfl rfl (.yes rfl rfl hc9) Try.func32 rfl rfl (qD0 hx7) (.cons rfl (.p rfl) (.cons rfl .d .nil)) (q40 rfl ⟨(by simp [AV.live,lk,Nat.beq]),trivial,trivial⟩ rfl (OD.dat_live (q9 _)) (by simp)) (.inl rfl))<|
             .c (qj rfl rfl (.yes rfl rfl hc9) rfl rfl (qd0 _ _) rfl)<|
             .c (uPT rfl hc9)<|
             .c (uM rfl)<|
             .c (o_mv rfl rfl (.yes rfl rfl hc10) rfl)<|
             .c (qd4 rfl rfl (.yes rfl rfl hc10) rfl ifB24)<|
             .c (o_mv rfl rfl (.yes rfl rfl hc10) rfl)<|
             .c (qQ (fun _ => 0) rfl rfl (.yes rfl rfl hc10) Try.func22 rfl rfl (q92 hx8) (.cons rfl (.ip rfl) (.cons rfl .d .nil)) (q40 rfl ⟨(by simp [AV.live,lk,Nat.beq]),trivial,trivial⟩ rfl (OD.dat_live (q9 _)) (by simp)) (.inl rfl))<|
             .c (qj rfl rfl (.yes rfl rfl hc10) rfl rfl (qd0 _ _) rfl)<|
             .c (uPT rfl hc10)<|
             .c (uM rfl)<|
             .c (uN rfl rfl hc11)<|
             .c (uN rfl rfl hc11)<|
             .c (uN rfl rfl hc11)<|
             .c (uN rfl rfl hc11)<|
             .c (uN rfl rfl hc11)<|
             .c (uPF rfl hc11)<|
             .c (uM rfl)<|
             .c (uN rfl rfl rfl)<|
             .c (uN rfl rfl rfl)<|
             .c (uN rfl rfl rfl)<|
             .c (uPF rfl rfl)<|
             .c (uM rfl)<|
             .c (uPF rfl rfl)<|
             .c (uM rfl)<|
             .c (uPF rfl rfl)<|
             .c (uA rfl)<|.nil rfl
            ) ?_
            exact ⟨false,(sJ h33),.w (wkF ⟨wD rfl,trivial⟩ trivial qG)⟩
           refine cwR (
            .c (uM rfl)<|
            .c (uB rfl (qd0 _ _) rfl)<|
            .c (uM rfl)<|
            .c (o_mv rfl rfl (.yes rfl rfl hc0) rfl)<|
            .c (qj rfl rfl (.yes rfl rfl hc0) rfl rfl (qd0 _ _) rfl)<|
            .c (uPT rfl hc0)<|
            .c (uM rfl)<|
            .c (o_mv rfl rfl (.yes rfl rfl hc1) rfl)<|
            .c (qj rfl rfl (.yes rfl rfl hc1) rfl rfl (qd0 _ _) rfl)<|
            .c (uPT rfl hc1)<|
            .c (uM rfl)<|
            .c (o_mv rfl rfl (.yes rfl rfl hc2) rfl)<|
            .c (qj rfl rfl (.yes rfl rfl hc2) rfl rfl (s_eql _ _) rfl)<|
            .c (uPT rfl hc2)<|
            .c (uM rfl)<|
            .c (o_mv rfl rfl (.yes rfl rfl hc3) rfl)<|
            .c (uPT rfl hc3)<|
            .c (uM rfl)<|
            .c (o_mv rfl rfl (.yes rfl rfl hc4) rfl)<|
            .c (qj rfl rfl (.yes rfl rfl hc4) rfl rfl (qd0 _ _) rfl)<|
            .c (uPT rfl hc4)<|
            .c (uM rfl)<|
            .c (o_mv rfl rfl (.yes rfl rfl hc5) rfl)<|
            .c (qo5 rfl rfl (.yes rfl rfl hc5) rfl)<|
            .c (uPT rfl hc5)<|
            .c (uM rfl)<|
            .c (o_mv rfl rfl (.yes rfl rfl hc6) rfl)<|
            .c (qj rfl rfl (.yes rfl rfl hc6) rfl rfl (qd0 _ _) rfl)<|
            .c (uPT rfl hc6)<|
            .c (uM rfl)<|
            .c (o_mv rfl rfl (.yes rfl rfl hc7) rfl)<|
            .c (qV (enc := ePr) (xs := x6.1) rfl rfl (.yes rfl rfl hc7) rfl sl34)<|
            .c (qj rfl rfl (.yes rfl rfl hc7) rfl rfl (qd0 _ _) rfl)<|
            .c (uPT rfl hc7)<|
            .c (uM rfl)<|
            .c (o_mv rfl rfl (.yes rfl rfl hc8) rfl)<|
            .c (qj rfl rfl (.yes rfl rfl hc8) rfl rfl (qd0 _ _) rfl)<|
            .c (uPT rfl hc8)<|
            .c (uM rfl)<|
            .c (o_mv rfl rfl (.yes rfl rfl hc9) rfl)<|
            .c (o_mv rfl rfl (.yes rfl rfl hc9) rfl)<|
            .c (qQ (fun _ => 0) rfl rfl (.yes rfl rfl hc9) Try.func32 rfl rfl (qD0 hx7) (.cons rfl (.p rfl) (.cons rfl .d .nil)) (q40 rfl ⟨(by simp [AV.live,lk,Nat.beq]),trivial,trivial⟩ rfl (OD.dat_live (q9 _)) (by simp)) (.inl rfl))<|
            .c (qj rfl rfl (.yes rfl rfl hc9) rfl rfl (qd0 _ _) rfl)<|
            .c (uPT rfl hc9)<|
            .c (uM rfl)<|
            .c (uN rfl rfl hc10)<|
            .c (uN rfl rfl hc10)<|
            .c (uN rfl rfl hc10)<|
            .c (uN rfl rfl hc10)<|
            .c (uN rfl rfl hc10)<|
            .c (uPF rfl hc10)<|
            .c (uM rfl)<|
            .c (uN rfl rfl rfl)<|
            .c (uN rfl rfl rfl)<|
            .c (uN rfl rfl rfl)<|
            .c (uN rfl rfl rfl)<|
            .c (uN rfl rfl rfl)<|
            .c (uPF rfl rfl)<|
            .c (uM rfl)<|
            .c (uN rfl rfl rfl)<|
            .c (uN rfl rfl rfl)<|
            .c (uN rfl rfl rfl)<|
            .c (uPF rfl rfl)<|
            .c (uM rfl)<|
            .c (uPF rfl rfl)<|
            .c (uM rfl)<|
            .c (uPF rfl rfl)<|
            .c (uA rfl)<|.nil rfl
           ) ?_
           exact ⟨false,(sJ h30),.w (wkF ⟨wD rfl,trivial⟩ trivial qG)⟩
          refine cwR (
           .c (uM rfl)<|
           .c (uB rfl (qd0 _ _) rfl)<|
           .c (uM rfl)<|
           .c (o_mv rfl rfl (.yes rfl rfl hc0) rfl)<|
           .c (qj rfl rfl (.yes rfl rfl hc0) rfl rfl (qd0 _ _) rfl)<|
           .c (uPT rfl hc0)<|
           .c (uM rfl)<|
           .c (o_mv rfl rfl (.yes rfl rfl hc1) rfl)<|
           .c (qj rfl rfl (.yes rfl rfl hc1) rfl rfl (qd0 _ _) rfl)<|
           .c (uPT rfl hc1)<|
           .c (uM rfl)<|
           .c (o_mv rfl rfl (.yes rfl rfl hc2) rfl)<|
           .c (qj rfl rfl (.yes rfl rfl hc2) rfl rfl (s_eql _ _) rfl)<|
           .c (uPT rfl hc2)<|
           .c (uM rfl)<|
           .c (o_mv rfl rfl (.yes rfl rfl hc3) rfl)<|
           .c (uPT rfl hc3)<|
           .c (uM rfl)<|
           .c (o_mv rfl rfl (.yes rfl rfl hc4) rfl)<|
           .c (qj rfl rfl (.yes rfl rfl hc4) rfl rfl (qd0 _ _) rfl)<|
           .c (uPT rfl hc4)<|
           .c (uM rfl)<|
           .c (o_mv rfl rfl (.yes rfl rfl hc5) rfl)<|
           .c (qo5 rfl rfl (.yes rfl rfl hc5) rfl)<|
           .c (uPT rfl hc5)<|
           .c (uM rfl)<|
           .c (o_mv rfl rfl (.yes rfl rfl hc6) rfl)<|
           .c (qj rfl rfl (.yes rfl rfl hc6) rfl rfl (qd0 _ _) rfl)<|
           .c (uPT rfl hc6)<|
           .c (uM rfl)<|
           .c (o_mv rfl rfl (.yes rfl rfl hc7) rfl)<|
           .c (qV (enc := ePr) (xs := x6.1) rfl rfl (.yes rfl rfl hc7) rfl sl34)<|
           .c (qj rfl rfl (.yes rfl rfl hc7) rfl rfl (qd0 _ _) rfl)<|
           .c (uPT rfl hc7)<|
           .c (uM rfl)<|
           .c (o_mv rfl rfl (.yes rfl rfl hc8) rfl)<|
           .c (qj rfl rfl (.yes rfl rfl hc8) rfl rfl (qd0 _ _) rfl)<|
           .c (uPT rfl hc8)<|
           .c (uM rfl)<|
           .c (uN rfl rfl hc9)<|
           .c (uN rfl rfl hc9)<|
           .c (uN rfl rfl hc9)<|
           .c (uN rfl rfl hc9)<|
           .c (uPF rfl hc9)<|
           .c (uM rfl)<|
           .c (uN rfl rfl rfl)<|
           .c (uN rfl rfl rfl)<|
           .c (uN rfl rfl rfl)<|
           .c (uN rfl rfl rfl)<|
           .c (uN rfl rfl rfl)<|
           .c (uPF rfl rfl)<|
           .c (uM rfl)<|
           .c (uN rfl rfl rfl)<|
           .c (uN rfl rfl rfl)<|
           .c (uN rfl rfl rfl)<|
           .c (uN rfl rfl rfl)<|
           .c (uN rfl rfl rfl)<|
           .c (uPF rfl rfl)<|
           .c (uM rfl)<|
           .c (uN rfl rfl rfl)<|
           .c (uN rfl rfl rfl)<|
           .c (uN rfl rfl rfl)<|
           .c (uPF rfl rfl)<|
           .c (uM rfl)<|
           .c (uPF rfl rfl)<|
           .c (uM rfl)<|
           .c (uPF rfl rfl)<|
           .c (uA rfl)<|.nil rfl
          ) ?_
          exact ⟨false,(sJ h27),.w (wkF ⟨wD rfl,trivial⟩ trivial qG)⟩
         refine cwR (
          .c (uM rfl)<|
          .c (uB rfl (qd0 _ _) rfl)<|
          .c (uM rfl)<|
          .c (o_mv rfl rfl (.yes rfl rfl hc0) rfl)<|
          .c (qj rfl rfl (.yes rfl rfl hc0) rfl rfl (qd0 _ _) rfl)<|
          .c (uPT rfl hc0)<|
          .c (uM rfl)<|
          .c (o_mv rfl rfl (.yes rfl rfl hc1) rfl)<|
          .c (qj rfl rfl (.yes rfl rfl hc1) rfl rfl (qd0 _ _) rfl)<|
          .c (uPT rfl hc1)<|
          .c (uM rfl)<|
          .c (o_mv rfl rfl (.yes rfl rfl hc2) rfl)<|
          .c (qj rfl rfl (.yes rfl rfl hc2) rfl rfl (s_eql _ _) rfl)<|
          .c (uPT rfl hc2)<|
          .c (uM rfl)<|
          .c (o_mv rfl rfl (.yes rfl rfl hc3) rfl)<|
          .c (uPT rfl hc3)<|
          .c (uM rfl)<|
          .c (o_mv rfl rfl (.yes rfl rfl hc4) rfl)<|
          .c (qj rfl rfl (.yes rfl rfl hc4) rfl rfl (qd0 _ _) rfl)<|
          .c (uPT rfl hc4)<|
          .c (uM rfl)<|
          .c (o_mv rfl rfl (.yes rfl rfl hc5) rfl)<|
          .c (qo5 rfl rfl (.yes rfl rfl hc5) rfl)<|
          .c (uPT rfl hc5)<|
          .c (uM rfl)<|
          .c (o_mv rfl rfl (.yes rfl rfl hc6) rfl)<|
          .c (qj rfl rfl (.yes rfl rfl hc6) rfl rfl (qd0 _ _) rfl)<|
          .c (uPT rfl hc6)<|
          .c (uM rfl)<|
          .c (o_mv rfl rfl (.yes rfl rfl hc7) rfl)<|
          .c (qV (enc := ePr) (xs := x6.1) rfl rfl (.yes rfl rfl hc7) rfl sl34)<|
          .c (qj rfl rfl (.yes rfl rfl hc7) rfl rfl (qd0 _ _) rfl)<|
          .c (uPT rfl hc7)<|
          .c (uM rfl)<|
          .c (uN rfl rfl hc8)<|
          .c (uN rfl rfl hc8)<|
          .c (uPF rfl hc8)<|
          .c (uM rfl)<|
          .c (uN rfl rfl rfl)<|
          .c (uN rfl rfl rfl)<|
          .c (uN rfl rfl rfl)<|
          .c (uN rfl rfl rfl)<|
          .c (uPF rfl rfl)<|
          .c (uM rfl)<|
          .c (uN rfl rfl rfl)<|
          .c (uN rfl rfl rfl)<|
          .c (uN rfl rfl rfl)<|
          .c (uN rfl rfl rfl)<|
          .c (uN rfl rfl rfl)<|
          .c (uPF rfl rfl)<|
          .c (uM rfl)<|
          .c (uN rfl rfl rfl)<|
          .c (uN rfl rfl rfl)<|
          .c (uN rfl rfl rfl)<|
          .c (uN rfl rfl rfl)<|
          .c (uN rfl rfl rfl)<|
          .c (uPF rfl rfl)<|
          .c (uM rfl)<|
          .c (uN rfl rfl rfl)<|
          .c (uN rfl rfl rfl)<|
          .c (uN rfl rfl rfl)<|
          .c (uPF rfl rfl)<|
          .c (uM rfl)<|
          .c (uPF rfl rfl)<|
          .c (uM rfl)<|
          .c (uPF rfl rfl)<|
          .c (uA rfl)<|.nil rfl
         ) ?_
         exact ⟨false,(sJ h25),.w (wkF ⟨wD rfl,trivial⟩ trivial qG)⟩
        refine cwR (
         .c (uM rfl)<|
         .c (uB rfl (qd0 _ _) rfl)<|
         .c (uM rfl)<|
         .c (o_mv rfl rfl (.yes rfl rfl hc0) rfl)<|
         .c (qj rfl rfl (.yes rfl rfl hc0) rfl rfl (qd0 _ _) rfl)<|
         .c (uPT rfl hc0)<|
         .c (uM rfl)<|
         .c (o_mv rfl rfl (.yes rfl rfl hc1) rfl)<|
         .c (qj rfl rfl (.yes rfl rfl hc1) rfl rfl (qd0 _ _) rfl)<|
         .c (uPT rfl hc1)<|
         .c (uM rfl)<|
         .c (o_mv rfl rfl (.yes rfl rfl hc2) rfl)<|
         .c (qj rfl rfl (.yes rfl rfl hc2) rfl rfl (s_eql _ _) rfl)<|
         .c (uPT rfl hc2)<|
         .c (uM rfl)<|
         .c (o_mv rfl rfl (.yes rfl rfl hc3) rfl)<|
         .c (uPT rfl hc3)<|
         .c (uM rfl)<|
         .c (o_mv rfl rfl (.yes rfl rfl hc4) rfl)<|
         .c (qj rfl rfl (.yes rfl rfl hc4) rfl rfl (qd0 _ _) rfl)<|
         .c (uPT rfl hc4)<|
         .c (uM rfl)<|
         .c (o_mv rfl rfl (.yes rfl rfl hc5) rfl)<|
         .c (qo5 rfl rfl (.yes rfl rfl hc5) rfl)<|
         .c (uPT rfl hc5)<|
         .c (uM rfl)<|
         .c (o_mv rfl rfl (.yes rfl rfl hc6) rfl)<|
         .c (qj rfl rfl (.yes rfl rfl hc6) rfl rfl (qd0 _ _) rfl)<|
         .c (uPT rfl hc6)<|
         .c (uM rfl)<|
         .c (uN rfl rfl hc7)<|
         .c (uN rfl rfl hc7)<|
         .c (uN rfl rfl hc7)<|
         .c (uPF rfl hc7)<|
         .c (uM rfl)<|
         .c (uN rfl rfl rfl)<|
         .c (uN rfl rfl rfl)<|
         .c (uPF rfl rfl)<|
         .c (uM rfl)<|
         .c (uN rfl rfl rfl)<|
         .c (uN rfl rfl rfl)<|
         .c (uN rfl rfl rfl)<|
         .c (uN rfl rfl rfl)<|
         .c (uPF rfl rfl)<|
         .c (uM rfl)<|
         .c (uN rfl rfl rfl)<|
         .c (uN rfl rfl rfl)<|
         .c (uN rfl rfl rfl)<|
         .c (uN rfl rfl rfl)<|
         .c (uN rfl rfl rfl)<|
         .c (uPF rfl rfl)<|
         .c (uM rfl)<|
         .c (uN rfl rfl rfl)<|
         .c (uN rfl rfl rfl)<|
         .c (uN rfl rfl rfl)<|
         .c (uN rfl rfl rfl)<|
         .c (uN rfl rfl rfl)<|
         .c (uPF rfl rfl)<|
         .c (uM rfl)<|
         .c (uN rfl rfl rfl)<|
         .c (uN rfl rfl rfl)<|
         .c (uN rfl rfl rfl)<|
         .c (uPF rfl rfl)<|
         .c (uM rfl)<|
         .c (uPF rfl rfl)<|
         .c (uM rfl)<|
         .c (uPF rfl rfl)<|
         .c (uA rfl)<|.nil rfl
        ) ?_
        exact ⟨false,(sJ h23),.w (wkF ⟨wD rfl,trivial⟩ trivial qG)⟩
       refine cwR (
        .c (uM rfl)<|
        .c (uB rfl (qd0 _ _) rfl)<|
        .c (uM rfl)<|
        .c (o_mv rfl rfl (.yes rfl rfl hc0) rfl)<|
        .c (qj rfl rfl (.yes rfl rfl hc0) rfl rfl (qd0 _ _) rfl)<|
        .c (uPT rfl hc0)<|
        .c (uM rfl)<|
        .c (o_mv rfl rfl (.yes rfl rfl hc1) rfl)<|
        .c (qj rfl rfl (.yes rfl rfl hc1) rfl rfl (qd0 _ _) rfl)<|
        .c (uPT rfl hc1)<|
        .c (uM rfl)<|
        .c (o_mv rfl rfl (.yes rfl rfl hc2) rfl)<|
        .c (qj rfl rfl (.yes rfl rfl hc2) rfl rfl (s_eql _ _) rfl)<|
        .c (uPT rfl hc2)<|
        .c (uM rfl)<|
        .c (o_mv rfl rfl (.yes rfl rfl hc3) rfl)<|
        .c (uPT rfl hc3)<|
        .c (uM rfl)<|
        .c (o_mv rfl rfl (.yes rfl rfl hc4) rfl)<|
        .c (qj rfl rfl (.yes rfl rfl hc4) rfl rfl (qd0 _ _) rfl)<|
        .c (uPT rfl hc4)<|
        .c (uM rfl)<|
        .c (o_mv rfl rfl (.yes rfl rfl hc5) rfl)<|
        .c (qo5 rfl rfl (.yes rfl rfl hc5) rfl)<|
        .c (uPT rfl hc5)<|
        .c (uM rfl)<|
        .c (uN rfl rfl hc6)<|
        .c (uN rfl rfl hc6)<|
        .c (uPF rfl hc6)<|
        .c (uM rfl)<|
        .c (uN rfl rfl rfl)<|
        .c (uN rfl rfl rfl)<|
        .c (uN rfl rfl rfl)<|
        .c (uPF rfl rfl)<|
        .c (uM rfl)<|
        .c (uN rfl rfl rfl)<|
        .c (uN rfl rfl rfl)<|
        .c (uPF rfl rfl)<|
        .c (uM rfl)<|
        .c (uN rfl rfl rfl)<|
        .c (uN rfl rfl rfl)<|
        .c (uN rfl rfl rfl)<|
        .c (uN rfl rfl rfl)<|
        .c (uPF rfl rfl)<|
        .c (uM rfl)<|
        .c (uN rfl rfl rfl)<|
        .c (uN rfl rfl rfl)<|
        .c (uN rfl rfl rfl)<|
        .c (uN rfl rfl rfl)<|
        .c (uN rfl rfl rfl)<|
        .c (uPF rfl rfl)<|
        .c (uM rfl)<|
        .c (uN rfl rfl rfl)<|
        .c (uN rfl rfl rfl)<|
        .c (uN rfl rfl rfl)<|
        .c (uN rfl rfl rfl)<|
        .c (uN rfl rfl rfl)<|
        .c (uPF rfl rfl)<|
        .c (uM rfl)<|
        .c (uN rfl rfl rfl)<|
        .c (uN rfl rfl rfl)<|
        .c (uN rfl rfl rfl)<|
        .c (uPF rfl rfl)<|
        .c (uM rfl)<|
        .c (uPF rfl rfl)<|
        .c (uM rfl)<|
        .c (uPF rfl rfl)<|
        .c (uA rfl)<|.nil rfl
       ) ?_
       exact ⟨false,(sJ h21),.w (wkF ⟨wD rfl,trivial⟩ trivial qG)⟩
      refine cwR (
       .c (uM rfl)<|
       .c (uB rfl (qd0 _ _) rfl)<|
       .c (uM rfl)<|
       .c (o_mv rfl rfl (.yes rfl rfl hc0) rfl)<|
       .c (qj rfl rfl (.yes rfl rfl hc0) rfl rfl (qd0 _ _) rfl)<|
       .c (uPT rfl hc0)<|
       .c (uM rfl)<|
       .c (o_mv rfl rfl (.yes rfl rfl hc1) rfl)<|
       .c (qj rfl rfl (.yes rfl rfl hc1) rfl rfl (qd0 _ _) rfl)<|
       .c (uPT rfl hc1)<|
       .c (uM rfl)<|
       .c (o_mv rfl rfl (.yes rfl rfl hc2) rfl)<|
       .c (qj rfl rfl (.yes rfl rfl hc2) rfl rfl (s_eql _ _) rfl)<|
       .c (uPT rfl hc2)<|
       .c (uM rfl)<|
       .c (o_mv rfl rfl (.yes rfl rfl hc3) rfl)<|
       .c (uPT rfl hc3)<|
       .c (uM rfl)<|
       .c (o_mv rfl rfl (.yes rfl rfl hc4) rfl)<|
       .c (qj rfl rfl (.yes rfl rfl hc4) rfl rfl (qd0 _ _) rfl)<|
       .c (uPT rfl hc4)<|
       .c (uM rfl)<|
       .c (uN rfl rfl hc5)<|
       .c (uN rfl rfl hc5)<|
       .c (uPF rfl hc5)<|
       .c (uM rfl)<|
       .c (uN rfl rfl rfl)<|
       .c (uN rfl rfl rfl)<|
       .c (uPF rfl rfl)<|
       .c (uM rfl)<|
       .c (uN rfl rfl rfl)<|
       .c (uN rfl rfl rfl)<|
       .c (uN rfl rfl rfl)<|
       .c (uPF rfl rfl)<|
       .c (uM rfl)<|
       .c (uN rfl rfl rfl)<|
       .c (uN rfl rfl rfl)<|
       .c (uPF rfl rfl)<|
       .c (uM rfl)<|
       .c (uN rfl rfl rfl)<|
       .c (uN rfl rfl rfl)<|
       .c (uN rfl rfl rfl)<|
       .c (uN rfl rfl rfl)<|
       .c (uPF rfl rfl)<|
       .c (uM rfl)<|
       .c (uN rfl rfl rfl)<|
       .c (uN rfl rfl rfl)<|
       .c (uN rfl rfl rfl)<|
       .c (uN rfl rfl rfl)<|
       .c (uN rfl rfl rfl)<|
       .c (uPF rfl rfl)<|
       .c (uM rfl)<|
       .c (uN rfl rfl rfl)<|
       .c (uN rfl rfl rfl)<|
       .c (uN rfl rfl rfl)<|
       .c (uN rfl rfl rfl)<|
       .c (uN rfl rfl rfl)<|
       .c (uPF rfl rfl)<|
       .c (uM rfl)<|
       .c (uN rfl rfl rfl)<|
       .c (uN rfl rfl rfl)<|
       .c (uN rfl rfl rfl)<|
       .c (uPF rfl rfl)<|
       .c (uM rfl)<|
       .c (uPF rfl rfl)<|
       .c (uM rfl)<|
       .c (uPF rfl rfl)<|
       .c (uA rfl)<|.nil rfl
      ) ?_
      exact ⟨false,(sJ h19),.w (wkF ⟨wD rfl,trivial⟩ trivial qG)⟩
     refine cwR (
      .c (uM rfl)<|
      .c (uB rfl (qd0 _ _) rfl)<|
      .c (uM rfl)<|
      .c (o_mv rfl rfl (.yes rfl rfl hc0) rfl)<|
      .c (qj rfl rfl (.yes rfl rfl hc0) rfl rfl (qd0 _ _) rfl)<|
      .c (uPT rfl hc0)<|
      .c (uM rfl)<|
      .c (o_mv rfl rfl (.yes rfl rfl hc1) rfl)<|
      .c (qj rfl rfl (.yes rfl rfl hc1) rfl rfl (qd0 _ _) rfl)<|
      .c (uPT rfl hc1)<|
      .c (uM rfl)<|
      .c (o_mv rfl rfl (.yes rfl rfl hc2) rfl)<|
      .c (qj rfl rfl (.yes rfl rfl hc2) rfl rfl (s_eql _ _) rfl)<|
      .c (uPT rfl hc2)<|
      .c (uM rfl)<|
      .c (o_mv rfl rfl (.yes rfl rfl hc3) rfl)<|
      .c (uPT rfl hc3)<|
      .c (uM rfl)<|
      .c (uN rfl rfl hc4)<|
      .c (uN rfl rfl hc4)<|
      .c (uPF rfl hc4)<|
      .c (uM rfl)<|
      .c (uN rfl rfl rfl)<|
      .c (uN rfl rfl rfl)<|
      .c (uPF rfl rfl)<|
      .c (uM rfl)<|
      .c (uN rfl rfl rfl)<|
      .c (uN rfl rfl rfl)<|
      .c (uPF rfl rfl)<|
      .c (uM rfl)<|
      .c (uN rfl rfl rfl)<|
      .c (uN rfl rfl rfl)<|
      .c (uN rfl rfl rfl)<|
      .c (uPF rfl rfl)<|
      .c (uM rfl)<|
      .c (uN rfl rfl rfl)<|
      .c (uN rfl rfl rfl)<|
      .c (uPF rfl rfl)<|
      .c (uM rfl)<|
      .c (uN rfl rfl rfl)<|
      .c (uN rfl rfl rfl)<|
      .c (uN rfl rfl rfl)<|
      .c (uN rfl rfl rfl)<|
      .c (uPF rfl rfl)<|
      .c (uM rfl)<|
      .c (uN rfl rfl rfl)<|
      .c (uN rfl rfl rfl)<|
      .c (uN rfl rfl rfl)<|
      .c (uN rfl rfl rfl)<|
      .c (uN rfl rfl rfl)<|
      .c (uPF rfl rfl)<|
      .c (uM rfl)<|
      .c (uN rfl rfl rfl)<|
      .c (uN rfl rfl rfl)<|
      .c (uN rfl rfl rfl)<|
      .c (uN rfl rfl rfl)<|
      .c (uN rfl rfl rfl)<|
      .c (uPF rfl rfl)<|
      .c (uM rfl)<|
      .c (uN rfl rfl rfl)<|
      .c (uN rfl rfl rfl)<|
      .c (uN rfl rfl rfl)<|
      .c (uPF rfl rfl)<|
      .c (uM rfl)<|
      .c (uPF rfl rfl)<|
      .c (uM rfl)<|
      .c (uPF rfl rfl)<|
      .c (uA rfl)<|.nil rfl
     ) ?_
     exact ⟨false,(sJ h17),.w (wkF ⟨wD rfl,trivial⟩ trivial qG)⟩
    refine cwR (
     .c (uM rfl)<|
     .c (uB rfl (qd0 _ _) rfl)<|
     .c (uM rfl)<|
     .c (o_mv rfl rfl (.yes rfl rfl hc0) rfl)<|
     .c (qj rfl rfl (.yes rfl rfl hc0) rfl rfl (qd0 _ _) rfl)<|
     .c (uPT rfl hc0)<|
     .c (uM rfl)<|
     .c (o_mv rfl rfl (.yes rfl rfl hc1) rfl)<|
     .c (qj rfl rfl (.yes rfl rfl hc1) rfl rfl (qd0 _ _) rfl)<|
     .c (uPT rfl hc1)<|
     .c (uM rfl)<|
     .c (o_mv rfl rfl (.yes rfl rfl hc2) rfl)<|
     .c (qj rfl rfl (.yes rfl rfl hc2) rfl rfl (s_eql _ _) rfl)<|
     .c (uPT rfl hc2)<|
     .c (uM rfl)<|
     .c (uN rfl rfl hc3)<|
     .c (uPF rfl hc3)<|
     .c (uM rfl)<|
     .c (uN rfl rfl rfl)<|
     .c (uN rfl rfl rfl)<|
     .c (uPF rfl rfl)<|
     .c (uM rfl)<|
     .c (uN rfl rfl rfl)<|
     .c (uN rfl rfl rfl)<|
     .c (uPF rfl rfl)<|
     .c (uM rfl)<|
     .c (uN rfl rfl rfl)<|
     .c (uN rfl rfl rfl)<|
     .c (uPF rfl rfl)<|
     .c (uM rfl)<|
     .c (uN rfl rfl rfl)<|
     .c (uN rfl rfl rfl)<|
     .c (uN rfl rfl rfl)<|
     .c (uPF rfl rfl)<|
     .c (uM rfl)<|
     .c (uN rfl rfl rfl)<|
     .c (uN rfl rfl rfl)<|
     .c (uPF rfl rfl)<|
     .c (uM rfl)<|
     .c (uN rfl rfl rfl)<|
     .c (uN rfl rfl rfl)<|
     .c (uN rfl rfl rfl)<|
     .c (uN rfl rfl rfl)<|
     .c (uPF rfl rfl)<|
     .c (uM rfl)<|
     .c (uN rfl rfl rfl)<|
     .c (uN rfl rfl rfl)<|
     .c (uN rfl rfl rfl)<|
     .c (uN rfl rfl rfl)<|
     .c (uN rfl rfl rfl)<|
     .c (uPF rfl rfl)<|
     .c (uM rfl)<|
     .c (uN rfl rfl rfl)<|
     .c (uN rfl rfl rfl)<|
     .c (uN rfl rfl rfl)<|
     .c (uN rfl rfl rfl)<|
     .c (uN rfl rfl rfl)<|
     .c (uPF rfl rfl)<|
     .c (uM rfl)<|
     .c (uN rfl rfl rfl)<|
     .c (uN rfl rfl rfl)<|
     .c (uN rfl rfl rfl)<|
     .c (uPF rfl rfl)<|
     .c (uM rfl)<|
     .c (uPF rfl rfl)<|
     .c (uM rfl)<|
     .c (uPF rfl rfl)<|
     .c (uA rfl)<|.nil rfl
    ) ?_
    exact ⟨false,(sJ h15),.w (wkF ⟨wD rfl,trivial⟩ trivial qG)⟩
   refine cwR (
    .c (uM rfl)<|
    .c (uB rfl (qd0 _ _) rfl)<|
    .c (uM rfl)<|
    .c (o_mv rfl rfl (.yes rfl rfl hc0) rfl)<|
    .c (qj rfl rfl (.yes rfl rfl hc0) rfl rfl (qd0 _ _) rfl)<|
    .c (uPT rfl hc0)<|
    .c (uM rfl)<|
    .c (o_mv rfl rfl (.yes rfl rfl hc1) rfl)<|
    .c (qj rfl rfl (.yes rfl rfl hc1) rfl rfl (qd0 _ _) rfl)<|
    .c (uPT rfl hc1)<|
    .c (uM rfl)<|
    .c (uN rfl rfl hc2)<|
    .c (uN rfl rfl hc2)<|
    .c (uPF rfl hc2)<|
    .c (uM rfl)<|
    .c (uN rfl rfl rfl)<|
    .c (uPF rfl rfl)<|
    .c (uM rfl)<|
    .c (uN rfl rfl rfl)<|
    .c (uN rfl rfl rfl)<|
    .c (uPF rfl rfl)<|
    .c (uM rfl)<|
    .c (uN rfl rfl rfl)<|
    .c (uN rfl rfl rfl)<|
    .c (uPF rfl rfl)<|
    .c (uM rfl)<|
    .c (uN rfl rfl rfl)<|
    .c (uN rfl rfl rfl)<|
    .c (uPF rfl rfl)<|
    .c (uM rfl)<|
    .c (uN rfl rfl rfl)<|
    .c (uN rfl rfl rfl)<|
    .c (uN rfl rfl rfl)<|
    .c (uPF rfl rfl)<|
    .c (uM rfl)<|
    .c (uN rfl rfl rfl)<|
    .c (uN rfl rfl rfl)<|
    .c (uPF rfl rfl)<|
    .c (uM rfl)<|
    .c (uN rfl rfl rfl)<|
    .c (uN rfl rfl rfl)<|
    .c (uN rfl rfl rfl)<|
    .c (uN rfl rfl rfl)<|
    .c (uPF rfl rfl)<|
    .c (uM rfl)<|
    .c (uN rfl rfl rfl)<|
    .c (uN rfl rfl rfl)<|
    .c (uN rfl rfl rfl)<|
    .c (uN rfl rfl rfl)<|
    .c (uN rfl rfl rfl)<|
    .c (uPF rfl rfl)<|
    .c (uM rfl)<|
    .c (uN rfl rfl rfl)<|
    .c (uN rfl rfl rfl)<|
    .c (uN rfl rfl rfl)<|
    .c (uN rfl rfl rfl)<|
    .c (uN rfl rfl rfl)<|
    .c (uPF rfl rfl)<|
    .c (uM rfl)<|
    .c (uN rfl rfl rfl)<|
    .c (uN rfl rfl rfl)<|
    .c (uN rfl rfl rfl)<|
    .c (uPF rfl rfl)<|
    .c (uM rfl)<|
    .c (uPF rfl rfl)<|
    .c (uM rfl)<|
    .c (uPF rfl rfl)<|
    .c (uA rfl)<|.nil rfl
   ) ?_
   exact ⟨false,(sJ h13),.w (wkF ⟨wD rfl,trivial⟩ trivial qG)⟩
  refine cwR (
   .c (uM rfl)<|
   .c (uB rfl (qd0 _ _) rfl)<|
   .c (uM rfl)<|
   .c (o_mv rfl rfl (.yes rfl rfl hc0) rfl)<|
   .c (qj rfl rfl (.yes rfl rfl hc0) rfl rfl (qd0 _ _) rfl)<|
   .c (uPT rfl hc0)<|
   .c (uM rfl)<|
   .c (uN rfl rfl hc1)<|
   .c (uN rfl rfl hc1)<|
   .c (uPF rfl hc1)<|
   .c (uM rfl)<|
   .c (uN rfl rfl rfl)<|
   .c (uN rfl rfl rfl)<|
   .c (uPF rfl rfl)<|
   .c (uM rfl)<|
   .c (uN rfl rfl rfl)<|
   .c (uPF rfl rfl)<|
   .c (uM rfl)<|
   .c (uN rfl rfl rfl)<|
   .c (uN rfl rfl rfl)<|
   .c (uPF rfl rfl)<|
   .c (uM rfl)<|
   .c (uN rfl rfl rfl)<|
   .c (uN rfl rfl rfl)<|
   .c (uPF rfl rfl)<|
   .c (uM rfl)<|
   .c (uN rfl rfl rfl)<|
   .c (uN rfl rfl rfl)<|
   .c (uPF rfl rfl)<|
   .c (uM rfl)<|
   .c (uN rfl rfl rfl)<|
   .c (uN rfl rfl rfl)<|
   .c (uN rfl rfl rfl)<|
   .c (uPF rfl rfl)<|
   .c (uM rfl)<|
   .c (uN rfl rfl rfl)<|
   .c (uN rfl rfl rfl)<|
   .c (uPF rfl rfl)<|
   .c (uM rfl)<|
   .c (uN rfl rfl rfl)<|
   .c (uN rfl rfl rfl)<|
   .c (uN rfl rfl rfl)<|
   .c (uN rfl rfl rfl)<|
   .c (uPF rfl rfl)<|
   .c (uM rfl)<|
   .c (uN rfl rfl rfl)<|
   .c (uN rfl rfl rfl)<|
   .c (uN rfl rfl rfl)<|
   .c (uN rfl rfl rfl)<|
   .c (uN rfl rfl rfl)<|
   .c (uPF rfl rfl)<|
   .c (uM rfl)<|
   .c (uN rfl rfl rfl)<|
   .c (uN rfl rfl rfl)<|
   .c (uN rfl rfl rfl)<|
   .c (uN rfl rfl rfl)<|
   .c (uN rfl rfl rfl)<|
   .c (uPF rfl rfl)<|
   .c (uM rfl)<|
   .c (uN rfl rfl rfl)<|
   .c (uN rfl rfl rfl)<|
   .c (uN rfl rfl rfl)<|
   .c (uPF rfl rfl)<|
   .c (uM rfl)<|
   .c (uPF rfl rfl)<|
   .c (uM rfl)<|
   .c (uPF rfl rfl)<|
   .c (uA rfl)<|.nil rfl
  ) ?_
  exact ⟨false,(sJ h11),.w (wkF ⟨wD rfl,trivial⟩ trivial qG)⟩
 refine cwR (
  .c (uM rfl)<|
  .c (uB rfl (qd0 _ _) rfl)<|
  .c (uM rfl)<|
  .c (uN rfl rfl hc0)<|
  .c (uN rfl rfl hc0)<|
  .c (uPF rfl hc0)<|
  .c (uM rfl)<|
  .c (uN rfl rfl rfl)<|
  .c (uN rfl rfl rfl)<|
  .c (uPF rfl rfl)<|
  .c (uM rfl)<|
  .c (uN rfl rfl rfl)<|
  .c (uN rfl rfl rfl)<|
  .c (uPF rfl rfl)<|
  .c (uM rfl)<|
  .c (uN rfl rfl rfl)<|
  .c (uPF rfl rfl)<|
  .c (uM rfl)<|
  .c (uN rfl rfl rfl)<|
  .c (uN rfl rfl rfl)<|
  .c (uPF rfl rfl)<|
  .c (uM rfl)<|
  .c (uN rfl rfl rfl)<|
  .c (uN rfl rfl rfl)<|
  .c (uPF rfl rfl)<|
  .c (uM rfl)<|
  .c (uN rfl rfl rfl)<|
  .c (uN rfl rfl rfl)<|
  .c (uPF rfl rfl)<|
  .c (uM rfl)<|
  .c (uN rfl rfl rfl)<|
  .c (uN rfl rfl rfl)<|
  .c (uN rfl rfl rfl)<|
  .c (uPF rfl rfl)<|
  .c (uM rfl)<|
  .c (uN rfl rfl rfl)<|
  .c (uN rfl rfl rfl)<|
  .c (uPF rfl rfl)<|
  .c (uM rfl)<|
  .c (uN rfl rfl rfl)<|
  .c (uN rfl rfl rfl)<|
  .c (uN rfl rfl rfl)<|
  .c (uN rfl rfl rfl)<|
  .c (uPF rfl rfl)<|
  .c (uM rfl)<|
  .c (uN rfl rfl rfl)<|
  .c (uN rfl rfl rfl)<|
  .c (uN rfl rfl rfl)<|
  .c (uN rfl rfl rfl)<|
  .c (uN rfl rfl rfl)<|
  .c (uPF rfl rfl)<|
  .c (uM rfl)<|
  .c (uN rfl rfl rfl)<|
  .c (uN rfl rfl rfl)<|
  .c (uN rfl rfl rfl)<|
  .c (uN rfl rfl rfl)<|
  .c (uN rfl rfl rfl)<|
  .c (uPF rfl rfl)<|
  .c (uM rfl)<|
  .c (uN rfl rfl rfl)<|
  .c (uN rfl rfl rfl)<|
  .c (uN rfl rfl rfl)<|
  .c (uPF rfl rfl)<|
  .c (uM rfl)<|
  .c (uPF rfl rfl)<|
  .c (uM rfl)<|
  .c (uPF rfl rfl)<|
  .c (uA rfl)<|.nil rfl
 ) ?_
 exact ⟨false,(sJ h9),.w (wkF ⟨wD rfl,trivial⟩ trivial qG)⟩
end
end Go.Val
