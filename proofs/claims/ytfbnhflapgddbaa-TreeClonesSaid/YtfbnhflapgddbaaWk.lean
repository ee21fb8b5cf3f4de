/- Walks of the program's functions,printed. -/
import Derived.Test.YtfbnhflapgddbaaWj
import Derived.Test.YtfbnhflapgddbaaHk
set_option linter.unusedSectionVars false
set_option linter.unusedVariables false
set_option linter.unusedSimpArgs false
set_option maxRecDepth 100000
namespace Go.Val
open Go.RowKit Go.Proofs
section
variable [NoDrw]
noncomputable def qA1 (a0 : List ttC) (a1 : List ttC) (a2 : Int) (a3 : Int) (a4 : Int) : Option Bool := (qs2).bind fun x0 => (qS1 a0).bind fun x1 => cond (!x1.2.2) (some false) ((qX1 a1 30 40).bind fun x2 => (qw0 x1.1 x1.2.1 x2).bind fun x3 => cond (decide (x3.2.1 ≠ 0)) (some false) ((qh2).bind fun x4 =>
   (ql0 x3.2.2 x1.2.1 x4).bind fun x5 => (ql0 x5.2.2 x3.1 x4).bind fun x6 => (((qG (V := (Int × ttM × (List Int))) (O := ((ttM × (List Int)) ⊕ Bool)) (fun v0 => cond (decide (v0.1 < (IntKind.wrap .i64 ((qv .i64 a2 3) + (qv .i64 a3 3))))) ((((cond (decide (v0.1 ≥ (qv .i64 a2 3))) (some x3.1) (some x1.2.1)) : Option Int)).bind fun o0 =>
      (q30 v0.2.1 o0).bind fun x7 => cond (decide (x7.1 ≠ 0)) (some (.inr (.inr false))) ((fits (v0.2.2.length + ([o0]).length) 8).bind fun _ => some (.inl ((IntKind.wrap .i64 (v0.1 + 1)),x7.2,(v0.2.2 ++ [o0]))))) (some (.inr (.inl (v0.2.1,v0.2.2))))) (0,x6.2.2,[x1.2.1,x3.1])) : Option ((ttM × (List Int)) ⊕ Bool))).bind fun o1 => Sum.elim (fun (v1 : (ttM × (List Int))) =>
    (qM0 v1.1 3000 v1.2).bind fun x8 => cond (!x8.1) (some false) ((((qG (V := ((List Int) × Int × ttM)) (O := (ttM ⊕ Bool)) (fun v2 => cond (decide ((v2.1.length : Int) > 0)) (((((ck (decide (0 ≤ (IntKind.wrap .u64 (qv .i64 (IntKind.wrap .i64 (2 * v2.2.1)) 31))))).bind fun _ => (ck (decide ((v2.1.length : Int) ≠ 0))).bind fun _ =>
         (gx v2.1 (Int.tmod (qv .i64 (Int.fdiv a4 (2 ^ (min (IntKind.wrap .u64 (qv .i64 (IntKind.wrap .i64 (2 * v2.2.1)) 31)).toNat (IntKind.bits .i64)))) 3) (v2.1.length : Int))).bind fun x9 => (qj0 v2.2.2 x9).bind fun x10 => cond (decide (x10.1 ≠ 0)) (some (.inr false)) (
          (cutB 0 (Int.tmod (qv .i64 (Int.fdiv a4 (2 ^ (min (IntKind.wrap .u64 (qv .i64 (IntKind.wrap .i64 (2 * v2.2.1)) 31)).toNat (IntKind.bits .i64)))) 3) (v2.1.length : Int)) v2.1.length).bind fun _ =>
          (fits (([] : List Int).length + (qA0 v2.1 0 (Int.tmod (qv .i64 (Int.fdiv a4 (2 ^ (min (IntKind.wrap .u64 (qv .i64 (IntKind.wrap .i64 (2 * v2.2.1)) 31)).toNat (IntKind.bits .i64)))) 3) (v2.1.length : Int))).length) 8).bind fun _ =>
          (cutB (IntKind.wrap .i64 ((Int.tmod (qv .i64 (Int.fdiv a4 (2 ^ (min (IntKind.wrap .u64 (qv .i64 (IntKind.wrap .i64 (2 * v2.2.1)) 31)).toNat (IntKind.bits .i64)))) 3) (v2.1.length : Int)) + 1)) (v2.1.length : Int) v2.1.length).bind fun _ =>
          (fits ((([] : List Int) ++ (qA0 v2.1 0 (Int.tmod (qv .i64 (Int.fdiv a4 (2 ^ (min (IntKind.wrap .u64 (qv .i64 (IntKind.wrap .i64 (2 * v2.2.1)) 31)).toNat (IntKind.bits .i64)))) 3) (v2.1.length : Int)))).length + (qA0 v2.1 (IntKind.wrap .i64 ((Int.tmod (qv .i64 (Int.fdiv a4 (2 ^ (min (IntKind.wrap .u64 (qv .i64 (IntKind.wrap .i64 (2 * v2.2.1)) 31)).toNat (IntKind.bits .i64)))) 3) (v2.1.length : Int)) + 1)) (v2.1.length : Int)).length) 8).bind fun _ =>
          (qM0 x10.2 3000 ((([] : List Int) ++ (qA0 v2.1 0 (Int.tmod (qv .i64 (Int.fdiv a4 (2 ^ (min (IntKind.wrap .u64 (qv .i64 (IntKind.wrap .i64 (2 * v2.2.1)) 31)).toNat (IntKind.bits .i64)))) 3) (v2.1.length : Int)))) ++ (qA0 v2.1 (IntKind.wrap .i64 ((Int.tmod (qv .i64 (Int.fdiv a4 (2 ^ (min (IntKind.wrap .u64 (qv .i64 (IntKind.wrap .i64 (2 * v2.2.1)) 31)).toNat (IntKind.bits .i64)))) 3) (v2.1.length : Int)) + 1)) (v2.1.length : Int)))).bind fun x11 =>
          cond (!x11.1) (some (.inr false)) (qG (V := ((List Int) × Int × ttM)) (O := (((List Int) × ttM) ⊕ Bool)) (fun v3 => cond (decide (v3.2.1 < (v3.1.length : Int))) ((gx v3.1 v3.2.1).bind fun x12 => (ql0 v3.2.2 x12 x4).bind fun x13 => (((cond (decide (x12 = x3.1)) (some x6.1) (some x5.1)) : Option (List ttR))).bind fun o2 => (qL1 x13.1 o2).bind fun x14 => (((
              cond (decide (x13.2.1 ≠ 0)) (some true) (some (!x14))) : Option Bool)).bind fun o3 => cond o3 (some (.inr (.inr false))) (some (.inl (v3.1,(IntKind.wrap .i64 (v3.2.1 + 1)),x13.2.2)))) (some (.inr (.inl (v3.1,v3.2.2))))
           ) (((([] : List Int) ++ (qA0 v2.1 0 (Int.tmod (qv .i64 (Int.fdiv a4 (2 ^ (min (IntKind.wrap .u64 (qv .i64 (IntKind.wrap .i64 (2 * v2.2.1)) 31)).toNat (IntKind.bits .i64)))) 3) (v2.1.length : Int)))) ++ (qA0 v2.1 (IntKind.wrap .i64 ((Int.tmod (qv .i64 (Int.fdiv a4 (2 ^ (min (IntKind.wrap .u64 (qv .i64 (IntKind.wrap .i64 (2 * v2.2.1)) 31)).toNat (IntKind.bits .i64)))) 3) (v2.1.length : Int)) + 1)) (v2.1.length : Int))),0,x11.2)
          ))) : Option (((List Int) × ttM) ⊕ Bool))).bind fun o4 => Sum.elim (fun (v4 : ((List Int) × ttM)) => some (.inl (v4.1,(IntKind.wrap .i64 (v2.2.1 + 1)),v4.2))) (fun w0 => some (.inr (.inr w0))) o4) (some (.inr (.inl v2.2.2)))) (v1.2,0,x8.2)) : Option (ttM ⊕ Bool))).bind fun o5 => Sum.elim (fun (v5 : ttM) => (((cond x0 ((q90 v5).bind fun x15 =>
        cond (decide (x15.1 = 3000)) ((q30 x15.2 0).bind fun x16 => cond (decide (x16.1 = 0)) ((qj0 x16.2 0).bind fun x17 => some (decide (x17.1 = 0))) (some false)) (some false)) (some false)) : Option Bool)).bind fun o6 => some o6) (fun w1 => some w1) o5)) (fun w2 => some w2) o1))
theorem qB4 {a0 : List ttC} {a1 : List ttC} {a2 : Int} {a3 : Int} {a4 : Int} {r : Bool} (h : qA1 a0 a1 a2 a3 a4 = some r) : FnOk Try.prog 12 [.d (eSC a0),.d (eSC a1),.d (eint a2),.d (eint a3),.d (eint a4)] 0 (lk []) (fun rr oo => rr = .d (qQ r) ∧ oo = lk []) := by
 refine fnO Try.func12 rfl rfl (cwP ?_)
 unfold qA1 at h
 refine cwS (cwR (
  .c (uA rfl)<|.nil rfl) ?_)
 have ⟨x0,hx0,h0⟩ := bdS (x := qs2) h
 refine cwS (cwR (
  .c (qn0 rfl rfl .no Try.func13 rfl rfl (law07_shown_ok hx0) .nil trivial (.inl rfl))<|
  .c (uA rfl)<|.nil rfl) ?_)
 have ⟨x1,hx1,h1⟩ := bdS (x := qS1 a0) h0
 refine cwS (cwR (
  .c (uM rfl)<|
  .c (qR4 0 rfl rfl .no Try.func29 rfl rfl (law07_grown_ok hx1) (.cons rfl .d .nil) ⟨trivial,trivial⟩ rfl (.inl rfl))<|
  .c (uM rfl)<|
  .c (uE rfl)<|
  .c (uE rfl)<|
  .c (uE rfl)<|
  .c (uA rfl)<|
  .c (uA rfl)<|
  .c (uA rfl)<|.nil rfl) ?_)
 refine cwS ?_
 refine cwS (cwR (
  .c (uM rfl)<|
  .c (uT rfl)<|.nil rfl) ?_)
 rcases cdS h1 with ⟨hc0,h2⟩ | ⟨hc0,h3⟩
 ·refine cwT rfl hc0 ?_
  refine cwS (cwR (
   .c (uA rfl)<|.nil rfl) ?_)
  have heq := ((sJ h2)).symm
  subst heq
  exact qq ⟨_,(show Leads _ _ (St.of [(10,.d (qQ false))] []) from .w (wkF ⟨wD rfl,trivial⟩ trivial qE)),.inr rfl,_,res1 rfl rfl,rfl,rfl⟩
 refine cwF rfl hc0 ?_
 refine cwK ?_
 have ⟨x2,hx2,h4⟩ := bdS (x := qX1 a1 30 40) h3
 have ⟨x3,hx3,h5⟩ := bdS (x := qw0 x1.1 x1.2.1 x2) h4
 refine cwS (cwR (
  .c (uM rfl)<|
  .c (qG2 rfl rfl .no rfl q65)<|
  .c (uM rfl)<|
  .c (uM rfl)<|
  .c (qn0 rfl rfl .no Try.func16 rfl rfl (law07_few_ok hx2) (.cons rfl .d (.cons rfl .d (.cons rfl .d .nil))) ⟨trivial,trivial,trivial,trivial⟩ (.inl rfl))<|
  .c (qC (fun _ => 0) rfl rfl .no Try.func15 rfl rfl (q02 hx3) (.cons rfl (.ip rfl) (.cons rfl .d (.cons rfl .d .nil))) (qI rfl ⟨(by simp [AV.live,lk,Nat.beq]),trivial,trivial,trivial⟩ rfl (OD.dat_live (q9 _)) (by simp)) (.inl rfl))<|
  .c (uM rfl)<|
  .c (uE rfl)<|
  .c (uE rfl)<|
  .c (uA rfl)<|
  .c (uA rfl)<|.nil rfl) ?_)
 refine cwS ?_
 refine cwS (cwR (
  .c (uM rfl)<|
  .c (uB rfl (qq3 _ _) rfl)<|.nil rfl) ?_)
 rcases cdS h5 with ⟨hc1,h6⟩ | ⟨hc1,h7⟩
 ·refine cwT rfl hc1 ?_
  refine cwS (cwR (
   .c (uA rfl)<|.nil rfl) ?_)
  have heq := ((sJ h6)).symm
  subst heq
  exact qq ⟨_,(show Leads _ _ (St.of [(10,.d (qQ false))] []) from .w (wkF ⟨wD rfl,trivial⟩ trivial qE)),.inr rfl,_,res1 rfl rfl,rfl,rfl⟩
 refine cwF rfl hc1 ?_
 refine cwK ?_
 have ⟨x4,hx4,h8⟩ := bdS (x := qh2) h7
 have ⟨x5,hx5,h9⟩ := bdS (x := ql0 x3.2.2 x1.2.1 x4) h8
 refine cwS (cwR (
  .c (uM rfl)<|
  .c (qG2 rfl rfl .no rfl q65)<|
  .c (uM rfl)<|
  .c (qn0 rfl rfl .no Try.func18 rfl rfl (qi3 hx4) .nil trivial (.inl rfl))<|
  .c (qC (fun _ => 0) rfl rfl .no Try.func17 rfl rfl (qk2 hx5) (.cons rfl (.ip rfl) (.cons rfl .d (.cons rfl .d .nil))) (qI rfl ⟨(by simp [AV.live,lk,Nat.beq]),trivial,trivial,trivial⟩ rfl (OD.dat_live (q9 _)) (by simp)) (.inl rfl))<|
  .c (uM rfl)<|
  .c (uE rfl)<|
  .c (uE rfl)<|
  .c (uA rfl)<|
  .c (uA rfl)<|.nil rfl) ?_)
 have ⟨x6,hx6,h10⟩ := bdS (x := ql0 x5.2.2 x3.1 x4) h9
 refine cwS (cwR (
  .c (uM rfl)<|
  .c (qG2 rfl rfl .no rfl q65)<|
  .c (uM rfl)<|
  .c (qn0 rfl rfl .no Try.func18 rfl rfl (qi3 hx4) .nil trivial (.inl rfl))<|
  .c (qC (fun _ => 0) rfl rfl .no Try.func17 rfl rfl (qk2 hx6) (.cons rfl (.ip rfl) (.cons rfl .d (.cons rfl .d .nil))) (qI rfl ⟨(by simp [AV.live,lk,Nat.beq]),trivial,trivial,trivial⟩ rfl (OD.dat_live (q9 _)) (by simp)) (.inl rfl))<|
  .c (uM rfl)<|
  .c (uE rfl)<|
  .c (uE rfl)<|
  .c (uA rfl)<|
  .c (uA rfl)<|.nil rfl) ?_)
 refine cwS (cwR (
  .c (uM rfl)<|
  .c (uM rfl)<|
  .c (o_bslO (rows := ([x1.2.1,x3.1] : List Int).map eint) 1 rfl rfl .no (.cons rfl (.cons rfl .nil)) rfl sl59 sz3 ze3 rfl (qo1 qb5) (by decide) rfl)<|
  .c (uA rfl)<|.nil rfl) ?_)
 have ⟨o0,hj0,h11⟩ := bdS h10
 refine cwJ (fun (z : (ttM × (List Int))) => St.of [(4,.d (eint a4)),(11,.d (qQ x0)),(12,.ptr 0 0),(15,.d (eint x3.1)),(17,.d (eSP_ x5.1)),(19,.d (eSP_ x6.1)),(21,.arr 1 0)] [(0,.own (qc z.1)),(1,.arr 0 1 (z.2.map eint))]) (fun (z : (ttM × (List Int))) => o0 = (.inl z)) ?_ ?_
 ·intro v0 hv0; subst hv0
  simp only [Sum.elim_inl] at h11
  refine cwS ?_
  refine cwW (wkF (l := [(4,.d (eint a4)),(11,.d (qQ x0)),(12,.ptr 0 0),(15,.d (eint x3.1)),(17,.d (eSP_ x5.1)),(19,.d (eSP_ x6.1)),(21,.d (eSint v0.2))]) (m := [(0,.own (qc v0.1))]) ⟨wD rfl,wD rfl,⟨_,rfl,.ptro rfl rfl⟩,wD rfl,wD rfl,wD rfl,⟨_,rfl,.frz rfl rfl rfl⟩,trivial⟩ ⟨.own rfl (.of_eq rfl (q9 _)),trivial⟩ qE) ?_
  have ⟨x7,hx7,h12⟩ := bdS (x := qM0 v0.1 3000 v0.2) h11
  refine cwS (cwR (
   .c (uM rfl)<|
   .c (uM rfl)<|
   .c (qC (fun _ => 0) rfl rfl .no Try.func26 rfl rfl (qV3 hx7) (.cons rfl (.p rfl) (.cons rfl .d (.cons rfl .d .nil))) (qI rfl ⟨(by simp [AV.live,lk,Nat.beq]),trivial,trivial,trivial⟩ rfl (OD.dat_live (q9 _)) (by simp)) (.inl rfl))<|
   .c (uT rfl)<|.nil rfl) ?_)
  rcases cdS h12 with ⟨hc2,h13⟩ | ⟨hc2,h14⟩
  ·refine cwT rfl hc2 ?_
   refine cwS (cwR (
    .c (uA rfl)<|.nil rfl) ?_)
   have heq := ((sJ h13)).symm
   subst heq
   exact qq ⟨_,(show Leads _ _ (St.of [(10,.d (qQ false))] []) from .w (wkF ⟨wD rfl,trivial⟩ trivial qE)),.inr rfl,_,res1 rfl rfl,rfl,rfl⟩
  refine cwF rfl hc2 ?_
  refine cwK ?_
  have ⟨o1,hj1,h15⟩ := bdS h14
  refine cwJ (fun (z : ttM) => St.of [(11,.d (qQ x0)),(12,.ptr 0 0)] [(0,.own (qc z))]) (fun (z : ttM) => o1 = (.inl z)) ?_ ?_
  ·intro v1 hv1; subst hv1
   simp only [Sum.elim_inl] at h15
   have ⟨o2,hj2,h16⟩ := bdS h15
   refine cwJ (fun (z : Bool) => St.of [(10,.d (qQ z))] []) (fun (z : Bool) => o2 = z) ?_ ?_
   ·intro v2 hv2; subst hv2
    have heq := ((sJ h16)).symm
    subst heq
    exact qq ⟨_,(show Leads _ _ (St.of [(10,.d (qQ o2))] []) from .w (wkF ⟨wD rfl,trivial⟩ trivial qE)),.inr rfl,_,res1 rfl rfl,rfl,rfl⟩
   rcases cdS hj2 with ⟨hc3,h17⟩ | ⟨hc3,h18⟩
   ·skip
    have ⟨x8,hx8,h19⟩ := bdS (x := q90 v1) h17
    rcases cdS h19 with ⟨hc4,h20⟩ | ⟨hc4,h21⟩
    ·skip
     have ⟨x9,hx9,h22⟩ := bdS (x := q30 x8.2 0) h20
     rcases cdS h22 with ⟨hc5,h23⟩ | ⟨hc5,h24⟩
     ·skip
      have ⟨x10,hx10,h25⟩ := bdS (x := qj0 x9.2 0) h23
      refine cwR (
       .c (uM rfl)<|
       .c (uM rfl)<|
       .c (o_mv rfl rfl (.yes rfl rfl hc3) rfl)<|
       .c (qC (fun _ => 0) rfl rfl (.yes rfl rfl hc3) Try.func25 rfl rfl (qt0 hx8) (.cons rfl (.p rfl) .nil) (qI rfl ⟨(by simp [AV.live,lk,Nat.beq]),trivial⟩ rfl (OD.dat_live (q9 _)) (by simp)) (.inl rfl))<|
       .c (qi rfl rfl (.yes rfl rfl hc3) rfl rfl (q70 _ _) rfl)<|
       .c (uPT rfl hc3)<|
       .c (uM rfl)<|
       .c (o_mv rfl rfl (.yes rfl rfl hc4) rfl)<|
       .c (qG2 rfl rfl (.yes rfl rfl hc4) rfl q65)<|
       .c (qC (fun _ => 0) rfl rfl (.yes rfl rfl hc4) Try.func33 rfl rfl (qZ1 hx9) (.cons rfl (.ip rfl) (.cons rfl .d .nil)) (qI rfl ⟨(by simp [AV.live,lk,Nat.beq]),trivial,trivial⟩ rfl (OD.dat_live (q9 _)) (by simp)) (.inl rfl))<|
       .c (qi rfl rfl (.yes rfl rfl hc4) rfl rfl (q70 _ _) rfl)<|
       .c (uPT rfl hc4)<|
       .c (uM rfl)<|
       .c (o_mv rfl rfl (.yes rfl rfl hc5) rfl)<|
       .c (qG2 rfl rfl (.yes rfl rfl hc5) rfl q65)<|
       .c (qC (fun _ => 0) rfl rfl (.yes rfl rfl hc5) Try.func21 rfl rfl (q11 hx10) (.cons rfl (.ip rfl) (.cons rfl .d .nil)) (qI rfl ⟨(by simp [AV.live,lk,Nat.beq]),trivial,trivial⟩ rfl (OD.dat_live (q9 _)) (by simp)) (.inl rfl))<|
       .c (qi rfl rfl (.yes rfl rfl hc5) rfl rfl (q70 _ _) rfl)<|
       .c (uPT rfl hc5)<|
       .c (uA rfl)<|.nil rfl
      ) ?_
      exact ⟨(decide (x10.1 = 0)),(sJ h25),.w (wkF ⟨wD rfl,trivial⟩ trivial qE)⟩
     refine cwR (
      .c (uM rfl)<|
      .c (uM rfl)<|
      .c (o_mv rfl rfl (.yes rfl rfl hc3) rfl)<|
      .c (qC (fun _ => 0) rfl rfl (.yes rfl rfl hc3) Try.func25 rfl rfl (qt0 hx8) (.cons rfl (.p rfl) .nil) (qI rfl ⟨(by simp [AV.live,lk,Nat.beq]),trivial⟩ rfl (OD.dat_live (q9 _)) (by simp)) (.inl rfl))<|
      .c (qi rfl rfl (.yes rfl rfl hc3) rfl rfl (q70 _ _) rfl)<|
      .c (uPT rfl hc3)<|
      .c (uM rfl)<|
      .c (o_mv rfl rfl (.yes rfl rfl hc4) rfl)<|
      .c (qG2 rfl rfl (.yes rfl rfl hc4) rfl q65)<|
      .c (qC (fun _ => 0) rfl rfl (.yes rfl rfl hc4) Try.func33 rfl rfl (qZ1 hx9) (.cons rfl (.ip rfl) (.cons rfl .d .nil)) (qI rfl ⟨(by simp [AV.live,lk,Nat.beq]),trivial,trivial⟩ rfl (OD.dat_live (q9 _)) (by simp)) (.inl rfl))<|
      .c (qi rfl rfl (.yes rfl rfl hc4) rfl rfl (q70 _ _) rfl)<|
      .c (uPT rfl hc4)<|
      .c (uM rfl)<|
      .c (uN rfl rfl hc5)<|
      .c (uN rfl rfl hc5)<|
      .c (uN rfl rfl hc5)<|
      .c (uN rfl rfl hc5)<|
      .c (uPF rfl hc5)<|
      .c (uA rfl)<|.nil rfl
     ) ?_
     exact ⟨false,(sJ h24),.w (wkF ⟨wD rfl,trivial⟩ trivial qE)⟩
    refine cwR (
     .c (uM rfl)<|
     .c (uM rfl)<|
     .c (o_mv rfl rfl (.yes rfl rfl hc3) rfl)<|
     .c (qC (fun _ => 0) rfl rfl (.yes rfl rfl hc3) Try.func25 rfl rfl (qt0 hx8) (.cons rfl (.p rfl) .nil) (qI rfl ⟨(by simp [AV.live,lk,Nat.beq]),trivial⟩ rfl (OD.dat_live (q9 _)) (by simp)) (.inl rfl))<|
     .c (qi rfl rfl (.yes rfl rfl hc3) rfl rfl (q70 _ _) rfl)<|
     .c (uPT rfl hc3)<|
     .c (uM rfl)<|
     .c (uN rfl rfl hc4)<|
     .c (uN rfl rfl hc4)<|
     .c (uN rfl rfl hc4)<|
     .c (uN rfl rfl hc4)<|
     .c (uPF rfl hc4)<|
     .c (uM rfl)<|
     .c (uN rfl rfl rfl)<|
     .c (uN rfl rfl rfl)<|
     .c (uN rfl rfl rfl)<|
     .c (uN rfl rfl rfl)<|
     .c (uPF rfl rfl)<|
     .c (uA rfl)<|.nil rfl
    ) ?_
    exact ⟨false,(sJ h21),.w (wkF ⟨wD rfl,trivial⟩ trivial qE)⟩
   refine cwR (
    .c (uM rfl)<|
    .c (uM rfl)<|
    .c (uN rfl rfl hc3)<|
    .c (uN rfl rfl hc3)<|
    .c (uN rfl rfl hc3)<|
    .c (uPF rfl hc3)<|
    .c (uM rfl)<|
    .c (uN rfl rfl rfl)<|
    .c (uN rfl rfl rfl)<|
    .c (uN rfl rfl rfl)<|
    .c (uN rfl rfl rfl)<|
    .c (uPF rfl rfl)<|
    .c (uM rfl)<|
    .c (uN rfl rfl rfl)<|
    .c (uN rfl rfl rfl)<|
    .c (uN rfl rfl rfl)<|
    .c (uN rfl rfl rfl)<|
    .c (uPF rfl rfl)<|
    .c (uA rfl)<|.nil rfl
   ) ?_
   exact ⟨false,(sJ h18),.w (wkF ⟨wD rfl,trivial⟩ trivial qE)⟩
  refine cwS (cwR (
   .c (uA rfl)<|.nil rfl) ?_)
  refine cwB ?_
  refine qF (V := ((List Int) × Int × ttM)) (O := (ttM ⊕ Bool)) (fun (z : ((List Int) × Int × ttM)) => St.of [(4,.d (eint a4)),(11,.d (qQ x0)),(12,.ptr 0 0),(15,.d (eint x3.1)),(17,.d (eSP_ x5.1)),(19,.d (eSP_ x6.1)),(21,.d (eSint z.1)),(24,.d (eint z.2.1))] [(0,.own (qc z.2.2))]) hj1 (.w (wkF ⟨wD rfl,wD rfl,⟨_,rfl,.ptro rfl rfl⟩,wD rfl,wD rfl,wD rfl,wD rfl,wD rfl,trivial⟩ ⟨.own rfl (.of_eq rfl (q9 _)),trivial⟩ qE)) ?_
  intro v3 x11 hb0 hx11
  refine cwS ?_
  refine cwS (cwR (
   .c (uM rfl)<|
   .c (qT (enc := eint) (xs := v3.1) rfl rfl .no rfl sl59)<|
   .c (uB rfl (qg3 _ _) rfl)<|.nil rfl) ?_)
  rcases cdS hb0 with ⟨hc6,h26⟩ | ⟨hc6,h27⟩
  ·refine cwT rfl hc6 ?_
   refine cwK ?_
   have ⟨o3,hj3,h28⟩ := bdS h26
   refine cwJ (fun (z : ((List Int) × ttM)) => St.of [(4,.d (eint a4)),(11,.d (qQ x0)),(12,.ptr 0 0),(15,.d (eint x3.1)),(17,.d (eSP_ x5.1)),(19,.d (eSP_ x6.1)),(21,.d (eSint z.1)),(24,.d (eint v3.2.1))] [(0,.own (qc z.2))]) (fun (z : ((List Int) × ttM)) => o3 = (.inl z)) ?_ ?_
   ·intro v4 hv3; subst hv3
    simp only [Sum.elim_inl] at h28
    refine cwR (
     .c (uM rfl)<|
     .c (uB rfl (qC0 _ _) rfl)<|
     .c (uA rfl)<|.nil rfl
    ) ?_
    exact ⟨(v4.1,(IntKind.wrap .i64 (v3.2.1 + 1)),v4.2),(sJ h28),.w (wkF ⟨wD rfl,wD rfl,⟨_,rfl,.ptro rfl rfl⟩,wD rfl,wD rfl,wD rfl,wD rfl,wD rfl,trivial⟩ ⟨.own rfl (.of_eq rfl (q9 _)),trivial⟩ qE)⟩
   refine cwB ?_
   have ⟨x12,hx12,h29⟩ := bdS hj3
   have hx12g := qe4 hx12
   have ⟨x13,hx13,h30⟩ := bdS h29
   have hx13g := qe4 hx13
   refine cwS (cwR (
    .c (uM rfl)<|
    .c (uM rfl)<|
    .c (uB rfl (b_mul _ _) rfl)<|
    .c (uB rfl (b_and _ _) rfl)<|
    .c (qD4 rfl rfl .no rfl un3 un82)<|
    .c (uB rfl (b_shr _ _ hx12g) rfl)<|
    .c (uB rfl (b_and _ _) rfl)<|
    .c (uM rfl)<|
    .c (qT (enc := eint) (xs := v3.1) rfl rfl .no rfl sl59)<|
    .c (uB rfl (b_rem _ _ hx13g) rfl)<|
    .c (uA rfl)<|.nil rfl) ?_)
   refine cwS ?_
   have ⟨x14,hx14,h31⟩ := bdS h30
   have hx14g := qx hx14
   have ⟨x15,hx15,h32⟩ := bdS (x := qj0 v3.2.2 x14) h31
   refine cwS (cwR (
    .c (uM rfl)<|
    .c (qG2 rfl rfl .no rfl q65)<|
    .c (uM rfl)<|
    .c (uM rfl)<|
    .c (qp1 (enc := eint) (xs := v3.1) rfl rfl .no rfl rfl sl59 sz3 hx14g.1 hx14g.2)<|
    .c (o_ld rfl rfl .no rfl ta3 rfl rfl)<|
    .c (qC (fun _ => 0) rfl rfl .no Try.func21 rfl rfl (q11 hx15) (.cons rfl (.ip rfl) (.cons rfl .d .nil)) (qI rfl ⟨(by simp [AV.live,lk,Nat.beq]),trivial,trivial⟩ rfl (OD.dat_live (q9 _)) (by simp)) (.inl rfl))<|
    .c (uB rfl (qq3 _ _) rfl)<|.nil rfl) ?_)
   rcases cdS h32 with ⟨hc7,h33⟩ | ⟨hc7,h34⟩
   ·refine cwT rfl hc7 ?_
    refine cwS (cwR (
     .c (uA rfl)<|.nil rfl) ?_)
    have he0 := ((sJ h33)).symm
    subst he0
    have he1 := ((hx11 _ (sJ h28)).symm).symm
    subst he1
    have heq := ((sJ h15)).symm
    subst heq
    exact qq ⟨_,(show Leads _ _ (St.of [(10,.d (qQ false))] []) from .w (wkF ⟨wD rfl,trivial⟩ trivial qE)),.inr rfl,_,res1 rfl rfl,rfl,rfl⟩
   refine cwF rfl hc7 ?_
   refine cwK ?_
   have ⟨x16,hx16,h35⟩ := bdS h34
   have hx16g := q22 hx16
   have ⟨x17,hx17,h36⟩ := bdS h35
   have hx17g := q50 hx17
   have ⟨x18,hx18,h37⟩ := bdS h36
   have hx18g := q22 hx18
   have ⟨x19,hx19,h38⟩ := bdS h37
   have hx19g := q50 hx19
   refine cwS (cwRA mixed (by kernel_rfl) (
    .c (o_bslO (rows := ([] : List Int).map eint) 2 rfl rfl .no .nil rfl sl59 sz3 ze3 rfl (qo1 qb5) (by decide) rfl)<|
    .c (uM rfl)<|
    .c (uM rfl)<|
    .c (o_slM (enc := eint) (xs := v3.1) rfl rfl .no rfl sl59 sz3 .no (.val rfl hx16g.2.1) hx16g.2.2.1 hx16g.2.2.2)<|
    .c (q92 (enc := eint) (xs := ([] : List Int)) (ys := (qA0 v3.1 0 (Int.tmod (qv .i64 (Int.fdiv a4 (2 ^ (min (IntKind.wrap .u64 (qv .i64 (IntKind.wrap .i64 (2 * v3.2.1)) 31)).toNat (IntKind.bits .i64)))) 3) (v3.1.length : Int)))) rfl rfl .no rfl rfl rfl qb5 sl59 sl59 sz3 by3 ze3 rfl (by decide) hx17g)<|
    .c (uM rfl)<|
    .c (uM rfl)<|
    .c (uB rfl (qC0 _ _) rfl)<|
    .c (o_slM (enc := eint) (xs := v3.1) rfl rfl .no rfl sl59 sz3 (.val rfl hx18g.1) .no hx18g.2.2.1 hx18g.2.2.2)<|
    .c (q92 (enc := eint) (xs := (([] : List Int) ++ (qA0 v3.1 0 (Int.tmod (qv .i64 (Int.fdiv a4 (2 ^ (min (IntKind.wrap .u64 (qv .i64 (IntKind.wrap .i64 (2 * v3.2.1)) 31)).toNat (IntKind.bits .i64)))) 3) (v3.1.length : Int))))) (ys := (qA0 v3.1 (IntKind.wrap .i64 ((Int.tmod (qv .i64 (Int.fdiv a4 (2 ^ (min (IntKind.wrap .u64 (qv .i64 (IntKind.wrap .i64 (2 * v3.2.1)) 31)).toNat (IntKind.bits .i64)))) 3) (v3.1.length : Int)) + 1)) (v3.1.length : Int))) rfl rfl .no rfl rfl rfl qb5 sl59 sl59 sz3 by3 ze3 rfl (by decide) hx19g)<|
    .c (uA rfl)<|.nil rfl) (by kernel_rfl) ?_)
   refine cwS ?_
   refine cwW (wkF (l := [(4,.d (eint a4)),(11,.d (qQ x0)),(12,.ptr 0 0),(15,.d (eint x3.1)),(17,.d (eSP_ x5.1)),(19,.d (eSP_ x6.1)),(21,.d (eSint ((([] : List Int) ++ (qA0 v3.1 0 (Int.tmod (qv .i64 (Int.fdiv a4 (2 ^ (min (IntKind.wrap .u64 (qv .i64 (IntKind.wrap .i64 (2 * v3.2.1)) 31)).toNat (IntKind.bits .i64)))) 3) (v3.1.length : Int)))) ++ (qA0 v3.1 (IntKind.wrap .i64 ((Int.tmod (qv .i64 (Int.fdiv a4 (2 ^ (min (IntKind.wrap .u64 (qv .i64 (IntKind.wrap .i64 (2 * v3.2.1)) 31)).toNat (IntKind.bits .i64)))) 3) (v3.1.length : Int)) + 1)) (v3.1.length : Int))))),(24,.d (eint v3.2.1))]) (m := [(0,.own (qc x15.2))]) ⟨wD rfl,wD rfl,⟨_,rfl,.ptro rfl rfl⟩,wD rfl,wD rfl,wD rfl,⟨_,rfl,.frz rfl rfl rfl⟩,wD rfl,trivial⟩ ⟨.own rfl (.of_eq rfl (q9 _)),trivial⟩ qE) ?_
   have ⟨x20,hx20,h39⟩ := bdS (x := qM0 x15.2 3000 ((([] : List Int) ++ (qA0 v3.1 0 (Int.tmod (qv .i64 (Int.fdiv a4 (2 ^ (min (IntKind.wrap .u64 (qv .i64 (IntKind.wrap .i64 (2 * v3.2.1)) 31)).toNat (IntKind.bits .i64)))) 3) (v3.1.length : Int)))) ++ (qA0 v3.1 (IntKind.wrap .i64 ((Int.tmod (qv .i64 (Int.fdiv a4 (2 ^ (min (IntKind.wrap .u64 (qv .i64 (IntKind.wrap .i64 (2 * v3.2.1)) 31)).toNat (IntKind.bits .i64)))) 3) (v3.1.length : Int)) + 1)) (v3.1.length : Int)))) h38
   refine cwS (cwR (
    .c (uM rfl)<|
    .c (uM rfl)<|
    .c (qC (fun _ => 0) rfl rfl .no Try.func26 rfl rfl (qV3 hx20) (.cons rfl (.p rfl) (.cons rfl .d (.cons rfl .d .nil))) (qI rfl ⟨(by simp [AV.live,lk,Nat.beq]),trivial,trivial,trivial⟩ rfl (OD.dat_live (q9 _)) (by simp)) (.inl rfl))<|
    .c (uT rfl)<|.nil rfl) ?_)
   rcases cdS h39 with ⟨hc8,h40⟩ | ⟨hc8,h41⟩
   ·refine cwT rfl hc8 ?_
    refine cwS (cwR (
     .c (uA rfl)<|.nil rfl) ?_)
    have he2 := ((sJ h40)).symm
    subst he2
    have he3 := ((hx11 _ (sJ h28)).symm).symm
    subst he3
    have heq := ((sJ h15)).symm
    subst heq
    exact qq ⟨_,(show Leads _ _ (St.of [(10,.d (qQ false))] []) from .w (wkF ⟨wD rfl,trivial⟩ trivial qE)),.inr rfl,_,res1 rfl rfl,rfl,rfl⟩
   refine cwF rfl hc8 ?_
   refine cwK ?_
   refine cwS (cwR (
    .c (uA rfl)<|.nil rfl) ?_)
   refine cwB ?_
   refine qF (V := ((List Int) × Int × ttM)) (O := (((List Int) × ttM) ⊕ Bool)) (fun (z : ((List Int) × Int × ttM)) => St.of [(4,.d (eint a4)),(11,.d (qQ x0)),(12,.ptr 0 0),(15,.d (eint x3.1)),(17,.d (eSP_ x5.1)),(19,.d (eSP_ x6.1)),(21,.d (eSint z.1)),(24,.d (eint v3.2.1)),(26,.d (eint z.2.1))] [(0,.own (qc z.2.2))]) h41 (.w (wkF ⟨wD rfl,wD rfl,⟨_,rfl,.ptro rfl rfl⟩,wD rfl,wD rfl,wD rfl,wD rfl,wD rfl,wD rfl,trivial⟩ ⟨.own rfl (.of_eq rfl (q9 _)),trivial⟩ qE)) ?_
   intro v5 x21 hb1 hx21
   refine cwS ?_
   refine cwS (cwR (
    .c (uM rfl)<|
    .c (uM rfl)<|
    .c (qT (enc := eint) (xs := v5.1) rfl rfl .no rfl sl59)<|
    .c (uB rfl (qB0 _ _) rfl)<|.nil rfl) ?_)
   rcases cdS hb1 with ⟨hc9,h42⟩ | ⟨hc9,h43⟩
   ·refine cwT rfl hc9 ?_
    refine cwK ?_
    refine cwS ?_
    refine cwB ?_
    have ⟨x22,hx22,h44⟩ := bdS h42
    have hx22g := qx hx22
    have ⟨x23,hx23,h45⟩ := bdS (x := ql0 v5.2.2 x22 x4) h44
    refine cwS (cwRA mixed (by kernel_rfl) (
     .c (uM rfl)<|
     .c (qG2 rfl rfl .no rfl q65)<|
     .c (uM rfl)<|
     .c (uM rfl)<|
     .c (qp1 (enc := eint) (xs := v5.1) rfl rfl .no rfl rfl sl59 sz3 hx22g.1 hx22g.2)<|
     .c (o_ld rfl rfl .no rfl ta3 rfl rfl)<|
     .c (qn0 rfl rfl .no Try.func18 rfl rfl (qi3 hx4) .nil trivial (.inl rfl))<|
     .c (qC (fun _ => 0) rfl rfl .no Try.func17 rfl rfl (qk2 hx23) (.cons rfl (.ip rfl) (.cons rfl .d (.cons rfl .d .nil))) (qI rfl ⟨(by simp [AV.live,lk,Nat.beq]),trivial,trivial,trivial⟩ rfl (OD.dat_live (q9 _)) (by simp)) (.inl rfl))<|
     .c (uM rfl)<|
     .c (uE rfl)<|
     .c (uE rfl)<|
     .c (uA rfl)<|
     .c (uA rfl)<|.nil rfl) (by kernel_rfl) ?_)
    refine cwS (cwR (
     .c (uM rfl)<|
     .c (uA rfl)<|.nil rfl) ?_)
    have ⟨o4,hj4,h46⟩ := bdS h45
    refine cwJ (fun (z : (List ttR)) => St.of [(4,.d (eint a4)),(11,.d (qQ x0)),(12,.ptr 0 0),(15,.d (eint x3.1)),(17,.d (eSP_ x5.1)),(19,.d (eSP_ x6.1)),(21,.d (eSint v5.1)),(24,.d (eint v3.2.1)),(26,.d (eint v5.2.1)),(27,.d (eSP_ x23.1)),(28,.d (eErr x23.2.1)),(29,.d (eSP_ z))] [(0,.own (qc x23.2.2))]) (fun (z : (List ttR)) => o4 = z) ?_ ?_
    ·intro v6 hv4; subst hv4
     have ⟨x24,hx24,h47⟩ := bdS (x := qL1 x23.1 o4) h46
     refine cwS (cwR (
      .c (uM rfl)<|
      .c (uM rfl)<|
      .c (qn0 rfl rfl .no Try.func19 rfl rfl (ref07_Same_ok hx24) (.cons rfl .d (.cons rfl .d .nil)) ⟨trivial,trivial,trivial⟩ (.inl rfl))<|
      .c (uA rfl)<|.nil rfl) ?_)
     have ⟨o5,hj5,h48⟩ := bdS h47
     refine cwJ (fun (z : Bool) => St.of [(4,.d (eint a4)),(11,.d (qQ x0)),(12,.ptr 0 0),(15,.d (eint x3.1)),(17,.d (eSP_ x5.1)),(19,.d (eSP_ x6.1)),(21,.d (eSint v5.1)),(24,.d (eint v3.2.1)),(26,.d (eint v5.2.1)),(168,.d (qQ z))] [(0,.own (qc x23.2.2))]) (fun (z : Bool) => o5 = z) ?_ ?_
     ·intro v7 hv5; subst hv5
      rcases cdS h48 with ⟨hc10,h49⟩ | ⟨hc10,h50⟩
      ·refine cwT rfl hc10 ?_
       refine cwS (cwR (
        .c (uA rfl)<|.nil rfl) ?_)
       have he4 := ((hx21 _ (sJ h49)).symm).symm
       subst he4
       have he5 := ((hx11 _ (sJ h28)).symm).symm
       subst he5
       have heq := ((sJ h15)).symm
       subst heq
       exact qq ⟨_,(show Leads _ _ (St.of [(10,.d (qQ false))] []) from .w (wkF ⟨wD rfl,trivial⟩ trivial qE)),.inr rfl,_,res1 rfl rfl,rfl,rfl⟩
      refine cwF rfl hc10 ?_
      refine cwK ?_
      refine cwR (
       .c (uM rfl)<|
       .c (uB rfl (qC0 _ _) rfl)<|
       .c (uA rfl)<|.nil rfl
      ) ?_
      exact ⟨(v5.1,(IntKind.wrap .i64 (v5.2.1 + 1)),x23.2.2),(sJ h50),.w (wkF ⟨wD rfl,wD rfl,⟨_,rfl,.ptro rfl rfl⟩,wD rfl,wD rfl,wD rfl,wD rfl,wD rfl,wD rfl,trivial⟩ ⟨.own rfl (.of_eq rfl (q9 _)),trivial⟩ qE)⟩
     rcases cdS hj5 with ⟨hc11,h51⟩ | ⟨hc11,h52⟩
     ·skip
      refine cwR (
       .c (uM rfl)<|
       .c (uB rfl (qq3 _ _) rfl)<|
       .c (uM rfl)<|
       .c (uN rfl rfl hc11)<|
       .c (uN rfl rfl hc11)<|
       .c (uPT rfl hc11)<|.nil rfl
      ) ?_
      exact ⟨true,(sJ h51),.w (wkF ⟨wD rfl,wD rfl,⟨_,rfl,.ptro rfl rfl⟩,wD rfl,wD rfl,wD rfl,wD rfl,wD rfl,wD rfl,wD rfl,trivial⟩ ⟨.own rfl (.of_eq rfl (q9 _)),trivial⟩ qE)⟩
     refine cwR (
      .c (uM rfl)<|
      .c (uB rfl (qq3 _ _) rfl)<|
      .c (uM rfl)<|
      .c (o_mv rfl rfl (.yes rfl rfl hc11) rfl)<|
      .c (qS4 rfl rfl (.yes rfl rfl hc11) rfl)<|
      .c (uPF rfl hc11)<|.nil rfl
     ) ?_
     exact ⟨(!x24),(sJ h52),.w (wkF ⟨wD rfl,wD rfl,⟨_,rfl,.ptro rfl rfl⟩,wD rfl,wD rfl,wD rfl,wD rfl,wD rfl,wD rfl,wD rfl,trivial⟩ ⟨.own rfl (.of_eq rfl (q9 _)),trivial⟩ qE)⟩
    refine cwS (cwR (
     .c (uM rfl)<|
     .c (uM rfl)<|
     .c (qp1 (enc := eint) (xs := v5.1) rfl rfl .no rfl rfl sl59 sz3 hx22g.1 hx22g.2)<|
     .c (o_ld rfl rfl .no rfl ta3 rfl rfl)<|
     .c (uM rfl)<|
     .c (uB rfl (q70 _ _) rfl)<|.nil rfl) ?_)
    rcases cdS hj4 with ⟨hc12,h53⟩ | ⟨hc12,h54⟩
    ·refine cwT rfl hc12 ?_
     refine cwR (
      .c (uM rfl)<|
      .c (uA rfl)<|.nil rfl
     ) ?_
     exact ⟨x6.1,(sJ h53),.w (wkF ⟨wD rfl,wD rfl,⟨_,rfl,.ptro rfl rfl⟩,wD rfl,wD rfl,wD rfl,wD rfl,wD rfl,wD rfl,wD rfl,wD rfl,wD rfl,trivial⟩ ⟨.own rfl (.of_eq rfl (q9 _)),trivial⟩ qE)⟩
    refine cwF rfl hc12 ?_
    refine cwK ?_
    exact ⟨x5.1,(sJ h54),.w (wkF ⟨wD rfl,wD rfl,⟨_,rfl,.ptro rfl rfl⟩,wD rfl,wD rfl,wD rfl,wD rfl,wD rfl,wD rfl,wD rfl,wD rfl,wD rfl,trivial⟩ ⟨.own rfl (.of_eq rfl (q9 _)),trivial⟩ qE)⟩
   refine cwF rfl hc9 ?_
   refine qP ?_
   exact ⟨(v5.1,v5.2.2),(hx21 _ (sJ h43)).symm,.w (wkF ⟨wD rfl,wD rfl,⟨_,rfl,.ptro rfl rfl⟩,wD rfl,wD rfl,wD rfl,wD rfl,wD rfl,trivial⟩ ⟨.own rfl (.of_eq rfl (q9 _)),trivial⟩ qE)⟩
  refine cwF rfl hc6 ?_
  refine qP ?_
  exact ⟨v3.2.2,(hx11 _ (sJ h27)).symm,.w (wkF ⟨wD rfl,⟨_,rfl,.ptro rfl rfl⟩,trivial⟩ ⟨.own rfl (.of_eq rfl (q9 _)),trivial⟩ qE)⟩
 refine cwS (cwR (
  .c (uA rfl)<|.nil rfl) ?_)
 refine cwB ?_
 refine qF (V := (Int × ttM × (List Int))) (O := ((ttM × (List Int)) ⊕ Bool)) (fun (z : (Int × ttM × (List Int))) => St.of [(2,.d (eint a2)),(3,.d (eint a3)),(4,.d (eint a4)),(11,.d (qQ x0)),(12,.ptr 0 0),(13,.d (eint x1.2.1)),(15,.d (eint x3.1)),(17,.d (eSP_ x5.1)),(19,.d (eSP_ x6.1)),(21,.arr 1 0),(22,.d (eint z.1))] [(0,.own (qc z.2.1)),(1,.arr 0 1 (z.2.2.map eint))]) hj0 (.w (wkF ⟨wD rfl,wD rfl,wD rfl,wD rfl,⟨_,rfl,.ptro rfl rfl⟩,wD rfl,wD rfl,wD rfl,wD rfl,⟨_,rfl,.arr rfl rfl⟩,wD rfl,trivial⟩ ⟨.own rfl (.of_eq rfl (q9 _)),.arr rfl rfl,trivial⟩ qE)) ?_
 intro v8 x25 hb2 hx25
 refine cwS ?_
 refine cwS (cwR (
  .c (uM rfl)<|
  .c (uM rfl)<|
  .c (uB rfl (b_and _ _) rfl)<|
  .c (uM rfl)<|
  .c (uB rfl (b_and _ _) rfl)<|
  .c (uB rfl (qC0 _ _) rfl)<|
  .c (uB rfl (qB0 _ _) rfl)<|.nil rfl) ?_)
 rcases cdS hb2 with ⟨hc13,h55⟩ | ⟨hc13,h56⟩
 ·refine cwT rfl hc13 ?_
  refine cwK ?_
  refine cwS ?_
  refine cwB ?_
  refine cwS (cwR (
   .c (uM rfl)<|
   .c (uA rfl)<|.nil rfl) ?_)
  have ⟨o6,hj6,h57⟩ := bdS h55
  refine cwJ (fun (z : Int) => St.of [(2,.d (eint a2)),(3,.d (eint a3)),(4,.d (eint a4)),(11,.d (qQ x0)),(12,.ptr 0 0),(13,.d (eint x1.2.1)),(15,.d (eint x3.1)),(17,.d (eSP_ x5.1)),(19,.d (eSP_ x6.1)),(21,.arr 1 0),(22,.d (eint v8.1)),(23,.d (eint z))] [(0,.own (qc v8.2.1)),(1,.arr 0 1 (v8.2.2.map eint))]) (fun (z : Int) => o6 = z) ?_ ?_
  ·intro v9 hv6; subst hv6
   refine cwS ?_
   have ⟨x26,hx26,h58⟩ := bdS (x := q30 v8.2.1 o6) h57
   refine cwS (cwR (
    .c (uM rfl)<|
    .c (qG2 rfl rfl .no rfl q65)<|
    .c (uM rfl)<|
    .c (qC (fun _ => 0) rfl rfl .no Try.func33 rfl rfl (qZ1 hx26) (.cons rfl (.ip rfl) (.cons rfl .d .nil)) (qI rfl ⟨(by simp [AV.live,lk,Nat.beq]),trivial,trivial⟩ rfl (OD.dat_live (q9 _)) (by simp)) (.inl rfl))<|
    .c (uB rfl (qq3 _ _) rfl)<|.nil rfl) ?_)
   rcases cdS h58 with ⟨hc14,h59⟩ | ⟨hc14,h60⟩
   ·refine cwT rfl hc14 ?_
    refine cwS (cwR (
     .c (uA rfl)<|.nil rfl) ?_)
    have he6 := ((hx25 _ (sJ h59)).symm).symm
    subst he6
    have heq := ((sJ h11)).symm
    subst heq
    exact qq ⟨_,(show Leads _ _ (St.of [(10,.d (qQ false))] []) from .w (wkF ⟨wD rfl,trivial⟩ trivial qE)),.inr rfl,_,res1 rfl rfl,rfl,rfl⟩
   refine cwF rfl hc14 ?_
   refine cwK ?_
   have ⟨x27,hx27,h61⟩ := bdS h60
   have hx27g := q50 hx27
   refine cwR (
    .c (uM rfl)<|
    .c (uM rfl)<|
    .c (q55 (rows := ([o6] : List Int).map eint) rfl rfl .no (.cons rfl .nil) rfl sl59 sz3 ze3 rfl (qo1 qb5) (by decide))<|
    .c (q92 (enc := eint) (xs := v8.2.2) (ys := [o6]) rfl rfl .no rfl rfl rfl qb5 sl59 sl59 sz3 by3 ze3 rfl (by decide) hx27g)<|
    .c (uA rfl)<|.nil rfl
   ) ?_
   refine cwR (
    .c (uM rfl)<|
    .c (uB rfl (qC0 _ _) rfl)<|
    .c (uA rfl)<|.nil rfl
   ) ?_
   exact ⟨((IntKind.wrap .i64 (v8.1 + 1)),x26.2,(v8.2.2 ++ [o6])),(sJ h61),.w (wkF ⟨wD rfl,wD rfl,wD rfl,wD rfl,⟨_,rfl,.ptro rfl rfl⟩,wD rfl,wD rfl,wD rfl,wD rfl,⟨_,rfl,.arr rfl rfl⟩,wD rfl,trivial⟩ ⟨.own rfl (.of_eq rfl (q9 _)),.arr0 rfl rfl rfl,trivial⟩ qE)⟩
  refine cwS (cwR (
   .c (uM rfl)<|
   .c (uM rfl)<|
   .c (uB rfl (b_and _ _) rfl)<|
   .c (uB rfl (qc5 _ _) rfl)<|.nil rfl) ?_)
  rcases cdS hj6 with ⟨hc15,h62⟩ | ⟨hc15,h63⟩
  ·refine cwT rfl hc15 ?_
   refine cwR (
    .c (uM rfl)<|
    .c (uA rfl)<|.nil rfl
   ) ?_
   exact ⟨x3.1,(sJ h62),.w (wkF ⟨wD rfl,wD rfl,wD rfl,wD rfl,⟨_,rfl,.ptro rfl rfl⟩,wD rfl,wD rfl,wD rfl,wD rfl,⟨_,rfl,.arr rfl rfl⟩,wD rfl,wD rfl,trivial⟩ ⟨.own rfl (.of_eq rfl (q9 _)),.arr rfl rfl,trivial⟩ qE)⟩
  refine cwF rfl hc15 ?_
  refine cwK ?_
  exact ⟨x1.2.1,(sJ h63),.w (wkF ⟨wD rfl,wD rfl,wD rfl,wD rfl,⟨_,rfl,.ptro rfl rfl⟩,wD rfl,wD rfl,wD rfl,wD rfl,⟨_,rfl,.arr rfl rfl⟩,wD rfl,wD rfl,trivial⟩ ⟨.own rfl (.of_eq rfl (q9 _)),.arr rfl rfl,trivial⟩ qE)⟩
 refine cwF rfl hc13 ?_
 refine qP ?_
 exact ⟨(v8.2.1,v8.2.2),(hx25 _ (sJ h56)).symm,.w (wkF ⟨wD rfl,wD rfl,⟨_,rfl,.ptro rfl rfl⟩,wD rfl,wD rfl,wD rfl,⟨_,rfl,.arr rfl rfl⟩,trivial⟩ ⟨.own rfl (.of_eq rfl (q9 _)),.arr rfl rfl,trivial⟩ qE)⟩
end
end Go.Val
