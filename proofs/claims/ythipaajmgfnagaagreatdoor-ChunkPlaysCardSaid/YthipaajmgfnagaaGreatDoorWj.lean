/- Walks of the program's functions,printed. -/
import Derived.Test.YthipaajmgfnagaaGreatDoorWi
import Derived.Test.YthipaajmgfnagaaGreatDoorHw
set_option linter.unusedSectionVars false
set_option linter.unusedVariables false
set_option linter.unusedSimpArgs false
set_option maxRecDepth 100000
namespace Go.Val
open Go.RowKit Go.Proofs
section
variable [NoDrw]
noncomputable def q72 : Option Bool := (qK1).bind fun x0 => (qM x0 1 31 (ByteArray.mk #[97,98,99])).bind fun x1 => (qP x1.2 1 30 5).bind fun x2 => (qJ x2.2.2).bind fun x3 => (qp0 x3.2 1 32).bind fun x4 => (qP x4.2 1 30 5).bind fun x5 => (((cond (decide (x1.1 = 0)) (cond (decide (x2.1 = (ByteArray.mk #[0,97,98,99,0]))) (
    cond (decide (x2.2.1 = 0)) (cond (decide ((x3.1.length : Int) = 2)) (cond (decide (x4.1 = 0)) (cond (decide (x5.1 = (ByteArray.mk #[0,97,0,0,0]))) (some (decide (x5.2.1 = 0))) (some false)) (some false)) (some false)) (some false)) (some false)) (some false)) : Option Bool)).bind fun o0 => some o0
theorem law13_shown_ok {r : Bool} (h : q72 = some r) : FnOk Tryz.prog 10 [] 0 (lk []) (fun rr oo => rr = .d (qz r) ∧ oo = lk []) := by
 refine fnO Tryz.func10 rfl rfl (cwP ?_)
 unfold q72 at h
 refine cwS (cwR (
  .c (uA rfl)<|.nil rfl) ?_)
 have ⟨x0,hx0,h0⟩ := bdS (x := qK1) h
 refine cwS (cwR (
  .c (qd2 0 rfl rfl .no Tryz.func11 rfl rfl (view_New_n_ok hx0) (.cons rfl .d .nil) ⟨trivial,trivial⟩ rfl (.inl rfl))<|
  .c (uA rfl)<|.nil rfl) ?_)
 refine cwS ?_
 refine cwS (cwR (
  .c (uM rfl)<|
  .c (o_pnilP rfl rfl .no rfl up24)<|.nil rfl) ?_)
 refine cwF rfl rfl ?_
 refine cwK ?_
 have ⟨x1,hx1,h1⟩ := bdS (x := qM x0 1 31 (ByteArray.mk #[97,98,99])) h0
 refine cwS (cwR (
  .c (uM rfl)<|
  .c (qC (fun n => bif Nat.beq n 0 then 0 else 1) rfl rfl .no Tryz.func13 rfl rfl (qp4 hx1) (.cons rfl (.p rfl) (.cons rfl .d (.cons rfl .d (.cons rfl .d .nil)))) (callInG [4] rfl ⟨(by simp [AV.live,lk,Nat.beq]),trivial,trivial,trivial,trivial⟩ ⟨⟨rfl,(OD.dat_live (oVV_d _))⟩,trivial⟩ rfl rfl rfl ⟨rfl,trivial⟩ rfl) (.inl rfl))<|
  .c (uA rfl)<|.nil rfl) ?_)
 have ⟨x2,hx2,h2⟩ := bdS (x := qP x1.2 1 30 5) h1
 refine cwS (cwR (
  .c (uM rfl)<|
  .c (qC (fun _ => 0) rfl rfl .no Tryz.func14 rfl rfl (qj3 hx2) (.cons rfl (.p rfl) (.cons rfl .d (.cons rfl .d (.cons rfl .d .nil)))) (q60 rfl ⟨(by simp [AV.live,lk,Nat.beq]),trivial,trivial,trivial,trivial⟩ rfl (OD.dat_live (oVV_d _)) (by simp)) (.inl rfl))<|
  .c (uM rfl)<|
  .c (uE rfl)<|
  .c (uE rfl)<|
  .c (uA rfl)<|
  .c (uA rfl)<|.nil rfl) ?_)
 have ⟨x3,hx3,h3⟩ := bdS (x := qJ x2.2.2) h2
 refine cwS (cwR (
  .c (uM rfl)<|
  .c (qC (fun n => bif Nat.beq n 0 then 0 else 2) rfl rfl .no Tryz.func17 rfl rfl (qj1 hx3) (.cons rfl (.p rfl) .nil) (qX1 rfl ⟨(by simp [AV.live,lk,Nat.beq]),trivial⟩ (by decide) rfl (OD.dat_live (oVV_d _)) rfl (by simp)) (.inl rfl))<|
  .c (q35 (enc := eCg) (xs := x3.1) rfl rfl .no rfl rfl sl49)<|
  .c (uA rfl)<|.nil rfl) ?_)
 have ⟨x4,hx4,h4⟩ := bdS (x := qp0 x3.2 1 32) h3
 refine cwS (cwR (
  .c (uM rfl)<|
  .c (qC (fun _ => 0) rfl rfl .no Tryz.func12 rfl rfl (chunk_Cut_ok hx4) (.cons rfl (.p rfl) (.cons rfl .d (.cons rfl .d .nil))) (q60 rfl ⟨(by simp [AV.live,lk,Nat.beq]),trivial,trivial,trivial⟩ rfl (OD.dat_live (oVV_d _)) (by simp)) (.inl rfl))<|
  .c (uA rfl)<|.nil rfl) ?_)
 have ⟨x5,hx5,h5⟩ := bdS (x := qP x4.2 1 30 5) h4
 refine cwS (cwR (
  .c (uM rfl)<|
  .c (qC (fun _ => 0) rfl rfl .no Tryz.func14 rfl rfl (qj3 hx5) (.cons rfl (.p rfl) (.cons rfl .d (.cons rfl .d (.cons rfl .d .nil)))) (q60 rfl ⟨(by simp [AV.live,lk,Nat.beq]),trivial,trivial,trivial,trivial⟩ rfl (OD.dat_live (oVV_d _)) (by simp)) (.inl rfl))<|
  .c (uM rfl)<|
  .c (uE rfl)<|
  .c (uE rfl)<|
  .c (uA rfl)<|
  .c (uA rfl)<|.nil rfl) ?_)
 have ⟨o0,hj0,h6⟩ := bdS h5
 refine cwJ (fun (z : Bool) => St.of [(0,.d (qz z))] []) (fun (z : Bool) => o0 = z) ?_ ?_
 ·intro v0 hv0; subst hv0
  have heq := ((sJ h6)).symm
  subst heq
  exact qe ⟨_,(show Leads _ _ (St.of [(0,.d (qz o0))] []) from .w (wkF ⟨wD rfl,trivial⟩ trivial qd)),.inr rfl,_,res1 rfl rfl,rfl,rfl⟩
 rcases cdS hj0 with ⟨hc0,h7⟩ | ⟨hc0,h8⟩
 ·skip
  rcases cdS h7 with ⟨hc1,h9⟩ | ⟨hc1,h10⟩
  ·skip
   rcases cdS h9 with ⟨hc2,h11⟩ | ⟨hc2,h12⟩
   ·skip
    rcases cdS h11 with ⟨hc3,h13⟩ | ⟨hc3,h14⟩
    ·skip
     rcases cdS h13 with ⟨hc4,h15⟩ | ⟨hc4,h16⟩
     ·skip
      rcases cdS h15 with ⟨hc5,h17⟩ | ⟨hc5,h18⟩
      ·skip
       refine cwR (
        .c (uM rfl)<|
        .c (uB rfl (q43 _ _) rfl)<|
        .c (uM rfl)<|
        .c (o_mv rfl rfl (.yes rfl rfl hc0) rfl)<|
        .c (qc rfl rfl (.yes rfl rfl hc0) rfl rfl (qd5 _ _) rfl)<|
        .c (uPT rfl hc0)<|
        .c (uM rfl)<|
        .c (o_mv rfl rfl (.yes rfl rfl hc1) rfl)<|
        .c (qc rfl rfl (.yes rfl rfl hc1) rfl rfl (q43 _ _) rfl)<|
        .c (uPT rfl hc1)<|
        .c (uM rfl)<|
        .c (o_mv rfl rfl (.yes rfl rfl hc2) rfl)<|
        .c (qc rfl rfl (.yes rfl rfl hc2) rfl rfl (q43 _ _) rfl)<|
        .c (uPT rfl hc2)<|
        .c (uM rfl)<|
        .c (o_mv rfl rfl (.yes rfl rfl hc3) rfl)<|
        .c (qc rfl rfl (.yes rfl rfl hc3) rfl rfl (q43 _ _) rfl)<|
        .c (uPT rfl hc3)<|
        .c (uM rfl)<|
        .c (o_mv rfl rfl (.yes rfl rfl hc4) rfl)<|
        .c (qc rfl rfl (.yes rfl rfl hc4) rfl rfl (qd5 _ _) rfl)<|
        .c (uPT rfl hc4)<|
        .c (uM rfl)<|
        .c (o_mv rfl rfl (.yes rfl rfl hc5) rfl)<|
        .c (qc rfl rfl (.yes rfl rfl hc5) rfl rfl (q43 _ _) rfl)<|
        .c (uPT rfl hc5)<|
        .c (uA rfl)<|.nil rfl
       ) ?_
       exact ⟨(decide (x5.2.1 = 0)),(sJ h17),.w (wkF ⟨wD rfl,trivial⟩ trivial qd)⟩
      refine cwR (
       .c (uM rfl)<|
       .c (uB rfl (q43 _ _) rfl)<|
       .c (uM rfl)<|
       .c (o_mv rfl rfl (.yes rfl rfl hc0) rfl)<|
       .c (qc rfl rfl (.yes rfl rfl hc0) rfl rfl (qd5 _ _) rfl)<|
       .c (uPT rfl hc0)<|
       .c (uM rfl)<|
       .c (o_mv rfl rfl (.yes rfl rfl hc1) rfl)<|
       .c (qc rfl rfl (.yes rfl rfl hc1) rfl rfl (q43 _ _) rfl)<|
       .c (uPT rfl hc1)<|
       .c (uM rfl)<|
       .c (o_mv rfl rfl (.yes rfl rfl hc2) rfl)<|
       .c (qc rfl rfl (.yes rfl rfl hc2) rfl rfl (q43 _ _) rfl)<|
       .c (uPT rfl hc2)<|
       .c (uM rfl)<|
       .c (o_mv rfl rfl (.yes rfl rfl hc3) rfl)<|
       .c (qc rfl rfl (.yes rfl rfl hc3) rfl rfl (q43 _ _) rfl)<|
       .c (uPT rfl hc3)<|
       .c (uM rfl)<|
       .c (o_mv rfl rfl (.yes rfl rfl hc4) rfl)<|
       .c (qc rfl rfl (.yes rfl rfl hc4) rfl rfl (qd5 _ _) rfl)<|
       .c (uPT rfl hc4)<|
       .c (uM rfl)<|
       .c (uN rfl rfl hc5)<|
       .c (uN rfl rfl hc5)<|
       .c (uPF rfl hc5)<|
       .c (uA rfl)<|.nil rfl
      ) ?_
      exact ⟨false,(sJ h18),.w (wkF ⟨wD rfl,trivial⟩ trivial qd)⟩
     refine cwR (
      .c (uM rfl)<|
      .c (uB rfl (q43 _ _) rfl)<|
      .c (uM rfl)<|
      .c (o_mv rfl rfl (.yes rfl rfl hc0) rfl)<|
      .c (qc rfl rfl (.yes rfl rfl hc0) rfl rfl (qd5 _ _) rfl)<|
      .c (uPT rfl hc0)<|
      .c (uM rfl)<|
      .c (o_mv rfl rfl (.yes rfl rfl hc1) rfl)<|
      .c (qc rfl rfl (.yes rfl rfl hc1) rfl rfl (q43 _ _) rfl)<|
      .c (uPT rfl hc1)<|
      .c (uM rfl)<|
      .c (o_mv rfl rfl (.yes rfl rfl hc2) rfl)<|
      .c (qc rfl rfl (.yes rfl rfl hc2) rfl rfl (q43 _ _) rfl)<|
      .c (uPT rfl hc2)<|
      .c (uM rfl)<|
      .c (o_mv rfl rfl (.yes rfl rfl hc3) rfl)<|
      .c (qc rfl rfl (.yes rfl rfl hc3) rfl rfl (q43 _ _) rfl)<|
      .c (uPT rfl hc3)<|
      .c (uM rfl)<|
      .c (uN rfl rfl hc4)<|
      .c (uN rfl rfl hc4)<|
      .c (uPF rfl hc4)<|
      .c (uM rfl)<|
      .c (uN rfl rfl rfl)<|
      .c (uN rfl rfl rfl)<|
      .c (uPF rfl rfl)<|
      .c (uA rfl)<|.nil rfl
     ) ?_
     exact ⟨false,(sJ h16),.w (wkF ⟨wD rfl,trivial⟩ trivial qd)⟩
    refine cwR (
     .c (uM rfl)<|
     .c (uB rfl (q43 _ _) rfl)<|
     .c (uM rfl)<|
     .c (o_mv rfl rfl (.yes rfl rfl hc0) rfl)<|
     .c (qc rfl rfl (.yes rfl rfl hc0) rfl rfl (qd5 _ _) rfl)<|
     .c (uPT rfl hc0)<|
     .c (uM rfl)<|
     .c (o_mv rfl rfl (.yes rfl rfl hc1) rfl)<|
     .c (qc rfl rfl (.yes rfl rfl hc1) rfl rfl (q43 _ _) rfl)<|
     .c (uPT rfl hc1)<|
     .c (uM rfl)<|
     .c (o_mv rfl rfl (.yes rfl rfl hc2) rfl)<|
     .c (qc rfl rfl (.yes rfl rfl hc2) rfl rfl (q43 _ _) rfl)<|
     .c (uPT rfl hc2)<|
     .c (uM rfl)<|
     .c (uN rfl rfl hc3)<|
     .c (uN rfl rfl hc3)<|
     .c (uPF rfl hc3)<|
     .c (uM rfl)<|
     .c (uN rfl rfl rfl)<|
     .c (uN rfl rfl rfl)<|
     .c (uPF rfl rfl)<|
     .c (uM rfl)<|
     .c (uN rfl rfl rfl)<|
     .c (uN rfl rfl rfl)<|
     .c (uPF rfl rfl)<|
     .c (uA rfl)<|.nil rfl
    ) ?_
    exact ⟨false,(sJ h14),.w (wkF ⟨wD rfl,trivial⟩ trivial qd)⟩
   refine cwR (
    .c (uM rfl)<|
    .c (uB rfl (q43 _ _) rfl)<|
    .c (uM rfl)<|
    .c (o_mv rfl rfl (.yes rfl rfl hc0) rfl)<|
    .c (qc rfl rfl (.yes rfl rfl hc0) rfl rfl (qd5 _ _) rfl)<|
    .c (uPT rfl hc0)<|
    .c (uM rfl)<|
    .c (o_mv rfl rfl (.yes rfl rfl hc1) rfl)<|
    .c (qc rfl rfl (.yes rfl rfl hc1) rfl rfl (q43 _ _) rfl)<|
    .c (uPT rfl hc1)<|
    .c (uM rfl)<|
    .c (uN rfl rfl hc2)<|
    .c (uN rfl rfl hc2)<|
    .c (uPF rfl hc2)<|
    .c (uM rfl)<|
    .c (uN rfl rfl rfl)<|
    .c (uN rfl rfl rfl)<|
    .c (uPF rfl rfl)<|
    .c (uM rfl)<|
    .c (uN rfl rfl rfl)<|
    .c (uN rfl rfl rfl)<|
    .c (uPF rfl rfl)<|
    .c (uM rfl)<|
    .c (uN rfl rfl rfl)<|
    .c (uN rfl rfl rfl)<|
    .c (uPF rfl rfl)<|
    .c (uA rfl)<|.nil rfl
   ) ?_
   exact ⟨false,(sJ h12),.w (wkF ⟨wD rfl,trivial⟩ trivial qd)⟩
  refine cwR (
   .c (uM rfl)<|
   .c (uB rfl (q43 _ _) rfl)<|
   .c (uM rfl)<|
   .c (o_mv rfl rfl (.yes rfl rfl hc0) rfl)<|
   .c (qc rfl rfl (.yes rfl rfl hc0) rfl rfl (qd5 _ _) rfl)<|
   .c (uPT rfl hc0)<|
   .c (uM rfl)<|
   .c (uN rfl rfl hc1)<|
   .c (uN rfl rfl hc1)<|
   .c (uPF rfl hc1)<|
   .c (uM rfl)<|
   .c (uN rfl rfl rfl)<|
   .c (uN rfl rfl rfl)<|
   .c (uPF rfl rfl)<|
   .c (uM rfl)<|
   .c (uN rfl rfl rfl)<|
   .c (uN rfl rfl rfl)<|
   .c (uPF rfl rfl)<|
   .c (uM rfl)<|
   .c (uN rfl rfl rfl)<|
   .c (uN rfl rfl rfl)<|
   .c (uPF rfl rfl)<|
   .c (uM rfl)<|
   .c (uN rfl rfl rfl)<|
   .c (uN rfl rfl rfl)<|
   .c (uPF rfl rfl)<|
   .c (uA rfl)<|.nil rfl
  ) ?_
  exact ⟨false,(sJ h10),.w (wkF ⟨wD rfl,trivial⟩ trivial qd)⟩
 refine cwR (
  .c (uM rfl)<|
  .c (uB rfl (q43 _ _) rfl)<|
  .c (uM rfl)<|
  .c (uN rfl rfl hc0)<|
  .c (uN rfl rfl hc0)<|
  .c (uPF rfl hc0)<|
  .c (uM rfl)<|
  .c (uN rfl rfl rfl)<|
  .c (uN rfl rfl rfl)<|
  .c (uPF rfl rfl)<|
  .c (uM rfl)<|
  .c (uN rfl rfl rfl)<|
  .c (uN rfl rfl rfl)<|
  .c (uPF rfl rfl)<|
  .c (uM rfl)<|
  .c (uN rfl rfl rfl)<|
  .c (uN rfl rfl rfl)<|
  .c (uPF rfl rfl)<|
  .c (uM rfl)<|
  .c (uN rfl rfl rfl)<|
  .c (uN rfl rfl rfl)<|
  .c (uPF rfl rfl)<|
  .c (uM rfl)<|
  .c (uN rfl rfl rfl)<|
  .c (uN rfl rfl rfl)<|
  .c (uPF rfl rfl)<|
  .c (uA rfl)<|.nil rfl
 ) ?_
 exact ⟨false,(sJ h8),.w (wkF ⟨wD rfl,trivial⟩ trivial qd)⟩
end
end Go.Val
