/- law07.counts: its walk: printed as if the queue were a row,then turned by hand. -/
import Derived.Test.YtfbnhflapgddbaaWc
import Derived.Test.YtfbnhflapgddbaaLf
set_option linter.all false
set_option maxRecDepth 100000
namespace Go.Val
open Go.RowKit Go.Proofs
section
variable [NoDrw]
noncomputable def qM1 (a0 : ttM) (a1 : Int) (a2 : List Int) : Option (Bool × ttM) := (ck (decide (0 ≤ (IntKind.wrap .i64 (a1 + 2)) ∧ (IntKind.wrap .i64 (a1 + 2)) ≤ 17592186044416))).bind fun _ => (((qN (V := (Int × (List Int) × (List Int))) (O := (((List Int) × (List Int)) ⊕ (Bool × ttM))) (fun v0 => cond (decide (v0.1 < (a2.length : Int))) (((((gx a2 v0.1).bind fun x0 =>
     cond (decide (x0 = 0)) (some (.inl (v0.2.1,v0.2.2))) ((((cond (decide (x0 < 2)) (some true) (some (decide (x0 ≥ (v0.2.1.length : Int))))) : Option Bool)).bind fun o0 => cond o0 (some (.inr (false,a0))) (((((gx v0.2.1 x0).bind fun x1 => cond (decide (x1 = 0)) ((fits (v0.2.2.length + ([x0]).length) 8).bind fun _ => some (v0.2.2 ++ [x0])) (some v0.2.2)
       ) : Option (List Int))).bind fun o1 => (gx v0.2.1 x0).bind fun x2 => some (.inl ((List.set v0.2.1 x0.toNat (IntKind.wrap .i64 (x2 + 1))),o1))))) : Option (((List Int) × (List Int)) ⊕ (Bool × ttM)))).bind fun o2 => Sum.elim (fun (v1 : ((List Int) × (List Int))) => some (.inl ((IntKind.wrap .i64 (v0.1 + 1)),v1.1,v1.2))) (fun w0 => some (.inr (.inr w0))) o2) (
    some (.inr (.inl (v0.2.1,v0.2.2))))) (0,(List.replicate (IntKind.wrap .i64 (a1 + 2)).toNat 0),[])) : Option (((List Int) × (List Int)) ⊕ (Bool × ttM)))).bind fun o3 => Sum.elim (fun (v2 : ((List Int) × (List Int))) => (((qN (V := (ttM × (List Int) × (List Int))) (O := ((ttM × (List Int)) ⊕ (Bool × ttM))) (fun v3 => cond (decide ((v3.2.2.length : Int) > 0)) (
     (gx v3.2.2 0).bind fun x3 => (qx v3.1 x3).bind fun x4 => (ck (decide (0 < v3.2.2.length))).bind fun _ => cond (decide (x4.2.1 ≠ 0)) (some (.inr (.inr (false,x4.2.2)))) (qN (V := (Int × (List Int) × (List Int))) (O := ((ttM × (List Int) × (List Int)) ⊕ ((ttM × (List Int)) ⊕ (Bool × ttM)))) (fun v4 => cond (decide (v4.1 < (x4.1.2.2.length : Int))) (
        (gx x4.1.2.2 v4.1).bind fun x5 => (((cond (decide (x5.2 < 2)) (some true) (some (decide (x5.2 ≥ (v4.2.1.length : Int))))) : Option Bool)).bind fun o4 => cond o4 (some (.inr (.inr (.inr (false,x4.2.2))))) (((((gx v4.2.1 x5.2).bind fun x6 => cond (decide (x6 = 0)) ((fits (v4.2.2.length + ([x5.2]).length) 8).bind fun _ => some (v4.2.2 ++ [x5.2])) (some v4.2.2)
         ) : Option (List Int))).bind fun o5 => (gx v4.2.1 x5.2).bind fun x7 => some (.inl ((IntKind.wrap .i64 (v4.1 + 1)),(List.set v4.2.1 x5.2.toNat (IntKind.wrap .i64 (x7 + 1))),o5)))) (some (.inr (.inl (x4.2.2,v4.2.1,v4.2.2))))) (0,v3.2.1,(List.drop 1 v3.2.2)))) (some (.inr (.inl (v3.1,v3.2.1))))) (a0,v2.1,v2.2)) : Option ((ttM × (List Int)) ⊕ (Bool × ttM)))).bind fun o6 =>
  Sum.elim (fun (v5 : (ttM × (List Int))) => (((qN (V := (Int × Int × ttM)) (O := ((Int × ttM) ⊕ (Bool × ttM))) (fun v6 => cond (decide (v6.2.1 < (v5.2.length : Int))) (((((qr0 v6.2.2 v6.2.1).bind fun x8 => (gx v5.2 v6.2.1).bind fun x9 => cond (decide (x8.1 ≠ x9)) (some (.inr (false,x8.2))) (cond (decide (x9 > 0)) (some (.inl ((IntKind.wrap .i64 (v6.1 + 1)),x8.2))) (
         some (.inl (v6.1,x8.2))))) : Option ((Int × ttM) ⊕ (Bool × ttM)))).bind fun o7 => Sum.elim (fun (v7 : (Int × ttM)) => some (.inl (v7.1,(IntKind.wrap .i64 (v6.2.1 + 1)),v7.2))) (fun w1 => some (.inr (.inr w1))) o7) (some (.inr (.inl (v6.1,v6.2.2))))) (0,2,v5.1)) : Option ((Int × ttM) ⊕ (Bool × ttM)))).bind fun o8 => Sum.elim (fun (v8 : (Int × ttM)) =>
    (qL0 v8.2).bind fun x10 => some ((decide (x10.1 = (IntKind.wrap .i64 (a1 - v8.1)))),x10.2)) (fun w2 => some w2) o8) (fun w3 => some w3) o6) (fun w4 => some w4) o3
theorem qP4 {a0} {a1} {a2} {r} (h : qM1 a0 a1 a2 = some r) : FnOk Try.prog 26 [.ptr 0 0,.d (eint a1),.d (qb6 a2)] 1 (lk [(0,.own (qe a0))]) (fun rr oo => rr = .d (qW r.1) ∧ oo = lk [(0,.own (qe r.2))]) := by
 refine fnO Try.func26 rfl rfl (cwP ?_)
 unfold qM1 at h
 refine cSR (.A rfl<|.nil rfl) ?_
 have ⟨x0,hx0,h0⟩ := bdS h
 have hx0g := qU4 hx0
 refine cSR (.M rfl<|.B rfl (qR0 _ _) rfl<|.c (o_mkG (enc := eint) (z := 0) (n := (IntKind.wrap .i64 (a1 + 2))) 1 rfl rfl .no rfl rfl sl59 sz3 by3 ze3 (by decide) (by decide) (by have := hx0g; omega) (by have := hx0g; omega) rfl)<|.A rfl<|.nil rfl) ?_
 refine cSR (.A rfl<|.nil rfl) ?_
 have ⟨o0,hj0,h1⟩ := bdS h0
 refine cwJ (fun (z : ((List Int) × (List Int))) => St.of [(0,.ptr 0 0),(1,.d (eint a1)),(7,.arr 1 0),(8,.arr 2 0)] [(0,.own (qe a0)),(1,.arr 0 1 (z.1.map eint)),(2,.arr 0 1 (z.2.map eint))]) (fun z => o0 = (.inl z)) ?_ ?_
 ·intro v0 hv0; subst hv0
  simp only [zN] at h1
  have ⟨o1,hj1,h2⟩ := bdS h1
  refine cwJ (fun (z : (ttM × (List Int))) => St.of [(0,.ptr 0 0),(1,.d (eint a1)),(7,.arr 1 0)] [(0,.own (qe z.1)),(1,.arr 0 1 (z.2.map eint))]) (fun z => o1 = (.inl z)) ?_ ?_
  ·intro v1 hv1; subst hv1
   simp only [zN] at h2
   refine cSR (.A rfl<|.nil rfl) ?_
   have ⟨o2,hj2,h3⟩ := bdS h2
   refine cwJ (fun (z : (Int × ttM)) => St.of [(0,.ptr 0 0),(1,.d (eint a1)),(14,.d (eint z.1))] [(0,.own (qe z.2))]) (fun z => o2 = (.inl z)) ?_ ?_
   ·intro v2 hv2; subst hv2
    simp only [zN] at h3
    have ⟨x1,hx1,h4⟩ := bdS h3
    refine cSR (.M rfl<|.c (qG (fun _ => 0) rfl rfl .no Try.func25 rfl rfl (qi2 hx1) (.cons rfl (.p rfl) .nil) (q20 rfl ⟨(by simp [AV.live,lk,Nat.beq]),tV⟩ rfl (OD.dat_live (qc _)) (by simp)) (.inl rfl))<|.M rfl<|.M rfl<|.B rfl (qS3 _ _) rfl<|.B rfl (qh0 _ _) rfl<|.A rfl<|.nil rfl) ?_
    obtain rfl := zQ h4
    exact rt1 rfl rfl rfl
   refine cSR (.A rfl<|.nil rfl) ?_
   refine cwB (qK (fun (z : (Int × Int × ttM)) => St.of [(0,.ptr 0 0),(1,.d (eint a1)),(7,.arr 1 0),(14,.d (eint z.1)),(15,.d (eint z.2.1))] [(0,.own (qe z.2.2)),(1,.arr 0 1 (v1.2.map eint))]) hj2 (wA1 rfl) ?_)
   intro v3 x2 hb0 hx2
   refine cwS (cSR (.M rfl<|.M rfl<|.c (q56 (enc := eint) (xs := v1.2) rfl rfl .no rfl rfl sl59)<|.B rfl (qO0 _ _) rfl<|.nil rfl) ?_)
   refine cwC hb0 rfl ?_ ?_
   ·intro hc0 h5
    refine cwK ?_
    have ⟨o3,hj3,h7⟩ := bdS h5
    refine cwJ (fun (z : (Int × ttM)) => St.of [(0,.ptr 0 0),(1,.d (eint a1)),(7,.arr 1 0),(14,.d (eint z.1)),(15,.d (eint v3.2.1))] [(0,.own (qe z.2)),(1,.arr 0 1 (v1.2.map eint))]) (fun z => o3 = (.inl z)) ?_ ?_
    ·intro v4 hv3; subst hv3
     simp only [zN] at h7
     refine cwR (.M rfl<|.B rfl (qR0 _ _) rfl<|.A rfl<|.nil rfl) ?_
     exact ⟨(v4.1,(IntKind.wrap .i64 (v3.2.1 + 1)),v4.2),(sJ h7),wA1 rfl⟩
    refine cwB (cwS ?_)
    have ⟨x3,hx3,h8⟩ := bdS hj3
    have ⟨x4,hx4,h9⟩ := bdS h8
    have hx4g := qB hx4
    refine cwS (cwRA mixed (by kernel_rfl) (.M rfl<|.M rfl<|.c (qG (fun _ => 0) rfl rfl .no Try.func32 rfl rfl (qI0 hx3) (.cons rfl (.p rfl) (.cons rfl .d .nil)) (q20 rfl ⟨(by simp [AV.live,lk,Nat.beq]),tV,tV⟩ rfl (OD.dat_live (qc _)) (by simp)) (.inl rfl))<|.M rfl<|.M rfl<|.c (qU1 (enc := eint) (xs := v1.2) rfl rfl .no rfl rfl rfl sl59 sz3 hx4g.1 hx4g.2)<|.c (q73 (enc := eint) (xs := v1.2) (r := x4) [] rfl rfl .no rfl rfl hx4g.2 rfl ta3 rfl rfl)<|.B rfl (qT2 _ _) rfl<|.nil rfl) (by kernel_rfl) ?_)
    refine cwC h9 rfl ?_ ?_
    ·intro hc1 h10
     refine cSR (.A rfl<|.nil rfl) ?_
     have he0 := ((sJ h10)).symm
     subst he0
     have he1 := ((hx2 _ (sJ h7)).symm).symm
     subst he1
     obtain rfl := zQ h3
     exact rt1 rfl rfl rfl
    intro hc1 h11
    refine cwK (cSR (.M rfl<|.M rfl<|.c (qU1 (enc := eint) (xs := v1.2) rfl rfl .no rfl rfl rfl sl59 sz3 hx4g.1 hx4g.2)<|.c (q73 (enc := eint) (xs := v1.2) (r := x4) [] rfl rfl .no rfl rfl hx4g.2 rfl ta3 rfl rfl)<|.B rfl (qT3 _ _) rfl<|.nil rfl) ?_)
    refine cwC h11 rfl ?_ ?_
    ·intro hc2 h12
     refine cwR (.M rfl<|.B rfl (qR0 _ _) rfl<|.A rfl<|.nil rfl) ?_
     exact ⟨((IntKind.wrap .i64 (v3.1 + 1)),x3.2),(sJ h12),wA1 rfl⟩
    intro hc2 h13
    refine cwK ?_
    exact ⟨(v3.1,x3.2),(sJ h13),wA1 rfl⟩
   intro hc0 h6
   refine qR ?_
   exact ⟨(v3.1,v3.2.2),(hx2 _ (sJ h6)).symm,wA1 rfl⟩
  refine cwB (cw_whileG (X := List D) (V := (ttM × (List Int) × (List Int))) (O := ((ttM × (List Int)) ⊕ (Bool × ttM))) (fun (z : (ttM × (List Int) × (List Int))) (g : List D) => St.of [(0,.ptr 0 0),(1,.d (eint a1)),(7,.arr 1 0),(8,.csl 2 0 g.length (z.2.2.map eint).length)] [(0,.own (qe z.1)),(1,.arr 0 1 (z.2.1.map eint)),(2,.arr 0 1 (g ++ z.2.2.map eint))]) ([] : List D) hj1 ((leads_a2c (t := 8) (o := 2) rfl rfl).trans (.w (wkF ⟨wO rfl,wD rfl,⟨_,rfl,.arr rfl rfl⟩,⟨_,rfl,.csl rfl rfl⟩,tV⟩ ⟨oM rfl,.arr rfl rfl,.arr rfl rfl,tV⟩ (qq rfl)))) ?_)
  intro v5 g x5 hb1 hx5
  refine cwS (cSR (.M rfl<|.c (o_lenCM (enc := eint) (xs := v5.2.2) rfl rfl .no rfl rfl sl59)<|.B rfl (qT3 _ _) rfl<|.nil rfl) ?_)
  refine cwC hb1 rfl ?_ ?_
  ·intro hc3 h14
   refine cwK ?_
   rcases v5 with ⟨vm,vn,_ | ⟨q1,Q0⟩⟩
   ·simp at hc3
   refine cwB ?_
   have ⟨x6,hx6,h16⟩ := bdS h14
   have hx6g := qB hx6
   have hq1 : q1 = x6 := by simpa using hx6g.2
   subst hq1
   have ⟨x7,hx7,h17⟩ := bdS h16
   refine cSR (.M rfl<|.M rfl<|.c (o_ixC (rows := g ++ (q1 :: Q0).map eint) rfl rfl .no rfl rfl .csl rfl sl59 sz3 (by decide) (by simp only [List.map_cons,zG]; omega))<|.c (o_ldE (rows := g ++ (q1 :: Q0).map eint) (r := eint q1) [] rfl rfl .no rfl rfl (by simp) rfl ta3 rfl rfl)<|.c (qG (fun n => bif Nat.beq n 0 then 0 else 3) rfl rfl .no Try.func23 rfl rfl (qk0 hx7) (.cons rfl (.p rfl) (.cons rfl .d .nil)) (ql1 [1] rfl ⟨(by simp [AV.live,AV.lives,lk,Nat.beq]),tV,tV⟩ ⟨⟨rfl,(OD.dat_live (qc _))⟩,tV⟩ rfl rfl rfl ⟨rfl,tV⟩ rfl) (.inl rfl))<|.M rfl<|.E rfl<|.E rfl<|.c (qb0 4 rfl rfl .no ze46 rfl)<|.S [] rfl sz46 rfl<|.A rfl<|.nil rfl) ?_
   have ⟨x8,hx8,h18⟩ := bdS h17
   have hx8g := qU4 hx8
   refine cSR (.M rfl<|.c (o_cutQ (Pre := g) (q := eint q1) (Q := Q0.map eint) rfl rfl .no rfl rfl rfl sl59 sz3)<|.A rfl<|.nil rfl) ?_
   refine cwS (cSR (.M rfl<|.B rfl (qT2 _ _) rfl<|.nil rfl) ?_)
   refine cwC h18 rfl ?_ ?_
   ·intro hc4 h19
    refine cSR (.A rfl<|.nil rfl) ?_
    have he2 := ((hx5 _ (sJ h19)).symm).symm
    subst he2
    obtain rfl := zQ h2
    exact rt1 rfl rfl rfl
   intro hc4 h20
   refine cwK (cSR (.A rfl<|.nil rfl) ?_)
   refine cwB (cw_whileG (X := List D) (V := (Int × (List Int) × (List Int))) (O := ((ttM × (List Int) × (List Int)) ⊕ ((ttM × (List Int)) ⊕ (Bool × ttM)))) (fun (z : (Int × (List Int) × (List Int))) (g : List D) => St.of [(0,.ptr 0 0),(1,.d (eint a1)),(7,.arr 1 0),(8,.csl 2 0 g.length (z.2.2.map eint).length),(10,.ptr 4 0),(12,.d (eint z.1))] [(0,.own (qe x7.2.2)),(1,.arr 0 1 (z.2.1.map eint)),(2,.arr 0 1 (g ++ z.2.2.map eint)),(4,.box (.d (qw x7.1)))]) (g ++ [eint q1]) h20 (.w (wkF ⟨wO rfl,wD rfl,⟨_,rfl,.arr rfl rfl⟩,⟨_,rfl,.csl rfl rfl⟩,wP rfl,wD rfl,tV⟩ ⟨oM rfl,.arr rfl rfl,.arr rfl (by simp),.box rfl (.d rfl),tV⟩ (qq rfl))) ?_)
   intro v6 gi x9 hb2 hx9
   refine cwS (cSR (.M rfl<|.F rfl q31 rfl<|.L [2] rfl ta44 rfl<|.c (qU (enc := q50) (xs := x7.1.2.2) rfl rfl .no rfl sl44)<|.B rfl (qO0 _ _) rfl<|.nil rfl) ?_)
   refine cwC hb2 rfl ?_ ?_
   ·intro hc5 h21
    refine cwK ?_
    refine cwS (cwB ?_)
    have ⟨x10,hx10,h23⟩ := bdS h21
    have hx10g := qB hx10
    refine cSR (.F rfl q31 rfl<|.L [2] rfl ta44 rfl<|.M rfl<|.c (qs1 (enc := q50) (xs := x7.1.2.2) rfl rfl .no rfl rfl sl44 sz69 hx10g.1 hx10g.2)<|.c (qO1 rfl rfl .no rfl qw3 (by decide) rfl rfl)<|.c (o_ld rfl rfl .no rfl ta3 rfl rfl)<|.A rfl<|.nil rfl) ?_
    refine cwS ?_
    have ⟨o4,hj4,h24⟩ := bdS h23
    refine cwJ (fun (z : Bool) => St.of [(0,.ptr 0 0),(1,.d (eint a1)),(7,.arr 1 0),(8,.csl 2 0 gi.length (v6.2.2.map eint).length),(10,.ptr 4 0),(12,.d (eint v6.1)),(13,.d (eint x10.2)),(103,.d (qW z))] [(0,.own (qe x7.2.2)),(1,.arr 0 1 (v6.2.1.map eint)),(2,.arr 0 1 (gi ++ v6.2.2.map eint)),(4,.box (.d (qw x7.1)))]) (fun z => o4 = z) ?_ ?_
    ·intro v7 hv4; subst hv4
     refine cwC h24 rfl ?_ ?_
     ·intro hc6 h25
      refine cSR (.A rfl<|.nil rfl) ?_
      have he3 := ((hx5 _ (hx9 _ (sJ h25)).symm).symm).symm
      subst he3
      obtain rfl := zQ h2
      exact rt1 rfl rfl rfl
     intro hc6 h26
     refine cwK ?_
     have ⟨o5,hj5,h27⟩ := bdS h26
     refine cwJ (fun (z : List Int × List D) => St.of [(0,.ptr 0 0),(1,.d (eint a1)),(7,.arr 1 0),(8,.csl 2 0 z.2.length (z.1.map eint).length),(10,.ptr 4 0),(12,.d (eint v6.1)),(13,.d (eint x10.2))] [(0,.own (qe x7.2.2)),(1,.arr 0 1 (v6.2.1.map eint)),(2,.arr 0 1 (z.2 ++ z.1.map eint)),(4,.box (.d (qw x7.1)))]) (fun z => o5 = z.1) ?_ ?_
     ·intro v8 hv5; subst hv5
      have ⟨x11,hx11,h28⟩ := bdS h27
      have hx11g := qB hx11
      refine cwR (.M rfl<|.M rfl<|.c (qU1 (enc := eint) (xs := v6.2.1) rfl rfl .no rfl rfl rfl sl59 sz3 hx11g.1 hx11g.2)<|.c (q73 (enc := eint) (xs := v6.2.1) (r := x11) [] rfl rfl .no rfl rfl hx11g.2 rfl ta3 rfl rfl)<|.B rfl (qR0 _ _) rfl<|.c (qU1 (enc := eint) (xs := v6.2.1) rfl rfl .no rfl rfl rfl sl59 sz3 hx11g.1 hx11g.2)<|.c (q76 (enc := eint) (xs := v6.2.1) (y := (IntKind.wrap .i64 (x11 + 1))) (r := x11) rfl .no rfl rfl rfl hx11g.2 sz3 rfl (qg6 _))<|.nil rfl) ?_
      refine cwR (.M rfl<|.B rfl (qR0 _ _) rfl<|.A rfl<|.nil rfl) ?_
      exact ⟨((IntKind.wrap .i64 (v6.1 + 1)),(List.set v6.2.1 x10.2.toNat (IntKind.wrap .i64 (x11 + 1))),v8.1),v8.2,(sJ h28),.w (wkF ⟨wO rfl,wD rfl,⟨_,rfl,.arr rfl rfl⟩,⟨_,rfl,.csl rfl rfl⟩,wP rfl,wD rfl,tV⟩ ⟨oM rfl,.arr rfl rfl,.arr rfl rfl,.box rfl (.d rfl),tV⟩ (qq rfl))⟩
     have ⟨x12,hx12,h29⟩ := bdS hj5
     have hx12g := qB hx12
     refine cSR (.M rfl<|.M rfl<|.c (qU1 (enc := eint) (xs := v6.2.1) rfl rfl .no rfl rfl rfl sl59 sz3 hx12g.1 hx12g.2)<|.c (q73 (enc := eint) (xs := v6.2.1) (r := x12) [] rfl rfl .no rfl rfl hx12g.2 rfl ta3 rfl rfl)<|.B rfl (qh0 _ _) rfl<|.nil rfl) ?_
     refine cwC h29 rfl ?_ ?_
     ·intro hc7 h30
      have ⟨x13,hx13,h32⟩ := bdS h30
      have hx13g := qV hx13
      refine qN3 (.M rfl<|.M rfl<|.c (ql4 (rows := ([x10.2] : List Int).map eint) rfl rfl .no (.cons rfl .nil) rfl sl59 sz3 ze3 rfl (q51 qg6) (by decide))<|.any (a_appQM (enc := eint) (xs := v6.2.2) (ys := [x10.2]) rfl rfl rfl rfl rfl qg6 sl59 sl59 sz3 by3 ze3 rfl (by decide) hx13g (by simp)) fun s' hs' => by
        obtain ⟨Pre',rfl⟩ := hs'
        exact .cons (uA rfl) (.nil rfl
        ⟨(v6.2.2 ++ [x10.2],Pre'),(sJ h32),.w (wkF ⟨wO rfl,wD rfl,⟨_,rfl,.arr rfl rfl⟩,⟨_,rfl,.csl rfl rfl⟩,wP rfl,wD rfl,wD rfl,tV⟩ ⟨oM rfl,.arr rfl rfl,.arr0 rfl rfl rfl,.box rfl (.d rfl),tV⟩ (qq rfl))⟩))
     intro hc7 h31
     refine cwK ?_
     exact ⟨(v6.2.2,gi),(sJ h31),.w (wkF ⟨wO rfl,wD rfl,⟨_,rfl,.arr rfl rfl⟩,⟨_,rfl,.csl rfl rfl⟩,wP rfl,wD rfl,wD rfl,tV⟩ ⟨oM rfl,.arr rfl rfl,.arr rfl rfl,.box rfl (.d rfl),tV⟩ (qq rfl))⟩
    rcases cdS hj4 with ⟨hc8,h33⟩ | ⟨hc8,h34⟩
    ·skip
     refine cwR (.M rfl<|.B rfl (qO0 _ _) rfl<|.M rfl<|.G rfl rfl hc8<|.G rfl rfl hc8<|.G rfl rfl hc8<|.G rfl rfl hc8<|.I rfl hc8<|.nil rfl) ?_
     exact ⟨true,(sJ h33),.w (wkF ⟨wO rfl,wD rfl,⟨_,rfl,.arr rfl rfl⟩,⟨_,rfl,.csl rfl rfl⟩,wP rfl,wD rfl,wD rfl,wD rfl,tV⟩ ⟨oM rfl,.arr rfl rfl,.arr rfl rfl,.box rfl (.d rfl),tV⟩ (qq rfl))⟩
    refine cwR (.M rfl<|.B rfl (qO0 _ _) rfl<|.M rfl<|.c (o_mv rfl rfl (.yes rfl rfl hc8) rfl)<|.c (o_mv rfl rfl (.yes rfl rfl hc8) rfl)<|.c (q56 (enc := eint) (xs := v6.2.1) rfl rfl (.yes rfl rfl hc8) rfl rfl sl59)<|.c (qn rfl rfl (.yes rfl rfl hc8) rfl rfl (qf6 _ _) rfl)<|.J rfl hc8<|.nil rfl) ?_
    exact ⟨(decide (x10.2 ≥ (v6.2.1.length : Int))),(sJ h34),.w (wkF ⟨wO rfl,wD rfl,⟨_,rfl,.arr rfl rfl⟩,⟨_,rfl,.csl rfl rfl⟩,wP rfl,wD rfl,wD rfl,wD rfl,tV⟩ ⟨oM rfl,.arr rfl rfl,.arr rfl rfl,.box rfl (.d rfl),tV⟩ (qq rfl))⟩
   intro hc5 h22
   refine qR ?_
   exact ⟨(x7.2.2,v6.2.1,v6.2.2),gi,(hx9 _ (sJ h22)).symm,.w (wkF ⟨wO rfl,wD rfl,⟨_,rfl,.arr rfl rfl⟩,⟨_,rfl,.csl rfl rfl⟩,tV⟩ ⟨oM rfl,.arr rfl rfl,.arr rfl rfl,tV⟩ (qq rfl))⟩
  intro hc3 h15
  refine qR ?_
  exact ⟨(v5.1,v5.2.1),(hx5 _ (sJ h15)).symm,wA1 rfl⟩
 refine cSR (.A rfl<|.nil rfl) ?_
 refine cwB (qK (fun (z : (Int × (List Int) × (List Int))) => St.of [(0,.ptr 0 0),(1,.d (eint a1)),(2,.d (qb6 a2)),(7,.arr 1 0),(8,.arr 2 0),(9,.d (eint z.1))] [(0,.own (qe a0)),(1,.arr 0 1 (z.2.1.map eint)),(2,.arr 0 1 (z.2.2.map eint))]) hj0 (.w (wkF ⟨wO rfl,wD rfl,wD rfl,⟨_,rfl,.arr rfl rfl⟩,⟨_,rfl,.nila rfl rfl⟩,wD rfl,tV⟩ ⟨oM rfl,.arr rfl rfl,.nil rfl,tV⟩ (qq rfl))) ?_)
 intro v9 x14 hb3 hx14
 refine cwS (cSR (.M rfl<|.M rfl<|.c (qU (enc := eint) (xs := a2) rfl rfl .no rfl sl59)<|.B rfl (qO0 _ _) rfl<|.nil rfl) ?_)
 refine cwC hb3 rfl ?_ ?_
 ·intro hc9 h35
  refine cwK ?_
  have ⟨o6,hj6,h37⟩ := bdS h35
  refine cwJ (fun (z : ((List Int) × (List Int))) => St.of [(0,.ptr 0 0),(1,.d (eint a1)),(2,.d (qb6 a2)),(7,.arr 1 0),(8,.arr 2 0),(9,.d (eint v9.1))] [(0,.own (qe a0)),(1,.arr 0 1 (z.1.map eint)),(2,.arr 0 1 (z.2.map eint))]) (fun z => o6 = (.inl z)) ?_ ?_
  ·intro v10 hv6; subst hv6
   simp only [zN] at h37
   refine cwR (.M rfl<|.B rfl (qR0 _ _) rfl<|.A rfl<|.nil rfl) ?_
   exact ⟨((IntKind.wrap .i64 (v9.1 + 1)),v10.1,v10.2),(sJ h37),wA1 rfl⟩
  refine cwB (cwS ?_)
  have ⟨x15,hx15,h38⟩ := bdS hj6
  have hx15g := qB hx15
  refine cSR (.M rfl<|.M rfl<|.c (qs1 (enc := eint) (xs := a2) rfl rfl .no rfl rfl sl59 sz3 hx15g.1 hx15g.2)<|.c (o_ld rfl rfl .no rfl ta3 rfl rfl)<|.B rfl (qh0 _ _) rfl<|.nil rfl) ?_
  refine cwC h38 rfl ?_ ?_
  ·intro hc10 h39
   refine qR ?_
   exact ⟨(v9.2.1,v9.2.2),(sJ h39),wA1 rfl⟩
  intro hc10 h40
  refine cwK (cwS ?_)
  have ⟨o7,hj7,h41⟩ := bdS h40
  refine cwJ (fun (z : Bool) => St.of [(0,.ptr 0 0),(1,.d (eint a1)),(2,.d (qb6 a2)),(7,.arr 1 0),(8,.arr 2 0),(9,.d (eint v9.1)),(43,.d (qW z))] [(0,.own (qe a0)),(1,.arr 0 1 (v9.2.1.map eint)),(2,.arr 0 1 (v9.2.2.map eint))]) (fun z => o7 = z) ?_ ?_
  ·intro v11 hv7; subst hv7
   refine cwC h41 rfl ?_ ?_
   ·intro hc11 h42
    refine cSR (.A rfl<|.nil rfl) ?_
    have he4 := ((sJ h42)).symm
    subst he4
    have he5 := ((hx14 _ (sJ h37)).symm).symm
    subst he5
    obtain rfl := zQ h1
    exact rt1 rfl rfl rfl
   intro hc11 h43
   refine cwK ?_
   have ⟨o8,hj8,h44⟩ := bdS h43
   refine cwJ (fun (z : (List Int)) => St.of [(0,.ptr 0 0),(1,.d (eint a1)),(2,.d (qb6 a2)),(7,.arr 1 0),(8,.arr 2 0),(9,.d (eint v9.1))] [(0,.own (qe a0)),(1,.arr 0 1 (v9.2.1.map eint)),(2,.arr 0 1 (z.map eint))]) (fun z => o8 = z) ?_ ?_
   ·intro v12 hv8; subst hv8
    have ⟨x16,hx16,h45⟩ := bdS h44
    have hx16g := qB hx16
    refine cwR (.M rfl<|.M rfl<|.M rfl<|.c (qs1 (enc := eint) (xs := a2) rfl rfl .no rfl rfl sl59 sz3 hx15g.1 hx15g.2)<|.c (o_ld rfl rfl .no rfl ta3 rfl rfl)<|.c (qU1 (enc := eint) (xs := v9.2.1) rfl rfl .no rfl rfl rfl sl59 sz3 hx16g.1 hx16g.2)<|.c (q73 (enc := eint) (xs := v9.2.1) (r := x16) [] rfl rfl .no rfl rfl hx16g.2 rfl ta3 rfl rfl)<|.B rfl (qR0 _ _) rfl<|.c (qU1 (enc := eint) (xs := v9.2.1) rfl rfl .no rfl rfl rfl sl59 sz3 hx16g.1 hx16g.2)<|.c (q76 (enc := eint) (xs := v9.2.1) (y := (IntKind.wrap .i64 (x16 + 1))) (r := x16) rfl .no rfl rfl rfl hx16g.2 sz3 rfl (qg6 _))<|.nil rfl) ?_
    exact ⟨((List.set v9.2.1 x15.toNat (IntKind.wrap .i64 (x16 + 1))),o8),(sJ h45),wA1 rfl⟩
   have ⟨x17,hx17,h46⟩ := bdS hj8
   have hx17g := qB hx17
   refine cSR (.M rfl<|.M rfl<|.M rfl<|.c (qs1 (enc := eint) (xs := a2) rfl rfl .no rfl rfl sl59 sz3 hx15g.1 hx15g.2)<|.c (o_ld rfl rfl .no rfl ta3 rfl rfl)<|.c (qU1 (enc := eint) (xs := v9.2.1) rfl rfl .no rfl rfl rfl sl59 sz3 hx17g.1 hx17g.2)<|.c (q73 (enc := eint) (xs := v9.2.1) (r := x17) [] rfl rfl .no rfl rfl hx17g.2 rfl ta3 rfl rfl)<|.B rfl (qh0 _ _) rfl<|.nil rfl) ?_
   refine cwC h46 rfl ?_ ?_
   ·intro hc12 h47
    have ⟨x18,hx18,h49⟩ := bdS h47
    have hx18g := qV hx18
    refine cwR (.M rfl<|.M rfl<|.M rfl<|.c (qs1 (enc := eint) (xs := a2) rfl rfl .no rfl rfl sl59 sz3 hx15g.1 hx15g.2)<|.c (o_ld rfl rfl .no rfl ta3 rfl rfl)<|.c (ql4 (rows := ([x15] : List Int).map eint) rfl rfl .no (.cons rfl .nil) rfl sl59 sz3 ze3 rfl (q51 qg6) (by decide))<|.c (q02 (enc := eint) (xs := v9.2.2) (ys := [x15]) rfl rfl .no rfl rfl rfl qg6 sl59 sl59 sz3 by3 ze3 rfl (by decide) hx18g)<|.A rfl<|.nil rfl) ?_
    exact ⟨(v9.2.2 ++ [x15]),(sJ h49),wA1 rfl⟩
   intro hc12 h48
   refine cwK ?_
   exact ⟨v9.2.2,(sJ h48),wA1 rfl⟩
  rcases cdS hj7 with ⟨hc13,h50⟩ | ⟨hc13,h51⟩
  ·skip
   refine cwR (.M rfl<|.M rfl<|.c (qs1 (enc := eint) (xs := a2) rfl rfl .no rfl rfl sl59 sz3 hx15g.1 hx15g.2)<|.c (o_ld rfl rfl .no rfl ta3 rfl rfl)<|.B rfl (qO0 _ _) rfl<|.M rfl<|.G rfl rfl hc13<|.G rfl rfl hc13<|.G rfl rfl hc13<|.G rfl rfl hc13<|.G rfl rfl hc13<|.G rfl rfl hc13<|.G rfl rfl hc13<|.I rfl hc13<|.nil rfl) ?_
   exact ⟨true,(sJ h50),wA1 rfl⟩
  refine cwR (.M rfl<|.M rfl<|.c (qs1 (enc := eint) (xs := a2) rfl rfl .no rfl rfl sl59 sz3 hx15g.1 hx15g.2)<|.c (o_ld rfl rfl .no rfl ta3 rfl rfl)<|.B rfl (qO0 _ _) rfl<|.M rfl<|.c (o_mv rfl rfl (.yes rfl rfl hc13) rfl)<|.c (o_mv rfl rfl (.yes rfl rfl hc13) rfl)<|.c (qs1 (enc := eint) (xs := a2) rfl rfl (.yes rfl rfl hc13) rfl rfl sl59 sz3 hx15g.1 hx15g.2)<|.c (o_ld rfl rfl (.yes rfl rfl hc13) rfl ta3 rfl rfl)<|.c (o_mv rfl rfl (.yes rfl rfl hc13) rfl)<|.c (q56 (enc := eint) (xs := v9.2.1) rfl rfl (.yes rfl rfl hc13) rfl rfl sl59)<|.c (qn rfl rfl (.yes rfl rfl hc13) rfl rfl (qf6 _ _) rfl)<|.J rfl hc13<|.nil rfl) ?_
  exact ⟨(decide (x15 ≥ (v9.2.1.length : Int))),(sJ h51),wA1 rfl⟩
 intro hc9 h36
 refine qR ?_
 exact ⟨(v9.2.1,v9.2.2),(hx14 _ (sJ h36)).symm,wA1 rfl⟩
end
end Go.Val
