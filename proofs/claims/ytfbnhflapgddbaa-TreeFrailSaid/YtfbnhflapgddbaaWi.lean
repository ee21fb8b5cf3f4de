/- Walks of the program's functions,printed. -/
import Derived.Test.YtfbnhflapgddbaaWh
set_option linter.all false
set_option maxRecDepth 100000
namespace Go.Val
open Go.RowKit Go.Proofs
section
variable [NoDrw]
noncomputable def qT0 (a0 : ttM) (a1 : Int) (a2 : List ttC) : Option (Int × Int × ttM) := (((qN (V := Int) (O := (Unit ⊕ (Int × Int × ttM))) (fun v0 => cond (decide (v0 < (a2.length : Int))) ((gx a2 v0).bind fun x0 => cond (decide ((x0.2.1.size : Int) > 40)) (some (.inr (.inr (0,1,a0)))) (some (.inl (IntKind.wrap .i64 (v0 + 1))))) (some (.inr (.inl ())))) 0
 ) : Option (Unit ⊕ (Int × Int × ttM)))).bind fun o0 => Sum.elim (fun (v1 : Unit) => cond (decide ((a2.length : Int) = 0)) ((q92 a0 a1).bind fun x1 => cond (decide (x1.1 ≠ 0)) (some (0,x1.1,x1.2)) (some (a1,0,x1.2))) ((qa2 a2).bind fun x2 => (((cond (decide (a1 = 0)) ((q11 ([]) x2).bind fun x3 => (qy0 x3).bind fun x4 => some (.inl (0,x4,a0,[]))) (
     (qx a0 a1).bind fun x5 => cond (decide (x5.2.1 ≠ 0)) (some (.inr (0,x5.2.1,x5.2.2))) ((qm1 ([]) a1 x2 x5.2.2).bind fun x6 => cond (decide (x6.2.1 ≠ 0)) (some (.inr (0,x6.2.1,x6.2.2.2))) (some (.inl (x5.1.1,x6.1,x6.2.2.2,x6.2.2.1)))))) : Option ((Int × (List ttP) × ttM × (List Int)) ⊕ (Int × Int × ttM)))).bind fun o1 =>
   Sum.elim (fun (v2 : (Int × (List ttP) × ttM × (List Int))) => (qW2 v2.1 v2.2.1).bind fun x7 => (((cond (decide (x7.2.2 ≠ 0)) (some true) (some (!x7.2.1))) : Option Bool)).bind fun o2 => cond o2 (some (0,x7.2.2,v2.2.2.1)) ((qa1 v2.2.2.2 x7.1 v2.2.2.1).bind fun x8 => cond (decide (x8.2.1 ≠ 0)) (none) (some (x8.1,0,x8.2.2.2)))) (fun w0 => some w0) o1)) (fun w1 =>
  some w1) o0
noncomputable def qa3 : Option Bool := (qd1 100).bind fun x0 => (qT0 x0 0 ([((List.set (List.replicate 24 0) 0 (UInt8.ofNat 7)),(ByteArray.mk #[49]),false)])).bind fun x1 => (qT0 x1.2.2 x1.1 ([((List.set (List.replicate 24 0) 0 (UInt8.ofNat 7)),(ByteArray.mk #[]),true)])).bind fun x2 =>
 (qj2 x2.2.2 x1.1 (List.set (List.replicate 24 0) 0 (UInt8.ofNat 7))).bind fun x3 => (qj2 x3.2.2.2 x2.1 (List.set (List.replicate 24 0) 0 (UInt8.ofNat 7))).bind fun x4 => (qg2).bind fun x5 => (qp1 x4.2.2.2 x1.1 x5).bind fun x6 => (((cond (decide (x1.2.1 = 0)) (cond (decide (x2.2.1 = 0)) (cond (decide (x2.1 = 0)) (cond (decide (x3.1 = (ByteArray.mk #[49]))) (
      cond x3.2.1 (cond (decide (x3.2.2.1 = 0)) (cond (!x4.2.1) (cond (decide (x4.2.2.1 = 0)) (cond (decide ((x6.1.length : Int) = 1)) (cond (decide (x6.2.1 = 0)) ((qr0 x6.2.2 x1.1).bind fun x7 => cond (decide (x7.1 = 1)) ((qA2 x7.2 x1.1).bind fun x8 => cond (decide (x8.1 = 0)) ((qk2 x8.2 x1.1).bind fun x9 => cond (decide (x9.1 = 0)) (
               (qL0 x9.2).bind fun x10 => cond (decide (x10.1 = 100)) (some true) (some false)) (some false)) (some false)) (some false)) (some false)) (some false)) (some false)) (some false)) (some false)) (some false)) (some false)) (some false)) (some false)) (some false)) : Option Bool)).bind fun o0 => some o0
theorem qB3 {a0} {a1} {a2} {r} (h : qT0 a0 a1 a2 = some r) : FnOk Try.prog 15 [.ifc 24 (.ptr 0 0),.d (eint a1),.d (eSC a2)] 1 (lk [(0,.own (qe a0))]) (fun rr oo => rr = .tup [.d (eint r.1),.d (eErr r.2.1)] ∧ oo = lk [(0,.own (qe r.2.2))]) := by
 refine fnO Try.func15 rfl rfl (cwP ?_)
 unfold qT0 at h
 refine cSR (.X 1 rfl<|.A rfl<|.A rfl<|.nil rfl) ?_
 have ⟨o0,hj0,h0⟩ := bdS h
 refine cwJ (fun (z : Unit) => St.of [(1,.d (eint a1)),(2,.d (eSC a2)),(3,.ptr 1 0)] [(0,.own (qe a0)),(1,.box (.ifc 24 (.ptr 0 0)))]) (fun z => o0 = (.inl z)) ?_ ?_
 ·intro v0 hv0; subst hv0
  simp only [zN] at h0
  refine cwS (cSR (.M rfl<|.c (qU (enc := eCg) (xs := a2) rfl rfl .no rfl sl22)<|.B rfl (qh0 _ _) rfl<|.nil rfl) ?_)
  refine cwC h0 rfl ?_ ?_
  ·intro hc0 h1
   have ⟨x0,hx0,h3⟩ := bdS h1
   refine cSR (.L [] rfl ta90 rfl<|.M rfl<|.c (qG (fun _ => 0) rfl rfl .no Try.func33 rfl rfl (tree_Clone_o_ok hx0) (.cons rfl (.ip rfl) (.cons rfl .d .nil)) (q20 rfl ⟨(by simp [AV.live,lk,Nat.beq]),tV,tV⟩ rfl (OD.dat_live (qc _)) (by simp)) (.inl rfl))<|.A rfl<|.nil rfl) ?_
   refine cwS (cSR (.M rfl<|.B rfl (qT2 _ _) rfl<|.nil rfl) ?_)
   refine cwC h3 rfl ?_ ?_
   ·intro hc1 h4
    refine cSR (.M rfl<|.A rfl<|.A rfl<|.nil rfl) ?_
    obtain rfl := zQ h4
    exact rt2 rfl rfl rfl rfl
   intro hc1 h5
   refine cwK (cSR (.M rfl<|.A rfl<|.A rfl<|.nil rfl) ?_)
   obtain rfl := zQ h5
   exact rt2 rfl rfl rfl rfl
  intro hc0 h2
  refine cwK (cSR (.L [] rfl ta90 rfl<|.c (o_bldA rfl rfl .no zo93 rfl pl93 (.cons rfl rfl rfl rfl rfl rfl rfl .nil))<|.X 3 rfl<|.A rfl<|.nil rfl) ?_)
  have ⟨x1,hx1,h6⟩ := bdS h2
  refine cSR (.M rfl<|.c (qc0 rfl rfl .no Try.func35 rfl rfl (qk5 hx1) (.cons rfl .d .nil) ⟨tV,tV⟩ (.inl rfl))<|.A rfl<|.nil rfl) ?_
  refine cSR (.c (o_bslO (rows := ([] : List ttP).map qh) 4 rfl rfl .no .nil rfl sl95 qH1 qj4 rfl (q51 qo) (by decide) rfl)<|.A rfl<|.A rfl<|.nil rfl) ?_
  have ⟨o1,hj1,h7⟩ := bdS h6
  refine cwJ (fun (z : (Int × (List ttP) × ttM × (List Int))) => St.of [(3,.ptr 1 0),(11,.ptr 3 0),(12,.d (eint z.1)),(13,.d (qi z.2.1))] [(0,.own (qe z.2.2.1)),(1,.box (.ifc 24 (.ptr 0 0))),(3,.own (qg 0 z.2.2.2))]) (fun z => o1 = (.inl z)) ?_ ?_
  ·intro v1 hv1; subst hv1
   simp only [zN] at h7
   have ⟨x2,hx2,h8⟩ := bdS h7
   refine cSR (.M rfl<|.M rfl<|.c (qc0 rfl rfl .no Try.func39 rfl rfl (tree_top_ok hx2) (.cons rfl .d (.cons rfl .d .nil)) ⟨tV,tV,tV⟩ (.inl rfl))<|.M rfl<|.E rfl<|.E rfl<|.E rfl<|.c (qb0 7 rfl rfl .no qj4 rfl)<|.c (o_st [] rfl .no rfl rfl rfl rfl rfl qH1 (qo x2.1) (qo ((List.replicate 24 0),0,(none : Option Fr))))<|.A rfl<|.A rfl<|.nil rfl) ?_
   refine cwS ?_
   have ⟨o2,hj2,h9⟩ := bdS h8
   refine cwJ (fun (z : Bool) => St.of [(3,.ptr 1 0),(11,.ptr 3 0),(16,.ptr 7 0),(18,.d (eErr x2.2.2)),(87,.d (qW z))] [(0,.own (qe v1.2.2.1)),(1,.box (.ifc 24 (.ptr 0 0))),(3,.own (qg 0 v1.2.2.2)),(7,.box (.d (qh x2.1)))]) (fun z => o2 = z) ?_ ?_
   ·intro v2 hv2; subst hv2
    refine cwC h9 rfl ?_ ?_
    ·intro hc2 h10
     refine cSR (.M rfl<|.A rfl<|.A rfl<|.nil rfl) ?_
     obtain rfl := zQ h10
     exact rt2 rfl rfl rfl rfl
    intro hc2 h11
    refine cwK ?_
    have ⟨x3,hx3,h12⟩ := bdS h11
    refine cSR (.M rfl<|.c (qC [] rfl rfl .no rfl rfl rfl qD5 rfl (qo x2.1))<|.c (qG (fun n => bif Nat.beq n 0 then 3 else 0) rfl rfl .no Try.func40 rfl rfl (qC4 hx3) (.cons rfl (.p rfl) (.cons rfl .d .nil)) (qu2 rfl ⟨(by simp [AV.live,lk,Nat.beq]),tV,tV⟩ (by decide) rfl (by simp [qg,OB.live,OD.live,OD.lives,AV.live,lk,Nat.beq]) rfl (OD.dat_live (qc _)) (by simp)) (.inl rfl))<|.M rfl<|.E rfl<|.E rfl<|.A rfl<|.A rfl<|.nil rfl) ?_
    refine cwS (cSR (.M rfl<|.B rfl (qT2 _ _) rfl<|.nil rfl) ?_)
    refine cwC h12 rfl ?_ ?_
    ·intro hc3 h13
     refine cwS ?_
     exact nomatch h13
    intro hc3 h14
    refine cwK (cSR (.M rfl<|.A rfl<|.A rfl<|.nil rfl) ?_)
    obtain rfl := zQ h14
    exact rt2 rfl rfl rfl rfl
   rcases cdS hj2 with ⟨hc4,h15⟩ | ⟨hc4,h16⟩
   ·skip
    refine cwR (.M rfl<|.B rfl (qT2 _ _) rfl<|.M rfl<|.G rfl rfl hc4<|.G rfl rfl hc4<|.I rfl hc4<|.nil rfl) ?_
    exact ⟨true,(sJ h15),wA1 rfl⟩
   refine cwR (.M rfl<|.B rfl (qT2 _ _) rfl<|.M rfl<|.c (o_mv rfl rfl (.yes rfl rfl hc4) rfl)<|.c (qb5 rfl rfl (.yes rfl rfl hc4) rfl)<|.J rfl hc4<|.nil rfl) ?_
   exact ⟨(!x2.2.1),(sJ h16),wA1 rfl⟩
  refine cSR (.M rfl<|.B rfl (qh0 _ _) rfl<|.nil rfl) ?_
  refine cwC hj1 rfl ?_ ?_
  ·intro hc5 h17
   have ⟨x4,hx4,h19⟩ := bdS h17
   have ⟨x5,hx5,h20⟩ := bdS h19
   refine cwR (.M rfl<|.c (qc0 rfl rfl .no Try.func37 rfl rfl (q53 hx4) (.cons rfl .nil (.cons rfl .d .nil)) ⟨tV,tV,tV⟩ (.inl rfl))<|.c (qc0 rfl rfl .no Try.func36 rfl rfl (qW1 hx5) (.cons rfl .d .nil) ⟨tV,tV⟩ (.inl rfl))<|.A rfl<|.nil rfl) ?_
   exact ⟨(0,x5,a0,[]),(sJ h20),.trans (lPk (o := 3) (y := .st [.ifc 24 (.ptr 0 0),.d (.v (.slice none 0 0))]) (x := qg 0 ([])) (l := [(3,.ptr 1 0),(11,.ptr 3 0),(12,.d (eint 0)),(13,.d (qi x5))]) (m := [(0,.own (qe a0)),(1,.box (.ifc 24 (.ptr 0 0))),(3,.own (qg 0 ([])))]) rfl (.st (.cons (.av rfl) (.cons (.nil rfl) .nil))) rfl rfl ⟨⟨rfl,(by simp [AV.live,AV.lives,lk,Nat.beq])⟩,⟨rfl,(by simp [AV.live,AV.lives,lk,Nat.beq])⟩,⟨rfl,tV⟩,⟨rfl,tV⟩,tV⟩ ⟨(.inr ⟨rfl,(OD.dat_live (qc _))⟩),(.inr ⟨rfl,(by simp [OB.live,AV.live,AV.lives,lk,Nat.beq])⟩),.inl rfl,tV⟩ rfl (by simp [qg,OB.live,OD.live,OD.lives,AV.live,lk,Nat.beq]) trivial (qq rfl)) (wA1 rfl)⟩
  intro hc5 h18
  have ⟨x6,hx6,h21⟩ := bdS h18
  refine cSR (.L [] rfl ta90 rfl<|.M rfl<|.c (qc6 (fun n => bif Nat.beq n 0 then 0 else 5) rfl rfl .no rfl Try.func23 rfl rfl rfl q05 (qk0 hx6) (.cons rfl (.p rfl) (.cons rfl .d .nil)) (by decide) (ql1 [1] rfl ⟨(by simp [AV.live,AV.lives,lk,Nat.beq]),tV,tV⟩ ⟨⟨rfl,(OD.dat_live (qc _))⟩,tV⟩ rfl rfl rfl ⟨rfl,tV⟩ rfl) (.inl rfl))<|.M rfl<|.E rfl<|.E rfl<|.c (qb0 6 rfl rfl .no ze46 rfl)<|.S [] rfl sz46 rfl<|.A rfl<|.nil rfl) ?_
  refine cwS (cSR (.M rfl<|.B rfl (qT2 _ _) rfl<|.nil rfl) ?_)
  refine cwC h21 rfl ?_ ?_
  ·intro hc6 h22
   refine cSR (.M rfl<|.A rfl<|.A rfl<|.nil rfl) ?_
   have he0 := ((sJ h22)).symm
   subst he0
   obtain rfl := zQ h7
   exact rt2 rfl rfl rfl rfl
  intro hc6 h23
  refine cwK (cSR (.F rfl qG1 rfl<|.L [0] rfl ta3 rfl<|.A rfl<|.nil rfl) ?_)
  refine cwL (lPk (o := 3) (y := .st [.ifc 24 (.ptr 0 0),.d (.v (.slice none 0 0))]) (x := qg 0 ([])) (l := [(1,.d (eint a1)),(2,.d (eSC x1)),(3,.ptr 1 0),(11,.ptr 3 0),(12,.d (eint x6.1.1))]) (m := [(0,.own (qe x6.2.2)),(1,.box (.ifc 24 (.ptr 0 0))),(3,.own (qg 0 ([])))]) rfl (.st (.cons (.av rfl) (.cons (.nil rfl) .nil))) rfl rfl ⟨⟨rfl,tV⟩,⟨rfl,tV⟩,⟨rfl,(by simp [AV.live,AV.lives,lk,Nat.beq])⟩,⟨rfl,(by simp [AV.live,AV.lives,lk,Nat.beq])⟩,⟨rfl,tV⟩,tV⟩ ⟨(.inr ⟨rfl,(OD.dat_live (qc _))⟩),(.inr ⟨rfl,(by simp [OB.live,AV.live,AV.lives,lk,Nat.beq])⟩),.inl rfl,tV⟩ rfl (by simp [qg,OB.live,OD.live,OD.lives,AV.live,lk,Nat.beq]) trivial (qq rfl)) ?_
  have ⟨x7,hx7,h24⟩ := bdS h23
  refine cSR (.M rfl<|.M rfl<|.M rfl<|.c (qG (fun n => bif Nat.beq n 0 then 3 else 0) rfl rfl .no Try.func38 rfl rfl (qN4 hx7) (.cons rfl (.p rfl) (.cons rfl .d (.cons rfl .d .nil))) (qu2 rfl ⟨(by simp [AV.live,lk,Nat.beq]),tV,tV,tV⟩ (by decide) rfl (by simp [qg,OB.live,OD.live,OD.lives,AV.live,lk,Nat.beq]) rfl (OD.dat_live (qc _)) (by simp)) (.inl rfl))<|.M rfl<|.E rfl<|.E rfl<|.A rfl<|.A rfl<|.nil rfl) ?_
  refine cSR (.M rfl<|.B rfl (qT2 _ _) rfl<|.nil rfl) ?_
  refine cwC h24 rfl ?_ ?_
  ·intro hc7 h25
   refine cSR (.M rfl<|.A rfl<|.A rfl<|.nil rfl) ?_
   have he1 := ((sJ h25)).symm
   subst he1
   obtain rfl := zQ h7
   exact rt2 rfl rfl rfl rfl
  intro hc7 h26
  refine cwK ?_
  exact ⟨(x6.1.1,x7.1,x7.2.2.2,x7.2.2.1),(sJ h26),wA1 rfl⟩
 refine cSR (.M rfl<|.c (qU (enc := eCg) (xs := a2) rfl rfl .no rfl sl22)<|.M rfl<|.nil rfl) ?_
 refine cwB (qK (fun (z : Int) => St.of [(1,.d (eint a1)),(2,.d (eSC a2)),(3,.ptr 1 0),(22,.d (eSC a2)),(23,.d (eint (a2.length : Int))),(24,.d (eint z))] [(0,.own (qe a0)),(1,.box (.ifc 24 (.ptr 0 0)))]) hj0 (wA1 rfl) ?_)
 intro v3 x8 hb0 hx8
 refine cSR (.B rfl (qO0 _ _) rfl<|.nil rfl) ?_
 refine cwS (cwC hb0 rfl ?_ ?_)
 ·intro hc8 h27
  refine cwK ?_
  refine cwS (cwB ?_)
  have ⟨x9,hx9,h29⟩ := bdS h27
  have hx9g := qB hx9
  refine cSR (.c (qs1 (enc := eCg) (xs := a2) rfl rfl .no rfl rfl sl22 sz33 hx9g.1 hx9g.2)<|.c (o_ld rfl rfl .no rfl ta33 rfl rfl)<|.c (qb0 2 rfl rfl .no ze33 rfl)<|.S [] rfl sz33 rfl<|.nil rfl) ?_
  refine cSR (.F rfl q16 rfl<|.L [1] rfl ta9 rfl<|.c (o_lenS rfl rfl .no rfl un9)<|.B rfl (qT3 _ _) rfl<|.nil rfl) ?_
  refine cwC h29 rfl ?_ ?_
  ·intro hc9 h30
   refine cSR (.A rfl<|.A rfl<|.nil rfl) ?_
   have he2 := ((hx8 _ (sJ h30)).symm).symm
   subst he2
   obtain rfl := zQ h0
   exact rt2 rfl rfl rfl rfl
  intro hc9 h31
  refine cwK (cwR (.B rfl (qR0 _ _) rfl<|.M rfl<|.nil rfl) ?_)
  exact ⟨(IntKind.wrap .i64 (v3 + 1)),(sJ h31),wA1 rfl⟩
 intro hc8 h28
 refine qR ?_
 exact ⟨(),(hx8 _ (sJ h28)).symm,wA1 rfl⟩
theorem law07_shown_ok {r} (h : qa3 = some r) : FnOk Try.prog 13 [] 0 (lk []) (fun rr oo => rr = .d (qW r) ∧ oo = lk []) := by
 refine fnO Try.func13 rfl rfl (cwP ?_)
 unfold qa3 at h
 refine cSR (.A rfl<|.nil rfl) ?_
 have ⟨x0,hx0,h0⟩ := bdS h
 refine cSR (.c (qW5 0 rfl rfl .no Try.func14 rfl rfl (qb4 hx0) (.cons rfl .d .nil) ⟨tV,tV⟩ rfl (.inl rfl))<|.A rfl<|.nil rfl) ?_
 refine cwS (cSR (.M rfl<|.c (o_pnilP rfl rfl .no rfl up24)<|.nil rfl) ?_)
 refine cwF rfl rfl ?_
 refine cwK (cSR (.c (o_bldB (l := (List.replicate 24 0)) (r := (List.set (List.replicate 24 0) 0 (UInt8.ofNat 7))) rfl rfl .no ze31 ar31 sz5 (.cons rfl (by decide) rfl .nil))<|.c (qb0 1 rfl rfl .no ze31 rfl)<|.S [] rfl sz31 rfl<|.nil rfl) ?_)
 have ⟨x1,hx1,h1⟩ := bdS (x := qT0 x0 0 ([((List.set (List.replicate 24 0) 0 (UInt8.ofNat 7)),(ByteArray.mk #[49]),false)])) h0
 refine cSR (.M rfl<|.c (qL4 rfl rfl .no rfl qi6)<|.L [] rfl ta31 rfl<|.c (qa6 (ds := [eK (List.set (List.replicate 24 0) 0 (UInt8.ofNat 7)),eStr (ByteArray.mk #[49]),qW false]) rfl rfl .no zs33 rfl pl33 (.cons rfl rfl rfl rfl rfl rfl rfl (.cons rfl rfl rfl rfl rfl rfl rfl .nil)))<|.c (ql4 (rows := ([((List.set (List.replicate 24 0) 0 (UInt8.ofNat 7)),(ByteArray.mk #[49]),false)] : List ttC).map eCg) rfl rfl .no (.cons rfl .nil) rfl sl22 sz33 ze33 rfl (q51 qn0) (by decide))<|.c (qG (fun _ => 0) rfl rfl .no Try.func15 rfl rfl (qB3 hx1) (.cons rfl (.ip rfl) (.cons rfl .d (.cons rfl .d .nil))) (q20 rfl ⟨(by simp [AV.live,lk,Nat.beq]),tV,tV,tV⟩ rfl (OD.dat_live (qc _)) (by simp)) (.inl rfl))<|.M rfl<|.E rfl<|.E rfl<|.A rfl<|.A rfl<|.nil rfl) ?_
 have ⟨x2,hx2,h2⟩ := bdS (x := qT0 x1.2.2 x1.1 ([((List.set (List.replicate 24 0) 0 (UInt8.ofNat 7)),(ByteArray.mk #[]),true)])) h1
 refine cSR (.M rfl<|.c (qL4 rfl rfl .no rfl qi6)<|.M rfl<|.L [] rfl ta31 rfl<|.c (qa6 (ds := [eK (List.set (List.replicate 24 0) 0 (UInt8.ofNat 7)),eStr (ByteArray.mk #[]),qW true]) rfl rfl .no zs33 rfl pl33 (.cons rfl rfl rfl rfl rfl rfl rfl (.cons rfl rfl rfl rfl rfl rfl rfl .nil)))<|.c (ql4 (rows := ([((List.set (List.replicate 24 0) 0 (UInt8.ofNat 7)),(ByteArray.mk #[]),true)] : List ttC).map eCg) rfl rfl .no (.cons rfl .nil) rfl sl22 sz33 ze33 rfl (q51 qn0) (by decide))<|.c (qG (fun _ => 0) rfl rfl .no Try.func15 rfl rfl (qB3 hx2) (.cons rfl (.ip rfl) (.cons rfl .d (.cons rfl .d .nil))) (q20 rfl ⟨(by simp [AV.live,lk,Nat.beq]),tV,tV,tV⟩ rfl (OD.dat_live (qc _)) (by simp)) (.inl rfl))<|.M rfl<|.E rfl<|.E rfl<|.A rfl<|.A rfl<|.nil rfl) ?_
 have ⟨x3,hx3,h3⟩ := bdS h2
 refine cSR (.M rfl<|.c (qL4 rfl rfl .no rfl qi6)<|.M rfl<|.L [] rfl ta31 rfl<|.c (qG (fun _ => 0) rfl rfl .no Try.func24 rfl rfl (tree_Get_o_ok hx3) (.cons rfl (.ip rfl) (.cons rfl .d (.cons rfl .d .nil))) (q20 rfl ⟨(by simp [AV.live,lk,Nat.beq]),tV,tV,tV⟩ rfl (OD.dat_live (qc _)) (by simp)) (.inl rfl))<|.M rfl<|.E rfl<|.E rfl<|.E rfl<|.A rfl<|.A rfl<|.A rfl<|.nil rfl) ?_
 have ⟨x4,hx4,h4⟩ := bdS h3
 refine cSR (.M rfl<|.c (qL4 rfl rfl .no rfl qi6)<|.M rfl<|.L [] rfl ta31 rfl<|.c (qG (fun _ => 0) rfl rfl .no Try.func24 rfl rfl (tree_Get_o_ok hx4) (.cons rfl (.ip rfl) (.cons rfl .d (.cons rfl .d .nil))) (q20 rfl ⟨(by simp [AV.live,lk,Nat.beq]),tV,tV,tV⟩ rfl (OD.dat_live (qc _)) (by simp)) (.inl rfl))<|.M rfl<|.E rfl<|.E rfl<|.E rfl<|.A rfl<|.A rfl<|.A rfl<|.nil rfl) ?_
 have ⟨x5,hx5,h5⟩ := bdS h4
 have ⟨x6,hx6,h6⟩ := bdS h5
 refine cSR (.M rfl<|.c (qL4 rfl rfl .no rfl qi6)<|.M rfl<|.c (qc0 rfl rfl .no Try.func18 rfl rfl (q65 hx5) .nil trivial (.inl rfl))<|.c (qG (fun _ => 0) rfl rfl .no Try.func17 rfl rfl (qW3 hx6) (.cons rfl (.ip rfl) (.cons rfl .d (.cons rfl .d .nil))) (q20 rfl ⟨(by simp [AV.live,lk,Nat.beq]),tV,tV,tV⟩ rfl (OD.dat_live (qc _)) (by simp)) (.inl rfl))<|.M rfl<|.E rfl<|.E rfl<|.A rfl<|.A rfl<|.nil rfl) ?_
 have ⟨o0,hj0,h7⟩ := bdS h6
 refine cwJ (fun (z : Bool) => St.of [(0,.d (qW z))] []) (fun z => o0 = z) ?_ ?_
 ·intro v0 hv0; subst hv0
  obtain rfl := zQ h7
  exact rt1 rfl rfl rfl
 rcases cdS hj0 with ⟨hc0,h8⟩ | ⟨hc0,h9⟩
 ·skip
  rcases cdS h8 with ⟨hc1,h10⟩ | ⟨hc1,h11⟩
  ·skip
   rcases cdS h10 with ⟨hc2,h12⟩ | ⟨hc2,h13⟩
   ·skip
    rcases cdS h12 with ⟨hc3,h14⟩ | ⟨hc3,h15⟩
    ·skip
     rcases cdS h14 with ⟨hc4,h16⟩ | ⟨hc4,h17⟩
     ·skip
      rcases cdS h16 with ⟨hc5,h18⟩ | ⟨hc5,h19⟩
      ·skip
       rcases cdS h18 with ⟨hc6,h20⟩ | ⟨hc6,h21⟩
       ·skip
        rcases cdS h20 with ⟨hc7,h22⟩ | ⟨hc7,h23⟩
        ·skip
         rcases cdS h22 with ⟨hc8,h24⟩ | ⟨hc8,h25⟩
         ·skip
          rcases cdS h24 with ⟨hc9,h26⟩ | ⟨hc9,h27⟩
          ·skip
           have ⟨x7,hx7,h28⟩ := bdS h26
           rcases cdS h28 with ⟨hc10,h29⟩ | ⟨hc10,h30⟩
           ·skip
            have ⟨x8,hx8,h31⟩ := bdS h29
            rcases cdS h31 with ⟨hc11,h32⟩ | ⟨hc11,h33⟩
            ·skip
             have ⟨x9,hx9,h34⟩ := bdS h32
             rcases cdS h34 with ⟨hc12,h35⟩ | ⟨hc12,h36⟩
             ·skip
              have ⟨x10,hx10,h37⟩ := bdS h35
              rcases cdS h37 with ⟨hc13,h38⟩ | ⟨hc13,h39⟩
              ·skip
               refine cwR (.M rfl<|.B rfl (qh0 _ _) rfl<|.M rfl<|.c (o_mv rfl rfl (.yes rfl rfl hc0) rfl)<|.c (qn rfl rfl (.yes rfl rfl hc0) rfl rfl (qh0 _ _) rfl)<|.I rfl hc0<|.M rfl<|.c (o_mv rfl rfl (.yes rfl rfl hc1) rfl)<|.c (qn rfl rfl (.yes rfl rfl hc1) rfl rfl (qh0 _ _) rfl)<|.I rfl hc1<|.M rfl<|.c (o_mv rfl rfl (.yes rfl rfl hc2) rfl)<|.c (qn rfl rfl (.yes rfl rfl hc2) rfl rfl (s_eql _ _) rfl)<|.I rfl hc2<|.M rfl<|.c (o_mv rfl rfl (.yes rfl rfl hc3) rfl)<|.I rfl hc3<|.M rfl<|.c (o_mv rfl rfl (.yes rfl rfl hc4) rfl)<|.c (qn rfl rfl (.yes rfl rfl hc4) rfl rfl (qh0 _ _) rfl)<|.I rfl hc4<|.M rfl<|.c (o_mv rfl rfl (.yes rfl rfl hc5) rfl)<|.c (qb5 rfl rfl (.yes rfl rfl hc5) rfl)<|.I rfl hc5<|.M rfl<|.c (o_mv rfl rfl (.yes rfl rfl hc6) rfl)<|.c (qn rfl rfl (.yes rfl rfl hc6) rfl rfl (qh0 _ _) rfl)<|.I rfl hc6<|.M rfl<|.c (o_mv rfl rfl (.yes rfl rfl hc7) rfl)<|.c (qU (enc := ePr) (xs := x6.1) rfl rfl (.yes rfl rfl hc7) rfl sl34)<|.c (qn rfl rfl (.yes rfl rfl hc7) rfl rfl (qh0 _ _) rfl)<|.I rfl hc7<|.M rfl<|.c (o_mv rfl rfl (.yes rfl rfl hc8) rfl)<|.c (qn rfl rfl (.yes rfl rfl hc8) rfl rfl (qh0 _ _) rfl)<|.I rfl hc8<|.M rfl<|.c (o_mv rfl rfl (.yes rfl rfl hc9) rfl)<|.c (o_mv rfl rfl (.yes rfl rfl hc9) rfl)<|.c (qG (fun _ => 0) rfl rfl (.yes rfl rfl hc9) Try.func32 rfl rfl (qI0 hx7) (.cons rfl (.p rfl) (.cons rfl .d .nil)) (q20 rfl ⟨(by simp [AV.live,lk,Nat.beq]),tV,tV⟩ rfl (OD.dat_live (qc _)) (by simp)) (.inl rfl))<|.c (qn rfl rfl (.yes rfl rfl hc9) rfl rfl (qh0 _ _) rfl)<|.I rfl hc9<|.M rfl<|.c (o_mv rfl rfl (.yes rfl rfl hc10) rfl)<|.c (qL4 rfl rfl (.yes rfl rfl hc10) rfl qi6)<|.c (o_mv rfl rfl (.yes rfl rfl hc10) rfl)<|.c (qG (fun _ => 0) rfl rfl (.yes rfl rfl hc10) Try.func22 rfl rfl (qI2 hx8) (.cons rfl (.ip rfl) (.cons rfl .d .nil)) (q20 rfl ⟨(by simp [AV.live,lk,Nat.beq]),tV,tV⟩ rfl (OD.dat_live (qc _)) (by simp)) (.inl rfl))<|.c (qn rfl rfl (.yes rfl rfl hc10) rfl rfl (qh0 _ _) rfl)<|.I rfl hc10<|.M rfl<|.c (o_mv rfl rfl (.yes rfl rfl hc11) rfl)<|.c (qL4 rfl rfl (.yes rfl rfl hc11) rfl qi6)<|.c (o_mv rfl rfl (.yes rfl rfl hc11) rfl)<|.c (qG (fun _ => 0) rfl rfl (.yes rfl rfl hc11) Try.func21 rfl rfl (qU2 hx9) (.cons rfl (.ip rfl) (.cons rfl .d .nil)) (q20 rfl ⟨(by simp [AV.live,lk,Nat.beq]),tV,tV⟩ rfl (OD.dat_live (qc _)) (by simp)) (.inl rfl))<|.c (qn rfl rfl (.yes rfl rfl hc11) rfl rfl (qh0 _ _) rfl)<|.I rfl hc11<|.M rfl<|.c (o_mv rfl rfl (.yes rfl rfl hc12) rfl)<|.c (qG (fun _ => 0) rfl rfl (.yes rfl rfl hc12) Try.func25 rfl rfl (qi2 hx10) (.cons rfl (.p rfl) .nil) (q20 rfl ⟨(by simp [AV.live,lk,Nat.beq]),tV⟩ rfl (OD.dat_live (qc _)) (by simp)) (.inl rfl))<|.c (qn rfl rfl (.yes rfl rfl hc12) rfl rfl (qh0 _ _) rfl)<|.I rfl hc12<|.M rfl<|.I rfl hc13<|.M rfl<|.I rfl rfl<|.A rfl<|.nil rfl) ?_
               exact ⟨true,(sJ h38),wA1 rfl⟩
              refine cwR (.M rfl<|.B rfl (qh0 _ _) rfl<|.M rfl<|.c (o_mv rfl rfl (.yes rfl rfl hc0) rfl)<|.c (qn rfl rfl (.yes rfl rfl hc0) rfl rfl (qh0 _ _) rfl)<|.I rfl hc0<|.M rfl<|.c (o_mv rfl rfl (.yes rfl rfl hc1) rfl)<|.c (qn rfl rfl (.yes rfl rfl hc1) rfl rfl (qh0 _ _) rfl)<|.I rfl hc1<|.M rfl<|.c (o_mv rfl rfl (.yes rfl rfl hc2) rfl)<|.c (qn rfl rfl (.yes rfl rfl hc2) rfl rfl (s_eql _ _) rfl)<|.I rfl hc2<|.M rfl<|.c (o_mv rfl rfl (.yes rfl rfl hc3) rfl)<|.I rfl hc3<|.M rfl<|.c (o_mv rfl rfl (.yes rfl rfl hc4) rfl)<|.c (qn rfl rfl (.yes rfl rfl hc4) rfl rfl (qh0 _ _) rfl)<|.I rfl hc4<|.M rfl<|.c (o_mv rfl rfl (.yes rfl rfl hc5) rfl)<|.c (qb5 rfl rfl (.yes rfl rfl hc5) rfl)<|.I rfl hc5<|.M rfl<|.c (o_mv rfl rfl (.yes rfl rfl hc6) rfl)<|.c (qn rfl rfl (.yes rfl rfl hc6) rfl rfl (qh0 _ _) rfl)<|.I rfl hc6<|.M rfl<|.c (o_mv rfl rfl (.yes rfl rfl hc7) rfl)<|.c (qU (enc := ePr) (xs := x6.1) rfl rfl (.yes rfl rfl hc7) rfl sl34)<|.c (qn rfl rfl (.yes rfl rfl hc7) rfl rfl (qh0 _ _) rfl)<|.I rfl hc7<|.M rfl<|.c (o_mv rfl rfl (.yes rfl rfl hc8) rfl)<|.c (qn rfl rfl (.yes rfl rfl hc8) rfl rfl (qh0 _ _) rfl)<|.I rfl hc8<|.M rfl<|.c (o_mv rfl rfl (.yes rfl rfl hc9) rfl)<|.c (o_mv rfl rfl (.yes rfl rfl hc9) rfl)<|.c (qG (fun _ => 0) rfl rfl (.yes rfl rfl hc9) Try.func32 rfl rfl (qI0 hx7) (.cons rfl (.p rfl) (.cons rfl .d .nil)) (q20 rfl ⟨(by simp [AV.live,lk,Nat.beq]),tV,tV⟩ rfl (OD.dat_live (qc _)) (by simp)) (.inl rfl))<|.c (qn rfl rfl (.yes rfl rfl hc9) rfl rfl (qh0 _ _) rfl)<|.I rfl hc9<|.M rfl<|.c (o_mv rfl rfl (.yes rfl rfl hc10) rfl)<|.c (qL4 rfl rfl (.yes rfl rfl hc10) rfl qi6)<|.c (o_mv rfl rfl (.yes rfl rfl hc10) rfl)<|.c (qG (fun _ => 0) rfl rfl (.yes rfl rfl hc10) Try.func22 rfl rfl (qI2 hx8) (.cons rfl (.ip rfl) (.cons rfl .d .nil)) (q20 rfl ⟨(by simp [AV.live,lk,Nat.beq]),tV,tV⟩ rfl (OD.dat_live (qc _)) (by simp)) (.inl rfl))<|.c (qn rfl rfl (.yes rfl rfl hc10) rfl rfl (qh0 _ _) rfl)<|.I rfl hc10<|.M rfl<|.c (o_mv rfl rfl (.yes rfl rfl hc11) rfl)<|.c (qL4 rfl rfl (.yes rfl rfl hc11) rfl qi6)<|.c (o_mv rfl rfl (.yes rfl rfl hc11) rfl)<|.c (qG (fun _ => 0) rfl rfl (.yes rfl rfl hc11) Try.func21 rfl rfl (qU2 hx9) (.cons rfl (.ip rfl) (.cons rfl .d .nil)) (q20 rfl ⟨(by simp [AV.live,lk,Nat.beq]),tV,tV⟩ rfl (OD.dat_live (qc _)) (by simp)) (.inl rfl))<|.c (qn rfl rfl (.yes rfl rfl hc11) rfl rfl (qh0 _ _) rfl)<|.I rfl hc11<|.M rfl<|.c (o_mv rfl rfl (.yes rfl rfl hc12) rfl)<|.c (qG (fun _ => 0) rfl rfl (.yes rfl rfl hc12) Try.func25 rfl rfl (qi2 hx10) (.cons rfl (.p rfl) .nil) (q20 rfl ⟨(by simp [AV.live,lk,Nat.beq]),tV⟩ rfl (OD.dat_live (qc _)) (by simp)) (.inl rfl))<|.c (qn rfl rfl (.yes rfl rfl hc12) rfl rfl (qh0 _ _) rfl)<|.I rfl hc12<|.M rfl<|.J rfl hc13<|.M rfl<|.J rfl rfl<|.A rfl<|.nil rfl) ?_
              exact ⟨false,(sJ h39),wA1 rfl⟩
             refine cwR (.M rfl<|.B rfl (qh0 _ _) rfl<|.M rfl<|.c (o_mv rfl rfl (.yes rfl rfl hc0) rfl)<|.c (qn rfl rfl (.yes rfl rfl hc0) rfl rfl (qh0 _ _) rfl)<|.I rfl hc0<|.M rfl<|.c (o_mv rfl rfl (.yes rfl rfl hc1) rfl)<|.c (qn rfl rfl (.yes rfl rfl hc1) rfl rfl (qh0 _ _) rfl)<|.I rfl hc1<|.M rfl<|.c (o_mv rfl rfl (.yes rfl rfl hc2) rfl)<|.c (qn rfl rfl (.yes rfl rfl hc2) rfl rfl (s_eql _ _) rfl)<|.I rfl hc2<|.M rfl<|.c (o_mv rfl rfl (.yes rfl rfl hc3) rfl)<|.I rfl hc3<|.M rfl<|.c (o_mv rfl rfl (.yes rfl rfl hc4) rfl)<|.c (qn rfl rfl (.yes rfl rfl hc4) rfl rfl (qh0 _ _) rfl)<|.I rfl hc4<|.M rfl<|.c (o_mv rfl rfl (.yes rfl rfl hc5) rfl)<|.c (qb5 rfl rfl (.yes rfl rfl hc5) rfl)<|.I rfl hc5<|.M rfl<|.c (o_mv rfl rfl (.yes rfl rfl hc6) rfl)<|.c (qn rfl rfl (.yes rfl rfl hc6) rfl rfl (qh0 _ _) rfl)<|.I rfl hc6<|.M rfl<|.c (o_mv rfl rfl (.yes rfl rfl hc7) rfl)<|.c (qU (enc := ePr) (xs := x6.1) rfl rfl (.yes rfl rfl hc7) rfl sl34)<|.c (qn rfl rfl (.yes rfl rfl hc7) rfl rfl (qh0 _ _) rfl)<|.I rfl hc7<|.M rfl<|.c (o_mv rfl rfl (.yes rfl rfl hc8) rfl)<|.c (qn rfl rfl (.yes rfl rfl hc8) rfl rfl (qh0 _ _) rfl)<|.I rfl hc8<|.M rfl<|.c (o_mv rfl rfl (.yes rfl rfl hc9) rfl)<|.c (o_mv rfl rfl (.yes rfl rfl hc9) rfl)<|.c (qG (fun _ => 0) rfl rfl (.yes rfl rfl hc9) Try.func32 rfl rfl (qI0 hx7) (.cons rfl (.p rfl) (.cons rfl .d .nil)) (q20 rfl ⟨(by simp [AV.live,lk,Nat.beq]),tV,tV⟩ rfl (OD.dat_live (qc _)) (by simp)) (.inl rfl))<|.c (qn rfl rfl (.yes rfl rfl hc9) rfl rfl (qh0 _ _) rfl)<|.I rfl hc9<|.M rfl<|.c (o_mv rfl rfl (.yes rfl rfl hc10) rfl)<|.c (qL4 rfl rfl (.yes rfl rfl hc10) rfl qi6)<|.c (o_mv rfl rfl (.yes rfl rfl hc10) rfl)<|.c (qG (fun _ => 0) rfl rfl (.yes rfl rfl hc10) Try.func22 rfl rfl (qI2 hx8) (.cons rfl (.ip rfl) (.cons rfl .d .nil)) (q20 rfl ⟨(by simp [AV.live,lk,Nat.beq]),tV,tV⟩ rfl (OD.dat_live (qc _)) (by simp)) (.inl rfl))<|.c (qn rfl rfl (.yes rfl rfl hc10) rfl rfl (qh0 _ _) rfl)<|.I rfl hc10<|.M rfl<|.c (o_mv rfl rfl (.yes rfl rfl hc11) rfl)<|.c (qL4 rfl rfl (.yes rfl rfl hc11) rfl qi6)<|.c (o_mv rfl rfl (.yes rfl rfl hc11) rfl)<|.c (qG (fun _ => 0) rfl rfl (.yes rfl rfl hc11) Try.func21 rfl rfl (qU2 hx9) (.cons rfl (.ip rfl) (.cons rfl .d .nil)) (q20 rfl ⟨(by simp [AV.live,lk,Nat.beq]),tV,tV⟩ rfl (OD.dat_live (qc _)) (by simp)) (.inl rfl))<|.c (qn rfl rfl (.yes rfl rfl hc11) rfl rfl (qh0 _ _) rfl)<|.I rfl hc11<|.M rfl<|.G rfl rfl hc12<|.G rfl rfl hc12<|.G rfl rfl hc12<|.J rfl hc12<|.M rfl<|.J rfl rfl<|.M rfl<|.J rfl rfl<|.A rfl<|.nil rfl) ?_
             exact ⟨false,(sJ h36),wA1 rfl⟩
            refine cwR (.M rfl<|.B rfl (qh0 _ _) rfl<|.M rfl<|.c (o_mv rfl rfl (.yes rfl rfl hc0) rfl)<|.c (qn rfl rfl (.yes rfl rfl hc0) rfl rfl (qh0 _ _) rfl)<|.I rfl hc0<|.M rfl<|.c (o_mv rfl rfl (.yes rfl rfl hc1) rfl)<|.c (qn rfl rfl (.yes rfl rfl hc1) rfl rfl (qh0 _ _) rfl)<|.I rfl hc1<|.M rfl<|.c (o_mv rfl rfl (.yes rfl rfl hc2) rfl)<|.c (qn rfl rfl (.yes rfl rfl hc2) rfl rfl (s_eql _ _) rfl)<|.I rfl hc2<|.M rfl<|.c (o_mv rfl rfl (.yes rfl rfl hc3) rfl)<|.I rfl hc3<|.M rfl<|.c (o_mv rfl rfl (.yes rfl rfl hc4) rfl)<|.c (qn rfl rfl (.yes rfl rfl hc4) rfl rfl (qh0 _ _) rfl)<|.I rfl hc4<|.M rfl<|.c (o_mv rfl rfl (.yes rfl rfl hc5) rfl)<|.c (qb5 rfl rfl (.yes rfl rfl hc5) rfl)<|.I rfl hc5<|.M rfl<|.c (o_mv rfl rfl (.yes rfl rfl hc6) rfl)<|.c (qn rfl rfl (.yes rfl rfl hc6) rfl rfl (qh0 _ _) rfl)<|.I rfl hc6<|.M rfl<|.c (o_mv rfl rfl (.yes rfl rfl hc7) rfl)<|.c (qU (enc := ePr) (xs := x6.1) rfl rfl (.yes rfl rfl hc7) rfl sl34)<|.c (qn rfl rfl (.yes rfl rfl hc7) rfl rfl (qh0 _ _) rfl)<|.I rfl hc7<|.M rfl<|.c (o_mv rfl rfl (.yes rfl rfl hc8) rfl)<|.c (qn rfl rfl (.yes rfl rfl hc8) rfl rfl (qh0 _ _) rfl)<|.I rfl hc8<|.M rfl<|.c (o_mv rfl rfl (.yes rfl rfl hc9) rfl)<|.c (o_mv rfl rfl (.yes rfl rfl hc9) rfl)<|.c (qG (fun _ => 0) rfl rfl (.yes rfl rfl hc9) Try.func32 rfl rfl (qI0 hx7) (.cons rfl (.p rfl) (.cons rfl .d .nil)) (q20 rfl ⟨(by simp [AV.live,lk,Nat.beq]),tV,tV⟩ rfl (OD.dat_live (qc _)) (by simp)) (.inl rfl))<|.c (qn rfl rfl (.yes rfl rfl hc9) rfl rfl (qh0 _ _) rfl)<|.I rfl hc9<|.M rfl<|.c (o_mv rfl rfl (.yes rfl rfl hc10) rfl)<|.c (qL4 rfl rfl (.yes rfl rfl hc10) rfl qi6)<|.c (o_mv rfl rfl (.yes rfl rfl hc10) rfl)<|.c (qG (fun _ => 0) rfl rfl (.yes rfl rfl hc10) Try.func22 rfl rfl (qI2 hx8) (.cons rfl (.ip rfl) (.cons rfl .d .nil)) (q20 rfl ⟨(by simp [AV.live,lk,Nat.beq]),tV,tV⟩ rfl (OD.dat_live (qc _)) (by simp)) (.inl rfl))<|.c (qn rfl rfl (.yes rfl rfl hc10) rfl rfl (qh0 _ _) rfl)<|.I rfl hc10<|.M rfl<|.G rfl rfl hc11<|.G rfl rfl hc11<|.G rfl rfl hc11<|.G rfl rfl hc11<|.G rfl rfl hc11<|.J rfl hc11<|.M rfl<|.G rfl rfl rfl<|.G rfl rfl rfl<|.G rfl rfl rfl<|.J rfl rfl<|.M rfl<|.J rfl rfl<|.M rfl<|.J rfl rfl<|.A rfl<|.nil rfl) ?_
            exact ⟨false,(sJ h33),wA1 rfl⟩
           refine cwR (.M rfl<|.B rfl (qh0 _ _) rfl<|.M rfl<|.c (o_mv rfl rfl (.yes rfl rfl hc0) rfl)<|.c (qn rfl rfl (.yes rfl rfl hc0) rfl rfl (qh0 _ _) rfl)<|.I rfl hc0<|.M rfl<|.c (o_mv rfl rfl (.yes rfl rfl hc1) rfl)<|.c (qn rfl rfl (.yes rfl rfl hc1) rfl rfl (qh0 _ _) rfl)<|.I rfl hc1<|.M rfl<|.c (o_mv rfl rfl (.yes rfl rfl hc2) rfl)<|.c (qn rfl rfl (.yes rfl rfl hc2) rfl rfl (s_eql _ _) rfl)<|.I rfl hc2<|.M rfl<|.c (o_mv rfl rfl (.yes rfl rfl hc3) rfl)<|.I rfl hc3<|.M rfl<|.c (o_mv rfl rfl (.yes rfl rfl hc4) rfl)<|.c (qn rfl rfl (.yes rfl rfl hc4) rfl rfl (qh0 _ _) rfl)<|.I rfl hc4<|.M rfl<|.c (o_mv rfl rfl (.yes rfl rfl hc5) rfl)<|.c (qb5 rfl rfl (.yes rfl rfl hc5) rfl)<|.I rfl hc5<|.M rfl<|.c (o_mv rfl rfl (.yes rfl rfl hc6) rfl)<|.c (qn rfl rfl (.yes rfl rfl hc6) rfl rfl (qh0 _ _) rfl)<|.I rfl hc6<|.M rfl<|.c (o_mv rfl rfl (.yes rfl rfl hc7) rfl)<|.c (qU (enc := ePr) (xs := x6.1) rfl rfl (.yes rfl rfl hc7) rfl sl34)<|.c (qn rfl rfl (.yes rfl rfl hc7) rfl rfl (qh0 _ _) rfl)<|.I rfl hc7<|.M rfl<|.c (o_mv rfl rfl (.yes rfl rfl hc8) rfl)<|.c (qn rfl rfl (.yes rfl rfl hc8) rfl rfl (qh0 _ _) rfl)<|.I rfl hc8<|.M rfl<|.c (o_mv rfl rfl (.yes rfl rfl hc9) rfl)<|.c (o_mv rfl rfl (.yes rfl rfl hc9) rfl)<|.c (qG (fun _ => 0) rfl rfl (.yes rfl rfl hc9) Try.func32 rfl rfl (qI0 hx7) (.cons rfl (.p rfl) (.cons rfl .d .nil)) (q20 rfl ⟨(by simp [AV.live,lk,Nat.beq]),tV,tV⟩ rfl (OD.dat_live (qc _)) (by simp)) (.inl rfl))<|.c (qn rfl rfl (.yes rfl rfl hc9) rfl rfl (qh0 _ _) rfl)<|.I rfl hc9<|.M rfl<|.G rfl rfl hc10<|.G rfl rfl hc10<|.G rfl rfl hc10<|.G rfl rfl hc10<|.G rfl rfl hc10<|.J rfl hc10<|.M rfl<|.G rfl rfl rfl<|.G rfl rfl rfl<|.G rfl rfl rfl<|.G rfl rfl rfl<|.G rfl rfl rfl<|.J rfl rfl<|.M rfl<|.G rfl rfl rfl<|.G rfl rfl rfl<|.G rfl rfl rfl<|.J rfl rfl<|.M rfl<|.J rfl rfl<|.M rfl<|.J rfl rfl<|.A rfl<|.nil rfl) ?_
           exact ⟨false,(sJ h30),wA1 rfl⟩
          refine cwR (.M rfl<|.B rfl (qh0 _ _) rfl<|.M rfl<|.c (o_mv rfl rfl (.yes rfl rfl hc0) rfl)<|.c (qn rfl rfl (.yes rfl rfl hc0) rfl rfl (qh0 _ _) rfl)<|.I rfl hc0<|.M rfl<|.c (o_mv rfl rfl (.yes rfl rfl hc1) rfl)<|.c (qn rfl rfl (.yes rfl rfl hc1) rfl rfl (qh0 _ _) rfl)<|.I rfl hc1<|.M rfl<|.c (o_mv rfl rfl (.yes rfl rfl hc2) rfl)<|.c (qn rfl rfl (.yes rfl rfl hc2) rfl rfl (s_eql _ _) rfl)<|.I rfl hc2<|.M rfl<|.c (o_mv rfl rfl (.yes rfl rfl hc3) rfl)<|.I rfl hc3<|.M rfl<|.c (o_mv rfl rfl (.yes rfl rfl hc4) rfl)<|.c (qn rfl rfl (.yes rfl rfl hc4) rfl rfl (qh0 _ _) rfl)<|.I rfl hc4<|.M rfl<|.c (o_mv rfl rfl (.yes rfl rfl hc5) rfl)<|.c (qb5 rfl rfl (.yes rfl rfl hc5) rfl)<|.I rfl hc5<|.M rfl<|.c (o_mv rfl rfl (.yes rfl rfl hc6) rfl)<|.c (qn rfl rfl (.yes rfl rfl hc6) rfl rfl (qh0 _ _) rfl)<|.I rfl hc6<|.M rfl<|.c (o_mv rfl rfl (.yes rfl rfl hc7) rfl)<|.c (qU (enc := ePr) (xs := x6.1) rfl rfl (.yes rfl rfl hc7) rfl sl34)<|.c (qn rfl rfl (.yes rfl rfl hc7) rfl rfl (qh0 _ _) rfl)<|.I rfl hc7<|.M rfl<|.c (o_mv rfl rfl (.yes rfl rfl hc8) rfl)<|.c (qn rfl rfl (.yes rfl rfl hc8) rfl rfl (qh0 _ _) rfl)<|.I rfl hc8<|.M rfl<|.G rfl rfl hc9<|.G rfl rfl hc9<|.G rfl rfl hc9<|.G rfl rfl hc9<|.J rfl hc9<|.M rfl<|.G rfl rfl rfl<|.G rfl rfl rfl<|.G rfl rfl rfl<|.G rfl rfl rfl<|.G rfl rfl rfl<|.J rfl rfl<|.M rfl<|.G rfl rfl rfl<|.G rfl rfl rfl<|.G rfl rfl rfl<|.G rfl rfl rfl<|.G rfl rfl rfl<|.J rfl rfl<|.M rfl<|.G rfl rfl rfl<|.G rfl rfl rfl<|.G rfl rfl rfl<|.J rfl rfl<|.M rfl<|.J rfl rfl<|.M rfl<|.J rfl rfl<|.A rfl<|.nil rfl) ?_
          exact ⟨false,(sJ h27),wA1 rfl⟩
         refine cwR (.M rfl<|.B rfl (qh0 _ _) rfl<|.M rfl<|.c (o_mv rfl rfl (.yes rfl rfl hc0) rfl)<|.c (qn rfl rfl (.yes rfl rfl hc0) rfl rfl (qh0 _ _) rfl)<|.I rfl hc0<|.M rfl<|.c (o_mv rfl rfl (.yes rfl rfl hc1) rfl)<|.c (qn rfl rfl (.yes rfl rfl hc1) rfl rfl (qh0 _ _) rfl)<|.I rfl hc1<|.M rfl<|.c (o_mv rfl rfl (.yes rfl rfl hc2) rfl)<|.c (qn rfl rfl (.yes rfl rfl hc2) rfl rfl (s_eql _ _) rfl)<|.I rfl hc2<|.M rfl<|.c (o_mv rfl rfl (.yes rfl rfl hc3) rfl)<|.I rfl hc3<|.M rfl<|.c (o_mv rfl rfl (.yes rfl rfl hc4) rfl)<|.c (qn rfl rfl (.yes rfl rfl hc4) rfl rfl (qh0 _ _) rfl)<|.I rfl hc4<|.M rfl<|.c (o_mv rfl rfl (.yes rfl rfl hc5) rfl)<|.c (qb5 rfl rfl (.yes rfl rfl hc5) rfl)<|.I rfl hc5<|.M rfl<|.c (o_mv rfl rfl (.yes rfl rfl hc6) rfl)<|.c (qn rfl rfl (.yes rfl rfl hc6) rfl rfl (qh0 _ _) rfl)<|.I rfl hc6<|.M rfl<|.c (o_mv rfl rfl (.yes rfl rfl hc7) rfl)<|.c (qU (enc := ePr) (xs := x6.1) rfl rfl (.yes rfl rfl hc7) rfl sl34)<|.c (qn rfl rfl (.yes rfl rfl hc7) rfl rfl (qh0 _ _) rfl)<|.I rfl hc7<|.M rfl<|.G rfl rfl hc8<|.G rfl rfl hc8<|.J rfl hc8<|.M rfl<|.G rfl rfl rfl<|.G rfl rfl rfl<|.G rfl rfl rfl<|.G rfl rfl rfl<|.J rfl rfl<|.M rfl<|.G rfl rfl rfl<|.G rfl rfl rfl<|.G rfl rfl rfl<|.G rfl rfl rfl<|.G rfl rfl rfl<|.J rfl rfl<|.M rfl<|.G rfl rfl rfl<|.G rfl rfl rfl<|.G rfl rfl rfl<|.G rfl rfl rfl<|.G rfl rfl rfl<|.J rfl rfl<|.M rfl<|.G rfl rfl rfl<|.G rfl rfl rfl<|.G rfl rfl rfl<|.J rfl rfl<|.M rfl<|.J rfl rfl<|.M rfl<|.J rfl rfl<|.A rfl<|.nil rfl) ?_
         exact ⟨false,(sJ h25),wA1 rfl⟩
        refine cwR (.M rfl<|.B rfl (qh0 _ _) rfl<|.M rfl<|.c (o_mv rfl rfl (.yes rfl rfl hc0) rfl)<|.c (qn rfl rfl (.yes rfl rfl hc0) rfl rfl (qh0 _ _) rfl)<|.I rfl hc0<|.M rfl<|.c (o_mv rfl rfl (.yes rfl rfl hc1) rfl)<|.c (qn rfl rfl (.yes rfl rfl hc1) rfl rfl (qh0 _ _) rfl)<|.I rfl hc1<|.M rfl<|.c (o_mv rfl rfl (.yes rfl rfl hc2) rfl)<|.c (qn rfl rfl (.yes rfl rfl hc2) rfl rfl (s_eql _ _) rfl)<|.I rfl hc2<|.M rfl<|.c (o_mv rfl rfl (.yes rfl rfl hc3) rfl)<|.I rfl hc3<|.M rfl<|.c (o_mv rfl rfl (.yes rfl rfl hc4) rfl)<|.c (qn rfl rfl (.yes rfl rfl hc4) rfl rfl (qh0 _ _) rfl)<|.I rfl hc4<|.M rfl<|.c (o_mv rfl rfl (.yes rfl rfl hc5) rfl)<|.c (qb5 rfl rfl (.yes rfl rfl hc5) rfl)<|.I rfl hc5<|.M rfl<|.c (o_mv rfl rfl (.yes rfl rfl hc6) rfl)<|.c (qn rfl rfl (.yes rfl rfl hc6) rfl rfl (qh0 _ _) rfl)<|.I rfl hc6<|.M rfl<|.G rfl rfl hc7<|.G rfl rfl hc7<|.G rfl rfl hc7<|.J rfl hc7<|.M rfl<|.G rfl rfl rfl<|.G rfl rfl rfl<|.J rfl rfl<|.M rfl<|.G rfl rfl rfl<|.G rfl rfl rfl<|.G rfl rfl rfl<|.G rfl rfl rfl<|.J rfl rfl<|.M rfl<|.G rfl rfl rfl<|.G rfl rfl rfl<|.G rfl rfl rfl<|.G rfl rfl rfl<|.G rfl rfl rfl<|.J rfl rfl<|.M rfl<|.G rfl rfl rfl<|.G rfl rfl rfl<|.G rfl rfl rfl<|.G rfl rfl rfl<|.G rfl rfl rfl<|.J rfl rfl<|.M rfl<|.G rfl rfl rfl<|.G rfl rfl rfl<|.G rfl rfl rfl<|.J rfl rfl<|.M rfl<|.J rfl rfl<|.M rfl<|.J rfl rfl<|.A rfl<|.nil rfl) ?_
        exact ⟨false,(sJ h23),wA1 rfl⟩
       refine cwR (.M rfl<|.B rfl (qh0 _ _) rfl<|.M rfl<|.c (o_mv rfl rfl (.yes rfl rfl hc0) rfl)<|.c (qn rfl rfl (.yes rfl rfl hc0) rfl rfl (qh0 _ _) rfl)<|.I rfl hc0<|.M rfl<|.c (o_mv rfl rfl (.yes rfl rfl hc1) rfl)<|.c (qn rfl rfl (.yes rfl rfl hc1) rfl rfl (qh0 _ _) rfl)<|.I rfl hc1<|.M rfl<|.c (o_mv rfl rfl (.yes rfl rfl hc2) rfl)<|.c (qn rfl rfl (.yes rfl rfl hc2) rfl rfl (s_eql _ _) rfl)<|.I rfl hc2<|.M rfl<|.c (o_mv rfl rfl (.yes rfl rfl hc3) rfl)<|.I rfl hc3<|.M rfl<|.c (o_mv rfl rfl (.yes rfl rfl hc4) rfl)<|.c (qn rfl rfl (.yes rfl rfl hc4) rfl rfl (qh0 _ _) rfl)<|.I rfl hc4<|.M rfl<|.c (o_mv rfl rfl (.yes rfl rfl hc5) rfl)<|.c (qb5 rfl rfl (.yes rfl rfl hc5) rfl)<|.I rfl hc5<|.M rfl<|.G rfl rfl hc6<|.G rfl rfl hc6<|.J rfl hc6<|.M rfl<|.G rfl rfl rfl<|.G rfl rfl rfl<|.G rfl rfl rfl<|.J rfl rfl<|.M rfl<|.G rfl rfl rfl<|.G rfl rfl rfl<|.J rfl rfl<|.M rfl<|.G rfl rfl rfl<|.G rfl rfl rfl<|.G rfl rfl rfl<|.G rfl rfl rfl<|.J rfl rfl<|.M rfl<|.G rfl rfl rfl<|.G rfl rfl rfl<|.G rfl rfl rfl<|.G rfl rfl rfl<|.G rfl rfl rfl<|.J rfl rfl<|.M rfl<|.G rfl rfl rfl<|.G rfl rfl rfl<|.G rfl rfl rfl<|.G rfl rfl rfl<|.G rfl rfl rfl<|.J rfl rfl<|.M rfl<|.G rfl rfl rfl<|.G rfl rfl rfl<|.G rfl rfl rfl<|.J rfl rfl<|.M rfl<|.J rfl rfl<|.M rfl<|.J rfl rfl<|.A rfl<|.nil rfl) ?_
       exact ⟨false,(sJ h21),wA1 rfl⟩
      refine cwR (.M rfl<|.B rfl (qh0 _ _) rfl<|.M rfl<|.c (o_mv rfl rfl (.yes rfl rfl hc0) rfl)<|.c (qn rfl rfl (.yes rfl rfl hc0) rfl rfl (qh0 _ _) rfl)<|.I rfl hc0<|.M rfl<|.c (o_mv rfl rfl (.yes rfl rfl hc1) rfl)<|.c (qn rfl rfl (.yes rfl rfl hc1) rfl rfl (qh0 _ _) rfl)<|.I rfl hc1<|.M rfl<|.c (o_mv rfl rfl (.yes rfl rfl hc2) rfl)<|.c (qn rfl rfl (.yes rfl rfl hc2) rfl rfl (s_eql _ _) rfl)<|.I rfl hc2<|.M rfl<|.c (o_mv rfl rfl (.yes rfl rfl hc3) rfl)<|.I rfl hc3<|.M rfl<|.c (o_mv rfl rfl (.yes rfl rfl hc4) rfl)<|.c (qn rfl rfl (.yes rfl rfl hc4) rfl rfl (qh0 _ _) rfl)<|.I rfl hc4<|.M rfl<|.G rfl rfl hc5<|.G rfl rfl hc5<|.J rfl hc5<|.M rfl<|.G rfl rfl rfl<|.G rfl rfl rfl<|.J rfl rfl<|.M rfl<|.G rfl rfl rfl<|.G rfl rfl rfl<|.G rfl rfl rfl<|.J rfl rfl<|.M rfl<|.G rfl rfl rfl<|.G rfl rfl rfl<|.J rfl rfl<|.M rfl<|.G rfl rfl rfl<|.G rfl rfl rfl<|.G rfl rfl rfl<|.G rfl rfl rfl<|.J rfl rfl<|.M rfl<|.G rfl rfl rfl<|.G rfl rfl rfl<|.G rfl rfl rfl<|.G rfl rfl rfl<|.G rfl rfl rfl<|.J rfl rfl<|.M rfl<|.G rfl rfl rfl<|.G rfl rfl rfl<|.G rfl rfl rfl<|.G rfl rfl rfl<|.G rfl rfl rfl<|.J rfl rfl<|.M rfl<|.G rfl rfl rfl<|.G rfl rfl rfl<|.G rfl rfl rfl<|.J rfl rfl<|.M rfl<|.J rfl rfl<|.M rfl<|.J rfl rfl<|.A rfl<|.nil rfl) ?_
      exact ⟨false,(sJ h19),wA1 rfl⟩
     refine cwR (.M rfl<|.B rfl (qh0 _ _) rfl<|.M rfl<|.c (o_mv rfl rfl (.yes rfl rfl hc0) rfl)<|.c (qn rfl rfl (.yes rfl rfl hc0) rfl rfl (qh0 _ _) rfl)<|.I rfl hc0<|.M rfl<|.c (o_mv rfl rfl (.yes rfl rfl hc1) rfl)<|.c (qn rfl rfl (.yes rfl rfl hc1) rfl rfl (qh0 _ _) rfl)<|.I rfl hc1<|.M rfl<|.c (o_mv rfl rfl (.yes rfl rfl hc2) rfl)<|.c (qn rfl rfl (.yes rfl rfl hc2) rfl rfl (s_eql _ _) rfl)<|.I rfl hc2<|.M rfl<|.c (o_mv rfl rfl (.yes rfl rfl hc3) rfl)<|.I rfl hc3<|.M rfl<|.G rfl rfl hc4<|.G rfl rfl hc4<|.J rfl hc4<|.M rfl<|.G rfl rfl rfl<|.G rfl rfl rfl<|.J rfl rfl<|.M rfl<|.G rfl rfl rfl<|.G rfl rfl rfl<|.J rfl rfl<|.M rfl<|.G rfl rfl rfl<|.G rfl rfl rfl<|.G rfl rfl rfl<|.J rfl rfl<|.M rfl<|.G rfl rfl rfl<|.G rfl rfl rfl<|.J rfl rfl<|.M rfl<|.G rfl rfl rfl<|.G rfl rfl rfl<|.G rfl rfl rfl<|.G rfl rfl rfl<|.J rfl rfl<|.M rfl<|.G rfl rfl rfl<|.G rfl rfl rfl<|.G rfl rfl rfl<|.G rfl rfl rfl<|.G rfl rfl rfl<|.J rfl rfl<|.M rfl<|.G rfl rfl rfl<|.G rfl rfl rfl<|.G rfl rfl rfl<|.G rfl rfl rfl<|.G rfl rfl rfl<|.J rfl rfl<|.M rfl<|.G rfl rfl rfl<|.G rfl rfl rfl<|.G rfl rfl rfl<|.J rfl rfl<|.M rfl<|.J rfl rfl<|.M rfl<|.J rfl rfl<|.A rfl<|.nil rfl) ?_
     exact ⟨false,(sJ h17),wA1 rfl⟩
    refine cwR (.M rfl<|.B rfl (qh0 _ _) rfl<|.M rfl<|.c (o_mv rfl rfl (.yes rfl rfl hc0) rfl)<|.c (qn rfl rfl (.yes rfl rfl hc0) rfl rfl (qh0 _ _) rfl)<|.I rfl hc0<|.M rfl<|.c (o_mv rfl rfl (.yes rfl rfl hc1) rfl)<|.c (qn rfl rfl (.yes rfl rfl hc1) rfl rfl (qh0 _ _) rfl)<|.I rfl hc1<|.M rfl<|.c (o_mv rfl rfl (.yes rfl rfl hc2) rfl)<|.c (qn rfl rfl (.yes rfl rfl hc2) rfl rfl (s_eql _ _) rfl)<|.I rfl hc2<|.M rfl<|.G rfl rfl hc3<|.J rfl hc3<|.M rfl<|.G rfl rfl rfl<|.G rfl rfl rfl<|.J rfl rfl<|.M rfl<|.G rfl rfl rfl<|.G rfl rfl rfl<|.J rfl rfl<|.M rfl<|.G rfl rfl rfl<|.G rfl rfl rfl<|.J rfl rfl<|.M rfl<|.G rfl rfl rfl<|.G rfl rfl rfl<|.G rfl rfl rfl<|.J rfl rfl<|.M rfl<|.G rfl rfl rfl<|.G rfl rfl rfl<|.J rfl rfl<|.M rfl<|.G rfl rfl rfl<|.G rfl rfl rfl<|.G rfl rfl rfl<|.G rfl rfl rfl<|.J rfl rfl<|.M rfl<|.G rfl rfl rfl<|.G rfl rfl rfl<|.G rfl rfl rfl<|.G rfl rfl rfl<|.G rfl rfl rfl<|.J rfl rfl<|.M rfl<|.G rfl rfl rfl<|.G rfl rfl rfl<|.G rfl rfl rfl<|.G rfl rfl rfl<|.G rfl rfl rfl<|.J rfl rfl<|.M rfl<|.G rfl rfl rfl<|.G rfl rfl rfl<|.G rfl rfl rfl<|.J rfl rfl<|.M rfl<|.J rfl rfl<|.M rfl<|.J rfl rfl<|.A rfl<|.nil rfl) ?_
    exact ⟨false,(sJ h15),wA1 rfl⟩
   refine cwR (.M rfl<|.B rfl (qh0 _ _) rfl<|.M rfl<|.c (o_mv rfl rfl (.yes rfl rfl hc0) rfl)<|.c (qn rfl rfl (.yes rfl rfl hc0) rfl rfl (qh0 _ _) rfl)<|.I rfl hc0<|.M rfl<|.c (o_mv rfl rfl (.yes rfl rfl hc1) rfl)<|.c (qn rfl rfl (.yes rfl rfl hc1) rfl rfl (qh0 _ _) rfl)<|.I rfl hc1<|.M rfl<|.G rfl rfl hc2<|.G rfl rfl hc2<|.J rfl hc2<|.M rfl<|.G rfl rfl rfl<|.J rfl rfl<|.M rfl<|.G rfl rfl rfl<|.G rfl rfl rfl<|.J rfl rfl<|.M rfl<|.G rfl rfl rfl<|.G rfl rfl rfl<|.J rfl rfl<|.M rfl<|.G rfl rfl rfl<|.G rfl rfl rfl<|.J rfl rfl<|.M rfl<|.G rfl rfl rfl<|.G rfl rfl rfl<|.G rfl rfl rfl<|.J rfl rfl<|.M rfl<|.G rfl rfl rfl<|.G rfl rfl rfl<|.J rfl rfl<|.M rfl<|.G rfl rfl rfl<|.G rfl rfl rfl<|.G rfl rfl rfl<|.G rfl rfl rfl<|.J rfl rfl<|.M rfl<|.G rfl rfl rfl<|.G rfl rfl rfl<|.G rfl rfl rfl<|.G rfl rfl rfl<|.G rfl rfl rfl<|.J rfl rfl<|.M rfl<|.G rfl rfl rfl<|.G rfl rfl rfl<|.G rfl rfl rfl<|.G rfl rfl rfl<|.G rfl rfl rfl<|.J rfl rfl<|.M rfl<|.G rfl rfl rfl<|.G rfl rfl rfl<|.G rfl rfl rfl<|.J rfl rfl<|.M rfl<|.J rfl rfl<|.M rfl<|.J rfl rfl<|.A rfl<|.nil rfl) ?_
   exact ⟨false,(sJ h13),wA1 rfl⟩
  refine cwR (.M rfl<|.B rfl (qh0 _ _) rfl<|.M rfl<|.c (o_mv rfl rfl (.yes rfl rfl hc0) rfl)<|.c (qn rfl rfl (.yes rfl rfl hc0) rfl rfl (qh0 _ _) rfl)<|.I rfl hc0<|.M rfl<|.G rfl rfl hc1<|.G rfl rfl hc1<|.J rfl hc1<|.M rfl<|.G rfl rfl rfl<|.G rfl rfl rfl<|.J rfl rfl<|.M rfl<|.G rfl rfl rfl<|.J rfl rfl<|.M rfl<|.G rfl rfl rfl<|.G rfl rfl rfl<|.J rfl rfl<|.M rfl<|.G rfl rfl rfl<|.G rfl rfl rfl<|.J rfl rfl<|.M rfl<|.G rfl rfl rfl<|.G rfl rfl rfl<|.J rfl rfl<|.M rfl<|.G rfl rfl rfl<|.G rfl rfl rfl<|.G rfl rfl rfl<|.J rfl rfl<|.M rfl<|.G rfl rfl rfl<|.G rfl rfl rfl<|.J rfl rfl<|.M rfl<|.G rfl rfl rfl<|.G rfl rfl rfl<|.G rfl rfl rfl<|.G rfl rfl rfl<|.J rfl rfl<|.M rfl<|.G rfl rfl rfl<|.G rfl rfl rfl<|.G rfl rfl rfl<|.G rfl rfl rfl<|.G rfl rfl rfl<|.J rfl rfl<|.M rfl<|.G rfl rfl rfl<|.G rfl rfl rfl<|.G rfl rfl rfl<|.G rfl rfl rfl<|.G rfl rfl rfl<|.J rfl rfl<|.M rfl<|.G rfl rfl rfl<|.G rfl rfl rfl<|.G rfl rfl rfl<|.J rfl rfl<|.M rfl<|.J rfl rfl<|.M rfl<|.J rfl rfl<|.A rfl<|.nil rfl) ?_
  exact ⟨false,(sJ h11),wA1 rfl⟩
 refine cwR (.M rfl<|.B rfl (qh0 _ _) rfl<|.M rfl<|.G rfl rfl hc0<|.G rfl rfl hc0<|.J rfl hc0<|.M rfl<|.G rfl rfl rfl<|.G rfl rfl rfl<|.J rfl rfl<|.M rfl<|.G rfl rfl rfl<|.G rfl rfl rfl<|.J rfl rfl<|.M rfl<|.G rfl rfl rfl<|.J rfl rfl<|.M rfl<|.G rfl rfl rfl<|.G rfl rfl rfl<|.J rfl rfl<|.M rfl<|.G rfl rfl rfl<|.G rfl rfl rfl<|.J rfl rfl<|.M rfl<|.G rfl rfl rfl<|.G rfl rfl rfl<|.J rfl rfl<|.M rfl<|.G rfl rfl rfl<|.G rfl rfl rfl<|.G rfl rfl rfl<|.J rfl rfl<|.M rfl<|.G rfl rfl rfl<|.G rfl rfl rfl<|.J rfl rfl<|.M rfl<|.G rfl rfl rfl<|.G rfl rfl rfl<|.G rfl rfl rfl<|.G rfl rfl rfl<|.J rfl rfl<|.M rfl<|.G rfl rfl rfl<|.G rfl rfl rfl<|.G rfl rfl rfl<|.G rfl rfl rfl<|.G rfl rfl rfl<|.J rfl rfl<|.M rfl<|.G rfl rfl rfl<|.G rfl rfl rfl<|.G rfl rfl rfl<|.G rfl rfl rfl<|.G rfl rfl rfl<|.J rfl rfl<|.M rfl<|.G rfl rfl rfl<|.G rfl rfl rfl<|.G rfl rfl rfl<|.J rfl rfl<|.M rfl<|.J rfl rfl<|.M rfl<|.J rfl rfl<|.A rfl<|.nil rfl) ?_
 exact ⟨false,(sJ h9),wA1 rfl⟩
end
end Go.Val
