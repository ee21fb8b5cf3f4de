/- Walks of the program's functions,printed. -/
import Derived.Test.YtfbnhflapgddbaaWc
set_option linter.all false
set_option maxRecDepth 100000
namespace Go.Val
open Go.RowKit Go.Proofs
section
variable [NoDrw]
noncomputable def q32 (self : ttM → ttN → (B8 × Bool) → Option (Int × ttM)) (a0 : ttM) (a1 : ttN) (a2 : (B8 × Bool)) : Option (Int × ttM) := (ql2 a1).bind fun x0 => cond (!x0) (some (12,a0)) ((((cond (decide (a1.1 = 0)) ((gx a1.2.1 (IntKind.wrap .i64 ((a1.2.1.length : Int) - 1))).bind fun x1 => some x1.1) (
    (gx a1.2.2 (IntKind.wrap .i64 ((a1.2.2.length : Int) - 1))).bind fun x2 => some x2.1)) : Option B8)).bind fun o0 => (((cond a2.2 ((qD o0 a2.1).bind fun x3 => some (decide (x3 ≥ 0))) (some false)) : Option Bool)).bind fun o1 => cond o1 (some (12,a0)) ((((qN (V := (Int × ttM)) (O := (ttM ⊕ (Int × ttM))) (fun v0 => cond (decide (v0.1 < (a1.2.2.length : Int))) (
      (gx a1.2.2 v0.1).bind fun x4 => (qx v0.2 x4.2).bind fun x5 => cond (decide (x5.2.1 ≠ 0)) ((q83 x5.2.1).bind fun x6 => some (.inr (.inr (x6,x5.2.2)))) ((((cond (decide ((IntKind.wrap .i64 (v0.1 + 1)) < (a1.2.2.length : Int))) ((gx a1.2.2 (IntKind.wrap .i64 (v0.1 + 1))).bind fun x7 => some (x7.1,true)) (some a2)) : Option (B8 × Bool))).bind fun o2 => (((
        cond (decide (x5.1.1 ≠ (IntKind.wrap .i64 (a1.1 - 1)))) (some true) ((qL2 x5.1).bind fun x8 => cond (!(decide (x8 = x4.1))) (some true) ((qJ5 x5.1).bind fun x9 => some x9))) : Option Bool)).bind fun o3 => cond o3 (some (.inr (.inr (12,x5.2.2)))) ((self x5.2.2 x5.1 o2).bind fun x10 => cond (decide (x10.1 ≠ 0)) (some (.inr (.inr (x10.1,x10.2)))) (
         some (.inl ((IntKind.wrap .i64 (v0.1 + 1)),x10.2)))))) (some (.inr (.inl v0.2)))) (0,a0)) : Option (ttM ⊕ (Int × ttM)))).bind fun o4 => Sum.elim (fun (v1 : ttM) => some (0,v1)) (fun w0 => some w0) o4))
noncomputable def qV1 : Nat → ttM → ttN → (B8 × Bool) → Option (Int × ttM) | 0 => fun _ _ _ => none | n + 1 => q32 (qV1 n)
noncomputable def q84 (a0 : ttM) (a1 : ttN) (a2 : (B8 × Bool)) : Option (Int × ttM) := qV1 16 a0 a1 a2
noncomputable def qA2 (a0 : ttM) (a1 : Int) : Option (Int × ttM) := cond (decide (a1 = 0)) (some (0,a0)) ((qx a0 a1).bind fun x0 => cond (decide (x0.2.1 ≠ 0)) ((q83 x0.2.1).bind fun x1 => some (x1,x0.2.2)) ((q84 x0.2.2 x0.1 ((List.replicate 24 0),false)).bind fun x2 => some (x2.1,x2.2)))
noncomputable def qG3 (a0 : List UInt8) (a1 : List UInt8) : Option Bool := (((qN (V := Int) (O := (Unit ⊕ Bool)) (fun v0 => cond (decide (v0 < 24)) ((ck (decide (0 ≤ v0 ∧ v0 < 24))).bind fun _ => (gx a0 v0).bind fun x0 => (gx a1 v0).bind fun x1 => cond (decide ((x0.toNat : Int) ≠ (x1.toNat : Int))) (some (.inr (.inr (decide ((x0.toNat : Int) < (x1.toNat : Int)))))) (
     some (.inl (IntKind.wrap .i64 (v0 + 1))))) (some (.inr (.inl ())))) 0) : Option (Unit ⊕ Bool))).bind fun o0 => Sum.elim (fun (v1 : Unit) => some false) (fun w0 => some w0) o0
noncomputable def qK2 (a0 : List ttC) (a1 : Int) (a2 : Int) : Option (List ttC) := (((qN (V := (Int × (List ttC))) (O := (List ttC)) (fun v0 => (((cond (decide (v0.1 < (a0.length : Int))) (some (decide (v0.1 < a1))) (some false)) : Option Bool)).bind fun o0 => cond o0 ((gx a0 v0.1).bind fun x0 => (cutB 0 (min (x0.2.1.size : Int) a2) x0.2.1.size).bind fun _ =>
    (fits (v0.2.length + ([(x0.1,(x0.2.1.extract 0 (min (x0.2.1.size : Int) a2).toNat),x0.2.2)]).length) 48).bind fun _ => some (.inl ((IntKind.wrap .i64 (v0.1 + 1)),(v0.2 ++ [(x0.1,(x0.2.1.extract 0 (min (x0.2.1.size : Int) a2).toNat),x0.2.2)])))) (some (.inr v0.2))) (0,([] : List ttC))) : Option (List ttC))).bind fun o1 => some o1
noncomputable def qg2 : Option ttS := some ((List.replicate 24 0),(List.replicate 24 0),true)
noncomputable def qQ2 (a0 : List ttR) (a1 : List ttR) : Option Bool := cond (decide ((a0.length : Int) ≠ (a1.length : Int))) (some false) ((((qN (V := Int) (O := (Unit ⊕ Bool)) (fun v0 => cond (decide (v0 < (a0.length : Int))) ((gx a0 v0).bind fun x0 => (gx a1 v0).bind fun x1 => cond (!((decide (x0.1 = x1.1)) && ((decide (x0.2 = x1.2)) && true))) (some (.inr (.inr false))) (
      some (.inl (IntKind.wrap .i64 (v0 + 1))))) (some (.inr (.inl ())))) 0) : Option (Unit ⊕ Bool))).bind fun o0 => Sum.elim (fun (v1 : Unit) => some true) (fun w0 => some w0) o0)
noncomputable def qx2 (a0 : Int) (c0 : ttN) (c1 : List UInt8) : Option Bool := (gx c0.2.2 a0).bind fun x0 => (qD x0.1 c1).bind fun x1 => some (decide (x1 > 0))
noncomputable def qn2 (a0 : Int) (c0 : ttN) (c1 : List UInt8) : Option Int := (((qN (V := (Int × Int)) (O := Int) (fun v0 => cond (decide (v0.1 < v0.2)) ((qx2 (IntKind.wrap .i64 (Int.fdiv (IntKind.wrap .u64 (IntKind.wrap .i64 (v0.1 + v0.2))) (2 ^ 1))) c0 c1).bind fun x0 => cond (!x0) (
     some (.inl ((IntKind.wrap .i64 ((IntKind.wrap .i64 (Int.fdiv (IntKind.wrap .u64 (IntKind.wrap .i64 (v0.1 + v0.2))) (2 ^ 1))) + 1)),v0.2))) (some (.inl (v0.1,(IntKind.wrap .i64 (Int.fdiv (IntKind.wrap .u64 (IntKind.wrap .i64 (v0.1 + v0.2))) (2 ^ 1))))))) (some (.inr v0.1))) (0,a0)) : Option Int)).bind fun o0 => some o0
noncomputable def ql3 (a0 : ttN) (a1 : List UInt8) : Option Int := (qn2 (a0.2.2.length : Int) a0 a1).bind fun x0 => some (max (IntKind.wrap .i64 (x0 - 1)) 0)
noncomputable def qj2 (a0 : ttM) (a1 : Int) (a2 : List UInt8) : Option (ByteArray × Bool × Int × ttM) := (((qN (V := (Int × ttM)) (O := (ttM ⊕ (ByteArray × Bool × Int × ttM))) (fun v0 => cond (decide (v0.1 ≠ 0)) ((qx v0.2 v0.1).bind fun x0 => cond (decide (x0.2.1 ≠ 0)) (some (.inr (.inr ((ByteArray.mk #[]),false,x0.2.1,x0.2.2)))) (
     cond (decide ((x0.1.2.2.length : Int) > 0)) ((ql3 x0.1 a2).bind fun x1 => (gx x0.1.2.2 x1).bind fun x2 => some (.inl (x2.2,x0.2.2))) ((((qN (V := Int) (O := (Unit ⊕ (ByteArray × Bool × Int × ttM))) (fun v1 => cond (decide (v1 < (x0.1.2.1.length : Int))) ((gx x0.1.2.1 v1).bind fun x3 => cond (decide (x3.1 = a2)) (some (.inr (.inr (x3.2,true,0,x0.2.2)))) (
          some (.inl (IntKind.wrap .i64 (v1 + 1))))) (some (.inr (.inl ())))) 0) : Option (Unit ⊕ (ByteArray × Bool × Int × ttM)))).bind fun o0 => Sum.elim (fun (v2 : Unit) => some (.inl (0,x0.2.2))) (fun w0 => some (.inr (.inr w0))) o0))) (some (.inr (.inl v0.2)))) (a1,a0)) : Option (ttM ⊕ (ByteArray × Bool × Int × ttM)))).bind fun o1 => Sum.elim (fun (v3 : ttM) =>
  some ((ByteArray.mk #[]),false,0,v3)) (fun w1 => some w1) o1
noncomputable def q92 (a0 : ttM) (a1 : Int) : Option (Int × ttM) := cond (decide (a1 = 0)) (some (0,a0)) ((q30 a0 a1).bind fun x0 => some (x0.1,x0.2))
theorem q25 {self : ttM → ttN → (B8 × Bool) → Option (Int × ttM)} (self_ok : ∀ {a0 : ttM} {a1 : ttN} {a2 : (B8 × Bool)} {r : (Int × ttM)},self a0 a1 a2 = some r → FnOk Try.prog 45 [.ifc 24 (.ptr 0 0),.d (qw a1),.d (qC1 a2)] 1 (lk [(0,.own (qe a0))]) (fun rr oo => rr = .d (eErr r.1) ∧ oo = lk [(0,.own (qe r.2))])) {a0 : ttM} {a1 : ttN} {a2 : (B8 × Bool)} {r : (Int × ttM)} (h : q32 self a0 a1 a2 = some r) : FnOk Try.prog 45 [.ifc 24 (.ptr 0 0),.d (qw a1),.d (qC1 a2)] 1 (lk [(0,.own (qe a0))]) (fun rr oo => rr = .d (eErr r.1) ∧ oo = lk [(0,.own (qe r.2))]) := by
 refine fnO Try.func45 rfl rfl (cwP ?_)
 unfold q32 at h
 refine cSR (.X 1 rfl<|.X 2 rfl<|.A rfl<|.nil rfl) ?_
 refine cwS ?_
 have ⟨x0,hx0,h0⟩ := bdS h
 refine cSR (.L [] rfl ta46 rfl<|.c (qc0 rfl rfl .no Try.func66 rfl rfl (node_Right_ok hx0) (.cons rfl .d .nil) ⟨tV,tV⟩ (.inl rfl))<|.T rfl<|.nil rfl) ?_
 refine cwC h0 rfl ?_ ?_
 ·intro hc0 h1
  refine cSR (.A rfl<|.nil rfl) ?_
  obtain rfl := zQ h1
  exact rt1 rfl rfl rfl
 intro hc0 h2
 refine cwK (cSR (.c (o_bldB (l := (List.replicate 24 0)) (r := (List.replicate 24 0)) rfl rfl .no ze31 ar31 sz5 .nil)<|.c (qb0 3 rfl rfl .no ze31 rfl)<|.S [] rfl sz31 rfl<|.nil rfl) ?_)
 have ⟨o0,hj0,h3⟩ := bdS h2
 refine cwJ (fun (z : B8) => St.of [(0,.ifc 24 (.ptr 0 0)),(4,.ptr 1 0),(5,.ptr 2 0),(7,.ptr 3 0)] [(0,.own (qe a0)),(1,.box (.d (qw a1))),(2,.box (.d (qC1 a2))),(3,.box (.d (eK z)))]) (fun z => o0 = z) ?_ ?_
 ·intro v0 hv0; subst hv0
  refine cwS ?_
  have ⟨o1,hj1,h4⟩ := bdS h3
  refine cwJ (fun (z : Bool) => St.of [(0,.ifc 24 (.ptr 0 0)),(4,.ptr 1 0),(5,.ptr 2 0),(47,.d (qW z))] [(0,.own (qe a0)),(1,.box (.d (qw a1))),(2,.box (.d (qC1 a2)))]) (fun z => o1 = z) ?_ ?_
  ·intro v1 hv1; subst hv1
   refine cwC h4 rfl ?_ ?_
   ·intro hc1 h5
    refine cSR (.A rfl<|.nil rfl) ?_
    obtain rfl := zQ h5
    exact rt1 rfl rfl rfl
   intro hc1 h6
   refine cwK ?_
   have ⟨o2,hj2,h7⟩ := bdS h6
   refine cwJ (fun (z : ttM) => St.of [] [(0,.own (qe z))]) (fun z => o2 = (.inl z)) ?_ ?_
   ·intro v2 hv2; subst hv2
    simp only [zN] at h7
    refine cSR (.A rfl<|.nil rfl) ?_
    obtain rfl := zQ h7
    exact rt1 rfl rfl rfl
   refine cSR (.F rfl q31 rfl<|.L [2] rfl ta44 rfl<|.c (qU (enc := q50) (xs := a1.2.2) rfl rfl .no rfl sl44)<|.M rfl<|.nil rfl) ?_
   refine cwB (qK (fun (z : (Int × ttM)) => St.of [(0,.ifc 24 (.ptr 0 0)),(4,.ptr 1 0),(5,.ptr 2 0),(49,.d (qH0 a1.2.2)),(50,.d (eint (a1.2.2.length : Int))),(51,.d (eint z.1))] [(0,.own (qe z.2)),(1,.box (.d (qw a1))),(2,.box (.d (qC1 a2)))]) hj2 (wA1 rfl) ?_)
   intro v3 x1 hb0 hx1
   refine cSR (.B rfl (qO0 _ _) rfl<|.nil rfl) ?_
   refine cwS (cwC hb0 rfl ?_ ?_)
   ·intro hc2 h8
    refine cwK ?_
    refine cwS (cwB ?_)
    have ⟨x2,hx2,h10⟩ := bdS h8
    have hx2g := qB hx2
    refine cSR (.M rfl<|.c (qs1 (enc := q50) (xs := a1.2.2) rfl rfl .no rfl rfl sl44 sz69 hx2g.1 hx2g.2)<|.c (o_ld rfl rfl .no rfl ta69 rfl rfl)<|.c (qb0 4 rfl rfl .no ze69 rfl)<|.A rfl<|.S [] rfl sz69 rfl<|.nil rfl) ?_
    have ⟨x3,hx3,h11⟩ := bdS h10
    refine cSR (.M rfl<|.F rfl qw3 rfl<|.L [1] rfl ta3 rfl<|.c (qc6 (fun n => bif Nat.beq n 0 then 0 else 5) rfl rfl .no rfl Try.func23 rfl rfl rfl q05 (qk0 hx3) (.cons rfl (.p rfl) (.cons rfl .d .nil)) (by decide) (ql1 [1] rfl ⟨(by simp [AV.live,AV.lives,lk,Nat.beq]),tV,tV⟩ ⟨⟨rfl,(OD.dat_live (qc _))⟩,tV⟩ rfl rfl rfl ⟨rfl,tV⟩ rfl) (.inl rfl))<|.M rfl<|.E rfl<|.E rfl<|.c (qb0 6 rfl rfl .no ze46 rfl)<|.S [] rfl sz46 rfl<|.A rfl<|.nil rfl) ?_
    refine cwS (cSR (.M rfl<|.B rfl (qT2 _ _) rfl<|.nil rfl) ?_)
    refine cwC h11 rfl ?_ ?_
    ·intro hc3 h12
     have ⟨x4,hx4,h14⟩ := bdS h12
     refine cSR (.M rfl<|.c (qc0 rfl rfl .no Try.func44 rfl rfl (qr5 hx4) (.cons rfl .d .nil) ⟨tV,tV⟩ (.inl rfl))<|.A rfl<|.nil rfl) ?_
     have he0 := ((hx1 _ (sJ h14)).symm).symm
     subst he0
     obtain rfl := zQ h7
     exact rt1 rfl rfl rfl
    intro hc3 h13
    refine cwK (cSR (.L [] rfl ta115 rfl<|.c (qb0 7 rfl rfl .no ze115 rfl)<|.S [] rfl sz115 rfl<|.nil rfl) ?_)
    have ⟨o3,hj3,h15⟩ := bdS h13
    refine cwJ (fun (z : (B8 × Bool)) => St.of [(0,.ifc 24 (.ptr 0 0)),(4,.ptr 1 0),(5,.ptr 2 0),(9,.ptr 4 0),(10,.ptr 6 0),(12,.ptr 7 0),(49,.d (qH0 a1.2.2)),(50,.d (eint (a1.2.2.length : Int))),(51,.d (eint v3.1))] [(0,.own (qe x3.2.2)),(1,.box (.d (qw a1))),(2,.box (.d (qC1 a2))),(4,.box (.d (q50 x2))),(6,.box (.d (qw x3.1))),(7,.box (.d (qC1 z)))]) (fun z => o3 = z) ?_ ?_
    ·intro v4 hv3; subst hv3
     refine cwS ?_
     have ⟨o4,hj4,h16⟩ := bdS h15
     refine cwJ (fun (z : Bool) => St.of [(0,.ifc 24 (.ptr 0 0)),(4,.ptr 1 0),(5,.ptr 2 0),(10,.ptr 6 0),(12,.ptr 7 0),(49,.d (qH0 a1.2.2)),(50,.d (eint (a1.2.2.length : Int))),(51,.d (eint v3.1)),(98,.d (qW z))] [(0,.own (qe x3.2.2)),(1,.box (.d (qw a1))),(2,.box (.d (qC1 a2))),(6,.box (.d (qw x3.1))),(7,.box (.d (qC1 o3)))]) (fun z => o4 = z) ?_ ?_
     ·intro v5 hv4; subst hv4
      refine cwC h16 rfl ?_ ?_
      ·intro hc4 h17
       refine cSR (.A rfl<|.nil rfl) ?_
       have he1 := ((hx1 _ (sJ h17)).symm).symm
       subst he1
       obtain rfl := zQ h7
       exact rt1 rfl rfl rfl
      intro hc4 h18
      refine cwK ?_
      have ⟨x5,hx5,h19⟩ := bdS h18
      refine cSR (.M rfl<|.L [] rfl ta46 rfl<|.L [] rfl ta115 rfl<|.c (qG (fun _ => 0) rfl rfl .no Try.func45 rfl rfl (self_ok hx5) (.cons rfl (.ip rfl) (.cons rfl .d (.cons rfl .d .nil))) (q20 rfl ⟨(by simp [AV.live,lk,Nat.beq]),tV,tV,tV⟩ rfl (OD.dat_live (qc _)) (by simp)) (.inl rfl))<|.A rfl<|.nil rfl) ?_
      refine cSR (.M rfl<|.B rfl (qT2 _ _) rfl<|.nil rfl) ?_
      refine cwC h19 rfl ?_ ?_
      ·intro hc5 h20
       refine cSR (.M rfl<|.A rfl<|.nil rfl) ?_
       have he2 := ((hx1 _ (sJ h20)).symm).symm
       subst he2
       obtain rfl := zQ h7
       exact rt1 rfl rfl rfl
      intro hc5 h21
      refine cwK (cwR (.B rfl (qR0 _ _) rfl<|.M rfl<|.nil rfl) ?_)
      exact ⟨((IntKind.wrap .i64 (v3.1 + 1)),x5.2),(sJ h21),wA1 rfl⟩
     rcases cdS hj4 with ⟨hc6,h22⟩ | ⟨hc6,h23⟩
     ·skip
      refine cwRA mixed (by kernel_rfl) (.F rfl qG1 rfl<|.L [0] rfl ta3 rfl<|.F rfl qG1 rfl<|.L [0] rfl ta3 rfl<|.B rfl (qS3 _ _) rfl<|.B rfl (qT2 _ _) rfl<|.M rfl<|.G rfl rfl hc6<|.G rfl rfl hc6<|.G rfl rfl hc6<|.G rfl rfl hc6<|.G rfl rfl hc6<|.I rfl hc6<|.M rfl<|.G rfl rfl rfl<|.G rfl rfl rfl<|.I rfl rfl<|.nil rfl) (by kernel_rfl) ?_
      exact ⟨true,(sJ h22),wA1 rfl⟩
     have ⟨x6,hx6,h24⟩ := bdS h23
     rcases cdS h24 with ⟨hc7,h25⟩ | ⟨hc7,h26⟩
     ·skip
      refine cwRA mixed (by kernel_rfl) (.F rfl qG1 rfl<|.L [0] rfl ta3 rfl<|.F rfl qG1 rfl<|.L [0] rfl ta3 rfl<|.B rfl (qS3 _ _) rfl<|.B rfl (qT2 _ _) rfl<|.M rfl<|.c (qC [] rfl rfl (.yes rfl rfl hc6) rfl rfl rfl ta46 rfl rfl)<|.c (qc0 rfl rfl (.yes rfl rfl hc6) Try.func67 rfl rfl (node_First_ok hx6) (.cons rfl .d .nil) ⟨tV,tV⟩ (.inl rfl))<|.c (qu rfl rfl (.yes rfl rfl hc6) rfl qE4 (by decide))<|.c (qC [0] rfl rfl (.yes rfl rfl hc6) rfl rfl rfl ta31 rfl rfl)<|.c (o_ne rfl rfl (.yes rfl rfl hc6) rfl rfl rfl rfl eg31 (.bs ar31 un5 sz5))<|.J rfl hc6<|.M rfl<|.G rfl rfl hc7<|.G rfl rfl hc7<|.I rfl hc7<|.nil rfl) (by kernel_rfl) ?_
      exact ⟨true,(sJ h25),wA1 rfl⟩
     have ⟨x7,hx7,h27⟩ := bdS h26
     refine cwRA mixed (by kernel_rfl) (.F rfl qG1 rfl<|.L [0] rfl ta3 rfl<|.F rfl qG1 rfl<|.L [0] rfl ta3 rfl<|.B rfl (qS3 _ _) rfl<|.B rfl (qT2 _ _) rfl<|.M rfl<|.c (qC [] rfl rfl (.yes rfl rfl hc6) rfl rfl rfl ta46 rfl rfl)<|.c (qc0 rfl rfl (.yes rfl rfl hc6) Try.func67 rfl rfl (node_First_ok hx6) (.cons rfl .d .nil) ⟨tV,tV⟩ (.inl rfl))<|.c (qu rfl rfl (.yes rfl rfl hc6) rfl qE4 (by decide))<|.c (qC [0] rfl rfl (.yes rfl rfl hc6) rfl rfl rfl ta31 rfl rfl)<|.c (o_ne rfl rfl (.yes rfl rfl hc6) rfl rfl rfl rfl eg31 (.bs ar31 un5 sz5))<|.J rfl hc6<|.M rfl<|.c (qC [] rfl rfl (.yes rfl rfl hc7) rfl rfl rfl ta46 rfl rfl)<|.c (qc0 rfl rfl (.yes rfl rfl hc7) Try.func68 rfl rfl (tree_few_ok hx7) (.cons rfl .d .nil) ⟨tV,tV⟩ (.inl rfl))<|.J rfl hc7<|.nil rfl) (by kernel_rfl) ?_
     exact ⟨x7,(sJ h27),wA1 rfl⟩
    refine cSR (.M rfl<|.B rfl (qR0 _ _) rfl<|.F rfl q31 rfl<|.L [2] rfl ta44 rfl<|.c (qU (enc := q50) (xs := a1.2.2) rfl rfl .no rfl sl44)<|.B rfl (qO0 _ _) rfl<|.nil rfl) ?_
    refine cwC hj3 rfl ?_ ?_
    ·intro hc8 h28
     have ⟨x8,hx8,h30⟩ := bdS h28
     have hx8g := qB hx8
     refine cwR (.F rfl q31 rfl<|.L [2] rfl ta44 rfl<|.M rfl<|.B rfl (qR0 _ _) rfl<|.c (qs1 (enc := q50) (xs := a1.2.2) rfl rfl .no rfl rfl sl44 sz69 hx8g.1 hx8g.2)<|.c (qO1 rfl rfl .no rfl qE4 (by decide) rfl rfl)<|.c (o_ld rfl rfl .no rfl ta31 rfl rfl)<|.c (qa6 (ds := [eK x8.1,qW true]) rfl rfl .no zs115 rfl pl115 (.cons rfl rfl rfl rfl rfl rfl rfl (.cons rfl rfl rfl rfl rfl rfl rfl .nil)))<|.S [] rfl sz115 rfl<|.nil rfl) ?_
     exact ⟨(x8.1,true),(sJ h30),wA1 rfl⟩
    intro hc8 h29
    refine cwK ?_
    exact ⟨a2,(sJ h29),wA1 rfl⟩
   intro hc2 h9
   refine qR ?_
   exact ⟨v3.2,(hx1 _ (sJ h9)).symm,wA1 rfl⟩
  rcases cdS hj1 with ⟨hc9,h31⟩ | ⟨hc9,h32⟩
  ·skip
   have ⟨x9,hx9,h33⟩ := bdS h31
   refine cwR (.F rfl fld115_1 rfl<|.L [1] rfl ta4 rfl<|.M rfl<|.c (qC [] rfl rfl (.yes rfl rfl hc9) rfl rfl rfl ta31 rfl rfl)<|.c (qu rfl rfl (.yes rfl rfl hc9) rfl fld115_0 (by decide))<|.c (qC [0] rfl rfl (.yes rfl rfl hc9) rfl rfl rfl ta31 rfl rfl)<|.c (qc0 rfl rfl (.yes rfl rfl hc9) Try.func43 rfl rfl (qp0 hx9) (.cons rfl .d (.cons rfl .d .nil)) ⟨tV,tV,tV⟩ (.inl rfl))<|.c (qn rfl rfl (.yes rfl rfl hc9) rfl rfl (qf6 _ _) rfl)<|.I rfl hc9<|.nil rfl) ?_
   exact ⟨(decide (x9 ≥ 0)),(sJ h33),wA1 rfl⟩
  refine cwR (.F rfl fld115_1 rfl<|.L [1] rfl ta4 rfl<|.M rfl<|.G rfl rfl hc9<|.G rfl rfl hc9<|.G rfl rfl hc9<|.G rfl rfl hc9<|.G rfl rfl hc9<|.J rfl hc9<|.nil rfl) ?_
  exact ⟨false,(sJ h32),wA1 rfl⟩
 refine cSR (.F rfl qG1 rfl<|.L [0] rfl ta3 rfl<|.B rfl (qh0 _ _) rfl<|.nil rfl) ?_
 refine cwC hj0 rfl ?_ ?_
 ·intro hc10 h34
  have ⟨x10,hx10,h36⟩ := bdS h34
  have hx10g := qB hx10
  refine cwR (.F rfl qy3 rfl<|.L [1] rfl ta34 rfl<|.F rfl qy3 rfl<|.L [1] rfl ta34 rfl<|.c (qU (enc := ePr) (xs := a1.2.1) rfl rfl .no rfl sl34)<|.B rfl (qS3 _ _) rfl<|.c (qs1 (enc := ePr) (xs := a1.2.1) rfl rfl .no rfl rfl sl34 sz52 hx10g.1 hx10g.2)<|.c (qO1 rfl rfl .no rfl qr3 (by decide) rfl rfl)<|.c (o_ld rfl rfl .no rfl ta31 rfl rfl)<|.S [] rfl sz31 rfl<|.nil rfl) ?_
  exact ⟨x10.1,(sJ h36),wA1 rfl⟩
 intro hc10 h35
 have ⟨x11,hx11,h37⟩ := bdS h35
 have hx11g := qB hx11
 refine cwR (.F rfl q31 rfl<|.L [2] rfl ta44 rfl<|.F rfl q31 rfl<|.L [2] rfl ta44 rfl<|.c (qU (enc := q50) (xs := a1.2.2) rfl rfl .no rfl sl44)<|.B rfl (qS3 _ _) rfl<|.c (qs1 (enc := q50) (xs := a1.2.2) rfl rfl .no rfl rfl sl44 sz69 hx11g.1 hx11g.2)<|.c (qO1 rfl rfl .no rfl qE4 (by decide) rfl rfl)<|.c (o_ld rfl rfl .no rfl ta31 rfl rfl)<|.S [] rfl sz31 rfl<|.nil rfl) ?_
 exact ⟨x11.1,(sJ h37),wA1 rfl⟩
theorem q94 : ∀ (n : Nat) {a0 : ttM} {a1 : ttN} {a2 : (B8 × Bool)} {r : (Int × ttM)},qV1 n a0 a1 a2 = some r → FnOk Try.prog 45 [.ifc 24 (.ptr 0 0),.d (qw a1),.d (qC1 a2)] 1 (lk [(0,.own (qe a0))]) (fun rr oo => rr = .d (eErr r.1) ∧ oo = lk [(0,.own (qe r.2))])
 | 0,_,_,_,_,h => nomatch h
 | n + 1,_,_,_,_,h => q25 (self := qV1 n) (fun h => q94 n h) h
theorem tree_check_o_ok {a0} {a1} {a2} {r} (h : q84 a0 a1 a2 = some r) : FnOk Try.prog 45 [.ifc 24 (.ptr 0 0),.d (qw a1),.d (qC1 a2)] 1 (lk [(0,.own (qe a0))]) (fun rr oo => rr = .d (eErr r.1) ∧ oo = lk [(0,.own (qe r.2))]) := q94 16 h
theorem qI2 {a0} {a1} {r} (h : qA2 a0 a1 = some r) : FnOk Try.prog 22 [.ifc 24 (.ptr 0 0),.d (eint a1)] 1 (lk [(0,.own (qe a0))]) (fun rr oo => rr = .d (eErr r.1) ∧ oo = lk [(0,.own (qe r.2))]) := by
 refine fnO Try.func22 rfl rfl (cwP ?_)
 unfold qA2 at h
 refine cSR (.A rfl<|.nil rfl) ?_
 refine cwS (cSR (.M rfl<|.B rfl (qh0 _ _) rfl<|.nil rfl) ?_)
 refine cwC h rfl ?_ ?_
 ·intro hc0 h0
  refine cSR (.A rfl<|.nil rfl) ?_
  obtain rfl := zQ h0
  exact rt1 rfl rfl rfl
 intro hc0 h1
 refine cwK ?_
 have ⟨x0,hx0,h2⟩ := bdS h1
 refine cSR (.M rfl<|.M rfl<|.c (qc6 (fun n => bif Nat.beq n 0 then 0 else 1) rfl rfl .no rfl Try.func23 rfl rfl rfl q05 (qk0 hx0) (.cons rfl (.p rfl) (.cons rfl .d .nil)) (by decide) (ql1 [1] rfl ⟨(by simp [AV.live,AV.lives,lk,Nat.beq]),tV,tV⟩ ⟨⟨rfl,(OD.dat_live (qc _))⟩,tV⟩ rfl rfl rfl ⟨rfl,tV⟩ rfl) (.inl rfl))<|.M rfl<|.E rfl<|.E rfl<|.c (qb0 2 rfl rfl .no ze46 rfl)<|.S [] rfl sz46 rfl<|.A rfl<|.nil rfl) ?_
 refine cwS (cSR (.M rfl<|.B rfl (qT2 _ _) rfl<|.nil rfl) ?_)
 refine cwC h2 rfl ?_ ?_
 ·intro hc1 h3
  have ⟨x1,hx1,h5⟩ := bdS h3
  refine cSR (.M rfl<|.c (qc0 rfl rfl .no Try.func44 rfl rfl (qr5 hx1) (.cons rfl .d .nil) ⟨tV,tV⟩ (.inl rfl))<|.A rfl<|.nil rfl) ?_
  obtain rfl := zQ h5
  exact rt1 rfl rfl rfl
 intro hc1 h4
 refine cwK ?_
 have ⟨x2,hx2,h6⟩ := bdS h4
 refine cSR (.M rfl<|.L [] rfl ta46 rfl<|.c (qa6 (ds := [eK (List.replicate 24 0),qW false]) rfl rfl .no zs115 rfl pl115 .nil)<|.c (qG (fun _ => 0) rfl rfl .no Try.func45 rfl rfl (tree_check_o_ok hx2) (.cons rfl (.ip rfl) (.cons rfl .d (.cons rfl .d .nil))) (q20 rfl ⟨(by simp [AV.live,lk,Nat.beq]),tV,tV,tV⟩ rfl (OD.dat_live (qc _)) (by simp)) (.inl rfl))<|.A rfl<|.nil rfl) ?_
 obtain rfl := zQ h6
 exact rt1 rfl rfl rfl
theorem ref05_Less_ok {a0} {a1} {r} (h : qG3 a0 a1 = some r) : FnOk Try.prog 30 [.d (eK a0),.d (eK a1)] 0 (lk []) (fun rr oo => rr = .d (qW r) ∧ oo = lk []) := by
 refine fnO Try.func30 rfl rfl (cwP ?_)
 unfold qG3 at h
 refine cSR (.X 0 rfl<|.X 1 rfl<|.A rfl<|.nil rfl) ?_
 have ⟨o0,hj0,h0⟩ := bdS h
 refine cwJ (fun (z : Unit) => St.of [] []) (fun z => o0 = (.inl z)) ?_ ?_
 ·intro v0 hv0; subst hv0
  simp only [zN] at h0
  refine cSR (.A rfl<|.nil rfl) ?_
  obtain rfl := zQ h0
  exact rt1 rfl rfl rfl
 refine cSR (.A rfl<|.nil rfl) ?_
 refine cwB (qK (fun (z : Int) => St.of [(2,.ptr 0 0),(3,.ptr 1 0),(5,.d (eint z))] [(0,.box (.d (eK a0))),(1,.box (.d (eK a1)))]) hj0 (wA1 rfl) ?_)
 intro v1 x0 hb0 hx0
 refine cwS (cSR (.M rfl<|.B rfl (qO0 _ _) rfl<|.nil rfl) ?_)
 refine cwC hb0 rfl ?_ ?_
 ·intro hc0 h1
  refine cwK ?_
  refine cwS (cwB ?_)
  have ⟨x1,hx1,h3⟩ := bdS h1
  have hx1g := qU4 hx1
  have ⟨x2,hx2,h4⟩ := bdS h3
  have hx2g := qB hx2
  have ⟨x3,hx3,h5⟩ := bdS h4
  have hx3g := qB hx3
  refine cwS (cwRA mixed (by kernel_rfl) (.M rfl<|.c (qd6 rfl rfl .no rfl rfl ar31 sz5 hx1g)<|.c (o_ldB (l := a0) [] rfl rfl .no rfl rfl rfl hx2g.2 ta5)<|.M rfl<|.c (qd6 rfl rfl .no rfl rfl ar31 sz5 hx1g)<|.c (o_ldB (l := a1) [] rfl rfl .no rfl rfl rfl hx3g.2 ta5)<|.B rfl (qT2 _ _) rfl<|.nil rfl) (by kernel_rfl) ?_)
  refine cwC h5 rfl ?_ ?_
  ·intro hc1 h6
   refine cwS (cwRA mixed (by kernel_rfl) (.M rfl<|.c (qd6 rfl rfl .no rfl rfl ar31 sz5 hx1g)<|.c (o_ldB (l := a0) [] rfl rfl .no rfl rfl rfl hx2g.2 ta5)<|.M rfl<|.c (qd6 rfl rfl .no rfl rfl ar31 sz5 hx1g)<|.c (o_ldB (l := a1) [] rfl rfl .no rfl rfl rfl hx3g.2 ta5)<|.B rfl (qO0 _ _) rfl<|.A rfl<|.nil rfl) (by kernel_rfl) ?_)
   have he0 := ((hx0 _ (sJ h6)).symm).symm
   subst he0
   obtain rfl := zQ h0
   exact rt1 rfl rfl rfl
  intro hc1 h7
  refine cwK (cwR (.M rfl<|.B rfl (qR0 _ _) rfl<|.A rfl<|.nil rfl) ?_)
  exact ⟨(IntKind.wrap .i64 (v1 + 1)),(sJ h7),wA1 rfl⟩
 intro hc0 h2
 refine qR ?_
 exact ⟨(),(hx0 _ (sJ h2)).symm,wA1 rfl⟩
theorem law07_few_ok {a0} {a1} {a2} {r} (h : qK2 a0 a1 a2 = some r) : FO 16 [.d (eSC a0),.d (eint a1),.d (eint a2)] 0 [] (.d (eSC r)) [] := by
 refine fnO Try.func16 rfl rfl (cwP ?_)
 unfold qK2 at h
 refine cSR (.A rfl<|.nil rfl) ?_
 refine cSR (.c (o_bslO (rows := ([] : List ttC).map eCg) 0 rfl rfl .no .nil rfl sl22 sz33 ze33 rfl (q51 qn0) (by decide) rfl)<|.A rfl<|.nil rfl) ?_
 have ⟨o0,hj0,h0⟩ := bdS h
 refine cwJ (fun (z : (List ttC)) => St.of [(7,.arr 0 0)] [(0,.arr 0 26 (z.map eCg))]) (fun z => o0 = z) ?_ ?_
 ·intro v0 hv0; subst hv0
  refine cSR (.M rfl<|.A rfl<|.nil rfl) ?_
  obtain rfl := zQ h0
  exact rt1 rfl rfl rfl
 refine cSR (.A rfl<|.nil rfl) ?_
 refine cwB (qK (fun (z : (Int × (List ttC))) => St.of [(0,.d (eSC a0)),(1,.d (eint a1)),(2,.d (eint a2)),(7,.arr 0 0),(8,.d (eint z.1))] [(0,.arr 0 26 (z.2.map eCg))]) hj0 (wA1 rfl) ?_)
 intro v1 x0 hb0 hx0
 refine cwS ?_
 have ⟨o1,hj1,h1⟩ := bdS hb0
 refine cwJ (fun (z : Bool) => St.of [(0,.d (eSC a0)),(1,.d (eint a1)),(2,.d (eint a2)),(7,.arr 0 0),(8,.d (eint v1.1)),(19,.d (qW z))] [(0,.arr 0 26 (v1.2.map eCg))]) (fun z => o1 = z) ?_ ?_
 ·intro v2 hv1; subst hv1
  refine cwC h1 rfl ?_ ?_
  ·intro hc0 h2
   refine cwK ?_
   refine cwS (cwB ?_)
   have ⟨x1,hx1,h4⟩ := bdS h2
   have hx1g := qB hx1
   refine cSR (.M rfl<|.M rfl<|.c (qs1 (enc := eCg) (xs := a0) rfl rfl .no rfl rfl sl22 sz33 hx1g.1 hx1g.2)<|.c (o_ld rfl rfl .no rfl ta33 rfl rfl)<|.c (qb0 1 rfl rfl .no ze33 rfl)<|.S [] rfl sz33 rfl<|.nil rfl) ?_
   have ⟨x2,hx2,h5⟩ := bdS h4
   have hx2g := qJ2 hx2
   refine cSR (.F rfl q16 rfl<|.L [1] rfl ta9 rfl<|.F rfl q16 rfl<|.L [1] rfl ta9 rfl<|.c (o_lenS rfl rfl .no rfl un9)<|.M rfl<|.c (o_min rfl rfl .no rfl rfl)<|.c (o_slS rfl rfl .no rfl un9 .no (.val rfl hx2g.2.1) hx2g.2.2.1 hx2g.2.2.2)<|.F rfl q16 rfl<|.S [1] rfl sz9 rfl<|.nil rfl) ?_
   have ⟨x3,hx3,h6⟩ := bdS h5
   have hx3g := qV hx3
   refine cwR (.M rfl<|.L [] rfl ta33 rfl<|.c (ql4 (rows := ([(x1.1,(x1.2.1.extract 0 (min (x1.2.1.size : Int) a2).toNat),x1.2.2)] : List ttC).map eCg) rfl rfl .no (.cons rfl .nil) rfl sl22 sz33 ze33 rfl (q51 qn0) (by decide))<|.c (q02 (enc := eCg) (xs := v1.2) (ys := [(x1.1,(x1.2.1.extract 0 (min (x1.2.1.size : Int) a2).toNat),x1.2.2)]) rfl rfl .no rfl rfl rfl qn0 sl22 sl22 sz33 by33 ze33 rfl (by decide) hx3g)<|.A rfl<|.nil rfl) ?_
   refine cwR (.M rfl<|.B rfl (qR0 _ _) rfl<|.A rfl<|.nil rfl) ?_
   exact ⟨((IntKind.wrap .i64 (v1.1 + 1)),(v1.2 ++ [(x1.1,(x1.2.1.extract 0 (min (x1.2.1.size : Int) a2).toNat),x1.2.2)])),(sJ h6),wA1 rfl⟩
  intro hc0 h3
  refine qR ?_
  exact ⟨v1.2,(hx0 _ (sJ h3)).symm,wA1 rfl⟩
 rcases cdS hj1 with ⟨hc1,h7⟩ | ⟨hc1,h8⟩
 ·skip
  refine cwR (.M rfl<|.M rfl<|.c (qU (enc := eCg) (xs := a0) rfl rfl .no rfl sl22)<|.B rfl (qO0 _ _) rfl<|.M rfl<|.c (o_mv rfl rfl (.yes rfl rfl hc1) rfl)<|.c (o_mv rfl rfl (.yes rfl rfl hc1) rfl)<|.c (qn rfl rfl (.yes rfl rfl hc1) rfl rfl (qO0 _ _) rfl)<|.I rfl hc1<|.nil rfl) ?_
  exact ⟨(decide (v1.1 < a1)),(sJ h7),wA1 rfl⟩
 refine cwR (.M rfl<|.M rfl<|.c (qU (enc := eCg) (xs := a0) rfl rfl .no rfl sl22)<|.B rfl (qO0 _ _) rfl<|.M rfl<|.G rfl rfl hc1<|.G rfl rfl hc1<|.G rfl rfl hc1<|.J rfl hc1<|.nil rfl) ?_
 exact ⟨false,(sJ h8),wA1 rfl⟩
theorem law07_all_okc {r} (h : qg2 = some r) : FO 18 [] 0 [] (.d (eSp r)) [(0,.box (.d (eSp r)))] := by
 refine fnO Try.func18 rfl rfl (cwP ?_)
 unfold qg2 at h
 refine cSR (.c (qb0 0 rfl rfl .no ze38 rfl)<|.nil rfl) ?_
 refine cSR (.c (qa6 (ds := [eK (List.replicate 24 0),eK (List.replicate 24 0),qW true]) rfl rfl .no zs38 rfl pl38 (.cons rfl rfl rfl rfl rfl rfl rfl .nil))<|.S [] rfl sz38 rfl<|.nil rfl) ?_
 obtain rfl := zQ h
 exact qv ⟨_,(wA2 [(0,.ptr 0 0)] [(0,.box (.d (eSp ((List.replicate 24 0),(List.replicate 24 0),true))))] rfl),.inr rfl,_,resC rfl rfl rfl ta38 rfl rfl,rfl,rfl⟩
theorem q65 {r} (h : qg2 = some r) : FO 18 [] 0 [] (.d (eSp r)) [] := q93 (law07_all_okc h)
theorem ref07_Same_ok {a0} {a1} {r} (h : qQ2 a0 a1 = some r) : FnOk Try.prog 19 [.d (eSP_ a0),.d (eSP_ a1)] 0 (lk []) (fun rr oo => rr = .d (qW r) ∧ oo = lk []) := by
 refine fnO Try.func19 rfl rfl (cwP ?_)
 unfold qQ2 at h
 refine cSR (.A rfl<|.nil rfl) ?_
 refine cwS (cSR (.M rfl<|.c (qU (enc := ePr) (xs := a0) rfl rfl .no rfl sl34)<|.M rfl<|.c (qU (enc := ePr) (xs := a1) rfl rfl .no rfl sl34)<|.B rfl (qT2 _ _) rfl<|.nil rfl) ?_)
 refine cwC h rfl ?_ ?_
 ·intro hc0 h0
  refine cSR (.A rfl<|.nil rfl) ?_
  obtain rfl := zQ h0
  exact rt1 rfl rfl rfl
 intro hc0 h1
 refine cwK ?_
 have ⟨o0,hj0,h2⟩ := bdS h1
 refine cwJ (fun (z : Unit) => St.of [] []) (fun z => o0 = (.inl z)) ?_ ?_
 ·intro v0 hv0; subst hv0
  simp only [zN] at h2
  refine cSR (.A rfl<|.nil rfl) ?_
  obtain rfl := zQ h2
  exact rt1 rfl rfl rfl
 refine cSR (.A rfl<|.nil rfl) ?_
 refine cwB (qK (fun (z : Int) => St.of [(0,.d (eSP_ a0)),(1,.d (eSP_ a1)),(5,.d (eint z))] []) hj0 (wA1 rfl) ?_)
 intro v1 x0 hb0 hx0
 refine cwS (cSR (.M rfl<|.M rfl<|.c (qU (enc := ePr) (xs := a0) rfl rfl .no rfl sl34)<|.B rfl (qO0 _ _) rfl<|.nil rfl) ?_)
 refine cwC hb0 rfl ?_ ?_
 ·intro hc1 h3
  refine cwK ?_
  refine cwS (cwB ?_)
  have ⟨x1,hx1,h5⟩ := bdS h3
  have hx1g := qB hx1
  have ⟨x2,hx2,h6⟩ := bdS h5
  have hx2g := qB hx2
  refine cwS (cwRA mixed (by kernel_rfl) (.M rfl<|.M rfl<|.c (qs1 (enc := ePr) (xs := a0) rfl rfl .no rfl rfl sl34 sz52 hx1g.1 hx1g.2)<|.c (o_ld rfl rfl .no rfl ta52 rfl rfl)<|.M rfl<|.M rfl<|.c (qs1 (enc := ePr) (xs := a1) rfl rfl .no rfl rfl sl34 sz52 hx2g.1 hx2g.2)<|.c (o_ld rfl rfl .no rfl ta52 rfl rfl)<|.c (o_ne rfl rfl .no rfl rfl rfl rfl eg52 (.st flds52 (.cons ta31 rfl rfl rfl rfl (.bs ar31 un5 sz5) (.cons ta9 rfl rfl rfl rfl (.str un9) .nil))))<|.nil rfl) (by kernel_rfl) ?_)
  refine cwC h6 rfl ?_ ?_
  ·intro hc2 h7
   refine cSR (.A rfl<|.nil rfl) ?_
   have he0 := ((hx0 _ (sJ h7)).symm).symm
   subst he0
   obtain rfl := zQ h2
   exact rt1 rfl rfl rfl
  intro hc2 h8
  refine cwK (cwR (.M rfl<|.B rfl (qR0 _ _) rfl<|.A rfl<|.nil rfl) ?_)
  exact ⟨(IntKind.wrap .i64 (v1 + 1)),(sJ h8),wA1 rfl⟩
 intro hc1 h4
 refine qR ?_
 exact ⟨(),(hx0 _ (sJ h4)).symm,wA1 rfl⟩
theorem tree_below_1_ok {a0} {c0} {c1} {r} (h : qx2 a0 c0 c1 = some r) : FnOk Try.prog 72 [.d (eint a0),.ptr 0 0,.ptr 1 0] 2 (lk [(0,.box (.d (qw c0))),(1,.box (.d (eK c1)))]) (fun rr oo => rr = .d (qW r) ∧ oo = lk [(0,.box (.d (qw c0))),(1,.box (.d (eK c1)))]) := by
 refine fnO Try.func72 rfl rfl (cwP ?_)
 unfold qx2 at h
 refine cSR (.A rfl<|.nil rfl) ?_
 have ⟨x0,hx0,h0⟩ := bdS h
 have hx0g := qB hx0
 have ⟨x1,hx1,h1⟩ := bdS h0
 refine cwS (cwRA mixed (by kernel_rfl) (.F rfl q31 rfl<|.L [2] rfl ta44 rfl<|.M rfl<|.c (qs1 (enc := q50) (xs := c0.2.2) rfl rfl .no rfl rfl sl44 sz69 hx0g.1 hx0g.2)<|.c (qO1 rfl rfl .no rfl qE4 (by decide) rfl rfl)<|.c (o_ld rfl rfl .no rfl ta31 rfl rfl)<|.L [] rfl ta31 rfl<|.c (qc0 rfl rfl .no Try.func43 rfl rfl (qp0 hx1) (.cons rfl .d (.cons rfl .d .nil)) ⟨tV,tV,tV⟩ (.inl rfl))<|.B rfl (qT3 _ _) rfl<|.A rfl<|.nil rfl) (by kernel_rfl) ?_)
 obtain rfl := zQ h1
 exact rt1 rfl rfl rfl
theorem sort_Search_zB_ok {a0} {c0} {c1} {r} (h : qn2 a0 c0 c1 = some r) : FO 71 [.d (eint a0),.fn 72 [] [.ptr 0 0,.ptr 1 0]] 2 [(0,.box (.d (qw c0))),(1,.box (.d (eK c1)))] (.d (eint r)) [(0,.box (.d (qw c0))),(1,.box (.d (eK c1)))] := by
 refine fnO Try.func71 rfl rfl (cwP ?_)
 unfold qn2 at h
 refine cSR (.A rfl<|.nil rfl) ?_
 refine cSR (.M rfl<|.A rfl<|.A rfl<|.nil rfl) ?_
 have ⟨o0,hj0,h0⟩ := bdS h
 refine cwJ (fun (z : Int) => St.of [(5,.d (eint z))] [(0,.box (.d (qw c0))),(1,.box (.d (eK c1)))]) (fun z => o0 = z) ?_ ?_
 ·intro v0 hv0; subst hv0
  refine cSR (.M rfl<|.A rfl<|.nil rfl) ?_
  obtain rfl := zQ h0
  exact rt1 rfl rfl rfl
 refine cwB (qK (fun (z : (Int × Int)) => St.of [(1,.fn 72 [] [.ptr 0 0,.ptr 1 0]),(5,.d (eint z.1)),(6,.d (eint z.2))] [(0,.box (.d (qw c0))),(1,.box (.d (eK c1)))]) hj0 (wA1 rfl) ?_)
 intro v1 x0 hb0 hx0
 refine cwS (cSR (.M rfl<|.M rfl<|.B rfl (qO0 _ _) rfl<|.nil rfl) ?_)
 refine cwC hb0 rfl ?_ ?_
 ·intro hc0 h1
  refine cwK ?_
  refine cwB (cSR (.M rfl<|.M rfl<|.B rfl (qR0 _ _) rfl<|.c (qX5 rfl rfl .no rfl un3 un82)<|.B rfl (b_shr _ _ (by decide)) rfl<|.c (qX5 rfl rfl .no rfl un82 un3)<|.A rfl<|.nil rfl) ?_)
  have ⟨x1,hx1,h3⟩ := bdS (x := qx2 (IntKind.wrap .i64 (Int.fdiv (IntKind.wrap .u64 (IntKind.wrap .i64 (v1.1 + v1.2))) (2 ^ 1))) c0 c1) h1
  refine cSR (.M rfl<|.M rfl<|.c (o_callVX (ys := [.d (eint (IntKind.wrap .i64 (Int.fdiv (IntKind.wrap .u64 (IntKind.wrap .i64 (v1.1 + v1.2))) (2 ^ 1))))]) (zs := [.ptr 0 0,.ptr 1 0]) (fun n => bif Nat.beq n 0 then 0 else 1) rfl rfl .no rfl rfl Try.func72 rfl rfl (tree_below_1_ok hx1) (.cons rfl .d .nil) (ql1 [] rfl ⟨tV,(by simp [AV.live,AV.lives,lk,Nat.beq]),(by simp [AV.live,AV.lives,lk,Nat.beq]),tV⟩ ⟨⟨rfl,tV⟩,⟨rfl,tV⟩,tV⟩ rfl rfl rfl trivial rfl) (.inl rfl))<|.T rfl<|.nil rfl) ?_
  refine cwC h3 rfl ?_ ?_
  ·intro hc1 h4
   refine cwR (.M rfl<|.B rfl (qR0 _ _) rfl<|.A rfl<|.nil rfl) ?_
   exact ⟨((IntKind.wrap .i64 ((IntKind.wrap .i64 (Int.fdiv (IntKind.wrap .u64 (IntKind.wrap .i64 (v1.1 + v1.2))) (2 ^ 1))) + 1)),v1.2),(sJ h4),wA1 rfl⟩
  intro hc1 h5
  refine cwR (.M rfl<|.A rfl<|.nil rfl) ?_
  exact ⟨(v1.1,(IntKind.wrap .i64 (Int.fdiv (IntKind.wrap .u64 (IntKind.wrap .i64 (v1.1 + v1.2))) (2 ^ 1)))),(sJ h5),wA1 rfl⟩
 intro hc0 h2
 refine qR ?_
 exact ⟨v1.1,(hx0 _ (sJ h2)).symm,wA1 rfl⟩
theorem tree_below_ok {a0} {a1} {r} (h : ql3 a0 a1 = some r) : FO 48 [.d (qw a0),.d (eK a1)] 0 [] (.d (eint r)) [] := by
 refine fnO Try.func48 rfl rfl (cwP ?_)
 unfold ql3 at h
 refine cSR (.X 0 rfl<|.X 1 rfl<|.A rfl<|.nil rfl) ?_
 have ⟨x0,hx0,h0⟩ := bdS h
 refine cSR (.F rfl q31 rfl<|.L [2] rfl ta44 rfl<|.c (qU (enc := q50) (xs := a0.2.2) rfl rfl .no rfl sl44)<|.c (o_fn2 rfl rfl .no rfl rfl)<|.c (qG (fun n => bif Nat.beq n 0 then 0 else 1) rfl rfl .no Try.func71 rfl rfl (sort_Search_zB_ok hx0) (.cons rfl .d (.cons rfl (.re rfl) .nil)) (ql1 [] rfl ⟨tV,(by simp [AV.live,AV.lives,lk,Nat.beq]),tV⟩ ⟨⟨rfl,tV⟩,⟨rfl,tV⟩,tV⟩ rfl rfl rfl trivial rfl) (.inl rfl))<|.B rfl (qS3 _ _) rfl<|.c (o_max rfl rfl .no rfl rfl)<|.A rfl<|.nil rfl) ?_
 obtain rfl := zQ h0
 exact rt1 rfl rfl rfl
theorem tree_Get_o_ok {a0} {a1} {a2} {r} (h : qj2 a0 a1 a2 = some r) : FnOk Try.prog 24 [.ifc 24 (.ptr 0 0),.d (eint a1),.d (eK a2)] 1 (lk [(0,.own (qe a0))]) (fun rr oo => rr = .tup [.d (eStr r.1),.d (qW r.2.1),.d (eErr r.2.2.1)] ∧ oo = lk [(0,.own (qe r.2.2.2))]) := by
 refine fnO Try.func24 rfl rfl (cwP ?_)
 unfold qj2 at h
 refine cSR (.X 1 rfl<|.A rfl<|.A rfl<|.A rfl<|.nil rfl) ?_
 have ⟨o0,hj0,h0⟩ := bdS h
 refine cwJ (fun (z : ttM) => St.of [] [(0,.own (qe z))]) (fun z => o0 = (.inl z)) ?_ ?_
 ·intro v0 hv0; subst hv0
  simp only [zN] at h0
  refine cSR (.A rfl<|.A rfl<|.A rfl<|.nil rfl) ?_
  obtain rfl := zQ h0
  exact qv ⟨_,(wA2 [(6,.d (eStr (ByteArray.mk #[]))),(7,.d (qW false)),(8,.d (eErr 0))] [(0,.own (qe v0))] rfl),.inr rfl,_,res3 rfl rfl rfl rfl,rfl,rfl⟩
 refine cSR (.M rfl<|.A rfl<|.nil rfl) ?_
 refine cwB (qK (fun (z : (Int × ttM)) => St.of [(0,.ifc 24 (.ptr 0 0)),(5,.ptr 1 0),(9,.d (eint z.1))] [(0,.own (qe z.2)),(1,.box (.d (eK a2)))]) hj0 (wA1 rfl) ?_)
 intro v1 x0 hb0 hx0
 refine cwS (cSR (.M rfl<|.B rfl (qT2 _ _) rfl<|.nil rfl) ?_)
 refine cwC hb0 rfl ?_ ?_
 ·intro hc0 h1
  refine cwK (cwB ?_)
  have ⟨x1,hx1,h3⟩ := bdS h1
  refine cSR (.M rfl<|.M rfl<|.c (qc6 (fun n => bif Nat.beq n 0 then 0 else 2) rfl rfl .no rfl Try.func23 rfl rfl rfl q05 (qk0 hx1) (.cons rfl (.p rfl) (.cons rfl .d .nil)) (by decide) (ql1 [1] rfl ⟨(by simp [AV.live,AV.lives,lk,Nat.beq]),tV,tV⟩ ⟨⟨rfl,(OD.dat_live (qc _))⟩,tV⟩ rfl rfl rfl ⟨rfl,tV⟩ rfl) (.inl rfl))<|.M rfl<|.E rfl<|.E rfl<|.c (qb0 3 rfl rfl .no ze46 rfl)<|.S [] rfl sz46 rfl<|.A rfl<|.nil rfl) ?_
  refine cwS (cSR (.M rfl<|.B rfl (qT2 _ _) rfl<|.nil rfl) ?_)
  refine cwC h3 rfl ?_ ?_
  ·intro hc1 h4
   refine cSR (.M rfl<|.A rfl<|.A rfl<|.A rfl<|.nil rfl) ?_
   have he0 := ((hx0 _ (sJ h4)).symm).symm
   subst he0
   obtain rfl := zQ h0
   exact qv ⟨_,(wA2 [(6,.d (eStr (ByteArray.mk #[]))),(7,.d (qW false)),(8,.d (eErr x1.2.1))] [(0,.own (qe x1.2.2))] rfl),.inr rfl,_,res3 rfl rfl rfl rfl,rfl,rfl⟩
  intro hc1 h5
  refine cwK ?_
  refine cwS (cSR (.F rfl q31 rfl<|.L [2] rfl ta44 rfl<|.c (qU (enc := q50) (xs := x1.1.2.2) rfl rfl .no rfl sl44)<|.B rfl (qT3 _ _) rfl<|.nil rfl) ?_)
  refine cwC h5 rfl ?_ ?_
  ·intro hc2 h6
   have ⟨x2,hx2,h8⟩ := bdS h6
   have ⟨x3,hx3,h9⟩ := bdS h8
   have hx3g := qB hx3
   refine cwS (cwRA mixed (by kernel_rfl) (.F rfl q31 rfl<|.L [2] rfl ta44 rfl<|.L [] rfl ta46 rfl<|.L [] rfl ta31 rfl<|.c (qc0 rfl rfl .no Try.func48 rfl rfl (tree_below_ok hx2) (.cons rfl .d (.cons rfl .d .nil)) ⟨tV,tV,tV⟩ (.inl rfl))<|.c (qs1 (enc := q50) (xs := x1.1.2.2) rfl rfl .no rfl rfl sl44 sz69 hx3g.1 hx3g.2)<|.c (qO1 rfl rfl .no rfl qw3 (by decide) rfl rfl)<|.c (o_ld rfl rfl .no rfl ta3 rfl rfl)<|.A rfl<|.nil rfl) (by kernel_rfl) ?_)
   refine qR ?_
   exact ⟨(x3.2,x1.2.2),(sJ h9),wA1 rfl⟩
  intro hc2 h7
  refine cwK ?_
  have ⟨o1,hj1,h10⟩ := bdS h7
  refine cwJ (fun (z : Unit) => St.of [(0,.ifc 24 (.ptr 0 0)),(5,.ptr 1 0)] [(0,.own (qe x1.2.2)),(1,.box (.d (eK a2)))]) (fun z => o1 = (.inl z)) ?_ ?_
  ·intro v2 hv1; subst hv1
   simp only [zN] at h10
   refine cwR (.A rfl<|.nil rfl) ?_
   exact ⟨(0,x1.2.2),(sJ h10),wA1 rfl⟩
  refine cSR (.F rfl qy3 rfl<|.L [1] rfl ta34 rfl<|.c (qU (enc := ePr) (xs := x1.1.2.1) rfl rfl .no rfl sl34)<|.M rfl<|.nil rfl) ?_
  refine cwB (qK (fun (z : Int) => St.of [(0,.ifc 24 (.ptr 0 0)),(5,.ptr 1 0),(39,.d (eSP_ x1.1.2.1)),(40,.d (eint (x1.1.2.1.length : Int))),(41,.d (eint z))] [(0,.own (qe x1.2.2)),(1,.box (.d (eK a2)))]) hj1 (wA1 rfl) ?_)
  intro v3 x4 hb1 hx4
  refine cSR (.B rfl (qO0 _ _) rfl<|.nil rfl) ?_
  refine cwS (cwC hb1 rfl ?_ ?_)
  ·intro hc3 h11
   refine cwK ?_
   refine cwS (cwB ?_)
   have ⟨x5,hx5,h13⟩ := bdS h11
   have hx5g := qB hx5
   refine cSR (.c (qs1 (enc := ePr) (xs := x1.1.2.1) rfl rfl .no rfl rfl sl34 sz52 hx5g.1 hx5g.2)<|.c (o_ld rfl rfl .no rfl ta52 rfl rfl)<|.c (qb0 4 rfl rfl .no ze52 rfl)<|.S [] rfl sz52 rfl<|.nil rfl) ?_
   refine cSR (.F rfl qr3 rfl<|.L [0] rfl ta31 rfl<|.L [] rfl ta31 rfl<|.c (o_eq rfl rfl .no rfl rfl rfl rfl eg31 (.bs ar31 un5 sz5))<|.nil rfl) ?_
   refine cwC h13 rfl ?_ ?_
   ·intro hc4 h14
    refine cSR (.F rfl fld52_1 rfl<|.L [1] rfl ta9 rfl<|.A rfl<|.A rfl<|.A rfl<|.nil rfl) ?_
    have he1 := ((hx4 _ (sJ h14)).symm).symm
    subst he1
    have he2 := ((hx0 _ (sJ h10)).symm).symm
    subst he2
    obtain rfl := zQ h0
    exact qv ⟨_,(wA2 [(6,.d (eStr x5.2)),(7,.d (qW true)),(8,.d (eErr 0))] [(0,.own (qe x1.2.2))] rfl),.inr rfl,_,res3 rfl rfl rfl rfl,rfl,rfl⟩
   intro hc4 h15
   refine cwK (cwR (.B rfl (qR0 _ _) rfl<|.M rfl<|.nil rfl) ?_)
   exact ⟨(IntKind.wrap .i64 (v3 + 1)),(sJ h15),wA1 rfl⟩
  intro hc3 h12
  refine qR ?_
  exact ⟨(),(hx4 _ (sJ h12)).symm,wA1 rfl⟩
 intro hc0 h2
 refine qR ?_
 exact ⟨v1.2,(hx0 _ (sJ h2)).symm,wA1 rfl⟩
theorem tree_Clone_o_ok {a0} {a1} {r} (h : q92 a0 a1 = some r) : FnOk Try.prog 33 [.ifc 24 (.ptr 0 0),.d (eint a1)] 1 (lk [(0,.own (qe a0))]) (fun rr oo => rr = .d (eErr r.1) ∧ oo = lk [(0,.own (qe r.2))]) := by
 refine fnO Try.func33 rfl rfl (cwP ?_)
 unfold q92 at h
 refine cSR (.A rfl<|.nil rfl) ?_
 refine cwS (cSR (.M rfl<|.B rfl (qh0 _ _) rfl<|.nil rfl) ?_)
 refine cwC h rfl ?_ ?_
 ·intro hc0 h0
  refine cSR (.A rfl<|.nil rfl) ?_
  obtain rfl := zQ h0
  exact rt1 rfl rfl rfl
 intro hc0 h1
 refine cwK ?_
 have ⟨x0,hx0,h2⟩ := bdS h1
 refine cSR (.M rfl<|.M rfl<|.c (qc6 (fun _ => 0) rfl rfl .no rfl Try.func119 rfl rfl rfl hm24_Inc (qF2 hx0) (.cons rfl (.p rfl) (.cons rfl .d .nil)) (by decide) (q20 rfl ⟨(by simp [AV.live,lk,Nat.beq]),tV,tV⟩ rfl (OD.dat_live (qc _)) (by simp)) (.inl rfl))<|.A rfl<|.nil rfl) ?_
 obtain rfl := zQ h2
 exact rt1 rfl rfl rfl
end
end Go.Val
