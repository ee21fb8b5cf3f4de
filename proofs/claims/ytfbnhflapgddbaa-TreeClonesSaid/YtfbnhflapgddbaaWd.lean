/- Walks of the program's functions,printed. -/
import Derived.Test.YtfbnhflapgddbaaWc
set_option linter.unusedSectionVars false
set_option linter.unusedVariables false
set_option linter.unusedSimpArgs false
set_option maxRecDepth 100000
namespace Go.Val
open Go.RowKit Go.Proofs
section
variable [NoDrw]
noncomputable def qq1 (self : ttM → ttN → (B8 × Bool) → Option (Int × ttM)) (a0 : ttM) (a1 : ttN) (a2 : (B8 × Bool)) : Option (Int × ttM) := (qK1 a1).bind fun x0 => cond (!x0) (some (12,a0)) ((((cond (decide (a1.1 = 0)) ((gx a1.2.1 (IntKind.wrap .i64 ((a1.2.1.length : Int) - 1))).bind fun x1 => some x1.1) (
    (gx a1.2.2 (IntKind.wrap .i64 ((a1.2.2.length : Int) - 1))).bind fun x2 => some x2.1)) : Option B8)).bind fun o0 => (((cond a2.2 ((qu o0 a2.1).bind fun x3 => some (decide (x3 ≥ 0))) (some false)) : Option Bool)).bind fun o1 => cond o1 (some (12,a0)) ((((qG (V := (Int × ttM)) (O := (ttM ⊕ (Int × ttM))) (fun v0 => cond (decide (v0.1 < (a1.2.2.length : Int))) (
      (gx a1.2.2 v0.1).bind fun x4 => (qt v0.2 x4.2).bind fun x5 => cond (decide (x5.2.1 ≠ 0)) ((qn2 x5.2.1).bind fun x6 => some (.inr (.inr (x6,x5.2.2)))) ((((cond (decide ((IntKind.wrap .i64 (v0.1 + 1)) < (a1.2.2.length : Int))) ((gx a1.2.2 (IntKind.wrap .i64 (v0.1 + 1))).bind fun x7 => some (x7.1,true)) (some a2)) : Option (B8 × Bool))).bind fun o2 => (((
        cond (decide (x5.1.1 ≠ (IntKind.wrap .i64 (a1.1 - 1)))) (some true) ((q42 x5.1).bind fun x8 => cond (!(decide (x8 = x4.1))) (some true) ((qM4 x5.1).bind fun x9 => some x9))) : Option Bool)).bind fun o3 => cond o3 (some (.inr (.inr (12,x5.2.2)))) ((self x5.2.2 x5.1 o2).bind fun x10 => cond (decide (x10.1 ≠ 0)) (some (.inr (.inr (x10.1,x10.2)))) (
         some (.inl ((IntKind.wrap .i64 (v0.1 + 1)),x10.2)))))) (some (.inr (.inl v0.2)))) (0,a0)) : Option (ttM ⊕ (Int × ttM)))).bind fun o4 => Sum.elim (fun (v1 : ttM) => some (0,v1)) (fun w0 => some w0) o4))
noncomputable def qh1 : Nat → ttM → ttN → (B8 × Bool) → Option (Int × ttM) | 0 => fun _ _ _ => none | n + 1 => qq1 (qh1 n)
noncomputable def qj3 (a0 : ttM) (a1 : ttN) (a2 : (B8 × Bool)) : Option (Int × ttM) := qh1 16 a0 a1 a2
noncomputable def qO1 (a0 : ttM) (a1 : Int) : Option (Int × ttM) := cond (decide (a1 = 0)) (some (0,a0)) ((qt a0 a1).bind fun x0 => cond (decide (x0.2.1 ≠ 0)) ((qn2 x0.2.1).bind fun x1 => some (x1,x0.2.2)) ((qj3 x0.2.2 x0.1 ((List.replicate 24 0),false)).bind fun x2 => some (x2.1,x2.2)))
noncomputable def qX1 (a0 : List ttC) (a1 : Int) (a2 : Int) : Option (List ttC) := (((qG (V := (Int × (List ttC))) (O := (List ttC)) (fun v0 => (((cond (decide (v0.1 < (a0.length : Int))) (some (decide (v0.1 < a1))) (some false)) : Option Bool)).bind fun o0 => cond o0 ((gx a0 v0.1).bind fun x0 => (cutB 0 (min (x0.2.1.size : Int) a2) x0.2.1.size).bind fun _ =>
    (fits (v0.2.length + ([(x0.1,(x0.2.1.extract 0 (min (x0.2.1.size : Int) a2).toNat),x0.2.2)]).length) 48).bind fun _ => some (.inl ((IntKind.wrap .i64 (v0.1 + 1)),(v0.2 ++ [(x0.1,(x0.2.1.extract 0 (min (x0.2.1.size : Int) a2).toNat),x0.2.2)])))) (some (.inr v0.2))) (0,([] : List ttC))) : Option (List ttC))).bind fun o1 => some o1
noncomputable def qh2 : Option ttS := some ((List.replicate 24 0),(List.replicate 24 0),true)
noncomputable def qL1 (a0 : List ttR) (a1 : List ttR) : Option Bool := cond (decide ((a0.length : Int) ≠ (a1.length : Int))) (some false) ((((qG (V := Int) (O := (Unit ⊕ Bool)) (fun v0 => cond (decide (v0 < (a0.length : Int))) ((gx a0 v0).bind fun x0 => (gx a1 v0).bind fun x1 => cond (!((decide (x0.1 = x1.1)) && ((decide (x0.2 = x1.2)) && true))) (some (.inr (.inr false))) (
      some (.inl (IntKind.wrap .i64 (v0 + 1))))) (some (.inr (.inl ())))) 0) : Option (Unit ⊕ Bool))).bind fun o0 => Sum.elim (fun (v1 : Unit) => some true) (fun w0 => some w0) o0)
noncomputable def qQ1 (a0 : Int) (c0 : ttN) (c1 : List UInt8) : Option Bool := (gx c0.2.2 a0).bind fun x0 => (qu x0.1 c1).bind fun x1 => some (decide (x1 > 0))
noncomputable def qB1 (a0 : Int) (c0 : ttN) (c1 : List UInt8) : Option Int := (((qG (V := (Int × Int)) (O := Int) (fun v0 => cond (decide (v0.1 < v0.2)) ((qQ1 (IntKind.wrap .i64 (Int.fdiv (IntKind.wrap .u64 (IntKind.wrap .i64 (v0.1 + v0.2))) (2 ^ 1))) c0 c1).bind fun x0 => cond (!x0) (
     some (.inl ((IntKind.wrap .i64 ((IntKind.wrap .i64 (Int.fdiv (IntKind.wrap .u64 (IntKind.wrap .i64 (v0.1 + v0.2))) (2 ^ 1))) + 1)),v0.2))) (some (.inl (v0.1,(IntKind.wrap .i64 (Int.fdiv (IntKind.wrap .u64 (IntKind.wrap .i64 (v0.1 + v0.2))) (2 ^ 1))))))) (some (.inr v0.1))) (0,a0)) : Option Int)).bind fun o0 => some o0
noncomputable def qw2 (a0 : ttN) (a1 : List UInt8) : Option Int := (qB1 (a0.2.2.length : Int) a0 a1).bind fun x0 => some (max (IntKind.wrap .i64 (x0 - 1)) 0)
noncomputable def qH1 (a0 : ttM) (a1 : Int) (a2 : List UInt8) : Option (ByteArray × Bool × Int × ttM) := (((qG (V := (Int × ttM)) (O := (ttM ⊕ (ByteArray × Bool × Int × ttM))) (fun v0 => cond (decide (v0.1 ≠ 0)) ((qt v0.2 v0.1).bind fun x0 => cond (decide (x0.2.1 ≠ 0)) (some (.inr (.inr ((ByteArray.mk #[]),false,x0.2.1,x0.2.2)))) (
     cond (decide ((x0.1.2.2.length : Int) > 0)) ((qw2 x0.1 a2).bind fun x1 => (gx x0.1.2.2 x1).bind fun x2 => some (.inl (x2.2,x0.2.2))) ((((qG (V := Int) (O := (Unit ⊕ (ByteArray × Bool × Int × ttM))) (fun v1 => cond (decide (v1 < (x0.1.2.1.length : Int))) ((gx x0.1.2.1 v1).bind fun x3 => cond (decide (x3.1 = a2)) (some (.inr (.inr (x3.2,true,0,x0.2.2)))) (
          some (.inl (IntKind.wrap .i64 (v1 + 1))))) (some (.inr (.inl ())))) 0) : Option (Unit ⊕ (ByteArray × Bool × Int × ttM)))).bind fun o0 => Sum.elim (fun (v2 : Unit) => some (.inl (0,x0.2.2))) (fun w0 => some (.inr (.inr w0))) o0))) (some (.inr (.inl v0.2)))) (a1,a0)) : Option (ttM ⊕ (ByteArray × Bool × Int × ttM)))).bind fun o1 => Sum.elim (fun (v3 : ttM) =>
  some ((ByteArray.mk #[]),false,0,v3)) (fun w1 => some w1) o1
noncomputable def q30 (a0 : ttM) (a1 : Int) : Option (Int × ttM) := cond (decide (a1 = 0)) (some (0,a0)) ((qs0 a0 a1).bind fun x0 => some (x0.1,x0.2))
theorem q04 {self : ttM → ttN → (B8 × Bool) → Option (Int × ttM)} (self_ok : ∀ {a0 : ttM} {a1 : ttN} {a2 : (B8 × Bool)} {r : (Int × ttM)},self a0 a1 a2 = some r → FnOk Try.prog 45 [.ifc 24 (.ptr 0 0),.d (qp a1),.d (qX0 a2)] 1 (lk [(0,.own (qc a0))]) (fun rr oo => rr = .d (eErr r.1) ∧ oo = lk [(0,.own (qc r.2))])) {a0 : ttM} {a1 : ttN} {a2 : (B8 × Bool)} {r : (Int × ttM)} (h : qq1 self a0 a1 a2 = some r) : FnOk Try.prog 45 [.ifc 24 (.ptr 0 0),.d (qp a1),.d (qX0 a2)] 1 (lk [(0,.own (qc a0))]) (fun rr oo => rr = .d (eErr r.1) ∧ oo = lk [(0,.own (qc r.2))]) := by
 refine fnO Try.func45 rfl rfl (cwP ?_)
 unfold qq1 at h
 refine cwS (cwR (
  .c (uX 1 rfl)<|
  .c (uX 2 rfl)<|
  .c (uA rfl)<|.nil rfl) ?_)
 refine cwS ?_
 have ⟨x0,hx0,h0⟩ := bdS (x := qK1 a1) h
 refine cwS (cwR (
  .c (uL [] rfl ta46 rfl)<|
  .c (qn0 rfl rfl .no Try.func66 rfl rfl (node_Right_ok hx0) (.cons rfl .d .nil) ⟨trivial,trivial⟩ (.inl rfl))<|
  .c (uT rfl)<|.nil rfl) ?_)
 rcases cdS h0 with ⟨hc0,h1⟩ | ⟨hc0,h2⟩
 ·refine cwT rfl hc0 ?_
  refine cwS (cwR (
   .c (uA rfl)<|.nil rfl) ?_)
  have heq := ((sJ h1)).symm
  subst heq
  exact qq ⟨_,(show Leads _ _ (St.of [(6,.d (eErr 12))] [(0,.own (qc a0))]) from .w (wkF ⟨wD rfl,trivial⟩ ⟨.own rfl (.of_eq rfl (q9 _)),trivial⟩ (qn rfl))),.inr rfl,_,res1 rfl rfl,rfl,rfl⟩
 refine cwF rfl hc0 ?_
 refine cwK ?_
 refine cwS (cwR (
  .c (o_bldB (l := (List.replicate 24 0)) (r := (List.replicate 24 0)) rfl rfl .no ze31 ar31 sz5 .nil)<|
  .c (qh0 3 rfl rfl .no ze31 rfl)<|
  .c (uS [] rfl sz31 rfl)<|.nil rfl) ?_)
 have ⟨o0,hj0,h3⟩ := bdS h2
 refine cwJ (fun (z : B8) => St.of [(0,.ifc 24 (.ptr 0 0)),(4,.ptr 1 0),(5,.ptr 2 0),(7,.ptr 3 0)] [(0,.own (qc a0)),(1,.box (.d (qp a1))),(2,.box (.d (qX0 a2))),(3,.box (.d (eK z)))]) (fun (z : B8) => o0 = z) ?_ ?_
 ·intro v0 hv0; subst hv0
  refine cwS ?_
  have ⟨o1,hj1,h4⟩ := bdS h3
  refine cwJ (fun (z : Bool) => St.of [(0,.ifc 24 (.ptr 0 0)),(4,.ptr 1 0),(5,.ptr 2 0),(47,.d (qQ z))] [(0,.own (qc a0)),(1,.box (.d (qp a1))),(2,.box (.d (qX0 a2)))]) (fun (z : Bool) => o1 = z) ?_ ?_
  ·intro v1 hv1; subst hv1
   rcases cdS h4 with ⟨hc1,h5⟩ | ⟨hc1,h6⟩
   ·refine cwT rfl hc1 ?_
    refine cwS (cwR (
     .c (uA rfl)<|.nil rfl) ?_)
    have heq := ((sJ h5)).symm
    subst heq
    exact qq ⟨_,(show Leads _ _ (St.of [(6,.d (eErr 12))] [(0,.own (qc a0))]) from .w (wkF ⟨wD rfl,trivial⟩ ⟨.own rfl (.of_eq rfl (q9 _)),trivial⟩ (qn rfl))),.inr rfl,_,res1 rfl rfl,rfl,rfl⟩
   refine cwF rfl hc1 ?_
   refine cwK ?_
   have ⟨o2,hj2,h7⟩ := bdS h6
   refine cwJ (fun (z : ttM) => St.of [] [(0,.own (qc z))]) (fun (z : ttM) => o2 = (.inl z)) ?_ ?_
   ·intro v2 hv2; subst hv2
    simp only [Sum.elim_inl] at h7
    refine cwS (cwR (
     .c (uA rfl)<|.nil rfl) ?_)
    have heq := ((sJ h7)).symm
    subst heq
    exact qq ⟨_,(show Leads _ _ (St.of [(6,.d (eErr 0))] [(0,.own (qc v2))]) from .w (wkF ⟨wD rfl,trivial⟩ ⟨.own rfl (.of_eq rfl (q9 _)),trivial⟩ (qn rfl))),.inr rfl,_,res1 rfl rfl,rfl,rfl⟩
   refine cwS (cwR (
    .c (uF rfl qN0 rfl)<|
    .c (uL [2] rfl ta44 rfl)<|
    .c (qT (enc := q20) (xs := a1.2.2) rfl rfl .no rfl sl44)<|
    .c (uM rfl)<|.nil rfl) ?_)
   refine cwB ?_
   refine qF (V := (Int × ttM)) (O := (ttM ⊕ (Int × ttM))) (fun (z : (Int × ttM)) => St.of [(0,.ifc 24 (.ptr 0 0)),(4,.ptr 1 0),(5,.ptr 2 0),(49,.d (qH0 a1.2.2)),(50,.d (eint (a1.2.2.length : Int))),(51,.d (eint z.1))] [(0,.own (qc z.2)),(1,.box (.d (qp a1))),(2,.box (.d (qX0 a2)))]) hj2 (.w (wkF ⟨⟨_,rfl,.ifc (.ptro rfl rfl)⟩,⟨_,rfl,.ptr rfl rfl⟩,⟨_,rfl,.ptr rfl rfl⟩,wD rfl,wD rfl,wD rfl,trivial⟩ ⟨.own rfl (.of_eq rfl (q9 _)),.box rfl (.d rfl),.box rfl (.d rfl),trivial⟩ (qn rfl))) ?_
   intro v3 x1 hb0 hx1
   refine cwS (cwR (
    .c (uB rfl (qB0 _ _) rfl)<|.nil rfl) ?_)
   refine cwS ?_
   rcases cdS hb0 with ⟨hc2,h8⟩ | ⟨hc2,h9⟩
   ·refine cwT rfl hc2 ?_
    refine cwK ?_
    refine cwS ?_
    refine cwB ?_
    have ⟨x2,hx2,h10⟩ := bdS h8
    have hx2g := qx hx2
    refine cwS (cwR (
     .c (uM rfl)<|
     .c (qp1 (enc := q20) (xs := a1.2.2) rfl rfl .no rfl rfl sl44 sz69 hx2g.1 hx2g.2)<|
     .c (o_ld rfl rfl .no rfl ta69 rfl rfl)<|
     .c (qh0 4 rfl rfl .no ze69 rfl)<|
     .c (uA rfl)<|
     .c (uS [] rfl sz69 rfl)<|.nil rfl) ?_)
    have ⟨x3,hx3,h11⟩ := bdS (x := qt v3.2 x2.2) h10
    refine cwS (cwR (
     .c (uM rfl)<|
     .c (uF rfl q63 rfl)<|
     .c (uL [1] rfl ta3 rfl)<|
     .c (o_inv (fun n => bif Nat.beq n 0 then 0 else 5) rfl rfl .no rfl Try.func23 rfl rfl rfl q74 (qg0 hx3) (.cons rfl (.p rfl) (.cons rfl .d .nil)) (by decide) (qJ2 [1] rfl ⟨(by simp [AV.live,AV.lives,lk,Nat.beq]),trivial,trivial⟩ ⟨⟨rfl,(OD.dat_live (q9 _))⟩,trivial⟩ rfl rfl rfl ⟨rfl,trivial⟩ rfl) (.inl rfl))<|
     .c (uM rfl)<|
     .c (uE rfl)<|
     .c (uE rfl)<|
     .c (qh0 6 rfl rfl .no ze46 rfl)<|
     .c (uS [] rfl sz46 rfl)<|
     .c (uA rfl)<|.nil rfl) ?_)
    refine cwS ?_
    refine cwS (cwR (
     .c (uM rfl)<|
     .c (uB rfl (qq3 _ _) rfl)<|.nil rfl) ?_)
    rcases cdS h11 with ⟨hc3,h12⟩ | ⟨hc3,h13⟩
    ·refine cwT rfl hc3 ?_
     have ⟨x4,hx4,h14⟩ := bdS (x := qn2 x3.2.1) h12
     refine cwS (cwR (
      .c (uM rfl)<|
      .c (qn0 rfl rfl .no Try.func44 rfl rfl (qd4 hx4) (.cons rfl .d .nil) ⟨trivial,trivial⟩ (.inl rfl))<|
      .c (uA rfl)<|.nil rfl) ?_)
     have he0 := ((hx1 _ (sJ h14)).symm).symm
     subst he0
     have heq := ((sJ h7)).symm
     subst heq
     exact qq ⟨_,(show Leads _ _ (St.of [(6,.d (eErr x4))] [(0,.own (qc x3.2.2))]) from .w (wkF ⟨wD rfl,trivial⟩ ⟨.own rfl (.of_eq rfl (q9 _)),trivial⟩ (qn rfl))),.inr rfl,_,res1 rfl rfl,rfl,rfl⟩
    refine cwF rfl hc3 ?_
    refine cwK ?_
    refine cwS (cwR (
     .c (uL [] rfl ta115 rfl)<|
     .c (qh0 7 rfl rfl .no ze115 rfl)<|
     .c (uS [] rfl sz115 rfl)<|.nil rfl) ?_)
    have ⟨o3,hj3,h15⟩ := bdS h13
    refine cwJ (fun (z : (B8 × Bool)) => St.of [(0,.ifc 24 (.ptr 0 0)),(4,.ptr 1 0),(5,.ptr 2 0),(9,.ptr 4 0),(10,.ptr 6 0),(12,.ptr 7 0),(49,.d (qH0 a1.2.2)),(50,.d (eint (a1.2.2.length : Int))),(51,.d (eint v3.1))] [(0,.own (qc x3.2.2)),(1,.box (.d (qp a1))),(2,.box (.d (qX0 a2))),(4,.box (.d (q20 x2))),(6,.box (.d (qp x3.1))),(7,.box (.d (qX0 z)))]) (fun (z : (B8 × Bool)) => o3 = z) ?_ ?_
    ·intro v4 hv3; subst hv3
     refine cwS ?_
     have ⟨o4,hj4,h16⟩ := bdS h15
     refine cwJ (fun (z : Bool) => St.of [(0,.ifc 24 (.ptr 0 0)),(4,.ptr 1 0),(5,.ptr 2 0),(10,.ptr 6 0),(12,.ptr 7 0),(49,.d (qH0 a1.2.2)),(50,.d (eint (a1.2.2.length : Int))),(51,.d (eint v3.1)),(98,.d (qQ z))] [(0,.own (qc x3.2.2)),(1,.box (.d (qp a1))),(2,.box (.d (qX0 a2))),(6,.box (.d (qp x3.1))),(7,.box (.d (qX0 o3)))]) (fun (z : Bool) => o4 = z) ?_ ?_
     ·intro v5 hv4; subst hv4
      rcases cdS h16 with ⟨hc4,h17⟩ | ⟨hc4,h18⟩
      ·refine cwT rfl hc4 ?_
       refine cwS (cwR (
        .c (uA rfl)<|.nil rfl) ?_)
       have he1 := ((hx1 _ (sJ h17)).symm).symm
       subst he1
       have heq := ((sJ h7)).symm
       subst heq
       exact qq ⟨_,(show Leads _ _ (St.of [(6,.d (eErr 12))] [(0,.own (qc x3.2.2))]) from .w (wkF ⟨wD rfl,trivial⟩ ⟨.own rfl (.of_eq rfl (q9 _)),trivial⟩ (qn rfl))),.inr rfl,_,res1 rfl rfl,rfl,rfl⟩
      refine cwF rfl hc4 ?_
      refine cwK ?_
      have ⟨x5,hx5,h19⟩ := bdS (x := self x3.2.2 x3.1 o3) h18
      refine cwS (cwR (
       .c (uM rfl)<|
       .c (uL [] rfl ta46 rfl)<|
       .c (uL [] rfl ta115 rfl)<|
       .c (qC (fun _ => 0) rfl rfl .no Try.func45 rfl rfl (self_ok hx5) (.cons rfl (.ip rfl) (.cons rfl .d (.cons rfl .d .nil))) (qI rfl ⟨(by simp [AV.live,lk,Nat.beq]),trivial,trivial,trivial⟩ rfl (OD.dat_live (q9 _)) (by simp)) (.inl rfl))<|
       .c (uA rfl)<|.nil rfl) ?_)
      refine cwS (cwR (
       .c (uM rfl)<|
       .c (uB rfl (qq3 _ _) rfl)<|.nil rfl) ?_)
      rcases cdS h19 with ⟨hc5,h20⟩ | ⟨hc5,h21⟩
      ·refine cwT rfl hc5 ?_
       refine cwS (cwR (
        .c (uM rfl)<|
        .c (uA rfl)<|.nil rfl) ?_)
       have he2 := ((hx1 _ (sJ h20)).symm).symm
       subst he2
       have heq := ((sJ h7)).symm
       subst heq
       exact qq ⟨_,(show Leads _ _ (St.of [(6,.d (eErr x5.1))] [(0,.own (qc x5.2))]) from .w (wkF ⟨wD rfl,trivial⟩ ⟨.own rfl (.of_eq rfl (q9 _)),trivial⟩ (qn rfl))),.inr rfl,_,res1 rfl rfl,rfl,rfl⟩
      refine cwF rfl hc5 ?_
      refine cwK ?_
      refine cwR (
       .c (uB rfl (qC0 _ _) rfl)<|
       .c (uM rfl)<|.nil rfl
      ) ?_
      exact ⟨((IntKind.wrap .i64 (v3.1 + 1)),x5.2),(sJ h21),.w (wkF ⟨⟨_,rfl,.ifc (.ptro rfl rfl)⟩,⟨_,rfl,.ptr rfl rfl⟩,⟨_,rfl,.ptr rfl rfl⟩,wD rfl,wD rfl,wD rfl,trivial⟩ ⟨.own rfl (.of_eq rfl (q9 _)),.box rfl (.d rfl),.box rfl (.d rfl),trivial⟩ (qn rfl))⟩
     rcases cdS hj4 with ⟨hc6,h22⟩ | ⟨hc6,h23⟩
     ·skip
      refine cwRA mixed (by kernel_rfl) (
       .c (uF rfl ql1 rfl)<|
       .c (uL [0] rfl ta3 rfl)<|
       .c (uF rfl ql1 rfl)<|
       .c (uL [0] rfl ta3 rfl)<|
       .c (uB rfl (qs3 _ _) rfl)<|
       .c (uB rfl (qq3 _ _) rfl)<|
       .c (uM rfl)<|
       .c (uN rfl rfl hc6)<|
       .c (uN rfl rfl hc6)<|
       .c (uN rfl rfl hc6)<|
       .c (uN rfl rfl hc6)<|
       .c (uN rfl rfl hc6)<|
       .c (uPT rfl hc6)<|
       .c (uM rfl)<|
       .c (uN rfl rfl rfl)<|
       .c (uN rfl rfl rfl)<|
       .c (uPT rfl rfl)<|.nil rfl) (by kernel_rfl) ?_
      exact ⟨true,(sJ h22),.w (wkF ⟨⟨_,rfl,.ifc (.ptro rfl rfl)⟩,⟨_,rfl,.ptr rfl rfl⟩,⟨_,rfl,.ptr rfl rfl⟩,⟨_,rfl,.ptr rfl rfl⟩,⟨_,rfl,.ptr rfl rfl⟩,wD rfl,wD rfl,wD rfl,wD rfl,trivial⟩ ⟨.own rfl (.of_eq rfl (q9 _)),.box rfl (.d rfl),.box rfl (.d rfl),.box rfl (.d rfl),.box rfl (.d rfl),trivial⟩ (qn rfl))⟩
     have ⟨x6,hx6,h24⟩ := bdS (x := q42 x3.1) h23
     rcases cdS h24 with ⟨hc7,h25⟩ | ⟨hc7,h26⟩
     ·skip
      refine cwRA mixed (by kernel_rfl) (
       .c (uF rfl ql1 rfl)<|
       .c (uL [0] rfl ta3 rfl)<|
       .c (uF rfl ql1 rfl)<|
       .c (uL [0] rfl ta3 rfl)<|
       .c (uB rfl (qs3 _ _) rfl)<|
       .c (uB rfl (qq3 _ _) rfl)<|
       .c (uM rfl)<|
       .c (qD [] rfl rfl (.yes rfl rfl hc6) rfl rfl rfl ta46 rfl rfl)<|
       .c (qn0 rfl rfl (.yes rfl rfl hc6) Try.func67 rfl rfl (node_First_ok hx6) (.cons rfl .d .nil) ⟨trivial,trivial⟩ (.inl rfl))<|
       .c (qo rfl rfl (.yes rfl rfl hc6) rfl qW3 (by decide))<|
       .c (qD [0] rfl rfl (.yes rfl rfl hc6) rfl rfl rfl ta31 rfl rfl)<|
       .c (o_ne rfl rfl (.yes rfl rfl hc6) rfl rfl rfl rfl eg31 (.bs ar31 un5 sz5))<|
       .c (uPF rfl hc6)<|
       .c (uM rfl)<|
       .c (uN rfl rfl hc7)<|
       .c (uN rfl rfl hc7)<|
       .c (uPT rfl hc7)<|.nil rfl) (by kernel_rfl) ?_
      exact ⟨true,(sJ h25),.w (wkF ⟨⟨_,rfl,.ifc (.ptro rfl rfl)⟩,⟨_,rfl,.ptr rfl rfl⟩,⟨_,rfl,.ptr rfl rfl⟩,⟨_,rfl,.ptr rfl rfl⟩,⟨_,rfl,.ptr rfl rfl⟩,wD rfl,wD rfl,wD rfl,wD rfl,trivial⟩ ⟨.own rfl (.of_eq rfl (q9 _)),.box rfl (.d rfl),.box rfl (.d rfl),.box rfl (.d rfl),.box rfl (.d rfl),trivial⟩ (qn rfl))⟩
     have ⟨x7,hx7,h27⟩ := bdS (x := qM4 x3.1) h26
     refine cwRA mixed (by kernel_rfl) (
      .c (uF rfl ql1 rfl)<|
      .c (uL [0] rfl ta3 rfl)<|
      .c (uF rfl ql1 rfl)<|
      .c (uL [0] rfl ta3 rfl)<|
      .c (uB rfl (qs3 _ _) rfl)<|
      .c (uB rfl (qq3 _ _) rfl)<|
      .c (uM rfl)<|
      .c (qD [] rfl rfl (.yes rfl rfl hc6) rfl rfl rfl ta46 rfl rfl)<|
      .c (qn0 rfl rfl (.yes rfl rfl hc6) Try.func67 rfl rfl (node_First_ok hx6) (.cons rfl .d .nil) ⟨trivial,trivial⟩ (.inl rfl))<|
      .c (qo rfl rfl (.yes rfl rfl hc6) rfl qW3 (by decide))<|
      .c (qD [0] rfl rfl (.yes rfl rfl hc6) rfl rfl rfl ta31 rfl rfl)<|
      .c (o_ne rfl rfl (.yes rfl rfl hc6) rfl rfl rfl rfl eg31 (.bs ar31 un5 sz5))<|
      .c (uPF rfl hc6)<|
      .c (uM rfl)<|
      .c (qD [] rfl rfl (.yes rfl rfl hc7) rfl rfl rfl ta46 rfl rfl)<|
      .c (qn0 rfl rfl (.yes rfl rfl hc7) Try.func68 rfl rfl (tree_few_ok hx7) (.cons rfl .d .nil) ⟨trivial,trivial⟩ (.inl rfl))<|
      .c (uPF rfl hc7)<|.nil rfl) (by kernel_rfl) ?_
     exact ⟨x7,(sJ h27),.w (wkF ⟨⟨_,rfl,.ifc (.ptro rfl rfl)⟩,⟨_,rfl,.ptr rfl rfl⟩,⟨_,rfl,.ptr rfl rfl⟩,⟨_,rfl,.ptr rfl rfl⟩,⟨_,rfl,.ptr rfl rfl⟩,wD rfl,wD rfl,wD rfl,wD rfl,trivial⟩ ⟨.own rfl (.of_eq rfl (q9 _)),.box rfl (.d rfl),.box rfl (.d rfl),.box rfl (.d rfl),.box rfl (.d rfl),trivial⟩ (qn rfl))⟩
    refine cwS (cwR (
     .c (uM rfl)<|
     .c (uB rfl (qC0 _ _) rfl)<|
     .c (uF rfl qN0 rfl)<|
     .c (uL [2] rfl ta44 rfl)<|
     .c (qT (enc := q20) (xs := a1.2.2) rfl rfl .no rfl sl44)<|
     .c (uB rfl (qB0 _ _) rfl)<|.nil rfl) ?_)
    rcases cdS hj3 with ⟨hc8,h28⟩ | ⟨hc8,h29⟩
    ·refine cwT rfl hc8 ?_
     have ⟨x8,hx8,h30⟩ := bdS h28
     have hx8g := qx hx8
     refine cwR (
      .c (uF rfl qN0 rfl)<|
      .c (uL [2] rfl ta44 rfl)<|
      .c (uM rfl)<|
      .c (uB rfl (qC0 _ _) rfl)<|
      .c (qp1 (enc := q20) (xs := a1.2.2) rfl rfl .no rfl rfl sl44 sz69 hx8g.1 hx8g.2)<|
      .c (qq2 rfl rfl .no rfl qW3 (by decide) rfl rfl)<|
      .c (o_ld rfl rfl .no rfl ta31 rfl rfl)<|
      .c (qd5 (ds := [eK x8.1,qQ true]) rfl rfl .no zs115 rfl pl115 (.cons rfl rfl rfl rfl rfl rfl rfl (.cons rfl rfl rfl rfl rfl rfl rfl .nil)))<|
      .c (uS [] rfl sz115 rfl)<|.nil rfl
     ) ?_
     exact ⟨(x8.1,true),(sJ h30),.w (wkF ⟨⟨_,rfl,.ifc (.ptro rfl rfl)⟩,⟨_,rfl,.ptr rfl rfl⟩,⟨_,rfl,.ptr rfl rfl⟩,⟨_,rfl,.ptr rfl rfl⟩,⟨_,rfl,.ptr rfl rfl⟩,⟨_,rfl,.ptr rfl rfl⟩,wD rfl,wD rfl,wD rfl,trivial⟩ ⟨.own rfl (.of_eq rfl (q9 _)),.box rfl (.d rfl),.box rfl (.d rfl),.box rfl (.d rfl),.box rfl (.d rfl),.box rfl (.d rfl),trivial⟩ (qn rfl))⟩
    refine cwF rfl hc8 ?_
    refine cwK ?_
    exact ⟨a2,(sJ h29),.w (wkF ⟨⟨_,rfl,.ifc (.ptro rfl rfl)⟩,⟨_,rfl,.ptr rfl rfl⟩,⟨_,rfl,.ptr rfl rfl⟩,⟨_,rfl,.ptr rfl rfl⟩,⟨_,rfl,.ptr rfl rfl⟩,⟨_,rfl,.ptr rfl rfl⟩,wD rfl,wD rfl,wD rfl,trivial⟩ ⟨.own rfl (.of_eq rfl (q9 _)),.box rfl (.d rfl),.box rfl (.d rfl),.box rfl (.d rfl),.box rfl (.d rfl),.box rfl (.d rfl),trivial⟩ (qn rfl))⟩
   refine cwF rfl hc2 ?_
   refine qP ?_
   exact ⟨v3.2,(hx1 _ (sJ h9)).symm,.w (wkF trivial ⟨.own rfl (.of_eq rfl (q9 _)),trivial⟩ (qn rfl))⟩
  rcases cdS hj1 with ⟨hc9,h31⟩ | ⟨hc9,h32⟩
  ·skip
   have ⟨x9,hx9,h33⟩ := bdS (x := qu o0 a2.1) h31
   refine cwR (
    .c (uF rfl fld115_1 rfl)<|
    .c (uL [1] rfl ta4 rfl)<|
    .c (uM rfl)<|
    .c (qD [] rfl rfl (.yes rfl rfl hc9) rfl rfl rfl ta31 rfl rfl)<|
    .c (qo rfl rfl (.yes rfl rfl hc9) rfl fld115_0 (by decide))<|
    .c (qD [0] rfl rfl (.yes rfl rfl hc9) rfl rfl rfl ta31 rfl rfl)<|
    .c (qn0 rfl rfl (.yes rfl rfl hc9) Try.func43 rfl rfl (qb0 hx9) (.cons rfl .d (.cons rfl .d .nil)) ⟨trivial,trivial,trivial⟩ (.inl rfl))<|
    .c (qi rfl rfl (.yes rfl rfl hc9) rfl rfl (qc5 _ _) rfl)<|
    .c (uPT rfl hc9)<|.nil rfl
   ) ?_
   exact ⟨(decide (x9 ≥ 0)),(sJ h33),.w (wkF ⟨⟨_,rfl,.ifc (.ptro rfl rfl)⟩,⟨_,rfl,.ptr rfl rfl⟩,⟨_,rfl,.ptr rfl rfl⟩,wD rfl,trivial⟩ ⟨.own rfl (.of_eq rfl (q9 _)),.box rfl (.d rfl),.box rfl (.d rfl),trivial⟩ (qn rfl))⟩
  refine cwR (
   .c (uF rfl fld115_1 rfl)<|
   .c (uL [1] rfl ta4 rfl)<|
   .c (uM rfl)<|
   .c (uN rfl rfl hc9)<|
   .c (uN rfl rfl hc9)<|
   .c (uN rfl rfl hc9)<|
   .c (uN rfl rfl hc9)<|
   .c (uN rfl rfl hc9)<|
   .c (uPF rfl hc9)<|.nil rfl
  ) ?_
  exact ⟨false,(sJ h32),.w (wkF ⟨⟨_,rfl,.ifc (.ptro rfl rfl)⟩,⟨_,rfl,.ptr rfl rfl⟩,⟨_,rfl,.ptr rfl rfl⟩,wD rfl,trivial⟩ ⟨.own rfl (.of_eq rfl (q9 _)),.box rfl (.d rfl),.box rfl (.d rfl),trivial⟩ (qn rfl))⟩
 refine cwS (cwR (
  .c (uF rfl ql1 rfl)<|
  .c (uL [0] rfl ta3 rfl)<|
  .c (uB rfl (q70 _ _) rfl)<|.nil rfl) ?_)
 rcases cdS hj0 with ⟨hc10,h34⟩ | ⟨hc10,h35⟩
 ·refine cwT rfl hc10 ?_
  have ⟨x10,hx10,h36⟩ := bdS h34
  have hx10g := qx hx10
  refine cwR (
   .c (uF rfl qV2 rfl)<|
   .c (uL [1] rfl ta34 rfl)<|
   .c (uF rfl qV2 rfl)<|
   .c (uL [1] rfl ta34 rfl)<|
   .c (qT (enc := ePr) (xs := a1.2.1) rfl rfl .no rfl sl34)<|
   .c (uB rfl (qs3 _ _) rfl)<|
   .c (qp1 (enc := ePr) (xs := a1.2.1) rfl rfl .no rfl rfl sl34 sz52 hx10g.1 hx10g.2)<|
   .c (qq2 rfl rfl .no rfl qT4 (by decide) rfl rfl)<|
   .c (o_ld rfl rfl .no rfl ta31 rfl rfl)<|
   .c (uS [] rfl sz31 rfl)<|.nil rfl
  ) ?_
  exact ⟨x10.1,(sJ h36),.w (wkF ⟨⟨_,rfl,.ifc (.ptro rfl rfl)⟩,⟨_,rfl,.ptr rfl rfl⟩,⟨_,rfl,.ptr rfl rfl⟩,⟨_,rfl,.ptr rfl rfl⟩,trivial⟩ ⟨.own rfl (.of_eq rfl (q9 _)),.box rfl (.d rfl),.box rfl (.d rfl),.box rfl (.d rfl),trivial⟩ (qn rfl))⟩
 refine cwF rfl hc10 ?_
 have ⟨x11,hx11,h37⟩ := bdS h35
 have hx11g := qx hx11
 refine cwR (
  .c (uF rfl qN0 rfl)<|
  .c (uL [2] rfl ta44 rfl)<|
  .c (uF rfl qN0 rfl)<|
  .c (uL [2] rfl ta44 rfl)<|
  .c (qT (enc := q20) (xs := a1.2.2) rfl rfl .no rfl sl44)<|
  .c (uB rfl (qs3 _ _) rfl)<|
  .c (qp1 (enc := q20) (xs := a1.2.2) rfl rfl .no rfl rfl sl44 sz69 hx11g.1 hx11g.2)<|
  .c (qq2 rfl rfl .no rfl qW3 (by decide) rfl rfl)<|
  .c (o_ld rfl rfl .no rfl ta31 rfl rfl)<|
  .c (uS [] rfl sz31 rfl)<|.nil rfl
 ) ?_
 exact ⟨x11.1,(sJ h37),.w (wkF ⟨⟨_,rfl,.ifc (.ptro rfl rfl)⟩,⟨_,rfl,.ptr rfl rfl⟩,⟨_,rfl,.ptr rfl rfl⟩,⟨_,rfl,.ptr rfl rfl⟩,trivial⟩ ⟨.own rfl (.of_eq rfl (q9 _)),.box rfl (.d rfl),.box rfl (.d rfl),.box rfl (.d rfl),trivial⟩ (qn rfl))⟩
theorem qn3 : ∀ (n : Nat) {a0 : ttM} {a1 : ttN} {a2 : (B8 × Bool)} {r : (Int × ttM)},qh1 n a0 a1 a2 = some r → FnOk Try.prog 45 [.ifc 24 (.ptr 0 0),.d (qp a1),.d (qX0 a2)] 1 (lk [(0,.own (qc a0))]) (fun rr oo => rr = .d (eErr r.1) ∧ oo = lk [(0,.own (qc r.2))])
 | 0,_,_,_,_,h => nomatch h
 | n + 1,_,_,_,_,h => q04 (self := qh1 n) (fun h => qn3 n h) h
theorem tree_check_o_ok {a0 : ttM} {a1 : ttN} {a2 : (B8 × Bool)} {r : (Int × ttM)} (h : qj3 a0 a1 a2 = some r) : FnOk Try.prog 45 [.ifc 24 (.ptr 0 0),.d (qp a1),.d (qX0 a2)] 1 (lk [(0,.own (qc a0))]) (fun rr oo => rr = .d (eErr r.1) ∧ oo = lk [(0,.own (qc r.2))]) := qn3 16 h
theorem qW1 {a0 : ttM} {a1 : Int} {r : (Int × ttM)} (h : qO1 a0 a1 = some r) : FnOk Try.prog 22 [.ifc 24 (.ptr 0 0),.d (eint a1)] 1 (lk [(0,.own (qc a0))]) (fun rr oo => rr = .d (eErr r.1) ∧ oo = lk [(0,.own (qc r.2))]) := by
 refine fnO Try.func22 rfl rfl (cwP ?_)
 unfold qO1 at h
 refine cwS (cwR (
  .c (uA rfl)<|.nil rfl) ?_)
 refine cwS ?_
 refine cwS (cwR (
  .c (uM rfl)<|
  .c (uB rfl (q70 _ _) rfl)<|.nil rfl) ?_)
 rcases cdS h with ⟨hc0,h0⟩ | ⟨hc0,h1⟩
 ·refine cwT rfl hc0 ?_
  refine cwS (cwR (
   .c (uA rfl)<|.nil rfl) ?_)
  have heq := ((sJ h0)).symm
  subst heq
  exact qq ⟨_,(show Leads _ _ (St.of [(4,.d (eErr 0))] [(0,.own (qc a0))]) from .w (wkF ⟨wD rfl,trivial⟩ ⟨.own rfl (.of_eq rfl (q9 _)),trivial⟩ (qn rfl))),.inr rfl,_,res1 rfl rfl,rfl,rfl⟩
 refine cwF rfl hc0 ?_
 refine cwK ?_
 have ⟨x0,hx0,h2⟩ := bdS (x := qt a0 a1) h1
 refine cwS (cwR (
  .c (uM rfl)<|
  .c (uM rfl)<|
  .c (o_inv (fun n => bif Nat.beq n 0 then 0 else 1) rfl rfl .no rfl Try.func23 rfl rfl rfl q74 (qg0 hx0) (.cons rfl (.p rfl) (.cons rfl .d .nil)) (by decide) (qJ2 [1] rfl ⟨(by simp [AV.live,AV.lives,lk,Nat.beq]),trivial,trivial⟩ ⟨⟨rfl,(OD.dat_live (q9 _))⟩,trivial⟩ rfl rfl rfl ⟨rfl,trivial⟩ rfl) (.inl rfl))<|
  .c (uM rfl)<|
  .c (uE rfl)<|
  .c (uE rfl)<|
  .c (qh0 2 rfl rfl .no ze46 rfl)<|
  .c (uS [] rfl sz46 rfl)<|
  .c (uA rfl)<|.nil rfl) ?_)
 refine cwS ?_
 refine cwS (cwR (
  .c (uM rfl)<|
  .c (uB rfl (qq3 _ _) rfl)<|.nil rfl) ?_)
 rcases cdS h2 with ⟨hc1,h3⟩ | ⟨hc1,h4⟩
 ·refine cwT rfl hc1 ?_
  have ⟨x1,hx1,h5⟩ := bdS (x := qn2 x0.2.1) h3
  refine cwS (cwR (
   .c (uM rfl)<|
   .c (qn0 rfl rfl .no Try.func44 rfl rfl (qd4 hx1) (.cons rfl .d .nil) ⟨trivial,trivial⟩ (.inl rfl))<|
   .c (uA rfl)<|.nil rfl) ?_)
  have heq := ((sJ h5)).symm
  subst heq
  exact qq ⟨_,(show Leads _ _ (St.of [(4,.d (eErr x1))] [(0,.own (qc x0.2.2))]) from .w (wkF ⟨wD rfl,trivial⟩ ⟨.own rfl (.of_eq rfl (q9 _)),trivial⟩ (qn rfl))),.inr rfl,_,res1 rfl rfl,rfl,rfl⟩
 refine cwF rfl hc1 ?_
 refine cwK ?_
 have ⟨x2,hx2,h6⟩ := bdS (x := qj3 x0.2.2 x0.1 ((List.replicate 24 0),false)) h4
 refine cwS (cwR (
  .c (uM rfl)<|
  .c (uL [] rfl ta46 rfl)<|
  .c (qd5 (ds := [eK (List.replicate 24 0),qQ false]) rfl rfl .no zs115 rfl pl115 .nil)<|
  .c (qC (fun _ => 0) rfl rfl .no Try.func45 rfl rfl (tree_check_o_ok hx2) (.cons rfl (.ip rfl) (.cons rfl .d (.cons rfl .d .nil))) (qI rfl ⟨(by simp [AV.live,lk,Nat.beq]),trivial,trivial,trivial⟩ rfl (OD.dat_live (q9 _)) (by simp)) (.inl rfl))<|
  .c (uA rfl)<|.nil rfl) ?_)
 have heq := ((sJ h6)).symm
 subst heq
 exact qq ⟨_,(show Leads _ _ (St.of [(4,.d (eErr x2.1))] [(0,.own (qc x2.2))]) from .w (wkF ⟨wD rfl,trivial⟩ ⟨.own rfl (.of_eq rfl (q9 _)),trivial⟩ (qn rfl))),.inr rfl,_,res1 rfl rfl,rfl,rfl⟩
theorem law07_few_ok {a0 : List ttC} {a1 : Int} {a2 : Int} {r : (List ttC)} (h : qX1 a0 a1 a2 = some r) : FnOk Try.prog 16 [.d (eSC a0),.d (eint a1),.d (eint a2)] 0 (lk []) (fun rr oo => rr = .d (eSC r) ∧ oo = lk []) := by
 refine fnO Try.func16 rfl rfl (cwP ?_)
 unfold qX1 at h
 refine cwS (cwR (
  .c (uA rfl)<|.nil rfl) ?_)
 refine cwS (cwR (
  .c (o_bslO (rows := ([] : List ttC).map eCg) 0 rfl rfl .no .nil rfl sl22 sz33 ze33 rfl (qo1 q80) (by decide) rfl)<|
  .c (uA rfl)<|.nil rfl) ?_)
 have ⟨o0,hj0,h0⟩ := bdS h
 refine cwJ (fun (z : (List ttC)) => St.of [(7,.arr 0 0)] [(0,.arr 0 26 (z.map eCg))]) (fun (z : (List ttC)) => o0 = z) ?_ ?_
 ·intro v0 hv0; subst hv0
  refine cwS (cwR (
   .c (uM rfl)<|
   .c (uA rfl)<|.nil rfl) ?_)
  have heq := ((sJ h0)).symm
  subst heq
  exact qq ⟨_,(show Leads _ _ (St.of [(6,.d (eSC o0))] []) from .w (wkF ⟨⟨_,rfl,.frz rfl rfl rfl⟩,trivial⟩ trivial qE)),.inr rfl,_,res1 rfl rfl,rfl,rfl⟩
 refine cwS (cwR (
  .c (uA rfl)<|.nil rfl) ?_)
 refine cwB ?_
 refine qF (V := (Int × (List ttC))) (O := (List ttC)) (fun (z : (Int × (List ttC))) => St.of [(0,.d (eSC a0)),(1,.d (eint a1)),(2,.d (eint a2)),(7,.arr 0 0),(8,.d (eint z.1))] [(0,.arr 0 26 (z.2.map eCg))]) hj0 (.w (wkF ⟨wD rfl,wD rfl,wD rfl,⟨_,rfl,.arr rfl rfl⟩,wD rfl,trivial⟩ ⟨.arr rfl rfl,trivial⟩ qE)) ?_
 intro v1 x0 hb0 hx0
 refine cwS ?_
 have ⟨o1,hj1,h1⟩ := bdS hb0
 refine cwJ (fun (z : Bool) => St.of [(0,.d (eSC a0)),(1,.d (eint a1)),(2,.d (eint a2)),(7,.arr 0 0),(8,.d (eint v1.1)),(19,.d (qQ z))] [(0,.arr 0 26 (v1.2.map eCg))]) (fun (z : Bool) => o1 = z) ?_ ?_
 ·intro v2 hv1; subst hv1
  rcases cdS h1 with ⟨hc0,h2⟩ | ⟨hc0,h3⟩
  ·refine cwT rfl hc0 ?_
   refine cwK ?_
   refine cwS ?_
   refine cwB ?_
   have ⟨x1,hx1,h4⟩ := bdS h2
   have hx1g := qx hx1
   refine cwS (cwR (
    .c (uM rfl)<|
    .c (uM rfl)<|
    .c (qp1 (enc := eCg) (xs := a0) rfl rfl .no rfl rfl sl22 sz33 hx1g.1 hx1g.2)<|
    .c (o_ld rfl rfl .no rfl ta33 rfl rfl)<|
    .c (qh0 1 rfl rfl .no ze33 rfl)<|
    .c (uS [] rfl sz33 rfl)<|.nil rfl) ?_)
   have ⟨x2,hx2,h5⟩ := bdS h4
   have hx2g := q22 hx2
   refine cwS (cwR (
    .c (uF rfl fld33_1 rfl)<|
    .c (uL [1] rfl ta9 rfl)<|
    .c (uF rfl fld33_1 rfl)<|
    .c (uL [1] rfl ta9 rfl)<|
    .c (o_lenS rfl rfl .no rfl un9)<|
    .c (uM rfl)<|
    .c (o_min rfl rfl .no rfl rfl)<|
    .c (o_slS rfl rfl .no rfl un9 .no (.val rfl hx2g.2.1) hx2g.2.2.1 hx2g.2.2.2)<|
    .c (uF rfl fld33_1 rfl)<|
    .c (uS [1] rfl sz9 rfl)<|.nil rfl) ?_)
   have ⟨x3,hx3,h6⟩ := bdS h5
   have hx3g := q50 hx3
   refine cwR (
    .c (uM rfl)<|
    .c (uL [] rfl ta33 rfl)<|
    .c (q55 (rows := ([(x1.1,(x1.2.1.extract 0 (min (x1.2.1.size : Int) a2).toNat),x1.2.2)] : List ttC).map eCg) rfl rfl .no (.cons rfl .nil) rfl sl22 sz33 ze33 rfl (qo1 q80) (by decide))<|
    .c (q92 (enc := eCg) (xs := v1.2) (ys := [(x1.1,(x1.2.1.extract 0 (min (x1.2.1.size : Int) a2).toNat),x1.2.2)]) rfl rfl .no rfl rfl rfl q80 sl22 sl22 sz33 by33 ze33 rfl (by decide) hx3g)<|
    .c (uA rfl)<|.nil rfl
   ) ?_
   refine cwR (
    .c (uM rfl)<|
    .c (uB rfl (qC0 _ _) rfl)<|
    .c (uA rfl)<|.nil rfl
   ) ?_
   exact ⟨((IntKind.wrap .i64 (v1.1 + 1)),(v1.2 ++ [(x1.1,(x1.2.1.extract 0 (min (x1.2.1.size : Int) a2).toNat),x1.2.2)])),(sJ h6),.w (wkF ⟨wD rfl,wD rfl,wD rfl,⟨_,rfl,.arr rfl rfl⟩,wD rfl,trivial⟩ ⟨.arr0 rfl rfl rfl,trivial⟩ qE)⟩
  refine cwF rfl hc0 ?_
  refine qP ?_
  exact ⟨v1.2,(hx0 _ (sJ h3)).symm,.w (wkF ⟨⟨_,rfl,.arr rfl rfl⟩,trivial⟩ ⟨.arr rfl rfl,trivial⟩ qE)⟩
 rcases cdS hj1 with ⟨hc1,h7⟩ | ⟨hc1,h8⟩
 ·skip
  refine cwR (
   .c (uM rfl)<|
   .c (uM rfl)<|
   .c (qT (enc := eCg) (xs := a0) rfl rfl .no rfl sl22)<|
   .c (uB rfl (qB0 _ _) rfl)<|
   .c (uM rfl)<|
   .c (o_mv rfl rfl (.yes rfl rfl hc1) rfl)<|
   .c (o_mv rfl rfl (.yes rfl rfl hc1) rfl)<|
   .c (qi rfl rfl (.yes rfl rfl hc1) rfl rfl (qB0 _ _) rfl)<|
   .c (uPT rfl hc1)<|.nil rfl
  ) ?_
  exact ⟨(decide (v1.1 < a1)),(sJ h7),.w (wkF ⟨wD rfl,wD rfl,wD rfl,⟨_,rfl,.arr rfl rfl⟩,wD rfl,wD rfl,trivial⟩ ⟨.arr rfl rfl,trivial⟩ qE)⟩
 refine cwR (
  .c (uM rfl)<|
  .c (uM rfl)<|
  .c (qT (enc := eCg) (xs := a0) rfl rfl .no rfl sl22)<|
  .c (uB rfl (qB0 _ _) rfl)<|
  .c (uM rfl)<|
  .c (uN rfl rfl hc1)<|
  .c (uN rfl rfl hc1)<|
  .c (uN rfl rfl hc1)<|
  .c (uPF rfl hc1)<|.nil rfl
 ) ?_
 exact ⟨false,(sJ h8),.w (wkF ⟨wD rfl,wD rfl,wD rfl,⟨_,rfl,.arr rfl rfl⟩,wD rfl,wD rfl,trivial⟩ ⟨.arr rfl rfl,trivial⟩ qE)⟩
theorem law07_all_okc {r : ttS} (h : qh2 = some r) : FnOk Try.prog 18 [] 0 (lk []) (fun rr oo => rr = .d (eSp r) ∧ oo = lk [(0,.box (.d (eSp r)))]) := by
 refine fnO Try.func18 rfl rfl (cwP ?_)
 unfold qh2 at h
 refine cwS (cwR (
  .c (qh0 0 rfl rfl .no ze38 rfl)<|.nil rfl) ?_)
 refine cwS (cwR (
  .c (qd5 (ds := [eK (List.replicate 24 0),eK (List.replicate 24 0),qQ true]) rfl rfl .no zs38 rfl pl38 (.cons rfl rfl rfl rfl rfl rfl rfl .nil))<|
  .c (uS [] rfl sz38 rfl)<|.nil rfl) ?_)
 have heq := ((sJ h)).symm
 subst heq
 exact qq ⟨_,(show Leads _ _ (St.of [(0,.ptr 0 0)] [(0,.box (.d (eSp ((List.replicate 24 0),(List.replicate 24 0),true))))]) from .w (wkF ⟨⟨_,rfl,.ptr rfl rfl⟩,trivial⟩ ⟨.box rfl (.d rfl),trivial⟩ qE)),.inr rfl,_,resC rfl rfl rfl ta38 rfl rfl,rfl,rfl⟩
theorem qi3 {r : ttS} (h : qh2 = some r) : FnOk Try.prog 18 [] 0 (lk []) (fun rr oo => rr = .d (eSp r) ∧ oo = lk []) := qo2 (law07_all_okc h)
theorem ref07_Same_ok {a0 : List ttR} {a1 : List ttR} {r : Bool} (h : qL1 a0 a1 = some r) : FnOk Try.prog 19 [.d (eSP_ a0),.d (eSP_ a1)] 0 (lk []) (fun rr oo => rr = .d (qQ r) ∧ oo = lk []) := by
 refine fnO Try.func19 rfl rfl (cwP ?_)
 unfold qL1 at h
 refine cwS (cwR (
  .c (uA rfl)<|.nil rfl) ?_)
 refine cwS ?_
 refine cwS (cwR (
  .c (uM rfl)<|
  .c (qT (enc := ePr) (xs := a0) rfl rfl .no rfl sl34)<|
  .c (uM rfl)<|
  .c (qT (enc := ePr) (xs := a1) rfl rfl .no rfl sl34)<|
  .c (uB rfl (qq3 _ _) rfl)<|.nil rfl) ?_)
 rcases cdS h with ⟨hc0,h0⟩ | ⟨hc0,h1⟩
 ·refine cwT rfl hc0 ?_
  refine cwS (cwR (
   .c (uA rfl)<|.nil rfl) ?_)
  have heq := ((sJ h0)).symm
  subst heq
  exact qq ⟨_,(show Leads _ _ (St.of [(4,.d (qQ false))] []) from .w (wkF ⟨wD rfl,trivial⟩ trivial qE)),.inr rfl,_,res1 rfl rfl,rfl,rfl⟩
 refine cwF rfl hc0 ?_
 refine cwK ?_
 have ⟨o0,hj0,h2⟩ := bdS h1
 refine cwJ (fun (z : Unit) => St.of [] []) (fun (z : Unit) => o0 = (.inl z)) ?_ ?_
 ·intro v0 hv0; subst hv0
  simp only [Sum.elim_inl] at h2
  refine cwS (cwR (
   .c (uA rfl)<|.nil rfl) ?_)
  have heq := ((sJ h2)).symm
  subst heq
  exact qq ⟨_,(show Leads _ _ (St.of [(4,.d (qQ true))] []) from .w (wkF ⟨wD rfl,trivial⟩ trivial qE)),.inr rfl,_,res1 rfl rfl,rfl,rfl⟩
 refine cwS (cwR (
  .c (uA rfl)<|.nil rfl) ?_)
 refine cwB ?_
 refine qF (V := Int) (O := (Unit ⊕ Bool)) (fun (z : Int) => St.of [(0,.d (eSP_ a0)),(1,.d (eSP_ a1)),(5,.d (eint z))] []) hj0 (.w (wkF ⟨wD rfl,wD rfl,wD rfl,trivial⟩ trivial qE)) ?_
 intro v1 x0 hb0 hx0
 refine cwS ?_
 refine cwS (cwR (
  .c (uM rfl)<|
  .c (uM rfl)<|
  .c (qT (enc := ePr) (xs := a0) rfl rfl .no rfl sl34)<|
  .c (uB rfl (qB0 _ _) rfl)<|.nil rfl) ?_)
 rcases cdS hb0 with ⟨hc1,h3⟩ | ⟨hc1,h4⟩
 ·refine cwT rfl hc1 ?_
  refine cwK ?_
  refine cwS ?_
  refine cwB ?_
  have ⟨x1,hx1,h5⟩ := bdS h3
  have hx1g := qx hx1
  have ⟨x2,hx2,h6⟩ := bdS h5
  have hx2g := qx hx2
  refine cwS (cwRA mixed (by kernel_rfl) (
   .c (uM rfl)<|
   .c (uM rfl)<|
   .c (qp1 (enc := ePr) (xs := a0) rfl rfl .no rfl rfl sl34 sz52 hx1g.1 hx1g.2)<|
   .c (o_ld rfl rfl .no rfl ta52 rfl rfl)<|
   .c (uM rfl)<|
   .c (uM rfl)<|
   .c (qp1 (enc := ePr) (xs := a1) rfl rfl .no rfl rfl sl34 sz52 hx2g.1 hx2g.2)<|
   .c (o_ld rfl rfl .no rfl ta52 rfl rfl)<|
   .c (o_ne rfl rfl .no rfl rfl rfl rfl eg52 (.st flds52 (.cons ta31 rfl rfl rfl rfl (.bs ar31 un5 sz5) (.cons ta9 rfl rfl rfl rfl (.str un9) .nil))))<|.nil rfl) (by kernel_rfl) ?_)
  rcases cdS h6 with ⟨hc2,h7⟩ | ⟨hc2,h8⟩
  ·refine cwT rfl hc2 ?_
   refine cwS (cwR (
    .c (uA rfl)<|.nil rfl) ?_)
   have he0 := ((hx0 _ (sJ h7)).symm).symm
   subst he0
   have heq := ((sJ h2)).symm
   subst heq
   exact qq ⟨_,(show Leads _ _ (St.of [(4,.d (qQ false))] []) from .w (wkF ⟨wD rfl,trivial⟩ trivial qE)),.inr rfl,_,res1 rfl rfl,rfl,rfl⟩
  refine cwF rfl hc2 ?_
  refine cwK ?_
  refine cwR (
   .c (uM rfl)<|
   .c (uB rfl (qC0 _ _) rfl)<|
   .c (uA rfl)<|.nil rfl
  ) ?_
  exact ⟨(IntKind.wrap .i64 (v1 + 1)),(sJ h8),.w (wkF ⟨wD rfl,wD rfl,wD rfl,trivial⟩ trivial qE)⟩
 refine cwF rfl hc1 ?_
 refine qP ?_
 exact ⟨(),(hx0 _ (sJ h4)).symm,.w (wkF trivial trivial qE)⟩
theorem tree_below_1_ok {a0 : Int} {c0 : ttN} {c1 : List UInt8} {r : Bool} (h : qQ1 a0 c0 c1 = some r) : FnOk Try.prog 72 [.d (eint a0),.ptr 0 0,.ptr 1 0] 2 (lk [(0,.box (.d (qp c0))),(1,.box (.d (eK c1)))]) (fun rr oo => rr = .d (qQ r) ∧ oo = lk [(0,.box (.d (qp c0))),(1,.box (.d (eK c1)))]) := by
 refine fnO Try.func72 rfl rfl (cwP ?_)
 unfold qQ1 at h
 refine cwS (cwR (
  .c (uA rfl)<|.nil rfl) ?_)
 have ⟨x0,hx0,h0⟩ := bdS h
 have hx0g := qx hx0
 have ⟨x1,hx1,h1⟩ := bdS (x := qu x0.1 c1) h0
 refine cwS (cwRA mixed (by kernel_rfl) (
  .c (uF rfl qN0 rfl)<|
  .c (uL [2] rfl ta44 rfl)<|
  .c (uM rfl)<|
  .c (qp1 (enc := q20) (xs := c0.2.2) rfl rfl .no rfl rfl sl44 sz69 hx0g.1 hx0g.2)<|
  .c (qq2 rfl rfl .no rfl qW3 (by decide) rfl rfl)<|
  .c (o_ld rfl rfl .no rfl ta31 rfl rfl)<|
  .c (uL [] rfl ta31 rfl)<|
  .c (qn0 rfl rfl .no Try.func43 rfl rfl (qb0 hx1) (.cons rfl .d (.cons rfl .d .nil)) ⟨trivial,trivial,trivial⟩ (.inl rfl))<|
  .c (uB rfl (qg3 _ _) rfl)<|
  .c (uA rfl)<|.nil rfl) (by kernel_rfl) ?_)
 have heq := ((sJ h1)).symm
 subst heq
 exact qq ⟨_,(show Leads _ _ (St.of [(4,.d (qQ (decide (x1 > 0))))] [(0,.box (.d (qp c0))),(1,.box (.d (eK c1)))]) from .w (wkF ⟨wD rfl,trivial⟩ ⟨.box rfl (.d rfl),.box rfl (.d rfl),trivial⟩ (qn rfl))),.inr rfl,_,res1 rfl rfl,rfl,rfl⟩
theorem sort_Search_zB_ok {a0 : Int} {c0 : ttN} {c1 : List UInt8} {r : Int} (h : qB1 a0 c0 c1 = some r) : FnOk Try.prog 71 [.d (eint a0),.fn 72 [] [.ptr 0 0,.ptr 1 0]] 2 (lk [(0,.box (.d (qp c0))),(1,.box (.d (eK c1)))]) (fun rr oo => rr = .d (eint r) ∧ oo = lk [(0,.box (.d (qp c0))),(1,.box (.d (eK c1)))]) := by
 refine fnO Try.func71 rfl rfl (cwP ?_)
 unfold qB1 at h
 refine cwS (cwR (
  .c (uA rfl)<|.nil rfl) ?_)
 refine cwS (cwR (
  .c (uM rfl)<|
  .c (uA rfl)<|
  .c (uA rfl)<|.nil rfl) ?_)
 have ⟨o0,hj0,h0⟩ := bdS h
 refine cwJ (fun (z : Int) => St.of [(5,.d (eint z))] [(0,.box (.d (qp c0))),(1,.box (.d (eK c1)))]) (fun (z : Int) => o0 = z) ?_ ?_
 ·intro v0 hv0; subst hv0
  refine cwS (cwR (
   .c (uM rfl)<|
   .c (uA rfl)<|.nil rfl) ?_)
  have heq := ((sJ h0)).symm
  subst heq
  exact qq ⟨_,(show Leads _ _ (St.of [(4,.d (eint o0))] [(0,.box (.d (qp c0))),(1,.box (.d (eK c1)))]) from .w (wkF ⟨wD rfl,trivial⟩ ⟨.box rfl (.d rfl),.box rfl (.d rfl),trivial⟩ (qn rfl))),.inr rfl,_,res1 rfl rfl,rfl,rfl⟩
 refine cwB ?_
 refine qF (V := (Int × Int)) (O := Int) (fun (z : (Int × Int)) => St.of [(1,.fn 72 [] [.ptr 0 0,.ptr 1 0]),(5,.d (eint z.1)),(6,.d (eint z.2))] [(0,.box (.d (qp c0))),(1,.box (.d (eK c1)))]) hj0 (.w (wkF ⟨⟨_,rfl,.fn .nil (.cons (.ptr rfl rfl) (.cons (.ptr rfl rfl) .nil))⟩,wD rfl,wD rfl,trivial⟩ ⟨.box rfl (.d rfl),.box rfl (.d rfl),trivial⟩ (qn rfl))) ?_
 intro v1 x0 hb0 hx0
 refine cwS ?_
 refine cwS (cwR (
  .c (uM rfl)<|
  .c (uM rfl)<|
  .c (uB rfl (qB0 _ _) rfl)<|.nil rfl) ?_)
 rcases cdS hb0 with ⟨hc0,h1⟩ | ⟨hc0,h2⟩
 ·refine cwT rfl hc0 ?_
  refine cwK ?_
  refine cwB ?_
  refine cwS (cwR (
   .c (uM rfl)<|
   .c (uM rfl)<|
   .c (uB rfl (qC0 _ _) rfl)<|
   .c (qD4 rfl rfl .no rfl un3 un82)<|
   .c (uB rfl (b_shr _ _ (by decide)) rfl)<|
   .c (qD4 rfl rfl .no rfl un82 un3)<|
   .c (uA rfl)<|.nil rfl) ?_)
  have ⟨x1,hx1,h3⟩ := bdS (x := qQ1 (IntKind.wrap .i64 (Int.fdiv (IntKind.wrap .u64 (IntKind.wrap .i64 (v1.1 + v1.2))) (2 ^ 1))) c0 c1) h1
  refine cwS (cwR (
   .c (uM rfl)<|
   .c (uM rfl)<|
   .c (o_callVX (ys := [.d (eint (IntKind.wrap .i64 (Int.fdiv (IntKind.wrap .u64 (IntKind.wrap .i64 (v1.1 + v1.2))) (2 ^ 1))))]) (zs := [.ptr 0 0,.ptr 1 0]) (fun n => bif Nat.beq n 0 then 0 else 1) rfl rfl .no rfl rfl Try.func72 rfl rfl (tree_below_1_ok hx1) (.cons rfl .d .nil) (qJ2 [] rfl ⟨trivial,(by simp [AV.live,AV.lives,lk,Nat.beq]),(by simp [AV.live,AV.lives,lk,Nat.beq]),trivial⟩ ⟨⟨rfl,trivial⟩,⟨rfl,trivial⟩,trivial⟩ rfl rfl rfl trivial rfl) (.inl rfl))<|
   .c (uT rfl)<|.nil rfl) ?_)
  rcases cdS h3 with ⟨hc1,h4⟩ | ⟨hc1,h5⟩
  ·refine cwT rfl hc1 ?_
   refine cwR (
    .c (uM rfl)<|
    .c (uB rfl (qC0 _ _) rfl)<|
    .c (uA rfl)<|.nil rfl
   ) ?_
   exact ⟨((IntKind.wrap .i64 ((IntKind.wrap .i64 (Int.fdiv (IntKind.wrap .u64 (IntKind.wrap .i64 (v1.1 + v1.2))) (2 ^ 1))) + 1)),v1.2),(sJ h4),.w (wkF ⟨⟨_,rfl,.fn .nil (.cons (.ptr rfl rfl) (.cons (.ptr rfl rfl) .nil))⟩,wD rfl,wD rfl,trivial⟩ ⟨.box rfl (.d rfl),.box rfl (.d rfl),trivial⟩ (qn rfl))⟩
  refine cwF rfl hc1 ?_
  refine cwR (
   .c (uM rfl)<|
   .c (uA rfl)<|.nil rfl
  ) ?_
  exact ⟨(v1.1,(IntKind.wrap .i64 (Int.fdiv (IntKind.wrap .u64 (IntKind.wrap .i64 (v1.1 + v1.2))) (2 ^ 1)))),(sJ h5),.w (wkF ⟨⟨_,rfl,.fn .nil (.cons (.ptr rfl rfl) (.cons (.ptr rfl rfl) .nil))⟩,wD rfl,wD rfl,trivial⟩ ⟨.box rfl (.d rfl),.box rfl (.d rfl),trivial⟩ (qn rfl))⟩
 refine cwF rfl hc0 ?_
 refine qP ?_
 exact ⟨v1.1,(hx0 _ (sJ h2)).symm,.w (wkF ⟨wD rfl,trivial⟩ ⟨.box rfl (.d rfl),.box rfl (.d rfl),trivial⟩ (qn rfl))⟩
theorem tree_below_ok {a0 : ttN} {a1 : List UInt8} {r : Int} (h : qw2 a0 a1 = some r) : FnOk Try.prog 48 [.d (qp a0),.d (eK a1)] 0 (lk []) (fun rr oo => rr = .d (eint r) ∧ oo = lk []) := by
 refine fnO Try.func48 rfl rfl (cwP ?_)
 unfold qw2 at h
 refine cwS (cwR (
  .c (uX 0 rfl)<|
  .c (uX 1 rfl)<|
  .c (uA rfl)<|.nil rfl) ?_)
 have ⟨x0,hx0,h0⟩ := bdS (x := qB1 (a0.2.2.length : Int) a0 a1) h
 refine cwS (cwR (
  .c (uF rfl qN0 rfl)<|
  .c (uL [2] rfl ta44 rfl)<|
  .c (qT (enc := q20) (xs := a0.2.2) rfl rfl .no rfl sl44)<|
  .c (o_fn2 rfl rfl .no rfl rfl)<|
  .c (qC (fun n => bif Nat.beq n 0 then 0 else 1) rfl rfl .no Try.func71 rfl rfl (sort_Search_zB_ok hx0) (.cons rfl .d (.cons rfl (.re rfl) .nil)) (qJ2 [] rfl ⟨trivial,(by simp [AV.live,AV.lives,lk,Nat.beq]),trivial⟩ ⟨⟨rfl,trivial⟩,⟨rfl,trivial⟩,trivial⟩ rfl rfl rfl trivial rfl) (.inl rfl))<|
  .c (uB rfl (qs3 _ _) rfl)<|
  .c (o_max rfl rfl .no rfl rfl)<|
  .c (uA rfl)<|.nil rfl) ?_)
 have heq := ((sJ h0)).symm
 subst heq
 exact qq ⟨_,(show Leads _ _ (St.of [(4,.d (eint (max (IntKind.wrap .i64 (x0 - 1)) 0)))] []) from .w (wkF ⟨wD rfl,trivial⟩ trivial qE)),.inr rfl,_,res1 rfl rfl,rfl,rfl⟩
theorem tree_Get_o_ok {a0 : ttM} {a1 : Int} {a2 : List UInt8} {r : (ByteArray × Bool × Int × ttM)} (h : qH1 a0 a1 a2 = some r) : FnOk Try.prog 24 [.ifc 24 (.ptr 0 0),.d (eint a1),.d (eK a2)] 1 (lk [(0,.own (qc a0))]) (fun rr oo => rr = .tup [.d (eStr r.1),.d (qQ r.2.1),.d (eErr r.2.2.1)] ∧ oo = lk [(0,.own (qc r.2.2.2))]) := by
 refine fnO Try.func24 rfl rfl (cwP ?_)
 unfold qH1 at h
 refine cwS (cwR (
  .c (uX 1 rfl)<|
  .c (uA rfl)<|
  .c (uA rfl)<|
  .c (uA rfl)<|.nil rfl) ?_)
 have ⟨o0,hj0,h0⟩ := bdS h
 refine cwJ (fun (z : ttM) => St.of [] [(0,.own (qc z))]) (fun (z : ttM) => o0 = (.inl z)) ?_ ?_
 ·intro v0 hv0; subst hv0
  simp only [Sum.elim_inl] at h0
  refine cwS (cwR (
   .c (uA rfl)<|
   .c (uA rfl)<|
   .c (uA rfl)<|.nil rfl) ?_)
  have heq := ((sJ h0)).symm
  subst heq
  exact qq ⟨_,(show Leads _ _ (St.of [(6,.d (eStr (ByteArray.mk #[]))),(7,.d (qQ false)),(8,.d (eErr 0))] [(0,.own (qc v0))]) from .w (wkF ⟨wD rfl,wD rfl,wD rfl,trivial⟩ ⟨.own rfl (.of_eq rfl (q9 _)),trivial⟩ (qn rfl))),.inr rfl,_,res3 rfl rfl rfl rfl,rfl,rfl⟩
 refine cwS (cwR (
  .c (uM rfl)<|
  .c (uA rfl)<|.nil rfl) ?_)
 refine cwB ?_
 refine qF (V := (Int × ttM)) (O := (ttM ⊕ (ByteArray × Bool × Int × ttM))) (fun (z : (Int × ttM)) => St.of [(0,.ifc 24 (.ptr 0 0)),(5,.ptr 1 0),(9,.d (eint z.1))] [(0,.own (qc z.2)),(1,.box (.d (eK a2)))]) hj0 (.w (wkF ⟨⟨_,rfl,.ifc (.ptro rfl rfl)⟩,⟨_,rfl,.ptr rfl rfl⟩,wD rfl,trivial⟩ ⟨.own rfl (.of_eq rfl (q9 _)),.box rfl (.d rfl),trivial⟩ (qn rfl))) ?_
 intro v1 x0 hb0 hx0
 refine cwS ?_
 refine cwS (cwR (
  .c (uM rfl)<|
  .c (uB rfl (qq3 _ _) rfl)<|.nil rfl) ?_)
 rcases cdS hb0 with ⟨hc0,h1⟩ | ⟨hc0,h2⟩
 ·refine cwT rfl hc0 ?_
  refine cwK ?_
  refine cwB ?_
  have ⟨x1,hx1,h3⟩ := bdS (x := qt v1.2 v1.1) h1
  refine cwS (cwR (
   .c (uM rfl)<|
   .c (uM rfl)<|
   .c (o_inv (fun n => bif Nat.beq n 0 then 0 else 2) rfl rfl .no rfl Try.func23 rfl rfl rfl q74 (qg0 hx1) (.cons rfl (.p rfl) (.cons rfl .d .nil)) (by decide) (qJ2 [1] rfl ⟨(by simp [AV.live,AV.lives,lk,Nat.beq]),trivial,trivial⟩ ⟨⟨rfl,(OD.dat_live (q9 _))⟩,trivial⟩ rfl rfl rfl ⟨rfl,trivial⟩ rfl) (.inl rfl))<|
   .c (uM rfl)<|
   .c (uE rfl)<|
   .c (uE rfl)<|
   .c (qh0 3 rfl rfl .no ze46 rfl)<|
   .c (uS [] rfl sz46 rfl)<|
   .c (uA rfl)<|.nil rfl) ?_)
  refine cwS ?_
  refine cwS (cwR (
   .c (uM rfl)<|
   .c (uB rfl (qq3 _ _) rfl)<|.nil rfl) ?_)
  rcases cdS h3 with ⟨hc1,h4⟩ | ⟨hc1,h5⟩
  ·refine cwT rfl hc1 ?_
   refine cwS (cwR (
    .c (uM rfl)<|
    .c (uA rfl)<|
    .c (uA rfl)<|
    .c (uA rfl)<|.nil rfl) ?_)
   have he0 := ((hx0 _ (sJ h4)).symm).symm
   subst he0
   have heq := ((sJ h0)).symm
   subst heq
   exact qq ⟨_,(show Leads _ _ (St.of [(6,.d (eStr (ByteArray.mk #[]))),(7,.d (qQ false)),(8,.d (eErr x1.2.1))] [(0,.own (qc x1.2.2))]) from .w (wkF ⟨wD rfl,wD rfl,wD rfl,trivial⟩ ⟨.own rfl (.of_eq rfl (q9 _)),trivial⟩ (qn rfl))),.inr rfl,_,res3 rfl rfl rfl rfl,rfl,rfl⟩
  refine cwF rfl hc1 ?_
  refine cwK ?_
  refine cwS ?_
  refine cwS (cwR (
   .c (uF rfl qN0 rfl)<|
   .c (uL [2] rfl ta44 rfl)<|
   .c (qT (enc := q20) (xs := x1.1.2.2) rfl rfl .no rfl sl44)<|
   .c (uB rfl (qg3 _ _) rfl)<|.nil rfl) ?_)
  rcases cdS h5 with ⟨hc2,h6⟩ | ⟨hc2,h7⟩
  ·refine cwT rfl hc2 ?_
   have ⟨x2,hx2,h8⟩ := bdS (x := qw2 x1.1 a2) h6
   have ⟨x3,hx3,h9⟩ := bdS h8
   have hx3g := qx hx3
   refine cwS (cwRA mixed (by kernel_rfl) (
    .c (uF rfl qN0 rfl)<|
    .c (uL [2] rfl ta44 rfl)<|
    .c (uL [] rfl ta46 rfl)<|
    .c (uL [] rfl ta31 rfl)<|
    .c (qn0 rfl rfl .no Try.func48 rfl rfl (tree_below_ok hx2) (.cons rfl .d (.cons rfl .d .nil)) ⟨trivial,trivial,trivial⟩ (.inl rfl))<|
    .c (qp1 (enc := q20) (xs := x1.1.2.2) rfl rfl .no rfl rfl sl44 sz69 hx3g.1 hx3g.2)<|
    .c (qq2 rfl rfl .no rfl q63 (by decide) rfl rfl)<|
    .c (o_ld rfl rfl .no rfl ta3 rfl rfl)<|
    .c (uA rfl)<|.nil rfl) (by kernel_rfl) ?_)
   refine qP ?_
   exact ⟨(x3.2,x1.2.2),(sJ h9),.w (wkF ⟨⟨_,rfl,.ifc (.ptro rfl rfl)⟩,⟨_,rfl,.ptr rfl rfl⟩,wD rfl,trivial⟩ ⟨.own rfl (.of_eq rfl (q9 _)),.box rfl (.d rfl),trivial⟩ (qn rfl))⟩
  refine cwF rfl hc2 ?_
  refine cwK ?_
  have ⟨o1,hj1,h10⟩ := bdS h7
  refine cwJ (fun (z : Unit) => St.of [(0,.ifc 24 (.ptr 0 0)),(5,.ptr 1 0)] [(0,.own (qc x1.2.2)),(1,.box (.d (eK a2)))]) (fun (z : Unit) => o1 = (.inl z)) ?_ ?_
  ·intro v2 hv1; subst hv1
   simp only [Sum.elim_inl] at h10
   refine cwR (
    .c (uA rfl)<|.nil rfl
   ) ?_
   exact ⟨(0,x1.2.2),(sJ h10),.w (wkF ⟨⟨_,rfl,.ifc (.ptro rfl rfl)⟩,⟨_,rfl,.ptr rfl rfl⟩,wD rfl,trivial⟩ ⟨.own rfl (.of_eq rfl (q9 _)),.box rfl (.d rfl),trivial⟩ (qn rfl))⟩
  refine cwS (cwR (
   .c (uF rfl qV2 rfl)<|
   .c (uL [1] rfl ta34 rfl)<|
   .c (qT (enc := ePr) (xs := x1.1.2.1) rfl rfl .no rfl sl34)<|
   .c (uM rfl)<|.nil rfl) ?_)
  refine cwB ?_
  refine qF (V := Int) (O := (Unit ⊕ (ByteArray × Bool × Int × ttM))) (fun (z : Int) => St.of [(0,.ifc 24 (.ptr 0 0)),(5,.ptr 1 0),(39,.d (eSP_ x1.1.2.1)),(40,.d (eint (x1.1.2.1.length : Int))),(41,.d (eint z))] [(0,.own (qc x1.2.2)),(1,.box (.d (eK a2)))]) hj1 (.w (wkF ⟨⟨_,rfl,.ifc (.ptro rfl rfl)⟩,⟨_,rfl,.ptr rfl rfl⟩,wD rfl,wD rfl,wD rfl,trivial⟩ ⟨.own rfl (.of_eq rfl (q9 _)),.box rfl (.d rfl),trivial⟩ (qn rfl))) ?_
  intro v3 x4 hb1 hx4
  refine cwS (cwR (
   .c (uB rfl (qB0 _ _) rfl)<|.nil rfl) ?_)
  refine cwS ?_
  rcases cdS hb1 with ⟨hc3,h11⟩ | ⟨hc3,h12⟩
  ·refine cwT rfl hc3 ?_
   refine cwK ?_
   refine cwS ?_
   refine cwB ?_
   have ⟨x5,hx5,h13⟩ := bdS h11
   have hx5g := qx hx5
   refine cwS (cwR (
    .c (qp1 (enc := ePr) (xs := x1.1.2.1) rfl rfl .no rfl rfl sl34 sz52 hx5g.1 hx5g.2)<|
    .c (o_ld rfl rfl .no rfl ta52 rfl rfl)<|
    .c (qh0 4 rfl rfl .no ze52 rfl)<|
    .c (uS [] rfl sz52 rfl)<|.nil rfl) ?_)
   refine cwS (cwR (
    .c (uF rfl qT4 rfl)<|
    .c (uL [0] rfl ta31 rfl)<|
    .c (uL [] rfl ta31 rfl)<|
    .c (o_eq rfl rfl .no rfl rfl rfl rfl eg31 (.bs ar31 un5 sz5))<|.nil rfl) ?_)
   rcases cdS h13 with ⟨hc4,h14⟩ | ⟨hc4,h15⟩
   ·refine cwT rfl hc4 ?_
    refine cwS (cwR (
     .c (uF rfl fld52_1 rfl)<|
     .c (uL [1] rfl ta9 rfl)<|
     .c (uA rfl)<|
     .c (uA rfl)<|
     .c (uA rfl)<|.nil rfl) ?_)
    have he1 := ((hx4 _ (sJ h14)).symm).symm
    subst he1
    have he2 := ((hx0 _ (sJ h10)).symm).symm
    subst he2
    have heq := ((sJ h0)).symm
    subst heq
    exact qq ⟨_,(show Leads _ _ (St.of [(6,.d (eStr x5.2)),(7,.d (qQ true)),(8,.d (eErr 0))] [(0,.own (qc x1.2.2))]) from .w (wkF ⟨wD rfl,wD rfl,wD rfl,trivial⟩ ⟨.own rfl (.of_eq rfl (q9 _)),trivial⟩ (qn rfl))),.inr rfl,_,res3 rfl rfl rfl rfl,rfl,rfl⟩
   refine cwF rfl hc4 ?_
   refine cwK ?_
   refine cwR (
    .c (uB rfl (qC0 _ _) rfl)<|
    .c (uM rfl)<|.nil rfl
   ) ?_
   exact ⟨(IntKind.wrap .i64 (v3 + 1)),(sJ h15),.w (wkF ⟨⟨_,rfl,.ifc (.ptro rfl rfl)⟩,⟨_,rfl,.ptr rfl rfl⟩,wD rfl,wD rfl,wD rfl,trivial⟩ ⟨.own rfl (.of_eq rfl (q9 _)),.box rfl (.d rfl),trivial⟩ (qn rfl))⟩
  refine cwF rfl hc3 ?_
  refine qP ?_
  exact ⟨(),(hx4 _ (sJ h12)).symm,.w (wkF ⟨⟨_,rfl,.ifc (.ptro rfl rfl)⟩,⟨_,rfl,.ptr rfl rfl⟩,trivial⟩ ⟨.own rfl (.of_eq rfl (q9 _)),.box rfl (.d rfl),trivial⟩ (qn rfl))⟩
 refine cwF rfl hc0 ?_
 refine qP ?_
 exact ⟨v1.2,(hx0 _ (sJ h2)).symm,.w (wkF trivial ⟨.own rfl (.of_eq rfl (q9 _)),trivial⟩ (qn rfl))⟩
theorem qZ1 {a0 : ttM} {a1 : Int} {r : (Int × ttM)} (h : q30 a0 a1 = some r) : FnOk Try.prog 33 [.ifc 24 (.ptr 0 0),.d (eint a1)] 1 (lk [(0,.own (qc a0))]) (fun rr oo => rr = .d (eErr r.1) ∧ oo = lk [(0,.own (qc r.2))]) := by
 refine fnO Try.func33 rfl rfl (cwP ?_)
 unfold q30 at h
 refine cwS (cwR (
  .c (uA rfl)<|.nil rfl) ?_)
 refine cwS ?_
 refine cwS (cwR (
  .c (uM rfl)<|
  .c (uB rfl (q70 _ _) rfl)<|.nil rfl) ?_)
 rcases cdS h with ⟨hc0,h0⟩ | ⟨hc0,h1⟩
 ·refine cwT rfl hc0 ?_
  refine cwS (cwR (
   .c (uA rfl)<|.nil rfl) ?_)
  have heq := ((sJ h0)).symm
  subst heq
  exact qq ⟨_,(show Leads _ _ (St.of [(4,.d (eErr 0))] [(0,.own (qc a0))]) from .w (wkF ⟨wD rfl,trivial⟩ ⟨.own rfl (.of_eq rfl (q9 _)),trivial⟩ (qn rfl))),.inr rfl,_,res1 rfl rfl,rfl,rfl⟩
 refine cwF rfl hc0 ?_
 refine cwK ?_
 have ⟨x0,hx0,h2⟩ := bdS (x := qs0 a0 a1) h1
 refine cwS (cwR (
  .c (uM rfl)<|
  .c (uM rfl)<|
  .c (o_inv (fun _ => 0) rfl rfl .no rfl Try.func119 rfl rfl rfl hm24_Inc (qS2 hx0) (.cons rfl (.p rfl) (.cons rfl .d .nil)) (by decide) (qI rfl ⟨(by simp [AV.live,lk,Nat.beq]),trivial,trivial⟩ rfl (OD.dat_live (q9 _)) (by simp)) (.inl rfl))<|
  .c (uA rfl)<|.nil rfl) ?_)
 have heq := ((sJ h2)).symm
 subst heq
 exact qq ⟨_,(show Leads _ _ (St.of [(4,.d (eErr x0.1))] [(0,.own (qc x0.2))]) from .w (wkF ⟨wD rfl,trivial⟩ ⟨.own rfl (.of_eq rfl (q9 _)),trivial⟩ (qn rfl))),.inr rfl,_,res1 rfl rfl,rfl,rfl⟩
end
end Go.Val
