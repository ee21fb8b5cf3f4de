/- Walks of the program's functions,printed. -/
import Derived.Test.YtfbnhflapgddbaaWc
set_option linter.unusedSectionVars false
set_option linter.unusedVariables false
set_option linter.unusedSimpArgs false
set_option maxRecDepth 100000
namespace Go.Val
open Go.RowKit Go.Proofs
section
variable [NoDrw]
noncomputable def qB0 (a0 : (List (Int × ttN))) (a1 : Int) : Option (ttN × Int) := (((qJ (V := Int) (O := (Unit ⊕ (ttN × Int))) (fun v0 => cond (decide (v0 < (a0.length : Int))) ((gx a0 v0).bind fun x0 => cond (decide (x0.1 = a1)) (some (.inr (.inr (x0.2,0)))) (some (.inl (IntKind.wrap .i64 (v0 + 1))))) (some (.inr (.inl ())))) 0) : Option (Unit ⊕ (ttN × Int)))).bind fun o0 =>
 Sum.elim (fun (v1 : Unit) => some ((0,[],[]),1)) (fun w0 => some w0) o0
noncomputable def qw0 (self : (List (Int × ttN)) → ttN → (B8 × Bool) → Option Int) (a0 : (List (Int × ttN))) (a1 : ttN) (a2 : (B8 × Bool)) : Option Int := (qe1 a1).bind fun x0 => cond (!x0) (some 12) ((((cond (decide (a1.1 = 0)) ((gx a1.2.1 (IntKind.wrap .i64 ((a1.2.1.length : Int) - 1))).bind fun x1 => some x1.1) (
    (gx a1.2.2 (IntKind.wrap .i64 ((a1.2.2.length : Int) - 1))).bind fun x2 => some x2.1)) : Option B8)).bind fun o0 => (((cond a2.2 ((qu o0 a2.1).bind fun x3 => some (decide (x3 ≥ 0))) (some false)) : Option Bool)).bind fun o1 => cond o1 (some 12) ((((qJ (V := Int) (O := (Unit ⊕ Int)) (fun v0 => cond (decide (v0 < (a1.2.2.length : Int))) ((gx a1.2.2 v0).bind fun x4 =>
      (qB0 a0 x4.2).bind fun x5 => cond (decide (x5.2 ≠ 0)) ((qI0 x5.2).bind fun x6 => some (.inr (.inr x6))) ((((cond (decide ((IntKind.wrap .i64 (v0 + 1)) < (a1.2.2.length : Int))) ((gx a1.2.2 (IntKind.wrap .i64 (v0 + 1))).bind fun x7 => some (x7.1,true)) (some a2)) : Option (B8 × Bool))).bind fun o2 => (((cond (decide (x5.1.1 ≠ (IntKind.wrap .i64 (a1.1 - 1)))) (
         some true) ((qR0 x5.1).bind fun x8 => cond (!(decide (x8 = x4.1))) (some true) ((ql3 x5.1).bind fun x9 => some x9))) : Option Bool)).bind fun o3 => cond o3 (some (.inr (.inr 12))) ((self a0 x5.1 o2).bind fun x10 => cond (decide (x10 ≠ 0)) (some (.inr (.inr x10))) (some (.inl (IntKind.wrap .i64 (v0 + 1))))))) (some (.inr (.inl ())))) 0
   ) : Option (Unit ⊕ Int))).bind fun o4 => Sum.elim (fun (v1 : Unit) => some 0) (fun w0 => some w0) o4))
noncomputable def qk0 : Nat → (List (Int × ttN)) → ttN → (B8 × Bool) → Option Int | 0 => fun _ _ _ => none | n + 1 => qw0 (qk0 n)
noncomputable def qk3 (a0 : (List (Int × ttN))) (a1 : ttN) (a2 : (B8 × Bool)) : Option Int := qk0 16 a0 a1 a2
noncomputable def q11 (a0 : (List (Int × ttN))) (a1 : Int) : Option Int := cond (decide (a1 = 0)) (some 0) ((qB0 a0 a1).bind fun x0 => cond (decide (x0.2 ≠ 0)) ((qI0 x0.2).bind fun x1 => some x1) ((qk3 a0 x0.1 ((List.replicate 24 0),false)).bind fun x2 => some x2))
noncomputable def qu1 (self : ttM → ttN → (B8 × Bool) → Option (Int × ttM)) (a0 : ttM) (a1 : ttN) (a2 : (B8 × Bool)) : Option (Int × ttM) := (qe1 a1).bind fun x0 => cond (!x0) (some (12,a0)) ((((cond (decide (a1.1 = 0)) ((gx a1.2.1 (IntKind.wrap .i64 ((a1.2.1.length : Int) - 1))).bind fun x1 => some x1.1) (
    (gx a1.2.2 (IntKind.wrap .i64 ((a1.2.2.length : Int) - 1))).bind fun x2 => some x2.1)) : Option B8)).bind fun o0 => (((cond a2.2 ((qu o0 a2.1).bind fun x3 => some (decide (x3 ≥ 0))) (some false)) : Option Bool)).bind fun o1 => cond o1 (some (12,a0)) ((((qJ (V := (Int × ttM)) (O := (ttM ⊕ (Int × ttM))) (fun v0 => cond (decide (v0.1 < (a1.2.2.length : Int))) (
      (gx a1.2.2 v0.1).bind fun x4 => (qx v0.2 x4.2).bind fun x5 => cond (decide (x5.2.1 ≠ 0)) ((qI0 x5.2.1).bind fun x6 => some (.inr (.inr (x6,x5.2.2)))) ((((cond (decide ((IntKind.wrap .i64 (v0.1 + 1)) < (a1.2.2.length : Int))) ((gx a1.2.2 (IntKind.wrap .i64 (v0.1 + 1))).bind fun x7 => some (x7.1,true)) (some a2)) : Option (B8 × Bool))).bind fun o2 => (((
        cond (decide (x5.1.1 ≠ (IntKind.wrap .i64 (a1.1 - 1)))) (some true) ((qR0 x5.1).bind fun x8 => cond (!(decide (x8 = x4.1))) (some true) ((ql3 x5.1).bind fun x9 => some x9))) : Option Bool)).bind fun o3 => cond o3 (some (.inr (.inr (12,x5.2.2)))) ((self x5.2.2 x5.1 o2).bind fun x10 => cond (decide (x10.1 ≠ 0)) (some (.inr (.inr (x10.1,x10.2)))) (
         some (.inl ((IntKind.wrap .i64 (v0.1 + 1)),x10.2)))))) (some (.inr (.inl v0.2)))) (0,a0)) : Option (ttM ⊕ (Int × ttM)))).bind fun o4 => Sum.elim (fun (v1 : ttM) => some (0,v1)) (fun w0 => some w0) o4))
noncomputable def qn1 : Nat → ttM → ttN → (B8 × Bool) → Option (Int × ttM) | 0 => fun _ _ _ => none | n + 1 => qu1 (qn1 n)
noncomputable def qf3 (a0 : ttM) (a1 : ttN) (a2 : (B8 × Bool)) : Option (Int × ttM) := qn1 16 a0 a1 a2
noncomputable def q02 (a0 : ttM) (a1 : Int) : Option (Int × ttM) := cond (decide (a1 = 0)) (some (0,a0)) ((qx a0 a1).bind fun x0 => cond (decide (x0.2.1 ≠ 0)) ((qI0 x0.2.1).bind fun x1 => some (x1,x0.2.2)) ((qf3 x0.2.2 x0.1 ((List.replicate 24 0),false)).bind fun x2 => some (x2.1,x2.2)))
noncomputable def qg1 (a0 : List UInt8) (a1 : List UInt8) : Option Bool := (((qJ (V := Int) (O := (Unit ⊕ Bool)) (fun v0 => cond (decide (v0 < 24)) ((ck (decide (0 ≤ v0 ∧ v0 < 24))).bind fun _ => (gx a0 v0).bind fun x0 => (gx a1 v0).bind fun x1 => cond (decide ((x0.toNat : Int) ≠ (x1.toNat : Int))) (some (.inr (.inr (decide ((x0.toNat : Int) < (x1.toNat : Int)))))) (
     some (.inl (IntKind.wrap .i64 (v0 + 1))))) (some (.inr (.inl ())))) 0) : Option (Unit ⊕ Bool))).bind fun o0 => Sum.elim (fun (v1 : Unit) => some false) (fun w0 => some w0) o0
noncomputable def q85 (a0 : ttN) : Option Bool := (((cond (decide (a0.1 < 0)) (some true) (some (decide (a0.1 > 11)))) : Option Bool)).bind fun o0 => cond o0 (some false) ((((cond (decide (a0.1 = 0)) (cond (decide ((a0.2.1.length : Int) < 1)) (some true) (cond (decide ((a0.2.1.length : Int) > 7)) (some true) (cond (decide ((a0.2.2.length : Int) > 0)) (some true) (
       cond (decide (a0.1 > 0)) (cond (decide ((a0.2.2.length : Int) < 2)) (some true) (cond (decide ((a0.2.2.length : Int) > 18)) (some true) (some (decide ((a0.2.1.length : Int) > 0))))) (some false))))) (cond (decide (a0.1 > 0)) (cond (decide ((a0.2.2.length : Int) < 2)) (some true) (cond (decide ((a0.2.2.length : Int) > 18)) (some true) (some (decide ((a0.2.1.length : Int) > 0))))) (
     some false))) : Option Bool)).bind fun o1 => cond o1 (some false) ((((qJ (V := Int) (O := (Unit ⊕ Bool)) (fun v0 => cond (decide (v0 < (a0.2.1.length : Int))) ((gx a0.2.1 v0).bind fun x0 => cond (decide ((x0.2.size : Int) > 40)) (some (.inr (.inr false))) ((((cond (decide (v0 > 0)) ((gx a0.2.1 (IntKind.wrap .i64 (v0 - 1))).bind fun x1 => (qg1 x1.1 x0.1).bind fun x2 =>
         some (!x2)) (some false)) : Option Bool)).bind fun o2 => cond o2 (some (.inr (.inr false))) (some (.inl (IntKind.wrap .i64 (v0 + 1)))))) (some (.inr (.inl ())))) 0) : Option (Unit ⊕ Bool))).bind fun o3 => Sum.elim (fun (v1 : Unit) => (((qJ (V := Int) (O := (Unit ⊕ Bool)) (fun v2 => cond (decide (v2 < (a0.2.2.length : Int))) ((((((((gx a0.2.2 v2).bind fun x3 =>
         cond (decide (x3.2 < 2)) (some true) (some (decide (x3.2 > 4294967295)))) : Option Bool)).bind fun o4 => cond o4 (some (.inr false)) ((((cond (decide (v2 > 0)) ((gx a0.2.2 (IntKind.wrap .i64 (v2 - 1))).bind fun x4 => (gx a0.2.2 v2).bind fun x5 => (qg1 x4.1 x5.1).bind fun x6 => some (!x6)) (some false)) : Option Bool)).bind fun o5 => cond o5 (some (.inr false)) (
          qJ (V := Int) (O := (Unit ⊕ Bool)) (fun v3 => cond (decide (v3 < v2)) ((gx a0.2.2 v3).bind fun x7 => (gx a0.2.2 v2).bind fun x8 => cond (decide (x7.2 = x8.2)) (some (.inr (.inr false))) (some (.inl (IntKind.wrap .i64 (v3 + 1))))) (some (.inr (.inl ())))) 0))) : Option (Unit ⊕ Bool))).bind fun o6 => Sum.elim (fun (v4 : Unit) => some (.inl (IntKind.wrap .i64 (v2 + 1)))
       ) (fun w0 => some (.inr (.inr w0))) o6) (some (.inr (.inl ())))) 0) : Option (Unit ⊕ Bool))).bind fun o7 => Sum.elim (fun (v5 : Unit) => some true) (fun w1 => some w1) o7) (fun w2 => some w2) o3))
noncomputable def q44 (a0 : ttN) : Option B8 := cond (decide ((a0.2.1.length : Int) > 0)) ((gx a0.2.1 0).bind fun x0 => some x0.1) (cond (decide ((a0.2.2.length : Int) > 0)) ((gx a0.2.2 0).bind fun x1 => some x1.1) (some (List.replicate 24 0)))
noncomputable def qF4 (a0 : List (Int × ttN)) (a1 : Int) : Option (ttN × Bool) := (((qJ (V := Int) (O := (Unit ⊕ (ttN × Bool))) (fun v0 => cond (decide (v0 < (a0.length : Int))) ((gx a0 v0).bind fun x0 => cond (decide (x0.1 = a1)) (some (.inr (.inr (x0.2,true)))) (some (.inl (IntKind.wrap .i64 (v0 + 1))))) (some (.inr (.inl ())))) 0) : Option (Unit ⊕ (ttN × Bool)))).bind fun o0 =>
 Sum.elim (fun (v1 : Unit) => some ((0,[],[]),false)) (fun w0 => some w0) o0
noncomputable def qS0 (self : (List (Int × ttN)) → ttN → B8 → Bool → Option Bool) (a0 : List (Int × ttN)) (a1 : ttN) (a2 : List UInt8) (a3 : Bool) : Option Bool := (q85 a1).bind fun x0 => cond (!x0) (some false) ((((qJ (V := Int) (O := (Unit ⊕ Bool)) (fun v0 => cond (decide (v0 < (a1.2.1.length : Int))) ((gx a1.2.1 v0).bind fun x1 => (qg1 x1.1 a2).bind fun x2 => (((
      cond a3 (some (!x2)) (some false)) : Option Bool)).bind fun o0 => cond o0 (some (.inr (.inr false))) (some (.inl (IntKind.wrap .i64 (v0 + 1))))) (some (.inr (.inl ())))) 0) : Option (Unit ⊕ Bool))).bind fun o1 => Sum.elim (fun (v1 : Unit) => (((qJ (V := Int) (O := (Unit ⊕ Bool)) (fun v2 => cond (decide (v2 < (a1.2.2.length : Int))) ((gx a1.2.2 v2).bind fun x3 =>
      (qg1 x3.1 a2).bind fun x4 => (((cond a3 (some (!x4)) (some false)) : Option Bool)).bind fun o2 => cond o2 (some (.inr (.inr false))) ((qF4 a0 x3.2).bind fun x5 => (((cond (!x5.2) (some true) (cond (decide (x5.1.1 ≠ (IntKind.wrap .i64 (a1.1 - 1)))) (some true) ((q44 x5.1).bind fun x6 => cond (!(decide (x6 = x3.1))) (some true) (cond (decide (x5.1.1 = 0)) (
            cond (decide ((x5.1.2.1.length : Int) < 3)) (some true) (cond (decide (x5.1.1 > 0)) (some (decide ((x5.1.2.2.length : Int) < 9))) (some false))) (cond (decide (x5.1.1 > 0)) (some (decide ((x5.1.2.2.length : Int) < 9))) (some false)))))) : Option Bool)).bind fun o3 => cond o3 (some (.inr (.inr false))) ((((
         cond (decide ((IntKind.wrap .i64 (v2 + 1)) < (a1.2.2.length : Int))) ((gx a1.2.2 (IntKind.wrap .i64 (v2 + 1))).bind fun x7 => some (true,x7.1)) (some (a3,a2))) : Option (Bool × B8))).bind fun o4 => (self a0 x5.1 o4.2 o4.1).bind fun x8 => cond (!x8) (some (.inr (.inr false))) (some (.inl (IntKind.wrap .i64 (v2 + 1))))))) (some (.inr (.inl ())))) 0
   ) : Option (Unit ⊕ Bool))).bind fun o5 => Sum.elim (fun (v3 : Unit) => some true) (fun w0 => some w0) o5) (fun w1 => some w1) o1)
noncomputable def qC0 : Nat → (List (Int × ttN)) → ttN → B8 → Bool → Option Bool | 0 => fun _ _ _ _ => none | n + 1 => qS0 (qC0 n)
noncomputable def qr3 (a0 : List ttC) (a1 : Int) (a2 : Int) : Option (List ttC) := (((qJ (V := (Int × (List ttC))) (O := (List ttC)) (fun v0 => (((cond (decide (v0.1 < (a0.length : Int))) (some (decide (v0.1 < a1))) (some false)) : Option Bool)).bind fun o0 => cond o0 ((gx a0 v0.1).bind fun x0 => (cutB 0 (min (x0.2.1.size : Int) a2) x0.2.1.size).bind fun _ =>
    (fits (v0.2.length + ([(x0.1,(x0.2.1.extract 0 (min (x0.2.1.size : Int) a2).toNat),x0.2.2)]).length) 48).bind fun _ => some (.inl ((IntKind.wrap .i64 (v0.1 + 1)),(v0.2 ++ [(x0.1,(x0.2.1.extract 0 (min (x0.2.1.size : Int) a2).toNat),x0.2.2)])))) (some (.inr v0.2))) (0,([] : List ttC))) : Option (List ttC))).bind fun o1 => some o1
noncomputable def q24 : Option ttS := some ((List.replicate 24 0),(List.replicate 24 0),true)
noncomputable def q62 (a0 : Int) (c0 : ttN) (c1 : List UInt8) : Option Bool := (gx c0.2.2 a0).bind fun x0 => (qu x0.1 c1).bind fun x1 => some (decide (x1 > 0))
noncomputable def qU1 (a0 : Int) (c0 : ttN) (c1 : List UInt8) : Option Int := (((qJ (V := (Int × Int)) (O := Int) (fun v0 => cond (decide (v0.1 < v0.2)) ((q62 (IntKind.wrap .i64 (Int.fdiv (IntKind.wrap .u64 (IntKind.wrap .i64 (v0.1 + v0.2))) (2 ^ 1))) c0 c1).bind fun x0 => cond (!x0) (
     some (.inl ((IntKind.wrap .i64 ((IntKind.wrap .i64 (Int.fdiv (IntKind.wrap .u64 (IntKind.wrap .i64 (v0.1 + v0.2))) (2 ^ 1))) + 1)),v0.2))) (some (.inl (v0.1,(IntKind.wrap .i64 (Int.fdiv (IntKind.wrap .u64 (IntKind.wrap .i64 (v0.1 + v0.2))) (2 ^ 1))))))) (some (.inr v0.1))) (0,a0)) : Option Int)).bind fun o0 => some o0
noncomputable def qB2 (a0 : ttN) (a1 : List UInt8) : Option Int := (qU1 (a0.2.2.length : Int) a0 a1).bind fun x0 => some (max (IntKind.wrap .i64 (x0 - 1)) 0)
noncomputable def qW1 (a0 : ttM) (a1 : Int) (a2 : List UInt8) : Option (ByteArray × Bool × Int × ttM) := (((qJ (V := (Int × ttM)) (O := (ttM ⊕ (ByteArray × Bool × Int × ttM))) (fun v0 => cond (decide (v0.1 ≠ 0)) ((qx v0.2 v0.1).bind fun x0 => cond (decide (x0.2.1 ≠ 0)) (some (.inr (.inr ((ByteArray.mk #[]),false,x0.2.1,x0.2.2)))) (
     cond (decide ((x0.1.2.2.length : Int) > 0)) ((qB2 x0.1 a2).bind fun x1 => (gx x0.1.2.2 x1).bind fun x2 => some (.inl (x2.2,x0.2.2))) ((((qJ (V := Int) (O := (Unit ⊕ (ByteArray × Bool × Int × ttM))) (fun v1 => cond (decide (v1 < (x0.1.2.1.length : Int))) ((gx x0.1.2.1 v1).bind fun x3 => cond (decide (x3.1 = a2)) (some (.inr (.inr (x3.2,true,0,x0.2.2)))) (
          some (.inl (IntKind.wrap .i64 (v1 + 1))))) (some (.inr (.inl ())))) 0) : Option (Unit ⊕ (ByteArray × Bool × Int × ttM)))).bind fun o0 => Sum.elim (fun (v2 : Unit) => some (.inl (0,x0.2.2))) (fun w0 => some (.inr (.inr w0))) o0))) (some (.inr (.inl v0.2)))) (a1,a0)) : Option (ttM ⊕ (ByteArray × Bool × Int × ttM)))).bind fun o1 => Sum.elim (fun (v3 : ttM) =>
  some ((ByteArray.mk #[]),false,0,v3)) (fun w1 => some w1) o1
noncomputable def q22 (a0 : ttM) (a1 : Int) : Option (Int × ttM) := cond (decide (a1 = 0)) (some (0,a0)) ((qt0 a0 a1).bind fun x0 => some (x0.1,x0.2))
theorem law07_bag_Get_okc {a0 : (List (Int × ttN))} {a1 : Int} {r : (ttN × Int)} (h : qB0 a0 a1 = some r) : FnOk Try.prog 134 [.d (qN a0),.d (eint a1)] 0 (lk []) (fun rr oo => rr = .tup [.d (qm r.1),.d (eErr r.2)] ∧ oo = lk [(1,.box (.d (qm r.1)))]) := by
 refine fnO Try.func134 rfl rfl (cwP ?_)
 unfold qB0 at h
 refine cwS (cwR (
  .c (uX 0 rfl)<|
  .c (q50 1 rfl rfl .no ze46 rfl)<|
  .c (uA rfl)<|.nil rfl) ?_)
 have ⟨o0,hj0,h0⟩ := bdS h
 refine cwJ (fun (z : Unit) => St.of [(4,.ptr 1 0)] [(1,.box (.d (qm (0,[],[]))))]) (fun (z : Unit) => o0 = (.inl z)) ?_ ?_
 ·intro v0 hv0; subst hv0
  simp only [Sum.elim_inl] at h0
  refine cwS (cwR (
   .c (qz5 (ds := [eint 0,eSP_ ([]),qv0 ([])]) rfl rfl .no zs46 rfl pl46 .nil)<|
   .c (uS [] rfl sz46 rfl)<|
   .c (uA rfl)<|.nil rfl) ?_)
  have heq := ((sJ h0)).symm
  subst heq
  exact qw ⟨_,(show Leads _ _ (St.of [(4,.ptr 1 0),(5,.d (eErr 1))] [(1,.box (.d (qm (0,[],[]))))]) from .w (wkF ⟨⟨_,rfl,.ptr rfl rfl⟩,wD rfl,trivial⟩ ⟨.box rfl (.d rfl),trivial⟩ qG)),.inr rfl,_,resCT rfl rfl rfl ta46 rfl rfl rfl,rfl,rfl⟩
 refine cwS (cwR (
  .c (uA rfl)<|.nil rfl) ?_)
 refine cwB ?_
 refine qM (V := Int) (O := (Unit ⊕ (ttN × Int))) (fun (z : Int) => St.of [(1,.d (eint a1)),(2,.ptr 0 0),(4,.ptr 1 0),(6,.d (eint z))] [(0,.box (.d (qN a0))),(1,.box (.d (qm (0,[],[]))))]) hj0 (.w (wkF ⟨wD rfl,⟨_,rfl,.ptr rfl rfl⟩,⟨_,rfl,.ptr rfl rfl⟩,wD rfl,trivial⟩ ⟨.box rfl (.d rfl),.box rfl (.d rfl),trivial⟩ qG)) ?_
 intro v1 x0 hb0 hx0
 refine cwS ?_
 refine cwS (cwR (
  .c (uM rfl)<|
  .c (uF rfl q84 rfl)<|
  .c (uL [0] rfl ta62 rfl)<|
  .c (qV (enc := qp) (xs := a0) rfl rfl .no rfl sl62)<|
  .c (uB rfl (qG0 _ _) rfl)<|.nil rfl) ?_)
 rcases cdS hb0 with ⟨hc0,h1⟩ | ⟨hc0,h2⟩
 ·refine cwT rfl hc0 ?_
  refine cwK ?_
  refine cwS ?_
  refine cwB ?_
  have ⟨x1,hx1,h3⟩ := bdS h1
  have hx1g := qD hx1
  refine cwS (cwR (
   .c (uF rfl q84 rfl)<|
   .c (uL [0] rfl ta62 rfl)<|
   .c (uM rfl)<|
   .c (qJ1 (enc := qp) (xs := a0) rfl rfl .no rfl rfl sl62 sz66 hx1g.1 hx1g.2)<|
   .c (qa2 rfl rfl .no rfl fld66_0 (by decide) rfl rfl)<|
   .c (o_ld rfl rfl .no rfl ta3 rfl rfl)<|
   .c (uM rfl)<|
   .c (uB rfl (qd0 _ _) rfl)<|.nil rfl) ?_)
  rcases cdS h3 with ⟨hc1,h4⟩ | ⟨hc1,h5⟩
  ·refine cwT rfl hc1 ?_
   refine cwS (cwR (
    .c (uF rfl q84 rfl)<|
    .c (uL [0] rfl ta62 rfl)<|
    .c (uM rfl)<|
    .c (qJ1 (enc := qp) (xs := a0) rfl rfl .no rfl rfl sl62 sz66 hx1g.1 hx1g.2)<|
    .c (qa2 rfl rfl .no rfl fld66_1 (by decide) rfl rfl)<|
    .c (o_ld rfl rfl .no rfl ta46 rfl rfl)<|
    .c (uS [] rfl sz46 rfl)<|
    .c (uA rfl)<|.nil rfl) ?_)
   have he0 := ((hx0 _ (sJ h4)).symm).symm
   subst he0
   have heq := ((sJ h0)).symm
   subst heq
   exact qw ⟨_,(show Leads _ _ (St.of [(4,.ptr 1 0),(5,.d (eErr 0))] [(1,.box (.d (qm x1.2)))]) from .w (wkF ⟨⟨_,rfl,.ptr rfl rfl⟩,wD rfl,trivial⟩ ⟨.box rfl (.d rfl),trivial⟩ qG)),.inr rfl,_,resCT rfl rfl rfl ta46 rfl rfl rfl,rfl,rfl⟩
  refine cwF rfl hc1 ?_
  refine cwK ?_
  refine cwR (
   .c (uM rfl)<|
   .c (uB rfl (qN0 _ _) rfl)<|
   .c (uA rfl)<|.nil rfl
  ) ?_
  exact ⟨(IntKind.wrap .i64 (v1 + 1)),(sJ h5),.w (wkF ⟨wD rfl,⟨_,rfl,.ptr rfl rfl⟩,⟨_,rfl,.ptr rfl rfl⟩,wD rfl,trivial⟩ ⟨.box rfl (.d rfl),.box rfl (.d rfl),trivial⟩ qG)⟩
 refine cwF rfl hc0 ?_
 refine q10 ?_
 exact ⟨(),(hx0 _ (sJ h2)).symm,.w (wkF ⟨⟨_,rfl,.ptr rfl rfl⟩,trivial⟩ ⟨.box rfl (.d rfl),trivial⟩ qG)⟩
theorem qT3 {a0 : (List (Int × ttN))} {a1 : Int} {r : (ttN × Int)} (h : qB0 a0 a1 = some r) : FnOk Try.prog 134 [.d (qN a0),.d (eint a1)] 0 (lk []) (fun rr oo => rr = .tup [.d (qm r.1),.d (eErr r.2)] ∧ oo = lk []) := fnOk_forget2 (law07_bag_Get_okc h)
theorem qo4 {self : (List (Int × ttN)) → ttN → (B8 × Bool) → Option Int} (self_ok : ∀ {a0 : (List (Int × ttN))} {a1 : ttN} {a2 : (B8 × Bool)} {r : Int},self a0 a1 a2 = some r → FnOk Try.prog 45 [.ifc 64 (.d (qN a0)),.d (qm a1),.d (q70 a2)] 0 (lk []) (fun rr oo => rr = .d (eErr r) ∧ oo = lk [])) {a0 : (List (Int × ttN))} {a1 : ttN} {a2 : (B8 × Bool)} {r : Int} (h : qw0 self a0 a1 a2 = some r) : FnOk Try.prog 45 [.ifc 64 (.d (qN a0)),.d (qm a1),.d (q70 a2)] 0 (lk []) (fun rr oo => rr = .d (eErr r) ∧ oo = lk []) := by
 refine fnO Try.func45 rfl rfl (cwP ?_)
 unfold qw0 at h
 refine cwS (cwR (
  .c (uX 0 rfl)<|
  .c (uX 1 rfl)<|
  .c (uA rfl)<|.nil rfl) ?_)
 refine cwS ?_
 have ⟨x0,hx0,h0⟩ := bdS (x := qe1 a1) h
 refine cwS (cwR (
  .c (uL [] rfl ta46 rfl)<|
  .c (qe0 rfl rfl .no Try.func66 rfl rfl (qI3 hx0) (.cons rfl .d .nil) ⟨trivial,trivial⟩ (.inl rfl))<|
  .c (uT rfl)<|.nil rfl) ?_)
 rcases cdS h0 with ⟨hc0,h1⟩ | ⟨hc0,h2⟩
 ·refine cwT rfl hc0 ?_
  refine cwS (cwR (
   .c (uA rfl)<|.nil rfl) ?_)
  have heq := ((sJ h1)).symm
  subst heq
  exact qw ⟨_,(show Leads _ _ (St.of [(6,.d (eErr 12))] []) from .w (wkF ⟨wD rfl,trivial⟩ trivial qG)),.inr rfl,_,res1 rfl rfl,rfl,rfl⟩
 refine cwF rfl hc0 ?_
 refine cwK ?_
 refine cwS (cwR (
  .c (o_bldB (l := (List.replicate 24 0)) (r := (List.replicate 24 0)) rfl rfl .no ze31 ar31 sz5 .nil)<|
  .c (q50 2 rfl rfl .no ze31 rfl)<|
  .c (uS [] rfl sz31 rfl)<|.nil rfl) ?_)
 have ⟨o0,hj0,h3⟩ := bdS h2
 refine cwJ (fun (z : B8) => St.of [(0,.ifc 64 (.d (qN a0))),(4,.ptr 0 0),(5,.ptr 1 0),(7,.ptr 2 0)] [(0,.box (.d (qm a1))),(1,.box (.d (q70 a2))),(2,.box (.d (eK z)))]) (fun (z : B8) => o0 = z) ?_ ?_
 ·intro v0 hv0; subst hv0
  refine cwS ?_
  have ⟨o1,hj1,h4⟩ := bdS h3
  refine cwJ (fun (z : Bool) => St.of [(0,.ifc 64 (.d (qN a0))),(4,.ptr 0 0),(5,.ptr 1 0),(47,.d (qU z))] [(0,.box (.d (qm a1))),(1,.box (.d (q70 a2)))]) (fun (z : Bool) => o1 = z) ?_ ?_
  ·intro v1 hv1; subst hv1
   rcases cdS h4 with ⟨hc1,h5⟩ | ⟨hc1,h6⟩
   ·refine cwT rfl hc1 ?_
    refine cwS (cwR (
     .c (uA rfl)<|.nil rfl) ?_)
    have heq := ((sJ h5)).symm
    subst heq
    exact qw ⟨_,(show Leads _ _ (St.of [(6,.d (eErr 12))] []) from .w (wkF ⟨wD rfl,trivial⟩ trivial qG)),.inr rfl,_,res1 rfl rfl,rfl,rfl⟩
   refine cwF rfl hc1 ?_
   refine cwK ?_
   have ⟨o2,hj2,h7⟩ := bdS h6
   refine cwJ (fun (z : Unit) => St.of [] []) (fun (z : Unit) => o2 = (.inl z)) ?_ ?_
   ·intro v2 hv2; subst hv2
    simp only [Sum.elim_inl] at h7
    refine cwS (cwR (
     .c (uA rfl)<|.nil rfl) ?_)
    have heq := ((sJ h7)).symm
    subst heq
    exact qw ⟨_,(show Leads _ _ (St.of [(6,.d (eErr 0))] []) from .w (wkF ⟨wD rfl,trivial⟩ trivial qG)),.inr rfl,_,res1 rfl rfl,rfl,rfl⟩
   refine cwS (cwR (
    .c (uF rfl qo0 rfl)<|
    .c (uL [2] rfl ta44 rfl)<|
    .c (qV (enc := qP) (xs := a1.2.2) rfl rfl .no rfl sl44)<|
    .c (uM rfl)<|.nil rfl) ?_)
   refine cwB ?_
   refine qM (V := Int) (O := (Unit ⊕ Int)) (fun (z : Int) => St.of [(0,.ifc 64 (.d (qN a0))),(4,.ptr 0 0),(5,.ptr 1 0),(49,.d (qv0 a1.2.2)),(50,.d (eint (a1.2.2.length : Int))),(51,.d (eint z))] [(0,.box (.d (qm a1))),(1,.box (.d (q70 a2)))]) hj2 (.w (wkF ⟨⟨_,rfl,.ifc (.d rfl)⟩,⟨_,rfl,.ptr rfl rfl⟩,⟨_,rfl,.ptr rfl rfl⟩,wD rfl,wD rfl,wD rfl,trivial⟩ ⟨.box rfl (.d rfl),.box rfl (.d rfl),trivial⟩ qG)) ?_
   intro v3 x1 hb0 hx1
   refine cwS (cwR (
    .c (uB rfl (qG0 _ _) rfl)<|.nil rfl) ?_)
   refine cwS ?_
   rcases cdS hb0 with ⟨hc2,h8⟩ | ⟨hc2,h9⟩
   ·refine cwT rfl hc2 ?_
    refine cwK ?_
    refine cwS ?_
    refine cwB ?_
    have ⟨x2,hx2,h10⟩ := bdS h8
    have hx2g := qD hx2
    refine cwS (cwR (
     .c (uM rfl)<|
     .c (qJ1 (enc := qP) (xs := a1.2.2) rfl rfl .no rfl rfl sl44 sz69 hx2g.1 hx2g.2)<|
     .c (o_ld rfl rfl .no rfl ta69 rfl rfl)<|
     .c (q50 3 rfl rfl .no ze69 rfl)<|
     .c (uA rfl)<|
     .c (uS [] rfl sz69 rfl)<|.nil rfl) ?_)
    have ⟨x3,hx3,h11⟩ := bdS (x := qB0 a0 x2.2) h10
    refine cwS (cwR (
     .c (uM rfl)<|
     .c (uF rfl qM2 rfl)<|
     .c (uL [1] rfl ta3 rfl)<|
     .c (o_invD (fun o => o) rfl rfl .no rfl Try.func134 rfl rfl hm64_Get (qT3 hx3) (.cons rfl .d (.cons rfl .d .nil)) (by decide) (callIn0 ⟨trivial,trivial,trivial⟩) (.inl rfl))<|
     .c (uM rfl)<|
     .c (uE rfl)<|
     .c (uE rfl)<|
     .c (q50 4 rfl rfl .no ze46 rfl)<|
     .c (uS [] rfl sz46 rfl)<|
     .c (uA rfl)<|.nil rfl) ?_)
    refine cwS ?_
    refine cwS (cwR (
     .c (uM rfl)<|
     .c (uB rfl (qd3 _ _) rfl)<|.nil rfl) ?_)
    rcases cdS h11 with ⟨hc3,h12⟩ | ⟨hc3,h13⟩
    ·refine cwT rfl hc3 ?_
     have ⟨x4,hx4,h14⟩ := bdS (x := qI0 x3.2) h12
     refine cwS (cwR (
      .c (uM rfl)<|
      .c (qe0 rfl rfl .no Try.func44 rfl rfl (qs2 hx4) (.cons rfl .d .nil) ⟨trivial,trivial⟩ (.inl rfl))<|
      .c (uA rfl)<|.nil rfl) ?_)
     have he0 := ((hx1 _ (sJ h14)).symm).symm
     subst he0
     have heq := ((sJ h7)).symm
     subst heq
     exact qw ⟨_,(show Leads _ _ (St.of [(6,.d (eErr x4))] []) from .w (wkF ⟨wD rfl,trivial⟩ trivial qG)),.inr rfl,_,res1 rfl rfl,rfl,rfl⟩
    refine cwF rfl hc3 ?_
    refine cwK ?_
    refine cwS (cwR (
     .c (uL [] rfl ta115 rfl)<|
     .c (q50 5 rfl rfl .no ze115 rfl)<|
     .c (uS [] rfl sz115 rfl)<|.nil rfl) ?_)
    have ⟨o3,hj3,h15⟩ := bdS h13
    refine cwJ (fun (z : (B8 × Bool)) => St.of [(0,.ifc 64 (.d (qN a0))),(4,.ptr 0 0),(5,.ptr 1 0),(9,.ptr 3 0),(10,.ptr 4 0),(12,.ptr 5 0),(49,.d (qv0 a1.2.2)),(50,.d (eint (a1.2.2.length : Int))),(51,.d (eint v3))] [(0,.box (.d (qm a1))),(1,.box (.d (q70 a2))),(3,.box (.d (qP x2))),(4,.box (.d (qm x3.1))),(5,.box (.d (q70 z)))]) (fun (z : (B8 × Bool)) => o3 = z) ?_ ?_
    ·intro v4 hv3; subst hv3
     refine cwS ?_
     have ⟨o4,hj4,h16⟩ := bdS h15
     refine cwJ (fun (z : Bool) => St.of [(0,.ifc 64 (.d (qN a0))),(4,.ptr 0 0),(5,.ptr 1 0),(10,.ptr 4 0),(12,.ptr 5 0),(49,.d (qv0 a1.2.2)),(50,.d (eint (a1.2.2.length : Int))),(51,.d (eint v3)),(98,.d (qU z))] [(0,.box (.d (qm a1))),(1,.box (.d (q70 a2))),(4,.box (.d (qm x3.1))),(5,.box (.d (q70 o3)))]) (fun (z : Bool) => o4 = z) ?_ ?_
     ·intro v5 hv4; subst hv4
      rcases cdS h16 with ⟨hc4,h17⟩ | ⟨hc4,h18⟩
      ·refine cwT rfl hc4 ?_
       refine cwS (cwR (
        .c (uA rfl)<|.nil rfl) ?_)
       have he1 := ((hx1 _ (sJ h17)).symm).symm
       subst he1
       have heq := ((sJ h7)).symm
       subst heq
       exact qw ⟨_,(show Leads _ _ (St.of [(6,.d (eErr 12))] []) from .w (wkF ⟨wD rfl,trivial⟩ trivial qG)),.inr rfl,_,res1 rfl rfl,rfl,rfl⟩
      refine cwF rfl hc4 ?_
      refine cwK ?_
      have ⟨x5,hx5,h19⟩ := bdS (x := self a0 x3.1 o3) h18
      refine cwS (cwR (
       .c (uM rfl)<|
       .c (uL [] rfl ta46 rfl)<|
       .c (uL [] rfl ta115 rfl)<|
       .c (qe0 rfl rfl .no Try.func45 rfl rfl (self_ok hx5) (.cons rfl .i (.cons rfl .d (.cons rfl .d .nil))) ⟨(by simp [AV.live]),trivial,trivial,trivial⟩ (.inl rfl))<|
       .c (uA rfl)<|.nil rfl) ?_)
      refine cwS (cwR (
       .c (uM rfl)<|
       .c (uB rfl (qd3 _ _) rfl)<|.nil rfl) ?_)
      rcases cdS h19 with ⟨hc5,h20⟩ | ⟨hc5,h21⟩
      ·refine cwT rfl hc5 ?_
       refine cwS (cwR (
        .c (uM rfl)<|
        .c (uA rfl)<|.nil rfl) ?_)
       have he2 := ((hx1 _ (sJ h20)).symm).symm
       subst he2
       have heq := ((sJ h7)).symm
       subst heq
       exact qw ⟨_,(show Leads _ _ (St.of [(6,.d (eErr x5))] []) from .w (wkF ⟨wD rfl,trivial⟩ trivial qG)),.inr rfl,_,res1 rfl rfl,rfl,rfl⟩
      refine cwF rfl hc5 ?_
      refine cwK ?_
      refine cwR (
       .c (uB rfl (qN0 _ _) rfl)<|
       .c (uM rfl)<|.nil rfl
      ) ?_
      exact ⟨(IntKind.wrap .i64 (v3 + 1)),(sJ h21),.w (wkF ⟨⟨_,rfl,.ifc (.d rfl)⟩,⟨_,rfl,.ptr rfl rfl⟩,⟨_,rfl,.ptr rfl rfl⟩,wD rfl,wD rfl,wD rfl,trivial⟩ ⟨.box rfl (.d rfl),.box rfl (.d rfl),trivial⟩ qG)⟩
     rcases cdS hj4 with ⟨hc6,h22⟩ | ⟨hc6,h23⟩
     ·skip
      refine cwRA mixed (by kernel_rfl) (
       .c (uF rfl qE0 rfl)<|
       .c (uL [0] rfl ta3 rfl)<|
       .c (uF rfl qE0 rfl)<|
       .c (uL [0] rfl ta3 rfl)<|
       .c (uB rfl (qW2 _ _) rfl)<|
       .c (uB rfl (qd3 _ _) rfl)<|
       .c (uM rfl)<|
       .c (uN rfl rfl hc6)<|
       .c (uN rfl rfl hc6)<|
       .c (uN rfl rfl hc6)<|
       .c (uN rfl rfl hc6)<|
       .c (uN rfl rfl hc6)<|
       .c (uPT rfl hc6)<|
       .c (uM rfl)<|
       .c (uN rfl rfl rfl)<|
       .c (uN rfl rfl rfl)<|
       .c (uPT rfl rfl)<|.nil rfl) (by kernel_rfl) ?_
      exact ⟨true,(sJ h22),.w (wkF ⟨⟨_,rfl,.ifc (.d rfl)⟩,⟨_,rfl,.ptr rfl rfl⟩,⟨_,rfl,.ptr rfl rfl⟩,⟨_,rfl,.ptr rfl rfl⟩,⟨_,rfl,.ptr rfl rfl⟩,wD rfl,wD rfl,wD rfl,wD rfl,trivial⟩ ⟨.box rfl (.d rfl),.box rfl (.d rfl),.box rfl (.d rfl),.box rfl (.d rfl),trivial⟩ qG)⟩
     have ⟨x6,hx6,h24⟩ := bdS (x := qR0 x3.1) h23
     rcases cdS h24 with ⟨hc7,h25⟩ | ⟨hc7,h26⟩
     ·skip
      refine cwRA mixed (by kernel_rfl) (
       .c (uF rfl qE0 rfl)<|
       .c (uL [0] rfl ta3 rfl)<|
       .c (uF rfl qE0 rfl)<|
       .c (uL [0] rfl ta3 rfl)<|
       .c (uB rfl (qW2 _ _) rfl)<|
       .c (uB rfl (qd3 _ _) rfl)<|
       .c (uM rfl)<|
       .c (qA [] rfl rfl (.yes rfl rfl hc6) rfl rfl rfl ta46 rfl rfl)<|
       .c (qe0 rfl rfl (.yes rfl rfl hc6) Try.func67 rfl rfl (qO2 hx6) (.cons rfl .d .nil) ⟨trivial,trivial⟩ (.inl rfl))<|
       .c (qn rfl rfl (.yes rfl rfl hc6) rfl qN2 (by decide))<|
       .c (qA [0] rfl rfl (.yes rfl rfl hc6) rfl rfl rfl ta31 rfl rfl)<|
       .c (o_ne rfl rfl (.yes rfl rfl hc6) rfl rfl rfl rfl eg31 (.bs ar31 un5 sz5))<|
       .c (uPF rfl hc6)<|
       .c (uM rfl)<|
       .c (uN rfl rfl hc7)<|
       .c (uN rfl rfl hc7)<|
       .c (uPT rfl hc7)<|.nil rfl) (by kernel_rfl) ?_
      exact ⟨true,(sJ h25),.w (wkF ⟨⟨_,rfl,.ifc (.d rfl)⟩,⟨_,rfl,.ptr rfl rfl⟩,⟨_,rfl,.ptr rfl rfl⟩,⟨_,rfl,.ptr rfl rfl⟩,⟨_,rfl,.ptr rfl rfl⟩,wD rfl,wD rfl,wD rfl,wD rfl,trivial⟩ ⟨.box rfl (.d rfl),.box rfl (.d rfl),.box rfl (.d rfl),.box rfl (.d rfl),trivial⟩ qG)⟩
     have ⟨x7,hx7,h27⟩ := bdS (x := ql3 x3.1) h26
     refine cwRA mixed (by kernel_rfl) (
      .c (uF rfl qE0 rfl)<|
      .c (uL [0] rfl ta3 rfl)<|
      .c (uF rfl qE0 rfl)<|
      .c (uL [0] rfl ta3 rfl)<|
      .c (uB rfl (qW2 _ _) rfl)<|
      .c (uB rfl (qd3 _ _) rfl)<|
      .c (uM rfl)<|
      .c (qA [] rfl rfl (.yes rfl rfl hc6) rfl rfl rfl ta46 rfl rfl)<|
      .c (qe0 rfl rfl (.yes rfl rfl hc6) Try.func67 rfl rfl (qO2 hx6) (.cons rfl .d .nil) ⟨trivial,trivial⟩ (.inl rfl))<|
      .c (qn rfl rfl (.yes rfl rfl hc6) rfl qN2 (by decide))<|
      .c (qA [0] rfl rfl (.yes rfl rfl hc6) rfl rfl rfl ta31 rfl rfl)<|
      .c (o_ne rfl rfl (.yes rfl rfl hc6) rfl rfl rfl rfl eg31 (.bs ar31 un5 sz5))<|
      .c (uPF rfl hc6)<|
      .c (uM rfl)<|
      .c (qA [] rfl rfl (.yes rfl rfl hc7) rfl rfl rfl ta46 rfl rfl)<|
      .c (qe0 rfl rfl (.yes rfl rfl hc7) Try.func68 rfl rfl (tree_few_ok hx7) (.cons rfl .d .nil) ⟨trivial,trivial⟩ (.inl rfl))<|
      .c (uPF rfl hc7)<|.nil rfl) (by kernel_rfl) ?_
     exact ⟨x7,(sJ h27),.w (wkF ⟨⟨_,rfl,.ifc (.d rfl)⟩,⟨_,rfl,.ptr rfl rfl⟩,⟨_,rfl,.ptr rfl rfl⟩,⟨_,rfl,.ptr rfl rfl⟩,⟨_,rfl,.ptr rfl rfl⟩,wD rfl,wD rfl,wD rfl,wD rfl,trivial⟩ ⟨.box rfl (.d rfl),.box rfl (.d rfl),.box rfl (.d rfl),.box rfl (.d rfl),trivial⟩ qG)⟩
    refine cwS (cwR (
     .c (uM rfl)<|
     .c (uB rfl (qN0 _ _) rfl)<|
     .c (uF rfl qo0 rfl)<|
     .c (uL [2] rfl ta44 rfl)<|
     .c (qV (enc := qP) (xs := a1.2.2) rfl rfl .no rfl sl44)<|
     .c (uB rfl (qG0 _ _) rfl)<|.nil rfl) ?_)
    rcases cdS hj3 with ⟨hc8,h28⟩ | ⟨hc8,h29⟩
    ·refine cwT rfl hc8 ?_
     have ⟨x8,hx8,h30⟩ := bdS h28
     have hx8g := qD hx8
     refine cwR (
      .c (uF rfl qo0 rfl)<|
      .c (uL [2] rfl ta44 rfl)<|
      .c (uM rfl)<|
      .c (uB rfl (qN0 _ _) rfl)<|
      .c (qJ1 (enc := qP) (xs := a1.2.2) rfl rfl .no rfl rfl sl44 sz69 hx8g.1 hx8g.2)<|
      .c (qa2 rfl rfl .no rfl qN2 (by decide) rfl rfl)<|
      .c (o_ld rfl rfl .no rfl ta31 rfl rfl)<|
      .c (qz5 (ds := [eK x8.1,qU true]) rfl rfl .no zs115 rfl pl115 (.cons rfl rfl rfl rfl rfl rfl rfl (.cons rfl rfl rfl rfl rfl rfl rfl .nil)))<|
      .c (uS [] rfl sz115 rfl)<|.nil rfl
     ) ?_
     exact ⟨(x8.1,true),(sJ h30),.w (wkF ⟨⟨_,rfl,.ifc (.d rfl)⟩,⟨_,rfl,.ptr rfl rfl⟩,⟨_,rfl,.ptr rfl rfl⟩,⟨_,rfl,.ptr rfl rfl⟩,⟨_,rfl,.ptr rfl rfl⟩,⟨_,rfl,.ptr rfl rfl⟩,wD rfl,wD rfl,wD rfl,trivial⟩ ⟨.box rfl (.d rfl),.box rfl (.d rfl),.box rfl (.d rfl),.box rfl (.d rfl),.box rfl (.d rfl),trivial⟩ qG)⟩
    refine cwF rfl hc8 ?_
    refine cwK ?_
    exact ⟨a2,(sJ h29),.w (wkF ⟨⟨_,rfl,.ifc (.d rfl)⟩,⟨_,rfl,.ptr rfl rfl⟩,⟨_,rfl,.ptr rfl rfl⟩,⟨_,rfl,.ptr rfl rfl⟩,⟨_,rfl,.ptr rfl rfl⟩,⟨_,rfl,.ptr rfl rfl⟩,wD rfl,wD rfl,wD rfl,trivial⟩ ⟨.box rfl (.d rfl),.box rfl (.d rfl),.box rfl (.d rfl),.box rfl (.d rfl),.box rfl (.d rfl),trivial⟩ qG)⟩
   refine cwF rfl hc2 ?_
   refine q10 ?_
   exact ⟨(),(hx1 _ (sJ h9)).symm,.w (wkF trivial trivial qG)⟩
  rcases cdS hj1 with ⟨hc9,h31⟩ | ⟨hc9,h32⟩
  ·skip
   have ⟨x9,hx9,h33⟩ := bdS (x := qu o0 a2.1) h31
   refine cwR (
    .c (uF rfl fld115_1 rfl)<|
    .c (uL [1] rfl ta4 rfl)<|
    .c (uM rfl)<|
    .c (qA [] rfl rfl (.yes rfl rfl hc9) rfl rfl rfl ta31 rfl rfl)<|
    .c (qn rfl rfl (.yes rfl rfl hc9) rfl fld115_0 (by decide))<|
    .c (qA [0] rfl rfl (.yes rfl rfl hc9) rfl rfl rfl ta31 rfl rfl)<|
    .c (qe0 rfl rfl (.yes rfl rfl hc9) Try.func43 rfl rfl (q90 hx9) (.cons rfl .d (.cons rfl .d .nil)) ⟨trivial,trivial,trivial⟩ (.inl rfl))<|
    .c (qj rfl rfl (.yes rfl rfl hc9) rfl rfl (b_geq _ _) rfl)<|
    .c (uPT rfl hc9)<|.nil rfl
   ) ?_
   exact ⟨(decide (x9 ≥ 0)),(sJ h33),.w (wkF ⟨⟨_,rfl,.ifc (.d rfl)⟩,⟨_,rfl,.ptr rfl rfl⟩,⟨_,rfl,.ptr rfl rfl⟩,wD rfl,trivial⟩ ⟨.box rfl (.d rfl),.box rfl (.d rfl),trivial⟩ qG)⟩
  refine cwR (
   .c (uF rfl fld115_1 rfl)<|
   .c (uL [1] rfl ta4 rfl)<|
   .c (uM rfl)<|
   .c (uN rfl rfl hc9)<|
   .c (uN rfl rfl hc9)<|
   .c (uN rfl rfl hc9)<|
   .c (uN rfl rfl hc9)<|
   .c (uN rfl rfl hc9)<|
   .c (uPF rfl hc9)<|.nil rfl
  ) ?_
  exact ⟨false,(sJ h32),.w (wkF ⟨⟨_,rfl,.ifc (.d rfl)⟩,⟨_,rfl,.ptr rfl rfl⟩,⟨_,rfl,.ptr rfl rfl⟩,wD rfl,trivial⟩ ⟨.box rfl (.d rfl),.box rfl (.d rfl),trivial⟩ qG)⟩
 refine cwS (cwR (
  .c (uF rfl qE0 rfl)<|
  .c (uL [0] rfl ta3 rfl)<|
  .c (uB rfl (qd0 _ _) rfl)<|.nil rfl) ?_)
 rcases cdS hj0 with ⟨hc10,h34⟩ | ⟨hc10,h35⟩
 ·refine cwT rfl hc10 ?_
  have ⟨x10,hx10,h36⟩ := bdS h34
  have hx10g := qD hx10
  refine cwR (
   .c (uF rfl qr1 rfl)<|
   .c (uL [1] rfl ta34 rfl)<|
   .c (uF rfl qr1 rfl)<|
   .c (uL [1] rfl ta34 rfl)<|
   .c (qV (enc := ePr) (xs := a1.2.1) rfl rfl .no rfl sl34)<|
   .c (uB rfl (qW2 _ _) rfl)<|
   .c (qJ1 (enc := ePr) (xs := a1.2.1) rfl rfl .no rfl rfl sl34 sz52 hx10g.1 hx10g.2)<|
   .c (qa2 rfl rfl .no rfl qD4 (by decide) rfl rfl)<|
   .c (o_ld rfl rfl .no rfl ta31 rfl rfl)<|
   .c (uS [] rfl sz31 rfl)<|.nil rfl
  ) ?_
  exact ⟨x10.1,(sJ h36),.w (wkF ⟨⟨_,rfl,.ifc (.d rfl)⟩,⟨_,rfl,.ptr rfl rfl⟩,⟨_,rfl,.ptr rfl rfl⟩,⟨_,rfl,.ptr rfl rfl⟩,trivial⟩ ⟨.box rfl (.d rfl),.box rfl (.d rfl),.box rfl (.d rfl),trivial⟩ qG)⟩
 refine cwF rfl hc10 ?_
 have ⟨x11,hx11,h37⟩ := bdS h35
 have hx11g := qD hx11
 refine cwR (
  .c (uF rfl qo0 rfl)<|
  .c (uL [2] rfl ta44 rfl)<|
  .c (uF rfl qo0 rfl)<|
  .c (uL [2] rfl ta44 rfl)<|
  .c (qV (enc := qP) (xs := a1.2.2) rfl rfl .no rfl sl44)<|
  .c (uB rfl (qW2 _ _) rfl)<|
  .c (qJ1 (enc := qP) (xs := a1.2.2) rfl rfl .no rfl rfl sl44 sz69 hx11g.1 hx11g.2)<|
  .c (qa2 rfl rfl .no rfl qN2 (by decide) rfl rfl)<|
  .c (o_ld rfl rfl .no rfl ta31 rfl rfl)<|
  .c (uS [] rfl sz31 rfl)<|.nil rfl
 ) ?_
 exact ⟨x11.1,(sJ h37),.w (wkF ⟨⟨_,rfl,.ifc (.d rfl)⟩,⟨_,rfl,.ptr rfl rfl⟩,⟨_,rfl,.ptr rfl rfl⟩,⟨_,rfl,.ptr rfl rfl⟩,trivial⟩ ⟨.box rfl (.d rfl),.box rfl (.d rfl),.box rfl (.d rfl),trivial⟩ qG)⟩
theorem qw3 : ∀ (n : Nat) {a0 : (List (Int × ttN))} {a1 : ttN} {a2 : (B8 × Bool)} {r : Int},qk0 n a0 a1 a2 = some r → FnOk Try.prog 45 [.ifc 64 (.d (qN a0)),.d (qm a1),.d (q70 a2)] 0 (lk []) (fun rr oo => rr = .d (eErr r) ∧ oo = lk [])
 | 0,_,_,_,_,h => nomatch h
 | n + 1,_,_,_,_,h => qo4 (self := qk0 n) (fun h => qw3 n h) h
theorem tree_check_b_ok {a0 : (List (Int × ttN))} {a1 : ttN} {a2 : (B8 × Bool)} {r : Int} (h : qk3 a0 a1 a2 = some r) : FnOk Try.prog 45 [.ifc 64 (.d (qN a0)),.d (qm a1),.d (q70 a2)] 0 (lk []) (fun rr oo => rr = .d (eErr r) ∧ oo = lk []) := qw3 16 h
theorem q94 {a0 : (List (Int × ttN))} {a1 : Int} {r : Int} (h : q11 a0 a1 = some r) : FnOk Try.prog 22 [.ifc 64 (.d (qN a0)),.d (eint a1)] 0 (lk []) (fun rr oo => rr = .d (eErr r) ∧ oo = lk []) := by
 refine fnO Try.func22 rfl rfl (cwP ?_)
 unfold q11 at h
 refine cwS (cwR (
  .c (uA rfl)<|.nil rfl) ?_)
 refine cwS ?_
 refine cwS (cwR (
  .c (uM rfl)<|
  .c (uB rfl (qd0 _ _) rfl)<|.nil rfl) ?_)
 rcases cdS h with ⟨hc0,h0⟩ | ⟨hc0,h1⟩
 ·refine cwT rfl hc0 ?_
  refine cwS (cwR (
   .c (uA rfl)<|.nil rfl) ?_)
  have heq := ((sJ h0)).symm
  subst heq
  exact qw ⟨_,(show Leads _ _ (St.of [(4,.d (eErr 0))] []) from .w (wkF ⟨wD rfl,trivial⟩ trivial qG)),.inr rfl,_,res1 rfl rfl,rfl,rfl⟩
 refine cwF rfl hc0 ?_
 refine cwK ?_
 have ⟨x0,hx0,h2⟩ := bdS (x := qB0 a0 a1) h1
 refine cwS (cwR (
  .c (uM rfl)<|
  .c (uM rfl)<|
  .c (o_invD (fun o => o) rfl rfl .no rfl Try.func134 rfl rfl hm64_Get (qT3 hx0) (.cons rfl .d (.cons rfl .d .nil)) (by decide) (callIn0 ⟨trivial,trivial,trivial⟩) (.inl rfl))<|
  .c (uM rfl)<|
  .c (uE rfl)<|
  .c (uE rfl)<|
  .c (q50 0 rfl rfl .no ze46 rfl)<|
  .c (uS [] rfl sz46 rfl)<|
  .c (uA rfl)<|.nil rfl) ?_)
 refine cwS ?_
 refine cwS (cwR (
  .c (uM rfl)<|
  .c (uB rfl (qd3 _ _) rfl)<|.nil rfl) ?_)
 rcases cdS h2 with ⟨hc1,h3⟩ | ⟨hc1,h4⟩
 ·refine cwT rfl hc1 ?_
  have ⟨x1,hx1,h5⟩ := bdS (x := qI0 x0.2) h3
  refine cwS (cwR (
   .c (uM rfl)<|
   .c (qe0 rfl rfl .no Try.func44 rfl rfl (qs2 hx1) (.cons rfl .d .nil) ⟨trivial,trivial⟩ (.inl rfl))<|
   .c (uA rfl)<|.nil rfl) ?_)
  have heq := ((sJ h5)).symm
  subst heq
  exact qw ⟨_,(show Leads _ _ (St.of [(4,.d (eErr x1))] []) from .w (wkF ⟨wD rfl,trivial⟩ trivial qG)),.inr rfl,_,res1 rfl rfl,rfl,rfl⟩
 refine cwF rfl hc1 ?_
 refine cwK ?_
 have ⟨x2,hx2,h6⟩ := bdS (x := qk3 a0 x0.1 ((List.replicate 24 0),false)) h4
 refine cwS (cwR (
  .c (uM rfl)<|
  .c (uL [] rfl ta46 rfl)<|
  .c (qz5 (ds := [eK (List.replicate 24 0),qU false]) rfl rfl .no zs115 rfl pl115 .nil)<|
  .c (qe0 rfl rfl .no Try.func45 rfl rfl (tree_check_b_ok hx2) (.cons rfl .i (.cons rfl .d (.cons rfl .d .nil))) ⟨(by simp [AV.live]),trivial,trivial,trivial⟩ (.inl rfl))<|
  .c (uA rfl)<|.nil rfl) ?_)
 have heq := ((sJ h6)).symm
 subst heq
 exact qw ⟨_,(show Leads _ _ (St.of [(4,.d (eErr x2))] []) from .w (wkF ⟨wD rfl,trivial⟩ trivial qG)),.inr rfl,_,res1 rfl rfl,rfl,rfl⟩
theorem qa4 {self : ttM → ttN → (B8 × Bool) → Option (Int × ttM)} (self_ok : ∀ {a0 : ttM} {a1 : ttN} {a2 : (B8 × Bool)} {r : (Int × ttM)},self a0 a1 a2 = some r → FnOk Try.prog 45 [.ifc 24 (.ptr 0 0),.d (qm a1),.d (q70 a2)] 1 (lk [(0,.own (qc a0))]) (fun rr oo => rr = .d (eErr r.1) ∧ oo = lk [(0,.own (qc r.2))])) {a0 : ttM} {a1 : ttN} {a2 : (B8 × Bool)} {r : (Int × ttM)} (h : qu1 self a0 a1 a2 = some r) : FnOk Try.prog 45 [.ifc 24 (.ptr 0 0),.d (qm a1),.d (q70 a2)] 1 (lk [(0,.own (qc a0))]) (fun rr oo => rr = .d (eErr r.1) ∧ oo = lk [(0,.own (qc r.2))]) := by
 refine fnO Try.func45 rfl rfl (cwP ?_)
 unfold qu1 at h
 refine cwS (cwR (
  .c (uX 1 rfl)<|
  .c (uX 2 rfl)<|
  .c (uA rfl)<|.nil rfl) ?_)
 refine cwS ?_
 have ⟨x0,hx0,h0⟩ := bdS (x := qe1 a1) h
 refine cwS (cwR (
  .c (uL [] rfl ta46 rfl)<|
  .c (qe0 rfl rfl .no Try.func66 rfl rfl (qI3 hx0) (.cons rfl .d .nil) ⟨trivial,trivial⟩ (.inl rfl))<|
  .c (uT rfl)<|.nil rfl) ?_)
 rcases cdS h0 with ⟨hc0,h1⟩ | ⟨hc0,h2⟩
 ·refine cwT rfl hc0 ?_
  refine cwS (cwR (
   .c (uA rfl)<|.nil rfl) ?_)
  have heq := ((sJ h1)).symm
  subst heq
  exact qw ⟨_,(show Leads _ _ (St.of [(6,.d (eErr 12))] [(0,.own (qc a0))]) from .w (wkF ⟨wD rfl,trivial⟩ ⟨.own rfl (.of_eq rfl (q9 _)),trivial⟩ (qv rfl))),.inr rfl,_,res1 rfl rfl,rfl,rfl⟩
 refine cwF rfl hc0 ?_
 refine cwK ?_
 refine cwS (cwR (
  .c (o_bldB (l := (List.replicate 24 0)) (r := (List.replicate 24 0)) rfl rfl .no ze31 ar31 sz5 .nil)<|
  .c (q50 3 rfl rfl .no ze31 rfl)<|
  .c (uS [] rfl sz31 rfl)<|.nil rfl) ?_)
 have ⟨o0,hj0,h3⟩ := bdS h2
 refine cwJ (fun (z : B8) => St.of [(0,.ifc 24 (.ptr 0 0)),(4,.ptr 1 0),(5,.ptr 2 0),(7,.ptr 3 0)] [(0,.own (qc a0)),(1,.box (.d (qm a1))),(2,.box (.d (q70 a2))),(3,.box (.d (eK z)))]) (fun (z : B8) => o0 = z) ?_ ?_
 ·intro v0 hv0; subst hv0
  refine cwS ?_
  have ⟨o1,hj1,h4⟩ := bdS h3
  refine cwJ (fun (z : Bool) => St.of [(0,.ifc 24 (.ptr 0 0)),(4,.ptr 1 0),(5,.ptr 2 0),(47,.d (qU z))] [(0,.own (qc a0)),(1,.box (.d (qm a1))),(2,.box (.d (q70 a2)))]) (fun (z : Bool) => o1 = z) ?_ ?_
  ·intro v1 hv1; subst hv1
   rcases cdS h4 with ⟨hc1,h5⟩ | ⟨hc1,h6⟩
   ·refine cwT rfl hc1 ?_
    refine cwS (cwR (
     .c (uA rfl)<|.nil rfl) ?_)
    have heq := ((sJ h5)).symm
    subst heq
    exact qw ⟨_,(show Leads _ _ (St.of [(6,.d (eErr 12))] [(0,.own (qc a0))]) from .w (wkF ⟨wD rfl,trivial⟩ ⟨.own rfl (.of_eq rfl (q9 _)),trivial⟩ (qv rfl))),.inr rfl,_,res1 rfl rfl,rfl,rfl⟩
   refine cwF rfl hc1 ?_
   refine cwK ?_
   have ⟨o2,hj2,h7⟩ := bdS h6
   refine cwJ (fun (z : ttM) => St.of [] [(0,.own (qc z))]) (fun (z : ttM) => o2 = (.inl z)) ?_ ?_
   ·intro v2 hv2; subst hv2
    simp only [Sum.elim_inl] at h7
    refine cwS (cwR (
     .c (uA rfl)<|.nil rfl) ?_)
    have heq := ((sJ h7)).symm
    subst heq
    exact qw ⟨_,(show Leads _ _ (St.of [(6,.d (eErr 0))] [(0,.own (qc v2))]) from .w (wkF ⟨wD rfl,trivial⟩ ⟨.own rfl (.of_eq rfl (q9 _)),trivial⟩ (qv rfl))),.inr rfl,_,res1 rfl rfl,rfl,rfl⟩
   refine cwS (cwR (
    .c (uF rfl qo0 rfl)<|
    .c (uL [2] rfl ta44 rfl)<|
    .c (qV (enc := qP) (xs := a1.2.2) rfl rfl .no rfl sl44)<|
    .c (uM rfl)<|.nil rfl) ?_)
   refine cwB ?_
   refine qM (V := (Int × ttM)) (O := (ttM ⊕ (Int × ttM))) (fun (z : (Int × ttM)) => St.of [(0,.ifc 24 (.ptr 0 0)),(4,.ptr 1 0),(5,.ptr 2 0),(49,.d (qv0 a1.2.2)),(50,.d (eint (a1.2.2.length : Int))),(51,.d (eint z.1))] [(0,.own (qc z.2)),(1,.box (.d (qm a1))),(2,.box (.d (q70 a2)))]) hj2 (.w (wkF ⟨⟨_,rfl,.ifc (.ptro rfl rfl)⟩,⟨_,rfl,.ptr rfl rfl⟩,⟨_,rfl,.ptr rfl rfl⟩,wD rfl,wD rfl,wD rfl,trivial⟩ ⟨.own rfl (.of_eq rfl (q9 _)),.box rfl (.d rfl),.box rfl (.d rfl),trivial⟩ (qv rfl))) ?_
   intro v3 x1 hb0 hx1
   refine cwS (cwR (
    .c (uB rfl (qG0 _ _) rfl)<|.nil rfl) ?_)
   refine cwS ?_
   rcases cdS hb0 with ⟨hc2,h8⟩ | ⟨hc2,h9⟩
   ·refine cwT rfl hc2 ?_
    refine cwK ?_
    refine cwS ?_
    refine cwB ?_
    have ⟨x2,hx2,h10⟩ := bdS h8
    have hx2g := qD hx2
    refine cwS (cwR (
     .c (uM rfl)<|
     .c (qJ1 (enc := qP) (xs := a1.2.2) rfl rfl .no rfl rfl sl44 sz69 hx2g.1 hx2g.2)<|
     .c (o_ld rfl rfl .no rfl ta69 rfl rfl)<|
     .c (q50 4 rfl rfl .no ze69 rfl)<|
     .c (uA rfl)<|
     .c (uS [] rfl sz69 rfl)<|.nil rfl) ?_)
    have ⟨x3,hx3,h11⟩ := bdS (x := qx v3.2 x2.2) h10
    refine cwS (cwR (
     .c (uM rfl)<|
     .c (uF rfl qM2 rfl)<|
     .c (uL [1] rfl ta3 rfl)<|
     .c (o_inv (fun n => bif Nat.beq n 0 then 0 else 5) rfl rfl .no rfl Try.func23 rfl rfl rfl qr4 (qh0 hx3) (.cons rfl (.p rfl) (.cons rfl .d .nil)) (by decide) (qP2 [1] rfl ⟨(by simp [AV.live,AV.lives,lk,Nat.beq]),trivial,trivial⟩ ⟨⟨rfl,(OD.dat_live (q9 _))⟩,trivial⟩ rfl rfl rfl ⟨rfl,trivial⟩ rfl) (.inl rfl))<|
     .c (uM rfl)<|
     .c (uE rfl)<|
     .c (uE rfl)<|
     .c (q50 6 rfl rfl .no ze46 rfl)<|
     .c (uS [] rfl sz46 rfl)<|
     .c (uA rfl)<|.nil rfl) ?_)
    refine cwS ?_
    refine cwS (cwR (
     .c (uM rfl)<|
     .c (uB rfl (qd3 _ _) rfl)<|.nil rfl) ?_)
    rcases cdS h11 with ⟨hc3,h12⟩ | ⟨hc3,h13⟩
    ·refine cwT rfl hc3 ?_
     have ⟨x4,hx4,h14⟩ := bdS (x := qI0 x3.2.1) h12
     refine cwS (cwR (
      .c (uM rfl)<|
      .c (qe0 rfl rfl .no Try.func44 rfl rfl (qs2 hx4) (.cons rfl .d .nil) ⟨trivial,trivial⟩ (.inl rfl))<|
      .c (uA rfl)<|.nil rfl) ?_)
     have he0 := ((hx1 _ (sJ h14)).symm).symm
     subst he0
     have heq := ((sJ h7)).symm
     subst heq
     exact qw ⟨_,(show Leads _ _ (St.of [(6,.d (eErr x4))] [(0,.own (qc x3.2.2))]) from .w (wkF ⟨wD rfl,trivial⟩ ⟨.own rfl (.of_eq rfl (q9 _)),trivial⟩ (qv rfl))),.inr rfl,_,res1 rfl rfl,rfl,rfl⟩
    refine cwF rfl hc3 ?_
    refine cwK ?_
    refine cwS (cwR (
     .c (uL [] rfl ta115 rfl)<|
     .c (q50 7 rfl rfl .no ze115 rfl)<|
     .c (uS [] rfl sz115 rfl)<|.nil rfl) ?_)
    have ⟨o3,hj3,h15⟩ := bdS h13
    refine cwJ (fun (z : (B8 × Bool)) => St.of [(0,.ifc 24 (.ptr 0 0)),(4,.ptr 1 0),(5,.ptr 2 0),(9,.ptr 4 0),(10,.ptr 6 0),(12,.ptr 7 0),(49,.d (qv0 a1.2.2)),(50,.d (eint (a1.2.2.length : Int))),(51,.d (eint v3.1))] [(0,.own (qc x3.2.2)),(1,.box (.d (qm a1))),(2,.box (.d (q70 a2))),(4,.box (.d (qP x2))),(6,.box (.d (qm x3.1))),(7,.box (.d (q70 z)))]) (fun (z : (B8 × Bool)) => o3 = z) ?_ ?_
    ·intro v4 hv3; subst hv3
     refine cwS ?_
     have ⟨o4,hj4,h16⟩ := bdS h15
     refine cwJ (fun (z : Bool) => St.of [(0,.ifc 24 (.ptr 0 0)),(4,.ptr 1 0),(5,.ptr 2 0),(10,.ptr 6 0),(12,.ptr 7 0),(49,.d (qv0 a1.2.2)),(50,.d (eint (a1.2.2.length : Int))),(51,.d (eint v3.1)),(98,.d (qU z))] [(0,.own (qc x3.2.2)),(1,.box (.d (qm a1))),(2,.box (.d (q70 a2))),(6,.box (.d (qm x3.1))),(7,.box (.d (q70 o3)))]) (fun (z : Bool) => o4 = z) ?_ ?_
     ·intro v5 hv4; subst hv4
      rcases cdS h16 with ⟨hc4,h17⟩ | ⟨hc4,h18⟩
      ·refine cwT rfl hc4 ?_
       refine cwS (cwR (
        .c (uA rfl)<|.nil rfl) ?_)
       have he1 := ((hx1 _ (sJ h17)).symm).symm
       subst he1
       have heq := ((sJ h7)).symm
       subst heq
       exact qw ⟨_,(show Leads _ _ (St.of [(6,.d (eErr 12))] [(0,.own (qc x3.2.2))]) from .w (wkF ⟨wD rfl,trivial⟩ ⟨.own rfl (.of_eq rfl (q9 _)),trivial⟩ (qv rfl))),.inr rfl,_,res1 rfl rfl,rfl,rfl⟩
      refine cwF rfl hc4 ?_
      refine cwK ?_
      have ⟨x5,hx5,h19⟩ := bdS (x := self x3.2.2 x3.1 o3) h18
      refine cwS (cwR (
       .c (uM rfl)<|
       .c (uL [] rfl ta46 rfl)<|
       .c (uL [] rfl ta115 rfl)<|
       .c (qQ (fun _ => 0) rfl rfl .no Try.func45 rfl rfl (self_ok hx5) (.cons rfl (.ip rfl) (.cons rfl .d (.cons rfl .d .nil))) (q40 rfl ⟨(by simp [AV.live,lk,Nat.beq]),trivial,trivial,trivial⟩ rfl (OD.dat_live (q9 _)) (by simp)) (.inl rfl))<|
       .c (uA rfl)<|.nil rfl) ?_)
      refine cwS (cwR (
       .c (uM rfl)<|
       .c (uB rfl (qd3 _ _) rfl)<|.nil rfl) ?_)
      rcases cdS h19 with ⟨hc5,h20⟩ | ⟨hc5,h21⟩
      ·refine cwT rfl hc5 ?_
       refine cwS (cwR (
        .c (uM rfl)<|
        .c (uA rfl)<|.nil rfl) ?_)
       have he2 := ((hx1 _ (sJ h20)).symm).symm
       subst he2
       have heq := ((sJ h7)).symm
       subst heq
       exact qw ⟨_,(show Leads _ _ (St.of [(6,.d (eErr x5.1))] [(0,.own (qc x5.2))]) from .w (wkF ⟨wD rfl,trivial⟩ ⟨.own rfl (.of_eq rfl (q9 _)),trivial⟩ (qv rfl))),.inr rfl,_,res1 rfl rfl,rfl,rfl⟩
      refine cwF rfl hc5 ?_
      refine cwK ?_
      refine cwR (
       .c (uB rfl (qN0 _ _) rfl)<|
       .c (uM rfl)<|.nil rfl
      ) ?_
      exact ⟨((IntKind.wrap .i64 (v3.1 + 1)),x5.2),(sJ h21),.w (wkF ⟨⟨_,rfl,.ifc (.ptro rfl rfl)⟩,⟨_,rfl,.ptr rfl rfl⟩,⟨_,rfl,.ptr rfl rfl⟩,wD rfl,wD rfl,wD rfl,trivial⟩ ⟨.own rfl (.of_eq rfl (q9 _)),.box rfl (.d rfl),.box rfl (.d rfl),trivial⟩ (qv rfl))⟩
     rcases cdS hj4 with ⟨hc6,h22⟩ | ⟨hc6,h23⟩
     ·skip
      refine cwRA mixed (by kernel_rfl) (
       .c (uF rfl qE0 rfl)<|
       .c (uL [0] rfl ta3 rfl)<|
       .c (uF rfl qE0 rfl)<|
       .c (uL [0] rfl ta3 rfl)<|
       .c (uB rfl (qW2 _ _) rfl)<|
       .c (uB rfl (qd3 _ _) rfl)<|
       .c (uM rfl)<|
       .c (uN rfl rfl hc6)<|
       .c (uN rfl rfl hc6)<|
       .c (uN rfl rfl hc6)<|
       .c (uN rfl rfl hc6)<|
       .c (uN rfl rfl hc6)<|
       .c (uPT rfl hc6)<|
       .c (uM rfl)<|
       .c (uN rfl rfl rfl)<|
       .c (uN rfl rfl rfl)<|
       .c (uPT rfl rfl)<|.nil rfl) (by kernel_rfl) ?_
      exact ⟨true,(sJ h22),.w (wkF ⟨⟨_,rfl,.ifc (.ptro rfl rfl)⟩,⟨_,rfl,.ptr rfl rfl⟩,⟨_,rfl,.ptr rfl rfl⟩,⟨_,rfl,.ptr rfl rfl⟩,⟨_,rfl,.ptr rfl rfl⟩,wD rfl,wD rfl,wD rfl,wD rfl,trivial⟩ ⟨.own rfl (.of_eq rfl (q9 _)),.box rfl (.d rfl),.box rfl (.d rfl),.box rfl (.d rfl),.box rfl (.d rfl),trivial⟩ (qv rfl))⟩
     have ⟨x6,hx6,h24⟩ := bdS (x := qR0 x3.1) h23
     rcases cdS h24 with ⟨hc7,h25⟩ | ⟨hc7,h26⟩
     ·skip
      refine cwRA mixed (by kernel_rfl) (
       .c (uF rfl qE0 rfl)<|
       .c (uL [0] rfl ta3 rfl)<|
       .c (uF rfl qE0 rfl)<|
       .c (uL [0] rfl ta3 rfl)<|
       .c (uB rfl (qW2 _ _) rfl)<|
       .c (uB rfl (qd3 _ _) rfl)<|
       .c (uM rfl)<|
       .c (qA [] rfl rfl (.yes rfl rfl hc6) rfl rfl rfl ta46 rfl rfl)<|
       .c (qe0 rfl rfl (.yes rfl rfl hc6) Try.func67 rfl rfl (qO2 hx6) (.cons rfl .d .nil) ⟨trivial,trivial⟩ (.inl rfl))<|
       .c (qn rfl rfl (.yes rfl rfl hc6) rfl qN2 (by decide))<|
       .c (qA [0] rfl rfl (.yes rfl rfl hc6) rfl rfl rfl ta31 rfl rfl)<|
       .c (o_ne rfl rfl (.yes rfl rfl hc6) rfl rfl rfl rfl eg31 (.bs ar31 un5 sz5))<|
       .c (uPF rfl hc6)<|
       .c (uM rfl)<|
       .c (uN rfl rfl hc7)<|
       .c (uN rfl rfl hc7)<|
       .c (uPT rfl hc7)<|.nil rfl) (by kernel_rfl) ?_
      exact ⟨true,(sJ h25),.w (wkF ⟨⟨_,rfl,.ifc (.ptro rfl rfl)⟩,⟨_,rfl,.ptr rfl rfl⟩,⟨_,rfl,.ptr rfl rfl⟩,⟨_,rfl,.ptr rfl rfl⟩,⟨_,rfl,.ptr rfl rfl⟩,wD rfl,wD rfl,wD rfl,wD rfl,trivial⟩ ⟨.own rfl (.of_eq rfl (q9 _)),.box rfl (.d rfl),.box rfl (.d rfl),.box rfl (.d rfl),.box rfl (.d rfl),trivial⟩ (qv rfl))⟩
     have ⟨x7,hx7,h27⟩ := bdS (x := ql3 x3.1) h26
     refine cwRA mixed (by kernel_rfl) (
      .c (uF rfl qE0 rfl)<|
      .c (uL [0] rfl ta3 rfl)<|
      .c (uF rfl qE0 rfl)<|
      .c (uL [0] rfl ta3 rfl)<|
      .c (uB rfl (qW2 _ _) rfl)<|
      .c (uB rfl (qd3 _ _) rfl)<|
      .c (uM rfl)<|
      .c (qA [] rfl rfl (.yes rfl rfl hc6) rfl rfl rfl ta46 rfl rfl)<|
      .c (qe0 rfl rfl (.yes rfl rfl hc6) Try.func67 rfl rfl (qO2 hx6) (.cons rfl .d .nil) ⟨trivial,trivial⟩ (.inl rfl))<|
      .c (qn rfl rfl (.yes rfl rfl hc6) rfl qN2 (by decide))<|
      .c (qA [0] rfl rfl (.yes rfl rfl hc6) rfl rfl rfl ta31 rfl rfl)<|
      .c (o_ne rfl rfl (.yes rfl rfl hc6) rfl rfl rfl rfl eg31 (.bs ar31 un5 sz5))<|
      .c (uPF rfl hc6)<|
      .c (uM rfl)<|
      .c (qA [] rfl rfl (.yes rfl rfl hc7) rfl rfl rfl ta46 rfl rfl)<|
      .c (qe0 rfl rfl (.yes rfl rfl hc7) Try.func68 rfl rfl (tree_few_ok hx7) (.cons rfl .d .nil) ⟨trivial,trivial⟩ (.inl rfl))<|
      .c (uPF rfl hc7)<|.nil rfl) (by kernel_rfl) ?_
     exact ⟨x7,(sJ h27),.w (wkF ⟨⟨_,rfl,.ifc (.ptro rfl rfl)⟩,⟨_,rfl,.ptr rfl rfl⟩,⟨_,rfl,.ptr rfl rfl⟩,⟨_,rfl,.ptr rfl rfl⟩,⟨_,rfl,.ptr rfl rfl⟩,wD rfl,wD rfl,wD rfl,wD rfl,trivial⟩ ⟨.own rfl (.of_eq rfl (q9 _)),.box rfl (.d rfl),.box rfl (.d rfl),.box rfl (.d rfl),.box rfl (.d rfl),trivial⟩ (qv rfl))⟩
    refine cwS (cwR (
     .c (uM rfl)<|
     .c (uB rfl (qN0 _ _) rfl)<|
     .c (uF rfl qo0 rfl)<|
     .c (uL [2] rfl ta44 rfl)<|
     .c (qV (enc := qP) (xs := a1.2.2) rfl rfl .no rfl sl44)<|
     .c (uB rfl (qG0 _ _) rfl)<|.nil rfl) ?_)
    rcases cdS hj3 with ⟨hc8,h28⟩ | ⟨hc8,h29⟩
    ·refine cwT rfl hc8 ?_
     have ⟨x8,hx8,h30⟩ := bdS h28
     have hx8g := qD hx8
     refine cwR (
      .c (uF rfl qo0 rfl)<|
      .c (uL [2] rfl ta44 rfl)<|
      .c (uM rfl)<|
      .c (uB rfl (qN0 _ _) rfl)<|
      .c (qJ1 (enc := qP) (xs := a1.2.2) rfl rfl .no rfl rfl sl44 sz69 hx8g.1 hx8g.2)<|
      .c (qa2 rfl rfl .no rfl qN2 (by decide) rfl rfl)<|
      .c (o_ld rfl rfl .no rfl ta31 rfl rfl)<|
      .c (qz5 (ds := [eK x8.1,qU true]) rfl rfl .no zs115 rfl pl115 (.cons rfl rfl rfl rfl rfl rfl rfl (.cons rfl rfl rfl rfl rfl rfl rfl .nil)))<|
      .c (uS [] rfl sz115 rfl)<|.nil rfl
     ) ?_
     exact ⟨(x8.1,true),(sJ h30),.w (wkF ⟨⟨_,rfl,.ifc (.ptro rfl rfl)⟩,⟨_,rfl,.ptr rfl rfl⟩,⟨_,rfl,.ptr rfl rfl⟩,⟨_,rfl,.ptr rfl rfl⟩,⟨_,rfl,.ptr rfl rfl⟩,⟨_,rfl,.ptr rfl rfl⟩,wD rfl,wD rfl,wD rfl,trivial⟩ ⟨.own rfl (.of_eq rfl (q9 _)),.box rfl (.d rfl),.box rfl (.d rfl),.box rfl (.d rfl),.box rfl (.d rfl),.box rfl (.d rfl),trivial⟩ (qv rfl))⟩
    refine cwF rfl hc8 ?_
    refine cwK ?_
    exact ⟨a2,(sJ h29),.w (wkF ⟨⟨_,rfl,.ifc (.ptro rfl rfl)⟩,⟨_,rfl,.ptr rfl rfl⟩,⟨_,rfl,.ptr rfl rfl⟩,⟨_,rfl,.ptr rfl rfl⟩,⟨_,rfl,.ptr rfl rfl⟩,⟨_,rfl,.ptr rfl rfl⟩,wD rfl,wD rfl,wD rfl,trivial⟩ ⟨.own rfl (.of_eq rfl (q9 _)),.box rfl (.d rfl),.box rfl (.d rfl),.box rfl (.d rfl),.box rfl (.d rfl),.box rfl (.d rfl),trivial⟩ (qv rfl))⟩
   refine cwF rfl hc2 ?_
   refine q10 ?_
   exact ⟨v3.2,(hx1 _ (sJ h9)).symm,.w (wkF trivial ⟨.own rfl (.of_eq rfl (q9 _)),trivial⟩ (qv rfl))⟩
  rcases cdS hj1 with ⟨hc9,h31⟩ | ⟨hc9,h32⟩
  ·skip
   have ⟨x9,hx9,h33⟩ := bdS (x := qu o0 a2.1) h31
   refine cwR (
    .c (uF rfl fld115_1 rfl)<|
    .c (uL [1] rfl ta4 rfl)<|
    .c (uM rfl)<|
    .c (qA [] rfl rfl (.yes rfl rfl hc9) rfl rfl rfl ta31 rfl rfl)<|
    .c (qn rfl rfl (.yes rfl rfl hc9) rfl fld115_0 (by decide))<|
    .c (qA [0] rfl rfl (.yes rfl rfl hc9) rfl rfl rfl ta31 rfl rfl)<|
    .c (qe0 rfl rfl (.yes rfl rfl hc9) Try.func43 rfl rfl (q90 hx9) (.cons rfl .d (.cons rfl .d .nil)) ⟨trivial,trivial,trivial⟩ (.inl rfl))<|
    .c (qj rfl rfl (.yes rfl rfl hc9) rfl rfl (b_geq _ _) rfl)<|
    .c (uPT rfl hc9)<|.nil rfl
   ) ?_
   exact ⟨(decide (x9 ≥ 0)),(sJ h33),.w (wkF ⟨⟨_,rfl,.ifc (.ptro rfl rfl)⟩,⟨_,rfl,.ptr rfl rfl⟩,⟨_,rfl,.ptr rfl rfl⟩,wD rfl,trivial⟩ ⟨.own rfl (.of_eq rfl (q9 _)),.box rfl (.d rfl),.box rfl (.d rfl),trivial⟩ (qv rfl))⟩
  refine cwR (
   .c (uF rfl fld115_1 rfl)<|
   .c (uL [1] rfl ta4 rfl)<|
   .c (uM rfl)<|
   .c (uN rfl rfl hc9)<|
   .c (uN rfl rfl hc9)<|
   .c (uN rfl rfl hc9)<|
   .c (uN rfl rfl hc9)<|
   .c (uN rfl rfl hc9)<|
   .c (uPF rfl hc9)<|.nil rfl
  ) ?_
  exact ⟨false,(sJ h32),.w (wkF ⟨⟨_,rfl,.ifc (.ptro rfl rfl)⟩,⟨_,rfl,.ptr rfl rfl⟩,⟨_,rfl,.ptr rfl rfl⟩,wD rfl,trivial⟩ ⟨.own rfl (.of_eq rfl (q9 _)),.box rfl (.d rfl),.box rfl (.d rfl),trivial⟩ (qv rfl))⟩
 refine cwS (cwR (
  .c (uF rfl qE0 rfl)<|
  .c (uL [0] rfl ta3 rfl)<|
  .c (uB rfl (qd0 _ _) rfl)<|.nil rfl) ?_)
 rcases cdS hj0 with ⟨hc10,h34⟩ | ⟨hc10,h35⟩
 ·refine cwT rfl hc10 ?_
  have ⟨x10,hx10,h36⟩ := bdS h34
  have hx10g := qD hx10
  refine cwR (
   .c (uF rfl qr1 rfl)<|
   .c (uL [1] rfl ta34 rfl)<|
   .c (uF rfl qr1 rfl)<|
   .c (uL [1] rfl ta34 rfl)<|
   .c (qV (enc := ePr) (xs := a1.2.1) rfl rfl .no rfl sl34)<|
   .c (uB rfl (qW2 _ _) rfl)<|
   .c (qJ1 (enc := ePr) (xs := a1.2.1) rfl rfl .no rfl rfl sl34 sz52 hx10g.1 hx10g.2)<|
   .c (qa2 rfl rfl .no rfl qD4 (by decide) rfl rfl)<|
   .c (o_ld rfl rfl .no rfl ta31 rfl rfl)<|
   .c (uS [] rfl sz31 rfl)<|.nil rfl
  ) ?_
  exact ⟨x10.1,(sJ h36),.w (wkF ⟨⟨_,rfl,.ifc (.ptro rfl rfl)⟩,⟨_,rfl,.ptr rfl rfl⟩,⟨_,rfl,.ptr rfl rfl⟩,⟨_,rfl,.ptr rfl rfl⟩,trivial⟩ ⟨.own rfl (.of_eq rfl (q9 _)),.box rfl (.d rfl),.box rfl (.d rfl),.box rfl (.d rfl),trivial⟩ (qv rfl))⟩
 refine cwF rfl hc10 ?_
 have ⟨x11,hx11,h37⟩ := bdS h35
 have hx11g := qD hx11
 refine cwR (
  .c (uF rfl qo0 rfl)<|
  .c (uL [2] rfl ta44 rfl)<|
  .c (uF rfl qo0 rfl)<|
  .c (uL [2] rfl ta44 rfl)<|
  .c (qV (enc := qP) (xs := a1.2.2) rfl rfl .no rfl sl44)<|
  .c (uB rfl (qW2 _ _) rfl)<|
  .c (qJ1 (enc := qP) (xs := a1.2.2) rfl rfl .no rfl rfl sl44 sz69 hx11g.1 hx11g.2)<|
  .c (qa2 rfl rfl .no rfl qN2 (by decide) rfl rfl)<|
  .c (o_ld rfl rfl .no rfl ta31 rfl rfl)<|
  .c (uS [] rfl sz31 rfl)<|.nil rfl
 ) ?_
 exact ⟨x11.1,(sJ h37),.w (wkF ⟨⟨_,rfl,.ifc (.ptro rfl rfl)⟩,⟨_,rfl,.ptr rfl rfl⟩,⟨_,rfl,.ptr rfl rfl⟩,⟨_,rfl,.ptr rfl rfl⟩,trivial⟩ ⟨.own rfl (.of_eq rfl (q9 _)),.box rfl (.d rfl),.box rfl (.d rfl),.box rfl (.d rfl),trivial⟩ (qv rfl))⟩
theorem qu3 : ∀ (n : Nat) {a0 : ttM} {a1 : ttN} {a2 : (B8 × Bool)} {r : (Int × ttM)},qn1 n a0 a1 a2 = some r → FnOk Try.prog 45 [.ifc 24 (.ptr 0 0),.d (qm a1),.d (q70 a2)] 1 (lk [(0,.own (qc a0))]) (fun rr oo => rr = .d (eErr r.1) ∧ oo = lk [(0,.own (qc r.2))])
 | 0,_,_,_,_,h => nomatch h
 | n + 1,_,_,_,_,h => qa4 (self := qn1 n) (fun h => qu3 n h) h
theorem tree_check_o_ok {a0 : ttM} {a1 : ttN} {a2 : (B8 × Bool)} {r : (Int × ttM)} (h : qf3 a0 a1 a2 = some r) : FnOk Try.prog 45 [.ifc 24 (.ptr 0 0),.d (qm a1),.d (q70 a2)] 1 (lk [(0,.own (qc a0))]) (fun rr oo => rr = .d (eErr r.1) ∧ oo = lk [(0,.own (qc r.2))]) := qu3 16 h
theorem q92 {a0 : ttM} {a1 : Int} {r : (Int × ttM)} (h : q02 a0 a1 = some r) : FnOk Try.prog 22 [.ifc 24 (.ptr 0 0),.d (eint a1)] 1 (lk [(0,.own (qc a0))]) (fun rr oo => rr = .d (eErr r.1) ∧ oo = lk [(0,.own (qc r.2))]) := by
 refine fnO Try.func22 rfl rfl (cwP ?_)
 unfold q02 at h
 refine cwS (cwR (
  .c (uA rfl)<|.nil rfl) ?_)
 refine cwS ?_
 refine cwS (cwR (
  .c (uM rfl)<|
  .c (uB rfl (qd0 _ _) rfl)<|.nil rfl) ?_)
 rcases cdS h with ⟨hc0,h0⟩ | ⟨hc0,h1⟩
 ·refine cwT rfl hc0 ?_
  refine cwS (cwR (
   .c (uA rfl)<|.nil rfl) ?_)
  have heq := ((sJ h0)).symm
  subst heq
  exact qw ⟨_,(show Leads _ _ (St.of [(4,.d (eErr 0))] [(0,.own (qc a0))]) from .w (wkF ⟨wD rfl,trivial⟩ ⟨.own rfl (.of_eq rfl (q9 _)),trivial⟩ (qv rfl))),.inr rfl,_,res1 rfl rfl,rfl,rfl⟩
 refine cwF rfl hc0 ?_
 refine cwK ?_
 have ⟨x0,hx0,h2⟩ := bdS (x := qx a0 a1) h1
 refine cwS (cwR (
  .c (uM rfl)<|
  .c (uM rfl)<|
  .c (o_inv (fun n => bif Nat.beq n 0 then 0 else 1) rfl rfl .no rfl Try.func23 rfl rfl rfl qr4 (qh0 hx0) (.cons rfl (.p rfl) (.cons rfl .d .nil)) (by decide) (qP2 [1] rfl ⟨(by simp [AV.live,AV.lives,lk,Nat.beq]),trivial,trivial⟩ ⟨⟨rfl,(OD.dat_live (q9 _))⟩,trivial⟩ rfl rfl rfl ⟨rfl,trivial⟩ rfl) (.inl rfl))<|
  .c (uM rfl)<|
  .c (uE rfl)<|
  .c (uE rfl)<|
  .c (q50 2 rfl rfl .no ze46 rfl)<|
  .c (uS [] rfl sz46 rfl)<|
  .c (uA rfl)<|.nil rfl) ?_)
 refine cwS ?_
 refine cwS (cwR (
  .c (uM rfl)<|
  .c (uB rfl (qd3 _ _) rfl)<|.nil rfl) ?_)
 rcases cdS h2 with ⟨hc1,h3⟩ | ⟨hc1,h4⟩
 ·refine cwT rfl hc1 ?_
  have ⟨x1,hx1,h5⟩ := bdS (x := qI0 x0.2.1) h3
  refine cwS (cwR (
   .c (uM rfl)<|
   .c (qe0 rfl rfl .no Try.func44 rfl rfl (qs2 hx1) (.cons rfl .d .nil) ⟨trivial,trivial⟩ (.inl rfl))<|
   .c (uA rfl)<|.nil rfl) ?_)
  have heq := ((sJ h5)).symm
  subst heq
  exact qw ⟨_,(show Leads _ _ (St.of [(4,.d (eErr x1))] [(0,.own (qc x0.2.2))]) from .w (wkF ⟨wD rfl,trivial⟩ ⟨.own rfl (.of_eq rfl (q9 _)),trivial⟩ (qv rfl))),.inr rfl,_,res1 rfl rfl,rfl,rfl⟩
 refine cwF rfl hc1 ?_
 refine cwK ?_
 have ⟨x2,hx2,h6⟩ := bdS (x := qf3 x0.2.2 x0.1 ((List.replicate 24 0),false)) h4
 refine cwS (cwR (
  .c (uM rfl)<|
  .c (uL [] rfl ta46 rfl)<|
  .c (qz5 (ds := [eK (List.replicate 24 0),qU false]) rfl rfl .no zs115 rfl pl115 .nil)<|
  .c (qQ (fun _ => 0) rfl rfl .no Try.func45 rfl rfl (tree_check_o_ok hx2) (.cons rfl (.ip rfl) (.cons rfl .d (.cons rfl .d .nil))) (q40 rfl ⟨(by simp [AV.live,lk,Nat.beq]),trivial,trivial,trivial⟩ rfl (OD.dat_live (q9 _)) (by simp)) (.inl rfl))<|
  .c (uA rfl)<|.nil rfl) ?_)
 have heq := ((sJ h6)).symm
 subst heq
 exact qw ⟨_,(show Leads _ _ (St.of [(4,.d (eErr x2.1))] [(0,.own (qc x2.2))]) from .w (wkF ⟨wD rfl,trivial⟩ ⟨.own rfl (.of_eq rfl (q9 _)),trivial⟩ (qv rfl))),.inr rfl,_,res1 rfl rfl,rfl,rfl⟩
theorem law07_few_ok {a0 : List ttC} {a1 : Int} {a2 : Int} {r : (List ttC)} (h : qr3 a0 a1 a2 = some r) : FnOk Try.prog 16 [.d (eSC a0),.d (eint a1),.d (eint a2)] 0 (lk []) (fun rr oo => rr = .d (eSC r) ∧ oo = lk []) := by
 refine fnO Try.func16 rfl rfl (cwP ?_)
 unfold qr3 at h
 refine cwS (cwR (
  .c (uA rfl)<|.nil rfl) ?_)
 refine cwS (cwR (
  .c (o_bslO (rows := ([] : List ttC).map eCg) 0 rfl rfl .no .nil rfl sl22 sz33 ze33 rfl (qL1 qb0) (by decide) rfl)<|
  .c (uA rfl)<|.nil rfl) ?_)
 have ⟨o0,hj0,h0⟩ := bdS h
 refine cwJ (fun (z : (List ttC)) => St.of [(7,.arr 0 0)] [(0,.arr 0 26 (z.map eCg))]) (fun (z : (List ttC)) => o0 = z) ?_ ?_
 ·intro v0 hv0; subst hv0
  refine cwS (cwR (
   .c (uM rfl)<|
   .c (uA rfl)<|.nil rfl) ?_)
  have heq := ((sJ h0)).symm
  subst heq
  exact qw ⟨_,(show Leads _ _ (St.of [(6,.d (eSC o0))] []) from .w (wkF ⟨⟨_,rfl,.frz rfl rfl rfl⟩,trivial⟩ trivial qG)),.inr rfl,_,res1 rfl rfl,rfl,rfl⟩
 refine cwS (cwR (
  .c (uA rfl)<|.nil rfl) ?_)
 refine cwB ?_
 refine qM (V := (Int × (List ttC))) (O := (List ttC)) (fun (z : (Int × (List ttC))) => St.of [(0,.d (eSC a0)),(1,.d (eint a1)),(2,.d (eint a2)),(7,.arr 0 0),(8,.d (eint z.1))] [(0,.arr 0 26 (z.2.map eCg))]) hj0 (.w (wkF ⟨wD rfl,wD rfl,wD rfl,⟨_,rfl,.arr rfl rfl⟩,wD rfl,trivial⟩ ⟨.arr rfl rfl,trivial⟩ qG)) ?_
 intro v1 x0 hb0 hx0
 refine cwS ?_
 have ⟨o1,hj1,h1⟩ := bdS hb0
 refine cwJ (fun (z : Bool) => St.of [(0,.d (eSC a0)),(1,.d (eint a1)),(2,.d (eint a2)),(7,.arr 0 0),(8,.d (eint v1.1)),(19,.d (qU z))] [(0,.arr 0 26 (v1.2.map eCg))]) (fun (z : Bool) => o1 = z) ?_ ?_
 ·intro v2 hv1; subst hv1
  rcases cdS h1 with ⟨hc0,h2⟩ | ⟨hc0,h3⟩
  ·refine cwT rfl hc0 ?_
   refine cwK ?_
   refine cwS ?_
   refine cwB ?_
   have ⟨x1,hx1,h4⟩ := bdS h2
   have hx1g := qD hx1
   refine cwS (cwR (
    .c (uM rfl)<|
    .c (uM rfl)<|
    .c (qJ1 (enc := eCg) (xs := a0) rfl rfl .no rfl rfl sl22 sz33 hx1g.1 hx1g.2)<|
    .c (o_ld rfl rfl .no rfl ta33 rfl rfl)<|
    .c (q50 1 rfl rfl .no ze33 rfl)<|
    .c (uS [] rfl sz33 rfl)<|.nil rfl) ?_)
   have ⟨x2,hx2,h5⟩ := bdS h4
   have hx2g := qt1 hx2
   refine cwS (cwR (
    .c (uF rfl fld33_1 rfl)<|
    .c (uL [1] rfl ta9 rfl)<|
    .c (uF rfl fld33_1 rfl)<|
    .c (uL [1] rfl ta9 rfl)<|
    .c (o_lenS rfl rfl .no rfl un9)<|
    .c (uM rfl)<|
    .c (o_min rfl rfl .no rfl rfl)<|
    .c (o_slS rfl rfl .no rfl un9 .no (.val rfl hx2g.2.1) hx2g.2.2.1 hx2g.2.2.2)<|
    .c (uF rfl fld33_1 rfl)<|
    .c (uS [1] rfl sz9 rfl)<|.nil rfl) ?_)
   have ⟨x3,hx3,h6⟩ := bdS h5
   have hx3g := qj0 hx3
   refine cwR (
    .c (uM rfl)<|
    .c (uL [] rfl ta33 rfl)<|
    .c (qu5 (rows := ([(x1.1,(x1.2.1.extract 0 (min (x1.2.1.size : Int) a2).toNat),x1.2.2)] : List ttC).map eCg) rfl rfl .no (.cons rfl .nil) rfl sl22 sz33 ze33 rfl (qL1 qb0) (by decide))<|
    .c (qo2 (enc := eCg) (xs := v1.2) (ys := [(x1.1,(x1.2.1.extract 0 (min (x1.2.1.size : Int) a2).toNat),x1.2.2)]) rfl rfl .no rfl rfl rfl qb0 sl22 sl22 sz33 by33 ze33 rfl (by decide) hx3g)<|
    .c (uA rfl)<|.nil rfl
   ) ?_
   refine cwR (
    .c (uM rfl)<|
    .c (uB rfl (qN0 _ _) rfl)<|
    .c (uA rfl)<|.nil rfl
   ) ?_
   exact ⟨((IntKind.wrap .i64 (v1.1 + 1)),(v1.2 ++ [(x1.1,(x1.2.1.extract 0 (min (x1.2.1.size : Int) a2).toNat),x1.2.2)])),(sJ h6),.w (wkF ⟨wD rfl,wD rfl,wD rfl,⟨_,rfl,.arr rfl rfl⟩,wD rfl,trivial⟩ ⟨.arr0 rfl rfl rfl,trivial⟩ qG)⟩
  refine cwF rfl hc0 ?_
  refine q10 ?_
  exact ⟨v1.2,(hx0 _ (sJ h3)).symm,.w (wkF ⟨⟨_,rfl,.arr rfl rfl⟩,trivial⟩ ⟨.arr rfl rfl,trivial⟩ qG)⟩
 rcases cdS hj1 with ⟨hc1,h7⟩ | ⟨hc1,h8⟩
 ·skip
  refine cwR (
   .c (uM rfl)<|
   .c (uM rfl)<|
   .c (qV (enc := eCg) (xs := a0) rfl rfl .no rfl sl22)<|
   .c (uB rfl (qG0 _ _) rfl)<|
   .c (uM rfl)<|
   .c (o_mv rfl rfl (.yes rfl rfl hc1) rfl)<|
   .c (o_mv rfl rfl (.yes rfl rfl hc1) rfl)<|
   .c (qj rfl rfl (.yes rfl rfl hc1) rfl rfl (qG0 _ _) rfl)<|
   .c (uPT rfl hc1)<|.nil rfl
  ) ?_
  exact ⟨(decide (v1.1 < a1)),(sJ h7),.w (wkF ⟨wD rfl,wD rfl,wD rfl,⟨_,rfl,.arr rfl rfl⟩,wD rfl,wD rfl,trivial⟩ ⟨.arr rfl rfl,trivial⟩ qG)⟩
 refine cwR (
  .c (uM rfl)<|
  .c (uM rfl)<|
  .c (qV (enc := eCg) (xs := a0) rfl rfl .no rfl sl22)<|
  .c (uB rfl (qG0 _ _) rfl)<|
  .c (uM rfl)<|
  .c (uN rfl rfl hc1)<|
  .c (uN rfl rfl hc1)<|
  .c (uN rfl rfl hc1)<|
  .c (uPF rfl hc1)<|.nil rfl
 ) ?_
 exact ⟨false,(sJ h8),.w (wkF ⟨wD rfl,wD rfl,wD rfl,⟨_,rfl,.arr rfl rfl⟩,wD rfl,wD rfl,trivial⟩ ⟨.arr rfl rfl,trivial⟩ qG)⟩
theorem law07_all_okc {r : ttS} (h : q24 = some r) : FnOk Try.prog 18 [] 0 (lk []) (fun rr oo => rr = .d (eSp r) ∧ oo = lk [(0,.box (.d (eSp r)))]) := by
 refine fnO Try.func18 rfl rfl (cwP ?_)
 unfold q24 at h
 refine cwS (cwR (
  .c (q50 0 rfl rfl .no ze38 rfl)<|.nil rfl) ?_)
 refine cwS (cwR (
  .c (qz5 (ds := [eK (List.replicate 24 0),eK (List.replicate 24 0),qU true]) rfl rfl .no zs38 rfl pl38 (.cons rfl rfl rfl rfl rfl rfl rfl .nil))<|
  .c (uS [] rfl sz38 rfl)<|.nil rfl) ?_)
 have heq := ((sJ h)).symm
 subst heq
 exact qw ⟨_,(show Leads _ _ (St.of [(0,.ptr 0 0)] [(0,.box (.d (eSp ((List.replicate 24 0),(List.replicate 24 0),true))))]) from .w (wkF ⟨⟨_,rfl,.ptr rfl rfl⟩,trivial⟩ ⟨.box rfl (.d rfl),trivial⟩ qG)),.inr rfl,_,resC rfl rfl rfl ta38 rfl rfl,rfl,rfl⟩
theorem law07_all_ok {r : ttS} (h : q24 = some r) : FnOk Try.prog 18 [] 0 (lk []) (fun rr oo => rr = .d (eSp r) ∧ oo = lk []) := qt2 (law07_all_okc h)
theorem tree_below_1_ok {a0 : Int} {c0 : ttN} {c1 : List UInt8} {r : Bool} (h : q62 a0 c0 c1 = some r) : FnOk Try.prog 72 [.d (eint a0),.ptr 0 0,.ptr 1 0] 2 (lk [(0,.box (.d (qm c0))),(1,.box (.d (eK c1)))]) (fun rr oo => rr = .d (qU r) ∧ oo = lk [(0,.box (.d (qm c0))),(1,.box (.d (eK c1)))]) := by
 refine fnO Try.func72 rfl rfl (cwP ?_)
 unfold q62 at h
 refine cwS (cwR (
  .c (uA rfl)<|.nil rfl) ?_)
 have ⟨x0,hx0,h0⟩ := bdS h
 have hx0g := qD hx0
 have ⟨x1,hx1,h1⟩ := bdS (x := qu x0.1 c1) h0
 refine cwS (cwRA mixed (by kernel_rfl) (
  .c (uF rfl qo0 rfl)<|
  .c (uL [2] rfl ta44 rfl)<|
  .c (uM rfl)<|
  .c (qJ1 (enc := qP) (xs := c0.2.2) rfl rfl .no rfl rfl sl44 sz69 hx0g.1 hx0g.2)<|
  .c (qa2 rfl rfl .no rfl qN2 (by decide) rfl rfl)<|
  .c (o_ld rfl rfl .no rfl ta31 rfl rfl)<|
  .c (uL [] rfl ta31 rfl)<|
  .c (qe0 rfl rfl .no Try.func43 rfl rfl (q90 hx1) (.cons rfl .d (.cons rfl .d .nil)) ⟨trivial,trivial,trivial⟩ (.inl rfl))<|
  .c (uB rfl (qy3 _ _) rfl)<|
  .c (uA rfl)<|.nil rfl) (by kernel_rfl) ?_)
 have heq := ((sJ h1)).symm
 subst heq
 exact qw ⟨_,(show Leads _ _ (St.of [(4,.d (qU (decide (x1 > 0))))] [(0,.box (.d (qm c0))),(1,.box (.d (eK c1)))]) from .w (wkF ⟨wD rfl,trivial⟩ ⟨.box rfl (.d rfl),.box rfl (.d rfl),trivial⟩ (qv rfl))),.inr rfl,_,res1 rfl rfl,rfl,rfl⟩
theorem sort_Search_zB_ok {a0 : Int} {c0 : ttN} {c1 : List UInt8} {r : Int} (h : qU1 a0 c0 c1 = some r) : FnOk Try.prog 71 [.d (eint a0),.fn 72 [] [.ptr 0 0,.ptr 1 0]] 2 (lk [(0,.box (.d (qm c0))),(1,.box (.d (eK c1)))]) (fun rr oo => rr = .d (eint r) ∧ oo = lk [(0,.box (.d (qm c0))),(1,.box (.d (eK c1)))]) := by
 refine fnO Try.func71 rfl rfl (cwP ?_)
 unfold qU1 at h
 refine cwS (cwR (
  .c (uA rfl)<|.nil rfl) ?_)
 refine cwS (cwR (
  .c (uM rfl)<|
  .c (uA rfl)<|
  .c (uA rfl)<|.nil rfl) ?_)
 have ⟨o0,hj0,h0⟩ := bdS h
 refine cwJ (fun (z : Int) => St.of [(5,.d (eint z))] [(0,.box (.d (qm c0))),(1,.box (.d (eK c1)))]) (fun (z : Int) => o0 = z) ?_ ?_
 ·intro v0 hv0; subst hv0
  refine cwS (cwR (
   .c (uM rfl)<|
   .c (uA rfl)<|.nil rfl) ?_)
  have heq := ((sJ h0)).symm
  subst heq
  exact qw ⟨_,(show Leads _ _ (St.of [(4,.d (eint o0))] [(0,.box (.d (qm c0))),(1,.box (.d (eK c1)))]) from .w (wkF ⟨wD rfl,trivial⟩ ⟨.box rfl (.d rfl),.box rfl (.d rfl),trivial⟩ (qv rfl))),.inr rfl,_,res1 rfl rfl,rfl,rfl⟩
 refine cwB ?_
 refine qM (V := (Int × Int)) (O := Int) (fun (z : (Int × Int)) => St.of [(1,.fn 72 [] [.ptr 0 0,.ptr 1 0]),(5,.d (eint z.1)),(6,.d (eint z.2))] [(0,.box (.d (qm c0))),(1,.box (.d (eK c1)))]) hj0 (.w (wkF ⟨⟨_,rfl,.fn .nil (.cons (.ptr rfl rfl) (.cons (.ptr rfl rfl) .nil))⟩,wD rfl,wD rfl,trivial⟩ ⟨.box rfl (.d rfl),.box rfl (.d rfl),trivial⟩ (qv rfl))) ?_
 intro v1 x0 hb0 hx0
 refine cwS ?_
 refine cwS (cwR (
  .c (uM rfl)<|
  .c (uM rfl)<|
  .c (uB rfl (qG0 _ _) rfl)<|.nil rfl) ?_)
 rcases cdS hb0 with ⟨hc0,h1⟩ | ⟨hc0,h2⟩
 ·refine cwT rfl hc0 ?_
  refine cwK ?_
  refine cwB ?_
  refine cwS (cwR (
   .c (uM rfl)<|
   .c (uM rfl)<|
   .c (uB rfl (qN0 _ _) rfl)<|
   .c (qh5 rfl rfl .no rfl un3 un82)<|
   .c (uB rfl (b_shr _ _ (by decide)) rfl)<|
   .c (qh5 rfl rfl .no rfl un82 un3)<|
   .c (uA rfl)<|.nil rfl) ?_)
  have ⟨x1,hx1,h3⟩ := bdS (x := q62 (IntKind.wrap .i64 (Int.fdiv (IntKind.wrap .u64 (IntKind.wrap .i64 (v1.1 + v1.2))) (2 ^ 1))) c0 c1) h1
  refine cwS (cwR (
   .c (uM rfl)<|
   .c (uM rfl)<|
   .c (o_callVX (ys := [.d (eint (IntKind.wrap .i64 (Int.fdiv (IntKind.wrap .u64 (IntKind.wrap .i64 (v1.1 + v1.2))) (2 ^ 1))))]) (zs := [.ptr 0 0,.ptr 1 0]) (fun n => bif Nat.beq n 0 then 0 else 1) rfl rfl .no rfl rfl Try.func72 rfl rfl (tree_below_1_ok hx1) (.cons rfl .d .nil) (qP2 [] rfl ⟨trivial,(by simp [AV.live,AV.lives,lk,Nat.beq]),(by simp [AV.live,AV.lives,lk,Nat.beq]),trivial⟩ ⟨⟨rfl,trivial⟩,⟨rfl,trivial⟩,trivial⟩ rfl rfl rfl trivial rfl) (.inl rfl))<|
   .c (uT rfl)<|.nil rfl) ?_)
  rcases cdS h3 with ⟨hc1,h4⟩ | ⟨hc1,h5⟩
  ·refine cwT rfl hc1 ?_
   refine cwR (
    .c (uM rfl)<|
    .c (uB rfl (qN0 _ _) rfl)<|
    .c (uA rfl)<|.nil rfl
   ) ?_
   exact ⟨((IntKind.wrap .i64 ((IntKind.wrap .i64 (Int.fdiv (IntKind.wrap .u64 (IntKind.wrap .i64 (v1.1 + v1.2))) (2 ^ 1))) + 1)),v1.2),(sJ h4),.w (wkF ⟨⟨_,rfl,.fn .nil (.cons (.ptr rfl rfl) (.cons (.ptr rfl rfl) .nil))⟩,wD rfl,wD rfl,trivial⟩ ⟨.box rfl (.d rfl),.box rfl (.d rfl),trivial⟩ (qv rfl))⟩
  refine cwF rfl hc1 ?_
  refine cwR (
   .c (uM rfl)<|
   .c (uA rfl)<|.nil rfl
  ) ?_
  exact ⟨(v1.1,(IntKind.wrap .i64 (Int.fdiv (IntKind.wrap .u64 (IntKind.wrap .i64 (v1.1 + v1.2))) (2 ^ 1)))),(sJ h5),.w (wkF ⟨⟨_,rfl,.fn .nil (.cons (.ptr rfl rfl) (.cons (.ptr rfl rfl) .nil))⟩,wD rfl,wD rfl,trivial⟩ ⟨.box rfl (.d rfl),.box rfl (.d rfl),trivial⟩ (qv rfl))⟩
 refine cwF rfl hc0 ?_
 refine q10 ?_
 exact ⟨v1.1,(hx0 _ (sJ h2)).symm,.w (wkF ⟨wD rfl,trivial⟩ ⟨.box rfl (.d rfl),.box rfl (.d rfl),trivial⟩ (qv rfl))⟩
theorem tree_below_ok {a0 : ttN} {a1 : List UInt8} {r : Int} (h : qB2 a0 a1 = some r) : FnOk Try.prog 48 [.d (qm a0),.d (eK a1)] 0 (lk []) (fun rr oo => rr = .d (eint r) ∧ oo = lk []) := by
 refine fnO Try.func48 rfl rfl (cwP ?_)
 unfold qB2 at h
 refine cwS (cwR (
  .c (uX 0 rfl)<|
  .c (uX 1 rfl)<|
  .c (uA rfl)<|.nil rfl) ?_)
 have ⟨x0,hx0,h0⟩ := bdS (x := qU1 (a0.2.2.length : Int) a0 a1) h
 refine cwS (cwR (
  .c (uF rfl qo0 rfl)<|
  .c (uL [2] rfl ta44 rfl)<|
  .c (qV (enc := qP) (xs := a0.2.2) rfl rfl .no rfl sl44)<|
  .c (o_fn2 rfl rfl .no rfl rfl)<|
  .c (qQ (fun n => bif Nat.beq n 0 then 0 else 1) rfl rfl .no Try.func71 rfl rfl (sort_Search_zB_ok hx0) (.cons rfl .d (.cons rfl (.re rfl) .nil)) (qP2 [] rfl ⟨trivial,(by simp [AV.live,AV.lives,lk,Nat.beq]),trivial⟩ ⟨⟨rfl,trivial⟩,⟨rfl,trivial⟩,trivial⟩ rfl rfl rfl trivial rfl) (.inl rfl))<|
  .c (uB rfl (qW2 _ _) rfl)<|
  .c (o_max rfl rfl .no rfl rfl)<|
  .c (uA rfl)<|.nil rfl) ?_)
 have heq := ((sJ h0)).symm
 subst heq
 exact qw ⟨_,(show Leads _ _ (St.of [(4,.d (eint (max (IntKind.wrap .i64 (x0 - 1)) 0)))] []) from .w (wkF ⟨wD rfl,trivial⟩ trivial qG)),.inr rfl,_,res1 rfl rfl,rfl,rfl⟩
theorem tree_Get_o_ok {a0 : ttM} {a1 : Int} {a2 : List UInt8} {r : (ByteArray × Bool × Int × ttM)} (h : qW1 a0 a1 a2 = some r) : FnOk Try.prog 24 [.ifc 24 (.ptr 0 0),.d (eint a1),.d (eK a2)] 1 (lk [(0,.own (qc a0))]) (fun rr oo => rr = .tup [.d (eStr r.1),.d (qU r.2.1),.d (eErr r.2.2.1)] ∧ oo = lk [(0,.own (qc r.2.2.2))]) := by
 refine fnO Try.func24 rfl rfl (cwP ?_)
 unfold qW1 at h
 refine cwS (cwR (
  .c (uX 1 rfl)<|
  .c (uA rfl)<|
  .c (uA rfl)<|
  .c (uA rfl)<|.nil rfl) ?_)
 have ⟨o0,hj0,h0⟩ := bdS h
 refine cwJ (fun (z : ttM) => St.of [] [(0,.own (qc z))]) (fun (z : ttM) => o0 = (.inl z)) ?_ ?_
 ·intro v0 hv0; subst hv0
  simp only [Sum.elim_inl] at h0
  refine cwS (cwR (
   .c (uA rfl)<|
   .c (uA rfl)<|
   .c (uA rfl)<|.nil rfl) ?_)
  have heq := ((sJ h0)).symm
  subst heq
  exact qw ⟨_,(show Leads _ _ (St.of [(6,.d (eStr (ByteArray.mk #[]))),(7,.d (qU false)),(8,.d (eErr 0))] [(0,.own (qc v0))]) from .w (wkF ⟨wD rfl,wD rfl,wD rfl,trivial⟩ ⟨.own rfl (.of_eq rfl (q9 _)),trivial⟩ (qv rfl))),.inr rfl,_,res3 rfl rfl rfl rfl,rfl,rfl⟩
 refine cwS (cwR (
  .c (uM rfl)<|
  .c (uA rfl)<|.nil rfl) ?_)
 refine cwB ?_
 refine qM (V := (Int × ttM)) (O := (ttM ⊕ (ByteArray × Bool × Int × ttM))) (fun (z : (Int × ttM)) => St.of [(0,.ifc 24 (.ptr 0 0)),(5,.ptr 1 0),(9,.d (eint z.1))] [(0,.own (qc z.2)),(1,.box (.d (eK a2)))]) hj0 (.w (wkF ⟨⟨_,rfl,.ifc (.ptro rfl rfl)⟩,⟨_,rfl,.ptr rfl rfl⟩,wD rfl,trivial⟩ ⟨.own rfl (.of_eq rfl (q9 _)),.box rfl (.d rfl),trivial⟩ (qv rfl))) ?_
 intro v1 x0 hb0 hx0
 refine cwS ?_
 refine cwS (cwR (
  .c (uM rfl)<|
  .c (uB rfl (qd3 _ _) rfl)<|.nil rfl) ?_)
 rcases cdS hb0 with ⟨hc0,h1⟩ | ⟨hc0,h2⟩
 ·refine cwT rfl hc0 ?_
  refine cwK ?_
  refine cwB ?_
  have ⟨x1,hx1,h3⟩ := bdS (x := qx v1.2 v1.1) h1
  refine cwS (cwR (
   .c (uM rfl)<|
   .c (uM rfl)<|
   .c (o_inv (fun n => bif Nat.beq n 0 then 0 else 2) rfl rfl .no rfl Try.func23 rfl rfl rfl qr4 (qh0 hx1) (.cons rfl (.p rfl) (.cons rfl .d .nil)) (by decide) (qP2 [1] rfl ⟨(by simp [AV.live,AV.lives,lk,Nat.beq]),trivial,trivial⟩ ⟨⟨rfl,(OD.dat_live (q9 _))⟩,trivial⟩ rfl rfl rfl ⟨rfl,trivial⟩ rfl) (.inl rfl))<|
   .c (uM rfl)<|
   .c (uE rfl)<|
   .c (uE rfl)<|
   .c (q50 3 rfl rfl .no ze46 rfl)<|
   .c (uS [] rfl sz46 rfl)<|
   .c (uA rfl)<|.nil rfl) ?_)
  refine cwS ?_
  refine cwS (cwR (
   .c (uM rfl)<|
   .c (uB rfl (qd3 _ _) rfl)<|.nil rfl) ?_)
  rcases cdS h3 with ⟨hc1,h4⟩ | ⟨hc1,h5⟩
  ·refine cwT rfl hc1 ?_
   refine cwS (cwR (
    .c (uM rfl)<|
    .c (uA rfl)<|
    .c (uA rfl)<|
    .c (uA rfl)<|.nil rfl) ?_)
   have he0 := ((hx0 _ (sJ h4)).symm).symm
   subst he0
   have heq := ((sJ h0)).symm
   subst heq
   exact qw ⟨_,(show Leads _ _ (St.of [(6,.d (eStr (ByteArray.mk #[]))),(7,.d (qU false)),(8,.d (eErr x1.2.1))] [(0,.own (qc x1.2.2))]) from .w (wkF ⟨wD rfl,wD rfl,wD rfl,trivial⟩ ⟨.own rfl (.of_eq rfl (q9 _)),trivial⟩ (qv rfl))),.inr rfl,_,res3 rfl rfl rfl rfl,rfl,rfl⟩
  refine cwF rfl hc1 ?_
  refine cwK ?_
  refine cwS ?_
  refine cwS (cwR (
   .c (uF rfl qo0 rfl)<|
   .c (uL [2] rfl ta44 rfl)<|
   .c (qV (enc := qP) (xs := x1.1.2.2) rfl rfl .no rfl sl44)<|
   .c (uB rfl (qy3 _ _) rfl)<|.nil rfl) ?_)
  rcases cdS h5 with ⟨hc2,h6⟩ | ⟨hc2,h7⟩
  ·refine cwT rfl hc2 ?_
   have ⟨x2,hx2,h8⟩ := bdS (x := qB2 x1.1 a2) h6
   have ⟨x3,hx3,h9⟩ := bdS h8
   have hx3g := qD hx3
   refine cwS (cwRA mixed (by kernel_rfl) (
    .c (uF rfl qo0 rfl)<|
    .c (uL [2] rfl ta44 rfl)<|
    .c (uL [] rfl ta46 rfl)<|
    .c (uL [] rfl ta31 rfl)<|
    .c (qe0 rfl rfl .no Try.func48 rfl rfl (tree_below_ok hx2) (.cons rfl .d (.cons rfl .d .nil)) ⟨trivial,trivial,trivial⟩ (.inl rfl))<|
    .c (qJ1 (enc := qP) (xs := x1.1.2.2) rfl rfl .no rfl rfl sl44 sz69 hx3g.1 hx3g.2)<|
    .c (qa2 rfl rfl .no rfl qM2 (by decide) rfl rfl)<|
    .c (o_ld rfl rfl .no rfl ta3 rfl rfl)<|
    .c (uA rfl)<|.nil rfl) (by kernel_rfl) ?_)
   refine q10 ?_
   exact ⟨(x3.2,x1.2.2),(sJ h9),.w (wkF ⟨⟨_,rfl,.ifc (.ptro rfl rfl)⟩,⟨_,rfl,.ptr rfl rfl⟩,wD rfl,trivial⟩ ⟨.own rfl (.of_eq rfl (q9 _)),.box rfl (.d rfl),trivial⟩ (qv rfl))⟩
  refine cwF rfl hc2 ?_
  refine cwK ?_
  have ⟨o1,hj1,h10⟩ := bdS h7
  refine cwJ (fun (z : Unit) => St.of [(0,.ifc 24 (.ptr 0 0)),(5,.ptr 1 0)] [(0,.own (qc x1.2.2)),(1,.box (.d (eK a2)))]) (fun (z : Unit) => o1 = (.inl z)) ?_ ?_
  ·intro v2 hv1; subst hv1
   simp only [Sum.elim_inl] at h10
   refine cwR (
    .c (uA rfl)<|.nil rfl
   ) ?_
   exact ⟨(0,x1.2.2),(sJ h10),.w (wkF ⟨⟨_,rfl,.ifc (.ptro rfl rfl)⟩,⟨_,rfl,.ptr rfl rfl⟩,wD rfl,trivial⟩ ⟨.own rfl (.of_eq rfl (q9 _)),.box rfl (.d rfl),trivial⟩ (qv rfl))⟩
  refine cwS (cwR (
   .c (uF rfl qr1 rfl)<|
   .c (uL [1] rfl ta34 rfl)<|
   .c (qV (enc := ePr) (xs := x1.1.2.1) rfl rfl .no rfl sl34)<|
   .c (uM rfl)<|.nil rfl) ?_)
  refine cwB ?_
  refine qM (V := Int) (O := (Unit ⊕ (ByteArray × Bool × Int × ttM))) (fun (z : Int) => St.of [(0,.ifc 24 (.ptr 0 0)),(5,.ptr 1 0),(39,.d (eSP_ x1.1.2.1)),(40,.d (eint (x1.1.2.1.length : Int))),(41,.d (eint z))] [(0,.own (qc x1.2.2)),(1,.box (.d (eK a2)))]) hj1 (.w (wkF ⟨⟨_,rfl,.ifc (.ptro rfl rfl)⟩,⟨_,rfl,.ptr rfl rfl⟩,wD rfl,wD rfl,wD rfl,trivial⟩ ⟨.own rfl (.of_eq rfl (q9 _)),.box rfl (.d rfl),trivial⟩ (qv rfl))) ?_
  intro v3 x4 hb1 hx4
  refine cwS (cwR (
   .c (uB rfl (qG0 _ _) rfl)<|.nil rfl) ?_)
  refine cwS ?_
  rcases cdS hb1 with ⟨hc3,h11⟩ | ⟨hc3,h12⟩
  ·refine cwT rfl hc3 ?_
   refine cwK ?_
   refine cwS ?_
   refine cwB ?_
   have ⟨x5,hx5,h13⟩ := bdS h11
   have hx5g := qD hx5
   refine cwS (cwR (
    .c (qJ1 (enc := ePr) (xs := x1.1.2.1) rfl rfl .no rfl rfl sl34 sz52 hx5g.1 hx5g.2)<|
    .c (o_ld rfl rfl .no rfl ta52 rfl rfl)<|
    .c (q50 4 rfl rfl .no ze52 rfl)<|
    .c (uS [] rfl sz52 rfl)<|.nil rfl) ?_)
   refine cwS (cwR (
    .c (uF rfl qD4 rfl)<|
    .c (uL [0] rfl ta31 rfl)<|
    .c (uL [] rfl ta31 rfl)<|
    .c (o_eq rfl rfl .no rfl rfl rfl rfl eg31 (.bs ar31 un5 sz5))<|.nil rfl) ?_)
   rcases cdS h13 with ⟨hc4,h14⟩ | ⟨hc4,h15⟩
   ·refine cwT rfl hc4 ?_
    refine cwS (cwR (
     .c (uF rfl fld52_1 rfl)<|
     .c (uL [1] rfl ta9 rfl)<|
     .c (uA rfl)<|
     .c (uA rfl)<|
     .c (uA rfl)<|.nil rfl) ?_)
    have he1 := ((hx4 _ (sJ h14)).symm).symm
    subst he1
    have he2 := ((hx0 _ (sJ h10)).symm).symm
    subst he2
    have heq := ((sJ h0)).symm
    subst heq
    exact qw ⟨_,(show Leads _ _ (St.of [(6,.d (eStr x5.2)),(7,.d (qU true)),(8,.d (eErr 0))] [(0,.own (qc x1.2.2))]) from .w (wkF ⟨wD rfl,wD rfl,wD rfl,trivial⟩ ⟨.own rfl (.of_eq rfl (q9 _)),trivial⟩ (qv rfl))),.inr rfl,_,res3 rfl rfl rfl rfl,rfl,rfl⟩
   refine cwF rfl hc4 ?_
   refine cwK ?_
   refine cwR (
    .c (uB rfl (qN0 _ _) rfl)<|
    .c (uM rfl)<|.nil rfl
   ) ?_
   exact ⟨(IntKind.wrap .i64 (v3 + 1)),(sJ h15),.w (wkF ⟨⟨_,rfl,.ifc (.ptro rfl rfl)⟩,⟨_,rfl,.ptr rfl rfl⟩,wD rfl,wD rfl,wD rfl,trivial⟩ ⟨.own rfl (.of_eq rfl (q9 _)),.box rfl (.d rfl),trivial⟩ (qv rfl))⟩
  refine cwF rfl hc3 ?_
  refine q10 ?_
  exact ⟨(),(hx4 _ (sJ h12)).symm,.w (wkF ⟨⟨_,rfl,.ifc (.ptro rfl rfl)⟩,⟨_,rfl,.ptr rfl rfl⟩,trivial⟩ ⟨.own rfl (.of_eq rfl (q9 _)),.box rfl (.d rfl),trivial⟩ (qv rfl))⟩
 refine cwF rfl hc0 ?_
 refine q10 ?_
 exact ⟨v1.2,(hx0 _ (sJ h2)).symm,.w (wkF trivial ⟨.own rfl (.of_eq rfl (q9 _)),trivial⟩ (qv rfl))⟩
theorem tree_Clone_o_ok {a0 : ttM} {a1 : Int} {r : (Int × ttM)} (h : q22 a0 a1 = some r) : FnOk Try.prog 33 [.ifc 24 (.ptr 0 0),.d (eint a1)] 1 (lk [(0,.own (qc a0))]) (fun rr oo => rr = .d (eErr r.1) ∧ oo = lk [(0,.own (qc r.2))]) := by
 refine fnO Try.func33 rfl rfl (cwP ?_)
 unfold q22 at h
 refine cwS (cwR (
  .c (uA rfl)<|.nil rfl) ?_)
 refine cwS ?_
 refine cwS (cwR (
  .c (uM rfl)<|
  .c (uB rfl (qd0 _ _) rfl)<|.nil rfl) ?_)
 rcases cdS h with ⟨hc0,h0⟩ | ⟨hc0,h1⟩
 ·refine cwT rfl hc0 ?_
  refine cwS (cwR (
   .c (uA rfl)<|.nil rfl) ?_)
  have heq := ((sJ h0)).symm
  subst heq
  exact qw ⟨_,(show Leads _ _ (St.of [(4,.d (eErr 0))] [(0,.own (qc a0))]) from .w (wkF ⟨wD rfl,trivial⟩ ⟨.own rfl (.of_eq rfl (q9 _)),trivial⟩ (qv rfl))),.inr rfl,_,res1 rfl rfl,rfl,rfl⟩
 refine cwF rfl hc0 ?_
 refine cwK ?_
 have ⟨x0,hx0,h2⟩ := bdS (x := qt0 a0 a1) h1
 refine cwS (cwR (
  .c (uM rfl)<|
  .c (uM rfl)<|
  .c (o_inv (fun _ => 0) rfl rfl .no rfl Try.func119 rfl rfl rfl hm24_Inc (q13 hx0) (.cons rfl (.p rfl) (.cons rfl .d .nil)) (by decide) (q40 rfl ⟨(by simp [AV.live,lk,Nat.beq]),trivial,trivial⟩ rfl (OD.dat_live (q9 _)) (by simp)) (.inl rfl))<|
  .c (uA rfl)<|.nil rfl) ?_)
 have heq := ((sJ h2)).symm
 subst heq
 exact qw ⟨_,(show Leads _ _ (St.of [(4,.d (eErr x0.1))] [(0,.own (qc x0.2))]) from .w (wkF ⟨wD rfl,trivial⟩ ⟨.own rfl (.of_eq rfl (q9 _)),trivial⟩ (qv rfl))),.inr rfl,_,res1 rfl rfl,rfl,rfl⟩
end
end Go.Val
