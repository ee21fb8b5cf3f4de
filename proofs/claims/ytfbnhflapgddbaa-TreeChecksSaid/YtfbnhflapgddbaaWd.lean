/- Walks of the program's functions,printed. -/
import Derived.Test.YtfbnhflapgddbaaWc
set_option linter.unusedSectionVars false
set_option linter.unusedVariables false
set_option linter.unusedSimpArgs false
set_option maxRecDepth 100000
namespace Go.Val
open Go.RowKit Go.Proofs
section
variable [NoDrw]
noncomputable def qG0 (a0 : (List (Int × ttN))) (a1 : Int) : Option (ttN × Int) := (((qQ (V := Int) (O := (Unit ⊕ (ttN × Int))) (fun v0 => cond (decide (v0 < (a0.length : Int))) ((gx a0 v0).bind fun x0 => cond (decide (x0.1 = a1)) (some (.inr (.inr (x0.2,0)))) (some (.inl (IntKind.wrap .i64 (v0 + 1))))) (some (.inr (.inl ())))) 0) : Option (Unit ⊕ (ttN × Int)))).bind fun o0 =>
 Sum.elim (fun (v1 : Unit) => some ((0,[],[]),1)) (fun w0 => some w0) o0
noncomputable def qC0 (self : (List (Int × ttN)) → ttN → (B8 × Bool) → Option Int) (a0 : (List (Int × ttN))) (a1 : ttN) (a2 : (B8 × Bool)) : Option Int := (qk1 a1).bind fun x0 => cond (!x0) (some 12) ((((cond (decide (a1.1 = 0)) ((gx a1.2.1 (IntKind.wrap .i64 ((a1.2.1.length : Int) - 1))).bind fun x1 => some x1.1) (
    (gx a1.2.2 (IntKind.wrap .i64 ((a1.2.2.length : Int) - 1))).bind fun x2 => some x2.1)) : Option B8)).bind fun o0 => (((cond a2.2 ((qv o0 a2.1).bind fun x3 => some (decide (x3 ≥ 0))) (some false)) : Option Bool)).bind fun o1 => cond o1 (some 12) ((((qQ (V := Int) (O := (Unit ⊕ Int)) (fun v0 => cond (decide (v0 < (a1.2.2.length : Int))) ((gx a1.2.2 v0).bind fun x4 =>
      (qG0 a0 x4.2).bind fun x5 => cond (decide (x5.2 ≠ 0)) ((qH0 x5.2).bind fun x6 => some (.inr (.inr x6))) ((((cond (decide ((IntKind.wrap .i64 (v0 + 1)) < (a1.2.2.length : Int))) ((gx a1.2.2 (IntKind.wrap .i64 (v0 + 1))).bind fun x7 => some (x7.1,true)) (some a2)) : Option (B8 × Bool))).bind fun o2 => (((cond (decide (x5.1.1 ≠ (IntKind.wrap .i64 (a1.1 - 1)))) (
         some true) ((qU0 x5.1).bind fun x8 => cond (!(decide (x8 = x4.1))) (some true) ((qm3 x5.1).bind fun x9 => some x9))) : Option Bool)).bind fun o3 => cond o3 (some (.inr (.inr 12))) ((self a0 x5.1 o2).bind fun x10 => cond (decide (x10 ≠ 0)) (some (.inr (.inr x10))) (some (.inl (IntKind.wrap .i64 (v0 + 1))))))) (some (.inr (.inl ())))) 0
   ) : Option (Unit ⊕ Int))).bind fun o4 => Sum.elim (fun (v1 : Unit) => some 0) (fun w0 => some w0) o4))
noncomputable def ql0 : Nat → (List (Int × ttN)) → ttN → (B8 × Bool) → Option Int | 0 => fun _ _ _ => none | n + 1 => qC0 (ql0 n)
noncomputable def ql3 (a0 : (List (Int × ttN))) (a1 : ttN) (a2 : (B8 × Bool)) : Option Int := ql0 16 a0 a1 a2
noncomputable def q92 (a0 : (List (Int × ttN))) (a1 : Int) : Option Int := cond (decide (a1 = 0)) (some 0) ((qG0 a0 a1).bind fun x0 => cond (decide (x0.2 ≠ 0)) ((qH0 x0.2).bind fun x1 => some x1) ((ql3 a0 x0.1 ((List.replicate 24 0),false)).bind fun x2 => some x2))
noncomputable def qy1 (self : ttM → ttN → (B8 × Bool) → Option (Int × ttM)) (a0 : ttM) (a1 : ttN) (a2 : (B8 × Bool)) : Option (Int × ttM) := (qk1 a1).bind fun x0 => cond (!x0) (some (12,a0)) ((((cond (decide (a1.1 = 0)) ((gx a1.2.1 (IntKind.wrap .i64 ((a1.2.1.length : Int) - 1))).bind fun x1 => some x1.1) (
    (gx a1.2.2 (IntKind.wrap .i64 ((a1.2.2.length : Int) - 1))).bind fun x2 => some x2.1)) : Option B8)).bind fun o0 => (((cond a2.2 ((qv o0 a2.1).bind fun x3 => some (decide (x3 ≥ 0))) (some false)) : Option Bool)).bind fun o1 => cond o1 (some (12,a0)) ((((qQ (V := (Int × ttM)) (O := (ttM ⊕ (Int × ttM))) (fun v0 => cond (decide (v0.1 < (a1.2.2.length : Int))) (
      (gx a1.2.2 v0.1).bind fun x4 => (qF v0.2 x4.2).bind fun x5 => cond (decide (x5.2.1 ≠ 0)) ((qH0 x5.2.1).bind fun x6 => some (.inr (.inr (x6,x5.2.2)))) ((((cond (decide ((IntKind.wrap .i64 (v0.1 + 1)) < (a1.2.2.length : Int))) ((gx a1.2.2 (IntKind.wrap .i64 (v0.1 + 1))).bind fun x7 => some (x7.1,true)) (some a2)) : Option (B8 × Bool))).bind fun o2 => (((
        cond (decide (x5.1.1 ≠ (IntKind.wrap .i64 (a1.1 - 1)))) (some true) ((qU0 x5.1).bind fun x8 => cond (!(decide (x8 = x4.1))) (some true) ((qm3 x5.1).bind fun x9 => some x9))) : Option Bool)).bind fun o3 => cond o3 (some (.inr (.inr (12,x5.2.2)))) ((self x5.2.2 x5.1 o2).bind fun x10 => cond (decide (x10.1 ≠ 0)) (some (.inr (.inr (x10.1,x10.2)))) (
         some (.inl ((IntKind.wrap .i64 (v0.1 + 1)),x10.2)))))) (some (.inr (.inl v0.2)))) (0,a0)) : Option (ttM ⊕ (Int × ttM)))).bind fun o4 => Sum.elim (fun (v1 : ttM) => some (0,v1)) (fun w0 => some w0) o4))
noncomputable def qs1 : Nat → ttM → ttN → (B8 × Bool) → Option (Int × ttM) | 0 => fun _ _ _ => none | n + 1 => qy1 (qs1 n)
noncomputable def qi3 (a0 : ttM) (a1 : ttN) (a2 : (B8 × Bool)) : Option (Int × ttM) := qs1 16 a0 a1 a2
noncomputable def q82 (a0 : ttM) (a1 : Int) : Option (Int × ttM) := cond (decide (a1 = 0)) (some (0,a0)) ((qF a0 a1).bind fun x0 => cond (decide (x0.2.1 ≠ 0)) ((qH0 x0.2.1).bind fun x1 => some (x1,x0.2.2)) ((qi3 x0.2.2 x0.1 ((List.replicate 24 0),false)).bind fun x2 => some (x2.1,x2.2)))
noncomputable def qy0 (a0 : List UInt8) (a1 : List UInt8) : Option Bool := (((qQ (V := Int) (O := (Unit ⊕ Bool)) (fun v0 => cond (decide (v0 < 24)) ((ck (decide (0 ≤ v0 ∧ v0 < 24))).bind fun _ => (gx a0 v0).bind fun x0 => (gx a1 v0).bind fun x1 => cond (decide ((x0.toNat : Int) ≠ (x1.toNat : Int))) (some (.inr (.inr (decide ((x0.toNat : Int) < (x1.toNat : Int)))))) (
     some (.inl (IntKind.wrap .i64 (v0 + 1))))) (some (.inr (.inl ())))) 0) : Option (Unit ⊕ Bool))).bind fun o0 => Sum.elim (fun (v1 : Unit) => some false) (fun w0 => some w0) o0
noncomputable def qy2 (a0 : ttN) : Option Bool := (((cond (decide (a0.1 < 0)) (some true) (some (decide (a0.1 > 11)))) : Option Bool)).bind fun o0 => cond o0 (some false) ((((cond (decide (a0.1 = 0)) (cond (decide ((a0.2.1.length : Int) < 1)) (some true) (cond (decide ((a0.2.1.length : Int) > 7)) (some true) (cond (decide ((a0.2.2.length : Int) > 0)) (some true) (
       cond (decide (a0.1 > 0)) (cond (decide ((a0.2.2.length : Int) < 2)) (some true) (cond (decide ((a0.2.2.length : Int) > 18)) (some true) (some (decide ((a0.2.1.length : Int) > 0))))) (some false))))) (cond (decide (a0.1 > 0)) (cond (decide ((a0.2.2.length : Int) < 2)) (some true) (cond (decide ((a0.2.2.length : Int) > 18)) (some true) (some (decide ((a0.2.1.length : Int) > 0))))) (
     some false))) : Option Bool)).bind fun o1 => cond o1 (some false) ((((qQ (V := Int) (O := (Unit ⊕ Bool)) (fun v0 => cond (decide (v0 < (a0.2.1.length : Int))) ((gx a0.2.1 v0).bind fun x0 => cond (decide ((x0.2.size : Int) > 40)) (some (.inr (.inr false))) ((((cond (decide (v0 > 0)) ((gx a0.2.1 (IntKind.wrap .i64 (v0 - 1))).bind fun x1 => (qy0 x1.1 x0.1).bind fun x2 =>
         some (!x2)) (some false)) : Option Bool)).bind fun o2 => cond o2 (some (.inr (.inr false))) (some (.inl (IntKind.wrap .i64 (v0 + 1)))))) (some (.inr (.inl ())))) 0) : Option (Unit ⊕ Bool))).bind fun o3 => Sum.elim (fun (v1 : Unit) => (((qQ (V := Int) (O := (Unit ⊕ Bool)) (fun v2 => cond (decide (v2 < (a0.2.2.length : Int))) ((((((((gx a0.2.2 v2).bind fun x3 =>
         cond (decide (x3.2 < 2)) (some true) (some (decide (x3.2 > 4294967295)))) : Option Bool)).bind fun o4 => cond o4 (some (.inr false)) ((((cond (decide (v2 > 0)) ((gx a0.2.2 (IntKind.wrap .i64 (v2 - 1))).bind fun x4 => (gx a0.2.2 v2).bind fun x5 => (qy0 x4.1 x5.1).bind fun x6 => some (!x6)) (some false)) : Option Bool)).bind fun o5 => cond o5 (some (.inr false)) (
          qQ (V := Int) (O := (Unit ⊕ Bool)) (fun v3 => cond (decide (v3 < v2)) ((gx a0.2.2 v3).bind fun x7 => (gx a0.2.2 v2).bind fun x8 => cond (decide (x7.2 = x8.2)) (some (.inr (.inr false))) (some (.inl (IntKind.wrap .i64 (v3 + 1))))) (some (.inr (.inl ())))) 0))) : Option (Unit ⊕ Bool))).bind fun o6 => Sum.elim (fun (v4 : Unit) => some (.inl (IntKind.wrap .i64 (v2 + 1)))
       ) (fun w0 => some (.inr (.inr w0))) o6) (some (.inr (.inl ())))) 0) : Option (Unit ⊕ Bool))).bind fun o7 => Sum.elim (fun (v5 : Unit) => some true) (fun w1 => some w1) o7) (fun w2 => some w2) o3))
noncomputable def qC1 (a0 : ttN) : Option B8 := cond (decide ((a0.2.1.length : Int) > 0)) ((gx a0.2.1 0).bind fun x0 => some x0.1) (cond (decide ((a0.2.2.length : Int) > 0)) ((gx a0.2.2 0).bind fun x1 => some x1.1) (some (List.replicate 24 0)))
noncomputable def qx1 (a0 : List (Int × ttN)) (a1 : Int) : Option (ttN × Bool) := (((qQ (V := Int) (O := (Unit ⊕ (ttN × Bool))) (fun v0 => cond (decide (v0 < (a0.length : Int))) ((gx a0 v0).bind fun x0 => cond (decide (x0.1 = a1)) (some (.inr (.inr (x0.2,true)))) (some (.inl (IntKind.wrap .i64 (v0 + 1))))) (some (.inr (.inl ())))) 0) : Option (Unit ⊕ (ttN × Bool)))).bind fun o0 =>
 Sum.elim (fun (v1 : Unit) => some ((0,[],[]),false)) (fun w0 => some w0) o0
noncomputable def qM0 (self : (List (Int × ttN)) → ttN → B8 → Bool → Option Bool) (a0 : List (Int × ttN)) (a1 : ttN) (a2 : List UInt8) (a3 : Bool) : Option Bool := (qy2 a1).bind fun x0 => cond (!x0) (some false) ((((qQ (V := Int) (O := (Unit ⊕ Bool)) (fun v0 => cond (decide (v0 < (a1.2.1.length : Int))) ((gx a1.2.1 v0).bind fun x1 => (qy0 x1.1 a2).bind fun x2 => (((
      cond a3 (some (!x2)) (some false)) : Option Bool)).bind fun o0 => cond o0 (some (.inr (.inr false))) (some (.inl (IntKind.wrap .i64 (v0 + 1))))) (some (.inr (.inl ())))) 0) : Option (Unit ⊕ Bool))).bind fun o1 => Sum.elim (fun (v1 : Unit) => (((qQ (V := Int) (O := (Unit ⊕ Bool)) (fun v2 => cond (decide (v2 < (a1.2.2.length : Int))) ((gx a1.2.2 v2).bind fun x3 =>
      (qy0 x3.1 a2).bind fun x4 => (((cond a3 (some (!x4)) (some false)) : Option Bool)).bind fun o2 => cond o2 (some (.inr (.inr false))) ((qx1 a0 x3.2).bind fun x5 => (((cond (!x5.2) (some true) (cond (decide (x5.1.1 ≠ (IntKind.wrap .i64 (a1.1 - 1)))) (some true) ((qC1 x5.1).bind fun x6 => cond (!(decide (x6 = x3.1))) (some true) (cond (decide (x5.1.1 = 0)) (
            cond (decide ((x5.1.2.1.length : Int) < 3)) (some true) (cond (decide (x5.1.1 > 0)) (some (decide ((x5.1.2.2.length : Int) < 9))) (some false))) (cond (decide (x5.1.1 > 0)) (some (decide ((x5.1.2.2.length : Int) < 9))) (some false)))))) : Option Bool)).bind fun o3 => cond o3 (some (.inr (.inr false))) ((((
         cond (decide ((IntKind.wrap .i64 (v2 + 1)) < (a1.2.2.length : Int))) ((gx a1.2.2 (IntKind.wrap .i64 (v2 + 1))).bind fun x7 => some (true,x7.1)) (some (a3,a2))) : Option (Bool × B8))).bind fun o4 => (self a0 x5.1 o4.2 o4.1).bind fun x8 => cond (!x8) (some (.inr (.inr false))) (some (.inl (IntKind.wrap .i64 (v2 + 1))))))) (some (.inr (.inl ())))) 0
   ) : Option (Unit ⊕ Bool))).bind fun o5 => Sum.elim (fun (v3 : Unit) => some true) (fun w0 => some w0) o5) (fun w1 => some w1) o1)
noncomputable def qr0 : Nat → (List (Int × ttN)) → ttN → B8 → Bool → Option Bool | 0 => fun _ _ _ _ => none | n + 1 => qM0 (qr0 n)
noncomputable def q54 (a0 : List (Int × ttN)) (a1 : ttN) (a2 : List UInt8) (a3 : Bool) : Option Bool := qr0 16 a0 a1 a2 a3
noncomputable def qA2 (a0 : List (Int × ttN)) (a1 : Int) : Option Bool := cond (decide (a1 = 0)) (some true) ((qx1 a0 a1).bind fun x0 => cond (!x0.2) (some false) ((q54 a0 x0.1 (List.replicate 24 0) false).bind fun x1 => some x1))
noncomputable def q74 : Option ttS := some ((List.replicate 24 0),(List.replicate 24 0),true)
noncomputable def q72 (a0 : Int) (c0 : ttN) (c1 : List UInt8) : Option Bool := (gx c0.2.2 a0).bind fun x0 => (qv x0.1 c1).bind fun x1 => some (decide (x1 > 0))
noncomputable def qK1 (a0 : Int) (c0 : ttN) (c1 : List UInt8) : Option Int := (((qQ (V := (Int × Int)) (O := Int) (fun v0 => cond (decide (v0.1 < v0.2)) ((q72 (IntKind.wrap .i64 (Int.fdiv (IntKind.wrap .u64 (IntKind.wrap .i64 (v0.1 + v0.2))) (2 ^ 1))) c0 c1).bind fun x0 => cond (!x0) (
     some (.inl ((IntKind.wrap .i64 ((IntKind.wrap .i64 (Int.fdiv (IntKind.wrap .u64 (IntKind.wrap .i64 (v0.1 + v0.2))) (2 ^ 1))) + 1)),v0.2))) (some (.inl (v0.1,(IntKind.wrap .i64 (Int.fdiv (IntKind.wrap .u64 (IntKind.wrap .i64 (v0.1 + v0.2))) (2 ^ 1))))))) (some (.inr v0.1))) (0,a0)) : Option Int)).bind fun o0 => some o0
noncomputable def qE2 (a0 : ttN) (a1 : List UInt8) : Option Int := (qK1 (a0.2.2.length : Int) a0 a1).bind fun x0 => some (max (IntKind.wrap .i64 (x0 - 1)) 0)
noncomputable def qW1 (a0 : ttM) (a1 : Int) (a2 : List UInt8) : Option (ByteArray × Bool × Int × ttM) := (((qQ (V := (Int × ttM)) (O := (ttM ⊕ (ByteArray × Bool × Int × ttM))) (fun v0 => cond (decide (v0.1 ≠ 0)) ((qF v0.2 v0.1).bind fun x0 => cond (decide (x0.2.1 ≠ 0)) (some (.inr (.inr ((ByteArray.mk #[]),false,x0.2.1,x0.2.2)))) (
     cond (decide ((x0.1.2.2.length : Int) > 0)) ((qE2 x0.1 a2).bind fun x1 => (gx x0.1.2.2 x1).bind fun x2 => some (.inl (x2.2,x0.2.2))) ((((qQ (V := Int) (O := (Unit ⊕ (ByteArray × Bool × Int × ttM))) (fun v1 => cond (decide (v1 < (x0.1.2.1.length : Int))) ((gx x0.1.2.1 v1).bind fun x3 => cond (decide (x3.1 = a2)) (some (.inr (.inr (x3.2,true,0,x0.2.2)))) (
          some (.inl (IntKind.wrap .i64 (v1 + 1))))) (some (.inr (.inl ())))) 0) : Option (Unit ⊕ (ByteArray × Bool × Int × ttM)))).bind fun o0 => Sum.elim (fun (v2 : Unit) => some (.inl (0,x0.2.2))) (fun w0 => some (.inr (.inr w0))) o0))) (some (.inr (.inl v0.2)))) (a1,a0)) : Option (ttM ⊕ (ByteArray × Bool × Int × ttM)))).bind fun o1 => Sum.elim (fun (v3 : ttM) =>
  some ((ByteArray.mk #[]),false,0,v3)) (fun w1 => some w1) o1
noncomputable def qa2 (a0 : ttM) (a1 : Int) : Option (Int × ttM) := cond (decide (a1 = 0)) (some (0,a0)) ((qx0 a0 a1).bind fun x0 => some (x0.1,x0.2))
theorem law07_bag_Get_okc {a0 : (List (Int × ttN))} {a1 : Int} {r : (ttN × Int)} (h : qG0 a0 a1 = some r) : FnOk Try.prog 134 [.d (qK a0),.d (eint a1)] 0 (lk []) (fun rr oo => rr = .tup [.d (ql r.1),.d (eErr r.2)] ∧ oo = lk [(1,.box (.d (ql r.1)))]) := by
 refine fnO Try.func134 rfl rfl (cwP ?_)
 unfold qG0 at h
 refine cwS (cwR (
  .c (uX 0 rfl)<|
  .c (q30 1 rfl rfl .no ze46 rfl)<|
  .c (uA rfl)<|.nil rfl) ?_)
 have ⟨o0,hj0,h0⟩ := bdS h
 refine cwJ (fun (z : Unit) => St.of [(4,.ptr 1 0)] [(1,.box (.d (ql (0,[],[]))))]) (fun (z : Unit) => o0 = (.inl z)) ?_ ?_
 ·intro v0 hv0; subst hv0
  simp only [Sum.elim_inl] at h0
  refine cwS (cwR (
   .c (qg5 (ds := [eint 0,eSP_ ([]),qk0 ([])]) rfl rfl .no zs46 rfl pl46 .nil)<|
   .c (uS [] rfl sz46 rfl)<|
   .c (uA rfl)<|.nil rfl) ?_)
  have heq := ((sJ h0)).symm
  subst heq
  exact qu ⟨_,(show Leads _ _ (St.of [(4,.ptr 1 0),(5,.d (eErr 1))] [(1,.box (.d (ql (0,[],[]))))]) from .w (wkF ⟨⟨_,rfl,.ptr rfl rfl⟩,wD rfl,trivial⟩ ⟨.box rfl (.d rfl),trivial⟩ qx)),.inr rfl,_,resCT rfl rfl rfl ta46 rfl rfl rfl,rfl,rfl⟩
 refine cwS (cwR (
  .c (uA rfl)<|.nil rfl) ?_)
 refine cwB ?_
 refine qJ (V := Int) (O := (Unit ⊕ (ttN × Int))) (fun (z : Int) => St.of [(1,.d (eint a1)),(2,.ptr 0 0),(4,.ptr 1 0),(6,.d (eint z))] [(0,.box (.d (qK a0))),(1,.box (.d (ql (0,[],[]))))]) hj0 (.w (wkF ⟨wD rfl,⟨_,rfl,.ptr rfl rfl⟩,⟨_,rfl,.ptr rfl rfl⟩,wD rfl,trivial⟩ ⟨.box rfl (.d rfl),.box rfl (.d rfl),trivial⟩ qx)) ?_
 intro v1 x0 hb0 hx0
 refine cwS ?_
 refine cwS (cwR (
  .c (uM rfl)<|
  .c (uF rfl fld64_0 rfl)<|
  .c (uL [0] rfl ta62 rfl)<|
  .c (qD (enc := qt) (xs := a0) rfl rfl .no rfl sl62)<|
  .c (uB rfl (qp0 _ _) rfl)<|.nil rfl) ?_)
 rcases cdS hb0 with ⟨hc0,h1⟩ | ⟨hc0,h2⟩
 ·refine cwT rfl hc0 ?_
  refine cwK ?_
  refine cwS ?_
  refine cwB ?_
  have ⟨x1,hx1,h3⟩ := bdS h1
  have hx1g := qA hx1
  refine cwS (cwR (
   .c (uF rfl fld64_0 rfl)<|
   .c (uL [0] rfl ta62 rfl)<|
   .c (uM rfl)<|
   .c (qb1 (enc := qt) (xs := a0) rfl rfl .no rfl rfl sl62 sz66 hx1g.1 hx1g.2)<|
   .c (ql1 rfl rfl .no rfl fld66_0 (by decide) rfl rfl)<|
   .c (o_ld rfl rfl .no rfl ta3 rfl rfl)<|
   .c (uM rfl)<|
   .c (uB rfl (q80 _ _) rfl)<|.nil rfl) ?_)
  rcases cdS h3 with ⟨hc1,h4⟩ | ⟨hc1,h5⟩
  ·refine cwT rfl hc1 ?_
   refine cwS (cwR (
    .c (uF rfl fld64_0 rfl)<|
    .c (uL [0] rfl ta62 rfl)<|
    .c (uM rfl)<|
    .c (qb1 (enc := qt) (xs := a0) rfl rfl .no rfl rfl sl62 sz66 hx1g.1 hx1g.2)<|
    .c (ql1 rfl rfl .no rfl fld66_1 (by decide) rfl rfl)<|
    .c (o_ld rfl rfl .no rfl ta46 rfl rfl)<|
    .c (uS [] rfl sz46 rfl)<|
    .c (uA rfl)<|.nil rfl) ?_)
   have he0 := ((hx0 _ (sJ h4)).symm).symm
   subst he0
   have heq := ((sJ h0)).symm
   subst heq
   exact qu ⟨_,(show Leads _ _ (St.of [(4,.ptr 1 0),(5,.d (eErr 0))] [(1,.box (.d (ql x1.2)))]) from .w (wkF ⟨⟨_,rfl,.ptr rfl rfl⟩,wD rfl,trivial⟩ ⟨.box rfl (.d rfl),trivial⟩ qx)),.inr rfl,_,resCT rfl rfl rfl ta46 rfl rfl rfl,rfl,rfl⟩
  refine cwF rfl hc1 ?_
  refine cwK ?_
  refine cwR (
   .c (uM rfl)<|
   .c (uB rfl (qN0 _ _) rfl)<|
   .c (uA rfl)<|.nil rfl
  ) ?_
  exact ⟨(IntKind.wrap .i64 (v1 + 1)),(sJ h5),.w (wkF ⟨wD rfl,⟨_,rfl,.ptr rfl rfl⟩,⟨_,rfl,.ptr rfl rfl⟩,wD rfl,trivial⟩ ⟨.box rfl (.d rfl),.box rfl (.d rfl),trivial⟩ qx)⟩
 refine cwF rfl hc0 ?_
 refine qT ?_
 exact ⟨(),(hx0 _ (sJ h2)).symm,.w (wkF ⟨⟨_,rfl,.ptr rfl rfl⟩,trivial⟩ ⟨.box rfl (.d rfl),trivial⟩ qx)⟩
theorem qU3 {a0 : (List (Int × ttN))} {a1 : Int} {r : (ttN × Int)} (h : qG0 a0 a1 = some r) : FnOk Try.prog 134 [.d (qK a0),.d (eint a1)] 0 (lk []) (fun rr oo => rr = .tup [.d (ql r.1),.d (eErr r.2)] ∧ oo = lk []) := fnOk_forget2 (law07_bag_Get_okc h)
theorem qe4 {self : (List (Int × ttN)) → ttN → (B8 × Bool) → Option Int} (self_ok : ∀ {a0 : (List (Int × ttN))} {a1 : ttN} {a2 : (B8 × Bool)} {r : Int},self a0 a1 a2 = some r → FnOk Try.prog 45 [.ifc 64 (.d (qK a0)),.d (ql a1),.d (qa0 a2)] 0 (lk []) (fun rr oo => rr = .d (eErr r) ∧ oo = lk [])) {a0 : (List (Int × ttN))} {a1 : ttN} {a2 : (B8 × Bool)} {r : Int} (h : qC0 self a0 a1 a2 = some r) : FnOk Try.prog 45 [.ifc 64 (.d (qK a0)),.d (ql a1),.d (qa0 a2)] 0 (lk []) (fun rr oo => rr = .d (eErr r) ∧ oo = lk []) := by
 refine fnO Try.func45 rfl rfl (cwP ?_)
 unfold qC0 at h
 refine cwS (cwR (
  .c (uX 0 rfl)<|
  .c (uX 1 rfl)<|
  .c (uA rfl)<|.nil rfl) ?_)
 refine cwS ?_
 have ⟨x0,hx0,h0⟩ := bdS (x := qk1 a1) h
 refine cwS (cwR (
  .c (uL [] rfl ta46 rfl)<|
  .c (q50 rfl rfl .no Try.func66 rfl rfl (qT3 hx0) (.cons rfl .d .nil) ⟨trivial,trivial⟩ (.inl rfl))<|
  .c (uT rfl)<|.nil rfl) ?_)
 rcases cdS h0 with ⟨hc0,h1⟩ | ⟨hc0,h2⟩
 ·refine cwT rfl hc0 ?_
  refine cwS (cwR (
   .c (uA rfl)<|.nil rfl) ?_)
  have heq := ((sJ h1)).symm
  subst heq
  exact qu ⟨_,(show Leads _ _ (St.of [(6,.d (eErr 12))] []) from .w (wkF ⟨wD rfl,trivial⟩ trivial qx)),.inr rfl,_,res1 rfl rfl,rfl,rfl⟩
 refine cwF rfl hc0 ?_
 refine cwK ?_
 refine cwS (cwR (
  .c (o_bldB (l := (List.replicate 24 0)) (r := (List.replicate 24 0)) rfl rfl .no ze31 ar31 sz5 .nil)<|
  .c (q30 2 rfl rfl .no ze31 rfl)<|
  .c (uS [] rfl sz31 rfl)<|.nil rfl) ?_)
 have ⟨o0,hj0,h3⟩ := bdS h2
 refine cwJ (fun (z : B8) => St.of [(0,.ifc 64 (.d (qK a0))),(4,.ptr 0 0),(5,.ptr 1 0),(7,.ptr 2 0)] [(0,.box (.d (ql a1))),(1,.box (.d (qa0 a2))),(2,.box (.d (eK z)))]) (fun (z : B8) => o0 = z) ?_ ?_
 ·intro v0 hv0; subst hv0
  refine cwS ?_
  have ⟨o1,hj1,h4⟩ := bdS h3
  refine cwJ (fun (z : Bool) => St.of [(0,.ifc 64 (.d (qK a0))),(4,.ptr 0 0),(5,.ptr 1 0),(47,.d (qM z))] [(0,.box (.d (ql a1))),(1,.box (.d (qa0 a2)))]) (fun (z : Bool) => o1 = z) ?_ ?_
  ·intro v1 hv1; subst hv1
   rcases cdS h4 with ⟨hc1,h5⟩ | ⟨hc1,h6⟩
   ·refine cwT rfl hc1 ?_
    refine cwS (cwR (
     .c (uA rfl)<|.nil rfl) ?_)
    have heq := ((sJ h5)).symm
    subst heq
    exact qu ⟨_,(show Leads _ _ (St.of [(6,.d (eErr 12))] []) from .w (wkF ⟨wD rfl,trivial⟩ trivial qx)),.inr rfl,_,res1 rfl rfl,rfl,rfl⟩
   refine cwF rfl hc1 ?_
   refine cwK ?_
   have ⟨o2,hj2,h7⟩ := bdS h6
   refine cwJ (fun (z : Unit) => St.of [] []) (fun (z : Unit) => o2 = (.inl z)) ?_ ?_
   ·intro v2 hv2; subst hv2
    simp only [Sum.elim_inl] at h7
    refine cwS (cwR (
     .c (uA rfl)<|.nil rfl) ?_)
    have heq := ((sJ h7)).symm
    subst heq
    exact qu ⟨_,(show Leads _ _ (St.of [(6,.d (eErr 0))] []) from .w (wkF ⟨wD rfl,trivial⟩ trivial qx)),.inr rfl,_,res1 rfl rfl,rfl,rfl⟩
   refine cwS (cwR (
    .c (uF rfl qP rfl)<|
    .c (uL [2] rfl ta44 rfl)<|
    .c (qD (enc := qB) (xs := a1.2.2) rfl rfl .no rfl sl44)<|
    .c (uM rfl)<|.nil rfl) ?_)
   refine cwB ?_
   refine qJ (V := Int) (O := (Unit ⊕ Int)) (fun (z : Int) => St.of [(0,.ifc 64 (.d (qK a0))),(4,.ptr 0 0),(5,.ptr 1 0),(49,.d (qk0 a1.2.2)),(50,.d (eint (a1.2.2.length : Int))),(51,.d (eint z))] [(0,.box (.d (ql a1))),(1,.box (.d (qa0 a2)))]) hj2 (.w (wkF ⟨⟨_,rfl,.ifc (.d rfl)⟩,⟨_,rfl,.ptr rfl rfl⟩,⟨_,rfl,.ptr rfl rfl⟩,wD rfl,wD rfl,wD rfl,trivial⟩ ⟨.box rfl (.d rfl),.box rfl (.d rfl),trivial⟩ qx)) ?_
   intro v3 x1 hb0 hx1
   refine cwS (cwR (
    .c (uB rfl (qp0 _ _) rfl)<|.nil rfl) ?_)
   refine cwS ?_
   rcases cdS hb0 with ⟨hc2,h8⟩ | ⟨hc2,h9⟩
   ·refine cwT rfl hc2 ?_
    refine cwK ?_
    refine cwS ?_
    refine cwB ?_
    have ⟨x2,hx2,h10⟩ := bdS h8
    have hx2g := qA hx2
    refine cwS (cwR (
     .c (uM rfl)<|
     .c (qb1 (enc := qB) (xs := a1.2.2) rfl rfl .no rfl rfl sl44 sz69 hx2g.1 hx2g.2)<|
     .c (o_ld rfl rfl .no rfl ta69 rfl rfl)<|
     .c (q30 3 rfl rfl .no ze69 rfl)<|
     .c (uA rfl)<|
     .c (uS [] rfl sz69 rfl)<|.nil rfl) ?_)
    have ⟨x3,hx3,h11⟩ := bdS (x := qG0 a0 x2.2) h10
    refine cwS (cwR (
     .c (uM rfl)<|
     .c (uF rfl qR1 rfl)<|
     .c (uL [1] rfl ta3 rfl)<|
     .c (o_invD (fun o => o) rfl rfl .no rfl Try.func134 rfl rfl hm64_Get (qU3 hx3) (.cons rfl .d (.cons rfl .d .nil)) (by decide) (callIn0 ⟨trivial,trivial,trivial⟩) (.inl rfl))<|
     .c (uM rfl)<|
     .c (uE rfl)<|
     .c (uE rfl)<|
     .c (q30 4 rfl rfl .no ze46 rfl)<|
     .c (uS [] rfl sz46 rfl)<|
     .c (uA rfl)<|.nil rfl) ?_)
    refine cwS ?_
    refine cwS (cwR (
     .c (uM rfl)<|
     .c (uB rfl (qY2 _ _) rfl)<|.nil rfl) ?_)
    rcases cdS h11 with ⟨hc3,h12⟩ | ⟨hc3,h13⟩
    ·refine cwT rfl hc3 ?_
     have ⟨x4,hx4,h14⟩ := bdS (x := qH0 x3.2) h12
     refine cwS (cwR (
      .c (uM rfl)<|
      .c (q50 rfl rfl .no Try.func44 rfl rfl (qw2 hx4) (.cons rfl .d .nil) ⟨trivial,trivial⟩ (.inl rfl))<|
      .c (uA rfl)<|.nil rfl) ?_)
     have he0 := ((hx1 _ (sJ h14)).symm).symm
     subst he0
     have heq := ((sJ h7)).symm
     subst heq
     exact qu ⟨_,(show Leads _ _ (St.of [(6,.d (eErr x4))] []) from .w (wkF ⟨wD rfl,trivial⟩ trivial qx)),.inr rfl,_,res1 rfl rfl,rfl,rfl⟩
    refine cwF rfl hc3 ?_
    refine cwK ?_
    refine cwS (cwR (
     .c (uL [] rfl ta115 rfl)<|
     .c (q30 5 rfl rfl .no ze115 rfl)<|
     .c (uS [] rfl sz115 rfl)<|.nil rfl) ?_)
    have ⟨o3,hj3,h15⟩ := bdS h13
    refine cwJ (fun (z : (B8 × Bool)) => St.of [(0,.ifc 64 (.d (qK a0))),(4,.ptr 0 0),(5,.ptr 1 0),(9,.ptr 3 0),(10,.ptr 4 0),(12,.ptr 5 0),(49,.d (qk0 a1.2.2)),(50,.d (eint (a1.2.2.length : Int))),(51,.d (eint v3))] [(0,.box (.d (ql a1))),(1,.box (.d (qa0 a2))),(3,.box (.d (qB x2))),(4,.box (.d (ql x3.1))),(5,.box (.d (qa0 z)))]) (fun (z : (B8 × Bool)) => o3 = z) ?_ ?_
    ·intro v4 hv3; subst hv3
     refine cwS ?_
     have ⟨o4,hj4,h16⟩ := bdS h15
     refine cwJ (fun (z : Bool) => St.of [(0,.ifc 64 (.d (qK a0))),(4,.ptr 0 0),(5,.ptr 1 0),(10,.ptr 4 0),(12,.ptr 5 0),(49,.d (qk0 a1.2.2)),(50,.d (eint (a1.2.2.length : Int))),(51,.d (eint v3)),(98,.d (qM z))] [(0,.box (.d (ql a1))),(1,.box (.d (qa0 a2))),(4,.box (.d (ql x3.1))),(5,.box (.d (qa0 o3)))]) (fun (z : Bool) => o4 = z) ?_ ?_
     ·intro v5 hv4; subst hv4
      rcases cdS h16 with ⟨hc4,h17⟩ | ⟨hc4,h18⟩
      ·refine cwT rfl hc4 ?_
       refine cwS (cwR (
        .c (uA rfl)<|.nil rfl) ?_)
       have he1 := ((hx1 _ (sJ h17)).symm).symm
       subst he1
       have heq := ((sJ h7)).symm
       subst heq
       exact qu ⟨_,(show Leads _ _ (St.of [(6,.d (eErr 12))] []) from .w (wkF ⟨wD rfl,trivial⟩ trivial qx)),.inr rfl,_,res1 rfl rfl,rfl,rfl⟩
      refine cwF rfl hc4 ?_
      refine cwK ?_
      have ⟨x5,hx5,h19⟩ := bdS (x := self a0 x3.1 o3) h18
      refine cwS (cwR (
       .c (uM rfl)<|
       .c (uL [] rfl ta46 rfl)<|
       .c (uL [] rfl ta115 rfl)<|
       .c (q50 rfl rfl .no Try.func45 rfl rfl (self_ok hx5) (.cons rfl .i (.cons rfl .d (.cons rfl .d .nil))) ⟨(by simp [AV.live]),trivial,trivial,trivial⟩ (.inl rfl))<|
       .c (uA rfl)<|.nil rfl) ?_)
      refine cwS (cwR (
       .c (uM rfl)<|
       .c (uB rfl (qY2 _ _) rfl)<|.nil rfl) ?_)
      rcases cdS h19 with ⟨hc5,h20⟩ | ⟨hc5,h21⟩
      ·refine cwT rfl hc5 ?_
       refine cwS (cwR (
        .c (uM rfl)<|
        .c (uA rfl)<|.nil rfl) ?_)
       have he2 := ((hx1 _ (sJ h20)).symm).symm
       subst he2
       have heq := ((sJ h7)).symm
       subst heq
       exact qu ⟨_,(show Leads _ _ (St.of [(6,.d (eErr x5))] []) from .w (wkF ⟨wD rfl,trivial⟩ trivial qx)),.inr rfl,_,res1 rfl rfl,rfl,rfl⟩
      refine cwF rfl hc5 ?_
      refine cwK ?_
      refine cwR (
       .c (uB rfl (qN0 _ _) rfl)<|
       .c (uM rfl)<|.nil rfl
      ) ?_
      exact ⟨(IntKind.wrap .i64 (v3 + 1)),(sJ h21),.w (wkF ⟨⟨_,rfl,.ifc (.d rfl)⟩,⟨_,rfl,.ptr rfl rfl⟩,⟨_,rfl,.ptr rfl rfl⟩,wD rfl,wD rfl,wD rfl,trivial⟩ ⟨.box rfl (.d rfl),.box rfl (.d rfl),trivial⟩ qx)⟩
     rcases cdS hj4 with ⟨hc6,h22⟩ | ⟨hc6,h23⟩
     ·skip
      refine cwRA mixed (by kernel_rfl) (
       .c (uF rfl qH rfl)<|
       .c (uL [0] rfl ta3 rfl)<|
       .c (uF rfl qH rfl)<|
       .c (uL [0] rfl ta3 rfl)<|
       .c (uB rfl (qs2 _ _) rfl)<|
       .c (uB rfl (qY2 _ _) rfl)<|
       .c (uM rfl)<|
       .c (uN rfl rfl hc6)<|
       .c (uN rfl rfl hc6)<|
       .c (uN rfl rfl hc6)<|
       .c (uN rfl rfl hc6)<|
       .c (uN rfl rfl hc6)<|
       .c (uPT rfl hc6)<|
       .c (uM rfl)<|
       .c (uN rfl rfl rfl)<|
       .c (uN rfl rfl rfl)<|
       .c (uPT rfl rfl)<|.nil rfl) (by kernel_rfl) ?_
      exact ⟨true,(sJ h22),.w (wkF ⟨⟨_,rfl,.ifc (.d rfl)⟩,⟨_,rfl,.ptr rfl rfl⟩,⟨_,rfl,.ptr rfl rfl⟩,⟨_,rfl,.ptr rfl rfl⟩,⟨_,rfl,.ptr rfl rfl⟩,wD rfl,wD rfl,wD rfl,wD rfl,trivial⟩ ⟨.box rfl (.d rfl),.box rfl (.d rfl),.box rfl (.d rfl),.box rfl (.d rfl),trivial⟩ qx)⟩
     have ⟨x6,hx6,h24⟩ := bdS (x := qU0 x3.1) h23
     rcases cdS h24 with ⟨hc7,h25⟩ | ⟨hc7,h26⟩
     ·skip
      refine cwRA mixed (by kernel_rfl) (
       .c (uF rfl qH rfl)<|
       .c (uL [0] rfl ta3 rfl)<|
       .c (uF rfl qH rfl)<|
       .c (uL [0] rfl ta3 rfl)<|
       .c (uB rfl (qs2 _ _) rfl)<|
       .c (uB rfl (qY2 _ _) rfl)<|
       .c (uM rfl)<|
       .c (qp [] rfl rfl (.yes rfl rfl hc6) rfl rfl rfl ta46 rfl rfl)<|
       .c (q50 rfl rfl (.yes rfl rfl hc6) Try.func67 rfl rfl (qV2 hx6) (.cons rfl .d .nil) ⟨trivial,trivial⟩ (.inl rfl))<|
       .c (qh rfl rfl (.yes rfl rfl hc6) rfl q71 (by decide))<|
       .c (qp [0] rfl rfl (.yes rfl rfl hc6) rfl rfl rfl ta31 rfl rfl)<|
       .c (o_ne rfl rfl (.yes rfl rfl hc6) rfl rfl rfl rfl eg31 (.bs ar31 un5 sz5))<|
       .c (uPF rfl hc6)<|
       .c (uM rfl)<|
       .c (uN rfl rfl hc7)<|
       .c (uN rfl rfl hc7)<|
       .c (uPT rfl hc7)<|.nil rfl) (by kernel_rfl) ?_
      exact ⟨true,(sJ h25),.w (wkF ⟨⟨_,rfl,.ifc (.d rfl)⟩,⟨_,rfl,.ptr rfl rfl⟩,⟨_,rfl,.ptr rfl rfl⟩,⟨_,rfl,.ptr rfl rfl⟩,⟨_,rfl,.ptr rfl rfl⟩,wD rfl,wD rfl,wD rfl,wD rfl,trivial⟩ ⟨.box rfl (.d rfl),.box rfl (.d rfl),.box rfl (.d rfl),.box rfl (.d rfl),trivial⟩ qx)⟩
     have ⟨x7,hx7,h27⟩ := bdS (x := qm3 x3.1) h26
     refine cwRA mixed (by kernel_rfl) (
      .c (uF rfl qH rfl)<|
      .c (uL [0] rfl ta3 rfl)<|
      .c (uF rfl qH rfl)<|
      .c (uL [0] rfl ta3 rfl)<|
      .c (uB rfl (qs2 _ _) rfl)<|
      .c (uB rfl (qY2 _ _) rfl)<|
      .c (uM rfl)<|
      .c (qp [] rfl rfl (.yes rfl rfl hc6) rfl rfl rfl ta46 rfl rfl)<|
      .c (q50 rfl rfl (.yes rfl rfl hc6) Try.func67 rfl rfl (qV2 hx6) (.cons rfl .d .nil) ⟨trivial,trivial⟩ (.inl rfl))<|
      .c (qh rfl rfl (.yes rfl rfl hc6) rfl q71 (by decide))<|
      .c (qp [0] rfl rfl (.yes rfl rfl hc6) rfl rfl rfl ta31 rfl rfl)<|
      .c (o_ne rfl rfl (.yes rfl rfl hc6) rfl rfl rfl rfl eg31 (.bs ar31 un5 sz5))<|
      .c (uPF rfl hc6)<|
      .c (uM rfl)<|
      .c (qp [] rfl rfl (.yes rfl rfl hc7) rfl rfl rfl ta46 rfl rfl)<|
      .c (q50 rfl rfl (.yes rfl rfl hc7) Try.func68 rfl rfl (tree_few_ok hx7) (.cons rfl .d .nil) ⟨trivial,trivial⟩ (.inl rfl))<|
      .c (uPF rfl hc7)<|.nil rfl) (by kernel_rfl) ?_
     exact ⟨x7,(sJ h27),.w (wkF ⟨⟨_,rfl,.ifc (.d rfl)⟩,⟨_,rfl,.ptr rfl rfl⟩,⟨_,rfl,.ptr rfl rfl⟩,⟨_,rfl,.ptr rfl rfl⟩,⟨_,rfl,.ptr rfl rfl⟩,wD rfl,wD rfl,wD rfl,wD rfl,trivial⟩ ⟨.box rfl (.d rfl),.box rfl (.d rfl),.box rfl (.d rfl),.box rfl (.d rfl),trivial⟩ qx)⟩
    refine cwS (cwR (
     .c (uM rfl)<|
     .c (uB rfl (qN0 _ _) rfl)<|
     .c (uF rfl qP rfl)<|
     .c (uL [2] rfl ta44 rfl)<|
     .c (qD (enc := qB) (xs := a1.2.2) rfl rfl .no rfl sl44)<|
     .c (uB rfl (qp0 _ _) rfl)<|.nil rfl) ?_)
    rcases cdS hj3 with ⟨hc8,h28⟩ | ⟨hc8,h29⟩
    ·refine cwT rfl hc8 ?_
     have ⟨x8,hx8,h30⟩ := bdS h28
     have hx8g := qA hx8
     refine cwR (
      .c (uF rfl qP rfl)<|
      .c (uL [2] rfl ta44 rfl)<|
      .c (uM rfl)<|
      .c (uB rfl (qN0 _ _) rfl)<|
      .c (qb1 (enc := qB) (xs := a1.2.2) rfl rfl .no rfl rfl sl44 sz69 hx8g.1 hx8g.2)<|
      .c (ql1 rfl rfl .no rfl q71 (by decide) rfl rfl)<|
      .c (o_ld rfl rfl .no rfl ta31 rfl rfl)<|
      .c (qg5 (ds := [eK x8.1,qM true]) rfl rfl .no zs115 rfl pl115 (.cons rfl rfl rfl rfl rfl rfl rfl (.cons rfl rfl rfl rfl rfl rfl rfl .nil)))<|
      .c (uS [] rfl sz115 rfl)<|.nil rfl
     ) ?_
     exact ⟨(x8.1,true),(sJ h30),.w (wkF ⟨⟨_,rfl,.ifc (.d rfl)⟩,⟨_,rfl,.ptr rfl rfl⟩,⟨_,rfl,.ptr rfl rfl⟩,⟨_,rfl,.ptr rfl rfl⟩,⟨_,rfl,.ptr rfl rfl⟩,⟨_,rfl,.ptr rfl rfl⟩,wD rfl,wD rfl,wD rfl,trivial⟩ ⟨.box rfl (.d rfl),.box rfl (.d rfl),.box rfl (.d rfl),.box rfl (.d rfl),.box rfl (.d rfl),trivial⟩ qx)⟩
    refine cwF rfl hc8 ?_
    refine cwK ?_
    exact ⟨a2,(sJ h29),.w (wkF ⟨⟨_,rfl,.ifc (.d rfl)⟩,⟨_,rfl,.ptr rfl rfl⟩,⟨_,rfl,.ptr rfl rfl⟩,⟨_,rfl,.ptr rfl rfl⟩,⟨_,rfl,.ptr rfl rfl⟩,⟨_,rfl,.ptr rfl rfl⟩,wD rfl,wD rfl,wD rfl,trivial⟩ ⟨.box rfl (.d rfl),.box rfl (.d rfl),.box rfl (.d rfl),.box rfl (.d rfl),.box rfl (.d rfl),trivial⟩ qx)⟩
   refine cwF rfl hc2 ?_
   refine qT ?_
   exact ⟨(),(hx1 _ (sJ h9)).symm,.w (wkF trivial trivial qx)⟩
  rcases cdS hj1 with ⟨hc9,h31⟩ | ⟨hc9,h32⟩
  ·skip
   have ⟨x9,hx9,h33⟩ := bdS (x := qv o0 a2.1) h31
   refine cwR (
    .c (uF rfl fld115_1 rfl)<|
    .c (uL [1] rfl ta4 rfl)<|
    .c (uM rfl)<|
    .c (qp [] rfl rfl (.yes rfl rfl hc9) rfl rfl rfl ta31 rfl rfl)<|
    .c (qh rfl rfl (.yes rfl rfl hc9) rfl fld115_0 (by decide))<|
    .c (qp [0] rfl rfl (.yes rfl rfl hc9) rfl rfl rfl ta31 rfl rfl)<|
    .c (q50 rfl rfl (.yes rfl rfl hc9) Try.func43 rfl rfl (qd0 hx9) (.cons rfl .d (.cons rfl .d .nil)) ⟨trivial,trivial,trivial⟩ (.inl rfl))<|
    .c (qi rfl rfl (.yes rfl rfl hc9) rfl rfl (b_geq _ _) rfl)<|
    .c (uPT rfl hc9)<|.nil rfl
   ) ?_
   exact ⟨(decide (x9 ≥ 0)),(sJ h33),.w (wkF ⟨⟨_,rfl,.ifc (.d rfl)⟩,⟨_,rfl,.ptr rfl rfl⟩,⟨_,rfl,.ptr rfl rfl⟩,wD rfl,trivial⟩ ⟨.box rfl (.d rfl),.box rfl (.d rfl),trivial⟩ qx)⟩
  refine cwR (
   .c (uF rfl fld115_1 rfl)<|
   .c (uL [1] rfl ta4 rfl)<|
   .c (uM rfl)<|
   .c (uN rfl rfl hc9)<|
   .c (uN rfl rfl hc9)<|
   .c (uN rfl rfl hc9)<|
   .c (uN rfl rfl hc9)<|
   .c (uN rfl rfl hc9)<|
   .c (uPF rfl hc9)<|.nil rfl
  ) ?_
  exact ⟨false,(sJ h32),.w (wkF ⟨⟨_,rfl,.ifc (.d rfl)⟩,⟨_,rfl,.ptr rfl rfl⟩,⟨_,rfl,.ptr rfl rfl⟩,wD rfl,trivial⟩ ⟨.box rfl (.d rfl),.box rfl (.d rfl),trivial⟩ qx)⟩
 refine cwS (cwR (
  .c (uF rfl qH rfl)<|
  .c (uL [0] rfl ta3 rfl)<|
  .c (uB rfl (q80 _ _) rfl)<|.nil rfl) ?_)
 rcases cdS hj0 with ⟨hc10,h34⟩ | ⟨hc10,h35⟩
 ·refine cwT rfl hc10 ?_
  have ⟨x10,hx10,h36⟩ := bdS h34
  have hx10g := qA hx10
  refine cwR (
   .c (uF rfl qg0 rfl)<|
   .c (uL [1] rfl ta34 rfl)<|
   .c (uF rfl qg0 rfl)<|
   .c (uL [1] rfl ta34 rfl)<|
   .c (qD (enc := ePr) (xs := a1.2.1) rfl rfl .no rfl sl34)<|
   .c (uB rfl (qs2 _ _) rfl)<|
   .c (qb1 (enc := ePr) (xs := a1.2.1) rfl rfl .no rfl rfl sl34 sz52 hx10g.1 hx10g.2)<|
   .c (ql1 rfl rfl .no rfl q93 (by decide) rfl rfl)<|
   .c (o_ld rfl rfl .no rfl ta31 rfl rfl)<|
   .c (uS [] rfl sz31 rfl)<|.nil rfl
  ) ?_
  exact ⟨x10.1,(sJ h36),.w (wkF ⟨⟨_,rfl,.ifc (.d rfl)⟩,⟨_,rfl,.ptr rfl rfl⟩,⟨_,rfl,.ptr rfl rfl⟩,⟨_,rfl,.ptr rfl rfl⟩,trivial⟩ ⟨.box rfl (.d rfl),.box rfl (.d rfl),.box rfl (.d rfl),trivial⟩ qx)⟩
 refine cwF rfl hc10 ?_
 have ⟨x11,hx11,h37⟩ := bdS h35
 have hx11g := qA hx11
 refine cwR (
  .c (uF rfl qP rfl)<|
  .c (uL [2] rfl ta44 rfl)<|
  .c (uF rfl qP rfl)<|
  .c (uL [2] rfl ta44 rfl)<|
  .c (qD (enc := qB) (xs := a1.2.2) rfl rfl .no rfl sl44)<|
  .c (uB rfl (qs2 _ _) rfl)<|
  .c (qb1 (enc := qB) (xs := a1.2.2) rfl rfl .no rfl rfl sl44 sz69 hx11g.1 hx11g.2)<|
  .c (ql1 rfl rfl .no rfl q71 (by decide) rfl rfl)<|
  .c (o_ld rfl rfl .no rfl ta31 rfl rfl)<|
  .c (uS [] rfl sz31 rfl)<|.nil rfl
 ) ?_
 exact ⟨x11.1,(sJ h37),.w (wkF ⟨⟨_,rfl,.ifc (.d rfl)⟩,⟨_,rfl,.ptr rfl rfl⟩,⟨_,rfl,.ptr rfl rfl⟩,⟨_,rfl,.ptr rfl rfl⟩,trivial⟩ ⟨.box rfl (.d rfl),.box rfl (.d rfl),.box rfl (.d rfl),trivial⟩ qx)⟩
theorem qy3 : ∀ (n : Nat) {a0 : (List (Int × ttN))} {a1 : ttN} {a2 : (B8 × Bool)} {r : Int},ql0 n a0 a1 a2 = some r → FnOk Try.prog 45 [.ifc 64 (.d (qK a0)),.d (ql a1),.d (qa0 a2)] 0 (lk []) (fun rr oo => rr = .d (eErr r) ∧ oo = lk [])
 | 0,_,_,_,_,h => nomatch h
 | n + 1,_,_,_,_,h => qe4 (self := ql0 n) (fun h => qy3 n h) h
theorem tree_check_b_ok {a0 : (List (Int × ttN))} {a1 : ttN} {a2 : (B8 × Bool)} {r : Int} (h : ql3 a0 a1 a2 = some r) : FnOk Try.prog 45 [.ifc 64 (.d (qK a0)),.d (ql a1),.d (qa0 a2)] 0 (lk []) (fun rr oo => rr = .d (eErr r) ∧ oo = lk []) := qy3 16 h
theorem tree_Check_b_ok {a0 : (List (Int × ttN))} {a1 : Int} {r : Int} (h : q92 a0 a1 = some r) : FnOk Try.prog 22 [.ifc 64 (.d (qK a0)),.d (eint a1)] 0 (lk []) (fun rr oo => rr = .d (eErr r) ∧ oo = lk []) := by
 refine fnO Try.func22 rfl rfl (cwP ?_)
 unfold q92 at h
 refine cwS (cwR (
  .c (uA rfl)<|.nil rfl) ?_)
 refine cwS ?_
 refine cwS (cwR (
  .c (uM rfl)<|
  .c (uB rfl (q80 _ _) rfl)<|.nil rfl) ?_)
 rcases cdS h with ⟨hc0,h0⟩ | ⟨hc0,h1⟩
 ·refine cwT rfl hc0 ?_
  refine cwS (cwR (
   .c (uA rfl)<|.nil rfl) ?_)
  have heq := ((sJ h0)).symm
  subst heq
  exact qu ⟨_,(show Leads _ _ (St.of [(4,.d (eErr 0))] []) from .w (wkF ⟨wD rfl,trivial⟩ trivial qx)),.inr rfl,_,res1 rfl rfl,rfl,rfl⟩
 refine cwF rfl hc0 ?_
 refine cwK ?_
 have ⟨x0,hx0,h2⟩ := bdS (x := qG0 a0 a1) h1
 refine cwS (cwR (
  .c (uM rfl)<|
  .c (uM rfl)<|
  .c (o_invD (fun o => o) rfl rfl .no rfl Try.func134 rfl rfl hm64_Get (qU3 hx0) (.cons rfl .d (.cons rfl .d .nil)) (by decide) (callIn0 ⟨trivial,trivial,trivial⟩) (.inl rfl))<|
  .c (uM rfl)<|
  .c (uE rfl)<|
  .c (uE rfl)<|
  .c (q30 0 rfl rfl .no ze46 rfl)<|
  .c (uS [] rfl sz46 rfl)<|
  .c (uA rfl)<|.nil rfl) ?_)
 refine cwS ?_
 refine cwS (cwR (
  .c (uM rfl)<|
  .c (uB rfl (qY2 _ _) rfl)<|.nil rfl) ?_)
 rcases cdS h2 with ⟨hc1,h3⟩ | ⟨hc1,h4⟩
 ·refine cwT rfl hc1 ?_
  have ⟨x1,hx1,h5⟩ := bdS (x := qH0 x0.2) h3
  refine cwS (cwR (
   .c (uM rfl)<|
   .c (q50 rfl rfl .no Try.func44 rfl rfl (qw2 hx1) (.cons rfl .d .nil) ⟨trivial,trivial⟩ (.inl rfl))<|
   .c (uA rfl)<|.nil rfl) ?_)
  have heq := ((sJ h5)).symm
  subst heq
  exact qu ⟨_,(show Leads _ _ (St.of [(4,.d (eErr x1))] []) from .w (wkF ⟨wD rfl,trivial⟩ trivial qx)),.inr rfl,_,res1 rfl rfl,rfl,rfl⟩
 refine cwF rfl hc1 ?_
 refine cwK ?_
 have ⟨x2,hx2,h6⟩ := bdS (x := ql3 a0 x0.1 ((List.replicate 24 0),false)) h4
 refine cwS (cwR (
  .c (uM rfl)<|
  .c (uL [] rfl ta46 rfl)<|
  .c (qg5 (ds := [eK (List.replicate 24 0),qM false]) rfl rfl .no zs115 rfl pl115 .nil)<|
  .c (q50 rfl rfl .no Try.func45 rfl rfl (tree_check_b_ok hx2) (.cons rfl .i (.cons rfl .d (.cons rfl .d .nil))) ⟨(by simp [AV.live]),trivial,trivial,trivial⟩ (.inl rfl))<|
  .c (uA rfl)<|.nil rfl) ?_)
 have heq := ((sJ h6)).symm
 subst heq
 exact qu ⟨_,(show Leads _ _ (St.of [(4,.d (eErr x2))] []) from .w (wkF ⟨wD rfl,trivial⟩ trivial qx)),.inr rfl,_,res1 rfl rfl,rfl,rfl⟩
theorem qr4 {self : ttM → ttN → (B8 × Bool) → Option (Int × ttM)} (self_ok : ∀ {a0 : ttM} {a1 : ttN} {a2 : (B8 × Bool)} {r : (Int × ttM)},self a0 a1 a2 = some r → FnOk Try.prog 45 [.ifc 24 (.ptr 0 0),.d (ql a1),.d (qa0 a2)] 1 (lk [(0,.own (qc a0))]) (fun rr oo => rr = .d (eErr r.1) ∧ oo = lk [(0,.own (qc r.2))])) {a0 : ttM} {a1 : ttN} {a2 : (B8 × Bool)} {r : (Int × ttM)} (h : qy1 self a0 a1 a2 = some r) : FnOk Try.prog 45 [.ifc 24 (.ptr 0 0),.d (ql a1),.d (qa0 a2)] 1 (lk [(0,.own (qc a0))]) (fun rr oo => rr = .d (eErr r.1) ∧ oo = lk [(0,.own (qc r.2))]) := by
 refine fnO Try.func45 rfl rfl (cwP ?_)
 unfold qy1 at h
 refine cwS (cwR (
  .c (uX 1 rfl)<|
  .c (uX 2 rfl)<|
  .c (uA rfl)<|.nil rfl) ?_)
 refine cwS ?_
 have ⟨x0,hx0,h0⟩ := bdS (x := qk1 a1) h
 refine cwS (cwR (
  .c (uL [] rfl ta46 rfl)<|
  .c (q50 rfl rfl .no Try.func66 rfl rfl (qT3 hx0) (.cons rfl .d .nil) ⟨trivial,trivial⟩ (.inl rfl))<|
  .c (uT rfl)<|.nil rfl) ?_)
 rcases cdS h0 with ⟨hc0,h1⟩ | ⟨hc0,h2⟩
 ·refine cwT rfl hc0 ?_
  refine cwS (cwR (
   .c (uA rfl)<|.nil rfl) ?_)
  have heq := ((sJ h1)).symm
  subst heq
  exact qu ⟨_,(show Leads _ _ (St.of [(6,.d (eErr 12))] [(0,.own (qc a0))]) from .w (wkF ⟨wD rfl,trivial⟩ ⟨.own rfl (.of_eq rfl (q9 _)),trivial⟩ (qw rfl))),.inr rfl,_,res1 rfl rfl,rfl,rfl⟩
 refine cwF rfl hc0 ?_
 refine cwK ?_
 refine cwS (cwR (
  .c (o_bldB (l := (List.replicate 24 0)) (r := (List.replicate 24 0)) rfl rfl .no ze31 ar31 sz5 .nil)<|
  .c (q30 3 rfl rfl .no ze31 rfl)<|
  .c (uS [] rfl sz31 rfl)<|.nil rfl) ?_)
 have ⟨o0,hj0,h3⟩ := bdS h2
 refine cwJ (fun (z : B8) => St.of [(0,.ifc 24 (.ptr 0 0)),(4,.ptr 1 0),(5,.ptr 2 0),(7,.ptr 3 0)] [(0,.own (qc a0)),(1,.box (.d (ql a1))),(2,.box (.d (qa0 a2))),(3,.box (.d (eK z)))]) (fun (z : B8) => o0 = z) ?_ ?_
 ·intro v0 hv0; subst hv0
  refine cwS ?_
  have ⟨o1,hj1,h4⟩ := bdS h3
  refine cwJ (fun (z : Bool) => St.of [(0,.ifc 24 (.ptr 0 0)),(4,.ptr 1 0),(5,.ptr 2 0),(47,.d (qM z))] [(0,.own (qc a0)),(1,.box (.d (ql a1))),(2,.box (.d (qa0 a2)))]) (fun (z : Bool) => o1 = z) ?_ ?_
  ·intro v1 hv1; subst hv1
   rcases cdS h4 with ⟨hc1,h5⟩ | ⟨hc1,h6⟩
   ·refine cwT rfl hc1 ?_
    refine cwS (cwR (
     .c (uA rfl)<|.nil rfl) ?_)
    have heq := ((sJ h5)).symm
    subst heq
    exact qu ⟨_,(show Leads _ _ (St.of [(6,.d (eErr 12))] [(0,.own (qc a0))]) from .w (wkF ⟨wD rfl,trivial⟩ ⟨.own rfl (.of_eq rfl (q9 _)),trivial⟩ (qw rfl))),.inr rfl,_,res1 rfl rfl,rfl,rfl⟩
   refine cwF rfl hc1 ?_
   refine cwK ?_
   have ⟨o2,hj2,h7⟩ := bdS h6
   refine cwJ (fun (z : ttM) => St.of [] [(0,.own (qc z))]) (fun (z : ttM) => o2 = (.inl z)) ?_ ?_
   ·intro v2 hv2; subst hv2
    simp only [Sum.elim_inl] at h7
    refine cwS (cwR (
     .c (uA rfl)<|.nil rfl) ?_)
    have heq := ((sJ h7)).symm
    subst heq
    exact qu ⟨_,(show Leads _ _ (St.of [(6,.d (eErr 0))] [(0,.own (qc v2))]) from .w (wkF ⟨wD rfl,trivial⟩ ⟨.own rfl (.of_eq rfl (q9 _)),trivial⟩ (qw rfl))),.inr rfl,_,res1 rfl rfl,rfl,rfl⟩
   refine cwS (cwR (
    .c (uF rfl qP rfl)<|
    .c (uL [2] rfl ta44 rfl)<|
    .c (qD (enc := qB) (xs := a1.2.2) rfl rfl .no rfl sl44)<|
    .c (uM rfl)<|.nil rfl) ?_)
   refine cwB ?_
   refine qJ (V := (Int × ttM)) (O := (ttM ⊕ (Int × ttM))) (fun (z : (Int × ttM)) => St.of [(0,.ifc 24 (.ptr 0 0)),(4,.ptr 1 0),(5,.ptr 2 0),(49,.d (qk0 a1.2.2)),(50,.d (eint (a1.2.2.length : Int))),(51,.d (eint z.1))] [(0,.own (qc z.2)),(1,.box (.d (ql a1))),(2,.box (.d (qa0 a2)))]) hj2 (.w (wkF ⟨⟨_,rfl,.ifc (.ptro rfl rfl)⟩,⟨_,rfl,.ptr rfl rfl⟩,⟨_,rfl,.ptr rfl rfl⟩,wD rfl,wD rfl,wD rfl,trivial⟩ ⟨.own rfl (.of_eq rfl (q9 _)),.box rfl (.d rfl),.box rfl (.d rfl),trivial⟩ (qw rfl))) ?_
   intro v3 x1 hb0 hx1
   refine cwS (cwR (
    .c (uB rfl (qp0 _ _) rfl)<|.nil rfl) ?_)
   refine cwS ?_
   rcases cdS hb0 with ⟨hc2,h8⟩ | ⟨hc2,h9⟩
   ·refine cwT rfl hc2 ?_
    refine cwK ?_
    refine cwS ?_
    refine cwB ?_
    have ⟨x2,hx2,h10⟩ := bdS h8
    have hx2g := qA hx2
    refine cwS (cwR (
     .c (uM rfl)<|
     .c (qb1 (enc := qB) (xs := a1.2.2) rfl rfl .no rfl rfl sl44 sz69 hx2g.1 hx2g.2)<|
     .c (o_ld rfl rfl .no rfl ta69 rfl rfl)<|
     .c (q30 4 rfl rfl .no ze69 rfl)<|
     .c (uA rfl)<|
     .c (uS [] rfl sz69 rfl)<|.nil rfl) ?_)
    have ⟨x3,hx3,h11⟩ := bdS (x := qF v3.2 x2.2) h10
    refine cwS (cwR (
     .c (uM rfl)<|
     .c (uF rfl qR1 rfl)<|
     .c (uL [1] rfl ta3 rfl)<|
     .c (o_inv (fun n => bif Nat.beq n 0 then 0 else 5) rfl rfl .no rfl Try.func23 rfl rfl rfl qi4 (qu0 hx3) (.cons rfl (.p rfl) (.cons rfl .d .nil)) (by decide) (qb3 [1] rfl ⟨(by simp [AV.live,AV.lives,lk,Nat.beq]),trivial,trivial⟩ ⟨⟨rfl,(OD.dat_live (q9 _))⟩,trivial⟩ rfl rfl rfl ⟨rfl,trivial⟩ rfl) (.inl rfl))<|
     .c (uM rfl)<|
     .c (uE rfl)<|
     .c (uE rfl)<|
     .c (q30 6 rfl rfl .no ze46 rfl)<|
     .c (uS [] rfl sz46 rfl)<|
     .c (uA rfl)<|.nil rfl) ?_)
    refine cwS ?_
    refine cwS (cwR (
     .c (uM rfl)<|
     .c (uB rfl (qY2 _ _) rfl)<|.nil rfl) ?_)
    rcases cdS h11 with ⟨hc3,h12⟩ | ⟨hc3,h13⟩
    ·refine cwT rfl hc3 ?_
     have ⟨x4,hx4,h14⟩ := bdS (x := qH0 x3.2.1) h12
     refine cwS (cwR (
      .c (uM rfl)<|
      .c (q50 rfl rfl .no Try.func44 rfl rfl (qw2 hx4) (.cons rfl .d .nil) ⟨trivial,trivial⟩ (.inl rfl))<|
      .c (uA rfl)<|.nil rfl) ?_)
     have he0 := ((hx1 _ (sJ h14)).symm).symm
     subst he0
     have heq := ((sJ h7)).symm
     subst heq
     exact qu ⟨_,(show Leads _ _ (St.of [(6,.d (eErr x4))] [(0,.own (qc x3.2.2))]) from .w (wkF ⟨wD rfl,trivial⟩ ⟨.own rfl (.of_eq rfl (q9 _)),trivial⟩ (qw rfl))),.inr rfl,_,res1 rfl rfl,rfl,rfl⟩
    refine cwF rfl hc3 ?_
    refine cwK ?_
    refine cwS (cwR (
     .c (uL [] rfl ta115 rfl)<|
     .c (q30 7 rfl rfl .no ze115 rfl)<|
     .c (uS [] rfl sz115 rfl)<|.nil rfl) ?_)
    have ⟨o3,hj3,h15⟩ := bdS h13
    refine cwJ (fun (z : (B8 × Bool)) => St.of [(0,.ifc 24 (.ptr 0 0)),(4,.ptr 1 0),(5,.ptr 2 0),(9,.ptr 4 0),(10,.ptr 6 0),(12,.ptr 7 0),(49,.d (qk0 a1.2.2)),(50,.d (eint (a1.2.2.length : Int))),(51,.d (eint v3.1))] [(0,.own (qc x3.2.2)),(1,.box (.d (ql a1))),(2,.box (.d (qa0 a2))),(4,.box (.d (qB x2))),(6,.box (.d (ql x3.1))),(7,.box (.d (qa0 z)))]) (fun (z : (B8 × Bool)) => o3 = z) ?_ ?_
    ·intro v4 hv3; subst hv3
     refine cwS ?_
     have ⟨o4,hj4,h16⟩ := bdS h15
     refine cwJ (fun (z : Bool) => St.of [(0,.ifc 24 (.ptr 0 0)),(4,.ptr 1 0),(5,.ptr 2 0),(10,.ptr 6 0),(12,.ptr 7 0),(49,.d (qk0 a1.2.2)),(50,.d (eint (a1.2.2.length : Int))),(51,.d (eint v3.1)),(98,.d (qM z))] [(0,.own (qc x3.2.2)),(1,.box (.d (ql a1))),(2,.box (.d (qa0 a2))),(6,.box (.d (ql x3.1))),(7,.box (.d (qa0 o3)))]) (fun (z : Bool) => o4 = z) ?_ ?_
     ·intro v5 hv4; subst hv4
      rcases cdS h16 with ⟨hc4,h17⟩ | ⟨hc4,h18⟩
      ·refine cwT rfl hc4 ?_
       refine cwS (cwR (
        .c (uA rfl)<|.nil rfl) ?_)
       have he1 := ((hx1 _ (sJ h17)).symm).symm
       subst he1
       have heq := ((sJ h7)).symm
       subst heq
       exact qu ⟨_,(show Leads _ _ (St.of [(6,.d (eErr 12))] [(0,.own (qc x3.2.2))]) from .w (wkF ⟨wD rfl,trivial⟩ ⟨.own rfl (.of_eq rfl (q9 _)),trivial⟩ (qw rfl))),.inr rfl,_,res1 rfl rfl,rfl,rfl⟩
      refine cwF rfl hc4 ?_
      refine cwK ?_
      have ⟨x5,hx5,h19⟩ := bdS (x := self x3.2.2 x3.1 o3) h18
      refine cwS (cwR (
       .c (uM rfl)<|
       .c (uL [] rfl ta46 rfl)<|
       .c (uL [] rfl ta115 rfl)<|
       .c (q00 (fun _ => 0) rfl rfl .no Try.func45 rfl rfl (self_ok hx5) (.cons rfl (.ip rfl) (.cons rfl .d (.cons rfl .d .nil))) (qc0 rfl ⟨(by simp [AV.live,lk,Nat.beq]),trivial,trivial,trivial⟩ rfl (OD.dat_live (q9 _)) (by simp)) (.inl rfl))<|
       .c (uA rfl)<|.nil rfl) ?_)
      refine cwS (cwR (
       .c (uM rfl)<|
       .c (uB rfl (qY2 _ _) rfl)<|.nil rfl) ?_)
      rcases cdS h19 with ⟨hc5,h20⟩ | ⟨hc5,h21⟩
      ·refine cwT rfl hc5 ?_
       refine cwS (cwR (
        .c (uM rfl)<|
        .c (uA rfl)<|.nil rfl) ?_)
       have he2 := ((hx1 _ (sJ h20)).symm).symm
       subst he2
       have heq := ((sJ h7)).symm
       subst heq
       exact qu ⟨_,(show Leads _ _ (St.of [(6,.d (eErr x5.1))] [(0,.own (qc x5.2))]) from .w (wkF ⟨wD rfl,trivial⟩ ⟨.own rfl (.of_eq rfl (q9 _)),trivial⟩ (qw rfl))),.inr rfl,_,res1 rfl rfl,rfl,rfl⟩
      refine cwF rfl hc5 ?_
      refine cwK ?_
      refine cwR (
       .c (uB rfl (qN0 _ _) rfl)<|
       .c (uM rfl)<|.nil rfl
      ) ?_
      exact ⟨((IntKind.wrap .i64 (v3.1 + 1)),x5.2),(sJ h21),.w (wkF ⟨⟨_,rfl,.ifc (.ptro rfl rfl)⟩,⟨_,rfl,.ptr rfl rfl⟩,⟨_,rfl,.ptr rfl rfl⟩,wD rfl,wD rfl,wD rfl,trivial⟩ ⟨.own rfl (.of_eq rfl (q9 _)),.box rfl (.d rfl),.box rfl (.d rfl),trivial⟩ (qw rfl))⟩
     rcases cdS hj4 with ⟨hc6,h22⟩ | ⟨hc6,h23⟩
     ·skip
      refine cwRA mixed (by kernel_rfl) (
       .c (uF rfl qH rfl)<|
       .c (uL [0] rfl ta3 rfl)<|
       .c (uF rfl qH rfl)<|
       .c (uL [0] rfl ta3 rfl)<|
       .c (uB rfl (qs2 _ _) rfl)<|
       .c (uB rfl (qY2 _ _) rfl)<|
       .c (uM rfl)<|
       .c (uN rfl rfl hc6)<|
       .c (uN rfl rfl hc6)<|
       .c (uN rfl rfl hc6)<|
       .c (uN rfl rfl hc6)<|
       .c (uN rfl rfl hc6)<|
       .c (uPT rfl hc6)<|
       .c (uM rfl)<|
       .c (uN rfl rfl rfl)<|
       .c (uN rfl rfl rfl)<|
       .c (uPT rfl rfl)<|.nil rfl) (by kernel_rfl) ?_
      exact ⟨true,(sJ h22),.w (wkF ⟨⟨_,rfl,.ifc (.ptro rfl rfl)⟩,⟨_,rfl,.ptr rfl rfl⟩,⟨_,rfl,.ptr rfl rfl⟩,⟨_,rfl,.ptr rfl rfl⟩,⟨_,rfl,.ptr rfl rfl⟩,wD rfl,wD rfl,wD rfl,wD rfl,trivial⟩ ⟨.own rfl (.of_eq rfl (q9 _)),.box rfl (.d rfl),.box rfl (.d rfl),.box rfl (.d rfl),.box rfl (.d rfl),trivial⟩ (qw rfl))⟩
     have ⟨x6,hx6,h24⟩ := bdS (x := qU0 x3.1) h23
     rcases cdS h24 with ⟨hc7,h25⟩ | ⟨hc7,h26⟩
     ·skip
      refine cwRA mixed (by kernel_rfl) (
       .c (uF rfl qH rfl)<|
       .c (uL [0] rfl ta3 rfl)<|
       .c (uF rfl qH rfl)<|
       .c (uL [0] rfl ta3 rfl)<|
       .c (uB rfl (qs2 _ _) rfl)<|
       .c (uB rfl (qY2 _ _) rfl)<|
       .c (uM rfl)<|
       .c (qp [] rfl rfl (.yes rfl rfl hc6) rfl rfl rfl ta46 rfl rfl)<|
       .c (q50 rfl rfl (.yes rfl rfl hc6) Try.func67 rfl rfl (qV2 hx6) (.cons rfl .d .nil) ⟨trivial,trivial⟩ (.inl rfl))<|
       .c (qh rfl rfl (.yes rfl rfl hc6) rfl q71 (by decide))<|
       .c (qp [0] rfl rfl (.yes rfl rfl hc6) rfl rfl rfl ta31 rfl rfl)<|
       .c (o_ne rfl rfl (.yes rfl rfl hc6) rfl rfl rfl rfl eg31 (.bs ar31 un5 sz5))<|
       .c (uPF rfl hc6)<|
       .c (uM rfl)<|
       .c (uN rfl rfl hc7)<|
       .c (uN rfl rfl hc7)<|
       .c (uPT rfl hc7)<|.nil rfl) (by kernel_rfl) ?_
      exact ⟨true,(sJ h25),.w (wkF ⟨⟨_,rfl,.ifc (.ptro rfl rfl)⟩,⟨_,rfl,.ptr rfl rfl⟩,⟨_,rfl,.ptr rfl rfl⟩,⟨_,rfl,.ptr rfl rfl⟩,⟨_,rfl,.ptr rfl rfl⟩,wD rfl,wD rfl,wD rfl,wD rfl,trivial⟩ ⟨.own rfl (.of_eq rfl (q9 _)),.box rfl (.d rfl),.box rfl (.d rfl),.box rfl (.d rfl),.box rfl (.d rfl),trivial⟩ (qw rfl))⟩
     have ⟨x7,hx7,h27⟩ := bdS (x := qm3 x3.1) h26
     refine cwRA mixed (by kernel_rfl) (
      .c (uF rfl qH rfl)<|
      .c (uL [0] rfl ta3 rfl)<|
      .c (uF rfl qH rfl)<|
      .c (uL [0] rfl ta3 rfl)<|
      .c (uB rfl (qs2 _ _) rfl)<|
      .c (uB rfl (qY2 _ _) rfl)<|
      .c (uM rfl)<|
      .c (qp [] rfl rfl (.yes rfl rfl hc6) rfl rfl rfl ta46 rfl rfl)<|
      .c (q50 rfl rfl (.yes rfl rfl hc6) Try.func67 rfl rfl (qV2 hx6) (.cons rfl .d .nil) ⟨trivial,trivial⟩ (.inl rfl))<|
      .c (qh rfl rfl (.yes rfl rfl hc6) rfl q71 (by decide))<|
      .c (qp [0] rfl rfl (.yes rfl rfl hc6) rfl rfl rfl ta31 rfl rfl)<|
      .c (o_ne rfl rfl (.yes rfl rfl hc6) rfl rfl rfl rfl eg31 (.bs ar31 un5 sz5))<|
      .c (uPF rfl hc6)<|
      .c (uM rfl)<|
      .c (qp [] rfl rfl (.yes rfl rfl hc7) rfl rfl rfl ta46 rfl rfl)<|
      .c (q50 rfl rfl (.yes rfl rfl hc7) Try.func68 rfl rfl (tree_few_ok hx7) (.cons rfl .d .nil) ⟨trivial,trivial⟩ (.inl rfl))<|
      .c (uPF rfl hc7)<|.nil rfl) (by kernel_rfl) ?_
     exact ⟨x7,(sJ h27),.w (wkF ⟨⟨_,rfl,.ifc (.ptro rfl rfl)⟩,⟨_,rfl,.ptr rfl rfl⟩,⟨_,rfl,.ptr rfl rfl⟩,⟨_,rfl,.ptr rfl rfl⟩,⟨_,rfl,.ptr rfl rfl⟩,wD rfl,wD rfl,wD rfl,wD rfl,trivial⟩ ⟨.own rfl (.of_eq rfl (q9 _)),.box rfl (.d rfl),.box rfl (.d rfl),.box rfl (.d rfl),.box rfl (.d rfl),trivial⟩ (qw rfl))⟩
    refine cwS (cwR (
     .c (uM rfl)<|
     .c (uB rfl (qN0 _ _) rfl)<|
     .c (uF rfl qP rfl)<|
     .c (uL [2] rfl ta44 rfl)<|
     .c (qD (enc := qB) (xs := a1.2.2) rfl rfl .no rfl sl44)<|
     .c (uB rfl (qp0 _ _) rfl)<|.nil rfl) ?_)
    rcases cdS hj3 with ⟨hc8,h28⟩ | ⟨hc8,h29⟩
    ·refine cwT rfl hc8 ?_
     have ⟨x8,hx8,h30⟩ := bdS h28
     have hx8g := qA hx8
     refine cwR (
      .c (uF rfl qP rfl)<|
      .c (uL [2] rfl ta44 rfl)<|
      .c (uM rfl)<|
      .c (uB rfl (qN0 _ _) rfl)<|
      .c (qb1 (enc := qB) (xs := a1.2.2) rfl rfl .no rfl rfl sl44 sz69 hx8g.1 hx8g.2)<|
      .c (ql1 rfl rfl .no rfl q71 (by decide) rfl rfl)<|
      .c (o_ld rfl rfl .no rfl ta31 rfl rfl)<|
      .c (qg5 (ds := [eK x8.1,qM true]) rfl rfl .no zs115 rfl pl115 (.cons rfl rfl rfl rfl rfl rfl rfl (.cons rfl rfl rfl rfl rfl rfl rfl .nil)))<|
      .c (uS [] rfl sz115 rfl)<|.nil rfl
     ) ?_
     exact ⟨(x8.1,true),(sJ h30),.w (wkF ⟨⟨_,rfl,.ifc (.ptro rfl rfl)⟩,⟨_,rfl,.ptr rfl rfl⟩,⟨_,rfl,.ptr rfl rfl⟩,⟨_,rfl,.ptr rfl rfl⟩,⟨_,rfl,.ptr rfl rfl⟩,⟨_,rfl,.ptr rfl rfl⟩,wD rfl,wD rfl,wD rfl,trivial⟩ ⟨.own rfl (.of_eq rfl (q9 _)),.box rfl (.d rfl),.box rfl (.d rfl),.box rfl (.d rfl),.box rfl (.d rfl),.box rfl (.d rfl),trivial⟩ (qw rfl))⟩
    refine cwF rfl hc8 ?_
    refine cwK ?_
    exact ⟨a2,(sJ h29),.w (wkF ⟨⟨_,rfl,.ifc (.ptro rfl rfl)⟩,⟨_,rfl,.ptr rfl rfl⟩,⟨_,rfl,.ptr rfl rfl⟩,⟨_,rfl,.ptr rfl rfl⟩,⟨_,rfl,.ptr rfl rfl⟩,⟨_,rfl,.ptr rfl rfl⟩,wD rfl,wD rfl,wD rfl,trivial⟩ ⟨.own rfl (.of_eq rfl (q9 _)),.box rfl (.d rfl),.box rfl (.d rfl),.box rfl (.d rfl),.box rfl (.d rfl),.box rfl (.d rfl),trivial⟩ (qw rfl))⟩
   refine cwF rfl hc2 ?_
   refine qT ?_
   exact ⟨v3.2,(hx1 _ (sJ h9)).symm,.w (wkF trivial ⟨.own rfl (.of_eq rfl (q9 _)),trivial⟩ (qw rfl))⟩
  rcases cdS hj1 with ⟨hc9,h31⟩ | ⟨hc9,h32⟩
  ·skip
   have ⟨x9,hx9,h33⟩ := bdS (x := qv o0 a2.1) h31
   refine cwR (
    .c (uF rfl fld115_1 rfl)<|
    .c (uL [1] rfl ta4 rfl)<|
    .c (uM rfl)<|
    .c (qp [] rfl rfl (.yes rfl rfl hc9) rfl rfl rfl ta31 rfl rfl)<|
    .c (qh rfl rfl (.yes rfl rfl hc9) rfl fld115_0 (by decide))<|
    .c (qp [0] rfl rfl (.yes rfl rfl hc9) rfl rfl rfl ta31 rfl rfl)<|
    .c (q50 rfl rfl (.yes rfl rfl hc9) Try.func43 rfl rfl (qd0 hx9) (.cons rfl .d (.cons rfl .d .nil)) ⟨trivial,trivial,trivial⟩ (.inl rfl))<|
    .c (qi rfl rfl (.yes rfl rfl hc9) rfl rfl (b_geq _ _) rfl)<|
    .c (uPT rfl hc9)<|.nil rfl
   ) ?_
   exact ⟨(decide (x9 ≥ 0)),(sJ h33),.w (wkF ⟨⟨_,rfl,.ifc (.ptro rfl rfl)⟩,⟨_,rfl,.ptr rfl rfl⟩,⟨_,rfl,.ptr rfl rfl⟩,wD rfl,trivial⟩ ⟨.own rfl (.of_eq rfl (q9 _)),.box rfl (.d rfl),.box rfl (.d rfl),trivial⟩ (qw rfl))⟩
  refine cwR (
   .c (uF rfl fld115_1 rfl)<|
   .c (uL [1] rfl ta4 rfl)<|
   .c (uM rfl)<|
   .c (uN rfl rfl hc9)<|
   .c (uN rfl rfl hc9)<|
   .c (uN rfl rfl hc9)<|
   .c (uN rfl rfl hc9)<|
   .c (uN rfl rfl hc9)<|
   .c (uPF rfl hc9)<|.nil rfl
  ) ?_
  exact ⟨false,(sJ h32),.w (wkF ⟨⟨_,rfl,.ifc (.ptro rfl rfl)⟩,⟨_,rfl,.ptr rfl rfl⟩,⟨_,rfl,.ptr rfl rfl⟩,wD rfl,trivial⟩ ⟨.own rfl (.of_eq rfl (q9 _)),.box rfl (.d rfl),.box rfl (.d rfl),trivial⟩ (qw rfl))⟩
 refine cwS (cwR (
  .c (uF rfl qH rfl)<|
  .c (uL [0] rfl ta3 rfl)<|
  .c (uB rfl (q80 _ _) rfl)<|.nil rfl) ?_)
 rcases cdS hj0 with ⟨hc10,h34⟩ | ⟨hc10,h35⟩
 ·refine cwT rfl hc10 ?_
  have ⟨x10,hx10,h36⟩ := bdS h34
  have hx10g := qA hx10
  refine cwR (
   .c (uF rfl qg0 rfl)<|
   .c (uL [1] rfl ta34 rfl)<|
   .c (uF rfl qg0 rfl)<|
   .c (uL [1] rfl ta34 rfl)<|
   .c (qD (enc := ePr) (xs := a1.2.1) rfl rfl .no rfl sl34)<|
   .c (uB rfl (qs2 _ _) rfl)<|
   .c (qb1 (enc := ePr) (xs := a1.2.1) rfl rfl .no rfl rfl sl34 sz52 hx10g.1 hx10g.2)<|
   .c (ql1 rfl rfl .no rfl q93 (by decide) rfl rfl)<|
   .c (o_ld rfl rfl .no rfl ta31 rfl rfl)<|
   .c (uS [] rfl sz31 rfl)<|.nil rfl
  ) ?_
  exact ⟨x10.1,(sJ h36),.w (wkF ⟨⟨_,rfl,.ifc (.ptro rfl rfl)⟩,⟨_,rfl,.ptr rfl rfl⟩,⟨_,rfl,.ptr rfl rfl⟩,⟨_,rfl,.ptr rfl rfl⟩,trivial⟩ ⟨.own rfl (.of_eq rfl (q9 _)),.box rfl (.d rfl),.box rfl (.d rfl),.box rfl (.d rfl),trivial⟩ (qw rfl))⟩
 refine cwF rfl hc10 ?_
 have ⟨x11,hx11,h37⟩ := bdS h35
 have hx11g := qA hx11
 refine cwR (
  .c (uF rfl qP rfl)<|
  .c (uL [2] rfl ta44 rfl)<|
  .c (uF rfl qP rfl)<|
  .c (uL [2] rfl ta44 rfl)<|
  .c (qD (enc := qB) (xs := a1.2.2) rfl rfl .no rfl sl44)<|
  .c (uB rfl (qs2 _ _) rfl)<|
  .c (qb1 (enc := qB) (xs := a1.2.2) rfl rfl .no rfl rfl sl44 sz69 hx11g.1 hx11g.2)<|
  .c (ql1 rfl rfl .no rfl q71 (by decide) rfl rfl)<|
  .c (o_ld rfl rfl .no rfl ta31 rfl rfl)<|
  .c (uS [] rfl sz31 rfl)<|.nil rfl
 ) ?_
 exact ⟨x11.1,(sJ h37),.w (wkF ⟨⟨_,rfl,.ifc (.ptro rfl rfl)⟩,⟨_,rfl,.ptr rfl rfl⟩,⟨_,rfl,.ptr rfl rfl⟩,⟨_,rfl,.ptr rfl rfl⟩,trivial⟩ ⟨.own rfl (.of_eq rfl (q9 _)),.box rfl (.d rfl),.box rfl (.d rfl),.box rfl (.d rfl),trivial⟩ (qw rfl))⟩
theorem qx3 : ∀ (n : Nat) {a0 : ttM} {a1 : ttN} {a2 : (B8 × Bool)} {r : (Int × ttM)},qs1 n a0 a1 a2 = some r → FnOk Try.prog 45 [.ifc 24 (.ptr 0 0),.d (ql a1),.d (qa0 a2)] 1 (lk [(0,.own (qc a0))]) (fun rr oo => rr = .d (eErr r.1) ∧ oo = lk [(0,.own (qc r.2))])
 | 0,_,_,_,_,h => nomatch h
 | n + 1,_,_,_,_,h => qr4 (self := qs1 n) (fun h => qx3 n h) h
theorem tree_check_o_ok {a0 : ttM} {a1 : ttN} {a2 : (B8 × Bool)} {r : (Int × ttM)} (h : qi3 a0 a1 a2 = some r) : FnOk Try.prog 45 [.ifc 24 (.ptr 0 0),.d (ql a1),.d (qa0 a2)] 1 (lk [(0,.own (qc a0))]) (fun rr oo => rr = .d (eErr r.1) ∧ oo = lk [(0,.own (qc r.2))]) := qx3 16 h
theorem qd2 {a0 : ttM} {a1 : Int} {r : (Int × ttM)} (h : q82 a0 a1 = some r) : FnOk Try.prog 22 [.ifc 24 (.ptr 0 0),.d (eint a1)] 1 (lk [(0,.own (qc a0))]) (fun rr oo => rr = .d (eErr r.1) ∧ oo = lk [(0,.own (qc r.2))]) := by
 refine fnO Try.func22 rfl rfl (cwP ?_)
 unfold q82 at h
 refine cwS (cwR (
  .c (uA rfl)<|.nil rfl) ?_)
 refine cwS ?_
 refine cwS (cwR (
  .c (uM rfl)<|
  .c (uB rfl (q80 _ _) rfl)<|.nil rfl) ?_)
 rcases cdS h with ⟨hc0,h0⟩ | ⟨hc0,h1⟩
 ·refine cwT rfl hc0 ?_
  refine cwS (cwR (
   .c (uA rfl)<|.nil rfl) ?_)
  have heq := ((sJ h0)).symm
  subst heq
  exact qu ⟨_,(show Leads _ _ (St.of [(4,.d (eErr 0))] [(0,.own (qc a0))]) from .w (wkF ⟨wD rfl,trivial⟩ ⟨.own rfl (.of_eq rfl (q9 _)),trivial⟩ (qw rfl))),.inr rfl,_,res1 rfl rfl,rfl,rfl⟩
 refine cwF rfl hc0 ?_
 refine cwK ?_
 have ⟨x0,hx0,h2⟩ := bdS (x := qF a0 a1) h1
 refine cwS (cwR (
  .c (uM rfl)<|
  .c (uM rfl)<|
  .c (o_inv (fun n => bif Nat.beq n 0 then 0 else 1) rfl rfl .no rfl Try.func23 rfl rfl rfl qi4 (qu0 hx0) (.cons rfl (.p rfl) (.cons rfl .d .nil)) (by decide) (qb3 [1] rfl ⟨(by simp [AV.live,AV.lives,lk,Nat.beq]),trivial,trivial⟩ ⟨⟨rfl,(OD.dat_live (q9 _))⟩,trivial⟩ rfl rfl rfl ⟨rfl,trivial⟩ rfl) (.inl rfl))<|
  .c (uM rfl)<|
  .c (uE rfl)<|
  .c (uE rfl)<|
  .c (q30 2 rfl rfl .no ze46 rfl)<|
  .c (uS [] rfl sz46 rfl)<|
  .c (uA rfl)<|.nil rfl) ?_)
 refine cwS ?_
 refine cwS (cwR (
  .c (uM rfl)<|
  .c (uB rfl (qY2 _ _) rfl)<|.nil rfl) ?_)
 rcases cdS h2 with ⟨hc1,h3⟩ | ⟨hc1,h4⟩
 ·refine cwT rfl hc1 ?_
  have ⟨x1,hx1,h5⟩ := bdS (x := qH0 x0.2.1) h3
  refine cwS (cwR (
   .c (uM rfl)<|
   .c (q50 rfl rfl .no Try.func44 rfl rfl (qw2 hx1) (.cons rfl .d .nil) ⟨trivial,trivial⟩ (.inl rfl))<|
   .c (uA rfl)<|.nil rfl) ?_)
  have heq := ((sJ h5)).symm
  subst heq
  exact qu ⟨_,(show Leads _ _ (St.of [(4,.d (eErr x1))] [(0,.own (qc x0.2.2))]) from .w (wkF ⟨wD rfl,trivial⟩ ⟨.own rfl (.of_eq rfl (q9 _)),trivial⟩ (qw rfl))),.inr rfl,_,res1 rfl rfl,rfl,rfl⟩
 refine cwF rfl hc1 ?_
 refine cwK ?_
 have ⟨x2,hx2,h6⟩ := bdS (x := qi3 x0.2.2 x0.1 ((List.replicate 24 0),false)) h4
 refine cwS (cwR (
  .c (uM rfl)<|
  .c (uL [] rfl ta46 rfl)<|
  .c (qg5 (ds := [eK (List.replicate 24 0),qM false]) rfl rfl .no zs115 rfl pl115 .nil)<|
  .c (q00 (fun _ => 0) rfl rfl .no Try.func45 rfl rfl (tree_check_o_ok hx2) (.cons rfl (.ip rfl) (.cons rfl .d (.cons rfl .d .nil))) (qc0 rfl ⟨(by simp [AV.live,lk,Nat.beq]),trivial,trivial,trivial⟩ rfl (OD.dat_live (q9 _)) (by simp)) (.inl rfl))<|
  .c (uA rfl)<|.nil rfl) ?_)
 have heq := ((sJ h6)).symm
 subst heq
 exact qu ⟨_,(show Leads _ _ (St.of [(4,.d (eErr x2.1))] [(0,.own (qc x2.2))]) from .w (wkF ⟨wD rfl,trivial⟩ ⟨.own rfl (.of_eq rfl (q9 _)),trivial⟩ (qw rfl))),.inr rfl,_,res1 rfl rfl,rfl,rfl⟩
theorem qS2 {a0 : List UInt8} {a1 : List UInt8} {r : Bool} (h : qy0 a0 a1 = some r) : FnOk Try.prog 30 [.d (eK a0),.d (eK a1)] 0 (lk []) (fun rr oo => rr = .d (qM r) ∧ oo = lk []) := by
 refine fnO Try.func30 rfl rfl (cwP ?_)
 unfold qy0 at h
 refine cwS (cwR (
  .c (uX 0 rfl)<|
  .c (uX 1 rfl)<|
  .c (uA rfl)<|.nil rfl) ?_)
 have ⟨o0,hj0,h0⟩ := bdS h
 refine cwJ (fun (z : Unit) => St.of [] []) (fun (z : Unit) => o0 = (.inl z)) ?_ ?_
 ·intro v0 hv0; subst hv0
  simp only [Sum.elim_inl] at h0
  refine cwS (cwR (
   .c (uA rfl)<|.nil rfl) ?_)
  have heq := ((sJ h0)).symm
  subst heq
  exact qu ⟨_,(show Leads _ _ (St.of [(4,.d (qM false))] []) from .w (wkF ⟨wD rfl,trivial⟩ trivial qx)),.inr rfl,_,res1 rfl rfl,rfl,rfl⟩
 refine cwS (cwR (
  .c (uA rfl)<|.nil rfl) ?_)
 refine cwB ?_
 refine qJ (V := Int) (O := (Unit ⊕ Bool)) (fun (z : Int) => St.of [(2,.ptr 0 0),(3,.ptr 1 0),(5,.d (eint z))] [(0,.box (.d (eK a0))),(1,.box (.d (eK a1)))]) hj0 (.w (wkF ⟨⟨_,rfl,.ptr rfl rfl⟩,⟨_,rfl,.ptr rfl rfl⟩,wD rfl,trivial⟩ ⟨.box rfl (.d rfl),.box rfl (.d rfl),trivial⟩ qx)) ?_
 intro v1 x0 hb0 hx0
 refine cwS ?_
 refine cwS (cwR (
  .c (uM rfl)<|
  .c (uB rfl (qp0 _ _) rfl)<|.nil rfl) ?_)
 rcases cdS hb0 with ⟨hc0,h1⟩ | ⟨hc0,h2⟩
 ·refine cwT rfl hc0 ?_
  refine cwK ?_
  refine cwS ?_
  refine cwB ?_
  have ⟨x1,hx1,h3⟩ := bdS h1
  have hx1g := qb5 hx1
  have ⟨x2,hx2,h4⟩ := bdS h3
  have hx2g := qA hx2
  have ⟨x3,hx3,h5⟩ := bdS h4
  have hx3g := qA hx3
  refine cwS (cwRA mixed (by kernel_rfl) (
   .c (uM rfl)<|
   .c (o_ixP rfl rfl .no rfl rfl ar31 sz5 hx1g)<|
   .c (o_ldB (l := a0) [] rfl rfl .no rfl rfl rfl hx2g.2 ta5)<|
   .c (uM rfl)<|
   .c (o_ixP rfl rfl .no rfl rfl ar31 sz5 hx1g)<|
   .c (o_ldB (l := a1) [] rfl rfl .no rfl rfl rfl hx3g.2 ta5)<|
   .c (uB rfl (qY2 _ _) rfl)<|.nil rfl) (by kernel_rfl) ?_)
  rcases cdS h5 with ⟨hc1,h6⟩ | ⟨hc1,h7⟩
  ·refine cwT rfl hc1 ?_
   refine cwS (cwRA mixed (by kernel_rfl) (
    .c (uM rfl)<|
    .c (o_ixP rfl rfl .no rfl rfl ar31 sz5 hx1g)<|
    .c (o_ldB (l := a0) [] rfl rfl .no rfl rfl rfl hx2g.2 ta5)<|
    .c (uM rfl)<|
    .c (o_ixP rfl rfl .no rfl rfl ar31 sz5 hx1g)<|
    .c (o_ldB (l := a1) [] rfl rfl .no rfl rfl rfl hx3g.2 ta5)<|
    .c (uB rfl (qp0 _ _) rfl)<|
    .c (uA rfl)<|.nil rfl) (by kernel_rfl) ?_)
   have he0 := ((hx0 _ (sJ h6)).symm).symm
   subst he0
   have heq := ((sJ h0)).symm
   subst heq
   exact qu ⟨_,(show Leads _ _ (St.of [(4,.d (qM (decide ((x2.toNat : Int) < (x3.toNat : Int)))))] []) from .w (wkF ⟨wD rfl,trivial⟩ trivial qx)),.inr rfl,_,res1 rfl rfl,rfl,rfl⟩
  refine cwF rfl hc1 ?_
  refine cwK ?_
  refine cwR (
   .c (uM rfl)<|
   .c (uB rfl (qN0 _ _) rfl)<|
   .c (uA rfl)<|.nil rfl
  ) ?_
  exact ⟨(IntKind.wrap .i64 (v1 + 1)),(sJ h7),.w (wkF ⟨⟨_,rfl,.ptr rfl rfl⟩,⟨_,rfl,.ptr rfl rfl⟩,wD rfl,trivial⟩ ⟨.box rfl (.d rfl),.box rfl (.d rfl),trivial⟩ qx)⟩
 refine cwF rfl hc0 ?_
 refine qT ?_
 exact ⟨(),(hx0 _ (sJ h2)).symm,.w (wkF trivial trivial qx)⟩
theorem ref05_Right_ok {a0 : ttN} {r : Bool} (h : qy2 a0 = some r) : FnOk Try.prog 73 [.d (ql a0)] 0 (lk []) (fun rr oo => rr = .d (qM r) ∧ oo = lk []) := by
 refine fnO Try.func73 rfl rfl (cwP ?_)
 unfold qy2 at h
 refine cwS (cwR (
  .c (uX 0 rfl)<|
  .c (uA rfl)<|.nil rfl) ?_)
 refine cwS ?_
 have ⟨o0,hj0,h0⟩ := bdS h
 refine cwJ (fun (z : Bool) => St.of [(1,.ptr 0 0),(13,.d (qM z))] [(0,.box (.d (ql a0)))]) (fun (z : Bool) => o0 = z) ?_ ?_
 ·intro v0 hv0; subst hv0
  rcases cdS h0 with ⟨hc0,h1⟩ | ⟨hc0,h2⟩
  ·refine cwT rfl hc0 ?_
   refine cwS (cwR (
    .c (uA rfl)<|.nil rfl) ?_)
   have heq := ((sJ h1)).symm
   subst heq
   exact qu ⟨_,(show Leads _ _ (St.of [(2,.d (qM false))] []) from .w (wkF ⟨wD rfl,trivial⟩ trivial qx)),.inr rfl,_,res1 rfl rfl,rfl,rfl⟩
  refine cwF rfl hc0 ?_
  refine cwK ?_
  refine cwS ?_
  have ⟨o1,hj1,h3⟩ := bdS h2
  refine cwJ (fun (z : Bool) => St.of [(1,.ptr 0 0),(57,.d (qM z))] [(0,.box (.d (ql a0)))]) (fun (z : Bool) => o1 = z) ?_ ?_
  ·intro v1 hv1; subst hv1
   rcases cdS h3 with ⟨hc1,h4⟩ | ⟨hc1,h5⟩
   ·refine cwT rfl hc1 ?_
    refine cwS (cwR (
     .c (uA rfl)<|.nil rfl) ?_)
    have heq := ((sJ h4)).symm
    subst heq
    exact qu ⟨_,(show Leads _ _ (St.of [(2,.d (qM false))] []) from .w (wkF ⟨wD rfl,trivial⟩ trivial qx)),.inr rfl,_,res1 rfl rfl,rfl,rfl⟩
   refine cwF rfl hc1 ?_
   refine cwK ?_
   have ⟨o2,hj2,h6⟩ := bdS h5
   refine cwJ (fun (z : Unit) => St.of [(1,.ptr 0 0)] [(0,.box (.d (ql a0)))]) (fun (z : Unit) => o2 = (.inl z)) ?_ ?_
   ·intro v2 hv2; subst hv2
    simp only [Sum.elim_inl] at h6
    have ⟨o3,hj3,h7⟩ := bdS h6
    refine cwJ (fun (z : Unit) => St.of [] []) (fun (z : Unit) => o3 = (.inl z)) ?_ ?_
    ·intro v3 hv3; subst hv3
     simp only [Sum.elim_inl] at h7
     refine cwS (cwR (
      .c (uA rfl)<|.nil rfl) ?_)
     have heq := ((sJ h7)).symm
     subst heq
     exact qu ⟨_,(show Leads _ _ (St.of [(2,.d (qM true))] []) from .w (wkF ⟨wD rfl,trivial⟩ trivial qx)),.inr rfl,_,res1 rfl rfl,rfl,rfl⟩
    refine cwS (cwR (
     .c (uA rfl)<|.nil rfl) ?_)
    refine cwB ?_
    refine qJ (V := Int) (O := (Unit ⊕ Bool)) (fun (z : Int) => St.of [(1,.ptr 0 0),(4,.d (eint z))] [(0,.box (.d (ql a0)))]) hj3 (.w (wkF ⟨⟨_,rfl,.ptr rfl rfl⟩,wD rfl,trivial⟩ ⟨.box rfl (.d rfl),trivial⟩ qx)) ?_
    intro v4 x0 hb0 hx0
    refine cwS ?_
    refine cwS (cwR (
     .c (uM rfl)<|
     .c (uF rfl qP rfl)<|
     .c (uL [2] rfl ta44 rfl)<|
     .c (qD (enc := qB) (xs := a0.2.2) rfl rfl .no rfl sl44)<|
     .c (uB rfl (qp0 _ _) rfl)<|.nil rfl) ?_)
    rcases cdS hb0 with ⟨hc2,h8⟩ | ⟨hc2,h9⟩
    ·refine cwT rfl hc2 ?_
     refine cwK ?_
     have ⟨o4,hj4,h10⟩ := bdS h8
     refine cwJ (fun (z : Unit) => St.of [(1,.ptr 0 0),(4,.d (eint v4))] [(0,.box (.d (ql a0)))]) (fun (z : Unit) => o4 = (.inl z)) ?_ ?_
     ·intro v5 hv4; subst hv4
      simp only [Sum.elim_inl] at h10
      refine cwR (
       .c (uM rfl)<|
       .c (uB rfl (qN0 _ _) rfl)<|
       .c (uA rfl)<|.nil rfl
      ) ?_
      exact ⟨(IntKind.wrap .i64 (v4 + 1)),(sJ h10),.w (wkF ⟨⟨_,rfl,.ptr rfl rfl⟩,wD rfl,trivial⟩ ⟨.box rfl (.d rfl),trivial⟩ qx)⟩
     refine cwB ?_
     refine cwS ?_
     have ⟨o5,hj5,h11⟩ := bdS hj4
     refine cwJ (fun (z : Bool) => St.of [(1,.ptr 0 0),(4,.d (eint v4)),(114,.d (qM z))] [(0,.box (.d (ql a0)))]) (fun (z : Bool) => o5 = z) ?_ ?_
     ·intro v6 hv5; subst hv5
      rcases cdS h11 with ⟨hc3,h12⟩ | ⟨hc3,h13⟩
      ·refine cwT rfl hc3 ?_
       refine cwS (cwR (
        .c (uA rfl)<|.nil rfl) ?_)
       have he0 := ((sJ h12)).symm
       subst he0
       have he1 := ((hx0 _ (sJ h10)).symm).symm
       subst he1
       have heq := ((sJ h7)).symm
       subst heq
       exact qu ⟨_,(show Leads _ _ (St.of [(2,.d (qM false))] []) from .w (wkF ⟨wD rfl,trivial⟩ trivial qx)),.inr rfl,_,res1 rfl rfl,rfl,rfl⟩
      refine cwF rfl hc3 ?_
      refine cwK ?_
      refine cwS ?_
      have ⟨o6,hj6,h14⟩ := bdS h13
      refine cwJ (fun (z : Bool) => St.of [(1,.ptr 0 0),(4,.d (eint v4)),(133,.d (qM z))] [(0,.box (.d (ql a0)))]) (fun (z : Bool) => o6 = z) ?_ ?_
      ·intro v7 hv6; subst hv6
       rcases cdS h14 with ⟨hc4,h15⟩ | ⟨hc4,h16⟩
       ·refine cwT rfl hc4 ?_
        refine cwS (cwR (
         .c (uA rfl)<|.nil rfl) ?_)
        have he2 := ((sJ h15)).symm
        subst he2
        have he3 := ((hx0 _ (sJ h10)).symm).symm
        subst he3
        have heq := ((sJ h7)).symm
        subst heq
        exact qu ⟨_,(show Leads _ _ (St.of [(2,.d (qM false))] []) from .w (wkF ⟨wD rfl,trivial⟩ trivial qx)),.inr rfl,_,res1 rfl rfl,rfl,rfl⟩
       refine cwF rfl hc4 ?_
       refine cwK ?_
       refine cwS (cwR (
        .c (uA rfl)<|.nil rfl) ?_)
       refine cwB ?_
       refine qJ (V := Int) (O := (Unit ⊕ Bool)) (fun (z : Int) => St.of [(1,.ptr 0 0),(4,.d (eint v4)),(5,.d (eint z))] [(0,.box (.d (ql a0)))]) h16 (.w (wkF ⟨⟨_,rfl,.ptr rfl rfl⟩,wD rfl,wD rfl,trivial⟩ ⟨.box rfl (.d rfl),trivial⟩ qx)) ?_
       intro v8 x1 hb1 hx1
       refine cwS ?_
       refine cwS (cwR (
        .c (uM rfl)<|
        .c (uM rfl)<|
        .c (uB rfl (qp0 _ _) rfl)<|.nil rfl) ?_)
       rcases cdS hb1 with ⟨hc5,h17⟩ | ⟨hc5,h18⟩
       ·refine cwT rfl hc5 ?_
        refine cwK ?_
        refine cwS ?_
        refine cwB ?_
        have ⟨x2,hx2,h19⟩ := bdS h17
        have hx2g := qA hx2
        have ⟨x3,hx3,h20⟩ := bdS h19
        have hx3g := qA hx3
        refine cwS (cwRA mixed (by kernel_rfl) (
         .c (uF rfl qP rfl)<|
         .c (uL [2] rfl ta44 rfl)<|
         .c (uM rfl)<|
         .c (qb1 (enc := qB) (xs := a0.2.2) rfl rfl .no rfl rfl sl44 sz69 hx2g.1 hx2g.2)<|
         .c (ql1 rfl rfl .no rfl qR1 (by decide) rfl rfl)<|
         .c (o_ld rfl rfl .no rfl ta3 rfl rfl)<|
         .c (uF rfl qP rfl)<|
         .c (uL [2] rfl ta44 rfl)<|
         .c (uM rfl)<|
         .c (qb1 (enc := qB) (xs := a0.2.2) rfl rfl .no rfl rfl sl44 sz69 hx3g.1 hx3g.2)<|
         .c (ql1 rfl rfl .no rfl qR1 (by decide) rfl rfl)<|
         .c (o_ld rfl rfl .no rfl ta3 rfl rfl)<|
         .c (uB rfl (q80 _ _) rfl)<|.nil rfl) (by kernel_rfl) ?_)
        rcases cdS h20 with ⟨hc6,h21⟩ | ⟨hc6,h22⟩
        ·refine cwT rfl hc6 ?_
         refine cwS (cwR (
          .c (uA rfl)<|.nil rfl) ?_)
         have he4 := ((hx1 _ (sJ h21)).symm).symm
         subst he4
         have he5 := ((hx0 _ (sJ h10)).symm).symm
         subst he5
         have heq := ((sJ h7)).symm
         subst heq
         exact qu ⟨_,(show Leads _ _ (St.of [(2,.d (qM false))] []) from .w (wkF ⟨wD rfl,trivial⟩ trivial qx)),.inr rfl,_,res1 rfl rfl,rfl,rfl⟩
        refine cwF rfl hc6 ?_
        refine cwK ?_
        refine cwR (
         .c (uM rfl)<|
         .c (uB rfl (qN0 _ _) rfl)<|
         .c (uA rfl)<|.nil rfl
        ) ?_
        exact ⟨(IntKind.wrap .i64 (v8 + 1)),(sJ h22),.w (wkF ⟨⟨_,rfl,.ptr rfl rfl⟩,wD rfl,wD rfl,trivial⟩ ⟨.box rfl (.d rfl),trivial⟩ qx)⟩
       refine cwF rfl hc5 ?_
       refine qT ?_
       exact ⟨(),(hx1 _ (sJ h18)).symm,.w (wkF ⟨⟨_,rfl,.ptr rfl rfl⟩,wD rfl,trivial⟩ ⟨.box rfl (.d rfl),trivial⟩ qx)⟩
      rcases cdS hj6 with ⟨hc7,h23⟩ | ⟨hc7,h24⟩
      ·skip
       have ⟨x4,hx4,h25⟩ := bdS h23
       have hx4g := qA hx4
       have ⟨x5,hx5,h26⟩ := bdS h25
       have hx5g := qA hx5
       have ⟨x6,hx6,h27⟩ := bdS (x := qy0 x4.1 x5.1) h26
       refine cwRA mixed (by kernel_rfl) (
        .c (uM rfl)<|
        .c (uB rfl (qd1 _ _) rfl)<|
        .c (uM rfl)<|
        .c (qh rfl rfl (.yes rfl rfl hc7) rfl qP (by decide))<|
        .c (qp [2] rfl rfl (.yes rfl rfl hc7) rfl rfl rfl ta44 rfl rfl)<|
        .c (o_mv rfl rfl (.yes rfl rfl hc7) rfl)<|
        .c (qi rfl rfl (.yes rfl rfl hc7) rfl rfl (qs2 _ _) rfl)<|
        .c (qb1 (enc := qB) (xs := a0.2.2) rfl rfl (.yes rfl rfl hc7) rfl rfl sl44 sz69 hx4g.1 hx4g.2)<|
        .c (ql1 rfl rfl (.yes rfl rfl hc7) rfl q71 (by decide) rfl rfl)<|
        .c (o_ld rfl rfl (.yes rfl rfl hc7) rfl ta31 rfl rfl)<|
        .c (qh rfl rfl (.yes rfl rfl hc7) rfl qP (by decide))<|
        .c (qp [2] rfl rfl (.yes rfl rfl hc7) rfl rfl rfl ta44 rfl rfl)<|
        .c (o_mv rfl rfl (.yes rfl rfl hc7) rfl)<|
        .c (qb1 (enc := qB) (xs := a0.2.2) rfl rfl (.yes rfl rfl hc7) rfl rfl sl44 sz69 hx5g.1 hx5g.2)<|
        .c (ql1 rfl rfl (.yes rfl rfl hc7) rfl q71 (by decide) rfl rfl)<|
        .c (o_ld rfl rfl (.yes rfl rfl hc7) rfl ta31 rfl rfl)<|
        .c (q50 rfl rfl (.yes rfl rfl hc7) Try.func30 rfl rfl (qS2 hx6) (.cons rfl .d (.cons rfl .d .nil)) ⟨trivial,trivial,trivial⟩ (.inl rfl))<|
        .c (qZ2 rfl rfl (.yes rfl rfl hc7) rfl)<|
        .c (uPT rfl hc7)<|.nil rfl) (by kernel_rfl) ?_
       exact ⟨(!x6),(sJ h27),.w (wkF ⟨⟨_,rfl,.ptr rfl rfl⟩,wD rfl,wD rfl,trivial⟩ ⟨.box rfl (.d rfl),trivial⟩ qx)⟩
      refine cwRA mixed (by kernel_rfl) (
       .c (uM rfl)<|
       .c (uB rfl (qd1 _ _) rfl)<|
       .c (uM rfl)<|
       .c (uN rfl rfl hc7)<|
       .c (uN rfl rfl hc7)<|
       .c (uN rfl rfl hc7)<|
       .c (uN rfl rfl hc7)<|
       .c (uN rfl rfl hc7)<|
       .c (uN rfl rfl hc7)<|
       .c (uN rfl rfl hc7)<|
       .c (uN rfl rfl hc7)<|
       .c (uN rfl rfl hc7)<|
       .c (uN rfl rfl hc7)<|
       .c (uN rfl rfl hc7)<|
       .c (uN rfl rfl hc7)<|
       .c (uN rfl rfl hc7)<|
       .c (uN rfl rfl hc7)<|
       .c (uN rfl rfl hc7)<|
       .c (uPF rfl hc7)<|.nil rfl) (by kernel_rfl) ?_
      exact ⟨false,(sJ h24),.w (wkF ⟨⟨_,rfl,.ptr rfl rfl⟩,wD rfl,wD rfl,trivial⟩ ⟨.box rfl (.d rfl),trivial⟩ qx)⟩
     have ⟨x7,hx7,h28⟩ := bdS hj5
     have hx7g := qA hx7
     rcases cdS h28 with ⟨hc8,h29⟩ | ⟨hc8,h30⟩
     ·skip
      refine cwR (
       .c (uF rfl qP rfl)<|
       .c (uL [2] rfl ta44 rfl)<|
       .c (uM rfl)<|
       .c (qb1 (enc := qB) (xs := a0.2.2) rfl rfl .no rfl rfl sl44 sz69 hx7g.1 hx7g.2)<|
       .c (ql1 rfl rfl .no rfl qR1 (by decide) rfl rfl)<|
       .c (o_ld rfl rfl .no rfl ta3 rfl rfl)<|
       .c (uB rfl (qp0 _ _) rfl)<|
       .c (uM rfl)<|
       .c (uN rfl rfl hc8)<|
       .c (uN rfl rfl hc8)<|
       .c (uN rfl rfl hc8)<|
       .c (uN rfl rfl hc8)<|
       .c (uN rfl rfl hc8)<|
       .c (uN rfl rfl hc8)<|
       .c (uN rfl rfl hc8)<|
       .c (uPT rfl hc8)<|.nil rfl
      ) ?_
      exact ⟨true,(sJ h29),.w (wkF ⟨⟨_,rfl,.ptr rfl rfl⟩,wD rfl,wD rfl,trivial⟩ ⟨.box rfl (.d rfl),trivial⟩ qx)⟩
     refine cwR (
      .c (uF rfl qP rfl)<|
      .c (uL [2] rfl ta44 rfl)<|
      .c (uM rfl)<|
      .c (qb1 (enc := qB) (xs := a0.2.2) rfl rfl .no rfl rfl sl44 sz69 hx7g.1 hx7g.2)<|
      .c (ql1 rfl rfl .no rfl qR1 (by decide) rfl rfl)<|
      .c (o_ld rfl rfl .no rfl ta3 rfl rfl)<|
      .c (uB rfl (qp0 _ _) rfl)<|
      .c (uM rfl)<|
      .c (qh rfl rfl (.yes rfl rfl hc8) rfl qP (by decide))<|
      .c (qp [2] rfl rfl (.yes rfl rfl hc8) rfl rfl rfl ta44 rfl rfl)<|
      .c (o_mv rfl rfl (.yes rfl rfl hc8) rfl)<|
      .c (qb1 (enc := qB) (xs := a0.2.2) rfl rfl (.yes rfl rfl hc8) rfl rfl sl44 sz69 hx7g.1 hx7g.2)<|
      .c (ql1 rfl rfl (.yes rfl rfl hc8) rfl qR1 (by decide) rfl rfl)<|
      .c (o_ld rfl rfl (.yes rfl rfl hc8) rfl ta3 rfl rfl)<|
      .c (qi rfl rfl (.yes rfl rfl hc8) rfl rfl (qd1 _ _) rfl)<|
      .c (uPF rfl hc8)<|.nil rfl
     ) ?_
     exact ⟨(decide (x7.2 > 4294967295)),(sJ h30),.w (wkF ⟨⟨_,rfl,.ptr rfl rfl⟩,wD rfl,wD rfl,trivial⟩ ⟨.box rfl (.d rfl),trivial⟩ qx)⟩
    refine cwF rfl hc2 ?_
    refine qT ?_
    exact ⟨(),(hx0 _ (sJ h9)).symm,.w (wkF trivial trivial qx)⟩
   refine cwS (cwR (
    .c (uA rfl)<|.nil rfl) ?_)
   refine cwB ?_
   refine qJ (V := Int) (O := (Unit ⊕ Bool)) (fun (z : Int) => St.of [(1,.ptr 0 0),(3,.d (eint z))] [(0,.box (.d (ql a0)))]) hj2 (.w (wkF ⟨⟨_,rfl,.ptr rfl rfl⟩,wD rfl,trivial⟩ ⟨.box rfl (.d rfl),trivial⟩ qx)) ?_
   intro v9 x8 hb2 hx8
   refine cwS ?_
   refine cwS (cwR (
    .c (uM rfl)<|
    .c (uF rfl qg0 rfl)<|
    .c (uL [1] rfl ta34 rfl)<|
    .c (qD (enc := ePr) (xs := a0.2.1) rfl rfl .no rfl sl34)<|
    .c (uB rfl (qp0 _ _) rfl)<|.nil rfl) ?_)
   rcases cdS hb2 with ⟨hc9,h31⟩ | ⟨hc9,h32⟩
   ·refine cwT rfl hc9 ?_
    refine cwK ?_
    refine cwS ?_
    refine cwB ?_
    refine cwS ?_
    have ⟨x9,hx9,h33⟩ := bdS h31
    have hx9g := qA hx9
    refine cwS (cwR (
     .c (uF rfl qg0 rfl)<|
     .c (uL [1] rfl ta34 rfl)<|
     .c (uM rfl)<|
     .c (qb1 (enc := ePr) (xs := a0.2.1) rfl rfl .no rfl rfl sl34 sz52 hx9g.1 hx9g.2)<|
     .c (ql1 rfl rfl .no rfl fld52_1 (by decide) rfl rfl)<|
     .c (o_ld rfl rfl .no rfl ta9 rfl rfl)<|
     .c (o_lenS rfl rfl .no rfl un9)<|
     .c (uB rfl (qd1 _ _) rfl)<|.nil rfl) ?_)
    rcases cdS h33 with ⟨hc10,h34⟩ | ⟨hc10,h35⟩
    ·refine cwT rfl hc10 ?_
     refine cwS (cwR (
      .c (uA rfl)<|.nil rfl) ?_)
     have he6 := ((hx8 _ (sJ h34)).symm).symm
     subst he6
     have heq := ((sJ h6)).symm
     subst heq
     exact qu ⟨_,(show Leads _ _ (St.of [(2,.d (qM false))] []) from .w (wkF ⟨wD rfl,trivial⟩ trivial qx)),.inr rfl,_,res1 rfl rfl,rfl,rfl⟩
    refine cwF rfl hc10 ?_
    refine cwK ?_
    have ⟨o7,hj7,h36⟩ := bdS h35
    refine cwJ (fun (z : Bool) => St.of [(1,.ptr 0 0),(3,.d (eint v9)),(91,.d (qM z))] [(0,.box (.d (ql a0)))]) (fun (z : Bool) => o7 = z) ?_ ?_
    ·intro v10 hv7; subst hv7
     rcases cdS h36 with ⟨hc11,h37⟩ | ⟨hc11,h38⟩
     ·refine cwT rfl hc11 ?_
      refine cwS (cwR (
       .c (uA rfl)<|.nil rfl) ?_)
      have he7 := ((hx8 _ (sJ h37)).symm).symm
      subst he7
      have heq := ((sJ h6)).symm
      subst heq
      exact qu ⟨_,(show Leads _ _ (St.of [(2,.d (qM false))] []) from .w (wkF ⟨wD rfl,trivial⟩ trivial qx)),.inr rfl,_,res1 rfl rfl,rfl,rfl⟩
     refine cwF rfl hc11 ?_
     refine cwK ?_
     refine cwR (
      .c (uM rfl)<|
      .c (uB rfl (qN0 _ _) rfl)<|
      .c (uA rfl)<|.nil rfl
     ) ?_
     exact ⟨(IntKind.wrap .i64 (v9 + 1)),(sJ h38),.w (wkF ⟨⟨_,rfl,.ptr rfl rfl⟩,wD rfl,trivial⟩ ⟨.box rfl (.d rfl),trivial⟩ qx)⟩
    rcases cdS hj7 with ⟨hc12,h39⟩ | ⟨hc12,h40⟩
    ·skip
     have ⟨x10,hx10,h41⟩ := bdS h39
     have hx10g := qA hx10
     have ⟨x11,hx11,h42⟩ := bdS (x := qy0 x10.1 x9.1) h41
     refine cwRA mixed (by kernel_rfl) (
      .c (uM rfl)<|
      .c (uB rfl (qd1 _ _) rfl)<|
      .c (uM rfl)<|
      .c (qh rfl rfl (.yes rfl rfl hc12) rfl qg0 (by decide))<|
      .c (qp [1] rfl rfl (.yes rfl rfl hc12) rfl rfl rfl ta34 rfl rfl)<|
      .c (o_mv rfl rfl (.yes rfl rfl hc12) rfl)<|
      .c (qi rfl rfl (.yes rfl rfl hc12) rfl rfl (qs2 _ _) rfl)<|
      .c (qb1 (enc := ePr) (xs := a0.2.1) rfl rfl (.yes rfl rfl hc12) rfl rfl sl34 sz52 hx10g.1 hx10g.2)<|
      .c (ql1 rfl rfl (.yes rfl rfl hc12) rfl q93 (by decide) rfl rfl)<|
      .c (o_ld rfl rfl (.yes rfl rfl hc12) rfl ta31 rfl rfl)<|
      .c (qh rfl rfl (.yes rfl rfl hc12) rfl qg0 (by decide))<|
      .c (qp [1] rfl rfl (.yes rfl rfl hc12) rfl rfl rfl ta34 rfl rfl)<|
      .c (o_mv rfl rfl (.yes rfl rfl hc12) rfl)<|
      .c (qb1 (enc := ePr) (xs := a0.2.1) rfl rfl (.yes rfl rfl hc12) rfl rfl sl34 sz52 hx9g.1 hx9g.2)<|
      .c (ql1 rfl rfl (.yes rfl rfl hc12) rfl q93 (by decide) rfl rfl)<|
      .c (o_ld rfl rfl (.yes rfl rfl hc12) rfl ta31 rfl rfl)<|
      .c (q50 rfl rfl (.yes rfl rfl hc12) Try.func30 rfl rfl (qS2 hx11) (.cons rfl .d (.cons rfl .d .nil)) ⟨trivial,trivial,trivial⟩ (.inl rfl))<|
      .c (qZ2 rfl rfl (.yes rfl rfl hc12) rfl)<|
      .c (uPT rfl hc12)<|.nil rfl) (by kernel_rfl) ?_
     exact ⟨(!x11),(sJ h42),.w (wkF ⟨⟨_,rfl,.ptr rfl rfl⟩,wD rfl,wD rfl,trivial⟩ ⟨.box rfl (.d rfl),trivial⟩ qx)⟩
    refine cwRA mixed (by kernel_rfl) (
     .c (uM rfl)<|
     .c (uB rfl (qd1 _ _) rfl)<|
     .c (uM rfl)<|
     .c (uN rfl rfl hc12)<|
     .c (uN rfl rfl hc12)<|
     .c (uN rfl rfl hc12)<|
     .c (uN rfl rfl hc12)<|
     .c (uN rfl rfl hc12)<|
     .c (uN rfl rfl hc12)<|
     .c (uN rfl rfl hc12)<|
     .c (uN rfl rfl hc12)<|
     .c (uN rfl rfl hc12)<|
     .c (uN rfl rfl hc12)<|
     .c (uN rfl rfl hc12)<|
     .c (uN rfl rfl hc12)<|
     .c (uN rfl rfl hc12)<|
     .c (uN rfl rfl hc12)<|
     .c (uN rfl rfl hc12)<|
     .c (uPF rfl hc12)<|.nil rfl) (by kernel_rfl) ?_
    exact ⟨false,(sJ h40),.w (wkF ⟨⟨_,rfl,.ptr rfl rfl⟩,wD rfl,wD rfl,trivial⟩ ⟨.box rfl (.d rfl),trivial⟩ qx)⟩
   refine cwF rfl hc9 ?_
   refine qT ?_
   exact ⟨(),(hx8 _ (sJ h32)).symm,.w (wkF ⟨⟨_,rfl,.ptr rfl rfl⟩,trivial⟩ ⟨.box rfl (.d rfl),trivial⟩ qx)⟩
  rcases cdS hj1 with ⟨hc13,h43⟩ | ⟨hc13,h44⟩
  ·skip
   rcases cdS h43 with ⟨hc14,h45⟩ | ⟨hc14,h46⟩
   ·skip
    refine cwR (
     .c (uF rfl qH rfl)<|
     .c (uL [0] rfl ta3 rfl)<|
     .c (uB rfl (q80 _ _) rfl)<|
     .c (uM rfl)<|
     .c (qh rfl rfl (.yes rfl rfl hc13) rfl qg0 (by decide))<|
     .c (qp [1] rfl rfl (.yes rfl rfl hc13) rfl rfl rfl ta34 rfl rfl)<|
     .c (qD (enc := ePr) (xs := a0.2.1) rfl rfl (.yes rfl rfl hc13) rfl sl34)<|
     .c (qi rfl rfl (.yes rfl rfl hc13) rfl rfl (qp0 _ _) rfl)<|
     .c (o_mv rfl rfl (.yes rfl rfl hc13) rfl)<|
     .c (uN rfl rfl hc14)<|
     .c (uN rfl rfl hc14)<|
     .c (uN rfl rfl hc14)<|
     .c (uN rfl rfl hc14)<|
     .c (qg rfl rfl (.yes rfl rfl hc13) rfl hc14 rfl)<|
     .c (o_mv rfl rfl (.yes rfl rfl hc13) rfl)<|
     .c (uN rfl rfl rfl)<|
     .c (uN rfl rfl rfl)<|
     .c (uN rfl rfl rfl)<|
     .c (uN rfl rfl rfl)<|
     .c (qg rfl rfl (.yes rfl rfl hc13) rfl rfl rfl)<|
     .c (uPT rfl hc13)<|
     .c (uM rfl)<|
     .c (uN rfl rfl rfl)<|
     .c (uN rfl rfl rfl)<|
     .c (uN rfl rfl rfl)<|
     .c (uN rfl rfl rfl)<|
     .c (q40 rfl rfl rfl rfl)<|
     .c (q40 rfl rfl rfl rfl)<|
     .c (q40 rfl rfl rfl rfl)<|
     .c (q40 rfl rfl rfl rfl)<|
     .c (q40 rfl rfl rfl rfl)<|
     .c (q40 rfl rfl rfl rfl)<|
     .c (q40 rfl rfl rfl rfl)<|
     .c (q40 rfl rfl rfl rfl)<|
     .c (q40 rfl rfl rfl rfl)<|
     .c (q40 rfl rfl rfl rfl)<|
     .c (q40 rfl rfl rfl rfl)<|
     .c (q40 rfl rfl rfl rfl)<|
     .c (q40 rfl rfl rfl rfl)<|
     .c (q40 rfl rfl rfl rfl)<|
     .c (q40 rfl rfl rfl rfl)<|
     .c (q40 rfl rfl rfl rfl)<|
     .c (uN rfl rfl rfl)<|
     .c (uPT rfl rfl)<|.nil rfl
    ) ?_
    exact ⟨true,(sJ h45),.w (wkF ⟨⟨_,rfl,.ptr rfl rfl⟩,wD rfl,trivial⟩ ⟨.box rfl (.d rfl),trivial⟩ qx)⟩
   rcases cdS h46 with ⟨hc15,h47⟩ | ⟨hc15,h48⟩
   ·skip
    refine cwR (
     .c (uF rfl qH rfl)<|
     .c (uL [0] rfl ta3 rfl)<|
     .c (uB rfl (q80 _ _) rfl)<|
     .c (uM rfl)<|
     .c (qh rfl rfl (.yes rfl rfl hc13) rfl qg0 (by decide))<|
     .c (qp [1] rfl rfl (.yes rfl rfl hc13) rfl rfl rfl ta34 rfl rfl)<|
     .c (qD (enc := ePr) (xs := a0.2.1) rfl rfl (.yes rfl rfl hc13) rfl sl34)<|
     .c (qi rfl rfl (.yes rfl rfl hc13) rfl rfl (qp0 _ _) rfl)<|
     .c (o_mv rfl rfl (.yes rfl rfl hc13) rfl)<|
     .c (qh rfl rfl (.yes rfl rfl hc14) rfl qg0 (by decide))<|
     .c (qp [1] rfl rfl (.yes rfl rfl hc14) rfl rfl rfl ta34 rfl rfl)<|
     .c (qD (enc := ePr) (xs := a0.2.1) rfl rfl (.yes rfl rfl hc14) rfl sl34)<|
     .c (qi rfl rfl (.yes rfl rfl hc14) rfl rfl (qd1 _ _) rfl)<|
     .c (qf rfl rfl (.yes rfl rfl hc13) rfl hc14 rfl)<|
     .c (o_mv rfl rfl (.yes rfl rfl hc13) rfl)<|
     .c (uN rfl rfl hc15)<|
     .c (uN rfl rfl hc15)<|
     .c (uN rfl rfl hc15)<|
     .c (uN rfl rfl hc15)<|
     .c (qg rfl rfl (.yes rfl rfl hc13) rfl hc15 rfl)<|
     .c (uPT rfl hc13)<|
     .c (uM rfl)<|
     .c (uN rfl rfl rfl)<|
     .c (uN rfl rfl rfl)<|
     .c (uN rfl rfl rfl)<|
     .c (uN rfl rfl rfl)<|
     .c (q40 rfl rfl rfl rfl)<|
     .c (q40 rfl rfl rfl rfl)<|
     .c (q40 rfl rfl rfl rfl)<|
     .c (q40 rfl rfl rfl rfl)<|
     .c (q40 rfl rfl rfl rfl)<|
     .c (q40 rfl rfl rfl rfl)<|
     .c (q40 rfl rfl rfl rfl)<|
     .c (q40 rfl rfl rfl rfl)<|
     .c (q40 rfl rfl rfl rfl)<|
     .c (q40 rfl rfl rfl rfl)<|
     .c (q40 rfl rfl rfl rfl)<|
     .c (q40 rfl rfl rfl rfl)<|
     .c (q40 rfl rfl rfl rfl)<|
     .c (q40 rfl rfl rfl rfl)<|
     .c (q40 rfl rfl rfl rfl)<|
     .c (q40 rfl rfl rfl rfl)<|
     .c (uN rfl rfl rfl)<|
     .c (uPT rfl rfl)<|.nil rfl
    ) ?_
    exact ⟨true,(sJ h47),.w (wkF ⟨⟨_,rfl,.ptr rfl rfl⟩,wD rfl,trivial⟩ ⟨.box rfl (.d rfl),trivial⟩ qx)⟩
   rcases cdS h48 with ⟨hc16,h49⟩ | ⟨hc16,h50⟩
   ·skip
    refine cwR (
     .c (uF rfl qH rfl)<|
     .c (uL [0] rfl ta3 rfl)<|
     .c (uB rfl (q80 _ _) rfl)<|
     .c (uM rfl)<|
     .c (qh rfl rfl (.yes rfl rfl hc13) rfl qg0 (by decide))<|
     .c (qp [1] rfl rfl (.yes rfl rfl hc13) rfl rfl rfl ta34 rfl rfl)<|
     .c (qD (enc := ePr) (xs := a0.2.1) rfl rfl (.yes rfl rfl hc13) rfl sl34)<|
     .c (qi rfl rfl (.yes rfl rfl hc13) rfl rfl (qp0 _ _) rfl)<|
     .c (o_mv rfl rfl (.yes rfl rfl hc13) rfl)<|
     .c (qh rfl rfl (.yes rfl rfl hc14) rfl qg0 (by decide))<|
     .c (qp [1] rfl rfl (.yes rfl rfl hc14) rfl rfl rfl ta34 rfl rfl)<|
     .c (qD (enc := ePr) (xs := a0.2.1) rfl rfl (.yes rfl rfl hc14) rfl sl34)<|
     .c (qi rfl rfl (.yes rfl rfl hc14) rfl rfl (qd1 _ _) rfl)<|
     .c (qf rfl rfl (.yes rfl rfl hc13) rfl hc14 rfl)<|
     .c (o_mv rfl rfl (.yes rfl rfl hc13) rfl)<|
     .c (qh rfl rfl (.yes rfl rfl hc15) rfl qP (by decide))<|
     .c (qp [2] rfl rfl (.yes rfl rfl hc15) rfl rfl rfl ta44 rfl rfl)<|
     .c (qD (enc := qB) (xs := a0.2.2) rfl rfl (.yes rfl rfl hc15) rfl sl44)<|
     .c (qi rfl rfl (.yes rfl rfl hc15) rfl rfl (qd1 _ _) rfl)<|
     .c (qf rfl rfl (.yes rfl rfl hc13) rfl hc15 rfl)<|
     .c (uPT rfl hc13)<|
     .c (uM rfl)<|
     .c (uN rfl rfl hc16)<|
     .c (uN rfl rfl hc16)<|
     .c (uN rfl rfl hc16)<|
     .c (uN rfl rfl hc16)<|
     .c (q40 rfl rfl rfl rfl)<|
     .c (q40 rfl rfl rfl rfl)<|
     .c (q40 rfl rfl rfl rfl)<|
     .c (q40 rfl rfl rfl rfl)<|
     .c (q40 rfl rfl rfl rfl)<|
     .c (q40 rfl rfl rfl rfl)<|
     .c (q40 rfl rfl rfl rfl)<|
     .c (q40 rfl rfl rfl rfl)<|
     .c (q40 rfl rfl rfl rfl)<|
     .c (q40 rfl rfl rfl rfl)<|
     .c (q40 rfl rfl rfl rfl)<|
     .c (q40 rfl rfl rfl rfl)<|
     .c (q40 rfl rfl rfl rfl)<|
     .c (q40 rfl rfl rfl rfl)<|
     .c (q40 rfl rfl rfl rfl)<|
     .c (q40 rfl rfl rfl rfl)<|
     .c (uN rfl rfl hc16)<|
     .c (uPT rfl hc16)<|.nil rfl
    ) ?_
    exact ⟨true,(sJ h49),.w (wkF ⟨⟨_,rfl,.ptr rfl rfl⟩,wD rfl,trivial⟩ ⟨.box rfl (.d rfl),trivial⟩ qx)⟩
   rcases cdS h50 with ⟨hc17,h51⟩ | ⟨hc17,h52⟩
   ·skip
    rcases cdS h51 with ⟨hc18,h53⟩ | ⟨hc18,h54⟩
    ·skip
     refine cwR (
      .c (uF rfl qH rfl)<|
      .c (uL [0] rfl ta3 rfl)<|
      .c (uB rfl (q80 _ _) rfl)<|
      .c (uM rfl)<|
      .c (qh rfl rfl (.yes rfl rfl hc13) rfl qg0 (by decide))<|
      .c (qp [1] rfl rfl (.yes rfl rfl hc13) rfl rfl rfl ta34 rfl rfl)<|
      .c (qD (enc := ePr) (xs := a0.2.1) rfl rfl (.yes rfl rfl hc13) rfl sl34)<|
      .c (qi rfl rfl (.yes rfl rfl hc13) rfl rfl (qp0 _ _) rfl)<|
      .c (o_mv rfl rfl (.yes rfl rfl hc13) rfl)<|
      .c (qh rfl rfl (.yes rfl rfl hc14) rfl qg0 (by decide))<|
      .c (qp [1] rfl rfl (.yes rfl rfl hc14) rfl rfl rfl ta34 rfl rfl)<|
      .c (qD (enc := ePr) (xs := a0.2.1) rfl rfl (.yes rfl rfl hc14) rfl sl34)<|
      .c (qi rfl rfl (.yes rfl rfl hc14) rfl rfl (qd1 _ _) rfl)<|
      .c (qf rfl rfl (.yes rfl rfl hc13) rfl hc14 rfl)<|
      .c (o_mv rfl rfl (.yes rfl rfl hc13) rfl)<|
      .c (qh rfl rfl (.yes rfl rfl hc15) rfl qP (by decide))<|
      .c (qp [2] rfl rfl (.yes rfl rfl hc15) rfl rfl rfl ta44 rfl rfl)<|
      .c (qD (enc := qB) (xs := a0.2.2) rfl rfl (.yes rfl rfl hc15) rfl sl44)<|
      .c (qi rfl rfl (.yes rfl rfl hc15) rfl rfl (qd1 _ _) rfl)<|
      .c (qf rfl rfl (.yes rfl rfl hc13) rfl hc15 rfl)<|
      .c (uPT rfl hc13)<|
      .c (uM rfl)<|
      .c (qh rfl rfl (.yes rfl rfl hc16) rfl qH (by decide))<|
      .c (qp [0] rfl rfl (.yes rfl rfl hc16) rfl rfl rfl ta3 rfl rfl)<|
      .c (qi rfl rfl (.yes rfl rfl hc16) rfl rfl (qd1 _ _) rfl)<|
      .c (o_mv rfl rfl (.yes rfl rfl hc16) rfl)<|
      .c (qh rfl rfl (.yes rfl rfl hc17) rfl qP (by decide))<|
      .c (qp [2] rfl rfl (.yes rfl rfl hc17) rfl rfl rfl ta44 rfl rfl)<|
      .c (qD (enc := qB) (xs := a0.2.2) rfl rfl (.yes rfl rfl hc17) rfl sl44)<|
      .c (qi rfl rfl (.yes rfl rfl hc17) rfl rfl (qp0 _ _) rfl)<|
      .c (o_mv rfl rfl (.yes rfl rfl hc17) rfl)<|
      .c (uN rfl rfl hc18)<|
      .c (uN rfl rfl hc18)<|
      .c (uN rfl rfl hc18)<|
      .c (uN rfl rfl hc18)<|
      .c (qg rfl rfl (.yes rfl rfl hc17) rfl hc18 rfl)<|
      .c (o_mv rfl rfl (.yes rfl rfl hc17) rfl)<|
      .c (uN rfl rfl rfl)<|
      .c (uN rfl rfl rfl)<|
      .c (uN rfl rfl rfl)<|
      .c (uN rfl rfl rfl)<|
      .c (qg rfl rfl (.yes rfl rfl hc17) rfl rfl rfl)<|
      .c (qg rfl rfl (.yes rfl rfl hc16) rfl hc17 rfl)<|
      .c (uPF rfl hc16)<|.nil rfl
     ) ?_
     exact ⟨true,(sJ h53),.w (wkF ⟨⟨_,rfl,.ptr rfl rfl⟩,wD rfl,trivial⟩ ⟨.box rfl (.d rfl),trivial⟩ qx)⟩
    rcases cdS h54 with ⟨hc19,h55⟩ | ⟨hc19,h56⟩
    ·skip
     refine cwR (
      .c (uF rfl qH rfl)<|
      .c (uL [0] rfl ta3 rfl)<|
      .c (uB rfl (q80 _ _) rfl)<|
      .c (uM rfl)<|
      .c (qh rfl rfl (.yes rfl rfl hc13) rfl qg0 (by decide))<|
      .c (qp [1] rfl rfl (.yes rfl rfl hc13) rfl rfl rfl ta34 rfl rfl)<|
      .c (qD (enc := ePr) (xs := a0.2.1) rfl rfl (.yes rfl rfl hc13) rfl sl34)<|
      .c (qi rfl rfl (.yes rfl rfl hc13) rfl rfl (qp0 _ _) rfl)<|
      .c (o_mv rfl rfl (.yes rfl rfl hc13) rfl)<|
      .c (qh rfl rfl (.yes rfl rfl hc14) rfl qg0 (by decide))<|
      .c (qp [1] rfl rfl (.yes rfl rfl hc14) rfl rfl rfl ta34 rfl rfl)<|
      .c (qD (enc := ePr) (xs := a0.2.1) rfl rfl (.yes rfl rfl hc14) rfl sl34)<|
      .c (qi rfl rfl (.yes rfl rfl hc14) rfl rfl (qd1 _ _) rfl)<|
      .c (qf rfl rfl (.yes rfl rfl hc13) rfl hc14 rfl)<|
      .c (o_mv rfl rfl (.yes rfl rfl hc13) rfl)<|
      .c (qh rfl rfl (.yes rfl rfl hc15) rfl qP (by decide))<|
      .c (qp [2] rfl rfl (.yes rfl rfl hc15) rfl rfl rfl ta44 rfl rfl)<|
      .c (qD (enc := qB) (xs := a0.2.2) rfl rfl (.yes rfl rfl hc15) rfl sl44)<|
      .c (qi rfl rfl (.yes rfl rfl hc15) rfl rfl (qd1 _ _) rfl)<|
      .c (qf rfl rfl (.yes rfl rfl hc13) rfl hc15 rfl)<|
      .c (uPT rfl hc13)<|
      .c (uM rfl)<|
      .c (qh rfl rfl (.yes rfl rfl hc16) rfl qH (by decide))<|
      .c (qp [0] rfl rfl (.yes rfl rfl hc16) rfl rfl rfl ta3 rfl rfl)<|
      .c (qi rfl rfl (.yes rfl rfl hc16) rfl rfl (qd1 _ _) rfl)<|
      .c (o_mv rfl rfl (.yes rfl rfl hc16) rfl)<|
      .c (qh rfl rfl (.yes rfl rfl hc17) rfl qP (by decide))<|
      .c (qp [2] rfl rfl (.yes rfl rfl hc17) rfl rfl rfl ta44 rfl rfl)<|
      .c (qD (enc := qB) (xs := a0.2.2) rfl rfl (.yes rfl rfl hc17) rfl sl44)<|
      .c (qi rfl rfl (.yes rfl rfl hc17) rfl rfl (qp0 _ _) rfl)<|
      .c (o_mv rfl rfl (.yes rfl rfl hc17) rfl)<|
      .c (qh rfl rfl (.yes rfl rfl hc18) rfl qP (by decide))<|
      .c (qp [2] rfl rfl (.yes rfl rfl hc18) rfl rfl rfl ta44 rfl rfl)<|
      .c (qD (enc := qB) (xs := a0.2.2) rfl rfl (.yes rfl rfl hc18) rfl sl44)<|
      .c (qi rfl rfl (.yes rfl rfl hc18) rfl rfl (qd1 _ _) rfl)<|
      .c (qf rfl rfl (.yes rfl rfl hc17) rfl hc18 rfl)<|
      .c (o_mv rfl rfl (.yes rfl rfl hc17) rfl)<|
      .c (uN rfl rfl hc19)<|
      .c (uN rfl rfl hc19)<|
      .c (uN rfl rfl hc19)<|
      .c (uN rfl rfl hc19)<|
      .c (qg rfl rfl (.yes rfl rfl hc17) rfl hc19 rfl)<|
      .c (qg rfl rfl (.yes rfl rfl hc16) rfl hc17 rfl)<|
      .c (uPF rfl hc16)<|.nil rfl
     ) ?_
     exact ⟨true,(sJ h55),.w (wkF ⟨⟨_,rfl,.ptr rfl rfl⟩,wD rfl,trivial⟩ ⟨.box rfl (.d rfl),trivial⟩ qx)⟩
    refine cwR (
     .c (uF rfl qH rfl)<|
     .c (uL [0] rfl ta3 rfl)<|
     .c (uB rfl (q80 _ _) rfl)<|
     .c (uM rfl)<|
     .c (qh rfl rfl (.yes rfl rfl hc13) rfl qg0 (by decide))<|
     .c (qp [1] rfl rfl (.yes rfl rfl hc13) rfl rfl rfl ta34 rfl rfl)<|
     .c (qD (enc := ePr) (xs := a0.2.1) rfl rfl (.yes rfl rfl hc13) rfl sl34)<|
     .c (qi rfl rfl (.yes rfl rfl hc13) rfl rfl (qp0 _ _) rfl)<|
     .c (o_mv rfl rfl (.yes rfl rfl hc13) rfl)<|
     .c (qh rfl rfl (.yes rfl rfl hc14) rfl qg0 (by decide))<|
     .c (qp [1] rfl rfl (.yes rfl rfl hc14) rfl rfl rfl ta34 rfl rfl)<|
     .c (qD (enc := ePr) (xs := a0.2.1) rfl rfl (.yes rfl rfl hc14) rfl sl34)<|
     .c (qi rfl rfl (.yes rfl rfl hc14) rfl rfl (qd1 _ _) rfl)<|
     .c (qf rfl rfl (.yes rfl rfl hc13) rfl hc14 rfl)<|
     .c (o_mv rfl rfl (.yes rfl rfl hc13) rfl)<|
     .c (qh rfl rfl (.yes rfl rfl hc15) rfl qP (by decide))<|
     .c (qp [2] rfl rfl (.yes rfl rfl hc15) rfl rfl rfl ta44 rfl rfl)<|
     .c (qD (enc := qB) (xs := a0.2.2) rfl rfl (.yes rfl rfl hc15) rfl sl44)<|
     .c (qi rfl rfl (.yes rfl rfl hc15) rfl rfl (qd1 _ _) rfl)<|
     .c (qf rfl rfl (.yes rfl rfl hc13) rfl hc15 rfl)<|
     .c (uPT rfl hc13)<|
     .c (uM rfl)<|
     .c (qh rfl rfl (.yes rfl rfl hc16) rfl qH (by decide))<|
     .c (qp [0] rfl rfl (.yes rfl rfl hc16) rfl rfl rfl ta3 rfl rfl)<|
     .c (qi rfl rfl (.yes rfl rfl hc16) rfl rfl (qd1 _ _) rfl)<|
     .c (o_mv rfl rfl (.yes rfl rfl hc16) rfl)<|
     .c (qh rfl rfl (.yes rfl rfl hc17) rfl qP (by decide))<|
     .c (qp [2] rfl rfl (.yes rfl rfl hc17) rfl rfl rfl ta44 rfl rfl)<|
     .c (qD (enc := qB) (xs := a0.2.2) rfl rfl (.yes rfl rfl hc17) rfl sl44)<|
     .c (qi rfl rfl (.yes rfl rfl hc17) rfl rfl (qp0 _ _) rfl)<|
     .c (o_mv rfl rfl (.yes rfl rfl hc17) rfl)<|
     .c (qh rfl rfl (.yes rfl rfl hc18) rfl qP (by decide))<|
     .c (qp [2] rfl rfl (.yes rfl rfl hc18) rfl rfl rfl ta44 rfl rfl)<|
     .c (qD (enc := qB) (xs := a0.2.2) rfl rfl (.yes rfl rfl hc18) rfl sl44)<|
     .c (qi rfl rfl (.yes rfl rfl hc18) rfl rfl (qd1 _ _) rfl)<|
     .c (qf rfl rfl (.yes rfl rfl hc17) rfl hc18 rfl)<|
     .c (o_mv rfl rfl (.yes rfl rfl hc17) rfl)<|
     .c (qh rfl rfl (.yes rfl rfl hc19) rfl qg0 (by decide))<|
     .c (qp [1] rfl rfl (.yes rfl rfl hc19) rfl rfl rfl ta34 rfl rfl)<|
     .c (qD (enc := ePr) (xs := a0.2.1) rfl rfl (.yes rfl rfl hc19) rfl sl34)<|
     .c (qi rfl rfl (.yes rfl rfl hc19) rfl rfl (qd1 _ _) rfl)<|
     .c (qf rfl rfl (.yes rfl rfl hc17) rfl hc19 rfl)<|
     .c (qg rfl rfl (.yes rfl rfl hc16) rfl hc17 rfl)<|
     .c (uPF rfl hc16)<|.nil rfl
    ) ?_
    exact ⟨(decide ((a0.2.1.length : Int) > 0)),(sJ h56),.w (wkF ⟨⟨_,rfl,.ptr rfl rfl⟩,wD rfl,trivial⟩ ⟨.box rfl (.d rfl),trivial⟩ qx)⟩
   refine cwR (
    .c (uF rfl qH rfl)<|
    .c (uL [0] rfl ta3 rfl)<|
    .c (uB rfl (q80 _ _) rfl)<|
    .c (uM rfl)<|
    .c (qh rfl rfl (.yes rfl rfl hc13) rfl qg0 (by decide))<|
    .c (qp [1] rfl rfl (.yes rfl rfl hc13) rfl rfl rfl ta34 rfl rfl)<|
    .c (qD (enc := ePr) (xs := a0.2.1) rfl rfl (.yes rfl rfl hc13) rfl sl34)<|
    .c (qi rfl rfl (.yes rfl rfl hc13) rfl rfl (qp0 _ _) rfl)<|
    .c (o_mv rfl rfl (.yes rfl rfl hc13) rfl)<|
    .c (qh rfl rfl (.yes rfl rfl hc14) rfl qg0 (by decide))<|
    .c (qp [1] rfl rfl (.yes rfl rfl hc14) rfl rfl rfl ta34 rfl rfl)<|
    .c (qD (enc := ePr) (xs := a0.2.1) rfl rfl (.yes rfl rfl hc14) rfl sl34)<|
    .c (qi rfl rfl (.yes rfl rfl hc14) rfl rfl (qd1 _ _) rfl)<|
    .c (qf rfl rfl (.yes rfl rfl hc13) rfl hc14 rfl)<|
    .c (o_mv rfl rfl (.yes rfl rfl hc13) rfl)<|
    .c (qh rfl rfl (.yes rfl rfl hc15) rfl qP (by decide))<|
    .c (qp [2] rfl rfl (.yes rfl rfl hc15) rfl rfl rfl ta44 rfl rfl)<|
    .c (qD (enc := qB) (xs := a0.2.2) rfl rfl (.yes rfl rfl hc15) rfl sl44)<|
    .c (qi rfl rfl (.yes rfl rfl hc15) rfl rfl (qd1 _ _) rfl)<|
    .c (qf rfl rfl (.yes rfl rfl hc13) rfl hc15 rfl)<|
    .c (uPT rfl hc13)<|
    .c (uM rfl)<|
    .c (qh rfl rfl (.yes rfl rfl hc16) rfl qH (by decide))<|
    .c (qp [0] rfl rfl (.yes rfl rfl hc16) rfl rfl rfl ta3 rfl rfl)<|
    .c (qi rfl rfl (.yes rfl rfl hc16) rfl rfl (qd1 _ _) rfl)<|
    .c (o_mv rfl rfl (.yes rfl rfl hc16) rfl)<|
    .c (uN rfl rfl hc17)<|
    .c (uN rfl rfl hc17)<|
    .c (uN rfl rfl hc17)<|
    .c (uN rfl rfl hc17)<|
    .c (uN rfl rfl hc17)<|
    .c (q40 rfl rfl rfl rfl)<|
    .c (q40 rfl rfl rfl rfl)<|
    .c (q40 rfl rfl rfl rfl)<|
    .c (q40 rfl rfl rfl rfl)<|
    .c (uN rfl rfl hc17)<|
    .c (uN rfl rfl hc17)<|
    .c (q40 rfl rfl rfl rfl)<|
    .c (q40 rfl rfl rfl rfl)<|
    .c (q40 rfl rfl rfl rfl)<|
    .c (q40 rfl rfl rfl rfl)<|
    .c (uN rfl rfl hc17)<|
    .c (qf rfl rfl (.yes rfl rfl hc16) rfl hc17 rfl)<|
    .c (uPF rfl hc16)<|.nil rfl
   ) ?_
   exact ⟨false,(sJ h52),.w (wkF ⟨⟨_,rfl,.ptr rfl rfl⟩,wD rfl,trivial⟩ ⟨.box rfl (.d rfl),trivial⟩ qx)⟩
  rcases cdS h44 with ⟨hc20,h57⟩ | ⟨hc20,h58⟩
  ·skip
   rcases cdS h57 with ⟨hc21,h59⟩ | ⟨hc21,h60⟩
   ·skip
    refine cwR (
     .c (uF rfl qH rfl)<|
     .c (uL [0] rfl ta3 rfl)<|
     .c (uB rfl (q80 _ _) rfl)<|
     .c (uM rfl)<|
     .c (uN rfl rfl hc13)<|
     .c (uN rfl rfl hc13)<|
     .c (uN rfl rfl hc13)<|
     .c (uN rfl rfl hc13)<|
     .c (uN rfl rfl hc13)<|
     .c (q40 rfl rfl rfl rfl)<|
     .c (q40 rfl rfl rfl rfl)<|
     .c (q40 rfl rfl rfl rfl)<|
     .c (q40 rfl rfl rfl rfl)<|
     .c (uN rfl rfl hc13)<|
     .c (uN rfl rfl hc13)<|
     .c (q40 rfl rfl rfl rfl)<|
     .c (q40 rfl rfl rfl rfl)<|
     .c (q40 rfl rfl rfl rfl)<|
     .c (q40 rfl rfl rfl rfl)<|
     .c (uN rfl rfl hc13)<|
     .c (uPF rfl hc13)<|
     .c (uM rfl)<|
     .c (qh rfl rfl (.yes rfl rfl rfl) rfl qH (by decide))<|
     .c (qp [0] rfl rfl (.yes rfl rfl rfl) rfl rfl rfl ta3 rfl rfl)<|
     .c (qi rfl rfl (.yes rfl rfl rfl) rfl rfl (qd1 _ _) rfl)<|
     .c (o_mv rfl rfl (.yes rfl rfl rfl) rfl)<|
     .c (qh rfl rfl (.yes rfl rfl hc20) rfl qP (by decide))<|
     .c (qp [2] rfl rfl (.yes rfl rfl hc20) rfl rfl rfl ta44 rfl rfl)<|
     .c (qD (enc := qB) (xs := a0.2.2) rfl rfl (.yes rfl rfl hc20) rfl sl44)<|
     .c (qi rfl rfl (.yes rfl rfl hc20) rfl rfl (qp0 _ _) rfl)<|
     .c (o_mv rfl rfl (.yes rfl rfl hc20) rfl)<|
     .c (uN rfl rfl hc21)<|
     .c (uN rfl rfl hc21)<|
     .c (uN rfl rfl hc21)<|
     .c (uN rfl rfl hc21)<|
     .c (qg rfl rfl (.yes rfl rfl hc20) rfl hc21 rfl)<|
     .c (o_mv rfl rfl (.yes rfl rfl hc20) rfl)<|
     .c (uN rfl rfl rfl)<|
     .c (uN rfl rfl rfl)<|
     .c (uN rfl rfl rfl)<|
     .c (uN rfl rfl rfl)<|
     .c (qg rfl rfl (.yes rfl rfl hc20) rfl rfl rfl)<|
     .c (qg rfl rfl (.yes rfl rfl rfl) rfl hc20 rfl)<|
     .c (uPF rfl rfl)<|.nil rfl
    ) ?_
    exact ⟨true,(sJ h59),.w (wkF ⟨⟨_,rfl,.ptr rfl rfl⟩,wD rfl,trivial⟩ ⟨.box rfl (.d rfl),trivial⟩ qx)⟩
   rcases cdS h60 with ⟨hc22,h61⟩ | ⟨hc22,h62⟩
   ·skip
    refine cwR (
     .c (uF rfl qH rfl)<|
     .c (uL [0] rfl ta3 rfl)<|
     .c (uB rfl (q80 _ _) rfl)<|
     .c (uM rfl)<|
     .c (uN rfl rfl hc13)<|
     .c (uN rfl rfl hc13)<|
     .c (uN rfl rfl hc13)<|
     .c (uN rfl rfl hc13)<|
     .c (uN rfl rfl hc13)<|
     .c (q40 rfl rfl rfl rfl)<|
     .c (q40 rfl rfl rfl rfl)<|
     .c (q40 rfl rfl rfl rfl)<|
     .c (q40 rfl rfl rfl rfl)<|
     .c (uN rfl rfl hc13)<|
     .c (uN rfl rfl hc13)<|
     .c (q40 rfl rfl rfl rfl)<|
     .c (q40 rfl rfl rfl rfl)<|
     .c (q40 rfl rfl rfl rfl)<|
     .c (q40 rfl rfl rfl rfl)<|
     .c (uN rfl rfl hc13)<|
     .c (uPF rfl hc13)<|
     .c (uM rfl)<|
     .c (qh rfl rfl (.yes rfl rfl rfl) rfl qH (by decide))<|
     .c (qp [0] rfl rfl (.yes rfl rfl rfl) rfl rfl rfl ta3 rfl rfl)<|
     .c (qi rfl rfl (.yes rfl rfl rfl) rfl rfl (qd1 _ _) rfl)<|
     .c (o_mv rfl rfl (.yes rfl rfl rfl) rfl)<|
     .c (qh rfl rfl (.yes rfl rfl hc20) rfl qP (by decide))<|
     .c (qp [2] rfl rfl (.yes rfl rfl hc20) rfl rfl rfl ta44 rfl rfl)<|
     .c (qD (enc := qB) (xs := a0.2.2) rfl rfl (.yes rfl rfl hc20) rfl sl44)<|
     .c (qi rfl rfl (.yes rfl rfl hc20) rfl rfl (qp0 _ _) rfl)<|
     .c (o_mv rfl rfl (.yes rfl rfl hc20) rfl)<|
     .c (qh rfl rfl (.yes rfl rfl hc21) rfl qP (by decide))<|
     .c (qp [2] rfl rfl (.yes rfl rfl hc21) rfl rfl rfl ta44 rfl rfl)<|
     .c (qD (enc := qB) (xs := a0.2.2) rfl rfl (.yes rfl rfl hc21) rfl sl44)<|
     .c (qi rfl rfl (.yes rfl rfl hc21) rfl rfl (qd1 _ _) rfl)<|
     .c (qf rfl rfl (.yes rfl rfl hc20) rfl hc21 rfl)<|
     .c (o_mv rfl rfl (.yes rfl rfl hc20) rfl)<|
     .c (uN rfl rfl hc22)<|
     .c (uN rfl rfl hc22)<|
     .c (uN rfl rfl hc22)<|
     .c (uN rfl rfl hc22)<|
     .c (qg rfl rfl (.yes rfl rfl hc20) rfl hc22 rfl)<|
     .c (qg rfl rfl (.yes rfl rfl rfl) rfl hc20 rfl)<|
     .c (uPF rfl rfl)<|.nil rfl
    ) ?_
    exact ⟨true,(sJ h61),.w (wkF ⟨⟨_,rfl,.ptr rfl rfl⟩,wD rfl,trivial⟩ ⟨.box rfl (.d rfl),trivial⟩ qx)⟩
   refine cwR (
    .c (uF rfl qH rfl)<|
    .c (uL [0] rfl ta3 rfl)<|
    .c (uB rfl (q80 _ _) rfl)<|
    .c (uM rfl)<|
    .c (uN rfl rfl hc13)<|
    .c (uN rfl rfl hc13)<|
    .c (uN rfl rfl hc13)<|
    .c (uN rfl rfl hc13)<|
    .c (uN rfl rfl hc13)<|
    .c (q40 rfl rfl rfl rfl)<|
    .c (q40 rfl rfl rfl rfl)<|
    .c (q40 rfl rfl rfl rfl)<|
    .c (q40 rfl rfl rfl rfl)<|
    .c (uN rfl rfl hc13)<|
    .c (uN rfl rfl hc13)<|
    .c (q40 rfl rfl rfl rfl)<|
    .c (q40 rfl rfl rfl rfl)<|
    .c (q40 rfl rfl rfl rfl)<|
    .c (q40 rfl rfl rfl rfl)<|
    .c (uN rfl rfl hc13)<|
    .c (uPF rfl hc13)<|
    .c (uM rfl)<|
    .c (qh rfl rfl (.yes rfl rfl rfl) rfl qH (by decide))<|
    .c (qp [0] rfl rfl (.yes rfl rfl rfl) rfl rfl rfl ta3 rfl rfl)<|
    .c (qi rfl rfl (.yes rfl rfl rfl) rfl rfl (qd1 _ _) rfl)<|
    .c (o_mv rfl rfl (.yes rfl rfl rfl) rfl)<|
    .c (qh rfl rfl (.yes rfl rfl hc20) rfl qP (by decide))<|
    .c (qp [2] rfl rfl (.yes rfl rfl hc20) rfl rfl rfl ta44 rfl rfl)<|
    .c (qD (enc := qB) (xs := a0.2.2) rfl rfl (.yes rfl rfl hc20) rfl sl44)<|
    .c (qi rfl rfl (.yes rfl rfl hc20) rfl rfl (qp0 _ _) rfl)<|
    .c (o_mv rfl rfl (.yes rfl rfl hc20) rfl)<|
    .c (qh rfl rfl (.yes rfl rfl hc21) rfl qP (by decide))<|
    .c (qp [2] rfl rfl (.yes rfl rfl hc21) rfl rfl rfl ta44 rfl rfl)<|
    .c (qD (enc := qB) (xs := a0.2.2) rfl rfl (.yes rfl rfl hc21) rfl sl44)<|
    .c (qi rfl rfl (.yes rfl rfl hc21) rfl rfl (qd1 _ _) rfl)<|
    .c (qf rfl rfl (.yes rfl rfl hc20) rfl hc21 rfl)<|
    .c (o_mv rfl rfl (.yes rfl rfl hc20) rfl)<|
    .c (qh rfl rfl (.yes rfl rfl hc22) rfl qg0 (by decide))<|
    .c (qp [1] rfl rfl (.yes rfl rfl hc22) rfl rfl rfl ta34 rfl rfl)<|
    .c (qD (enc := ePr) (xs := a0.2.1) rfl rfl (.yes rfl rfl hc22) rfl sl34)<|
    .c (qi rfl rfl (.yes rfl rfl hc22) rfl rfl (qd1 _ _) rfl)<|
    .c (qf rfl rfl (.yes rfl rfl hc20) rfl hc22 rfl)<|
    .c (qg rfl rfl (.yes rfl rfl rfl) rfl hc20 rfl)<|
    .c (uPF rfl rfl)<|.nil rfl
   ) ?_
   exact ⟨(decide ((a0.2.1.length : Int) > 0)),(sJ h62),.w (wkF ⟨⟨_,rfl,.ptr rfl rfl⟩,wD rfl,trivial⟩ ⟨.box rfl (.d rfl),trivial⟩ qx)⟩
  refine cwR (
   .c (uF rfl qH rfl)<|
   .c (uL [0] rfl ta3 rfl)<|
   .c (uB rfl (q80 _ _) rfl)<|
   .c (uM rfl)<|
   .c (uN rfl rfl hc13)<|
   .c (uN rfl rfl hc13)<|
   .c (uN rfl rfl hc13)<|
   .c (uN rfl rfl hc13)<|
   .c (uN rfl rfl hc13)<|
   .c (q40 rfl rfl rfl rfl)<|
   .c (q40 rfl rfl rfl rfl)<|
   .c (q40 rfl rfl rfl rfl)<|
   .c (q40 rfl rfl rfl rfl)<|
   .c (uN rfl rfl hc13)<|
   .c (uN rfl rfl hc13)<|
   .c (q40 rfl rfl rfl rfl)<|
   .c (q40 rfl rfl rfl rfl)<|
   .c (q40 rfl rfl rfl rfl)<|
   .c (q40 rfl rfl rfl rfl)<|
   .c (uN rfl rfl hc13)<|
   .c (uPF rfl hc13)<|
   .c (uM rfl)<|
   .c (qh rfl rfl (.yes rfl rfl rfl) rfl qH (by decide))<|
   .c (qp [0] rfl rfl (.yes rfl rfl rfl) rfl rfl rfl ta3 rfl rfl)<|
   .c (qi rfl rfl (.yes rfl rfl rfl) rfl rfl (qd1 _ _) rfl)<|
   .c (o_mv rfl rfl (.yes rfl rfl rfl) rfl)<|
   .c (uN rfl rfl hc20)<|
   .c (uN rfl rfl hc20)<|
   .c (uN rfl rfl hc20)<|
   .c (uN rfl rfl hc20)<|
   .c (uN rfl rfl hc20)<|
   .c (q40 rfl rfl rfl rfl)<|
   .c (q40 rfl rfl rfl rfl)<|
   .c (q40 rfl rfl rfl rfl)<|
   .c (q40 rfl rfl rfl rfl)<|
   .c (uN rfl rfl hc20)<|
   .c (uN rfl rfl hc20)<|
   .c (q40 rfl rfl rfl rfl)<|
   .c (q40 rfl rfl rfl rfl)<|
   .c (q40 rfl rfl rfl rfl)<|
   .c (q40 rfl rfl rfl rfl)<|
   .c (uN rfl rfl hc20)<|
   .c (qf rfl rfl (.yes rfl rfl rfl) rfl hc20 rfl)<|
   .c (uPF rfl rfl)<|.nil rfl
  ) ?_
  exact ⟨false,(sJ h58),.w (wkF ⟨⟨_,rfl,.ptr rfl rfl⟩,wD rfl,trivial⟩ ⟨.box rfl (.d rfl),trivial⟩ qx)⟩
 rcases cdS hj0 with ⟨hc23,h63⟩ | ⟨hc23,h64⟩
 ·skip
  refine cwR (
   .c (uF rfl qH rfl)<|
   .c (uL [0] rfl ta3 rfl)<|
   .c (uB rfl (qp0 _ _) rfl)<|
   .c (uM rfl)<|
   .c (uN rfl rfl hc23)<|
   .c (uN rfl rfl hc23)<|
   .c (uN rfl rfl hc23)<|
   .c (uPT rfl hc23)<|.nil rfl
  ) ?_
  exact ⟨true,(sJ h63),.w (wkF ⟨⟨_,rfl,.ptr rfl rfl⟩,wD rfl,trivial⟩ ⟨.box rfl (.d rfl),trivial⟩ qx)⟩
 refine cwR (
  .c (uF rfl qH rfl)<|
  .c (uL [0] rfl ta3 rfl)<|
  .c (uB rfl (qp0 _ _) rfl)<|
  .c (uM rfl)<|
  .c (qh rfl rfl (.yes rfl rfl hc23) rfl qH (by decide))<|
  .c (qp [0] rfl rfl (.yes rfl rfl hc23) rfl rfl rfl ta3 rfl rfl)<|
  .c (qi rfl rfl (.yes rfl rfl hc23) rfl rfl (qd1 _ _) rfl)<|
  .c (uPF rfl hc23)<|.nil rfl
 ) ?_
 exact ⟨(decide (a0.1 > 11)),(sJ h64),.w (wkF ⟨⟨_,rfl,.ptr rfl rfl⟩,wD rfl,trivial⟩ ⟨.box rfl (.d rfl),trivial⟩ qx)⟩
theorem ref05_First_okc {a0 : ttN} {r : B8} (h : qC1 a0 = some r) : FnOk Try.prog 74 [.d (ql a0)] 0 (lk []) (fun rr oo => rr = .d (eK r) ∧ oo = lk [(1,.box (.d (eK r)))]) := by
 refine fnO Try.func74 rfl rfl (cwP ?_)
 unfold qC1 at h
 refine cwS (cwR (
  .c (uX 0 rfl)<|
  .c (q30 1 rfl rfl .no ze31 rfl)<|.nil rfl) ?_)
 refine cwS ?_
 refine cwS (cwR (
  .c (uF rfl qg0 rfl)<|
  .c (uL [1] rfl ta34 rfl)<|
  .c (qD (enc := ePr) (xs := a0.2.1) rfl rfl .no rfl sl34)<|
  .c (uB rfl (qd1 _ _) rfl)<|.nil rfl) ?_)
 rcases cdS h with ⟨hc0,h0⟩ | ⟨hc0,h1⟩
 ·refine cwT rfl hc0 ?_
  have ⟨x0,hx0,h2⟩ := bdS h0
  have hx0g := qA hx0
  refine cwS (cwR (
   .c (uF rfl qg0 rfl)<|
   .c (uL [1] rfl ta34 rfl)<|
   .c (qb1 (enc := ePr) (xs := a0.2.1) rfl rfl .no rfl rfl sl34 sz52 hx0g.1 hx0g.2)<|
   .c (ql1 rfl rfl .no rfl q93 (by decide) rfl rfl)<|
   .c (o_ld rfl rfl .no rfl ta31 rfl rfl)<|
   .c (uS [] rfl sz31 rfl)<|.nil rfl) ?_)
  have heq := ((sJ h2)).symm
  subst heq
  exact qu ⟨_,(show Leads _ _ (St.of [(2,.ptr 1 0)] [(1,.box (.d (eK x0.1)))]) from .w (wkF ⟨⟨_,rfl,.ptr rfl rfl⟩,trivial⟩ ⟨.box rfl (.d rfl),trivial⟩ qx)),.inr rfl,_,resC rfl rfl rfl ta31 rfl rfl,rfl,rfl⟩
 refine cwF rfl hc0 ?_
 refine cwK ?_
 refine cwS ?_
 refine cwS (cwR (
  .c (uF rfl qP rfl)<|
  .c (uL [2] rfl ta44 rfl)<|
  .c (qD (enc := qB) (xs := a0.2.2) rfl rfl .no rfl sl44)<|
  .c (uB rfl (qd1 _ _) rfl)<|.nil rfl) ?_)
 rcases cdS h1 with ⟨hc1,h3⟩ | ⟨hc1,h4⟩
 ·refine cwT rfl hc1 ?_
  have ⟨x1,hx1,h5⟩ := bdS h3
  have hx1g := qA hx1
  refine cwS (cwR (
   .c (uF rfl qP rfl)<|
   .c (uL [2] rfl ta44 rfl)<|
   .c (qb1 (enc := qB) (xs := a0.2.2) rfl rfl .no rfl rfl sl44 sz69 hx1g.1 hx1g.2)<|
   .c (ql1 rfl rfl .no rfl q71 (by decide) rfl rfl)<|
   .c (o_ld rfl rfl .no rfl ta31 rfl rfl)<|
   .c (uS [] rfl sz31 rfl)<|.nil rfl) ?_)
  have heq := ((sJ h5)).symm
  subst heq
  exact qu ⟨_,(show Leads _ _ (St.of [(2,.ptr 1 0)] [(1,.box (.d (eK x1.1)))]) from .w (wkF ⟨⟨_,rfl,.ptr rfl rfl⟩,trivial⟩ ⟨.box rfl (.d rfl),trivial⟩ qx)),.inr rfl,_,resC rfl rfl rfl ta31 rfl rfl,rfl,rfl⟩
 refine cwF rfl hc1 ?_
 refine cwK ?_
 refine cwS (cwR (
  .c (o_bldB (l := (List.replicate 24 0)) (r := (List.replicate 24 0)) rfl rfl .no ze31 ar31 sz5 .nil)<|
  .c (uS [] rfl sz31 rfl)<|.nil rfl) ?_)
 have heq := ((sJ h4)).symm
 subst heq
 exact qu ⟨_,(show Leads _ _ (St.of [(2,.ptr 1 0)] [(1,.box (.d (eK (List.replicate 24 0))))]) from .w (wkF ⟨⟨_,rfl,.ptr rfl rfl⟩,trivial⟩ ⟨.box rfl (.d rfl),trivial⟩ qx)),.inr rfl,_,resC rfl rfl rfl ta31 rfl rfl,rfl,rfl⟩
theorem qr1 {a0 : ttN} {r : B8} (h : qC1 a0 = some r) : FnOk Try.prog 74 [.d (ql a0)] 0 (lk []) (fun rr oo => rr = .d (eK r) ∧ oo = lk []) := q22 (ref05_First_okc h)
theorem ref07_find_okc {a0 : List (Int × ttN)} {a1 : Int} {r : (ttN × Bool)} (h : qx1 a0 a1 = some r) : FnOk Try.prog 52 [.d (qo a0),.d (eint a1)] 0 (lk []) (fun rr oo => rr = .tup [.d (ql r.1),.d (qM r.2)] ∧ oo = lk [(0,.box (.d (ql r.1)))]) := by
 refine fnO Try.func52 rfl rfl (cwP ?_)
 unfold qx1 at h
 refine cwS (cwR (
  .c (q30 0 rfl rfl .no ze46 rfl)<|
  .c (uA rfl)<|.nil rfl) ?_)
 have ⟨o0,hj0,h0⟩ := bdS h
 refine cwJ (fun (z : Unit) => St.of [(4,.ptr 0 0)] [(0,.box (.d (ql (0,[],[]))))]) (fun (z : Unit) => o0 = (.inl z)) ?_ ?_
 ·intro v0 hv0; subst hv0
  simp only [Sum.elim_inl] at h0
  refine cwS (cwR (
   .c (qg5 (ds := [eint 0,eSP_ ([]),qk0 ([])]) rfl rfl .no zs46 rfl pl46 .nil)<|
   .c (uS [] rfl sz46 rfl)<|
   .c (uA rfl)<|.nil rfl) ?_)
  have heq := ((sJ h0)).symm
  subst heq
  exact qu ⟨_,(show Leads _ _ (St.of [(4,.ptr 0 0),(5,.d (qM false))] [(0,.box (.d (ql (0,[],[]))))]) from .w (wkF ⟨⟨_,rfl,.ptr rfl rfl⟩,wD rfl,trivial⟩ ⟨.box rfl (.d rfl),trivial⟩ qx)),.inr rfl,_,resCT rfl rfl rfl ta46 rfl rfl rfl,rfl,rfl⟩
 refine cwS (cwR (
  .c (uA rfl)<|.nil rfl) ?_)
 refine cwB ?_
 refine qJ (V := Int) (O := (Unit ⊕ (ttN × Bool))) (fun (z : Int) => St.of [(0,.d (qo a0)),(1,.d (eint a1)),(4,.ptr 0 0),(6,.d (eint z))] [(0,.box (.d (ql (0,[],[]))))]) hj0 (.w (wkF ⟨wD rfl,wD rfl,⟨_,rfl,.ptr rfl rfl⟩,wD rfl,trivial⟩ ⟨.box rfl (.d rfl),trivial⟩ qx)) ?_
 intro v1 x0 hb0 hx0
 refine cwS ?_
 refine cwS (cwR (
  .c (uM rfl)<|
  .c (uM rfl)<|
  .c (qD (enc := qt) (xs := a0) rfl rfl .no rfl sl62)<|
  .c (uB rfl (qp0 _ _) rfl)<|.nil rfl) ?_)
 rcases cdS hb0 with ⟨hc0,h1⟩ | ⟨hc0,h2⟩
 ·refine cwT rfl hc0 ?_
  refine cwK ?_
  refine cwS ?_
  refine cwB ?_
  have ⟨x1,hx1,h3⟩ := bdS h1
  have hx1g := qA hx1
  refine cwS (cwR (
   .c (uM rfl)<|
   .c (uM rfl)<|
   .c (qb1 (enc := qt) (xs := a0) rfl rfl .no rfl rfl sl62 sz66 hx1g.1 hx1g.2)<|
   .c (ql1 rfl rfl .no rfl fld66_0 (by decide) rfl rfl)<|
   .c (o_ld rfl rfl .no rfl ta3 rfl rfl)<|
   .c (uM rfl)<|
   .c (uB rfl (q80 _ _) rfl)<|.nil rfl) ?_)
  rcases cdS h3 with ⟨hc1,h4⟩ | ⟨hc1,h5⟩
  ·refine cwT rfl hc1 ?_
   refine cwS (cwR (
    .c (uM rfl)<|
    .c (uM rfl)<|
    .c (qb1 (enc := qt) (xs := a0) rfl rfl .no rfl rfl sl62 sz66 hx1g.1 hx1g.2)<|
    .c (ql1 rfl rfl .no rfl fld66_1 (by decide) rfl rfl)<|
    .c (o_ld rfl rfl .no rfl ta46 rfl rfl)<|
    .c (uS [] rfl sz46 rfl)<|
    .c (uA rfl)<|.nil rfl) ?_)
   have he0 := ((hx0 _ (sJ h4)).symm).symm
   subst he0
   have heq := ((sJ h0)).symm
   subst heq
   exact qu ⟨_,(show Leads _ _ (St.of [(4,.ptr 0 0),(5,.d (qM true))] [(0,.box (.d (ql x1.2)))]) from .w (wkF ⟨⟨_,rfl,.ptr rfl rfl⟩,wD rfl,trivial⟩ ⟨.box rfl (.d rfl),trivial⟩ qx)),.inr rfl,_,resCT rfl rfl rfl ta46 rfl rfl rfl,rfl,rfl⟩
  refine cwF rfl hc1 ?_
  refine cwK ?_
  refine cwR (
   .c (uM rfl)<|
   .c (uB rfl (qN0 _ _) rfl)<|
   .c (uA rfl)<|.nil rfl
  ) ?_
  exact ⟨(IntKind.wrap .i64 (v1 + 1)),(sJ h5),.w (wkF ⟨wD rfl,wD rfl,⟨_,rfl,.ptr rfl rfl⟩,wD rfl,trivial⟩ ⟨.box rfl (.d rfl),trivial⟩ qx)⟩
 refine cwF rfl hc0 ?_
 refine qT ?_
 exact ⟨(),(hx0 _ (sJ h2)).symm,.w (wkF ⟨⟨_,rfl,.ptr rfl rfl⟩,trivial⟩ ⟨.box rfl (.d rfl),trivial⟩ qx)⟩
theorem ref07_find_ok {a0 : List (Int × ttN)} {a1 : Int} {r : (ttN × Bool)} (h : qx1 a0 a1 = some r) : FnOk Try.prog 52 [.d (qo a0),.d (eint a1)] 0 (lk []) (fun rr oo => rr = .tup [.d (ql r.1),.d (qM r.2)] ∧ oo = lk []) := fnOk_forget2 (ref07_find_okc h)
theorem qM4 {self : (List (Int × ttN)) → ttN → B8 → Bool → Option Bool} (self_ok : ∀ {a0 : List (Int × ttN)} {a1 : ttN} {a2 : List UInt8} {a3 : Bool} {r : Bool},self a0 a1 a2 a3 = some r → FnOk Try.prog 53 [.d (qo a0),.d (ql a1),.d (eK a2),.d (qM a3)] 0 (lk []) (fun rr oo => rr = .d (qM r) ∧ oo = lk [])) {a0 : List (Int × ttN)} {a1 : ttN} {a2 : List UInt8} {a3 : Bool} {r : Bool} (h : qM0 self a0 a1 a2 a3 = some r) : FnOk Try.prog 53 [.d (qo a0),.d (ql a1),.d (eK a2),.d (qM a3)] 0 (lk []) (fun rr oo => rr = .d (qM r) ∧ oo = lk []) := by
 refine fnO Try.func53 rfl rfl (cwP ?_)
 unfold qM0 at h
 refine cwS (cwR (
  .c (uX 0 rfl)<|
  .c (uX 1 rfl)<|
  .c (uA rfl)<|.nil rfl) ?_)
 have ⟨x0,hx0,h0⟩ := bdS (x := qy2 a1) h
 refine cwS (cwR (
  .c (uL [] rfl ta46 rfl)<|
  .c (q50 rfl rfl .no Try.func73 rfl rfl (ref05_Right_ok hx0) (.cons rfl .d .nil) ⟨trivial,trivial⟩ (.inl rfl))<|
  .c (uA rfl)<|.nil rfl) ?_)
 refine cwS ?_
 refine cwS (cwR (
  .c (uM rfl)<|
  .c (uT rfl)<|.nil rfl) ?_)
 rcases cdS h0 with ⟨hc0,h1⟩ | ⟨hc0,h2⟩
 ·refine cwT rfl hc0 ?_
  refine cwS (cwR (
   .c (uA rfl)<|.nil rfl) ?_)
  have heq := ((sJ h1)).symm
  subst heq
  exact qu ⟨_,(show Leads _ _ (St.of [(8,.d (qM false))] []) from .w (wkF ⟨wD rfl,trivial⟩ trivial qx)),.inr rfl,_,res1 rfl rfl,rfl,rfl⟩
 refine cwF rfl hc0 ?_
 refine cwK ?_
 have ⟨o0,hj0,h3⟩ := bdS h2
 refine cwJ (fun (z : Unit) => St.of [(0,.d (qo a0)),(3,.d (qM a3)),(5,.ptr 0 0),(6,.ptr 1 0)] [(0,.box (.d (ql a1))),(1,.box (.d (eK a2)))]) (fun (z : Unit) => o0 = (.inl z)) ?_ ?_
 ·intro v0 hv0; subst hv0
  simp only [Sum.elim_inl] at h3
  have ⟨o1,hj1,h4⟩ := bdS h3
  refine cwJ (fun (z : Unit) => St.of [] []) (fun (z : Unit) => o1 = (.inl z)) ?_ ?_
  ·intro v1 hv1; subst hv1
   simp only [Sum.elim_inl] at h4
   refine cwS (cwR (
    .c (uA rfl)<|.nil rfl) ?_)
   have heq := ((sJ h4)).symm
   subst heq
   exact qu ⟨_,(show Leads _ _ (St.of [(8,.d (qM true))] []) from .w (wkF ⟨wD rfl,trivial⟩ trivial qx)),.inr rfl,_,res1 rfl rfl,rfl,rfl⟩
  refine cwS (cwR (
   .c (uA rfl)<|.nil rfl) ?_)
  refine cwB ?_
  refine qJ (V := Int) (O := (Unit ⊕ Bool)) (fun (z : Int) => St.of [(0,.d (qo a0)),(3,.d (qM a3)),(5,.ptr 0 0),(6,.ptr 1 0),(12,.d (eint z))] [(0,.box (.d (ql a1))),(1,.box (.d (eK a2)))]) hj1 (.w (wkF ⟨wD rfl,wD rfl,⟨_,rfl,.ptr rfl rfl⟩,⟨_,rfl,.ptr rfl rfl⟩,wD rfl,trivial⟩ ⟨.box rfl (.d rfl),.box rfl (.d rfl),trivial⟩ qx)) ?_
  intro v2 x1 hb0 hx1
  refine cwS ?_
  refine cwS (cwR (
   .c (uM rfl)<|
   .c (uF rfl qP rfl)<|
   .c (uL [2] rfl ta44 rfl)<|
   .c (qD (enc := qB) (xs := a1.2.2) rfl rfl .no rfl sl44)<|
   .c (uB rfl (qp0 _ _) rfl)<|.nil rfl) ?_)
  rcases cdS hb0 with ⟨hc1,h5⟩ | ⟨hc1,h6⟩
  ·refine cwT rfl hc1 ?_
   refine cwK ?_
   refine cwS ?_
   refine cwB ?_
   have ⟨x2,hx2,h7⟩ := bdS h5
   have hx2g := qA hx2
   refine cwS (cwR (
    .c (uF rfl qP rfl)<|
    .c (uL [2] rfl ta44 rfl)<|
    .c (uM rfl)<|
    .c (qb1 (enc := qB) (xs := a1.2.2) rfl rfl .no rfl rfl sl44 sz69 hx2g.1 hx2g.2)<|
    .c (o_ld rfl rfl .no rfl ta69 rfl rfl)<|
    .c (q30 2 rfl rfl .no ze69 rfl)<|
    .c (uS [] rfl sz69 rfl)<|.nil rfl) ?_)
   have ⟨x3,hx3,h8⟩ := bdS (x := qy0 x2.1 a2) h7
   refine cwS (cwR (
    .c (uF rfl q71 rfl)<|
    .c (uL [0] rfl ta31 rfl)<|
    .c (uL [] rfl ta31 rfl)<|
    .c (q50 rfl rfl .no Try.func30 rfl rfl (qS2 hx3) (.cons rfl .d (.cons rfl .d .nil)) ⟨trivial,trivial,trivial⟩ (.inl rfl))<|
    .c (uA rfl)<|.nil rfl) ?_)
   refine cwS ?_
   have ⟨o2,hj2,h9⟩ := bdS h8
   refine cwJ (fun (z : Bool) => St.of [(0,.d (qo a0)),(3,.d (qM a3)),(5,.ptr 0 0),(6,.ptr 1 0),(12,.d (eint v2)),(13,.ptr 2 0),(64,.d (qM z))] [(0,.box (.d (ql a1))),(1,.box (.d (eK a2))),(2,.box (.d (qB x2)))]) (fun (z : Bool) => o2 = z) ?_ ?_
   ·intro v3 hv2; subst hv2
    rcases cdS h9 with ⟨hc2,h10⟩ | ⟨hc2,h11⟩
    ·refine cwT rfl hc2 ?_
     refine cwS (cwR (
      .c (uA rfl)<|.nil rfl) ?_)
     have he0 := ((hx1 _ (sJ h10)).symm).symm
     subst he0
     have heq := ((sJ h4)).symm
     subst heq
     exact qu ⟨_,(show Leads _ _ (St.of [(8,.d (qM false))] []) from .w (wkF ⟨wD rfl,trivial⟩ trivial qx)),.inr rfl,_,res1 rfl rfl,rfl,rfl⟩
    refine cwF rfl hc2 ?_
    refine cwK ?_
    have ⟨x4,hx4,h12⟩ := bdS (x := qx1 a0 x2.2) h11
    refine cwS (cwR (
     .c (uM rfl)<|
     .c (uF rfl qR1 rfl)<|
     .c (uL [1] rfl ta3 rfl)<|
     .c (q50 rfl rfl .no Try.func52 rfl rfl (ref07_find_ok hx4) (.cons rfl .d (.cons rfl .d .nil)) ⟨trivial,trivial,trivial⟩ (.inl rfl))<|
     .c (uM rfl)<|
     .c (uE rfl)<|
     .c (uE rfl)<|
     .c (q30 3 rfl rfl .no ze46 rfl)<|
     .c (uS [] rfl sz46 rfl)<|
     .c (uA rfl)<|.nil rfl) ?_)
    refine cwS ?_
    have ⟨o3,hj3,h13⟩ := bdS h12
    refine cwJ (fun (z : Bool) => St.of [(0,.d (qo a0)),(3,.d (qM a3)),(5,.ptr 0 0),(6,.ptr 1 0),(12,.d (eint v2)),(15,.ptr 3 0),(110,.d (qM z))] [(0,.box (.d (ql a1))),(1,.box (.d (eK a2))),(3,.box (.d (ql x4.1)))]) (fun (z : Bool) => o3 = z) ?_ ?_
    ·intro v4 hv3; subst hv3
     rcases cdS h13 with ⟨hc3,h14⟩ | ⟨hc3,h15⟩
     ·refine cwT rfl hc3 ?_
      refine cwS (cwR (
       .c (uA rfl)<|.nil rfl) ?_)
      have he1 := ((hx1 _ (sJ h14)).symm).symm
      subst he1
      have heq := ((sJ h4)).symm
      subst heq
      exact qu ⟨_,(show Leads _ _ (St.of [(8,.d (qM false))] []) from .w (wkF ⟨wD rfl,trivial⟩ trivial qx)),.inr rfl,_,res1 rfl rfl,rfl,rfl⟩
     refine cwF rfl hc3 ?_
     refine cwK ?_
     refine cwS (cwR (
      .c (uL [] rfl ta31 rfl)<|
      .c (q30 4 rfl rfl .no ze31 rfl)<|
      .c (uS [] rfl sz31 rfl)<|.nil rfl) ?_)
     refine cwS (cwR (
      .c (uM rfl)<|
      .c (uA rfl)<|.nil rfl) ?_)
     have ⟨o4,hj4,h16⟩ := bdS h15
     refine cwJ (fun (z : (Bool × B8)) => St.of [(0,.d (qo a0)),(3,.d (qM a3)),(5,.ptr 0 0),(6,.ptr 1 0),(12,.d (eint v2)),(15,.ptr 3 0),(17,.ptr 4 0),(18,.d (qM z.1))] [(0,.box (.d (ql a1))),(1,.box (.d (eK a2))),(3,.box (.d (ql x4.1))),(4,.box (.d (eK z.2)))]) (fun (z : (Bool × B8)) => o4 = z) ?_ ?_
     ·intro v5 hv4; subst hv4
      have ⟨x5,hx5,h17⟩ := bdS (x := self a0 x4.1 o4.2 o4.1) h16
      refine cwS (cwR (
       .c (uM rfl)<|
       .c (uL [] rfl ta46 rfl)<|
       .c (uL [] rfl ta31 rfl)<|
       .c (uM rfl)<|
       .c (q50 rfl rfl .no Try.func53 rfl rfl (self_ok hx5) (.cons rfl .d (.cons rfl .d (.cons rfl .d (.cons rfl .d .nil)))) ⟨trivial,trivial,trivial,trivial,trivial⟩ (.inl rfl))<|
       .c (uA rfl)<|.nil rfl) ?_)
      refine cwS (cwR (
       .c (uM rfl)<|
       .c (uT rfl)<|.nil rfl) ?_)
      rcases cdS h17 with ⟨hc4,h18⟩ | ⟨hc4,h19⟩
      ·refine cwT rfl hc4 ?_
       refine cwS (cwR (
        .c (uA rfl)<|.nil rfl) ?_)
       have he2 := ((hx1 _ (sJ h18)).symm).symm
       subst he2
       have heq := ((sJ h4)).symm
       subst heq
       exact qu ⟨_,(show Leads _ _ (St.of [(8,.d (qM false))] []) from .w (wkF ⟨wD rfl,trivial⟩ trivial qx)),.inr rfl,_,res1 rfl rfl,rfl,rfl⟩
      refine cwF rfl hc4 ?_
      refine cwK ?_
      refine cwR (
       .c (uM rfl)<|
       .c (uB rfl (qN0 _ _) rfl)<|
       .c (uA rfl)<|.nil rfl
      ) ?_
      exact ⟨(IntKind.wrap .i64 (v2 + 1)),(sJ h19),.w (wkF ⟨wD rfl,wD rfl,⟨_,rfl,.ptr rfl rfl⟩,⟨_,rfl,.ptr rfl rfl⟩,wD rfl,trivial⟩ ⟨.box rfl (.d rfl),.box rfl (.d rfl),trivial⟩ qx)⟩
     refine cwS (cwR (
      .c (uM rfl)<|
      .c (uB rfl (qN0 _ _) rfl)<|
      .c (uF rfl qP rfl)<|
      .c (uL [2] rfl ta44 rfl)<|
      .c (qD (enc := qB) (xs := a1.2.2) rfl rfl .no rfl sl44)<|
      .c (uB rfl (qp0 _ _) rfl)<|.nil rfl) ?_)
     rcases cdS hj4 with ⟨hc5,h20⟩ | ⟨hc5,h21⟩
     ·refine cwT rfl hc5 ?_
      have ⟨x6,hx6,h22⟩ := bdS h20
      have hx6g := qA hx6
      refine cwS (cwR (
       .c (uF rfl qP rfl)<|
       .c (uL [2] rfl ta44 rfl)<|
       .c (uM rfl)<|
       .c (uB rfl (qN0 _ _) rfl)<|
       .c (qb1 (enc := qB) (xs := a1.2.2) rfl rfl .no rfl rfl sl44 sz69 hx6g.1 hx6g.2)<|
       .c (ql1 rfl rfl .no rfl q71 (by decide) rfl rfl)<|
       .c (o_ld rfl rfl .no rfl ta31 rfl rfl)<|
       .c (uS [] rfl sz31 rfl)<|.nil rfl) ?_)
      refine cwR (
       .c (uA rfl)<|.nil rfl
      ) ?_
      exact ⟨(true,x6.1),(sJ h22),.w (wkF ⟨wD rfl,wD rfl,⟨_,rfl,.ptr rfl rfl⟩,⟨_,rfl,.ptr rfl rfl⟩,wD rfl,⟨_,rfl,.ptr rfl rfl⟩,⟨_,rfl,.ptr rfl rfl⟩,wD rfl,trivial⟩ ⟨.box rfl (.d rfl),.box rfl (.d rfl),.box rfl (.d rfl),.box rfl (.d rfl),trivial⟩ qx)⟩
     refine cwF rfl hc5 ?_
     refine cwK ?_
     exact ⟨(a3,a2),(sJ h21),.w (wkF ⟨wD rfl,wD rfl,⟨_,rfl,.ptr rfl rfl⟩,⟨_,rfl,.ptr rfl rfl⟩,wD rfl,⟨_,rfl,.ptr rfl rfl⟩,⟨_,rfl,.ptr rfl rfl⟩,wD rfl,trivial⟩ ⟨.box rfl (.d rfl),.box rfl (.d rfl),.box rfl (.d rfl),.box rfl (.d rfl),trivial⟩ qx)⟩
    rcases cdS hj3 with ⟨hc6,h23⟩ | ⟨hc6,h24⟩
    ·skip
     refine cwRA mixed (by kernel_rfl) (
      .c (uM rfl)<|
      .c (uT rfl)<|
      .c (uM rfl)<|
      .c (uN rfl rfl hc6)<|
      .c (uN rfl rfl hc6)<|
      .c (uN rfl rfl hc6)<|
      .c (uN rfl rfl hc6)<|
      .c (uN rfl rfl hc6)<|
      .c (uN rfl rfl hc6)<|
      .c (uPT rfl hc6)<|
      .c (uM rfl)<|
      .c (uN rfl rfl rfl)<|
      .c (uN rfl rfl rfl)<|
      .c (uN rfl rfl rfl)<|
      .c (uN rfl rfl rfl)<|
      .c (uN rfl rfl rfl)<|
      .c (uPT rfl rfl)<|
      .c (uM rfl)<|
      .c (uN rfl rfl rfl)<|
      .c (uN rfl rfl rfl)<|
      .c (uN rfl rfl rfl)<|
      .c (uN rfl rfl rfl)<|
      .c (q40 rfl rfl rfl rfl)<|
      .c (q40 rfl rfl rfl rfl)<|
      .c (q40 rfl rfl rfl rfl)<|
      .c (q40 rfl rfl rfl rfl)<|
      .c (uN rfl rfl rfl)<|
      .c (uPT rfl rfl)<|
      .c (uM rfl)<|
      .c (uN rfl rfl rfl)<|
      .c (uN rfl rfl rfl)<|
      .c (uN rfl rfl rfl)<|
      .c (uN rfl rfl rfl)<|
      .c (q40 rfl rfl rfl rfl)<|
      .c (q40 rfl rfl rfl rfl)<|
      .c (q40 rfl rfl rfl rfl)<|
      .c (q40 rfl rfl rfl rfl)<|
      .c (uN rfl rfl rfl)<|
      .c (uPT rfl rfl)<|.nil rfl) (by kernel_rfl) ?_
     exact ⟨true,(sJ h23),.w (wkF ⟨wD rfl,wD rfl,⟨_,rfl,.ptr rfl rfl⟩,⟨_,rfl,.ptr rfl rfl⟩,wD rfl,⟨_,rfl,.ptr rfl rfl⟩,wD rfl,trivial⟩ ⟨.box rfl (.d rfl),.box rfl (.d rfl),.box rfl (.d rfl),trivial⟩ qx)⟩
    rcases cdS h24 with ⟨hc7,h25⟩ | ⟨hc7,h26⟩
    ·skip
     refine cwRA mixed (by kernel_rfl) (
      .c (uM rfl)<|
      .c (uT rfl)<|
      .c (uM rfl)<|
      .c (qh rfl rfl (.yes rfl rfl hc6) rfl qH (by decide))<|
      .c (qp [0] rfl rfl (.yes rfl rfl hc6) rfl rfl rfl ta3 rfl rfl)<|
      .c (qh rfl rfl (.yes rfl rfl hc6) rfl qH (by decide))<|
      .c (qp [0] rfl rfl (.yes rfl rfl hc6) rfl rfl rfl ta3 rfl rfl)<|
      .c (qi rfl rfl (.yes rfl rfl hc6) rfl rfl (qs2 _ _) rfl)<|
      .c (qi rfl rfl (.yes rfl rfl hc6) rfl rfl (qY2 _ _) rfl)<|
      .c (uPF rfl hc6)<|
      .c (uM rfl)<|
      .c (uN rfl rfl hc7)<|
      .c (uN rfl rfl hc7)<|
      .c (uN rfl rfl hc7)<|
      .c (uN rfl rfl hc7)<|
      .c (uN rfl rfl hc7)<|
      .c (uPT rfl hc7)<|
      .c (uM rfl)<|
      .c (uN rfl rfl rfl)<|
      .c (uN rfl rfl rfl)<|
      .c (uN rfl rfl rfl)<|
      .c (uN rfl rfl rfl)<|
      .c (q40 rfl rfl rfl rfl)<|
      .c (q40 rfl rfl rfl rfl)<|
      .c (q40 rfl rfl rfl rfl)<|
      .c (q40 rfl rfl rfl rfl)<|
      .c (uN rfl rfl rfl)<|
      .c (uPT rfl rfl)<|
      .c (uM rfl)<|
      .c (uN rfl rfl rfl)<|
      .c (uN rfl rfl rfl)<|
      .c (uN rfl rfl rfl)<|
      .c (uN rfl rfl rfl)<|
      .c (q40 rfl rfl rfl rfl)<|
      .c (q40 rfl rfl rfl rfl)<|
      .c (q40 rfl rfl rfl rfl)<|
      .c (q40 rfl rfl rfl rfl)<|
      .c (uN rfl rfl rfl)<|
      .c (uPT rfl rfl)<|.nil rfl) (by kernel_rfl) ?_
     exact ⟨true,(sJ h25),.w (wkF ⟨wD rfl,wD rfl,⟨_,rfl,.ptr rfl rfl⟩,⟨_,rfl,.ptr rfl rfl⟩,wD rfl,⟨_,rfl,.ptr rfl rfl⟩,wD rfl,trivial⟩ ⟨.box rfl (.d rfl),.box rfl (.d rfl),.box rfl (.d rfl),trivial⟩ qx)⟩
    have ⟨x7,hx7,h27⟩ := bdS (x := qC1 x4.1) h26
    rcases cdS h27 with ⟨hc8,h28⟩ | ⟨hc8,h29⟩
    ·skip
     refine cwRA mixed (by kernel_rfl) (
      .c (uM rfl)<|
      .c (uT rfl)<|
      .c (uM rfl)<|
      .c (qh rfl rfl (.yes rfl rfl hc6) rfl qH (by decide))<|
      .c (qp [0] rfl rfl (.yes rfl rfl hc6) rfl rfl rfl ta3 rfl rfl)<|
      .c (qh rfl rfl (.yes rfl rfl hc6) rfl qH (by decide))<|
      .c (qp [0] rfl rfl (.yes rfl rfl hc6) rfl rfl rfl ta3 rfl rfl)<|
      .c (qi rfl rfl (.yes rfl rfl hc6) rfl rfl (qs2 _ _) rfl)<|
      .c (qi rfl rfl (.yes rfl rfl hc6) rfl rfl (qY2 _ _) rfl)<|
      .c (uPF rfl hc6)<|
      .c (uM rfl)<|
      .c (qp [] rfl rfl (.yes rfl rfl hc7) rfl rfl rfl ta46 rfl rfl)<|
      .c (q50 rfl rfl (.yes rfl rfl hc7) Try.func74 rfl rfl (qr1 hx7) (.cons rfl .d .nil) ⟨trivial,trivial⟩ (.inl rfl))<|
      .c (qh rfl rfl (.yes rfl rfl hc7) rfl q71 (by decide))<|
      .c (qp [0] rfl rfl (.yes rfl rfl hc7) rfl rfl rfl ta31 rfl rfl)<|
      .c (o_ne rfl rfl (.yes rfl rfl hc7) rfl rfl rfl rfl eg31 (.bs ar31 un5 sz5))<|
      .c (uPF rfl hc7)<|
      .c (uM rfl)<|
      .c (uN rfl rfl hc8)<|
      .c (uN rfl rfl hc8)<|
      .c (uN rfl rfl hc8)<|
      .c (uN rfl rfl hc8)<|
      .c (q40 rfl rfl rfl rfl)<|
      .c (q40 rfl rfl rfl rfl)<|
      .c (q40 rfl rfl rfl rfl)<|
      .c (q40 rfl rfl rfl rfl)<|
      .c (uN rfl rfl hc8)<|
      .c (uPT rfl hc8)<|
      .c (uM rfl)<|
      .c (uN rfl rfl rfl)<|
      .c (uN rfl rfl rfl)<|
      .c (uN rfl rfl rfl)<|
      .c (uN rfl rfl rfl)<|
      .c (q40 rfl rfl rfl rfl)<|
      .c (q40 rfl rfl rfl rfl)<|
      .c (q40 rfl rfl rfl rfl)<|
      .c (q40 rfl rfl rfl rfl)<|
      .c (uN rfl rfl rfl)<|
      .c (uPT rfl rfl)<|.nil rfl) (by kernel_rfl) ?_
     exact ⟨true,(sJ h28),.w (wkF ⟨wD rfl,wD rfl,⟨_,rfl,.ptr rfl rfl⟩,⟨_,rfl,.ptr rfl rfl⟩,wD rfl,⟨_,rfl,.ptr rfl rfl⟩,wD rfl,trivial⟩ ⟨.box rfl (.d rfl),.box rfl (.d rfl),.box rfl (.d rfl),trivial⟩ qx)⟩
    rcases cdS h29 with ⟨hc9,h30⟩ | ⟨hc9,h31⟩
    ·skip
     rcases cdS h30 with ⟨hc10,h32⟩ | ⟨hc10,h33⟩
     ·skip
      refine cwRA mixed (by kernel_rfl) (
       .c (uM rfl)<|
       .c (uT rfl)<|
       .c (uM rfl)<|
       .c (qh rfl rfl (.yes rfl rfl hc6) rfl qH (by decide))<|
       .c (qp [0] rfl rfl (.yes rfl rfl hc6) rfl rfl rfl ta3 rfl rfl)<|
       .c (qh rfl rfl (.yes rfl rfl hc6) rfl qH (by decide))<|
       .c (qp [0] rfl rfl (.yes rfl rfl hc6) rfl rfl rfl ta3 rfl rfl)<|
       .c (qi rfl rfl (.yes rfl rfl hc6) rfl rfl (qs2 _ _) rfl)<|
       .c (qi rfl rfl (.yes rfl rfl hc6) rfl rfl (qY2 _ _) rfl)<|
       .c (uPF rfl hc6)<|
       .c (uM rfl)<|
       .c (qp [] rfl rfl (.yes rfl rfl hc7) rfl rfl rfl ta46 rfl rfl)<|
       .c (q50 rfl rfl (.yes rfl rfl hc7) Try.func74 rfl rfl (qr1 hx7) (.cons rfl .d .nil) ⟨trivial,trivial⟩ (.inl rfl))<|
       .c (qh rfl rfl (.yes rfl rfl hc7) rfl q71 (by decide))<|
       .c (qp [0] rfl rfl (.yes rfl rfl hc7) rfl rfl rfl ta31 rfl rfl)<|
       .c (o_ne rfl rfl (.yes rfl rfl hc7) rfl rfl rfl rfl eg31 (.bs ar31 un5 sz5))<|
       .c (uPF rfl hc7)<|
       .c (uM rfl)<|
       .c (qh rfl rfl (.yes rfl rfl hc8) rfl qH (by decide))<|
       .c (qp [0] rfl rfl (.yes rfl rfl hc8) rfl rfl rfl ta3 rfl rfl)<|
       .c (qi rfl rfl (.yes rfl rfl hc8) rfl rfl (q80 _ _) rfl)<|
       .c (o_mv rfl rfl (.yes rfl rfl hc8) rfl)<|
       .c (qh rfl rfl (.yes rfl rfl hc9) rfl qg0 (by decide))<|
       .c (qp [1] rfl rfl (.yes rfl rfl hc9) rfl rfl rfl ta34 rfl rfl)<|
       .c (qD (enc := ePr) (xs := x4.1.2.1) rfl rfl (.yes rfl rfl hc9) rfl sl34)<|
       .c (qi rfl rfl (.yes rfl rfl hc9) rfl rfl (qp0 _ _) rfl)<|
       .c (qg rfl rfl (.yes rfl rfl hc8) rfl hc9 rfl)<|
       .c (uPF rfl hc8)<|
       .c (uM rfl)<|
       .c (uN rfl rfl hc10)<|
       .c (uN rfl rfl hc10)<|
       .c (uN rfl rfl hc10)<|
       .c (uN rfl rfl hc10)<|
       .c (q40 rfl rfl rfl rfl)<|
       .c (q40 rfl rfl rfl rfl)<|
       .c (q40 rfl rfl rfl rfl)<|
       .c (q40 rfl rfl rfl rfl)<|
       .c (uN rfl rfl hc10)<|
       .c (uPT rfl hc10)<|.nil rfl) (by kernel_rfl) ?_
      exact ⟨true,(sJ h32),.w (wkF ⟨wD rfl,wD rfl,⟨_,rfl,.ptr rfl rfl⟩,⟨_,rfl,.ptr rfl rfl⟩,wD rfl,⟨_,rfl,.ptr rfl rfl⟩,wD rfl,trivial⟩ ⟨.box rfl (.d rfl),.box rfl (.d rfl),.box rfl (.d rfl),trivial⟩ qx)⟩
     rcases cdS h33 with ⟨hc11,h34⟩ | ⟨hc11,h35⟩
     ·skip
      refine cwRA mixed (by kernel_rfl) (
       .c (uM rfl)<|
       .c (uT rfl)<|
       .c (uM rfl)<|
       .c (qh rfl rfl (.yes rfl rfl hc6) rfl qH (by decide))<|
       .c (qp [0] rfl rfl (.yes rfl rfl hc6) rfl rfl rfl ta3 rfl rfl)<|
       .c (qh rfl rfl (.yes rfl rfl hc6) rfl qH (by decide))<|
       .c (qp [0] rfl rfl (.yes rfl rfl hc6) rfl rfl rfl ta3 rfl rfl)<|
       .c (qi rfl rfl (.yes rfl rfl hc6) rfl rfl (qs2 _ _) rfl)<|
       .c (qi rfl rfl (.yes rfl rfl hc6) rfl rfl (qY2 _ _) rfl)<|
       .c (uPF rfl hc6)<|
       .c (uM rfl)<|
       .c (qp [] rfl rfl (.yes rfl rfl hc7) rfl rfl rfl ta46 rfl rfl)<|
       .c (q50 rfl rfl (.yes rfl rfl hc7) Try.func74 rfl rfl (qr1 hx7) (.cons rfl .d .nil) ⟨trivial,trivial⟩ (.inl rfl))<|
       .c (qh rfl rfl (.yes rfl rfl hc7) rfl q71 (by decide))<|
       .c (qp [0] rfl rfl (.yes rfl rfl hc7) rfl rfl rfl ta31 rfl rfl)<|
       .c (o_ne rfl rfl (.yes rfl rfl hc7) rfl rfl rfl rfl eg31 (.bs ar31 un5 sz5))<|
       .c (uPF rfl hc7)<|
       .c (uM rfl)<|
       .c (qh rfl rfl (.yes rfl rfl hc8) rfl qH (by decide))<|
       .c (qp [0] rfl rfl (.yes rfl rfl hc8) rfl rfl rfl ta3 rfl rfl)<|
       .c (qi rfl rfl (.yes rfl rfl hc8) rfl rfl (q80 _ _) rfl)<|
       .c (o_mv rfl rfl (.yes rfl rfl hc8) rfl)<|
       .c (qh rfl rfl (.yes rfl rfl hc9) rfl qg0 (by decide))<|
       .c (qp [1] rfl rfl (.yes rfl rfl hc9) rfl rfl rfl ta34 rfl rfl)<|
       .c (qD (enc := ePr) (xs := x4.1.2.1) rfl rfl (.yes rfl rfl hc9) rfl sl34)<|
       .c (qi rfl rfl (.yes rfl rfl hc9) rfl rfl (qp0 _ _) rfl)<|
       .c (qg rfl rfl (.yes rfl rfl hc8) rfl hc9 rfl)<|
       .c (uPF rfl hc8)<|
       .c (uM rfl)<|
       .c (qh rfl rfl (.yes rfl rfl hc10) rfl qH (by decide))<|
       .c (qp [0] rfl rfl (.yes rfl rfl hc10) rfl rfl rfl ta3 rfl rfl)<|
       .c (qi rfl rfl (.yes rfl rfl hc10) rfl rfl (qd1 _ _) rfl)<|
       .c (o_mv rfl rfl (.yes rfl rfl hc10) rfl)<|
       .c (qh rfl rfl (.yes rfl rfl hc11) rfl qP (by decide))<|
       .c (qp [2] rfl rfl (.yes rfl rfl hc11) rfl rfl rfl ta44 rfl rfl)<|
       .c (qD (enc := qB) (xs := x4.1.2.2) rfl rfl (.yes rfl rfl hc11) rfl sl44)<|
       .c (qi rfl rfl (.yes rfl rfl hc11) rfl rfl (qp0 _ _) rfl)<|
       .c (qg rfl rfl (.yes rfl rfl hc10) rfl hc11 rfl)<|
       .c (uPF rfl hc10)<|.nil rfl) (by kernel_rfl) ?_
      exact ⟨(decide ((x4.1.2.2.length : Int) < 9)),(sJ h34),.w (wkF ⟨wD rfl,wD rfl,⟨_,rfl,.ptr rfl rfl⟩,⟨_,rfl,.ptr rfl rfl⟩,wD rfl,⟨_,rfl,.ptr rfl rfl⟩,wD rfl,trivial⟩ ⟨.box rfl (.d rfl),.box rfl (.d rfl),.box rfl (.d rfl),trivial⟩ qx)⟩
     refine cwRA mixed (by kernel_rfl) (
      .c (uM rfl)<|
      .c (uT rfl)<|
      .c (uM rfl)<|
      .c (qh rfl rfl (.yes rfl rfl hc6) rfl qH (by decide))<|
      .c (qp [0] rfl rfl (.yes rfl rfl hc6) rfl rfl rfl ta3 rfl rfl)<|
      .c (qh rfl rfl (.yes rfl rfl hc6) rfl qH (by decide))<|
      .c (qp [0] rfl rfl (.yes rfl rfl hc6) rfl rfl rfl ta3 rfl rfl)<|
      .c (qi rfl rfl (.yes rfl rfl hc6) rfl rfl (qs2 _ _) rfl)<|
      .c (qi rfl rfl (.yes rfl rfl hc6) rfl rfl (qY2 _ _) rfl)<|
      .c (uPF rfl hc6)<|
      .c (uM rfl)<|
      .c (qp [] rfl rfl (.yes rfl rfl hc7) rfl rfl rfl ta46 rfl rfl)<|
      .c (q50 rfl rfl (.yes rfl rfl hc7) Try.func74 rfl rfl (qr1 hx7) (.cons rfl .d .nil) ⟨trivial,trivial⟩ (.inl rfl))<|
      .c (qh rfl rfl (.yes rfl rfl hc7) rfl q71 (by decide))<|
      .c (qp [0] rfl rfl (.yes rfl rfl hc7) rfl rfl rfl ta31 rfl rfl)<|
      .c (o_ne rfl rfl (.yes rfl rfl hc7) rfl rfl rfl rfl eg31 (.bs ar31 un5 sz5))<|
      .c (uPF rfl hc7)<|
      .c (uM rfl)<|
      .c (qh rfl rfl (.yes rfl rfl hc8) rfl qH (by decide))<|
      .c (qp [0] rfl rfl (.yes rfl rfl hc8) rfl rfl rfl ta3 rfl rfl)<|
      .c (qi rfl rfl (.yes rfl rfl hc8) rfl rfl (q80 _ _) rfl)<|
      .c (o_mv rfl rfl (.yes rfl rfl hc8) rfl)<|
      .c (qh rfl rfl (.yes rfl rfl hc9) rfl qg0 (by decide))<|
      .c (qp [1] rfl rfl (.yes rfl rfl hc9) rfl rfl rfl ta34 rfl rfl)<|
      .c (qD (enc := ePr) (xs := x4.1.2.1) rfl rfl (.yes rfl rfl hc9) rfl sl34)<|
      .c (qi rfl rfl (.yes rfl rfl hc9) rfl rfl (qp0 _ _) rfl)<|
      .c (qg rfl rfl (.yes rfl rfl hc8) rfl hc9 rfl)<|
      .c (uPF rfl hc8)<|
      .c (uM rfl)<|
      .c (qh rfl rfl (.yes rfl rfl hc10) rfl qH (by decide))<|
      .c (qp [0] rfl rfl (.yes rfl rfl hc10) rfl rfl rfl ta3 rfl rfl)<|
      .c (qi rfl rfl (.yes rfl rfl hc10) rfl rfl (qd1 _ _) rfl)<|
      .c (o_mv rfl rfl (.yes rfl rfl hc10) rfl)<|
      .c (uN rfl rfl hc11)<|
      .c (uN rfl rfl hc11)<|
      .c (uN rfl rfl hc11)<|
      .c (uN rfl rfl hc11)<|
      .c (qf rfl rfl (.yes rfl rfl hc10) rfl hc11 rfl)<|
      .c (uPF rfl hc10)<|.nil rfl) (by kernel_rfl) ?_
     exact ⟨false,(sJ h35),.w (wkF ⟨wD rfl,wD rfl,⟨_,rfl,.ptr rfl rfl⟩,⟨_,rfl,.ptr rfl rfl⟩,wD rfl,⟨_,rfl,.ptr rfl rfl⟩,wD rfl,trivial⟩ ⟨.box rfl (.d rfl),.box rfl (.d rfl),.box rfl (.d rfl),trivial⟩ qx)⟩
    rcases cdS h31 with ⟨hc12,h36⟩ | ⟨hc12,h37⟩
    ·skip
     refine cwRA mixed (by kernel_rfl) (
      .c (uM rfl)<|
      .c (uT rfl)<|
      .c (uM rfl)<|
      .c (qh rfl rfl (.yes rfl rfl hc6) rfl qH (by decide))<|
      .c (qp [0] rfl rfl (.yes rfl rfl hc6) rfl rfl rfl ta3 rfl rfl)<|
      .c (qh rfl rfl (.yes rfl rfl hc6) rfl qH (by decide))<|
      .c (qp [0] rfl rfl (.yes rfl rfl hc6) rfl rfl rfl ta3 rfl rfl)<|
      .c (qi rfl rfl (.yes rfl rfl hc6) rfl rfl (qs2 _ _) rfl)<|
      .c (qi rfl rfl (.yes rfl rfl hc6) rfl rfl (qY2 _ _) rfl)<|
      .c (uPF rfl hc6)<|
      .c (uM rfl)<|
      .c (qp [] rfl rfl (.yes rfl rfl hc7) rfl rfl rfl ta46 rfl rfl)<|
      .c (q50 rfl rfl (.yes rfl rfl hc7) Try.func74 rfl rfl (qr1 hx7) (.cons rfl .d .nil) ⟨trivial,trivial⟩ (.inl rfl))<|
      .c (qh rfl rfl (.yes rfl rfl hc7) rfl q71 (by decide))<|
      .c (qp [0] rfl rfl (.yes rfl rfl hc7) rfl rfl rfl ta31 rfl rfl)<|
      .c (o_ne rfl rfl (.yes rfl rfl hc7) rfl rfl rfl rfl eg31 (.bs ar31 un5 sz5))<|
      .c (uPF rfl hc7)<|
      .c (uM rfl)<|
      .c (qh rfl rfl (.yes rfl rfl hc8) rfl qH (by decide))<|
      .c (qp [0] rfl rfl (.yes rfl rfl hc8) rfl rfl rfl ta3 rfl rfl)<|
      .c (qi rfl rfl (.yes rfl rfl hc8) rfl rfl (q80 _ _) rfl)<|
      .c (o_mv rfl rfl (.yes rfl rfl hc8) rfl)<|
      .c (uN rfl rfl hc9)<|
      .c (uN rfl rfl hc9)<|
      .c (uN rfl rfl hc9)<|
      .c (uN rfl rfl hc9)<|
      .c (qf rfl rfl (.yes rfl rfl hc8) rfl hc9 rfl)<|
      .c (uPF rfl hc8)<|
      .c (uM rfl)<|
      .c (qh rfl rfl (.yes rfl rfl rfl) rfl qH (by decide))<|
      .c (qp [0] rfl rfl (.yes rfl rfl rfl) rfl rfl rfl ta3 rfl rfl)<|
      .c (qi rfl rfl (.yes rfl rfl rfl) rfl rfl (qd1 _ _) rfl)<|
      .c (o_mv rfl rfl (.yes rfl rfl rfl) rfl)<|
      .c (qh rfl rfl (.yes rfl rfl hc12) rfl qP (by decide))<|
      .c (qp [2] rfl rfl (.yes rfl rfl hc12) rfl rfl rfl ta44 rfl rfl)<|
      .c (qD (enc := qB) (xs := x4.1.2.2) rfl rfl (.yes rfl rfl hc12) rfl sl44)<|
      .c (qi rfl rfl (.yes rfl rfl hc12) rfl rfl (qp0 _ _) rfl)<|
      .c (qg rfl rfl (.yes rfl rfl rfl) rfl hc12 rfl)<|
      .c (uPF rfl rfl)<|.nil rfl) (by kernel_rfl) ?_
     exact ⟨(decide ((x4.1.2.2.length : Int) < 9)),(sJ h36),.w (wkF ⟨wD rfl,wD rfl,⟨_,rfl,.ptr rfl rfl⟩,⟨_,rfl,.ptr rfl rfl⟩,wD rfl,⟨_,rfl,.ptr rfl rfl⟩,wD rfl,trivial⟩ ⟨.box rfl (.d rfl),.box rfl (.d rfl),.box rfl (.d rfl),trivial⟩ qx)⟩
    refine cwRA mixed (by kernel_rfl) (
     .c (uM rfl)<|
     .c (uT rfl)<|
     .c (uM rfl)<|
     .c (qh rfl rfl (.yes rfl rfl hc6) rfl qH (by decide))<|
     .c (qp [0] rfl rfl (.yes rfl rfl hc6) rfl rfl rfl ta3 rfl rfl)<|
     .c (qh rfl rfl (.yes rfl rfl hc6) rfl qH (by decide))<|
     .c (qp [0] rfl rfl (.yes rfl rfl hc6) rfl rfl rfl ta3 rfl rfl)<|
     .c (qi rfl rfl (.yes rfl rfl hc6) rfl rfl (qs2 _ _) rfl)<|
     .c (qi rfl rfl (.yes rfl rfl hc6) rfl rfl (qY2 _ _) rfl)<|
     .c (uPF rfl hc6)<|
     .c (uM rfl)<|
     .c (qp [] rfl rfl (.yes rfl rfl hc7) rfl rfl rfl ta46 rfl rfl)<|
     .c (q50 rfl rfl (.yes rfl rfl hc7) Try.func74 rfl rfl (qr1 hx7) (.cons rfl .d .nil) ⟨trivial,trivial⟩ (.inl rfl))<|
     .c (qh rfl rfl (.yes rfl rfl hc7) rfl q71 (by decide))<|
     .c (qp [0] rfl rfl (.yes rfl rfl hc7) rfl rfl rfl ta31 rfl rfl)<|
     .c (o_ne rfl rfl (.yes rfl rfl hc7) rfl rfl rfl rfl eg31 (.bs ar31 un5 sz5))<|
     .c (uPF rfl hc7)<|
     .c (uM rfl)<|
     .c (qh rfl rfl (.yes rfl rfl hc8) rfl qH (by decide))<|
     .c (qp [0] rfl rfl (.yes rfl rfl hc8) rfl rfl rfl ta3 rfl rfl)<|
     .c (qi rfl rfl (.yes rfl rfl hc8) rfl rfl (q80 _ _) rfl)<|
     .c (o_mv rfl rfl (.yes rfl rfl hc8) rfl)<|
     .c (uN rfl rfl hc9)<|
     .c (uN rfl rfl hc9)<|
     .c (uN rfl rfl hc9)<|
     .c (uN rfl rfl hc9)<|
     .c (qf rfl rfl (.yes rfl rfl hc8) rfl hc9 rfl)<|
     .c (uPF rfl hc8)<|
     .c (uM rfl)<|
     .c (qh rfl rfl (.yes rfl rfl rfl) rfl qH (by decide))<|
     .c (qp [0] rfl rfl (.yes rfl rfl rfl) rfl rfl rfl ta3 rfl rfl)<|
     .c (qi rfl rfl (.yes rfl rfl rfl) rfl rfl (qd1 _ _) rfl)<|
     .c (o_mv rfl rfl (.yes rfl rfl rfl) rfl)<|
     .c (uN rfl rfl hc12)<|
     .c (uN rfl rfl hc12)<|
     .c (uN rfl rfl hc12)<|
     .c (uN rfl rfl hc12)<|
     .c (qf rfl rfl (.yes rfl rfl rfl) rfl hc12 rfl)<|
     .c (uPF rfl rfl)<|.nil rfl) (by kernel_rfl) ?_
    exact ⟨false,(sJ h37),.w (wkF ⟨wD rfl,wD rfl,⟨_,rfl,.ptr rfl rfl⟩,⟨_,rfl,.ptr rfl rfl⟩,wD rfl,⟨_,rfl,.ptr rfl rfl⟩,wD rfl,trivial⟩ ⟨.box rfl (.d rfl),.box rfl (.d rfl),.box rfl (.d rfl),trivial⟩ qx)⟩
   rcases cdS hj2 with ⟨hc13,h38⟩ | ⟨hc13,h39⟩
   ·skip
    refine cwR (
     .c (uM rfl)<|
     .c (uM rfl)<|
     .c (o_mv rfl rfl (.yes rfl rfl hc13) rfl)<|
     .c (qZ2 rfl rfl (.yes rfl rfl hc13) rfl)<|
     .c (uPT rfl hc13)<|.nil rfl
    ) ?_
    exact ⟨(!x3),(sJ h38),.w (wkF ⟨wD rfl,wD rfl,⟨_,rfl,.ptr rfl rfl⟩,⟨_,rfl,.ptr rfl rfl⟩,wD rfl,⟨_,rfl,.ptr rfl rfl⟩,wD rfl,trivial⟩ ⟨.box rfl (.d rfl),.box rfl (.d rfl),.box rfl (.d rfl),trivial⟩ qx)⟩
   refine cwR (
    .c (uM rfl)<|
    .c (uM rfl)<|
    .c (uN rfl rfl hc13)<|
    .c (uN rfl rfl hc13)<|
    .c (uPF rfl hc13)<|.nil rfl
   ) ?_
   exact ⟨false,(sJ h39),.w (wkF ⟨wD rfl,wD rfl,⟨_,rfl,.ptr rfl rfl⟩,⟨_,rfl,.ptr rfl rfl⟩,wD rfl,⟨_,rfl,.ptr rfl rfl⟩,wD rfl,trivial⟩ ⟨.box rfl (.d rfl),.box rfl (.d rfl),.box rfl (.d rfl),trivial⟩ qx)⟩
  refine cwF rfl hc1 ?_
  refine qT ?_
  exact ⟨(),(hx1 _ (sJ h6)).symm,.w (wkF trivial trivial qx)⟩
 refine cwS (cwR (
  .c (uA rfl)<|.nil rfl) ?_)
 refine cwB ?_
 refine qJ (V := Int) (O := (Unit ⊕ Bool)) (fun (z : Int) => St.of [(0,.d (qo a0)),(3,.d (qM a3)),(5,.ptr 0 0),(6,.ptr 1 0),(10,.d (eint z))] [(0,.box (.d (ql a1))),(1,.box (.d (eK a2)))]) hj0 (.w (wkF ⟨wD rfl,wD rfl,⟨_,rfl,.ptr rfl rfl⟩,⟨_,rfl,.ptr rfl rfl⟩,wD rfl,trivial⟩ ⟨.box rfl (.d rfl),.box rfl (.d rfl),trivial⟩ qx)) ?_
 intro v6 x8 hb1 hx8
 refine cwS ?_
 refine cwS (cwR (
  .c (uM rfl)<|
  .c (uF rfl qg0 rfl)<|
  .c (uL [1] rfl ta34 rfl)<|
  .c (qD (enc := ePr) (xs := a1.2.1) rfl rfl .no rfl sl34)<|
  .c (uB rfl (qp0 _ _) rfl)<|.nil rfl) ?_)
 rcases cdS hb1 with ⟨hc14,h40⟩ | ⟨hc14,h41⟩
 ·refine cwT rfl hc14 ?_
  refine cwK ?_
  refine cwS ?_
  refine cwB ?_
  have ⟨x9,hx9,h42⟩ := bdS h40
  have hx9g := qA hx9
  have ⟨x10,hx10,h43⟩ := bdS (x := qy0 x9.1 a2) h42
  refine cwS (cwRA mixed (by kernel_rfl) (
   .c (uF rfl qg0 rfl)<|
   .c (uL [1] rfl ta34 rfl)<|
   .c (uM rfl)<|
   .c (qb1 (enc := ePr) (xs := a1.2.1) rfl rfl .no rfl rfl sl34 sz52 hx9g.1 hx9g.2)<|
   .c (ql1 rfl rfl .no rfl q93 (by decide) rfl rfl)<|
   .c (o_ld rfl rfl .no rfl ta31 rfl rfl)<|
   .c (uL [] rfl ta31 rfl)<|
   .c (q50 rfl rfl .no Try.func30 rfl rfl (qS2 hx10) (.cons rfl .d (.cons rfl .d .nil)) ⟨trivial,trivial,trivial⟩ (.inl rfl))<|
   .c (uA rfl)<|.nil rfl) (by kernel_rfl) ?_)
  have ⟨o5,hj5,h44⟩ := bdS h43
  refine cwJ (fun (z : Bool) => St.of [(0,.d (qo a0)),(3,.d (qM a3)),(5,.ptr 0 0),(6,.ptr 1 0),(10,.d (eint v6)),(43,.d (qM z))] [(0,.box (.d (ql a1))),(1,.box (.d (eK a2)))]) (fun (z : Bool) => o5 = z) ?_ ?_
  ·intro v7 hv5; subst hv5
   rcases cdS h44 with ⟨hc15,h45⟩ | ⟨hc15,h46⟩
   ·refine cwT rfl hc15 ?_
    refine cwS (cwR (
     .c (uA rfl)<|.nil rfl) ?_)
    have he3 := ((hx8 _ (sJ h45)).symm).symm
    subst he3
    have heq := ((sJ h3)).symm
    subst heq
    exact qu ⟨_,(show Leads _ _ (St.of [(8,.d (qM false))] []) from .w (wkF ⟨wD rfl,trivial⟩ trivial qx)),.inr rfl,_,res1 rfl rfl,rfl,rfl⟩
   refine cwF rfl hc15 ?_
   refine cwK ?_
   refine cwR (
    .c (uM rfl)<|
    .c (uB rfl (qN0 _ _) rfl)<|
    .c (uA rfl)<|.nil rfl
   ) ?_
   exact ⟨(IntKind.wrap .i64 (v6 + 1)),(sJ h46),.w (wkF ⟨wD rfl,wD rfl,⟨_,rfl,.ptr rfl rfl⟩,⟨_,rfl,.ptr rfl rfl⟩,wD rfl,trivial⟩ ⟨.box rfl (.d rfl),.box rfl (.d rfl),trivial⟩ qx)⟩
  rcases cdS hj5 with ⟨hc16,h47⟩ | ⟨hc16,h48⟩
  ·skip
   refine cwR (
    .c (uM rfl)<|
    .c (uM rfl)<|
    .c (o_mv rfl rfl (.yes rfl rfl hc16) rfl)<|
    .c (qZ2 rfl rfl (.yes rfl rfl hc16) rfl)<|
    .c (uPT rfl hc16)<|.nil rfl
   ) ?_
   exact ⟨(!x10),(sJ h47),.w (wkF ⟨wD rfl,wD rfl,⟨_,rfl,.ptr rfl rfl⟩,⟨_,rfl,.ptr rfl rfl⟩,wD rfl,wD rfl,trivial⟩ ⟨.box rfl (.d rfl),.box rfl (.d rfl),trivial⟩ qx)⟩
  refine cwR (
   .c (uM rfl)<|
   .c (uM rfl)<|
   .c (uN rfl rfl hc16)<|
   .c (uN rfl rfl hc16)<|
   .c (uPF rfl hc16)<|.nil rfl
  ) ?_
  exact ⟨false,(sJ h48),.w (wkF ⟨wD rfl,wD rfl,⟨_,rfl,.ptr rfl rfl⟩,⟨_,rfl,.ptr rfl rfl⟩,wD rfl,wD rfl,trivial⟩ ⟨.box rfl (.d rfl),.box rfl (.d rfl),trivial⟩ qx)⟩
 refine cwF rfl hc14 ?_
 refine qT ?_
 exact ⟨(),(hx8 _ (sJ h41)).symm,.w (wkF ⟨wD rfl,wD rfl,⟨_,rfl,.ptr rfl rfl⟩,⟨_,rfl,.ptr rfl rfl⟩,trivial⟩ ⟨.box rfl (.d rfl),.box rfl (.d rfl),trivial⟩ qx)⟩
theorem qM3 : ∀ (n : Nat) {a0 : List (Int × ttN)} {a1 : ttN} {a2 : List UInt8} {a3 : Bool} {r : Bool},qr0 n a0 a1 a2 a3 = some r → FnOk Try.prog 53 [.d (qo a0),.d (ql a1),.d (eK a2),.d (qM a3)] 0 (lk []) (fun rr oo => rr = .d (qM r) ∧ oo = lk [])
 | 0,_,_,_,_,_,h => nomatch h
 | n + 1,_,_,_,_,_,h => qM4 (self := qr0 n) (fun h => qM3 n h) h
theorem ref07_right_ok {a0 : List (Int × ttN)} {a1 : ttN} {a2 : List UInt8} {a3 : Bool} {r : Bool} (h : q54 a0 a1 a2 a3 = some r) : FnOk Try.prog 53 [.d (qo a0),.d (ql a1),.d (eK a2),.d (qM a3)] 0 (lk []) (fun rr oo => rr = .d (qM r) ∧ oo = lk []) := qM3 16 h
theorem ref07_Right_ok {a0 : List (Int × ttN)} {a1 : Int} {r : Bool} (h : qA2 a0 a1 = some r) : FnOk Try.prog 28 [.d (qo a0),.d (eint a1)] 0 (lk []) (fun rr oo => rr = .d (qM r) ∧ oo = lk []) := by
 refine fnO Try.func28 rfl rfl (cwP ?_)
 unfold qA2 at h
 refine cwS (cwR (
  .c (uA rfl)<|.nil rfl) ?_)
 refine cwS ?_
 refine cwS (cwR (
  .c (uM rfl)<|
  .c (uB rfl (q80 _ _) rfl)<|.nil rfl) ?_)
 rcases cdS h with ⟨hc0,h0⟩ | ⟨hc0,h1⟩
 ·refine cwT rfl hc0 ?_
  refine cwS (cwR (
   .c (uA rfl)<|.nil rfl) ?_)
  have heq := ((sJ h0)).symm
  subst heq
  exact qu ⟨_,(show Leads _ _ (St.of [(4,.d (qM true))] []) from .w (wkF ⟨wD rfl,trivial⟩ trivial qx)),.inr rfl,_,res1 rfl rfl,rfl,rfl⟩
 refine cwF rfl hc0 ?_
 refine cwK ?_
 have ⟨x0,hx0,h2⟩ := bdS (x := qx1 a0 a1) h1
 refine cwS (cwR (
  .c (uM rfl)<|
  .c (uM rfl)<|
  .c (q50 rfl rfl .no Try.func52 rfl rfl (ref07_find_ok hx0) (.cons rfl .d (.cons rfl .d .nil)) ⟨trivial,trivial,trivial⟩ (.inl rfl))<|
  .c (uM rfl)<|
  .c (uE rfl)<|
  .c (uE rfl)<|
  .c (q30 0 rfl rfl .no ze46 rfl)<|
  .c (uS [] rfl sz46 rfl)<|
  .c (uA rfl)<|.nil rfl) ?_)
 refine cwS ?_
 refine cwS (cwR (
  .c (uM rfl)<|
  .c (uT rfl)<|.nil rfl) ?_)
 rcases cdS h2 with ⟨hc1,h3⟩ | ⟨hc1,h4⟩
 ·refine cwT rfl hc1 ?_
  refine cwS (cwR (
   .c (uA rfl)<|.nil rfl) ?_)
  have heq := ((sJ h3)).symm
  subst heq
  exact qu ⟨_,(show Leads _ _ (St.of [(4,.d (qM false))] []) from .w (wkF ⟨wD rfl,trivial⟩ trivial qx)),.inr rfl,_,res1 rfl rfl,rfl,rfl⟩
 refine cwF rfl hc1 ?_
 refine cwK ?_
 have ⟨x1,hx1,h5⟩ := bdS (x := q54 a0 x0.1 (List.replicate 24 0) false) h4
 refine cwS (cwR (
  .c (uM rfl)<|
  .c (uL [] rfl ta46 rfl)<|
  .c (o_bldB (l := (List.replicate 24 0)) (r := (List.replicate 24 0)) rfl rfl .no ze31 ar31 sz5 .nil)<|
  .c (q50 rfl rfl .no Try.func53 rfl rfl (ref07_right_ok hx1) (.cons rfl .d (.cons rfl .d (.cons rfl .d (.cons rfl .d .nil)))) ⟨trivial,trivial,trivial,trivial,trivial⟩ (.inl rfl))<|
  .c (uA rfl)<|.nil rfl) ?_)
 have heq := ((sJ h5)).symm
 subst heq
 exact qu ⟨_,(show Leads _ _ (St.of [(4,.d (qM x1))] []) from .w (wkF ⟨wD rfl,trivial⟩ trivial qx)),.inr rfl,_,res1 rfl rfl,rfl,rfl⟩
theorem law07_all_okc {r : ttS} (h : q74 = some r) : FnOk Try.prog 18 [] 0 (lk []) (fun rr oo => rr = .d (eSp r) ∧ oo = lk [(0,.box (.d (eSp r)))]) := by
 refine fnO Try.func18 rfl rfl (cwP ?_)
 unfold q74 at h
 refine cwS (cwR (
  .c (q30 0 rfl rfl .no ze38 rfl)<|.nil rfl) ?_)
 refine cwS (cwR (
  .c (qg5 (ds := [eK (List.replicate 24 0),eK (List.replicate 24 0),qM true]) rfl rfl .no zs38 rfl pl38 (.cons rfl rfl rfl rfl rfl rfl rfl .nil))<|
  .c (uS [] rfl sz38 rfl)<|.nil rfl) ?_)
 have heq := ((sJ h)).symm
 subst heq
 exact qu ⟨_,(show Leads _ _ (St.of [(0,.ptr 0 0)] [(0,.box (.d (eSp ((List.replicate 24 0),(List.replicate 24 0),true))))]) from .w (wkF ⟨⟨_,rfl,.ptr rfl rfl⟩,trivial⟩ ⟨.box rfl (.d rfl),trivial⟩ qx)),.inr rfl,_,resC rfl rfl rfl ta38 rfl rfl,rfl,rfl⟩
theorem law07_all_ok {r : ttS} (h : q74 = some r) : FnOk Try.prog 18 [] 0 (lk []) (fun rr oo => rr = .d (eSp r) ∧ oo = lk []) := q22 (law07_all_okc h)
theorem tree_below_1_ok {a0 : Int} {c0 : ttN} {c1 : List UInt8} {r : Bool} (h : q72 a0 c0 c1 = some r) : FnOk Try.prog 72 [.d (eint a0),.ptr 0 0,.ptr 1 0] 2 (lk [(0,.box (.d (ql c0))),(1,.box (.d (eK c1)))]) (fun rr oo => rr = .d (qM r) ∧ oo = lk [(0,.box (.d (ql c0))),(1,.box (.d (eK c1)))]) := by
 refine fnO Try.func72 rfl rfl (cwP ?_)
 unfold q72 at h
 refine cwS (cwR (
  .c (uA rfl)<|.nil rfl) ?_)
 have ⟨x0,hx0,h0⟩ := bdS h
 have hx0g := qA hx0
 have ⟨x1,hx1,h1⟩ := bdS (x := qv x0.1 c1) h0
 refine cwS (cwRA mixed (by kernel_rfl) (
  .c (uF rfl qP rfl)<|
  .c (uL [2] rfl ta44 rfl)<|
  .c (uM rfl)<|
  .c (qb1 (enc := qB) (xs := c0.2.2) rfl rfl .no rfl rfl sl44 sz69 hx0g.1 hx0g.2)<|
  .c (ql1 rfl rfl .no rfl q71 (by decide) rfl rfl)<|
  .c (o_ld rfl rfl .no rfl ta31 rfl rfl)<|
  .c (uL [] rfl ta31 rfl)<|
  .c (q50 rfl rfl .no Try.func43 rfl rfl (qd0 hx1) (.cons rfl .d (.cons rfl .d .nil)) ⟨trivial,trivial,trivial⟩ (.inl rfl))<|
  .c (uB rfl (qd1 _ _) rfl)<|
  .c (uA rfl)<|.nil rfl) (by kernel_rfl) ?_)
 have heq := ((sJ h1)).symm
 subst heq
 exact qu ⟨_,(show Leads _ _ (St.of [(4,.d (qM (decide (x1 > 0))))] [(0,.box (.d (ql c0))),(1,.box (.d (eK c1)))]) from .w (wkF ⟨wD rfl,trivial⟩ ⟨.box rfl (.d rfl),.box rfl (.d rfl),trivial⟩ (qw rfl))),.inr rfl,_,res1 rfl rfl,rfl,rfl⟩
theorem sort_Search_zB_ok {a0 : Int} {c0 : ttN} {c1 : List UInt8} {r : Int} (h : qK1 a0 c0 c1 = some r) : FnOk Try.prog 71 [.d (eint a0),.fn 72 [] [.ptr 0 0,.ptr 1 0]] 2 (lk [(0,.box (.d (ql c0))),(1,.box (.d (eK c1)))]) (fun rr oo => rr = .d (eint r) ∧ oo = lk [(0,.box (.d (ql c0))),(1,.box (.d (eK c1)))]) := by
 refine fnO Try.func71 rfl rfl (cwP ?_)
 unfold qK1 at h
 refine cwS (cwR (
  .c (uA rfl)<|.nil rfl) ?_)
 refine cwS (cwR (
  .c (uM rfl)<|
  .c (uA rfl)<|
  .c (uA rfl)<|.nil rfl) ?_)
 have ⟨o0,hj0,h0⟩ := bdS h
 refine cwJ (fun (z : Int) => St.of [(5,.d (eint z))] [(0,.box (.d (ql c0))),(1,.box (.d (eK c1)))]) (fun (z : Int) => o0 = z) ?_ ?_
 ·intro v0 hv0; subst hv0
  refine cwS (cwR (
   .c (uM rfl)<|
   .c (uA rfl)<|.nil rfl) ?_)
  have heq := ((sJ h0)).symm
  subst heq
  exact qu ⟨_,(show Leads _ _ (St.of [(4,.d (eint o0))] [(0,.box (.d (ql c0))),(1,.box (.d (eK c1)))]) from .w (wkF ⟨wD rfl,trivial⟩ ⟨.box rfl (.d rfl),.box rfl (.d rfl),trivial⟩ (qw rfl))),.inr rfl,_,res1 rfl rfl,rfl,rfl⟩
 refine cwB ?_
 refine qJ (V := (Int × Int)) (O := Int) (fun (z : (Int × Int)) => St.of [(1,.fn 72 [] [.ptr 0 0,.ptr 1 0]),(5,.d (eint z.1)),(6,.d (eint z.2))] [(0,.box (.d (ql c0))),(1,.box (.d (eK c1)))]) hj0 (.w (wkF ⟨⟨_,rfl,.fn .nil (.cons (.ptr rfl rfl) (.cons (.ptr rfl rfl) .nil))⟩,wD rfl,wD rfl,trivial⟩ ⟨.box rfl (.d rfl),.box rfl (.d rfl),trivial⟩ (qw rfl))) ?_
 intro v1 x0 hb0 hx0
 refine cwS ?_
 refine cwS (cwR (
  .c (uM rfl)<|
  .c (uM rfl)<|
  .c (uB rfl (qp0 _ _) rfl)<|.nil rfl) ?_)
 rcases cdS hb0 with ⟨hc0,h1⟩ | ⟨hc0,h2⟩
 ·refine cwT rfl hc0 ?_
  refine cwK ?_
  refine cwB ?_
  refine cwS (cwR (
   .c (uM rfl)<|
   .c (uM rfl)<|
   .c (uB rfl (qN0 _ _) rfl)<|
   .c (q75 rfl rfl .no rfl un3 un82)<|
   .c (uB rfl (b_shr _ _ (by decide)) rfl)<|
   .c (q75 rfl rfl .no rfl un82 un3)<|
   .c (uA rfl)<|.nil rfl) ?_)
  have ⟨x1,hx1,h3⟩ := bdS (x := q72 (IntKind.wrap .i64 (Int.fdiv (IntKind.wrap .u64 (IntKind.wrap .i64 (v1.1 + v1.2))) (2 ^ 1))) c0 c1) h1
  refine cwS (cwR (
   .c (uM rfl)<|
   .c (uM rfl)<|
   .c (o_callVX (ys := [.d (eint (IntKind.wrap .i64 (Int.fdiv (IntKind.wrap .u64 (IntKind.wrap .i64 (v1.1 + v1.2))) (2 ^ 1))))]) (zs := [.ptr 0 0,.ptr 1 0]) (fun n => bif Nat.beq n 0 then 0 else 1) rfl rfl .no rfl rfl Try.func72 rfl rfl (tree_below_1_ok hx1) (.cons rfl .d .nil) (qb3 [] rfl ⟨trivial,(by simp [AV.live,AV.lives,lk,Nat.beq]),(by simp [AV.live,AV.lives,lk,Nat.beq]),trivial⟩ ⟨⟨rfl,trivial⟩,⟨rfl,trivial⟩,trivial⟩ rfl rfl rfl trivial rfl) (.inl rfl))<|
   .c (uT rfl)<|.nil rfl) ?_)
  rcases cdS h3 with ⟨hc1,h4⟩ | ⟨hc1,h5⟩
  ·refine cwT rfl hc1 ?_
   refine cwR (
    .c (uM rfl)<|
    .c (uB rfl (qN0 _ _) rfl)<|
    .c (uA rfl)<|.nil rfl
   ) ?_
   exact ⟨((IntKind.wrap .i64 ((IntKind.wrap .i64 (Int.fdiv (IntKind.wrap .u64 (IntKind.wrap .i64 (v1.1 + v1.2))) (2 ^ 1))) + 1)),v1.2),(sJ h4),.w (wkF ⟨⟨_,rfl,.fn .nil (.cons (.ptr rfl rfl) (.cons (.ptr rfl rfl) .nil))⟩,wD rfl,wD rfl,trivial⟩ ⟨.box rfl (.d rfl),.box rfl (.d rfl),trivial⟩ (qw rfl))⟩
  refine cwF rfl hc1 ?_
  refine cwR (
   .c (uM rfl)<|
   .c (uA rfl)<|.nil rfl
  ) ?_
  exact ⟨(v1.1,(IntKind.wrap .i64 (Int.fdiv (IntKind.wrap .u64 (IntKind.wrap .i64 (v1.1 + v1.2))) (2 ^ 1)))),(sJ h5),.w (wkF ⟨⟨_,rfl,.fn .nil (.cons (.ptr rfl rfl) (.cons (.ptr rfl rfl) .nil))⟩,wD rfl,wD rfl,trivial⟩ ⟨.box rfl (.d rfl),.box rfl (.d rfl),trivial⟩ (qw rfl))⟩
 refine cwF rfl hc0 ?_
 refine qT ?_
 exact ⟨v1.1,(hx0 _ (sJ h2)).symm,.w (wkF ⟨wD rfl,trivial⟩ ⟨.box rfl (.d rfl),.box rfl (.d rfl),trivial⟩ (qw rfl))⟩
theorem tree_below_ok {a0 : ttN} {a1 : List UInt8} {r : Int} (h : qE2 a0 a1 = some r) : FnOk Try.prog 48 [.d (ql a0),.d (eK a1)] 0 (lk []) (fun rr oo => rr = .d (eint r) ∧ oo = lk []) := by
 refine fnO Try.func48 rfl rfl (cwP ?_)
 unfold qE2 at h
 refine cwS (cwR (
  .c (uX 0 rfl)<|
  .c (uX 1 rfl)<|
  .c (uA rfl)<|.nil rfl) ?_)
 have ⟨x0,hx0,h0⟩ := bdS (x := qK1 (a0.2.2.length : Int) a0 a1) h
 refine cwS (cwR (
  .c (uF rfl qP rfl)<|
  .c (uL [2] rfl ta44 rfl)<|
  .c (qD (enc := qB) (xs := a0.2.2) rfl rfl .no rfl sl44)<|
  .c (o_fn2 rfl rfl .no rfl rfl)<|
  .c (q00 (fun n => bif Nat.beq n 0 then 0 else 1) rfl rfl .no Try.func71 rfl rfl (sort_Search_zB_ok hx0) (.cons rfl .d (.cons rfl (.re rfl) .nil)) (qb3 [] rfl ⟨trivial,(by simp [AV.live,AV.lives,lk,Nat.beq]),trivial⟩ ⟨⟨rfl,trivial⟩,⟨rfl,trivial⟩,trivial⟩ rfl rfl rfl trivial rfl) (.inl rfl))<|
  .c (uB rfl (qs2 _ _) rfl)<|
  .c (o_max rfl rfl .no rfl rfl)<|
  .c (uA rfl)<|.nil rfl) ?_)
 have heq := ((sJ h0)).symm
 subst heq
 exact qu ⟨_,(show Leads _ _ (St.of [(4,.d (eint (max (IntKind.wrap .i64 (x0 - 1)) 0)))] []) from .w (wkF ⟨wD rfl,trivial⟩ trivial qx)),.inr rfl,_,res1 rfl rfl,rfl,rfl⟩
theorem tree_Get_o_ok {a0 : ttM} {a1 : Int} {a2 : List UInt8} {r : (ByteArray × Bool × Int × ttM)} (h : qW1 a0 a1 a2 = some r) : FnOk Try.prog 24 [.ifc 24 (.ptr 0 0),.d (eint a1),.d (eK a2)] 1 (lk [(0,.own (qc a0))]) (fun rr oo => rr = .tup [.d (eStr r.1),.d (qM r.2.1),.d (eErr r.2.2.1)] ∧ oo = lk [(0,.own (qc r.2.2.2))]) := by
 refine fnO Try.func24 rfl rfl (cwP ?_)
 unfold qW1 at h
 refine cwS (cwR (
  .c (uX 1 rfl)<|
  .c (uA rfl)<|
  .c (uA rfl)<|
  .c (uA rfl)<|.nil rfl) ?_)
 have ⟨o0,hj0,h0⟩ := bdS h
 refine cwJ (fun (z : ttM) => St.of [] [(0,.own (qc z))]) (fun (z : ttM) => o0 = (.inl z)) ?_ ?_
 ·intro v0 hv0; subst hv0
  simp only [Sum.elim_inl] at h0
  refine cwS (cwR (
   .c (uA rfl)<|
   .c (uA rfl)<|
   .c (uA rfl)<|.nil rfl) ?_)
  have heq := ((sJ h0)).symm
  subst heq
  exact qu ⟨_,(show Leads _ _ (St.of [(6,.d (eStr (ByteArray.mk #[]))),(7,.d (qM false)),(8,.d (eErr 0))] [(0,.own (qc v0))]) from .w (wkF ⟨wD rfl,wD rfl,wD rfl,trivial⟩ ⟨.own rfl (.of_eq rfl (q9 _)),trivial⟩ (qw rfl))),.inr rfl,_,res3 rfl rfl rfl rfl,rfl,rfl⟩
 refine cwS (cwR (
  .c (uM rfl)<|
  .c (uA rfl)<|.nil rfl) ?_)
 refine cwB ?_
 refine qJ (V := (Int × ttM)) (O := (ttM ⊕ (ByteArray × Bool × Int × ttM))) (fun (z : (Int × ttM)) => St.of [(0,.ifc 24 (.ptr 0 0)),(5,.ptr 1 0),(9,.d (eint z.1))] [(0,.own (qc z.2)),(1,.box (.d (eK a2)))]) hj0 (.w (wkF ⟨⟨_,rfl,.ifc (.ptro rfl rfl)⟩,⟨_,rfl,.ptr rfl rfl⟩,wD rfl,trivial⟩ ⟨.own rfl (.of_eq rfl (q9 _)),.box rfl (.d rfl),trivial⟩ (qw rfl))) ?_
 intro v1 x0 hb0 hx0
 refine cwS ?_
 refine cwS (cwR (
  .c (uM rfl)<|
  .c (uB rfl (qY2 _ _) rfl)<|.nil rfl) ?_)
 rcases cdS hb0 with ⟨hc0,h1⟩ | ⟨hc0,h2⟩
 ·refine cwT rfl hc0 ?_
  refine cwK ?_
  refine cwB ?_
  have ⟨x1,hx1,h3⟩ := bdS (x := qF v1.2 v1.1) h1
  refine cwS (cwR (
   .c (uM rfl)<|
   .c (uM rfl)<|
   .c (o_inv (fun n => bif Nat.beq n 0 then 0 else 2) rfl rfl .no rfl Try.func23 rfl rfl rfl qi4 (qu0 hx1) (.cons rfl (.p rfl) (.cons rfl .d .nil)) (by decide) (qb3 [1] rfl ⟨(by simp [AV.live,AV.lives,lk,Nat.beq]),trivial,trivial⟩ ⟨⟨rfl,(OD.dat_live (q9 _))⟩,trivial⟩ rfl rfl rfl ⟨rfl,trivial⟩ rfl) (.inl rfl))<|
   .c (uM rfl)<|
   .c (uE rfl)<|
   .c (uE rfl)<|
   .c (q30 3 rfl rfl .no ze46 rfl)<|
   .c (uS [] rfl sz46 rfl)<|
   .c (uA rfl)<|.nil rfl) ?_)
  refine cwS ?_
  refine cwS (cwR (
   .c (uM rfl)<|
   .c (uB rfl (qY2 _ _) rfl)<|.nil rfl) ?_)
  rcases cdS h3 with ⟨hc1,h4⟩ | ⟨hc1,h5⟩
  ·refine cwT rfl hc1 ?_
   refine cwS (cwR (
    .c (uM rfl)<|
    .c (uA rfl)<|
    .c (uA rfl)<|
    .c (uA rfl)<|.nil rfl) ?_)
   have he0 := ((hx0 _ (sJ h4)).symm).symm
   subst he0
   have heq := ((sJ h0)).symm
   subst heq
   exact qu ⟨_,(show Leads _ _ (St.of [(6,.d (eStr (ByteArray.mk #[]))),(7,.d (qM false)),(8,.d (eErr x1.2.1))] [(0,.own (qc x1.2.2))]) from .w (wkF ⟨wD rfl,wD rfl,wD rfl,trivial⟩ ⟨.own rfl (.of_eq rfl (q9 _)),trivial⟩ (qw rfl))),.inr rfl,_,res3 rfl rfl rfl rfl,rfl,rfl⟩
  refine cwF rfl hc1 ?_
  refine cwK ?_
  refine cwS ?_
  refine cwS (cwR (
   .c (uF rfl qP rfl)<|
   .c (uL [2] rfl ta44 rfl)<|
   .c (qD (enc := qB) (xs := x1.1.2.2) rfl rfl .no rfl sl44)<|
   .c (uB rfl (qd1 _ _) rfl)<|.nil rfl) ?_)
  rcases cdS h5 with ⟨hc2,h6⟩ | ⟨hc2,h7⟩
  ·refine cwT rfl hc2 ?_
   have ⟨x2,hx2,h8⟩ := bdS (x := qE2 x1.1 a2) h6
   have ⟨x3,hx3,h9⟩ := bdS h8
   have hx3g := qA hx3
   refine cwS (cwRA mixed (by kernel_rfl) (
    .c (uF rfl qP rfl)<|
    .c (uL [2] rfl ta44 rfl)<|
    .c (uL [] rfl ta46 rfl)<|
    .c (uL [] rfl ta31 rfl)<|
    .c (q50 rfl rfl .no Try.func48 rfl rfl (tree_below_ok hx2) (.cons rfl .d (.cons rfl .d .nil)) ⟨trivial,trivial,trivial⟩ (.inl rfl))<|
    .c (qb1 (enc := qB) (xs := x1.1.2.2) rfl rfl .no rfl rfl sl44 sz69 hx3g.1 hx3g.2)<|
    .c (ql1 rfl rfl .no rfl qR1 (by decide) rfl rfl)<|
    .c (o_ld rfl rfl .no rfl ta3 rfl rfl)<|
    .c (uA rfl)<|.nil rfl) (by kernel_rfl) ?_)
   refine qT ?_
   exact ⟨(x3.2,x1.2.2),(sJ h9),.w (wkF ⟨⟨_,rfl,.ifc (.ptro rfl rfl)⟩,⟨_,rfl,.ptr rfl rfl⟩,wD rfl,trivial⟩ ⟨.own rfl (.of_eq rfl (q9 _)),.box rfl (.d rfl),trivial⟩ (qw rfl))⟩
  refine cwF rfl hc2 ?_
  refine cwK ?_
  have ⟨o1,hj1,h10⟩ := bdS h7
  refine cwJ (fun (z : Unit) => St.of [(0,.ifc 24 (.ptr 0 0)),(5,.ptr 1 0)] [(0,.own (qc x1.2.2)),(1,.box (.d (eK a2)))]) (fun (z : Unit) => o1 = (.inl z)) ?_ ?_
  ·intro v2 hv1; subst hv1
   simp only [Sum.elim_inl] at h10
   refine cwR (
    .c (uA rfl)<|.nil rfl
   ) ?_
   exact ⟨(0,x1.2.2),(sJ h10),.w (wkF ⟨⟨_,rfl,.ifc (.ptro rfl rfl)⟩,⟨_,rfl,.ptr rfl rfl⟩,wD rfl,trivial⟩ ⟨.own rfl (.of_eq rfl (q9 _)),.box rfl (.d rfl),trivial⟩ (qw rfl))⟩
  refine cwS (cwR (
   .c (uF rfl qg0 rfl)<|
   .c (uL [1] rfl ta34 rfl)<|
   .c (qD (enc := ePr) (xs := x1.1.2.1) rfl rfl .no rfl sl34)<|
   .c (uM rfl)<|.nil rfl) ?_)
  refine cwB ?_
  refine qJ (V := Int) (O := (Unit ⊕ (ByteArray × Bool × Int × ttM))) (fun (z : Int) => St.of [(0,.ifc 24 (.ptr 0 0)),(5,.ptr 1 0),(39,.d (eSP_ x1.1.2.1)),(40,.d (eint (x1.1.2.1.length : Int))),(41,.d (eint z))] [(0,.own (qc x1.2.2)),(1,.box (.d (eK a2)))]) hj1 (.w (wkF ⟨⟨_,rfl,.ifc (.ptro rfl rfl)⟩,⟨_,rfl,.ptr rfl rfl⟩,wD rfl,wD rfl,wD rfl,trivial⟩ ⟨.own rfl (.of_eq rfl (q9 _)),.box rfl (.d rfl),trivial⟩ (qw rfl))) ?_
  intro v3 x4 hb1 hx4
  refine cwS (cwR (
   .c (uB rfl (qp0 _ _) rfl)<|.nil rfl) ?_)
  refine cwS ?_
  rcases cdS hb1 with ⟨hc3,h11⟩ | ⟨hc3,h12⟩
  ·refine cwT rfl hc3 ?_
   refine cwK ?_
   refine cwS ?_
   refine cwB ?_
   have ⟨x5,hx5,h13⟩ := bdS h11
   have hx5g := qA hx5
   refine cwS (cwR (
    .c (qb1 (enc := ePr) (xs := x1.1.2.1) rfl rfl .no rfl rfl sl34 sz52 hx5g.1 hx5g.2)<|
    .c (o_ld rfl rfl .no rfl ta52 rfl rfl)<|
    .c (q30 4 rfl rfl .no ze52 rfl)<|
    .c (uS [] rfl sz52 rfl)<|.nil rfl) ?_)
   refine cwS (cwR (
    .c (uF rfl q93 rfl)<|
    .c (uL [0] rfl ta31 rfl)<|
    .c (uL [] rfl ta31 rfl)<|
    .c (o_eq rfl rfl .no rfl rfl rfl rfl eg31 (.bs ar31 un5 sz5))<|.nil rfl) ?_)
   rcases cdS h13 with ⟨hc4,h14⟩ | ⟨hc4,h15⟩
   ·refine cwT rfl hc4 ?_
    refine cwS (cwR (
     .c (uF rfl fld52_1 rfl)<|
     .c (uL [1] rfl ta9 rfl)<|
     .c (uA rfl)<|
     .c (uA rfl)<|
     .c (uA rfl)<|.nil rfl) ?_)
    have he1 := ((hx4 _ (sJ h14)).symm).symm
    subst he1
    have he2 := ((hx0 _ (sJ h10)).symm).symm
    subst he2
    have heq := ((sJ h0)).symm
    subst heq
    exact qu ⟨_,(show Leads _ _ (St.of [(6,.d (eStr x5.2)),(7,.d (qM true)),(8,.d (eErr 0))] [(0,.own (qc x1.2.2))]) from .w (wkF ⟨wD rfl,wD rfl,wD rfl,trivial⟩ ⟨.own rfl (.of_eq rfl (q9 _)),trivial⟩ (qw rfl))),.inr rfl,_,res3 rfl rfl rfl rfl,rfl,rfl⟩
   refine cwF rfl hc4 ?_
   refine cwK ?_
   refine cwR (
    .c (uB rfl (qN0 _ _) rfl)<|
    .c (uM rfl)<|.nil rfl
   ) ?_
   exact ⟨(IntKind.wrap .i64 (v3 + 1)),(sJ h15),.w (wkF ⟨⟨_,rfl,.ifc (.ptro rfl rfl)⟩,⟨_,rfl,.ptr rfl rfl⟩,wD rfl,wD rfl,wD rfl,trivial⟩ ⟨.own rfl (.of_eq rfl (q9 _)),.box rfl (.d rfl),trivial⟩ (qw rfl))⟩
  refine cwF rfl hc3 ?_
  refine qT ?_
  exact ⟨(),(hx4 _ (sJ h12)).symm,.w (wkF ⟨⟨_,rfl,.ifc (.ptro rfl rfl)⟩,⟨_,rfl,.ptr rfl rfl⟩,trivial⟩ ⟨.own rfl (.of_eq rfl (q9 _)),.box rfl (.d rfl),trivial⟩ (qw rfl))⟩
 refine cwF rfl hc0 ?_
 refine qT ?_
 exact ⟨v1.2,(hx0 _ (sJ h2)).symm,.w (wkF trivial ⟨.own rfl (.of_eq rfl (q9 _)),trivial⟩ (qw rfl))⟩
theorem tree_Clone_o_ok {a0 : ttM} {a1 : Int} {r : (Int × ttM)} (h : qa2 a0 a1 = some r) : FnOk Try.prog 33 [.ifc 24 (.ptr 0 0),.d (eint a1)] 1 (lk [(0,.own (qc a0))]) (fun rr oo => rr = .d (eErr r.1) ∧ oo = lk [(0,.own (qc r.2))]) := by
 refine fnO Try.func33 rfl rfl (cwP ?_)
 unfold qa2 at h
 refine cwS (cwR (
  .c (uA rfl)<|.nil rfl) ?_)
 refine cwS ?_
 refine cwS (cwR (
  .c (uM rfl)<|
  .c (uB rfl (q80 _ _) rfl)<|.nil rfl) ?_)
 rcases cdS h with ⟨hc0,h0⟩ | ⟨hc0,h1⟩
 ·refine cwT rfl hc0 ?_
  refine cwS (cwR (
   .c (uA rfl)<|.nil rfl) ?_)
  have heq := ((sJ h0)).symm
  subst heq
  exact qu ⟨_,(show Leads _ _ (St.of [(4,.d (eErr 0))] [(0,.own (qc a0))]) from .w (wkF ⟨wD rfl,trivial⟩ ⟨.own rfl (.of_eq rfl (q9 _)),trivial⟩ (qw rfl))),.inr rfl,_,res1 rfl rfl,rfl,rfl⟩
 refine cwF rfl hc0 ?_
 refine cwK ?_
 have ⟨x0,hx0,h2⟩ := bdS (x := qx0 a0 a1) h1
 refine cwS (cwR (
  .c (uM rfl)<|
  .c (uM rfl)<|
  .c (o_inv (fun _ => 0) rfl rfl .no rfl Try.func119 rfl rfl rfl hm24_Inc (qd3 hx0) (.cons rfl (.p rfl) (.cons rfl .d .nil)) (by decide) (qc0 rfl ⟨(by simp [AV.live,lk,Nat.beq]),trivial,trivial⟩ rfl (OD.dat_live (q9 _)) (by simp)) (.inl rfl))<|
  .c (uA rfl)<|.nil rfl) ?_)
 have heq := ((sJ h2)).symm
 subst heq
 exact qu ⟨_,(show Leads _ _ (St.of [(4,.d (eErr x0.1))] [(0,.own (qc x0.2))]) from .w (wkF ⟨wD rfl,trivial⟩ ⟨.own rfl (.of_eq rfl (q9 _)),trivial⟩ (qw rfl))),.inr rfl,_,res1 rfl rfl,rfl,rfl⟩
end
end Go.Val
