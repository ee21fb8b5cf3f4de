/- Walks of the program's functions,printed. -/
import Derived.Test.YthipaajmgfnagaaGreatDoorWa
set_option linter.unusedSectionVars false
set_option linter.unusedVariables false
set_option linter.unusedSimpArgs false
set_option maxRecDepth 100000
namespace Go.Val
open Go.RowKit Go.Proofs
section
variable [Drw]
noncomputable def qH (a0 : List (B8 × ByteArray)) (a1 : List UInt8) : Option (Int × Bool) := (((qA (V := (Int × Int)) (O := Int) (fun v0 => cond (decide (v0.1 < v0.2)) ((gx a0 (IntKind.wrap .i64 (Int.fdiv (IntKind.wrap .u64 (IntKind.wrap .i64 (v0.1 + v0.2))) (2 ^ 1)))).bind fun x0 => (qS0 x0 a1).bind fun x1 => cond (decide (x1 < 0)) (
     some (.inl ((IntKind.wrap .i64 ((IntKind.wrap .i64 (Int.fdiv (IntKind.wrap .u64 (IntKind.wrap .i64 (v0.1 + v0.2))) (2 ^ 1))) + 1)),v0.2))) (some (.inl (v0.1,(IntKind.wrap .i64 (Int.fdiv (IntKind.wrap .u64 (IntKind.wrap .i64 (v0.1 + v0.2))) (2 ^ 1))))))) (some (.inr v0.1))) (0,(a0.length : Int))) : Option Int)).bind fun o0 => (((cond (decide (o0 < (a0.length : Int))) (
   (gx a0 o0).bind fun x2 => (qS0 x2 a1).bind fun x3 => some (decide (x3 = 0))) (some false)) : Option Bool)).bind fun o1 => some (o0,o1)
noncomputable def qK0 (a0 : List (B8 × ByteArray)) (a1 : List UInt8) : Option (Int × Bool) := (qH a0 a1).bind fun x0 => some (x0.1,x0.2)
noncomputable def qX0 (a0 : (List (B8 × ByteArray))) (a1 : List UInt8) : Option (ByteArray × Bool × Int) := (qK0 a0 a1).bind fun x0 => cond (!x0.2) (some ((ByteArray.mk #[]),false,0)) ((gx a0 x0.1).bind fun x1 => some (x1.2,true,0))
noncomputable def key_In (a0 : (B8 × B8 × Bool)) (a1 : List UInt8) : Option Bool := ((((qw a1 a0.1).bind fun x0 => cond (decide (x0 ≥ 0)) (cond a0.2.2 (some true) ((qw a1 a0.2.1).bind fun x1 => some (decide (x1 < 0)))) (some false)) : Option Bool)).bind fun o0 => some o0
noncomputable def qC0 (a0 : (B8 × B8 × Bool)) : Option ((B8 × Bool) × (B8 × Bool)) := cond a0.2.2 (some ((a0.1,false),((List.replicate 24 0),true))) (some ((a0.1,false),(a0.2.1,false)))
noncomputable def qv (a0 : (B8 × Bool)) (a1 : (B8 × Bool)) : Option Int := (((cond a0.2 (some a1.2) (some false)) : Option Bool)).bind fun o0 => cond o0 (some 0) (cond a0.2 (some 1) (cond a1.2 (some (-1)) ((qw a0.1 a1.1).bind fun x0 => some x0)))
noncomputable def qu2 (a0 : (B8 × Bool)) (a1 : (B8 × Bool)) : Option (B8 × B8 × Bool) := some (a0.1,a1.1,a1.2)
noncomputable def ql0 (a0 : (B8 × B8 × Bool)) : Option Bool := (qC0 a0).bind fun x0 => (qv x0.1 x0.2).bind fun x1 => some (decide (x1 ≥ 0))
noncomputable def span_Clean_2 (a0 : (B8 × B8 × Bool)) (a1 : (B8 × B8 × Bool)) : Option Int := (qw a0.1 a1.1).bind fun x0 => some x0
noncomputable def qu0 (a0 : List (B8 × B8 × Bool)) : Option Int := (((qA (V := Int) (O := (Unit ⊕ Int)) (fun v0 => cond (decide (v0 < (a0.length : Int))) ((gx a0 v0).bind fun x0 => (ql0 x0).bind fun x1 => cond x1 (some (.inr (.inr v0))) (some (.inl (IntKind.wrap .i64 (v0 + 1))))) (some (.inr (.inl ())))) 0) : Option (Unit ⊕ Int))).bind fun o0 =>
 Sum.elim (fun (v1 : Unit) => some (-1)) (fun w0 => some w0) o0
noncomputable def qP4 (a0 : List UInt8) : Option (B8 × B8 × Bool) := (((qA (V := (Int × (B8 × B8 × Bool))) (O := (Unit ⊕ (B8 × B8 × Bool))) (fun v0 => cond (decide (v0.1 ≥ 0)) ((ck (decide (0 ≤ v0.1 ∧ v0.1 < 24))).bind fun _ => (gx v0.2.2.1 v0.1).bind fun x0 => (ck (decide (v0.1.toNat < v0.2.2.1.length))).bind fun _ =>
    (ck (decide (0 ≤ (IntKind.wrap .u8 ((x0.toNat : Int) + 1)) ∧ (IntKind.wrap .u8 ((x0.toNat : Int) + 1)) < 256))).bind fun _ => (gx (List.set v0.2.2.1 v0.1.toNat (UInt8.ofNat (IntKind.wrap .u8 ((x0.toNat : Int) + 1)).toNat)) v0.1).bind fun x1 => cond (decide ((x1.toNat : Int) ≠ 0)) (
     some (.inr (.inr (v0.2.1,(List.set v0.2.2.1 v0.1.toNat (UInt8.ofNat (IntKind.wrap .u8 ((x0.toNat : Int) + 1)).toNat)),v0.2.2.2)))) (some (.inl ((IntKind.wrap .i64 (v0.1 - 1)),(v0.2.1,(List.set v0.2.2.1 v0.1.toNat (UInt8.ofNat (IntKind.wrap .u8 ((x0.toNat : Int) + 1)).toNat)),v0.2.2.2))))) (some (.inr (.inl ())))) (23,(a0,a0,false))
 ) : Option (Unit ⊕ (B8 × B8 × Bool)))).bind fun o0 => Sum.elim (fun (v1 : Unit) => some (a0,(List.replicate 24 0),true)) (fun w0 => some w0) o0
noncomputable def qT2 (a0 : (B8 × B8 × Bool)) (a1 : List UInt8) : Option Bool := (((cond (!Op.bytesLess (qi1 a1).data.toList (qi1 a0.1).data.toList) (cond a0.2.2 (some true) (some (Op.bytesLess (qi1 a1).data.toList (qi1 a0.2.1).data.toList))) (some false)) : Option Bool)).bind fun o0 => some o0
noncomputable def qA3 (a0 : List (B8 × B8 × Bool)) (a1 : List UInt8) : Option Bool := (((qA (V := Int) (O := (Unit ⊕ Bool)) (fun v0 => cond (decide (v0 < (a0.length : Int))) ((gx a0 v0).bind fun x0 => (qT2 x0 a1).bind fun x1 => cond x1 (some (.inr (.inr true))) (some (.inl (IntKind.wrap .i64 (v0 + 1))))) (some (.inr (.inl ())))) 0) : Option (Unit ⊕ Bool))).bind fun o0 =>
 Sum.elim (fun (v1 : Unit) => some false) (fun w0 => some w0) o0
theorem qD2 {a0 : List (B8 × ByteArray)} {a1 : List UInt8} {r : (Int × Bool)} (h : qH a0 a1 = some r) : FnOk Tryz.prog 204 [.d (eSP_ a0),.d (eK a1),.fn 205 [] []] 0 (lk []) (fun rr oo => rr = .tup [.d (eint r.1),.d (qz r.2)] ∧ oo = lk []) := by
 refine fnO Tryz.func204 rfl rfl (cwP ?_)
 unfold qH at h
 refine cwS (cwR (
  .c (uX 0 rfl)<|
  .c (uA rfl)<|
  .c (uA rfl)<|.nil rfl) ?_)
 refine cwS (cwR (
  .c (uM rfl)<|
  .c (qo0 (enc := ePr) (xs := a0) rfl rfl .no rfl sl35)<|
  .c (uA rfl)<|.nil rfl) ?_)
 refine cwS (cwR (
  .c (uM rfl)<|
  .c (uA rfl)<|
  .c (uA rfl)<|.nil rfl) ?_)
 have ⟨o0,hj0,h0⟩ := bdS h
 refine cwJ (fun (z : Int) => St.of [(0,.d (eSP_ a0)),(2,.fn 205 [] []),(4,.ptr 0 0),(8,.d (eint (a0.length : Int))),(9,.d (eint z))] [(0,.box (.d (eK a1)))]) (fun (z : Int) => o0 = z) ?_ ?_
 ·intro v0 hv0; subst hv0
  have ⟨o1,hj1,h1⟩ := bdS h0
  refine cwJ (fun (z : Bool) => St.of [(6,.d (eint o0)),(7,.d (qz z))] []) (fun (z : Bool) => o1 = z) ?_ ?_
  ·intro v1 hv1; subst hv1
   have heq := ((sJ h1)).symm
   subst heq
   exact qe ⟨_,(show Leads _ _ (St.of [(6,.d (eint o0)),(7,.d (qz o1))] []) from .w (wkF ⟨wD rfl,wD rfl,trivial⟩ trivial qd)),.inr rfl,_,res2 rfl rfl rfl,rfl,rfl⟩
  rcases cdS hj1 with ⟨hc0,h2⟩ | ⟨hc0,h3⟩
  ·skip
   have ⟨x0,hx0,h4⟩ := bdS h2
   have hx0g := qn hx0
   have ⟨x1,hx1,h5⟩ := bdS (x := qS0 x0 a1) h4
   refine cwRA mixed (by kernel_rfl) (
    .c (uM rfl)<|
    .c (uM rfl)<|
    .c (uM rfl)<|
    .c (uB rfl (q31 _ _) rfl)<|
    .c (uM rfl)<|
    .c (o_mv rfl rfl (.yes rfl rfl hc0) rfl)<|
    .c (o_mv rfl rfl (.yes rfl rfl hc0) rfl)<|
    .c (o_mv rfl rfl (.yes rfl rfl hc0) rfl)<|
    .c (qZ1 (enc := ePr) (xs := a0) rfl rfl (.yes rfl rfl hc0) rfl rfl sl35 sz47 hx0g.1 hx0g.2)<|
    .c (o_ld rfl rfl (.yes rfl rfl hc0) rfl ta47 rfl rfl)<|
    .c (ql [] rfl rfl (.yes rfl rfl hc0) rfl rfl rfl ta39 rfl rfl)<|
    .c (o_callV rfl rfl (.yes rfl rfl hc0) rfl Tryz.func205 rfl rfl (qH3 hx1) (.cons rfl .d (.cons rfl .d .nil)) ⟨trivial,trivial,trivial⟩ (.inl rfl))<|
    .c (qc rfl rfl (.yes rfl rfl hc0) rfl rfl (q43 _ _) rfl)<|
    .c (uPT rfl hc0)<|
    .c (uA rfl)<|
    .c (uA rfl)<|.nil rfl) (by kernel_rfl) ?_
   exact ⟨(decide (x1 = 0)),(sJ h5),.w (wkF ⟨wD rfl,wD rfl,trivial⟩ trivial qd)⟩
  refine cwRA mixed (by kernel_rfl) (
   .c (uM rfl)<|
   .c (uM rfl)<|
   .c (uM rfl)<|
   .c (uB rfl (q31 _ _) rfl)<|
   .c (uM rfl)<|
   .c (uN rfl rfl hc0)<|
   .c (uN rfl rfl hc0)<|
   .c (uN rfl rfl hc0)<|
   .c (uN rfl rfl hc0)<|
   .c (uN rfl rfl hc0)<|
   .c (uN rfl rfl hc0)<|
   .c (uN rfl rfl hc0)<|
   .c (uN rfl rfl hc0)<|
   .c (uPF rfl hc0)<|
   .c (uA rfl)<|
   .c (uA rfl)<|.nil rfl) (by kernel_rfl) ?_
  exact ⟨false,(sJ h3),.w (wkF ⟨wD rfl,wD rfl,trivial⟩ trivial qd)⟩
 refine cwB ?_
 refine qr (V := (Int × Int)) (O := Int) (fun (z : (Int × Int)) => St.of [(0,.d (eSP_ a0)),(2,.fn 205 [] []),(4,.ptr 0 0),(8,.d (eint (a0.length : Int))),(9,.d (eint z.1)),(10,.d (eint z.2))] [(0,.box (.d (eK a1)))]) hj0 (.w (wkF ⟨wD rfl,⟨_,rfl,.fn .nil .nil⟩,⟨_,rfl,.ptr rfl rfl⟩,wD rfl,wD rfl,wD rfl,trivial⟩ ⟨.box rfl (.d rfl),trivial⟩ qd)) ?_
 intro v2 x2 hb0 hx2
 refine cwS ?_
 refine cwS (cwR (
  .c (uM rfl)<|
  .c (uM rfl)<|
  .c (uB rfl (q31 _ _) rfl)<|.nil rfl) ?_)
 rcases cdS hb0 with ⟨hc1,h6⟩ | ⟨hc1,h7⟩
 ·refine cwT rfl hc1 ?_
  refine cwK ?_
  refine cwB ?_
  refine cwS (cwR (
   .c (uM rfl)<|
   .c (uM rfl)<|
   .c (uB rfl (q61 _ _) rfl)<|
   .c (qU1 rfl rfl .no rfl un3 un126)<|
   .c (uB rfl (b_shr _ _ (by decide)) rfl)<|
   .c (qU1 rfl rfl .no rfl un126 un3)<|
   .c (uA rfl)<|.nil rfl) ?_)
  have ⟨x3,hx3,h8⟩ := bdS h6
  have hx3g := qn hx3
  have ⟨x4,hx4,h9⟩ := bdS (x := qS0 x3 a1) h8
  refine cwS (cwRA mixed (by kernel_rfl) (
   .c (uM rfl)<|
   .c (uM rfl)<|
   .c (uM rfl)<|
   .c (qZ1 (enc := ePr) (xs := a0) rfl rfl .no rfl rfl sl35 sz47 hx3g.1 hx3g.2)<|
   .c (o_ld rfl rfl .no rfl ta47 rfl rfl)<|
   .c (uL [] rfl ta39 rfl)<|
   .c (o_callV rfl rfl .no rfl Tryz.func205 rfl rfl (qH3 hx4) (.cons rfl .d (.cons rfl .d .nil)) ⟨trivial,trivial,trivial⟩ (.inl rfl))<|
   .c (uB rfl (q31 _ _) rfl)<|.nil rfl) (by kernel_rfl) ?_)
  rcases cdS h9 with ⟨hc2,h10⟩ | ⟨hc2,h11⟩
  ·refine cwT rfl hc2 ?_
   refine cwR (
    .c (uM rfl)<|
    .c (uB rfl (q61 _ _) rfl)<|
    .c (uA rfl)<|.nil rfl
   ) ?_
   exact ⟨((IntKind.wrap .i64 ((IntKind.wrap .i64 (Int.fdiv (IntKind.wrap .u64 (IntKind.wrap .i64 (v2.1 + v2.2))) (2 ^ 1))) + 1)),v2.2),(sJ h10),.w (wkF ⟨wD rfl,⟨_,rfl,.fn .nil .nil⟩,⟨_,rfl,.ptr rfl rfl⟩,wD rfl,wD rfl,wD rfl,trivial⟩ ⟨.box rfl (.d rfl),trivial⟩ qd)⟩
  refine cwF rfl hc2 ?_
  refine cwR (
   .c (uM rfl)<|
   .c (uA rfl)<|.nil rfl
  ) ?_
  exact ⟨(v2.1,(IntKind.wrap .i64 (Int.fdiv (IntKind.wrap .u64 (IntKind.wrap .i64 (v2.1 + v2.2))) (2 ^ 1)))),(sJ h11),.w (wkF ⟨wD rfl,⟨_,rfl,.fn .nil .nil⟩,⟨_,rfl,.ptr rfl rfl⟩,wD rfl,wD rfl,wD rfl,trivial⟩ ⟨.box rfl (.d rfl),trivial⟩ qd)⟩
 refine cwF rfl hc1 ?_
 refine qG ?_
 exact ⟨v2.1,(hx2 _ (sJ h7)).symm,.w (wkF ⟨wD rfl,⟨_,rfl,.fn .nil .nil⟩,⟨_,rfl,.ptr rfl rfl⟩,wD rfl,wD rfl,trivial⟩ ⟨.box rfl (.d rfl),trivial⟩ qd)⟩
theorem qg3 {a0 : List (B8 × ByteArray)} {a1 : List UInt8} {r : (Int × Bool)} (h : qK0 a0 a1 = some r) : FnOk Tryz.prog 202 [.d (eSP_ a0),.d (eK a1)] 0 (lk []) (fun rr oo => rr = .tup [.d (eint r.1),.d (qz r.2)] ∧ oo = lk []) := by
 refine fnO Tryz.func202 rfl rfl (cwP ?_)
 unfold qK0 at h
 refine cwS (cwR (
  .c (uX 0 rfl)<|
  .c (uA rfl)<|
  .c (uA rfl)<|.nil rfl) ?_)
 have ⟨x0,hx0,h0⟩ := bdS (x := qH a0 a1) h
 refine cwS (cwR (
  .c (uM rfl)<|
  .c (uL [] rfl ta39 rfl)<|
  .c (qj rfl rfl .no Tryz.func204 rfl rfl (qD2 hx0) (.cons rfl .d (.cons rfl .d (.cons rfl .f0 .nil))) ⟨trivial,trivial,(by simp [AV.live,AV.lives]),trivial⟩ (.inl rfl))<|
  .c (uE rfl)<|
  .c (uE rfl)<|
  .c (uA rfl)<|
  .c (uA rfl)<|.nil rfl) ?_)
 have heq := ((sJ h0)).symm
 subst heq
 exact qe ⟨_,(show Leads _ _ (St.of [(4,.d (eint x0.1)),(5,.d (qz x0.2))] []) from .w (wkF ⟨wD rfl,wD rfl,trivial⟩ trivial qd)),.inr rfl,_,res2 rfl rfl rfl,rfl,rfl⟩
theorem view_Plain_Get_ok {a0 : (List (B8 × ByteArray))} {a1 : List UInt8} {r : (ByteArray × Bool × Int)} (h : qX0 a0 a1 = some r) : FnOk Tryz.prog 199 [.d (qE4 a0),.d (eK a1)] 0 (lk []) (fun rr oo => rr = .tup [.d (eStr r.1),.d (qz r.2.1),.d (eErr r.2.2)] ∧ oo = lk []) := by
 refine fnO Tryz.func199 rfl rfl (cwP ?_)
 unfold qX0 at h
 refine cwS (cwR (
  .c (uX 0 rfl)<|
  .c (uA rfl)<|
  .c (uA rfl)<|
  .c (uA rfl)<|.nil rfl) ?_)
 have ⟨x0,hx0,h0⟩ := bdS (x := qK0 a0 a1) h
 refine cwS (cwRA mixed (by kernel_rfl) (
  .c (uM rfl)<|
  .c (o_nilA rfl rfl .no rfl)<|
  .c (qT4 rfl rfl .no rfl qG4 (by decide) rfl rfl)<|
  .c (o_ld rfl rfl .no rfl ta35 rfl rfl)<|
  .c (uL [] rfl ta39 rfl)<|
  .c (qj rfl rfl .no Tryz.func202 rfl rfl (qg3 hx0) (.cons rfl .d (.cons rfl .d .nil)) ⟨trivial,trivial,trivial⟩ (.inl rfl))<|
  .c (uM rfl)<|
  .c (uE rfl)<|
  .c (uE rfl)<|
  .c (uA rfl)<|
  .c (uA rfl)<|.nil rfl) (by kernel_rfl) ?_)
 refine cwS ?_
 refine cwS (cwR (
  .c (uM rfl)<|
  .c (uT rfl)<|.nil rfl) ?_)
 rcases cdS h0 with ⟨hc0,h1⟩ | ⟨hc0,h2⟩
 ·refine cwT rfl hc0 ?_
  refine cwS (cwR (
   .c (uA rfl)<|
   .c (uA rfl)<|
   .c (uA rfl)<|.nil rfl) ?_)
  have heq := ((sJ h1)).symm
  subst heq
  exact qe ⟨_,(show Leads _ _ (St.of [(4,.d (eStr (ByteArray.mk #[]))),(5,.d (qz false)),(6,.d (eErr 0))] []) from .w (wkF ⟨wD rfl,wD rfl,wD rfl,trivial⟩ trivial qd)),.inr rfl,_,res3 rfl rfl rfl rfl,rfl,rfl⟩
 refine cwF rfl hc0 ?_
 refine cwK ?_
 have ⟨x1,hx1,h3⟩ := bdS h2
 have hx1g := qn hx1
 refine cwS (cwR (
  .c (uM rfl)<|
  .c (o_nilA rfl rfl .no rfl)<|
  .c (qT4 rfl rfl .no rfl qG4 (by decide) rfl rfl)<|
  .c (o_ld rfl rfl .no rfl ta35 rfl rfl)<|
  .c (uM rfl)<|
  .c (qZ1 (enc := ePr) (xs := a0) rfl rfl .no rfl rfl sl35 sz47 hx1g.1 hx1g.2)<|
  .c (qT4 rfl rfl .no rfl qm3 (by decide) rfl rfl)<|
  .c (o_ld rfl rfl .no rfl ta9 rfl rfl)<|
  .c (uA rfl)<|
  .c (uA rfl)<|
  .c (uA rfl)<|.nil rfl) ?_)
 have heq := ((sJ h3)).symm
 subst heq
 exact qe ⟨_,(show Leads _ _ (St.of [(4,.d (eStr x1.2)),(5,.d (qz true)),(6,.d (eErr 0))] []) from .w (wkF ⟨wD rfl,wD rfl,wD rfl,trivial⟩ trivial qd)),.inr rfl,_,res3 rfl rfl rfl rfl,rfl,rfl⟩
theorem key_In_ok {a0 : (B8 × B8 × Bool)} {a1 : List UInt8} {r : Bool} (h : key_In a0 a1 = some r) : FnOk Tryz.prog 36 [.d (eSp a0),.d (eK a1)] 0 (lk []) (fun rr oo => rr = .d (qz r) ∧ oo = lk []) := by
 refine fnO Tryz.func36 rfl rfl (cwP ?_)
 unfold key_In at h
 refine cwS (cwR (
  .c (uX 0 rfl)<|
  .c (uX 1 rfl)<|
  .c (uA rfl)<|.nil rfl) ?_)
 have ⟨o0,hj0,h0⟩ := bdS h
 refine cwJ (fun (z : Bool) => St.of [(4,.d (qz z))] []) (fun (z : Bool) => o0 = z) ?_ ?_
 ·intro v0 hv0; subst hv0
  have heq := ((sJ h0)).symm
  subst heq
  exact qe ⟨_,(show Leads _ _ (St.of [(4,.d (qz o0))] []) from .w (wkF ⟨wD rfl,trivial⟩ trivial qd)),.inr rfl,_,res1 rfl rfl,rfl,rfl⟩
 have ⟨x0,hx0,h1⟩ := bdS (x := qw a1 a0.1) hj0
 rcases cdS h1 with ⟨hc0,h2⟩ | ⟨hc0,h3⟩
 ·skip
  rcases cdS h2 with ⟨hc1,h4⟩ | ⟨hc1,h5⟩
  ·skip
   refine cwRA mixed (by kernel_rfl) (
    .c (qR3 rfl rfl .no rfl ar39 sz5 .no .no (by decide) (by decide) (by decide))<|
    .c (uF rfl qq2 rfl)<|
    .c (qR3 rfl rfl .no rfl ar39 sz5 .no .no (by decide) (by decide) (by decide))<|
    .c (qj rfl rfl .no Tryz.func68 rfl rfl (qR hx0) (.cons rfl (.bsl [] rfl rfl rfl) (.cons rfl (.bsl [0] rfl rfl rfl) .nil)) ⟨trivial,trivial,trivial⟩ (.inr (DFlat.v _)))<|
    .c (uB rfl (qD4 _ _) rfl)<|
    .c (uM rfl)<|
    .c (qf rfl rfl (.yes rfl rfl hc0) rfl qO4 (by decide))<|
    .c (ql [2] rfl rfl (.yes rfl rfl hc0) rfl rfl rfl ta4 rfl rfl)<|
    .c (o_mv rfl rfl (.yes rfl rfl hc0) rfl)<|
    .c (uN rfl rfl hc1)<|
    .c (uN rfl rfl hc1)<|
    .c (uN rfl rfl hc1)<|
    .c (uN rfl rfl hc1)<|
    .c (uN rfl rfl hc1)<|
    .c (qh rfl rfl (.yes rfl rfl hc0) rfl hc1 rfl)<|
    .c (uPT rfl hc0)<|
    .c (uA rfl)<|.nil rfl) (by kernel_rfl) ?_
   exact ⟨true,(sJ h4),.w (wkF ⟨wD rfl,trivial⟩ trivial qd)⟩
  have ⟨x1,hx1,h6⟩ := bdS (x := qw a1 a0.2.1) h5
  refine cwRA mixed (by kernel_rfl) (
   .c (qR3 rfl rfl .no rfl ar39 sz5 .no .no (by decide) (by decide) (by decide))<|
   .c (uF rfl qq2 rfl)<|
   .c (qR3 rfl rfl .no rfl ar39 sz5 .no .no (by decide) (by decide) (by decide))<|
   .c (qj rfl rfl .no Tryz.func68 rfl rfl (qR hx0) (.cons rfl (.bsl [] rfl rfl rfl) (.cons rfl (.bsl [0] rfl rfl rfl) .nil)) ⟨trivial,trivial,trivial⟩ (.inr (DFlat.v _)))<|
   .c (uB rfl (qD4 _ _) rfl)<|
   .c (uM rfl)<|
   .c (qf rfl rfl (.yes rfl rfl hc0) rfl qO4 (by decide))<|
   .c (ql [2] rfl rfl (.yes rfl rfl hc0) rfl rfl rfl ta4 rfl rfl)<|
   .c (o_mv rfl rfl (.yes rfl rfl hc0) rfl)<|
   .c (qR3 rfl rfl (.yes rfl rfl hc1) rfl ar39 sz5 .no .no (by decide) (by decide) (by decide))<|
   .c (qf rfl rfl (.yes rfl rfl hc1) rfl qm4 (by decide))<|
   .c (qR3 rfl rfl (.yes rfl rfl hc1) rfl ar39 sz5 .no .no (by decide) (by decide) (by decide))<|
   .c (qj rfl rfl (.yes rfl rfl hc1) Tryz.func68 rfl rfl (qR hx1) (.cons rfl (.bsl [] rfl rfl rfl) (.cons rfl (.bsl [1] rfl rfl rfl) .nil)) ⟨trivial,trivial,trivial⟩ (.inr (DFlat.v _)))<|
   .c (qc rfl rfl (.yes rfl rfl hc1) rfl rfl (q31 _ _) rfl)<|
   .c (qi rfl rfl (.yes rfl rfl hc0) rfl hc1 rfl)<|
   .c (uPT rfl hc0)<|
   .c (uA rfl)<|.nil rfl) (by kernel_rfl) ?_
  exact ⟨(decide (x1 < 0)),(sJ h6),.w (wkF ⟨wD rfl,trivial⟩ trivial qd)⟩
 refine cwRA mixed (by kernel_rfl) (
  .c (qR3 rfl rfl .no rfl ar39 sz5 .no .no (by decide) (by decide) (by decide))<|
  .c (uF rfl qq2 rfl)<|
  .c (qR3 rfl rfl .no rfl ar39 sz5 .no .no (by decide) (by decide) (by decide))<|
  .c (qj rfl rfl .no Tryz.func68 rfl rfl (qR hx0) (.cons rfl (.bsl [] rfl rfl rfl) (.cons rfl (.bsl [0] rfl rfl rfl) .nil)) ⟨trivial,trivial,trivial⟩ (.inr (DFlat.v _)))<|
  .c (uB rfl (qD4 _ _) rfl)<|
  .c (uM rfl)<|
  .c (uN rfl rfl hc0)<|
  .c (uN rfl rfl hc0)<|
  .c (uN rfl rfl hc0)<|
  .c (o_noU rfl rfl rfl rfl)<|
  .c (o_noU rfl rfl rfl rfl)<|
  .c (o_noU rfl rfl rfl rfl)<|
  .c (o_noU rfl rfl rfl rfl)<|
  .c (o_noU rfl rfl rfl rfl)<|
  .c (uN rfl rfl hc0)<|
  .c (uPF rfl hc0)<|
  .c (uA rfl)<|.nil rfl) (by kernel_rfl) ?_
 exact ⟨false,(sJ h3),.w (wkF ⟨wD rfl,trivial⟩ trivial qd)⟩
theorem span_bounds_okc {a0 : (B8 × B8 × Bool)} {r : ((B8 × Bool) × (B8 × Bool))} (h : qC0 a0 = some r) : FnOk Tryz.prog 102 [.d (eSp a0)] 0 (lk []) (fun rr oo => rr = .tup [.d (qB r.1),.d (qB r.2)] ∧ oo = lk [(1,.box (.d (qB r.1))),(2,.box (.d (qB r.2)))]) := by
 refine fnO Tryz.func102 rfl rfl (cwP ?_)
 unfold qC0 at h
 refine cwS (cwR (
  .c (uX 0 rfl)<|
  .c (qm 1 rfl rfl .no ze159 rfl)<|
  .c (qm 2 rfl rfl .no ze159 rfl)<|.nil rfl) ?_)
 refine cwS ?_
 refine cwS (cwR (
  .c (uF rfl qO4 rfl)<|
  .c (uL [2] rfl ta4 rfl)<|.nil rfl) ?_)
 rcases cdS h with ⟨hc0,h0⟩ | ⟨hc0,h1⟩
 ·refine cwT rfl hc0 ?_
  refine cwS (cwR (
   .c (uF rfl qq2 rfl)<|
   .c (uL [0] rfl ta39 rfl)<|
   .c (qL4 (ds := [eK a0.1,qz false]) rfl rfl .no zs159 rfl pl159 (.cons rfl rfl rfl rfl rfl rfl rfl .nil))<|
   .c (qL4 (ds := [eK (List.replicate 24 0),qz true]) rfl rfl .no zs159 rfl pl159 (.cons rfl rfl rfl rfl rfl rfl rfl .nil))<|
   .c (uS [] rfl sz159 rfl)<|
   .c (uS [] rfl sz159 rfl)<|.nil rfl) ?_)
  have heq := ((sJ h0)).symm
  subst heq
  exact qe ⟨_,(show Leads _ _ (St.of [(2,.ptr 1 0),(3,.ptr 2 0)] [(1,.box (.d (qB (a0.1,false)))),(2,.box (.d (qB ((List.replicate 24 0),true))))]) from .w (wkF ⟨⟨_,rfl,.ptr rfl rfl⟩,⟨_,rfl,.ptr rfl rfl⟩,trivial⟩ ⟨.box rfl (.d rfl),.box rfl (.d rfl),trivial⟩ qd)),.inr rfl,_,resCC rfl rfl rfl qh5 rfl rfl rfl rfl qh5 rfl rfl,rfl,rfl⟩
 refine cwF rfl hc0 ?_
 refine cwK ?_
 refine cwS (cwRA mixed (by kernel_rfl) (
  .c (uF rfl qq2 rfl)<|
  .c (uL [0] rfl ta39 rfl)<|
  .c (qL4 (ds := [eK a0.1,qz false]) rfl rfl .no zs159 rfl pl159 (.cons rfl rfl rfl rfl rfl rfl rfl .nil))<|
  .c (uF rfl qm4 rfl)<|
  .c (uL [1] rfl ta39 rfl)<|
  .c (qL4 (ds := [eK a0.2.1,qz false]) rfl rfl .no zs159 rfl pl159 (.cons rfl rfl rfl rfl rfl rfl rfl .nil))<|
  .c (uS [] rfl sz159 rfl)<|
  .c (uS [] rfl sz159 rfl)<|.nil rfl) (by kernel_rfl) ?_)
 have heq := ((sJ h1)).symm
 subst heq
 exact qe ⟨_,(show Leads _ _ (St.of [(2,.ptr 1 0),(3,.ptr 2 0)] [(1,.box (.d (qB (a0.1,false)))),(2,.box (.d (qB (a0.2.1,false))))]) from .w (wkF ⟨⟨_,rfl,.ptr rfl rfl⟩,⟨_,rfl,.ptr rfl rfl⟩,trivial⟩ ⟨.box rfl (.d rfl),.box rfl (.d rfl),trivial⟩ qd)),.inr rfl,_,resCC rfl rfl rfl qh5 rfl rfl rfl rfl qh5 rfl rfl,rfl,rfl⟩
theorem qU2 {a0 : (B8 × B8 × Bool)} {r : ((B8 × Bool) × (B8 × Bool))} (h : qC0 a0 = some r) : FnOk Tryz.prog 102 [.d (eSp a0)] 0 (lk []) (fun rr oo => rr = .tup [.d (qB r.1),.d (qB r.2)] ∧ oo = lk []) := qg1 (span_bounds_okc h)
theorem q21 {a0 : (B8 × Bool)} {a1 : (B8 × Bool)} {r : Int} (h : qv a0 a1 = some r) : FnOk Tryz.prog 103 [.d (qB a0),.d (qB a1)] 0 (lk []) (fun rr oo => rr = .d (eint r) ∧ oo = lk []) := by
 refine fnO Tryz.func103 rfl rfl (cwP ?_)
 unfold qv at h
 refine cwS (cwR (
  .c (uX 0 rfl)<|
  .c (uX 1 rfl)<|
  .c (uA rfl)<|.nil rfl) ?_)
 refine cwS ?_
 refine cwB ?_
 have ⟨o0,hj0,h0⟩ := bdS h
 refine cwJ (fun (z : Bool) => St.of [(2,.ptr 0 0),(3,.ptr 1 0),(5,.d (qz z))] [(0,.box (.d (qB a0))),(1,.box (.d (qB a1)))]) (fun (z : Bool) => o0 = z) ?_ ?_
 ·intro v0 hv0; subst hv0
  rcases cdS h0 with ⟨hc0,h1⟩ | ⟨hc0,h2⟩
  ·refine cwT rfl hc0 ?_
   refine cwS (cwR (
    .c (uA rfl)<|.nil rfl) ?_)
   have heq := ((sJ h1)).symm
   subst heq
   exact qe ⟨_,(show Leads _ _ (St.of [(4,.d (eint 0))] []) from .w (wkF ⟨wD rfl,trivial⟩ trivial qd)),.inr rfl,_,res1 rfl rfl,rfl,rfl⟩
  refine cwF rfl hc0 ?_
  refine cwS (cwR (
   .c (uF rfl qH4 rfl)<|
   .c (uL [1] rfl ta4 rfl)<|
   .c (uA rfl)<|.nil rfl) ?_)
  rcases cdS h2 with ⟨hc1,h3⟩ | ⟨hc1,h4⟩
  ·refine cwT rfl hc1 ?_
   refine cwS (cwR (
    .c (uA rfl)<|.nil rfl) ?_)
   have heq := ((sJ h3)).symm
   subst heq
   exact qe ⟨_,(show Leads _ _ (St.of [(4,.d (eint 1))] []) from .w (wkF ⟨wD rfl,trivial⟩ trivial qd)),.inr rfl,_,res1 rfl rfl,rfl,rfl⟩
  refine cwF rfl hc1 ?_
  refine cwS (cwR (
   .c (uF rfl qH4 rfl)<|
   .c (uL [1] rfl ta4 rfl)<|
   .c (uA rfl)<|.nil rfl) ?_)
  rcases cdS h4 with ⟨hc2,h5⟩ | ⟨hc2,h6⟩
  ·refine cwT rfl hc2 ?_
   refine cwS (cwR (
    .c (uA rfl)<|.nil rfl) ?_)
   have heq := ((sJ h5)).symm
   subst heq
   exact qe ⟨_,(show Leads _ _ (St.of [(4,.d (eint (-1)))] []) from .w (wkF ⟨wD rfl,trivial⟩ trivial qd)),.inr rfl,_,res1 rfl rfl,rfl,rfl⟩
  refine cwF rfl hc2 ?_
  refine cwK ?_
  have ⟨x0,hx0,h7⟩ := bdS (x := qw a0.1 a1.1) h6
  refine cwS (cwRA mixed (by kernel_rfl) (
   .c (uF rfl fld159_0 rfl)<|
   .c (qR3 rfl rfl .no rfl ar39 sz5 .no .no (by decide) (by decide) (by decide))<|
   .c (uF rfl fld159_0 rfl)<|
   .c (qR3 rfl rfl .no rfl ar39 sz5 .no .no (by decide) (by decide) (by decide))<|
   .c (qj rfl rfl .no Tryz.func68 rfl rfl (qR hx0) (.cons rfl (.bsl [0] rfl rfl rfl) (.cons rfl (.bsl [0] rfl rfl rfl) .nil)) ⟨trivial,trivial,trivial⟩ (.inr (DFlat.v _)))<|
   .c (uA rfl)<|.nil rfl) (by kernel_rfl) ?_)
  have heq := ((sJ h7)).symm
  subst heq
  exact qe ⟨_,(show Leads _ _ (St.of [(4,.d (eint x0))] []) from .w (wkF ⟨wD rfl,trivial⟩ trivial qd)),.inr rfl,_,res1 rfl rfl,rfl,rfl⟩
 rcases cdS hj0 with ⟨hc3,h8⟩ | ⟨hc3,h9⟩
 ·skip
  refine cwR (
   .c (uF rfl qH4 rfl)<|
   .c (uL [1] rfl ta4 rfl)<|
   .c (uM rfl)<|
   .c (qf rfl rfl (.yes rfl rfl hc3) rfl qH4 (by decide))<|
   .c (ql [1] rfl rfl (.yes rfl rfl hc3) rfl rfl rfl ta4 rfl rfl)<|
   .c (uPT rfl hc3)<|
   .c (uA rfl)<|.nil rfl
  ) ?_
  exact ⟨a1.2,(sJ h8),.w (wkF ⟨⟨_,rfl,.ptr rfl rfl⟩,⟨_,rfl,.ptr rfl rfl⟩,wD rfl,trivial⟩ ⟨.box rfl (.d rfl),.box rfl (.d rfl),trivial⟩ qd)⟩
 refine cwR (
  .c (uF rfl qH4 rfl)<|
  .c (uL [1] rfl ta4 rfl)<|
  .c (uM rfl)<|
  .c (uN rfl rfl hc3)<|
  .c (uN rfl rfl hc3)<|
  .c (uPF rfl hc3)<|
  .c (uA rfl)<|.nil rfl
 ) ?_
 exact ⟨false,(sJ h9),.w (wkF ⟨⟨_,rfl,.ptr rfl rfl⟩,⟨_,rfl,.ptr rfl rfl⟩,wD rfl,trivial⟩ ⟨.box rfl (.d rfl),.box rfl (.d rfl),trivial⟩ qd)⟩
theorem span_made_okc {a0 : (B8 × Bool)} {a1 : (B8 × Bool)} {r : (B8 × B8 × Bool)} (h : qu2 a0 a1 = some r) : FnOk Tryz.prog 106 [.d (qB a0),.d (qB a1)] 0 (lk []) (fun rr oo => rr = .d (eSp r) ∧ oo = lk [(2,.box (.d (eSp r)))]) := by
 refine fnO Tryz.func106 rfl rfl (cwP ?_)
 unfold qu2 at h
 refine cwS (cwR (
  .c (uX 0 rfl)<|
  .c (uX 1 rfl)<|
  .c (qm 2 rfl rfl .no ze41 rfl)<|.nil rfl) ?_)
 refine cwS (cwR (
  .c (uF rfl fld159_0 rfl)<|
  .c (uL [0] rfl ta39 rfl)<|
  .c (uF rfl fld159_0 rfl)<|
  .c (uL [0] rfl ta39 rfl)<|
  .c (uF rfl qH4 rfl)<|
  .c (uL [1] rfl ta4 rfl)<|
  .c (qL4 (ds := [eK a0.1,eK a1.1,qz a1.2]) rfl rfl .no zs41 rfl pl41 (.cons rfl rfl rfl rfl rfl rfl rfl (.cons rfl rfl rfl rfl rfl rfl rfl (.cons rfl rfl rfl rfl rfl rfl rfl .nil))))<|
  .c (uS [] rfl sz41 rfl)<|.nil rfl) ?_)
 have heq := ((sJ h)).symm
 subst heq
 exact qe ⟨_,(show Leads _ _ (St.of [(4,.ptr 2 0)] [(2,.box (.d (eSp (a0.1,a1.1,a1.2))))]) from .w (wkF ⟨⟨_,rfl,.ptr rfl rfl⟩,trivial⟩ ⟨.box rfl (.d rfl),trivial⟩ qd)),.inr rfl,_,resC rfl rfl rfl ta41 rfl rfl,rfl,rfl⟩
theorem span_made_ok {a0 : (B8 × Bool)} {a1 : (B8 × Bool)} {r : (B8 × B8 × Bool)} (h : qu2 a0 a1 = some r) : FnOk Tryz.prog 106 [.d (qB a0),.d (qB a1)] 0 (lk []) (fun rr oo => rr = .d (eSp r) ∧ oo = lk []) := qD0 (span_made_okc h)
theorem qG3 {a0 : (B8 × B8 × Bool)} {r : Bool} (h : ql0 a0 = some r) : FnOk Tryz.prog 101 [.d (eSp a0)] 0 (lk []) (fun rr oo => rr = .d (qz r) ∧ oo = lk []) := by
 refine fnO Tryz.func101 rfl rfl (cwP ?_)
 unfold ql0 at h
 refine cwS (cwR (
  .c (uX 0 rfl)<|
  .c (uA rfl)<|.nil rfl) ?_)
 have ⟨x0,hx0,h0⟩ := bdS (x := qC0 a0) h
 refine cwS (cwR (
  .c (uL [] rfl ta41 rfl)<|
  .c (qj rfl rfl .no Tryz.func102 rfl rfl (qU2 hx0) (.cons rfl .d .nil) ⟨trivial,trivial⟩ (.inl rfl))<|
  .c (uM rfl)<|
  .c (uE rfl)<|
  .c (uE rfl)<|
  .c (qm 1 rfl rfl .no ze159 rfl)<|
  .c (qm 2 rfl rfl .no ze159 rfl)<|
  .c (uS [] rfl sz159 rfl)<|
  .c (uS [] rfl sz159 rfl)<|.nil rfl) ?_)
 have ⟨x1,hx1,h1⟩ := bdS (x := qv x0.1 x0.2) h0
 refine cwS (cwR (
  .c (uL [] rfl qh5 rfl)<|
  .c (uL [] rfl qh5 rfl)<|
  .c (qj rfl rfl .no Tryz.func103 rfl rfl (q21 hx1) (.cons rfl .d (.cons rfl .d .nil)) ⟨trivial,trivial,trivial⟩ (.inl rfl))<|
  .c (uB rfl (qD4 _ _) rfl)<|
  .c (uA rfl)<|.nil rfl) ?_)
 have heq := ((sJ h1)).symm
 subst heq
 exact qe ⟨_,(show Leads _ _ (St.of [(2,.d (qz (decide (x1 ≥ 0))))] []) from .w (wkF ⟨wD rfl,trivial⟩ trivial qd)),.inr rfl,_,res1 rfl rfl,rfl,rfl⟩
theorem span_Clean_2_ok {a0 : (B8 × B8 × Bool)} {a1 : (B8 × B8 × Bool)} {r : Int} (h : span_Clean_2 a0 a1 = some r) : FnOk Tryz.prog 105 [.d (eSp a0),.d (eSp a1)] 0 (lk []) (fun rr oo => rr = .d (eint r) ∧ oo = lk []) := by
 refine fnO Tryz.func105 rfl rfl (cwP ?_)
 unfold span_Clean_2 at h
 refine cwS (cwR (
  .c (uX 0 rfl)<|
  .c (uX 1 rfl)<|
  .c (uA rfl)<|.nil rfl) ?_)
 have ⟨x0,hx0,h0⟩ := bdS (x := qw a0.1 a1.1) h
 refine cwS (cwRA mixed (by kernel_rfl) (
  .c (uF rfl qq2 rfl)<|
  .c (qR3 rfl rfl .no rfl ar39 sz5 .no .no (by decide) (by decide) (by decide))<|
  .c (uF rfl qq2 rfl)<|
  .c (qR3 rfl rfl .no rfl ar39 sz5 .no .no (by decide) (by decide) (by decide))<|
  .c (qj rfl rfl .no Tryz.func68 rfl rfl (qR hx0) (.cons rfl (.bsl [0] rfl rfl rfl) (.cons rfl (.bsl [0] rfl rfl rfl) .nil)) ⟨trivial,trivial,trivial⟩ (.inr (DFlat.v _)))<|
  .c (uA rfl)<|.nil rfl) (by kernel_rfl) ?_)
 have heq := ((sJ h0)).symm
 subst heq
 exact qe ⟨_,(show Leads _ _ (St.of [(4,.d (eint x0))] []) from .w (wkF ⟨wD rfl,trivial⟩ trivial qd)),.inr rfl,_,res1 rfl rfl,rfl,rfl⟩
theorem qe4 {a0 : List (B8 × B8 × Bool)} {r : Int} (h : qu0 a0 = some r) : FnOk Tryz.prog 127 [.d (eSS a0),.fn 101 [] []] 0 (lk []) (fun rr oo => rr = .d (eint r) ∧ oo = lk []) := by
 refine fnO Tryz.func127 rfl rfl (cwP ?_)
 unfold qu0 at h
 refine cwS (cwR (
  .c (uA rfl)<|.nil rfl) ?_)
 have ⟨o0,hj0,h0⟩ := bdS h
 refine cwJ (fun (z : Unit) => St.of [] []) (fun (z : Unit) => o0 = (.inl z)) ?_ ?_
 ·intro v0 hv0; subst hv0
  simp only [Sum.elim_inl] at h0
  refine cwS (cwR (
   .c (uA rfl)<|.nil rfl) ?_)
  have heq := ((sJ h0)).symm
  subst heq
  exact qe ⟨_,(show Leads _ _ (St.of [(4,.d (eint (-1)))] []) from .w (wkF ⟨wD rfl,trivial⟩ trivial qd)),.inr rfl,_,res1 rfl rfl,rfl,rfl⟩
 refine cwS (cwR (
  .c (uM rfl)<|
  .c (qo0 (enc := eSp) (xs := a0) rfl rfl .no rfl sl59)<|
  .c (uM rfl)<|.nil rfl) ?_)
 refine cwB ?_
 refine qr (V := Int) (O := (Unit ⊕ Int)) (fun (z : Int) => St.of [(0,.d (eSS a0)),(1,.fn 101 [] []),(7,.d (eint (a0.length : Int))),(8,.d (eint z))] []) hj0 (.w (wkF ⟨wD rfl,⟨_,rfl,.fn .nil .nil⟩,wD rfl,wD rfl,trivial⟩ trivial qd)) ?_
 intro v1 x0 hb0 hx0
 refine cwS (cwR (
  .c (uB rfl (q31 _ _) rfl)<|.nil rfl) ?_)
 refine cwS ?_
 rcases cdS hb0 with ⟨hc0,h1⟩ | ⟨hc0,h2⟩
 ·refine cwT rfl hc0 ?_
  refine cwK ?_
  refine cwS ?_
  refine cwB ?_
  refine cwS (cwR (
   .c (uM rfl)<|
   .c (uA rfl)<|.nil rfl) ?_)
  have ⟨x1,hx1,h3⟩ := bdS h1
  have hx1g := qn hx1
  have ⟨x2,hx2,h4⟩ := bdS (x := ql0 x1) h3
  refine cwS (cwR (
   .c (uM rfl)<|
   .c (uM rfl)<|
   .c (uM rfl)<|
   .c (qZ1 (enc := eSp) (xs := a0) rfl rfl .no rfl rfl sl59 sz41 hx1g.1 hx1g.2)<|
   .c (o_ld rfl rfl .no rfl ta41 rfl rfl)<|
   .c (o_callV rfl rfl .no rfl Tryz.func101 rfl rfl (qG3 hx2) (.cons rfl .d .nil) ⟨trivial,trivial⟩ (.inl rfl))<|.nil rfl) ?_)
  rcases cdS h4 with ⟨hc1,h5⟩ | ⟨hc1,h6⟩
  ·refine cwT rfl hc1 ?_
   refine cwS (cwR (
    .c (uM rfl)<|
    .c (uA rfl)<|.nil rfl) ?_)
   have he0 := ((hx0 _ (sJ h5)).symm).symm
   subst he0
   have heq := ((sJ h0)).symm
   subst heq
   exact qe ⟨_,(show Leads _ _ (St.of [(4,.d (eint v1))] []) from .w (wkF ⟨wD rfl,trivial⟩ trivial qd)),.inr rfl,_,res1 rfl rfl,rfl,rfl⟩
  refine cwF rfl hc1 ?_
  refine cwK ?_
  refine cwR (
   .c (uB rfl (q61 _ _) rfl)<|
   .c (uM rfl)<|.nil rfl
  ) ?_
  exact ⟨(IntKind.wrap .i64 (v1 + 1)),(sJ h6),.w (wkF ⟨wD rfl,⟨_,rfl,.fn .nil .nil⟩,wD rfl,wD rfl,trivial⟩ trivial qd)⟩
 refine cwF rfl hc0 ?_
 refine qG ?_
 exact ⟨(),(hx0 _ (sJ h2)).symm,.w (wkF trivial trivial qd)⟩
theorem key_One_okc {a0 : List UInt8} {r : (B8 × B8 × Bool)} (h : qP4 a0 = some r) : FnOk Tryz.prog 65 [.d (eK a0)] 0 (lk []) (fun rr oo => rr = .d (eSp r) ∧ oo = lk [(1,.box (.d (eSp r)))]) := by
 refine fnO Tryz.func65 rfl rfl (cwP ?_)
 unfold qP4 at h
 refine cwS (cwR (
  .c (uX 0 rfl)<|
  .c (qm 1 rfl rfl .no ze41 rfl)<|.nil rfl) ?_)
 refine cwS (cwR (
  .c (uL [] rfl ta39 rfl)<|
  .c (uL [] rfl ta39 rfl)<|
  .c (qL4 (ds := [eK a0,eK a0,qz false]) rfl rfl .no zs41 rfl pl41 (.cons rfl rfl rfl rfl rfl rfl rfl (.cons rfl rfl rfl rfl rfl rfl rfl .nil)))<|
  .c (qm 2 rfl rfl .no ze41 rfl)<|
  .c (uS [] rfl sz41 rfl)<|.nil rfl) ?_)
 have ⟨o0,hj0,h0⟩ := bdS h
 refine cwJ (fun (z : Unit) => St.of [(1,.ptr 0 0),(2,.ptr 1 0)] [(0,.box (.d (eK a0))),(1,.box (.d (eSp ((List.replicate 24 0),(List.replicate 24 0),false))))]) (fun (z : Unit) => o0 = (.inl z)) ?_ ?_
 ·intro v0 hv0; subst hv0
  simp only [Sum.elim_inl] at h0
  refine cwS (cwR (
   .c (uL [] rfl ta39 rfl)<|
   .c (qL4 (ds := [eK a0,eK (List.replicate 24 0),qz true]) rfl rfl .no zs41 rfl pl41 (.cons rfl rfl rfl rfl rfl rfl rfl (.cons rfl rfl rfl rfl rfl rfl rfl .nil)))<|
   .c (uS [] rfl sz41 rfl)<|.nil rfl) ?_)
  have heq := ((sJ h0)).symm
  subst heq
  exact qe ⟨_,(show Leads _ _ (St.of [(2,.ptr 1 0)] [(1,.box (.d (eSp (a0,(List.replicate 24 0),true))))]) from .w (wkF ⟨⟨_,rfl,.ptr rfl rfl⟩,trivial⟩ ⟨.box rfl (.d rfl),trivial⟩ qd)),.inr rfl,_,resC rfl rfl rfl ta41 rfl rfl,rfl,rfl⟩
 refine cwS (cwR (
  .c (uA rfl)<|.nil rfl) ?_)
 refine cwB ?_
 refine qr (V := (Int × (B8 × B8 × Bool))) (O := (Unit ⊕ (B8 × B8 × Bool))) (fun (z : (Int × (B8 × B8 × Bool))) => St.of [(1,.ptr 0 0),(2,.ptr 1 0),(3,.ptr 2 0),(4,.d (eint z.1))] [(0,.box (.d (eK a0))),(1,.box (.d (eSp ((List.replicate 24 0),(List.replicate 24 0),false)))),(2,.box (.d (eSp z.2)))]) hj0 (.w (wkF ⟨⟨_,rfl,.ptr rfl rfl⟩,⟨_,rfl,.ptr rfl rfl⟩,⟨_,rfl,.ptr rfl rfl⟩,wD rfl,trivial⟩ ⟨.box rfl (.d rfl),.box rfl (.d rfl),.box rfl (.d rfl),trivial⟩ qd)) ?_
 intro v1 x0 hb0 hx0
 refine cwS ?_
 refine cwS (cwR (
  .c (uM rfl)<|
  .c (uB rfl (qD4 _ _) rfl)<|.nil rfl) ?_)
 rcases cdS hb0 with ⟨hc0,h1⟩ | ⟨hc0,h2⟩
 ·refine cwT rfl hc0 ?_
  refine cwK ?_
  refine cwS ?_
  refine cwB ?_
  have ⟨x1,hx1,h3⟩ := bdS h1
  have hx1g := qK hx1
  have ⟨x2,hx2,h4⟩ := bdS h3
  have hx2g := qn hx2
  have ⟨x3,hx3,h5⟩ := bdS h4
  have hx3g := qK hx3
  have ⟨x4,hx4,h6⟩ := bdS h5
  have hx4g := qK hx4
  refine cwS (cwR (
   .c (uM rfl)<|
   .c (uF rfl qm4 rfl)<|
   .c (q45 rfl rfl .no rfl rfl ar39 sz5 hx1g)<|
   .c (o_ldB (l := v1.2.2.1) [1] rfl rfl .no rfl rfl rfl hx2g.2 ta5)<|
   .c (uB rfl (q61 _ _) rfl)<|
   .c (uF rfl qm4 rfl)<|
   .c (q45 rfl rfl .no rfl rfl ar39 sz5 hx1g)<|
   .c (o_stB (l := v1.2.2.1) [1] rfl .no rfl rfl rfl rfl hx3g hx4g sz5)<|.nil rfl) ?_)
  have ⟨x5,hx5,h7⟩ := bdS h6
  have hx5g := qn hx5
  refine cwS (cwR (
   .c (uM rfl)<|
   .c (uF rfl qm4 rfl)<|
   .c (q45 rfl rfl .no rfl rfl ar39 sz5 hx1g)<|
   .c (o_ldB (l := (List.set v1.2.2.1 v1.1.toNat (UInt8.ofNat (IntKind.wrap .u8 ((x2.toNat : Int) + 1)).toNat))) [1] rfl rfl .no rfl rfl rfl hx5g.2 ta5)<|
   .c (uB rfl (b_neq _ _) rfl)<|.nil rfl) ?_)
  rcases cdS h7 with ⟨hc1,h8⟩ | ⟨hc1,h9⟩
  ·refine cwT rfl hc1 ?_
   refine cwS (cwR (
    .c (uL [] rfl ta41 rfl)<|
    .c (uS [] rfl sz41 rfl)<|.nil rfl) ?_)
   have he0 := ((hx0 _ (sJ h8)).symm).symm
   subst he0
   have heq := ((sJ h0)).symm
   subst heq
   exact qe ⟨_,(show Leads _ _ (St.of [(2,.ptr 1 0)] [(1,.box (.d (eSp (v1.2.1,(List.set v1.2.2.1 v1.1.toNat (UInt8.ofNat (IntKind.wrap .u8 ((x2.toNat : Int) + 1)).toNat)),v1.2.2.2))))]) from .w (wkF ⟨⟨_,rfl,.ptr rfl rfl⟩,trivial⟩ ⟨.box rfl (.d rfl),trivial⟩ qd)),.inr rfl,_,resC rfl rfl rfl ta41 rfl rfl,rfl,rfl⟩
  refine cwF rfl hc1 ?_
  refine cwK ?_
  refine cwR (
   .c (uM rfl)<|
   .c (uB rfl (qy4 _ _) rfl)<|
   .c (uA rfl)<|.nil rfl
  ) ?_
  exact ⟨((IntKind.wrap .i64 (v1.1 - 1)),(v1.2.1,(List.set v1.2.2.1 v1.1.toNat (UInt8.ofNat (IntKind.wrap .u8 ((x2.toNat : Int) + 1)).toNat)),v1.2.2.2)),(sJ h9),.w (wkF ⟨⟨_,rfl,.ptr rfl rfl⟩,⟨_,rfl,.ptr rfl rfl⟩,⟨_,rfl,.ptr rfl rfl⟩,wD rfl,trivial⟩ ⟨.box rfl (.d rfl),.box rfl (.d rfl),.box rfl (.d rfl),trivial⟩ qd)⟩
 refine cwF rfl hc0 ?_
 refine qG ?_
 exact ⟨(),(hx0 _ (sJ h2)).symm,.w (wkF ⟨⟨_,rfl,.ptr rfl rfl⟩,⟨_,rfl,.ptr rfl rfl⟩,trivial⟩ ⟨.box rfl (.d rfl),.box rfl (.d rfl),trivial⟩ qd)⟩
theorem key_One_ok {a0 : List UInt8} {r : (B8 × B8 × Bool)} (h : qP4 a0 = some r) : FnOk Tryz.prog 65 [.d (eK a0)] 0 (lk []) (fun rr oo => rr = .d (eSp r) ∧ oo = lk []) := qD0 (key_One_okc h)
theorem ref03_In_ok {a0 : (B8 × B8 × Bool)} {a1 : List UInt8} {r : Bool} (h : qT2 a0 a1 = some r) : FnOk Tryz.prog 59 [.d (eSp a0),.d (eK a1)] 0 (lk []) (fun rr oo => rr = .d (qz r) ∧ oo = lk []) := by
 refine fnO Tryz.func59 rfl rfl (cwP ?_)
 unfold qT2 at h
 refine cwS (cwR (
  .c (uX 0 rfl)<|
  .c (uX 1 rfl)<|
  .c (uA rfl)<|.nil rfl) ?_)
 have ⟨o0,hj0,h0⟩ := bdS h
 refine cwJ (fun (z : Bool) => St.of [(4,.d (qz z))] []) (fun (z : Bool) => o0 = z) ?_ ?_
 ·intro v0 hv0; subst hv0
  have heq := ((sJ h0)).symm
  subst heq
  exact qe ⟨_,(show Leads _ _ (St.of [(4,.d (qz o0))] []) from .w (wkF ⟨wD rfl,trivial⟩ trivial qd)),.inr rfl,_,res1 rfl rfl,rfl,rfl⟩
 rcases cdS hj0 with ⟨hc0,h1⟩ | ⟨hc0,h2⟩
 ·skip
  rcases cdS h1 with ⟨hc1,h3⟩ | ⟨hc1,h4⟩
  ·skip
   refine cwRA mixed (by kernel_rfl) (
    .c (qR3 rfl rfl .no rfl ar39 sz5 .no .no (by decide) (by decide) (by decide))<|
    .c (o_cvB [] rfl rfl .no rfl rfl rfl sl26 un5 un9)<|
    .c (uF rfl qq2 rfl)<|
    .c (qR3 rfl rfl .no rfl ar39 sz5 .no .no (by decide) (by decide) (by decide))<|
    .c (o_cvB [0] rfl rfl .no rfl rfl rfl sl26 un5 un9)<|
    .c (qc rfl rfl .no rfl rfl (s_geq _ _) rfl)<|
    .c (uM rfl)<|
    .c (qf rfl rfl (.yes rfl rfl hc0) rfl qO4 (by decide))<|
    .c (ql [2] rfl rfl (.yes rfl rfl hc0) rfl rfl rfl ta4 rfl rfl)<|
    .c (o_mv rfl rfl (.yes rfl rfl hc0) rfl)<|
    .c (uN rfl rfl hc1)<|
    .c (uN rfl rfl hc1)<|
    .c (uN rfl rfl hc1)<|
    .c (uN rfl rfl hc1)<|
    .c (uN rfl rfl hc1)<|
    .c (uN rfl rfl hc1)<|
    .c (qh rfl rfl (.yes rfl rfl hc0) rfl hc1 rfl)<|
    .c (uPT rfl hc0)<|
    .c (uA rfl)<|.nil rfl) (by kernel_rfl) ?_
   exact ⟨true,(sJ h3),.w (wkF ⟨wD rfl,trivial⟩ trivial qd)⟩
  refine cwRA mixed (by kernel_rfl) (
   .c (qR3 rfl rfl .no rfl ar39 sz5 .no .no (by decide) (by decide) (by decide))<|
   .c (o_cvB [] rfl rfl .no rfl rfl rfl sl26 un5 un9)<|
   .c (uF rfl qq2 rfl)<|
   .c (qR3 rfl rfl .no rfl ar39 sz5 .no .no (by decide) (by decide) (by decide))<|
   .c (o_cvB [0] rfl rfl .no rfl rfl rfl sl26 un5 un9)<|
   .c (qc rfl rfl .no rfl rfl (s_geq _ _) rfl)<|
   .c (uM rfl)<|
   .c (qf rfl rfl (.yes rfl rfl hc0) rfl qO4 (by decide))<|
   .c (ql [2] rfl rfl (.yes rfl rfl hc0) rfl rfl rfl ta4 rfl rfl)<|
   .c (o_mv rfl rfl (.yes rfl rfl hc0) rfl)<|
   .c (qR3 rfl rfl (.yes rfl rfl hc1) rfl ar39 sz5 .no .no (by decide) (by decide) (by decide))<|
   .c (o_cvB [] rfl rfl (.yes rfl rfl hc1) rfl rfl rfl sl26 un5 un9)<|
   .c (qf rfl rfl (.yes rfl rfl hc1) rfl qm4 (by decide))<|
   .c (qR3 rfl rfl (.yes rfl rfl hc1) rfl ar39 sz5 .no .no (by decide) (by decide) (by decide))<|
   .c (o_cvB [1] rfl rfl (.yes rfl rfl hc1) rfl rfl rfl sl26 un5 un9)<|
   .c (qc rfl rfl (.yes rfl rfl hc1) rfl rfl (s_lss _ _) rfl)<|
   .c (qi rfl rfl (.yes rfl rfl hc0) rfl hc1 rfl)<|
   .c (uPT rfl hc0)<|
   .c (uA rfl)<|.nil rfl) (by kernel_rfl) ?_
  exact ⟨(Op.bytesLess (qi1 a1).data.toList (qi1 a0.2.1).data.toList),(sJ h4),.w (wkF ⟨wD rfl,trivial⟩ trivial qd)⟩
 refine cwRA mixed (by kernel_rfl) (
  .c (qR3 rfl rfl .no rfl ar39 sz5 .no .no (by decide) (by decide) (by decide))<|
  .c (o_cvB [] rfl rfl .no rfl rfl rfl sl26 un5 un9)<|
  .c (uF rfl qq2 rfl)<|
  .c (qR3 rfl rfl .no rfl ar39 sz5 .no .no (by decide) (by decide) (by decide))<|
  .c (o_cvB [0] rfl rfl .no rfl rfl rfl sl26 un5 un9)<|
  .c (qc rfl rfl .no rfl rfl (s_geq _ _) rfl)<|
  .c (uM rfl)<|
  .c (uN rfl rfl hc0)<|
  .c (uN rfl rfl hc0)<|
  .c (uN rfl rfl hc0)<|
  .c (o_noU rfl rfl rfl rfl)<|
  .c (o_noU rfl rfl rfl rfl)<|
  .c (o_noU rfl rfl rfl rfl)<|
  .c (o_noU rfl rfl rfl rfl)<|
  .c (o_noU rfl rfl rfl rfl)<|
  .c (o_noU rfl rfl rfl rfl)<|
  .c (uN rfl rfl hc0)<|
  .c (uPF rfl hc0)<|
  .c (uA rfl)<|.nil rfl) (by kernel_rfl) ?_
 exact ⟨false,(sJ h2),.w (wkF ⟨wD rfl,trivial⟩ trivial qd)⟩
theorem ref08_Has_ok {a0 : List (B8 × B8 × Bool)} {a1 : List UInt8} {r : Bool} (h : qA3 a0 a1 = some r) : FnOk Tryz.prog 26 [.d (eSS a0),.d (eK a1)] 0 (lk []) (fun rr oo => rr = .d (qz r) ∧ oo = lk []) := by
 refine fnO Tryz.func26 rfl rfl (cwP ?_)
 unfold qA3 at h
 refine cwS (cwR (
  .c (uX 0 rfl)<|
  .c (uA rfl)<|.nil rfl) ?_)
 have ⟨o0,hj0,h0⟩ := bdS h
 refine cwJ (fun (z : Unit) => St.of [] []) (fun (z : Unit) => o0 = (.inl z)) ?_ ?_
 ·intro v0 hv0; subst hv0
  simp only [Sum.elim_inl] at h0
  refine cwS (cwR (
   .c (uA rfl)<|.nil rfl) ?_)
  have heq := ((sJ h0)).symm
  subst heq
  exact qe ⟨_,(show Leads _ _ (St.of [(4,.d (qz false))] []) from .w (wkF ⟨wD rfl,trivial⟩ trivial qd)),.inr rfl,_,res1 rfl rfl,rfl,rfl⟩
 refine cwS (cwR (
  .c (uA rfl)<|.nil rfl) ?_)
 refine cwB ?_
 refine qr (V := Int) (O := (Unit ⊕ Bool)) (fun (z : Int) => St.of [(0,.d (eSS a0)),(3,.ptr 0 0),(5,.d (eint z))] [(0,.box (.d (eK a1)))]) hj0 (.w (wkF ⟨wD rfl,⟨_,rfl,.ptr rfl rfl⟩,wD rfl,trivial⟩ ⟨.box rfl (.d rfl),trivial⟩ qd)) ?_
 intro v1 x0 hb0 hx0
 refine cwS ?_
 refine cwS (cwR (
  .c (uM rfl)<|
  .c (uM rfl)<|
  .c (qo0 (enc := eSp) (xs := a0) rfl rfl .no rfl sl59)<|
  .c (uB rfl (q31 _ _) rfl)<|.nil rfl) ?_)
 rcases cdS hb0 with ⟨hc0,h1⟩ | ⟨hc0,h2⟩
 ·refine cwT rfl hc0 ?_
  refine cwK ?_
  refine cwS ?_
  refine cwB ?_
  have ⟨x1,hx1,h3⟩ := bdS h1
  have hx1g := qn hx1
  have ⟨x2,hx2,h4⟩ := bdS (x := qT2 x1 a1) h3
  refine cwS (cwRA mixed (by kernel_rfl) (
   .c (uM rfl)<|
   .c (uM rfl)<|
   .c (qZ1 (enc := eSp) (xs := a0) rfl rfl .no rfl rfl sl59 sz41 hx1g.1 hx1g.2)<|
   .c (o_ld rfl rfl .no rfl ta41 rfl rfl)<|
   .c (uL [] rfl ta39 rfl)<|
   .c (qj rfl rfl .no Tryz.func59 rfl rfl (ref03_In_ok hx2) (.cons rfl .d (.cons rfl .d .nil)) ⟨trivial,trivial,trivial⟩ (.inl rfl))<|
   .c (uA rfl)<|.nil rfl) (by kernel_rfl) ?_)
  refine cwS (cwR (
   .c (uM rfl)<|.nil rfl) ?_)
  rcases cdS h4 with ⟨hc1,h5⟩ | ⟨hc1,h6⟩
  ·refine cwT rfl hc1 ?_
   refine cwS (cwR (
    .c (uA rfl)<|.nil rfl) ?_)
   have he0 := ((hx0 _ (sJ h5)).symm).symm
   subst he0
   have heq := ((sJ h0)).symm
   subst heq
   exact qe ⟨_,(show Leads _ _ (St.of [(4,.d (qz true))] []) from .w (wkF ⟨wD rfl,trivial⟩ trivial qd)),.inr rfl,_,res1 rfl rfl,rfl,rfl⟩
  refine cwF rfl hc1 ?_
  refine cwK ?_
  refine cwR (
   .c (uM rfl)<|
   .c (uB rfl (q61 _ _) rfl)<|
   .c (uA rfl)<|.nil rfl
  ) ?_
  exact ⟨(IntKind.wrap .i64 (v1 + 1)),(sJ h6),.w (wkF ⟨wD rfl,⟨_,rfl,.ptr rfl rfl⟩,wD rfl,trivial⟩ ⟨.box rfl (.d rfl),trivial⟩ qd)⟩
 refine cwF rfl hc0 ?_
 refine qG ?_
 exact ⟨(),(hx0 _ (sJ h2)).symm,.w (wkF trivial trivial qd)⟩
end
end Go.Val
