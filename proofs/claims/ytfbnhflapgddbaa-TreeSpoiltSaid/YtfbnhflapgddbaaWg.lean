/- Walks of the program's functions,printed. -/
import Derived.Test.YtfbnhflapgddbaaWf
set_option linter.unusedSectionVars false
set_option linter.unusedVariables false
set_option linter.unusedSimpArgs false
set_option maxRecDepth 100000
namespace Go.Val
open Go.RowKit Go.Proofs
section
variable [NoDrw]
noncomputable def qS (a0 : List ttC) (a1 : List UInt8) : Option (Int × Bool) := (((qJ (V := (Int × Int)) (O := Int) (fun v0 => cond (decide (v0.1 < v0.2)) ((gx a0 (IntKind.wrap .i64 (Int.fdiv (IntKind.wrap .u64 (IntKind.wrap .i64 (v0.1 + v0.2))) (2 ^ 1)))).bind fun x0 => (q30 x0 a1).bind fun x1 => cond (decide (x1 < 0)) (
     some (.inl ((IntKind.wrap .i64 ((IntKind.wrap .i64 (Int.fdiv (IntKind.wrap .u64 (IntKind.wrap .i64 (v0.1 + v0.2))) (2 ^ 1))) + 1)),v0.2))) (some (.inl (v0.1,(IntKind.wrap .i64 (Int.fdiv (IntKind.wrap .u64 (IntKind.wrap .i64 (v0.1 + v0.2))) (2 ^ 1))))))) (some (.inr v0.1))) (0,(a0.length : Int))) : Option Int)).bind fun o0 => (((cond (decide (o0 < (a0.length : Int))) (
   (gx a0 o0).bind fun x2 => (q30 x2 a1).bind fun x3 => some (decide (x3 = 0))) (some false)) : Option Bool)).bind fun o1 => some (o0,o1)
noncomputable def q20 (a0 : (List Int)) (a1 : Int) (b1 : ttM) : Option ((Option Fr) × Int × (List Int) × ttM) := (qx b1 a1).bind fun x0 => cond (decide (x0.2.1 ≠ 0)) (some ((none : Option Fr),x0.2.1,a0,x0.2.2)) ((((qJ (V := (Int × (Int × (List ttR) × (List ttP)))) (O := (Int × (List ttR) × (List ttP))) (fun v0 => cond (decide (v0.1 < (x0.1.2.2.length : Int))) (
     (gx x0.1.2.2 v0.1).bind fun x1 => (fits (v0.2.2.2.length + ([(x1.1,x1.2,(none : Option Fr))]).length) 40).bind fun _ => some (.inl ((IntKind.wrap .i64 (v0.1 + 1)),(v0.2.1,v0.2.2.1,(v0.2.2.2 ++ [(x1.1,x1.2,(none : Option Fr))]))))) (some (.inr v0.2))) (0,(x0.1.1,x0.1.2.1,[]))) : Option (Int × (List ttR) × (List ttP)))).bind fun o0 =>
  some ((some (frMk (o0.1,o0.2.1,o0.2.2))),0,a0,x0.2.2))
noncomputable def qZ (a0 : ttC) (a1 : ttC) : Option Int := (qu a0.1 a1.1).bind fun x0 => some x0
noncomputable def qB (a0 : List ttC) (a1 : Int) (a2 : Int) : Option (List ttC) := (((qJ (V := (Int × (List ttC))) (O := (List ttC)) (fun v0 => cond (decide (v0.1 < a2)) ((((qJ (V := (Int × (List ttC))) (O := (List ttC)) (fun v1 => (((cond (decide (v1.1 > a1)) ((gx v1.2 v1.1).bind fun x0 => (gx v1.2 (IntKind.wrap .i64 (v1.1 - 1))).bind fun x1 =>
        (qZ x0 x1).bind fun x2 => some (decide (x2 < 0))) (some false)) : Option Bool)).bind fun o0 => cond o0 ((gx v1.2 (IntKind.wrap .i64 (v1.1 - 1))).bind fun x3 => (gx v1.2 v1.1).bind fun x4 => (gx (List.set v1.2 v1.1.toNat x3) (IntKind.wrap .i64 (v1.1 - 1))).bind fun x5 =>
       some (.inl ((IntKind.wrap .i64 (v1.1 - 1)),(List.set (List.set v1.2 v1.1.toNat x3) (IntKind.wrap .i64 (v1.1 - 1)).toNat x4)))) (some (.inr v1.2))) (v0.1,v0.2)) : Option (List ttC))).bind fun o1 => some (.inl ((IntKind.wrap .i64 (v0.1 + 1)),o1))) (some (.inr v0.2))) ((IntKind.wrap .i64 (a1 + 1)),a0)) : Option (List ttC))).bind fun o2 => some o2
noncomputable def qC (a0 : List ttC) (a1 : Int) (a2 : Int) (a3 : Int) : Option (List ttC) := (((qJ (V := (Int × (List ttC))) (O := (List ttC)) (fun v0 => cond (decide (v0.1 < a3)) ((gx v0.2 (IntKind.wrap .i64 (a2 + v0.1))).bind fun x0 => (gx v0.2 (IntKind.wrap .i64 (a1 + v0.1))).bind fun x1 =>
    (gx (List.set v0.2 (IntKind.wrap .i64 (a1 + v0.1)).toNat x0) (IntKind.wrap .i64 (a2 + v0.1))).bind fun x2 => some (.inl ((IntKind.wrap .i64 (v0.1 + 1)),(List.set (List.set v0.2 (IntKind.wrap .i64 (a1 + v0.1)).toNat x0) (IntKind.wrap .i64 (a2 + v0.1)).toNat x1)))) (some (.inr v0.2))) (0,a0)) : Option (List ttC))).bind fun o0 => some o0
noncomputable def qf0 (a0 : List ttC) (a1 : Int) (a2 : Int) (a3 : Int) : Option (List ttC) := ((((((qJ (V := (Int × Int × (List ttC))) (O := (Int × (List ttC))) (fun v0 => cond (decide (v0.1 ≠ v0.2.1)) (cond (decide (v0.1 > v0.2.1)) ((qC v0.2.2 (IntKind.wrap .i64 (a2 - v0.1)) a2 v0.2.1).bind fun x0 =>
      some (.inl ((IntKind.wrap .i64 (v0.1 - v0.2.1)),v0.2.1,x0))) ((qC v0.2.2 (IntKind.wrap .i64 (a2 - v0.1)) (IntKind.wrap .i64 ((IntKind.wrap .i64 (a2 + v0.2.1)) - v0.1)) v0.1).bind fun x1 => some (.inl (v0.1,(IntKind.wrap .i64 (v0.2.1 - v0.1)),x1)))) (some (.inr (v0.1,v0.2.2)))) ((IntKind.wrap .i64 (a2 - a1)),(IntKind.wrap .i64 (a3 - a2)),a0)
  ) : Option (Int × (List ttC)))).bind fun o0 => (qC o0.2 (IntKind.wrap .i64 (a2 - o0.1)) a2 o0.1).bind fun x2 => some x2) : Option (List ttC))).bind fun o1 => some o1
noncomputable def qa0 (self : (List ttC) → Int → Int → Int → Option (List ttC)) (a0 : List ttC) (a1 : Int) (a2 : Int) (a3 : Int) : Option (List ttC) := ((((((cond (decide ((IntKind.wrap .i64 (a2 - a1)) = 1)) ((((qJ (V := (Int × Int)) (O := Int) (fun v0 => cond (decide (v0.1 < v0.2)) (
       (gx a0 (IntKind.wrap .i64 (Int.fdiv (IntKind.wrap .u64 (IntKind.wrap .i64 (v0.1 + v0.2))) (2 ^ 1)))).bind fun x0 => (gx a0 a1).bind fun x1 => (qZ x0 x1).bind fun x2 => cond (decide (x2 < 0)) (some (.inl ((IntKind.wrap .i64 ((IntKind.wrap .i64 (Int.fdiv (IntKind.wrap .u64 (IntKind.wrap .i64 (v0.1 + v0.2))) (2 ^ 1))) + 1)),v0.2))) (
        some (.inl (v0.1,(IntKind.wrap .i64 (Int.fdiv (IntKind.wrap .u64 (IntKind.wrap .i64 (v0.1 + v0.2))) (2 ^ 1))))))) (some (.inr v0.1))) (a2,a3)) : Option Int)).bind fun o0 => (((qJ (V := (Int × (List ttC))) (O := (List ttC)) (fun v1 => cond (decide (v1.1 < (IntKind.wrap .i64 (o0 - 1)))) ((gx v1.2 (IntKind.wrap .i64 (v1.1 + 1))).bind fun x3 => (gx v1.2 v1.1).bind fun x4 =>
       (gx (List.set v1.2 v1.1.toNat x3) (IntKind.wrap .i64 (v1.1 + 1))).bind fun x5 => some (.inl ((IntKind.wrap .i64 (v1.1 + 1)),(List.set (List.set v1.2 v1.1.toNat x3) (IntKind.wrap .i64 (v1.1 + 1)).toNat x4)))) (some (.inr v1.2))) (a1,a0)) : Option (List ttC))).bind fun o1 => some (.inr o1)) (some (.inl ()))) : Option (Unit ⊕ (List ttC)))).bind fun o2 => Sum.elim (fun (v2 : Unit) =>
   (((cond (decide ((IntKind.wrap .i64 (a3 - a2)) = 1)) ((((qJ (V := (Int × Int)) (O := Int) (fun v3 => cond (decide (v3.1 < v3.2)) ((gx a0 a2).bind fun x6 => (gx a0 (IntKind.wrap .i64 (Int.fdiv (IntKind.wrap .u64 (IntKind.wrap .i64 (v3.1 + v3.2))) (2 ^ 1)))).bind fun x7 => (qZ x6 x7).bind fun x8 => cond (!(decide (x8 < 0))) (
         some (.inl ((IntKind.wrap .i64 ((IntKind.wrap .i64 (Int.fdiv (IntKind.wrap .u64 (IntKind.wrap .i64 (v3.1 + v3.2))) (2 ^ 1))) + 1)),v3.2))) (some (.inl (v3.1,(IntKind.wrap .i64 (Int.fdiv (IntKind.wrap .u64 (IntKind.wrap .i64 (v3.1 + v3.2))) (2 ^ 1))))))) (some (.inr v3.1))) (a1,a2)) : Option Int)).bind fun o3 => (((qJ (V := (Int × (List ttC))) (O := (List ttC)) (fun v4 =>
       cond (decide (v4.1 > o3)) ((gx v4.2 (IntKind.wrap .i64 (v4.1 - 1))).bind fun x9 => (gx v4.2 v4.1).bind fun x10 => (gx (List.set v4.2 v4.1.toNat x9) (IntKind.wrap .i64 (v4.1 - 1))).bind fun x11 => some (.inl ((IntKind.wrap .i64 (v4.1 - 1)),(List.set (List.set v4.2 v4.1.toNat x9) (IntKind.wrap .i64 (v4.1 - 1)).toNat x10)))) (some (.inr v4.2))) (a2,a0)
     ) : Option (List ttC))).bind fun o4 => some (.inr o4)) (some (.inl ()))) : Option (Unit ⊕ (List ttC)))).bind fun o5 => Sum.elim (fun (v5 : Unit) => (((cond (decide (a2 > (IntKind.wrap .i64 (Int.fdiv (IntKind.wrap .u64 (IntKind.wrap .i64 (a1 + a3))) (2 ^ 1))))) (
      some ((IntKind.wrap .i64 (Int.fdiv (IntKind.wrap .u64 (IntKind.wrap .i64 (a1 + a3))) (2 ^ 1))),(IntKind.wrap .i64 ((IntKind.wrap .i64 (Int.fdiv (IntKind.wrap .u64 (IntKind.wrap .i64 (a1 + a3))) (2 ^ 1))) + a2)),(IntKind.wrap .i64 ((IntKind.wrap .i64 ((IntKind.wrap .i64 (Int.fdiv (IntKind.wrap .u64 (IntKind.wrap .i64 (a1 + a3))) (2 ^ 1))) + a2)) - a3)),(IntKind.wrap .i64 (Int.fdiv (IntKind.wrap .u64 (IntKind.wrap .i64 (a1 + a3))) (2 ^ 1))))
     ) (some ((IntKind.wrap .i64 (Int.fdiv (IntKind.wrap .u64 (IntKind.wrap .i64 (a1 + a3))) (2 ^ 1))),(IntKind.wrap .i64 ((IntKind.wrap .i64 (Int.fdiv (IntKind.wrap .u64 (IntKind.wrap .i64 (a1 + a3))) (2 ^ 1))) + a2)),a1,a2))) : Option (Int × Int × Int × Int))).bind fun o6 => (((qJ (V := (Int × Int)) (O := Int) (fun v6 => cond (decide (v6.1 < v6.2)) (
       (gx a0 (IntKind.wrap .i64 ((IntKind.wrap .i64 (o6.2.1 - 1)) - (IntKind.wrap .i64 (Int.fdiv (IntKind.wrap .u64 (IntKind.wrap .i64 (v6.1 + v6.2))) (2 ^ 1)))))).bind fun x12 => (gx a0 (IntKind.wrap .i64 (Int.fdiv (IntKind.wrap .u64 (IntKind.wrap .i64 (v6.1 + v6.2))) (2 ^ 1)))).bind fun x13 => (qZ x12 x13).bind fun x14 => cond (!(decide (x14 < 0))) (
        some (.inl ((IntKind.wrap .i64 ((IntKind.wrap .i64 (Int.fdiv (IntKind.wrap .u64 (IntKind.wrap .i64 (v6.1 + v6.2))) (2 ^ 1))) + 1)),v6.2))) (some (.inl (v6.1,(IntKind.wrap .i64 (Int.fdiv (IntKind.wrap .u64 (IntKind.wrap .i64 (v6.1 + v6.2))) (2 ^ 1))))))) (some (.inr v6.1))) (o6.2.2.1,o6.2.2.2)) : Option Int)).bind fun o7 => ((((((cond (decide (o7 < a2)) (
       some (decide (a2 < (IntKind.wrap .i64 (o6.2.1 - o7))))) (some false)) : Option Bool)).bind fun o8 => cond o8 ((qf0 a0 o7 a2 (IntKind.wrap .i64 (o6.2.1 - o7))).bind fun x15 => some x15) (some a0)) : Option (List ttC))).bind fun o9 => ((((((cond (decide (a1 < o7)) (some (decide (o7 < o6.1))) (some false)) : Option Bool)).bind fun o10 => cond o10 (
      (self o9 a1 o7 o6.1).bind fun x16 => some x16) (some o9)) : Option (List ttC))).bind fun o11 => (((cond (decide (o6.1 < (IntKind.wrap .i64 (o6.2.1 - o7)))) (some (decide ((IntKind.wrap .i64 (o6.2.1 - o7)) < a3))) (some false)) : Option Bool)).bind fun o12 => cond o12 ((self o11 o6.1 (IntKind.wrap .i64 (o6.2.1 - o7)) a3).bind fun x17 => some (.inl x17)) (some (.inl o11))) (fun w0 =>
    some (.inr w0)) o5) (fun w1 => some (.inr w1)) o2) : Option ((List ttC) ⊕ (List ttC)))).bind fun o13 => Sum.elim (fun (v7 : (List ttC)) => some v7) (fun w2 => some w2) o13
noncomputable def qO : Nat → (List ttC) → Int → Int → Int → Option (List ttC) | 0 => fun _ _ _ _ => none | n + 1 => qa0 (qO n)
noncomputable def qK (a0 : List ttC) (a1 : Int) (a2 : Int) (a3 : Int) : Option (List ttC) := qO 40 a0 a1 a2 a3
noncomputable def qq0 (a0 : List ttC) (a1 : Int) : Option (List ttC) := ((((((qJ (V := (Int × Int × (List ttC))) (O := (Int × (List ttC))) (fun v0 => cond (decide (v0.2.1 ≤ a1)) ((qB v0.2.2 v0.1 v0.2.1).bind fun x0 => some (.inl (v0.2.1,(IntKind.wrap .i64 (v0.2.1 + 20)),x0))) (some (.inr (v0.1,v0.2.2)))) (0,20,a0)
  ) : Option (Int × (List ttC)))).bind fun o0 => (qB o0.2 o0.1 a1).bind fun x1 => qJ (V := (Int × (List ttC))) (O := (List ttC)) (fun v1 => cond (decide (v1.1 < a1)) ((((qJ (V := (Int × Int × (List ttC))) (O := (Int × (List ttC))) (fun v2 => cond (decide (v2.2.1 ≤ a1)) ((qK v2.2.2 v2.1 (IntKind.wrap .i64 (v2.1 + v1.1)) v2.2.1).bind fun x2 =>
       some (.inl (v2.2.1,(IntKind.wrap .i64 (v2.2.1 + (IntKind.wrap .i64 (2 * v1.1)))),x2))) (some (.inr (v2.1,v2.2.2)))) (0,(IntKind.wrap .i64 (2 * v1.1)),v1.2)) : Option (Int × (List ttC)))).bind fun o1 => (((cond (decide ((IntKind.wrap .i64 (o1.1 + v1.1)) < a1)) ((qK o1.2 o1.1 (IntKind.wrap .i64 (o1.1 + v1.1)) a1).bind fun x3 => some x3) (some o1.2)
    ) : Option (List ttC))).bind fun o2 => some (.inl ((IntKind.wrap .i64 (v1.1 * 2)),o2))) (some (.inr v1.2))) (20,x1)) : Option (List ttC))).bind fun o3 => some o3
noncomputable def qm0 (a0 : List ttC) : Option (List ttC) := ((((qq0 a0 (a0.length : Int)).bind fun x0 => some x0) : Option (List ttC))).bind fun o0 => some o0
noncomputable def qx2 (a0 : List ttC) : Option (List ttC) := (qT1 a0).bind fun x0 => (qm0 x0).bind fun x1 => (((qJ (V := (Int × (List ttC))) (O := (List ttC)) (fun v0 => cond (decide (v0.1 < (x1.length : Int))) (((((gx x1 v0.1).bind fun x2 => (((cond (decide ((IntKind.wrap .i64 (v0.1 + 1)) = (x1.length : Int))) (some true) (
       (gx x1 (IntKind.wrap .i64 (v0.1 + 1))).bind fun x3 => some (!(decide (x3.1 = x2.1))))) : Option Bool)).bind fun o0 => cond o0 ((fits (v0.2.length + ([x2]).length) 48).bind fun _ => some (v0.2 ++ [x2])) (some v0.2)) : Option (List ttC))).bind fun o1 => some (.inl ((IntKind.wrap .i64 (v0.1 + 1)),o1))) (some (.inr v0.2))) (0,[])) : Option (List ttC))).bind fun o2 => some o2
theorem qU2 {a0 : List ttC} {a1 : List UInt8} {r : (Int × Bool)} (h : qS a0 a1 = some r) : FnOk Try.prog 60 [.d (eSC a0),.d (eK a1),.fn 61 [] []] 0 (lk []) (fun rr oo => rr = .tup [.d (eint r.1),.d (qU r.2)] ∧ oo = lk []) := by
 refine fnO Try.func60 rfl rfl (cwP ?_)
 unfold qS at h
 refine cwS (cwR (
  .c (uX 0 rfl)<|
  .c (uA rfl)<|
  .c (uA rfl)<|.nil rfl) ?_)
 refine cwS (cwR (
  .c (uM rfl)<|
  .c (qV (enc := eCg) (xs := a0) rfl rfl .no rfl sl22)<|
  .c (uA rfl)<|.nil rfl) ?_)
 refine cwS (cwR (
  .c (uM rfl)<|
  .c (uA rfl)<|
  .c (uA rfl)<|.nil rfl) ?_)
 have ⟨o0,hj0,h0⟩ := bdS h
 refine cwJ (fun (z : Int) => St.of [(0,.d (eSC a0)),(2,.fn 61 [] []),(4,.ptr 0 0),(8,.d (eint (a0.length : Int))),(9,.d (eint z))] [(0,.box (.d (eK a1)))]) (fun (z : Int) => o0 = z) ?_ ?_
 ·intro v0 hv0; subst hv0
  have ⟨o1,hj1,h1⟩ := bdS h0
  refine cwJ (fun (z : Bool) => St.of [(6,.d (eint o0)),(7,.d (qU z))] []) (fun (z : Bool) => o1 = z) ?_ ?_
  ·intro v1 hv1; subst hv1
   have heq := ((sJ h1)).symm
   subst heq
   exact qw ⟨_,(show Leads _ _ (St.of [(6,.d (eint o0)),(7,.d (qU o1))] []) from .w (wkF ⟨wD rfl,wD rfl,trivial⟩ trivial qG)),.inr rfl,_,res2 rfl rfl rfl,rfl,rfl⟩
  rcases cdS hj1 with ⟨hc0,h2⟩ | ⟨hc0,h3⟩
  ·skip
   have ⟨x0,hx0,h4⟩ := bdS h2
   have hx0g := qD hx0
   have ⟨x1,hx1,h5⟩ := bdS (x := q30 x0 a1) h4
   refine cwRA mixed (by kernel_rfl) (
    .c (uM rfl)<|
    .c (uM rfl)<|
    .c (uM rfl)<|
    .c (uB rfl (qG0 _ _) rfl)<|
    .c (uM rfl)<|
    .c (o_mv rfl rfl (.yes rfl rfl hc0) rfl)<|
    .c (o_mv rfl rfl (.yes rfl rfl hc0) rfl)<|
    .c (o_mv rfl rfl (.yes rfl rfl hc0) rfl)<|
    .c (qJ1 (enc := eCg) (xs := a0) rfl rfl (.yes rfl rfl hc0) rfl rfl sl22 sz33 hx0g.1 hx0g.2)<|
    .c (o_ld rfl rfl (.yes rfl rfl hc0) rfl ta33 rfl rfl)<|
    .c (qA [] rfl rfl (.yes rfl rfl hc0) rfl rfl rfl ta31 rfl rfl)<|
    .c (qG3 rfl rfl (.yes rfl rfl hc0) rfl Try.func61 rfl rfl (qn2 hx1) (.cons rfl .d (.cons rfl .d .nil)) ⟨trivial,trivial,trivial⟩ (.inl rfl))<|
    .c (qj rfl rfl (.yes rfl rfl hc0) rfl rfl (qd0 _ _) rfl)<|
    .c (uPT rfl hc0)<|
    .c (uA rfl)<|
    .c (uA rfl)<|.nil rfl) (by kernel_rfl) ?_
   exact ⟨(decide (x1 = 0)),(sJ h5),.w (wkF ⟨wD rfl,wD rfl,trivial⟩ trivial qG)⟩
  refine cwRA mixed (by kernel_rfl) (
   .c (uM rfl)<|
   .c (uM rfl)<|
   .c (uM rfl)<|
   .c (uB rfl (qG0 _ _) rfl)<|
   .c (uM rfl)<|
   .c (uN rfl rfl hc0)<|
   .c (uN rfl rfl hc0)<|
   .c (uN rfl rfl hc0)<|
   .c (uN rfl rfl hc0)<|
   .c (uN rfl rfl hc0)<|
   .c (uN rfl rfl hc0)<|
   .c (uN rfl rfl hc0)<|
   .c (uN rfl rfl hc0)<|
   .c (uPF rfl hc0)<|
   .c (uA rfl)<|
   .c (uA rfl)<|.nil rfl) (by kernel_rfl) ?_
  exact ⟨false,(sJ h3),.w (wkF ⟨wD rfl,wD rfl,trivial⟩ trivial qG)⟩
 refine cwB ?_
 refine qM (V := (Int × Int)) (O := Int) (fun (z : (Int × Int)) => St.of [(0,.d (eSC a0)),(2,.fn 61 [] []),(4,.ptr 0 0),(8,.d (eint (a0.length : Int))),(9,.d (eint z.1)),(10,.d (eint z.2))] [(0,.box (.d (eK a1)))]) hj0 (.w (wkF ⟨wD rfl,⟨_,rfl,.fn .nil .nil⟩,⟨_,rfl,.ptr rfl rfl⟩,wD rfl,wD rfl,wD rfl,trivial⟩ ⟨.box rfl (.d rfl),trivial⟩ qG)) ?_
 intro v2 x2 hb0 hx2
 refine cwS ?_
 refine cwS (cwR (
  .c (uM rfl)<|
  .c (uM rfl)<|
  .c (uB rfl (qG0 _ _) rfl)<|.nil rfl) ?_)
 rcases cdS hb0 with ⟨hc1,h6⟩ | ⟨hc1,h7⟩
 ·refine cwT rfl hc1 ?_
  refine cwK ?_
  refine cwB ?_
  refine cwS (cwR (
   .c (uM rfl)<|
   .c (uM rfl)<|
   .c (uB rfl (qN0 _ _) rfl)<|
   .c (qh5 rfl rfl .no rfl un3 un82)<|
   .c (uB rfl (b_shr _ _ (by decide)) rfl)<|
   .c (qh5 rfl rfl .no rfl un82 un3)<|
   .c (uA rfl)<|.nil rfl) ?_)
  have ⟨x3,hx3,h8⟩ := bdS h6
  have hx3g := qD hx3
  have ⟨x4,hx4,h9⟩ := bdS (x := q30 x3 a1) h8
  refine cwS (cwRA mixed (by kernel_rfl) (
   .c (uM rfl)<|
   .c (uM rfl)<|
   .c (uM rfl)<|
   .c (qJ1 (enc := eCg) (xs := a0) rfl rfl .no rfl rfl sl22 sz33 hx3g.1 hx3g.2)<|
   .c (o_ld rfl rfl .no rfl ta33 rfl rfl)<|
   .c (uL [] rfl ta31 rfl)<|
   .c (qG3 rfl rfl .no rfl Try.func61 rfl rfl (qn2 hx4) (.cons rfl .d (.cons rfl .d .nil)) ⟨trivial,trivial,trivial⟩ (.inl rfl))<|
   .c (uB rfl (qG0 _ _) rfl)<|.nil rfl) (by kernel_rfl) ?_)
  rcases cdS h9 with ⟨hc2,h10⟩ | ⟨hc2,h11⟩
  ·refine cwT rfl hc2 ?_
   refine cwR (
    .c (uM rfl)<|
    .c (uB rfl (qN0 _ _) rfl)<|
    .c (uA rfl)<|.nil rfl
   ) ?_
   exact ⟨((IntKind.wrap .i64 ((IntKind.wrap .i64 (Int.fdiv (IntKind.wrap .u64 (IntKind.wrap .i64 (v2.1 + v2.2))) (2 ^ 1))) + 1)),v2.2),(sJ h10),.w (wkF ⟨wD rfl,⟨_,rfl,.fn .nil .nil⟩,⟨_,rfl,.ptr rfl rfl⟩,wD rfl,wD rfl,wD rfl,trivial⟩ ⟨.box rfl (.d rfl),trivial⟩ qG)⟩
  refine cwF rfl hc2 ?_
  refine cwR (
   .c (uM rfl)<|
   .c (uA rfl)<|.nil rfl
  ) ?_
  exact ⟨(v2.1,(IntKind.wrap .i64 (Int.fdiv (IntKind.wrap .u64 (IntKind.wrap .i64 (v2.1 + v2.2))) (2 ^ 1)))),(sJ h11),.w (wkF ⟨wD rfl,⟨_,rfl,.fn .nil .nil⟩,⟨_,rfl,.ptr rfl rfl⟩,wD rfl,wD rfl,wD rfl,trivial⟩ ⟨.box rfl (.d rfl),trivial⟩ qG)⟩
 refine cwF rfl hc1 ?_
 refine q10 ?_
 exact ⟨v2.1,(hx2 _ (sJ h7)).symm,.w (wkF ⟨wD rfl,⟨_,rfl,.fn .nil .nil⟩,⟨_,rfl,.ptr rfl rfl⟩,wD rfl,wD rfl,trivial⟩ ⟨.box rfl (.d rfl),trivial⟩ qG)⟩
theorem qm2 {a0 : (List Int)} {a1 : Int} {b1 : ttM} {r : ((Option Fr) × Int × (List Int) × ttM)} (h : q20 a0 a1 b1 = some r) : FnOk Try.prog 59 [.ptr 0 0,.d (eint a1)] 2 (lk [(0,.own (qd 1 a0)),(1,.own (qc b1))]) (fun rr oo => rr = .tup [.d (qY r.1),.d (eErr r.2.1)] ∧ oo = lk [(0,.own (qd 1 r.2.2.1)),(1,.own (qc r.2.2.2))]) := by
 refine fnO Try.func59 rfl rfl (cwP ?_)
 unfold q20 at h
 refine cwS (cwR (
  .c (uA rfl)<|
  .c (uA rfl)<|.nil rfl) ?_)
 refine cwL (lOp (o := 0) (y := .st [.ifc 24 (.ptr 1 0),.arr 2 0]) (news := [(2,.arr 0 1 (a0.map eint))]) rfl (.st (.cons (.av rfl) (.cons (.arr rfl) .nil))) rfl rfl ⟨rfl,trivial⟩) ?_
 refine cwW (wkF (l := [(0,.ptr 0 0),(1,.d (eint a1))]) (m := [(0,.box (.st [.ifc 24 (.ptr 1 0),.arr 2 0])),(1,.own (qc b1)),(2,.arr 0 1 (a0.map eint))]) ⟨⟨_,rfl,.ptr rfl rfl⟩,wD rfl,trivial⟩ ⟨.box rfl (.st (.cons (.ifc (.ptro rfl rfl)) (.cons (.arr rfl rfl) .nil))),.own rfl (.of_eq rfl (q9 _)),.arr rfl rfl,trivial⟩ (qv rfl)) ?_
 have ⟨x0,hx0,h0⟩ := bdS (x := qx b1 a1) h
 refine cwS (cwR (
  .c (uM rfl)<|
  .c (uP rfl)<|
  .c (uF rfl fld93_0 rfl)<|
  .c (uL [0] rfl ta90 rfl)<|
  .c (uM rfl)<|
  .c (o_inv (fun n => bif Nat.beq n 0 then 1 else 3) rfl rfl .no rfl Try.func23 rfl rfl rfl qr4 (qh0 hx0) (.cons rfl (.p rfl) (.cons rfl .d .nil)) (by decide) (qP2 [1] rfl ⟨(by simp [AV.live,AV.lives,lk,Nat.beq]),trivial,trivial⟩ ⟨⟨rfl,(OD.dat_live (q9 _))⟩,trivial⟩ rfl rfl rfl ⟨rfl,trivial⟩ rfl) (.inl rfl))<|
  .c (uM rfl)<|
  .c (uE rfl)<|
  .c (uE rfl)<|
  .c (q50 4 rfl rfl .no ze46 rfl)<|
  .c (uS [] rfl sz46 rfl)<|
  .c (uA rfl)<|.nil rfl) ?_)
 refine cwS ?_
 refine cwS (cwR (
  .c (uM rfl)<|
  .c (uB rfl (qd3 _ _) rfl)<|.nil rfl) ?_)
 rcases cdS h0 with ⟨hc0,h1⟩ | ⟨hc0,h2⟩
 ·refine cwT rfl hc0 ?_
  refine cwS (cwR (
   .c (uM rfl)<|
   .c (uA rfl)<|
   .c (uA rfl)<|.nil rfl) ?_)
  have heq := ((sJ h1)).symm
  subst heq
  exact qw ⟨_,(show Leads _ _ (St.of [(4,.d (qY (none : Option Fr))),(5,.d (eErr x0.2.1))] [(0,.own (qd 1 a0)),(1,.own (qc x0.2.2))]) from .trans (lPk (o := 0) (y := .st [.ifc 24 (.ptr 1 0),.arr 2 0]) (x := qd 1 a0) (l := [(4,.d (.v (.pointer none))),(5,.d (eErr x0.2.1))]) (m := [(0,.own (qd 1 a0)),(1,.own (qc x0.2.2))]) rfl (.st (.cons (.av rfl) (.cons (.arr rfl) .nil))) rfl rfl ⟨⟨rfl,trivial⟩,⟨rfl,trivial⟩,trivial⟩ ⟨.inl rfl,(.inr ⟨rfl,(OD.dat_live (q9 _))⟩),trivial⟩ rfl (by simp [qd,OB.live,OD.live,OD.lives,AV.live,lk,Nat.beq]) ⟨rfl,trivial⟩ (qv rfl)) (.w (wkF ⟨⟨_,rfl,.d eFo_none.symm⟩,wD rfl,trivial⟩ ⟨.own rfl (.st (.cons (.av (.ifc (.ptro rfl rfl))) (.cons (.arr rfl) .nil))),.own rfl (.of_eq rfl (q9 _)),trivial⟩ (qv rfl)))),.inr rfl,_,res2 rfl rfl rfl,rfl,rfl⟩
 refine cwF rfl hc0 ?_
 refine cwK ?_
 refine cwS (cwR (
  .c (uF rfl qE0 rfl)<|
  .c (uL [0] rfl ta3 rfl)<|
  .c (uF rfl qr1 rfl)<|
  .c (uL [1] rfl ta34 rfl)<|
  .c (o_bldA rfl rfl .no zo132 rfl pl132 (.cons rfl rfl rfl rfl rfl rfl rfl (.cons rfl rfl rfl rfl rfl rfl rfl .nil)))<|
  .c (uX 5 rfl)<|
  .c (uA rfl)<|.nil rfl) ?_)
 have ⟨o0,hj0,h3⟩ := bdS h2
 refine cwJ (fun (z : (Int × (List ttR) × (List ttP))) => St.of [(8,.ptr 5 0)] [(0,.own (qd 1 a0)),(1,.own (qc x0.2.2)),(5,.own (qC2 z))]) (fun (z : (Int × (List ttR) × (List ttP))) => o0 = z) ?_ ?_
 ·intro v0 hv0; subst hv0
  refine cwL (lOp (o := 5) (y := .st [.d (eint o0.1),.d (eSP_ o0.2.1),.arr 8 0]) (news := [(8,.arr 0 26 (o0.2.2.map qf))]) rfl (.st (.cons (.av rfl) (.cons (.av rfl) (.cons (.arr rfl) .nil)))) rfl rfl ⟨rfl,trivial⟩) ?_
  refine cwW (wkF (l := [(8,.ptr 5 0)]) (m := [(0,.own (qd 1 a0)),(1,.own (qc x0.2.2)),(5,.box (.st [.d (eint o0.1),.d (eSP_ o0.2.1),.arr 8 0])),(8,.arr 0 26 (o0.2.2.map qf))]) ⟨⟨_,rfl,.ptr rfl rfl⟩,trivial⟩ ⟨.own rfl (.st (.cons (.av (.ifc (.ptro rfl rfl))) (.cons (.arr rfl) .nil))),.own rfl (.of_eq rfl (q9 _)),.box rfl (.st (.cons (.d rfl) (.cons (.d rfl) (.cons (.arr rfl rfl) .nil)))),.arr rfl rfl,trivial⟩ (qv rfl)) ?_
  refine cwW (wkF (l := [(8,.ptr 5 0)]) (m := [(0,.own (qd 1 a0)),(1,.own (qc x0.2.2)),(5,.box (.d (qW (o0.1,o0.2.1,o0.2.2))))]) ⟨⟨_,rfl,.ptr rfl rfl⟩,trivial⟩ ⟨.own rfl (.st (.cons (.av (.ifc (.ptro rfl rfl))) (.cons (.arr rfl) .nil))),.own rfl (.of_eq rfl (q9 _)),.box rfl (.flat (.cons (.d rfl) (.cons (.d rfl) (.cons (.frz rfl rfl rfl) .nil)))),trivial⟩ (qv rfl)) ?_
  refine cwW (wkF (l := [(8,.d (.at (qW (o0.1,o0.2.1,o0.2.2))))]) (m := [(0,.own (qd 1 a0)),(1,.own (qc x0.2.2))]) ⟨⟨_,rfl,.pin rfl rfl⟩,trivial⟩ ⟨.own rfl (.st (.cons (.av (.ifc (.ptro rfl rfl))) (.cons (.arr rfl) .nil))),.own rfl (.of_eq rfl (q9 _)),trivial⟩ (qv rfl)) ?_
  refine cwW (wkF (l := [(8,.d (qY (some (frMk (o0.1,o0.2.1,o0.2.2)))))]) (m := [(0,.own (qd 1 a0)),(1,.own (qc x0.2.2))]) ⟨⟨_,rfl,.d (eFo_mk (o0.1,o0.2.1,o0.2.2)).symm⟩,trivial⟩ ⟨.own rfl (.st (.cons (.av (.ifc (.ptro rfl rfl))) (.cons (.arr rfl) .nil))),.own rfl (.of_eq rfl (q9 _)),trivial⟩ (qv rfl)) ?_
  refine cwS (cwR (
   .c (uM rfl)<|
   .c (uA rfl)<|
   .c (uA rfl)<|.nil rfl) ?_)
  have heq := ((sJ h3)).symm
  subst heq
  exact qw ⟨_,(show Leads _ _ (St.of [(4,.d (qY (some (frMk (o0.1,o0.2.1,o0.2.2))))),(5,.d (eErr 0))] [(0,.own (qd 1 a0)),(1,.own (qc x0.2.2))]) from .w (wkF ⟨wD rfl,wD rfl,trivial⟩ ⟨.own rfl (.st (.cons (.av (.ifc (.ptro rfl rfl))) (.cons (.arr rfl) .nil))),.own rfl (.of_eq rfl (q9 _)),trivial⟩ (qv rfl))),.inr rfl,_,res2 rfl rfl rfl,rfl,rfl⟩
 refine cwS (cwR (
  .c (uF rfl qo0 rfl)<|
  .c (uL [2] rfl ta44 rfl)<|
  .c (qV (enc := qP) (xs := x0.1.2.2) rfl rfl .no rfl sl44)<|
  .c (uM rfl)<|.nil rfl) ?_)
 refine cwB ?_
 refine qM (V := (Int × (Int × (List ttR) × (List ttP)))) (O := (Int × (List ttR) × (List ttP))) (fun (z : (Int × (Int × (List ttR) × (List ttP)))) => St.of [(8,.ptr 5 0),(30,.d (qv0 x0.1.2.2)),(31,.d (eint (x0.1.2.2.length : Int))),(32,.d (eint z.1))] [(0,.own (qd 1 a0)),(1,.own (qc x0.2.2)),(5,.own (qC2 z.2))]) hj0 (.trans (lPk (o := 0) (y := .st [.ifc 24 (.ptr 1 0),.arr 2 0]) (x := qd 1 a0) (l := [(8,.ptr 5 0),(30,.d (qv0 x0.1.2.2)),(31,.d (eint (x0.1.2.2.length : Int))),(32,.d (eint 0))]) (m := [(0,.own (qd 1 a0)),(1,.own (qc x0.2.2)),(5,.box (.st [.d (eint x0.1.1),.d (eSP_ x0.1.2.1),.d (.v (.slice none 0 0))]))]) rfl (.st (.cons (.av rfl) (.cons (.arr rfl) .nil))) rfl rfl ⟨⟨rfl,(by simp [AV.live,AV.lives,lk,Nat.beq])⟩,⟨rfl,trivial⟩,⟨rfl,trivial⟩,⟨rfl,trivial⟩,trivial⟩ ⟨.inl rfl,(.inr ⟨rfl,(OD.dat_live (q9 _))⟩),(.inr ⟨rfl,(by simp [OB.live,AV.live,AV.lives,lk,Nat.beq])⟩),trivial⟩ rfl (by simp [qd,OB.live,OD.live,OD.lives,AV.live,lk,Nat.beq]) ⟨rfl,trivial⟩ (qv rfl)) (.trans (lPk (o := 5) (y := .st [.d (eint x0.1.1),.d (eSP_ x0.1.2.1),.d (.v (.slice none 0 0))]) (x := qC2 (x0.1.1,x0.1.2.1,[])) (l := [(8,.ptr 5 0),(30,.d (qv0 x0.1.2.2)),(31,.d (eint (x0.1.2.2.length : Int))),(32,.d (eint 0))]) (m := [(0,.own (qd 1 a0)),(1,.own (qc x0.2.2)),(5,.own (qC2 (x0.1.1,x0.1.2.1,[])))]) rfl (.st (.cons (.av rfl) (.cons (.av rfl) (.cons (.nil rfl) .nil)))) rfl rfl ⟨⟨rfl,(by simp [AV.live,AV.lives,lk,Nat.beq])⟩,⟨rfl,trivial⟩,⟨rfl,trivial⟩,⟨rfl,trivial⟩,trivial⟩ ⟨(.inr ⟨rfl,(by simp [qd,OB.live,OD.live,OD.lives,AV.live,lk,Nat.beq])⟩),(.inr ⟨rfl,(OD.dat_live (q9 _))⟩),.inl rfl,trivial⟩ rfl (OD.dat_live (qP1 _)) trivial (qv rfl)) (.w (wkF ⟨⟨_,rfl,.ptro rfl rfl⟩,wD rfl,wD rfl,wD rfl,trivial⟩ ⟨.own rfl (.st (.cons (.av (.ifc (.ptro rfl rfl))) (.cons (.arr rfl) .nil))),.own rfl (.of_eq rfl (q9 _)),.own rfl (.of_eq rfl (qP1 _)),trivial⟩ (qv rfl))))) ?_
 intro v1 x1 hb0 hx1
 refine cwS (cwR (
  .c (uB rfl (qG0 _ _) rfl)<|.nil rfl) ?_)
 refine cwS ?_
 rcases cdS hb0 with ⟨hc1,h4⟩ | ⟨hc1,h5⟩
 ·refine cwT rfl hc1 ?_
  refine cwK ?_
  refine cwS ?_
  refine cwB ?_
  have ⟨x2,hx2,h6⟩ := bdS h4
  have hx2g := qD hx2
  refine cwS (cwR (
   .c (qJ1 (enc := qP) (xs := x0.1.2.2) rfl rfl .no rfl rfl sl44 sz69 hx2g.1 hx2g.2)<|
   .c (o_ld rfl rfl .no rfl ta69 rfl rfl)<|
   .c (q50 6 rfl rfl .no ze69 rfl)<|
   .c (uS [] rfl sz69 rfl)<|.nil rfl) ?_)
  refine cwL (lOp (o := 5) (y := .st [.d (eint v1.2.1),.d (eSP_ v1.2.2.1),.arr 7 0]) (news := [(7,.arr 0 26 (v1.2.2.2.map qf))]) rfl (.st (.cons (.av rfl) (.cons (.av rfl) (.cons (.arr rfl) .nil)))) rfl rfl ⟨rfl,trivial⟩) ?_
  refine cwW (wkF (l := [(8,.ptr 5 0),(10,.ptr 6 0),(30,.d (qv0 x0.1.2.2)),(31,.d (eint (x0.1.2.2.length : Int))),(32,.d (eint v1.1))]) (m := [(0,.own (qd 1 a0)),(1,.own (qc x0.2.2)),(5,.box (.st [.d (eint v1.2.1),.d (eSP_ v1.2.2.1),.arr 7 0])),(6,.box (.d (qP x2))),(7,.arr 0 26 (v1.2.2.2.map qf))]) ⟨⟨_,rfl,.ptr rfl rfl⟩,⟨_,rfl,.ptr rfl rfl⟩,wD rfl,wD rfl,wD rfl,trivial⟩ ⟨.own rfl (.st (.cons (.av (.ifc (.ptro rfl rfl))) (.cons (.arr rfl) .nil))),.own rfl (.of_eq rfl (q9 _)),.box rfl (.st (.cons (.d rfl) (.cons (.d rfl) (.cons (.arr rfl rfl) .nil)))),.box rfl (.d rfl),.arr rfl rfl,trivial⟩ (qv rfl)) ?_
  have ⟨x3,hx3,h7⟩ := bdS h6
  have hx3g := qj0 hx3
  refine cwRA mixed (by kernel_rfl) (
   .c (uM rfl)<|
   .c (uM rfl)<|
   .c (uP rfl)<|
   .c (uF rfl q42 rfl)<|
   .c (uL [2] rfl ta95 rfl)<|
   .c (uF rfl qN2 rfl)<|
   .c (uL [0] rfl ta31 rfl)<|
   .c (uF rfl qM2 rfl)<|
   .c (uL [1] rfl ta3 rfl)<|
   .c (qz5 (ds := [eK x2.1,eint x2.2,qY (none : Option Fr)]) rfl rfl .no zs101 rfl pl101 (.cons rfl rfl rfl rfl rfl rfl rfl (.cons rfl rfl rfl rfl rfl rfl rfl .nil)))<|
   .c (qu5 (rows := ([(x2.1,x2.2,(none : Option Fr))] : List ttP).map qf) rfl rfl .no (.cons rfl .nil) rfl sl95 qj2 qj5 rfl (qL1 qq) (by decide))<|
   .c (qo2 (enc := qf) (xs := v1.2.2.2) (ys := [(x2.1,x2.2,(none : Option Fr))]) rfl rfl .no rfl rfl rfl qq sl95 sl95 qj2 by101 qj5 rfl (by decide) hx3g)<|
   .c (uP rfl)<|
   .c (uF rfl q42 rfl)<|
   .c (uS [2] rfl sz95 rfl)<|.nil rfl) (by kernel_rfl) ?_
  refine cwR (
   .c (uB rfl (qN0 _ _) rfl)<|
   .c (uM rfl)<|.nil rfl
  ) ?_
  exact ⟨((IntKind.wrap .i64 (v1.1 + 1)),(v1.2.1,v1.2.2.1,(v1.2.2.2 ++ [(x2.1,x2.2,(none : Option Fr))]))),(sJ h7),.trans (lPk (o := 5) (y := .st [.d (eint v1.2.1),.d (eSP_ v1.2.2.1),.arr 7 (0 + 1)]) (x := qC2 (v1.2.1,v1.2.2.1,(v1.2.2.2 ++ [(x2.1,x2.2,(none : Option Fr))]))) (l := [(8,.ptr 5 0),(30,.d (qv0 x0.1.2.2)),(31,.d (eint (x0.1.2.2.length : Int))),(32,.d (eint (IntKind.wrap .i64 (v1.1 + 1))))]) (m := [(0,.own (qd 1 a0)),(1,.own (qc x0.2.2)),(5,.own (qC2 (v1.2.1,v1.2.2.1,(v1.2.2.2 ++ [(x2.1,x2.2,(none : Option Fr))]))))]) rfl (.st (.cons (.av rfl) (.cons (.av rfl) (.cons (.arr rfl) .nil)))) rfl rfl ⟨⟨rfl,(by simp [AV.live,AV.lives,lk,Nat.beq])⟩,⟨rfl,trivial⟩,⟨rfl,trivial⟩,⟨rfl,trivial⟩,trivial⟩ ⟨(.inr ⟨rfl,(by simp [qd,OB.live,OD.live,OD.lives,AV.live,lk,Nat.beq])⟩),(.inr ⟨rfl,(OD.dat_live (q9 _))⟩),.inl rfl,trivial⟩ rfl (OD.dat_live (qP1 _)) ⟨rfl,trivial⟩ (qv rfl)) (.w (wkF ⟨⟨_,rfl,.ptro rfl rfl⟩,wD rfl,wD rfl,wD rfl,trivial⟩ ⟨.own rfl (.st (.cons (.av (.ifc (.ptro rfl rfl))) (.cons (.arr rfl) .nil))),.own rfl (.of_eq rfl (q9 _)),.own rfl (.of_eq rfl (qP1 _)),trivial⟩ (qv rfl)))⟩
 refine cwF rfl hc1 ?_
 refine q10 ?_
 exact ⟨v1.2,(hx1 _ (sJ h5)).symm,.w (wkF ⟨⟨_,rfl,.ptro rfl rfl⟩,trivial⟩ ⟨.own rfl (.st (.cons (.av (.ifc (.ptro rfl rfl))) (.cons (.arr rfl) .nil))),.own rfl (.of_eq rfl (q9 _)),.own rfl (.of_eq rfl (qP1 _)),trivial⟩ (qv rfl))⟩
theorem qR1 {a0 : ttC} {a1 : ttC} {r : Int} (h : qZ a0 a1 = some r) : FnOk Try.prog 56 [.d (eCg a0),.d (eCg a1)] 0 (lk []) (fun rr oo => rr = .d (eint r) ∧ oo = lk []) := by
 refine fnO Try.func56 rfl rfl (cwP ?_)
 unfold qZ at h
 refine cwS (cwR (
  .c (uX 0 rfl)<|
  .c (uX 1 rfl)<|
  .c (uA rfl)<|.nil rfl) ?_)
 have ⟨x0,hx0,h0⟩ := bdS (x := qu a0.1 a1.1) h
 refine cwS (cwR (
  .c (uF rfl qf5 rfl)<|
  .c (uL [0] rfl ta31 rfl)<|
  .c (uF rfl qf5 rfl)<|
  .c (uL [0] rfl ta31 rfl)<|
  .c (qe0 rfl rfl .no Try.func43 rfl rfl (q90 hx0) (.cons rfl .d (.cons rfl .d .nil)) ⟨trivial,trivial,trivial⟩ (.inl rfl))<|
  .c (uA rfl)<|.nil rfl) ?_)
 have heq := ((sJ h0)).symm
 subst heq
 exact qw ⟨_,(show Leads _ _ (St.of [(4,.d (eint x0))] []) from .w (wkF ⟨wD rfl,trivial⟩ trivial qG)),.inr rfl,_,res1 rfl rfl,rfl,rfl⟩
theorem q71 {a0 : List ttC} {a1 : Int} {a2 : Int} {r : (List ttC)} (h : qB a0 a1 a2 = some r) (u0 : Nat) : FnOk Try.prog 88 [.arr 0 u0,.d (eint a1),.d (eint a2),.fn 56 [] []] 1 (lk [(0,.arr u0 26 (List.map eCg a0))]) (fun rr oo => rr = .tup [] ∧ oo = lk [(0,.arr u0 26 (r.map eCg))]) := by
 refine fnO Try.func88 rfl rfl (cwP ?_)
 unfold qB at h
 have ⟨o0,hj0,h0⟩ := bdS h
 refine cw_tail (fun (z : (List ttC)) => St.of [] [(0,.arr u0 26 (z.map eCg))]) (fun (z : (List ttC)) => o0 = z) ?_ ?_
 ·intro v0 hv0; subst hv0
  have heq := ((sJ h0)).symm
  subst heq
  exact ⟨_,(show Leads _ _ (St.of [] [(0,.arr u0 26 (o0.map eCg))]) from .w (wkF trivial ⟨.arr rfl rfl,trivial⟩ (qv rfl))),.inl rfl,_,res0 rfl,rfl,rfl⟩
 refine cwS (cwR (
  .c (uM rfl)<|
  .c (uB rfl (qN0 _ _) rfl)<|
  .c (uA rfl)<|.nil rfl) ?_)
 refine cwB ?_
 refine qM (V := (Int × (List ttC))) (O := (List ttC)) (fun (z : (Int × (List ttC))) => St.of [(0,.arr 0 u0),(1,.d (eint a1)),(2,.d (eint a2)),(3,.fn 56 [] []),(8,.d (eint z.1))] [(0,.arr u0 26 (z.2.map eCg))]) hj0 (.w (wkF ⟨⟨_,rfl,.arr rfl rfl⟩,wD rfl,wD rfl,⟨_,rfl,.fn .nil .nil⟩,wD rfl,trivial⟩ ⟨.arr rfl rfl,trivial⟩ (qv rfl))) ?_
 intro v1 x0 hb0 hx0
 refine cwS ?_
 refine cwS (cwR (
  .c (uM rfl)<|
  .c (uM rfl)<|
  .c (uB rfl (qG0 _ _) rfl)<|.nil rfl) ?_)
 rcases cdS hb0 with ⟨hc0,h1⟩ | ⟨hc0,h2⟩
 ·refine cwT rfl hc0 ?_
  refine cwK ?_
  have ⟨o1,hj1,h3⟩ := bdS h1
  refine cwJ (fun (z : (List ttC)) => St.of [(0,.arr 0 u0),(1,.d (eint a1)),(2,.d (eint a2)),(3,.fn 56 [] []),(8,.d (eint v1.1))] [(0,.arr u0 26 (z.map eCg))]) (fun (z : (List ttC)) => o1 = z) ?_ ?_
  ·intro v2 hv1; subst hv1
   refine cwR (
    .c (uM rfl)<|
    .c (uB rfl (qN0 _ _) rfl)<|
    .c (uA rfl)<|.nil rfl
   ) ?_
   exact ⟨((IntKind.wrap .i64 (v1.1 + 1)),o1),(sJ h3),.w (wkF ⟨⟨_,rfl,.arr rfl rfl⟩,wD rfl,wD rfl,⟨_,rfl,.fn .nil .nil⟩,wD rfl,trivial⟩ ⟨.arr rfl rfl,trivial⟩ (qv rfl))⟩
  refine cwB ?_
  refine cwS (cwR (
   .c (uM rfl)<|
   .c (uA rfl)<|.nil rfl) ?_)
  refine cwB ?_
  refine qM (V := (Int × (List ttC))) (O := (List ttC)) (fun (z : (Int × (List ttC))) => St.of [(0,.arr 0 u0),(1,.d (eint a1)),(2,.d (eint a2)),(3,.fn 56 [] []),(8,.d (eint v1.1)),(9,.d (eint z.1))] [(0,.arr u0 26 (z.2.map eCg))]) hj1 (.w (wkF ⟨⟨_,rfl,.arr rfl rfl⟩,wD rfl,wD rfl,⟨_,rfl,.fn .nil .nil⟩,wD rfl,wD rfl,trivial⟩ ⟨.arr rfl rfl,trivial⟩ (qv rfl))) ?_
  intro v3 x1 hb1 hx1
  refine cwS ?_
  have ⟨o2,hj2,h4⟩ := bdS hb1
  refine cwJ (fun (z : Bool) => St.of [(0,.arr 0 u0),(1,.d (eint a1)),(2,.d (eint a2)),(3,.fn 56 [] []),(8,.d (eint v1.1)),(9,.d (eint v3.1)),(34,.d (qU z))] [(0,.arr u0 26 (v3.2.map eCg))]) (fun (z : Bool) => o2 = z) ?_ ?_
  ·intro v4 hv2; subst hv2
   rcases cdS h4 with ⟨hc1,h5⟩ | ⟨hc1,h6⟩
   ·refine cwT rfl hc1 ?_
    refine cwK ?_
    refine cwS ?_
    refine cwB ?_
    have ⟨x2,hx2,h7⟩ := bdS h5
    have hx2g := qD hx2
    have ⟨x3,hx3,h8⟩ := bdS h7
    have hx3g := qD hx3
    have ⟨x4,hx4,h9⟩ := bdS h8
    have hx4g := qD hx4
    refine cwRA mixed (by kernel_rfl) (
     .c (uM rfl)<|
     .c (uM rfl)<|
     .c (uM rfl)<|
     .c (uM rfl)<|
     .c (uB rfl (qW2 _ _) rfl)<|
     .c (uM rfl)<|
     .c (uM rfl)<|
     .c (uB rfl (qW2 _ _) rfl)<|
     .c (qw1 (enc := eCg) (xs := v3.2) rfl rfl .no rfl rfl rfl sl22 sz33 hx2g.1 hx2g.2)<|
     .c (qH2 (enc := eCg) (xs := v3.2) (r := x2) [] rfl rfl .no rfl rfl hx2g.2 rfl ta33 rfl rfl)<|
     .c (uM rfl)<|
     .c (uM rfl)<|
     .c (qw1 (enc := eCg) (xs := v3.2) rfl rfl .no rfl rfl rfl sl22 sz33 hx3g.1 hx3g.2)<|
     .c (qH2 (enc := eCg) (xs := v3.2) (r := x3) [] rfl rfl .no rfl rfl hx3g.2 rfl ta33 rfl rfl)<|
     .c (qw1 (enc := eCg) (xs := v3.2) rfl rfl .no rfl rfl rfl sl22 sz33 hx3g.1 hx3g.2)<|
     .c (o_stEM (enc := eCg) (xs := v3.2) (y := x2) (r := x3) rfl .no rfl rfl rfl hx3g.2 sz33 rfl (qb0 _))<|
     .c (qw1 (enc := eCg) (xs := (List.set v3.2 v3.1.toNat x2)) rfl rfl .no rfl rfl rfl sl22 sz33 hx4g.1 hx4g.2)<|
     .c (o_stEM (enc := eCg) (xs := (List.set v3.2 v3.1.toNat x2)) (y := x3) (r := x4) rfl .no rfl rfl rfl hx4g.2 sz33 rfl (qb0 _))<|.nil rfl) (by kernel_rfl) ?_
    refine cwR (
     .c (uM rfl)<|
     .c (uB rfl (qW2 _ _) rfl)<|
     .c (uA rfl)<|.nil rfl
    ) ?_
    exact ⟨((IntKind.wrap .i64 (v3.1 - 1)),(List.set (List.set v3.2 v3.1.toNat x2) (IntKind.wrap .i64 (v3.1 - 1)).toNat x3)),(sJ h9),.w (wkF ⟨⟨_,rfl,.arr rfl rfl⟩,wD rfl,wD rfl,⟨_,rfl,.fn .nil .nil⟩,wD rfl,wD rfl,trivial⟩ ⟨.arr rfl rfl,trivial⟩ (qv rfl))⟩
   refine cwF rfl hc1 ?_
   refine q10 ?_
   exact ⟨v3.2,(hx1 _ (sJ h6)).symm,.w (wkF ⟨⟨_,rfl,.arr rfl rfl⟩,wD rfl,wD rfl,⟨_,rfl,.fn .nil .nil⟩,wD rfl,trivial⟩ ⟨.arr rfl rfl,trivial⟩ (qv rfl))⟩
  rcases cdS hj2 with ⟨hc2,h10⟩ | ⟨hc2,h11⟩
  ·skip
   have ⟨x5,hx5,h12⟩ := bdS h10
   have hx5g := qD hx5
   have ⟨x6,hx6,h13⟩ := bdS h12
   have hx6g := qD hx6
   have ⟨x7,hx7,h14⟩ := bdS (x := qZ x5 x6) h13
   refine cwRA mixed (by kernel_rfl) (
    .c (uM rfl)<|
    .c (uM rfl)<|
    .c (uB rfl (qy3 _ _) rfl)<|
    .c (uM rfl)<|
    .c (o_mv rfl rfl (.yes rfl rfl hc2) rfl)<|
    .c (o_mv rfl rfl (.yes rfl rfl hc2) rfl)<|
    .c (o_mv rfl rfl (.yes rfl rfl hc2) rfl)<|
    .c (qw1 (enc := eCg) (xs := v3.2) rfl rfl (.yes rfl rfl hc2) rfl rfl rfl sl22 sz33 hx5g.1 hx5g.2)<|
    .c (qH2 (enc := eCg) (xs := v3.2) (r := x5) [] rfl rfl (.yes rfl rfl hc2) rfl rfl hx5g.2 rfl ta33 rfl rfl)<|
    .c (o_mv rfl rfl (.yes rfl rfl hc2) rfl)<|
    .c (o_mv rfl rfl (.yes rfl rfl hc2) rfl)<|
    .c (qj rfl rfl (.yes rfl rfl hc2) rfl rfl (qW2 _ _) rfl)<|
    .c (qw1 (enc := eCg) (xs := v3.2) rfl rfl (.yes rfl rfl hc2) rfl rfl rfl sl22 sz33 hx6g.1 hx6g.2)<|
    .c (qH2 (enc := eCg) (xs := v3.2) (r := x6) [] rfl rfl (.yes rfl rfl hc2) rfl rfl hx6g.2 rfl ta33 rfl rfl)<|
    .c (qG3 rfl rfl (.yes rfl rfl hc2) rfl Try.func56 rfl rfl (qR1 hx7) (.cons rfl .d (.cons rfl .d .nil)) ⟨trivial,trivial,trivial⟩ (.inl rfl))<|
    .c (qj rfl rfl (.yes rfl rfl hc2) rfl rfl (qG0 _ _) rfl)<|
    .c (uPT rfl hc2)<|.nil rfl) (by kernel_rfl) ?_
   exact ⟨(decide (x7 < 0)),(sJ h14),.w (wkF ⟨⟨_,rfl,.arr rfl rfl⟩,wD rfl,wD rfl,⟨_,rfl,.fn .nil .nil⟩,wD rfl,wD rfl,wD rfl,trivial⟩ ⟨.arr rfl rfl,trivial⟩ (qv rfl))⟩
  refine cwRA mixed (by kernel_rfl) (
   .c (uM rfl)<|
   .c (uM rfl)<|
   .c (uB rfl (qy3 _ _) rfl)<|
   .c (uM rfl)<|
   .c (uN rfl rfl hc2)<|
   .c (uN rfl rfl hc2)<|
   .c (uN rfl rfl hc2)<|
   .c (uN rfl rfl hc2)<|
   .c (uN rfl rfl hc2)<|
   .c (uN rfl rfl hc2)<|
   .c (uN rfl rfl hc2)<|
   .c (uN rfl rfl hc2)<|
   .c (uN rfl rfl hc2)<|
   .c (uN rfl rfl hc2)<|
   .c (uN rfl rfl hc2)<|
   .c (uN rfl rfl hc2)<|
   .c (uPF rfl hc2)<|.nil rfl) (by kernel_rfl) ?_
  exact ⟨false,(sJ h11),.w (wkF ⟨⟨_,rfl,.arr rfl rfl⟩,wD rfl,wD rfl,⟨_,rfl,.fn .nil .nil⟩,wD rfl,wD rfl,wD rfl,trivial⟩ ⟨.arr rfl rfl,trivial⟩ (qv rfl))⟩
 refine cwF rfl hc0 ?_
 refine q10 ?_
 exact ⟨v1.2,(hx0 _ (sJ h2)).symm,.w (wkF trivial ⟨.arr rfl rfl,trivial⟩ (qv rfl))⟩
theorem qP0 {a0 : List ttC} {a1 : Int} {a2 : Int} {a3 : Int} {r : (List ttC)} (h : qC a0 a1 a2 a3 = some r) (u0 : Nat) : FnOk Try.prog 101 [.arr 0 u0,.d (eint a1),.d (eint a2),.d (eint a3),.fn 56 [] []] 1 (lk [(0,.arr u0 26 (List.map eCg a0))]) (fun rr oo => rr = .tup [] ∧ oo = lk [(0,.arr u0 26 (r.map eCg))]) := by
 refine fnO Try.func101 rfl rfl (cwP ?_)
 unfold qC at h
 have ⟨o0,hj0,h0⟩ := bdS h
 refine cw_tail (fun (z : (List ttC)) => St.of [] [(0,.arr u0 26 (z.map eCg))]) (fun (z : (List ttC)) => o0 = z) ?_ ?_
 ·intro v0 hv0; subst hv0
  have heq := ((sJ h0)).symm
  subst heq
  exact ⟨_,(show Leads _ _ (St.of [] [(0,.arr u0 26 (o0.map eCg))]) from .w (wkF trivial ⟨.arr rfl rfl,trivial⟩ (qv rfl))),.inl rfl,_,res0 rfl,rfl,rfl⟩
 refine cwS (cwR (
  .c (uA rfl)<|.nil rfl) ?_)
 refine cwB ?_
 refine qM (V := (Int × (List ttC))) (O := (List ttC)) (fun (z : (Int × (List ttC))) => St.of [(0,.arr 0 u0),(1,.d (eint a1)),(2,.d (eint a2)),(3,.d (eint a3)),(10,.d (eint z.1))] [(0,.arr u0 26 (z.2.map eCg))]) hj0 (.w (wkF ⟨⟨_,rfl,.arr rfl rfl⟩,wD rfl,wD rfl,wD rfl,wD rfl,trivial⟩ ⟨.arr rfl rfl,trivial⟩ (qv rfl))) ?_
 intro v1 x0 hb0 hx0
 refine cwS ?_
 refine cwS (cwR (
  .c (uM rfl)<|
  .c (uM rfl)<|
  .c (uB rfl (qG0 _ _) rfl)<|.nil rfl) ?_)
 rcases cdS hb0 with ⟨hc0,h1⟩ | ⟨hc0,h2⟩
 ·refine cwT rfl hc0 ?_
  refine cwK ?_
  refine cwS ?_
  refine cwB ?_
  have ⟨x1,hx1,h3⟩ := bdS h1
  have hx1g := qD hx1
  have ⟨x2,hx2,h4⟩ := bdS h3
  have hx2g := qD hx2
  have ⟨x3,hx3,h5⟩ := bdS h4
  have hx3g := qD hx3
  refine cwRA mixed (by kernel_rfl) (
   .c (uM rfl)<|
   .c (uM rfl)<|
   .c (uM rfl)<|
   .c (uB rfl (qN0 _ _) rfl)<|
   .c (uM rfl)<|
   .c (uM rfl)<|
   .c (uM rfl)<|
   .c (uB rfl (qN0 _ _) rfl)<|
   .c (uM rfl)<|
   .c (uM rfl)<|
   .c (uM rfl)<|
   .c (uB rfl (qN0 _ _) rfl)<|
   .c (qw1 (enc := eCg) (xs := v1.2) rfl rfl .no rfl rfl rfl sl22 sz33 hx1g.1 hx1g.2)<|
   .c (qH2 (enc := eCg) (xs := v1.2) (r := x1) [] rfl rfl .no rfl rfl hx1g.2 rfl ta33 rfl rfl)<|
   .c (uM rfl)<|
   .c (uM rfl)<|
   .c (uM rfl)<|
   .c (uB rfl (qN0 _ _) rfl)<|
   .c (qw1 (enc := eCg) (xs := v1.2) rfl rfl .no rfl rfl rfl sl22 sz33 hx2g.1 hx2g.2)<|
   .c (qH2 (enc := eCg) (xs := v1.2) (r := x2) [] rfl rfl .no rfl rfl hx2g.2 rfl ta33 rfl rfl)<|
   .c (qw1 (enc := eCg) (xs := v1.2) rfl rfl .no rfl rfl rfl sl22 sz33 hx2g.1 hx2g.2)<|
   .c (o_stEM (enc := eCg) (xs := v1.2) (y := x1) (r := x2) rfl .no rfl rfl rfl hx2g.2 sz33 rfl (qb0 _))<|
   .c (qw1 (enc := eCg) (xs := (List.set v1.2 (IntKind.wrap .i64 (a1 + v1.1)).toNat x1)) rfl rfl .no rfl rfl rfl sl22 sz33 hx3g.1 hx3g.2)<|
   .c (o_stEM (enc := eCg) (xs := (List.set v1.2 (IntKind.wrap .i64 (a1 + v1.1)).toNat x1)) (y := x2) (r := x3) rfl .no rfl rfl rfl hx3g.2 sz33 rfl (qb0 _))<|.nil rfl) (by kernel_rfl) ?_
  refine cwR (
   .c (uM rfl)<|
   .c (uB rfl (qN0 _ _) rfl)<|
   .c (uA rfl)<|.nil rfl
  ) ?_
  exact ⟨((IntKind.wrap .i64 (v1.1 + 1)),(List.set (List.set v1.2 (IntKind.wrap .i64 (a1 + v1.1)).toNat x1) (IntKind.wrap .i64 (a2 + v1.1)).toNat x2)),(sJ h5),.w (wkF ⟨⟨_,rfl,.arr rfl rfl⟩,wD rfl,wD rfl,wD rfl,wD rfl,trivial⟩ ⟨.arr rfl rfl,trivial⟩ (qv rfl))⟩
 refine cwF rfl hc0 ?_
 refine q10 ?_
 exact ⟨v1.2,(hx0 _ (sJ h2)).symm,.w (wkF trivial ⟨.arr rfl rfl,trivial⟩ (qv rfl))⟩
theorem qB3 {a0 : List ttC} {a1 : Int} {a2 : Int} {a3 : Int} {r : (List ttC)} (h : qf0 a0 a1 a2 a3 = some r) (u0 : Nat) : FnOk Try.prog 97 [.arr 0 u0,.d (eint a1),.d (eint a2),.d (eint a3),.fn 56 [] []] 1 (lk [(0,.arr u0 26 (List.map eCg a0))]) (fun rr oo => rr = .tup [] ∧ oo = lk [(0,.arr u0 26 (r.map eCg))]) := by
 refine fnO Try.func97 rfl rfl (cwP ?_)
 unfold qf0 at h
 have ⟨o0,hj0,h0⟩ := bdS h
 refine cw_tail (fun (z : (List ttC)) => St.of [] [(0,.arr u0 26 (z.map eCg))]) (fun (z : (List ttC)) => o0 = z) ?_ ?_
 ·intro v0 hv0; subst hv0
  have heq := ((sJ h0)).symm
  subst heq
  exact ⟨_,(show Leads _ _ (St.of [] [(0,.arr u0 26 (o0.map eCg))]) from .w (wkF trivial ⟨.arr rfl rfl,trivial⟩ (qv rfl))),.inl rfl,_,res0 rfl,rfl,rfl⟩
 refine cwS (cwR (
  .c (uM rfl)<|
  .c (uM rfl)<|
  .c (uB rfl (qW2 _ _) rfl)<|
  .c (uA rfl)<|.nil rfl) ?_)
 refine cwS (cwR (
  .c (uM rfl)<|
  .c (uM rfl)<|
  .c (uB rfl (qW2 _ _) rfl)<|
  .c (uA rfl)<|.nil rfl) ?_)
 have ⟨o1,hj1,h1⟩ := bdS hj0
 refine cwJ (fun (z : (Int × (List ttC))) => St.of [(0,.arr 0 u0),(2,.d (eint a2)),(4,.fn 56 [] []),(10,.d (eint z.1))] [(0,.arr u0 26 (z.2.map eCg))]) (fun (z : (Int × (List ttC))) => o1 = z) ?_ ?_
 ·intro v1 hv1; subst hv1
  have ⟨x0,hx0,h2⟩ := bdS (x := qC o1.2 (IntKind.wrap .i64 (a2 - o1.1)) a2 o1.1) h1
  refine cwR (
   .c (uM rfl)<|
   .c (uM rfl)<|
   .c (uM rfl)<|
   .c (uB rfl (qW2 _ _) rfl)<|
   .c (uM rfl)<|
   .c (uM rfl)<|
   .c (uM rfl)<|
   .c (qQ (fun _ => 0) rfl rfl .no Try.func101 rfl rfl (qP0 hx0 u0) (.cons rfl (.a rfl) (.cons rfl .d (.cons rfl .d (.cons rfl .d (.cons rfl .f0 .nil))))) (q40 rfl ⟨(by simp [AV.live,lk,Nat.beq]),trivial,trivial,trivial,(by simp [AV.live,AV.lives]),trivial⟩ rfl trivial (by simp)) (.inl rfl))<|.nil rfl
  ) ?_
  exact ⟨x0,(sJ h2),.w (wkF trivial ⟨.arr rfl rfl,trivial⟩ (qv rfl))⟩
 refine cwB ?_
 refine qM (V := (Int × Int × (List ttC))) (O := (Int × (List ttC))) (fun (z : (Int × Int × (List ttC))) => St.of [(0,.arr 0 u0),(2,.d (eint a2)),(4,.fn 56 [] []),(10,.d (eint z.1)),(11,.d (eint z.2.1))] [(0,.arr u0 26 (z.2.2.map eCg))]) hj1 (.w (wkF ⟨⟨_,rfl,.arr rfl rfl⟩,wD rfl,⟨_,rfl,.fn .nil .nil⟩,wD rfl,wD rfl,trivial⟩ ⟨.arr rfl rfl,trivial⟩ (qv rfl))) ?_
 intro v2 x1 hb0 hx1
 refine cwS ?_
 refine cwS (cwR (
  .c (uM rfl)<|
  .c (uM rfl)<|
  .c (uB rfl (qd3 _ _) rfl)<|.nil rfl) ?_)
 rcases cdS hb0 with ⟨hc0,h3⟩ | ⟨hc0,h4⟩
 ·refine cwT rfl hc0 ?_
  refine cwK ?_
  refine cwB ?_
  refine cwS (cwR (
   .c (uM rfl)<|
   .c (uM rfl)<|
   .c (uB rfl (qy3 _ _) rfl)<|.nil rfl) ?_)
  rcases cdS h3 with ⟨hc1,h5⟩ | ⟨hc1,h6⟩
  ·refine cwT rfl hc1 ?_
   have ⟨x2,hx2,h7⟩ := bdS (x := qC v2.2.2 (IntKind.wrap .i64 (a2 - v2.1)) a2 v2.2.1) h5
   refine cwS (cwR (
    .c (uM rfl)<|
    .c (uM rfl)<|
    .c (uM rfl)<|
    .c (uB rfl (qW2 _ _) rfl)<|
    .c (uM rfl)<|
    .c (uM rfl)<|
    .c (uM rfl)<|
    .c (qQ (fun _ => 0) rfl rfl .no Try.func101 rfl rfl (qP0 hx2 u0) (.cons rfl (.a rfl) (.cons rfl .d (.cons rfl .d (.cons rfl .d (.cons rfl .f0 .nil))))) (q40 rfl ⟨(by simp [AV.live,lk,Nat.beq]),trivial,trivial,trivial,(by simp [AV.live,AV.lives]),trivial⟩ rfl trivial (by simp)) (.inl rfl))<|.nil rfl) ?_)
   refine cwR (
    .c (uM rfl)<|
    .c (uM rfl)<|
    .c (uB rfl (qW2 _ _) rfl)<|
    .c (uA rfl)<|.nil rfl
   ) ?_
   exact ⟨((IntKind.wrap .i64 (v2.1 - v2.2.1)),v2.2.1,x2),(sJ h7),.w (wkF ⟨⟨_,rfl,.arr rfl rfl⟩,wD rfl,⟨_,rfl,.fn .nil .nil⟩,wD rfl,wD rfl,trivial⟩ ⟨.arr rfl rfl,trivial⟩ (qv rfl))⟩
  refine cwF rfl hc1 ?_
  have ⟨x3,hx3,h8⟩ := bdS (x := qC v2.2.2 (IntKind.wrap .i64 (a2 - v2.1)) (IntKind.wrap .i64 ((IntKind.wrap .i64 (a2 + v2.2.1)) - v2.1)) v2.1) h6
  refine cwS (cwR (
   .c (uM rfl)<|
   .c (uM rfl)<|
   .c (uM rfl)<|
   .c (uB rfl (qW2 _ _) rfl)<|
   .c (uM rfl)<|
   .c (uM rfl)<|
   .c (uB rfl (qN0 _ _) rfl)<|
   .c (uM rfl)<|
   .c (uB rfl (qW2 _ _) rfl)<|
   .c (uM rfl)<|
   .c (uM rfl)<|
   .c (qQ (fun _ => 0) rfl rfl .no Try.func101 rfl rfl (qP0 hx3 u0) (.cons rfl (.a rfl) (.cons rfl .d (.cons rfl .d (.cons rfl .d (.cons rfl .f0 .nil))))) (q40 rfl ⟨(by simp [AV.live,lk,Nat.beq]),trivial,trivial,trivial,(by simp [AV.live,AV.lives]),trivial⟩ rfl trivial (by simp)) (.inl rfl))<|.nil rfl) ?_)
  refine cwR (
   .c (uM rfl)<|
   .c (uM rfl)<|
   .c (uB rfl (qW2 _ _) rfl)<|
   .c (uA rfl)<|.nil rfl
  ) ?_
  exact ⟨(v2.1,(IntKind.wrap .i64 (v2.2.1 - v2.1)),x3),(sJ h8),.w (wkF ⟨⟨_,rfl,.arr rfl rfl⟩,wD rfl,⟨_,rfl,.fn .nil .nil⟩,wD rfl,wD rfl,trivial⟩ ⟨.arr rfl rfl,trivial⟩ (qv rfl))⟩
 refine cwF rfl hc0 ?_
 refine q10 ?_
 exact ⟨(v2.1,v2.2.2),(hx1 _ (sJ h4)).symm,.w (wkF ⟨⟨_,rfl,.arr rfl rfl⟩,wD rfl,⟨_,rfl,.fn .nil .nil⟩,wD rfl,trivial⟩ ⟨.arr rfl rfl,trivial⟩ (qv rfl))⟩
theorem ql2 {self : (List ttC) → Int → Int → Int → Option (List ttC)} (self_ok : ∀ {a0 : List ttC} {a1 : Int} {a2 : Int} {a3 : Int} {r : (List ttC)},self a0 a1 a2 a3 = some r → ∀ (u0 : Nat),FnOk Try.prog 89 [.arr 0 u0,.d (eint a1),.d (eint a2),.d (eint a3),.fn 56 [] []] 1 (lk [(0,.arr u0 26 (a0.map eCg))]) (fun rr oo => rr = .tup [] ∧ oo = lk [(0,.arr u0 26 (r.map eCg))])) {a0 : List ttC} {a1 : Int} {a2 : Int} {a3 : Int} {r : (List ttC)} (h : qa0 self a0 a1 a2 a3 = some r) (u0 : Nat) : FnOk Try.prog 89 [.arr 0 u0,.d (eint a1),.d (eint a2),.d (eint a3),.fn 56 [] []] 1 (lk [(0,.arr u0 26 (List.map eCg a0))]) (fun rr oo => rr = .tup [] ∧ oo = lk [(0,.arr u0 26 (r.map eCg))]) := by
 refine fnO Try.func89 rfl rfl (cwP ?_)
 unfold qa0 at h
 have ⟨o0,hj0,h0⟩ := bdS h
 refine cw_tail (fun (z : (List ttC)) => St.of [] [(0,.arr u0 26 (z.map eCg))]) (fun (z : (List ttC)) => o0 = (.inl z)) ?_ ?_
 ·intro v0 hv0; subst hv0
  have heq := ((sJ h0)).symm
  subst heq
  exact ⟨_,(show Leads _ _ (St.of [] [(0,.arr u0 26 (v0.map eCg))]) from .w (wkF trivial ⟨.arr rfl rfl,trivial⟩ (qv rfl))),.inl rfl,_,res0 rfl,rfl,rfl⟩
 have ⟨o1,hj1,h1⟩ := bdS hj0
 refine cwJ (fun (z : Unit) => St.of [(0,.arr 0 u0),(1,.d (eint a1)),(2,.d (eint a2)),(3,.d (eint a3)),(4,.fn 56 [] [])] [(0,.arr u0 26 (a0.map eCg))]) (fun (z : Unit) => o1 = (.inl z)) ?_ ?_
 ·intro v1 hv1; subst hv1
  simp only [Sum.elim_inl] at h1
  have ⟨o2,hj2,h2⟩ := bdS h1
  refine cwJ (fun (z : Unit) => St.of [(0,.arr 0 u0),(1,.d (eint a1)),(2,.d (eint a2)),(3,.d (eint a3)),(4,.fn 56 [] [])] [(0,.arr u0 26 (a0.map eCg))]) (fun (z : Unit) => o2 = (.inl z)) ?_ ?_
  ·intro v2 hv2; subst hv2
   simp only [Sum.elim_inl] at h2
   refine cwS (cwR (
    .c (uM rfl)<|
    .c (uM rfl)<|
    .c (uB rfl (qN0 _ _) rfl)<|
    .c (qh5 rfl rfl .no rfl un3 un82)<|
    .c (uB rfl (b_shr _ _ (by decide)) rfl)<|
    .c (qh5 rfl rfl .no rfl un82 un3)<|
    .c (uA rfl)<|.nil rfl) ?_)
   refine cwS (cwR (
    .c (uM rfl)<|
    .c (uM rfl)<|
    .c (uB rfl (qN0 _ _) rfl)<|
    .c (uA rfl)<|.nil rfl) ?_)
   refine cwS (cwR (
    .c (uA rfl)<|
    .c (uA rfl)<|.nil rfl) ?_)
   have ⟨o3,hj3,h3⟩ := bdS h2
   refine cwJ (fun (z : (Int × Int × Int × Int)) => St.of [(0,.arr 0 u0),(1,.d (eint a1)),(2,.d (eint a2)),(3,.d (eint a3)),(4,.fn 56 [] []),(18,.d (eint z.1)),(19,.d (eint z.2.1)),(20,.d (eint z.2.2.1)),(21,.d (eint z.2.2.2))] [(0,.arr u0 26 (a0.map eCg))]) (fun (z : (Int × Int × Int × Int)) => o3 = z) ?_ ?_
   ·intro v3 hv3; subst hv3
    refine cwS (cwR (
     .c (uM rfl)<|
     .c (uB rfl (qW2 _ _) rfl)<|
     .c (uA rfl)<|.nil rfl) ?_)
    have ⟨o4,hj4,h4⟩ := bdS h3
    refine cwJ (fun (z : Int) => St.of [(0,.arr 0 u0),(1,.d (eint a1)),(2,.d (eint a2)),(3,.d (eint a3)),(4,.fn 56 [] []),(18,.d (eint o3.1)),(19,.d (eint o3.2.1)),(20,.d (eint z))] [(0,.arr u0 26 (a0.map eCg))]) (fun (z : Int) => o4 = z) ?_ ?_
    ·intro v4 hv4; subst hv4
     refine cwS (cwR (
      .c (uM rfl)<|
      .c (uM rfl)<|
      .c (uB rfl (qW2 _ _) rfl)<|
      .c (uA rfl)<|.nil rfl) ?_)
     have ⟨o5,hj5,h5⟩ := bdS h4
     refine cwJ (fun (z : (List ttC)) => St.of [(0,.arr 0 u0),(1,.d (eint a1)),(3,.d (eint a3)),(4,.fn 56 [] []),(18,.d (eint o3.1)),(20,.d (eint o4)),(24,.d (eint (IntKind.wrap .i64 (o3.2.1 - o4))))] [(0,.arr u0 26 (z.map eCg))]) (fun (z : (List ttC)) => o5 = z) ?_ ?_
     ·intro v5 hv5; subst hv5
      have ⟨o6,hj6,h6⟩ := bdS h5
      refine cwJ (fun (z : (List ttC)) => St.of [(0,.arr 0 u0),(3,.d (eint a3)),(4,.fn 56 [] []),(18,.d (eint o3.1)),(24,.d (eint (IntKind.wrap .i64 (o3.2.1 - o4))))] [(0,.arr u0 26 (z.map eCg))]) (fun (z : (List ttC)) => o6 = z) ?_ ?_
      ·intro v6 hv6; subst hv6
       have ⟨o7,hj7,h7⟩ := bdS h6
       refine cwJ (fun (z : Bool) => St.of [(0,.arr 0 u0),(3,.d (eint a3)),(4,.fn 56 [] []),(18,.d (eint o3.1)),(24,.d (eint (IntKind.wrap .i64 (o3.2.1 - o4)))),(213,.d (qU z))] [(0,.arr u0 26 (o6.map eCg))]) (fun (z : Bool) => o7 = z) ?_ ?_
       ·intro v7 hv7; subst hv7
        rcases cdS h7 with ⟨hc0,h8⟩ | ⟨hc0,h9⟩
        ·refine cwT rfl hc0 ?_
         have ⟨x0,hx0,h10⟩ := bdS (x := self o6 o3.1 (IntKind.wrap .i64 (o3.2.1 - o4)) a3) h8
         refine cwR (
          .c (uM rfl)<|
          .c (uM rfl)<|
          .c (uM rfl)<|
          .c (uM rfl)<|
          .c (uM rfl)<|
          .c (qQ (fun _ => 0) rfl rfl .no Try.func89 rfl rfl (self_ok hx0 u0) (.cons rfl (.a rfl) (.cons rfl .d (.cons rfl .d (.cons rfl .d (.cons rfl .f0 .nil))))) (q40 rfl ⟨(by simp [AV.live,lk,Nat.beq]),trivial,trivial,trivial,(by simp [AV.live,AV.lives]),trivial⟩ rfl trivial (by simp)) (.inl rfl))<|.nil rfl
         ) ?_
         exact ⟨x0,(sJ h10),.w (wkF trivial ⟨.arr rfl rfl,trivial⟩ (qv rfl))⟩
        refine cwF rfl hc0 ?_
        refine cwK ?_
        exact ⟨o6,(sJ h9),.w (wkF trivial ⟨.arr rfl rfl,trivial⟩ (qv rfl))⟩
       rcases cdS hj7 with ⟨hc1,h11⟩ | ⟨hc1,h12⟩
       ·skip
        refine cwR (
         .c (uM rfl)<|
         .c (uM rfl)<|
         .c (uB rfl (qG0 _ _) rfl)<|
         .c (uM rfl)<|
         .c (o_mv rfl rfl (.yes rfl rfl hc1) rfl)<|
         .c (o_mv rfl rfl (.yes rfl rfl hc1) rfl)<|
         .c (qj rfl rfl (.yes rfl rfl hc1) rfl rfl (qG0 _ _) rfl)<|
         .c (uPT rfl hc1)<|.nil rfl
        ) ?_
        exact ⟨(decide ((IntKind.wrap .i64 (o3.2.1 - o4)) < a3)),(sJ h11),.w (wkF ⟨⟨_,rfl,.arr rfl rfl⟩,wD rfl,⟨_,rfl,.fn .nil .nil⟩,wD rfl,wD rfl,wD rfl,trivial⟩ ⟨.arr rfl rfl,trivial⟩ (qv rfl))⟩
       refine cwR (
        .c (uM rfl)<|
        .c (uM rfl)<|
        .c (uB rfl (qG0 _ _) rfl)<|
        .c (uM rfl)<|
        .c (uN rfl rfl hc1)<|
        .c (uN rfl rfl hc1)<|
        .c (uN rfl rfl hc1)<|
        .c (uPF rfl hc1)<|.nil rfl
       ) ?_
       exact ⟨false,(sJ h12),.w (wkF ⟨⟨_,rfl,.arr rfl rfl⟩,wD rfl,⟨_,rfl,.fn .nil .nil⟩,wD rfl,wD rfl,wD rfl,trivial⟩ ⟨.arr rfl rfl,trivial⟩ (qv rfl))⟩
      have ⟨o8,hj8,h13⟩ := bdS hj6
      refine cwJ (fun (z : Bool) => St.of [(0,.arr 0 u0),(1,.d (eint a1)),(3,.d (eint a3)),(4,.fn 56 [] []),(18,.d (eint o3.1)),(20,.d (eint o4)),(24,.d (eint (IntKind.wrap .i64 (o3.2.1 - o4)))),(199,.d (qU z))] [(0,.arr u0 26 (o5.map eCg))]) (fun (z : Bool) => o8 = z) ?_ ?_
      ·intro v8 hv8; subst hv8
       rcases cdS h13 with ⟨hc2,h14⟩ | ⟨hc2,h15⟩
       ·refine cwT rfl hc2 ?_
        have ⟨x1,hx1,h16⟩ := bdS (x := self o5 a1 o4 o3.1) h14
        refine cwR (
         .c (uM rfl)<|
         .c (uM rfl)<|
         .c (uM rfl)<|
         .c (uM rfl)<|
         .c (uM rfl)<|
         .c (qQ (fun _ => 0) rfl rfl .no Try.func89 rfl rfl (self_ok hx1 u0) (.cons rfl (.a rfl) (.cons rfl .d (.cons rfl .d (.cons rfl .d (.cons rfl .f0 .nil))))) (q40 rfl ⟨(by simp [AV.live,lk,Nat.beq]),trivial,trivial,trivial,(by simp [AV.live,AV.lives]),trivial⟩ rfl trivial (by simp)) (.inl rfl))<|.nil rfl
        ) ?_
        exact ⟨x1,(sJ h16),.w (wkF ⟨⟨_,rfl,.arr rfl rfl⟩,wD rfl,⟨_,rfl,.fn .nil .nil⟩,wD rfl,wD rfl,trivial⟩ ⟨.arr rfl rfl,trivial⟩ (qv rfl))⟩
       refine cwF rfl hc2 ?_
       refine cwK ?_
       exact ⟨o5,(sJ h15),.w (wkF ⟨⟨_,rfl,.arr rfl rfl⟩,wD rfl,⟨_,rfl,.fn .nil .nil⟩,wD rfl,wD rfl,trivial⟩ ⟨.arr rfl rfl,trivial⟩ (qv rfl))⟩
      rcases cdS hj8 with ⟨hc3,h17⟩ | ⟨hc3,h18⟩
      ·skip
       refine cwR (
        .c (uM rfl)<|
        .c (uM rfl)<|
        .c (uB rfl (qG0 _ _) rfl)<|
        .c (uM rfl)<|
        .c (o_mv rfl rfl (.yes rfl rfl hc3) rfl)<|
        .c (o_mv rfl rfl (.yes rfl rfl hc3) rfl)<|
        .c (qj rfl rfl (.yes rfl rfl hc3) rfl rfl (qG0 _ _) rfl)<|
        .c (uPT rfl hc3)<|.nil rfl
       ) ?_
       exact ⟨(decide (o4 < o3.1)),(sJ h17),.w (wkF ⟨⟨_,rfl,.arr rfl rfl⟩,wD rfl,wD rfl,⟨_,rfl,.fn .nil .nil⟩,wD rfl,wD rfl,wD rfl,wD rfl,trivial⟩ ⟨.arr rfl rfl,trivial⟩ (qv rfl))⟩
      refine cwR (
       .c (uM rfl)<|
       .c (uM rfl)<|
       .c (uB rfl (qG0 _ _) rfl)<|
       .c (uM rfl)<|
       .c (uN rfl rfl hc3)<|
       .c (uN rfl rfl hc3)<|
       .c (uN rfl rfl hc3)<|
       .c (uPF rfl hc3)<|.nil rfl
      ) ?_
      exact ⟨false,(sJ h18),.w (wkF ⟨⟨_,rfl,.arr rfl rfl⟩,wD rfl,wD rfl,⟨_,rfl,.fn .nil .nil⟩,wD rfl,wD rfl,wD rfl,wD rfl,trivial⟩ ⟨.arr rfl rfl,trivial⟩ (qv rfl))⟩
     have ⟨o9,hj9,h19⟩ := bdS hj5
     refine cwJ (fun (z : Bool) => St.of [(0,.arr 0 u0),(1,.d (eint a1)),(2,.d (eint a2)),(3,.d (eint a3)),(4,.fn 56 [] []),(18,.d (eint o3.1)),(20,.d (eint o4)),(24,.d (eint (IntKind.wrap .i64 (o3.2.1 - o4)))),(185,.d (qU z))] [(0,.arr u0 26 (a0.map eCg))]) (fun (z : Bool) => o9 = z) ?_ ?_
     ·intro v9 hv9; subst hv9
      rcases cdS h19 with ⟨hc4,h20⟩ | ⟨hc4,h21⟩
      ·refine cwT rfl hc4 ?_
       have ⟨x2,hx2,h22⟩ := bdS (x := qf0 a0 o4 a2 (IntKind.wrap .i64 (o3.2.1 - o4))) h20
       refine cwR (
        .c (uM rfl)<|
        .c (uM rfl)<|
        .c (uM rfl)<|
        .c (uM rfl)<|
        .c (uM rfl)<|
        .c (qQ (fun _ => 0) rfl rfl .no Try.func97 rfl rfl (qB3 hx2 u0) (.cons rfl (.a rfl) (.cons rfl .d (.cons rfl .d (.cons rfl .d (.cons rfl .f0 .nil))))) (q40 rfl ⟨(by simp [AV.live,lk,Nat.beq]),trivial,trivial,trivial,(by simp [AV.live,AV.lives]),trivial⟩ rfl trivial (by simp)) (.inl rfl))<|.nil rfl
       ) ?_
       exact ⟨x2,(sJ h22),.w (wkF ⟨⟨_,rfl,.arr rfl rfl⟩,wD rfl,wD rfl,⟨_,rfl,.fn .nil .nil⟩,wD rfl,wD rfl,wD rfl,trivial⟩ ⟨.arr rfl rfl,trivial⟩ (qv rfl))⟩
      refine cwF rfl hc4 ?_
      refine cwK ?_
      exact ⟨a0,(sJ h21),.w (wkF ⟨⟨_,rfl,.arr rfl rfl⟩,wD rfl,wD rfl,⟨_,rfl,.fn .nil .nil⟩,wD rfl,wD rfl,wD rfl,trivial⟩ ⟨.arr rfl rfl,trivial⟩ (qv rfl))⟩
     rcases cdS hj9 with ⟨hc5,h23⟩ | ⟨hc5,h24⟩
     ·skip
      refine cwR (
       .c (uM rfl)<|
       .c (uM rfl)<|
       .c (uB rfl (qG0 _ _) rfl)<|
       .c (uM rfl)<|
       .c (o_mv rfl rfl (.yes rfl rfl hc5) rfl)<|
       .c (o_mv rfl rfl (.yes rfl rfl hc5) rfl)<|
       .c (qj rfl rfl (.yes rfl rfl hc5) rfl rfl (qG0 _ _) rfl)<|
       .c (uPT rfl hc5)<|.nil rfl
      ) ?_
      exact ⟨(decide (a2 < (IntKind.wrap .i64 (o3.2.1 - o4)))),(sJ h23),.w (wkF ⟨⟨_,rfl,.arr rfl rfl⟩,wD rfl,wD rfl,wD rfl,⟨_,rfl,.fn .nil .nil⟩,wD rfl,wD rfl,wD rfl,wD rfl,trivial⟩ ⟨.arr rfl rfl,trivial⟩ (qv rfl))⟩
     refine cwR (
      .c (uM rfl)<|
      .c (uM rfl)<|
      .c (uB rfl (qG0 _ _) rfl)<|
      .c (uM rfl)<|
      .c (uN rfl rfl hc5)<|
      .c (uN rfl rfl hc5)<|
      .c (uN rfl rfl hc5)<|
      .c (uPF rfl hc5)<|.nil rfl
     ) ?_
     exact ⟨false,(sJ h24),.w (wkF ⟨⟨_,rfl,.arr rfl rfl⟩,wD rfl,wD rfl,wD rfl,⟨_,rfl,.fn .nil .nil⟩,wD rfl,wD rfl,wD rfl,wD rfl,trivial⟩ ⟨.arr rfl rfl,trivial⟩ (qv rfl))⟩
    refine cwB ?_
    refine qM (V := (Int × Int)) (O := Int) (fun (z : (Int × Int)) => St.of [(0,.arr 0 u0),(1,.d (eint a1)),(2,.d (eint a2)),(3,.d (eint a3)),(4,.fn 56 [] []),(18,.d (eint o3.1)),(19,.d (eint o3.2.1)),(20,.d (eint z.1)),(21,.d (eint z.2)),(22,.d (eint (IntKind.wrap .i64 (o3.2.1 - 1))))] [(0,.arr u0 26 (a0.map eCg))]) hj4 (.w (wkF ⟨⟨_,rfl,.arr rfl rfl⟩,wD rfl,wD rfl,wD rfl,⟨_,rfl,.fn .nil .nil⟩,wD rfl,wD rfl,wD rfl,wD rfl,wD rfl,trivial⟩ ⟨.arr rfl rfl,trivial⟩ (qv rfl))) ?_
    intro v10 x3 hb0 hx3
    refine cwS ?_
    refine cwS (cwR (
     .c (uM rfl)<|
     .c (uM rfl)<|
     .c (uB rfl (qG0 _ _) rfl)<|.nil rfl) ?_)
    rcases cdS hb0 with ⟨hc6,h25⟩ | ⟨hc6,h26⟩
    ·refine cwT rfl hc6 ?_
     refine cwK ?_
     refine cwB ?_
     refine cwS (cwR (
      .c (uM rfl)<|
      .c (uM rfl)<|
      .c (uB rfl (qN0 _ _) rfl)<|
      .c (qh5 rfl rfl .no rfl un3 un82)<|
      .c (uB rfl (b_shr _ _ (by decide)) rfl)<|
      .c (qh5 rfl rfl .no rfl un82 un3)<|
      .c (uA rfl)<|.nil rfl) ?_)
     have ⟨x4,hx4,h27⟩ := bdS h25
     have hx4g := qD hx4
     have ⟨x5,hx5,h28⟩ := bdS h27
     have hx5g := qD hx5
     have ⟨x6,hx6,h29⟩ := bdS (x := qZ x4 x5) h28
     refine cwS (cwRA mixed (by kernel_rfl) (
      .c (uM rfl)<|
      .c (uM rfl)<|
      .c (uM rfl)<|
      .c (uM rfl)<|
      .c (uB rfl (qW2 _ _) rfl)<|
      .c (qw1 (enc := eCg) (xs := a0) rfl rfl .no rfl rfl rfl sl22 sz33 hx4g.1 hx4g.2)<|
      .c (qH2 (enc := eCg) (xs := a0) (r := x4) [] rfl rfl .no rfl rfl hx4g.2 rfl ta33 rfl rfl)<|
      .c (uM rfl)<|
      .c (uM rfl)<|
      .c (qw1 (enc := eCg) (xs := a0) rfl rfl .no rfl rfl rfl sl22 sz33 hx5g.1 hx5g.2)<|
      .c (qH2 (enc := eCg) (xs := a0) (r := x5) [] rfl rfl .no rfl rfl hx5g.2 rfl ta33 rfl rfl)<|
      .c (qG3 rfl rfl .no rfl Try.func56 rfl rfl (qR1 hx6) (.cons rfl .d (.cons rfl .d .nil)) ⟨trivial,trivial,trivial⟩ (.inl rfl))<|
      .c (uB rfl (qG0 _ _) rfl)<|
      .c (uT rfl)<|.nil rfl) (by kernel_rfl) ?_)
     rcases cdS h29 with ⟨hc7,h30⟩ | ⟨hc7,h31⟩
     ·refine cwT rfl hc7 ?_
      refine cwR (
       .c (uM rfl)<|
       .c (uB rfl (qN0 _ _) rfl)<|
       .c (uA rfl)<|.nil rfl
      ) ?_
      exact ⟨((IntKind.wrap .i64 ((IntKind.wrap .i64 (Int.fdiv (IntKind.wrap .u64 (IntKind.wrap .i64 (v10.1 + v10.2))) (2 ^ 1))) + 1)),v10.2),(sJ h30),.w (wkF ⟨⟨_,rfl,.arr rfl rfl⟩,wD rfl,wD rfl,wD rfl,⟨_,rfl,.fn .nil .nil⟩,wD rfl,wD rfl,wD rfl,wD rfl,wD rfl,trivial⟩ ⟨.arr rfl rfl,trivial⟩ (qv rfl))⟩
     refine cwF rfl hc7 ?_
     refine cwR (
      .c (uM rfl)<|
      .c (uA rfl)<|.nil rfl
     ) ?_
     exact ⟨(v10.1,(IntKind.wrap .i64 (Int.fdiv (IntKind.wrap .u64 (IntKind.wrap .i64 (v10.1 + v10.2))) (2 ^ 1)))),(sJ h31),.w (wkF ⟨⟨_,rfl,.arr rfl rfl⟩,wD rfl,wD rfl,wD rfl,⟨_,rfl,.fn .nil .nil⟩,wD rfl,wD rfl,wD rfl,wD rfl,wD rfl,trivial⟩ ⟨.arr rfl rfl,trivial⟩ (qv rfl))⟩
    refine cwF rfl hc6 ?_
    refine q10 ?_
    exact ⟨v10.1,(hx3 _ (sJ h26)).symm,.w (wkF ⟨⟨_,rfl,.arr rfl rfl⟩,wD rfl,wD rfl,wD rfl,⟨_,rfl,.fn .nil .nil⟩,wD rfl,wD rfl,wD rfl,trivial⟩ ⟨.arr rfl rfl,trivial⟩ (qv rfl))⟩
   refine cwS (cwR (
    .c (uM rfl)<|
    .c (uM rfl)<|
    .c (uB rfl (qy3 _ _) rfl)<|.nil rfl) ?_)
   rcases cdS hj3 with ⟨hc8,h32⟩ | ⟨hc8,h33⟩
   ·refine cwT rfl hc8 ?_
    refine cwS (cwR (
     .c (uM rfl)<|
     .c (uM rfl)<|
     .c (uB rfl (qW2 _ _) rfl)<|
     .c (uA rfl)<|.nil rfl) ?_)
    refine cwR (
     .c (uM rfl)<|
     .c (uA rfl)<|.nil rfl
    ) ?_
    exact ⟨((IntKind.wrap .i64 (Int.fdiv (IntKind.wrap .u64 (IntKind.wrap .i64 (a1 + a3))) (2 ^ 1))),(IntKind.wrap .i64 ((IntKind.wrap .i64 (Int.fdiv (IntKind.wrap .u64 (IntKind.wrap .i64 (a1 + a3))) (2 ^ 1))) + a2)),(IntKind.wrap .i64 ((IntKind.wrap .i64 ((IntKind.wrap .i64 (Int.fdiv (IntKind.wrap .u64 (IntKind.wrap .i64 (a1 + a3))) (2 ^ 1))) + a2)) - a3)),(IntKind.wrap .i64 (Int.fdiv (IntKind.wrap .u64 (IntKind.wrap .i64 (a1 + a3))) (2 ^ 1)))),(sJ h32),.w (wkF ⟨⟨_,rfl,.arr rfl rfl⟩,wD rfl,wD rfl,wD rfl,⟨_,rfl,.fn .nil .nil⟩,wD rfl,wD rfl,wD rfl,wD rfl,trivial⟩ ⟨.arr rfl rfl,trivial⟩ (qv rfl))⟩
   refine cwF rfl hc8 ?_
   refine cwS (cwR (
    .c (uM rfl)<|
    .c (uA rfl)<|.nil rfl) ?_)
   refine cwR (
    .c (uM rfl)<|
    .c (uA rfl)<|.nil rfl
   ) ?_
   exact ⟨((IntKind.wrap .i64 (Int.fdiv (IntKind.wrap .u64 (IntKind.wrap .i64 (a1 + a3))) (2 ^ 1))),(IntKind.wrap .i64 ((IntKind.wrap .i64 (Int.fdiv (IntKind.wrap .u64 (IntKind.wrap .i64 (a1 + a3))) (2 ^ 1))) + a2)),a1,a2),(sJ h33),.w (wkF ⟨⟨_,rfl,.arr rfl rfl⟩,wD rfl,wD rfl,wD rfl,⟨_,rfl,.fn .nil .nil⟩,wD rfl,wD rfl,wD rfl,wD rfl,trivial⟩ ⟨.arr rfl rfl,trivial⟩ (qv rfl))⟩
  refine cwS (cwR (
   .c (uM rfl)<|
   .c (uM rfl)<|
   .c (uB rfl (qW2 _ _) rfl)<|
   .c (uB rfl (qd0 _ _) rfl)<|.nil rfl) ?_)
  rcases cdS hj2 with ⟨hc9,h34⟩ | ⟨hc9,h35⟩
  ·refine cwT rfl hc9 ?_
   refine cwS (cwR (
    .c (uM rfl)<|
    .c (uA rfl)<|.nil rfl) ?_)
   refine cwS (cwR (
    .c (uM rfl)<|
    .c (uA rfl)<|.nil rfl) ?_)
   have ⟨o10,hj10,h36⟩ := bdS h34
   refine cwJ (fun (z : Int) => St.of [(0,.arr 0 u0),(2,.d (eint a2)),(14,.d (eint z))] [(0,.arr u0 26 (a0.map eCg))]) (fun (z : Int) => o10 = z) ?_ ?_
   ·intro v11 hv10; subst hv10
    have ⟨o11,hj11,h37⟩ := bdS h36
    refine cwJ (fun (z : (List ttC)) => St.of [] [(0,.arr u0 26 (z.map eCg))]) (fun (z : (List ttC)) => o11 = z) ?_ ?_
    ·intro v12 hv11; subst hv11
     have he0 := ((sJ h37)).symm
     subst he0
     have he1 := ((sJ h2)).symm
     subst he1
     have heq := ((sJ h0)).symm
     subst heq
     exact qw ⟨_,(show Leads _ _ (St.of [] [(0,.arr u0 26 (o11.map eCg))]) from .w (wkF trivial ⟨.arr rfl rfl,trivial⟩ (qv rfl))),.inr rfl,_,res0 rfl,rfl,rfl⟩
    refine cwS (cwR (
     .c (uM rfl)<|
     .c (uA rfl)<|.nil rfl) ?_)
    refine cwB ?_
    refine qM (V := (Int × (List ttC))) (O := (List ttC)) (fun (z : (Int × (List ttC))) => St.of [(0,.arr 0 u0),(14,.d (eint o10)),(17,.d (eint z.1))] [(0,.arr u0 26 (z.2.map eCg))]) hj11 (.w (wkF ⟨⟨_,rfl,.arr rfl rfl⟩,wD rfl,wD rfl,trivial⟩ ⟨.arr rfl rfl,trivial⟩ (qv rfl))) ?_
    intro v13 x7 hb1 hx7
    refine cwS ?_
    refine cwS (cwR (
     .c (uM rfl)<|
     .c (uM rfl)<|
     .c (uB rfl (qy3 _ _) rfl)<|.nil rfl) ?_)
    rcases cdS hb1 with ⟨hc10,h38⟩ | ⟨hc10,h39⟩
    ·refine cwT rfl hc10 ?_
     refine cwK ?_
     refine cwS ?_
     refine cwB ?_
     have ⟨x8,hx8,h40⟩ := bdS h38
     have hx8g := qD hx8
     have ⟨x9,hx9,h41⟩ := bdS h40
     have hx9g := qD hx9
     have ⟨x10,hx10,h42⟩ := bdS h41
     have hx10g := qD hx10
     refine cwRA mixed (by kernel_rfl) (
      .c (uM rfl)<|
      .c (uM rfl)<|
      .c (uM rfl)<|
      .c (uM rfl)<|
      .c (uB rfl (qW2 _ _) rfl)<|
      .c (uM rfl)<|
      .c (uM rfl)<|
      .c (uB rfl (qW2 _ _) rfl)<|
      .c (qw1 (enc := eCg) (xs := v13.2) rfl rfl .no rfl rfl rfl sl22 sz33 hx8g.1 hx8g.2)<|
      .c (qH2 (enc := eCg) (xs := v13.2) (r := x8) [] rfl rfl .no rfl rfl hx8g.2 rfl ta33 rfl rfl)<|
      .c (uM rfl)<|
      .c (uM rfl)<|
      .c (qw1 (enc := eCg) (xs := v13.2) rfl rfl .no rfl rfl rfl sl22 sz33 hx9g.1 hx9g.2)<|
      .c (qH2 (enc := eCg) (xs := v13.2) (r := x9) [] rfl rfl .no rfl rfl hx9g.2 rfl ta33 rfl rfl)<|
      .c (qw1 (enc := eCg) (xs := v13.2) rfl rfl .no rfl rfl rfl sl22 sz33 hx9g.1 hx9g.2)<|
      .c (o_stEM (enc := eCg) (xs := v13.2) (y := x8) (r := x9) rfl .no rfl rfl rfl hx9g.2 sz33 rfl (qb0 _))<|
      .c (qw1 (enc := eCg) (xs := (List.set v13.2 v13.1.toNat x8)) rfl rfl .no rfl rfl rfl sl22 sz33 hx10g.1 hx10g.2)<|
      .c (o_stEM (enc := eCg) (xs := (List.set v13.2 v13.1.toNat x8)) (y := x9) (r := x10) rfl .no rfl rfl rfl hx10g.2 sz33 rfl (qb0 _))<|.nil rfl) (by kernel_rfl) ?_
     refine cwR (
      .c (uM rfl)<|
      .c (uB rfl (qW2 _ _) rfl)<|
      .c (uA rfl)<|.nil rfl
     ) ?_
     exact ⟨((IntKind.wrap .i64 (v13.1 - 1)),(List.set (List.set v13.2 v13.1.toNat x8) (IntKind.wrap .i64 (v13.1 - 1)).toNat x9)),(sJ h42),.w (wkF ⟨⟨_,rfl,.arr rfl rfl⟩,wD rfl,wD rfl,trivial⟩ ⟨.arr rfl rfl,trivial⟩ (qv rfl))⟩
    refine cwF rfl hc10 ?_
    refine q10 ?_
    exact ⟨v13.2,(hx7 _ (sJ h39)).symm,.w (wkF trivial ⟨.arr rfl rfl,trivial⟩ (qv rfl))⟩
   refine cwB ?_
   refine qM (V := (Int × Int)) (O := Int) (fun (z : (Int × Int)) => St.of [(0,.arr 0 u0),(2,.d (eint a2)),(4,.fn 56 [] []),(14,.d (eint z.1)),(15,.d (eint z.2))] [(0,.arr u0 26 (a0.map eCg))]) hj10 (.w (wkF ⟨⟨_,rfl,.arr rfl rfl⟩,wD rfl,⟨_,rfl,.fn .nil .nil⟩,wD rfl,wD rfl,trivial⟩ ⟨.arr rfl rfl,trivial⟩ (qv rfl))) ?_
   intro v14 x11 hb2 hx11
   refine cwS ?_
   refine cwS (cwR (
    .c (uM rfl)<|
    .c (uM rfl)<|
    .c (uB rfl (qG0 _ _) rfl)<|.nil rfl) ?_)
   rcases cdS hb2 with ⟨hc11,h43⟩ | ⟨hc11,h44⟩
   ·refine cwT rfl hc11 ?_
    refine cwK ?_
    refine cwB ?_
    refine cwS (cwR (
     .c (uM rfl)<|
     .c (uM rfl)<|
     .c (uB rfl (qN0 _ _) rfl)<|
     .c (qh5 rfl rfl .no rfl un3 un82)<|
     .c (uB rfl (b_shr _ _ (by decide)) rfl)<|
     .c (qh5 rfl rfl .no rfl un82 un3)<|
     .c (uA rfl)<|.nil rfl) ?_)
    have ⟨x12,hx12,h45⟩ := bdS h43
    have hx12g := qD hx12
    have ⟨x13,hx13,h46⟩ := bdS h45
    have hx13g := qD hx13
    have ⟨x14,hx14,h47⟩ := bdS (x := qZ x12 x13) h46
    refine cwS (cwRA mixed (by kernel_rfl) (
     .c (uM rfl)<|
     .c (uM rfl)<|
     .c (uM rfl)<|
     .c (qw1 (enc := eCg) (xs := a0) rfl rfl .no rfl rfl rfl sl22 sz33 hx12g.1 hx12g.2)<|
     .c (qH2 (enc := eCg) (xs := a0) (r := x12) [] rfl rfl .no rfl rfl hx12g.2 rfl ta33 rfl rfl)<|
     .c (uM rfl)<|
     .c (uM rfl)<|
     .c (qw1 (enc := eCg) (xs := a0) rfl rfl .no rfl rfl rfl sl22 sz33 hx13g.1 hx13g.2)<|
     .c (qH2 (enc := eCg) (xs := a0) (r := x13) [] rfl rfl .no rfl rfl hx13g.2 rfl ta33 rfl rfl)<|
     .c (qG3 rfl rfl .no rfl Try.func56 rfl rfl (qR1 hx14) (.cons rfl .d (.cons rfl .d .nil)) ⟨trivial,trivial,trivial⟩ (.inl rfl))<|
     .c (uB rfl (qG0 _ _) rfl)<|
     .c (uT rfl)<|.nil rfl) (by kernel_rfl) ?_)
    rcases cdS h47 with ⟨hc12,h48⟩ | ⟨hc12,h49⟩
    ·refine cwT rfl hc12 ?_
     refine cwR (
      .c (uM rfl)<|
      .c (uB rfl (qN0 _ _) rfl)<|
      .c (uA rfl)<|.nil rfl
     ) ?_
     exact ⟨((IntKind.wrap .i64 ((IntKind.wrap .i64 (Int.fdiv (IntKind.wrap .u64 (IntKind.wrap .i64 (v14.1 + v14.2))) (2 ^ 1))) + 1)),v14.2),(sJ h48),.w (wkF ⟨⟨_,rfl,.arr rfl rfl⟩,wD rfl,⟨_,rfl,.fn .nil .nil⟩,wD rfl,wD rfl,trivial⟩ ⟨.arr rfl rfl,trivial⟩ (qv rfl))⟩
    refine cwF rfl hc12 ?_
    refine cwR (
     .c (uM rfl)<|
     .c (uA rfl)<|.nil rfl
    ) ?_
    exact ⟨(v14.1,(IntKind.wrap .i64 (Int.fdiv (IntKind.wrap .u64 (IntKind.wrap .i64 (v14.1 + v14.2))) (2 ^ 1)))),(sJ h49),.w (wkF ⟨⟨_,rfl,.arr rfl rfl⟩,wD rfl,⟨_,rfl,.fn .nil .nil⟩,wD rfl,wD rfl,trivial⟩ ⟨.arr rfl rfl,trivial⟩ (qv rfl))⟩
   refine cwF rfl hc11 ?_
   refine q10 ?_
   exact ⟨v14.1,(hx11 _ (sJ h44)).symm,.w (wkF ⟨⟨_,rfl,.arr rfl rfl⟩,wD rfl,wD rfl,trivial⟩ ⟨.arr rfl rfl,trivial⟩ (qv rfl))⟩
  refine cwF rfl hc9 ?_
  refine cwK ?_
  exact ⟨(),(sJ h35),.w (wkF ⟨⟨_,rfl,.arr rfl rfl⟩,wD rfl,wD rfl,wD rfl,⟨_,rfl,.fn .nil .nil⟩,trivial⟩ ⟨.arr rfl rfl,trivial⟩ (qv rfl))⟩
 refine cwS (cwR (
  .c (uM rfl)<|
  .c (uM rfl)<|
  .c (uB rfl (qW2 _ _) rfl)<|
  .c (uB rfl (qd0 _ _) rfl)<|.nil rfl) ?_)
 rcases cdS hj1 with ⟨hc13,h50⟩ | ⟨hc13,h51⟩
 ·refine cwT rfl hc13 ?_
  refine cwS (cwR (
   .c (uM rfl)<|
   .c (uA rfl)<|.nil rfl) ?_)
  refine cwS (cwR (
   .c (uM rfl)<|
   .c (uA rfl)<|.nil rfl) ?_)
  have ⟨o12,hj12,h52⟩ := bdS h50
  refine cwJ (fun (z : Int) => St.of [(0,.arr 0 u0),(1,.d (eint a1)),(10,.d (eint z))] [(0,.arr u0 26 (a0.map eCg))]) (fun (z : Int) => o12 = z) ?_ ?_
  ·intro v15 hv12; subst hv12
   have ⟨o13,hj13,h53⟩ := bdS h52
   refine cwJ (fun (z : (List ttC)) => St.of [] [(0,.arr u0 26 (z.map eCg))]) (fun (z : (List ttC)) => o13 = z) ?_ ?_
   ·intro v16 hv13; subst hv13
    have he2 := ((sJ h53)).symm
    subst he2
    have he3 := ((sJ h1)).symm
    subst he3
    have heq := ((sJ h0)).symm
    subst heq
    exact qw ⟨_,(show Leads _ _ (St.of [] [(0,.arr u0 26 (o13.map eCg))]) from .w (wkF trivial ⟨.arr rfl rfl,trivial⟩ (qv rfl))),.inr rfl,_,res0 rfl,rfl,rfl⟩
   refine cwS (cwR (
    .c (uM rfl)<|
    .c (uA rfl)<|.nil rfl) ?_)
   refine cwB ?_
   refine qM (V := (Int × (List ttC))) (O := (List ttC)) (fun (z : (Int × (List ttC))) => St.of [(0,.arr 0 u0),(10,.d (eint o12)),(13,.d (eint z.1))] [(0,.arr u0 26 (z.2.map eCg))]) hj13 (.w (wkF ⟨⟨_,rfl,.arr rfl rfl⟩,wD rfl,wD rfl,trivial⟩ ⟨.arr rfl rfl,trivial⟩ (qv rfl))) ?_
   intro v17 x15 hb3 hx15
   refine cwS ?_
   refine cwS (cwR (
    .c (uM rfl)<|
    .c (uM rfl)<|
    .c (uB rfl (qW2 _ _) rfl)<|
    .c (uB rfl (qG0 _ _) rfl)<|.nil rfl) ?_)
   rcases cdS hb3 with ⟨hc14,h54⟩ | ⟨hc14,h55⟩
   ·refine cwT rfl hc14 ?_
    refine cwK ?_
    refine cwS ?_
    refine cwB ?_
    have ⟨x16,hx16,h56⟩ := bdS h54
    have hx16g := qD hx16
    have ⟨x17,hx17,h57⟩ := bdS h56
    have hx17g := qD hx17
    have ⟨x18,hx18,h58⟩ := bdS h57
    have hx18g := qD hx18
    refine cwRA mixed (by kernel_rfl) (
     .c (uM rfl)<|
     .c (uM rfl)<|
     .c (uM rfl)<|
     .c (uM rfl)<|
     .c (uB rfl (qN0 _ _) rfl)<|
     .c (uM rfl)<|
     .c (uM rfl)<|
     .c (uB rfl (qN0 _ _) rfl)<|
     .c (qw1 (enc := eCg) (xs := v17.2) rfl rfl .no rfl rfl rfl sl22 sz33 hx16g.1 hx16g.2)<|
     .c (qH2 (enc := eCg) (xs := v17.2) (r := x16) [] rfl rfl .no rfl rfl hx16g.2 rfl ta33 rfl rfl)<|
     .c (uM rfl)<|
     .c (uM rfl)<|
     .c (qw1 (enc := eCg) (xs := v17.2) rfl rfl .no rfl rfl rfl sl22 sz33 hx17g.1 hx17g.2)<|
     .c (qH2 (enc := eCg) (xs := v17.2) (r := x17) [] rfl rfl .no rfl rfl hx17g.2 rfl ta33 rfl rfl)<|
     .c (qw1 (enc := eCg) (xs := v17.2) rfl rfl .no rfl rfl rfl sl22 sz33 hx17g.1 hx17g.2)<|
     .c (o_stEM (enc := eCg) (xs := v17.2) (y := x16) (r := x17) rfl .no rfl rfl rfl hx17g.2 sz33 rfl (qb0 _))<|
     .c (qw1 (enc := eCg) (xs := (List.set v17.2 v17.1.toNat x16)) rfl rfl .no rfl rfl rfl sl22 sz33 hx18g.1 hx18g.2)<|
     .c (o_stEM (enc := eCg) (xs := (List.set v17.2 v17.1.toNat x16)) (y := x17) (r := x18) rfl .no rfl rfl rfl hx18g.2 sz33 rfl (qb0 _))<|.nil rfl) (by kernel_rfl) ?_
    refine cwR (
     .c (uM rfl)<|
     .c (uB rfl (qN0 _ _) rfl)<|
     .c (uA rfl)<|.nil rfl
    ) ?_
    exact ⟨((IntKind.wrap .i64 (v17.1 + 1)),(List.set (List.set v17.2 v17.1.toNat x16) (IntKind.wrap .i64 (v17.1 + 1)).toNat x17)),(sJ h58),.w (wkF ⟨⟨_,rfl,.arr rfl rfl⟩,wD rfl,wD rfl,trivial⟩ ⟨.arr rfl rfl,trivial⟩ (qv rfl))⟩
   refine cwF rfl hc14 ?_
   refine q10 ?_
   exact ⟨v17.2,(hx15 _ (sJ h55)).symm,.w (wkF trivial ⟨.arr rfl rfl,trivial⟩ (qv rfl))⟩
  refine cwB ?_
  refine qM (V := (Int × Int)) (O := Int) (fun (z : (Int × Int)) => St.of [(0,.arr 0 u0),(1,.d (eint a1)),(4,.fn 56 [] []),(10,.d (eint z.1)),(11,.d (eint z.2))] [(0,.arr u0 26 (a0.map eCg))]) hj12 (.w (wkF ⟨⟨_,rfl,.arr rfl rfl⟩,wD rfl,⟨_,rfl,.fn .nil .nil⟩,wD rfl,wD rfl,trivial⟩ ⟨.arr rfl rfl,trivial⟩ (qv rfl))) ?_
  intro v18 x19 hb4 hx19
  refine cwS ?_
  refine cwS (cwR (
   .c (uM rfl)<|
   .c (uM rfl)<|
   .c (uB rfl (qG0 _ _) rfl)<|.nil rfl) ?_)
  rcases cdS hb4 with ⟨hc15,h59⟩ | ⟨hc15,h60⟩
  ·refine cwT rfl hc15 ?_
   refine cwK ?_
   refine cwB ?_
   refine cwS (cwR (
    .c (uM rfl)<|
    .c (uM rfl)<|
    .c (uB rfl (qN0 _ _) rfl)<|
    .c (qh5 rfl rfl .no rfl un3 un82)<|
    .c (uB rfl (b_shr _ _ (by decide)) rfl)<|
    .c (qh5 rfl rfl .no rfl un82 un3)<|
    .c (uA rfl)<|.nil rfl) ?_)
   have ⟨x20,hx20,h61⟩ := bdS h59
   have hx20g := qD hx20
   have ⟨x21,hx21,h62⟩ := bdS h61
   have hx21g := qD hx21
   have ⟨x22,hx22,h63⟩ := bdS (x := qZ x20 x21) h62
   refine cwS (cwRA mixed (by kernel_rfl) (
    .c (uM rfl)<|
    .c (uM rfl)<|
    .c (uM rfl)<|
    .c (qw1 (enc := eCg) (xs := a0) rfl rfl .no rfl rfl rfl sl22 sz33 hx20g.1 hx20g.2)<|
    .c (qH2 (enc := eCg) (xs := a0) (r := x20) [] rfl rfl .no rfl rfl hx20g.2 rfl ta33 rfl rfl)<|
    .c (uM rfl)<|
    .c (uM rfl)<|
    .c (qw1 (enc := eCg) (xs := a0) rfl rfl .no rfl rfl rfl sl22 sz33 hx21g.1 hx21g.2)<|
    .c (qH2 (enc := eCg) (xs := a0) (r := x21) [] rfl rfl .no rfl rfl hx21g.2 rfl ta33 rfl rfl)<|
    .c (qG3 rfl rfl .no rfl Try.func56 rfl rfl (qR1 hx22) (.cons rfl .d (.cons rfl .d .nil)) ⟨trivial,trivial,trivial⟩ (.inl rfl))<|
    .c (uB rfl (qG0 _ _) rfl)<|.nil rfl) (by kernel_rfl) ?_)
   rcases cdS h63 with ⟨hc16,h64⟩ | ⟨hc16,h65⟩
   ·refine cwT rfl hc16 ?_
    refine cwR (
     .c (uM rfl)<|
     .c (uB rfl (qN0 _ _) rfl)<|
     .c (uA rfl)<|.nil rfl
    ) ?_
    exact ⟨((IntKind.wrap .i64 ((IntKind.wrap .i64 (Int.fdiv (IntKind.wrap .u64 (IntKind.wrap .i64 (v18.1 + v18.2))) (2 ^ 1))) + 1)),v18.2),(sJ h64),.w (wkF ⟨⟨_,rfl,.arr rfl rfl⟩,wD rfl,⟨_,rfl,.fn .nil .nil⟩,wD rfl,wD rfl,trivial⟩ ⟨.arr rfl rfl,trivial⟩ (qv rfl))⟩
   refine cwF rfl hc16 ?_
   refine cwR (
    .c (uM rfl)<|
    .c (uA rfl)<|.nil rfl
   ) ?_
   exact ⟨(v18.1,(IntKind.wrap .i64 (Int.fdiv (IntKind.wrap .u64 (IntKind.wrap .i64 (v18.1 + v18.2))) (2 ^ 1)))),(sJ h65),.w (wkF ⟨⟨_,rfl,.arr rfl rfl⟩,wD rfl,⟨_,rfl,.fn .nil .nil⟩,wD rfl,wD rfl,trivial⟩ ⟨.arr rfl rfl,trivial⟩ (qv rfl))⟩
  refine cwF rfl hc15 ?_
  refine q10 ?_
  exact ⟨v18.1,(hx19 _ (sJ h60)).symm,.w (wkF ⟨⟨_,rfl,.arr rfl rfl⟩,wD rfl,wD rfl,trivial⟩ ⟨.arr rfl rfl,trivial⟩ (qv rfl))⟩
 refine cwF rfl hc13 ?_
 refine cwK ?_
 exact ⟨(),(sJ h51),.w (wkF ⟨⟨_,rfl,.arr rfl rfl⟩,wD rfl,wD rfl,wD rfl,⟨_,rfl,.fn .nil .nil⟩,trivial⟩ ⟨.arr rfl rfl,trivial⟩ (qv rfl))⟩
theorem qq1 : ∀ (n : Nat) {a0 : List ttC} {a1 : Int} {a2 : Int} {a3 : Int} {r : (List ttC)},qO n a0 a1 a2 a3 = some r → ∀ (u0 : Nat),FnOk Try.prog 89 [.arr 0 u0,.d (eint a1),.d (eint a2),.d (eint a3),.fn 56 [] []] 1 (lk [(0,.arr u0 26 (List.map eCg a0))]) (fun rr oo => rr = .tup [] ∧ oo = lk [(0,.arr u0 26 (r.map eCg))])
 | 0,_,_,_,_,_,h => nomatch h
 | n + 1,_,_,_,_,_,h => ql2 (self := qO n) (fun h => qq1 n h) h
theorem qG1 {a0 : List ttC} {a1 : Int} {a2 : Int} {a3 : Int} {r : (List ttC)} (h : qK a0 a1 a2 a3 = some r) : ∀ (u0 : Nat),FnOk Try.prog 89 [.arr 0 u0,.d (eint a1),.d (eint a2),.d (eint a3),.fn 56 [] []] 1 (lk [(0,.arr u0 26 (List.map eCg a0))]) (fun rr oo => rr = .tup [] ∧ oo = lk [(0,.arr u0 26 (r.map eCg))]) := qq1 40 h
theorem qz3 {a0 : List ttC} {a1 : Int} {r : (List ttC)} (h : qq0 a0 a1 = some r) (u0 : Nat) : FnOk Try.prog 75 [.arr 0 u0,.d (eint a1),.fn 56 [] []] 1 (lk [(0,.arr u0 26 (List.map eCg a0))]) (fun rr oo => rr = .tup [] ∧ oo = lk [(0,.arr u0 26 (r.map eCg))]) := by
 refine fnO Try.func75 rfl rfl (cwP ?_)
 unfold qq0 at h
 have ⟨o0,hj0,h0⟩ := bdS h
 refine cw_tail (fun (z : (List ttC)) => St.of [] [(0,.arr u0 26 (z.map eCg))]) (fun (z : (List ttC)) => o0 = z) ?_ ?_
 ·intro v0 hv0; subst hv0
  have heq := ((sJ h0)).symm
  subst heq
  exact ⟨_,(show Leads _ _ (St.of [] [(0,.arr u0 26 (o0.map eCg))]) from .w (wkF trivial ⟨.arr rfl rfl,trivial⟩ (qv rfl))),.inl rfl,_,res0 rfl,rfl,rfl⟩
 refine cwS (cwR (
  .c (uA rfl)<|.nil rfl) ?_)
 refine cwS (cwR (
  .c (uM rfl)<|
  .c (uA rfl)<|
  .c (uA rfl)<|.nil rfl) ?_)
 have ⟨o1,hj1,h1⟩ := bdS hj0
 refine cwJ (fun (z : (Int × (List ttC))) => St.of [(0,.arr 0 u0),(1,.d (eint a1)),(2,.fn 56 [] []),(6,.d (eint 20)),(7,.d (eint z.1))] [(0,.arr u0 26 (z.2.map eCg))]) (fun (z : (Int × (List ttC))) => o1 = z) ?_ ?_
 ·intro v1 hv1; subst hv1
  have ⟨x0,hx0,h2⟩ := bdS (x := qB o1.2 o1.1 a1) h1
  refine cwS (cwR (
   .c (uM rfl)<|
   .c (uM rfl)<|
   .c (uM rfl)<|
   .c (uM rfl)<|
   .c (qQ (fun _ => 0) rfl rfl .no Try.func88 rfl rfl (q71 hx0 u0) (.cons rfl (.a rfl) (.cons rfl .d (.cons rfl .d (.cons rfl .f0 .nil)))) (q40 rfl ⟨(by simp [AV.live,lk,Nat.beq]),trivial,trivial,(by simp [AV.live,AV.lives]),trivial⟩ rfl trivial (by simp)) (.inl rfl))<|.nil rfl) ?_)
  refine cwB ?_
  refine qM (V := (Int × (List ttC))) (O := (List ttC)) (fun (z : (Int × (List ttC))) => St.of [(0,.arr 0 u0),(1,.d (eint a1)),(2,.fn 56 [] []),(6,.d (eint z.1))] [(0,.arr u0 26 (z.2.map eCg))]) h2 (.w (wkF ⟨⟨_,rfl,.arr rfl rfl⟩,wD rfl,⟨_,rfl,.fn .nil .nil⟩,wD rfl,trivial⟩ ⟨.arr rfl rfl,trivial⟩ (qv rfl))) ?_
  intro v2 x1 hb0 hx1
  refine cwS ?_
  refine cwS (cwR (
   .c (uM rfl)<|
   .c (uM rfl)<|
   .c (uB rfl (qG0 _ _) rfl)<|.nil rfl) ?_)
  rcases cdS hb0 with ⟨hc0,h3⟩ | ⟨hc0,h4⟩
  ·refine cwT rfl hc0 ?_
   refine cwK ?_
   refine cwB ?_
   refine cwS (cwR (
    .c (uM rfl)<|
    .c (uB rfl (b_mul _ _) rfl)<|
    .c (uA rfl)<|
    .c (uA rfl)<|.nil rfl) ?_)
   have ⟨o2,hj2,h5⟩ := bdS h3
   refine cwJ (fun (z : (Int × (List ttC))) => St.of [(0,.arr 0 u0),(1,.d (eint a1)),(2,.fn 56 [] []),(6,.d (eint v2.1)),(7,.d (eint z.1))] [(0,.arr u0 26 (z.2.map eCg))]) (fun (z : (Int × (List ttC))) => o2 = z) ?_ ?_
   ·intro v3 hv2; subst hv2
    have ⟨o3,hj3,h6⟩ := bdS h5
    refine cwJ (fun (z : (List ttC)) => St.of [(0,.arr 0 u0),(1,.d (eint a1)),(2,.fn 56 [] []),(6,.d (eint v2.1))] [(0,.arr u0 26 (z.map eCg))]) (fun (z : (List ttC)) => o3 = z) ?_ ?_
    ·intro v4 hv3; subst hv3
     refine cwR (
      .c (uM rfl)<|
      .c (uB rfl (b_mul _ _) rfl)<|
      .c (uA rfl)<|.nil rfl
     ) ?_
     exact ⟨((IntKind.wrap .i64 (v2.1 * 2)),o3),(sJ h6),.w (wkF ⟨⟨_,rfl,.arr rfl rfl⟩,wD rfl,⟨_,rfl,.fn .nil .nil⟩,wD rfl,trivial⟩ ⟨.arr rfl rfl,trivial⟩ (qv rfl))⟩
    refine cwS (cwR (
     .c (uM rfl)<|
     .c (uM rfl)<|
     .c (uB rfl (qN0 _ _) rfl)<|
     .c (uA rfl)<|.nil rfl) ?_)
    refine cwS (cwR (
     .c (uM rfl)<|
     .c (uM rfl)<|
     .c (uB rfl (qG0 _ _) rfl)<|.nil rfl) ?_)
    rcases cdS hj3 with ⟨hc1,h7⟩ | ⟨hc1,h8⟩
    ·refine cwT rfl hc1 ?_
     have ⟨x2,hx2,h9⟩ := bdS (x := qK o2.2 o2.1 (IntKind.wrap .i64 (o2.1 + v2.1)) a1) h7
     refine cwR (
      .c (uM rfl)<|
      .c (uM rfl)<|
      .c (uM rfl)<|
      .c (uM rfl)<|
      .c (uM rfl)<|
      .c (qQ (fun _ => 0) rfl rfl .no Try.func89 rfl rfl (qG1 hx2 u0) (.cons rfl (.a rfl) (.cons rfl .d (.cons rfl .d (.cons rfl .d (.cons rfl .f0 .nil))))) (q40 rfl ⟨(by simp [AV.live,lk,Nat.beq]),trivial,trivial,trivial,(by simp [AV.live,AV.lives]),trivial⟩ rfl trivial (by simp)) (.inl rfl))<|.nil rfl
     ) ?_
     exact ⟨x2,(sJ h9),.w (wkF ⟨⟨_,rfl,.arr rfl rfl⟩,wD rfl,⟨_,rfl,.fn .nil .nil⟩,wD rfl,trivial⟩ ⟨.arr rfl rfl,trivial⟩ (qv rfl))⟩
    refine cwF rfl hc1 ?_
    refine cwK ?_
    exact ⟨o2.2,(sJ h8),.w (wkF ⟨⟨_,rfl,.arr rfl rfl⟩,wD rfl,⟨_,rfl,.fn .nil .nil⟩,wD rfl,trivial⟩ ⟨.arr rfl rfl,trivial⟩ (qv rfl))⟩
   refine cwB ?_
   refine qM (V := (Int × Int × (List ttC))) (O := (Int × (List ttC))) (fun (z : (Int × Int × (List ttC))) => St.of [(0,.arr 0 u0),(1,.d (eint a1)),(2,.fn 56 [] []),(6,.d (eint v2.1)),(7,.d (eint z.1)),(8,.d (eint z.2.1))] [(0,.arr u0 26 (z.2.2.map eCg))]) hj2 (.w (wkF ⟨⟨_,rfl,.arr rfl rfl⟩,wD rfl,⟨_,rfl,.fn .nil .nil⟩,wD rfl,wD rfl,wD rfl,trivial⟩ ⟨.arr rfl rfl,trivial⟩ (qv rfl))) ?_
   intro v5 x3 hb1 hx3
   refine cwS ?_
   refine cwS (cwR (
    .c (uM rfl)<|
    .c (uM rfl)<|
    .c (uB rfl (b_leq _ _) rfl)<|.nil rfl) ?_)
   rcases cdS hb1 with ⟨hc2,h10⟩ | ⟨hc2,h11⟩
   ·refine cwT rfl hc2 ?_
    refine cwK ?_
    refine cwB ?_
    have ⟨x4,hx4,h12⟩ := bdS (x := qK v5.2.2 v5.1 (IntKind.wrap .i64 (v5.1 + v2.1)) v5.2.1) h10
    refine cwS (cwR (
     .c (uM rfl)<|
     .c (uM rfl)<|
     .c (uM rfl)<|
     .c (uM rfl)<|
     .c (uB rfl (qN0 _ _) rfl)<|
     .c (uM rfl)<|
     .c (uM rfl)<|
     .c (qQ (fun _ => 0) rfl rfl .no Try.func89 rfl rfl (qG1 hx4 u0) (.cons rfl (.a rfl) (.cons rfl .d (.cons rfl .d (.cons rfl .d (.cons rfl .f0 .nil))))) (q40 rfl ⟨(by simp [AV.live,lk,Nat.beq]),trivial,trivial,trivial,(by simp [AV.live,AV.lives]),trivial⟩ rfl trivial (by simp)) (.inl rfl))<|.nil rfl) ?_)
    refine cwS (cwR (
     .c (uM rfl)<|
     .c (uA rfl)<|.nil rfl) ?_)
    refine cwR (
     .c (uM rfl)<|
     .c (uM rfl)<|
     .c (uB rfl (b_mul _ _) rfl)<|
     .c (uB rfl (qN0 _ _) rfl)<|
     .c (uA rfl)<|.nil rfl
    ) ?_
    exact ⟨(v5.2.1,(IntKind.wrap .i64 (v5.2.1 + (IntKind.wrap .i64 (2 * v2.1)))),x4),(sJ h12),.w (wkF ⟨⟨_,rfl,.arr rfl rfl⟩,wD rfl,⟨_,rfl,.fn .nil .nil⟩,wD rfl,wD rfl,wD rfl,trivial⟩ ⟨.arr rfl rfl,trivial⟩ (qv rfl))⟩
   refine cwF rfl hc2 ?_
   refine q10 ?_
   exact ⟨(v5.1,v5.2.2),(hx3 _ (sJ h11)).symm,.w (wkF ⟨⟨_,rfl,.arr rfl rfl⟩,wD rfl,⟨_,rfl,.fn .nil .nil⟩,wD rfl,wD rfl,trivial⟩ ⟨.arr rfl rfl,trivial⟩ (qv rfl))⟩
  refine cwF rfl hc0 ?_
  refine q10 ?_
  exact ⟨v2.2,(hx1 _ (sJ h4)).symm,.w (wkF trivial ⟨.arr rfl rfl,trivial⟩ (qv rfl))⟩
 refine cwB ?_
 refine qM (V := (Int × Int × (List ttC))) (O := (Int × (List ttC))) (fun (z : (Int × Int × (List ttC))) => St.of [(0,.arr 0 u0),(1,.d (eint a1)),(2,.fn 56 [] []),(6,.d (eint 20)),(7,.d (eint z.1)),(8,.d (eint z.2.1))] [(0,.arr u0 26 (z.2.2.map eCg))]) hj1 (.w (wkF ⟨⟨_,rfl,.arr rfl rfl⟩,wD rfl,⟨_,rfl,.fn .nil .nil⟩,wD rfl,wD rfl,wD rfl,trivial⟩ ⟨.arr rfl rfl,trivial⟩ (qv rfl))) ?_
 intro v6 x5 hb2 hx5
 refine cwS ?_
 refine cwS (cwR (
  .c (uM rfl)<|
  .c (uM rfl)<|
  .c (uB rfl (b_leq _ _) rfl)<|.nil rfl) ?_)
 rcases cdS hb2 with ⟨hc3,h13⟩ | ⟨hc3,h14⟩
 ·refine cwT rfl hc3 ?_
  refine cwK ?_
  refine cwB ?_
  have ⟨x6,hx6,h15⟩ := bdS (x := qB v6.2.2 v6.1 v6.2.1) h13
  refine cwS (cwR (
   .c (uM rfl)<|
   .c (uM rfl)<|
   .c (uM rfl)<|
   .c (uM rfl)<|
   .c (qQ (fun _ => 0) rfl rfl .no Try.func88 rfl rfl (q71 hx6 u0) (.cons rfl (.a rfl) (.cons rfl .d (.cons rfl .d (.cons rfl .f0 .nil)))) (q40 rfl ⟨(by simp [AV.live,lk,Nat.beq]),trivial,trivial,(by simp [AV.live,AV.lives]),trivial⟩ rfl trivial (by simp)) (.inl rfl))<|.nil rfl) ?_)
  refine cwS (cwR (
   .c (uM rfl)<|
   .c (uA rfl)<|.nil rfl) ?_)
  refine cwR (
   .c (uM rfl)<|
   .c (uM rfl)<|
   .c (uB rfl (qN0 _ _) rfl)<|
   .c (uA rfl)<|.nil rfl
  ) ?_
  exact ⟨(v6.2.1,(IntKind.wrap .i64 (v6.2.1 + 20)),x6),(sJ h15),.w (wkF ⟨⟨_,rfl,.arr rfl rfl⟩,wD rfl,⟨_,rfl,.fn .nil .nil⟩,wD rfl,wD rfl,wD rfl,trivial⟩ ⟨.arr rfl rfl,trivial⟩ (qv rfl))⟩
 refine cwF rfl hc3 ?_
 refine q10 ?_
 exact ⟨(v6.1,v6.2.2),(hx5 _ (sJ h14)).symm,.w (wkF ⟨⟨_,rfl,.arr rfl rfl⟩,wD rfl,⟨_,rfl,.fn .nil .nil⟩,wD rfl,wD rfl,trivial⟩ ⟨.arr rfl rfl,trivial⟩ (qv rfl))⟩
theorem qg3 {a0 : List ttC} {r : (List ttC)} (h : qm0 a0 = some r) (u0 : Nat) : FnOk Try.prog 55 [.arr 0 u0,.fn 56 [] []] 1 (lk [(0,.arr u0 26 (List.map eCg a0))]) (fun rr oo => rr = .tup [] ∧ oo = lk [(0,.arr u0 26 (r.map eCg))]) := by
 refine fnO Try.func55 rfl rfl (cwP ?_)
 unfold qm0 at h
 have ⟨o0,hj0,h0⟩ := bdS h
 refine cw_tail (fun (z : (List ttC)) => St.of [] [(0,.arr u0 26 (z.map eCg))]) (fun (z : (List ttC)) => o0 = z) ?_ ?_
 ·intro v0 hv0; subst hv0
  have heq := ((sJ h0)).symm
  subst heq
  exact ⟨_,(show Leads _ _ (St.of [] [(0,.arr u0 26 (o0.map eCg))]) from .w (wkF trivial ⟨.arr rfl rfl,trivial⟩ (qv rfl))),.inl rfl,_,res0 rfl,rfl,rfl⟩
 have ⟨x0,hx0,h1⟩ := bdS (x := qq0 a0 (a0.length : Int)) hj0
 refine cwR (
  .c (uM rfl)<|
  .c (uM rfl)<|
  .c (qJ4 (enc := eCg) (xs := a0) rfl rfl .no rfl rfl sl22)<|
  .c (uM rfl)<|
  .c (qQ (fun _ => 0) rfl rfl .no Try.func75 rfl rfl (qz3 hx0 u0) (.cons rfl (.a rfl) (.cons rfl .d (.cons rfl .f0 .nil))) (q40 rfl ⟨(by simp [AV.live,lk,Nat.beq]),trivial,(by simp [AV.live,AV.lives]),trivial⟩ rfl trivial (by simp)) (.inl rfl))<|.nil rfl
 ) ?_
 exact ⟨x0,(sJ h1),.w (wkF trivial ⟨.arr rfl rfl,trivial⟩ (qv rfl))⟩
theorem tree_sorted_ok {a0 : List ttC} {r : (List ttC)} (h : qx2 a0 = some r) : FnOk Try.prog 35 [.d (eSC a0)] 0 (lk []) (fun rr oo => rr = .d (eSC r) ∧ oo = lk []) := by
 refine fnO Try.func35 rfl rfl (cwP ?_)
 unfold qx2 at h
 refine cwS (cwR (
  .c (uA rfl)<|.nil rfl) ?_)
 have ⟨x0,hx0,h0⟩ := bdS (x := qT1 a0) h
 refine cwS (cwR (
  .c (uM rfl)<|
  .c (qr5 0 rfl rfl .no Try.func54 rfl rfl (slices_Clone54_ok hx0) (.cons rfl .d .nil) ⟨trivial,trivial⟩ rfl (.inl rfl))<|
  .c (uA rfl)<|.nil rfl) ?_)
 have ⟨x1,hx1,h1⟩ := bdS (x := qm0 x0) h0
 refine cwS (cwR (
  .c (uM rfl)<|
  .c (qQ (fun _ => 0) rfl rfl .no Try.func55 rfl rfl (qg3 hx1 0) (.cons rfl (.a rfl) (.cons rfl .f0 .nil)) (q40 rfl ⟨(by simp [AV.live,lk,Nat.beq]),(by simp [AV.live,AV.lives]),trivial⟩ rfl trivial (by simp)) (.inl rfl))<|.nil rfl) ?_)
 refine cwS (cwR (
  .c (uA rfl)<|.nil rfl) ?_)
 have ⟨o0,hj0,h2⟩ := bdS h1
 refine cwJ (fun (z : (List ttC)) => St.of [(4,.arr 2 0)] [(2,.arr 0 26 (z.map eCg))]) (fun (z : (List ttC)) => o0 = z) ?_ ?_
 ·intro v0 hv0; subst hv0
  refine cwS (cwR (
   .c (uM rfl)<|
   .c (uA rfl)<|.nil rfl) ?_)
  have heq := ((sJ h2)).symm
  subst heq
  exact qw ⟨_,(show Leads _ _ (St.of [(2,.d (eSC o0))] []) from .w (wkF ⟨⟨_,rfl,.frz rfl rfl rfl⟩,trivial⟩ trivial qG)),.inr rfl,_,res1 rfl rfl,rfl,rfl⟩
 refine cwS (cwR (
  .c (uM rfl)<|
  .c (qJ4 (enc := eCg) (xs := x1) rfl rfl .no rfl rfl sl22)<|
  .c (uM rfl)<|.nil rfl) ?_)
 refine cwB ?_
 refine qM (V := (Int × (List ttC))) (O := (List ttC)) (fun (z : (Int × (List ttC))) => St.of [(3,.arr 0 0),(4,.arr 2 0),(11,.arr 0 0),(12,.d (eint (x1.length : Int))),(13,.d (eint z.1))] [(0,.arr 0 26 (x1.map eCg)),(2,.arr 0 26 (z.2.map eCg))]) hj0 (.w (wkF ⟨⟨_,rfl,.arr rfl rfl⟩,⟨_,rfl,.nila rfl rfl⟩,⟨_,rfl,.arr rfl rfl⟩,wD rfl,wD rfl,trivial⟩ ⟨.arr rfl rfl,.nil rfl,trivial⟩ qG)) ?_
 intro v1 x2 hb0 hx2
 refine cwS (cwR (
  .c (uB rfl (qG0 _ _) rfl)<|.nil rfl) ?_)
 refine cwS ?_
 rcases cdS hb0 with ⟨hc0,h3⟩ | ⟨hc0,h4⟩
 ·refine cwT rfl hc0 ?_
  refine cwK ?_
  have ⟨o1,hj1,h5⟩ := bdS h3
  refine cwJ (fun (z : (List ttC)) => St.of [(3,.arr 0 0),(4,.arr 2 0),(11,.arr 0 0),(12,.d (eint (x1.length : Int))),(13,.d (eint v1.1))] [(0,.arr 0 26 (x1.map eCg)),(2,.arr 0 26 (z.map eCg))]) (fun (z : (List ttC)) => o1 = z) ?_ ?_
  ·intro v2 hv1; subst hv1
   refine cwR (
    .c (uB rfl (qN0 _ _) rfl)<|
    .c (uM rfl)<|.nil rfl
   ) ?_
   exact ⟨((IntKind.wrap .i64 (v1.1 + 1)),o1),(sJ h5),.w (wkF ⟨⟨_,rfl,.arr rfl rfl⟩,⟨_,rfl,.arr rfl rfl⟩,⟨_,rfl,.arr rfl rfl⟩,wD rfl,wD rfl,trivial⟩ ⟨.arr rfl rfl,.arr rfl rfl,trivial⟩ qG)⟩
  refine cwB ?_
  have ⟨x3,hx3,h6⟩ := bdS hj1
  have hx3g := qD hx3
  refine cwS (cwR (
   .c (uM rfl)<|
   .c (qw1 (enc := eCg) (xs := x1) rfl rfl .no rfl rfl rfl sl22 sz33 hx3g.1 hx3g.2)<|
   .c (qH2 (enc := eCg) (xs := x1) (r := x3) [] rfl rfl .no rfl rfl hx3g.2 rfl ta33 rfl rfl)<|
   .c (q50 1 rfl rfl .no ze33 rfl)<|
   .c (uA rfl)<|
   .c (uS [] rfl sz33 rfl)<|.nil rfl) ?_)
  have ⟨o2,hj2,h7⟩ := bdS h6
  refine cwJ (fun (z : Bool) => St.of [(3,.arr 0 0),(4,.arr 2 0),(6,.ptr 1 0),(11,.arr 0 0),(12,.d (eint (x1.length : Int))),(13,.d (eint v1.1)),(33,.d (qU z))] [(0,.arr 0 26 (x1.map eCg)),(1,.box (.d (eCg x3))),(2,.arr 0 26 (v1.2.map eCg))]) (fun (z : Bool) => o2 = z) ?_ ?_
  ·intro v3 hv2; subst hv2
   rcases cdS h7 with ⟨hc1,h8⟩ | ⟨hc1,h9⟩
   ·refine cwT rfl hc1 ?_
    have ⟨x4,hx4,h10⟩ := bdS h8
    have hx4g := qj0 hx4
    refine cwR (
     .c (uM rfl)<|
     .c (uL [] rfl ta33 rfl)<|
     .c (qu5 (rows := ([x3] : List ttC).map eCg) rfl rfl .no (.cons rfl .nil) rfl sl22 sz33 ze33 rfl (qL1 qb0) (by decide))<|
     .c (qo2 (enc := eCg) (xs := v1.2) (ys := [x3]) rfl rfl .no rfl rfl rfl qb0 sl22 sl22 sz33 by33 ze33 rfl (by decide) hx4g)<|
     .c (uA rfl)<|.nil rfl
    ) ?_
    exact ⟨(v1.2 ++ [x3]),(sJ h10),.w (wkF ⟨⟨_,rfl,.arr rfl rfl⟩,⟨_,rfl,.arr rfl rfl⟩,⟨_,rfl,.arr rfl rfl⟩,wD rfl,wD rfl,trivial⟩ ⟨.arr rfl rfl,.arr0 rfl rfl rfl,trivial⟩ qG)⟩
   refine cwF rfl hc1 ?_
   refine cwK ?_
   exact ⟨v1.2,(sJ h9),.w (wkF ⟨⟨_,rfl,.arr rfl rfl⟩,⟨_,rfl,.arr rfl rfl⟩,⟨_,rfl,.arr rfl rfl⟩,wD rfl,wD rfl,trivial⟩ ⟨.arr rfl rfl,.arr rfl rfl,trivial⟩ qG)⟩
  rcases cdS hj2 with ⟨hc2,h11⟩ | ⟨hc2,h12⟩
  ·skip
   refine cwRA mixed (by kernel_rfl) (
    .c (uM rfl)<|
    .c (uB rfl (qN0 _ _) rfl)<|
    .c (uM rfl)<|
    .c (qJ4 (enc := eCg) (xs := x1) rfl rfl .no rfl rfl sl22)<|
    .c (uB rfl (qd0 _ _) rfl)<|
    .c (uM rfl)<|
    .c (uN rfl rfl hc2)<|
    .c (uN rfl rfl hc2)<|
    .c (uN rfl rfl hc2)<|
    .c (uN rfl rfl hc2)<|
    .c (uN rfl rfl hc2)<|
    .c (uN rfl rfl hc2)<|
    .c (uN rfl rfl hc2)<|
    .c (uN rfl rfl hc2)<|
    .c (uN rfl rfl hc2)<|
    .c (uPT rfl hc2)<|.nil rfl) (by kernel_rfl) ?_
   exact ⟨true,(sJ h11),.w (wkF ⟨⟨_,rfl,.arr rfl rfl⟩,⟨_,rfl,.arr rfl rfl⟩,⟨_,rfl,.ptr rfl rfl⟩,⟨_,rfl,.arr rfl rfl⟩,wD rfl,wD rfl,wD rfl,trivial⟩ ⟨.arr rfl rfl,.box rfl (.d rfl),.arr rfl rfl,trivial⟩ qG)⟩
  have ⟨x5,hx5,h13⟩ := bdS h12
  have hx5g := qD hx5
  refine cwRA mixed (by kernel_rfl) (
   .c (uM rfl)<|
   .c (uB rfl (qN0 _ _) rfl)<|
   .c (uM rfl)<|
   .c (qJ4 (enc := eCg) (xs := x1) rfl rfl .no rfl rfl sl22)<|
   .c (uB rfl (qd0 _ _) rfl)<|
   .c (uM rfl)<|
   .c (o_mv rfl rfl (.yes rfl rfl hc2) rfl)<|
   .c (o_mv rfl rfl (.yes rfl rfl hc2) rfl)<|
   .c (qj rfl rfl (.yes rfl rfl hc2) rfl rfl (qN0 _ _) rfl)<|
   .c (qw1 (enc := eCg) (xs := x1) rfl rfl (.yes rfl rfl hc2) rfl rfl rfl sl22 sz33 hx5g.1 hx5g.2)<|
   .c (o_fldE rfl rfl (.yes rfl rfl hc2) rfl rfl qf5 (by decide))<|
   .c (qH2 (enc := eCg) (xs := x1) (r := x5) [0] rfl rfl (.yes rfl rfl hc2) rfl rfl hx5g.2 rfl ta31 rfl rfl)<|
   .c (qn rfl rfl (.yes rfl rfl hc2) rfl qf5 (by decide))<|
   .c (qA [0] rfl rfl (.yes rfl rfl hc2) rfl rfl rfl ta31 rfl rfl)<|
   .c (o_ne rfl rfl (.yes rfl rfl hc2) rfl rfl rfl rfl eg31 (.bs ar31 un5 sz5))<|
   .c (uPF rfl hc2)<|.nil rfl) (by kernel_rfl) ?_
  exact ⟨(!(decide (x5.1 = x3.1))),(sJ h13),.w (wkF ⟨⟨_,rfl,.arr rfl rfl⟩,⟨_,rfl,.arr rfl rfl⟩,⟨_,rfl,.ptr rfl rfl⟩,⟨_,rfl,.arr rfl rfl⟩,wD rfl,wD rfl,wD rfl,trivial⟩ ⟨.arr rfl rfl,.box rfl (.d rfl),.arr rfl rfl,trivial⟩ qG)⟩
 refine cwF rfl hc0 ?_
 refine q10 ?_
 exact ⟨v1.2,(hx2 _ (sJ h4)).symm,.w (wkF ⟨⟨_,rfl,.arr rfl rfl⟩,trivial⟩ ⟨.arr rfl rfl,trivial⟩ qG)⟩
end
end Go.Val
