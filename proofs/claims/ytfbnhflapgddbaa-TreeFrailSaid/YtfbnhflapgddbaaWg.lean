/- Walks of the program's functions,printed. -/
import Derived.Test.YtfbnhflapgddbaaWf
set_option linter.all false
set_option maxRecDepth 100000
namespace Go.Val
open Go.RowKit Go.Proofs
section
variable [NoDrw]
noncomputable def qQ (a0 : List ttC) (a1 : List UInt8) : Option (Int × Bool) := (((qN (V := (Int × Int)) (O := Int) (fun v0 => cond (decide (v0.1 < v0.2)) ((gx a0 (IntKind.wrap .i64 (Int.fdiv (IntKind.wrap .u64 (IntKind.wrap .i64 (v0.1 + v0.2))) (2 ^ 1)))).bind fun x0 => (qd0 x0 a1).bind fun x1 => cond (decide (x1 < 0)) (
     some (.inl ((IntKind.wrap .i64 ((IntKind.wrap .i64 (Int.fdiv (IntKind.wrap .u64 (IntKind.wrap .i64 (v0.1 + v0.2))) (2 ^ 1))) + 1)),v0.2))) (some (.inl (v0.1,(IntKind.wrap .i64 (Int.fdiv (IntKind.wrap .u64 (IntKind.wrap .i64 (v0.1 + v0.2))) (2 ^ 1))))))) (some (.inr v0.1))) (0,(a0.length : Int))) : Option Int)).bind fun o0 => (((cond (decide (o0 < (a0.length : Int))) (
   (gx a0 o0).bind fun x2 => (qd0 x2 a1).bind fun x3 => some (decide (x3 = 0))) (some false)) : Option Bool)).bind fun o1 => some (o0,o1)
noncomputable def qX (a0 : (List Int)) (a1 : Int) (b1 : ttM) : Option ((Option Fr) × Int × (List Int) × ttM) := (qx b1 a1).bind fun x0 => cond (decide (x0.2.1 ≠ 0)) (some ((none : Option Fr),x0.2.1,a0,x0.2.2)) ((((qN (V := (Int × (Int × (List ttR) × (List ttP)))) (O := (Int × (List ttR) × (List ttP))) (fun v0 => cond (decide (v0.1 < (x0.1.2.2.length : Int))) (
     (gx x0.1.2.2 v0.1).bind fun x1 => (fits (v0.2.2.2.length + ([(x1.1,x1.2,(none : Option Fr))]).length) 40).bind fun _ => some (.inl ((IntKind.wrap .i64 (v0.1 + 1)),(v0.2.1,v0.2.2.1,(v0.2.2.2 ++ [(x1.1,x1.2,(none : Option Fr))]))))) (some (.inr v0.2))) (0,(x0.1.1,x0.1.2.1,[]))) : Option (Int × (List ttR) × (List ttP)))).bind fun o0 =>
  some ((some (frMk (o0.1,o0.2.1,o0.2.2))),0,a0,x0.2.2))
noncomputable def q90 (a0 : ttC) (a1 : ttC) : Option Int := (qD a0.1 a1.1).bind fun x0 => some x0
noncomputable def qF (a0 : List ttC) (a1 : Int) (a2 : Int) : Option (List ttC) := (((qN (V := (Int × (List ttC))) (O := (List ttC)) (fun v0 => cond (decide (v0.1 < a2)) ((((qN (V := (Int × (List ttC))) (O := (List ttC)) (fun v1 => (((cond (decide (v1.1 > a1)) ((gx v1.2 v1.1).bind fun x0 => (gx v1.2 (IntKind.wrap .i64 (v1.1 - 1))).bind fun x1 =>
        (q90 x0 x1).bind fun x2 => some (decide (x2 < 0))) (some false)) : Option Bool)).bind fun o0 => cond o0 ((gx v1.2 (IntKind.wrap .i64 (v1.1 - 1))).bind fun x3 => (gx v1.2 v1.1).bind fun x4 => (gx (List.set v1.2 v1.1.toNat x3) (IntKind.wrap .i64 (v1.1 - 1))).bind fun x5 =>
       some (.inl ((IntKind.wrap .i64 (v1.1 - 1)),(List.set (List.set v1.2 v1.1.toNat x3) (IntKind.wrap .i64 (v1.1 - 1)).toNat x4)))) (some (.inr v1.2))) (v0.1,v0.2)) : Option (List ttC))).bind fun o1 => some (.inl ((IntKind.wrap .i64 (v0.1 + 1)),o1))) (some (.inr v0.2))) ((IntKind.wrap .i64 (a1 + 1)),a0)) : Option (List ttC))).bind fun o2 => some o2
noncomputable def qH (a0 : List ttC) (a1 : Int) (a2 : Int) (a3 : Int) : Option (List ttC) := (((qN (V := (Int × (List ttC))) (O := (List ttC)) (fun v0 => cond (decide (v0.1 < a3)) ((gx v0.2 (IntKind.wrap .i64 (a2 + v0.1))).bind fun x0 => (gx v0.2 (IntKind.wrap .i64 (a1 + v0.1))).bind fun x1 =>
    (gx (List.set v0.2 (IntKind.wrap .i64 (a1 + v0.1)).toNat x0) (IntKind.wrap .i64 (a2 + v0.1))).bind fun x2 => some (.inl ((IntKind.wrap .i64 (v0.1 + 1)),(List.set (List.set v0.2 (IntKind.wrap .i64 (a1 + v0.1)).toNat x0) (IntKind.wrap .i64 (a2 + v0.1)).toNat x1)))) (some (.inr v0.2))) (0,a0)) : Option (List ttC))).bind fun o0 => some o0
noncomputable def qu0 (a0 : List ttC) (a1 : Int) (a2 : Int) (a3 : Int) : Option (List ttC) := ((((((qN (V := (Int × Int × (List ttC))) (O := (Int × (List ttC))) (fun v0 => cond (decide (v0.1 ≠ v0.2.1)) (cond (decide (v0.1 > v0.2.1)) ((qH v0.2.2 (IntKind.wrap .i64 (a2 - v0.1)) a2 v0.2.1).bind fun x0 =>
      some (.inl ((IntKind.wrap .i64 (v0.1 - v0.2.1)),v0.2.1,x0))) ((qH v0.2.2 (IntKind.wrap .i64 (a2 - v0.1)) (IntKind.wrap .i64 ((IntKind.wrap .i64 (a2 + v0.2.1)) - v0.1)) v0.1).bind fun x1 => some (.inl (v0.1,(IntKind.wrap .i64 (v0.2.1 - v0.1)),x1)))) (some (.inr (v0.1,v0.2.2)))) ((IntKind.wrap .i64 (a2 - a1)),(IntKind.wrap .i64 (a3 - a2)),a0)
  ) : Option (Int × (List ttC)))).bind fun o0 => (qH o0.2 (IntKind.wrap .i64 (a2 - o0.1)) a2 o0.1).bind fun x2 => some x2) : Option (List ttC))).bind fun o1 => some o1
noncomputable def qm0 (self : (List ttC) → Int → Int → Int → Option (List ttC)) (a0 : List ttC) (a1 : Int) (a2 : Int) (a3 : Int) : Option (List ttC) := ((((((cond (decide ((IntKind.wrap .i64 (a2 - a1)) = 1)) ((((qN (V := (Int × Int)) (O := Int) (fun v0 => cond (decide (v0.1 < v0.2)) (
       (gx a0 (IntKind.wrap .i64 (Int.fdiv (IntKind.wrap .u64 (IntKind.wrap .i64 (v0.1 + v0.2))) (2 ^ 1)))).bind fun x0 => (gx a0 a1).bind fun x1 => (q90 x0 x1).bind fun x2 => cond (decide (x2 < 0)) (some (.inl ((IntKind.wrap .i64 ((IntKind.wrap .i64 (Int.fdiv (IntKind.wrap .u64 (IntKind.wrap .i64 (v0.1 + v0.2))) (2 ^ 1))) + 1)),v0.2))) (
        some (.inl (v0.1,(IntKind.wrap .i64 (Int.fdiv (IntKind.wrap .u64 (IntKind.wrap .i64 (v0.1 + v0.2))) (2 ^ 1))))))) (some (.inr v0.1))) (a2,a3)) : Option Int)).bind fun o0 => (((qN (V := (Int × (List ttC))) (O := (List ttC)) (fun v1 => cond (decide (v1.1 < (IntKind.wrap .i64 (o0 - 1)))) ((gx v1.2 (IntKind.wrap .i64 (v1.1 + 1))).bind fun x3 => (gx v1.2 v1.1).bind fun x4 =>
       (gx (List.set v1.2 v1.1.toNat x3) (IntKind.wrap .i64 (v1.1 + 1))).bind fun x5 => some (.inl ((IntKind.wrap .i64 (v1.1 + 1)),(List.set (List.set v1.2 v1.1.toNat x3) (IntKind.wrap .i64 (v1.1 + 1)).toNat x4)))) (some (.inr v1.2))) (a1,a0)) : Option (List ttC))).bind fun o1 => some (.inr o1)) (some (.inl ()))) : Option (Unit ⊕ (List ttC)))).bind fun o2 => Sum.elim (fun (v2 : Unit) =>
   (((cond (decide ((IntKind.wrap .i64 (a3 - a2)) = 1)) ((((qN (V := (Int × Int)) (O := Int) (fun v3 => cond (decide (v3.1 < v3.2)) ((gx a0 a2).bind fun x6 => (gx a0 (IntKind.wrap .i64 (Int.fdiv (IntKind.wrap .u64 (IntKind.wrap .i64 (v3.1 + v3.2))) (2 ^ 1)))).bind fun x7 => (q90 x6 x7).bind fun x8 => cond (!(decide (x8 < 0))) (
         some (.inl ((IntKind.wrap .i64 ((IntKind.wrap .i64 (Int.fdiv (IntKind.wrap .u64 (IntKind.wrap .i64 (v3.1 + v3.2))) (2 ^ 1))) + 1)),v3.2))) (some (.inl (v3.1,(IntKind.wrap .i64 (Int.fdiv (IntKind.wrap .u64 (IntKind.wrap .i64 (v3.1 + v3.2))) (2 ^ 1))))))) (some (.inr v3.1))) (a1,a2)) : Option Int)).bind fun o3 => (((qN (V := (Int × (List ttC))) (O := (List ttC)) (fun v4 =>
       cond (decide (v4.1 > o3)) ((gx v4.2 (IntKind.wrap .i64 (v4.1 - 1))).bind fun x9 => (gx v4.2 v4.1).bind fun x10 => (gx (List.set v4.2 v4.1.toNat x9) (IntKind.wrap .i64 (v4.1 - 1))).bind fun x11 => some (.inl ((IntKind.wrap .i64 (v4.1 - 1)),(List.set (List.set v4.2 v4.1.toNat x9) (IntKind.wrap .i64 (v4.1 - 1)).toNat x10)))) (some (.inr v4.2))) (a2,a0)
     ) : Option (List ttC))).bind fun o4 => some (.inr o4)) (some (.inl ()))) : Option (Unit ⊕ (List ttC)))).bind fun o5 => Sum.elim (fun (v5 : Unit) => (((cond (decide (a2 > (IntKind.wrap .i64 (Int.fdiv (IntKind.wrap .u64 (IntKind.wrap .i64 (a1 + a3))) (2 ^ 1))))) (
      some ((IntKind.wrap .i64 (Int.fdiv (IntKind.wrap .u64 (IntKind.wrap .i64 (a1 + a3))) (2 ^ 1))),(IntKind.wrap .i64 ((IntKind.wrap .i64 (Int.fdiv (IntKind.wrap .u64 (IntKind.wrap .i64 (a1 + a3))) (2 ^ 1))) + a2)),(IntKind.wrap .i64 ((IntKind.wrap .i64 ((IntKind.wrap .i64 (Int.fdiv (IntKind.wrap .u64 (IntKind.wrap .i64 (a1 + a3))) (2 ^ 1))) + a2)) - a3)),(IntKind.wrap .i64 (Int.fdiv (IntKind.wrap .u64 (IntKind.wrap .i64 (a1 + a3))) (2 ^ 1))))
     ) (some ((IntKind.wrap .i64 (Int.fdiv (IntKind.wrap .u64 (IntKind.wrap .i64 (a1 + a3))) (2 ^ 1))),(IntKind.wrap .i64 ((IntKind.wrap .i64 (Int.fdiv (IntKind.wrap .u64 (IntKind.wrap .i64 (a1 + a3))) (2 ^ 1))) + a2)),a1,a2))) : Option (Int × Int × Int × Int))).bind fun o6 => (((qN (V := (Int × Int)) (O := Int) (fun v6 => cond (decide (v6.1 < v6.2)) (
       (gx a0 (IntKind.wrap .i64 ((IntKind.wrap .i64 (o6.2.1 - 1)) - (IntKind.wrap .i64 (Int.fdiv (IntKind.wrap .u64 (IntKind.wrap .i64 (v6.1 + v6.2))) (2 ^ 1)))))).bind fun x12 => (gx a0 (IntKind.wrap .i64 (Int.fdiv (IntKind.wrap .u64 (IntKind.wrap .i64 (v6.1 + v6.2))) (2 ^ 1)))).bind fun x13 => (q90 x12 x13).bind fun x14 => cond (!(decide (x14 < 0))) (
        some (.inl ((IntKind.wrap .i64 ((IntKind.wrap .i64 (Int.fdiv (IntKind.wrap .u64 (IntKind.wrap .i64 (v6.1 + v6.2))) (2 ^ 1))) + 1)),v6.2))) (some (.inl (v6.1,(IntKind.wrap .i64 (Int.fdiv (IntKind.wrap .u64 (IntKind.wrap .i64 (v6.1 + v6.2))) (2 ^ 1))))))) (some (.inr v6.1))) (o6.2.2.1,o6.2.2.2)) : Option Int)).bind fun o7 => ((((((cond (decide (o7 < a2)) (
       some (decide (a2 < (IntKind.wrap .i64 (o6.2.1 - o7))))) (some false)) : Option Bool)).bind fun o8 => cond o8 ((qu0 a0 o7 a2 (IntKind.wrap .i64 (o6.2.1 - o7))).bind fun x15 => some x15) (some a0)) : Option (List ttC))).bind fun o9 => ((((((cond (decide (a1 < o7)) (some (decide (o7 < o6.1))) (some false)) : Option Bool)).bind fun o10 => cond o10 (
      (self o9 a1 o7 o6.1).bind fun x16 => some x16) (some o9)) : Option (List ttC))).bind fun o11 => (((cond (decide (o6.1 < (IntKind.wrap .i64 (o6.2.1 - o7)))) (some (decide ((IntKind.wrap .i64 (o6.2.1 - o7)) < a3))) (some false)) : Option Bool)).bind fun o12 => cond o12 ((self o11 o6.1 (IntKind.wrap .i64 (o6.2.1 - o7)) a3).bind fun x17 => some (.inl x17)) (some (.inl o11))) (fun w0 =>
    some (.inr w0)) o5) (fun w1 => some (.inr w1)) o2) : Option ((List ttC) ⊕ (List ttC)))).bind fun o13 => Sum.elim (fun (v7 : (List ttC)) => some v7) (fun w2 => some w2) o13
noncomputable def q10 : Nat → (List ttC) → Int → Int → Int → Option (List ttC) | 0 => fun _ _ _ _ => none | n + 1 => qm0 (q10 n)
noncomputable def qT (a0 : List ttC) (a1 : Int) (a2 : Int) (a3 : Int) : Option (List ttC) := q10 40 a0 a1 a2 a3
noncomputable def qG0 (a0 : List ttC) (a1 : Int) : Option (List ttC) := ((((((qN (V := (Int × Int × (List ttC))) (O := (Int × (List ttC))) (fun v0 => cond (decide (v0.2.1 ≤ a1)) ((qF v0.2.2 v0.1 v0.2.1).bind fun x0 => some (.inl (v0.2.1,(IntKind.wrap .i64 (v0.2.1 + 20)),x0))) (some (.inr (v0.1,v0.2.2)))) (0,20,a0)
  ) : Option (Int × (List ttC)))).bind fun o0 => (qF o0.2 o0.1 a1).bind fun x1 => qN (V := (Int × (List ttC))) (O := (List ttC)) (fun v1 => cond (decide (v1.1 < a1)) ((((qN (V := (Int × Int × (List ttC))) (O := (Int × (List ttC))) (fun v2 => cond (decide (v2.2.1 ≤ a1)) ((qT v2.2.2 v2.1 (IntKind.wrap .i64 (v2.1 + v1.1)) v2.2.1).bind fun x2 =>
       some (.inl (v2.2.1,(IntKind.wrap .i64 (v2.2.1 + (IntKind.wrap .i64 (2 * v1.1)))),x2))) (some (.inr (v2.1,v2.2.2)))) (0,(IntKind.wrap .i64 (2 * v1.1)),v1.2)) : Option (Int × (List ttC)))).bind fun o1 => (((cond (decide ((IntKind.wrap .i64 (o1.1 + v1.1)) < a1)) ((qT o1.2 o1.1 (IntKind.wrap .i64 (o1.1 + v1.1)) a1).bind fun x3 => some x3) (some o1.2)
    ) : Option (List ttC))).bind fun o2 => some (.inl ((IntKind.wrap .i64 (v1.1 * 2)),o2))) (some (.inr v1.2))) (20,x1)) : Option (List ttC))).bind fun o3 => some o3
noncomputable def qC0 (a0 : List ttC) : Option (List ttC) := ((((qG0 a0 (a0.length : Int)).bind fun x0 => some x0) : Option (List ttC))).bind fun o0 => some o0
noncomputable def qa2 (a0 : List ttC) : Option (List ttC) := (qh2 a0).bind fun x0 => (qC0 x0).bind fun x1 => (((qN (V := (Int × (List ttC))) (O := (List ttC)) (fun v0 => cond (decide (v0.1 < (x1.length : Int))) (((((gx x1 v0.1).bind fun x2 => (((cond (decide ((IntKind.wrap .i64 (v0.1 + 1)) = (x1.length : Int))) (some true) (
       (gx x1 (IntKind.wrap .i64 (v0.1 + 1))).bind fun x3 => some (!(decide (x3.1 = x2.1))))) : Option Bool)).bind fun o0 => cond o0 ((fits (v0.2.length + ([x2]).length) 48).bind fun _ => some (v0.2 ++ [x2])) (some v0.2)) : Option (List ttC))).bind fun o1 => some (.inl ((IntKind.wrap .i64 (v0.1 + 1)),o1))) (some (.inr v0.2))) (0,[])) : Option (List ttC))).bind fun o2 => some o2
theorem q22 {a0} {a1} {r} (h : qQ a0 a1 = some r) : FnOk Try.prog 60 [.d (eSC a0),.d (eK a1),.fn 61 [] []] 0 (lk []) (fun rr oo => rr = .tup [.d (eint r.1),.d (qW r.2)] ∧ oo = lk []) := by
 refine fnO Try.func60 rfl rfl (cwP ?_)
 unfold qQ at h
 refine cSR (.X 0 rfl<|.A rfl<|.A rfl<|.nil rfl) ?_
 refine cSR (.M rfl<|.c (qU (enc := eCg) (xs := a0) rfl rfl .no rfl sl22)<|.A rfl<|.nil rfl) ?_
 refine cSR (.M rfl<|.A rfl<|.A rfl<|.nil rfl) ?_
 have ⟨o0,hj0,h0⟩ := bdS h
 refine cwJ (fun (z : Int) => St.of [(0,.d (eSC a0)),(2,.fn 61 [] []),(4,.ptr 0 0),(8,.d (eint (a0.length : Int))),(9,.d (eint z))] [(0,.box (.d (eK a1)))]) (fun z => o0 = z) ?_ ?_
 ·intro v0 hv0; subst hv0
  have ⟨o1,hj1,h1⟩ := bdS h0
  refine cwJ (fun (z : Bool) => St.of [(6,.d (eint o0)),(7,.d (qW z))] []) (fun z => o1 = z) ?_ ?_
  ·intro v1 hv1; subst hv1
   obtain rfl := zQ h1
   exact rt2 rfl rfl rfl rfl
  rcases cdS hj1 with ⟨hc0,h2⟩ | ⟨hc0,h3⟩
  ·skip
   have ⟨x0,hx0,h4⟩ := bdS h2
   have hx0g := qB hx0
   have ⟨x1,hx1,h5⟩ := bdS h4
   refine cwRA mixed (by kernel_rfl) (.M rfl<|.M rfl<|.M rfl<|.B rfl (qO0 _ _) rfl<|.M rfl<|.c (o_mv rfl rfl (.yes rfl rfl hc0) rfl)<|.c (o_mv rfl rfl (.yes rfl rfl hc0) rfl)<|.c (o_mv rfl rfl (.yes rfl rfl hc0) rfl)<|.c (qs1 (enc := eCg) (xs := a0) rfl rfl (.yes rfl rfl hc0) rfl rfl sl22 sz33 hx0g.1 hx0g.2)<|.c (o_ld rfl rfl (.yes rfl rfl hc0) rfl ta33 rfl rfl)<|.c (qC [] rfl rfl (.yes rfl rfl hc0) rfl rfl rfl ta31 rfl rfl)<|.c (qm4 rfl rfl (.yes rfl rfl hc0) rfl Try.func61 rfl rfl (q43 hx1) (.cons rfl .d (.cons rfl .d .nil)) ⟨tV,tV,tV⟩ (.inl rfl))<|.c (qn rfl rfl (.yes rfl rfl hc0) rfl rfl (qh0 _ _) rfl)<|.I rfl hc0<|.A rfl<|.A rfl<|.nil rfl) (by kernel_rfl) ?_
   exact ⟨(decide (x1 = 0)),(sJ h5),wA1 rfl⟩
  refine cwRA mixed (by kernel_rfl) (.M rfl<|.M rfl<|.M rfl<|.B rfl (qO0 _ _) rfl<|.M rfl<|.G rfl rfl hc0<|.G rfl rfl hc0<|.G rfl rfl hc0<|.G rfl rfl hc0<|.G rfl rfl hc0<|.G rfl rfl hc0<|.G rfl rfl hc0<|.G rfl rfl hc0<|.J rfl hc0<|.A rfl<|.A rfl<|.nil rfl) (by kernel_rfl) ?_
  exact ⟨false,(sJ h3),wA1 rfl⟩
 refine cwB (qK (fun (z : (Int × Int)) => St.of [(0,.d (eSC a0)),(2,.fn 61 [] []),(4,.ptr 0 0),(8,.d (eint (a0.length : Int))),(9,.d (eint z.1)),(10,.d (eint z.2))] [(0,.box (.d (eK a1)))]) hj0 (wA1 rfl) ?_)
 intro v2 x2 hb0 hx2
 refine cwS (cSR (.M rfl<|.M rfl<|.B rfl (qO0 _ _) rfl<|.nil rfl) ?_)
 refine cwC hb0 rfl ?_ ?_
 ·intro hc1 h6
  refine cwK ?_
  refine cwB (cSR (.M rfl<|.M rfl<|.B rfl (qR0 _ _) rfl<|.c (qX5 rfl rfl .no rfl un3 un82)<|.B rfl (b_shr _ _ (by decide)) rfl<|.c (qX5 rfl rfl .no rfl un82 un3)<|.A rfl<|.nil rfl) ?_)
  have ⟨x3,hx3,h8⟩ := bdS h6
  have hx3g := qB hx3
  have ⟨x4,hx4,h9⟩ := bdS h8
  refine cwS (cwRA mixed (by kernel_rfl) (.M rfl<|.M rfl<|.M rfl<|.c (qs1 (enc := eCg) (xs := a0) rfl rfl .no rfl rfl sl22 sz33 hx3g.1 hx3g.2)<|.c (o_ld rfl rfl .no rfl ta33 rfl rfl)<|.L [] rfl ta31 rfl<|.c (qm4 rfl rfl .no rfl Try.func61 rfl rfl (q43 hx4) (.cons rfl .d (.cons rfl .d .nil)) ⟨tV,tV,tV⟩ (.inl rfl))<|.B rfl (qO0 _ _) rfl<|.nil rfl) (by kernel_rfl) ?_)
  refine cwC h9 rfl ?_ ?_
  ·intro hc2 h10
   refine cwR (.M rfl<|.B rfl (qR0 _ _) rfl<|.A rfl<|.nil rfl) ?_
   exact ⟨((IntKind.wrap .i64 ((IntKind.wrap .i64 (Int.fdiv (IntKind.wrap .u64 (IntKind.wrap .i64 (v2.1 + v2.2))) (2 ^ 1))) + 1)),v2.2),(sJ h10),wA1 rfl⟩
  intro hc2 h11
  refine cwR (.M rfl<|.A rfl<|.nil rfl) ?_
  exact ⟨(v2.1,(IntKind.wrap .i64 (Int.fdiv (IntKind.wrap .u64 (IntKind.wrap .i64 (v2.1 + v2.2))) (2 ^ 1)))),(sJ h11),wA1 rfl⟩
 intro hc1 h7
 refine qR ?_
 exact ⟨v2.1,(hx2 _ (sJ h7)).symm,wA1 rfl⟩
theorem q03 {a0} {a1} {b1} {r} (h : qX a0 a1 b1 = some r) : FnOk Try.prog 59 [.ptr 0 0,.d (eint a1)] 2 (lk [(0,.own (qg 1 a0)),(1,.own (qe b1))]) (fun rr oo => rr = .tup [.d (qJ r.1),.d (eErr r.2.1)] ∧ oo = lk [(0,.own (qg 1 r.2.2.1)),(1,.own (qe r.2.2.2))]) := by
 refine fnO Try.func59 rfl rfl (cwP ?_)
 unfold qX at h
 refine cSR (.A rfl<|.A rfl<|.nil rfl) ?_
 refine cwL (lOp (o := 0) (y := .st [.ifc 24 (.ptr 1 0),.arr 2 0]) (news := [(2,.arr 0 1 (a0.map eint))]) rfl (.st (.cons (.av rfl) (.cons (.arr rfl) .nil))) rfl rfl ⟨rfl,tV⟩) ?_
 refine cwW (wA0 (l := [(0,.ptr 0 0),(1,.d (eint a1))]) (m := [(0,.box (.st [.ifc 24 (.ptr 1 0),.arr 2 0])),(1,.own (qe b1)),(2,.arr 0 1 (a0.map eint))]) rfl) ?_
 have ⟨x0,hx0,h0⟩ := bdS h
 refine cSR (.M rfl<|.K rfl<|.F rfl fld93_0 rfl<|.L [0] rfl ta90 rfl<|.M rfl<|.c (qc6 (fun n => bif Nat.beq n 0 then 1 else 3) rfl rfl .no rfl Try.func23 rfl rfl rfl q05 (qk0 hx0) (.cons rfl (.p rfl) (.cons rfl .d .nil)) (by decide) (ql1 [1] rfl ⟨(by simp [AV.live,AV.lives,lk,Nat.beq]),tV,tV⟩ ⟨⟨rfl,(OD.dat_live (qc _))⟩,tV⟩ rfl rfl rfl ⟨rfl,tV⟩ rfl) (.inl rfl))<|.M rfl<|.E rfl<|.E rfl<|.c (qb0 4 rfl rfl .no ze46 rfl)<|.S [] rfl sz46 rfl<|.A rfl<|.nil rfl) ?_
 refine cwS (cSR (.M rfl<|.B rfl (qT2 _ _) rfl<|.nil rfl) ?_)
 refine cwC h0 rfl ?_ ?_
 ·intro hc0 h1
  refine cSR (.M rfl<|.A rfl<|.A rfl<|.nil rfl) ?_
  obtain rfl := zQ h1
  exact qv ⟨_,(show Leads _ _ (St.of [(4,.d (qJ (none : Option Fr))),(5,.d (eErr x0.2.1))] [(0,.own (qg 1 a0)),(1,.own (qe x0.2.2))]) from .trans (lPk (o := 0) (y := .st [.ifc 24 (.ptr 1 0),.arr 2 0]) (x := qg 1 a0) (l := [(4,.d (.v (.pointer none))),(5,.d (eErr x0.2.1))]) (m := [(0,.own (qg 1 a0)),(1,.own (qe x0.2.2))]) rfl (.st (.cons (.av rfl) (.cons (.arr rfl) .nil))) rfl rfl ⟨⟨rfl,tV⟩,⟨rfl,tV⟩,tV⟩ ⟨.inl rfl,(.inr ⟨rfl,(OD.dat_live (qc _))⟩),tV⟩ rfl (by simp [qg,OB.live,OD.live,OD.lives,AV.live,lk,Nat.beq]) ⟨rfl,tV⟩ (qq rfl)) (.w (wkF ⟨⟨_,rfl,.d eFo_none.symm⟩,wD rfl,tV⟩ ⟨oE rfl,oM rfl,tV⟩ (qq rfl)))),.inr rfl,_,res2 rfl rfl rfl,rfl,rfl⟩
 intro hc0 h2
 refine cwK (cSR (.F rfl qG1 rfl<|.L [0] rfl ta3 rfl<|.F rfl qy3 rfl<|.L [1] rfl ta34 rfl<|.c (o_bldA rfl rfl .no zo132 rfl pl132 (.cons rfl rfl rfl rfl rfl rfl rfl (.cons rfl rfl rfl rfl rfl rfl rfl .nil)))<|.X 5 rfl<|.A rfl<|.nil rfl) ?_)
 have ⟨o0,hj0,h3⟩ := bdS h2
 refine cwJ (fun (z : (Int × (List ttR) × (List ttP))) => St.of [(8,.ptr 5 0)] [(0,.own (qg 1 a0)),(1,.own (qe x0.2.2)),(5,.own (qn1 z))]) (fun z => o0 = z) ?_ ?_
 ·intro v0 hv0; subst hv0
  refine cwL (lOp (o := 5) (y := .st [.d (eint o0.1),.d (eSP_ o0.2.1),.arr 8 0]) (news := [(8,.arr 0 26 (o0.2.2.map qh))]) rfl (.st (.cons (.av rfl) (.cons (.av rfl) (.cons (.arr rfl) .nil)))) rfl rfl ⟨rfl,tV⟩) ?_
  refine cwW (wA0 (l := [(8,.ptr 5 0)]) (m := [(0,.own (qg 1 a0)),(1,.own (qe x0.2.2)),(5,.box (.st [.d (eint o0.1),.d (eSP_ o0.2.1),.arr 8 0])),(8,.arr 0 26 (o0.2.2.map qh))]) rfl) ?_
  refine cwW (wkF (l := [(8,.ptr 5 0)]) (m := [(0,.own (qg 1 a0)),(1,.own (qe x0.2.2)),(5,.box (.d (qE (o0.1,o0.2.1,o0.2.2))))]) ⟨wP rfl,tV⟩ ⟨oE rfl,oM rfl,.box rfl (.flat (.cons (.d rfl) (.cons (.d rfl) (.cons (.frz rfl rfl rfl) .nil)))),tV⟩ (qq rfl)) ?_
  refine cwW (wkF (l := [(8,.d (.at (qE (o0.1,o0.2.1,o0.2.2))))]) (m := [(0,.own (qg 1 a0)),(1,.own (qe x0.2.2))]) ⟨⟨_,rfl,.pin rfl rfl⟩,tV⟩ ⟨oE rfl,oM rfl,tV⟩ (qq rfl)) ?_
  refine cwW (wkF (l := [(8,.d (qJ (some (frMk (o0.1,o0.2.1,o0.2.2)))))]) (m := [(0,.own (qg 1 a0)),(1,.own (qe x0.2.2))]) ⟨⟨_,rfl,.d (eFo_mk (o0.1,o0.2.1,o0.2.2)).symm⟩,tV⟩ ⟨oE rfl,oM rfl,tV⟩ (qq rfl)) ?_
  refine cSR (.M rfl<|.A rfl<|.A rfl<|.nil rfl) ?_
  obtain rfl := zQ h3
  exact rt2 rfl rfl rfl rfl
 refine cSR (.F rfl q31 rfl<|.L [2] rfl ta44 rfl<|.c (qU (enc := q50) (xs := x0.1.2.2) rfl rfl .no rfl sl44)<|.M rfl<|.nil rfl) ?_
 refine cwB (qK (fun (z : (Int × (Int × (List ttR) × (List ttP)))) => St.of [(8,.ptr 5 0),(30,.d (qH0 x0.1.2.2)),(31,.d (eint (x0.1.2.2.length : Int))),(32,.d (eint z.1))] [(0,.own (qg 1 a0)),(1,.own (qe x0.2.2)),(5,.own (qn1 z.2))]) hj0 (.trans (lPk (o := 0) (y := .st [.ifc 24 (.ptr 1 0),.arr 2 0]) (x := qg 1 a0) (l := [(8,.ptr 5 0),(30,.d (qH0 x0.1.2.2)),(31,.d (eint (x0.1.2.2.length : Int))),(32,.d (eint 0))]) (m := [(0,.own (qg 1 a0)),(1,.own (qe x0.2.2)),(5,.box (.st [.d (eint x0.1.1),.d (eSP_ x0.1.2.1),.d (.v (.slice none 0 0))]))]) rfl (.st (.cons (.av rfl) (.cons (.arr rfl) .nil))) rfl rfl ⟨⟨rfl,(by simp [AV.live,AV.lives,lk,Nat.beq])⟩,⟨rfl,tV⟩,⟨rfl,tV⟩,⟨rfl,tV⟩,tV⟩ ⟨.inl rfl,(.inr ⟨rfl,(OD.dat_live (qc _))⟩),(.inr ⟨rfl,(by simp [OB.live,AV.live,AV.lives,lk,Nat.beq])⟩),tV⟩ rfl (by simp [qg,OB.live,OD.live,OD.lives,AV.live,lk,Nat.beq]) ⟨rfl,tV⟩ (qq rfl)) (.trans (lPk (o := 5) (y := .st [.d (eint x0.1.1),.d (eSP_ x0.1.2.1),.d (.v (.slice none 0 0))]) (x := qn1 (x0.1.1,x0.1.2.1,[])) (l := [(8,.ptr 5 0),(30,.d (qH0 x0.1.2.2)),(31,.d (eint (x0.1.2.2.length : Int))),(32,.d (eint 0))]) (m := [(0,.own (qg 1 a0)),(1,.own (qe x0.2.2)),(5,.own (qn1 (x0.1.1,x0.1.2.1,[])))]) rfl (.st (.cons (.av rfl) (.cons (.av rfl) (.cons (.nil rfl) .nil)))) rfl rfl ⟨⟨rfl,(by simp [AV.live,AV.lives,lk,Nat.beq])⟩,⟨rfl,tV⟩,⟨rfl,tV⟩,⟨rfl,tV⟩,tV⟩ ⟨(.inr ⟨rfl,(by simp [qg,OB.live,OD.live,OD.lives,AV.live,lk,Nat.beq])⟩),(.inr ⟨rfl,(OD.dat_live (qc _))⟩),.inl rfl,tV⟩ rfl (OD.dat_live (qJ0 _)) trivial (qq rfl)) (wA1 rfl))) ?_)
 intro v1 x1 hb0 hx1
 refine cSR (.B rfl (qO0 _ _) rfl<|.nil rfl) ?_
 refine cwS (cwC hb0 rfl ?_ ?_)
 ·intro hc1 h4
  refine cwK ?_
  refine cwS (cwB ?_)
  have ⟨x2,hx2,h6⟩ := bdS h4
  have hx2g := qB hx2
  refine cSR (.c (qs1 (enc := q50) (xs := x0.1.2.2) rfl rfl .no rfl rfl sl44 sz69 hx2g.1 hx2g.2)<|.c (o_ld rfl rfl .no rfl ta69 rfl rfl)<|.c (qb0 6 rfl rfl .no ze69 rfl)<|.S [] rfl sz69 rfl<|.nil rfl) ?_
  refine cwL (lOp (o := 5) (y := .st [.d (eint v1.2.1),.d (eSP_ v1.2.2.1),.arr 7 0]) (news := [(7,.arr 0 26 (v1.2.2.2.map qh))]) rfl (.st (.cons (.av rfl) (.cons (.av rfl) (.cons (.arr rfl) .nil)))) rfl rfl ⟨rfl,tV⟩) ?_
  refine cwW (wA0 (l := [(8,.ptr 5 0),(10,.ptr 6 0),(30,.d (qH0 x0.1.2.2)),(31,.d (eint (x0.1.2.2.length : Int))),(32,.d (eint v1.1))]) (m := [(0,.own (qg 1 a0)),(1,.own (qe x0.2.2)),(5,.box (.st [.d (eint v1.2.1),.d (eSP_ v1.2.2.1),.arr 7 0])),(6,.box (.d (q50 x2))),(7,.arr 0 26 (v1.2.2.2.map qh))]) rfl) ?_
  have ⟨x3,hx3,h7⟩ := bdS h6
  have hx3g := qV hx3
  refine cwRA mixed (by kernel_rfl) (.M rfl<|.M rfl<|.K rfl<|.F rfl qj1 rfl<|.L [2] rfl ta95 rfl<|.F rfl qE4 rfl<|.L [0] rfl ta31 rfl<|.F rfl qw3 rfl<|.L [1] rfl ta3 rfl<|.c (qa6 (ds := [eK x2.1,eint x2.2,qJ (none : Option Fr)]) rfl rfl .no zs101 rfl pl101 (.cons rfl rfl rfl rfl rfl rfl rfl (.cons rfl rfl rfl rfl rfl rfl rfl .nil)))<|.c (ql4 (rows := ([(x2.1,x2.2,(none : Option Fr))] : List ttP).map qh) rfl rfl .no (.cons rfl .nil) rfl sl95 qH1 qj4 rfl (q51 qo) (by decide))<|.c (q02 (enc := qh) (xs := v1.2.2.2) (ys := [(x2.1,x2.2,(none : Option Fr))]) rfl rfl .no rfl rfl rfl qo sl95 sl95 qH1 by101 qj4 rfl (by decide) hx3g)<|.K rfl<|.F rfl qj1 rfl<|.S [2] rfl sz95 rfl<|.nil rfl) (by kernel_rfl) ?_
  refine cwR (.B rfl (qR0 _ _) rfl<|.M rfl<|.nil rfl) ?_
  exact ⟨((IntKind.wrap .i64 (v1.1 + 1)),(v1.2.1,v1.2.2.1,(v1.2.2.2 ++ [(x2.1,x2.2,(none : Option Fr))]))),(sJ h7),.trans (lPk (o := 5) (y := .st [.d (eint v1.2.1),.d (eSP_ v1.2.2.1),.arr 7 (0 + 1)]) (x := qn1 (v1.2.1,v1.2.2.1,(v1.2.2.2 ++ [(x2.1,x2.2,(none : Option Fr))]))) (l := [(8,.ptr 5 0),(30,.d (qH0 x0.1.2.2)),(31,.d (eint (x0.1.2.2.length : Int))),(32,.d (eint (IntKind.wrap .i64 (v1.1 + 1))))]) (m := [(0,.own (qg 1 a0)),(1,.own (qe x0.2.2)),(5,.own (qn1 (v1.2.1,v1.2.2.1,(v1.2.2.2 ++ [(x2.1,x2.2,(none : Option Fr))]))))]) rfl (.st (.cons (.av rfl) (.cons (.av rfl) (.cons (.arr rfl) .nil)))) rfl rfl ⟨⟨rfl,(by simp [AV.live,AV.lives,lk,Nat.beq])⟩,⟨rfl,tV⟩,⟨rfl,tV⟩,⟨rfl,tV⟩,tV⟩ ⟨(.inr ⟨rfl,(by simp [qg,OB.live,OD.live,OD.lives,AV.live,lk,Nat.beq])⟩),(.inr ⟨rfl,(OD.dat_live (qc _))⟩),.inl rfl,tV⟩ rfl (OD.dat_live (qJ0 _)) ⟨rfl,tV⟩ (qq rfl)) (wA1 rfl)⟩
 intro hc1 h5
 refine qR ?_
 exact ⟨v1.2,(hx1 _ (sJ h5)).symm,wA1 rfl⟩
theorem qo2 {a0} {a1} {r} (h : q90 a0 a1 = some r) : FO 56 [.d (eCg a0),.d (eCg a1)] 0 [] (.d (eint r)) [] := by
 refine fnO Try.func56 rfl rfl (cwP ?_)
 unfold q90 at h
 refine cSR (.X 0 rfl<|.X 1 rfl<|.A rfl<|.nil rfl) ?_
 have ⟨x0,hx0,h0⟩ := bdS h
 refine cSR (.F rfl qQ4 rfl<|.L [0] rfl ta31 rfl<|.F rfl qQ4 rfl<|.L [0] rfl ta31 rfl<|.c (qc0 rfl rfl .no Try.func43 rfl rfl (qp0 hx0) (.cons rfl .d (.cons rfl .d .nil)) ⟨tV,tV,tV⟩ (.inl rfl))<|.A rfl<|.nil rfl) ?_
 obtain rfl := zQ h0
 exact rt1 rfl rfl rfl
theorem qA1 {a0} {a1} {a2} {r} (h : qF a0 a1 a2 = some r) (u0 : Nat) : FO 88 [.arr 0 u0,.d (eint a1),.d (eint a2),.fn 56 [] []] 1 [(0,.arr u0 26 (List.map eCg a0))] (.tup []) [(0,.arr u0 26 (r.map eCg))] := by
 refine fnO Try.func88 rfl rfl (cwP ?_)
 unfold qF at h
 have ⟨o0,hj0,h0⟩ := bdS h
 refine cw_tail (fun (z : (List ttC)) => St.of [] [(0,.arr u0 26 (z.map eCg))]) (fun (z : (List ttC)) => o0 = z) ?_ ?_
 ·intro v0 hv0; subst hv0
  obtain rfl := zQ h0
  exact ⟨_,(wA2 [] [(0,.arr u0 26 (o0.map eCg))] rfl),.inl rfl,_,res0 rfl,rfl,rfl⟩
 refine cSR (.M rfl<|.B rfl (qR0 _ _) rfl<|.A rfl<|.nil rfl) ?_
 refine cwB (qK (fun (z : (Int × (List ttC))) => St.of [(0,.arr 0 u0),(1,.d (eint a1)),(2,.d (eint a2)),(3,.fn 56 [] []),(8,.d (eint z.1))] [(0,.arr u0 26 (z.2.map eCg))]) hj0 (wA1 rfl) ?_)
 intro v1 x0 hb0 hx0
 refine cwS (cSR (.M rfl<|.M rfl<|.B rfl (qO0 _ _) rfl<|.nil rfl) ?_)
 refine cwC hb0 rfl ?_ ?_
 ·intro hc0 h1
  refine cwK ?_
  have ⟨o1,hj1,h3⟩ := bdS h1
  refine cwJ (fun (z : (List ttC)) => St.of [(0,.arr 0 u0),(1,.d (eint a1)),(2,.d (eint a2)),(3,.fn 56 [] []),(8,.d (eint v1.1))] [(0,.arr u0 26 (z.map eCg))]) (fun z => o1 = z) ?_ ?_
  ·intro v2 hv1; subst hv1
   refine cwR (.M rfl<|.B rfl (qR0 _ _) rfl<|.A rfl<|.nil rfl) ?_
   exact ⟨((IntKind.wrap .i64 (v1.1 + 1)),o1),(sJ h3),wA1 rfl⟩
  refine cwB (cSR (.M rfl<|.A rfl<|.nil rfl) ?_)
  refine cwB (qK (fun (z : (Int × (List ttC))) => St.of [(0,.arr 0 u0),(1,.d (eint a1)),(2,.d (eint a2)),(3,.fn 56 [] []),(8,.d (eint v1.1)),(9,.d (eint z.1))] [(0,.arr u0 26 (z.2.map eCg))]) hj1 (wA1 rfl) ?_)
  intro v3 x1 hb1 hx1
  refine cwS ?_
  have ⟨o2,hj2,h4⟩ := bdS hb1
  refine cwJ (fun (z : Bool) => St.of [(0,.arr 0 u0),(1,.d (eint a1)),(2,.d (eint a2)),(3,.fn 56 [] []),(8,.d (eint v1.1)),(9,.d (eint v3.1)),(34,.d (qW z))] [(0,.arr u0 26 (v3.2.map eCg))]) (fun z => o2 = z) ?_ ?_
  ·intro v4 hv2; subst hv2
   refine cwC h4 rfl ?_ ?_
   ·intro hc1 h5
    refine cwK ?_
    refine cwS (cwB ?_)
    have ⟨x2,hx2,h7⟩ := bdS h5
    have hx2g := qB hx2
    have ⟨x3,hx3,h8⟩ := bdS h7
    have hx3g := qB hx3
    have ⟨x4,hx4,h9⟩ := bdS h8
    have hx4g := qB hx4
    refine cwRA mixed (by kernel_rfl) (.M rfl<|.M rfl<|.M rfl<|.M rfl<|.B rfl (qS3 _ _) rfl<|.M rfl<|.M rfl<|.B rfl (qS3 _ _) rfl<|.c (qU1 (enc := eCg) (xs := v3.2) rfl rfl .no rfl rfl rfl sl22 sz33 hx2g.1 hx2g.2)<|.c (q73 (enc := eCg) (xs := v3.2) (r := x2) [] rfl rfl .no rfl rfl hx2g.2 rfl ta33 rfl rfl)<|.M rfl<|.M rfl<|.c (qU1 (enc := eCg) (xs := v3.2) rfl rfl .no rfl rfl rfl sl22 sz33 hx3g.1 hx3g.2)<|.c (q73 (enc := eCg) (xs := v3.2) (r := x3) [] rfl rfl .no rfl rfl hx3g.2 rfl ta33 rfl rfl)<|.c (qU1 (enc := eCg) (xs := v3.2) rfl rfl .no rfl rfl rfl sl22 sz33 hx3g.1 hx3g.2)<|.c (q76 (enc := eCg) (xs := v3.2) (y := x2) (r := x3) rfl .no rfl rfl rfl hx3g.2 sz33 rfl (qn0 _))<|.c (qU1 (enc := eCg) (xs := (List.set v3.2 v3.1.toNat x2)) rfl rfl .no rfl rfl rfl sl22 sz33 hx4g.1 hx4g.2)<|.c (q76 (enc := eCg) (xs := (List.set v3.2 v3.1.toNat x2)) (y := x3) (r := x4) rfl .no rfl rfl rfl hx4g.2 sz33 rfl (qn0 _))<|.nil rfl) (by kernel_rfl) ?_
    refine cwR (.M rfl<|.B rfl (qS3 _ _) rfl<|.A rfl<|.nil rfl) ?_
    exact ⟨((IntKind.wrap .i64 (v3.1 - 1)),(List.set (List.set v3.2 v3.1.toNat x2) (IntKind.wrap .i64 (v3.1 - 1)).toNat x3)),(sJ h9),wA1 rfl⟩
   intro hc1 h6
   refine qR ?_
   exact ⟨v3.2,(hx1 _ (sJ h6)).symm,wA1 rfl⟩
  rcases cdS hj2 with ⟨hc2,h10⟩ | ⟨hc2,h11⟩
  ·skip
   have ⟨x5,hx5,h12⟩ := bdS h10
   have hx5g := qB hx5
   have ⟨x6,hx6,h13⟩ := bdS h12
   have hx6g := qB hx6
   have ⟨x7,hx7,h14⟩ := bdS h13
   refine cwRA mixed (by kernel_rfl) (.M rfl<|.M rfl<|.B rfl (qT3 _ _) rfl<|.M rfl<|.c (o_mv rfl rfl (.yes rfl rfl hc2) rfl)<|.c (o_mv rfl rfl (.yes rfl rfl hc2) rfl)<|.c (o_mv rfl rfl (.yes rfl rfl hc2) rfl)<|.c (qU1 (enc := eCg) (xs := v3.2) rfl rfl (.yes rfl rfl hc2) rfl rfl rfl sl22 sz33 hx5g.1 hx5g.2)<|.c (q73 (enc := eCg) (xs := v3.2) (r := x5) [] rfl rfl (.yes rfl rfl hc2) rfl rfl hx5g.2 rfl ta33 rfl rfl)<|.c (o_mv rfl rfl (.yes rfl rfl hc2) rfl)<|.c (o_mv rfl rfl (.yes rfl rfl hc2) rfl)<|.c (qn rfl rfl (.yes rfl rfl hc2) rfl rfl (qS3 _ _) rfl)<|.c (qU1 (enc := eCg) (xs := v3.2) rfl rfl (.yes rfl rfl hc2) rfl rfl rfl sl22 sz33 hx6g.1 hx6g.2)<|.c (q73 (enc := eCg) (xs := v3.2) (r := x6) [] rfl rfl (.yes rfl rfl hc2) rfl rfl hx6g.2 rfl ta33 rfl rfl)<|.c (qm4 rfl rfl (.yes rfl rfl hc2) rfl Try.func56 rfl rfl (qo2 hx7) (.cons rfl .d (.cons rfl .d .nil)) ⟨tV,tV,tV⟩ (.inl rfl))<|.c (qn rfl rfl (.yes rfl rfl hc2) rfl rfl (qO0 _ _) rfl)<|.I rfl hc2<|.nil rfl) (by kernel_rfl) ?_
   exact ⟨(decide (x7 < 0)),(sJ h14),wA1 rfl⟩
  refine cwRA mixed (by kernel_rfl) (.M rfl<|.M rfl<|.B rfl (qT3 _ _) rfl<|.M rfl<|.G rfl rfl hc2<|.G rfl rfl hc2<|.G rfl rfl hc2<|.G rfl rfl hc2<|.G rfl rfl hc2<|.G rfl rfl hc2<|.G rfl rfl hc2<|.G rfl rfl hc2<|.G rfl rfl hc2<|.G rfl rfl hc2<|.G rfl rfl hc2<|.G rfl rfl hc2<|.J rfl hc2<|.nil rfl) (by kernel_rfl) ?_
  exact ⟨false,(sJ h11),wA1 rfl⟩
 intro hc0 h2
 refine qR ?_
 exact ⟨v1.2,(hx0 _ (sJ h2)).symm,wA1 rfl⟩
theorem qh1 {a0} {a1} {a2} {a3} {r} (h : qH a0 a1 a2 a3 = some r) (u0 : Nat) : FO 101 [.arr 0 u0,.d (eint a1),.d (eint a2),.d (eint a3),.fn 56 [] []] 1 [(0,.arr u0 26 (List.map eCg a0))] (.tup []) [(0,.arr u0 26 (r.map eCg))] := by
 refine fnO Try.func101 rfl rfl (cwP ?_)
 unfold qH at h
 have ⟨o0,hj0,h0⟩ := bdS h
 refine cw_tail (fun (z : (List ttC)) => St.of [] [(0,.arr u0 26 (z.map eCg))]) (fun (z : (List ttC)) => o0 = z) ?_ ?_
 ·intro v0 hv0; subst hv0
  obtain rfl := zQ h0
  exact ⟨_,(wA2 [] [(0,.arr u0 26 (o0.map eCg))] rfl),.inl rfl,_,res0 rfl,rfl,rfl⟩
 refine cSR (.A rfl<|.nil rfl) ?_
 refine cwB (qK (fun (z : (Int × (List ttC))) => St.of [(0,.arr 0 u0),(1,.d (eint a1)),(2,.d (eint a2)),(3,.d (eint a3)),(10,.d (eint z.1))] [(0,.arr u0 26 (z.2.map eCg))]) hj0 (wA1 rfl) ?_)
 intro v1 x0 hb0 hx0
 refine cwS (cSR (.M rfl<|.M rfl<|.B rfl (qO0 _ _) rfl<|.nil rfl) ?_)
 refine cwC hb0 rfl ?_ ?_
 ·intro hc0 h1
  refine cwK ?_
  refine cwS (cwB ?_)
  have ⟨x1,hx1,h3⟩ := bdS h1
  have hx1g := qB hx1
  have ⟨x2,hx2,h4⟩ := bdS h3
  have hx2g := qB hx2
  have ⟨x3,hx3,h5⟩ := bdS h4
  have hx3g := qB hx3
  refine cwRA mixed (by kernel_rfl) (.M rfl<|.M rfl<|.M rfl<|.B rfl (qR0 _ _) rfl<|.M rfl<|.M rfl<|.M rfl<|.B rfl (qR0 _ _) rfl<|.M rfl<|.M rfl<|.M rfl<|.B rfl (qR0 _ _) rfl<|.c (qU1 (enc := eCg) (xs := v1.2) rfl rfl .no rfl rfl rfl sl22 sz33 hx1g.1 hx1g.2)<|.c (q73 (enc := eCg) (xs := v1.2) (r := x1) [] rfl rfl .no rfl rfl hx1g.2 rfl ta33 rfl rfl)<|.M rfl<|.M rfl<|.M rfl<|.B rfl (qR0 _ _) rfl<|.c (qU1 (enc := eCg) (xs := v1.2) rfl rfl .no rfl rfl rfl sl22 sz33 hx2g.1 hx2g.2)<|.c (q73 (enc := eCg) (xs := v1.2) (r := x2) [] rfl rfl .no rfl rfl hx2g.2 rfl ta33 rfl rfl)<|.c (qU1 (enc := eCg) (xs := v1.2) rfl rfl .no rfl rfl rfl sl22 sz33 hx2g.1 hx2g.2)<|.c (q76 (enc := eCg) (xs := v1.2) (y := x1) (r := x2) rfl .no rfl rfl rfl hx2g.2 sz33 rfl (qn0 _))<|.c (qU1 (enc := eCg) (xs := (List.set v1.2 (IntKind.wrap .i64 (a1 + v1.1)).toNat x1)) rfl rfl .no rfl rfl rfl sl22 sz33 hx3g.1 hx3g.2)<|.c (q76 (enc := eCg) (xs := (List.set v1.2 (IntKind.wrap .i64 (a1 + v1.1)).toNat x1)) (y := x2) (r := x3) rfl .no rfl rfl rfl hx3g.2 sz33 rfl (qn0 _))<|.nil rfl) (by kernel_rfl) ?_
  refine cwR (.M rfl<|.B rfl (qR0 _ _) rfl<|.A rfl<|.nil rfl) ?_
  exact ⟨((IntKind.wrap .i64 (v1.1 + 1)),(List.set (List.set v1.2 (IntKind.wrap .i64 (a1 + v1.1)).toNat x1) (IntKind.wrap .i64 (a2 + v1.1)).toNat x2)),(sJ h5),wA1 rfl⟩
 intro hc0 h2
 refine qR ?_
 exact ⟨v1.2,(hx0 _ (sJ h2)).symm,wA1 rfl⟩
theorem qf4 {a0} {a1} {a2} {a3} {r} (h : qu0 a0 a1 a2 a3 = some r) (u0 : Nat) : FO 97 [.arr 0 u0,.d (eint a1),.d (eint a2),.d (eint a3),.fn 56 [] []] 1 [(0,.arr u0 26 (List.map eCg a0))] (.tup []) [(0,.arr u0 26 (r.map eCg))] := by
 refine fnO Try.func97 rfl rfl (cwP ?_)
 unfold qu0 at h
 have ⟨o0,hj0,h0⟩ := bdS h
 refine cw_tail (fun (z : (List ttC)) => St.of [] [(0,.arr u0 26 (z.map eCg))]) (fun (z : (List ttC)) => o0 = z) ?_ ?_
 ·intro v0 hv0; subst hv0
  obtain rfl := zQ h0
  exact ⟨_,(wA2 [] [(0,.arr u0 26 (o0.map eCg))] rfl),.inl rfl,_,res0 rfl,rfl,rfl⟩
 refine cSR (.M rfl<|.M rfl<|.B rfl (qS3 _ _) rfl<|.A rfl<|.nil rfl) ?_
 refine cSR (.M rfl<|.M rfl<|.B rfl (qS3 _ _) rfl<|.A rfl<|.nil rfl) ?_
 have ⟨o1,hj1,h1⟩ := bdS hj0
 refine cwJ (fun (z : (Int × (List ttC))) => St.of [(0,.arr 0 u0),(2,.d (eint a2)),(4,.fn 56 [] []),(10,.d (eint z.1))] [(0,.arr u0 26 (z.2.map eCg))]) (fun z => o1 = z) ?_ ?_
 ·intro v1 hv1; subst hv1
  have ⟨x0,hx0,h2⟩ := bdS h1
  refine cwR (.M rfl<|.M rfl<|.M rfl<|.B rfl (qS3 _ _) rfl<|.M rfl<|.M rfl<|.M rfl<|.c (qG (fun _ => 0) rfl rfl .no Try.func101 rfl rfl (qh1 hx0 u0) (.cons rfl (.a rfl) (.cons rfl .d (.cons rfl .d (.cons rfl .d (.cons rfl .f0 .nil))))) (q20 rfl ⟨(by simp [AV.live,lk,Nat.beq]),tV,tV,tV,(by simp [AV.live,AV.lives]),tV⟩ rfl trivial (by simp)) (.inl rfl))<|.nil rfl) ?_
  exact ⟨x0,(sJ h2),wA1 rfl⟩
 refine cwB (qK (fun (z : (Int × Int × (List ttC))) => St.of [(0,.arr 0 u0),(2,.d (eint a2)),(4,.fn 56 [] []),(10,.d (eint z.1)),(11,.d (eint z.2.1))] [(0,.arr u0 26 (z.2.2.map eCg))]) hj1 (wA1 rfl) ?_)
 intro v2 x1 hb0 hx1
 refine cwS (cSR (.M rfl<|.M rfl<|.B rfl (qT2 _ _) rfl<|.nil rfl) ?_)
 refine cwC hb0 rfl ?_ ?_
 ·intro hc0 h3
  refine cwK ?_
  refine cwB (cSR (.M rfl<|.M rfl<|.B rfl (qT3 _ _) rfl<|.nil rfl) ?_)
  refine cwC h3 rfl ?_ ?_
  ·intro hc1 h5
   have ⟨x2,hx2,h7⟩ := bdS h5
   refine cSR (.M rfl<|.M rfl<|.M rfl<|.B rfl (qS3 _ _) rfl<|.M rfl<|.M rfl<|.M rfl<|.c (qG (fun _ => 0) rfl rfl .no Try.func101 rfl rfl (qh1 hx2 u0) (.cons rfl (.a rfl) (.cons rfl .d (.cons rfl .d (.cons rfl .d (.cons rfl .f0 .nil))))) (q20 rfl ⟨(by simp [AV.live,lk,Nat.beq]),tV,tV,tV,(by simp [AV.live,AV.lives]),tV⟩ rfl trivial (by simp)) (.inl rfl))<|.nil rfl) ?_
   refine cwR (.M rfl<|.M rfl<|.B rfl (qS3 _ _) rfl<|.A rfl<|.nil rfl) ?_
   exact ⟨((IntKind.wrap .i64 (v2.1 - v2.2.1)),v2.2.1,x2),(sJ h7),wA1 rfl⟩
  intro hc1 h6
  have ⟨x3,hx3,h8⟩ := bdS (x := qH v2.2.2 (IntKind.wrap .i64 (a2 - v2.1)) (IntKind.wrap .i64 ((IntKind.wrap .i64 (a2 + v2.2.1)) - v2.1)) v2.1) h6
  refine cSR (.M rfl<|.M rfl<|.M rfl<|.B rfl (qS3 _ _) rfl<|.M rfl<|.M rfl<|.B rfl (qR0 _ _) rfl<|.M rfl<|.B rfl (qS3 _ _) rfl<|.M rfl<|.M rfl<|.c (qG (fun _ => 0) rfl rfl .no Try.func101 rfl rfl (qh1 hx3 u0) (.cons rfl (.a rfl) (.cons rfl .d (.cons rfl .d (.cons rfl .d (.cons rfl .f0 .nil))))) (q20 rfl ⟨(by simp [AV.live,lk,Nat.beq]),tV,tV,tV,(by simp [AV.live,AV.lives]),tV⟩ rfl trivial (by simp)) (.inl rfl))<|.nil rfl) ?_
  refine cwR (.M rfl<|.M rfl<|.B rfl (qS3 _ _) rfl<|.A rfl<|.nil rfl) ?_
  exact ⟨(v2.1,(IntKind.wrap .i64 (v2.2.1 - v2.1)),x3),(sJ h8),wA1 rfl⟩
 intro hc0 h4
 refine qR ?_
 exact ⟨(v2.1,v2.2.2),(hx1 _ (sJ h4)).symm,wA1 rfl⟩
theorem qX2 {self : (List ttC) → Int → Int → Int → Option (List ttC)} (self_ok : ∀ {a0 : List ttC} {a1 : Int} {a2 : Int} {a3 : Int} {r : (List ttC)},self a0 a1 a2 a3 = some r → ∀ (u0 : Nat),FO 89 [.arr 0 u0,.d (eint a1),.d (eint a2),.d (eint a3),.fn 56 [] []] 1 [(0,.arr u0 26 (a0.map eCg))] (.tup []) [(0,.arr u0 26 (r.map eCg))]) {a0 : List ttC} {a1 : Int} {a2 : Int} {a3 : Int} {r : (List ttC)} (h : qm0 self a0 a1 a2 a3 = some r) (u0 : Nat) : FO 89 [.arr 0 u0,.d (eint a1),.d (eint a2),.d (eint a3),.fn 56 [] []] 1 [(0,.arr u0 26 (List.map eCg a0))] (.tup []) [(0,.arr u0 26 (r.map eCg))] := by
 refine fnO Try.func89 rfl rfl (cwP ?_)
 unfold qm0 at h
 have ⟨o0,hj0,h0⟩ := bdS h
 refine cw_tail (fun (z : (List ttC)) => St.of [] [(0,.arr u0 26 (z.map eCg))]) (fun (z : (List ttC)) => o0 = (.inl z)) ?_ ?_
 ·intro v0 hv0; subst hv0
  obtain rfl := zQ h0
  exact ⟨_,(wA2 [] [(0,.arr u0 26 (v0.map eCg))] rfl),.inl rfl,_,res0 rfl,rfl,rfl⟩
 have ⟨o1,hj1,h1⟩ := bdS hj0
 refine cwJ (fun (z : Unit) => St.of [(0,.arr 0 u0),(1,.d (eint a1)),(2,.d (eint a2)),(3,.d (eint a3)),(4,.fn 56 [] [])] [(0,.arr u0 26 (a0.map eCg))]) (fun z => o1 = (.inl z)) ?_ ?_
 ·intro v1 hv1; subst hv1
  simp only [zN] at h1
  have ⟨o2,hj2,h2⟩ := bdS h1
  refine cwJ (fun (z : Unit) => St.of [(0,.arr 0 u0),(1,.d (eint a1)),(2,.d (eint a2)),(3,.d (eint a3)),(4,.fn 56 [] [])] [(0,.arr u0 26 (a0.map eCg))]) (fun z => o2 = (.inl z)) ?_ ?_
  ·intro v2 hv2; subst hv2
   simp only [zN] at h2
   refine cSR (.M rfl<|.M rfl<|.B rfl (qR0 _ _) rfl<|.c (qX5 rfl rfl .no rfl un3 un82)<|.B rfl (b_shr _ _ (by decide)) rfl<|.c (qX5 rfl rfl .no rfl un82 un3)<|.A rfl<|.nil rfl) ?_
   refine cSR (.M rfl<|.M rfl<|.B rfl (qR0 _ _) rfl<|.A rfl<|.nil rfl) ?_
   refine cSR (.A rfl<|.A rfl<|.nil rfl) ?_
   have ⟨o3,hj3,h3⟩ := bdS h2
   refine cwJ (fun (z : (Int × Int × Int × Int)) => St.of [(0,.arr 0 u0),(1,.d (eint a1)),(2,.d (eint a2)),(3,.d (eint a3)),(4,.fn 56 [] []),(18,.d (eint z.1)),(19,.d (eint z.2.1)),(20,.d (eint z.2.2.1)),(21,.d (eint z.2.2.2))] [(0,.arr u0 26 (a0.map eCg))]) (fun z => o3 = z) ?_ ?_
   ·intro v3 hv3; subst hv3
    refine cSR (.M rfl<|.B rfl (qS3 _ _) rfl<|.A rfl<|.nil rfl) ?_
    have ⟨o4,hj4,h4⟩ := bdS h3
    refine cwJ (fun (z : Int) => St.of [(0,.arr 0 u0),(1,.d (eint a1)),(2,.d (eint a2)),(3,.d (eint a3)),(4,.fn 56 [] []),(18,.d (eint o3.1)),(19,.d (eint o3.2.1)),(20,.d (eint z))] [(0,.arr u0 26 (a0.map eCg))]) (fun z => o4 = z) ?_ ?_
    ·intro v4 hv4; subst hv4
     refine cSR (.M rfl<|.M rfl<|.B rfl (qS3 _ _) rfl<|.A rfl<|.nil rfl) ?_
     have ⟨o5,hj5,h5⟩ := bdS h4
     refine cwJ (fun (z : (List ttC)) => St.of [(0,.arr 0 u0),(1,.d (eint a1)),(3,.d (eint a3)),(4,.fn 56 [] []),(18,.d (eint o3.1)),(20,.d (eint o4)),(24,.d (eint (IntKind.wrap .i64 (o3.2.1 - o4))))] [(0,.arr u0 26 (z.map eCg))]) (fun z => o5 = z) ?_ ?_
     ·intro v5 hv5; subst hv5
      have ⟨o6,hj6,h6⟩ := bdS h5
      refine cwJ (fun (z : (List ttC)) => St.of [(0,.arr 0 u0),(3,.d (eint a3)),(4,.fn 56 [] []),(18,.d (eint o3.1)),(24,.d (eint (IntKind.wrap .i64 (o3.2.1 - o4))))] [(0,.arr u0 26 (z.map eCg))]) (fun z => o6 = z) ?_ ?_
      ·intro v6 hv6; subst hv6
       have ⟨o7,hj7,h7⟩ := bdS h6
       refine cwJ (fun (z : Bool) => St.of [(0,.arr 0 u0),(3,.d (eint a3)),(4,.fn 56 [] []),(18,.d (eint o3.1)),(24,.d (eint (IntKind.wrap .i64 (o3.2.1 - o4)))),(213,.d (qW z))] [(0,.arr u0 26 (o6.map eCg))]) (fun z => o7 = z) ?_ ?_
       ·intro v7 hv7; subst hv7
        refine cwC h7 rfl ?_ ?_
        ·intro hc0 h8
         have ⟨x0,hx0,h10⟩ := bdS h8
         refine cwR (.M rfl<|.M rfl<|.M rfl<|.M rfl<|.M rfl<|.c (qG (fun _ => 0) rfl rfl .no Try.func89 rfl rfl (self_ok hx0 u0) (.cons rfl (.a rfl) (.cons rfl .d (.cons rfl .d (.cons rfl .d (.cons rfl .f0 .nil))))) (q20 rfl ⟨(by simp [AV.live,lk,Nat.beq]),tV,tV,tV,(by simp [AV.live,AV.lives]),tV⟩ rfl trivial (by simp)) (.inl rfl))<|.nil rfl) ?_
         exact ⟨x0,(sJ h10),wA1 rfl⟩
        intro hc0 h9
        refine cwK ?_
        exact ⟨o6,(sJ h9),wA1 rfl⟩
       rcases cdS hj7 with ⟨hc1,h11⟩ | ⟨hc1,h12⟩
       ·skip
        refine cwR (.M rfl<|.M rfl<|.B rfl (qO0 _ _) rfl<|.M rfl<|.c (o_mv rfl rfl (.yes rfl rfl hc1) rfl)<|.c (o_mv rfl rfl (.yes rfl rfl hc1) rfl)<|.c (qn rfl rfl (.yes rfl rfl hc1) rfl rfl (qO0 _ _) rfl)<|.I rfl hc1<|.nil rfl) ?_
        exact ⟨(decide ((IntKind.wrap .i64 (o3.2.1 - o4)) < a3)),(sJ h11),wA1 rfl⟩
       refine cwR (.M rfl<|.M rfl<|.B rfl (qO0 _ _) rfl<|.M rfl<|.G rfl rfl hc1<|.G rfl rfl hc1<|.G rfl rfl hc1<|.J rfl hc1<|.nil rfl) ?_
       exact ⟨false,(sJ h12),wA1 rfl⟩
      have ⟨o8,hj8,h13⟩ := bdS hj6
      refine cwJ (fun (z : Bool) => St.of [(0,.arr 0 u0),(1,.d (eint a1)),(3,.d (eint a3)),(4,.fn 56 [] []),(18,.d (eint o3.1)),(20,.d (eint o4)),(24,.d (eint (IntKind.wrap .i64 (o3.2.1 - o4)))),(199,.d (qW z))] [(0,.arr u0 26 (o5.map eCg))]) (fun z => o8 = z) ?_ ?_
      ·intro v8 hv8; subst hv8
       refine cwC h13 rfl ?_ ?_
       ·intro hc2 h14
        have ⟨x1,hx1,h16⟩ := bdS h14
        refine cwR (.M rfl<|.M rfl<|.M rfl<|.M rfl<|.M rfl<|.c (qG (fun _ => 0) rfl rfl .no Try.func89 rfl rfl (self_ok hx1 u0) (.cons rfl (.a rfl) (.cons rfl .d (.cons rfl .d (.cons rfl .d (.cons rfl .f0 .nil))))) (q20 rfl ⟨(by simp [AV.live,lk,Nat.beq]),tV,tV,tV,(by simp [AV.live,AV.lives]),tV⟩ rfl trivial (by simp)) (.inl rfl))<|.nil rfl) ?_
        exact ⟨x1,(sJ h16),wA1 rfl⟩
       intro hc2 h15
       refine cwK ?_
       exact ⟨o5,(sJ h15),wA1 rfl⟩
      rcases cdS hj8 with ⟨hc3,h17⟩ | ⟨hc3,h18⟩
      ·skip
       refine cwR (.M rfl<|.M rfl<|.B rfl (qO0 _ _) rfl<|.M rfl<|.c (o_mv rfl rfl (.yes rfl rfl hc3) rfl)<|.c (o_mv rfl rfl (.yes rfl rfl hc3) rfl)<|.c (qn rfl rfl (.yes rfl rfl hc3) rfl rfl (qO0 _ _) rfl)<|.I rfl hc3<|.nil rfl) ?_
       exact ⟨(decide (o4 < o3.1)),(sJ h17),wA1 rfl⟩
      refine cwR (.M rfl<|.M rfl<|.B rfl (qO0 _ _) rfl<|.M rfl<|.G rfl rfl hc3<|.G rfl rfl hc3<|.G rfl rfl hc3<|.J rfl hc3<|.nil rfl) ?_
      exact ⟨false,(sJ h18),wA1 rfl⟩
     have ⟨o9,hj9,h19⟩ := bdS hj5
     refine cwJ (fun (z : Bool) => St.of [(0,.arr 0 u0),(1,.d (eint a1)),(2,.d (eint a2)),(3,.d (eint a3)),(4,.fn 56 [] []),(18,.d (eint o3.1)),(20,.d (eint o4)),(24,.d (eint (IntKind.wrap .i64 (o3.2.1 - o4)))),(185,.d (qW z))] [(0,.arr u0 26 (a0.map eCg))]) (fun z => o9 = z) ?_ ?_
     ·intro v9 hv9; subst hv9
      refine cwC h19 rfl ?_ ?_
      ·intro hc4 h20
       have ⟨x2,hx2,h22⟩ := bdS h20
       refine cwR (.M rfl<|.M rfl<|.M rfl<|.M rfl<|.M rfl<|.c (qG (fun _ => 0) rfl rfl .no Try.func97 rfl rfl (qf4 hx2 u0) (.cons rfl (.a rfl) (.cons rfl .d (.cons rfl .d (.cons rfl .d (.cons rfl .f0 .nil))))) (q20 rfl ⟨(by simp [AV.live,lk,Nat.beq]),tV,tV,tV,(by simp [AV.live,AV.lives]),tV⟩ rfl trivial (by simp)) (.inl rfl))<|.nil rfl) ?_
       exact ⟨x2,(sJ h22),wA1 rfl⟩
      intro hc4 h21
      refine cwK ?_
      exact ⟨a0,(sJ h21),wA1 rfl⟩
     rcases cdS hj9 with ⟨hc5,h23⟩ | ⟨hc5,h24⟩
     ·skip
      refine cwR (.M rfl<|.M rfl<|.B rfl (qO0 _ _) rfl<|.M rfl<|.c (o_mv rfl rfl (.yes rfl rfl hc5) rfl)<|.c (o_mv rfl rfl (.yes rfl rfl hc5) rfl)<|.c (qn rfl rfl (.yes rfl rfl hc5) rfl rfl (qO0 _ _) rfl)<|.I rfl hc5<|.nil rfl) ?_
      exact ⟨(decide (a2 < (IntKind.wrap .i64 (o3.2.1 - o4)))),(sJ h23),wA1 rfl⟩
     refine cwR (.M rfl<|.M rfl<|.B rfl (qO0 _ _) rfl<|.M rfl<|.G rfl rfl hc5<|.G rfl rfl hc5<|.G rfl rfl hc5<|.J rfl hc5<|.nil rfl) ?_
     exact ⟨false,(sJ h24),wA1 rfl⟩
    refine cwB (qK (fun (z : (Int × Int)) => St.of [(0,.arr 0 u0),(1,.d (eint a1)),(2,.d (eint a2)),(3,.d (eint a3)),(4,.fn 56 [] []),(18,.d (eint o3.1)),(19,.d (eint o3.2.1)),(20,.d (eint z.1)),(21,.d (eint z.2)),(22,.d (eint (IntKind.wrap .i64 (o3.2.1 - 1))))] [(0,.arr u0 26 (a0.map eCg))]) hj4 (wA1 rfl) ?_)
    intro v10 x3 hb0 hx3
    refine cwS (cSR (.M rfl<|.M rfl<|.B rfl (qO0 _ _) rfl<|.nil rfl) ?_)
    refine cwC hb0 rfl ?_ ?_
    ·intro hc6 h25
     refine cwK ?_
     refine cwB (cSR (.M rfl<|.M rfl<|.B rfl (qR0 _ _) rfl<|.c (qX5 rfl rfl .no rfl un3 un82)<|.B rfl (b_shr _ _ (by decide)) rfl<|.c (qX5 rfl rfl .no rfl un82 un3)<|.A rfl<|.nil rfl) ?_)
     have ⟨x4,hx4,h27⟩ := bdS h25
     have hx4g := qB hx4
     have ⟨x5,hx5,h28⟩ := bdS h27
     have hx5g := qB hx5
     have ⟨x6,hx6,h29⟩ := bdS h28
     refine cwS (cwRA mixed (by kernel_rfl) (.M rfl<|.M rfl<|.M rfl<|.M rfl<|.B rfl (qS3 _ _) rfl<|.c (qU1 (enc := eCg) (xs := a0) rfl rfl .no rfl rfl rfl sl22 sz33 hx4g.1 hx4g.2)<|.c (q73 (enc := eCg) (xs := a0) (r := x4) [] rfl rfl .no rfl rfl hx4g.2 rfl ta33 rfl rfl)<|.M rfl<|.M rfl<|.c (qU1 (enc := eCg) (xs := a0) rfl rfl .no rfl rfl rfl sl22 sz33 hx5g.1 hx5g.2)<|.c (q73 (enc := eCg) (xs := a0) (r := x5) [] rfl rfl .no rfl rfl hx5g.2 rfl ta33 rfl rfl)<|.c (qm4 rfl rfl .no rfl Try.func56 rfl rfl (qo2 hx6) (.cons rfl .d (.cons rfl .d .nil)) ⟨tV,tV,tV⟩ (.inl rfl))<|.B rfl (qO0 _ _) rfl<|.T rfl<|.nil rfl) (by kernel_rfl) ?_)
     refine cwC h29 rfl ?_ ?_
     ·intro hc7 h30
      refine cwR (.M rfl<|.B rfl (qR0 _ _) rfl<|.A rfl<|.nil rfl) ?_
      exact ⟨((IntKind.wrap .i64 ((IntKind.wrap .i64 (Int.fdiv (IntKind.wrap .u64 (IntKind.wrap .i64 (v10.1 + v10.2))) (2 ^ 1))) + 1)),v10.2),(sJ h30),wA1 rfl⟩
     intro hc7 h31
     refine cwR (.M rfl<|.A rfl<|.nil rfl) ?_
     exact ⟨(v10.1,(IntKind.wrap .i64 (Int.fdiv (IntKind.wrap .u64 (IntKind.wrap .i64 (v10.1 + v10.2))) (2 ^ 1)))),(sJ h31),wA1 rfl⟩
    intro hc6 h26
    refine qR ?_
    exact ⟨v10.1,(hx3 _ (sJ h26)).symm,wA1 rfl⟩
   refine cSR (.M rfl<|.M rfl<|.B rfl (qT3 _ _) rfl<|.nil rfl) ?_
   refine cwC hj3 rfl ?_ ?_
   ·intro hc8 h32
    refine cSR (.M rfl<|.M rfl<|.B rfl (qS3 _ _) rfl<|.A rfl<|.nil rfl) ?_
    refine cwR (.M rfl<|.A rfl<|.nil rfl) ?_
    exact ⟨((IntKind.wrap .i64 (Int.fdiv (IntKind.wrap .u64 (IntKind.wrap .i64 (a1 + a3))) (2 ^ 1))),(IntKind.wrap .i64 ((IntKind.wrap .i64 (Int.fdiv (IntKind.wrap .u64 (IntKind.wrap .i64 (a1 + a3))) (2 ^ 1))) + a2)),(IntKind.wrap .i64 ((IntKind.wrap .i64 ((IntKind.wrap .i64 (Int.fdiv (IntKind.wrap .u64 (IntKind.wrap .i64 (a1 + a3))) (2 ^ 1))) + a2)) - a3)),(IntKind.wrap .i64 (Int.fdiv (IntKind.wrap .u64 (IntKind.wrap .i64 (a1 + a3))) (2 ^ 1)))),(sJ h32),wA1 rfl⟩
   intro hc8 h33
   refine cSR (.M rfl<|.A rfl<|.nil rfl) ?_
   refine cwR (.M rfl<|.A rfl<|.nil rfl) ?_
   exact ⟨((IntKind.wrap .i64 (Int.fdiv (IntKind.wrap .u64 (IntKind.wrap .i64 (a1 + a3))) (2 ^ 1))),(IntKind.wrap .i64 ((IntKind.wrap .i64 (Int.fdiv (IntKind.wrap .u64 (IntKind.wrap .i64 (a1 + a3))) (2 ^ 1))) + a2)),a1,a2),(sJ h33),wA1 rfl⟩
  refine cSR (.M rfl<|.M rfl<|.B rfl (qS3 _ _) rfl<|.B rfl (qh0 _ _) rfl<|.nil rfl) ?_
  refine cwC hj2 rfl ?_ ?_
  ·intro hc9 h34
   refine cSR (.M rfl<|.A rfl<|.nil rfl) ?_
   refine cSR (.M rfl<|.A rfl<|.nil rfl) ?_
   have ⟨o10,hj10,h36⟩ := bdS h34
   refine cwJ (fun (z : Int) => St.of [(0,.arr 0 u0),(2,.d (eint a2)),(14,.d (eint z))] [(0,.arr u0 26 (a0.map eCg))]) (fun z => o10 = z) ?_ ?_
   ·intro v11 hv10; subst hv10
    have ⟨o11,hj11,h37⟩ := bdS h36
    refine cwJ (fun (z : (List ttC)) => St.of [] [(0,.arr u0 26 (z.map eCg))]) (fun z => o11 = z) ?_ ?_
    ·intro v12 hv11; subst hv11
     have he0 := ((sJ h37)).symm
     subst he0
     have he1 := ((sJ h2)).symm
     subst he1
     obtain rfl := zQ h0
     exact qv ⟨_,(wA2 [] [(0,.arr u0 26 (o11.map eCg))] rfl),.inr rfl,_,res0 rfl,rfl,rfl⟩
    refine cSR (.M rfl<|.A rfl<|.nil rfl) ?_
    refine cwB (qK (fun (z : (Int × (List ttC))) => St.of [(0,.arr 0 u0),(14,.d (eint o10)),(17,.d (eint z.1))] [(0,.arr u0 26 (z.2.map eCg))]) hj11 (wA1 rfl) ?_)
    intro v13 x7 hb1 hx7
    refine cwS (cSR (.M rfl<|.M rfl<|.B rfl (qT3 _ _) rfl<|.nil rfl) ?_)
    refine cwC hb1 rfl ?_ ?_
    ·intro hc10 h38
     refine cwK ?_
     refine cwS (cwB ?_)
     have ⟨x8,hx8,h40⟩ := bdS h38
     have hx8g := qB hx8
     have ⟨x9,hx9,h41⟩ := bdS h40
     have hx9g := qB hx9
     have ⟨x10,hx10,h42⟩ := bdS h41
     have hx10g := qB hx10
     refine cwRA mixed (by kernel_rfl) (.M rfl<|.M rfl<|.M rfl<|.M rfl<|.B rfl (qS3 _ _) rfl<|.M rfl<|.M rfl<|.B rfl (qS3 _ _) rfl<|.c (qU1 (enc := eCg) (xs := v13.2) rfl rfl .no rfl rfl rfl sl22 sz33 hx8g.1 hx8g.2)<|.c (q73 (enc := eCg) (xs := v13.2) (r := x8) [] rfl rfl .no rfl rfl hx8g.2 rfl ta33 rfl rfl)<|.M rfl<|.M rfl<|.c (qU1 (enc := eCg) (xs := v13.2) rfl rfl .no rfl rfl rfl sl22 sz33 hx9g.1 hx9g.2)<|.c (q73 (enc := eCg) (xs := v13.2) (r := x9) [] rfl rfl .no rfl rfl hx9g.2 rfl ta33 rfl rfl)<|.c (qU1 (enc := eCg) (xs := v13.2) rfl rfl .no rfl rfl rfl sl22 sz33 hx9g.1 hx9g.2)<|.c (q76 (enc := eCg) (xs := v13.2) (y := x8) (r := x9) rfl .no rfl rfl rfl hx9g.2 sz33 rfl (qn0 _))<|.c (qU1 (enc := eCg) (xs := (List.set v13.2 v13.1.toNat x8)) rfl rfl .no rfl rfl rfl sl22 sz33 hx10g.1 hx10g.2)<|.c (q76 (enc := eCg) (xs := (List.set v13.2 v13.1.toNat x8)) (y := x9) (r := x10) rfl .no rfl rfl rfl hx10g.2 sz33 rfl (qn0 _))<|.nil rfl) (by kernel_rfl) ?_
     refine cwR (.M rfl<|.B rfl (qS3 _ _) rfl<|.A rfl<|.nil rfl) ?_
     exact ⟨((IntKind.wrap .i64 (v13.1 - 1)),(List.set (List.set v13.2 v13.1.toNat x8) (IntKind.wrap .i64 (v13.1 - 1)).toNat x9)),(sJ h42),wA1 rfl⟩
    intro hc10 h39
    refine qR ?_
    exact ⟨v13.2,(hx7 _ (sJ h39)).symm,wA1 rfl⟩
   refine cwB (qK (fun (z : (Int × Int)) => St.of [(0,.arr 0 u0),(2,.d (eint a2)),(4,.fn 56 [] []),(14,.d (eint z.1)),(15,.d (eint z.2))] [(0,.arr u0 26 (a0.map eCg))]) hj10 (wA1 rfl) ?_)
   intro v14 x11 hb2 hx11
   refine cwS (cSR (.M rfl<|.M rfl<|.B rfl (qO0 _ _) rfl<|.nil rfl) ?_)
   refine cwC hb2 rfl ?_ ?_
   ·intro hc11 h43
    refine cwK ?_
    refine cwB (cSR (.M rfl<|.M rfl<|.B rfl (qR0 _ _) rfl<|.c (qX5 rfl rfl .no rfl un3 un82)<|.B rfl (b_shr _ _ (by decide)) rfl<|.c (qX5 rfl rfl .no rfl un82 un3)<|.A rfl<|.nil rfl) ?_)
    have ⟨x12,hx12,h45⟩ := bdS h43
    have hx12g := qB hx12
    have ⟨x13,hx13,h46⟩ := bdS h45
    have hx13g := qB hx13
    have ⟨x14,hx14,h47⟩ := bdS h46
    refine cwS (cwRA mixed (by kernel_rfl) (.M rfl<|.M rfl<|.M rfl<|.c (qU1 (enc := eCg) (xs := a0) rfl rfl .no rfl rfl rfl sl22 sz33 hx12g.1 hx12g.2)<|.c (q73 (enc := eCg) (xs := a0) (r := x12) [] rfl rfl .no rfl rfl hx12g.2 rfl ta33 rfl rfl)<|.M rfl<|.M rfl<|.c (qU1 (enc := eCg) (xs := a0) rfl rfl .no rfl rfl rfl sl22 sz33 hx13g.1 hx13g.2)<|.c (q73 (enc := eCg) (xs := a0) (r := x13) [] rfl rfl .no rfl rfl hx13g.2 rfl ta33 rfl rfl)<|.c (qm4 rfl rfl .no rfl Try.func56 rfl rfl (qo2 hx14) (.cons rfl .d (.cons rfl .d .nil)) ⟨tV,tV,tV⟩ (.inl rfl))<|.B rfl (qO0 _ _) rfl<|.T rfl<|.nil rfl) (by kernel_rfl) ?_)
    refine cwC h47 rfl ?_ ?_
    ·intro hc12 h48
     refine cwR (.M rfl<|.B rfl (qR0 _ _) rfl<|.A rfl<|.nil rfl) ?_
     exact ⟨((IntKind.wrap .i64 ((IntKind.wrap .i64 (Int.fdiv (IntKind.wrap .u64 (IntKind.wrap .i64 (v14.1 + v14.2))) (2 ^ 1))) + 1)),v14.2),(sJ h48),wA1 rfl⟩
    intro hc12 h49
    refine cwR (.M rfl<|.A rfl<|.nil rfl) ?_
    exact ⟨(v14.1,(IntKind.wrap .i64 (Int.fdiv (IntKind.wrap .u64 (IntKind.wrap .i64 (v14.1 + v14.2))) (2 ^ 1)))),(sJ h49),wA1 rfl⟩
   intro hc11 h44
   refine qR ?_
   exact ⟨v14.1,(hx11 _ (sJ h44)).symm,wA1 rfl⟩
  intro hc9 h35
  refine cwK ?_
  exact ⟨(),(sJ h35),wA1 rfl⟩
 refine cSR (.M rfl<|.M rfl<|.B rfl (qS3 _ _) rfl<|.B rfl (qh0 _ _) rfl<|.nil rfl) ?_
 refine cwC hj1 rfl ?_ ?_
 ·intro hc13 h50
  refine cSR (.M rfl<|.A rfl<|.nil rfl) ?_
  refine cSR (.M rfl<|.A rfl<|.nil rfl) ?_
  have ⟨o12,hj12,h52⟩ := bdS h50
  refine cwJ (fun (z : Int) => St.of [(0,.arr 0 u0),(1,.d (eint a1)),(10,.d (eint z))] [(0,.arr u0 26 (a0.map eCg))]) (fun z => o12 = z) ?_ ?_
  ·intro v15 hv12; subst hv12
   have ⟨o13,hj13,h53⟩ := bdS h52
   refine cwJ (fun (z : (List ttC)) => St.of [] [(0,.arr u0 26 (z.map eCg))]) (fun z => o13 = z) ?_ ?_
   ·intro v16 hv13; subst hv13
    have he2 := ((sJ h53)).symm
    subst he2
    have he3 := ((sJ h1)).symm
    subst he3
    obtain rfl := zQ h0
    exact qv ⟨_,(wA2 [] [(0,.arr u0 26 (o13.map eCg))] rfl),.inr rfl,_,res0 rfl,rfl,rfl⟩
   refine cSR (.M rfl<|.A rfl<|.nil rfl) ?_
   refine cwB (qK (fun (z : (Int × (List ttC))) => St.of [(0,.arr 0 u0),(10,.d (eint o12)),(13,.d (eint z.1))] [(0,.arr u0 26 (z.2.map eCg))]) hj13 (wA1 rfl) ?_)
   intro v17 x15 hb3 hx15
   refine cwS (cSR (.M rfl<|.M rfl<|.B rfl (qS3 _ _) rfl<|.B rfl (qO0 _ _) rfl<|.nil rfl) ?_)
   refine cwC hb3 rfl ?_ ?_
   ·intro hc14 h54
    refine cwK ?_
    refine cwS (cwB ?_)
    have ⟨x16,hx16,h56⟩ := bdS h54
    have hx16g := qB hx16
    have ⟨x17,hx17,h57⟩ := bdS h56
    have hx17g := qB hx17
    have ⟨x18,hx18,h58⟩ := bdS h57
    have hx18g := qB hx18
    refine cwRA mixed (by kernel_rfl) (.M rfl<|.M rfl<|.M rfl<|.M rfl<|.B rfl (qR0 _ _) rfl<|.M rfl<|.M rfl<|.B rfl (qR0 _ _) rfl<|.c (qU1 (enc := eCg) (xs := v17.2) rfl rfl .no rfl rfl rfl sl22 sz33 hx16g.1 hx16g.2)<|.c (q73 (enc := eCg) (xs := v17.2) (r := x16) [] rfl rfl .no rfl rfl hx16g.2 rfl ta33 rfl rfl)<|.M rfl<|.M rfl<|.c (qU1 (enc := eCg) (xs := v17.2) rfl rfl .no rfl rfl rfl sl22 sz33 hx17g.1 hx17g.2)<|.c (q73 (enc := eCg) (xs := v17.2) (r := x17) [] rfl rfl .no rfl rfl hx17g.2 rfl ta33 rfl rfl)<|.c (qU1 (enc := eCg) (xs := v17.2) rfl rfl .no rfl rfl rfl sl22 sz33 hx17g.1 hx17g.2)<|.c (q76 (enc := eCg) (xs := v17.2) (y := x16) (r := x17) rfl .no rfl rfl rfl hx17g.2 sz33 rfl (qn0 _))<|.c (qU1 (enc := eCg) (xs := (List.set v17.2 v17.1.toNat x16)) rfl rfl .no rfl rfl rfl sl22 sz33 hx18g.1 hx18g.2)<|.c (q76 (enc := eCg) (xs := (List.set v17.2 v17.1.toNat x16)) (y := x17) (r := x18) rfl .no rfl rfl rfl hx18g.2 sz33 rfl (qn0 _))<|.nil rfl) (by kernel_rfl) ?_
    refine cwR (.M rfl<|.B rfl (qR0 _ _) rfl<|.A rfl<|.nil rfl) ?_
    exact ⟨((IntKind.wrap .i64 (v17.1 + 1)),(List.set (List.set v17.2 v17.1.toNat x16) (IntKind.wrap .i64 (v17.1 + 1)).toNat x17)),(sJ h58),wA1 rfl⟩
   intro hc14 h55
   refine qR ?_
   exact ⟨v17.2,(hx15 _ (sJ h55)).symm,wA1 rfl⟩
  refine cwB (qK (fun (z : (Int × Int)) => St.of [(0,.arr 0 u0),(1,.d (eint a1)),(4,.fn 56 [] []),(10,.d (eint z.1)),(11,.d (eint z.2))] [(0,.arr u0 26 (a0.map eCg))]) hj12 (wA1 rfl) ?_)
  intro v18 x19 hb4 hx19
  refine cwS (cSR (.M rfl<|.M rfl<|.B rfl (qO0 _ _) rfl<|.nil rfl) ?_)
  refine cwC hb4 rfl ?_ ?_
  ·intro hc15 h59
   refine cwK ?_
   refine cwB (cSR (.M rfl<|.M rfl<|.B rfl (qR0 _ _) rfl<|.c (qX5 rfl rfl .no rfl un3 un82)<|.B rfl (b_shr _ _ (by decide)) rfl<|.c (qX5 rfl rfl .no rfl un82 un3)<|.A rfl<|.nil rfl) ?_)
   have ⟨x20,hx20,h61⟩ := bdS h59
   have hx20g := qB hx20
   have ⟨x21,hx21,h62⟩ := bdS h61
   have hx21g := qB hx21
   have ⟨x22,hx22,h63⟩ := bdS h62
   refine cwS (cwRA mixed (by kernel_rfl) (.M rfl<|.M rfl<|.M rfl<|.c (qU1 (enc := eCg) (xs := a0) rfl rfl .no rfl rfl rfl sl22 sz33 hx20g.1 hx20g.2)<|.c (q73 (enc := eCg) (xs := a0) (r := x20) [] rfl rfl .no rfl rfl hx20g.2 rfl ta33 rfl rfl)<|.M rfl<|.M rfl<|.c (qU1 (enc := eCg) (xs := a0) rfl rfl .no rfl rfl rfl sl22 sz33 hx21g.1 hx21g.2)<|.c (q73 (enc := eCg) (xs := a0) (r := x21) [] rfl rfl .no rfl rfl hx21g.2 rfl ta33 rfl rfl)<|.c (qm4 rfl rfl .no rfl Try.func56 rfl rfl (qo2 hx22) (.cons rfl .d (.cons rfl .d .nil)) ⟨tV,tV,tV⟩ (.inl rfl))<|.B rfl (qO0 _ _) rfl<|.nil rfl) (by kernel_rfl) ?_)
   refine cwC h63 rfl ?_ ?_
   ·intro hc16 h64
    refine cwR (.M rfl<|.B rfl (qR0 _ _) rfl<|.A rfl<|.nil rfl) ?_
    exact ⟨((IntKind.wrap .i64 ((IntKind.wrap .i64 (Int.fdiv (IntKind.wrap .u64 (IntKind.wrap .i64 (v18.1 + v18.2))) (2 ^ 1))) + 1)),v18.2),(sJ h64),wA1 rfl⟩
   intro hc16 h65
   refine cwR (.M rfl<|.A rfl<|.nil rfl) ?_
   exact ⟨(v18.1,(IntKind.wrap .i64 (Int.fdiv (IntKind.wrap .u64 (IntKind.wrap .i64 (v18.1 + v18.2))) (2 ^ 1)))),(sJ h65),wA1 rfl⟩
  intro hc15 h60
  refine qR ?_
  exact ⟨v18.1,(hx19 _ (sJ h60)).symm,wA1 rfl⟩
 intro hc13 h51
 refine cwK ?_
 exact ⟨(),(sJ h51),wA1 rfl⟩
theorem qZ1 : ∀ (n : Nat) {a0 : List ttC} {a1 : Int} {a2 : Int} {a3 : Int} {r : (List ttC)},q10 n a0 a1 a2 a3 = some r → ∀ (u0 : Nat),FO 89 [.arr 0 u0,.d (eint a1),.d (eint a2),.d (eint a3),.fn 56 [] []] 1 [(0,.arr u0 26 (List.map eCg a0))] (.tup []) [(0,.arr u0 26 (r.map eCg))]
 | 0,_,_,_,_,_,h => nomatch h
 | n + 1,_,_,_,_,_,h => qX2 (self := q10 n) (fun h => qZ1 n h) h
theorem qc2 {a0} {a1} {a2} {a3} {r} (h : qT a0 a1 a2 a3 = some r) : ∀ (u0 : Nat),FO 89 [.arr 0 u0,.d (eint a1),.d (eint a2),.d (eint a3),.fn 56 [] []] 1 [(0,.arr u0 26 (List.map eCg a0))] (.tup []) [(0,.arr u0 26 (r.map eCg))] := qZ1 40 h
theorem qh4 {a0} {a1} {r} (h : qG0 a0 a1 = some r) (u0 : Nat) : FO 75 [.arr 0 u0,.d (eint a1),.fn 56 [] []] 1 [(0,.arr u0 26 (List.map eCg a0))] (.tup []) [(0,.arr u0 26 (r.map eCg))] := by
 refine fnO Try.func75 rfl rfl (cwP ?_)
 unfold qG0 at h
 have ⟨o0,hj0,h0⟩ := bdS h
 refine cw_tail (fun (z : (List ttC)) => St.of [] [(0,.arr u0 26 (z.map eCg))]) (fun (z : (List ttC)) => o0 = z) ?_ ?_
 ·intro v0 hv0; subst hv0
  obtain rfl := zQ h0
  exact ⟨_,(wA2 [] [(0,.arr u0 26 (o0.map eCg))] rfl),.inl rfl,_,res0 rfl,rfl,rfl⟩
 refine cSR (.A rfl<|.nil rfl) ?_
 refine cSR (.M rfl<|.A rfl<|.A rfl<|.nil rfl) ?_
 have ⟨o1,hj1,h1⟩ := bdS hj0
 refine cwJ (fun (z : (Int × (List ttC))) => St.of [(0,.arr 0 u0),(1,.d (eint a1)),(2,.fn 56 [] []),(6,.d (eint 20)),(7,.d (eint z.1))] [(0,.arr u0 26 (z.2.map eCg))]) (fun z => o1 = z) ?_ ?_
 ·intro v1 hv1; subst hv1
  have ⟨x0,hx0,h2⟩ := bdS h1
  refine cSR (.M rfl<|.M rfl<|.M rfl<|.M rfl<|.c (qG (fun _ => 0) rfl rfl .no Try.func88 rfl rfl (qA1 hx0 u0) (.cons rfl (.a rfl) (.cons rfl .d (.cons rfl .d (.cons rfl .f0 .nil)))) (q20 rfl ⟨(by simp [AV.live,lk,Nat.beq]),tV,tV,(by simp [AV.live,AV.lives]),tV⟩ rfl trivial (by simp)) (.inl rfl))<|.nil rfl) ?_
  refine cwB (qK (fun (z : (Int × (List ttC))) => St.of [(0,.arr 0 u0),(1,.d (eint a1)),(2,.fn 56 [] []),(6,.d (eint z.1))] [(0,.arr u0 26 (z.2.map eCg))]) h2 (wA1 rfl) ?_)
  intro v2 x1 hb0 hx1
  refine cwS (cSR (.M rfl<|.M rfl<|.B rfl (qO0 _ _) rfl<|.nil rfl) ?_)
  refine cwC hb0 rfl ?_ ?_
  ·intro hc0 h3
   refine cwK ?_
   refine cwB (cSR (.M rfl<|.B rfl (b_mul _ _) rfl<|.A rfl<|.A rfl<|.nil rfl) ?_)
   have ⟨o2,hj2,h5⟩ := bdS h3
   refine cwJ (fun (z : (Int × (List ttC))) => St.of [(0,.arr 0 u0),(1,.d (eint a1)),(2,.fn 56 [] []),(6,.d (eint v2.1)),(7,.d (eint z.1))] [(0,.arr u0 26 (z.2.map eCg))]) (fun z => o2 = z) ?_ ?_
   ·intro v3 hv2; subst hv2
    have ⟨o3,hj3,h6⟩ := bdS h5
    refine cwJ (fun (z : (List ttC)) => St.of [(0,.arr 0 u0),(1,.d (eint a1)),(2,.fn 56 [] []),(6,.d (eint v2.1))] [(0,.arr u0 26 (z.map eCg))]) (fun z => o3 = z) ?_ ?_
    ·intro v4 hv3; subst hv3
     refine cwR (.M rfl<|.B rfl (b_mul _ _) rfl<|.A rfl<|.nil rfl) ?_
     exact ⟨((IntKind.wrap .i64 (v2.1 * 2)),o3),(sJ h6),wA1 rfl⟩
    refine cSR (.M rfl<|.M rfl<|.B rfl (qR0 _ _) rfl<|.A rfl<|.nil rfl) ?_
    refine cSR (.M rfl<|.M rfl<|.B rfl (qO0 _ _) rfl<|.nil rfl) ?_
    refine cwC hj3 rfl ?_ ?_
    ·intro hc1 h7
     have ⟨x2,hx2,h9⟩ := bdS h7
     refine cwR (.M rfl<|.M rfl<|.M rfl<|.M rfl<|.M rfl<|.c (qG (fun _ => 0) rfl rfl .no Try.func89 rfl rfl (qc2 hx2 u0) (.cons rfl (.a rfl) (.cons rfl .d (.cons rfl .d (.cons rfl .d (.cons rfl .f0 .nil))))) (q20 rfl ⟨(by simp [AV.live,lk,Nat.beq]),tV,tV,tV,(by simp [AV.live,AV.lives]),tV⟩ rfl trivial (by simp)) (.inl rfl))<|.nil rfl) ?_
     exact ⟨x2,(sJ h9),wA1 rfl⟩
    intro hc1 h8
    refine cwK ?_
    exact ⟨o2.2,(sJ h8),wA1 rfl⟩
   refine cwB (qK (fun (z : (Int × Int × (List ttC))) => St.of [(0,.arr 0 u0),(1,.d (eint a1)),(2,.fn 56 [] []),(6,.d (eint v2.1)),(7,.d (eint z.1)),(8,.d (eint z.2.1))] [(0,.arr u0 26 (z.2.2.map eCg))]) hj2 (wA1 rfl) ?_)
   intro v5 x3 hb1 hx3
   refine cwS (cSR (.M rfl<|.M rfl<|.B rfl (b_leq _ _) rfl<|.nil rfl) ?_)
   refine cwC hb1 rfl ?_ ?_
   ·intro hc2 h10
    refine cwK (cwB ?_)
    have ⟨x4,hx4,h12⟩ := bdS h10
    refine cSR (.M rfl<|.M rfl<|.M rfl<|.M rfl<|.B rfl (qR0 _ _) rfl<|.M rfl<|.M rfl<|.c (qG (fun _ => 0) rfl rfl .no Try.func89 rfl rfl (qc2 hx4 u0) (.cons rfl (.a rfl) (.cons rfl .d (.cons rfl .d (.cons rfl .d (.cons rfl .f0 .nil))))) (q20 rfl ⟨(by simp [AV.live,lk,Nat.beq]),tV,tV,tV,(by simp [AV.live,AV.lives]),tV⟩ rfl trivial (by simp)) (.inl rfl))<|.nil rfl) ?_
    refine cSR (.M rfl<|.A rfl<|.nil rfl) ?_
    refine cwR (.M rfl<|.M rfl<|.B rfl (b_mul _ _) rfl<|.B rfl (qR0 _ _) rfl<|.A rfl<|.nil rfl) ?_
    exact ⟨(v5.2.1,(IntKind.wrap .i64 (v5.2.1 + (IntKind.wrap .i64 (2 * v2.1)))),x4),(sJ h12),wA1 rfl⟩
   intro hc2 h11
   refine qR ?_
   exact ⟨(v5.1,v5.2.2),(hx3 _ (sJ h11)).symm,wA1 rfl⟩
  intro hc0 h4
  refine qR ?_
  exact ⟨v2.2,(hx1 _ (sJ h4)).symm,wA1 rfl⟩
 refine cwB (qK (fun (z : (Int × Int × (List ttC))) => St.of [(0,.arr 0 u0),(1,.d (eint a1)),(2,.fn 56 [] []),(6,.d (eint 20)),(7,.d (eint z.1)),(8,.d (eint z.2.1))] [(0,.arr u0 26 (z.2.2.map eCg))]) hj1 (wA1 rfl) ?_)
 intro v6 x5 hb2 hx5
 refine cwS (cSR (.M rfl<|.M rfl<|.B rfl (b_leq _ _) rfl<|.nil rfl) ?_)
 refine cwC hb2 rfl ?_ ?_
 ·intro hc3 h13
  refine cwK (cwB ?_)
  have ⟨x6,hx6,h15⟩ := bdS h13
  refine cSR (.M rfl<|.M rfl<|.M rfl<|.M rfl<|.c (qG (fun _ => 0) rfl rfl .no Try.func88 rfl rfl (qA1 hx6 u0) (.cons rfl (.a rfl) (.cons rfl .d (.cons rfl .d (.cons rfl .f0 .nil)))) (q20 rfl ⟨(by simp [AV.live,lk,Nat.beq]),tV,tV,(by simp [AV.live,AV.lives]),tV⟩ rfl trivial (by simp)) (.inl rfl))<|.nil rfl) ?_
  refine cSR (.M rfl<|.A rfl<|.nil rfl) ?_
  refine cwR (.M rfl<|.M rfl<|.B rfl (qR0 _ _) rfl<|.A rfl<|.nil rfl) ?_
  exact ⟨(v6.2.1,(IntKind.wrap .i64 (v6.2.1 + 20)),x6),(sJ h15),wA1 rfl⟩
 intro hc3 h14
 refine qR ?_
 exact ⟨(v6.1,v6.2.2),(hx5 _ (sJ h14)).symm,wA1 rfl⟩
theorem q34 {a0} {r} (h : qC0 a0 = some r) (u0 : Nat) : FO 55 [.arr 0 u0,.fn 56 [] []] 1 [(0,.arr u0 26 (List.map eCg a0))] (.tup []) [(0,.arr u0 26 (r.map eCg))] := by
 refine fnO Try.func55 rfl rfl (cwP ?_)
 unfold qC0 at h
 have ⟨o0,hj0,h0⟩ := bdS h
 refine cw_tail (fun (z : (List ttC)) => St.of [] [(0,.arr u0 26 (z.map eCg))]) (fun (z : (List ttC)) => o0 = z) ?_ ?_
 ·intro v0 hv0; subst hv0
  obtain rfl := zQ h0
  exact ⟨_,(wA2 [] [(0,.arr u0 26 (o0.map eCg))] rfl),.inl rfl,_,res0 rfl,rfl,rfl⟩
 have ⟨x0,hx0,h1⟩ := bdS hj0
 refine cwR (.M rfl<|.M rfl<|.c (q56 (enc := eCg) (xs := a0) rfl rfl .no rfl rfl sl22)<|.M rfl<|.c (qG (fun _ => 0) rfl rfl .no Try.func75 rfl rfl (qh4 hx0 u0) (.cons rfl (.a rfl) (.cons rfl .d (.cons rfl .f0 .nil))) (q20 rfl ⟨(by simp [AV.live,lk,Nat.beq]),tV,(by simp [AV.live,AV.lives]),tV⟩ rfl trivial (by simp)) (.inl rfl))<|.nil rfl) ?_
 exact ⟨x0,(sJ h1),wA1 rfl⟩
theorem qk5 {a0} {r} (h : qa2 a0 = some r) : FO 35 [.d (eSC a0)] 0 [] (.d (eSC r)) [] := by
 refine fnO Try.func35 rfl rfl (cwP ?_)
 unfold qa2 at h
 refine cSR (.A rfl<|.nil rfl) ?_
 have ⟨x0,hx0,h0⟩ := bdS h
 refine cSR (.M rfl<|.c (qW5 0 rfl rfl .no Try.func54 rfl rfl (slices_Clone54_ok hx0) (.cons rfl .d .nil) ⟨tV,tV⟩ rfl (.inl rfl))<|.A rfl<|.nil rfl) ?_
 have ⟨x1,hx1,h1⟩ := bdS h0
 refine cSR (.M rfl<|.c (qG (fun _ => 0) rfl rfl .no Try.func55 rfl rfl (q34 hx1 0) (.cons rfl (.a rfl) (.cons rfl .f0 .nil)) (q20 rfl ⟨(by simp [AV.live,lk,Nat.beq]),(by simp [AV.live,AV.lives]),tV⟩ rfl trivial (by simp)) (.inl rfl))<|.nil rfl) ?_
 refine cSR (.A rfl<|.nil rfl) ?_
 have ⟨o0,hj0,h2⟩ := bdS h1
 refine cwJ (fun (z : (List ttC)) => St.of [(4,.arr 2 0)] [(2,.arr 0 26 (z.map eCg))]) (fun z => o0 = z) ?_ ?_
 ·intro v0 hv0; subst hv0
  refine cSR (.M rfl<|.A rfl<|.nil rfl) ?_
  obtain rfl := zQ h2
  exact rt1 rfl rfl rfl
 refine cSR (.M rfl<|.c (q56 (enc := eCg) (xs := x1) rfl rfl .no rfl rfl sl22)<|.M rfl<|.nil rfl) ?_
 refine cwB (qK (fun (z : (Int × (List ttC))) => St.of [(3,.arr 0 0),(4,.arr 2 0),(11,.arr 0 0),(12,.d (eint (x1.length : Int))),(13,.d (eint z.1))] [(0,.arr 0 26 (x1.map eCg)),(2,.arr 0 26 (z.2.map eCg))]) hj0 (.w (wkF ⟨⟨_,rfl,.arr rfl rfl⟩,⟨_,rfl,.nila rfl rfl⟩,⟨_,rfl,.arr rfl rfl⟩,wD rfl,wD rfl,tV⟩ ⟨.arr rfl rfl,.nil rfl,tV⟩ qM)) ?_)
 intro v1 x2 hb0 hx2
 refine cSR (.B rfl (qO0 _ _) rfl<|.nil rfl) ?_
 refine cwS (cwC hb0 rfl ?_ ?_)
 ·intro hc0 h3
  refine cwK ?_
  have ⟨o1,hj1,h5⟩ := bdS h3
  refine cwJ (fun (z : (List ttC)) => St.of [(3,.arr 0 0),(4,.arr 2 0),(11,.arr 0 0),(12,.d (eint (x1.length : Int))),(13,.d (eint v1.1))] [(0,.arr 0 26 (x1.map eCg)),(2,.arr 0 26 (z.map eCg))]) (fun z => o1 = z) ?_ ?_
  ·intro v2 hv1; subst hv1
   refine cwR (.B rfl (qR0 _ _) rfl<|.M rfl<|.nil rfl) ?_
   exact ⟨((IntKind.wrap .i64 (v1.1 + 1)),o1),(sJ h5),wA1 rfl⟩
  refine cwB ?_
  have ⟨x3,hx3,h6⟩ := bdS hj1
  have hx3g := qB hx3
  refine cSR (.M rfl<|.c (qU1 (enc := eCg) (xs := x1) rfl rfl .no rfl rfl rfl sl22 sz33 hx3g.1 hx3g.2)<|.c (q73 (enc := eCg) (xs := x1) (r := x3) [] rfl rfl .no rfl rfl hx3g.2 rfl ta33 rfl rfl)<|.c (qb0 1 rfl rfl .no ze33 rfl)<|.A rfl<|.S [] rfl sz33 rfl<|.nil rfl) ?_
  have ⟨o2,hj2,h7⟩ := bdS h6
  refine cwJ (fun (z : Bool) => St.of [(3,.arr 0 0),(4,.arr 2 0),(6,.ptr 1 0),(11,.arr 0 0),(12,.d (eint (x1.length : Int))),(13,.d (eint v1.1)),(33,.d (qW z))] [(0,.arr 0 26 (x1.map eCg)),(1,.box (.d (eCg x3))),(2,.arr 0 26 (v1.2.map eCg))]) (fun z => o2 = z) ?_ ?_
  ·intro v3 hv2; subst hv2
   refine cwC h7 rfl ?_ ?_
   ·intro hc1 h8
    have ⟨x4,hx4,h10⟩ := bdS h8
    have hx4g := qV hx4
    refine cwR (.M rfl<|.L [] rfl ta33 rfl<|.c (ql4 (rows := ([x3] : List ttC).map eCg) rfl rfl .no (.cons rfl .nil) rfl sl22 sz33 ze33 rfl (q51 qn0) (by decide))<|.c (q02 (enc := eCg) (xs := v1.2) (ys := [x3]) rfl rfl .no rfl rfl rfl qn0 sl22 sl22 sz33 by33 ze33 rfl (by decide) hx4g)<|.A rfl<|.nil rfl) ?_
    exact ⟨(v1.2 ++ [x3]),(sJ h10),wA1 rfl⟩
   intro hc1 h9
   refine cwK ?_
   exact ⟨v1.2,(sJ h9),wA1 rfl⟩
  rcases cdS hj2 with ⟨hc2,h11⟩ | ⟨hc2,h12⟩
  ·skip
   refine cwRA mixed (by kernel_rfl) (.M rfl<|.B rfl (qR0 _ _) rfl<|.M rfl<|.c (q56 (enc := eCg) (xs := x1) rfl rfl .no rfl rfl sl22)<|.B rfl (qh0 _ _) rfl<|.M rfl<|.G rfl rfl hc2<|.G rfl rfl hc2<|.G rfl rfl hc2<|.G rfl rfl hc2<|.G rfl rfl hc2<|.G rfl rfl hc2<|.G rfl rfl hc2<|.G rfl rfl hc2<|.G rfl rfl hc2<|.I rfl hc2<|.nil rfl) (by kernel_rfl) ?_
   exact ⟨true,(sJ h11),wA1 rfl⟩
  have ⟨x5,hx5,h13⟩ := bdS h12
  have hx5g := qB hx5
  refine cwRA mixed (by kernel_rfl) (.M rfl<|.B rfl (qR0 _ _) rfl<|.M rfl<|.c (q56 (enc := eCg) (xs := x1) rfl rfl .no rfl rfl sl22)<|.B rfl (qh0 _ _) rfl<|.M rfl<|.c (o_mv rfl rfl (.yes rfl rfl hc2) rfl)<|.c (o_mv rfl rfl (.yes rfl rfl hc2) rfl)<|.c (qn rfl rfl (.yes rfl rfl hc2) rfl rfl (qR0 _ _) rfl)<|.c (qU1 (enc := eCg) (xs := x1) rfl rfl (.yes rfl rfl hc2) rfl rfl rfl sl22 sz33 hx5g.1 hx5g.2)<|.c (o_fldE rfl rfl (.yes rfl rfl hc2) rfl rfl qQ4 (by decide))<|.c (q73 (enc := eCg) (xs := x1) (r := x5) [0] rfl rfl (.yes rfl rfl hc2) rfl rfl hx5g.2 rfl ta31 rfl rfl)<|.c (qu rfl rfl (.yes rfl rfl hc2) rfl qQ4 (by decide))<|.c (qC [0] rfl rfl (.yes rfl rfl hc2) rfl rfl rfl ta31 rfl rfl)<|.c (o_ne rfl rfl (.yes rfl rfl hc2) rfl rfl rfl rfl eg31 (.bs ar31 un5 sz5))<|.J rfl hc2<|.nil rfl) (by kernel_rfl) ?_
  exact ⟨(!(decide (x5.1 = x3.1))),(sJ h13),wA1 rfl⟩
 intro hc0 h4
 refine qR ?_
 exact ⟨v1.2,(hx2 _ (sJ h4)).symm,wA1 rfl⟩
end
end Go.Val
