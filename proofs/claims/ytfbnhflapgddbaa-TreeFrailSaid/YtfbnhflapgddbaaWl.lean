/- Walks of the program's functions,printed. -/
import Derived.Test.YtfbnhflapgddbaaWh
set_option linter.all false
set_option maxRecDepth 100000
namespace Go.Val
open Go.RowKit Go.Proofs
section
variable [NoDrw]
noncomputable def qY (a0 : (Int × Int)) (b1 : ttM) : Option (Bool × (Int × Int) × ttM) := some ((decide ((IntKind.wrap .i64 (a0.2 + 1)) = a0.1)),(a0.1,(IntKind.wrap .i64 (a0.2 + 1))),b1)
noncomputable def qs0 (a0 : (Int × Int)) (a1 : Int) (b1 : ttM) : Option (ttN × Int × (Int × Int) × ttM) := (qY a0 b1).bind fun x0 => cond x0.1 (some ((0,[],[]),11,x0.2.1,x0.2.2)) ((qx x0.2.2 a1).bind fun x1 => some (x1.1,x1.2.1,(x0.2.1.1,x0.2.1.2),x1.2.2))
noncomputable def qS0 (a0 : (Int × Int)) (a1 : ttN) (b1 : ttM) : Option (Int × Int × (Int × Int) × ttM) := (qY a0 b1).bind fun x0 => cond x0.1 (some (0,11,x0.2.1,x0.2.2)) ((qi0 x0.2.2 a1).bind fun x1 => some (x1.1,x1.2.1,(x0.2.1.1,x0.2.1.2),x1.2.2))
noncomputable def qq0 (a0 : (Int × Int)) (a1 : Int) (b1 : ttM) : Option (Int × (Int × Int) × ttM) := (qY a0 b1).bind fun x0 => cond x0.1 (some (11,x0.2.1,x0.2.2)) ((q30 x0.2.2 a1).bind fun x1 => some (x1.1,(x0.2.1.1,x0.2.1.2),x1.2))
noncomputable def q71 (a0 : (Int × Int)) (a1 : Int) (b1 : ttM) : Option (Bool × Int × (Int × Int) × ttM) := (q80 b1 a1).bind fun x0 => some (x0.1,x0.2.1,(a0.1,a0.2),x0.2.2)
noncomputable def qw0 (a0 : (List Int)) (a1 : Int) (b1 : (Int × Int)) (b2 : ttM) : Option ((Option Fr) × Int × (List Int) × (Int × Int) × ttM) := (qs0 b1 a1 b2).bind fun x0 => cond (decide (x0.2.1 ≠ 0)) (some ((none : Option Fr),x0.2.1,a0,x0.2.2.1,x0.2.2.2)) ((((qN (V := (Int × (Int × (List ttR) × (List ttP)))) (O := (Int × (List ttR) × (List ttP))) (fun v0 =>
    cond (decide (v0.1 < (x0.1.2.2.length : Int))) ((gx x0.1.2.2 v0.1).bind fun x1 => (fits (v0.2.2.2.length + ([(x1.1,x1.2,(none : Option Fr))]).length) 40).bind fun _ => some (.inl ((IntKind.wrap .i64 (v0.1 + 1)),(v0.2.1,v0.2.2.1,(v0.2.2.2 ++ [(x1.1,x1.2,(none : Option Fr))]))))) (some (.inr v0.2))) (0,(x0.1.1,x0.1.2.1,[]))
  ) : Option (Int × (List ttR) × (List ttP)))).bind fun o0 => some ((some (frMk (o0.1,o0.2.1,o0.2.2))),0,a0,x0.2.2.1,x0.2.2.2))
noncomputable def q21 (self : (List Int) → (List ttP) → (Int × Int) → ttM → Option ((List ttP) × Int × (List Int) × (Int × Int) × ttM)) (a0 : (List Int)) (a1 : ttP) (a2 : ttP) (b1 : (Int × Int)) (b2 : ttM) : Option ((List ttP) × Int × (List Int) × (Int × Int) × ttM) := (((
  qN (V := (Int × (List Int) × (Int × Int) × ttM × ((Option Fr) × (Option Fr)))) (O := (((List Int) × (Int × Int) × ttM × ((Option Fr) × (Option Fr))) ⊕ ((List ttP) × Int × (List Int) × (Int × Int) × ttM))) (fun v0 => cond (decide (v0.1 < (([a1,a2]).length : Int))) (((((gx ([a1,a2]) v0.1).bind fun x0 => ((((ck (decide (0 ≤ v0.1 ∧ v0.1 < 2))).bind fun _ => cond (decide (v0.1 = 0)) (
       some (x0.2.2,v0.2.2.2.2.2)) (some (v0.2.2.2.2.1,x0.2.2))) : Option ((Option Fr) × (Option Fr)))).bind fun o0 => cond (Option.isNone x0.2.2) ((qw0 v0.2.1 x0.2.1 v0.2.2.1 v0.2.2.2.1).bind fun x1 => cond (decide (x1.2.1 ≠ 0)) (some (.inr ([],x1.2.1,x1.2.2.1,x1.2.2.2.1,x1.2.2.2.2))) ((ck (decide (0 ≤ v0.1 ∧ v0.1 < 2))).bind fun _ => cond (decide (v0.1 = 0)) (
        some (.inl (x1.2.2.1,x1.2.2.2.1,x1.2.2.2.2,(x1.1,o0.2)))) (some (.inl (x1.2.2.1,x1.2.2.2.1,x1.2.2.2.2,(o0.1,x1.1)))))) (some (.inl (v0.2.1,v0.2.2.1,v0.2.2.2.1,o0)))) : Option (((List Int) × (Int × Int) × ttM × ((Option Fr) × (Option Fr))) ⊕ ((List ttP) × Int × (List Int) × (Int × Int) × ttM)))).bind fun o1 =>
    Sum.elim (fun (v1 : ((List Int) × (Int × Int) × ttM × ((Option Fr) × (Option Fr)))) => some (.inl ((IntKind.wrap .i64 (v0.1 + 1)),v1.1,v1.2.1,v1.2.2.1,v1.2.2.2))) (fun w0 => some (.inr (.inr w0))) o1) (some (.inr (.inl (v0.2.1,v0.2.2.1,v0.2.2.2.1,v0.2.2.2.2))))) (0,a0,b1,b2,((none : Option Fr),(none : Option Fr)))
 ) : Option (((List Int) × (Int × Int) × ttM × ((Option Fr) × (Option Fr))) ⊕ ((List ttP) × Int × (List Int) × (Int × Int) × ttM)))).bind fun o2 => Sum.elim (fun (v2 : ((List Int) × (Int × Int) × ttM × ((Option Fr) × (Option Fr)))) => (frOf v2.2.2.2.1).bind fun x2 => cond (decide (x2.1 = 0)) ((frOf v2.2.2.2.2).bind fun x3 => (qc1 ([x2.2.1,x3.2.1])).bind fun x4 =>
   (qy0 x4).bind fun x5 => some (x5,0,v2.1,v2.2.1,v2.2.2.1)) ((frOf v2.2.2.2.2).bind fun x6 => (qb1 ([x2.2.2,x6.2.2])).bind fun x7 => (self v2.1 x7 v2.2.1 v2.2.2.1).bind fun x8 => (qM0 x2.1 x8.1).bind fun x9 => some (x9,x8.2.1,x8.2.2.1,x8.2.2.2.1,x8.2.2.2.2))) (fun w1 => some w1) o2
noncomputable def qv0 (self : (List Int) → (List ttP) → (Int × Int) → ttM → Option ((List ttP) × Int × (List Int) × (Int × Int) × ttM)) (a0 : (List Int)) (a1 : List ttP) (b1 : (Int × Int)) (b2 : ttM) : Option ((List ttP) × Int × (List Int) × (Int × Int) × ttM) := (((
  qN (V := ((List ttP) × Int × (List Int) × (Int × Int) × ttM)) (O := (((List ttP) × (List Int) × (Int × Int) × ttM) ⊕ ((List ttP) × Int × (List Int) × (Int × Int) × ttM))) (fun v0 => (((cond (decide (v0.2.1 < (v0.1.length : Int))) (some (decide ((v0.1.length : Int) > 1))) (some false)) : Option Bool)).bind fun o0 => cond o0 (((((gx v0.1 v0.2.1).bind fun x0 => cond (Option.isNone x0.2.2) (
      some true) ((qV0 x0.2.2).bind fun x1 => some (!x1))) : Option Bool)).bind fun o1 => cond o1 (some (.inl (v0.1,(IntKind.wrap .i64 (v0.2.1 + 1)),v0.2.2.1,v0.2.2.2.1,v0.2.2.2.2))) ((gx v0.1 (max (IntKind.wrap .i64 (v0.2.1 - 1)) 0)).bind fun x2 => (gx v0.1 (IntKind.wrap .i64 ((max (IntKind.wrap .i64 (v0.2.1 - 1)) 0) + 1))).bind fun x3 =>
     (q21 self v0.2.2.1 x2 x3 v0.2.2.2.1 v0.2.2.2.2).bind fun x4 => cond (decide (x4.2.1 ≠ 0)) (some (.inr (.inr ([],x4.2.1,x4.2.2.1,x4.2.2.2.1,x4.2.2.2.2)))) ((qW0 v0.1).bind fun x5 => (q64 x5 (max (IntKind.wrap .i64 (v0.2.1 - 1)) 0) (IntKind.wrap .i64 ((max (IntKind.wrap .i64 (v0.2.1 - 1)) 0) + 2)) x4.1).bind fun x6 =>
      some (.inl (x6,(max (IntKind.wrap .i64 (v0.2.1 - 1)) 0),x4.2.2.1,x4.2.2.2.1,x4.2.2.2.2))))) (some (.inr (.inl (v0.1,v0.2.2.1,v0.2.2.2.1,v0.2.2.2.2))))) (a1,0,a0,b1,b2)) : Option (((List ttP) × (List Int) × (Int × Int) × ttM) ⊕ ((List ttP) × Int × (List Int) × (Int × Int) × ttM)))).bind fun o2 => Sum.elim (fun (v1 : ((List ttP) × (List Int) × (Int × Int) × ttM)) =>
  some (v1.1,0,v1.2.1,v1.2.2.1,v1.2.2.2)) (fun w0 => some w0) o2
noncomputable def qZ : Nat → (List Int) → (List ttP) → (Int × Int) → ttM → Option ((List ttP) × Int × (List Int) × (Int × Int) × ttM) | 0 => fun _ _ _ _ => none | n + 1 => qv0 (qZ n)
noncomputable def q72 (a0 : (List Int)) (a1 : List ttP) (b1 : (Int × Int)) (b2 : ttM) : Option ((List ttP) × Int × (List Int) × (Int × Int) × ttM) := qZ 40 a0 a1 b1 b2
noncomputable def qE0 (self : (List Int) → Int → (List ttC) → (Int × Int) → ttM → Option ((List ttP) × Int × (List Int) × (Int × Int) × ttM)) (a0 : (List Int)) (a1 : Int) (a2 : List ttC) (b1 : (Int × Int)) (b2 : ttM) : Option ((List ttP) × Int × (List Int) × (Int × Int) × ttM) := (qw0 a0 a1 b1 b2).bind fun x0 => cond (decide (x0.2.1 ≠ 0)) (
  some ([],x0.2.1,x0.2.2.1,x0.2.2.2.1,x0.2.2.2.2)) ((frOf x0.1).bind fun x1 => cond (decide (x1.1 = 0)) ((q11 x1.2.1 a2).bind fun x2 => (qy0 x2).bind fun x3 => some (x3,0,x0.2.2.1,x0.2.2.2.1,x0.2.2.2.2)) ((((
    qN (V := ((List ttC) × Int × (List Int) × (Int × Int) × ttM × (List ttP))) (O := (((List Int) × (Int × Int) × ttM × (List ttP)) ⊕ ((List ttP) × Int × (List Int) × (Int × Int) × ttM))) (fun v0 => cond (decide (v0.2.1 < (x1.2.2.length : Int))) (((((gx x1.2.2 v0.2.1).bind fun x4 => (((cond (decide ((IntKind.wrap .i64 (v0.2.1 + 1)) < (x1.2.2.length : Int))) (
         (gx x1.2.2 (IntKind.wrap .i64 (v0.2.1 + 1))).bind fun x5 => (qQ v0.1 x5.1).bind fun x6 => some x6.1) (some (v0.1.length : Int))) : Option Int)).bind fun o0 => (cutB 0 o0 v0.1.length).bind fun _ => (cutB o0 (v0.1.length : Int) v0.1.length).bind fun _ => cond (decide (((qR1 v0.1 0 o0).length : Int) = 0)) (
        (fits (v0.2.2.2.2.2.length + ([x4]).length) 40).bind fun _ => some (.inl ((qR1 v0.1 o0 (v0.1.length : Int)),v0.2.2.1,v0.2.2.2.1,v0.2.2.2.2.1,(v0.2.2.2.2.2 ++ [x4])))) ((self v0.2.2.1 x4.2.1 (qR1 v0.1 0 o0) v0.2.2.2.1 v0.2.2.2.2.1).bind fun x7 => cond (decide (x7.2.1 ≠ 0)) (some (.inr ([],x7.2.1,x7.2.2.1,x7.2.2.2.1,x7.2.2.2.2))) (
         (fits (v0.2.2.2.2.2.length + x7.1.length) 40).bind fun _ => some (.inl ((qR1 v0.1 o0 (v0.1.length : Int)),x7.2.2.1,x7.2.2.2.1,x7.2.2.2.2,(v0.2.2.2.2.2 ++ x7.1)))))) : Option (((List ttC) × (List Int) × (Int × Int) × ttM × (List ttP)) ⊕ ((List ttP) × Int × (List Int) × (Int × Int) × ttM)))).bind fun o1 =>
      Sum.elim (fun (v1 : ((List ttC) × (List Int) × (Int × Int) × ttM × (List ttP))) => some (.inl (v1.1,(IntKind.wrap .i64 (v0.2.1 + 1)),v1.2.1,v1.2.2.1,v1.2.2.2.1,v1.2.2.2.2))) (fun w0 => some (.inr (.inr w0))) o1) (some (.inr (.inl (v0.2.2.1,v0.2.2.2.1,v0.2.2.2.2.1,v0.2.2.2.2.2))))) (a2,0,x0.2.2.1,x0.2.2.2.1,x0.2.2.2.2,[])
   ) : Option (((List Int) × (Int × Int) × ttM × (List ttP)) ⊕ ((List ttP) × Int × (List Int) × (Int × Int) × ttM)))).bind fun o2 => Sum.elim (fun (v2 : ((List Int) × (Int × Int) × ttM × (List ttP))) => (q72 v2.1 v2.2.2.2 v2.2.1 v2.2.2.1).bind fun x8 => (qM0 x1.1 x8.1).bind fun x9 => some (x9,x8.2.1,x8.2.2.1,x8.2.2.2.1,x8.2.2.2.2)) (fun w1 => some w1) o2))
noncomputable def qF0 : Nat → (List Int) → Int → (List ttC) → (Int × Int) → ttM → Option ((List ttP) × Int × (List Int) × (Int × Int) × ttM) | 0 => fun _ _ _ _ _ => none | n + 1 => qE0 (qF0 n)
noncomputable def qr1 (a0 : (List Int)) (a1 : Int) (a2 : List ttC) (b1 : (Int × Int)) (b2 : ttM) : Option ((List ttP) × Int × (List Int) × (Int × Int) × ttM) := qF0 16 a0 a1 a2 b1 b2
noncomputable def qB0 (self : (List Int) → ttP → (Int × Int) → ttM → Option (Int × Int × (List Int) × (Int × Int) × ttM)) (a0 : (List Int)) (a1 : ttP) (b1 : (Int × Int)) (b2 : ttM) : Option (Int × Int × (List Int) × (Int × Int) × ttM) := cond (Option.isNone a1.2.2) ((qq0 b1 a1.2.1 b2).bind fun x0 => (((cond (decide (x0.1 = 0)) (
    (fits (a0.length + ([a1.2.1]).length) 8).bind fun _ => some (a0 ++ [a1.2.1])) (some a0)) : Option (List Int))).bind fun o0 => some (a1.2.1,x0.1,o0,x0.2.1,x0.2.2)) ((frOf a1.2.2).bind fun x1 => (((qN (V := (Int × (List Int) × (Int × Int) × ttM × ttN)) (O := (((List Int) × (Int × Int) × ttM × ttN) ⊕ (Int × Int × (List Int) × (Int × Int) × ttM))) (fun v0 =>
    cond (decide (v0.1 < (x1.2.2.length : Int))) ((gx x1.2.2 v0.1).bind fun x2 => (self v0.2.1 x2 v0.2.2.1 v0.2.2.2.1).bind fun x3 => cond (decide (x3.2.1 ≠ 0)) (some (.inr (.inr (0,x3.2.1,x3.2.2.1,x3.2.2.2.1,x3.2.2.2.2)))) ((fits (v0.2.2.2.2.2.2.length + ([(x2.1,x3.1)]).length) 32).bind fun _ =>
      some (.inl ((IntKind.wrap .i64 (v0.1 + 1)),x3.2.2.1,x3.2.2.2.1,x3.2.2.2.2,(v0.2.2.2.2.1,v0.2.2.2.2.2.1,(v0.2.2.2.2.2.2 ++ [(x2.1,x3.1)])))))) (some (.inr (.inl (v0.2.1,v0.2.2.1,v0.2.2.2.1,v0.2.2.2.2))))) (0,a0,b1,b2,(x1.1,x1.2.1,[]))) : Option (((List Int) × (Int × Int) × ttM × ttN) ⊕ (Int × Int × (List Int) × (Int × Int) × ttM)))).bind fun o1 =>
  Sum.elim (fun (v1 : ((List Int) × (Int × Int) × ttM × ttN)) => (qS0 v1.2.1 (v1.2.2.2.1,v1.2.2.2.2.1,v1.2.2.2.2.2) v1.2.2.1).bind fun x4 => (((cond (decide (x4.2.1 = 0)) ((fits (v1.1.length + ([x4.1]).length) 8).bind fun _ => some (v1.1 ++ [x4.1])) (some v1.1)) : Option (List Int))).bind fun o2 => some (x4.1,x4.2.1,o2,x4.2.2.1,x4.2.2.2)) (fun w0 => some w0) o1)
noncomputable def qe0 : Nat → (List Int) → ttP → (Int × Int) → ttM → Option (Int × Int × (List Int) × (Int × Int) × ttM) | 0 => fun _ _ _ _ => none | n + 1 => qB0 (qe0 n)
noncomputable def qF1 (a0 : (List Int)) (a1 : ttP) (b1 : (Int × Int)) (b2 : ttM) : Option (Int × Int × (List Int) × (Int × Int) × ttM) := qe0 16 a0 a1 b1 b2
noncomputable def qc3 (a0 : (Int × Int)) (a1 : Int) (b1 : ttM) : Option (Int × (Int × Int) × ttM) := cond (decide (a1 = 0)) (some (0,a0,b1)) ((qq0 a0 a1 b1).bind fun x0 => some (x0.1,x0.2.1,x0.2.2))
theorem qQ1 {a0} {b1} {r} (h : qY a0 b1 = some r) : FnOk Try.prog 132 [.ptr 0 0] 2 (lk [(0,.own (qd 1 a0)),(1,.own (qe b1))]) (fun rr oo => rr = .d (qW r.1) ∧ oo = lk [(0,.own (qd 1 r.2.1)),(1,.own (qe r.2.2))]) := by
 refine fnO Try.func132 rfl rfl (cwP ?_)
 unfold qY at h
 refine cSR (.A rfl<|.nil rfl) ?_
 refine cwL (lOp (o := 0) (y := .st [.ptr 1 0,.d (eint a0.1),.d (eint a0.2)]) (news := []) rfl (.st (.cons (.av rfl) (.cons (.av rfl) (.cons (.av rfl) .nil)))) rfl rfl trivial) ?_
 refine cwW (wA0 (l := [(0,.ptr 0 0)]) (m := [(0,.box (.st [.ptr 1 0,.d (eint a0.1),.d (eint a0.2)])),(1,.own (qe b1))]) rfl) ?_
 refine cSR (.M rfl<|.K rfl<|.F rfl fld57_2 rfl<|.L [2] rfl ta3 rfl<|.B rfl (qR0 _ _) rfl<|.K rfl<|.F rfl fld57_2 rfl<|.S [2] rfl sz3 rfl<|.nil rfl) ?_
 refine cwS (cwRA mixed (by kernel_rfl) (.M rfl<|.K rfl<|.F rfl fld57_2 rfl<|.L [2] rfl ta3 rfl<|.M rfl<|.K rfl<|.F rfl fld57_1 rfl<|.L [1] rfl ta3 rfl<|.B rfl (qh0 _ _) rfl<|.A rfl<|.nil rfl) (by kernel_rfl) ?_)
 obtain rfl := zQ h
 exact qv ⟨_,(show Leads _ _ (St.of [(2,.d (qW (decide ((IntKind.wrap .i64 (a0.2 + 1)) = a0.1))))] [(0,.own (qd 1 (a0.1,(IntKind.wrap .i64 (a0.2 + 1))))),(1,.own (qe b1))]) from .trans (lPk (o := 0) (y := .st [.ptr 1 0,.d (eint a0.1),.d (eint (IntKind.wrap .i64 (a0.2 + 1)))]) (x := qd 1 (a0.1,(IntKind.wrap .i64 (a0.2 + 1)))) (l := [(2,.d (qW (decide ((IntKind.wrap .i64 (a0.2 + 1)) = a0.1))))]) (m := [(0,.own (qd 1 (a0.1,(IntKind.wrap .i64 (a0.2 + 1))))),(1,.own (qe b1))]) rfl (.st (.cons (.av rfl) (.cons (.av rfl) (.cons (.av rfl) .nil)))) rfl rfl ⟨⟨rfl,tV⟩,tV⟩ ⟨.inl rfl,(.inr ⟨rfl,(OD.dat_live (qc _))⟩),tV⟩ rfl (by simp [qd,OB.live,OD.live,OD.lives,AV.live,lk,Nat.beq]) trivial (qq rfl)) (wA1 rfl)),.inr rfl,_,res1 rfl rfl,rfl,rfl⟩
theorem qh3 {a0} {a1} {b1} {r} (h : qs0 a0 a1 b1 = some r) : FnOk Try.prog 129 [.ptr 0 0,.d (eint a1)] 2 (lk [(0,.own (qd 1 a0)),(1,.own (qe b1))]) (fun rr oo => rr = .tup [.d (qw r.1),.d (eErr r.2.1)] ∧ oo = lk [(0,.own (qd 1 r.2.2.1)),(1,.own (qe r.2.2.2)),(2,.box (.d (qw r.1)))]) := by
 refine fnO Try.func129 rfl rfl (cwP ?_)
 unfold qs0 at h
 refine cSR (.c (qb0 2 rfl rfl .no ze46 rfl)<|.A rfl<|.nil rfl) ?_
 refine cwS ?_
 have ⟨x0,hx0,h0⟩ := bdS h
 refine cSR (.M rfl<|.c (qG (fun n => bif Nat.beq n 0 then 0 else 1) rfl rfl .no Try.func132 rfl rfl (qQ1 hx0) (.cons rfl (.p rfl) .nil) (qu2 rfl ⟨(by simp [AV.live,lk,Nat.beq]),tV⟩ (by decide) rfl (by simp [qd,OB.live,OD.live,OD.lives,AV.live,lk,Nat.beq]) rfl (OD.dat_live (qc _)) (by simp)) (.inl rfl))<|.nil rfl) ?_
 refine cwC h0 rfl ?_ ?_
 ·intro hc0 h1
  refine cSR (.c (qa6 (ds := [eint 0,eSP_ ([]),qH0 ([])]) rfl rfl .no zs46 rfl pl46 .nil)<|.S [] rfl sz46 rfl<|.A rfl<|.nil rfl) ?_
  obtain rfl := zQ h1
  exact qv ⟨_,(wA2 [(4,.ptr 2 0),(5,.d (eErr 11))] [(0,.own (qd 1 x0.2.1)),(1,.own (qe x0.2.2)),(2,.box (.d (qw (0,[],[]))))] rfl),.inr rfl,_,resCT rfl rfl rfl ta46 rfl rfl rfl,rfl,rfl⟩
 intro hc0 h2
 refine cwK (cwL (lOp (o := 0) (y := .st [.ptr 1 0,.d (eint x0.2.1.1),.d (eint x0.2.1.2)]) (news := []) rfl (.st (.cons (.av rfl) (.cons (.av rfl) (.cons (.av rfl) .nil)))) rfl rfl trivial) ?_)
 refine cwW (wA0 (l := [(0,.ptr 0 0),(1,.d (eint a1)),(4,.ptr 2 0)]) (m := [(0,.box (.st [.ptr 1 0,.d (eint x0.2.1.1),.d (eint x0.2.1.2)])),(1,.own (qe x0.2.2)),(2,.box (.d (qw (0,[],[]))))]) rfl) ?_
 have ⟨x1,hx1,h3⟩ := bdS h2
 refine cSR (.M rfl<|.K rfl<|.F rfl fld57_0 rfl<|.L [0] rfl ta24 rfl<|.M rfl<|.c (qG (fun n => bif Nat.beq n 0 then 1 else 3) rfl rfl .no Try.func23 rfl rfl (qk0 hx1) (.cons rfl (.p rfl) (.cons rfl .d .nil)) (ql1 [1] rfl ⟨(by simp [AV.live,AV.lives,lk,Nat.beq]),tV,tV⟩ ⟨⟨rfl,(OD.dat_live (qc _))⟩,tV⟩ rfl rfl rfl ⟨rfl,tV⟩ rfl) (.inl rfl))<|.E rfl<|.E rfl<|.S [] rfl sz46 rfl<|.A rfl<|.nil rfl) ?_
 obtain rfl := zQ h3
 exact qv ⟨_,(show Leads _ _ (St.of [(4,.ptr 2 0),(5,.d (eErr x1.2.1))] [(0,.own (qd 1 (x0.2.1.1,x0.2.1.2))),(1,.own (qe x1.2.2)),(2,.box (.d (qw x1.1)))]) from .trans (lPk (o := 0) (y := .st [.ptr 1 0,.d (eint x0.2.1.1),.d (eint x0.2.1.2)]) (x := qd 1 (x0.2.1.1,x0.2.1.2)) (l := [(4,.ptr 2 0),(5,.d (eErr x1.2.1))]) (m := [(0,.own (qd 1 (x0.2.1.1,x0.2.1.2))),(1,.own (qe x1.2.2)),(2,.box (.d (qw x1.1)))]) rfl (.st (.cons (.av rfl) (.cons (.av rfl) (.cons (.av rfl) .nil)))) rfl rfl ⟨⟨rfl,(by simp [AV.live,AV.lives,lk,Nat.beq])⟩,⟨rfl,tV⟩,tV⟩ ⟨.inl rfl,(.inr ⟨rfl,(OD.dat_live (qc _))⟩),(.inr ⟨rfl,tV⟩),tV⟩ rfl (by simp [qd,OB.live,OD.live,OD.lives,AV.live,lk,Nat.beq]) trivial (qq rfl)) (wA1 rfl)),.inr rfl,_,resCT rfl rfl rfl ta46 rfl rfl rfl,rfl,rfl⟩
theorem q85 {a0} {a1} {b1} {r} (h : qS0 a0 a1 b1 = some r) : FnOk Try.prog 131 [.ptr 0 0,.d (qw a1)] 2 (lk [(0,.own (qd 1 a0)),(1,.own (qe b1))]) (fun rr oo => rr = .tup [.d (eint r.1),.d (eErr r.2.1)] ∧ oo = lk [(0,.own (qd 1 r.2.2.1)),(1,.own (qe r.2.2.2))]) := by
 refine fnO Try.func131 rfl rfl (cwP ?_)
 unfold qS0 at h
 refine cSR (.X 2 rfl<|.A rfl<|.A rfl<|.nil rfl) ?_
 refine cwS ?_
 have ⟨x0,hx0,h0⟩ := bdS h
 refine cSR (.M rfl<|.c (qG (fun n => bif Nat.beq n 0 then 0 else 1) rfl rfl .no Try.func132 rfl rfl (qQ1 hx0) (.cons rfl (.p rfl) .nil) (qu2 rfl ⟨(by simp [AV.live,lk,Nat.beq]),tV⟩ (by decide) rfl (by simp [qd,OB.live,OD.live,OD.lives,AV.live,lk,Nat.beq]) rfl (OD.dat_live (qc _)) (by simp)) (.inl rfl))<|.nil rfl) ?_
 refine cwC h0 rfl ?_ ?_
 ·intro hc0 h1
  refine cSR (.A rfl<|.A rfl<|.nil rfl) ?_
  obtain rfl := zQ h1
  exact rt2 rfl rfl rfl rfl
 intro hc0 h2
 refine cwK (cwL (lOp (o := 0) (y := .st [.ptr 1 0,.d (eint x0.2.1.1),.d (eint x0.2.1.2)]) (news := []) rfl (.st (.cons (.av rfl) (.cons (.av rfl) (.cons (.av rfl) .nil)))) rfl rfl trivial) ?_)
 refine cwW (wA0 (l := [(0,.ptr 0 0),(3,.ptr 2 0)]) (m := [(0,.box (.st [.ptr 1 0,.d (eint x0.2.1.1),.d (eint x0.2.1.2)])),(1,.own (qe x0.2.2)),(2,.box (.d (qw a1)))]) rfl) ?_
 have ⟨x1,hx1,h3⟩ := bdS h2
 refine cwS (cwRA mixed (by kernel_rfl) (.M rfl<|.K rfl<|.F rfl fld57_0 rfl<|.L [0] rfl ta24 rfl<|.L [] rfl ta46 rfl<|.c (qG (fun _ => 1) rfl rfl .no Try.func120 rfl rfl (qQ3 hx1) (.cons rfl (.p rfl) (.cons rfl .d .nil)) (q20 rfl ⟨(by simp [AV.live,lk,Nat.beq]),tV,tV⟩ rfl (OD.dat_live (qc _)) (by simp)) (.inl rfl))<|.E rfl<|.E rfl<|.A rfl<|.A rfl<|.nil rfl) (by kernel_rfl) ?_)
 obtain rfl := zQ h3
 exact qv ⟨_,(show Leads _ _ (St.of [(4,.d (eint x1.1)),(5,.d (eErr x1.2.1))] [(0,.own (qd 1 (x0.2.1.1,x0.2.1.2))),(1,.own (qe x1.2.2))]) from .trans (lPk (o := 0) (y := .st [.ptr 1 0,.d (eint x0.2.1.1),.d (eint x0.2.1.2)]) (x := qd 1 (x0.2.1.1,x0.2.1.2)) (l := [(4,.d (eint x1.1)),(5,.d (eErr x1.2.1))]) (m := [(0,.own (qd 1 (x0.2.1.1,x0.2.1.2))),(1,.own (qe x1.2.2))]) rfl (.st (.cons (.av rfl) (.cons (.av rfl) (.cons (.av rfl) .nil)))) rfl rfl ⟨⟨rfl,tV⟩,⟨rfl,tV⟩,tV⟩ ⟨.inl rfl,(.inr ⟨rfl,(OD.dat_live (qc _))⟩),tV⟩ rfl (by simp [qd,OB.live,OD.live,OD.lives,AV.live,lk,Nat.beq]) trivial (qq rfl)) (wA1 rfl)),.inr rfl,_,res2 rfl rfl rfl,rfl,rfl⟩
theorem qn3 {a0} {a1} {b1} {r} (h : qq0 a0 a1 b1 = some r) : FnOk Try.prog 130 [.ptr 0 0,.d (eint a1)] 2 (lk [(0,.own (qd 1 a0)),(1,.own (qe b1))]) (fun rr oo => rr = .d (eErr r.1) ∧ oo = lk [(0,.own (qd 1 r.2.1)),(1,.own (qe r.2.2))]) := by
 refine fnO Try.func130 rfl rfl (cwP ?_)
 unfold qq0 at h
 refine cSR (.A rfl<|.nil rfl) ?_
 refine cwS ?_
 have ⟨x0,hx0,h0⟩ := bdS h
 refine cSR (.M rfl<|.c (qG (fun n => bif Nat.beq n 0 then 0 else 1) rfl rfl .no Try.func132 rfl rfl (qQ1 hx0) (.cons rfl (.p rfl) .nil) (qu2 rfl ⟨(by simp [AV.live,lk,Nat.beq]),tV⟩ (by decide) rfl (by simp [qd,OB.live,OD.live,OD.lives,AV.live,lk,Nat.beq]) rfl (OD.dat_live (qc _)) (by simp)) (.inl rfl))<|.nil rfl) ?_
 refine cwC h0 rfl ?_ ?_
 ·intro hc0 h1
  refine cSR (.A rfl<|.nil rfl) ?_
  obtain rfl := zQ h1
  exact rt1 rfl rfl rfl
 intro hc0 h2
 refine cwK (cwL (lOp (o := 0) (y := .st [.ptr 1 0,.d (eint x0.2.1.1),.d (eint x0.2.1.2)]) (news := []) rfl (.st (.cons (.av rfl) (.cons (.av rfl) (.cons (.av rfl) .nil)))) rfl rfl trivial) ?_)
 refine cwW (wA0 (l := [(0,.ptr 0 0),(1,.d (eint a1))]) (m := [(0,.box (.st [.ptr 1 0,.d (eint x0.2.1.1),.d (eint x0.2.1.2)])),(1,.own (qe x0.2.2))]) rfl) ?_
 have ⟨x1,hx1,h3⟩ := bdS h2
 refine cSR (.M rfl<|.K rfl<|.F rfl fld57_0 rfl<|.L [0] rfl ta24 rfl<|.M rfl<|.c (qG (fun _ => 1) rfl rfl .no Try.func119 rfl rfl (qF2 hx1) (.cons rfl (.p rfl) (.cons rfl .d .nil)) (q20 rfl ⟨(by simp [AV.live,lk,Nat.beq]),tV,tV⟩ rfl (OD.dat_live (qc _)) (by simp)) (.inl rfl))<|.A rfl<|.nil rfl) ?_
 obtain rfl := zQ h3
 exact qv ⟨_,(show Leads _ _ (St.of [(4,.d (eErr x1.1))] [(0,.own (qd 1 (x0.2.1.1,x0.2.1.2))),(1,.own (qe x1.2))]) from .trans (lPk (o := 0) (y := .st [.ptr 1 0,.d (eint x0.2.1.1),.d (eint x0.2.1.2)]) (x := qd 1 (x0.2.1.1,x0.2.1.2)) (l := [(4,.d (eErr x1.1))]) (m := [(0,.own (qd 1 (x0.2.1.1,x0.2.1.2))),(1,.own (qe x1.2))]) rfl (.st (.cons (.av rfl) (.cons (.av rfl) (.cons (.av rfl) .nil)))) rfl rfl ⟨⟨rfl,tV⟩,tV⟩ ⟨.inl rfl,(.inr ⟨rfl,(OD.dat_live (qc _))⟩),tV⟩ rfl (by simp [qd,OB.live,OD.live,OD.lives,AV.live,lk,Nat.beq]) trivial (qq rfl)) (wA1 rfl)),.inr rfl,_,res1 rfl rfl,rfl,rfl⟩
theorem qW4 {a0} {a1} {b1} {r} (h : q71 a0 a1 b1 = some r) : FnOk Try.prog 128 [.ptr 0 0,.d (eint a1)] 2 (lk [(0,.own (qd 1 a0)),(1,.own (qe b1))]) (fun rr oo => rr = .tup [.d (qW r.1),.d (eErr r.2.1)] ∧ oo = lk [(0,.own (qd 1 r.2.2.1)),(1,.own (qe r.2.2.2))]) := by
 refine fnO Try.func128 rfl rfl (cwP ?_)
 unfold q71 at h
 refine cSR (.A rfl<|.A rfl<|.nil rfl) ?_
 refine cwL (lOp (o := 0) (y := .st [.ptr 1 0,.d (eint a0.1),.d (eint a0.2)]) (news := []) rfl (.st (.cons (.av rfl) (.cons (.av rfl) (.cons (.av rfl) .nil)))) rfl rfl trivial) ?_
 refine cwW (wA0 (l := [(0,.ptr 0 0),(1,.d (eint a1))]) (m := [(0,.box (.st [.ptr 1 0,.d (eint a0.1),.d (eint a0.2)])),(1,.own (qe b1))]) rfl) ?_
 have ⟨x0,hx0,h0⟩ := bdS h
 refine cSR (.M rfl<|.K rfl<|.F rfl fld57_0 rfl<|.L [0] rfl ta24 rfl<|.M rfl<|.c (qG (fun _ => 1) rfl rfl .no Try.func118 rfl rfl (qI3 hx0) (.cons rfl (.p rfl) (.cons rfl .d .nil)) (q20 rfl ⟨(by simp [AV.live,lk,Nat.beq]),tV,tV⟩ rfl (OD.dat_live (qc _)) (by simp)) (.inl rfl))<|.E rfl<|.E rfl<|.A rfl<|.A rfl<|.nil rfl) ?_
 obtain rfl := zQ h0
 exact qv ⟨_,(show Leads _ _ (St.of [(4,.d (qW x0.1)),(5,.d (eErr x0.2.1))] [(0,.own (qd 1 (a0.1,a0.2))),(1,.own (qe x0.2.2))]) from .trans (lPk (o := 0) (y := .st [.ptr 1 0,.d (eint a0.1),.d (eint a0.2)]) (x := qd 1 (a0.1,a0.2)) (l := [(4,.d (qW x0.1)),(5,.d (eErr x0.2.1))]) (m := [(0,.own (qd 1 (a0.1,a0.2))),(1,.own (qe x0.2.2))]) rfl (.st (.cons (.av rfl) (.cons (.av rfl) (.cons (.av rfl) .nil)))) rfl rfl ⟨⟨rfl,tV⟩,⟨rfl,tV⟩,tV⟩ ⟨.inl rfl,(.inr ⟨rfl,(OD.dat_live (qc _))⟩),tV⟩ rfl (by simp [qd,OB.live,OD.live,OD.lives,AV.live,lk,Nat.beq]) trivial (qq rfl)) (wA1 rfl)),.inr rfl,_,res2 rfl rfl rfl,rfl,rfl⟩
theorem q33 {a0} {a1} {b1} {b2} {r} (h : qw0 a0 a1 b1 b2 = some r) : FnOk Try.prog 59 [.ptr 0 0,.d (eint a1)] 3 (lk [(0,.own (qf 1 a0)),(1,.own (qd 2 b1)),(2,.own (qe b2))]) (fun rr oo => rr = .tup [.d (qJ r.1),.d (eErr r.2.1)] ∧ oo = lk [(0,.own (qf 1 r.2.2.1)),(1,.own (qd 2 r.2.2.2.1)),(2,.own (qe r.2.2.2.2))]) := by
 refine fnO Try.func59 rfl rfl (cwP ?_)
 unfold qw0 at h
 refine cSR (.A rfl<|.A rfl<|.nil rfl) ?_
 refine cwL (lOp (o := 0) (y := .st [.ifc 55 (.ptr 1 0),.arr 3 0]) (news := [(3,.arr 0 1 (a0.map eint))]) rfl (.st (.cons (.av rfl) (.cons (.arr rfl) .nil))) rfl rfl ⟨rfl,tV⟩) ?_
 refine cwW (wA0 (l := [(0,.ptr 0 0),(1,.d (eint a1))]) (m := [(0,.box (.st [.ifc 55 (.ptr 1 0),.arr 3 0])),(1,.own (qd 2 b1)),(2,.own (qe b2)),(3,.arr 0 1 (a0.map eint))]) rfl) ?_
 have ⟨x0,hx0,h0⟩ := bdS h
 refine cSR (.M rfl<|.K rfl<|.F rfl fld93_0 rfl<|.L [0] rfl ta90 rfl<|.M rfl<|.c (qc6 (fun n => bif Nat.beq n 0 then 1 else bif Nat.beq n 1 then 2 else 4) rfl rfl .no rfl Try.func129 rfl rfl rfl hm55_Get (qh3 hx0) (.cons rfl (.p rfl) (.cons rfl .d .nil)) (by decide) (ql1 [2] rfl ⟨(by simp [AV.live,AV.lives,lk,Nat.beq]),tV,tV⟩ ⟨⟨rfl,(by simp [qd,OB.live,OD.live,OD.lives,AV.live,lk,Nat.beq])⟩,⟨rfl,(OD.dat_live (qc _))⟩,tV⟩ rfl rfl rfl ⟨rfl,tV⟩ rfl) (.inl rfl))<|.M rfl<|.E rfl<|.E rfl<|.c (qb0 5 rfl rfl .no ze46 rfl)<|.S [] rfl sz46 rfl<|.A rfl<|.nil rfl) ?_
 refine cwS (cSR (.M rfl<|.B rfl (qT2 _ _) rfl<|.nil rfl) ?_)
 refine cwC h0 rfl ?_ ?_
 ·intro hc0 h1
  refine cSR (.M rfl<|.A rfl<|.A rfl<|.nil rfl) ?_
  obtain rfl := zQ h1
  exact qv ⟨_,(show Leads _ _ (St.of [(4,.d (qJ (none : Option Fr))),(5,.d (eErr x0.2.1))] [(0,.own (qf 1 a0)),(1,.own (qd 2 x0.2.2.1)),(2,.own (qe x0.2.2.2))]) from .trans (lPk (o := 0) (y := .st [.ifc 55 (.ptr 1 0),.arr 3 0]) (x := qf 1 a0) (l := [(4,.d (.v (.pointer none))),(5,.d (eErr x0.2.1))]) (m := [(0,.own (qf 1 a0)),(1,.own (qd 2 x0.2.2.1)),(2,.own (qe x0.2.2.2))]) rfl (.st (.cons (.av rfl) (.cons (.arr rfl) .nil))) rfl rfl ⟨⟨rfl,tV⟩,⟨rfl,tV⟩,tV⟩ ⟨.inl rfl,(.inr ⟨rfl,(by simp [qd,OB.live,OD.live,OD.lives,AV.live,lk,Nat.beq])⟩),(.inr ⟨rfl,(OD.dat_live (qc _))⟩),tV⟩ rfl (by simp [qf,OB.live,OD.live,OD.lives,AV.live,lk,Nat.beq]) ⟨rfl,tV⟩ (qq rfl)) (.w (wkF ⟨⟨_,rfl,.d eFo_none.symm⟩,wD rfl,tV⟩ ⟨oE rfl,oF rfl,oM rfl,tV⟩ (qq rfl)))),.inr rfl,_,res2 rfl rfl rfl,rfl,rfl⟩
 intro hc0 h2
 refine cwK (cSR (.F rfl qG1 rfl<|.L [0] rfl ta3 rfl<|.F rfl qy3 rfl<|.L [1] rfl ta34 rfl<|.c (o_bldA rfl rfl .no zo132 rfl pl132 (.cons rfl rfl rfl rfl rfl rfl rfl (.cons rfl rfl rfl rfl rfl rfl rfl .nil)))<|.X 6 rfl<|.A rfl<|.nil rfl) ?_)
 have ⟨o0,hj0,h3⟩ := bdS h2
 refine cwJ (fun (z : (Int × (List ttR) × (List ttP))) => St.of [(8,.ptr 6 0)] [(0,.own (qf 1 a0)),(1,.own (qd 2 x0.2.2.1)),(2,.own (qe x0.2.2.2)),(6,.own (qn1 z))]) (fun z => o0 = z) ?_ ?_
 ·intro v0 hv0; subst hv0
  refine cwL (lOp (o := 6) (y := .st [.d (eint o0.1),.d (eSP_ o0.2.1),.arr 9 0]) (news := [(9,.arr 0 26 (o0.2.2.map qh))]) rfl (.st (.cons (.av rfl) (.cons (.av rfl) (.cons (.arr rfl) .nil)))) rfl rfl ⟨rfl,tV⟩) ?_
  refine cwW (wA0 (l := [(8,.ptr 6 0)]) (m := [(0,.own (qf 1 a0)),(1,.own (qd 2 x0.2.2.1)),(2,.own (qe x0.2.2.2)),(6,.box (.st [.d (eint o0.1),.d (eSP_ o0.2.1),.arr 9 0])),(9,.arr 0 26 (o0.2.2.map qh))]) rfl) ?_
  refine cwW (wkF (l := [(8,.ptr 6 0)]) (m := [(0,.own (qf 1 a0)),(1,.own (qd 2 x0.2.2.1)),(2,.own (qe x0.2.2.2)),(6,.box (.d (qE (o0.1,o0.2.1,o0.2.2))))]) ⟨wP rfl,tV⟩ ⟨oE rfl,oF rfl,oM rfl,.box rfl (.flat (.cons (.d rfl) (.cons (.d rfl) (.cons (.frz rfl rfl rfl) .nil)))),tV⟩ (qq rfl)) ?_
  refine cwW (wkF (l := [(8,.d (.at (qE (o0.1,o0.2.1,o0.2.2))))]) (m := [(0,.own (qf 1 a0)),(1,.own (qd 2 x0.2.2.1)),(2,.own (qe x0.2.2.2))]) ⟨⟨_,rfl,.pin rfl rfl⟩,tV⟩ ⟨oE rfl,oF rfl,oM rfl,tV⟩ (qq rfl)) ?_
  refine cwW (wkF (l := [(8,.d (qJ (some (frMk (o0.1,o0.2.1,o0.2.2)))))]) (m := [(0,.own (qf 1 a0)),(1,.own (qd 2 x0.2.2.1)),(2,.own (qe x0.2.2.2))]) ⟨⟨_,rfl,.d (eFo_mk (o0.1,o0.2.1,o0.2.2)).symm⟩,tV⟩ ⟨oE rfl,oF rfl,oM rfl,tV⟩ (qq rfl)) ?_
  refine cSR (.M rfl<|.A rfl<|.A rfl<|.nil rfl) ?_
  obtain rfl := zQ h3
  exact rt2 rfl rfl rfl rfl
 refine cSR (.F rfl q31 rfl<|.L [2] rfl ta44 rfl<|.c (qU (enc := q50) (xs := x0.1.2.2) rfl rfl .no rfl sl44)<|.M rfl<|.nil rfl) ?_
 refine cwB (qK (fun (z : (Int × (Int × (List ttR) × (List ttP)))) => St.of [(8,.ptr 6 0),(30,.d (qH0 x0.1.2.2)),(31,.d (eint (x0.1.2.2.length : Int))),(32,.d (eint z.1))] [(0,.own (qf 1 a0)),(1,.own (qd 2 x0.2.2.1)),(2,.own (qe x0.2.2.2)),(6,.own (qn1 z.2))]) hj0 (.trans (lPk (o := 0) (y := .st [.ifc 55 (.ptr 1 0),.arr 3 0]) (x := qf 1 a0) (l := [(8,.ptr 6 0),(30,.d (qH0 x0.1.2.2)),(31,.d (eint (x0.1.2.2.length : Int))),(32,.d (eint 0))]) (m := [(0,.own (qf 1 a0)),(1,.own (qd 2 x0.2.2.1)),(2,.own (qe x0.2.2.2)),(6,.box (.st [.d (eint x0.1.1),.d (eSP_ x0.1.2.1),.d (.v (.slice none 0 0))]))]) rfl (.st (.cons (.av rfl) (.cons (.arr rfl) .nil))) rfl rfl ⟨⟨rfl,(by simp [AV.live,AV.lives,lk,Nat.beq])⟩,⟨rfl,tV⟩,⟨rfl,tV⟩,⟨rfl,tV⟩,tV⟩ ⟨.inl rfl,(.inr ⟨rfl,(by simp [qd,OB.live,OD.live,OD.lives,AV.live,lk,Nat.beq])⟩),(.inr ⟨rfl,(OD.dat_live (qc _))⟩),(.inr ⟨rfl,(by simp [OB.live,AV.live,AV.lives,lk,Nat.beq])⟩),tV⟩ rfl (by simp [qf,OB.live,OD.live,OD.lives,AV.live,lk,Nat.beq]) ⟨rfl,tV⟩ (qq rfl)) (.trans (lPk (o := 6) (y := .st [.d (eint x0.1.1),.d (eSP_ x0.1.2.1),.d (.v (.slice none 0 0))]) (x := qn1 (x0.1.1,x0.1.2.1,[])) (l := [(8,.ptr 6 0),(30,.d (qH0 x0.1.2.2)),(31,.d (eint (x0.1.2.2.length : Int))),(32,.d (eint 0))]) (m := [(0,.own (qf 1 a0)),(1,.own (qd 2 x0.2.2.1)),(2,.own (qe x0.2.2.2)),(6,.own (qn1 (x0.1.1,x0.1.2.1,[])))]) rfl (.st (.cons (.av rfl) (.cons (.av rfl) (.cons (.nil rfl) .nil)))) rfl rfl ⟨⟨rfl,(by simp [AV.live,AV.lives,lk,Nat.beq])⟩,⟨rfl,tV⟩,⟨rfl,tV⟩,⟨rfl,tV⟩,tV⟩ ⟨(.inr ⟨rfl,(by simp [qf,OB.live,OD.live,OD.lives,AV.live,lk,Nat.beq])⟩),(.inr ⟨rfl,(by simp [qd,OB.live,OD.live,OD.lives,AV.live,lk,Nat.beq])⟩),(.inr ⟨rfl,(OD.dat_live (qc _))⟩),.inl rfl,tV⟩ rfl (OD.dat_live (qJ0 _)) trivial (qq rfl)) (wA1 rfl))) ?_)
 intro v1 x1 hb0 hx1
 refine cSR (.B rfl (qO0 _ _) rfl<|.nil rfl) ?_
 refine cwS (cwC hb0 rfl ?_ ?_)
 ·intro hc1 h4
  refine cwK ?_
  refine cwS (cwB ?_)
  have ⟨x2,hx2,h6⟩ := bdS h4
  have hx2g := qB hx2
  refine cSR (.c (qs1 (enc := q50) (xs := x0.1.2.2) rfl rfl .no rfl rfl sl44 sz69 hx2g.1 hx2g.2)<|.c (o_ld rfl rfl .no rfl ta69 rfl rfl)<|.c (qb0 7 rfl rfl .no ze69 rfl)<|.S [] rfl sz69 rfl<|.nil rfl) ?_
  refine cwL (lOp (o := 6) (y := .st [.d (eint v1.2.1),.d (eSP_ v1.2.2.1),.arr 8 0]) (news := [(8,.arr 0 26 (v1.2.2.2.map qh))]) rfl (.st (.cons (.av rfl) (.cons (.av rfl) (.cons (.arr rfl) .nil)))) rfl rfl ⟨rfl,tV⟩) ?_
  refine cwW (wA0 (l := [(8,.ptr 6 0),(10,.ptr 7 0),(30,.d (qH0 x0.1.2.2)),(31,.d (eint (x0.1.2.2.length : Int))),(32,.d (eint v1.1))]) (m := [(0,.own (qf 1 a0)),(1,.own (qd 2 x0.2.2.1)),(2,.own (qe x0.2.2.2)),(6,.box (.st [.d (eint v1.2.1),.d (eSP_ v1.2.2.1),.arr 8 0])),(7,.box (.d (q50 x2))),(8,.arr 0 26 (v1.2.2.2.map qh))]) rfl) ?_
  have ⟨x3,hx3,h7⟩ := bdS h6
  have hx3g := qV hx3
  refine cwRA mixed (by kernel_rfl) (.M rfl<|.M rfl<|.K rfl<|.F rfl qj1 rfl<|.L [2] rfl ta95 rfl<|.F rfl qE4 rfl<|.L [0] rfl ta31 rfl<|.F rfl qw3 rfl<|.L [1] rfl ta3 rfl<|.c (qa6 (ds := [eK x2.1,eint x2.2,qJ (none : Option Fr)]) rfl rfl .no zs101 rfl pl101 (.cons rfl rfl rfl rfl rfl rfl rfl (.cons rfl rfl rfl rfl rfl rfl rfl .nil)))<|.c (ql4 (rows := ([(x2.1,x2.2,(none : Option Fr))] : List ttP).map qh) rfl rfl .no (.cons rfl .nil) rfl sl95 qH1 qj4 rfl (q51 qo) (by decide))<|.c (q02 (enc := qh) (xs := v1.2.2.2) (ys := [(x2.1,x2.2,(none : Option Fr))]) rfl rfl .no rfl rfl rfl qo sl95 sl95 qH1 by101 qj4 rfl (by decide) hx3g)<|.K rfl<|.F rfl qj1 rfl<|.S [2] rfl sz95 rfl<|.nil rfl) (by kernel_rfl) ?_
  refine cwR (.B rfl (qR0 _ _) rfl<|.M rfl<|.nil rfl) ?_
  exact ⟨((IntKind.wrap .i64 (v1.1 + 1)),(v1.2.1,v1.2.2.1,(v1.2.2.2 ++ [(x2.1,x2.2,(none : Option Fr))]))),(sJ h7),.trans (lPk (o := 6) (y := .st [.d (eint v1.2.1),.d (eSP_ v1.2.2.1),.arr 8 (0 + 1)]) (x := qn1 (v1.2.1,v1.2.2.1,(v1.2.2.2 ++ [(x2.1,x2.2,(none : Option Fr))]))) (l := [(8,.ptr 6 0),(30,.d (qH0 x0.1.2.2)),(31,.d (eint (x0.1.2.2.length : Int))),(32,.d (eint (IntKind.wrap .i64 (v1.1 + 1))))]) (m := [(0,.own (qf 1 a0)),(1,.own (qd 2 x0.2.2.1)),(2,.own (qe x0.2.2.2)),(6,.own (qn1 (v1.2.1,v1.2.2.1,(v1.2.2.2 ++ [(x2.1,x2.2,(none : Option Fr))]))))]) rfl (.st (.cons (.av rfl) (.cons (.av rfl) (.cons (.arr rfl) .nil)))) rfl rfl ⟨⟨rfl,(by simp [AV.live,AV.lives,lk,Nat.beq])⟩,⟨rfl,tV⟩,⟨rfl,tV⟩,⟨rfl,tV⟩,tV⟩ ⟨(.inr ⟨rfl,(by simp [qf,OB.live,OD.live,OD.lives,AV.live,lk,Nat.beq])⟩),(.inr ⟨rfl,(by simp [qd,OB.live,OD.live,OD.lives,AV.live,lk,Nat.beq])⟩),(.inr ⟨rfl,(OD.dat_live (qc _))⟩),.inl rfl,tV⟩ rfl (OD.dat_live (qJ0 _)) ⟨rfl,tV⟩ (qq rfl)) (wA1 rfl)⟩
 intro hc1 h5
 refine qR ?_
 exact ⟨v1.2,(hx1 _ (sJ h5)).symm,wA1 rfl⟩
theorem qM4 {self : (List Int) → (List ttP) → (Int × Int) → ttM → Option ((List ttP) × Int × (List Int) × (Int × Int) × ttM)} (self_ok : ∀ {a0 : (List Int)} {a1 : List ttP} {b1 : (Int × Int)} {b2 : ttM} {r : ((List ttP) × Int × (List Int) × (Int × Int) × ttM)},self a0 a1 b1 b2 = some r → FnOk Try.prog 62 [.ptr 0 0,.d (qi a1)] 3 (lk [(0,.own (qf 1 a0)),(1,.own (qd 2 b1)),(2,.own (qe b2))]) (fun rr oo => rr = .tup [.d (qi r.1),.d (eErr r.2.1)] ∧ oo = lk [(0,.own (qf 1 r.2.2.1)),(1,.own (qd 2 r.2.2.2.1)),(2,.own (qe r.2.2.2.2))])) {a0 : (List Int)} {a1 : ttP} {a2 : ttP} {b1 : (Int × Int)} {b2 : ttM} {r : ((List ttP) × Int × (List Int) × (Int × Int) × ttM)} (h : q21 self a0 a1 a2 b1 b2 = some r) : FnOk Try.prog 77 [.ptr 0 0,.d (qh a1),.d (qh a2)] 3 (lk [(0,.own (qf 1 a0)),(1,.own (qd 2 b1)),(2,.own (qe b2))]) (fun rr oo => rr = .tup [.d (qi r.1),.d (eErr r.2.1)] ∧ oo = lk [(0,.own (qf 1 r.2.2.1)),(1,.own (qd 2 r.2.2.2.1)),(2,.own (qe r.2.2.2.2))]) := by
 refine fnO Try.func77 rfl rfl (cwP ?_)
 unfold q21 at h
 refine cSR (.X 3 rfl<|.X 4 rfl<|.A rfl<|.A rfl<|.nil rfl) ?_
 refine cSR (.c (qb0 5 rfl rfl .no ze166 rfl)<|.nil rfl) ?_
 have ⟨o0,hj0,h0⟩ := bdS h
 refine cwJ (fun (z : ((List Int) × (Int × Int) × ttM × ((Option Fr) × (Option Fr)))) => St.of [(0,.ptr 0 0),(8,.ptr 5 0)] [(0,.own (qf 1 z.1)),(1,.own (qd 2 z.2.1)),(2,.own (qe z.2.2.1)),(5,.box (.d (qi1 z.2.2.2)))]) (fun z => o0 = (.inl z)) ?_ ?_
 ·intro v0 hv0; subst hv0
  simp only [zN] at h0
  refine cwS ?_
  have ⟨x0,hx0,h1⟩ := bdS h0
  refine cSR (.c (qd6 rfl rfl .no rfl rfl q86 sz99 (by decide))<|.c (qC [0] rfl rfl .no rfl rfl rfl ta99 (qA v0.2.2.2.1) (qt v0.2.2.2.1))<|.c (qy1 (y := qE x0) rfl rfl .no rfl (qx1 hx0))<|.c (qO1 rfl rfl .no rfl qi3 (by decide) rfl rfl)<|.c (o_ld rfl rfl .no rfl ta3 rfl rfl)<|.B rfl (qh0 _ _) rfl<|.nil rfl) ?_
  refine cwC h1 rfl ?_ ?_
  ·intro hc0 h2
   have ⟨x1,hx1,h4⟩ := bdS h2
   have ⟨x2,hx2,h5⟩ := bdS h4
   have ⟨x3,hx3,h6⟩ := bdS h5
   refine cwS (cwRA mixed (by kernel_rfl) (.c (qd6 rfl rfl .no rfl rfl q86 sz99 (by decide))<|.c (qC [0] rfl rfl .no rfl rfl rfl ta99 (qA v0.2.2.2.1) (qt v0.2.2.2.1))<|.c (qy1 (y := qE x0) rfl rfl .no rfl (qx1 hx0))<|.c (qO1 rfl rfl .no rfl qs3 (by decide) rfl rfl)<|.c (o_ld rfl rfl .no rfl ta34 rfl rfl)<|.c (qd6 rfl rfl .no rfl rfl q86 sz99 (by decide))<|.c (qC [1] rfl rfl .no rfl rfl (qU5 v0.2.2.2) ta99 (qA v0.2.2.2.2) (qt v0.2.2.2.2))<|.c (qy1 (y := qE x1) rfl rfl .no rfl (qx1 hx1))<|.c (qO1 rfl rfl .no rfl qs3 (by decide) rfl rfl)<|.c (o_ld rfl rfl .no rfl ta34 rfl rfl)<|.c (ql4 (rows := ([x0.2.1,x1.2.1] : List (List ttR)).map eSP_) rfl rfl .no (.cons rfl (.cons rfl .nil)) rfl sl129 sz34 ze34 rfl (q51 qn5) (by decide))<|.c (qc0 rfl rfl .no Try.func90 rfl rfl (qd4 hx2) (.cons rfl .d .nil) ⟨tV,tV⟩ (.inl rfl))<|.c (qc0 rfl rfl .no Try.func36 rfl rfl (qW1 hx3) (.cons rfl .d .nil) ⟨tV,tV⟩ (.inl rfl))<|.A rfl<|.A rfl<|.nil rfl) (by kernel_rfl) ?_)
   obtain rfl := zQ h6
   exact rt2 rfl rfl rfl rfl
  intro hc0 h3
  refine cwK ?_
  have ⟨x4,hx4,h7⟩ := bdS h3
  have ⟨x5,hx5,h8⟩ := bdS h7
  have ⟨x6,hx6,h9⟩ := bdS h8
  refine cwS (cwRA mixed (by kernel_rfl) (.M rfl<|.c (qd6 rfl rfl .no rfl rfl q86 sz99 (by decide))<|.c (qC [0] rfl rfl .no rfl rfl rfl ta99 (qA v0.2.2.2.1) (qt v0.2.2.2.1))<|.c (qy1 (y := qE x0) rfl rfl .no rfl (qx1 hx0))<|.c (qO1 rfl rfl .no rfl qj1 (by decide) rfl rfl)<|.c (o_ld rfl rfl .no rfl ta95 rfl rfl)<|.c (qd6 rfl rfl .no rfl rfl q86 sz99 (by decide))<|.c (qC [1] rfl rfl .no rfl rfl (qU5 v0.2.2.2) ta99 (qA v0.2.2.2.2) (qt v0.2.2.2.2))<|.c (qy1 (y := qE x4) rfl rfl .no rfl (qx1 hx4))<|.c (qO1 rfl rfl .no rfl qj1 (by decide) rfl rfl)<|.c (o_ld rfl rfl .no rfl ta95 rfl rfl)<|.c (ql4 (rows := ([x0.2.2,x4.2.2] : List (List ttP)).map qi) rfl rfl .no (.cons rfl (.cons rfl .nil)) rfl sl155 sz95 ze95 rfl (q51 qI4) (by decide))<|.c (qc0 rfl rfl .no Try.func91 rfl rfl (qc4 hx5) (.cons rfl .d .nil) ⟨tV,tV⟩ (.inl rfl))<|.c (qG (fun n => bif Nat.beq n 0 then 0 else bif Nat.beq n 1 then 1 else 2) rfl rfl .no Try.func62 rfl rfl (self_ok hx6) (.cons rfl (.p rfl) (.cons rfl .d .nil)) (ql1 [] rfl ⟨(by simp [AV.live,AV.lives,lk,Nat.beq]),tV,tV⟩ ⟨⟨rfl,(by simp [qf,OB.live,OD.live,OD.lives,AV.live,lk,Nat.beq])⟩,⟨rfl,(by simp [qd,OB.live,OD.live,OD.lives,AV.live,lk,Nat.beq])⟩,⟨rfl,(OD.dat_live (qc _))⟩,tV⟩ rfl rfl rfl trivial rfl) (.inl rfl))<|.M rfl<|.E rfl<|.E rfl<|.A rfl<|.A rfl<|.nil rfl) (by kernel_rfl) ?_)
  have ⟨x7,hx7,h10⟩ := bdS h9
  refine cSR (.c (qd6 rfl rfl .no rfl rfl q86 sz99 (by decide))<|.c (qC [0] rfl rfl .no rfl rfl rfl ta99 (qA v0.2.2.2.1) (qt v0.2.2.2.1))<|.c (qy1 (y := qE x0) rfl rfl .no rfl (qx1 hx0))<|.c (qO1 rfl rfl .no rfl qi3 (by decide) rfl rfl)<|.c (o_ld rfl rfl .no rfl ta3 rfl rfl)<|.M rfl<|.c (qc0 rfl rfl .no Try.func63 rfl rfl (qR2 hx7) (.cons rfl .d (.cons rfl .d .nil)) ⟨tV,tV,tV⟩ (.inl rfl))<|.M rfl<|.A rfl<|.A rfl<|.nil rfl) ?_
  obtain rfl := zQ h10
  exact rt2 rfl rfl rfl rfl
 refine cSR (.c (qC [] rfl rfl .no rfl rfl rfl qD5 rfl (qo a1))<|.c (qC [] rfl rfl .no rfl rfl rfl qD5 rfl (qo a2))<|.c (ql4 (rows := ([a1,a2] : List ttP).map qh) rfl rfl .no (.cons rfl (.cons rfl .nil)) rfl sl95 qH1 qj4 rfl (q51 qo) (by decide))<|.c (qU (enc := qh) (xs := [a1,a2]) rfl rfl .no rfl sl95)<|.M rfl<|.nil rfl) ?_
 refine cwB (qK (fun (z : (Int × (List Int) × (Int × Int) × ttM × ((Option Fr) × (Option Fr)))) => St.of [(0,.ptr 0 0),(8,.ptr 5 0),(17,.d (qi ([a1,a2]))),(18,.d (eint (([a1,a2]).length : Int))),(19,.d (eint z.1))] [(0,.own (qf 1 z.2.1)),(1,.own (qd 2 z.2.2.1)),(2,.own (qe z.2.2.2.1)),(5,.box (.d (qi1 z.2.2.2.2)))]) hj0 (wA1 rfl) ?_)
 intro v1 x8 hb0 hx8
 refine cSR (.B rfl (qO0 _ _) rfl<|.nil rfl) ?_
 refine cwS (cwC hb0 rfl ?_ ?_)
 ·intro hc1 h11
  refine cwK ?_
  have ⟨o1,hj1,h13⟩ := bdS h11
  refine cwJ (fun (z : ((List Int) × (Int × Int) × ttM × ((Option Fr) × (Option Fr)))) => St.of [(0,.ptr 0 0),(8,.ptr 5 0),(17,.d (qi ([a1,a2]))),(18,.d (eint (([a1,a2]).length : Int))),(19,.d (eint v1.1))] [(0,.own (qf 1 z.1)),(1,.own (qd 2 z.2.1)),(2,.own (qe z.2.2.1)),(5,.box (.d (qi1 z.2.2.2)))]) (fun z => o1 = (.inl z)) ?_ ?_
  ·intro v2 hv1; subst hv1
   simp only [zN] at h13
   refine cwR (.B rfl (qR0 _ _) rfl<|.M rfl<|.nil rfl) ?_
   exact ⟨((IntKind.wrap .i64 (v1.1 + 1)),v2.1,v2.2.1,v2.2.2.1,v2.2.2.2),(sJ h13),wA1 rfl⟩
  refine cwB ?_
  have ⟨x9,hx9,h14⟩ := bdS hj1
  have hx9g := qB hx9
  refine cSR (.M rfl<|.c (qs1 (enc := qh) (xs := [a1,a2]) rfl rfl .no rfl rfl sl95 qH1 hx9g.1 hx9g.2)<|.c (o_ld rfl rfl .no rfl qD5 rfl (qo x9))<|.c (qb0 6 rfl rfl .no qj4 rfl)<|.A rfl<|.c (o_st [] rfl .no rfl rfl rfl rfl rfl qH1 (qo x9) (qo ((List.replicate 24 0),0,(none : Option Fr))))<|.nil rfl) ?_
  have ⟨o2,hj2,h15⟩ := bdS h14
  refine cwJ (fun (z : ((Option Fr) × (Option Fr))) => St.of [(0,.ptr 0 0),(8,.ptr 5 0),(9,.d (eint v1.1)),(10,.ptr 6 0),(17,.d (qi ([a1,a2]))),(18,.d (eint (([a1,a2]).length : Int))),(19,.d (eint v1.1))] [(0,.own (qf 1 v1.2.1)),(1,.own (qd 2 v1.2.2.1)),(2,.own (qe v1.2.2.2.1)),(5,.box (.d (qi1 z))),(6,.box (.d (qh x9)))]) (fun z => o2 = z) ?_ ?_
  ·intro v3 hv2; subst hv2
   refine cSR (.F rfl qU0 rfl<|.c (qC [2] rfl rfl .no rfl rfl rfl ta99 (qA x9.2.2) (qt x9.2.2))<|.c (o_pO false rfl rfl .no rfl rfl up99)<|.nil rfl) ?_
   refine cwC h15 rfl ?_ ?_
   ·intro hc2 h16
    have ⟨x10,hx10,h18⟩ := bdS h16
    refine cSR (.M rfl<|.F rfl qC3 rfl<|.L [1] rfl ta3 rfl<|.c (qG (fun n => bif Nat.beq n 0 then 0 else bif Nat.beq n 1 then 1 else 2) rfl rfl .no Try.func59 rfl rfl (q33 hx10) (.cons rfl (.p rfl) (.cons rfl .d .nil)) (ql1 [] rfl ⟨(by simp [AV.live,AV.lives,lk,Nat.beq]),tV,tV⟩ ⟨⟨rfl,(by simp [qf,OB.live,OD.live,OD.lives,AV.live,lk,Nat.beq])⟩,⟨rfl,(by simp [qd,OB.live,OD.live,OD.lives,AV.live,lk,Nat.beq])⟩,⟨rfl,(OD.dat_live (qc _))⟩,tV⟩ rfl rfl rfl trivial rfl) (.inl rfl))<|.M rfl<|.E rfl<|.E rfl<|.A rfl<|.A rfl<|.nil rfl) ?_
    refine cwS (cSR (.M rfl<|.B rfl (qT2 _ _) rfl<|.nil rfl) ?_)
    refine cwC h18 rfl ?_ ?_
    ·intro hc3 h19
     refine cSR (.M rfl<|.A rfl<|.A rfl<|.nil rfl) ?_
     have he0 := ((sJ h19)).symm
     subst he0
     have he1 := ((hx8 _ (sJ h13)).symm).symm
     subst he1
     obtain rfl := zQ h0
     exact qv ⟨_,(show Leads _ _ (St.of [(6,.d (qi ([]))),(7,.d (eErr x10.2.1))] [(0,.own (qf 1 x10.2.2.1)),(1,.own (qd 2 x10.2.2.2.1)),(2,.own (qe x10.2.2.2.2))]) from .w (wkF ⟨⟨_,rfl,.nil0⟩,wD rfl,tV⟩ ⟨oE rfl,oF rfl,oM rfl,tV⟩ (qq rfl))),.inr rfl,_,res2 rfl rfl rfl,rfl,rfl⟩
    intro hc3 h20
    refine cwK ?_
    have ⟨x11,hx11,h21⟩ := bdS h20
    have hx11g := qU4 hx11
    rcases cdS h21 with ⟨hc4,h22⟩ | ⟨hc4,h23⟩
    ·skip
     refine cwR (.M rfl<|.M rfl<|.c (o_ixPc 0 rfl rfl .no rfl rfl q86 sz99 hx11g (ixc0 hc4 hx11g))<|.c (o_st [0] rfl .no rfl rfl rfl rfl rfl sz99 (qt x10.1) (qt o2.1))<|.nil rfl) ?_
     exact ⟨(x10.2.2.1,x10.2.2.2.1,x10.2.2.2.2,(x10.1,o2.2)),(sJ h22),wA1 rfl⟩
    refine cwR (.M rfl<|.M rfl<|.c (o_ixPc 1 rfl rfl .no rfl rfl q86 sz99 hx11g (ixc1 hc4 hx11g))<|.c (o_st [1] rfl .no rfl rfl rfl (qU5 o2) rfl sz99 (qt x10.1) (qt o2.2))<|.nil rfl) ?_
    exact ⟨(x10.2.2.1,x10.2.2.2.1,x10.2.2.2.2,(o2.1,x10.1)),(sJ h23),wA1 rfl⟩
   intro hc2 h17
   refine cwK ?_
   exact ⟨(v1.2.1,v1.2.2.1,v1.2.2.2.1,o2),(sJ h17),wA1 rfl⟩
  have ⟨x12,hx12,h24⟩ := bdS hj2
  have hx12g := qU4 hx12
  rcases cdS h24 with ⟨hc5,h25⟩ | ⟨hc5,h26⟩
  ·skip
   refine cwR (.M rfl<|.F rfl qU0 rfl<|.c (qC [2] rfl rfl .no rfl rfl rfl ta99 (qA x9.2.2) (qt x9.2.2))<|.c (o_ixPc 0 rfl rfl .no rfl rfl q86 sz99 hx12g (ixc0 hc5 hx12g))<|.c (o_st [0] rfl .no rfl rfl rfl rfl rfl sz99 (qt x9.2.2) (qt v1.2.2.2.2.1))<|.nil rfl) ?_
   exact ⟨(x9.2.2,v1.2.2.2.2.2),(sJ h25),wA1 rfl⟩
  refine cwR (.M rfl<|.F rfl qU0 rfl<|.c (qC [2] rfl rfl .no rfl rfl rfl ta99 (qA x9.2.2) (qt x9.2.2))<|.c (o_ixPc 1 rfl rfl .no rfl rfl q86 sz99 hx12g (ixc1 hc5 hx12g))<|.c (o_st [1] rfl .no rfl rfl rfl (qU5 v1.2.2.2.2) rfl sz99 (qt x9.2.2) (qt v1.2.2.2.2.2))<|.nil rfl) ?_
  exact ⟨(v1.2.2.2.2.1,x9.2.2),(sJ h26),wA1 rfl⟩
 intro hc1 h12
 refine qR ?_
 exact ⟨(v1.2.1,v1.2.2.1,v1.2.2.2.1,v1.2.2.2.2),(hx8 _ (sJ h12)).symm,wA1 rfl⟩
theorem qf3 {self : (List Int) → (List ttP) → (Int × Int) → ttM → Option ((List ttP) × Int × (List Int) × (Int × Int) × ttM)} (self_ok : ∀ {a0 : (List Int)} {a1 : List ttP} {b1 : (Int × Int)} {b2 : ttM} {r : ((List ttP) × Int × (List Int) × (Int × Int) × ttM)},self a0 a1 b1 b2 = some r → FnOk Try.prog 62 [.ptr 0 0,.d (qi a1)] 3 (lk [(0,.own (qf 1 a0)),(1,.own (qd 2 b1)),(2,.own (qe b2))]) (fun rr oo => rr = .tup [.d (qi r.1),.d (eErr r.2.1)] ∧ oo = lk [(0,.own (qf 1 r.2.2.1)),(1,.own (qd 2 r.2.2.2.1)),(2,.own (qe r.2.2.2.2))])) {a0 : (List Int)} {a1 : List ttP} {b1 : (Int × Int)} {b2 : ttM} {r : ((List ttP) × Int × (List Int) × (Int × Int) × ttM)} (h : qv0 self a0 a1 b1 b2 = some r) : FnOk Try.prog 62 [.ptr 0 0,.d (qi a1)] 3 (lk [(0,.own (qf 1 a0)),(1,.own (qd 2 b1)),(2,.own (qe b2))]) (fun rr oo => rr = .tup [.d (qi r.1),.d (eErr r.2.1)] ∧ oo = lk [(0,.own (qf 1 r.2.2.1)),(1,.own (qd 2 r.2.2.2.1)),(2,.own (qe r.2.2.2.2))]) := by
 refine fnO Try.func62 rfl rfl (cwP ?_)
 unfold qv0 at h
 refine cSR (.A rfl<|.A rfl<|.nil rfl) ?_
 have ⟨o0,hj0,h0⟩ := bdS h
 refine cwJ (fun (z : ((List ttP) × (List Int) × (Int × Int) × ttM)) => St.of [(1,.d (qi z.1))] [(0,.own (qf 1 z.2.1)),(1,.own (qd 2 z.2.2.1)),(2,.own (qe z.2.2.2))]) (fun z => o0 = (.inl z)) ?_ ?_
 ·intro v0 hv0; subst hv0
  simp only [zN] at h0
  refine cSR (.M rfl<|.A rfl<|.A rfl<|.nil rfl) ?_
  obtain rfl := zQ h0
  exact rt2 rfl rfl rfl rfl
 refine cSR (.A rfl<|.nil rfl) ?_
 refine cwB (qK (fun (z : ((List ttP) × Int × (List Int) × (Int × Int) × ttM)) => St.of [(0,.ptr 0 0),(1,.d (qi z.1)),(6,.d (eint z.2.1))] [(0,.own (qf 1 z.2.2.1)),(1,.own (qd 2 z.2.2.2.1)),(2,.own (qe z.2.2.2.2))]) hj0 (wA1 rfl) ?_)
 intro v1 x0 hb0 hx0
 refine cwS ?_
 have ⟨o1,hj1,h1⟩ := bdS hb0
 refine cwJ (fun (z : Bool) => St.of [(0,.ptr 0 0),(1,.d (qi v1.1)),(6,.d (eint v1.2.1)),(17,.d (qW z))] [(0,.own (qf 1 v1.2.2.1)),(1,.own (qd 2 v1.2.2.2.1)),(2,.own (qe v1.2.2.2.2))]) (fun z => o1 = z) ?_ ?_
 ·intro v2 hv1; subst hv1
  refine cwC h1 rfl ?_ ?_
  ·intro hc0 h2
   refine cwK ?_
   refine cwB (cwS ?_)
   have ⟨o2,hj2,h4⟩ := bdS h2
   refine cwJ (fun (z : Bool) => St.of [(0,.ptr 0 0),(1,.d (qi v1.1)),(6,.d (eint v1.2.1)),(32,.d (qW z))] [(0,.own (qf 1 v1.2.2.1)),(1,.own (qd 2 v1.2.2.2.1)),(2,.own (qe v1.2.2.2.2))]) (fun z => o2 = z) ?_ ?_
   ·intro v3 hv2; subst hv2
    refine cwC h4 rfl ?_ ?_
    ·intro hc1 h5
     refine cSR (.M rfl<|.B rfl (qR0 _ _) rfl<|.A rfl<|.nil rfl) ?_
     refine qR ?_
     exact ⟨(v1.1,(IntKind.wrap .i64 (v1.2.1 + 1)),v1.2.2.1,v1.2.2.2.1,v1.2.2.2.2),(sJ h5),wA1 rfl⟩
    intro hc1 h6
    refine cwK (cSR (.M rfl<|.B rfl (qS3 _ _) rfl<|.c (o_max rfl rfl .no rfl rfl)<|.A rfl<|.nil rfl) ?_)
    have ⟨x1,hx1,h7⟩ := bdS h6
    have hx1g := qB hx1
    have ⟨x2,hx2,h8⟩ := bdS h7
    have hx2g := qB hx2
    have ⟨x3,hx3,h9⟩ := bdS h8
    refine cwS (cwRA mixed (by kernel_rfl) (.M rfl<|.M rfl<|.M rfl<|.c (qs1 (enc := qh) (xs := v1.1) rfl rfl .no rfl rfl sl95 qH1 hx1g.1 hx1g.2)<|.c (o_ld rfl rfl .no rfl qD5 rfl (qo x1))<|.M rfl<|.M rfl<|.B rfl (qR0 _ _) rfl<|.c (qs1 (enc := qh) (xs := v1.1) rfl rfl .no rfl rfl sl95 qH1 hx2g.1 hx2g.2)<|.c (o_ld rfl rfl .no rfl qD5 rfl (qo x2))<|.c (qG (fun n => bif Nat.beq n 0 then 0 else bif Nat.beq n 1 then 1 else 2) rfl rfl .no Try.func77 rfl rfl (qM4 self_ok hx3) (.cons rfl (.p rfl) (.cons rfl .d (.cons rfl .d .nil))) (ql1 [] rfl ⟨(by simp [AV.live,AV.lives,lk,Nat.beq]),tV,tV,tV⟩ ⟨⟨rfl,(by simp [qf,OB.live,OD.live,OD.lives,AV.live,lk,Nat.beq])⟩,⟨rfl,(by simp [qd,OB.live,OD.live,OD.lives,AV.live,lk,Nat.beq])⟩,⟨rfl,(OD.dat_live (qc _))⟩,tV⟩ rfl rfl rfl trivial rfl) (.inl rfl))<|.M rfl<|.E rfl<|.E rfl<|.A rfl<|.A rfl<|.nil rfl) (by kernel_rfl) ?_)
    refine cwS (cSR (.M rfl<|.B rfl (qT2 _ _) rfl<|.nil rfl) ?_)
    refine cwC h9 rfl ?_ ?_
    ·intro hc2 h10
     refine cSR (.M rfl<|.A rfl<|.A rfl<|.nil rfl) ?_
     have he0 := ((hx0 _ (sJ h10)).symm).symm
     subst he0
     obtain rfl := zQ h0
     exact qv ⟨_,(show Leads _ _ (St.of [(4,.d (qi ([]))),(5,.d (eErr x3.2.1))] [(0,.own (qf 1 x3.2.2.1)),(1,.own (qd 2 x3.2.2.2.1)),(2,.own (qe x3.2.2.2.2))]) from .w (wkF ⟨⟨_,rfl,.nil0⟩,wD rfl,tV⟩ ⟨oE rfl,oF rfl,oM rfl,tV⟩ (qq rfl))),.inr rfl,_,res2 rfl rfl rfl,rfl,rfl⟩
    intro hc2 h11
    refine cwK ?_
    have ⟨x4,hx4,h12⟩ := bdS h11
    have ⟨x5,hx5,h13⟩ := bdS (x := q64 x4 (max (IntKind.wrap .i64 (v1.2.1 - 1)) 0) (IntKind.wrap .i64 ((max (IntKind.wrap .i64 (v1.2.1 - 1)) 0) + 2)) x3.1) h12
    refine cwR (.M rfl<|.c (qW5 3 rfl rfl .no Try.func79 rfl rfl (qa4 hx4) (.cons rfl .d .nil) ⟨tV,tV⟩ rfl (.inl rfl))<|.M rfl<|.M rfl<|.B rfl (qR0 _ _) rfl<|.M rfl<|.c (qG (fun _ => 3) rfl rfl .no Try.func78 rfl rfl (replaceK_ok hx5 0) (.cons rfl (.a rfl) (.cons rfl .d (.cons rfl .d (.cons rfl .d .nil)))) (q20 rfl ⟨(by simp [AV.live,lk,Nat.beq]),tV,tV,tV,tV⟩ rfl trivial (by simp)) (.inl rfl))<|.A rfl<|.nil rfl) ?_
    exact ⟨(x5,(max (IntKind.wrap .i64 (v1.2.1 - 1)) 0),x3.2.2.1,x3.2.2.2.1,x3.2.2.2.2),(sJ h13),wA1 rfl⟩
   have ⟨x6,hx6,h14⟩ := bdS hj2
   have hx6g := qB hx6
   rcases cdS h14 with ⟨hc3,h15⟩ | ⟨hc3,h16⟩
   ·skip
    refine cwR (.M rfl<|.M rfl<|.c (qs1 (enc := qh) (xs := v1.1) rfl rfl .no rfl rfl sl95 qH1 hx6g.1 hx6g.2)<|.c (qO1 rfl rfl .no rfl qU0 (by decide) rfl rfl)<|.c (o_ld rfl rfl .no rfl ta99 (qA x6.2.2) (qt x6.2.2))<|.c (o_pO false rfl rfl .no rfl rfl up99)<|.M rfl<|.G rfl rfl hc3<|.G rfl rfl hc3<|.G rfl rfl hc3<|.G rfl rfl hc3<|.G rfl rfl hc3<|.G rfl rfl hc3<|.G rfl rfl hc3<|.I rfl hc3<|.nil rfl) ?_
    exact ⟨true,(sJ h15),wA1 rfl⟩
   have ⟨x7,hx7,h17⟩ := bdS h16
   refine cwR (.M rfl<|.M rfl<|.c (qs1 (enc := qh) (xs := v1.1) rfl rfl .no rfl rfl sl95 qH1 hx6g.1 hx6g.2)<|.c (qO1 rfl rfl .no rfl qU0 (by decide) rfl rfl)<|.c (o_ld rfl rfl .no rfl ta99 (qA x6.2.2) (qt x6.2.2))<|.c (o_pO false rfl rfl .no rfl rfl up99)<|.M rfl<|.c (o_mv rfl rfl (.yes rfl rfl hc3) rfl)<|.c (o_mv rfl rfl (.yes rfl rfl hc3) rfl)<|.c (qs1 (enc := qh) (xs := v1.1) rfl rfl (.yes rfl rfl hc3) rfl rfl sl95 qH1 hx6g.1 hx6g.2)<|.c (qO1 rfl rfl (.yes rfl rfl hc3) rfl qU0 (by decide) rfl rfl)<|.c (o_ld rfl rfl (.yes rfl rfl hc3) rfl ta99 (qA x6.2.2) (qt x6.2.2))<|.c (qc0 rfl rfl (.yes rfl rfl hc3) Try.func76 rfl rfl (qe4 hx7) (.cons rfl .d .nil) ⟨tV,tV⟩ (.inl rfl))<|.c (qb5 rfl rfl (.yes rfl rfl hc3) rfl)<|.J rfl hc3<|.nil rfl) ?_
   exact ⟨(!x7),(sJ h17),wA1 rfl⟩
  intro hc0 h3
  refine qR ?_
  exact ⟨(v1.1,v1.2.2.1,v1.2.2.2.1,v1.2.2.2.2),(hx0 _ (sJ h3)).symm,wA1 rfl⟩
 rcases cdS hj1 with ⟨hc4,h18⟩ | ⟨hc4,h19⟩
 ·skip
  refine cwR (.M rfl<|.M rfl<|.c (qU (enc := qh) (xs := v1.1) rfl rfl .no rfl sl95)<|.B rfl (qO0 _ _) rfl<|.M rfl<|.c (o_mv rfl rfl (.yes rfl rfl hc4) rfl)<|.c (qU (enc := qh) (xs := v1.1) rfl rfl (.yes rfl rfl hc4) rfl sl95)<|.c (qn rfl rfl (.yes rfl rfl hc4) rfl rfl (qT3 _ _) rfl)<|.I rfl hc4<|.nil rfl) ?_
  exact ⟨(decide ((v1.1.length : Int) > 1)),(sJ h18),wA1 rfl⟩
 refine cwR (.M rfl<|.M rfl<|.c (qU (enc := qh) (xs := v1.1) rfl rfl .no rfl sl95)<|.B rfl (qO0 _ _) rfl<|.M rfl<|.G rfl rfl hc4<|.G rfl rfl hc4<|.G rfl rfl hc4<|.J rfl hc4<|.nil rfl) ?_
 exact ⟨false,(sJ h19),wA1 rfl⟩
theorem qb2 : ∀ (n : Nat) {a0 : (List Int)} {a1 : List ttP} {b1 : (Int × Int)} {b2 : ttM} {r : ((List ttP) × Int × (List Int) × (Int × Int) × ttM)},qZ n a0 a1 b1 b2 = some r → FnOk Try.prog 62 [.ptr 0 0,.d (qi a1)] 3 (lk [(0,.own (qf 1 a0)),(1,.own (qd 2 b1)),(2,.own (qe b2))]) (fun rr oo => rr = .tup [.d (qi r.1),.d (eErr r.2.1)] ∧ oo = lk [(0,.own (qf 1 r.2.2.1)),(1,.own (qd 2 r.2.2.2.1)),(2,.own (qe r.2.2.2.2))])
 | 0,_,_,_,_,_,h => nomatch h
 | n + 1,_,_,_,_,_,h => qf3 (self := qZ n) (fun h => qb2 n h) h
theorem qg4 {a0} {a1} {b1} {b2} {r} (h : q72 a0 a1 b1 b2 = some r) : FnOk Try.prog 62 [.ptr 0 0,.d (qi a1)] 3 (lk [(0,.own (qf 1 a0)),(1,.own (qd 2 b1)),(2,.own (qe b2))]) (fun rr oo => rr = .tup [.d (qi r.1),.d (eErr r.2.1)] ∧ oo = lk [(0,.own (qf 1 r.2.2.1)),(1,.own (qd 2 r.2.2.2.1)),(2,.own (qe r.2.2.2.2))]) := qb2 40 h
theorem qA3 {self : (List Int) → Int → (List ttC) → (Int × Int) → ttM → Option ((List ttP) × Int × (List Int) × (Int × Int) × ttM)} (self_ok : ∀ {a0 : (List Int)} {a1 : Int} {a2 : List ttC} {b1 : (Int × Int)} {b2 : ttM} {r : ((List ttP) × Int × (List Int) × (Int × Int) × ttM)},self a0 a1 a2 b1 b2 = some r → FnOk Try.prog 38 [.ptr 0 0,.d (eint a1),.d (eSC a2)] 3 (lk [(0,.own (qf 1 a0)),(1,.own (qd 2 b1)),(2,.own (qe b2))]) (fun rr oo => rr = .tup [.d (qi r.1),.d (eErr r.2.1)] ∧ oo = lk [(0,.own (qf 1 r.2.2.1)),(1,.own (qd 2 r.2.2.2.1)),(2,.own (qe r.2.2.2.2))])) {a0 : (List Int)} {a1 : Int} {a2 : List ttC} {b1 : (Int × Int)} {b2 : ttM} {r : ((List ttP) × Int × (List Int) × (Int × Int) × ttM)} (h : qE0 self a0 a1 a2 b1 b2 = some r) : FnOk Try.prog 38 [.ptr 0 0,.d (eint a1),.d (eSC a2)] 3 (lk [(0,.own (qf 1 a0)),(1,.own (qd 2 b1)),(2,.own (qe b2))]) (fun rr oo => rr = .tup [.d (qi r.1),.d (eErr r.2.1)] ∧ oo = lk [(0,.own (qf 1 r.2.2.1)),(1,.own (qd 2 r.2.2.2.1)),(2,.own (qe r.2.2.2.2))]) := by
 refine fnO Try.func38 rfl rfl (cwP ?_)
 unfold qE0 at h
 refine cSR (.A rfl<|.A rfl<|.nil rfl) ?_
 have ⟨x0,hx0,h0⟩ := bdS h
 refine cSR (.M rfl<|.M rfl<|.c (qG (fun n => bif Nat.beq n 0 then 0 else bif Nat.beq n 1 then 1 else 2) rfl rfl .no Try.func59 rfl rfl (q33 hx0) (.cons rfl (.p rfl) (.cons rfl .d .nil)) (ql1 [] rfl ⟨(by simp [AV.live,AV.lives,lk,Nat.beq]),tV,tV⟩ ⟨⟨rfl,(by simp [qf,OB.live,OD.live,OD.lives,AV.live,lk,Nat.beq])⟩,⟨rfl,(by simp [qd,OB.live,OD.live,OD.lives,AV.live,lk,Nat.beq])⟩,⟨rfl,(OD.dat_live (qc _))⟩,tV⟩ rfl rfl rfl trivial rfl) (.inl rfl))<|.M rfl<|.E rfl<|.E rfl<|.A rfl<|.A rfl<|.nil rfl) ?_
 refine cwS (cSR (.M rfl<|.B rfl (qT2 _ _) rfl<|.nil rfl) ?_)
 refine cwC h0 rfl ?_ ?_
 ·intro hc0 h1
  refine cSR (.M rfl<|.A rfl<|.A rfl<|.nil rfl) ?_
  obtain rfl := zQ h1
  exact qv ⟨_,(show Leads _ _ (St.of [(6,.d (qi ([]))),(7,.d (eErr x0.2.1))] [(0,.own (qf 1 x0.2.2.1)),(1,.own (qd 2 x0.2.2.2.1)),(2,.own (qe x0.2.2.2.2))]) from .w (wkF ⟨⟨_,rfl,.nil0⟩,wD rfl,tV⟩ ⟨oE rfl,oF rfl,oM rfl,tV⟩ (qq rfl))),.inr rfl,_,res2 rfl rfl rfl,rfl,rfl⟩
 intro hc0 h2
 refine cwK (cwS ?_)
 have ⟨x1,hx1,h3⟩ := bdS h2
 refine cSR (.M rfl<|.c (qy1 (y := qE x1) rfl rfl .no rfl (qx1 hx1))<|.c (qO1 rfl rfl .no rfl qi3 (by decide) rfl rfl)<|.c (o_ld rfl rfl .no rfl ta3 rfl rfl)<|.B rfl (qh0 _ _) rfl<|.nil rfl) ?_
 refine cwC h3 rfl ?_ ?_
 ·intro hc1 h4
  have ⟨x2,hx2,h6⟩ := bdS h4
  have ⟨x3,hx3,h7⟩ := bdS h6
  refine cSR (.M rfl<|.c (qy1 (y := qE x1) rfl rfl .no rfl (qx1 hx1))<|.c (qO1 rfl rfl .no rfl qs3 (by decide) rfl rfl)<|.c (o_ld rfl rfl .no rfl ta34 rfl rfl)<|.M rfl<|.c (qc0 rfl rfl .no Try.func37 rfl rfl (q53 hx2) (.cons rfl .d (.cons rfl .d .nil)) ⟨tV,tV,tV⟩ (.inl rfl))<|.c (qc0 rfl rfl .no Try.func36 rfl rfl (qW1 hx3) (.cons rfl .d .nil) ⟨tV,tV⟩ (.inl rfl))<|.A rfl<|.A rfl<|.nil rfl) ?_
  obtain rfl := zQ h7
  exact rt2 rfl rfl rfl rfl
 intro hc1 h5
 refine cwK (cSR (.A rfl<|.nil rfl) ?_)
 have ⟨o0,hj0,h8⟩ := bdS h5
 refine cwJ (fun (z : ((List Int) × (Int × Int) × ttM × (List ttP))) => St.of [(0,.ptr 0 0),(8,.d (qJ x0.1)),(10,.arr 4 0)] [(0,.own (qf 1 z.1)),(1,.own (qd 2 z.2.1)),(2,.own (qe z.2.2.1)),(4,.arr 0 26 (z.2.2.2.map qh))]) (fun z => o0 = (.inl z)) ?_ ?_
 ·intro v0 hv0; subst hv0
  simp only [zN] at h8
  refine cwW (wA0 (l := [(0,.ptr 0 0),(8,.d (qJ x0.1)),(10,.d (qi v0.2.2.2))]) (m := [(0,.own (qf 1 v0.1)),(1,.own (qd 2 v0.2.1)),(2,.own (qe v0.2.2.1))]) rfl) ?_
  have ⟨x4,hx4,h9⟩ := bdS h8
  refine cSR (.M rfl<|.M rfl<|.c (qG (fun n => bif Nat.beq n 0 then 0 else bif Nat.beq n 1 then 1 else 2) rfl rfl .no Try.func62 rfl rfl (qg4 hx4) (.cons rfl (.p rfl) (.cons rfl .d .nil)) (ql1 [] rfl ⟨(by simp [AV.live,AV.lives,lk,Nat.beq]),tV,tV⟩ ⟨⟨rfl,(by simp [qf,OB.live,OD.live,OD.lives,AV.live,lk,Nat.beq])⟩,⟨rfl,(by simp [qd,OB.live,OD.live,OD.lives,AV.live,lk,Nat.beq])⟩,⟨rfl,(OD.dat_live (qc _))⟩,tV⟩ rfl rfl rfl trivial rfl) (.inl rfl))<|.M rfl<|.E rfl<|.E rfl<|.A rfl<|.A rfl<|.nil rfl) ?_
  have ⟨x5,hx5,h10⟩ := bdS h9
  refine cSR (.M rfl<|.c (qy1 (y := qE x1) rfl rfl .no rfl (qx1 hx1))<|.c (qO1 rfl rfl .no rfl qi3 (by decide) rfl rfl)<|.c (o_ld rfl rfl .no rfl ta3 rfl rfl)<|.M rfl<|.c (qc0 rfl rfl .no Try.func63 rfl rfl (qR2 hx5) (.cons rfl .d (.cons rfl .d .nil)) ⟨tV,tV,tV⟩ (.inl rfl))<|.M rfl<|.A rfl<|.A rfl<|.nil rfl) ?_
  obtain rfl := zQ h10
  exact rt2 rfl rfl rfl rfl
 refine cSR (.M rfl<|.c (qy1 (y := qE x1) rfl rfl .no rfl (qx1 hx1))<|.c (qO1 rfl rfl .no rfl qj1 (by decide) rfl rfl)<|.c (o_ld rfl rfl .no rfl ta95 rfl rfl)<|.c (qU (enc := qh) (xs := x1.2.2) rfl rfl .no rfl sl95)<|.M rfl<|.nil rfl) ?_
 refine cwB (qK (fun (z : ((List ttC) × Int × (List Int) × (Int × Int) × ttM × (List ttP))) => St.of [(0,.ptr 0 0),(2,.d (eSC z.1)),(8,.d (qJ x0.1)),(10,.arr 4 0),(41,.d (qi x1.2.2)),(42,.d (eint (x1.2.2.length : Int))),(43,.d (eint z.2.1))] [(0,.own (qf 1 z.2.2.1)),(1,.own (qd 2 z.2.2.2.1)),(2,.own (qe z.2.2.2.2.1)),(4,.arr 0 26 (z.2.2.2.2.2.map qh))]) hj0 (.w (wkF ⟨wO rfl,wD rfl,wD rfl,⟨_,rfl,.nila rfl rfl⟩,wD rfl,wD rfl,wD rfl,tV⟩ ⟨oE rfl,oF rfl,oM rfl,.nil rfl,tV⟩ (qq rfl))) ?_)
 intro v1 x6 hb0 hx6
 refine cSR (.B rfl (qO0 _ _) rfl<|.nil rfl) ?_
 refine cwS (cwC hb0 rfl ?_ ?_)
 ·intro hc2 h11
  refine cwK ?_
  have ⟨o1,hj1,h13⟩ := bdS h11
  refine cwJ (fun (z : ((List ttC) × (List Int) × (Int × Int) × ttM × (List ttP))) => St.of [(0,.ptr 0 0),(2,.d (eSC z.1)),(8,.d (qJ x0.1)),(10,.arr 4 0),(41,.d (qi x1.2.2)),(42,.d (eint (x1.2.2.length : Int))),(43,.d (eint v1.2.1))] [(0,.own (qf 1 z.2.1)),(1,.own (qd 2 z.2.2.1)),(2,.own (qe z.2.2.2.1)),(4,.arr 0 26 (z.2.2.2.2.map qh))]) (fun z => o1 = (.inl z)) ?_ ?_
  ·intro v2 hv1; subst hv1
   simp only [zN] at h13
   refine cwR (.B rfl (qR0 _ _) rfl<|.M rfl<|.nil rfl) ?_
   exact ⟨(v2.1,(IntKind.wrap .i64 (v1.2.1 + 1)),v2.2.1,v2.2.2.1,v2.2.2.2.1,v2.2.2.2.2),(sJ h13),wA1 rfl⟩
  refine cwB ?_
  have ⟨x7,hx7,h14⟩ := bdS hj1
  have hx7g := qB hx7
  refine cSR (.M rfl<|.c (qs1 (enc := qh) (xs := x1.2.2) rfl rfl .no rfl rfl sl95 qH1 hx7g.1 hx7g.2)<|.c (o_ld rfl rfl .no rfl qD5 rfl (qo x7))<|.c (qb0 3 rfl rfl .no qj4 rfl)<|.A rfl<|.c (o_st [] rfl .no rfl rfl rfl rfl rfl qH1 (qo x7) (qo ((List.replicate 24 0),0,(none : Option Fr))))<|.nil rfl) ?_
  refine cSR (.M rfl<|.c (qU (enc := eCg) (xs := v1.1) rfl rfl .no rfl sl22)<|.A rfl<|.nil rfl) ?_
  have ⟨o2,hj2,h15⟩ := bdS h14
  refine cwJ (fun (z : Int) => St.of [(0,.ptr 0 0),(2,.d (eSC v1.1)),(8,.d (qJ x0.1)),(10,.arr 4 0),(12,.ptr 3 0),(13,.d (eint z)),(41,.d (qi x1.2.2)),(42,.d (eint (x1.2.2.length : Int))),(43,.d (eint v1.2.1))] [(0,.own (qf 1 v1.2.2.1)),(1,.own (qd 2 v1.2.2.2.1)),(2,.own (qe v1.2.2.2.2.1)),(3,.box (.d (qh x7))),(4,.arr 0 26 (v1.2.2.2.2.2.map qh))]) (fun z => o2 = z) ?_ ?_
  ·intro v3 hv2; subst hv2
   have ⟨x8,hx8,h16⟩ := bdS h15
   have hx8g := qJ2 hx8
   refine cSR (.M rfl<|.M rfl<|.c (o_slM (enc := eCg) (xs := v1.1) rfl rfl .no rfl sl22 sz33 .no (.val rfl hx8g.2.1) hx8g.2.2.1 hx8g.2.2.2)<|.A rfl<|.nil rfl) ?_
   have ⟨x9,hx9,h17⟩ := bdS h16
   have hx9g := qJ2 hx9
   refine cSR (.M rfl<|.M rfl<|.c (o_slM (enc := eCg) (xs := v1.1) rfl rfl .no rfl sl22 sz33 (.val rfl hx9g.1) .no hx9g.2.2.1 hx9g.2.2.2)<|.A rfl<|.nil rfl) ?_
   refine cwS (cSR (.M rfl<|.c (qU (enc := eCg) (xs := (qR1 v1.1 0 o2)) rfl rfl .no rfl sl22)<|.B rfl (qh0 _ _) rfl<|.nil rfl) ?_)
   refine cwC h17 rfl ?_ ?_
   ·intro hc3 h18
    have ⟨x10,hx10,h20⟩ := bdS h18
    have hx10g := qV hx10
    refine cSR (.M rfl<|.c (qC [] rfl rfl .no rfl rfl rfl qD5 rfl (qo x7))<|.c (ql4 (rows := ([x7] : List ttP).map qh) rfl rfl .no (.cons rfl .nil) rfl sl95 qH1 qj4 rfl (q51 qo) (by decide))<|.c (q02 (enc := qh) (xs := v1.2.2.2.2.2) (ys := [x7]) rfl rfl .no rfl rfl rfl qo sl95 sl95 qH1 by101 qj4 rfl (by decide) hx10g)<|.A rfl<|.nil rfl) ?_
    refine qR ?_
    exact ⟨((qR1 v1.1 o2 (v1.1.length : Int)),v1.2.2.1,v1.2.2.2.1,v1.2.2.2.2.1,(v1.2.2.2.2.2 ++ [x7])),(sJ h20),wA1 rfl⟩
   intro hc3 h19
   refine cwK ?_
   have ⟨x11,hx11,h21⟩ := bdS h19
   refine cSR (.M rfl<|.F rfl qC3 rfl<|.L [1] rfl ta3 rfl<|.M rfl<|.c (qG (fun n => bif Nat.beq n 0 then 0 else bif Nat.beq n 1 then 1 else 2) rfl rfl .no Try.func38 rfl rfl (self_ok hx11) (.cons rfl (.p rfl) (.cons rfl .d (.cons rfl .d .nil))) (ql1 [] rfl ⟨(by simp [AV.live,AV.lives,lk,Nat.beq]),tV,tV,tV⟩ ⟨⟨rfl,(by simp [qf,OB.live,OD.live,OD.lives,AV.live,lk,Nat.beq])⟩,⟨rfl,(by simp [qd,OB.live,OD.live,OD.lives,AV.live,lk,Nat.beq])⟩,⟨rfl,(OD.dat_live (qc _))⟩,tV⟩ rfl rfl rfl trivial rfl) (.inl rfl))<|.M rfl<|.E rfl<|.E rfl<|.A rfl<|.A rfl<|.nil rfl) ?_
   refine cwS (cSR (.M rfl<|.B rfl (qT2 _ _) rfl<|.nil rfl) ?_)
   refine cwC h21 rfl ?_ ?_
   ·intro hc4 h22
    refine cSR (.M rfl<|.A rfl<|.A rfl<|.nil rfl) ?_
    have he0 := ((sJ h22)).symm
    subst he0
    have he1 := ((hx6 _ (sJ h13)).symm).symm
    subst he1
    obtain rfl := zQ h8
    exact qv ⟨_,(show Leads _ _ (St.of [(6,.d (qi ([]))),(7,.d (eErr x11.2.1))] [(0,.own (qf 1 x11.2.2.1)),(1,.own (qd 2 x11.2.2.2.1)),(2,.own (qe x11.2.2.2.2))]) from .w (wkF ⟨⟨_,rfl,.nil0⟩,wD rfl,tV⟩ ⟨oE rfl,oF rfl,oM rfl,tV⟩ (qq rfl))),.inr rfl,_,res2 rfl rfl rfl,rfl,rfl⟩
   intro hc4 h23
   refine cwK ?_
   have ⟨x12,hx12,h24⟩ := bdS h23
   have hx12g := qV hx12
   refine cwR (.M rfl<|.M rfl<|.c (q02 (enc := qh) (xs := v1.2.2.2.2.2) (ys := x11.1) rfl rfl .no rfl rfl rfl qo sl95 sl95 qH1 by101 qj4 rfl (by decide) hx12g)<|.A rfl<|.nil rfl) ?_
   exact ⟨((qR1 v1.1 o2 (v1.1.length : Int)),x11.2.2.1,x11.2.2.2.1,x11.2.2.2.2,(v1.2.2.2.2.2 ++ x11.1)),(sJ h24),wA1 rfl⟩
  refine cSR (.M rfl<|.B rfl (qR0 _ _) rfl<|.M rfl<|.c (qy1 (y := qE x1) rfl rfl .no rfl (qx1 hx1))<|.c (qO1 rfl rfl .no rfl qj1 (by decide) rfl rfl)<|.c (o_ld rfl rfl .no rfl ta95 rfl rfl)<|.c (qU (enc := qh) (xs := x1.2.2) rfl rfl .no rfl sl95)<|.B rfl (qO0 _ _) rfl<|.nil rfl) ?_
  refine cwC hj2 rfl ?_ ?_
  ·intro hc5 h25
   have ⟨x13,hx13,h27⟩ := bdS h25
   have hx13g := qB hx13
   have ⟨x14,hx14,h28⟩ := bdS h27
   refine cwR (.M rfl<|.M rfl<|.c (qy1 (y := qE x1) rfl rfl .no rfl (qx1 hx1))<|.c (qO1 rfl rfl .no rfl qj1 (by decide) rfl rfl)<|.c (o_ld rfl rfl .no rfl ta95 rfl rfl)<|.M rfl<|.B rfl (qR0 _ _) rfl<|.c (qs1 (enc := qh) (xs := x1.2.2) rfl rfl .no rfl rfl sl95 qH1 hx13g.1 hx13g.2)<|.c (qO1 rfl rfl .no rfl qV4 (by decide) rfl rfl)<|.c (o_ld rfl rfl .no rfl ta31 rfl rfl)<|.c (qc0 rfl rfl .no Try.func60 rfl rfl (q22 hx14) (.cons rfl .d (.cons rfl .d (.cons rfl .f0 .nil))) ⟨tV,tV,(by simp [AV.live,AV.lives]),tV⟩ (.inl rfl))<|.M rfl<|.E rfl<|.E rfl<|.A rfl<|.nil rfl) ?_
   exact ⟨x14.1,(sJ h28),wA1 rfl⟩
  intro hc5 h26
  refine cwK ?_
  exact ⟨(v1.1.length : Int),(sJ h26),wA1 rfl⟩
 intro hc2 h12
 refine qR ?_
 exact ⟨(v1.2.2.1,v1.2.2.2.1,v1.2.2.2.2.1,v1.2.2.2.2.2),(hx6 _ (sJ h12)).symm,wA1 rfl⟩
theorem qv2 : ∀ (n : Nat) {a0 : (List Int)} {a1 : Int} {a2 : List ttC} {b1 : (Int × Int)} {b2 : ttM} {r : ((List ttP) × Int × (List Int) × (Int × Int) × ttM)},qF0 n a0 a1 a2 b1 b2 = some r → FnOk Try.prog 38 [.ptr 0 0,.d (eint a1),.d (eSC a2)] 3 (lk [(0,.own (qf 1 a0)),(1,.own (qd 2 b1)),(2,.own (qe b2))]) (fun rr oo => rr = .tup [.d (qi r.1),.d (eErr r.2.1)] ∧ oo = lk [(0,.own (qf 1 r.2.2.1)),(1,.own (qd 2 r.2.2.2.1)),(2,.own (qe r.2.2.2.2))])
 | 0,_,_,_,_,_,_,h => nomatch h
 | n + 1,_,_,_,_,_,_,h => qA3 (self := qF0 n) (fun h => qv2 n h) h
theorem qJ4 {a0} {a1} {a2} {b1} {b2} {r} (h : qr1 a0 a1 a2 b1 b2 = some r) : FnOk Try.prog 38 [.ptr 0 0,.d (eint a1),.d (eSC a2)] 3 (lk [(0,.own (qf 1 a0)),(1,.own (qd 2 b1)),(2,.own (qe b2))]) (fun rr oo => rr = .tup [.d (qi r.1),.d (eErr r.2.1)] ∧ oo = lk [(0,.own (qf 1 r.2.2.1)),(1,.own (qd 2 r.2.2.2.1)),(2,.own (qe r.2.2.2.2))]) := qv2 16 h
theorem qt3 {self : (List Int) → ttP → (Int × Int) → ttM → Option (Int × Int × (List Int) × (Int × Int) × ttM)} (self_ok : ∀ {a0 : (List Int)} {a1 : ttP} {b1 : (Int × Int)} {b2 : ttM} {r : (Int × Int × (List Int) × (Int × Int) × ttM)},self a0 a1 b1 b2 = some r → FnOk Try.prog 40 [.ptr 0 0,.d (qh a1)] 3 (lk [(0,.own (qf 1 a0)),(1,.own (qd 2 b1)),(2,.own (qe b2))]) (fun rr oo => rr = .tup [.d (eint r.1),.d (eErr r.2.1)] ∧ oo = lk [(0,.own (qf 1 r.2.2.1)),(1,.own (qd 2 r.2.2.2.1)),(2,.own (qe r.2.2.2.2))])) {a0 : (List Int)} {a1 : ttP} {b1 : (Int × Int)} {b2 : ttM} {r : (Int × Int × (List Int) × (Int × Int) × ttM)} (h : qB0 self a0 a1 b1 b2 = some r) : FnOk Try.prog 40 [.ptr 0 0,.d (qh a1)] 3 (lk [(0,.own (qf 1 a0)),(1,.own (qd 2 b1)),(2,.own (qe b2))]) (fun rr oo => rr = .tup [.d (eint r.1),.d (eErr r.2.1)] ∧ oo = lk [(0,.own (qf 1 r.2.2.1)),(1,.own (qd 2 r.2.2.2.1)),(2,.own (qe r.2.2.2.2))]) := by
 refine fnO Try.func40 rfl rfl (cwP ?_)
 unfold qB0 at h
 refine cSR (.X 3 rfl<|.A rfl<|.A rfl<|.nil rfl) ?_
 refine cwS (cSR (.F rfl qU0 rfl<|.c (qC [2] rfl rfl .no rfl rfl rfl ta99 (qA a1.2.2) (qt a1.2.2))<|.c (o_pO false rfl rfl .no rfl rfl up99)<|.nil rfl) ?_)
 refine cwC h rfl ?_ ?_
 ·intro hc0 h0
  refine cwL (lOp (o := 0) (y := .st [.ifc 55 (.ptr 1 0),.arr 4 0]) (news := [(4,.arr 0 1 (a0.map eint))]) rfl (.st (.cons (.av rfl) (.cons (.arr rfl) .nil))) rfl rfl ⟨rfl,tV⟩) ?_
  refine cwW (wA0 (l := [(0,.ptr 0 0),(3,.ptr 3 0)]) (m := [(0,.box (.st [.ifc 55 (.ptr 1 0),.arr 4 0])),(1,.own (qd 2 b1)),(2,.own (qe b2)),(3,.box (.d (qh a1))),(4,.arr 0 1 (a0.map eint))]) rfl) ?_
  have ⟨x0,hx0,h2⟩ := bdS h0
  refine cwS (cwRA mixed (by kernel_rfl) (.M rfl<|.K rfl<|.F rfl fld93_0 rfl<|.L [0] rfl ta90 rfl<|.F rfl qC3 rfl<|.L [1] rfl ta3 rfl<|.c (qc6 (fun n => bif Nat.beq n 0 then 1 else 2) rfl rfl .no rfl Try.func130 rfl rfl rfl hm55_Inc (qn3 hx0) (.cons rfl (.p rfl) (.cons rfl .d .nil)) (by decide) (qu2 rfl ⟨(by simp [AV.live,lk,Nat.beq]),tV,tV⟩ (by decide) rfl (by simp [qd,OB.live,OD.live,OD.lives,AV.live,lk,Nat.beq]) rfl (OD.dat_live (qc _)) (by simp)) (.inl rfl))<|.A rfl<|.nil rfl) (by kernel_rfl) ?_)
  have ⟨o0,hj0,h3⟩ := bdS h2
  refine cwJ (fun (z : (List Int)) => St.of [(3,.ptr 3 0),(6,.d (eErr x0.1))] [(0,.own (qf 1 z)),(1,.own (qd 2 x0.2.1)),(2,.own (qe x0.2.2)),(3,.box (.d (qh a1)))]) (fun z => o0 = z) ?_ ?_
  ·intro v0 hv0; subst hv0
   refine cSR (.F rfl qC3 rfl<|.L [1] rfl ta3 rfl<|.M rfl<|.A rfl<|.A rfl<|.nil rfl) ?_
   obtain rfl := zQ h3
   exact rt2 rfl rfl rfl rfl
  refine cSR (.M rfl<|.B rfl (qh0 _ _) rfl<|.nil rfl) ?_
  refine cwC hj0 rfl ?_ ?_
  ·intro hc1 h4
   have ⟨x1,hx1,h6⟩ := bdS h4
   have hx1g := qV hx1
   refine cwRA mixed (by kernel_rfl) (.M rfl<|.M rfl<|.K rfl<|.F rfl qy5 rfl<|.L [1] rfl ta59 rfl<|.F rfl qC3 rfl<|.L [1] rfl ta3 rfl<|.c (ql4 (rows := ([a1.2.1] : List Int).map eint) rfl rfl .no (.cons rfl .nil) rfl sl59 sz3 ze3 rfl (q51 qg6) (by decide))<|.c (q02 (enc := eint) (xs := a0) (ys := [a1.2.1]) rfl rfl .no rfl rfl rfl qg6 sl59 sl59 sz3 by3 ze3 rfl (by decide) hx1g)<|.K rfl<|.F rfl qy5 rfl<|.S [1] rfl sz59 rfl<|.nil rfl) (by kernel_rfl) ?_
   exact ⟨(a0 ++ [a1.2.1]),(sJ h6),.trans (lPk (o := 0) (y := .st [.ifc 55 (.ptr 1 0),.arr 4 (0 + 1)]) (x := qf 1 (a0 ++ [a1.2.1])) (l := [(3,.ptr 3 0),(6,.d (eErr x0.1))]) (m := [(0,.own (qf 1 (a0 ++ [a1.2.1]))),(1,.own (qd 2 x0.2.1)),(2,.own (qe x0.2.2)),(3,.box (.d (qh a1)))]) rfl (.st (.cons (.av rfl) (.cons (.arr rfl) .nil))) rfl rfl ⟨⟨rfl,(by simp [AV.live,AV.lives,lk,Nat.beq])⟩,⟨rfl,tV⟩,tV⟩ ⟨.inl rfl,(.inr ⟨rfl,(by simp [qd,OB.live,OD.live,OD.lives,AV.live,lk,Nat.beq])⟩),(.inr ⟨rfl,(OD.dat_live (qc _))⟩),(.inr ⟨rfl,tV⟩),tV⟩ rfl (by simp [qf,OB.live,OD.live,OD.lives,AV.live,lk,Nat.beq]) ⟨rfl,tV⟩ (qq rfl)) (wA1 rfl)⟩
  intro hc1 h5
  refine cwK ?_
  exact ⟨a0,(sJ h5),.trans (lPk (o := 0) (y := .st [.ifc 55 (.ptr 1 0),.arr 4 0]) (x := qf 1 a0) (l := [(3,.ptr 3 0),(6,.d (eErr x0.1))]) (m := [(0,.own (qf 1 a0)),(1,.own (qd 2 x0.2.1)),(2,.own (qe x0.2.2)),(3,.box (.d (qh a1)))]) rfl (.st (.cons (.av rfl) (.cons (.arr rfl) .nil))) rfl rfl ⟨⟨rfl,(by simp [AV.live,AV.lives,lk,Nat.beq])⟩,⟨rfl,tV⟩,tV⟩ ⟨.inl rfl,(.inr ⟨rfl,(by simp [qd,OB.live,OD.live,OD.lives,AV.live,lk,Nat.beq])⟩),(.inr ⟨rfl,(OD.dat_live (qc _))⟩),(.inr ⟨rfl,tV⟩),tV⟩ rfl (by simp [qf,OB.live,OD.live,OD.lives,AV.live,lk,Nat.beq]) ⟨rfl,tV⟩ (qq rfl)) (wA1 rfl)⟩
 intro hc0 h1
 refine cwK ?_
 have ⟨x2,hx2,h7⟩ := bdS h1
 refine cwS (cwRA mixed (by kernel_rfl) (.F rfl qU0 rfl<|.c (qC [2] rfl rfl .no rfl rfl rfl ta99 (qA a1.2.2) (qt a1.2.2))<|.c (qy1 (y := qE x2) rfl rfl .no rfl (qx1 hx2))<|.c (qO1 rfl rfl .no rfl qi3 (by decide) rfl rfl)<|.c (o_ld rfl rfl .no rfl ta3 rfl rfl)<|.F rfl qU0 rfl<|.c (qC [2] rfl rfl .no rfl rfl rfl ta99 (qA a1.2.2) (qt a1.2.2))<|.c (qy1 (y := qE x2) rfl rfl .no rfl (qx1 hx2))<|.c (qO1 rfl rfl .no rfl qs3 (by decide) rfl rfl)<|.c (o_ld rfl rfl .no rfl ta34 rfl rfl)<|.c (o_bldA rfl rfl .no zo46 rfl pl46 (.cons rfl rfl rfl rfl rfl rfl rfl (.cons rfl rfl rfl rfl rfl rfl rfl .nil)))<|.c (qb0 5 rfl rfl .no ze46 rfl)<|.S [] rfl sz46 rfl<|.nil rfl) (by kernel_rfl) ?_)
 have ⟨o1,hj1,h8⟩ := bdS h7
 refine cwJ (fun (z : ((List Int) × (Int × Int) × ttM × ttN)) => St.of [(0,.ptr 0 0),(7,.ptr 5 0)] [(0,.own (qf 1 z.1)),(1,.own (qd 2 z.2.1)),(2,.own (qe z.2.2.1)),(5,.own (qE2 z.2.2.2))]) (fun z => o1 = (.inl z)) ?_ ?_
 ·intro v1 hv1; subst hv1
  simp only [zN] at h8
  refine cwL (lOp (o := 5) (y := .st [.d (eint v1.2.2.2.1),.d (eSP_ v1.2.2.2.2.1),.arr 8 0]) (news := [(8,.arr 0 25 (v1.2.2.2.2.2.map q50))]) rfl (.st (.cons (.av rfl) (.cons (.av rfl) (.cons (.arr rfl) .nil)))) rfl rfl ⟨rfl,tV⟩) ?_
  refine cwW (wA0 (l := [(0,.ptr 0 0),(7,.ptr 5 0)]) (m := [(0,.own (qf 1 v1.1)),(1,.own (qd 2 v1.2.1)),(2,.own (qe v1.2.2.1)),(5,.box (.st [.d (eint v1.2.2.2.1),.d (eSP_ v1.2.2.2.2.1),.arr 8 0])),(8,.arr 0 25 (v1.2.2.2.2.2.map q50))]) rfl) ?_
  refine cwW (wkF (l := [(0,.ptr 0 0),(7,.ptr 5 0)]) (m := [(0,.own (qf 1 v1.1)),(1,.own (qd 2 v1.2.1)),(2,.own (qe v1.2.2.1)),(5,.box (.d (qw (v1.2.2.2.1,v1.2.2.2.2.1,v1.2.2.2.2.2))))]) ⟨wO rfl,wP rfl,tV⟩ ⟨oE rfl,oF rfl,oM rfl,.box rfl (.flat (.cons (.d rfl) (.cons (.d rfl) (.cons (.frz rfl rfl rfl) .nil)))),tV⟩ (qq rfl)) ?_
  refine cwL (lOp (o := 0) (y := .st [.ifc 55 (.ptr 1 0),.arr 9 0]) (news := [(9,.arr 0 1 (v1.1.map eint))]) rfl (.st (.cons (.av rfl) (.cons (.arr rfl) .nil))) rfl rfl ⟨rfl,tV⟩) ?_
  refine cwW (wA0 (l := [(0,.ptr 0 0),(7,.ptr 5 0)]) (m := [(0,.box (.st [.ifc 55 (.ptr 1 0),.arr 9 0])),(1,.own (qd 2 v1.2.1)),(2,.own (qe v1.2.2.1)),(5,.box (.d (qw (v1.2.2.2.1,v1.2.2.2.2.1,v1.2.2.2.2.2)))),(9,.arr 0 1 (v1.1.map eint))]) rfl) ?_
  have ⟨x3,hx3,h9⟩ := bdS h8
  refine cwS (cwRA mixed (by kernel_rfl) (.M rfl<|.K rfl<|.F rfl fld93_0 rfl<|.L [0] rfl ta90 rfl<|.L [] rfl ta46 rfl<|.c (qc6 (fun n => bif Nat.beq n 0 then 1 else 2) rfl rfl .no rfl Try.func131 rfl rfl rfl hm55_Put (q85 hx3) (.cons rfl (.p rfl) (.cons rfl .d .nil)) (by decide) (qu2 rfl ⟨(by simp [AV.live,lk,Nat.beq]),tV,tV⟩ (by decide) rfl (by simp [qd,OB.live,OD.live,OD.lives,AV.live,lk,Nat.beq]) rfl (OD.dat_live (qc _)) (by simp)) (.inl rfl))<|.M rfl<|.E rfl<|.E rfl<|.A rfl<|.A rfl<|.nil rfl) (by kernel_rfl) ?_)
  have ⟨o2,hj2,h10⟩ := bdS h9
  refine cwJ (fun (z : (List Int)) => St.of [(12,.d (eint x3.1)),(13,.d (eErr x3.2.1))] [(0,.own (qf 1 z)),(1,.own (qd 2 x3.2.2.1)),(2,.own (qe x3.2.2.2))]) (fun z => o2 = z) ?_ ?_
  ·intro v2 hv2; subst hv2
   refine cSR (.M rfl<|.M rfl<|.A rfl<|.A rfl<|.nil rfl) ?_
   obtain rfl := zQ h10
   exact rt2 rfl rfl rfl rfl
  refine cSR (.M rfl<|.B rfl (qh0 _ _) rfl<|.nil rfl) ?_
  refine cwC hj2 rfl ?_ ?_
  ·intro hc2 h11
   have ⟨x4,hx4,h13⟩ := bdS h11
   have hx4g := qV hx4
   refine cwR (.M rfl<|.M rfl<|.K rfl<|.F rfl qy5 rfl<|.L [1] rfl ta59 rfl<|.M rfl<|.c (ql4 (rows := ([x3.1] : List Int).map eint) rfl rfl .no (.cons rfl .nil) rfl sl59 sz3 ze3 rfl (q51 qg6) (by decide))<|.c (q02 (enc := eint) (xs := v1.1) (ys := [x3.1]) rfl rfl .no rfl rfl rfl qg6 sl59 sl59 sz3 by3 ze3 rfl (by decide) hx4g)<|.K rfl<|.F rfl qy5 rfl<|.S [1] rfl sz59 rfl<|.nil rfl) ?_
   exact ⟨(v1.1 ++ [x3.1]),(sJ h13),.trans (lPk (o := 0) (y := .st [.ifc 55 (.ptr 1 0),.arr 9 (0 + 1)]) (x := qf 1 (v1.1 ++ [x3.1])) (l := [(12,.d (eint x3.1)),(13,.d (eErr x3.2.1))]) (m := [(0,.own (qf 1 (v1.1 ++ [x3.1]))),(1,.own (qd 2 x3.2.2.1)),(2,.own (qe x3.2.2.2))]) rfl (.st (.cons (.av rfl) (.cons (.arr rfl) .nil))) rfl rfl ⟨⟨rfl,tV⟩,⟨rfl,tV⟩,tV⟩ ⟨.inl rfl,(.inr ⟨rfl,(by simp [qd,OB.live,OD.live,OD.lives,AV.live,lk,Nat.beq])⟩),(.inr ⟨rfl,(OD.dat_live (qc _))⟩),tV⟩ rfl (by simp [qf,OB.live,OD.live,OD.lives,AV.live,lk,Nat.beq]) ⟨rfl,tV⟩ (qq rfl)) (wA1 rfl)⟩
  intro hc2 h12
  refine cwK ?_
  exact ⟨v1.1,(sJ h12),.trans (lPk (o := 0) (y := .st [.ifc 55 (.ptr 1 0),.arr 9 0]) (x := qf 1 v1.1) (l := [(12,.d (eint x3.1)),(13,.d (eErr x3.2.1))]) (m := [(0,.own (qf 1 v1.1)),(1,.own (qd 2 x3.2.2.1)),(2,.own (qe x3.2.2.2))]) rfl (.st (.cons (.av rfl) (.cons (.arr rfl) .nil))) rfl rfl ⟨⟨rfl,tV⟩,⟨rfl,tV⟩,tV⟩ ⟨.inl rfl,(.inr ⟨rfl,(by simp [qd,OB.live,OD.live,OD.lives,AV.live,lk,Nat.beq])⟩),(.inr ⟨rfl,(OD.dat_live (qc _))⟩),tV⟩ rfl (by simp [qf,OB.live,OD.live,OD.lives,AV.live,lk,Nat.beq]) ⟨rfl,tV⟩ (qq rfl)) (wA1 rfl)⟩
 refine cSR (.F rfl qU0 rfl<|.c (qC [2] rfl rfl .no rfl rfl rfl ta99 (qA a1.2.2) (qt a1.2.2))<|.c (qy1 (y := qE x2) rfl rfl .no rfl (qx1 hx2))<|.c (qO1 rfl rfl .no rfl qj1 (by decide) rfl rfl)<|.c (o_ld rfl rfl .no rfl ta95 rfl rfl)<|.c (qU (enc := qh) (xs := x2.2.2) rfl rfl .no rfl sl95)<|.M rfl<|.nil rfl) ?_
 refine cwB (qK (fun (z : (Int × (List Int) × (Int × Int) × ttM × ttN)) => St.of [(0,.ptr 0 0),(7,.ptr 5 0),(55,.d (qi x2.2.2)),(56,.d (eint (x2.2.2.length : Int))),(57,.d (eint z.1))] [(0,.own (qf 1 z.2.1)),(1,.own (qd 2 z.2.2.1)),(2,.own (qe z.2.2.2.1)),(5,.own (qE2 z.2.2.2.2))]) hj1 (.trans (lPk (o := 5) (y := .st [.d (eint x2.1),.d (eSP_ x2.2.1),.d (.v (.slice none 0 0))]) (x := qE2 (x2.1,x2.2.1,[])) (l := [(0,.ptr 0 0),(7,.ptr 5 0),(55,.d (qi x2.2.2)),(56,.d (eint (x2.2.2.length : Int))),(57,.d (eint 0))]) (m := [(0,.own (qf 1 a0)),(1,.own (qd 2 b1)),(2,.own (qe b2)),(5,.own (qE2 (x2.1,x2.2.1,[])))]) rfl (.st (.cons (.av rfl) (.cons (.av rfl) (.cons (.nil rfl) .nil)))) rfl rfl ⟨⟨rfl,(by simp [AV.live,AV.lives,lk,Nat.beq])⟩,⟨rfl,(by simp [AV.live,AV.lives,lk,Nat.beq])⟩,⟨rfl,tV⟩,⟨rfl,tV⟩,⟨rfl,tV⟩,tV⟩ ⟨(.inr ⟨rfl,(by simp [qf,OB.live,OD.live,OD.lives,AV.live,lk,Nat.beq])⟩),(.inr ⟨rfl,(by simp [qd,OB.live,OD.live,OD.lives,AV.live,lk,Nat.beq])⟩),(.inr ⟨rfl,(OD.dat_live (qc _))⟩),.inl rfl,tV⟩ rfl (OD.dat_live (qg1 _)) trivial (qq rfl)) (wA1 rfl)) ?_)
 intro v3 x5 hb0 hx5
 refine cSR (.B rfl (qO0 _ _) rfl<|.nil rfl) ?_
 refine cwS (cwC hb0 rfl ?_ ?_)
 ·intro hc3 h14
  refine cwK ?_
  refine cwS (cwB ?_)
  have ⟨x6,hx6,h16⟩ := bdS h14
  have hx6g := qB hx6
  refine cSR (.c (qs1 (enc := qh) (xs := x2.2.2) rfl rfl .no rfl rfl sl95 qH1 hx6g.1 hx6g.2)<|.c (o_ld rfl rfl .no rfl qD5 rfl (qo x6))<|.c (qb0 6 rfl rfl .no qj4 rfl)<|.c (o_st [] rfl .no rfl rfl rfl rfl rfl qH1 (qo x6) (qo ((List.replicate 24 0),0,(none : Option Fr))))<|.nil rfl) ?_
  have ⟨x7,hx7,h17⟩ := bdS h16
  refine cSR (.M rfl<|.c (qC [] rfl rfl .no rfl rfl rfl qD5 rfl (qo x6))<|.c (qG (fun n => bif Nat.beq n 0 then 0 else bif Nat.beq n 1 then 1 else 2) rfl rfl .no Try.func40 rfl rfl (self_ok hx7) (.cons rfl (.p rfl) (.cons rfl .d .nil)) (ql1 [] rfl ⟨(by simp [AV.live,AV.lives,lk,Nat.beq]),tV,tV⟩ ⟨⟨rfl,(by simp [qf,OB.live,OD.live,OD.lives,AV.live,lk,Nat.beq])⟩,⟨rfl,(by simp [qd,OB.live,OD.live,OD.lives,AV.live,lk,Nat.beq])⟩,⟨rfl,(OD.dat_live (qc _))⟩,tV⟩ rfl rfl rfl trivial rfl) (.inl rfl))<|.M rfl<|.E rfl<|.E rfl<|.A rfl<|.A rfl<|.nil rfl) ?_
  refine cwS (cSR (.M rfl<|.B rfl (qT2 _ _) rfl<|.nil rfl) ?_)
  refine cwC h17 rfl ?_ ?_
  ·intro hc4 h18
   refine cSR (.M rfl<|.A rfl<|.A rfl<|.nil rfl) ?_
   have he0 := ((hx5 _ (sJ h18)).symm).symm
   subst he0
   obtain rfl := zQ h8
   exact rt2 rfl rfl rfl rfl
  intro hc4 h19
  refine cwK (cwL (lOp (o := 5) (y := .st [.d (eint v3.2.2.2.2.1),.d (eSP_ v3.2.2.2.2.2.1),.arr 7 0]) (news := [(7,.arr 0 25 (v3.2.2.2.2.2.2.map q50))]) rfl (.st (.cons (.av rfl) (.cons (.av rfl) (.cons (.arr rfl) .nil)))) rfl rfl ⟨rfl,tV⟩) ?_)
  refine cwW (wA0 (l := [(0,.ptr 0 0),(7,.ptr 5 0),(9,.ptr 6 0),(10,.d (eint x7.1)),(55,.d (qi x2.2.2)),(56,.d (eint (x2.2.2.length : Int))),(57,.d (eint v3.1))]) (m := [(0,.own (qf 1 x7.2.2.1)),(1,.own (qd 2 x7.2.2.2.1)),(2,.own (qe x7.2.2.2.2)),(5,.box (.st [.d (eint v3.2.2.2.2.1),.d (eSP_ v3.2.2.2.2.2.1),.arr 7 0])),(6,.box (.d (qh x6))),(7,.arr 0 25 (v3.2.2.2.2.2.2.map q50))]) rfl) ?_
  have ⟨x8,hx8,h20⟩ := bdS h19
  have hx8g := qV hx8
  refine cwR (.F rfl q31 rfl<|.L [2] rfl ta44 rfl<|.F rfl qV4 rfl<|.L [0] rfl ta31 rfl<|.M rfl<|.c (qa6 (ds := [eK x6.1,eint x7.1]) rfl rfl .no zs69 rfl pl69 (.cons rfl rfl rfl rfl rfl rfl rfl (.cons rfl rfl rfl rfl rfl rfl rfl .nil)))<|.c (ql4 (rows := ([(x6.1,x7.1)] : List ttK).map q50) rfl rfl .no (.cons rfl .nil) rfl sl44 sz69 ze69 rfl (q51 qK5) (by decide))<|.c (q02 (enc := q50) (xs := v3.2.2.2.2.2.2) (ys := [(x6.1,x7.1)]) rfl rfl .no rfl rfl rfl qK5 sl44 sl44 sz69 by69 ze69 rfl (by decide) hx8g)<|.F rfl q31 rfl<|.S [2] rfl sz44 rfl<|.nil rfl) ?_
  refine cwR (.B rfl (qR0 _ _) rfl<|.M rfl<|.nil rfl) ?_
  exact ⟨((IntKind.wrap .i64 (v3.1 + 1)),x7.2.2.1,x7.2.2.2.1,x7.2.2.2.2,(v3.2.2.2.2.1,v3.2.2.2.2.2.1,(v3.2.2.2.2.2.2 ++ [(x6.1,x7.1)]))),(sJ h20),.trans (lPk (o := 5) (y := .st [.d (eint v3.2.2.2.2.1),.d (eSP_ v3.2.2.2.2.2.1),.arr 7 (0 + 1)]) (x := qE2 (v3.2.2.2.2.1,v3.2.2.2.2.2.1,(v3.2.2.2.2.2.2 ++ [(x6.1,x7.1)]))) (l := [(0,.ptr 0 0),(7,.ptr 5 0),(55,.d (qi x2.2.2)),(56,.d (eint (x2.2.2.length : Int))),(57,.d (eint (IntKind.wrap .i64 (v3.1 + 1))))]) (m := [(0,.own (qf 1 x7.2.2.1)),(1,.own (qd 2 x7.2.2.2.1)),(2,.own (qe x7.2.2.2.2)),(5,.own (qE2 (v3.2.2.2.2.1,v3.2.2.2.2.2.1,(v3.2.2.2.2.2.2 ++ [(x6.1,x7.1)]))))]) rfl (.st (.cons (.av rfl) (.cons (.av rfl) (.cons (.arr rfl) .nil)))) rfl rfl ⟨⟨rfl,(by simp [AV.live,AV.lives,lk,Nat.beq])⟩,⟨rfl,(by simp [AV.live,AV.lives,lk,Nat.beq])⟩,⟨rfl,tV⟩,⟨rfl,tV⟩,⟨rfl,tV⟩,tV⟩ ⟨(.inr ⟨rfl,(by simp [qf,OB.live,OD.live,OD.lives,AV.live,lk,Nat.beq])⟩),(.inr ⟨rfl,(by simp [qd,OB.live,OD.live,OD.lives,AV.live,lk,Nat.beq])⟩),(.inr ⟨rfl,(OD.dat_live (qc _))⟩),.inl rfl,tV⟩ rfl (OD.dat_live (qg1 _)) ⟨rfl,tV⟩ (qq rfl)) (wA1 rfl)⟩
 intro hc3 h15
 refine qR ?_
 exact ⟨(v3.2.1,v3.2.2.1,v3.2.2.2.1,v3.2.2.2.2),(hx5 _ (sJ h15)).symm,wA1 rfl⟩
theorem qt2 : ∀ (n : Nat) {a0 : (List Int)} {a1 : ttP} {b1 : (Int × Int)} {b2 : ttM} {r : (Int × Int × (List Int) × (Int × Int) × ttM)},qe0 n a0 a1 b1 b2 = some r → FnOk Try.prog 40 [.ptr 0 0,.d (qh a1)] 3 (lk [(0,.own (qf 1 a0)),(1,.own (qd 2 b1)),(2,.own (qe b2))]) (fun rr oo => rr = .tup [.d (eint r.1),.d (eErr r.2.1)] ∧ oo = lk [(0,.own (qf 1 r.2.2.1)),(1,.own (qd 2 r.2.2.2.1)),(2,.own (qe r.2.2.2.2))])
 | 0,_,_,_,_,_,h => nomatch h
 | n + 1,_,_,_,_,_,h => qt3 (self := qe0 n) (fun h => qt2 n h) h
theorem qr4 {a0} {a1} {b1} {b2} {r} (h : qF1 a0 a1 b1 b2 = some r) : FnOk Try.prog 40 [.ptr 0 0,.d (qh a1)] 3 (lk [(0,.own (qf 1 a0)),(1,.own (qd 2 b1)),(2,.own (qe b2))]) (fun rr oo => rr = .tup [.d (eint r.1),.d (eErr r.2.1)] ∧ oo = lk [(0,.own (qf 1 r.2.2.1)),(1,.own (qd 2 r.2.2.2.1)),(2,.own (qe r.2.2.2.2))]) := qt2 16 h
theorem tree_Clone_f_ok {a0} {a1} {b1} {r} (h : qc3 a0 a1 b1 = some r) : FnOk Try.prog 33 [.ifc 55 (.ptr 0 0),.d (eint a1)] 2 (lk [(0,.own (qd 1 a0)),(1,.own (qe b1))]) (fun rr oo => rr = .d (eErr r.1) ∧ oo = lk [(0,.own (qd 1 r.2.1)),(1,.own (qe r.2.2))]) := by
 refine fnO Try.func33 rfl rfl (cwP ?_)
 unfold qc3 at h
 refine cSR (.A rfl<|.nil rfl) ?_
 refine cwS (cSR (.M rfl<|.B rfl (qh0 _ _) rfl<|.nil rfl) ?_)
 refine cwC h rfl ?_ ?_
 ·intro hc0 h0
  refine cSR (.A rfl<|.nil rfl) ?_
  obtain rfl := zQ h0
  exact rt1 rfl rfl rfl
 intro hc0 h1
 refine cwK ?_
 have ⟨x0,hx0,h2⟩ := bdS h1
 refine cSR (.M rfl<|.M rfl<|.c (qc6 (fun n => bif Nat.beq n 0 then 0 else 1) rfl rfl .no rfl Try.func130 rfl rfl rfl hm55_Inc (qn3 hx0) (.cons rfl (.p rfl) (.cons rfl .d .nil)) (by decide) (qu2 rfl ⟨(by simp [AV.live,lk,Nat.beq]),tV,tV⟩ (by decide) rfl (by simp [qd,OB.live,OD.live,OD.lives,AV.live,lk,Nat.beq]) rfl (OD.dat_live (qc _)) (by simp)) (.inl rfl))<|.A rfl<|.nil rfl) ?_
 obtain rfl := zQ h2
 exact rt1 rfl rfl rfl
end
end Go.Val
