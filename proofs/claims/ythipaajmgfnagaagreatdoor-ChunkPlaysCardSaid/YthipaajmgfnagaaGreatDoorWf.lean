/- Walks of the program's functions,printed. -/
import Derived.Test.YthipaajmgfnagaaGreatDoorWe
import Derived.Test.YthipaajmgfnagaaGreatDoorHc2
import Derived.Test.YthipaajmgfnagaaGreatDoorX1
set_option linter.unusedSectionVars false
set_option linter.unusedVariables false
set_option linter.unusedSimpArgs false
set_option maxRecDepth 100000
namespace Go.Val
open Go.RowKit Go.Proofs
section
variable [NoDrw]
noncomputable def qM0 (a0 : List (B8 × ByteArray)) : Option (List (List UInt8 × ByteArray)) := (((qA (V := (Int × (List (List UInt8 × ByteArray)))) (O := (List (List UInt8 × ByteArray))) (fun v0 => cond (decide (v0.1 < (a0.length : Int))) ((gx a0 v0.1).bind fun x0 => some (.inl ((IntKind.wrap .i64 (v0.1 + 1)),(mset v0.2 x0.1 x0.2)))) (some (.inr v0.2))) (0,[])
 ) : Option (List (List UInt8 × ByteArray)))).bind fun o0 => some o0
noncomputable def q92 (a0 : List (List UInt8 × ByteArray)) (a1 : (B8 × ByteArray × Bool)) : Option (List (List UInt8 × ByteArray)) := (((cond a1.2.2 (some (mdel a0 a1.1)) (some (mset a0 a1.1 a1.2.1))) : Option (List (List UInt8 × ByteArray)))).bind fun o0 => some o0
noncomputable def qm1 (a0 : List (List UInt8 × ByteArray)) : Option ((List (B8 × ByteArray)) × (List (List UInt8 × ByteArray))) := ((((fits a0.length 24).bind fun _ => qA (V := (Int × (List (B8 × ByteArray)))) (O := (List (B8 × ByteArray))) (fun v0 => cond (decide (v0.1 < ((qp (a0.map fun p => p.1)).length : Int))) ((gx (qp (a0.map fun p => p.1)) v0.1).bind fun x0 =>
    (fits (v0.2.length + ([(x0,((mget a0 x0).getD (ByteArray.mk #[])))]).length) 40).bind fun _ => some (.inl ((IntKind.wrap .i64 (v0.1 + 1)),(v0.2 ++ [(x0,((mget a0 x0).getD (ByteArray.mk #[])))])))) (some (.inr v0.2))) (0,[])) : Option (List (B8 × ByteArray)))).bind fun o0 => some (o0,a0)
noncomputable def qq3 (a0 : List (B8 × ByteArray)) : Option (List (B8 × ByteArray)) := (qM0 a0).bind fun x0 => (qm1 x0).bind fun x1 => some x1.1
noncomputable def qB1 (a0 : List (List UInt8 × (B8 × ByteArray × Bool))) : Option ((List (B8 × ByteArray × Bool)) × (List (List UInt8 × (B8 × ByteArray × Bool)))) := ((((fits a0.length 24).bind fun _ => qA (V := (Int × (List (B8 × ByteArray × Bool)))) (O := (List (B8 × ByteArray × Bool))) (fun v0 => cond (decide (v0.1 < ((qp (a0.map fun p => p.1)).length : Int))) (
    (gx (qp (a0.map fun p => p.1)) v0.1).bind fun x0 => (fits (v0.2.length + ([((mget a0 x0).getD ((List.replicate 24 0),(ByteArray.mk #[]),false))]).length) 48).bind fun _ => some (.inl ((IntKind.wrap .i64 (v0.1 + 1)),(v0.2 ++ [((mget a0 x0).getD ((List.replicate 24 0),(ByteArray.mk #[]),false))])))) (some (.inr v0.2))) (0,[])
 ) : Option (List (B8 × ByteArray × Bool)))).bind fun o0 => some (o0,a0)
noncomputable def q82 (a0 : List (B8 × ByteArray)) (a1 : List (B8 × ByteArray × Bool)) : Option (List (B8 × ByteArray)) := (qM0 a0).bind fun x0 => (((qA (V := (Int × (List (List UInt8 × ByteArray)))) (O := (List (List UInt8 × ByteArray))) (fun v0 => cond (decide (v0.1 < (a1.length : Int))) ((gx a1 v0.1).bind fun x1 => (q92 v0.2 x1).bind fun x2 =>
    some (.inl ((IntKind.wrap .i64 (v0.1 + 1)),x2))) (some (.inr v0.2))) (0,x0)) : Option (List (List UInt8 × ByteArray)))).bind fun o0 => (qm1 o0).bind fun x3 => some x3.1
noncomputable def qn1 (a0 : List (List (B8 × ByteArray × Bool))) : Option (List (B8 × ByteArray × Bool)) := (((qA (V := (Int × Int)) (O := Int) (fun v0 => cond (decide (v0.2 < (a0.length : Int))) ((gx a0 v0.2).bind fun x0 => cond (decide ((IntKind.wrap .i64 (v0.1 + (x0.length : Int))) < 0)) (none) (
     some (.inl ((IntKind.wrap .i64 (v0.1 + (x0.length : Int))),(IntKind.wrap .i64 (v0.2 + 1)))))) (some (.inr v0.1))) (0,0)) : Option Int)).bind fun o0 => (ck (decide (0 ≤ o0 ∧ o0.toNat * 48 ≤ 140737488355328))).bind fun _ => (((qA (V := (Int × (List (B8 × ByteArray × Bool)))) (O := (List (B8 × ByteArray × Bool))) (fun v1 => cond (decide (v1.1 < (a0.length : Int))) (
    (gx a0 v1.1).bind fun x1 => (fits (v1.2.length + x1.length) 48).bind fun _ => some (.inl ((IntKind.wrap .i64 (v1.1 + 1)),(v1.2 ++ x1)))) (some (.inr v1.2))) (0,([] : List (B8 × ByteArray × Bool)))) : Option (List (B8 × ByteArray × Bool)))).bind fun o1 => some o1
noncomputable def qj2 (a0 : List (List (B8 × ByteArray × Bool))) : Option (List (B8 × ByteArray × Bool)) := ((((qn1 a0).bind fun x0 => qA (V := (Int × (List (List UInt8 × (B8 × ByteArray × Bool))))) (O := (List (List UInt8 × (B8 × ByteArray × Bool)))) (fun v0 => cond (decide (v0.1 < (x0.length : Int))) ((gx x0 v0.1).bind fun x1 => (((cond x1.2.2 (
      some (x1.1,(ByteArray.mk #[]),x1.2.2)) (some x1)) : Option (B8 × ByteArray × Bool))).bind fun o0 => some (.inl ((IntKind.wrap .i64 (v0.1 + 1)),(mset v0.2 o0.1 o0)))) (some (.inr v0.2))) (0,[])) : Option (List (List UInt8 × (B8 × ByteArray × Bool))))).bind fun o1 => (qB1 o1).bind fun x2 => some x2.1
theorem qJ3 {a0 : List (B8 × ByteArray)} {r : (List (List UInt8 × ByteArray))} (h : qM0 a0 = some r) : FnOk Tryz.prog 69 [.d (eSP_ a0)] 0 (lk []) (fun rr oo => rr = .map 0 ∧ oo = lk [(0,.map 0 (mD eK eStr r))]) := by
 refine fnO Tryz.func69 rfl rfl (cwP ?_)
 unfold qM0 at h
 refine cwS (cwR (
  .c (uA rfl)<|.nil rfl) ?_)
 refine cwS (cwR (
  .c (o_mkmap eK eStr 0 rfl rfl .no rfl)<|
  .c (uA rfl)<|.nil rfl) ?_)
 have ⟨o0,hj0,h0⟩ := bdS h
 refine cwJ (fun (z : (List (List UInt8 × ByteArray))) => St.of [(3,.map 0)] [(0,.map 0 (mD eK eStr z))]) (fun (z : (List (List UInt8 × ByteArray))) => o0 = z) ?_ ?_
 ·intro v0 hv0; subst hv0
  refine cwS (cwR (
   .c (uM rfl)<|
   .c (uA rfl)<|.nil rfl) ?_)
  have heq := ((sJ h0)).symm
  subst heq
  exact qe ⟨_,(show Leads _ _ (St.of [(2,.map 0)] [(0,.map 0 (mD eK eStr o0))]) from .w (wkF ⟨⟨_,rfl,.map rfl rfl⟩,trivial⟩ ⟨.map rfl rfl,trivial⟩ qd)),.inr rfl,_,res1 rfl rfl,rfl,rfl⟩
 refine cwS (cwR (
  .c (uM rfl)<|
  .c (qo0 (enc := ePr) (xs := a0) rfl rfl .no rfl sl35)<|
  .c (uM rfl)<|.nil rfl) ?_)
 refine cwB ?_
 refine qr (V := (Int × (List (List UInt8 × ByteArray)))) (O := (List (List UInt8 × ByteArray))) (fun (z : (Int × (List (List UInt8 × ByteArray)))) => St.of [(3,.map 0),(7,.d (eSP_ a0)),(8,.d (eint (a0.length : Int))),(9,.d (eint z.1))] [(0,.map 0 (mD eK eStr z.2))]) hj0 (.w (wkF ⟨⟨_,rfl,.map rfl rfl⟩,wD rfl,wD rfl,wD rfl,trivial⟩ ⟨.map rfl rfl,trivial⟩ qd)) ?_
 intro v1 x0 hb0 hx0
 refine cwS (cwR (
  .c (uB rfl (q31 _ _) rfl)<|.nil rfl) ?_)
 refine cwS ?_
 rcases cdS hb0 with ⟨hc0,h1⟩ | ⟨hc0,h2⟩
 ·refine cwT rfl hc0 ?_
  refine cwK ?_
  refine cwS ?_
  refine cwB ?_
  have ⟨x1,hx1,h3⟩ := bdS h1
  have hx1g := qn hx1
  refine cwS (cwR (
   .c (qZ1 (enc := ePr) (xs := a0) rfl rfl .no rfl rfl sl35 sz47 hx1g.1 hx1g.2)<|
   .c (o_ld rfl rfl .no rfl ta47 rfl rfl)<|
   .c (qm 1 rfl rfl .no ze47 rfl)<|
   .c (uS [] rfl sz47 rfl)<|.nil rfl) ?_)
  refine cwR (
   .c (uM rfl)<|
   .c (uF rfl qK3 rfl)<|
   .c (uL [0] rfl ta39 rfl)<|
   .c (uF rfl qm3 rfl)<|
   .c (uL [1] rfl ta9 rfl)<|
   .c (o_mapset (ek := eK) (ev := eStr) (m := v1.2) x1.1 x1.2 rfl .no rfl rfl rfl rfl mp122 kl39 rfl)<|.nil rfl
  ) ?_
  refine cwR (
   .c (uB rfl (q61 _ _) rfl)<|
   .c (uM rfl)<|.nil rfl
  ) ?_
  exact ⟨((IntKind.wrap .i64 (v1.1 + 1)),(mset v1.2 x1.1 x1.2)),(sJ h3),.w (wkF ⟨⟨_,rfl,.map rfl rfl⟩,wD rfl,wD rfl,wD rfl,trivial⟩ ⟨.map0 rfl rfl rfl (noIter rfl),trivial⟩ qd)⟩
 refine cwF rfl hc0 ?_
 refine qG ?_
 exact ⟨v1.2,(hx0 _ (sJ h2)).symm,.w (wkF ⟨⟨_,rfl,.map rfl rfl⟩,trivial⟩ ⟨.map rfl rfl,trivial⟩ qd)⟩
theorem delta_does_ok {a0 : List (List UInt8 × ByteArray)} {a1 : (B8 × ByteArray × Bool)} {r : (List (List UInt8 × ByteArray))} (h : q92 a0 a1 = some r) (u0 : Nat) : FnOk Tryz.prog 70 [.map 0,.d (eCg a1)] 1 (lk [(0,.map u0 (mD eK eStr a0))]) (fun rr oo => rr = .tup [] ∧ oo = lk [(0,.map (u0 + 1) (mD eK eStr r))]) := by
 refine fnO Tryz.func70 rfl rfl (cwP ?_)
 unfold q92 at h
 have ⟨o0,hj0,h0⟩ := bdS h
 refine qV4 (fun (z : (List (List UInt8 × ByteArray))) => St.of [] [(0,.map (u0 + 1) (mD eK eStr z))]) (fun (z : (List (List UInt8 × ByteArray))) => o0 = z) ?_ ?_
 ·intro v0 hv0; subst hv0
  have heq := ((sJ h0)).symm
  subst heq
  exact ⟨_,(show Leads _ _ (St.of [] [(0,.map (u0 + 1) (mD eK eStr o0))]) from .w (wkF trivial ⟨.map rfl rfl,trivial⟩ (qq rfl))),.inl rfl,_,res0 rfl,rfl,rfl⟩
 refine cwS (cwR (
  .c (uX 1 rfl)<|.nil rfl) ?_)
 refine cwS (cwR (
  .c (uF rfl fld88_2 rfl)<|
  .c (uL [2] rfl ta4 rfl)<|.nil rfl) ?_)
 rcases cdS hj0 with ⟨hc0,h1⟩ | ⟨hc0,h2⟩
 ·refine cwT rfl hc0 ?_
  refine cwR (
   .c (uM rfl)<|
   .c (uF rfl qF3 rfl)<|
   .c (uL [0] rfl ta39 rfl)<|
   .c (o_mapdel (ek := eK) (ev := eStr) (m := a0) a1.1 rfl .no rfl rfl rfl mp122 kl39 rfl)<|.nil rfl
  ) ?_
  exact ⟨(mdel a0 a1.1),(sJ h1),.w (wkF trivial ⟨.map rfl rfl,trivial⟩ (qq rfl))⟩
 refine cwF rfl hc0 ?_
 refine cwR (
  .c (uM rfl)<|
  .c (uF rfl qF3 rfl)<|
  .c (uL [0] rfl ta39 rfl)<|
  .c (uF rfl fld88_1 rfl)<|
  .c (uL [1] rfl ta9 rfl)<|
  .c (o_mapset (ek := eK) (ev := eStr) (m := a0) a1.1 a1.2.1 rfl .no rfl rfl rfl rfl mp122 kl39 rfl)<|.nil rfl
 ) ?_
 exact ⟨(mset a0 a1.1 a1.2.1),(sJ h2),.w (wkF trivial ⟨.map rfl rfl,trivial⟩ (qq rfl))⟩
theorem qw4 {a0 : List (List UInt8 × ByteArray)} {r : ((List (B8 × ByteArray)) × (List (List UInt8 × ByteArray)))} (h : qm1 a0 = some r) (u0 : Nat) : FnOk Tryz.prog 71 [.map 0] 1 (lk [(0,.map u0 (mD eK eStr a0))]) (fun rr oo => rr = .arr 1 0 ∧ oo = lk [(0,.map u0 (mD eK eStr r.2)),(1,.arr 0 25 (r.1.map ePr))]) := by
 refine fnO Tryz.func71 rfl rfl (cwP ?_)
 unfold qm1 at h
 refine cwS (cwR (
  .c (uA rfl)<|.nil rfl) ?_)
 refine cwS (cwR (
  .c (uA rfl)<|.nil rfl) ?_)
 have ⟨o0,hj0,h0⟩ := bdS h
 refine cwJ (fun (z : (List (B8 × ByteArray))) => St.of [(3,.arr 1 0)] [(0,.map u0 (mD eK eStr a0)),(1,.arr 0 25 (z.map ePr))]) (fun (z : (List (B8 × ByteArray))) => o0 = z) ?_ ?_
 ·intro v0 hv0; subst hv0
  refine cwS (cwR (
   .c (uM rfl)<|
   .c (uA rfl)<|.nil rfl) ?_)
  have heq := ((sJ h0)).symm
  subst heq
  exact qe ⟨_,(show Leads _ _ (St.of [(2,.arr 1 0)] [(0,.map u0 (mD eK eStr a0)),(1,.arr 0 25 (o0.map ePr))]) from .w (wkF ⟨⟨_,rfl,.arr rfl rfl⟩,trivial⟩ ⟨.map rfl rfl,.arr rfl rfl,trivial⟩ (qq rfl))),.inr rfl,_,res1 rfl rfl,rfl,rfl⟩
 have ⟨x0,hx0,h1⟩ := bdS hj0
 have hx0g := qt hx0
 refine cwS (cwR (
  .c (uM rfl)<|
  .c (qC (fun n => bif Nat.beq n 0 then 0 else 3) rfl rfl .no Tryz.func109 rfl rfl (keys109_ok (ek := eK) (ev := eStr) (m := a0) u0) (.cons rfl (.m rfl) .nil) (qX1 rfl ⟨(by simp [AV.live,lk]),trivial⟩ (by decide) rfl trivial rfl (by simp)) (.inl rfl))<|
  .c (qC (fun n => bif Nat.beq n 0 then 0 else 3) rfl rfl .no Tryz.func108 rfl rfl (sorted132_ok (ev := eStr) (m := a0) u0 hx0g) (.cons rfl (.f1 rfl) (.cons rfl .f0 .nil)) (callIn2 rfl ⟨(by simp [AV.live,AV.lives,lk,Nat.beq]),(by simp [AV.live,AV.lives]),trivial⟩ (by decide) rfl trivial rfl (by simp [OB.live,AV.live,lk,Nat.beq]) (by simp)) (.inl rfl))<|
  .c (qo0 (enc := eK) (xs := (qp (a0.map fun p => p.1))) rfl rfl .no rfl sl167)<|
  .c (uM rfl)<|.nil rfl) ?_)
 refine cwB ?_
 refine qr (V := (Int × (List (B8 × ByteArray)))) (O := (List (B8 × ByteArray))) (fun (z : (Int × (List (B8 × ByteArray)))) => St.of [(0,.map 0),(3,.arr 1 0),(8,.d (eSapiKey (qp (a0.map fun p => p.1)))),(9,.d (eint ((qp (a0.map fun p => p.1)).length : Int))),(10,.d (eint z.1))] [(0,.map u0 (mD eK eStr a0)),(1,.arr 0 25 (z.2.map ePr))]) h1 (.w (wkF ⟨⟨_,rfl,.map rfl rfl⟩,⟨_,rfl,.nila rfl rfl⟩,wD rfl,wD rfl,wD rfl,trivial⟩ ⟨.map rfl rfl,.nil rfl,trivial⟩ (qq rfl))) ?_
 intro v1 x1 hb0 hx1
 refine cwS (cwR (
  .c (uB rfl (q31 _ _) rfl)<|.nil rfl) ?_)
 refine cwS ?_
 rcases cdS hb0 with ⟨hc0,h2⟩ | ⟨hc0,h3⟩
 ·refine cwT rfl hc0 ?_
  refine cwK ?_
  refine cwS ?_
  refine cwB ?_
  have ⟨x2,hx2,h4⟩ := bdS h2
  have hx2g := qn hx2
  refine cwS (cwR (
   .c (qZ1 (enc := eK) (xs := (qp (a0.map fun p => p.1))) rfl rfl .no rfl rfl sl167 sz39 hx2g.1 hx2g.2)<|
   .c (o_ld rfl rfl .no rfl ta39 rfl rfl)<|
   .c (qm 2 rfl rfl .no ze39 rfl)<|
   .c (uS [] rfl sz39 rfl)<|.nil rfl) ?_)
  have ⟨x3,hx3,h5⟩ := bdS h4
  have hx3g := qt hx3
  refine cwRA mixed (by kernel_rfl) (
   .c (uM rfl)<|
   .c (uL [] rfl ta39 rfl)<|
   .c (uM rfl)<|
   .c (uL [] rfl ta39 rfl)<|
   .c (o_mapget (ek := eK) (ev := eStr) (m := a0) x2 (ByteArray.mk #[]) rfl rfl .no rfl rfl rfl mp122 kl39 ze9 rfl rfl)<|
   .c (qL4 (ds := [eK x2,eStr ((mget a0 x2).getD (ByteArray.mk #[]))]) rfl rfl .no zs47 rfl pl47 (.cons rfl rfl rfl rfl rfl rfl rfl (.cons rfl rfl rfl rfl rfl rfl rfl .nil)))<|
   .c (qc5 (rows := ([(x2,((mget a0 x2).getD (ByteArray.mk #[])))] : List (B8 × ByteArray)).map ePr) rfl rfl .no (.cons rfl .nil) rfl sl35 sz47 ze47 rfl (qC1 qE0) (by decide))<|
   .c (qN1 (enc := ePr) (xs := v1.2) (ys := [(x2,((mget a0 x2).getD (ByteArray.mk #[])))]) rfl rfl .no rfl rfl rfl qE0 sl35 sl35 sz47 by47 ze47 rfl (by decide) hx3g)<|
   .c (uA rfl)<|.nil rfl) (by kernel_rfl) ?_
  refine cwR (
   .c (uB rfl (q61 _ _) rfl)<|
   .c (uM rfl)<|.nil rfl
  ) ?_
  exact ⟨((IntKind.wrap .i64 (v1.1 + 1)),(v1.2 ++ [(x2,((mget a0 x2).getD (ByteArray.mk #[])))])),(sJ h5),.w (wkF ⟨⟨_,rfl,.map rfl rfl⟩,⟨_,rfl,.arr rfl rfl⟩,wD rfl,wD rfl,wD rfl,trivial⟩ ⟨.map rfl rfl,.arr0 rfl rfl rfl,trivial⟩ (qq rfl))⟩
 refine cwF rfl hc0 ?_
 refine qG ?_
 exact ⟨v1.2,(hx1 _ (sJ h3)).symm,.w (wkF ⟨⟨_,rfl,.arr rfl rfl⟩,trivial⟩ ⟨.map rfl rfl,.arr rfl rfl,trivial⟩ (qq rfl))⟩
theorem delta_Map_ok {a0 : List (B8 × ByteArray)} {r : (List (B8 × ByteArray))} (h : qq3 a0 = some r) : FnOk Tryz.prog 60 [.d (eSP_ a0)] 0 (lk []) (fun rr oo => rr = .d (eSP_ r) ∧ oo = lk []) := by
 refine fnO Tryz.func60 rfl rfl (cwP ?_)
 unfold qq3 at h
 refine cwS (cwR (
  .c (uA rfl)<|.nil rfl) ?_)
 have ⟨x0,hx0,h0⟩ := bdS (x := qM0 a0) h
 have ⟨x1,hx1,h1⟩ := bdS (x := qm1 x0) h0
 refine cwS (cwR (
  .c (uM rfl)<|
  .c (qd2 0 rfl rfl .no Tryz.func69 rfl rfl (qJ3 hx0) (.cons rfl .d .nil) ⟨trivial,trivial⟩ rfl (.inl rfl))<|
  .c (qC (fun n => bif Nat.beq n 0 then 0 else 1) rfl rfl .no Tryz.func71 rfl rfl (qw4 hx1 0) (.cons rfl (.m rfl) .nil) (qX1 rfl ⟨(by simp [AV.live,lk,Nat.beq]),trivial⟩ (by decide) rfl trivial rfl (by simp)) (.inl rfl))<|
  .c (uA rfl)<|.nil rfl) ?_)
 have heq := ((sJ h1)).symm
 subst heq
 exact qe ⟨_,(show Leads _ _ (St.of [(2,.d (eSP_ x1.1))] []) from .w (wkF ⟨⟨_,rfl,.frz rfl rfl rfl⟩,trivial⟩ trivial qd)),.inr rfl,_,res1 rfl rfl,rfl,rfl⟩
theorem delta_rising_ok {a0 : List (List UInt8 × (B8 × ByteArray × Bool))} {r : ((List (B8 × ByteArray × Bool)) × (List (List UInt8 × (B8 × ByteArray × Bool))))} (h : qB1 a0 = some r) (u0 : Nat) : FnOk Tryz.prog 74 [.map 0] 1 (lk [(0,.map u0 (mD eK eCg a0))]) (fun rr oo => rr = .arr 1 0 ∧ oo = lk [(0,.map u0 (mD eK eCg r.2)),(1,.arr 0 26 (r.1.map eCg))]) := by
 refine fnO Tryz.func74 rfl rfl (cwP ?_)
 unfold qB1 at h
 refine cwS (cwR (
  .c (uA rfl)<|.nil rfl) ?_)
 refine cwS (cwR (
  .c (uA rfl)<|.nil rfl) ?_)
 have ⟨o0,hj0,h0⟩ := bdS h
 refine cwJ (fun (z : (List (B8 × ByteArray × Bool))) => St.of [(3,.arr 1 0)] [(0,.map u0 (mD eK eCg a0)),(1,.arr 0 26 (z.map eCg))]) (fun (z : (List (B8 × ByteArray × Bool))) => o0 = z) ?_ ?_
 ·intro v0 hv0; subst hv0
  refine cwS (cwR (
   .c (uM rfl)<|
   .c (uA rfl)<|.nil rfl) ?_)
  have heq := ((sJ h0)).symm
  subst heq
  exact qe ⟨_,(show Leads _ _ (St.of [(2,.arr 1 0)] [(0,.map u0 (mD eK eCg a0)),(1,.arr 0 26 (o0.map eCg))]) from .w (wkF ⟨⟨_,rfl,.arr rfl rfl⟩,trivial⟩ ⟨.map rfl rfl,.arr rfl rfl,trivial⟩ (qq rfl))),.inr rfl,_,res1 rfl rfl,rfl,rfl⟩
 have ⟨x0,hx0,h1⟩ := bdS hj0
 have hx0g := qt hx0
 refine cwS (cwR (
  .c (uM rfl)<|
  .c (qC (fun n => bif Nat.beq n 0 then 0 else 3) rfl rfl .no Tryz.func113 rfl rfl (keys113_ok (ek := eK) (ev := eCg) (m := a0) u0) (.cons rfl (.m rfl) .nil) (qX1 rfl ⟨(by simp [AV.live,lk]),trivial⟩ (by decide) rfl trivial rfl (by simp)) (.inl rfl))<|
  .c (qC (fun n => bif Nat.beq n 0 then 0 else 3) rfl rfl .no Tryz.func108 rfl rfl (sorted137_ok (ev := eCg) (m := a0) u0 hx0g) (.cons rfl (.f1 rfl) (.cons rfl .f0 .nil)) (callIn2 rfl ⟨(by simp [AV.live,AV.lives,lk,Nat.beq]),(by simp [AV.live,AV.lives]),trivial⟩ (by decide) rfl trivial rfl (by simp [OB.live,AV.live,lk,Nat.beq]) (by simp)) (.inl rfl))<|
  .c (qo0 (enc := eK) (xs := (qp (a0.map fun p => p.1))) rfl rfl .no rfl sl167)<|
  .c (uM rfl)<|.nil rfl) ?_)
 refine cwB ?_
 refine qr (V := (Int × (List (B8 × ByteArray × Bool)))) (O := (List (B8 × ByteArray × Bool))) (fun (z : (Int × (List (B8 × ByteArray × Bool)))) => St.of [(0,.map 0),(3,.arr 1 0),(8,.d (eSapiKey (qp (a0.map fun p => p.1)))),(9,.d (eint ((qp (a0.map fun p => p.1)).length : Int))),(10,.d (eint z.1))] [(0,.map u0 (mD eK eCg a0)),(1,.arr 0 26 (z.2.map eCg))]) h1 (.w (wkF ⟨⟨_,rfl,.map rfl rfl⟩,⟨_,rfl,.nila rfl rfl⟩,wD rfl,wD rfl,wD rfl,trivial⟩ ⟨.map rfl rfl,.nil rfl,trivial⟩ (qq rfl))) ?_
 intro v1 x1 hb0 hx1
 refine cwS (cwR (
  .c (uB rfl (q31 _ _) rfl)<|.nil rfl) ?_)
 refine cwS ?_
 rcases cdS hb0 with ⟨hc0,h2⟩ | ⟨hc0,h3⟩
 ·refine cwT rfl hc0 ?_
  refine cwK ?_
  refine cwS ?_
  refine cwB ?_
  have ⟨x2,hx2,h4⟩ := bdS h2
  have hx2g := qn hx2
  refine cwS (cwR (
   .c (qZ1 (enc := eK) (xs := (qp (a0.map fun p => p.1))) rfl rfl .no rfl rfl sl167 sz39 hx2g.1 hx2g.2)<|
   .c (o_ld rfl rfl .no rfl ta39 rfl rfl)<|
   .c (qm 2 rfl rfl .no ze39 rfl)<|
   .c (uS [] rfl sz39 rfl)<|.nil rfl) ?_)
  have ⟨x3,hx3,h5⟩ := bdS h4
  have hx3g := qt hx3
  refine cwR (
   .c (uM rfl)<|
   .c (uM rfl)<|
   .c (uL [] rfl ta39 rfl)<|
   .c (o_mapget (ek := eK) (ev := eCg) (m := a0) x2 ((List.replicate 24 0),(ByteArray.mk #[]),false) rfl rfl .no rfl rfl rfl mp73 kl39 ze88 rfl rfl)<|
   .c (qc5 (rows := ([((mget a0 x2).getD ((List.replicate 24 0),(ByteArray.mk #[]),false))] : List (B8 × ByteArray × Bool)).map eCg) rfl rfl .no (.cons rfl .nil) rfl sl49 sz88 ze88 rfl (qC1 q70) (by decide))<|
   .c (qN1 (enc := eCg) (xs := v1.2) (ys := [((mget a0 x2).getD ((List.replicate 24 0),(ByteArray.mk #[]),false))]) rfl rfl .no rfl rfl rfl q70 sl49 sl49 sz88 by88 ze88 rfl (by decide) hx3g)<|
   .c (uA rfl)<|.nil rfl
  ) ?_
  refine cwR (
   .c (uB rfl (q61 _ _) rfl)<|
   .c (uM rfl)<|.nil rfl
  ) ?_
  exact ⟨((IntKind.wrap .i64 (v1.1 + 1)),(v1.2 ++ [((mget a0 x2).getD ((List.replicate 24 0),(ByteArray.mk #[]),false))])),(sJ h5),.w (wkF ⟨⟨_,rfl,.map rfl rfl⟩,⟨_,rfl,.arr rfl rfl⟩,wD rfl,wD rfl,wD rfl,trivial⟩ ⟨.map rfl rfl,.arr0 rfl rfl rfl,trivial⟩ (qq rfl))⟩
 refine cwF rfl hc0 ?_
 refine qG ?_
 exact ⟨v1.2,(hx1 _ (sJ h3)).symm,.w (wkF ⟨⟨_,rfl,.arr rfl rfl⟩,trivial⟩ ⟨.map rfl rfl,.arr rfl rfl,trivial⟩ (qq rfl))⟩
theorem delta_Apply_ok {a0 : List (B8 × ByteArray)} {a1 : List (B8 × ByteArray × Bool)} {r : (List (B8 × ByteArray))} (h : q82 a0 a1 = some r) : FnOk Tryz.prog 37 [.d (eSP_ a0),.d (eSC a1)] 0 (lk []) (fun rr oo => rr = .arr 0 0 ∧ oo = lk [(0,.arr 0 25 (r.map ePr))]) := by
 refine fnO Tryz.func37 rfl rfl (cwP ?_)
 unfold q82 at h
 refine cwS (cwR (
  .c (uA rfl)<|.nil rfl) ?_)
 have ⟨x0,hx0,h0⟩ := bdS (x := qM0 a0) h
 refine cwS (cwR (
  .c (uM rfl)<|
  .c (qd2 2 rfl rfl .no Tryz.func69 rfl rfl (qJ3 hx0) (.cons rfl .d .nil) ⟨trivial,trivial⟩ rfl (.inl rfl))<|
  .c (uA rfl)<|.nil rfl) ?_)
 have ⟨o0,hj0,h1⟩ := bdS h0
 refine cwJ (fun (z : (List (List UInt8 × ByteArray))) => St.of [(5,.map 2)] [(2,.map 0 (mD eK eStr z))]) (fun (z : (List (List UInt8 × ByteArray))) => o0 = z) ?_ ?_
 ·intro v0 hv0; subst hv0
  have ⟨x1,hx1,h2⟩ := bdS (x := qm1 o0) h1
  refine cwS (cwR (
   .c (uM rfl)<|
   .c (qC (fun n => bif Nat.beq n 0 then 2 else 0) rfl rfl .no Tryz.func71 rfl rfl (qw4 hx1 0) (.cons rfl (.m rfl) .nil) (qX1 rfl ⟨(by simp [AV.live,lk,Nat.beq]),trivial⟩ (by decide) rfl trivial rfl (by simp)) (.inl rfl))<|
   .c (uA rfl)<|.nil rfl) ?_)
  have heq := ((sJ h2)).symm
  subst heq
  exact qe ⟨_,(show Leads _ _ (St.of [(4,.arr 0 0)] [(0,.arr 0 25 (x1.1.map ePr))]) from .w (wkF ⟨⟨_,rfl,.arr rfl rfl⟩,trivial⟩ ⟨.arr rfl rfl,trivial⟩ qd)),.inr rfl,_,res1 rfl rfl,rfl,rfl⟩
 refine cwS (cwR (
  .c (uM rfl)<|
  .c (qo0 (enc := eCg) (xs := a1) rfl rfl .no rfl sl49)<|
  .c (uM rfl)<|.nil rfl) ?_)
 refine cwB ?_
 refine qr (V := (Int × (List (List UInt8 × ByteArray)))) (O := (List (List UInt8 × ByteArray))) (fun (z : (Int × (List (List UInt8 × ByteArray)))) => St.of [(5,.map 2),(10,.d (eSC a1)),(11,.d (eint (a1.length : Int))),(12,.d (eint z.1))] [(2,.map 0 (mD eK eStr z.2))]) hj0 (.w (wkF ⟨⟨_,rfl,.map rfl rfl⟩,wD rfl,wD rfl,wD rfl,trivial⟩ ⟨.map rfl rfl,trivial⟩ qd)) ?_
 intro v1 x2 hb0 hx2
 refine cwS (cwR (
  .c (uB rfl (q31 _ _) rfl)<|.nil rfl) ?_)
 refine cwS ?_
 rcases cdS hb0 with ⟨hc0,h3⟩ | ⟨hc0,h4⟩
 ·refine cwT rfl hc0 ?_
  refine cwK ?_
  refine cwS ?_
  refine cwB ?_
  have ⟨x3,hx3,h5⟩ := bdS h3
  have hx3g := qn hx3
  refine cwS (cwR (
   .c (qZ1 (enc := eCg) (xs := a1) rfl rfl .no rfl rfl sl49 sz88 hx3g.1 hx3g.2)<|
   .c (o_ld rfl rfl .no rfl ta88 rfl rfl)<|
   .c (qm 1 rfl rfl .no ze88 rfl)<|
   .c (uS [] rfl sz88 rfl)<|.nil rfl) ?_)
  have ⟨x4,hx4,h6⟩ := bdS (x := q92 v1.2 x3) h5
  refine cwR (
   .c (uM rfl)<|
   .c (uL [] rfl ta88 rfl)<|
   .c (qC (fun _ => 2) rfl rfl .no Tryz.func70 rfl rfl (delta_does_ok hx4 0) (.cons rfl (.m rfl) (.cons rfl .d .nil)) (q60 rfl ⟨(by simp [AV.live,lk,Nat.beq]),trivial,trivial⟩ rfl trivial (by simp)) (.inl rfl))<|.nil rfl
  ) ?_
  refine cwR (
   .c (uB rfl (q61 _ _) rfl)<|
   .c (uM rfl)<|.nil rfl
  ) ?_
  exact ⟨((IntKind.wrap .i64 (v1.1 + 1)),x4),(sJ h6),.w (wkF ⟨⟨_,rfl,.map rfl rfl⟩,wD rfl,wD rfl,wD rfl,trivial⟩ ⟨.map0 rfl rfl rfl (noIter rfl),trivial⟩ qd)⟩
 refine cwF rfl hc0 ?_
 refine qG ?_
 exact ⟨v1.2,(hx2 _ (sJ h4)).symm,.w (wkF ⟨⟨_,rfl,.map rfl rfl⟩,trivial⟩ ⟨.map rfl rfl,trivial⟩ qd)⟩
theorem slices_Concat_ok {a0 : List (List (B8 × ByteArray × Bool))} {r : (List (B8 × ByteArray × Bool))} (h : qn1 a0 = some r) : FnOk Tryz.prog 73 [.d (eSSC a0)] 0 (lk []) (fun rr oo => rr = .d (eSC r) ∧ oo = lk []) := by
 refine fnO Tryz.func73 rfl rfl (cwP ?_)
 unfold qn1 at h
 refine cwS (cwR (
  .c (uA rfl)<|.nil rfl) ?_)
 refine cwS (cwR (
  .c (uA rfl)<|.nil rfl) ?_)
 have ⟨o0,hj0,h0⟩ := bdS h
 refine cwJ (fun (z : Int) => St.of [(0,.d (eSSC a0)),(3,.d (eint z))] []) (fun (z : Int) => o0 = z) ?_ ?_
 ·intro v0 hv0; subst hv0
  have ⟨x0,hx0,h1⟩ := bdS h0
  have hx0g := qK hx0
  refine cwS (cwR (
   .c (uM rfl)<|
   .c (qd2 0 rfl rfl .no Tryz.func112 rfl rfl (grow112_ok hx0g) (.cons rfl .d (.cons rfl .d .nil)) ⟨trivial,trivial,trivial⟩ rfl (.inl rfl))<|
   .c (uA rfl)<|.nil rfl) ?_)
  have ⟨o1,hj1,h2⟩ := bdS h1
  refine cwJ (fun (z : (List (B8 × ByteArray × Bool))) => St.of [(6,.arr 0 0)] [(0,.arr 0 26 (z.map eCg))]) (fun (z : (List (B8 × ByteArray × Bool))) => o1 = z) ?_ ?_
  ·intro v1 hv1; subst hv1
   refine cwS (cwR (
    .c (uM rfl)<|
    .c (uA rfl)<|.nil rfl) ?_)
   have heq := ((sJ h2)).symm
   subst heq
   exact qe ⟨_,(show Leads _ _ (St.of [(2,.d (eSC o1))] []) from .w (wkF ⟨⟨_,rfl,.frz rfl rfl rfl⟩,trivial⟩ trivial qd)),.inr rfl,_,res1 rfl rfl,rfl,rfl⟩
  refine cwS (cwR (
   .c (uM rfl)<|
   .c (qo0 (enc := eSC) (xs := a0) rfl rfl .no rfl sl60)<|
   .c (uM rfl)<|.nil rfl) ?_)
  refine cwB ?_
  refine qr (V := (Int × (List (B8 × ByteArray × Bool)))) (O := (List (B8 × ByteArray × Bool))) (fun (z : (Int × (List (B8 × ByteArray × Bool)))) => St.of [(6,.arr 0 0),(25,.d (eSSC a0)),(26,.d (eint (a0.length : Int))),(27,.d (eint z.1))] [(0,.arr 0 26 (z.2.map eCg))]) hj1 (.w (wkF ⟨⟨_,rfl,.arr rfl rfl⟩,wD rfl,wD rfl,wD rfl,trivial⟩ ⟨.arr rfl rfl,trivial⟩ qd)) ?_
  intro v2 x1 hb0 hx1
  refine cwS (cwR (
   .c (uB rfl (q31 _ _) rfl)<|.nil rfl) ?_)
  refine cwS ?_
  rcases cdS hb0 with ⟨hc0,h3⟩ | ⟨hc0,h4⟩
  ·refine cwT rfl hc0 ?_
   refine cwK ?_
   refine cwS ?_
   refine cwB ?_
   have ⟨x2,hx2,h5⟩ := bdS h3
   have hx2g := qn hx2
   refine cwS (cwR (
    .c (qZ1 (enc := eSC) (xs := a0) rfl rfl .no rfl rfl sl60 sz49 hx2g.1 hx2g.2)<|
    .c (o_ld rfl rfl .no rfl ta49 rfl rfl)<|
    .c (uA rfl)<|.nil rfl) ?_)
   have ⟨x3,hx3,h6⟩ := bdS h5
   have hx3g := qt hx3
   refine cwR (
    .c (uM rfl)<|
    .c (uM rfl)<|
    .c (qN1 (enc := eCg) (xs := v2.2) (ys := x2) rfl rfl .no rfl rfl rfl q70 sl49 sl49 sz88 by88 ze88 rfl (by decide) hx3g)<|
    .c (uA rfl)<|.nil rfl
   ) ?_
   refine cwR (
    .c (uB rfl (q61 _ _) rfl)<|
    .c (uM rfl)<|.nil rfl
   ) ?_
   exact ⟨((IntKind.wrap .i64 (v2.1 + 1)),(v2.2 ++ x2)),(sJ h6),.w (wkF ⟨⟨_,rfl,.arr rfl rfl⟩,wD rfl,wD rfl,wD rfl,trivial⟩ ⟨.arr0 rfl rfl rfl,trivial⟩ qd)⟩
  refine cwF rfl hc0 ?_
  refine qG ?_
  exact ⟨v2.2,(hx1 _ (sJ h4)).symm,.w (wkF ⟨⟨_,rfl,.arr rfl rfl⟩,trivial⟩ ⟨.arr rfl rfl,trivial⟩ qd)⟩
 refine cwS (cwR (
  .c (uM rfl)<|
  .c (qo0 (enc := eSC) (xs := a0) rfl rfl .no rfl sl60)<|
  .c (uM rfl)<|.nil rfl) ?_)
 refine cwB ?_
 refine qr (V := (Int × Int)) (O := Int) (fun (z : (Int × Int)) => St.of [(0,.d (eSSC a0)),(3,.d (eint z.1)),(9,.d (eSSC a0)),(10,.d (eint (a0.length : Int))),(11,.d (eint z.2))] []) hj0 (.w (wkF ⟨wD rfl,wD rfl,wD rfl,wD rfl,wD rfl,trivial⟩ trivial qd)) ?_
 intro v3 x4 hb1 hx4
 refine cwS (cwR (
  .c (uB rfl (q31 _ _) rfl)<|.nil rfl) ?_)
 refine cwS ?_
 rcases cdS hb1 with ⟨hc1,h7⟩ | ⟨hc1,h8⟩
 ·refine cwT rfl hc1 ?_
  refine cwK ?_
  refine cwS ?_
  refine cwB ?_
  have ⟨x5,hx5,h9⟩ := bdS h7
  have hx5g := qn hx5
  refine cwS (cwR (
   .c (qZ1 (enc := eSC) (xs := a0) rfl rfl .no rfl rfl sl60 sz49 hx5g.1 hx5g.2)<|
   .c (o_ld rfl rfl .no rfl ta49 rfl rfl)<|
   .c (uA rfl)<|.nil rfl) ?_)
  refine cwS (cwR (
   .c (uM rfl)<|
   .c (uM rfl)<|
   .c (qo0 (enc := eCg) (xs := x5) rfl rfl .no rfl sl49)<|
   .c (uB rfl (q61 _ _) rfl)<|
   .c (uA rfl)<|.nil rfl) ?_)
  refine cwS (cwR (
   .c (uM rfl)<|
   .c (uB rfl (q31 _ _) rfl)<|.nil rfl) ?_)
  rcases cdS h9 with ⟨hc2,h10⟩ | ⟨hc2,h11⟩
  ·refine cwT rfl hc2 ?_
   exact nomatch h10
  refine cwF rfl hc2 ?_
  refine cwK ?_
  refine cwR (
   .c (uB rfl (q61 _ _) rfl)<|
   .c (uM rfl)<|.nil rfl
  ) ?_
  exact ⟨((IntKind.wrap .i64 (v3.1 + (x5.length : Int))),(IntKind.wrap .i64 (v3.2 + 1))),(sJ h11),.w (wkF ⟨wD rfl,wD rfl,wD rfl,wD rfl,wD rfl,trivial⟩ trivial qd)⟩
 refine cwF rfl hc1 ?_
 refine qG ?_
 exact ⟨v3.1,(hx4 _ (sJ h8)).symm,.w (wkF ⟨wD rfl,wD rfl,trivial⟩ trivial qd)⟩
theorem delta_Join_ok {a0 : List (List (B8 × ByteArray × Bool))} {r : (List (B8 × ByteArray × Bool))} (h : qj2 a0 = some r) : FnOk Tryz.prog 41 [.d (eSSC a0)] 0 (lk []) (fun rr oo => rr = .arr 0 0 ∧ oo = lk [(0,.arr 0 26 (r.map eCg))]) := by
 refine fnO Tryz.func41 rfl rfl (cwP ?_)
 unfold qj2 at h
 refine cwS (cwR (
  .c (uA rfl)<|.nil rfl) ?_)
 refine cwS (cwR (
  .c (o_mkmap eK eCg 2 rfl rfl .no rfl)<|
  .c (uA rfl)<|.nil rfl) ?_)
 have ⟨o0,hj0,h0⟩ := bdS h
 refine cwJ (fun (z : (List (List UInt8 × (B8 × ByteArray × Bool)))) => St.of [(3,.map 2)] [(2,.map 0 (mD eK eCg z))]) (fun (z : (List (List UInt8 × (B8 × ByteArray × Bool)))) => o0 = z) ?_ ?_
 ·intro v0 hv0; subst hv0
  have ⟨x0,hx0,h1⟩ := bdS (x := qB1 o0) h0
  refine cwS (cwR (
   .c (uM rfl)<|
   .c (qC (fun n => bif Nat.beq n 0 then 2 else 0) rfl rfl .no Tryz.func74 rfl rfl (delta_rising_ok hx0 0) (.cons rfl (.m rfl) .nil) (qX1 rfl ⟨(by simp [AV.live,lk,Nat.beq]),trivial⟩ (by decide) rfl trivial rfl (by simp)) (.inl rfl))<|
   .c (uA rfl)<|.nil rfl) ?_)
  have heq := ((sJ h1)).symm
  subst heq
  exact qe ⟨_,(show Leads _ _ (St.of [(2,.arr 0 0)] [(0,.arr 0 26 (x0.1.map eCg))]) from .w (wkF ⟨⟨_,rfl,.arr rfl rfl⟩,trivial⟩ ⟨.arr rfl rfl,trivial⟩ qd)),.inr rfl,_,res1 rfl rfl,rfl,rfl⟩
 have ⟨x1,hx1,h2⟩ := bdS (x := qn1 a0) hj0
 refine cwS (cwR (
  .c (uM rfl)<|
  .c (qj rfl rfl .no Tryz.func73 rfl rfl (slices_Concat_ok hx1) (.cons rfl .d .nil) ⟨trivial,trivial⟩ (.inl rfl))<|
  .c (qo0 (enc := eCg) (xs := x1) rfl rfl .no rfl sl49)<|
  .c (uM rfl)<|.nil rfl) ?_)
 refine cwB ?_
 refine qr (V := (Int × (List (List UInt8 × (B8 × ByteArray × Bool))))) (O := (List (List UInt8 × (B8 × ByteArray × Bool)))) (fun (z : (Int × (List (List UInt8 × (B8 × ByteArray × Bool))))) => St.of [(3,.map 2),(8,.d (eSC x1)),(9,.d (eint (x1.length : Int))),(10,.d (eint z.1))] [(2,.map 0 (mD eK eCg z.2))]) h2 (.w (wkF ⟨⟨_,rfl,.map rfl rfl⟩,wD rfl,wD rfl,wD rfl,trivial⟩ ⟨.map rfl rfl,trivial⟩ qd)) ?_
 intro v1 x2 hb0 hx2
 refine cwS (cwR (
  .c (uB rfl (q31 _ _) rfl)<|.nil rfl) ?_)
 refine cwS ?_
 rcases cdS hb0 with ⟨hc0,h3⟩ | ⟨hc0,h4⟩
 ·refine cwT rfl hc0 ?_
  refine cwK ?_
  refine cwS ?_
  refine cwB ?_
  have ⟨x3,hx3,h5⟩ := bdS h3
  have hx3g := qn hx3
  refine cwS (cwR (
   .c (qZ1 (enc := eCg) (xs := x1) rfl rfl .no rfl rfl sl49 sz88 hx3g.1 hx3g.2)<|
   .c (o_ld rfl rfl .no rfl ta88 rfl rfl)<|
   .c (qm 1 rfl rfl .no ze88 rfl)<|
   .c (uS [] rfl sz88 rfl)<|.nil rfl) ?_)
  have ⟨o1,hj1,h6⟩ := bdS h5
  refine cwJ (fun (z : (B8 × ByteArray × Bool)) => St.of [(3,.map 2),(5,.ptr 1 0),(8,.d (eSC x1)),(9,.d (eint (x1.length : Int))),(10,.d (eint v1.1))] [(1,.box (.d (eCg z))),(2,.map 0 (mD eK eCg v1.2))]) (fun (z : (B8 × ByteArray × Bool)) => o1 = z) ?_ ?_
  ·intro v2 hv1; subst hv1
   refine cwR (
    .c (uM rfl)<|
    .c (uF rfl qF3 rfl)<|
    .c (uL [0] rfl ta39 rfl)<|
    .c (uL [] rfl ta88 rfl)<|
    .c (o_mapset (ek := eK) (ev := eCg) (m := v1.2) o1.1 o1 rfl .no rfl rfl rfl rfl mp73 kl39 rfl)<|.nil rfl
   ) ?_
   refine cwR (
    .c (uB rfl (q61 _ _) rfl)<|
    .c (uM rfl)<|.nil rfl
   ) ?_
   exact ⟨((IntKind.wrap .i64 (v1.1 + 1)),(mset v1.2 o1.1 o1)),(sJ h6),.w (wkF ⟨⟨_,rfl,.map rfl rfl⟩,wD rfl,wD rfl,wD rfl,trivial⟩ ⟨.map0 rfl rfl rfl (noIter rfl),trivial⟩ qd)⟩
  refine cwS (cwR (
   .c (uF rfl fld88_2 rfl)<|
   .c (uL [2] rfl ta4 rfl)<|.nil rfl) ?_)
  rcases cdS hj1 with ⟨hc1,h7⟩ | ⟨hc1,h8⟩
  ·refine cwT rfl hc1 ?_
   refine cwR (
    .c (uF rfl fld88_1 rfl)<|
    .c (uS [1] rfl sz9 rfl)<|.nil rfl
   ) ?_
   exact ⟨(x3.1,(ByteArray.mk #[]),x3.2.2),(sJ h7),.w (wkF ⟨⟨_,rfl,.map rfl rfl⟩,⟨_,rfl,.ptr rfl rfl⟩,wD rfl,wD rfl,wD rfl,trivial⟩ ⟨.box rfl (.d rfl),.map rfl rfl,trivial⟩ qd)⟩
  refine cwF rfl hc1 ?_
  refine cwK ?_
  exact ⟨x3,(sJ h8),.w (wkF ⟨⟨_,rfl,.map rfl rfl⟩,⟨_,rfl,.ptr rfl rfl⟩,wD rfl,wD rfl,wD rfl,trivial⟩ ⟨.box rfl (.d rfl),.map rfl rfl,trivial⟩ qd)⟩
 refine cwF rfl hc0 ?_
 refine qG ?_
 exact ⟨v1.2,(hx2 _ (sJ h4)).symm,.w (wkF ⟨⟨_,rfl,.map rfl rfl⟩,trivial⟩ ⟨.map rfl rfl,trivial⟩ qd)⟩
end
end Go.Val
