/- Walks of the program's functions,printed. -/
import Derived.Test.YthipaajmgfnagaaGreatDoorWh
import Derived.Test.YthipaajmgfnagaaGreatDoorX1
set_option linter.unusedSectionVars false
set_option linter.unusedVariables false
set_option linter.unusedSimpArgs false
set_option maxRecDepth 100000
namespace Go.Val
open Go.RowKit Go.Proofs
section
variable [NoDrw]
noncomputable abbrev qd4 : Code := match Tryz.f13.body with | some (.seq _ (.seq _ (.seq (.seq _ (.block _ (.rangeFunc _ _ a _))) _))) => a | _ => .skip
noncomputable abbrev q54 : Code := match Tryz.f13.body with | some (.seq _ (.seq _ (.seq (.seq _ (.block _ (.rangeFunc _ _ _ b))) _))) => b | _ => .skip
def qw1 : List (Nat × AV) := [(4,.ptr 1 0),(5,.ptr 2 0),(7,.ptr 3 0),(8,.ptr 4 0)]
def q11 (a1 : Int) (v : VwT) (a3 : ByteArray) : List (Nat × OB) := [(0,.own (oVV v)),(1,.box (.ptr 0 0)),(2,.box (.d (eint a1))),(3,.box (.d (eStr a3))),(4,.box (.d (eErr 0)))]
noncomputable def qQ (a1 : Int) (v : VwT) (a3 : ByteArray) (p : (Int × Int × Int)) : Option (VwT × ByteArray) := (cutB 0 p.2.2 a3.size).bind fun _ => (cutB p.2.2 (a3.size : Int) a3.size).bind fun _ => (((cond (decide (p.2.2 < 32)) ((qi0 a1 p.1).bind fun x0 => (q40 v x0.1).bind fun x1 => cond (decide (x1.2.2.1 ≠ 0)) (none) ((qc1 x1.1).bind fun x2 =>
    (cutB 0 p.2.1 x2.size).bind fun _ => (ck (decide ((x2.extract 0 p.2.1.toNat).size + (a3.extract 0 p.2.2.toNat).size ≤ 9223372036854775807))).bind fun _ => (cutB (IntKind.wrap .i64 (p.2.1 + p.2.2)) (x2.size : Int) x2.size).bind fun _ =>
    (ck (decide (((x2.extract 0 p.2.1.toNat) ++ (a3.extract 0 p.2.2.toNat)).size + (x2.extract (IntKind.wrap .i64 (p.2.1 + p.2.2)).toNat (x2.size : Int).toNat).size ≤ 9223372036854775807))).bind fun _ => some ((((x2.extract 0 p.2.1.toNat) ++ (a3.extract 0 p.2.2.toNat)) ++ (x2.extract (IntKind.wrap .i64 (p.2.1 + p.2.2)).toNat (x2.size : Int).toNat)),x1.2.2.2))) (
   some ((a3.extract 0 p.2.2.toNat),v))) : Option (ByteArray × VwT))).bind fun o0 => (qe1 o0.2 a1 p.1 o0.1).bind fun x3 => cond (decide (x3.1 ≠ 0)) (none) (some (x3.2,(a3.extract p.2.2.toNat (a3.size : Int).toNat)))
theorem chunk_Write_asg {a1 : Int} {v : VwT} {a3 : ByteArray} {p : (Int × Int × Int)} {l : Nat} : CWr (some l) [] Tryz.prog (81,5) qd4 (fun e s' => e = .normal ∧ s' = St.of [(4,.ptr 1 0),(5,.ptr 2 0),(7,.ptr 3 0),(8,.ptr 4 0),(9,.ptr 5 0)] [(0,.own (oVV v)),(1,.box (.ptr 0 0)),(2,.box (.d (eint a1))),(3,.box (.d (eStr a3))),(4,.box (.d (eErr 0))),(5,.box (.d (qr0 p)))]) ⟨upd (lk qw1) 27 (some (.d (qr0 p))),lk (q11 a1 v a3)⟩ := by
 refine cr_post (q01 (
  .c (qm 5 rfl rfl .no ze83 rfl)<|
  .c (uS [] rfl sz83 rfl)<|.nil rfl) ?_)
 exact ⟨_,(show Leads _ _ (St.of [(4,.ptr 1 0),(5,.ptr 2 0),(7,.ptr 3 0),(8,.ptr 4 0),(9,.ptr 5 0)] [(0,.own (oVV v)),(1,.box (.ptr 0 0)),(2,.box (.d (eint a1))),(3,.box (.d (eStr a3))),(4,.box (.d (eErr 0))),(5,.box (.d (qr0 p)))]) from .w (wkF ⟨⟨_,rfl,.ptr rfl rfl⟩,⟨_,rfl,.ptr rfl rfl⟩,⟨_,rfl,.ptr rfl rfl⟩,⟨_,rfl,.ptr rfl rfl⟩,⟨_,rfl,.ptr rfl rfl⟩,trivial⟩ ⟨.own rfl (.of_eq rfl (oVV_d _)),.box rfl (.ptro rfl rfl),.box rfl (.d rfl),.box rfl (.d rfl),.box rfl (.d rfl),.box rfl (.d rfl),trivial⟩ (qq rfl))),rfl,rfl⟩
theorem chunk_Write_rnd {a1 : Int} {v : VwT} {a3 : ByteArray} {p : (Int × Int × Int)} {r : (VwT × ByteArray)} (h : qQ a1 v a3 p = some r) {l : Nat} : CWr (some l) [] Tryz.prog (81,6) q54 (fun e s' => e = .normal ∧ s'.obj = lk [(0,.own (oVV r.1)),(1,.box (.ptr 0 0)),(2,.box (.d (eint a1))),(3,.box (.d (eStr r.2))),(4,.box (.d (eErr 0))),(5,.box (.d (qr0 p)))]) (St.of [(4,.ptr 1 0),(5,.ptr 2 0),(7,.ptr 3 0),(8,.ptr 4 0),(9,.ptr 5 0)] [(0,.own (oVV v)),(1,.box (.ptr 0 0)),(2,.box (.d (eint a1))),(3,.box (.d (eStr a3))),(4,.box (.d (eErr 0))),(5,.box (.d (qr0 p)))]) := by
 refine cr_post ?_
 unfold qQ at h
 refine cr_block ?_
 have ⟨x0,hx0,h0⟩ := bdS h
 have hx0g := qE hx0
 refine qr4 (q01 (
  .c (uL [] rfl ta9 rfl)<|
  .c (uF rfl fld83_2 rfl)<|
  .c (uL [2] rfl ta3 rfl)<|
  .c (qg5 rfl rfl .no rfl un9 .no (.val rfl hx0g.2.1) hx0g.2.2.1 hx0g.2.2.2)<|
  .c (uA rfl)<|.nil rfl) ?_)
 have ⟨x1,hx1,h1⟩ := bdS h0
 have hx1g := qE hx1
 refine qr4 (q01 (
  .c (uL [] rfl ta9 rfl)<|
  .c (uF rfl fld83_2 rfl)<|
  .c (uL [2] rfl ta3 rfl)<|
  .c (qg5 rfl rfl .no rfl un9 (.val rfl hx1g.1) .no hx1g.2.2.1 hx1g.2.2.2)<|
  .c (uS [] rfl sz9 rfl)<|.nil rfl) ?_)
 have ⟨o0,hj0,h2⟩ := bdS h1
 refine cr_join (fun (z : (ByteArray × VwT)) => St.of [(4,.ptr 1 0),(5,.ptr 2 0),(8,.ptr 4 0),(9,.ptr 5 0),(10,.d (eStr z.1))] [(0,.own (oVV z.2)),(1,.box (.ptr 0 0)),(2,.box (.d (eint a1))),(3,.box (.d (eStr (a3.extract p.2.2.toNat (a3.size : Int).toNat)))),(4,.box (.d (eErr 0))),(5,.box (.d (qr0 p)))]) (fun (z : (ByteArray × VwT)) => o0 = z) ?_ ?_
 ·intro v0 hv0; subst hv0
  have ⟨x2,hx2,h3⟩ := bdS (x := qe1 o0.2 a1 p.1 o0.1) h2
  refine qr4 (q01 (
   .c (uL [] rfl ta24 rfl)<|
   .c (uL [] rfl ta3 rfl)<|
   .c (uF rfl fld83_0 rfl)<|
   .c (uL [0] rfl ta3 rfl)<|
   .c (uM rfl)<|
   .c (qC (fun _ => 0) rfl rfl .no Tryz.func31 rfl rfl (chunk_lay_ok hx2) (.cons rfl (.p rfl) (.cons rfl .d (.cons rfl .d (.cons rfl .d .nil)))) (q60 rfl ⟨(by simp [AV.live,lk,Nat.beq]),trivial,trivial,trivial,trivial⟩ rfl (OD.dat_live (oVV_d _)) (by simp)) (.inl rfl))<|
   .c (uA rfl)<|.nil rfl) ?_)
  refine qr4 (q01 (
   .c (uM rfl)<|
   .c (uB rfl (b_neq _ _) rfl)<|.nil rfl) ?_)
  rcases cdS h3 with ⟨hc0,h4⟩ | ⟨hc0,h5⟩
  ·refine cr_condT rfl hc0 ?_
   refine qr4 (q01 (
    .c (uM rfl)<|
    .c (uS [] rfl sz29 rfl)<|.nil rfl) ?_)
   exact nomatch h4
  refine cr_condF rfl hc0 ?_
  refine cr_skip ?_
  have heq := ((sJ h5)).symm
  subst heq
  exact ⟨_,(show Leads _ _ (St.of [] [(0,.own (oVV x2.2)),(1,.box (.ptr 0 0)),(2,.box (.d (eint a1))),(3,.box (.d (eStr (a3.extract p.2.2.toNat (a3.size : Int).toNat)))),(4,.box (.d (eErr 0))),(5,.box (.d (qr0 p)))]) from .w (wkF trivial ⟨.own rfl (.of_eq rfl (oVV_d _)),.box rfl (.ptro rfl rfl),.box rfl (.d rfl),.box rfl (.d rfl),.box rfl (.d rfl),.box rfl (.d rfl),trivial⟩ (qq rfl))),rfl,rfl⟩
 refine qr4 (q01 (
  .c (uF rfl fld83_2 rfl)<|
  .c (uL [2] rfl ta3 rfl)<|
  .c (uB rfl (q31 _ _) rfl)<|.nil rfl) ?_)
 rcases cdS hj0 with ⟨hc1,h6⟩ | ⟨hc1,h7⟩
 ·refine cr_condT rfl hc1 ?_
  have ⟨x3,hx3,h8⟩ := bdS (x := qi0 a1 p.1) h6
  refine qr4 (q01 (
   .c (uL [] rfl ta3 rfl)<|
   .c (uF rfl fld83_0 rfl)<|
   .c (uL [0] rfl ta3 rfl)<|
   .c (qj rfl rfl .no Tryz.func25 rfl rfl (qA1 hx3) (.cons rfl .d (.cons rfl .d .nil)) ⟨trivial,trivial,trivial⟩ (.inl rfl))<|
   .c (uM rfl)<|
   .c (uE rfl)<|
   .c (uE rfl)<|
   .c (qm 6 rfl rfl .no ze39 rfl)<|
   .c (uS [] rfl sz39 rfl)<|
   .c (uA rfl)<|.nil rfl) ?_)
  have ⟨x4,hx4,h9⟩ := bdS (x := q40 v x3.1) h8
  refine qr4 (q01 (
   .c (uL [] rfl ta24 rfl)<|
   .c (uL [] rfl ta39 rfl)<|
   .c (qC (fun _ => 0) rfl rfl .no Tryz.func33 rfl rfl (view_View_Get_ok hx4) (.cons rfl (.p rfl) (.cons rfl .d .nil)) (q60 rfl ⟨(by simp [AV.live,lk,Nat.beq]),trivial,trivial⟩ rfl (OD.dat_live (oVV_d _)) (by simp)) (.inl rfl))<|
   .c (uM rfl)<|
   .c (uE rfl)<|
   .c (uE rfl)<|
   .c (uE rfl)<|
   .c (uA rfl)<|
   .c (uA rfl)<|
   .c (uA rfl)<|.nil rfl) ?_)
  refine qr4 ?_
  refine qr4 (q01 (
   .c (uM rfl)<|
   .c (uB rfl (b_neq _ _) rfl)<|.nil rfl) ?_)
  rcases cdS h9 with ⟨hc2,h10⟩ | ⟨hc2,h11⟩
  ·refine cr_condT rfl hc2 ?_
   refine qr4 (q01 (
    .c (uM rfl)<|
    .c (uS [] rfl sz29 rfl)<|.nil rfl) ?_)
   exact nomatch h10
  refine cr_condF rfl hc2 ?_
  refine cr_skip ?_
  have ⟨x5,hx5,h12⟩ := bdS (x := qc1 x4.1) h11
  refine qr4 (q01 (
   .c (uM rfl)<|
   .c (qj rfl rfl .no Tryz.func34 rfl rfl (inode_Full_ok hx5) (.cons rfl .d .nil) ⟨trivial,trivial⟩ (.inl rfl))<|
   .c (uA rfl)<|.nil rfl) ?_)
  have ⟨x6,hx6,h13⟩ := bdS h12
  have hx6g := qE hx6
  have ⟨x7,hx7,h14⟩ := bdS h13
  have hx7g := qK hx7
  have ⟨x8,hx8,h15⟩ := bdS h14
  have hx8g := qE hx8
  have ⟨x9,hx9,h16⟩ := bdS h15
  have hx9g := qK hx9
  refine cr_region_any mixed (by kernel_rfl) (
   .c (uM rfl)<|
   .c (uF rfl fld83_1 rfl)<|
   .c (uL [1] rfl ta3 rfl)<|
   .c (qg5 rfl rfl .no rfl un9 .no (.val rfl hx6g.2.1) hx6g.2.2.1 hx6g.2.2.2)<|
   .c (uM rfl)<|
   .c (qc rfl rfl .no rfl rfl (s_add _ _ hx7g) rfl)<|
   .c (uM rfl)<|
   .c (uF rfl fld83_1 rfl)<|
   .c (uL [1] rfl ta3 rfl)<|
   .c (uF rfl fld83_2 rfl)<|
   .c (uL [2] rfl ta3 rfl)<|
   .c (uB rfl (q61 _ _) rfl)<|
   .c (qg5 rfl rfl .no rfl un9 (.val rfl hx8g.1) .no hx8g.2.2.1 hx8g.2.2.2)<|
   .c (qc rfl rfl .no rfl rfl (s_add _ _ hx9g) rfl)<|
   .c (uA rfl)<|.nil rfl) (by kernel_rfl) ?_
  exact ⟨((((x5.extract 0 p.2.1.toNat) ++ (a3.extract 0 p.2.2.toNat)) ++ (x5.extract (IntKind.wrap .i64 (p.2.1 + p.2.2)).toNat (x5.size : Int).toNat)),x4.2.2.2),(sJ h16),.w (wkF ⟨⟨_,rfl,.ptr rfl rfl⟩,⟨_,rfl,.ptr rfl rfl⟩,⟨_,rfl,.ptr rfl rfl⟩,⟨_,rfl,.ptr rfl rfl⟩,wD rfl,trivial⟩ ⟨.own rfl (.of_eq rfl (oVV_d _)),.box rfl (.ptro rfl rfl),.box rfl (.d rfl),.box rfl (.d rfl),.box rfl (.d rfl),.box rfl (.d rfl),trivial⟩ (qq rfl))⟩
 refine cr_condF rfl hc1 ?_
 refine cr_skip ?_
 exact ⟨((a3.extract 0 p.2.2.toNat),v),(sJ h7),.w (wkF ⟨⟨_,rfl,.ptr rfl rfl⟩,⟨_,rfl,.ptr rfl rfl⟩,⟨_,rfl,.ptr rfl rfl⟩,⟨_,rfl,.ptr rfl rfl⟩,wD rfl,trivial⟩ ⟨.own rfl (.of_eq rfl (oVV_d _)),.box rfl (.ptro rfl rfl),.box rfl (.d rfl),.box rfl (.d rfl),.box rfl (.d rfl),.box rfl (.d rfl),trivial⟩ (qq rfl))⟩
end
end Go.Val
