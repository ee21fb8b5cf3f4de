/- Walks of the program's functions, printed. -/
import Derived.Test.YthipaajmgfnagaaGreatDoorWh
import Derived.Test.YthipaajmgfnagaaGreatDoorXu
set_option linter.unusedSectionVars false
set_option linter.unusedVariables false
set_option linter.unusedSimpArgs false
namespace Go.Val
open Go.RowKit Go.Proofs

section
variable [NoDrw]

noncomputable abbrev chunk_Write_as : Code := match Tryz.f13.body with | some (.seq _ (.seq _ (.seq (.seq _ (.block _ (.rangeFunc _ _ a _))) _))) => a | _ => .skip
noncomputable abbrev chunk_Write_bo : Code := match Tryz.f13.body with | some (.seq _ (.seq _ (.seq (.seq _ (.block _ (.rangeFunc _ _ _ b))) _))) => b | _ => .skip

def chunk_Write_sO : List (Nat × AV) := [(4, .ptr 1 0), (5, .ptr 2 0), (7, .ptr 3 0), (8, .ptr 4 0)]
def chunk_Write_mi (a1 : Int) (v : VwT) (a3 : ByteArray) : List (Nat × OB) := [(0, .own (oviewView v)), (1, .box (.ptr 0 0)), (2, .box (.d (eint a1))), (3, .box (.d (estring a3))), (4, .box (.d (eapiErrno 0)))]

noncomputable def chunk_Write_body (a1 : Int) (v : VwT) (a3 : ByteArray) (p : (Int × Int × Int)) : Option (VwT × ByteArray) :=
 (cutB 0 p.2.2 a3.size).bind fun _ =>
 (cutB p.2.2 (a3.size : Int) a3.size).bind fun _ =>
 (((
  cond (decide (p.2.2 < 32)) (
   (key_Chunk a1 p.1).bind fun x40 =>
   (view_View_Get v x40.1).bind fun x43 =>
   cond (decide (x43.2.2.1 ≠ 0)) (
    none
   ) (
    (inode_Full x43.1).bind fun x49 =>
    (cutB 0 p.2.1 x49.size).bind fun _ =>
    (ck (decide ((x49.extract 0 p.2.1.toNat).size + (a3.extract 0 p.2.2.toNat).size ≤ 9223372036854775807))).bind fun _ =>
    (cutB (IntKind.wrap .i64 (p.2.1 + p.2.2)) (x49.size : Int) x49.size).bind fun _ =>
    (ck (decide (((x49.extract 0 p.2.1.toNat) ++ (a3.extract 0 p.2.2.toNat)).size + (x49.extract (IntKind.wrap .i64 (p.2.1 + p.2.2)).toNat (x49.size : Int).toNat).size ≤ 9223372036854775807))).bind fun _ =>
    some ((((x49.extract 0 p.2.1.toNat) ++ (a3.extract 0 p.2.2.toNat)) ++ (x49.extract (IntKind.wrap .i64 (p.2.1 + p.2.2)).toNat (x49.size : Int).toNat)), x43.2.2.2)
   )
  ) (
   some ((a3.extract 0 p.2.2.toNat), v)
  )
 ) : Option (ByteArray × VwT))).bind fun o34 =>
 (chunk_lay o34.2 a1 p.1 o34.1).bind fun x64 =>
 cond (decide (x64.1 ≠ 0)) (
  none
 ) (
  some (x64.2, (a3.extract p.2.2.toNat (a3.size : Int).toNat))
 )

set_option maxRecDepth 100000 in
theorem chunk_Write_asg {a1 : Int} {v : VwT} {a3 : ByteArray} {p : (Int × Int × Int)} {l : Nat} : CWr (some l) [] Tryz.prog (81, 5) chunk_Write_as (fun e s' => e = .normal ∧ s' = St.of [(4, .ptr 1 0), (5, .ptr 2 0), (7, .ptr 3 0), (8, .ptr 4 0), (9, .ptr 5 0)] [(0, .own (oviewView v)), (1, .box (.ptr 0 0)), (2, .box (.d (eint a1))), (3, .box (.d (estring a3))), (4, .box (.d (eapiErrno 0))), (5, .box (.d (echunkpiece p)))]) ⟨upd (lk chunk_Write_sO) 27 (some (.d (echunkpiece p))), lk (chunk_Write_mi a1 v a3)⟩ := by
  refine cr_post (cr_region (
    .cons (o_alloc 5 rfl rfl .no ze83 rfl) <|
    .cons (o_st [] rfl .no rfl rfl rfl rfl rfl sz83 rfl rfl) <|
    .nil rfl
  ) ?_)
  exact ⟨_, (show Leads _ _ (St.of [(4, .ptr 1 0), (5, .ptr 2 0), (7, .ptr 3 0), (8, .ptr 4 0), (9, .ptr 5 0)] [(0, .own (oviewView v)), (1, .box (.ptr 0 0)), (2, .box (.d (eint a1))), (3, .box (.d (estring a3))), (4, .box (.d (eapiErrno 0))), (5, .box (.d (echunkpiece p)))]) from .w (weak_of ⟨⟨_, rfl, .ptr rfl rfl⟩, ⟨_, rfl, .ptr rfl rfl⟩, ⟨_, rfl, .ptr rfl rfl⟩, ⟨_, rfl, .ptr rfl rfl⟩, ⟨_, rfl, .ptr rfl rfl⟩, trivial⟩ ⟨.own rfl (.of_eq rfl (oviewView_dat _)), .box rfl (.ptro rfl rfl), .box rfl (.d rfl), .box rfl (.d rfl), .box rfl (.d rfl), .box rfl (.d rfl), trivial⟩ (dropK rfl))), rfl, rfl⟩

set_option maxRecDepth 100000 in
theorem chunk_Write_rnd {a1 : Int} {v : VwT} {a3 : ByteArray} {p : (Int × Int × Int)} {r : (VwT × ByteArray)} (h : chunk_Write_body a1 v a3 p = some r) {l : Nat} : CWr (some l) [] Tryz.prog (81, 6) chunk_Write_bo (fun e s' => e = .normal ∧ s'.obj = lk [(0, .own (oviewView r.1)), (1, .box (.ptr 0 0)), (2, .box (.d (eint a1))), (3, .box (.d (estring r.2))), (4, .box (.d (eapiErrno 0))), (5, .box (.d (echunkpiece p)))]) (St.of [(4, .ptr 1 0), (5, .ptr 2 0), (7, .ptr 3 0), (8, .ptr 4 0), (9, .ptr 5 0)] [(0, .own (oviewView v)), (1, .box (.ptr 0 0)), (2, .box (.d (eint a1))), (3, .box (.d (estring a3))), (4, .box (.d (eapiErrno 0))), (5, .box (.d (echunkpiece p)))]) := by
  refine cr_post ?_
  unfold chunk_Write_body at h
  refine cr_block ?_
  obtain ⟨x1, hx2, h3⟩ := bind_some h
  have hx2g := cutB_some hx2
  refine cr_seq (cr_region (
    .cons (o_ldP [] rfl rfl .no rfl rfl rfl ta9 rfl rfl) <|
    .cons (o_fldP rfl rfl .no rfl fld83_2 (by decide)) <|
    .cons (o_ldP [2] rfl rfl .no rfl rfl rfl ta3 rfl rfl) <|
    .cons (o_slS rfl rfl .no rfl un9 .no (.val rfl hx2g.2.1) hx2g.2.2.1 hx2g.2.2.2) <|
    .cons (o_as rfl rfl .no rfl) <|
    .nil rfl
  ) ?_)
  obtain ⟨x4, hx5, h6⟩ := bind_some h3
  have hx5g := cutB_some hx5
  refine cr_seq (cr_region (
    .cons (o_ldP [] rfl rfl .no rfl rfl rfl ta9 rfl rfl) <|
    .cons (o_fldP rfl rfl .no rfl fld83_2 (by decide)) <|
    .cons (o_ldP [2] rfl rfl .no rfl rfl rfl ta3 rfl rfl) <|
    .cons (o_slS rfl rfl .no rfl un9 (.val rfl hx5g.1) .no hx5g.2.2.1 hx5g.2.2.2) <|
    .cons (o_st [] rfl .no rfl rfl rfl rfl rfl sz9 rfl rfl) <|
    .nil rfl
  ) ?_)
  obtain ⟨o34, hj35, h36⟩ := bind_some h6
  refine cr_join (fun (z : (ByteArray × VwT)) => St.of [(4, .ptr 1 0), (5, .ptr 2 0), (8, .ptr 4 0), (9, .ptr 5 0), (10, .d (estring z.1))] [(0, .own (oviewView z.2)), (1, .box (.ptr 0 0)), (2, .box (.d (eint a1))), (3, .box (.d (estring (a3.extract p.2.2.toNat (a3.size : Int).toNat)))), (4, .box (.d (eapiErrno 0))), (5, .box (.d (echunkpiece p)))]) (fun (z : (ByteArray × VwT)) => o34 = z) ?_ ?_
  · intro v70 hv71; subst hv71
    obtain ⟨x64, hx65, h66⟩ := bind_some (x := chunk_lay o34.2 a1 p.1 o34.1) h36
    refine cr_seq (cr_region (
      .cons (o_ldP [] rfl rfl .no rfl rfl rfl ta24 rfl rfl) <|
      .cons (o_ldP [] rfl rfl .no rfl rfl rfl ta3 rfl rfl) <|
      .cons (o_fldP rfl rfl .no rfl fld83_0 (by decide)) <|
      .cons (o_ldP [0] rfl rfl .no rfl rfl rfl ta3 rfl rfl) <|
      .cons (o_mv rfl rfl .no rfl) <|
      .cons (o_callX (fun _ => 0) rfl rfl .no Tryz.func31 rfl rfl (chunk_lay_ok hx65) (.cons rfl (.p rfl) (.cons rfl .d (.cons rfl .d (.cons rfl .d .nil)))) (callIn1 rfl ⟨(by simp [AV.live, lk, Nat.beq]), trivial, trivial, trivial, trivial⟩ rfl (OD.dat_live (oviewView_dat _)) (by simp)) (.inl rfl)) <|
      .cons (o_as rfl rfl .no rfl) <|
      .nil rfl
    ) ?_)
    refine cr_seq (cr_region (
      .cons (o_mv rfl rfl .no rfl) <|
      .cons (o_bin rfl rfl .no rfl rfl (b_neq _ _) rfl) <|
      .nil rfl
    ) ?_)
    rcases cond_some h66 with ⟨hc67, h68⟩ | ⟨hc67, h69⟩
    · refine cr_condT rfl hc67 ?_
      refine cr_seq (cr_region (
        .cons (o_mv rfl rfl .no rfl) <|
        .cons (o_st [] rfl .no rfl rfl rfl rfl rfl sz29 rfl rfl) <|
        .nil rfl
      ) ?_)
      exact nomatch h68
    · refine cr_condF rfl hc67 ?_
      refine cr_skip ?_
      have heq := ((Option.some.inj h69).symm).symm
      subst heq
      exact ⟨_, (show Leads _ _ (St.of [] [(0, .own (oviewView x64.2)), (1, .box (.ptr 0 0)), (2, .box (.d (eint a1))), (3, .box (.d (estring (a3.extract p.2.2.toNat (a3.size : Int).toNat)))), (4, .box (.d (eapiErrno 0))), (5, .box (.d (echunkpiece p)))]) from .w (weak_of trivial ⟨.own rfl (.of_eq rfl (oviewView_dat _)), .box rfl (.ptro rfl rfl), .box rfl (.d rfl), .box rfl (.d rfl), .box rfl (.d rfl), .box rfl (.d rfl), trivial⟩ (dropK rfl))), rfl, rfl⟩
  · skip
    refine cr_seq (cr_region (
      .cons (o_fldP rfl rfl .no rfl fld83_2 (by decide)) <|
      .cons (o_ldP [2] rfl rfl .no rfl rfl rfl ta3 rfl rfl) <|
      .cons (o_bin rfl rfl .no rfl rfl (b_lss _ _) rfl) <|
      .nil rfl
    ) ?_)
    rcases cond_some hj35 with ⟨hc37, h38⟩ | ⟨hc37, h39⟩
    · refine cr_condT rfl hc37 ?_
      obtain ⟨x40, hx41, h42⟩ := bind_some (x := key_Chunk a1 p.1) h38
      refine cr_seq (cr_region (
        .cons (o_ldP [] rfl rfl .no rfl rfl rfl ta3 rfl rfl) <|
        .cons (o_fldP rfl rfl .no rfl fld83_0 (by decide)) <|
        .cons (o_ldP [0] rfl rfl .no rfl rfl rfl ta3 rfl rfl) <|
        .cons (o_call rfl rfl .no Tryz.func25 rfl rfl (key_Chunk_ok hx41) (.cons rfl .d (.cons rfl .d .nil)) ⟨trivial, trivial, trivial⟩ (.inl rfl)) <|
        .cons (o_mv rfl rfl .no rfl) <|
        .cons (o_ext rfl rfl .no rfl rfl) <|
        .cons (o_ext rfl rfl .no rfl rfl) <|
        .cons (o_alloc 6 rfl rfl .no ze39 rfl) <|
        .cons (o_st [] rfl .no rfl rfl rfl rfl rfl sz39 rfl rfl) <|
        .cons (o_as rfl rfl .no rfl) <|
        .nil rfl
      ) ?_)
      obtain ⟨x43, hx44, h45⟩ := bind_some (x := view_View_Get v x40.1) h42
      refine cr_seq (cr_region (
        .cons (o_ldP [] rfl rfl .no rfl rfl rfl ta24 rfl rfl) <|
        .cons (o_ldP [] rfl rfl .no rfl rfl rfl ta39 rfl rfl) <|
        .cons (o_callX (fun _ => 0) rfl rfl .no Tryz.func33 rfl rfl (view_View_Get_ok hx44) (.cons rfl (.p rfl) (.cons rfl .d .nil)) (callIn1 rfl ⟨(by simp [AV.live, lk, Nat.beq]), trivial, trivial⟩ rfl (OD.dat_live (oviewView_dat _)) (by simp)) (.inl rfl)) <|
        .cons (o_mv rfl rfl .no rfl) <|
        .cons (o_ext rfl rfl .no rfl rfl) <|
        .cons (o_ext rfl rfl .no rfl rfl) <|
        .cons (o_ext rfl rfl .no rfl rfl) <|
        .cons (o_as rfl rfl .no rfl) <|
        .cons (o_as rfl rfl .no rfl) <|
        .cons (o_as rfl rfl .no rfl) <|
        .nil rfl
      ) ?_)
      refine cr_seq ?_
      refine cr_seq (cr_region (
        .cons (o_mv rfl rfl .no rfl) <|
        .cons (o_bin rfl rfl .no rfl rfl (b_neq _ _) rfl) <|
        .nil rfl
      ) ?_)
      rcases cond_some h45 with ⟨hc46, h47⟩ | ⟨hc46, h48⟩
      · refine cr_condT rfl hc46 ?_
        refine cr_seq (cr_region (
          .cons (o_mv rfl rfl .no rfl) <|
          .cons (o_st [] rfl .no rfl rfl rfl rfl rfl sz29 rfl rfl) <|
          .nil rfl
        ) ?_)
        exact nomatch h47
      · refine cr_condF rfl hc46 ?_
        refine cr_skip ?_
        obtain ⟨x49, hx50, h51⟩ := bind_some (x := inode_Full x43.1) h48
        refine cr_seq (cr_region (
          .cons (o_mv rfl rfl .no rfl) <|
          .cons (o_call rfl rfl .no Tryz.func34 rfl rfl (inode_Full_ok hx50) (.cons rfl .d .nil) ⟨trivial, trivial⟩ (.inl rfl)) <|
          .cons (o_as rfl rfl .no rfl) <|
          .nil rfl
        ) ?_)
        obtain ⟨x52, hx53, h54⟩ := bind_some h51
        have hx53g := cutB_some hx53
        obtain ⟨x55, hx56, h57⟩ := bind_some h54
        have hx56g := ck_dec hx56
        obtain ⟨x58, hx59, h60⟩ := bind_some h57
        have hx59g := cutB_some hx59
        obtain ⟨x61, hx62, h63⟩ := bind_some h60
        have hx62g := ck_dec hx62
        refine cr_region_any mixed (by kernel_rfl) (
          .cons (o_mv rfl rfl .no rfl) <|
          .cons (o_fldP rfl rfl .no rfl fld83_1 (by decide)) <|
          .cons (o_ldP [1] rfl rfl .no rfl rfl rfl ta3 rfl rfl) <|
          .cons (o_slS rfl rfl .no rfl un9 .no (.val rfl hx53g.2.1) hx53g.2.2.1 hx53g.2.2.2) <|
          .cons (o_mv rfl rfl .no rfl) <|
          .cons (o_bin rfl rfl .no rfl rfl (s_add _ _ hx56g) rfl) <|
          .cons (o_mv rfl rfl .no rfl) <|
          .cons (o_fldP rfl rfl .no rfl fld83_1 (by decide)) <|
          .cons (o_ldP [1] rfl rfl .no rfl rfl rfl ta3 rfl rfl) <|
          .cons (o_fldP rfl rfl .no rfl fld83_2 (by decide)) <|
          .cons (o_ldP [2] rfl rfl .no rfl rfl rfl ta3 rfl rfl) <|
          .cons (o_bin rfl rfl .no rfl rfl (b_add _ _) rfl) <|
          .cons (o_slS rfl rfl .no rfl un9 (.val rfl hx59g.1) .no hx59g.2.2.1 hx59g.2.2.2) <|
          .cons (o_bin rfl rfl .no rfl rfl (s_add _ _ hx62g) rfl) <|
          .cons (o_as rfl rfl .no rfl) <|
          .nil rfl
        ) (by kernel_rfl) ?_
        exact ⟨((((x49.extract 0 p.2.1.toNat) ++ (a3.extract 0 p.2.2.toNat)) ++ (x49.extract (IntKind.wrap .i64 (p.2.1 + p.2.2)).toNat (x49.size : Int).toNat)), x43.2.2.2), (Option.some.inj h63).symm, .w (weak_of ⟨⟨_, rfl, .ptr rfl rfl⟩, ⟨_, rfl, .ptr rfl rfl⟩, ⟨_, rfl, .ptr rfl rfl⟩, ⟨_, rfl, .ptr rfl rfl⟩, ⟨_, rfl, .d rfl⟩, trivial⟩ ⟨.own rfl (.of_eq rfl (oviewView_dat _)), .box rfl (.ptro rfl rfl), .box rfl (.d rfl), .box rfl (.d rfl), .box rfl (.d rfl), .box rfl (.d rfl), trivial⟩ (dropK rfl))⟩
    · refine cr_condF rfl hc37 ?_
      refine cr_skip ?_
      exact ⟨((a3.extract 0 p.2.2.toNat), v), (Option.some.inj h39).symm, .w (weak_of ⟨⟨_, rfl, .ptr rfl rfl⟩, ⟨_, rfl, .ptr rfl rfl⟩, ⟨_, rfl, .ptr rfl rfl⟩, ⟨_, rfl, .ptr rfl rfl⟩, ⟨_, rfl, .d rfl⟩, trivial⟩ ⟨.own rfl (.of_eq rfl (oviewView_dat _)), .box rfl (.ptro rfl rfl), .box rfl (.d rfl), .box rfl (.d rfl), .box rfl (.d rfl), .box rfl (.d rfl), trivial⟩ (dropK rfl))⟩

end
end Go.Val

