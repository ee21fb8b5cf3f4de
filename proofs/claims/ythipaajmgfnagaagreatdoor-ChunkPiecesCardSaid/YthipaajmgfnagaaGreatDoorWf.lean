/- Walks of the program's functions, printed. -/
import Derived.Test.YthipaajmgfnagaaGreatDoorWe
import Derived.Test.YthipaajmgfnagaaGreatDoorHc2
import Derived.Test.YthipaajmgfnagaaGreatDoorXp
set_option linter.unusedSectionVars false
set_option linter.unusedVariables false
set_option linter.unusedSimpArgs false
namespace Go.Val
open Go.RowKit Go.Proofs

section
variable [NoDrw]

noncomputable def delta_values (a0 : List ((List UInt8) × ByteArray)) : Option (List (List UInt8 × ByteArray)) :=
 (((
  whileO (V := (Int × (List (List UInt8 × ByteArray)))) (O := (List (List UInt8 × ByteArray))) (fun v42 =>
   cond (decide (v42.1 < (a0.length : Int))) (
    (gx a0 v42.1).bind fun x49 =>
    some (.inl ((IntKind.wrap .i64 (v42.1 + 1)), (mset v42.2 x49.1 x49.2)))
   ) (
    some (.inr v42.2)
   )
  ) (0, [])
 ) : Option (List (List UInt8 × ByteArray)))).bind fun o25 =>
 some o25

noncomputable def delta_does (a0 : List (List UInt8 × ByteArray)) (a1 : ((List UInt8) × ByteArray × Bool)) : Option (List (List UInt8 × ByteArray)) :=
 (((
  cond a1.2.2 (
   some (mdel a0 a1.1)
  ) (
   some (mset a0 a1.1 a1.2.1)
  )
 ) : Option (List (List UInt8 × ByteArray)))).bind fun o4 =>
 some o4

noncomputable def delta_pairs (a0 : List (List UInt8 × ByteArray)) : Option ((List ((List UInt8) × ByteArray)) × (List (List UInt8 × ByteArray))) :=
 (((
  (fits a0.length 24).bind fun _ =>
  whileO (V := (Int × (List ((List UInt8) × ByteArray)))) (O := (List ((List UInt8) × ByteArray))) (fun v63 =>
   cond (decide (v63.1 < ((sortKeys (a0.map fun p => p.1)).length : Int))) (
    (gx (sortKeys (a0.map fun p => p.1)) v63.1).bind fun x70 =>
    (fits (v63.2.length + ([(x70, ((mget a0 x70).getD (ByteArray.mk #[])))]).length) 40).bind fun _ =>
    some (.inl ((IntKind.wrap .i64 (v63.1 + 1)), (v63.2 ++ [(x70, ((mget a0 x70).getD (ByteArray.mk #[])))])))
   ) (
    some (.inr v63.2)
   )
  ) (0, [])
 ) : Option (List ((List UInt8) × ByteArray)))).bind fun o37 =>
 some (o37, a0)

noncomputable def delta_Map (a0 : List ((List UInt8) × ByteArray)) : Option (List ((List UInt8) × ByteArray)) :=
 (delta_values a0).bind fun x1 =>
 (delta_pairs x1).bind fun x4 =>
 some x4.1

noncomputable def delta_Map_a (a0 : List ((List UInt8) × ByteArray)) : Option ((List ((List UInt8) × ByteArray)) × (List ((List UInt8) × ByteArray))) :=
 (delta_values a0).bind fun x1 =>
 (delta_pairs x1).bind fun x4 =>
 some (x4.1, a0)

noncomputable def delta_rising (a0 : List (List UInt8 × ((List UInt8) × ByteArray × Bool))) : Option ((List ((List UInt8) × ByteArray × Bool)) × (List (List UInt8 × ((List UInt8) × ByteArray × Bool)))) :=
 (((
  (fits a0.length 24).bind fun _ =>
  whileO (V := (Int × (List ((List UInt8) × ByteArray × Bool)))) (O := (List ((List UInt8) × ByteArray × Bool))) (fun v63 =>
   cond (decide (v63.1 < ((sortKeys (a0.map fun p => p.1)).length : Int))) (
    (gx (sortKeys (a0.map fun p => p.1)) v63.1).bind fun x70 =>
    (fits (v63.2.length + ([((mget a0 x70).getD ((List.replicate 24 0), (ByteArray.mk #[]), false))]).length) 48).bind fun _ =>
    some (.inl ((IntKind.wrap .i64 (v63.1 + 1)), (v63.2 ++ [((mget a0 x70).getD ((List.replicate 24 0), (ByteArray.mk #[]), false))])))
   ) (
    some (.inr v63.2)
   )
  ) (0, [])
 ) : Option (List ((List UInt8) × ByteArray × Bool)))).bind fun o37 =>
 some (o37, a0)

noncomputable def delta_Apply (a0 : List ((List UInt8) × ByteArray)) (a1 : List ((List UInt8) × ByteArray × Bool)) : Option (List ((List UInt8) × ByteArray)) :=
 (delta_values a0).bind fun x1 =>
 (((
  whileO (V := (Int × (List (List UInt8 × ByteArray)))) (O := (List (List UInt8 × ByteArray))) (fun v60 =>
   cond (decide (v60.1 < (a1.length : Int))) (
    (gx a1 v60.1).bind fun x67 =>
    (delta_does v60.2 x67).bind fun x70 =>
    some (.inl ((IntKind.wrap .i64 (v60.1 + 1)), x70))
   ) (
    some (.inr v60.2)
   )
  ) (0, x1)
 ) : Option (List (List UInt8 × ByteArray)))).bind fun o37 =>
 (delta_pairs o37).bind fun x73 =>
 some x73.1

noncomputable def slices_Concat (a0 : List (List ((List UInt8) × ByteArray × Bool))) : Option (List ((List UInt8) × ByteArray × Bool)) :=
 (((
  whileO (V := (Int × Int)) (O := Int) (fun v57 =>
   cond (decide (v57.2 < (a0.length : Int))) (
    (gx a0 v57.2).bind fun x64 =>
    cond (decide ((IntKind.wrap .i64 (v57.1 + (x64.length : Int))) < 0)) (
     none
    ) (
     some (.inl ((IntKind.wrap .i64 (v57.1 + (x64.length : Int))), (IntKind.wrap .i64 (v57.2 + 1))))
    )
   ) (
    some (.inr v57.1)
   )
  ) (0, 0)
 ) : Option Int)).bind fun o34 =>
 (ck (decide (0 ≤ o34 ∧ o34.toNat * 48 ≤ 140737488355328))).bind fun _ =>
 (((
  whileO (V := (Int × (List ((List UInt8) × ByteArray × Bool)))) (O := (List ((List UInt8) × ByteArray × Bool))) (fun v129 =>
   cond (decide (v129.1 < (a0.length : Int))) (
    (gx a0 v129.1).bind fun x136 =>
    (fits (v129.2.length + x136.length) 48).bind fun _ =>
    some (.inl ((IntKind.wrap .i64 (v129.1 + 1)), (v129.2 ++ x136)))
   ) (
    some (.inr v129.2)
   )
  ) (0, ([] : List ((List UInt8) × ByteArray × Bool)))
 ) : Option (List ((List UInt8) × ByteArray × Bool)))).bind fun o106 =>
 some o106

noncomputable def delta_Join (a0 : List (List ((List UInt8) × ByteArray × Bool))) : Option (List ((List UInt8) × ByteArray × Bool)) :=
 (((
  (slices_Concat a0).bind fun x64 =>
  whileO (V := (Int × (List (List UInt8 × ((List UInt8) × ByteArray × Bool))))) (O := (List (List UInt8 × ((List UInt8) × ByteArray × Bool)))) (fun v103 =>
   cond (decide (v103.1 < (x64.length : Int))) (
    (gx x64 v103.1).bind fun x110 =>
    (((
     cond x110.2.2 (
      some (x110.1, (ByteArray.mk #[]), x110.2.2)
     ) (
      some x110
     )
    ) : Option ((List UInt8) × ByteArray × Bool))).bind fun o116 =>
    some (.inl ((IntKind.wrap .i64 (v103.1 + 1)), (mset v103.2 o116.1 o116)))
   ) (
    some (.inr v103.2)
   )
  ) (0, [])
 ) : Option (List (List UInt8 × ((List UInt8) × ByteArray × Bool))))).bind fun o61 =>
 (delta_rising o61).bind fun x124 =>
 some x124.1

set_option maxRecDepth 100000 in
theorem delta_values_ok {a0 : List ((List UInt8) × ByteArray)} {r : (List (List UInt8 × ByteArray))} (h : delta_values a0 = some r) : FnOk Tryz.prog 69 [.d (eSapiPair a0)] 0 (lk []) (fun rr oo => rr = .map 0 ∧ oo = lk [(0, .map 0 (mD eapiKey estring r))]) := by
  refine fnOk_of Tryz.func69 rfl rfl (cw_post ?_)
  unfold delta_values at h
  refine cw_seq (cw_region (
    .cons (o_as rfl rfl .no rfl) <|
    .nil rfl
  ) ?_)
  refine cw_seq (cw_region (
    .cons (o_mkmap eapiKey estring 0 rfl rfl .no rfl) <|
    .cons (o_as rfl rfl .no rfl) <|
    .nil rfl
  ) ?_)
  obtain ⟨o25, hj26, h27⟩ := bind_some h
  refine cw_join (fun (z : (List (List UInt8 × ByteArray))) => St.of [(3, .map 0)] [(0, .map 0 (mD eapiKey estring z))]) (fun (z : (List (List UInt8 × ByteArray))) => o25 = z) ?_ ?_
  · intro v52 hv53; subst hv53
    refine cw_seq (cw_region (
      .cons (o_mv rfl rfl .no rfl) <|
      .cons (o_as rfl rfl .no rfl) <|
      .nil rfl
    ) ?_)
    have heq := ((Option.some.inj h27).symm).symm
    subst heq
    exact cw_ret ⟨_, (show Leads _ _ (St.of [(2, .map 0)] [(0, .map 0 (mD eapiKey estring o25))]) from .w (weak_of ⟨⟨_, rfl, .map rfl rfl⟩, trivial⟩ ⟨.map rfl rfl, trivial⟩ drop0)), .inr rfl, _, res1 rfl rfl, rfl, rfl⟩
  · skip
    refine cw_seq (cw_region (
      .cons (o_mv rfl rfl .no rfl) <|
      .cons (o_lenM (enc := eapiPair) (xs := a0) rfl rfl .no rfl sl35) <|
      .cons (o_mv rfl rfl .no rfl) <|
      .nil rfl
    ) ?_)
    refine cw_block ?_
    refine cw_while (V := (Int × (List (List UInt8 × ByteArray)))) (O := (List (List UInt8 × ByteArray))) (fun (z : (Int × (List (List UInt8 × ByteArray)))) => St.of [(3, .map 0), (7, .d (eSapiPair a0)), (8, .d (eint (a0.length : Int))), (9, .d (eint z.1))] [(0, .map 0 (mD eapiKey estring z.2))]) hj26 (.w (weak_of ⟨⟨_, rfl, .map rfl rfl⟩, ⟨_, rfl, .d rfl⟩, ⟨_, rfl, .d rfl⟩, ⟨_, rfl, .d rfl⟩, trivial⟩ ⟨.map rfl rfl, trivial⟩ drop0)) ?_
    intro v42 x43 hb44 hx45
    refine cw_seq (cw_region (
      .cons (o_bin rfl rfl .no rfl rfl (b_lss _ _) rfl) <|
      .nil rfl
    ) ?_)
    refine cw_seq ?_
    rcases cond_some hb44 with ⟨hc46, h47⟩ | ⟨hc46, h48⟩
    · refine cw_condT rfl hc46 ?_
      refine cw_skip ?_
      refine cw_seq ?_
      refine cw_block ?_
      obtain ⟨x49, hx50, h51⟩ := bind_some h47
      have hx50g := gx_some hx50
      refine cw_seq (cw_region (
        .cons (o_ixM (enc := eapiPair) (xs := a0) rfl rfl .no rfl rfl sl35 sz47 hx50g.1 hx50g.2) <|
        .cons (o_ld rfl rfl .no rfl ta47 rfl rfl) <|
        .cons (o_alloc 1 rfl rfl .no ze47 rfl) <|
        .cons (o_st [] rfl .no rfl rfl rfl rfl rfl sz47 rfl rfl) <|
        .nil rfl
      ) ?_)
      refine cw_region (
        .cons (o_mv rfl rfl .no rfl) <|
        .cons (o_fldP rfl rfl .no rfl fld47_0 (by decide)) <|
        .cons (o_ldP [0] rfl rfl .no rfl rfl rfl ta39 rfl rfl) <|
        .cons (o_fldP rfl rfl .no rfl fld47_1 (by decide)) <|
        .cons (o_ldP [1] rfl rfl .no rfl rfl rfl ta9 rfl rfl) <|
        .cons (o_mapset (ek := eapiKey) (ev := estring) (m := v42.2) x49.1 x49.2 rfl .no rfl rfl rfl rfl mp122 kl39 rfl) <|
        .nil rfl
      ) ?_
      refine cw_region (
        .cons (o_bin rfl rfl .no rfl rfl (b_add _ _) rfl) <|
        .cons (o_mv rfl rfl .no rfl) <|
        .nil rfl
      ) ?_
      exact ⟨((IntKind.wrap .i64 (v42.1 + 1)), (mset v42.2 x49.1 x49.2)), (Option.some.inj h51).symm, .w (weak_of ⟨⟨_, rfl, .map rfl rfl⟩, ⟨_, rfl, .d rfl⟩, ⟨_, rfl, .d rfl⟩, ⟨_, rfl, .d rfl⟩, trivial⟩ ⟨.map0 rfl rfl rfl (noIter rfl), trivial⟩ drop0)⟩
    · refine cw_condF rfl hc46 ?_
      refine cw_exit ?_
      exact ⟨v42.2, (hx45 _ (Option.some.inj h48).symm).symm, .w (weak_of ⟨⟨_, rfl, .map rfl rfl⟩, trivial⟩ ⟨.map rfl rfl, trivial⟩ drop0)⟩

set_option maxRecDepth 100000 in
theorem delta_does_ok {a0 : List (List UInt8 × ByteArray)} {a1 : ((List UInt8) × ByteArray × Bool)} {r : (List (List UInt8 × ByteArray))} (h : delta_does a0 a1 = some r) (u0 : Nat) : FnOk Tryz.prog 70 [.map 0, .d (eapiChange a1)] 1 (lk [(0, .map u0 (mD eapiKey estring a0))]) (fun rr oo => rr = .tup [] ∧ oo = lk [(0, .map (u0 + 1) (mD eapiKey estring r))]) := by
  refine fnOk_of Tryz.func70 rfl rfl (cw_post ?_)
  unfold delta_does at h
  obtain ⟨o4, hj5, h6⟩ := bind_some h
  refine cw_tail (fun (z : (List (List UInt8 × ByteArray))) => St.of [] [(0, .map (u0 + 1) (mD eapiKey estring z))]) (fun (z : (List (List UInt8 × ByteArray))) => o4 = z) ?_ ?_
  · intro v10 hv11; subst hv11
    have heq := ((Option.some.inj h6).symm).symm
    subst heq
    exact ⟨_, (show Leads _ _ (St.of [] [(0, .map (u0 + 1) (mD eapiKey estring o4))]) from .w (weak_of trivial ⟨.map rfl rfl, trivial⟩ (dropK rfl))), .inl rfl, _, res0 rfl, rfl, rfl⟩
  · skip
    refine cw_seq (cw_region (
      .cons (o_box 1 rfl rfl .no rfl rfl rfl) <|
      .nil rfl
    ) ?_)
    refine cw_seq (cw_region (
      .cons (o_fldP rfl rfl .no rfl fld88_2 (by decide)) <|
      .cons (o_ldP [2] rfl rfl .no rfl rfl rfl ta4 rfl rfl) <|
      .nil rfl
    ) ?_)
    rcases cond_some hj5 with ⟨hc7, h8⟩ | ⟨hc7, h9⟩
    · refine cw_condT rfl hc7 ?_
      refine cw_region (
        .cons (o_mv rfl rfl .no rfl) <|
        .cons (o_fldP rfl rfl .no rfl fld88_0 (by decide)) <|
        .cons (o_ldP [0] rfl rfl .no rfl rfl rfl ta39 rfl rfl) <|
        .cons (o_mapdel (ek := eapiKey) (ev := estring) (m := a0) a1.1 rfl .no rfl rfl rfl mp122 kl39 rfl) <|
        .nil rfl
      ) ?_
      exact ⟨(mdel a0 a1.1), (Option.some.inj h8).symm, .w (weak_of trivial ⟨.map rfl rfl, trivial⟩ (dropK rfl))⟩
    · refine cw_condF rfl hc7 ?_
      refine cw_region (
        .cons (o_mv rfl rfl .no rfl) <|
        .cons (o_fldP rfl rfl .no rfl fld88_0 (by decide)) <|
        .cons (o_ldP [0] rfl rfl .no rfl rfl rfl ta39 rfl rfl) <|
        .cons (o_fldP rfl rfl .no rfl fld88_1 (by decide)) <|
        .cons (o_ldP [1] rfl rfl .no rfl rfl rfl ta9 rfl rfl) <|
        .cons (o_mapset (ek := eapiKey) (ev := estring) (m := a0) a1.1 a1.2.1 rfl .no rfl rfl rfl rfl mp122 kl39 rfl) <|
        .nil rfl
      ) ?_
      exact ⟨(mset a0 a1.1 a1.2.1), (Option.some.inj h9).symm, .w (weak_of trivial ⟨.map rfl rfl, trivial⟩ (dropK rfl))⟩

set_option maxRecDepth 100000 in
theorem delta_pairs_ok {a0 : List (List UInt8 × ByteArray)} {r : ((List ((List UInt8) × ByteArray)) × (List (List UInt8 × ByteArray)))} (h : delta_pairs a0 = some r) (u0 : Nat) : FnOk Tryz.prog 71 [.map 0] 1 (lk [(0, .map u0 (mD eapiKey estring a0))]) (fun rr oo => rr = .arr 1 0 ∧ oo = lk [(0, .map u0 (mD eapiKey estring r.2)), (1, .arr 0 25 (r.1.map eapiPair))]) := by
  refine fnOk_of Tryz.func71 rfl rfl (cw_post ?_)
  unfold delta_pairs at h
  refine cw_seq (cw_region (
    .cons (o_as rfl rfl .no rfl) <|
    .nil rfl
  ) ?_)
  refine cw_seq (cw_region (
    .cons (o_as rfl rfl .no rfl) <|
    .nil rfl
  ) ?_)
  obtain ⟨o37, hj38, h39⟩ := bind_some h
  refine cw_join (fun (z : (List ((List UInt8) × ByteArray))) => St.of [(3, .arr 1 0)] [(0, .map u0 (mD eapiKey estring a0)), (1, .arr 0 25 (z.map eapiPair))]) (fun (z : (List ((List UInt8) × ByteArray))) => o37 = z) ?_ ?_
  · intro v76 hv77; subst hv77
    refine cw_seq (cw_region (
      .cons (o_mv rfl rfl .no rfl) <|
      .cons (o_as rfl rfl .no rfl) <|
      .nil rfl
    ) ?_)
    have heq := ((Option.some.inj h39).symm).symm
    subst heq
    exact cw_ret ⟨_, (show Leads _ _ (St.of [(2, .arr 1 0)] [(0, .map u0 (mD eapiKey estring a0)), (1, .arr 0 25 (o37.map eapiPair))]) from .w (weak_of ⟨⟨_, rfl, .arr rfl rfl⟩, trivial⟩ ⟨.map rfl rfl, .arr rfl rfl, trivial⟩ (dropK rfl))), .inr rfl, _, res1 rfl rfl, rfl, rfl⟩
  · skip
    obtain ⟨x40, hx41, h42⟩ := bind_some hj38
    have hx41g := fits_some hx41
    refine cw_seq (cw_region (
      .cons (o_mv rfl rfl .no rfl) <|
      .cons (o_callX (fun n => bif Nat.beq n 0 then 0 else 3) rfl rfl .no Tryz.func109 rfl rfl (keys109_ok (ek := eapiKey) (ev := estring) (m := a0) u0) (.cons rfl (.m rfl) .nil) (callIn1N rfl ⟨(by simp [AV.live, lk]), trivial⟩ (by decide) rfl trivial rfl (by simp)) (.inl rfl)) <|
      .cons (o_callX (fun n => bif Nat.beq n 0 then 0 else 3) rfl rfl .no Tryz.func108 rfl rfl (sorted132_ok (ev := estring) (m := a0) u0 hx41g) (.cons rfl (.f1 rfl) (.cons rfl .f0 .nil)) (callIn2 rfl ⟨(by simp [AV.live, AV.lives, lk, Nat.beq]), (by simp [AV.live, AV.lives]), trivial⟩ (by decide) rfl trivial rfl (by simp [OB.live, AV.live, lk, Nat.beq]) (by simp)) (.inl rfl)) <|
      .cons (o_lenM (enc := eapiKey) (xs := (sortKeys (a0.map fun p => p.1))) rfl rfl .no rfl sl167) <|
      .cons (o_mv rfl rfl .no rfl) <|
      .nil rfl
    ) ?_)
    refine cw_block ?_
    refine cw_while (V := (Int × (List ((List UInt8) × ByteArray)))) (O := (List ((List UInt8) × ByteArray))) (fun (z : (Int × (List ((List UInt8) × ByteArray)))) => St.of [(0, .map 0), (3, .arr 1 0), (8, .d (eSapiKey (sortKeys (a0.map fun p => p.1)))), (9, .d (eint ((sortKeys (a0.map fun p => p.1)).length : Int))), (10, .d (eint z.1))] [(0, .map u0 (mD eapiKey estring a0)), (1, .arr 0 25 (z.2.map eapiPair))]) h42 (.w (weak_of ⟨⟨_, rfl, .map rfl rfl⟩, ⟨_, rfl, .nila rfl rfl⟩, ⟨_, rfl, .d rfl⟩, ⟨_, rfl, .d rfl⟩, ⟨_, rfl, .d rfl⟩, trivial⟩ ⟨.map rfl rfl, .nil rfl, trivial⟩ (dropK rfl))) ?_
    intro v63 x64 hb65 hx66
    refine cw_seq (cw_region (
      .cons (o_bin rfl rfl .no rfl rfl (b_lss _ _) rfl) <|
      .nil rfl
    ) ?_)
    refine cw_seq ?_
    rcases cond_some hb65 with ⟨hc67, h68⟩ | ⟨hc67, h69⟩
    · refine cw_condT rfl hc67 ?_
      refine cw_skip ?_
      refine cw_seq ?_
      refine cw_block ?_
      obtain ⟨x70, hx71, h72⟩ := bind_some h68
      have hx71g := gx_some hx71
      refine cw_seq (cw_region (
        .cons (o_ixM (enc := eapiKey) (xs := (sortKeys (a0.map fun p => p.1))) rfl rfl .no rfl rfl sl167 sz39 hx71g.1 hx71g.2) <|
        .cons (o_ld rfl rfl .no rfl ta39 rfl rfl) <|
        .cons (o_alloc 2 rfl rfl .no ze39 rfl) <|
        .cons (o_st [] rfl .no rfl rfl rfl rfl rfl sz39 rfl rfl) <|
        .nil rfl
      ) ?_)
      obtain ⟨x73, hx74, h75⟩ := bind_some h72
      have hx74g := fits_some hx74
      refine cw_region_any mixed (by kernel_rfl) (
        .cons (o_mv rfl rfl .no rfl) <|
        .cons (o_ldP [] rfl rfl .no rfl rfl rfl ta39 rfl rfl) <|
        .cons (o_mv rfl rfl .no rfl) <|
        .cons (o_ldP [] rfl rfl .no rfl rfl rfl ta39 rfl rfl) <|
        .cons (o_mapget (ek := eapiKey) (ev := estring) (m := a0) x70 (ByteArray.mk #[]) rfl rfl .no rfl rfl rfl mp122 kl39 ze9 rfl rfl) <|
        .cons (o_bld (ds := [eapiKey x70, estring ((mget a0 x70).getD (ByteArray.mk #[]))]) rfl rfl .no zs47 rfl pl47 (.cons rfl rfl rfl rfl rfl rfl rfl (.cons rfl rfl rfl rfl rfl rfl rfl .nil))) <|
        .cons (o_bsl (rows := ([(x70, ((mget a0 x70).getD (ByteArray.mk #[])))] : List ((List UInt8) × ByteArray)).map eapiPair) rfl rfl .no (.cons rfl .nil) rfl sl35 sz47 ze47 rfl (map_sz siapiPair) (by decide)) <|
        .cons (o_appM (enc := eapiPair) (xs := v63.2) (ys := [(x70, ((mget a0 x70).getD (ByteArray.mk #[])))]) rfl rfl .no rfl rfl rfl siapiPair sl35 sl35 sz47 by47 ze47 rfl (by decide) hx74g) <|
        .cons (o_as rfl rfl .no rfl) <|
        .nil rfl
      ) (by kernel_rfl) ?_
      refine cw_region (
        .cons (o_bin rfl rfl .no rfl rfl (b_add _ _) rfl) <|
        .cons (o_mv rfl rfl .no rfl) <|
        .nil rfl
      ) ?_
      exact ⟨((IntKind.wrap .i64 (v63.1 + 1)), (v63.2 ++ [(x70, ((mget a0 x70).getD (ByteArray.mk #[])))])), (Option.some.inj h75).symm, .w (weak_of ⟨⟨_, rfl, .map rfl rfl⟩, ⟨_, rfl, .arr rfl rfl⟩, ⟨_, rfl, .d rfl⟩, ⟨_, rfl, .d rfl⟩, ⟨_, rfl, .d rfl⟩, trivial⟩ ⟨.map rfl rfl, .arr0 rfl rfl rfl, trivial⟩ (dropK rfl))⟩
    · refine cw_condF rfl hc67 ?_
      refine cw_exit ?_
      exact ⟨v63.2, (hx66 _ (Option.some.inj h69).symm).symm, .w (weak_of ⟨⟨_, rfl, .arr rfl rfl⟩, trivial⟩ ⟨.map rfl rfl, .arr rfl rfl, trivial⟩ (dropK rfl))⟩

set_option maxRecDepth 100000 in
theorem delta_Map_ok {a0 : List ((List UInt8) × ByteArray)} {r : (List ((List UInt8) × ByteArray))} (h : delta_Map a0 = some r) : FnOk Tryz.prog 60 [.d (eSapiPair a0)] 0 (lk []) (fun rr oo => rr = .d (eSapiPair r) ∧ oo = lk []) := by
  refine fnOk_of Tryz.func60 rfl rfl (cw_post ?_)
  unfold delta_Map at h
  refine cw_seq (cw_region (
    .cons (o_as rfl rfl .no rfl) <|
    .nil rfl
  ) ?_)
  obtain ⟨x1, hx2, h3⟩ := bind_some (x := delta_values a0) h
  obtain ⟨x4, hx5, h6⟩ := bind_some (x := delta_pairs x1) h3
  refine cw_seq (cw_region (
    .cons (o_mv rfl rfl .no rfl) <|
    .cons (o_callO 0 rfl rfl .no Tryz.func69 rfl rfl (delta_values_ok hx2) (.cons rfl .d .nil) ⟨trivial, trivial⟩ rfl (.inl rfl)) <|
    .cons (o_callX (fun n => bif Nat.beq n 0 then 0 else 1) rfl rfl .no Tryz.func71 rfl rfl (delta_pairs_ok hx5 0) (.cons rfl (.m rfl) .nil) (callIn1N rfl ⟨(by simp [AV.live, lk, Nat.beq]), trivial⟩ (by decide) rfl trivial rfl (by simp)) (.inl rfl)) <|
    .cons (o_as rfl rfl .no rfl) <|
    .nil rfl
  ) ?_)
  have heq := ((Option.some.inj h6).symm).symm
  subst heq
  exact cw_ret ⟨_, (show Leads _ _ (St.of [(2, .d (eSapiPair x4.1))] []) from .w (weak_of ⟨⟨_, rfl, .frz rfl rfl rfl⟩, trivial⟩ trivial drop0)), .inr rfl, _, res1 rfl rfl, rfl, rfl⟩

set_option maxRecDepth 100000 in
theorem delta_Map_a_ok {a0 : List ((List UInt8) × ByteArray)} {r : ((List ((List UInt8) × ByteArray)) × (List ((List UInt8) × ByteArray)))} (h : delta_Map_a a0 = some r) (u0 : Nat) : FnOk Tryz.prog 60 [.arr 0 u0] 1 (lk [(0, .arr u0 25 (List.map eapiPair a0))]) (fun rr oo => rr = .d (eSapiPair r.1) ∧ oo = lk [(0, .arr u0 25 (r.2.map eapiPair))]) := by
  refine fnOk_of Tryz.func60 rfl rfl (cw_post ?_)
  unfold delta_Map_a at h
  refine cw_seq (cw_region (
    .cons (o_as rfl rfl .no rfl) <|
    .nil rfl
  ) ?_)
  obtain ⟨x1, hx2, h3⟩ := bind_some (x := delta_values a0) h
  obtain ⟨x4, hx5, h6⟩ := bind_some (x := delta_pairs x1) h3
  refine cw_seq (cw_region (
    .cons (o_mv rfl rfl .no rfl) <|
    .cons (o_callO 1 rfl rfl .no Tryz.func69 rfl rfl (delta_values_ok hx2) (.cons rfl (.arrM rfl) .nil) ⟨trivial, trivial⟩ rfl (.inr ⟨trivial, (flat_mD (fun _ => (DFlat.bs _ _)) (fun _ => (DFlat.v _)))⟩)) <|
    .cons (o_callX (fun n => bif Nat.beq n 0 then 1 else 2) rfl rfl .no Tryz.func71 rfl rfl (delta_pairs_ok hx5 0) (.cons rfl (.m rfl) .nil) (callIn1N rfl ⟨(by simp [AV.live, lk, Nat.beq]), trivial⟩ (by decide) rfl trivial rfl (by simp)) (.inl rfl)) <|
    .cons (o_as rfl rfl .no rfl) <|
    .nil rfl
  ) ?_)
  have heq := ((Option.some.inj h6).symm).symm
  subst heq
  exact cw_ret ⟨_, (show Leads _ _ (St.of [(2, .d (eSapiPair x4.1))] [(0, .arr u0 25 (a0.map eapiPair))]) from .w (weak_of ⟨⟨_, rfl, .frz rfl rfl rfl⟩, trivial⟩ ⟨.arr rfl rfl, trivial⟩ (dropK rfl))), .inr rfl, _, res1 rfl rfl, rfl, rfl⟩

set_option maxRecDepth 100000 in
theorem delta_rising_ok {a0 : List (List UInt8 × ((List UInt8) × ByteArray × Bool))} {r : ((List ((List UInt8) × ByteArray × Bool)) × (List (List UInt8 × ((List UInt8) × ByteArray × Bool))))} (h : delta_rising a0 = some r) (u0 : Nat) : FnOk Tryz.prog 74 [.map 0] 1 (lk [(0, .map u0 (mD eapiKey eapiChange a0))]) (fun rr oo => rr = .arr 1 0 ∧ oo = lk [(0, .map u0 (mD eapiKey eapiChange r.2)), (1, .arr 0 26 (r.1.map eapiChange))]) := by
  refine fnOk_of Tryz.func74 rfl rfl (cw_post ?_)
  unfold delta_rising at h
  refine cw_seq (cw_region (
    .cons (o_as rfl rfl .no rfl) <|
    .nil rfl
  ) ?_)
  refine cw_seq (cw_region (
    .cons (o_as rfl rfl .no rfl) <|
    .nil rfl
  ) ?_)
  obtain ⟨o37, hj38, h39⟩ := bind_some h
  refine cw_join (fun (z : (List ((List UInt8) × ByteArray × Bool))) => St.of [(3, .arr 1 0)] [(0, .map u0 (mD eapiKey eapiChange a0)), (1, .arr 0 26 (z.map eapiChange))]) (fun (z : (List ((List UInt8) × ByteArray × Bool))) => o37 = z) ?_ ?_
  · intro v76 hv77; subst hv77
    refine cw_seq (cw_region (
      .cons (o_mv rfl rfl .no rfl) <|
      .cons (o_as rfl rfl .no rfl) <|
      .nil rfl
    ) ?_)
    have heq := ((Option.some.inj h39).symm).symm
    subst heq
    exact cw_ret ⟨_, (show Leads _ _ (St.of [(2, .arr 1 0)] [(0, .map u0 (mD eapiKey eapiChange a0)), (1, .arr 0 26 (o37.map eapiChange))]) from .w (weak_of ⟨⟨_, rfl, .arr rfl rfl⟩, trivial⟩ ⟨.map rfl rfl, .arr rfl rfl, trivial⟩ (dropK rfl))), .inr rfl, _, res1 rfl rfl, rfl, rfl⟩
  · skip
    obtain ⟨x40, hx41, h42⟩ := bind_some hj38
    have hx41g := fits_some hx41
    refine cw_seq (cw_region (
      .cons (o_mv rfl rfl .no rfl) <|
      .cons (o_callX (fun n => bif Nat.beq n 0 then 0 else 3) rfl rfl .no Tryz.func113 rfl rfl (keys113_ok (ek := eapiKey) (ev := eapiChange) (m := a0) u0) (.cons rfl (.m rfl) .nil) (callIn1N rfl ⟨(by simp [AV.live, lk]), trivial⟩ (by decide) rfl trivial rfl (by simp)) (.inl rfl)) <|
      .cons (o_callX (fun n => bif Nat.beq n 0 then 0 else 3) rfl rfl .no Tryz.func108 rfl rfl (sorted137_ok (ev := eapiChange) (m := a0) u0 hx41g) (.cons rfl (.f1 rfl) (.cons rfl .f0 .nil)) (callIn2 rfl ⟨(by simp [AV.live, AV.lives, lk, Nat.beq]), (by simp [AV.live, AV.lives]), trivial⟩ (by decide) rfl trivial rfl (by simp [OB.live, AV.live, lk, Nat.beq]) (by simp)) (.inl rfl)) <|
      .cons (o_lenM (enc := eapiKey) (xs := (sortKeys (a0.map fun p => p.1))) rfl rfl .no rfl sl167) <|
      .cons (o_mv rfl rfl .no rfl) <|
      .nil rfl
    ) ?_)
    refine cw_block ?_
    refine cw_while (V := (Int × (List ((List UInt8) × ByteArray × Bool)))) (O := (List ((List UInt8) × ByteArray × Bool))) (fun (z : (Int × (List ((List UInt8) × ByteArray × Bool)))) => St.of [(0, .map 0), (3, .arr 1 0), (8, .d (eSapiKey (sortKeys (a0.map fun p => p.1)))), (9, .d (eint ((sortKeys (a0.map fun p => p.1)).length : Int))), (10, .d (eint z.1))] [(0, .map u0 (mD eapiKey eapiChange a0)), (1, .arr 0 26 (z.2.map eapiChange))]) h42 (.w (weak_of ⟨⟨_, rfl, .map rfl rfl⟩, ⟨_, rfl, .nila rfl rfl⟩, ⟨_, rfl, .d rfl⟩, ⟨_, rfl, .d rfl⟩, ⟨_, rfl, .d rfl⟩, trivial⟩ ⟨.map rfl rfl, .nil rfl, trivial⟩ (dropK rfl))) ?_
    intro v63 x64 hb65 hx66
    refine cw_seq (cw_region (
      .cons (o_bin rfl rfl .no rfl rfl (b_lss _ _) rfl) <|
      .nil rfl
    ) ?_)
    refine cw_seq ?_
    rcases cond_some hb65 with ⟨hc67, h68⟩ | ⟨hc67, h69⟩
    · refine cw_condT rfl hc67 ?_
      refine cw_skip ?_
      refine cw_seq ?_
      refine cw_block ?_
      obtain ⟨x70, hx71, h72⟩ := bind_some h68
      have hx71g := gx_some hx71
      refine cw_seq (cw_region (
        .cons (o_ixM (enc := eapiKey) (xs := (sortKeys (a0.map fun p => p.1))) rfl rfl .no rfl rfl sl167 sz39 hx71g.1 hx71g.2) <|
        .cons (o_ld rfl rfl .no rfl ta39 rfl rfl) <|
        .cons (o_alloc 2 rfl rfl .no ze39 rfl) <|
        .cons (o_st [] rfl .no rfl rfl rfl rfl rfl sz39 rfl rfl) <|
        .nil rfl
      ) ?_)
      obtain ⟨x73, hx74, h75⟩ := bind_some h72
      have hx74g := fits_some hx74
      refine cw_region (
        .cons (o_mv rfl rfl .no rfl) <|
        .cons (o_mv rfl rfl .no rfl) <|
        .cons (o_ldP [] rfl rfl .no rfl rfl rfl ta39 rfl rfl) <|
        .cons (o_mapget (ek := eapiKey) (ev := eapiChange) (m := a0) x70 ((List.replicate 24 0), (ByteArray.mk #[]), false) rfl rfl .no rfl rfl rfl mp73 kl39 ze88 rfl rfl) <|
        .cons (o_bsl (rows := ([((mget a0 x70).getD ((List.replicate 24 0), (ByteArray.mk #[]), false))] : List ((List UInt8) × ByteArray × Bool)).map eapiChange) rfl rfl .no (.cons rfl .nil) rfl sl49 sz88 ze88 rfl (map_sz siapiChange) (by decide)) <|
        .cons (o_appM (enc := eapiChange) (xs := v63.2) (ys := [((mget a0 x70).getD ((List.replicate 24 0), (ByteArray.mk #[]), false))]) rfl rfl .no rfl rfl rfl siapiChange sl49 sl49 sz88 by88 ze88 rfl (by decide) hx74g) <|
        .cons (o_as rfl rfl .no rfl) <|
        .nil rfl
      ) ?_
      refine cw_region (
        .cons (o_bin rfl rfl .no rfl rfl (b_add _ _) rfl) <|
        .cons (o_mv rfl rfl .no rfl) <|
        .nil rfl
      ) ?_
      exact ⟨((IntKind.wrap .i64 (v63.1 + 1)), (v63.2 ++ [((mget a0 x70).getD ((List.replicate 24 0), (ByteArray.mk #[]), false))])), (Option.some.inj h75).symm, .w (weak_of ⟨⟨_, rfl, .map rfl rfl⟩, ⟨_, rfl, .arr rfl rfl⟩, ⟨_, rfl, .d rfl⟩, ⟨_, rfl, .d rfl⟩, ⟨_, rfl, .d rfl⟩, trivial⟩ ⟨.map rfl rfl, .arr0 rfl rfl rfl, trivial⟩ (dropK rfl))⟩
    · refine cw_condF rfl hc67 ?_
      refine cw_exit ?_
      exact ⟨v63.2, (hx66 _ (Option.some.inj h69).symm).symm, .w (weak_of ⟨⟨_, rfl, .arr rfl rfl⟩, trivial⟩ ⟨.map rfl rfl, .arr rfl rfl, trivial⟩ (dropK rfl))⟩

set_option maxRecDepth 100000 in
theorem delta_Apply_ok {a0 : List ((List UInt8) × ByteArray)} {a1 : List ((List UInt8) × ByteArray × Bool)} {r : (List ((List UInt8) × ByteArray))} (h : delta_Apply a0 a1 = some r) : FnOk Tryz.prog 37 [.d (eSapiPair a0), .d (eSapiChange a1)] 0 (lk []) (fun rr oo => rr = .arr 0 0 ∧ oo = lk [(0, .arr 0 25 (r.map eapiPair))]) := by
  refine fnOk_of Tryz.func37 rfl rfl (cw_post ?_)
  unfold delta_Apply at h
  refine cw_seq (cw_region (
    .cons (o_as rfl rfl .no rfl) <|
    .nil rfl
  ) ?_)
  obtain ⟨x1, hx2, h3⟩ := bind_some (x := delta_values a0) h
  refine cw_seq (cw_region (
    .cons (o_mv rfl rfl .no rfl) <|
    .cons (o_callO 2 rfl rfl .no Tryz.func69 rfl rfl (delta_values_ok hx2) (.cons rfl .d .nil) ⟨trivial, trivial⟩ rfl (.inl rfl)) <|
    .cons (o_as rfl rfl .no rfl) <|
    .nil rfl
  ) ?_)
  obtain ⟨o37, hj38, h39⟩ := bind_some h3
  refine cw_join (fun (z : (List (List UInt8 × ByteArray))) => St.of [(5, .map 2)] [(2, .map 0 (mD eapiKey estring z))]) (fun (z : (List (List UInt8 × ByteArray))) => o37 = z) ?_ ?_
  · intro v76 hv77; subst hv77
    obtain ⟨x73, hx74, h75⟩ := bind_some (x := delta_pairs o37) h39
    refine cw_seq (cw_region (
      .cons (o_mv rfl rfl .no rfl) <|
      .cons (o_callX (fun n => bif Nat.beq n 0 then 2 else 0) rfl rfl .no Tryz.func71 rfl rfl (delta_pairs_ok hx74 0) (.cons rfl (.m rfl) .nil) (callIn1N rfl ⟨(by simp [AV.live, lk, Nat.beq]), trivial⟩ (by decide) rfl trivial rfl (by simp)) (.inl rfl)) <|
      .cons (o_as rfl rfl .no rfl) <|
      .nil rfl
    ) ?_)
    have heq := ((Option.some.inj h75).symm).symm
    subst heq
    exact cw_ret ⟨_, (show Leads _ _ (St.of [(4, .arr 0 0)] [(0, .arr 0 25 (x73.1.map eapiPair))]) from .w (weak_of ⟨⟨_, rfl, .arr rfl rfl⟩, trivial⟩ ⟨.arr rfl rfl, trivial⟩ drop0)), .inr rfl, _, res1 rfl rfl, rfl, rfl⟩
  · skip
    refine cw_seq (cw_region (
      .cons (o_mv rfl rfl .no rfl) <|
      .cons (o_lenM (enc := eapiChange) (xs := a1) rfl rfl .no rfl sl49) <|
      .cons (o_mv rfl rfl .no rfl) <|
      .nil rfl
    ) ?_)
    refine cw_block ?_
    refine cw_while (V := (Int × (List (List UInt8 × ByteArray)))) (O := (List (List UInt8 × ByteArray))) (fun (z : (Int × (List (List UInt8 × ByteArray)))) => St.of [(5, .map 2), (10, .d (eSapiChange a1)), (11, .d (eint (a1.length : Int))), (12, .d (eint z.1))] [(2, .map 0 (mD eapiKey estring z.2))]) hj38 (.w (weak_of ⟨⟨_, rfl, .map rfl rfl⟩, ⟨_, rfl, .d rfl⟩, ⟨_, rfl, .d rfl⟩, ⟨_, rfl, .d rfl⟩, trivial⟩ ⟨.map rfl rfl, trivial⟩ drop0)) ?_
    intro v60 x61 hb62 hx63
    refine cw_seq (cw_region (
      .cons (o_bin rfl rfl .no rfl rfl (b_lss _ _) rfl) <|
      .nil rfl
    ) ?_)
    refine cw_seq ?_
    rcases cond_some hb62 with ⟨hc64, h65⟩ | ⟨hc64, h66⟩
    · refine cw_condT rfl hc64 ?_
      refine cw_skip ?_
      refine cw_seq ?_
      refine cw_block ?_
      obtain ⟨x67, hx68, h69⟩ := bind_some h65
      have hx68g := gx_some hx68
      refine cw_seq (cw_region (
        .cons (o_ixM (enc := eapiChange) (xs := a1) rfl rfl .no rfl rfl sl49 sz88 hx68g.1 hx68g.2) <|
        .cons (o_ld rfl rfl .no rfl ta88 rfl rfl) <|
        .cons (o_alloc 1 rfl rfl .no ze88 rfl) <|
        .cons (o_st [] rfl .no rfl rfl rfl rfl rfl sz88 rfl rfl) <|
        .nil rfl
      ) ?_)
      obtain ⟨x70, hx71, h72⟩ := bind_some (x := delta_does v60.2 x67) h69
      refine cw_region (
        .cons (o_mv rfl rfl .no rfl) <|
        .cons (o_ldP [] rfl rfl .no rfl rfl rfl ta88 rfl rfl) <|
        .cons (o_callX (fun _ => 2) rfl rfl .no Tryz.func70 rfl rfl (delta_does_ok hx71 0) (.cons rfl (.m rfl) (.cons rfl .d .nil)) (callIn1 rfl ⟨(by simp [AV.live, lk, Nat.beq]), trivial, trivial⟩ rfl trivial (by simp)) (.inl rfl)) <|
        .nil rfl
      ) ?_
      refine cw_region (
        .cons (o_bin rfl rfl .no rfl rfl (b_add _ _) rfl) <|
        .cons (o_mv rfl rfl .no rfl) <|
        .nil rfl
      ) ?_
      exact ⟨((IntKind.wrap .i64 (v60.1 + 1)), x70), (Option.some.inj h72).symm, .w (weak_of ⟨⟨_, rfl, .map rfl rfl⟩, ⟨_, rfl, .d rfl⟩, ⟨_, rfl, .d rfl⟩, ⟨_, rfl, .d rfl⟩, trivial⟩ ⟨.map0 rfl rfl rfl (noIter rfl), trivial⟩ drop0)⟩
    · refine cw_condF rfl hc64 ?_
      refine cw_exit ?_
      exact ⟨v60.2, (hx63 _ (Option.some.inj h66).symm).symm, .w (weak_of ⟨⟨_, rfl, .map rfl rfl⟩, trivial⟩ ⟨.map rfl rfl, trivial⟩ drop0)⟩

set_option maxRecDepth 100000 in
theorem slices_Concat_ok {a0 : List (List ((List UInt8) × ByteArray × Bool))} {r : (List ((List UInt8) × ByteArray × Bool))} (h : slices_Concat a0 = some r) : FnOk Tryz.prog 73 [.d (eSSapiChange a0)] 0 (lk []) (fun rr oo => rr = .d (eSapiChange r) ∧ oo = lk []) := by
  refine fnOk_of Tryz.func73 rfl rfl (cw_post ?_)
  unfold slices_Concat at h
  refine cw_seq (cw_region (
    .cons (o_as rfl rfl .no rfl) <|
    .nil rfl
  ) ?_)
  refine cw_seq (cw_region (
    .cons (o_as rfl rfl .no rfl) <|
    .nil rfl
  ) ?_)
  obtain ⟨o34, hj35, h36⟩ := bind_some h
  refine cw_join (fun (z : Int) => St.of [(0, .d (eSSapiChange a0)), (3, .d (eint z))] []) (fun (z : Int) => o34 = z) ?_ ?_
  · intro v144 hv145; subst hv145
    obtain ⟨x70, hx71, h72⟩ := bind_some h36
    have hx71g := ck_dec hx71
    refine cw_seq (cw_region (
      .cons (o_mv rfl rfl .no rfl) <|
      .cons (o_callO 0 rfl rfl .no Tryz.func112 rfl rfl (grow112_ok hx71g) (.cons rfl .d (.cons rfl .d .nil)) ⟨trivial, trivial, trivial⟩ rfl (.inl rfl)) <|
      .cons (o_as rfl rfl .no rfl) <|
      .nil rfl
    ) ?_)
    obtain ⟨o106, hj107, h108⟩ := bind_some h72
    refine cw_join (fun (z : (List ((List UInt8) × ByteArray × Bool))) => St.of [(6, .arr 0 0)] [(0, .arr 0 26 (z.map eapiChange))]) (fun (z : (List ((List UInt8) × ByteArray × Bool))) => o106 = z) ?_ ?_
    · intro v142 hv143; subst hv143
      refine cw_seq (cw_region (
        .cons (o_mv rfl rfl .no rfl) <|
        .cons (o_as rfl rfl .no rfl) <|
        .nil rfl
      ) ?_)
      have heq := ((Option.some.inj h108).symm).symm
      subst heq
      exact cw_ret ⟨_, (show Leads _ _ (St.of [(2, .d (eSapiChange o106))] []) from .w (weak_of ⟨⟨_, rfl, .frz rfl rfl rfl⟩, trivial⟩ trivial drop0)), .inr rfl, _, res1 rfl rfl, rfl, rfl⟩
    · skip
      refine cw_seq (cw_region (
        .cons (o_mv rfl rfl .no rfl) <|
        .cons (o_lenM (enc := eSapiChange) (xs := a0) rfl rfl .no rfl sl60) <|
        .cons (o_mv rfl rfl .no rfl) <|
        .nil rfl
      ) ?_)
      refine cw_block ?_
      refine cw_while (V := (Int × (List ((List UInt8) × ByteArray × Bool)))) (O := (List ((List UInt8) × ByteArray × Bool))) (fun (z : (Int × (List ((List UInt8) × ByteArray × Bool)))) => St.of [(6, .arr 0 0), (25, .d (eSSapiChange a0)), (26, .d (eint (a0.length : Int))), (27, .d (eint z.1))] [(0, .arr 0 26 (z.2.map eapiChange))]) hj107 (.w (weak_of ⟨⟨_, rfl, .arr rfl rfl⟩, ⟨_, rfl, .d rfl⟩, ⟨_, rfl, .d rfl⟩, ⟨_, rfl, .d rfl⟩, trivial⟩ ⟨.arr rfl rfl, trivial⟩ drop0)) ?_
      intro v129 x130 hb131 hx132
      refine cw_seq (cw_region (
        .cons (o_bin rfl rfl .no rfl rfl (b_lss _ _) rfl) <|
        .nil rfl
      ) ?_)
      refine cw_seq ?_
      rcases cond_some hb131 with ⟨hc133, h134⟩ | ⟨hc133, h135⟩
      · refine cw_condT rfl hc133 ?_
        refine cw_skip ?_
        refine cw_seq ?_
        refine cw_block ?_
        obtain ⟨x136, hx137, h138⟩ := bind_some h134
        have hx137g := gx_some hx137
        refine cw_seq (cw_region (
          .cons (o_ixM (enc := eSapiChange) (xs := a0) rfl rfl .no rfl rfl sl60 sz49 hx137g.1 hx137g.2) <|
          .cons (o_ld rfl rfl .no rfl ta49 rfl rfl) <|
          .cons (o_as rfl rfl .no rfl) <|
          .nil rfl
        ) ?_)
        obtain ⟨x139, hx140, h141⟩ := bind_some h138
        have hx140g := fits_some hx140
        refine cw_region (
          .cons (o_mv rfl rfl .no rfl) <|
          .cons (o_mv rfl rfl .no rfl) <|
          .cons (o_appM (enc := eapiChange) (xs := v129.2) (ys := x136) rfl rfl .no rfl rfl rfl siapiChange sl49 sl49 sz88 by88 ze88 rfl (by decide) hx140g) <|
          .cons (o_as rfl rfl .no rfl) <|
          .nil rfl
        ) ?_
        refine cw_region (
          .cons (o_bin rfl rfl .no rfl rfl (b_add _ _) rfl) <|
          .cons (o_mv rfl rfl .no rfl) <|
          .nil rfl
        ) ?_
        exact ⟨((IntKind.wrap .i64 (v129.1 + 1)), (v129.2 ++ x136)), (Option.some.inj h141).symm, .w (weak_of ⟨⟨_, rfl, .arr rfl rfl⟩, ⟨_, rfl, .d rfl⟩, ⟨_, rfl, .d rfl⟩, ⟨_, rfl, .d rfl⟩, trivial⟩ ⟨.arr0 rfl rfl rfl, trivial⟩ drop0)⟩
      · refine cw_condF rfl hc133 ?_
        refine cw_exit ?_
        exact ⟨v129.2, (hx132 _ (Option.some.inj h135).symm).symm, .w (weak_of ⟨⟨_, rfl, .arr rfl rfl⟩, trivial⟩ ⟨.arr rfl rfl, trivial⟩ drop0)⟩
  · skip
    refine cw_seq (cw_region (
      .cons (o_mv rfl rfl .no rfl) <|
      .cons (o_lenM (enc := eSapiChange) (xs := a0) rfl rfl .no rfl sl60) <|
      .cons (o_mv rfl rfl .no rfl) <|
      .nil rfl
    ) ?_)
    refine cw_block ?_
    refine cw_while (V := (Int × Int)) (O := Int) (fun (z : (Int × Int)) => St.of [(0, .d (eSSapiChange a0)), (3, .d (eint z.1)), (9, .d (eSSapiChange a0)), (10, .d (eint (a0.length : Int))), (11, .d (eint z.2))] []) hj35 (.w (weak_of ⟨⟨_, rfl, .d rfl⟩, ⟨_, rfl, .d rfl⟩, ⟨_, rfl, .d rfl⟩, ⟨_, rfl, .d rfl⟩, ⟨_, rfl, .d rfl⟩, trivial⟩ trivial drop0)) ?_
    intro v57 x58 hb59 hx60
    refine cw_seq (cw_region (
      .cons (o_bin rfl rfl .no rfl rfl (b_lss _ _) rfl) <|
      .nil rfl
    ) ?_)
    refine cw_seq ?_
    rcases cond_some hb59 with ⟨hc61, h62⟩ | ⟨hc61, h63⟩
    · refine cw_condT rfl hc61 ?_
      refine cw_skip ?_
      refine cw_seq ?_
      refine cw_block ?_
      obtain ⟨x64, hx65, h66⟩ := bind_some h62
      have hx65g := gx_some hx65
      refine cw_seq (cw_region (
        .cons (o_ixM (enc := eSapiChange) (xs := a0) rfl rfl .no rfl rfl sl60 sz49 hx65g.1 hx65g.2) <|
        .cons (o_ld rfl rfl .no rfl ta49 rfl rfl) <|
        .cons (o_as rfl rfl .no rfl) <|
        .nil rfl
      ) ?_)
      refine cw_seq (cw_region (
        .cons (o_mv rfl rfl .no rfl) <|
        .cons (o_mv rfl rfl .no rfl) <|
        .cons (o_lenM (enc := eapiChange) (xs := x64) rfl rfl .no rfl sl49) <|
        .cons (o_bin rfl rfl .no rfl rfl (b_add _ _) rfl) <|
        .cons (o_as rfl rfl .no rfl) <|
        .nil rfl
      ) ?_)
      refine cw_seq (cw_region (
        .cons (o_mv rfl rfl .no rfl) <|
        .cons (o_bin rfl rfl .no rfl rfl (b_lss _ _) rfl) <|
        .nil rfl
      ) ?_)
      rcases cond_some h66 with ⟨hc67, h68⟩ | ⟨hc67, h69⟩
      · refine cw_condT rfl hc67 ?_
        exact nomatch h68
      · refine cw_condF rfl hc67 ?_
        refine cw_skip ?_
        refine cw_region (
          .cons (o_bin rfl rfl .no rfl rfl (b_add _ _) rfl) <|
          .cons (o_mv rfl rfl .no rfl) <|
          .nil rfl
        ) ?_
        exact ⟨((IntKind.wrap .i64 (v57.1 + (x64.length : Int))), (IntKind.wrap .i64 (v57.2 + 1))), (Option.some.inj h69).symm, .w (weak_of ⟨⟨_, rfl, .d rfl⟩, ⟨_, rfl, .d rfl⟩, ⟨_, rfl, .d rfl⟩, ⟨_, rfl, .d rfl⟩, ⟨_, rfl, .d rfl⟩, trivial⟩ trivial drop0)⟩
    · refine cw_condF rfl hc61 ?_
      refine cw_exit ?_
      exact ⟨v57.1, (hx60 _ (Option.some.inj h63).symm).symm, .w (weak_of ⟨⟨_, rfl, .d rfl⟩, ⟨_, rfl, .d rfl⟩, trivial⟩ trivial drop0)⟩

set_option maxRecDepth 100000 in
theorem delta_Join_ok {a0 : List (List ((List UInt8) × ByteArray × Bool))} {r : (List ((List UInt8) × ByteArray × Bool))} (h : delta_Join a0 = some r) : FnOk Tryz.prog 41 [.d (eSSapiChange a0)] 0 (lk []) (fun rr oo => rr = .arr 0 0 ∧ oo = lk [(0, .arr 0 26 (r.map eapiChange))]) := by
  refine fnOk_of Tryz.func41 rfl rfl (cw_post ?_)
  unfold delta_Join at h
  refine cw_seq (cw_region (
    .cons (o_as rfl rfl .no rfl) <|
    .nil rfl
  ) ?_)
  refine cw_seq (cw_region (
    .cons (o_mkmap eapiKey eapiChange 2 rfl rfl .no rfl) <|
    .cons (o_as rfl rfl .no rfl) <|
    .nil rfl
  ) ?_)
  obtain ⟨o61, hj62, h63⟩ := bind_some h
  refine cw_join (fun (z : (List (List UInt8 × ((List UInt8) × ByteArray × Bool)))) => St.of [(3, .map 2)] [(2, .map 0 (mD eapiKey eapiChange z))]) (fun (z : (List (List UInt8 × ((List UInt8) × ByteArray × Bool)))) => o61 = z) ?_ ?_
  · intro v127 hv128; subst hv128
    obtain ⟨x124, hx125, h126⟩ := bind_some (x := delta_rising o61) h63
    refine cw_seq (cw_region (
      .cons (o_mv rfl rfl .no rfl) <|
      .cons (o_callX (fun n => bif Nat.beq n 0 then 2 else 0) rfl rfl .no Tryz.func74 rfl rfl (delta_rising_ok hx125 0) (.cons rfl (.m rfl) .nil) (callIn1N rfl ⟨(by simp [AV.live, lk, Nat.beq]), trivial⟩ (by decide) rfl trivial rfl (by simp)) (.inl rfl)) <|
      .cons (o_as rfl rfl .no rfl) <|
      .nil rfl
    ) ?_)
    have heq := ((Option.some.inj h126).symm).symm
    subst heq
    exact cw_ret ⟨_, (show Leads _ _ (St.of [(2, .arr 0 0)] [(0, .arr 0 26 (x124.1.map eapiChange))]) from .w (weak_of ⟨⟨_, rfl, .arr rfl rfl⟩, trivial⟩ ⟨.arr rfl rfl, trivial⟩ drop0)), .inr rfl, _, res1 rfl rfl, rfl, rfl⟩
  · skip
    obtain ⟨x64, hx65, h66⟩ := bind_some (x := slices_Concat a0) hj62
    refine cw_seq (cw_region (
      .cons (o_mv rfl rfl .no rfl) <|
      .cons (o_call rfl rfl .no Tryz.func73 rfl rfl (slices_Concat_ok hx65) (.cons rfl .d .nil) ⟨trivial, trivial⟩ (.inl rfl)) <|
      .cons (o_lenM (enc := eapiChange) (xs := x64) rfl rfl .no rfl sl49) <|
      .cons (o_mv rfl rfl .no rfl) <|
      .nil rfl
    ) ?_)
    refine cw_block ?_
    refine cw_while (V := (Int × (List (List UInt8 × ((List UInt8) × ByteArray × Bool))))) (O := (List (List UInt8 × ((List UInt8) × ByteArray × Bool)))) (fun (z : (Int × (List (List UInt8 × ((List UInt8) × ByteArray × Bool))))) => St.of [(3, .map 2), (8, .d (eSapiChange x64)), (9, .d (eint (x64.length : Int))), (10, .d (eint z.1))] [(2, .map 0 (mD eapiKey eapiChange z.2))]) h66 (.w (weak_of ⟨⟨_, rfl, .map rfl rfl⟩, ⟨_, rfl, .d rfl⟩, ⟨_, rfl, .d rfl⟩, ⟨_, rfl, .d rfl⟩, trivial⟩ ⟨.map rfl rfl, trivial⟩ drop0)) ?_
    intro v103 x104 hb105 hx106
    refine cw_seq (cw_region (
      .cons (o_bin rfl rfl .no rfl rfl (b_lss _ _) rfl) <|
      .nil rfl
    ) ?_)
    refine cw_seq ?_
    rcases cond_some hb105 with ⟨hc107, h108⟩ | ⟨hc107, h109⟩
    · refine cw_condT rfl hc107 ?_
      refine cw_skip ?_
      refine cw_seq ?_
      refine cw_block ?_
      obtain ⟨x110, hx111, h112⟩ := bind_some h108
      have hx111g := gx_some hx111
      refine cw_seq (cw_region (
        .cons (o_ixM (enc := eapiChange) (xs := x64) rfl rfl .no rfl rfl sl49 sz88 hx111g.1 hx111g.2) <|
        .cons (o_ld rfl rfl .no rfl ta88 rfl rfl) <|
        .cons (o_alloc 1 rfl rfl .no ze88 rfl) <|
        .cons (o_st [] rfl .no rfl rfl rfl rfl rfl sz88 rfl rfl) <|
        .nil rfl
      ) ?_)
      obtain ⟨o116, hj117, h118⟩ := bind_some h112
      refine cw_join (fun (z : ((List UInt8) × ByteArray × Bool)) => St.of [(3, .map 2), (5, .ptr 1 0), (8, .d (eSapiChange x64)), (9, .d (eint (x64.length : Int))), (10, .d (eint v103.1))] [(1, .box (.d (eapiChange z))), (2, .map 0 (mD eapiKey eapiChange v103.2))]) (fun (z : ((List UInt8) × ByteArray × Bool)) => o116 = z) ?_ ?_
      · intro v122 hv123; subst hv123
        refine cw_region (
          .cons (o_mv rfl rfl .no rfl) <|
          .cons (o_fldP rfl rfl .no rfl fld88_0 (by decide)) <|
          .cons (o_ldP [0] rfl rfl .no rfl rfl rfl ta39 rfl rfl) <|
          .cons (o_ldP [] rfl rfl .no rfl rfl rfl ta88 rfl rfl) <|
          .cons (o_mapset (ek := eapiKey) (ev := eapiChange) (m := v103.2) o116.1 o116 rfl .no rfl rfl rfl rfl mp73 kl39 rfl) <|
          .nil rfl
        ) ?_
        refine cw_region (
          .cons (o_bin rfl rfl .no rfl rfl (b_add _ _) rfl) <|
          .cons (o_mv rfl rfl .no rfl) <|
          .nil rfl
        ) ?_
        exact ⟨((IntKind.wrap .i64 (v103.1 + 1)), (mset v103.2 o116.1 o116)), (Option.some.inj h118).symm, .w (weak_of ⟨⟨_, rfl, .map rfl rfl⟩, ⟨_, rfl, .d rfl⟩, ⟨_, rfl, .d rfl⟩, ⟨_, rfl, .d rfl⟩, trivial⟩ ⟨.map0 rfl rfl rfl (noIter rfl), trivial⟩ drop0)⟩
      · skip
        refine cw_seq (cw_region (
          .cons (o_fldP rfl rfl .no rfl fld88_2 (by decide)) <|
          .cons (o_ldP [2] rfl rfl .no rfl rfl rfl ta4 rfl rfl) <|
          .nil rfl
        ) ?_)
        rcases cond_some hj117 with ⟨hc119, h120⟩ | ⟨hc119, h121⟩
        · refine cw_condT rfl hc119 ?_
          refine cw_region (
            .cons (o_fldP rfl rfl .no rfl fld88_1 (by decide)) <|
            .cons (o_st [1] rfl .no rfl rfl rfl rfl rfl sz9 rfl rfl) <|
            .nil rfl
          ) ?_
          exact ⟨(x110.1, (ByteArray.mk #[]), x110.2.2), (Option.some.inj h120).symm, .w (weak_of ⟨⟨_, rfl, .map rfl rfl⟩, ⟨_, rfl, .ptr rfl rfl⟩, ⟨_, rfl, .d rfl⟩, ⟨_, rfl, .d rfl⟩, ⟨_, rfl, .d rfl⟩, trivial⟩ ⟨.box rfl (.d rfl), .map rfl rfl, trivial⟩ drop0)⟩
        · refine cw_condF rfl hc119 ?_
          refine cw_skip ?_
          exact ⟨x110, (Option.some.inj h121).symm, .w (weak_of ⟨⟨_, rfl, .map rfl rfl⟩, ⟨_, rfl, .ptr rfl rfl⟩, ⟨_, rfl, .d rfl⟩, ⟨_, rfl, .d rfl⟩, ⟨_, rfl, .d rfl⟩, trivial⟩ ⟨.box rfl (.d rfl), .map rfl rfl, trivial⟩ drop0)⟩
    · refine cw_condF rfl hc107 ?_
      refine cw_exit ?_
      exact ⟨v103.2, (hx106 _ (Option.some.inj h109).symm).symm, .w (weak_of ⟨⟨_, rfl, .map rfl rfl⟩, trivial⟩ ⟨.map rfl rfl, trivial⟩ drop0)⟩

end
end Go.Val

