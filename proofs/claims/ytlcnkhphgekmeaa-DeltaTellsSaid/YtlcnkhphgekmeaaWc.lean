/- Walks of the program's functions, printed. -/
import Derived.Test.YtlcnkhphgekmeaaWb
set_option linter.unusedSectionVars false
set_option linter.unusedVariables false
set_option linter.unusedSimpArgs false
namespace Go.Val
open Go.RowKit Go.Proofs

section
variable [NoDrw]

noncomputable def delta_pairs (a0 : List (List UInt8 × ByteArray)) : Option ((List ((List UInt8) × ByteArray)) × (List (List UInt8 × ByteArray))) :=
  (((
    (fits a0.length 24).bind fun _ =>
    whileO (V := (Int × (List ((List UInt8) × ByteArray)))) (O := (List ((List UInt8) × ByteArray))) (fun v63 =>
      cond (decide (v63.1 < ((sortKeys (a0.map fun p => p.1)).length : Int))) (
        (gx (sortKeys (a0.map fun p => p.1)) v63.1).bind fun x70 =>
        (fits (v63.2.length + ([(x70, ((mget a0 x70).getD (ByteArray.mk #[])))]).length) 40).bind fun _ =>
        some (.inl ((IntKind.wrap .i64 (v63.1 + 1)), (v63.2 ++ [(x70, ((mget a0 x70).getD (ByteArray.mk #[])))])))
      ) (
        some (.inr v63.2)
      )
    ) (0, [])
  ) : Option (List ((List UInt8) × ByteArray)))).bind fun o37 =>
  some (o37, a0)

noncomputable def delta_rising (a0 : List (List UInt8 × ((List UInt8) × ByteArray × Bool))) : Option ((List ((List UInt8) × ByteArray × Bool)) × (List (List UInt8 × ((List UInt8) × ByteArray × Bool)))) :=
  (((
    (fits a0.length 24).bind fun _ =>
    whileO (V := (Int × (List ((List UInt8) × ByteArray × Bool)))) (O := (List ((List UInt8) × ByteArray × Bool))) (fun v63 =>
      cond (decide (v63.1 < ((sortKeys (a0.map fun p => p.1)).length : Int))) (
        (gx (sortKeys (a0.map fun p => p.1)) v63.1).bind fun x70 =>
        (fits (v63.2.length + ([((mget a0 x70).getD ((List.replicate 24 0), (ByteArray.mk #[]), false))]).length) 48).bind fun _ =>
        some (.inl ((IntKind.wrap .i64 (v63.1 + 1)), (v63.2 ++ [((mget a0 x70).getD ((List.replicate 24 0), (ByteArray.mk #[]), false))])))
      ) (
        some (.inr v63.2)
      )
    ) (0, [])
  ) : Option (List ((List UInt8) × ByteArray × Bool)))).bind fun o37 =>
  some (o37, a0)

noncomputable def delta_Map (a0 : List ((List UInt8) × ByteArray)) : Option (List ((List UInt8) × ByteArray)) :=
  (delta_values a0).bind fun x1 =>
  (delta_pairs x1).bind fun x4 =>
  some x4.1

noncomputable def delta_Apply (a0 : List ((List UInt8) × ByteArray)) (a1 : List ((List UInt8) × ByteArray × Bool)) : Option (List ((List UInt8) × ByteArray)) :=
  (delta_values a0).bind fun x1 =>
  (((
    whileO (V := (Int × (List (List UInt8 × ByteArray)))) (O := (List (List UInt8 × ByteArray))) (fun v60 =>
      cond (decide (v60.1 < (a1.length : Int))) (
        (gx a1 v60.1).bind fun x67 =>
        (delta_does v60.2 x67).bind fun x70 =>
        some (.inl ((IntKind.wrap .i64 (v60.1 + 1)), x70))
      ) (
        some (.inr v60.2)
      )
    ) (0, x1)
  ) : Option (List (List UInt8 × ByteArray)))).bind fun o37 =>
  (delta_pairs o37).bind fun x73 =>
  some x73.1

noncomputable def delta_Diff (a0 : List ((List UInt8) × ByteArray)) (a1 : List ((List UInt8) × ByteArray)) : Option (List ((List UInt8) × ByteArray × Bool)) :=
  (delta_values a0).bind fun x1 =>
  (delta_values a1).bind fun x4 =>
  forOrd x1 (fun x19 => (List.foldlM (m := Option) (fun (v17 : (List (List UInt8 × ((List UInt8) × ByteArray × Bool)))) (x18 : ((List UInt8) × ByteArray)) => ((
    cond (!((mget x4 x18.1).isSome)) (
      some (mset v17 x18.1 (x18.1, (ByteArray.mk #[]), true))
    ) (
      some v17
    )
  ) : Option (List (List UInt8 × ((List UInt8) × ByteArray × Bool))))) ([]) x19).bind fun (v24 : (List (List UInt8 × ((List UInt8) × ByteArray × Bool)))) =>
    forOrd x4 (fun x65 => (List.foldlM (m := Option) (fun (v63 : (List (List UInt8 × ((List UInt8) × ByteArray × Bool)))) (x64 : ((List UInt8) × ByteArray)) => ((
      (((
        cond (!((mget x1 x64.1).isSome)) (
          some true
        ) (
          some (decide (((mget x1 x64.1).getD (ByteArray.mk #[])) ≠ x64.2))
        )
      ) : Option Bool)).bind fun o77 =>
      cond o77 (
        some (mset v63 x64.1 (x64.1, x64.2, false))
      ) (
        some v63
      )
    ) : Option (List (List UInt8 × ((List UInt8) × ByteArray × Bool))))) v24 x65).bind fun (v70 : (List (List UInt8 × ((List UInt8) × ByteArray × Bool)))) =>
      (delta_rising v70).bind fun x88 =>
      some x88.1
    )
  )

noncomputable def slices_Concat (a0 : List (List ((List UInt8) × ByteArray × Bool))) : Option (List ((List UInt8) × ByteArray × Bool)) :=
  (((
    whileO (V := (Int × Int)) (O := Int) (fun v57 =>
      cond (decide (v57.2 < (a0.length : Int))) (
        (gx a0 v57.2).bind fun x64 =>
        cond (decide ((IntKind.wrap .i64 (v57.1 + (x64.length : Int))) < 0)) (
          none
        ) (
          some (.inl ((IntKind.wrap .i64 (v57.1 + (x64.length : Int))), (IntKind.wrap .i64 (v57.2 + 1))))
        )
      ) (
        some (.inr v57.1)
      )
    ) (0, 0)
  ) : Option Int)).bind fun o34 =>
  (ck (decide (0 ≤ o34 ∧ o34.toNat * 48 ≤ 140737488355328))).bind fun _ =>
  (((
    whileO (V := (Int × (List ((List UInt8) × ByteArray × Bool)))) (O := (List ((List UInt8) × ByteArray × Bool))) (fun v129 =>
      cond (decide (v129.1 < (a0.length : Int))) (
        (gx a0 v129.1).bind fun x136 =>
        (fits (v129.2.length + x136.length) 48).bind fun _ =>
        some (.inl ((IntKind.wrap .i64 (v129.1 + 1)), (v129.2 ++ x136)))
      ) (
        some (.inr v129.2)
      )
    ) (0, ([] : List ((List UInt8) × ByteArray × Bool)))
  ) : Option (List ((List UInt8) × ByteArray × Bool)))).bind fun o106 =>
  some o106

noncomputable def delta_Join (a0 : List (List ((List UInt8) × ByteArray × Bool))) : Option (List ((List UInt8) × ByteArray × Bool)) :=
  (((
    (slices_Concat a0).bind fun x64 =>
    whileO (V := (Int × (List (List UInt8 × ((List UInt8) × ByteArray × Bool))))) (O := (List (List UInt8 × ((List UInt8) × ByteArray × Bool)))) (fun v103 =>
      cond (decide (v103.1 < (x64.length : Int))) (
        (gx x64 v103.1).bind fun x110 =>
        (((
          cond x110.2.2 (
            some (x110.1, (ByteArray.mk #[]), x110.2.2)
          ) (
            some x110
          )
        ) : Option ((List UInt8) × ByteArray × Bool))).bind fun o116 =>
        some (.inl ((IntKind.wrap .i64 (v103.1 + 1)), (mset v103.2 o116.1 o116)))
      ) (
        some (.inr v103.2)
      )
    ) (0, [])
  ) : Option (List (List UInt8 × ((List UInt8) × ByteArray × Bool))))).bind fun o61 =>
  (delta_rising o61).bind fun x124 =>
  some x124.1

noncomputable def delta_Merge (a0 : List ((List UInt8) × ByteArray)) (a1 : List ((List UInt8) × ByteArray)) (a2 : List ((List UInt8) × ByteArray)) : Option ((List ((List UInt8) × ByteArray)) × (List (List UInt8))) :=
  (delta_values a0).bind fun x1 =>
  (delta_values a1).bind fun x4 =>
  (delta_values a2).bind fun x7 =>
  (((
    (delta_Diff a0 a2).bind fun x274 =>
    whileO (V := (Int × (List (List UInt8 × ByteArray)) × (List (List UInt8 × ByteArray)) × (List (List UInt8 × ByteArray)) × (List (List UInt8 × ByteArray)) × (List (List UInt8)))) (O := ((List (List UInt8 × ByteArray)) × (List (List UInt8)))) (fun v447 =>
      cond (decide (v447.1 < (x274.length : Int))) (
        (((
          (gx x274 v447.1).bind fun x495 =>
          (delta_does v447.2.2.2.2.1 x495).bind fun x498 =>
          (((
            (delta_alike v447.2.1 v447.2.2.1 x495.1).bind fun x516 =>
            cond (!x516.1) (
              (delta_alike x516.2.2 v447.2.2.2.1 x495.1).bind fun x522 =>
              some ((!x522.1), x516.2.1, x522.2.1, x522.2.2)
            ) (
              some (false, x516.2.1, x516.2.2, v447.2.2.2.1)
            )
          ) : Option (Bool × (List (List UInt8 × ByteArray)) × (List (List UInt8 × ByteArray)) × (List (List UInt8 × ByteArray))))).bind fun o513 =>
          cond o513.1 (
            (fits (v447.2.2.2.2.2.length + ([x495.1]).length) 24).bind fun _ =>
            some (o513.2.1, o513.2.2.1, o513.2.2.2, x498, (v447.2.2.2.2.2 ++ [x495.1]))
          ) (
            some (o513.2.1, o513.2.2.1, o513.2.2.2, x498, v447.2.2.2.2.2)
          )
        ) : Option ((List (List UInt8 × ByteArray)) × (List (List UInt8 × ByteArray)) × (List (List UInt8 × ByteArray)) × (List (List UInt8 × ByteArray)) × (List (List UInt8))))).bind fun o492 =>
        some (.inl ((IntKind.wrap .i64 (v447.1 + 1)), o492.1, o492.2.1, o492.2.2.1, o492.2.2.2.1, o492.2.2.2.2))
      ) (
        some (.inr (v447.2.2.2.2.1, v447.2.2.2.2.2))
      )
    ) (0, x1, x4, x7, x4, [])
  ) : Option ((List (List UInt8 × ByteArray)) × (List (List UInt8))))).bind fun o271 =>
  (delta_pairs o271.1).bind fun x535 =>
  some (x535.1, o271.2)

noncomputable def law09_shown : Option Bool :=
  (law09_k 1).bind fun x1 =>
  (law09_k 2).bind fun x4 =>
  (law09_k 3).bind fun x7 =>
  (delta_Diff ([(x1, (ByteArray.mk #[120])), (x4, (ByteArray.mk #[121]))]) ([(x4, (ByteArray.mk #[122])), (x7, (ByteArray.mk #[119]))])).bind fun x10 =>
  (delta_Merge ([(x1, (ByteArray.mk #[120])), (x4, (ByteArray.mk #[121]))]) ([(x4, (ByteArray.mk #[122])), (x7, (ByteArray.mk #[119]))]) ([(x1, (ByteArray.mk #[120])), (x4, (ByteArray.mk #[121]))])).bind fun x13 =>
  (((
    cond (decide ((x10.length : Int) = 3)) (
      (gx x10 0).bind fun x58 =>
      cond ((decide (x58.1 = (x1, (ByteArray.mk #[]), true).1)) && ((decide (x58.2.1 = (x1, (ByteArray.mk #[]), true).2.1)) && ((x58.2.2 == (x1, (ByteArray.mk #[]), true).2.2) && true))) (
        (gx x10 1).bind fun x64 =>
        cond (decide (x64.2.1 = (ByteArray.mk #[122]))) (
          (gx x10 2).bind fun x70 =>
          cond (decide (x70.2.1 = (ByteArray.mk #[119]))) (
            cond (decide ((x13.1.length : Int) = 2)) (
              cond (decide ((x13.2.length : Int) = 0)) (
                (ck (decide (0 < ([(x4, (ByteArray.mk #[122])), (x7, (ByteArray.mk #[119]))]).length))).bind fun _ =>
                (fits (([(x1, (ByteArray.mk #[120])), (x4, (ByteArray.mk #[121]))]).length + ([(x4, (ByteArray.mk #[122])), (x7, (ByteArray.mk #[119]))]).length) 40).bind fun _ =>
                (delta_Map ([(x1, (ByteArray.mk #[120])), (x4, (ByteArray.mk #[121]))] ++ [(x4, (ByteArray.mk #[122])), (x7, (ByteArray.mk #[119]))])).bind fun x88 =>
                some (decide ((x88.length : Int) = 3))
              ) (
                some false
              )
            ) (
              some false
            )
          ) (
            some false
          )
        ) (
          some false
        )
      ) (
        some false
      )
    ) (
      some false
    )
  ) : Option Bool)).bind fun o52 =>
  some o52

set_option maxRecDepth 100000 in
theorem delta_pairs_ok {a0 : List (List UInt8 × ByteArray)} {r : ((List ((List UInt8) × ByteArray)) × (List (List UInt8 × ByteArray)))} (h : delta_pairs a0 = some r) (u0 : Nat) : FnOk Try.prog 29 [.map 0] 1 (lk [(0, .map u0 (mD eapiKey estring a0))]) (fun rr oo => rr = .d (eSapiPair r.1) ∧ oo = lk [(0, .map u0 (mD eapiKey estring r.2))]) := by
  refine fnOk_of Try.func29 rfl rfl ?_
  unfold delta_pairs at h
  refine cw_seq (cw_region (
    .cons (o_as rfl rfl .no rfl) <|
    .nil rfl
  ) ?_)
  refine cw_seq (cw_region (
    .cons (o_as rfl rfl .no rfl) <|
    .nil rfl
  ) ?_)
  obtain ⟨o37, hj38, h39⟩ := bind_some h
  refine cw_join (fun (z : (List ((List UInt8) × ByteArray))) => St.of [(3, .arr 3 0)] [(0, .map u0 (mD eapiKey estring a0)), (3, .arr 0 25 (z.map eapiPair))]) (fun (z : (List ((List UInt8) × ByteArray))) => o37 = z) ?_ ?_
  · intro v76 hv77; subst hv77
    refine cw_seq (cw_region (
      .cons (o_mv rfl rfl .no rfl) <|
      .cons (o_as rfl rfl .no rfl) <|
      .nil rfl
    ) ?_)
    have heq := ((Option.some.inj h39).symm).symm
    subst heq
    exact cw_weak (weak_of (l := [(2, .d (eSapiPair o37))]) (m := [(0, .map u0 (mD eapiKey estring a0))]) ⟨⟨_, rfl, .frz rfl rfl rfl⟩, trivial⟩ ⟨.map rfl rfl, trivial⟩ (dropK rfl)) (cw_ret ⟨.inr rfl, _, res1 rfl rfl, rfl, rfl⟩)
  · skip
    obtain ⟨x40, hx41, h42⟩ := bind_some hj38
    have hx41g := fits_some hx41
    refine cw_seq (cw_region (
      .cons (o_mv rfl rfl .no rfl) <|
      .cons (o_callX (fun n => bif Nat.beq n 0 then 0 else 1) rfl rfl .no Try.func41 rfl rfl (keys41_ok (ek := eapiKey) (ev := estring) (m := a0) u0) (.cons rfl (.m rfl) .nil) (callIn1N rfl ⟨(by simp [AV.live, lk]), trivial⟩ (by decide) rfl trivial rfl (by simp)) (.inl rfl)) <|
      .cons (o_callX (fun n => bif Nat.beq n 0 then 0 else 1) rfl rfl .no Try.func40 rfl rfl (sorted48_ok (ev := estring) (m := a0) u0 hx41g) (.cons rfl (.f1 rfl) (.cons rfl .f0 .nil)) (callIn2 rfl ⟨(by simp [AV.live, AV.lives, lk, Nat.beq]), (by simp [AV.live, AV.lives]), trivial⟩ (by decide) rfl trivial rfl (by simp [OB.live, AV.live, lk, Nat.beq]) (by simp)) (.inl rfl)) <|
      .cons (o_lenM (enc := eapiKey) (xs := (sortKeys (a0.map fun p => p.1))) rfl rfl .no rfl sl40) <|
      .cons (o_mv rfl rfl .no rfl) <|
      .nil rfl
    ) ?_)
    refine cw_block ?_
    refine cw_while (V := (Int × (List ((List UInt8) × ByteArray)))) (O := (List ((List UInt8) × ByteArray))) (fun (z : (Int × (List ((List UInt8) × ByteArray)))) => St.of [(0, .map 0), (3, .arr 3 0), (8, .d (eSapiKey (sortKeys (a0.map fun p => p.1)))), (9, .d (eint ((sortKeys (a0.map fun p => p.1)).length : Int))), (10, .d (eint z.1))] [(0, .map u0 (mD eapiKey estring a0)), (3, .arr 0 25 (z.2.map eapiPair))]) h42 (weak_of ⟨⟨_, rfl, .map rfl rfl⟩, ⟨_, rfl, .nila rfl rfl⟩, ⟨_, rfl, .d rfl⟩, ⟨_, rfl, .d rfl⟩, ⟨_, rfl, .d rfl⟩, trivial⟩ ⟨.map rfl rfl, .nil rfl, trivial⟩ (dropK rfl)) ?_
    intro v63 x64 hb65 hx66
    refine cw_seq (cw_region (
      .cons (o_bin rfl rfl .no rfl rfl (b_lss _ _) rfl) <|
      .nil rfl
    ) ?_)
    refine cw_seq ?_
    rcases cond_some hb65 with ⟨hc67, h68⟩ | ⟨hc67, h69⟩
    · refine cw_condT rfl hc67 ?_
      refine cw_skip ?_
      refine cw_seq ?_
      refine cw_block ?_
      obtain ⟨x70, hx71, h72⟩ := bind_some h68
      have hx71g := gx_some hx71
      refine cw_seq (cw_region (
        .cons (o_ixM (enc := eapiKey) (xs := (sortKeys (a0.map fun p => p.1))) rfl rfl .no rfl rfl sl40 sz27 hx71g.1 hx71g.2) <|
        .cons (o_ld rfl rfl .no rfl ta27 rfl rfl) <|
        .cons (o_alloc 2 rfl rfl .no ze27 rfl) <|
        .cons (o_st [] rfl .no rfl rfl rfl rfl rfl sz27 rfl rfl) <|
        .nil rfl
      ) ?_)
      obtain ⟨x73, hx74, h75⟩ := bind_some h72
      have hx74g := fits_some hx74
      refine cw_region_any mixed (by kernel_rfl) (
        .cons (o_mv rfl rfl .no rfl) <|
        .cons (o_ldP [] rfl rfl .no rfl rfl rfl ta27 rfl rfl) <|
        .cons (o_mv rfl rfl .no rfl) <|
        .cons (o_ldP [] rfl rfl .no rfl rfl rfl ta27 rfl rfl) <|
        .cons (o_mapget (ek := eapiKey) (ev := estring) (m := a0) x70 (ByteArray.mk #[]) rfl rfl .no rfl rfl rfl mp54 kl27 ze9 rfl rfl) <|
        .cons (o_bld (ds := [eapiKey x70, estring ((mget a0 x70).getD (ByteArray.mk #[]))]) rfl rfl .no zs29 rfl pl29 (.cons rfl rfl rfl rfl rfl rfl rfl (.cons rfl rfl rfl rfl rfl rfl rfl .nil))) <|
        .cons (o_bsl (rows := ([(x70, ((mget a0 x70).getD (ByteArray.mk #[])))] : List ((List UInt8) × ByteArray)).map eapiPair) rfl rfl .no (.cons rfl .nil) rfl sl22 sz29 ze29 rfl (map_sz siapiPair) (by decide)) <|
        .cons (o_appM (enc := eapiPair) (xs := v63.2) (ys := [(x70, ((mget a0 x70).getD (ByteArray.mk #[])))]) rfl rfl .no rfl rfl rfl siapiPair sl22 sl22 sz29 by29 ze29 rfl (by decide) hx74g) <|
        .cons (o_as rfl rfl .no rfl) <|
        .nil rfl
      ) (by kernel_rfl) ?_
      refine cw_region (
        .cons (o_bin rfl rfl .no rfl rfl (b_add _ _) rfl) <|
        .cons (o_mv rfl rfl .no rfl) <|
        .nil rfl
      ) ?_
      exact ⟨((IntKind.wrap .i64 (v63.1 + 1)), (v63.2 ++ [(x70, ((mget a0 x70).getD (ByteArray.mk #[])))])), (Option.some.inj h75).symm, weak_of ⟨⟨_, rfl, .map rfl rfl⟩, ⟨_, rfl, .arr rfl rfl⟩, ⟨_, rfl, .d rfl⟩, ⟨_, rfl, .d rfl⟩, ⟨_, rfl, .d rfl⟩, trivial⟩ ⟨.map rfl rfl, .arr0 rfl rfl rfl, trivial⟩ (dropK rfl)⟩
    · refine cw_condF rfl hc67 ?_
      refine cw_exit ?_
      exact ⟨v63.2, (hx66 _ (Option.some.inj h69).symm).symm, weak_of ⟨⟨_, rfl, .arr rfl rfl⟩, trivial⟩ ⟨.map rfl rfl, .arr rfl rfl, trivial⟩ (dropK rfl)⟩

set_option maxRecDepth 100000 in
theorem delta_rising_ok {a0 : List (List UInt8 × ((List UInt8) × ByteArray × Bool))} {r : ((List ((List UInt8) × ByteArray × Bool)) × (List (List UInt8 × ((List UInt8) × ByteArray × Bool))))} (h : delta_rising a0 = some r) (u0 : Nat) : FnOk Try.prog 32 [.map 0] 1 (lk [(0, .map u0 (mD eapiKey eapiChange a0))]) (fun rr oo => rr = .d (eSapiChange r.1) ∧ oo = lk [(0, .map u0 (mD eapiKey eapiChange r.2))]) := by
  refine fnOk_of Try.func32 rfl rfl ?_
  unfold delta_rising at h
  refine cw_seq (cw_region (
    .cons (o_as rfl rfl .no rfl) <|
    .nil rfl
  ) ?_)
  refine cw_seq (cw_region (
    .cons (o_as rfl rfl .no rfl) <|
    .nil rfl
  ) ?_)
  obtain ⟨o37, hj38, h39⟩ := bind_some h
  refine cw_join (fun (z : (List ((List UInt8) × ByteArray × Bool))) => St.of [(3, .arr 3 0)] [(0, .map u0 (mD eapiKey eapiChange a0)), (3, .arr 0 26 (z.map eapiChange))]) (fun (z : (List ((List UInt8) × ByteArray × Bool))) => o37 = z) ?_ ?_
  · intro v76 hv77; subst hv77
    refine cw_seq (cw_region (
      .cons (o_mv rfl rfl .no rfl) <|
      .cons (o_as rfl rfl .no rfl) <|
      .nil rfl
    ) ?_)
    have heq := ((Option.some.inj h39).symm).symm
    subst heq
    exact cw_weak (weak_of (l := [(2, .d (eSapiChange o37))]) (m := [(0, .map u0 (mD eapiKey eapiChange a0))]) ⟨⟨_, rfl, .frz rfl rfl rfl⟩, trivial⟩ ⟨.map rfl rfl, trivial⟩ (dropK rfl)) (cw_ret ⟨.inr rfl, _, res1 rfl rfl, rfl, rfl⟩)
  · skip
    obtain ⟨x40, hx41, h42⟩ := bind_some hj38
    have hx41g := fits_some hx41
    refine cw_seq (cw_region (
      .cons (o_mv rfl rfl .no rfl) <|
      .cons (o_callX (fun n => bif Nat.beq n 0 then 0 else 1) rfl rfl .no Try.func43 rfl rfl (keys43_ok (ek := eapiKey) (ev := eapiChange) (m := a0) u0) (.cons rfl (.m rfl) .nil) (callIn1N rfl ⟨(by simp [AV.live, lk]), trivial⟩ (by decide) rfl trivial rfl (by simp)) (.inl rfl)) <|
      .cons (o_callX (fun n => bif Nat.beq n 0 then 0 else 1) rfl rfl .no Try.func40 rfl rfl (sorted50_ok (ev := eapiChange) (m := a0) u0 hx41g) (.cons rfl (.f1 rfl) (.cons rfl .f0 .nil)) (callIn2 rfl ⟨(by simp [AV.live, AV.lives, lk, Nat.beq]), (by simp [AV.live, AV.lives]), trivial⟩ (by decide) rfl trivial rfl (by simp [OB.live, AV.live, lk, Nat.beq]) (by simp)) (.inl rfl)) <|
      .cons (o_lenM (enc := eapiKey) (xs := (sortKeys (a0.map fun p => p.1))) rfl rfl .no rfl sl40) <|
      .cons (o_mv rfl rfl .no rfl) <|
      .nil rfl
    ) ?_)
    refine cw_block ?_
    refine cw_while (V := (Int × (List ((List UInt8) × ByteArray × Bool)))) (O := (List ((List UInt8) × ByteArray × Bool))) (fun (z : (Int × (List ((List UInt8) × ByteArray × Bool)))) => St.of [(0, .map 0), (3, .arr 3 0), (8, .d (eSapiKey (sortKeys (a0.map fun p => p.1)))), (9, .d (eint ((sortKeys (a0.map fun p => p.1)).length : Int))), (10, .d (eint z.1))] [(0, .map u0 (mD eapiKey eapiChange a0)), (3, .arr 0 26 (z.2.map eapiChange))]) h42 (weak_of ⟨⟨_, rfl, .map rfl rfl⟩, ⟨_, rfl, .nila rfl rfl⟩, ⟨_, rfl, .d rfl⟩, ⟨_, rfl, .d rfl⟩, ⟨_, rfl, .d rfl⟩, trivial⟩ ⟨.map rfl rfl, .nil rfl, trivial⟩ (dropK rfl)) ?_
    intro v63 x64 hb65 hx66
    refine cw_seq (cw_region (
      .cons (o_bin rfl rfl .no rfl rfl (b_lss _ _) rfl) <|
      .nil rfl
    ) ?_)
    refine cw_seq ?_
    rcases cond_some hb65 with ⟨hc67, h68⟩ | ⟨hc67, h69⟩
    · refine cw_condT rfl hc67 ?_
      refine cw_skip ?_
      refine cw_seq ?_
      refine cw_block ?_
      obtain ⟨x70, hx71, h72⟩ := bind_some h68
      have hx71g := gx_some hx71
      refine cw_seq (cw_region (
        .cons (o_ixM (enc := eapiKey) (xs := (sortKeys (a0.map fun p => p.1))) rfl rfl .no rfl rfl sl40 sz27 hx71g.1 hx71g.2) <|
        .cons (o_ld rfl rfl .no rfl ta27 rfl rfl) <|
        .cons (o_alloc 2 rfl rfl .no ze27 rfl) <|
        .cons (o_st [] rfl .no rfl rfl rfl rfl rfl sz27 rfl rfl) <|
        .nil rfl
      ) ?_)
      obtain ⟨x73, hx74, h75⟩ := bind_some h72
      have hx74g := fits_some hx74
      refine cw_region (
        .cons (o_mv rfl rfl .no rfl) <|
        .cons (o_mv rfl rfl .no rfl) <|
        .cons (o_ldP [] rfl rfl .no rfl rfl rfl ta27 rfl rfl) <|
        .cons (o_mapget (ek := eapiKey) (ev := eapiChange) (m := a0) x70 ((List.replicate 24 0), (ByteArray.mk #[]), false) rfl rfl .no rfl rfl rfl mp59 kl27 ze38 rfl rfl) <|
        .cons (o_bsl (rows := ([((mget a0 x70).getD ((List.replicate 24 0), (ByteArray.mk #[]), false))] : List ((List UInt8) × ByteArray × Bool)).map eapiChange) rfl rfl .no (.cons rfl .nil) rfl sl34 sz38 ze38 rfl (map_sz siapiChange) (by decide)) <|
        .cons (o_appM (enc := eapiChange) (xs := v63.2) (ys := [((mget a0 x70).getD ((List.replicate 24 0), (ByteArray.mk #[]), false))]) rfl rfl .no rfl rfl rfl siapiChange sl34 sl34 sz38 by38 ze38 rfl (by decide) hx74g) <|
        .cons (o_as rfl rfl .no rfl) <|
        .nil rfl
      ) ?_
      refine cw_region (
        .cons (o_bin rfl rfl .no rfl rfl (b_add _ _) rfl) <|
        .cons (o_mv rfl rfl .no rfl) <|
        .nil rfl
      ) ?_
      exact ⟨((IntKind.wrap .i64 (v63.1 + 1)), (v63.2 ++ [((mget a0 x70).getD ((List.replicate 24 0), (ByteArray.mk #[]), false))])), (Option.some.inj h75).symm, weak_of ⟨⟨_, rfl, .map rfl rfl⟩, ⟨_, rfl, .arr rfl rfl⟩, ⟨_, rfl, .d rfl⟩, ⟨_, rfl, .d rfl⟩, ⟨_, rfl, .d rfl⟩, trivial⟩ ⟨.map rfl rfl, .arr0 rfl rfl rfl, trivial⟩ (dropK rfl)⟩
    · refine cw_condF rfl hc67 ?_
      refine cw_exit ?_
      exact ⟨v63.2, (hx66 _ (Option.some.inj h69).symm).symm, weak_of ⟨⟨_, rfl, .arr rfl rfl⟩, trivial⟩ ⟨.map rfl rfl, .arr rfl rfl, trivial⟩ (dropK rfl)⟩

set_option maxRecDepth 100000 in
theorem delta_Map_ok {a0 : List ((List UInt8) × ByteArray)} {r : (List ((List UInt8) × ByteArray))} (h : delta_Map a0 = some r) : FnOk Try.prog 12 [.d (eSapiPair a0)] 0 (lk []) (fun rr oo => rr = .d (eSapiPair r) ∧ oo = lk []) := by
  refine fnOk_of Try.func12 rfl rfl ?_
  unfold delta_Map at h
  refine cw_seq (cw_region (
    .cons (o_as rfl rfl .no rfl) <|
    .nil rfl
  ) ?_)
  obtain ⟨x1, hx2, h3⟩ := bind_some h
  obtain ⟨x4, hx5, h6⟩ := bind_some h3
  refine cw_seq (cw_region (
    .cons (o_mv rfl rfl .no rfl) <|
    .cons (o_callO 0 rfl rfl .no Try.func30 rfl rfl (delta_values_ok hx2) (.cons rfl .d .nil) ⟨trivial, trivial⟩ rfl (.inl rfl)) <|
    .cons (o_callX (fun _ => 0) rfl rfl .no Try.func29 rfl rfl (delta_pairs_ok hx5 0) (.cons rfl (.m rfl) .nil) (callIn1 rfl ⟨(by simp [AV.live, lk, Nat.beq]), trivial⟩ rfl trivial (by simp)) (.inl rfl)) <|
    .cons (o_as rfl rfl .no rfl) <|
    .nil rfl
  ) ?_)
  have heq := ((Option.some.inj h6).symm).symm
  subst heq
  exact cw_weak (weak_of (l := [(2, .d (eSapiPair x4.1))]) (m := []) ⟨⟨_, rfl, .d rfl⟩, trivial⟩ trivial drop0) (cw_ret ⟨.inr rfl, _, res1 rfl rfl, rfl, rfl⟩)

set_option maxRecDepth 100000 in
theorem delta_Apply_ok {a0 : List ((List UInt8) × ByteArray)} {a1 : List ((List UInt8) × ByteArray × Bool)} {r : (List ((List UInt8) × ByteArray))} (h : delta_Apply a0 a1 = some r) : FnOk Try.prog 17 [.d (eSapiPair a0), .d (eSapiChange a1)] 0 (lk []) (fun rr oo => rr = .d (eSapiPair r) ∧ oo = lk []) := by
  refine fnOk_of Try.func17 rfl rfl ?_
  unfold delta_Apply at h
  refine cw_seq (cw_region (
    .cons (o_as rfl rfl .no rfl) <|
    .nil rfl
  ) ?_)
  obtain ⟨x1, hx2, h3⟩ := bind_some h
  refine cw_seq (cw_region (
    .cons (o_mv rfl rfl .no rfl) <|
    .cons (o_callO 0 rfl rfl .no Try.func30 rfl rfl (delta_values_ok hx2) (.cons rfl .d .nil) ⟨trivial, trivial⟩ rfl (.inl rfl)) <|
    .cons (o_as rfl rfl .no rfl) <|
    .nil rfl
  ) ?_)
  obtain ⟨o37, hj38, h39⟩ := bind_some h3
  refine cw_join (fun (z : (List (List UInt8 × ByteArray))) => St.of [(5, .map 0)] [(0, .map 0 (mD eapiKey estring z))]) (fun (z : (List (List UInt8 × ByteArray))) => o37 = z) ?_ ?_
  · intro v76 hv77; subst hv77
    obtain ⟨x73, hx74, h75⟩ := bind_some h39
    refine cw_seq (cw_region (
      .cons (o_mv rfl rfl .no rfl) <|
      .cons (o_callX (fun _ => 0) rfl rfl .no Try.func29 rfl rfl (delta_pairs_ok hx74 0) (.cons rfl (.m rfl) .nil) (callIn1 rfl ⟨(by simp [AV.live, lk, Nat.beq]), trivial⟩ rfl trivial (by simp)) (.inl rfl)) <|
      .cons (o_as rfl rfl .no rfl) <|
      .nil rfl
    ) ?_)
    have heq := ((Option.some.inj h75).symm).symm
    subst heq
    exact cw_weak (weak_of (l := [(4, .d (eSapiPair x73.1))]) (m := []) ⟨⟨_, rfl, .d rfl⟩, trivial⟩ trivial drop0) (cw_ret ⟨.inr rfl, _, res1 rfl rfl, rfl, rfl⟩)
  · skip
    refine cw_seq (cw_region (
      .cons (o_mv rfl rfl .no rfl) <|
      .cons (o_lenM (enc := eapiChange) (xs := a1) rfl rfl .no rfl sl34) <|
      .cons (o_mv rfl rfl .no rfl) <|
      .nil rfl
    ) ?_)
    refine cw_block ?_
    refine cw_while (V := (Int × (List (List UInt8 × ByteArray)))) (O := (List (List UInt8 × ByteArray))) (fun (z : (Int × (List (List UInt8 × ByteArray)))) => St.of [(5, .map 0), (10, .d (eSapiChange a1)), (11, .d (eint (a1.length : Int))), (12, .d (eint z.1))] [(0, .map 0 (mD eapiKey estring z.2))]) hj38 (weak_of ⟨⟨_, rfl, .map rfl rfl⟩, ⟨_, rfl, .d rfl⟩, ⟨_, rfl, .d rfl⟩, ⟨_, rfl, .d rfl⟩, trivial⟩ ⟨.map rfl rfl, trivial⟩ drop0) ?_
    intro v60 x61 hb62 hx63
    refine cw_seq (cw_region (
      .cons (o_bin rfl rfl .no rfl rfl (b_lss _ _) rfl) <|
      .nil rfl
    ) ?_)
    refine cw_seq ?_
    rcases cond_some hb62 with ⟨hc64, h65⟩ | ⟨hc64, h66⟩
    · refine cw_condT rfl hc64 ?_
      refine cw_skip ?_
      refine cw_seq ?_
      refine cw_block ?_
      obtain ⟨x67, hx68, h69⟩ := bind_some h65
      have hx68g := gx_some hx68
      refine cw_seq (cw_region (
        .cons (o_ixM (enc := eapiChange) (xs := a1) rfl rfl .no rfl rfl sl34 sz38 hx68g.1 hx68g.2) <|
        .cons (o_ld rfl rfl .no rfl ta38 rfl rfl) <|
        .cons (o_alloc 1 rfl rfl .no ze38 rfl) <|
        .cons (o_st [] rfl .no rfl rfl rfl rfl rfl sz38 rfl rfl) <|
        .nil rfl
      ) ?_)
      obtain ⟨x70, hx71, h72⟩ := bind_some h69
      refine cw_region (
        .cons (o_mv rfl rfl .no rfl) <|
        .cons (o_ldP [] rfl rfl .no rfl rfl rfl ta38 rfl rfl) <|
        .cons (o_callX (fun _ => 0) rfl rfl .no Try.func33 rfl rfl (delta_does_ok hx71 0) (.cons rfl (.m rfl) (.cons rfl .d .nil)) (callIn1 rfl ⟨(by simp [AV.live, lk, Nat.beq]), trivial, trivial⟩ rfl trivial (by simp)) (.inl rfl)) <|
        .nil rfl
      ) ?_
      refine cw_region (
        .cons (o_bin rfl rfl .no rfl rfl (b_add _ _) rfl) <|
        .cons (o_mv rfl rfl .no rfl) <|
        .nil rfl
      ) ?_
      exact ⟨((IntKind.wrap .i64 (v60.1 + 1)), x70), (Option.some.inj h72).symm, weak_of ⟨⟨_, rfl, .map rfl rfl⟩, ⟨_, rfl, .d rfl⟩, ⟨_, rfl, .d rfl⟩, ⟨_, rfl, .d rfl⟩, trivial⟩ ⟨.map0 rfl rfl rfl (noIter rfl), trivial⟩ drop0⟩
    · refine cw_condF rfl hc64 ?_
      refine cw_exit ?_
      exact ⟨v60.2, (hx63 _ (Option.some.inj h66).symm).symm, weak_of ⟨⟨_, rfl, .map rfl rfl⟩, trivial⟩ ⟨.map rfl rfl, trivial⟩ drop0⟩

set_option maxRecDepth 100000 in
theorem delta_Diff_ok {a0 : List ((List UInt8) × ByteArray)} {a1 : List ((List UInt8) × ByteArray)} {r : (List ((List UInt8) × ByteArray × Bool))} (h : delta_Diff a0 a1 = some r) : FnOk Try.prog 16 [.d (eSapiPair a0), .d (eSapiPair a1)] 0 (lk []) (fun rr oo => rr = .d (eSapiChange r) ∧ oo = lk []) := by
  refine fnOk_of Try.func16 rfl rfl ?_
  unfold delta_Diff at h
  refine cw_seq (cw_region (
    .cons (o_as rfl rfl .no rfl) <|
    .nil rfl
  ) ?_)
  obtain ⟨x1, hx2, h3⟩ := bind_some h
  obtain ⟨x4, hx5, h6⟩ := bind_some h3
  refine cw_seq (cw_region (
    .cons (o_mv rfl rfl .no rfl) <|
    .cons (o_callO 0 rfl rfl .no Try.func30 rfl rfl (delta_values_ok hx2) (.cons rfl .d .nil) ⟨trivial, trivial⟩ rfl (.inl rfl)) <|
    .cons (o_mv rfl rfl .no rfl) <|
    .cons (o_callO 1 rfl rfl .no Try.func30 rfl rfl (delta_values_ok hx5) (.cons rfl .d .nil) ⟨trivial, trivial⟩ rfl (.inl rfl)) <|
    .cons (o_as rfl rfl .no rfl) <|
    .cons (o_as rfl rfl .no rfl) <|
    .nil rfl
  ) ?_)
  refine cw_seq (cw_region (
    .cons (o_mkmap eapiKey eapiChange 2 rfl rfl .no rfl) <|
    .cons (o_as rfl rfl .no rfl) <|
    .nil rfl
  ) ?_)
  refine cw_seq ?_
  refine cw_seq (cw_region (
    .cons (o_mv rfl rfl .no rfl) <|
    .cons (o_range 3 rfl rfl .no rfl rfl mp54 rfl) <|
    .nil rfl
  ) ?_)
  have ho23 := forOrd_some h6
  refine cw_mapRange (V := (List (List UInt8 × ((List UInt8) × ByteArray × Bool)))) (ek := eapiKey) (ev := estring) (M := x1) (fun x19 hl27 => bind_ex (ho23 x19 hl27)) (fun (z : (List (List UInt8 × ((List UInt8) × ByteArray × Bool)))) (l : List ((List UInt8) × ByteArray)) => St.of [(5, .map 0), (6, .map 1), (7, .map 2), (21, .it 3)] [(0, .map 0 (mD eapiKey estring x1)), (1, .map 0 (mD eapiKey estring x4)), (2, .map 0 (mD eapiKey eapiChange z)), (3, .iter 0 0 (mD eapiKey estring l) none)]) (fun (z : (List (List UInt8 × ((List UInt8) × ByteArray × Bool)))) => St.of [(5, .map 0), (6, .map 1), (7, .map 2)] [(0, .map 0 (mD eapiKey estring x1)), (1, .map 0 (mD eapiKey estring x4)), (2, .map 0 (mD eapiKey eapiChange z))]) rfl rfl (weak_of ⟨⟨_, rfl, .map rfl rfl⟩, ⟨_, rfl, .map rfl rfl⟩, ⟨_, rfl, .map rfl rfl⟩, ⟨_, rfl, .it rfl rfl⟩, trivial⟩ ⟨.map rfl rfl, .map rfl rfl, .map rfl rfl, .iter rfl rfl rfl rfl rfl (.inl rfl), trivial⟩ drop0) (fun _ _ => ⟨rfl, rfl, rfl⟩) (fun z => weak_of ⟨⟨_, rfl, .map rfl rfl⟩, ⟨_, rfl, .map rfl rfl⟩, ⟨_, rfl, .map rfl rfl⟩, trivial⟩ ⟨.map rfl rfl, .map rfl rfl, .map rfl rfl, trivial⟩ drop0) ?_ ?_
  · intro v24 h25
    refine cw_seq ?_
    refine cw_seq (cw_region (
      .cons (o_mv rfl rfl .no rfl) <|
      .cons (o_range 5 rfl rfl .no rfl rfl mp54 rfl) <|
      .nil rfl
    ) ?_)
    have ho69 := forOrd_some h25
    refine cw_mapRange (V := (List (List UInt8 × ((List UInt8) × ByteArray × Bool)))) (ek := eapiKey) (ev := estring) (M := x4) (fun x65 hl73 => bind_ex (ho69 x65 hl73)) (fun (z : (List (List UInt8 × ((List UInt8) × ByteArray × Bool)))) (l : List ((List UInt8) × ByteArray)) => St.of [(5, .map 0), (7, .map 2), (39, .it 5)] [(0, .map 0 (mD eapiKey estring x1)), (1, .map 0 (mD eapiKey estring x4)), (2, .map 0 (mD eapiKey eapiChange z)), (5, .iter 1 0 (mD eapiKey estring l) none)]) (fun (z : (List (List UInt8 × ((List UInt8) × ByteArray × Bool)))) => St.of [(7, .map 2)] [(2, .map 0 (mD eapiKey eapiChange z))]) rfl rfl (weak_of ⟨⟨_, rfl, .map rfl rfl⟩, ⟨_, rfl, .map rfl rfl⟩, ⟨_, rfl, .it rfl rfl⟩, trivial⟩ ⟨.map rfl rfl, .map rfl rfl, .map rfl rfl, .iter rfl rfl rfl rfl rfl (.inl rfl), trivial⟩ drop0) (fun _ _ => ⟨rfl, rfl, rfl⟩) (fun z => weak_of ⟨⟨_, rfl, .map rfl rfl⟩, trivial⟩ ⟨.map rfl rfl, trivial⟩ drop0) ?_ ?_
    · intro v70 h71
      obtain ⟨x88, hx89, h90⟩ := bind_some h71
      refine cw_seq (cw_region (
        .cons (o_mv rfl rfl .no rfl) <|
        .cons (o_callX (fun _ => 2) rfl rfl .no Try.func32 rfl rfl (delta_rising_ok hx89 0) (.cons rfl (.m rfl) .nil) (callIn1 rfl ⟨(by simp [AV.live, lk, Nat.beq]), trivial⟩ rfl trivial (by simp)) (.inl rfl)) <|
        .cons (o_as rfl rfl .no rfl) <|
        .nil rfl
      ) ?_)
      have heq := ((Option.some.inj h90).symm).symm
      subst heq
      exact cw_weak (weak_of (l := [(4, .d (eSapiChange x88.1))]) (m := []) ⟨⟨_, rfl, .d rfl⟩, trivial⟩ trivial drop0) (cw_ret ⟨.inr rfl, _, res1 rfl rfl, rfl, rfl⟩)
    · intro Q72 v63 x64 x65 x66 v67 hb68
      refine cw_block ?_
      refine cw_seq (cw_region (
        .cons (o_entry rfl rfl .no rfl rfl rfl) <|
        .cons (o_ext rfl rfl .no rfl rfl) <|
        .cons (o_ext rfl rfl .no rfl rfl) <|
        .cons (o_alloc 6 rfl rfl .no ze27 rfl) <|
        .cons (o_st [] rfl .no rfl rfl rfl rfl rfl sz27 rfl rfl) <|
        .cons (o_as rfl rfl .no rfl) <|
        .nil rfl
      ) ?_)
      refine cw_seq (cw_region (
        .cons (o_mv rfl rfl .no rfl) <|
        .cons (o_ldP [] rfl rfl .no rfl rfl rfl ta27 rfl rfl) <|
        .cons (o_mapget (ek := eapiKey) (ev := estring) (m := x1) x64.1 (ByteArray.mk #[]) rfl rfl .no rfl rfl rfl mp54 kl27 ze9 rfl rfl) <|
        .cons (o_mv rfl rfl .no rfl) <|
        .cons (o_ext rfl rfl .no rfl rfl) <|
        .cons (o_ext rfl rfl .no rfl rfl) <|
        .cons (o_as rfl rfl .no rfl) <|
        .cons (o_as rfl rfl .no rfl) <|
        .nil rfl
      ) ?_)
      obtain ⟨o77, hj78, h79⟩ := bind_some hb68
      refine cw_join (fun (z : Bool) => St.of [(5, .map 0), (7, .map 2), (11, .ptr 6 0), (12, .d (estring x64.2)), (39, .it 5), (57, .d (ebool z))] [(0, .map 0 (mD eapiKey estring x1)), (1, .map 0 (mD eapiKey estring x4)), (2, .map 0 (mD eapiKey eapiChange v63)), (5, .iter 1 0 (mD eapiKey estring x65) (some (eapiKey x64.1, estring x64.2))), (6, .box (.d (eapiKey x64.1)))]) (fun (z : Bool) => o77 = z) ?_ ?_
      · intro v86 hv87; subst hv87
        rcases cond_some h79 with ⟨hc83, h84⟩ | ⟨hc83, h85⟩
        · refine cw_condT rfl hc83 ?_
          refine cw_region (
            .cons (o_mv rfl rfl .no rfl) <|
            .cons (o_ldP [] rfl rfl .no rfl rfl rfl ta27 rfl rfl) <|
            .cons (o_ldP [] rfl rfl .no rfl rfl rfl ta27 rfl rfl) <|
            .cons (o_mv rfl rfl .no rfl) <|
            .cons (o_bld (ds := [eapiKey x64.1, estring x64.2, ebool false]) rfl rfl .no zs38 rfl pl38 (.cons rfl rfl rfl rfl rfl rfl rfl (.cons rfl rfl rfl rfl rfl rfl rfl .nil))) <|
            .cons (o_mapset (ek := eapiKey) (ev := eapiChange) (m := v63) x64.1 (x64.1, x64.2, false) rfl .no rfl rfl rfl rfl mp59 kl27 rfl) <|
            .nil rfl
          ) ?_
          have heq := ((Option.some.inj h84).symm).symm
          subst heq
          exact weak_of ⟨⟨_, rfl, .map rfl rfl⟩, ⟨_, rfl, .map rfl rfl⟩, ⟨_, rfl, .it rfl rfl⟩, trivial⟩ ⟨.map rfl rfl, .map rfl rfl, .map0 rfl rfl rfl (noIter rfl), .iter rfl rfl rfl rfl rfl (.inl rfl), trivial⟩ drop0
        · refine cw_condF rfl hc83 ?_
          refine cw_skip ?_
          have heq := ((Option.some.inj h85).symm).symm
          subst heq
          exact weak_of ⟨⟨_, rfl, .map rfl rfl⟩, ⟨_, rfl, .map rfl rfl⟩, ⟨_, rfl, .it rfl rfl⟩, trivial⟩ ⟨.map rfl rfl, .map rfl rfl, .map rfl rfl, .iter rfl rfl rfl rfl rfl (.inl rfl), trivial⟩ drop0
      · skip
        rcases cond_some hj78 with ⟨hc80, h81⟩ | ⟨hc80, h82⟩
        · skip
          refine cw_region (
            .cons (o_mv rfl rfl .no rfl) <|
            .cons (o_not rfl rfl .no rfl) <|
            .cons (o_mv rfl rfl .no rfl) <|
            .cons (o_noT rfl rfl rfl rfl hc80) <|
            .cons (o_noT rfl rfl rfl rfl hc80) <|
            .cons (o_noT rfl rfl rfl rfl hc80) <|
            .cons (o_pickT rfl rfl .no rfl hc80 rfl) <|
            .nil rfl
          ) ?_
          exact ⟨true, (Option.some.inj h81).symm, weak_of ⟨⟨_, rfl, .map rfl rfl⟩, ⟨_, rfl, .map rfl rfl⟩, ⟨_, rfl, .ptr rfl rfl⟩, ⟨_, rfl, .d rfl⟩, ⟨_, rfl, .it rfl rfl⟩, ⟨_, rfl, .d rfl⟩, trivial⟩ ⟨.map rfl rfl, .map rfl rfl, .map rfl rfl, .iter rfl rfl rfl rfl rfl (.inr rfl), .box rfl (.d rfl), trivial⟩ drop0⟩
        · skip
          refine cw_region (
            .cons (o_mv rfl rfl .no rfl) <|
            .cons (o_not rfl rfl .no rfl) <|
            .cons (o_mv rfl rfl .no rfl) <|
            .cons (o_mv rfl rfl (.yes rfl rfl hc80) rfl) <|
            .cons (o_mv rfl rfl (.yes rfl rfl hc80) rfl) <|
            .cons (o_bin rfl rfl (.yes rfl rfl hc80) rfl rfl (s_neq _ _) rfl) <|
            .cons (o_pickF rfl rfl .no rfl hc80 rfl) <|
            .nil rfl
          ) ?_
          exact ⟨(decide (((mget x1 x64.1).getD (ByteArray.mk #[])) ≠ x64.2)), (Option.some.inj h82).symm, weak_of ⟨⟨_, rfl, .map rfl rfl⟩, ⟨_, rfl, .map rfl rfl⟩, ⟨_, rfl, .ptr rfl rfl⟩, ⟨_, rfl, .d rfl⟩, ⟨_, rfl, .it rfl rfl⟩, ⟨_, rfl, .d rfl⟩, trivial⟩ ⟨.map rfl rfl, .map rfl rfl, .map rfl rfl, .iter rfl rfl rfl rfl rfl (.inr rfl), .box rfl (.d rfl), trivial⟩ drop0⟩
  · intro Q26 v17 x18 x19 x20 v21 hb22
    refine cw_block ?_
    refine cw_seq (cw_region (
      .cons (o_entry rfl rfl .no rfl rfl rfl) <|
      .cons (o_ext rfl rfl .no rfl rfl) <|
      .cons (o_alloc 4 rfl rfl .no ze27 rfl) <|
      .cons (o_st [] rfl .no rfl rfl rfl rfl rfl sz27 rfl rfl) <|
      .nil rfl
    ) ?_)
    refine cw_seq (cw_region (
      .cons (o_mv rfl rfl .no rfl) <|
      .cons (o_ldP [] rfl rfl .no rfl rfl rfl ta27 rfl rfl) <|
      .cons (o_mapget (ek := eapiKey) (ev := estring) (m := x4) x18.1 (ByteArray.mk #[]) rfl rfl .no rfl rfl rfl mp54 kl27 ze9 rfl rfl) <|
      .cons (o_mv rfl rfl .no rfl) <|
      .cons (o_ext rfl rfl .no rfl rfl) <|
      .cons (o_ext rfl rfl .no rfl rfl) <|
      .cons (o_as rfl rfl .no rfl) <|
      .cons (o_as rfl rfl .no rfl) <|
      .nil rfl
    ) ?_)
    refine cw_seq (cw_region (
      .cons (o_mv rfl rfl .no rfl) <|
      .cons (o_not rfl rfl .no rfl) <|
      .nil rfl
    ) ?_)
    rcases cond_some hb22 with ⟨hc28, h29⟩ | ⟨hc28, h30⟩
    · refine cw_condT rfl hc28 ?_
      refine cw_region (
        .cons (o_mv rfl rfl .no rfl) <|
        .cons (o_ldP [] rfl rfl .no rfl rfl rfl ta27 rfl rfl) <|
        .cons (o_ldP [] rfl rfl .no rfl rfl rfl ta27 rfl rfl) <|
        .cons (o_bld (ds := [eapiKey x18.1, estring (ByteArray.mk #[]), ebool true]) rfl rfl .no zs38 rfl pl38 (.cons rfl rfl rfl rfl rfl rfl rfl (.cons rfl rfl rfl rfl rfl rfl rfl .nil))) <|
        .cons (o_mapset (ek := eapiKey) (ev := eapiChange) (m := v17) x18.1 (x18.1, (ByteArray.mk #[]), true) rfl .no rfl rfl rfl rfl mp59 kl27 rfl) <|
        .nil rfl
      ) ?_
      have heq := ((Option.some.inj h29).symm).symm
      subst heq
      exact weak_of ⟨⟨_, rfl, .map rfl rfl⟩, ⟨_, rfl, .map rfl rfl⟩, ⟨_, rfl, .map rfl rfl⟩, ⟨_, rfl, .it rfl rfl⟩, trivial⟩ ⟨.map rfl rfl, .map rfl rfl, .map0 rfl rfl rfl (noIter rfl), .iter rfl rfl rfl rfl rfl (.inl rfl), trivial⟩ drop0
    · refine cw_condF rfl hc28 ?_
      refine cw_skip ?_
      have heq := ((Option.some.inj h30).symm).symm
      subst heq
      exact weak_of ⟨⟨_, rfl, .map rfl rfl⟩, ⟨_, rfl, .map rfl rfl⟩, ⟨_, rfl, .map rfl rfl⟩, ⟨_, rfl, .it rfl rfl⟩, trivial⟩ ⟨.map rfl rfl, .map rfl rfl, .map rfl rfl, .iter rfl rfl rfl rfl rfl (.inl rfl), trivial⟩ drop0

set_option maxRecDepth 100000 in
theorem slices_Concat_ok {a0 : List (List ((List UInt8) × ByteArray × Bool))} {r : (List ((List UInt8) × ByteArray × Bool))} (h : slices_Concat a0 = some r) : FnOk Try.prog 38 [.d (eSSapiChange a0)] 0 (lk []) (fun rr oo => rr = .d (eSapiChange r) ∧ oo = lk []) := by
  refine fnOk_of Try.func38 rfl rfl ?_
  unfold slices_Concat at h
  refine cw_seq (cw_region (
    .cons (o_as rfl rfl .no rfl) <|
    .nil rfl
  ) ?_)
  refine cw_seq (cw_region (
    .cons (o_as rfl rfl .no rfl) <|
    .nil rfl
  ) ?_)
  obtain ⟨o34, hj35, h36⟩ := bind_some h
  refine cw_join (fun (z : Int) => St.of [(0, .d (eSSapiChange a0)), (3, .d (eint z))] []) (fun (z : Int) => o34 = z) ?_ ?_
  · intro v144 hv145; subst hv145
    obtain ⟨x70, hx71, h72⟩ := bind_some h36
    have hx71g := ck_dec hx71
    refine cw_seq (cw_region (
      .cons (o_mv rfl rfl .no rfl) <|
      .cons (o_callO 0 rfl rfl .no Try.func45 rfl rfl (grow45_ok hx71g) (.cons rfl .d (.cons rfl .d .nil)) ⟨trivial, trivial, trivial⟩ rfl (.inl rfl)) <|
      .cons (o_as rfl rfl .no rfl) <|
      .nil rfl
    ) ?_)
    obtain ⟨o106, hj107, h108⟩ := bind_some h72
    refine cw_join (fun (z : (List ((List UInt8) × ByteArray × Bool))) => St.of [(6, .arr 0 0)] [(0, .arr 0 26 (z.map eapiChange))]) (fun (z : (List ((List UInt8) × ByteArray × Bool))) => o106 = z) ?_ ?_
    · intro v142 hv143; subst hv143
      refine cw_seq (cw_region (
        .cons (o_mv rfl rfl .no rfl) <|
        .cons (o_as rfl rfl .no rfl) <|
        .nil rfl
      ) ?_)
      have heq := ((Option.some.inj h108).symm).symm
      subst heq
      exact cw_weak (weak_of (l := [(2, .d (eSapiChange o106))]) (m := []) ⟨⟨_, rfl, .frz rfl rfl rfl⟩, trivial⟩ trivial drop0) (cw_ret ⟨.inr rfl, _, res1 rfl rfl, rfl, rfl⟩)
    · skip
      refine cw_seq (cw_region (
        .cons (o_mv rfl rfl .no rfl) <|
        .cons (o_lenM (enc := eSapiChange) (xs := a0) rfl rfl .no rfl sl49) <|
        .cons (o_mv rfl rfl .no rfl) <|
        .nil rfl
      ) ?_)
      refine cw_block ?_
      refine cw_while (V := (Int × (List ((List UInt8) × ByteArray × Bool)))) (O := (List ((List UInt8) × ByteArray × Bool))) (fun (z : (Int × (List ((List UInt8) × ByteArray × Bool)))) => St.of [(6, .arr 0 0), (25, .d (eSSapiChange a0)), (26, .d (eint (a0.length : Int))), (27, .d (eint z.1))] [(0, .arr 0 26 (z.2.map eapiChange))]) hj107 (weak_of ⟨⟨_, rfl, .arr rfl rfl⟩, ⟨_, rfl, .d rfl⟩, ⟨_, rfl, .d rfl⟩, ⟨_, rfl, .d rfl⟩, trivial⟩ ⟨.arr rfl rfl, trivial⟩ drop0) ?_
      intro v129 x130 hb131 hx132
      refine cw_seq (cw_region (
        .cons (o_bin rfl rfl .no rfl rfl (b_lss _ _) rfl) <|
        .nil rfl
      ) ?_)
      refine cw_seq ?_
      rcases cond_some hb131 with ⟨hc133, h134⟩ | ⟨hc133, h135⟩
      · refine cw_condT rfl hc133 ?_
        refine cw_skip ?_
        refine cw_seq ?_
        refine cw_block ?_
        obtain ⟨x136, hx137, h138⟩ := bind_some h134
        have hx137g := gx_some hx137
        refine cw_seq (cw_region (
          .cons (o_ixM (enc := eSapiChange) (xs := a0) rfl rfl .no rfl rfl sl49 sz34 hx137g.1 hx137g.2) <|
          .cons (o_ld rfl rfl .no rfl ta34 rfl rfl) <|
          .cons (o_as rfl rfl .no rfl) <|
          .nil rfl
        ) ?_)
        obtain ⟨x139, hx140, h141⟩ := bind_some h138
        have hx140g := fits_some hx140
        refine cw_region (
          .cons (o_mv rfl rfl .no rfl) <|
          .cons (o_mv rfl rfl .no rfl) <|
          .cons (o_appM (enc := eapiChange) (xs := v129.2) (ys := x136) rfl rfl .no rfl rfl rfl siapiChange sl34 sl34 sz38 by38 ze38 rfl (by decide) hx140g) <|
          .cons (o_as rfl rfl .no rfl) <|
          .nil rfl
        ) ?_
        refine cw_region (
          .cons (o_bin rfl rfl .no rfl rfl (b_add _ _) rfl) <|
          .cons (o_mv rfl rfl .no rfl) <|
          .nil rfl
        ) ?_
        exact ⟨((IntKind.wrap .i64 (v129.1 + 1)), (v129.2 ++ x136)), (Option.some.inj h141).symm, weak_of ⟨⟨_, rfl, .arr rfl rfl⟩, ⟨_, rfl, .d rfl⟩, ⟨_, rfl, .d rfl⟩, ⟨_, rfl, .d rfl⟩, trivial⟩ ⟨.arr0 rfl rfl rfl, trivial⟩ drop0⟩
      · refine cw_condF rfl hc133 ?_
        refine cw_exit ?_
        exact ⟨v129.2, (hx132 _ (Option.some.inj h135).symm).symm, weak_of ⟨⟨_, rfl, .arr rfl rfl⟩, trivial⟩ ⟨.arr rfl rfl, trivial⟩ drop0⟩
  · skip
    refine cw_seq (cw_region (
      .cons (o_mv rfl rfl .no rfl) <|
      .cons (o_lenM (enc := eSapiChange) (xs := a0) rfl rfl .no rfl sl49) <|
      .cons (o_mv rfl rfl .no rfl) <|
      .nil rfl
    ) ?_)
    refine cw_block ?_
    refine cw_while (V := (Int × Int)) (O := Int) (fun (z : (Int × Int)) => St.of [(0, .d (eSSapiChange a0)), (3, .d (eint z.1)), (9, .d (eSSapiChange a0)), (10, .d (eint (a0.length : Int))), (11, .d (eint z.2))] []) hj35 (weak_of ⟨⟨_, rfl, .d rfl⟩, ⟨_, rfl, .d rfl⟩, ⟨_, rfl, .d rfl⟩, ⟨_, rfl, .d rfl⟩, ⟨_, rfl, .d rfl⟩, trivial⟩ trivial drop0) ?_
    intro v57 x58 hb59 hx60
    refine cw_seq (cw_region (
      .cons (o_bin rfl rfl .no rfl rfl (b_lss _ _) rfl) <|
      .nil rfl
    ) ?_)
    refine cw_seq ?_
    rcases cond_some hb59 with ⟨hc61, h62⟩ | ⟨hc61, h63⟩
    · refine cw_condT rfl hc61 ?_
      refine cw_skip ?_
      refine cw_seq ?_
      refine cw_block ?_
      obtain ⟨x64, hx65, h66⟩ := bind_some h62
      have hx65g := gx_some hx65
      refine cw_seq (cw_region (
        .cons (o_ixM (enc := eSapiChange) (xs := a0) rfl rfl .no rfl rfl sl49 sz34 hx65g.1 hx65g.2) <|
        .cons (o_ld rfl rfl .no rfl ta34 rfl rfl) <|
        .cons (o_as rfl rfl .no rfl) <|
        .nil rfl
      ) ?_)
      refine cw_seq (cw_region (
        .cons (o_mv rfl rfl .no rfl) <|
        .cons (o_mv rfl rfl .no rfl) <|
        .cons (o_lenM (enc := eapiChange) (xs := x64) rfl rfl .no rfl sl34) <|
        .cons (o_bin rfl rfl .no rfl rfl (b_add _ _) rfl) <|
        .cons (o_as rfl rfl .no rfl) <|
        .nil rfl
      ) ?_)
      refine cw_seq (cw_region (
        .cons (o_mv rfl rfl .no rfl) <|
        .cons (o_bin rfl rfl .no rfl rfl (b_lss _ _) rfl) <|
        .nil rfl
      ) ?_)
      rcases cond_some h66 with ⟨hc67, h68⟩ | ⟨hc67, h69⟩
      · refine cw_condT rfl hc67 ?_
        exact nomatch h68
      · refine cw_condF rfl hc67 ?_
        refine cw_skip ?_
        refine cw_region (
          .cons (o_bin rfl rfl .no rfl rfl (b_add _ _) rfl) <|
          .cons (o_mv rfl rfl .no rfl) <|
          .nil rfl
        ) ?_
        exact ⟨((IntKind.wrap .i64 (v57.1 + (x64.length : Int))), (IntKind.wrap .i64 (v57.2 + 1))), (Option.some.inj h69).symm, weak_of ⟨⟨_, rfl, .d rfl⟩, ⟨_, rfl, .d rfl⟩, ⟨_, rfl, .d rfl⟩, ⟨_, rfl, .d rfl⟩, ⟨_, rfl, .d rfl⟩, trivial⟩ trivial drop0⟩
    · refine cw_condF rfl hc61 ?_
      refine cw_exit ?_
      exact ⟨v57.1, (hx60 _ (Option.some.inj h63).symm).symm, weak_of ⟨⟨_, rfl, .d rfl⟩, ⟨_, rfl, .d rfl⟩, trivial⟩ trivial drop0⟩

set_option maxRecDepth 100000 in
theorem delta_Join_ok {a0 : List (List ((List UInt8) × ByteArray × Bool))} {r : (List ((List UInt8) × ByteArray × Bool))} (h : delta_Join a0 = some r) : FnOk Try.prog 25 [.d (eSSapiChange a0)] 0 (lk []) (fun rr oo => rr = .d (eSapiChange r) ∧ oo = lk []) := by
  refine fnOk_of Try.func25 rfl rfl ?_
  unfold delta_Join at h
  refine cw_seq (cw_region (
    .cons (o_as rfl rfl .no rfl) <|
    .nil rfl
  ) ?_)
  refine cw_seq (cw_region (
    .cons (o_mkmap eapiKey eapiChange 0 rfl rfl .no rfl) <|
    .cons (o_as rfl rfl .no rfl) <|
    .nil rfl
  ) ?_)
  obtain ⟨o61, hj62, h63⟩ := bind_some h
  refine cw_join (fun (z : (List (List UInt8 × ((List UInt8) × ByteArray × Bool)))) => St.of [(3, .map 0)] [(0, .map 0 (mD eapiKey eapiChange z))]) (fun (z : (List (List UInt8 × ((List UInt8) × ByteArray × Bool)))) => o61 = z) ?_ ?_
  · intro v127 hv128; subst hv128
    obtain ⟨x124, hx125, h126⟩ := bind_some h63
    refine cw_seq (cw_region (
      .cons (o_mv rfl rfl .no rfl) <|
      .cons (o_callX (fun _ => 0) rfl rfl .no Try.func32 rfl rfl (delta_rising_ok hx125 0) (.cons rfl (.m rfl) .nil) (callIn1 rfl ⟨(by simp [AV.live, lk, Nat.beq]), trivial⟩ rfl trivial (by simp)) (.inl rfl)) <|
      .cons (o_as rfl rfl .no rfl) <|
      .nil rfl
    ) ?_)
    have heq := ((Option.some.inj h126).symm).symm
    subst heq
    exact cw_weak (weak_of (l := [(2, .d (eSapiChange x124.1))]) (m := []) ⟨⟨_, rfl, .d rfl⟩, trivial⟩ trivial drop0) (cw_ret ⟨.inr rfl, _, res1 rfl rfl, rfl, rfl⟩)
  · skip
    obtain ⟨x64, hx65, h66⟩ := bind_some hj62
    refine cw_seq (cw_region (
      .cons (o_mv rfl rfl .no rfl) <|
      .cons (o_call rfl rfl .no Try.func38 rfl rfl (slices_Concat_ok hx65) (.cons rfl .d .nil) ⟨trivial, trivial⟩ (.inl rfl)) <|
      .cons (o_lenM (enc := eapiChange) (xs := x64) rfl rfl .no rfl sl34) <|
      .cons (o_mv rfl rfl .no rfl) <|
      .nil rfl
    ) ?_)
    refine cw_block ?_
    refine cw_while (V := (Int × (List (List UInt8 × ((List UInt8) × ByteArray × Bool))))) (O := (List (List UInt8 × ((List UInt8) × ByteArray × Bool)))) (fun (z : (Int × (List (List UInt8 × ((List UInt8) × ByteArray × Bool))))) => St.of [(3, .map 0), (8, .d (eSapiChange x64)), (9, .d (eint (x64.length : Int))), (10, .d (eint z.1))] [(0, .map 0 (mD eapiKey eapiChange z.2))]) h66 (weak_of ⟨⟨_, rfl, .map rfl rfl⟩, ⟨_, rfl, .d rfl⟩, ⟨_, rfl, .d rfl⟩, ⟨_, rfl, .d rfl⟩, trivial⟩ ⟨.map rfl rfl, trivial⟩ drop0) ?_
    intro v103 x104 hb105 hx106
    refine cw_seq (cw_region (
      .cons (o_bin rfl rfl .no rfl rfl (b_lss _ _) rfl) <|
      .nil rfl
    ) ?_)
    refine cw_seq ?_
    rcases cond_some hb105 with ⟨hc107, h108⟩ | ⟨hc107, h109⟩
    · refine cw_condT rfl hc107 ?_
      refine cw_skip ?_
      refine cw_seq ?_
      refine cw_block ?_
      obtain ⟨x110, hx111, h112⟩ := bind_some h108
      have hx111g := gx_some hx111
      refine cw_seq (cw_region (
        .cons (o_ixM (enc := eapiChange) (xs := x64) rfl rfl .no rfl rfl sl34 sz38 hx111g.1 hx111g.2) <|
        .cons (o_ld rfl rfl .no rfl ta38 rfl rfl) <|
        .cons (o_alloc 1 rfl rfl .no ze38 rfl) <|
        .cons (o_st [] rfl .no rfl rfl rfl rfl rfl sz38 rfl rfl) <|
        .nil rfl
      ) ?_)
      obtain ⟨o116, hj117, h118⟩ := bind_some h112
      refine cw_join (fun (z : ((List UInt8) × ByteArray × Bool)) => St.of [(3, .map 0), (5, .ptr 1 0), (8, .d (eSapiChange x64)), (9, .d (eint (x64.length : Int))), (10, .d (eint v103.1))] [(0, .map 0 (mD eapiKey eapiChange v103.2)), (1, .box (.d (eapiChange z)))]) (fun (z : ((List UInt8) × ByteArray × Bool)) => o116 = z) ?_ ?_
      · intro v122 hv123; subst hv123
        refine cw_region (
          .cons (o_mv rfl rfl .no rfl) <|
          .cons (o_fldP rfl rfl .no rfl fld38_0 (by decide)) <|
          .cons (o_ldP [0] rfl rfl .no rfl rfl rfl ta27 rfl rfl) <|
          .cons (o_ldP [] rfl rfl .no rfl rfl rfl ta38 rfl rfl) <|
          .cons (o_mapset (ek := eapiKey) (ev := eapiChange) (m := v103.2) o116.1 o116 rfl .no rfl rfl rfl rfl mp59 kl27 rfl) <|
          .nil rfl
        ) ?_
        refine cw_region (
          .cons (o_bin rfl rfl .no rfl rfl (b_add _ _) rfl) <|
          .cons (o_mv rfl rfl .no rfl) <|
          .nil rfl
        ) ?_
        exact ⟨((IntKind.wrap .i64 (v103.1 + 1)), (mset v103.2 o116.1 o116)), (Option.some.inj h118).symm, weak_of ⟨⟨_, rfl, .map rfl rfl⟩, ⟨_, rfl, .d rfl⟩, ⟨_, rfl, .d rfl⟩, ⟨_, rfl, .d rfl⟩, trivial⟩ ⟨.map0 rfl rfl rfl (noIter rfl), trivial⟩ drop0⟩
      · skip
        refine cw_seq (cw_region (
          .cons (o_fldP rfl rfl .no rfl fld38_2 (by decide)) <|
          .cons (o_ldP [2] rfl rfl .no rfl rfl rfl ta4 rfl rfl) <|
          .nil rfl
        ) ?_)
        rcases cond_some hj117 with ⟨hc119, h120⟩ | ⟨hc119, h121⟩
        · refine cw_condT rfl hc119 ?_
          refine cw_region (
            .cons (o_fldP rfl rfl .no rfl fld38_1 (by decide)) <|
            .cons (o_st [1] rfl .no rfl rfl rfl rfl rfl sz9 rfl rfl) <|
            .nil rfl
          ) ?_
          exact ⟨(x110.1, (ByteArray.mk #[]), x110.2.2), (Option.some.inj h120).symm, weak_of ⟨⟨_, rfl, .map rfl rfl⟩, ⟨_, rfl, .ptr rfl rfl⟩, ⟨_, rfl, .d rfl⟩, ⟨_, rfl, .d rfl⟩, ⟨_, rfl, .d rfl⟩, trivial⟩ ⟨.map rfl rfl, .box rfl (.d rfl), trivial⟩ drop0⟩
        · refine cw_condF rfl hc119 ?_
          refine cw_skip ?_
          exact ⟨x110, (Option.some.inj h121).symm, weak_of ⟨⟨_, rfl, .map rfl rfl⟩, ⟨_, rfl, .ptr rfl rfl⟩, ⟨_, rfl, .d rfl⟩, ⟨_, rfl, .d rfl⟩, ⟨_, rfl, .d rfl⟩, trivial⟩ ⟨.map rfl rfl, .box rfl (.d rfl), trivial⟩ drop0⟩
    · refine cw_condF rfl hc107 ?_
      refine cw_exit ?_
      exact ⟨v103.2, (hx106 _ (Option.some.inj h109).symm).symm, weak_of ⟨⟨_, rfl, .map rfl rfl⟩, trivial⟩ ⟨.map rfl rfl, trivial⟩ drop0⟩

set_option maxRecDepth 100000 in
theorem delta_Merge_ok {a0 : List ((List UInt8) × ByteArray)} {a1 : List ((List UInt8) × ByteArray)} {a2 : List ((List UInt8) × ByteArray)} {r : ((List ((List UInt8) × ByteArray)) × (List (List UInt8)))} (h : delta_Merge a0 a1 a2 = some r) : FnOk Try.prog 18 [.d (eSapiPair a0), .d (eSapiPair a1), .d (eSapiPair a2)] 0 (lk []) (fun rr oo => rr = .tup [.d (eSapiPair r.1), .d (eSapiKey r.2)] ∧ oo = lk []) := by
  refine fnOk_of Try.func18 rfl rfl ?_
  unfold delta_Merge at h
  refine cw_seq (cw_region (
    .cons (o_as rfl rfl .no rfl) <|
    .cons (o_as rfl rfl .no rfl) <|
    .nil rfl
  ) ?_)
  obtain ⟨x1, hx2, h3⟩ := bind_some h
  obtain ⟨x4, hx5, h6⟩ := bind_some h3
  obtain ⟨x7, hx8, h9⟩ := bind_some h6
  refine cw_seq (cw_region (
    .cons (o_mv rfl rfl .no rfl) <|
    .cons (o_callO 0 rfl rfl .no Try.func30 rfl rfl (delta_values_ok hx2) (.cons rfl .d .nil) ⟨trivial, trivial⟩ rfl (.inl rfl)) <|
    .cons (o_mv rfl rfl .no rfl) <|
    .cons (o_callO 1 rfl rfl .no Try.func30 rfl rfl (delta_values_ok hx5) (.cons rfl .d .nil) ⟨trivial, trivial⟩ rfl (.inl rfl)) <|
    .cons (o_mv rfl rfl .no rfl) <|
    .cons (o_callO 2 rfl rfl .no Try.func30 rfl rfl (delta_values_ok hx8) (.cons rfl .d .nil) ⟨trivial, trivial⟩ rfl (.inl rfl)) <|
    .cons (o_as rfl rfl .no rfl) <|
    .cons (o_as rfl rfl .no rfl) <|
    .cons (o_as rfl rfl .no rfl) <|
    .nil rfl
  ) ?_)
  refine cw_seq (cw_region (
    .cons (o_mv rfl rfl .no rfl) <|
    .cons (o_callX (fun n => bif Nat.beq n 0 then 1 else 3) rfl rfl .no Try.func34 rfl rfl (clone34_ok (ek := eapiKey) (ev := estring) (m := x4) 0) (.cons rfl (.m rfl) .nil) (callIn1N rfl ⟨(by simp [AV.live, lk]), trivial⟩ (by decide) rfl trivial rfl (by simp)) (.inl rfl)) <|
    .cons (o_as rfl rfl .no rfl) <|
    .nil rfl
  ) ?_)
  refine cw_seq (cw_region (
    .cons (o_as rfl rfl .no rfl) <|
    .nil rfl
  ) ?_)
  obtain ⟨o271, hj272, h273⟩ := bind_some h9
  refine cw_join (fun (z : ((List (List UInt8 × ByteArray)) × (List (List UInt8)))) => St.of [(11, .map 3), (12, .arr 5 0)] [(3, .map 0 (mD eapiKey estring z.1)), (5, .arr 0 24 (z.2.map eapiKey))]) (fun (z : ((List (List UInt8 × ByteArray)) × (List (List UInt8)))) => o271 = z) ?_ ?_
  · intro v538 hv539; subst hv539
    obtain ⟨x535, hx536, h537⟩ := bind_some h273
    refine cw_seq (cw_region (
      .cons (o_mv rfl rfl .no rfl) <|
      .cons (o_callX (fun _ => 3) rfl rfl .no Try.func29 rfl rfl (delta_pairs_ok hx536 0) (.cons rfl (.m rfl) .nil) (callIn1 rfl ⟨(by simp [AV.live, lk, Nat.beq]), trivial⟩ rfl trivial (by simp)) (.inl rfl)) <|
      .cons (o_mv rfl rfl .no rfl) <|
      .cons (o_as rfl rfl .no rfl) <|
      .cons (o_as rfl rfl .no rfl) <|
      .nil rfl
    ) ?_)
    have heq := ((Option.some.inj h537).symm).symm
    subst heq
    exact cw_weak (weak_of (l := [(6, .d (eSapiPair x535.1)), (7, .d (eSapiKey o271.2))]) (m := []) ⟨⟨_, rfl, .d rfl⟩, ⟨_, rfl, .frz rfl rfl rfl⟩, trivial⟩ trivial drop0) (cw_ret ⟨.inr rfl, _, res2 rfl rfl rfl, rfl, rfl⟩)
  · skip
    obtain ⟨x274, hx275, h276⟩ := bind_some hj272
    refine cw_seq (cw_region (
      .cons (o_mv rfl rfl .no rfl) <|
      .cons (o_mv rfl rfl .no rfl) <|
      .cons (o_call rfl rfl .no Try.func16 rfl rfl (delta_Diff_ok hx275) (.cons rfl .d (.cons rfl .d .nil)) ⟨trivial, trivial, trivial⟩ (.inl rfl)) <|
      .cons (o_lenM (enc := eapiChange) (xs := x274) rfl rfl .no rfl sl34) <|
      .cons (o_mv rfl rfl .no rfl) <|
      .nil rfl
    ) ?_)
    refine cw_block ?_
    refine cw_while (V := (Int × (List (List UInt8 × ByteArray)) × (List (List UInt8 × ByteArray)) × (List (List UInt8 × ByteArray)) × (List (List UInt8 × ByteArray)) × (List (List UInt8)))) (O := ((List (List UInt8 × ByteArray)) × (List (List UInt8)))) (fun (z : (Int × (List (List UInt8 × ByteArray)) × (List (List UInt8 × ByteArray)) × (List (List UInt8 × ByteArray)) × (List (List UInt8 × ByteArray)) × (List (List UInt8)))) => St.of [(8, .map 0), (9, .map 1), (10, .map 2), (11, .map 3), (12, .arr 5 0), (25, .d (eSapiChange x274)), (26, .d (eint (x274.length : Int))), (27, .d (eint z.1))] [(0, .map 0 (mD eapiKey estring z.2.1)), (1, .map 0 (mD eapiKey estring z.2.2.1)), (2, .map 0 (mD eapiKey estring z.2.2.2.1)), (3, .map 0 (mD eapiKey estring z.2.2.2.2.1)), (5, .arr 0 24 (z.2.2.2.2.2.map eapiKey))]) h276 (weak_of ⟨⟨_, rfl, .map rfl rfl⟩, ⟨_, rfl, .map rfl rfl⟩, ⟨_, rfl, .map rfl rfl⟩, ⟨_, rfl, .map rfl rfl⟩, ⟨_, rfl, .nila rfl rfl⟩, ⟨_, rfl, .d rfl⟩, ⟨_, rfl, .d rfl⟩, ⟨_, rfl, .d rfl⟩, trivial⟩ ⟨.map rfl rfl, .map rfl rfl, .map rfl rfl, .map rfl rfl, .nil rfl, trivial⟩ drop0) ?_
    intro v447 x448 hb449 hx450
    refine cw_seq (cw_region (
      .cons (o_bin rfl rfl .no rfl rfl (b_lss _ _) rfl) <|
      .nil rfl
    ) ?_)
    refine cw_seq ?_
    rcases cond_some hb449 with ⟨hc451, h452⟩ | ⟨hc451, h453⟩
    · refine cw_condT rfl hc451 ?_
      refine cw_skip ?_
      obtain ⟨o492, hj493, h494⟩ := bind_some h452
      refine cw_join (fun (z : ((List (List UInt8 × ByteArray)) × (List (List UInt8 × ByteArray)) × (List (List UInt8 × ByteArray)) × (List (List UInt8 × ByteArray)) × (List (List UInt8)))) => St.of [(8, .map 0), (9, .map 1), (10, .map 2), (11, .map 3), (12, .arr 5 0), (25, .d (eSapiChange x274)), (26, .d (eint (x274.length : Int))), (27, .d (eint v447.1))] [(0, .map 0 (mD eapiKey estring z.1)), (1, .map 0 (mD eapiKey estring z.2.1)), (2, .map 0 (mD eapiKey estring z.2.2.1)), (3, .map 0 (mD eapiKey estring z.2.2.2.1)), (5, .arr 0 24 (z.2.2.2.2.map eapiKey))]) (fun (z : ((List (List UInt8 × ByteArray)) × (List (List UInt8 × ByteArray)) × (List (List UInt8 × ByteArray)) × (List (List UInt8 × ByteArray)) × (List (List UInt8)))) => o492 = z) ?_ ?_
      · intro v533 hv534; subst hv534
        refine cw_region (
          .cons (o_bin rfl rfl .no rfl rfl (b_add _ _) rfl) <|
          .cons (o_mv rfl rfl .no rfl) <|
          .nil rfl
        ) ?_
        exact ⟨((IntKind.wrap .i64 (v447.1 + 1)), o492.1, o492.2.1, o492.2.2.1, o492.2.2.2.1, o492.2.2.2.2), (Option.some.inj h494).symm, weak_of ⟨⟨_, rfl, .map rfl rfl⟩, ⟨_, rfl, .map rfl rfl⟩, ⟨_, rfl, .map rfl rfl⟩, ⟨_, rfl, .map rfl rfl⟩, ⟨_, rfl, .arr rfl rfl⟩, ⟨_, rfl, .d rfl⟩, ⟨_, rfl, .d rfl⟩, ⟨_, rfl, .d rfl⟩, trivial⟩ ⟨.map rfl rfl, .map rfl rfl, .map rfl rfl, .map rfl rfl, .arr rfl rfl, trivial⟩ drop0⟩
      · skip
        refine cw_block ?_
        obtain ⟨x495, hx496, h497⟩ := bind_some hj493
        have hx496g := gx_some hx496
        refine cw_seq (cw_region (
          .cons (o_ixM (enc := eapiChange) (xs := x274) rfl rfl .no rfl rfl sl34 sz38 hx496g.1 hx496g.2) <|
          .cons (o_ld rfl rfl .no rfl ta38 rfl rfl) <|
          .cons (o_alloc 4 rfl rfl .no ze38 rfl) <|
          .cons (o_st [] rfl .no rfl rfl rfl rfl rfl sz38 rfl rfl) <|
          .nil rfl
        ) ?_)
        obtain ⟨x498, hx499, h500⟩ := bind_some h497
        refine cw_seq (cw_region (
          .cons (o_mv rfl rfl .no rfl) <|
          .cons (o_ldP [] rfl rfl .no rfl rfl rfl ta38 rfl rfl) <|
          .cons (o_callX (fun _ => 3) rfl rfl .no Try.func33 rfl rfl (delta_does_ok hx499 0) (.cons rfl (.m rfl) (.cons rfl .d .nil)) (callIn1 rfl ⟨(by simp [AV.live, lk, Nat.beq]), trivial, trivial⟩ rfl trivial (by simp)) (.inl rfl)) <|
          .nil rfl
        ) ?_)
        obtain ⟨o513, hj514, h515⟩ := bind_some h500
        refine cw_join (fun (z : (Bool × (List (List UInt8 × ByteArray)) × (List (List UInt8 × ByteArray)) × (List (List UInt8 × ByteArray)))) => St.of [(8, .map 0), (9, .map 1), (10, .map 2), (11, .map 3), (12, .arr 5 0), (14, .ptr 4 0), (25, .d (eSapiChange x274)), (26, .d (eint (x274.length : Int))), (27, .d (eint v447.1)), (47, .d (ebool z.1))] [(0, .map 0 (mD eapiKey estring z.2.1)), (1, .map 0 (mD eapiKey estring z.2.2.1)), (2, .map 0 (mD eapiKey estring z.2.2.2)), (3, .map 0 (mD eapiKey estring x498)), (4, .box (.d (eapiChange x495))), (5, .arr 0 24 (v447.2.2.2.2.2.map eapiKey))]) (fun (z : (Bool × (List (List UInt8 × ByteArray)) × (List (List UInt8 × ByteArray)) × (List (List UInt8 × ByteArray)))) => o513 = z) ?_ ?_
        · intro v531 hv532; subst hv532
          rcases cond_some h515 with ⟨hc525, h526⟩ | ⟨hc525, h527⟩
          · refine cw_condT rfl hc525 ?_
            obtain ⟨x528, hx529, h530⟩ := bind_some h526
            have hx529g := fits_some hx529
            refine cw_region (
              .cons (o_mv rfl rfl .no rfl) <|
              .cons (o_fldP rfl rfl .no rfl fld38_0 (by decide)) <|
              .cons (o_ldP [0] rfl rfl .no rfl rfl rfl ta27 rfl rfl) <|
              .cons (o_bsl (rows := ([x495.1] : List (List UInt8)).map eapiKey) rfl rfl .no (.cons rfl .nil) rfl sl40 sz27 ze27 rfl (map_sz siapiKey) (by decide)) <|
              .cons (o_appM (enc := eapiKey) (xs := v447.2.2.2.2.2) (ys := [x495.1]) rfl rfl .no rfl rfl rfl siapiKey sl40 sl40 sz27 by27 ze27 rfl (by decide) hx529g) <|
              .cons (o_as rfl rfl .no rfl) <|
              .nil rfl
            ) ?_
            exact ⟨(o513.2.1, o513.2.2.1, o513.2.2.2, x498, (v447.2.2.2.2.2 ++ [x495.1])), (Option.some.inj h530).symm, weak_of ⟨⟨_, rfl, .map rfl rfl⟩, ⟨_, rfl, .map rfl rfl⟩, ⟨_, rfl, .map rfl rfl⟩, ⟨_, rfl, .map rfl rfl⟩, ⟨_, rfl, .arr rfl rfl⟩, ⟨_, rfl, .d rfl⟩, ⟨_, rfl, .d rfl⟩, ⟨_, rfl, .d rfl⟩, trivial⟩ ⟨.map rfl rfl, .map rfl rfl, .map rfl rfl, .map rfl rfl, .arr0 rfl rfl rfl, trivial⟩ drop0⟩
          · refine cw_condF rfl hc525 ?_
            refine cw_skip ?_
            exact ⟨(o513.2.1, o513.2.2.1, o513.2.2.2, x498, v447.2.2.2.2.2), (Option.some.inj h527).symm, weak_of ⟨⟨_, rfl, .map rfl rfl⟩, ⟨_, rfl, .map rfl rfl⟩, ⟨_, rfl, .map rfl rfl⟩, ⟨_, rfl, .map rfl rfl⟩, ⟨_, rfl, .arr rfl rfl⟩, ⟨_, rfl, .d rfl⟩, ⟨_, rfl, .d rfl⟩, ⟨_, rfl, .d rfl⟩, trivial⟩ ⟨.map rfl rfl, .map rfl rfl, .map rfl rfl, .map rfl rfl, .arr rfl rfl, trivial⟩ drop0⟩
        · skip
          obtain ⟨x516, hx517, h518⟩ := bind_some hj514
          rcases cond_some h518 with ⟨hc519, h520⟩ | ⟨hc519, h521⟩
          · skip
            obtain ⟨x522, hx523, h524⟩ := bind_some h520
            refine cw_region (
              .cons (o_mv rfl rfl .no rfl) <|
              .cons (o_mv rfl rfl .no rfl) <|
              .cons (o_fldP rfl rfl .no rfl fld38_0 (by decide)) <|
              .cons (o_ldP [0] rfl rfl .no rfl rfl rfl ta27 rfl rfl) <|
              .cons (o_callX (fun n => bif Nat.beq n 0 then 0 else 1) rfl rfl .no Try.func35 rfl rfl (delta_alike_ok hx517 0 0) (.cons rfl (.m rfl) (.cons rfl (.m rfl) (.cons rfl .d .nil))) (callIn2 rfl ⟨(by simp [AV.live, lk, Nat.beq]), (by simp [AV.live, lk, Nat.beq]), trivial, trivial⟩ (by decide) rfl trivial rfl trivial (by simp)) (.inl rfl)) <|
              .cons (o_not rfl rfl .no rfl) <|
              .cons (o_mv rfl rfl .no rfl) <|
              .cons (o_mv rfl rfl (.yes rfl rfl hc519) rfl) <|
              .cons (o_mv rfl rfl (.yes rfl rfl hc519) rfl) <|
              .cons (o_fldP rfl rfl (.yes rfl rfl hc519) rfl fld38_0 (by decide)) <|
              .cons (o_ldP [0] rfl rfl (.yes rfl rfl hc519) rfl rfl rfl ta27 rfl rfl) <|
              .cons (o_callX (fun n => bif Nat.beq n 0 then 1 else 2) rfl rfl (.yes rfl rfl hc519) Try.func35 rfl rfl (delta_alike_ok hx523 0 0) (.cons rfl (.m rfl) (.cons rfl (.m rfl) (.cons rfl .d .nil))) (callIn2 rfl ⟨(by simp [AV.live, lk, Nat.beq]), (by simp [AV.live, lk, Nat.beq]), trivial, trivial⟩ (by decide) rfl trivial rfl trivial (by simp)) (.inl rfl)) <|
              .cons (o_not rfl rfl (.yes rfl rfl hc519) rfl) <|
              .cons (o_pickT rfl rfl .no rfl hc519 rfl) <|
              .nil rfl
            ) ?_
            exact ⟨((!x522.1), x516.2.1, x522.2.1, x522.2.2), (Option.some.inj h524).symm, weak_of ⟨⟨_, rfl, .map rfl rfl⟩, ⟨_, rfl, .map rfl rfl⟩, ⟨_, rfl, .map rfl rfl⟩, ⟨_, rfl, .map rfl rfl⟩, ⟨_, rfl, .arr rfl rfl⟩, ⟨_, rfl, .ptr rfl rfl⟩, ⟨_, rfl, .d rfl⟩, ⟨_, rfl, .d rfl⟩, ⟨_, rfl, .d rfl⟩, ⟨_, rfl, .d rfl⟩, trivial⟩ ⟨.map rfl rfl, .map rfl rfl, .map rfl rfl, .map0 rfl rfl rfl (noIter rfl), .box rfl (.d rfl), .arr rfl rfl, trivial⟩ drop0⟩
          · skip
            refine cw_region (
              .cons (o_mv rfl rfl .no rfl) <|
              .cons (o_mv rfl rfl .no rfl) <|
              .cons (o_fldP rfl rfl .no rfl fld38_0 (by decide)) <|
              .cons (o_ldP [0] rfl rfl .no rfl rfl rfl ta27 rfl rfl) <|
              .cons (o_callX (fun n => bif Nat.beq n 0 then 0 else 1) rfl rfl .no Try.func35 rfl rfl (delta_alike_ok hx517 0 0) (.cons rfl (.m rfl) (.cons rfl (.m rfl) (.cons rfl .d .nil))) (callIn2 rfl ⟨(by simp [AV.live, lk, Nat.beq]), (by simp [AV.live, lk, Nat.beq]), trivial, trivial⟩ (by decide) rfl trivial rfl trivial (by simp)) (.inl rfl)) <|
              .cons (o_not rfl rfl .no rfl) <|
              .cons (o_mv rfl rfl .no rfl) <|
              .cons (o_noT rfl rfl rfl rfl hc519) <|
              .cons (o_noT rfl rfl rfl rfl hc519) <|
              .cons (o_noT rfl rfl rfl rfl hc519) <|
              .cons (o_noT rfl rfl rfl rfl hc519) <|
              .cons (o_noT rfl rfl rfl rfl hc519) <|
              .cons (o_noT rfl rfl rfl rfl hc519) <|
              .cons (o_pickF rfl rfl .no rfl hc519 rfl) <|
              .nil rfl
            ) ?_
            exact ⟨(false, x516.2.1, x516.2.2, v447.2.2.2.1), (Option.some.inj h521).symm, weak_of ⟨⟨_, rfl, .map rfl rfl⟩, ⟨_, rfl, .map rfl rfl⟩, ⟨_, rfl, .map rfl rfl⟩, ⟨_, rfl, .map rfl rfl⟩, ⟨_, rfl, .arr rfl rfl⟩, ⟨_, rfl, .ptr rfl rfl⟩, ⟨_, rfl, .d rfl⟩, ⟨_, rfl, .d rfl⟩, ⟨_, rfl, .d rfl⟩, ⟨_, rfl, .d rfl⟩, trivial⟩ ⟨.map rfl rfl, .map rfl rfl, .map rfl rfl, .map0 rfl rfl rfl (noIter rfl), .box rfl (.d rfl), .arr rfl rfl, trivial⟩ drop0⟩
    · refine cw_condF rfl hc451 ?_
      refine cw_exit ?_
      exact ⟨(v447.2.2.2.2.1, v447.2.2.2.2.2), (hx450 _ (Option.some.inj h453).symm).symm, weak_of ⟨⟨_, rfl, .map rfl rfl⟩, ⟨_, rfl, .arr rfl rfl⟩, trivial⟩ ⟨.map rfl rfl, .arr rfl rfl, trivial⟩ drop0⟩

set_option maxRecDepth 100000 in
theorem law09_shown_ok {r : Bool} (h : law09_shown = some r) : FnOk Try.prog 10 [] 0 (lk []) (fun rr oo => rr = .d (ebool r) ∧ oo = lk []) := by
  refine fnOk_of Try.func10 rfl rfl ?_
  unfold law09_shown at h
  refine cw_seq (cw_region (
    .cons (o_as rfl rfl .no rfl) <|
    .nil rfl
  ) ?_)
  obtain ⟨x1, hx2, h3⟩ := bind_some h
  obtain ⟨x4, hx5, h6⟩ := bind_some h3
  refine cw_seq (cw_region (
    .cons (o_call rfl rfl .no Try.func28 rfl rfl (law09_k_ok hx2) (.cons rfl .d .nil) ⟨trivial, trivial⟩ (.inl rfl)) <|
    .cons (o_bld (ds := [eapiKey x1, estring (ByteArray.mk #[120])]) rfl rfl .no zs29 rfl pl29 (.cons rfl rfl rfl rfl rfl rfl rfl (.cons rfl rfl rfl rfl rfl rfl rfl .nil))) <|
    .cons (o_call rfl rfl .no Try.func28 rfl rfl (law09_k_ok hx5) (.cons rfl .d .nil) ⟨trivial, trivial⟩ (.inl rfl)) <|
    .cons (o_bld (ds := [eapiKey x4, estring (ByteArray.mk #[121])]) rfl rfl .no zs29 rfl pl29 (.cons rfl rfl rfl rfl rfl rfl rfl (.cons rfl rfl rfl rfl rfl rfl rfl .nil))) <|
    .cons (o_bslX (rows := ([(x1, (ByteArray.mk #[120])), (x4, (ByteArray.mk #[121]))] : List ((List UInt8) × ByteArray)).map eapiPair) rfl rfl .no (.cons rfl (.cons rfl .nil)) rfl sl22 sz29 ze29 rfl (map_sz siapiPair) (by decide)) <|
    .cons (o_as rfl rfl .no rfl) <|
    .nil rfl
  ) ?_)
  obtain ⟨x7, hx8, h9⟩ := bind_some h6
  refine cw_seq (cw_region (
    .cons (o_call rfl rfl .no Try.func28 rfl rfl (law09_k_ok hx5) (.cons rfl .d .nil) ⟨trivial, trivial⟩ (.inl rfl)) <|
    .cons (o_bld (ds := [eapiKey x4, estring (ByteArray.mk #[122])]) rfl rfl .no zs29 rfl pl29 (.cons rfl rfl rfl rfl rfl rfl rfl (.cons rfl rfl rfl rfl rfl rfl rfl .nil))) <|
    .cons (o_call rfl rfl .no Try.func28 rfl rfl (law09_k_ok hx8) (.cons rfl .d .nil) ⟨trivial, trivial⟩ (.inl rfl)) <|
    .cons (o_bld (ds := [eapiKey x7, estring (ByteArray.mk #[119])]) rfl rfl .no zs29 rfl pl29 (.cons rfl rfl rfl rfl rfl rfl rfl (.cons rfl rfl rfl rfl rfl rfl rfl .nil))) <|
    .cons (o_bsl (rows := ([(x4, (ByteArray.mk #[122])), (x7, (ByteArray.mk #[119]))] : List ((List UInt8) × ByteArray)).map eapiPair) rfl rfl .no (.cons rfl (.cons rfl .nil)) rfl sl22 sz29 ze29 rfl (map_sz siapiPair) (by decide)) <|
    .cons (o_as rfl rfl .no rfl) <|
    .nil rfl
  ) ?_)
  obtain ⟨x10, hx11, h12⟩ := bind_some h9
  refine cw_seq (cw_region (
    .cons (o_mv rfl rfl .no rfl) <|
    .cons (o_mv rfl rfl .no rfl) <|
    .cons (o_call rfl rfl .no Try.func16 rfl rfl (delta_Diff_ok hx11) (.cons rfl .sx (.cons rfl .d .nil)) ⟨trivial, trivial, trivial⟩ (.inl rfl)) <|
    .cons (o_as rfl rfl .no rfl) <|
    .nil rfl
  ) ?_)
  obtain ⟨x13, hx14, h15⟩ := bind_some h12
  refine cw_seq (cw_region (
    .cons (o_mv rfl rfl .no rfl) <|
    .cons (o_mv rfl rfl .no rfl) <|
    .cons (o_mv rfl rfl .no rfl) <|
    .cons (o_call rfl rfl .no Try.func18 rfl rfl (delta_Merge_ok hx14) (.cons rfl .sx (.cons rfl .d (.cons rfl .sx .nil))) ⟨trivial, trivial, trivial, trivial⟩ (.inl rfl)) <|
    .cons (o_mv rfl rfl .no rfl) <|
    .cons (o_ext rfl rfl .no rfl rfl) <|
    .cons (o_ext rfl rfl .no rfl rfl) <|
    .cons (o_as rfl rfl .no rfl) <|
    .cons (o_as rfl rfl .no rfl) <|
    .nil rfl
  ) ?_)
  obtain ⟨o52, hj53, h54⟩ := bind_some h15
  refine cw_join (fun (z : Bool) => St.of [(0, .d (ebool z))] []) (fun (z : Bool) => o52 = z) ?_ ?_
  · intro v91 hv92; subst hv92
    have heq := ((Option.some.inj h54).symm).symm
    subst heq
    exact cw_weak (weak_of (l := [(0, .d (ebool o52))]) (m := []) ⟨⟨_, rfl, .d rfl⟩, trivial⟩ trivial drop0) (cw_ret ⟨.inr rfl, _, res1 rfl rfl, rfl, rfl⟩)
  · skip
    rcases cond_some hj53 with ⟨hc55, h56⟩ | ⟨hc55, h57⟩
    · skip
      obtain ⟨x58, hx59, h60⟩ := bind_some h56
      have hx59g := gx_some hx59
      rcases cond_some h60 with ⟨hc61, h62⟩ | ⟨hc61, h63⟩
      · skip
        obtain ⟨x64, hx65, h66⟩ := bind_some h62
        have hx65g := gx_some hx65
        rcases cond_some h66 with ⟨hc67, h68⟩ | ⟨hc67, h69⟩
        · skip
          obtain ⟨x70, hx71, h72⟩ := bind_some h68
          have hx71g := gx_some hx71
          rcases cond_some h72 with ⟨hc73, h74⟩ | ⟨hc73, h75⟩
          · skip
            rcases cond_some h74 with ⟨hc76, h77⟩ | ⟨hc76, h78⟩
            · skip
              rcases cond_some h77 with ⟨hc79, h80⟩ | ⟨hc79, h81⟩
              · skip
                obtain ⟨x82, hx83, h84⟩ := bind_some h80
                have hx83g := ck_dec hx83
                obtain ⟨x85, hx86, h87⟩ := bind_some h84
                have hx86g := fits_some hx86
                obtain ⟨x88, hx89, h90⟩ := bind_some h87
                refine cw_region_any mixed (by kernel_rfl) (
                  .cons (o_mv rfl rfl .no rfl) <|
                  .cons (o_lenM (enc := eapiChange) (xs := x10) rfl rfl .no rfl sl34) <|
                  .cons (o_bin rfl rfl .no rfl rfl (b_eql _ _) rfl) <|
                  .cons (o_mv rfl rfl .no rfl) <|
                  .cons (o_mv rfl rfl (.yes rfl rfl hc55) rfl) <|
                  .cons (o_ixM (enc := eapiChange) (xs := x10) rfl rfl (.yes rfl rfl hc55) rfl rfl sl34 sz38 hx59g.1 hx59g.2) <|
                  .cons (o_ld rfl rfl (.yes rfl rfl hc55) rfl ta38 rfl rfl) <|
                  .cons (o_call rfl rfl (.yes rfl rfl hc55) Try.func28 rfl rfl (law09_k_ok hx2) (.cons rfl .d .nil) ⟨trivial, trivial⟩ (.inl rfl)) <|
                  .cons (o_bld (ds := [eapiKey x1, estring (ByteArray.mk #[]), ebool true]) rfl rfl (.yes rfl rfl hc55) zs38 rfl pl38 (.cons rfl rfl rfl rfl rfl rfl rfl (.cons rfl rfl rfl rfl rfl rfl rfl .nil))) <|
                  .cons (o_eq rfl rfl (.yes rfl rfl hc55) rfl rfl rfl rfl eg38 (.st flds38 (.cons ta27 rfl rfl rfl rfl (.bs ar27 un5 sz5) (.cons ta9 rfl rfl rfl rfl (.str un9) (.cons ta4 rfl rfl rfl rfl (.bool un4) .nil))))) <|
                  .cons (o_pickT rfl rfl .no rfl hc55 rfl) <|
                  .cons (o_mv rfl rfl .no rfl) <|
                  .cons (o_mv rfl rfl (.yes rfl rfl hc61) rfl) <|
                  .cons (o_ixM (enc := eapiChange) (xs := x10) rfl rfl (.yes rfl rfl hc61) rfl rfl sl34 sz38 hx65g.1 hx65g.2) <|
                  .cons (o_fld rfl rfl (.yes rfl rfl hc61) rfl fld38_1 (by decide) rfl rfl) <|
                  .cons (o_ld rfl rfl (.yes rfl rfl hc61) rfl ta9 rfl rfl) <|
                  .cons (o_bin rfl rfl (.yes rfl rfl hc61) rfl rfl (s_eql _ _) rfl) <|
                  .cons (o_pickT rfl rfl .no rfl hc61 rfl) <|
                  .cons (o_mv rfl rfl .no rfl) <|
                  .cons (o_mv rfl rfl (.yes rfl rfl hc67) rfl) <|
                  .cons (o_ixM (enc := eapiChange) (xs := x10) rfl rfl (.yes rfl rfl hc67) rfl rfl sl34 sz38 hx71g.1 hx71g.2) <|
                  .cons (o_fld rfl rfl (.yes rfl rfl hc67) rfl fld38_1 (by decide) rfl rfl) <|
                  .cons (o_ld rfl rfl (.yes rfl rfl hc67) rfl ta9 rfl rfl) <|
                  .cons (o_bin rfl rfl (.yes rfl rfl hc67) rfl rfl (s_eql _ _) rfl) <|
                  .cons (o_pickT rfl rfl .no rfl hc67 rfl) <|
                  .cons (o_mv rfl rfl .no rfl) <|
                  .cons (o_mv rfl rfl (.yes rfl rfl hc73) rfl) <|
                  .cons (o_lenM (enc := eapiPair) (xs := x13.1) rfl rfl (.yes rfl rfl hc73) rfl sl22) <|
                  .cons (o_bin rfl rfl (.yes rfl rfl hc73) rfl rfl (b_eql _ _) rfl) <|
                  .cons (o_pickT rfl rfl .no rfl hc73 rfl) <|
                  .cons (o_mv rfl rfl .no rfl) <|
                  .cons (o_mv rfl rfl (.yes rfl rfl hc76) rfl) <|
                  .cons (o_lenM (enc := eapiKey) (xs := x13.2) rfl rfl (.yes rfl rfl hc76) rfl sl40) <|
                  .cons (o_bin rfl rfl (.yes rfl rfl hc76) rfl rfl (b_eql _ _) rfl) <|
                  .cons (o_pickT rfl rfl .no rfl hc76 rfl) <|
                  .cons (o_mv rfl rfl .no rfl) <|
                  .cons (o_mv rfl rfl (.yes rfl rfl hc79) rfl) <|
                  .cons (o_mv rfl rfl (.yes rfl rfl hc79) rfl) <|
                  .cons (o_appXD (enc := eapiPair) (xs := [(x1, (ByteArray.mk #[120])), (x4, (ByteArray.mk #[121]))]) (ys := [(x4, (ByteArray.mk #[122])), (x7, (ByteArray.mk #[119]))]) rfl rfl (.yes rfl rfl hc79) rfl rfl hx83g siapiPair sl22 sl22 sz29 by29 ze29 rfl (by decide) hx86g) <|
                  .cons (o_call rfl rfl (.yes rfl rfl hc79) Try.func12 rfl rfl (delta_Map_ok hx89) (.cons rfl .d .nil) ⟨trivial, trivial⟩ (.inl rfl)) <|
                  .cons (o_lenM (enc := eapiPair) (xs := x88) rfl rfl (.yes rfl rfl hc79) rfl sl22) <|
                  .cons (o_bin rfl rfl (.yes rfl rfl hc79) rfl rfl (b_eql _ _) rfl) <|
                  .cons (o_pickT rfl rfl .no rfl hc79 rfl) <|
                  .cons (o_as rfl rfl .no rfl) <|
                  .nil rfl
                ) (by kernel_rfl) ?_
                exact ⟨(decide ((x88.length : Int) = 3)), (Option.some.inj h90).symm, weak_of ⟨⟨_, rfl, .d rfl⟩, trivial⟩ trivial drop0⟩
              · skip
                refine cw_region_any mixed (by kernel_rfl) (
                  .cons (o_mv rfl rfl .no rfl) <|
                  .cons (o_lenM (enc := eapiChange) (xs := x10) rfl rfl .no rfl sl34) <|
                  .cons (o_bin rfl rfl .no rfl rfl (b_eql _ _) rfl) <|
                  .cons (o_mv rfl rfl .no rfl) <|
                  .cons (o_mv rfl rfl (.yes rfl rfl hc55) rfl) <|
                  .cons (o_ixM (enc := eapiChange) (xs := x10) rfl rfl (.yes rfl rfl hc55) rfl rfl sl34 sz38 hx59g.1 hx59g.2) <|
                  .cons (o_ld rfl rfl (.yes rfl rfl hc55) rfl ta38 rfl rfl) <|
                  .cons (o_call rfl rfl (.yes rfl rfl hc55) Try.func28 rfl rfl (law09_k_ok hx2) (.cons rfl .d .nil) ⟨trivial, trivial⟩ (.inl rfl)) <|
                  .cons (o_bld (ds := [eapiKey x1, estring (ByteArray.mk #[]), ebool true]) rfl rfl (.yes rfl rfl hc55) zs38 rfl pl38 (.cons rfl rfl rfl rfl rfl rfl rfl (.cons rfl rfl rfl rfl rfl rfl rfl .nil))) <|
                  .cons (o_eq rfl rfl (.yes rfl rfl hc55) rfl rfl rfl rfl eg38 (.st flds38 (.cons ta27 rfl rfl rfl rfl (.bs ar27 un5 sz5) (.cons ta9 rfl rfl rfl rfl (.str un9) (.cons ta4 rfl rfl rfl rfl (.bool un4) .nil))))) <|
                  .cons (o_pickT rfl rfl .no rfl hc55 rfl) <|
                  .cons (o_mv rfl rfl .no rfl) <|
                  .cons (o_mv rfl rfl (.yes rfl rfl hc61) rfl) <|
                  .cons (o_ixM (enc := eapiChange) (xs := x10) rfl rfl (.yes rfl rfl hc61) rfl rfl sl34 sz38 hx65g.1 hx65g.2) <|
                  .cons (o_fld rfl rfl (.yes rfl rfl hc61) rfl fld38_1 (by decide) rfl rfl) <|
                  .cons (o_ld rfl rfl (.yes rfl rfl hc61) rfl ta9 rfl rfl) <|
                  .cons (o_bin rfl rfl (.yes rfl rfl hc61) rfl rfl (s_eql _ _) rfl) <|
                  .cons (o_pickT rfl rfl .no rfl hc61 rfl) <|
                  .cons (o_mv rfl rfl .no rfl) <|
                  .cons (o_mv rfl rfl (.yes rfl rfl hc67) rfl) <|
                  .cons (o_ixM (enc := eapiChange) (xs := x10) rfl rfl (.yes rfl rfl hc67) rfl rfl sl34 sz38 hx71g.1 hx71g.2) <|
                  .cons (o_fld rfl rfl (.yes rfl rfl hc67) rfl fld38_1 (by decide) rfl rfl) <|
                  .cons (o_ld rfl rfl (.yes rfl rfl hc67) rfl ta9 rfl rfl) <|
                  .cons (o_bin rfl rfl (.yes rfl rfl hc67) rfl rfl (s_eql _ _) rfl) <|
                  .cons (o_pickT rfl rfl .no rfl hc67 rfl) <|
                  .cons (o_mv rfl rfl .no rfl) <|
                  .cons (o_mv rfl rfl (.yes rfl rfl hc73) rfl) <|
                  .cons (o_lenM (enc := eapiPair) (xs := x13.1) rfl rfl (.yes rfl rfl hc73) rfl sl22) <|
                  .cons (o_bin rfl rfl (.yes rfl rfl hc73) rfl rfl (b_eql _ _) rfl) <|
                  .cons (o_pickT rfl rfl .no rfl hc73 rfl) <|
                  .cons (o_mv rfl rfl .no rfl) <|
                  .cons (o_mv rfl rfl (.yes rfl rfl hc76) rfl) <|
                  .cons (o_lenM (enc := eapiKey) (xs := x13.2) rfl rfl (.yes rfl rfl hc76) rfl sl40) <|
                  .cons (o_bin rfl rfl (.yes rfl rfl hc76) rfl rfl (b_eql _ _) rfl) <|
                  .cons (o_pickT rfl rfl .no rfl hc76 rfl) <|
                  .cons (o_mv rfl rfl .no rfl) <|
                  .cons (o_noT rfl rfl rfl rfl hc79) <|
                  .cons (o_noT rfl rfl rfl rfl hc79) <|
                  .cons (o_noT rfl rfl rfl rfl hc79) <|
                  .cons (o_noT rfl rfl rfl rfl hc79) <|
                  .cons (o_noT rfl rfl rfl rfl hc79) <|
                  .cons (o_noT rfl rfl rfl rfl hc79) <|
                  .cons (o_pickF rfl rfl .no rfl hc79 rfl) <|
                  .cons (o_as rfl rfl .no rfl) <|
                  .nil rfl
                ) (by kernel_rfl) ?_
                exact ⟨false, (Option.some.inj h81).symm, weak_of ⟨⟨_, rfl, .d rfl⟩, trivial⟩ trivial drop0⟩
            · skip
              refine cw_region_any mixed (by kernel_rfl) (
                .cons (o_mv rfl rfl .no rfl) <|
                .cons (o_lenM (enc := eapiChange) (xs := x10) rfl rfl .no rfl sl34) <|
                .cons (o_bin rfl rfl .no rfl rfl (b_eql _ _) rfl) <|
                .cons (o_mv rfl rfl .no rfl) <|
                .cons (o_mv rfl rfl (.yes rfl rfl hc55) rfl) <|
                .cons (o_ixM (enc := eapiChange) (xs := x10) rfl rfl (.yes rfl rfl hc55) rfl rfl sl34 sz38 hx59g.1 hx59g.2) <|
                .cons (o_ld rfl rfl (.yes rfl rfl hc55) rfl ta38 rfl rfl) <|
                .cons (o_call rfl rfl (.yes rfl rfl hc55) Try.func28 rfl rfl (law09_k_ok hx2) (.cons rfl .d .nil) ⟨trivial, trivial⟩ (.inl rfl)) <|
                .cons (o_bld (ds := [eapiKey x1, estring (ByteArray.mk #[]), ebool true]) rfl rfl (.yes rfl rfl hc55) zs38 rfl pl38 (.cons rfl rfl rfl rfl rfl rfl rfl (.cons rfl rfl rfl rfl rfl rfl rfl .nil))) <|
                .cons (o_eq rfl rfl (.yes rfl rfl hc55) rfl rfl rfl rfl eg38 (.st flds38 (.cons ta27 rfl rfl rfl rfl (.bs ar27 un5 sz5) (.cons ta9 rfl rfl rfl rfl (.str un9) (.cons ta4 rfl rfl rfl rfl (.bool un4) .nil))))) <|
                .cons (o_pickT rfl rfl .no rfl hc55 rfl) <|
                .cons (o_mv rfl rfl .no rfl) <|
                .cons (o_mv rfl rfl (.yes rfl rfl hc61) rfl) <|
                .cons (o_ixM (enc := eapiChange) (xs := x10) rfl rfl (.yes rfl rfl hc61) rfl rfl sl34 sz38 hx65g.1 hx65g.2) <|
                .cons (o_fld rfl rfl (.yes rfl rfl hc61) rfl fld38_1 (by decide) rfl rfl) <|
                .cons (o_ld rfl rfl (.yes rfl rfl hc61) rfl ta9 rfl rfl) <|
                .cons (o_bin rfl rfl (.yes rfl rfl hc61) rfl rfl (s_eql _ _) rfl) <|
                .cons (o_pickT rfl rfl .no rfl hc61 rfl) <|
                .cons (o_mv rfl rfl .no rfl) <|
                .cons (o_mv rfl rfl (.yes rfl rfl hc67) rfl) <|
                .cons (o_ixM (enc := eapiChange) (xs := x10) rfl rfl (.yes rfl rfl hc67) rfl rfl sl34 sz38 hx71g.1 hx71g.2) <|
                .cons (o_fld rfl rfl (.yes rfl rfl hc67) rfl fld38_1 (by decide) rfl rfl) <|
                .cons (o_ld rfl rfl (.yes rfl rfl hc67) rfl ta9 rfl rfl) <|
                .cons (o_bin rfl rfl (.yes rfl rfl hc67) rfl rfl (s_eql _ _) rfl) <|
                .cons (o_pickT rfl rfl .no rfl hc67 rfl) <|
                .cons (o_mv rfl rfl .no rfl) <|
                .cons (o_mv rfl rfl (.yes rfl rfl hc73) rfl) <|
                .cons (o_lenM (enc := eapiPair) (xs := x13.1) rfl rfl (.yes rfl rfl hc73) rfl sl22) <|
                .cons (o_bin rfl rfl (.yes rfl rfl hc73) rfl rfl (b_eql _ _) rfl) <|
                .cons (o_pickT rfl rfl .no rfl hc73 rfl) <|
                .cons (o_mv rfl rfl .no rfl) <|
                .cons (o_noT rfl rfl rfl rfl hc76) <|
                .cons (o_noT rfl rfl rfl rfl hc76) <|
                .cons (o_noT rfl rfl rfl rfl hc76) <|
                .cons (o_pickF rfl rfl .no rfl hc76 rfl) <|
                .cons (o_mv rfl rfl .no rfl) <|
                .cons (o_noT rfl rfl rfl rfl rfl) <|
                .cons (o_noT rfl rfl rfl rfl rfl) <|
                .cons (o_noT rfl rfl rfl rfl rfl) <|
                .cons (o_noT rfl rfl rfl rfl rfl) <|
                .cons (o_noT rfl rfl rfl rfl rfl) <|
                .cons (o_noT rfl rfl rfl rfl rfl) <|
                .cons (o_pickF rfl rfl .no rfl rfl rfl) <|
                .cons (o_as rfl rfl .no rfl) <|
                .nil rfl
              ) (by kernel_rfl) ?_
              exact ⟨false, (Option.some.inj h78).symm, weak_of ⟨⟨_, rfl, .d rfl⟩, trivial⟩ trivial drop0⟩
          · skip
            refine cw_region_any mixed (by kernel_rfl) (
              .cons (o_mv rfl rfl .no rfl) <|
              .cons (o_lenM (enc := eapiChange) (xs := x10) rfl rfl .no rfl sl34) <|
              .cons (o_bin rfl rfl .no rfl rfl (b_eql _ _) rfl) <|
              .cons (o_mv rfl rfl .no rfl) <|
              .cons (o_mv rfl rfl (.yes rfl rfl hc55) rfl) <|
              .cons (o_ixM (enc := eapiChange) (xs := x10) rfl rfl (.yes rfl rfl hc55) rfl rfl sl34 sz38 hx59g.1 hx59g.2) <|
              .cons (o_ld rfl rfl (.yes rfl rfl hc55) rfl ta38 rfl rfl) <|
              .cons (o_call rfl rfl (.yes rfl rfl hc55) Try.func28 rfl rfl (law09_k_ok hx2) (.cons rfl .d .nil) ⟨trivial, trivial⟩ (.inl rfl)) <|
              .cons (o_bld (ds := [eapiKey x1, estring (ByteArray.mk #[]), ebool true]) rfl rfl (.yes rfl rfl hc55) zs38 rfl pl38 (.cons rfl rfl rfl rfl rfl rfl rfl (.cons rfl rfl rfl rfl rfl rfl rfl .nil))) <|
              .cons (o_eq rfl rfl (.yes rfl rfl hc55) rfl rfl rfl rfl eg38 (.st flds38 (.cons ta27 rfl rfl rfl rfl (.bs ar27 un5 sz5) (.cons ta9 rfl rfl rfl rfl (.str un9) (.cons ta4 rfl rfl rfl rfl (.bool un4) .nil))))) <|
              .cons (o_pickT rfl rfl .no rfl hc55 rfl) <|
              .cons (o_mv rfl rfl .no rfl) <|
              .cons (o_mv rfl rfl (.yes rfl rfl hc61) rfl) <|
              .cons (o_ixM (enc := eapiChange) (xs := x10) rfl rfl (.yes rfl rfl hc61) rfl rfl sl34 sz38 hx65g.1 hx65g.2) <|
              .cons (o_fld rfl rfl (.yes rfl rfl hc61) rfl fld38_1 (by decide) rfl rfl) <|
              .cons (o_ld rfl rfl (.yes rfl rfl hc61) rfl ta9 rfl rfl) <|
              .cons (o_bin rfl rfl (.yes rfl rfl hc61) rfl rfl (s_eql _ _) rfl) <|
              .cons (o_pickT rfl rfl .no rfl hc61 rfl) <|
              .cons (o_mv rfl rfl .no rfl) <|
              .cons (o_mv rfl rfl (.yes rfl rfl hc67) rfl) <|
              .cons (o_ixM (enc := eapiChange) (xs := x10) rfl rfl (.yes rfl rfl hc67) rfl rfl sl34 sz38 hx71g.1 hx71g.2) <|
              .cons (o_fld rfl rfl (.yes rfl rfl hc67) rfl fld38_1 (by decide) rfl rfl) <|
              .cons (o_ld rfl rfl (.yes rfl rfl hc67) rfl ta9 rfl rfl) <|
              .cons (o_bin rfl rfl (.yes rfl rfl hc67) rfl rfl (s_eql _ _) rfl) <|
              .cons (o_pickT rfl rfl .no rfl hc67 rfl) <|
              .cons (o_mv rfl rfl .no rfl) <|
              .cons (o_noT rfl rfl rfl rfl hc73) <|
              .cons (o_noT rfl rfl rfl rfl hc73) <|
              .cons (o_noT rfl rfl rfl rfl hc73) <|
              .cons (o_pickF rfl rfl .no rfl hc73 rfl) <|
              .cons (o_mv rfl rfl .no rfl) <|
              .cons (o_noT rfl rfl rfl rfl rfl) <|
              .cons (o_noT rfl rfl rfl rfl rfl) <|
              .cons (o_noT rfl rfl rfl rfl rfl) <|
              .cons (o_pickF rfl rfl .no rfl rfl rfl) <|
              .cons (o_mv rfl rfl .no rfl) <|
              .cons (o_noT rfl rfl rfl rfl rfl) <|
              .cons (o_noT rfl rfl rfl rfl rfl) <|
              .cons (o_noT rfl rfl rfl rfl rfl) <|
              .cons (o_noT rfl rfl rfl rfl rfl) <|
              .cons (o_noT rfl rfl rfl rfl rfl) <|
              .cons (o_noT rfl rfl rfl rfl rfl) <|
              .cons (o_pickF rfl rfl .no rfl rfl rfl) <|
              .cons (o_as rfl rfl .no rfl) <|
              .nil rfl
            ) (by kernel_rfl) ?_
            exact ⟨false, (Option.some.inj h75).symm, weak_of ⟨⟨_, rfl, .d rfl⟩, trivial⟩ trivial drop0⟩
        · skip
          refine cw_region_any mixed (by kernel_rfl) (
            .cons (o_mv rfl rfl .no rfl) <|
            .cons (o_lenM (enc := eapiChange) (xs := x10) rfl rfl .no rfl sl34) <|
            .cons (o_bin rfl rfl .no rfl rfl (b_eql _ _) rfl) <|
            .cons (o_mv rfl rfl .no rfl) <|
            .cons (o_mv rfl rfl (.yes rfl rfl hc55) rfl) <|
            .cons (o_ixM (enc := eapiChange) (xs := x10) rfl rfl (.yes rfl rfl hc55) rfl rfl sl34 sz38 hx59g.1 hx59g.2) <|
            .cons (o_ld rfl rfl (.yes rfl rfl hc55) rfl ta38 rfl rfl) <|
            .cons (o_call rfl rfl (.yes rfl rfl hc55) Try.func28 rfl rfl (law09_k_ok hx2) (.cons rfl .d .nil) ⟨trivial, trivial⟩ (.inl rfl)) <|
            .cons (o_bld (ds := [eapiKey x1, estring (ByteArray.mk #[]), ebool true]) rfl rfl (.yes rfl rfl hc55) zs38 rfl pl38 (.cons rfl rfl rfl rfl rfl rfl rfl (.cons rfl rfl rfl rfl rfl rfl rfl .nil))) <|
            .cons (o_eq rfl rfl (.yes rfl rfl hc55) rfl rfl rfl rfl eg38 (.st flds38 (.cons ta27 rfl rfl rfl rfl (.bs ar27 un5 sz5) (.cons ta9 rfl rfl rfl rfl (.str un9) (.cons ta4 rfl rfl rfl rfl (.bool un4) .nil))))) <|
            .cons (o_pickT rfl rfl .no rfl hc55 rfl) <|
            .cons (o_mv rfl rfl .no rfl) <|
            .cons (o_mv rfl rfl (.yes rfl rfl hc61) rfl) <|
            .cons (o_ixM (enc := eapiChange) (xs := x10) rfl rfl (.yes rfl rfl hc61) rfl rfl sl34 sz38 hx65g.1 hx65g.2) <|
            .cons (o_fld rfl rfl (.yes rfl rfl hc61) rfl fld38_1 (by decide) rfl rfl) <|
            .cons (o_ld rfl rfl (.yes rfl rfl hc61) rfl ta9 rfl rfl) <|
            .cons (o_bin rfl rfl (.yes rfl rfl hc61) rfl rfl (s_eql _ _) rfl) <|
            .cons (o_pickT rfl rfl .no rfl hc61 rfl) <|
            .cons (o_mv rfl rfl .no rfl) <|
            .cons (o_noT rfl rfl rfl rfl hc67) <|
            .cons (o_noT rfl rfl rfl rfl hc67) <|
            .cons (o_noT rfl rfl rfl rfl hc67) <|
            .cons (o_noT rfl rfl rfl rfl hc67) <|
            .cons (o_noT rfl rfl rfl rfl hc67) <|
            .cons (o_pickF rfl rfl .no rfl hc67 rfl) <|
            .cons (o_mv rfl rfl .no rfl) <|
            .cons (o_noT rfl rfl rfl rfl rfl) <|
            .cons (o_noT rfl rfl rfl rfl rfl) <|
            .cons (o_noT rfl rfl rfl rfl rfl) <|
            .cons (o_pickF rfl rfl .no rfl rfl rfl) <|
            .cons (o_mv rfl rfl .no rfl) <|
            .cons (o_noT rfl rfl rfl rfl rfl) <|
            .cons (o_noT rfl rfl rfl rfl rfl) <|
            .cons (o_noT rfl rfl rfl rfl rfl) <|
            .cons (o_pickF rfl rfl .no rfl rfl rfl) <|
            .cons (o_mv rfl rfl .no rfl) <|
            .cons (o_noT rfl rfl rfl rfl rfl) <|
            .cons (o_noT rfl rfl rfl rfl rfl) <|
            .cons (o_noT rfl rfl rfl rfl rfl) <|
            .cons (o_noT rfl rfl rfl rfl rfl) <|
            .cons (o_noT rfl rfl rfl rfl rfl) <|
            .cons (o_noT rfl rfl rfl rfl rfl) <|
            .cons (o_pickF rfl rfl .no rfl rfl rfl) <|
            .cons (o_as rfl rfl .no rfl) <|
            .nil rfl
          ) (by kernel_rfl) ?_
          exact ⟨false, (Option.some.inj h69).symm, weak_of ⟨⟨_, rfl, .d rfl⟩, trivial⟩ trivial drop0⟩
      · skip
        refine cw_region_any mixed (by kernel_rfl) (
          .cons (o_mv rfl rfl .no rfl) <|
          .cons (o_lenM (enc := eapiChange) (xs := x10) rfl rfl .no rfl sl34) <|
          .cons (o_bin rfl rfl .no rfl rfl (b_eql _ _) rfl) <|
          .cons (o_mv rfl rfl .no rfl) <|
          .cons (o_mv rfl rfl (.yes rfl rfl hc55) rfl) <|
          .cons (o_ixM (enc := eapiChange) (xs := x10) rfl rfl (.yes rfl rfl hc55) rfl rfl sl34 sz38 hx59g.1 hx59g.2) <|
          .cons (o_ld rfl rfl (.yes rfl rfl hc55) rfl ta38 rfl rfl) <|
          .cons (o_call rfl rfl (.yes rfl rfl hc55) Try.func28 rfl rfl (law09_k_ok hx2) (.cons rfl .d .nil) ⟨trivial, trivial⟩ (.inl rfl)) <|
          .cons (o_bld (ds := [eapiKey x1, estring (ByteArray.mk #[]), ebool true]) rfl rfl (.yes rfl rfl hc55) zs38 rfl pl38 (.cons rfl rfl rfl rfl rfl rfl rfl (.cons rfl rfl rfl rfl rfl rfl rfl .nil))) <|
          .cons (o_eq rfl rfl (.yes rfl rfl hc55) rfl rfl rfl rfl eg38 (.st flds38 (.cons ta27 rfl rfl rfl rfl (.bs ar27 un5 sz5) (.cons ta9 rfl rfl rfl rfl (.str un9) (.cons ta4 rfl rfl rfl rfl (.bool un4) .nil))))) <|
          .cons (o_pickT rfl rfl .no rfl hc55 rfl) <|
          .cons (o_mv rfl rfl .no rfl) <|
          .cons (o_noT rfl rfl rfl rfl hc61) <|
          .cons (o_noT rfl rfl rfl rfl hc61) <|
          .cons (o_noT rfl rfl rfl rfl hc61) <|
          .cons (o_noT rfl rfl rfl rfl hc61) <|
          .cons (o_noT rfl rfl rfl rfl hc61) <|
          .cons (o_pickF rfl rfl .no rfl hc61 rfl) <|
          .cons (o_mv rfl rfl .no rfl) <|
          .cons (o_noT rfl rfl rfl rfl rfl) <|
          .cons (o_noT rfl rfl rfl rfl rfl) <|
          .cons (o_noT rfl rfl rfl rfl rfl) <|
          .cons (o_noT rfl rfl rfl rfl rfl) <|
          .cons (o_noT rfl rfl rfl rfl rfl) <|
          .cons (o_pickF rfl rfl .no rfl rfl rfl) <|
          .cons (o_mv rfl rfl .no rfl) <|
          .cons (o_noT rfl rfl rfl rfl rfl) <|
          .cons (o_noT rfl rfl rfl rfl rfl) <|
          .cons (o_noT rfl rfl rfl rfl rfl) <|
          .cons (o_pickF rfl rfl .no rfl rfl rfl) <|
          .cons (o_mv rfl rfl .no rfl) <|
          .cons (o_noT rfl rfl rfl rfl rfl) <|
          .cons (o_noT rfl rfl rfl rfl rfl) <|
          .cons (o_noT rfl rfl rfl rfl rfl) <|
          .cons (o_pickF rfl rfl .no rfl rfl rfl) <|
          .cons (o_mv rfl rfl .no rfl) <|
          .cons (o_noT rfl rfl rfl rfl rfl) <|
          .cons (o_noT rfl rfl rfl rfl rfl) <|
          .cons (o_noT rfl rfl rfl rfl rfl) <|
          .cons (o_noT rfl rfl rfl rfl rfl) <|
          .cons (o_noT rfl rfl rfl rfl rfl) <|
          .cons (o_noT rfl rfl rfl rfl rfl) <|
          .cons (o_pickF rfl rfl .no rfl rfl rfl) <|
          .cons (o_as rfl rfl .no rfl) <|
          .nil rfl
        ) (by kernel_rfl) ?_
        exact ⟨false, (Option.some.inj h63).symm, weak_of ⟨⟨_, rfl, .d rfl⟩, trivial⟩ trivial drop0⟩
    · skip
      refine cw_region_any mixed (by kernel_rfl) (
        .cons (o_mv rfl rfl .no rfl) <|
        .cons (o_lenM (enc := eapiChange) (xs := x10) rfl rfl .no rfl sl34) <|
        .cons (o_bin rfl rfl .no rfl rfl (b_eql _ _) rfl) <|
        .cons (o_mv rfl rfl .no rfl) <|
        .cons (o_noT rfl rfl rfl rfl hc55) <|
        .cons (o_noT rfl rfl rfl rfl hc55) <|
        .cons (o_noT rfl rfl rfl rfl hc55) <|
        .cons (o_noT rfl rfl rfl rfl hc55) <|
        .cons (o_noT rfl rfl rfl rfl hc55) <|
        .cons (o_noT rfl rfl rfl rfl hc55) <|
        .cons (o_pickF rfl rfl .no rfl hc55 rfl) <|
        .cons (o_mv rfl rfl .no rfl) <|
        .cons (o_noT rfl rfl rfl rfl rfl) <|
        .cons (o_noT rfl rfl rfl rfl rfl) <|
        .cons (o_noT rfl rfl rfl rfl rfl) <|
        .cons (o_noT rfl rfl rfl rfl rfl) <|
        .cons (o_noT rfl rfl rfl rfl rfl) <|
        .cons (o_pickF rfl rfl .no rfl rfl rfl) <|
        .cons (o_mv rfl rfl .no rfl) <|
        .cons (o_noT rfl rfl rfl rfl rfl) <|
        .cons (o_noT rfl rfl rfl rfl rfl) <|
        .cons (o_noT rfl rfl rfl rfl rfl) <|
        .cons (o_noT rfl rfl rfl rfl rfl) <|
        .cons (o_noT rfl rfl rfl rfl rfl) <|
        .cons (o_pickF rfl rfl .no rfl rfl rfl) <|
        .cons (o_mv rfl rfl .no rfl) <|
        .cons (o_noT rfl rfl rfl rfl rfl) <|
        .cons (o_noT rfl rfl rfl rfl rfl) <|
        .cons (o_noT rfl rfl rfl rfl rfl) <|
        .cons (o_pickF rfl rfl .no rfl rfl rfl) <|
        .cons (o_mv rfl rfl .no rfl) <|
        .cons (o_noT rfl rfl rfl rfl rfl) <|
        .cons (o_noT rfl rfl rfl rfl rfl) <|
        .cons (o_noT rfl rfl rfl rfl rfl) <|
        .cons (o_pickF rfl rfl .no rfl rfl rfl) <|
        .cons (o_mv rfl rfl .no rfl) <|
        .cons (o_noT rfl rfl rfl rfl rfl) <|
        .cons (o_noT rfl rfl rfl rfl rfl) <|
        .cons (o_noT rfl rfl rfl rfl rfl) <|
        .cons (o_noT rfl rfl rfl rfl rfl) <|
        .cons (o_noT rfl rfl rfl rfl rfl) <|
        .cons (o_noT rfl rfl rfl rfl rfl) <|
        .cons (o_pickF rfl rfl .no rfl rfl rfl) <|
        .cons (o_as rfl rfl .no rfl) <|
        .nil rfl
      ) (by kernel_rfl) ?_
      exact ⟨false, (Option.some.inj h57).symm, weak_of ⟨⟨_, rfl, .d rfl⟩, trivial⟩ trivial drop0⟩

end
end Go.Val
