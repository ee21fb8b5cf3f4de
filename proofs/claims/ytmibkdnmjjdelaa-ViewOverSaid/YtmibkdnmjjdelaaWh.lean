/- Walks of the program's functions, printed. -/
import Derived.Test.YtmibkdnmjjdelaaWg
set_option linter.unusedSectionVars false
set_option linter.unusedVariables false
set_option linter.unusedSimpArgs false
namespace Go.Val
open Go.RowKit Go.Proofs

section
variable [NoDrw]

noncomputable def law12_does (a0 : ((List ((List UInt8) × ByteArray)) × (List ((List UInt8) × ((List UInt8) × ByteArray × Bool))) × (List ((List UInt8) × (List UInt8) × Bool)) × (List (List ((List UInt8) × ((List UInt8) × ByteArray × Bool)))))) (a1 : List (Int × Int × (List UInt8) × ByteArray × ((List UInt8) × (List UInt8) × Bool))) (a2 : Int) : Option ((List ((List UInt8) × ByteArray)) × (List ((List UInt8) × ((List UInt8) × ByteArray × Bool))) × (List ((List UInt8) × (List UInt8) × Bool)) × (List (List ((List UInt8) × ((List UInt8) × ByteArray × Bool))))) :=
  (((
    whileO (V := (Int × ((List ((List UInt8) × ByteArray)) × (List ((List UInt8) × ((List UInt8) × ByteArray × Bool))) × (List ((List UInt8) × (List UInt8) × Bool)) × (List (List ((List UInt8) × ((List UInt8) × ByteArray × Bool))))))) (O := ((List ((List UInt8) × ByteArray)) × (List ((List UInt8) × ((List UInt8) × ByteArray × Bool))) × (List ((List UInt8) × (List UInt8) × Bool)) × (List (List ((List UInt8) × ((List UInt8) × ByteArray × Bool)))))) (fun v257 =>
      (((
        cond (decide (v257.1 < (a1.length : Int))) (
          some (decide (v257.1 < a2))
        ) (
          some false
        )
      ) : Option Bool)).bind fun o264 =>
      cond o264 (
        (((
          (gx a1 v257.1).bind fun x291 =>
          cond (decide (x291.1 = 1)) (
            (cutB 0 (min (x291.2.2.2.1.size : Int) 50) x291.2.2.2.1.size).bind fun _ =>
            (view_View_Put v257.2 x291.2.2.1 (x291.2.2.2.1.extract 0 (min (x291.2.2.2.1.size : Int) 50).toNat)).bind fun x300 =>
            some x300.2
          ) (
            (view_View_Delete v257.2 x291.2.2.1).bind fun x303 =>
            some x303.2
          )
        ) : Option ((List ((List UInt8) × ByteArray)) × (List ((List UInt8) × ((List UInt8) × ByteArray × Bool))) × (List ((List UInt8) × (List UInt8) × Bool)) × (List (List ((List UInt8) × ((List UInt8) × ByteArray × Bool))))))).bind fun o288 =>
        some (.inl ((IntKind.wrap .i64 (v257.1 + 1)), o288))
      ) (
        some (.inr v257.2)
      )
    ) (0, a0)
  ) : Option ((List ((List UInt8) × ByteArray)) × (List ((List UInt8) × ((List UInt8) × ByteArray × Bool))) × (List ((List UInt8) × (List UInt8) × Bool)) × (List (List ((List UInt8) × ((List UInt8) × ByteArray × Bool))))))).bind fun o154 =>
  some o154

noncomputable def law12_shown : Option Bool :=
  (view_NewPlain ([((List.set (List.replicate 24 0) 0 (UInt8.ofNat 1)), (ByteArray.mk #[97]))])).bind fun x1 =>
  (view_New x1).bind fun x4 =>
  (view_View_Mark x4).bind fun x7 =>
  (view_View_Put x7.2 (List.set (List.replicate 24 0) 0 (UInt8.ofNat 2)) (ByteArray.mk #[98])).bind fun x10 =>
  (view_View_Delete x10.2 (List.set (List.replicate 24 0) 0 (UInt8.ofNat 1))).bind fun x13 =>
  (view_View_Scan x13.2 ((List.replicate 24 0), (List.replicate 24 0), true)).bind fun x16 =>
  (view_View_Back x16.2.2 x7.1).bind fun x19 =>
  (view_View_Get x19.2 (List.set (List.replicate 24 0) 0 (UInt8.ofNat 1))).bind fun x22 =>
  (view_Size x1).bind fun x25 =>
  (((
    cond (decide (x7.1 = 0)) (
      cond (decide (x10.1 = 0)) (
        cond (decide (x13.1 = 0)) (
          cond (decide (x16.2.1 = 0)) (
            cond (decide ((x16.1.length : Int) = 1)) (
              (gx x16.1 0).bind fun x88 =>
              cond (decide (x88.2 = (ByteArray.mk #[98]))) (
                cond (decide (x19.1 = 0)) (
                  cond (decide (x22.1 = (ByteArray.mk #[97]))) (
                    cond x22.2.1 (
                      cond (decide (x22.2.2.1 = 0)) (
                        cond (decide (x25.1 = 1)) (
                          cond x25.2 (
                            (view_View_Reads x22.2.2.2).bind fun x112 =>
                            some (decide ((x112.1.length : Int) = 1))
                          ) (
                            some false
                          )
                        ) (
                          some false
                        )
                      ) (
                        some false
                      )
                    ) (
                      some false
                    )
                  ) (
                    some false
                  )
                ) (
                  some false
                )
              ) (
                some false
              )
            ) (
              some false
            )
          ) (
            some false
          )
        ) (
          some false
        )
      ) (
        some false
      )
    ) (
      some false
    )
  ) : Option Bool)).bind fun o70 =>
  some o70

set_option maxRecDepth 100000 in
theorem law12_does_ok {a0 : ((List ((List UInt8) × ByteArray)) × (List ((List UInt8) × ((List UInt8) × ByteArray × Bool))) × (List ((List UInt8) × (List UInt8) × Bool)) × (List (List ((List UInt8) × ((List UInt8) × ByteArray × Bool)))))} {a1 : List (Int × Int × (List UInt8) × ByteArray × ((List UInt8) × (List UInt8) × Bool))} {a2 : Int} {r : ((List ((List UInt8) × ByteArray)) × (List ((List UInt8) × ((List UInt8) × ByteArray × Bool))) × (List ((List UInt8) × (List UInt8) × Bool)) × (List (List ((List UInt8) × ((List UInt8) × ByteArray × Bool)))))} (h : law12_does a0 a1 a2 = some r) : FnOk Try.prog 21 [.ptr 0 0, .d (eSwainscotlaw12Op a1), .d (eint a2)] 1 (lk [(0, .own (oviewView a0))]) (fun rr oo => rr = .tup [] ∧ oo = lk [(0, .own (oviewView r))]) := by
  refine fnOk_of Try.func21 rfl rfl (cw_post ?_)
  unfold law12_does at h
  obtain ⟨o154, hj155, h156⟩ := bind_some h
  refine cw_tail (fun (z : ((List ((List UInt8) × ByteArray)) × (List ((List UInt8) × ((List UInt8) × ByteArray × Bool))) × (List ((List UInt8) × (List UInt8) × Bool)) × (List (List ((List UInt8) × ((List UInt8) × ByteArray × Bool)))))) => St.of [] [(0, .own (oviewView z))]) (fun (z : ((List ((List UInt8) × ByteArray)) × (List ((List UInt8) × ((List UInt8) × ByteArray × Bool))) × (List ((List UInt8) × (List UInt8) × Bool)) × (List (List ((List UInt8) × ((List UInt8) × ByteArray × Bool)))))) => o154 = z) ?_ ?_
  · intro v310 hv311; subst hv311
    have heq := ((Option.some.inj h156).symm).symm
    subst heq
    exact ⟨_, (show Leads _ _ (St.of [] [(0, .own (oviewView o154))]) from .w (weak_of trivial ⟨.own rfl (.of_eq rfl (oviewView_dat _)), trivial⟩ (dropK rfl))), .inl rfl, _, res0 rfl, rfl, rfl⟩
  · skip
    refine cw_seq (cw_region (
      .cons (o_as rfl rfl .no rfl) <|
      .nil rfl
    ) ?_)
    refine cw_block ?_
    refine cw_while (V := (Int × ((List ((List UInt8) × ByteArray)) × (List ((List UInt8) × ((List UInt8) × ByteArray × Bool))) × (List ((List UInt8) × (List UInt8) × Bool)) × (List (List ((List UInt8) × ((List UInt8) × ByteArray × Bool))))))) (O := ((List ((List UInt8) × ByteArray)) × (List ((List UInt8) × ((List UInt8) × ByteArray × Bool))) × (List ((List UInt8) × (List UInt8) × Bool)) × (List (List ((List UInt8) × ((List UInt8) × ByteArray × Bool)))))) (fun (z : (Int × ((List ((List UInt8) × ByteArray)) × (List ((List UInt8) × ((List UInt8) × ByteArray × Bool))) × (List ((List UInt8) × (List UInt8) × Bool)) × (List (List ((List UInt8) × ((List UInt8) × ByteArray × Bool))))))) => St.of [(0, .ptr 0 0), (1, .d (eSwainscotlaw12Op a1)), (2, .d (eint a2)), (6, .d (eint z.1))] [(0, .own (oviewView z.2))]) hj155 (.w (weak_of ⟨⟨_, rfl, .ptro rfl rfl⟩, ⟨_, rfl, .d rfl⟩, ⟨_, rfl, .d rfl⟩, ⟨_, rfl, .d rfl⟩, trivial⟩ ⟨.own rfl (.of_eq rfl (oviewView_dat _)), trivial⟩ (dropK rfl))) ?_
    intro v257 x258 hb259 hx260
    refine cw_seq ?_
    obtain ⟨o264, hj265, h266⟩ := bind_some hb259
    refine cw_join (fun (z : Bool) => St.of [(0, .ptr 0 0), (1, .d (eSwainscotlaw12Op a1)), (2, .d (eint a2)), (6, .d (eint v257.1)), (15, .d (ebool z))] [(0, .own (oviewView v257.2))]) (fun (z : Bool) => o264 = z) ?_ ?_
    · intro v308 hv309; subst hv309
      rcases cond_some h266 with ⟨hc270, h271⟩ | ⟨hc270, h272⟩
      · refine cw_condT rfl hc270 ?_
        refine cw_skip ?_
        obtain ⟨o288, hj289, h290⟩ := bind_some h271
        refine cw_join (fun (z : ((List ((List UInt8) × ByteArray)) × (List ((List UInt8) × ((List UInt8) × ByteArray × Bool))) × (List ((List UInt8) × (List UInt8) × Bool)) × (List (List ((List UInt8) × ((List UInt8) × ByteArray × Bool)))))) => St.of [(0, .ptr 0 0), (1, .d (eSwainscotlaw12Op a1)), (2, .d (eint a2)), (6, .d (eint v257.1))] [(0, .own (oviewView z))]) (fun (z : ((List ((List UInt8) × ByteArray)) × (List ((List UInt8) × ((List UInt8) × ByteArray × Bool))) × (List ((List UInt8) × (List UInt8) × Bool)) × (List (List ((List UInt8) × ((List UInt8) × ByteArray × Bool)))))) => o288 = z) ?_ ?_
        · intro v306 hv307; subst hv307
          refine cw_region (
            .cons (o_mv rfl rfl .no rfl) <|
            .cons (o_bin rfl rfl .no rfl rfl (b_add _ _) rfl) <|
            .cons (o_as rfl rfl .no rfl) <|
            .nil rfl
          ) ?_
          exact ⟨((IntKind.wrap .i64 (v257.1 + 1)), o288), (Option.some.inj h290).symm, .w (weak_of ⟨⟨_, rfl, .ptro rfl rfl⟩, ⟨_, rfl, .d rfl⟩, ⟨_, rfl, .d rfl⟩, ⟨_, rfl, .d rfl⟩, trivial⟩ ⟨.own rfl (.of_eq rfl (oviewView_dat _)), trivial⟩ (dropK rfl))⟩
        · skip
          refine cw_block ?_
          obtain ⟨x291, hx292, h293⟩ := bind_some hj289
          have hx292g := gx_some hx292
          refine cw_seq (cw_region (
            .cons (o_mv rfl rfl .no rfl) <|
            .cons (o_mv rfl rfl .no rfl) <|
            .cons (o_ixM (enc := ewainscotlaw12Op) (xs := a1) rfl rfl .no rfl rfl sl44 sz46 hx292g.1 hx292g.2) <|
            .cons (o_fld rfl rfl .no rfl fld46_0 (by decide) rfl rfl) <|
            .cons (o_ld rfl rfl .no rfl ta3 rfl rfl) <|
            .cons (o_bin rfl rfl .no rfl rfl (b_eql _ _) rfl) <|
            .nil rfl
          ) ?_)
          rcases cond_some h293 with ⟨hc294, h295⟩ | ⟨hc294, h296⟩
          · refine cw_condT rfl hc294 ?_
            obtain ⟨x297, hx298, h299⟩ := bind_some h295
            have hx298g := cutB_some hx298
            obtain ⟨x300, hx301, h302⟩ := bind_some (x := view_View_Put v257.2 x291.2.2.1 (x291.2.2.2.1.extract 0 (min (x291.2.2.2.1.size : Int) 50).toNat)) h299
            refine cw_region_any mixed (by kernel_rfl) (
              .cons (o_mv rfl rfl .no rfl) <|
              .cons (o_mv rfl rfl .no rfl) <|
              .cons (o_mv rfl rfl .no rfl) <|
              .cons (o_ixM (enc := ewainscotlaw12Op) (xs := a1) rfl rfl .no rfl rfl sl44 sz46 hx292g.1 hx292g.2) <|
              .cons (o_fld rfl rfl .no rfl fld46_2 (by decide) rfl rfl) <|
              .cons (o_ld rfl rfl .no rfl ta24 rfl rfl) <|
              .cons (o_mv rfl rfl .no rfl) <|
              .cons (o_mv rfl rfl .no rfl) <|
              .cons (o_ixM (enc := ewainscotlaw12Op) (xs := a1) rfl rfl .no rfl rfl sl44 sz46 hx292g.1 hx292g.2) <|
              .cons (o_fld rfl rfl .no rfl fld46_3 (by decide) rfl rfl) <|
              .cons (o_ld rfl rfl .no rfl ta9 rfl rfl) <|
              .cons (o_mv rfl rfl .no rfl) <|
              .cons (o_mv rfl rfl .no rfl) <|
              .cons (o_ixM (enc := ewainscotlaw12Op) (xs := a1) rfl rfl .no rfl rfl sl44 sz46 hx292g.1 hx292g.2) <|
              .cons (o_fld rfl rfl .no rfl fld46_3 (by decide) rfl rfl) <|
              .cons (o_ld rfl rfl .no rfl ta9 rfl rfl) <|
              .cons (o_lenS rfl rfl .no rfl un9) <|
              .cons (o_min rfl rfl .no rfl rfl) <|
              .cons (o_slS rfl rfl .no rfl un9 .no (.val rfl hx298g.2.1) hx298g.2.2.1 hx298g.2.2.2) <|
              .cons (o_callX (fun _ => 0) rfl rfl .no Try.func11 rfl rfl (view_View_Put_ok hx301) (.cons rfl (.p rfl) (.cons rfl .d (.cons rfl .d .nil))) (callIn1 rfl ⟨(by simp [AV.live, lk, Nat.beq]), trivial, trivial, trivial⟩ rfl (OD.dat_live (oviewView_dat _)) (by simp)) (.inl rfl)) <|
              .nil rfl
            ) (by kernel_rfl) ?_
            exact ⟨x300.2, (Option.some.inj h302).symm, .w (weak_of ⟨⟨_, rfl, .ptro rfl rfl⟩, ⟨_, rfl, .d rfl⟩, ⟨_, rfl, .d rfl⟩, ⟨_, rfl, .d rfl⟩, trivial⟩ ⟨.own rfl (.of_eq rfl (oviewView_dat _)), trivial⟩ (dropK rfl))⟩
          · refine cw_condF rfl hc294 ?_
            obtain ⟨x303, hx304, h305⟩ := bind_some (x := view_View_Delete v257.2 x291.2.2.1) h296
            refine cw_region (
              .cons (o_mv rfl rfl .no rfl) <|
              .cons (o_mv rfl rfl .no rfl) <|
              .cons (o_mv rfl rfl .no rfl) <|
              .cons (o_ixM (enc := ewainscotlaw12Op) (xs := a1) rfl rfl .no rfl rfl sl44 sz46 hx292g.1 hx292g.2) <|
              .cons (o_fld rfl rfl .no rfl fld46_2 (by decide) rfl rfl) <|
              .cons (o_ld rfl rfl .no rfl ta24 rfl rfl) <|
              .cons (o_callX (fun _ => 0) rfl rfl .no Try.func20 rfl rfl (view_View_Delete_ok hx304) (.cons rfl (.p rfl) (.cons rfl .d .nil)) (callIn1 rfl ⟨(by simp [AV.live, lk, Nat.beq]), trivial, trivial⟩ rfl (OD.dat_live (oviewView_dat _)) (by simp)) (.inl rfl)) <|
              .nil rfl
            ) ?_
            exact ⟨x303.2, (Option.some.inj h305).symm, .w (weak_of ⟨⟨_, rfl, .ptro rfl rfl⟩, ⟨_, rfl, .d rfl⟩, ⟨_, rfl, .d rfl⟩, ⟨_, rfl, .d rfl⟩, trivial⟩ ⟨.own rfl (.of_eq rfl (oviewView_dat _)), trivial⟩ (dropK rfl))⟩
      · refine cw_condF rfl hc270 ?_
        refine cw_exit ?_
        exact ⟨v257.2, (hx260 _ (Option.some.inj h272).symm).symm, .w (weak_of trivial ⟨.own rfl (.of_eq rfl (oviewView_dat _)), trivial⟩ (dropK rfl))⟩
    · skip
      rcases cond_some hj265 with ⟨hc267, h268⟩ | ⟨hc267, h269⟩
      · skip
        refine cw_region (
          .cons (o_mv rfl rfl .no rfl) <|
          .cons (o_mv rfl rfl .no rfl) <|
          .cons (o_lenM (enc := ewainscotlaw12Op) (xs := a1) rfl rfl .no rfl sl44) <|
          .cons (o_bin rfl rfl .no rfl rfl (b_lss _ _) rfl) <|
          .cons (o_mv rfl rfl .no rfl) <|
          .cons (o_mv rfl rfl (.yes rfl rfl hc267) rfl) <|
          .cons (o_mv rfl rfl (.yes rfl rfl hc267) rfl) <|
          .cons (o_bin rfl rfl (.yes rfl rfl hc267) rfl rfl (b_lss _ _) rfl) <|
          .cons (o_pickT rfl rfl .no rfl hc267 rfl) <|
          .nil rfl
        ) ?_
        exact ⟨(decide (v257.1 < a2)), (Option.some.inj h268).symm, .w (weak_of ⟨⟨_, rfl, .ptro rfl rfl⟩, ⟨_, rfl, .d rfl⟩, ⟨_, rfl, .d rfl⟩, ⟨_, rfl, .d rfl⟩, ⟨_, rfl, .d rfl⟩, trivial⟩ ⟨.own rfl (.of_eq rfl (oviewView_dat _)), trivial⟩ (dropK rfl))⟩
      · skip
        refine cw_region (
          .cons (o_mv rfl rfl .no rfl) <|
          .cons (o_mv rfl rfl .no rfl) <|
          .cons (o_lenM (enc := ewainscotlaw12Op) (xs := a1) rfl rfl .no rfl sl44) <|
          .cons (o_bin rfl rfl .no rfl rfl (b_lss _ _) rfl) <|
          .cons (o_mv rfl rfl .no rfl) <|
          .cons (o_noT rfl rfl rfl rfl hc267) <|
          .cons (o_noT rfl rfl rfl rfl hc267) <|
          .cons (o_noT rfl rfl rfl rfl hc267) <|
          .cons (o_pickF rfl rfl .no rfl hc267 rfl) <|
          .nil rfl
        ) ?_
        exact ⟨false, (Option.some.inj h269).symm, .w (weak_of ⟨⟨_, rfl, .ptro rfl rfl⟩, ⟨_, rfl, .d rfl⟩, ⟨_, rfl, .d rfl⟩, ⟨_, rfl, .d rfl⟩, ⟨_, rfl, .d rfl⟩, trivial⟩ ⟨.own rfl (.of_eq rfl (oviewView_dat _)), trivial⟩ (dropK rfl))⟩

set_option maxRecDepth 100000 in
theorem law12_shown_ok {r : Bool} (h : law12_shown = some r) : FnOk Try.prog 7 [] 0 (lk []) (fun rr oo => rr = .d (ebool r) ∧ oo = lk []) := by
  refine fnOk_of Try.func7 rfl rfl (cw_post ?_)
  unfold law12_shown at h
  refine cw_seq (cw_region (
    .cons (o_as rfl rfl .no rfl) <|
    .nil rfl
  ) ?_)
  obtain ⟨x1, hx2, h3⟩ := bind_some (x := view_NewPlain ([((List.set (List.replicate 24 0) 0 (UInt8.ofNat 1)), (ByteArray.mk #[97]))])) h
  refine cw_seq (cw_region (
    .cons (o_bldB (l := (List.replicate 24 0)) (r := (List.set (List.replicate 24 0) 0 (UInt8.ofNat 1))) rfl rfl .no ze24 ar24 sz5 (.cons rfl (by decide) rfl .nil)) <|
    .cons (o_bld (ds := [eapiKey (List.set (List.replicate 24 0) 0 (UInt8.ofNat 1)), estring (ByteArray.mk #[97])]) rfl rfl .no zs59 rfl pl59 (.cons rfl rfl rfl rfl rfl rfl rfl (.cons rfl rfl rfl rfl rfl rfl rfl .nil))) <|
    .cons (o_bsl (rows := ([((List.set (List.replicate 24 0) 0 (UInt8.ofNat 1)), (ByteArray.mk #[97]))] : List ((List UInt8) × ByteArray)).map eapiPair) rfl rfl .no (.cons rfl .nil) rfl sl22 sz59 ze59 rfl (map_sz siapiPair) (by decide)) <|
    .cons (o_call rfl rfl .no Try.func9 rfl rfl (view_NewPlain_ok hx2) (.cons rfl .d .nil) ⟨trivial, trivial⟩ (.inl rfl)) <|
    .cons (o_as rfl rfl .no rfl) <|
    .nil rfl
  ) ?_)
  refine cw_seq ?_
  refine cw_seq (cw_region (
    .cons (o_mv rfl rfl .no rfl) <|
    .cons (o_pnilA rfl rfl .no rfl up30) <|
    .nil rfl
  ) ?_)
  refine cw_condF rfl rfl ?_
  refine cw_skip ?_
  obtain ⟨x4, hx5, h6⟩ := bind_some (x := view_New x1) h3
  refine cw_seq (cw_region (
    .cons (o_mv rfl rfl .no rfl) <|
    .cons (o_mkif rfl rfl .no rfl ifB30) <|
    .cons (o_callO 0 rfl rfl .no Try.func8 rfl rfl (view_New_ok hx5) (.cons rfl .i .nil) ⟨(by simp [AV.live]), trivial⟩ rfl (.inl rfl)) <|
    .cons (o_as rfl rfl .no rfl) <|
    .nil rfl
  ) ?_)
  refine cw_seq ?_
  refine cw_seq (cw_region (
    .cons (o_mv rfl rfl .no rfl) <|
    .cons (o_pnilP rfl rfl .no rfl up28) <|
    .nil rfl
  ) ?_)
  refine cw_condF rfl rfl ?_
  refine cw_skip ?_
  obtain ⟨x7, hx8, h9⟩ := bind_some (x := view_View_Mark x4) h6
  refine cw_seq (cw_region (
    .cons (o_mv rfl rfl .no rfl) <|
    .cons (o_callX (fun _ => 0) rfl rfl .no Try.func22 rfl rfl (view_View_Mark_ok hx8) (.cons rfl (.p rfl) .nil) (callIn1 rfl ⟨(by simp [AV.live, lk, Nat.beq]), trivial⟩ rfl (OD.dat_live (oviewView_dat _)) (by simp)) (.inl rfl)) <|
    .cons (o_as rfl rfl .no rfl) <|
    .nil rfl
  ) ?_)
  obtain ⟨x10, hx11, h12⟩ := bind_some (x := view_View_Put x7.2 (List.set (List.replicate 24 0) 0 (UInt8.ofNat 2)) (ByteArray.mk #[98])) h9
  refine cw_seq (cw_region (
    .cons (o_mv rfl rfl .no rfl) <|
    .cons (o_bldB (l := (List.replicate 24 0)) (r := (List.set (List.replicate 24 0) 0 (UInt8.ofNat 2))) rfl rfl .no ze24 ar24 sz5 (.cons rfl (by decide) rfl .nil)) <|
    .cons (o_callX (fun _ => 0) rfl rfl .no Try.func11 rfl rfl (view_View_Put_ok hx11) (.cons rfl (.p rfl) (.cons rfl .d (.cons rfl .d .nil))) (callIn1 rfl ⟨(by simp [AV.live, lk, Nat.beq]), trivial, trivial, trivial⟩ rfl (OD.dat_live (oviewView_dat _)) (by simp)) (.inl rfl)) <|
    .cons (o_as rfl rfl .no rfl) <|
    .nil rfl
  ) ?_)
  obtain ⟨x13, hx14, h15⟩ := bind_some (x := view_View_Delete x10.2 (List.set (List.replicate 24 0) 0 (UInt8.ofNat 1))) h12
  refine cw_seq (cw_region (
    .cons (o_mv rfl rfl .no rfl) <|
    .cons (o_bldB (l := (List.replicate 24 0)) (r := (List.set (List.replicate 24 0) 0 (UInt8.ofNat 1))) rfl rfl .no ze24 ar24 sz5 (.cons rfl (by decide) rfl .nil)) <|
    .cons (o_callX (fun _ => 0) rfl rfl .no Try.func20 rfl rfl (view_View_Delete_ok hx14) (.cons rfl (.p rfl) (.cons rfl .d .nil)) (callIn1 rfl ⟨(by simp [AV.live, lk, Nat.beq]), trivial, trivial⟩ rfl (OD.dat_live (oviewView_dat _)) (by simp)) (.inl rfl)) <|
    .cons (o_as rfl rfl .no rfl) <|
    .nil rfl
  ) ?_)
  obtain ⟨x16, hx17, h18⟩ := bind_some (x := view_View_Scan x13.2 ((List.replicate 24 0), (List.replicate 24 0), true)) h15
  refine cw_seq (cw_region (
    .cons (o_mv rfl rfl .no rfl) <|
    .cons (o_bld (ds := [eapiKey (List.replicate 24 0), eapiKey (List.replicate 24 0), ebool true]) rfl rfl .no zs26 rfl pl26 (.cons rfl rfl rfl rfl rfl rfl rfl .nil)) <|
    .cons (o_callX (fun _ => 0) rfl rfl .no Try.func15 rfl rfl (view_View_Scan_ok hx17) (.cons rfl (.p rfl) (.cons rfl .d .nil)) (callIn1 rfl ⟨(by simp [AV.live, lk, Nat.beq]), trivial, trivial⟩ rfl (OD.dat_live (oviewView_dat _)) (by simp)) (.inl rfl)) <|
    .cons (o_mv rfl rfl .no rfl) <|
    .cons (o_ext rfl rfl .no rfl rfl) <|
    .cons (o_ext rfl rfl .no rfl rfl) <|
    .cons (o_as rfl rfl .no rfl) <|
    .cons (o_as rfl rfl .no rfl) <|
    .nil rfl
  ) ?_)
  obtain ⟨x19, hx20, h21⟩ := bind_some (x := view_View_Back x16.2.2 x7.1) h18
  refine cw_seq (cw_region (
    .cons (o_mv rfl rfl .no rfl) <|
    .cons (o_mv rfl rfl .no rfl) <|
    .cons (o_callX (fun _ => 0) rfl rfl .no Try.func23 rfl rfl (view_View_Back_ok hx20) (.cons rfl (.p rfl) (.cons rfl .d .nil)) (callIn1 rfl ⟨(by simp [AV.live, lk, Nat.beq]), trivial, trivial⟩ rfl (OD.dat_live (oviewView_dat _)) (by simp)) (.inl rfl)) <|
    .cons (o_as rfl rfl .no rfl) <|
    .nil rfl
  ) ?_)
  obtain ⟨x22, hx23, h24⟩ := bind_some (x := view_View_Get x19.2 (List.set (List.replicate 24 0) 0 (UInt8.ofNat 1))) h21
  refine cw_seq (cw_region (
    .cons (o_mv rfl rfl .no rfl) <|
    .cons (o_bldB (l := (List.replicate 24 0)) (r := (List.set (List.replicate 24 0) 0 (UInt8.ofNat 1))) rfl rfl .no ze24 ar24 sz5 (.cons rfl (by decide) rfl .nil)) <|
    .cons (o_callX (fun _ => 0) rfl rfl .no Try.func12 rfl rfl (view_View_Get_ok hx23) (.cons rfl (.p rfl) (.cons rfl .d .nil)) (callIn1 rfl ⟨(by simp [AV.live, lk, Nat.beq]), trivial, trivial⟩ rfl (OD.dat_live (oviewView_dat _)) (by simp)) (.inl rfl)) <|
    .cons (o_mv rfl rfl .no rfl) <|
    .cons (o_ext rfl rfl .no rfl rfl) <|
    .cons (o_ext rfl rfl .no rfl rfl) <|
    .cons (o_ext rfl rfl .no rfl rfl) <|
    .cons (o_as rfl rfl .no rfl) <|
    .cons (o_as rfl rfl .no rfl) <|
    .cons (o_as rfl rfl .no rfl) <|
    .nil rfl
  ) ?_)
  obtain ⟨x25, hx26, h27⟩ := bind_some (x := view_Size x1) h24
  refine cw_seq (cw_region (
    .cons (o_mv rfl rfl .no rfl) <|
    .cons (o_mkif rfl rfl .no rfl ifB30) <|
    .cons (o_call rfl rfl .no Try.func25 rfl rfl (view_Size_ok hx26) (.cons rfl .i .nil) ⟨(by simp [AV.live]), trivial⟩ (.inl rfl)) <|
    .cons (o_mv rfl rfl .no rfl) <|
    .cons (o_ext rfl rfl .no rfl rfl) <|
    .cons (o_ext rfl rfl .no rfl rfl) <|
    .cons (o_as rfl rfl .no rfl) <|
    .cons (o_as rfl rfl .no rfl) <|
    .nil rfl
  ) ?_)
  obtain ⟨o70, hj71, h72⟩ := bind_some h27
  refine cw_join (fun (z : Bool) => St.of [(0, .d (ebool z))] []) (fun (z : Bool) => o70 = z) ?_ ?_
  · intro v115 hv116; subst hv116
    have heq := ((Option.some.inj h72).symm).symm
    subst heq
    exact cw_ret ⟨_, (show Leads _ _ (St.of [(0, .d (ebool o70))] []) from .w (weak_of ⟨⟨_, rfl, .d rfl⟩, trivial⟩ trivial drop0)), .inr rfl, _, res1 rfl rfl, rfl, rfl⟩
  · skip
    rcases cond_some hj71 with ⟨hc73, h74⟩ | ⟨hc73, h75⟩
    · skip
      rcases cond_some h74 with ⟨hc76, h77⟩ | ⟨hc76, h78⟩
      · skip
        rcases cond_some h77 with ⟨hc79, h80⟩ | ⟨hc79, h81⟩
        · skip
          rcases cond_some h80 with ⟨hc82, h83⟩ | ⟨hc82, h84⟩
          · skip
            rcases cond_some h83 with ⟨hc85, h86⟩ | ⟨hc85, h87⟩
            · skip
              obtain ⟨x88, hx89, h90⟩ := bind_some h86
              have hx89g := gx_some hx89
              rcases cond_some h90 with ⟨hc91, h92⟩ | ⟨hc91, h93⟩
              · skip
                rcases cond_some h92 with ⟨hc94, h95⟩ | ⟨hc94, h96⟩
                · skip
                  rcases cond_some h95 with ⟨hc97, h98⟩ | ⟨hc97, h99⟩
                  · skip
                    rcases cond_some h98 with ⟨hc100, h101⟩ | ⟨hc100, h102⟩
                    · skip
                      rcases cond_some h101 with ⟨hc103, h104⟩ | ⟨hc103, h105⟩
                      · skip
                        rcases cond_some h104 with ⟨hc106, h107⟩ | ⟨hc106, h108⟩
                        · skip
                          rcases cond_some h107 with ⟨hc109, h110⟩ | ⟨hc109, h111⟩
                          · skip
                            obtain ⟨x112, hx113, h114⟩ := bind_some (x := view_View_Reads x22.2.2.2) h110
                            refine cw_region (
                              .cons (o_mv rfl rfl .no rfl) <|
                              .cons (o_bin rfl rfl .no rfl rfl (b_eql _ _) rfl) <|
                              .cons (o_mv rfl rfl .no rfl) <|
                              .cons (o_mv rfl rfl (.yes rfl rfl hc73) rfl) <|
                              .cons (o_bin rfl rfl (.yes rfl rfl hc73) rfl rfl (b_eql _ _) rfl) <|
                              .cons (o_pickT rfl rfl .no rfl hc73 rfl) <|
                              .cons (o_mv rfl rfl .no rfl) <|
                              .cons (o_mv rfl rfl (.yes rfl rfl hc76) rfl) <|
                              .cons (o_bin rfl rfl (.yes rfl rfl hc76) rfl rfl (b_eql _ _) rfl) <|
                              .cons (o_pickT rfl rfl .no rfl hc76 rfl) <|
                              .cons (o_mv rfl rfl .no rfl) <|
                              .cons (o_mv rfl rfl (.yes rfl rfl hc79) rfl) <|
                              .cons (o_bin rfl rfl (.yes rfl rfl hc79) rfl rfl (b_eql _ _) rfl) <|
                              .cons (o_pickT rfl rfl .no rfl hc79 rfl) <|
                              .cons (o_mv rfl rfl .no rfl) <|
                              .cons (o_mv rfl rfl (.yes rfl rfl hc82) rfl) <|
                              .cons (o_lenM (enc := eapiPair) (xs := x16.1) rfl rfl (.yes rfl rfl hc82) rfl sl22) <|
                              .cons (o_bin rfl rfl (.yes rfl rfl hc82) rfl rfl (b_eql _ _) rfl) <|
                              .cons (o_pickT rfl rfl .no rfl hc82 rfl) <|
                              .cons (o_mv rfl rfl .no rfl) <|
                              .cons (o_mv rfl rfl (.yes rfl rfl hc85) rfl) <|
                              .cons (o_ixM (enc := eapiPair) (xs := x16.1) rfl rfl (.yes rfl rfl hc85) rfl rfl sl22 sz59 hx89g.1 hx89g.2) <|
                              .cons (o_fld rfl rfl (.yes rfl rfl hc85) rfl fld59_1 (by decide) rfl rfl) <|
                              .cons (o_ld rfl rfl (.yes rfl rfl hc85) rfl ta9 rfl rfl) <|
                              .cons (o_bin rfl rfl (.yes rfl rfl hc85) rfl rfl (s_eql _ _) rfl) <|
                              .cons (o_pickT rfl rfl .no rfl hc85 rfl) <|
                              .cons (o_mv rfl rfl .no rfl) <|
                              .cons (o_mv rfl rfl (.yes rfl rfl hc91) rfl) <|
                              .cons (o_bin rfl rfl (.yes rfl rfl hc91) rfl rfl (b_eql _ _) rfl) <|
                              .cons (o_pickT rfl rfl .no rfl hc91 rfl) <|
                              .cons (o_mv rfl rfl .no rfl) <|
                              .cons (o_mv rfl rfl (.yes rfl rfl hc94) rfl) <|
                              .cons (o_bin rfl rfl (.yes rfl rfl hc94) rfl rfl (s_eql _ _) rfl) <|
                              .cons (o_pickT rfl rfl .no rfl hc94 rfl) <|
                              .cons (o_mv rfl rfl .no rfl) <|
                              .cons (o_mv rfl rfl (.yes rfl rfl hc97) rfl) <|
                              .cons (o_pickT rfl rfl .no rfl hc97 rfl) <|
                              .cons (o_mv rfl rfl .no rfl) <|
                              .cons (o_mv rfl rfl (.yes rfl rfl hc100) rfl) <|
                              .cons (o_bin rfl rfl (.yes rfl rfl hc100) rfl rfl (b_eql _ _) rfl) <|
                              .cons (o_pickT rfl rfl .no rfl hc100 rfl) <|
                              .cons (o_mv rfl rfl .no rfl) <|
                              .cons (o_mv rfl rfl (.yes rfl rfl hc103) rfl) <|
                              .cons (o_bin rfl rfl (.yes rfl rfl hc103) rfl rfl (b_eql _ _) rfl) <|
                              .cons (o_pickT rfl rfl .no rfl hc103 rfl) <|
                              .cons (o_mv rfl rfl .no rfl) <|
                              .cons (o_mv rfl rfl (.yes rfl rfl hc106) rfl) <|
                              .cons (o_pickT rfl rfl .no rfl hc106 rfl) <|
                              .cons (o_mv rfl rfl .no rfl) <|
                              .cons (o_mv rfl rfl (.yes rfl rfl hc109) rfl) <|
                              .cons (o_callX (fun _ => 0) rfl rfl (.yes rfl rfl hc109) Try.func14 rfl rfl (view_View_Reads_ok hx113) (.cons rfl (.p rfl) .nil) (callIn1 rfl ⟨(by simp [AV.live, lk, Nat.beq]), trivial⟩ rfl (OD.dat_live (oviewView_dat _)) (by simp)) (.inl rfl)) <|
                              .cons (o_lenM (enc := eapiSpan) (xs := x112.1) rfl rfl (.yes rfl rfl hc109) rfl sl38) <|
                              .cons (o_bin rfl rfl (.yes rfl rfl hc109) rfl rfl (b_eql _ _) rfl) <|
                              .cons (o_pickT rfl rfl .no rfl hc109 rfl) <|
                              .cons (o_as rfl rfl .no rfl) <|
                              .nil rfl
                            ) ?_
                            exact ⟨(decide ((x112.1.length : Int) = 1)), (Option.some.inj h114).symm, .w (weak_of ⟨⟨_, rfl, .d rfl⟩, trivial⟩ trivial drop0)⟩
                          · skip
                            refine cw_region (
                              .cons (o_mv rfl rfl .no rfl) <|
                              .cons (o_bin rfl rfl .no rfl rfl (b_eql _ _) rfl) <|
                              .cons (o_mv rfl rfl .no rfl) <|
                              .cons (o_mv rfl rfl (.yes rfl rfl hc73) rfl) <|
                              .cons (o_bin rfl rfl (.yes rfl rfl hc73) rfl rfl (b_eql _ _) rfl) <|
                              .cons (o_pickT rfl rfl .no rfl hc73 rfl) <|
                              .cons (o_mv rfl rfl .no rfl) <|
                              .cons (o_mv rfl rfl (.yes rfl rfl hc76) rfl) <|
                              .cons (o_bin rfl rfl (.yes rfl rfl hc76) rfl rfl (b_eql _ _) rfl) <|
                              .cons (o_pickT rfl rfl .no rfl hc76 rfl) <|
                              .cons (o_mv rfl rfl .no rfl) <|
                              .cons (o_mv rfl rfl (.yes rfl rfl hc79) rfl) <|
                              .cons (o_bin rfl rfl (.yes rfl rfl hc79) rfl rfl (b_eql _ _) rfl) <|
                              .cons (o_pickT rfl rfl .no rfl hc79 rfl) <|
                              .cons (o_mv rfl rfl .no rfl) <|
                              .cons (o_mv rfl rfl (.yes rfl rfl hc82) rfl) <|
                              .cons (o_lenM (enc := eapiPair) (xs := x16.1) rfl rfl (.yes rfl rfl hc82) rfl sl22) <|
                              .cons (o_bin rfl rfl (.yes rfl rfl hc82) rfl rfl (b_eql _ _) rfl) <|
                              .cons (o_pickT rfl rfl .no rfl hc82 rfl) <|
                              .cons (o_mv rfl rfl .no rfl) <|
                              .cons (o_mv rfl rfl (.yes rfl rfl hc85) rfl) <|
                              .cons (o_ixM (enc := eapiPair) (xs := x16.1) rfl rfl (.yes rfl rfl hc85) rfl rfl sl22 sz59 hx89g.1 hx89g.2) <|
                              .cons (o_fld rfl rfl (.yes rfl rfl hc85) rfl fld59_1 (by decide) rfl rfl) <|
                              .cons (o_ld rfl rfl (.yes rfl rfl hc85) rfl ta9 rfl rfl) <|
                              .cons (o_bin rfl rfl (.yes rfl rfl hc85) rfl rfl (s_eql _ _) rfl) <|
                              .cons (o_pickT rfl rfl .no rfl hc85 rfl) <|
                              .cons (o_mv rfl rfl .no rfl) <|
                              .cons (o_mv rfl rfl (.yes rfl rfl hc91) rfl) <|
                              .cons (o_bin rfl rfl (.yes rfl rfl hc91) rfl rfl (b_eql _ _) rfl) <|
                              .cons (o_pickT rfl rfl .no rfl hc91 rfl) <|
                              .cons (o_mv rfl rfl .no rfl) <|
                              .cons (o_mv rfl rfl (.yes rfl rfl hc94) rfl) <|
                              .cons (o_bin rfl rfl (.yes rfl rfl hc94) rfl rfl (s_eql _ _) rfl) <|
                              .cons (o_pickT rfl rfl .no rfl hc94 rfl) <|
                              .cons (o_mv rfl rfl .no rfl) <|
                              .cons (o_mv rfl rfl (.yes rfl rfl hc97) rfl) <|
                              .cons (o_pickT rfl rfl .no rfl hc97 rfl) <|
                              .cons (o_mv rfl rfl .no rfl) <|
                              .cons (o_mv rfl rfl (.yes rfl rfl hc100) rfl) <|
                              .cons (o_bin rfl rfl (.yes rfl rfl hc100) rfl rfl (b_eql _ _) rfl) <|
                              .cons (o_pickT rfl rfl .no rfl hc100 rfl) <|
                              .cons (o_mv rfl rfl .no rfl) <|
                              .cons (o_mv rfl rfl (.yes rfl rfl hc103) rfl) <|
                              .cons (o_bin rfl rfl (.yes rfl rfl hc103) rfl rfl (b_eql _ _) rfl) <|
                              .cons (o_pickT rfl rfl .no rfl hc103 rfl) <|
                              .cons (o_mv rfl rfl .no rfl) <|
                              .cons (o_mv rfl rfl (.yes rfl rfl hc106) rfl) <|
                              .cons (o_pickT rfl rfl .no rfl hc106 rfl) <|
                              .cons (o_mv rfl rfl .no rfl) <|
                              .cons (o_noT rfl rfl rfl rfl hc109) <|
                              .cons (o_noT rfl rfl rfl rfl hc109) <|
                              .cons (o_noT rfl rfl rfl rfl hc109) <|
                              .cons (o_noT rfl rfl rfl rfl hc109) <|
                              .cons (o_pickF rfl rfl .no rfl hc109 rfl) <|
                              .cons (o_as rfl rfl .no rfl) <|
                              .nil rfl
                            ) ?_
                            exact ⟨false, (Option.some.inj h111).symm, .w (weak_of ⟨⟨_, rfl, .d rfl⟩, trivial⟩ trivial drop0)⟩
                        · skip
                          refine cw_region (
                            .cons (o_mv rfl rfl .no rfl) <|
                            .cons (o_bin rfl rfl .no rfl rfl (b_eql _ _) rfl) <|
                            .cons (o_mv rfl rfl .no rfl) <|
                            .cons (o_mv rfl rfl (.yes rfl rfl hc73) rfl) <|
                            .cons (o_bin rfl rfl (.yes rfl rfl hc73) rfl rfl (b_eql _ _) rfl) <|
                            .cons (o_pickT rfl rfl .no rfl hc73 rfl) <|
                            .cons (o_mv rfl rfl .no rfl) <|
                            .cons (o_mv rfl rfl (.yes rfl rfl hc76) rfl) <|
                            .cons (o_bin rfl rfl (.yes rfl rfl hc76) rfl rfl (b_eql _ _) rfl) <|
                            .cons (o_pickT rfl rfl .no rfl hc76 rfl) <|
                            .cons (o_mv rfl rfl .no rfl) <|
                            .cons (o_mv rfl rfl (.yes rfl rfl hc79) rfl) <|
                            .cons (o_bin rfl rfl (.yes rfl rfl hc79) rfl rfl (b_eql _ _) rfl) <|
                            .cons (o_pickT rfl rfl .no rfl hc79 rfl) <|
                            .cons (o_mv rfl rfl .no rfl) <|
                            .cons (o_mv rfl rfl (.yes rfl rfl hc82) rfl) <|
                            .cons (o_lenM (enc := eapiPair) (xs := x16.1) rfl rfl (.yes rfl rfl hc82) rfl sl22) <|
                            .cons (o_bin rfl rfl (.yes rfl rfl hc82) rfl rfl (b_eql _ _) rfl) <|
                            .cons (o_pickT rfl rfl .no rfl hc82 rfl) <|
                            .cons (o_mv rfl rfl .no rfl) <|
                            .cons (o_mv rfl rfl (.yes rfl rfl hc85) rfl) <|
                            .cons (o_ixM (enc := eapiPair) (xs := x16.1) rfl rfl (.yes rfl rfl hc85) rfl rfl sl22 sz59 hx89g.1 hx89g.2) <|
                            .cons (o_fld rfl rfl (.yes rfl rfl hc85) rfl fld59_1 (by decide) rfl rfl) <|
                            .cons (o_ld rfl rfl (.yes rfl rfl hc85) rfl ta9 rfl rfl) <|
                            .cons (o_bin rfl rfl (.yes rfl rfl hc85) rfl rfl (s_eql _ _) rfl) <|
                            .cons (o_pickT rfl rfl .no rfl hc85 rfl) <|
                            .cons (o_mv rfl rfl .no rfl) <|
                            .cons (o_mv rfl rfl (.yes rfl rfl hc91) rfl) <|
                            .cons (o_bin rfl rfl (.yes rfl rfl hc91) rfl rfl (b_eql _ _) rfl) <|
                            .cons (o_pickT rfl rfl .no rfl hc91 rfl) <|
                            .cons (o_mv rfl rfl .no rfl) <|
                            .cons (o_mv rfl rfl (.yes rfl rfl hc94) rfl) <|
                            .cons (o_bin rfl rfl (.yes rfl rfl hc94) rfl rfl (s_eql _ _) rfl) <|
                            .cons (o_pickT rfl rfl .no rfl hc94 rfl) <|
                            .cons (o_mv rfl rfl .no rfl) <|
                            .cons (o_mv rfl rfl (.yes rfl rfl hc97) rfl) <|
                            .cons (o_pickT rfl rfl .no rfl hc97 rfl) <|
                            .cons (o_mv rfl rfl .no rfl) <|
                            .cons (o_mv rfl rfl (.yes rfl rfl hc100) rfl) <|
                            .cons (o_bin rfl rfl (.yes rfl rfl hc100) rfl rfl (b_eql _ _) rfl) <|
                            .cons (o_pickT rfl rfl .no rfl hc100 rfl) <|
                            .cons (o_mv rfl rfl .no rfl) <|
                            .cons (o_mv rfl rfl (.yes rfl rfl hc103) rfl) <|
                            .cons (o_bin rfl rfl (.yes rfl rfl hc103) rfl rfl (b_eql _ _) rfl) <|
                            .cons (o_pickT rfl rfl .no rfl hc103 rfl) <|
                            .cons (o_mv rfl rfl .no rfl) <|
                            .cons (o_noT rfl rfl rfl rfl hc106) <|
                            .cons (o_pickF rfl rfl .no rfl hc106 rfl) <|
                            .cons (o_mv rfl rfl .no rfl) <|
                            .cons (o_noT rfl rfl rfl rfl rfl) <|
                            .cons (o_noT rfl rfl rfl rfl rfl) <|
                            .cons (o_noT rfl rfl rfl rfl rfl) <|
                            .cons (o_noT rfl rfl rfl rfl rfl) <|
                            .cons (o_pickF rfl rfl .no rfl rfl rfl) <|
                            .cons (o_as rfl rfl .no rfl) <|
                            .nil rfl
                          ) ?_
                          exact ⟨false, (Option.some.inj h108).symm, .w (weak_of ⟨⟨_, rfl, .d rfl⟩, trivial⟩ trivial drop0)⟩
                      · skip
                        refine cw_region (
                          .cons (o_mv rfl rfl .no rfl) <|
                          .cons (o_bin rfl rfl .no rfl rfl (b_eql _ _) rfl) <|
                          .cons (o_mv rfl rfl .no rfl) <|
                          .cons (o_mv rfl rfl (.yes rfl rfl hc73) rfl) <|
                          .cons (o_bin rfl rfl (.yes rfl rfl hc73) rfl rfl (b_eql _ _) rfl) <|
                          .cons (o_pickT rfl rfl .no rfl hc73 rfl) <|
                          .cons (o_mv rfl rfl .no rfl) <|
                          .cons (o_mv rfl rfl (.yes rfl rfl hc76) rfl) <|
                          .cons (o_bin rfl rfl (.yes rfl rfl hc76) rfl rfl (b_eql _ _) rfl) <|
                          .cons (o_pickT rfl rfl .no rfl hc76 rfl) <|
                          .cons (o_mv rfl rfl .no rfl) <|
                          .cons (o_mv rfl rfl (.yes rfl rfl hc79) rfl) <|
                          .cons (o_bin rfl rfl (.yes rfl rfl hc79) rfl rfl (b_eql _ _) rfl) <|
                          .cons (o_pickT rfl rfl .no rfl hc79 rfl) <|
                          .cons (o_mv rfl rfl .no rfl) <|
                          .cons (o_mv rfl rfl (.yes rfl rfl hc82) rfl) <|
                          .cons (o_lenM (enc := eapiPair) (xs := x16.1) rfl rfl (.yes rfl rfl hc82) rfl sl22) <|
                          .cons (o_bin rfl rfl (.yes rfl rfl hc82) rfl rfl (b_eql _ _) rfl) <|
                          .cons (o_pickT rfl rfl .no rfl hc82 rfl) <|
                          .cons (o_mv rfl rfl .no rfl) <|
                          .cons (o_mv rfl rfl (.yes rfl rfl hc85) rfl) <|
                          .cons (o_ixM (enc := eapiPair) (xs := x16.1) rfl rfl (.yes rfl rfl hc85) rfl rfl sl22 sz59 hx89g.1 hx89g.2) <|
                          .cons (o_fld rfl rfl (.yes rfl rfl hc85) rfl fld59_1 (by decide) rfl rfl) <|
                          .cons (o_ld rfl rfl (.yes rfl rfl hc85) rfl ta9 rfl rfl) <|
                          .cons (o_bin rfl rfl (.yes rfl rfl hc85) rfl rfl (s_eql _ _) rfl) <|
                          .cons (o_pickT rfl rfl .no rfl hc85 rfl) <|
                          .cons (o_mv rfl rfl .no rfl) <|
                          .cons (o_mv rfl rfl (.yes rfl rfl hc91) rfl) <|
                          .cons (o_bin rfl rfl (.yes rfl rfl hc91) rfl rfl (b_eql _ _) rfl) <|
                          .cons (o_pickT rfl rfl .no rfl hc91 rfl) <|
                          .cons (o_mv rfl rfl .no rfl) <|
                          .cons (o_mv rfl rfl (.yes rfl rfl hc94) rfl) <|
                          .cons (o_bin rfl rfl (.yes rfl rfl hc94) rfl rfl (s_eql _ _) rfl) <|
                          .cons (o_pickT rfl rfl .no rfl hc94 rfl) <|
                          .cons (o_mv rfl rfl .no rfl) <|
                          .cons (o_mv rfl rfl (.yes rfl rfl hc97) rfl) <|
                          .cons (o_pickT rfl rfl .no rfl hc97 rfl) <|
                          .cons (o_mv rfl rfl .no rfl) <|
                          .cons (o_mv rfl rfl (.yes rfl rfl hc100) rfl) <|
                          .cons (o_bin rfl rfl (.yes rfl rfl hc100) rfl rfl (b_eql _ _) rfl) <|
                          .cons (o_pickT rfl rfl .no rfl hc100 rfl) <|
                          .cons (o_mv rfl rfl .no rfl) <|
                          .cons (o_noT rfl rfl rfl rfl hc103) <|
                          .cons (o_noT rfl rfl rfl rfl hc103) <|
                          .cons (o_pickF rfl rfl .no rfl hc103 rfl) <|
                          .cons (o_mv rfl rfl .no rfl) <|
                          .cons (o_noT rfl rfl rfl rfl rfl) <|
                          .cons (o_pickF rfl rfl .no rfl rfl rfl) <|
                          .cons (o_mv rfl rfl .no rfl) <|
                          .cons (o_noT rfl rfl rfl rfl rfl) <|
                          .cons (o_noT rfl rfl rfl rfl rfl) <|
                          .cons (o_noT rfl rfl rfl rfl rfl) <|
                          .cons (o_noT rfl rfl rfl rfl rfl) <|
                          .cons (o_pickF rfl rfl .no rfl rfl rfl) <|
                          .cons (o_as rfl rfl .no rfl) <|
                          .nil rfl
                        ) ?_
                        exact ⟨false, (Option.some.inj h105).symm, .w (weak_of ⟨⟨_, rfl, .d rfl⟩, trivial⟩ trivial drop0)⟩
                    · skip
                      refine cw_region (
                        .cons (o_mv rfl rfl .no rfl) <|
                        .cons (o_bin rfl rfl .no rfl rfl (b_eql _ _) rfl) <|
                        .cons (o_mv rfl rfl .no rfl) <|
                        .cons (o_mv rfl rfl (.yes rfl rfl hc73) rfl) <|
                        .cons (o_bin rfl rfl (.yes rfl rfl hc73) rfl rfl (b_eql _ _) rfl) <|
                        .cons (o_pickT rfl rfl .no rfl hc73 rfl) <|
                        .cons (o_mv rfl rfl .no rfl) <|
                        .cons (o_mv rfl rfl (.yes rfl rfl hc76) rfl) <|
                        .cons (o_bin rfl rfl (.yes rfl rfl hc76) rfl rfl (b_eql _ _) rfl) <|
                        .cons (o_pickT rfl rfl .no rfl hc76 rfl) <|
                        .cons (o_mv rfl rfl .no rfl) <|
                        .cons (o_mv rfl rfl (.yes rfl rfl hc79) rfl) <|
                        .cons (o_bin rfl rfl (.yes rfl rfl hc79) rfl rfl (b_eql _ _) rfl) <|
                        .cons (o_pickT rfl rfl .no rfl hc79 rfl) <|
                        .cons (o_mv rfl rfl .no rfl) <|
                        .cons (o_mv rfl rfl (.yes rfl rfl hc82) rfl) <|
                        .cons (o_lenM (enc := eapiPair) (xs := x16.1) rfl rfl (.yes rfl rfl hc82) rfl sl22) <|
                        .cons (o_bin rfl rfl (.yes rfl rfl hc82) rfl rfl (b_eql _ _) rfl) <|
                        .cons (o_pickT rfl rfl .no rfl hc82 rfl) <|
                        .cons (o_mv rfl rfl .no rfl) <|
                        .cons (o_mv rfl rfl (.yes rfl rfl hc85) rfl) <|
                        .cons (o_ixM (enc := eapiPair) (xs := x16.1) rfl rfl (.yes rfl rfl hc85) rfl rfl sl22 sz59 hx89g.1 hx89g.2) <|
                        .cons (o_fld rfl rfl (.yes rfl rfl hc85) rfl fld59_1 (by decide) rfl rfl) <|
                        .cons (o_ld rfl rfl (.yes rfl rfl hc85) rfl ta9 rfl rfl) <|
                        .cons (o_bin rfl rfl (.yes rfl rfl hc85) rfl rfl (s_eql _ _) rfl) <|
                        .cons (o_pickT rfl rfl .no rfl hc85 rfl) <|
                        .cons (o_mv rfl rfl .no rfl) <|
                        .cons (o_mv rfl rfl (.yes rfl rfl hc91) rfl) <|
                        .cons (o_bin rfl rfl (.yes rfl rfl hc91) rfl rfl (b_eql _ _) rfl) <|
                        .cons (o_pickT rfl rfl .no rfl hc91 rfl) <|
                        .cons (o_mv rfl rfl .no rfl) <|
                        .cons (o_mv rfl rfl (.yes rfl rfl hc94) rfl) <|
                        .cons (o_bin rfl rfl (.yes rfl rfl hc94) rfl rfl (s_eql _ _) rfl) <|
                        .cons (o_pickT rfl rfl .no rfl hc94 rfl) <|
                        .cons (o_mv rfl rfl .no rfl) <|
                        .cons (o_mv rfl rfl (.yes rfl rfl hc97) rfl) <|
                        .cons (o_pickT rfl rfl .no rfl hc97 rfl) <|
                        .cons (o_mv rfl rfl .no rfl) <|
                        .cons (o_noT rfl rfl rfl rfl hc100) <|
                        .cons (o_noT rfl rfl rfl rfl hc100) <|
                        .cons (o_pickF rfl rfl .no rfl hc100 rfl) <|
                        .cons (o_mv rfl rfl .no rfl) <|
                        .cons (o_noT rfl rfl rfl rfl rfl) <|
                        .cons (o_noT rfl rfl rfl rfl rfl) <|
                        .cons (o_pickF rfl rfl .no rfl rfl rfl) <|
                        .cons (o_mv rfl rfl .no rfl) <|
                        .cons (o_noT rfl rfl rfl rfl rfl) <|
                        .cons (o_pickF rfl rfl .no rfl rfl rfl) <|
                        .cons (o_mv rfl rfl .no rfl) <|
                        .cons (o_noT rfl rfl rfl rfl rfl) <|
                        .cons (o_noT rfl rfl rfl rfl rfl) <|
                        .cons (o_noT rfl rfl rfl rfl rfl) <|
                        .cons (o_noT rfl rfl rfl rfl rfl) <|
                        .cons (o_pickF rfl rfl .no rfl rfl rfl) <|
                        .cons (o_as rfl rfl .no rfl) <|
                        .nil rfl
                      ) ?_
                      exact ⟨false, (Option.some.inj h102).symm, .w (weak_of ⟨⟨_, rfl, .d rfl⟩, trivial⟩ trivial drop0)⟩
                  · skip
                    refine cw_region (
                      .cons (o_mv rfl rfl .no rfl) <|
                      .cons (o_bin rfl rfl .no rfl rfl (b_eql _ _) rfl) <|
                      .cons (o_mv rfl rfl .no rfl) <|
                      .cons (o_mv rfl rfl (.yes rfl rfl hc73) rfl) <|
                      .cons (o_bin rfl rfl (.yes rfl rfl hc73) rfl rfl (b_eql _ _) rfl) <|
                      .cons (o_pickT rfl rfl .no rfl hc73 rfl) <|
                      .cons (o_mv rfl rfl .no rfl) <|
                      .cons (o_mv rfl rfl (.yes rfl rfl hc76) rfl) <|
                      .cons (o_bin rfl rfl (.yes rfl rfl hc76) rfl rfl (b_eql _ _) rfl) <|
                      .cons (o_pickT rfl rfl .no rfl hc76 rfl) <|
                      .cons (o_mv rfl rfl .no rfl) <|
                      .cons (o_mv rfl rfl (.yes rfl rfl hc79) rfl) <|
                      .cons (o_bin rfl rfl (.yes rfl rfl hc79) rfl rfl (b_eql _ _) rfl) <|
                      .cons (o_pickT rfl rfl .no rfl hc79 rfl) <|
                      .cons (o_mv rfl rfl .no rfl) <|
                      .cons (o_mv rfl rfl (.yes rfl rfl hc82) rfl) <|
                      .cons (o_lenM (enc := eapiPair) (xs := x16.1) rfl rfl (.yes rfl rfl hc82) rfl sl22) <|
                      .cons (o_bin rfl rfl (.yes rfl rfl hc82) rfl rfl (b_eql _ _) rfl) <|
                      .cons (o_pickT rfl rfl .no rfl hc82 rfl) <|
                      .cons (o_mv rfl rfl .no rfl) <|
                      .cons (o_mv rfl rfl (.yes rfl rfl hc85) rfl) <|
                      .cons (o_ixM (enc := eapiPair) (xs := x16.1) rfl rfl (.yes rfl rfl hc85) rfl rfl sl22 sz59 hx89g.1 hx89g.2) <|
                      .cons (o_fld rfl rfl (.yes rfl rfl hc85) rfl fld59_1 (by decide) rfl rfl) <|
                      .cons (o_ld rfl rfl (.yes rfl rfl hc85) rfl ta9 rfl rfl) <|
                      .cons (o_bin rfl rfl (.yes rfl rfl hc85) rfl rfl (s_eql _ _) rfl) <|
                      .cons (o_pickT rfl rfl .no rfl hc85 rfl) <|
                      .cons (o_mv rfl rfl .no rfl) <|
                      .cons (o_mv rfl rfl (.yes rfl rfl hc91) rfl) <|
                      .cons (o_bin rfl rfl (.yes rfl rfl hc91) rfl rfl (b_eql _ _) rfl) <|
                      .cons (o_pickT rfl rfl .no rfl hc91 rfl) <|
                      .cons (o_mv rfl rfl .no rfl) <|
                      .cons (o_mv rfl rfl (.yes rfl rfl hc94) rfl) <|
                      .cons (o_bin rfl rfl (.yes rfl rfl hc94) rfl rfl (s_eql _ _) rfl) <|
                      .cons (o_pickT rfl rfl .no rfl hc94 rfl) <|
                      .cons (o_mv rfl rfl .no rfl) <|
                      .cons (o_noT rfl rfl rfl rfl hc97) <|
                      .cons (o_pickF rfl rfl .no rfl hc97 rfl) <|
                      .cons (o_mv rfl rfl .no rfl) <|
                      .cons (o_noT rfl rfl rfl rfl rfl) <|
                      .cons (o_noT rfl rfl rfl rfl rfl) <|
                      .cons (o_pickF rfl rfl .no rfl rfl rfl) <|
                      .cons (o_mv rfl rfl .no rfl) <|
                      .cons (o_noT rfl rfl rfl rfl rfl) <|
                      .cons (o_noT rfl rfl rfl rfl rfl) <|
                      .cons (o_pickF rfl rfl .no rfl rfl rfl) <|
                      .cons (o_mv rfl rfl .no rfl) <|
                      .cons (o_noT rfl rfl rfl rfl rfl) <|
                      .cons (o_pickF rfl rfl .no rfl rfl rfl) <|
                      .cons (o_mv rfl rfl .no rfl) <|
                      .cons (o_noT rfl rfl rfl rfl rfl) <|
                      .cons (o_noT rfl rfl rfl rfl rfl) <|
                      .cons (o_noT rfl rfl rfl rfl rfl) <|
                      .cons (o_noT rfl rfl rfl rfl rfl) <|
                      .cons (o_pickF rfl rfl .no rfl rfl rfl) <|
                      .cons (o_as rfl rfl .no rfl) <|
                      .nil rfl
                    ) ?_
                    exact ⟨false, (Option.some.inj h99).symm, .w (weak_of ⟨⟨_, rfl, .d rfl⟩, trivial⟩ trivial drop0)⟩
                · skip
                  refine cw_region (
                    .cons (o_mv rfl rfl .no rfl) <|
                    .cons (o_bin rfl rfl .no rfl rfl (b_eql _ _) rfl) <|
                    .cons (o_mv rfl rfl .no rfl) <|
                    .cons (o_mv rfl rfl (.yes rfl rfl hc73) rfl) <|
                    .cons (o_bin rfl rfl (.yes rfl rfl hc73) rfl rfl (b_eql _ _) rfl) <|
                    .cons (o_pickT rfl rfl .no rfl hc73 rfl) <|
                    .cons (o_mv rfl rfl .no rfl) <|
                    .cons (o_mv rfl rfl (.yes rfl rfl hc76) rfl) <|
                    .cons (o_bin rfl rfl (.yes rfl rfl hc76) rfl rfl (b_eql _ _) rfl) <|
                    .cons (o_pickT rfl rfl .no rfl hc76 rfl) <|
                    .cons (o_mv rfl rfl .no rfl) <|
                    .cons (o_mv rfl rfl (.yes rfl rfl hc79) rfl) <|
                    .cons (o_bin rfl rfl (.yes rfl rfl hc79) rfl rfl (b_eql _ _) rfl) <|
                    .cons (o_pickT rfl rfl .no rfl hc79 rfl) <|
                    .cons (o_mv rfl rfl .no rfl) <|
                    .cons (o_mv rfl rfl (.yes rfl rfl hc82) rfl) <|
                    .cons (o_lenM (enc := eapiPair) (xs := x16.1) rfl rfl (.yes rfl rfl hc82) rfl sl22) <|
                    .cons (o_bin rfl rfl (.yes rfl rfl hc82) rfl rfl (b_eql _ _) rfl) <|
                    .cons (o_pickT rfl rfl .no rfl hc82 rfl) <|
                    .cons (o_mv rfl rfl .no rfl) <|
                    .cons (o_mv rfl rfl (.yes rfl rfl hc85) rfl) <|
                    .cons (o_ixM (enc := eapiPair) (xs := x16.1) rfl rfl (.yes rfl rfl hc85) rfl rfl sl22 sz59 hx89g.1 hx89g.2) <|
                    .cons (o_fld rfl rfl (.yes rfl rfl hc85) rfl fld59_1 (by decide) rfl rfl) <|
                    .cons (o_ld rfl rfl (.yes rfl rfl hc85) rfl ta9 rfl rfl) <|
                    .cons (o_bin rfl rfl (.yes rfl rfl hc85) rfl rfl (s_eql _ _) rfl) <|
                    .cons (o_pickT rfl rfl .no rfl hc85 rfl) <|
                    .cons (o_mv rfl rfl .no rfl) <|
                    .cons (o_mv rfl rfl (.yes rfl rfl hc91) rfl) <|
                    .cons (o_bin rfl rfl (.yes rfl rfl hc91) rfl rfl (b_eql _ _) rfl) <|
                    .cons (o_pickT rfl rfl .no rfl hc91 rfl) <|
                    .cons (o_mv rfl rfl .no rfl) <|
                    .cons (o_noT rfl rfl rfl rfl hc94) <|
                    .cons (o_noT rfl rfl rfl rfl hc94) <|
                    .cons (o_pickF rfl rfl .no rfl hc94 rfl) <|
                    .cons (o_mv rfl rfl .no rfl) <|
                    .cons (o_noT rfl rfl rfl rfl rfl) <|
                    .cons (o_pickF rfl rfl .no rfl rfl rfl) <|
                    .cons (o_mv rfl rfl .no rfl) <|
                    .cons (o_noT rfl rfl rfl rfl rfl) <|
                    .cons (o_noT rfl rfl rfl rfl rfl) <|
                    .cons (o_pickF rfl rfl .no rfl rfl rfl) <|
                    .cons (o_mv rfl rfl .no rfl) <|
                    .cons (o_noT rfl rfl rfl rfl rfl) <|
                    .cons (o_noT rfl rfl rfl rfl rfl) <|
                    .cons (o_pickF rfl rfl .no rfl rfl rfl) <|
                    .cons (o_mv rfl rfl .no rfl) <|
                    .cons (o_noT rfl rfl rfl rfl rfl) <|
                    .cons (o_pickF rfl rfl .no rfl rfl rfl) <|
                    .cons (o_mv rfl rfl .no rfl) <|
                    .cons (o_noT rfl rfl rfl rfl rfl) <|
                    .cons (o_noT rfl rfl rfl rfl rfl) <|
                    .cons (o_noT rfl rfl rfl rfl rfl) <|
                    .cons (o_noT rfl rfl rfl rfl rfl) <|
                    .cons (o_pickF rfl rfl .no rfl rfl rfl) <|
                    .cons (o_as rfl rfl .no rfl) <|
                    .nil rfl
                  ) ?_
                  exact ⟨false, (Option.some.inj h96).symm, .w (weak_of ⟨⟨_, rfl, .d rfl⟩, trivial⟩ trivial drop0)⟩
              · skip
                refine cw_region (
                  .cons (o_mv rfl rfl .no rfl) <|
                  .cons (o_bin rfl rfl .no rfl rfl (b_eql _ _) rfl) <|
                  .cons (o_mv rfl rfl .no rfl) <|
                  .cons (o_mv rfl rfl (.yes rfl rfl hc73) rfl) <|
                  .cons (o_bin rfl rfl (.yes rfl rfl hc73) rfl rfl (b_eql _ _) rfl) <|
                  .cons (o_pickT rfl rfl .no rfl hc73 rfl) <|
                  .cons (o_mv rfl rfl .no rfl) <|
                  .cons (o_mv rfl rfl (.yes rfl rfl hc76) rfl) <|
                  .cons (o_bin rfl rfl (.yes rfl rfl hc76) rfl rfl (b_eql _ _) rfl) <|
                  .cons (o_pickT rfl rfl .no rfl hc76 rfl) <|
                  .cons (o_mv rfl rfl .no rfl) <|
                  .cons (o_mv rfl rfl (.yes rfl rfl hc79) rfl) <|
                  .cons (o_bin rfl rfl (.yes rfl rfl hc79) rfl rfl (b_eql _ _) rfl) <|
                  .cons (o_pickT rfl rfl .no rfl hc79 rfl) <|
                  .cons (o_mv rfl rfl .no rfl) <|
                  .cons (o_mv rfl rfl (.yes rfl rfl hc82) rfl) <|
                  .cons (o_lenM (enc := eapiPair) (xs := x16.1) rfl rfl (.yes rfl rfl hc82) rfl sl22) <|
                  .cons (o_bin rfl rfl (.yes rfl rfl hc82) rfl rfl (b_eql _ _) rfl) <|
                  .cons (o_pickT rfl rfl .no rfl hc82 rfl) <|
                  .cons (o_mv rfl rfl .no rfl) <|
                  .cons (o_mv rfl rfl (.yes rfl rfl hc85) rfl) <|
                  .cons (o_ixM (enc := eapiPair) (xs := x16.1) rfl rfl (.yes rfl rfl hc85) rfl rfl sl22 sz59 hx89g.1 hx89g.2) <|
                  .cons (o_fld rfl rfl (.yes rfl rfl hc85) rfl fld59_1 (by decide) rfl rfl) <|
                  .cons (o_ld rfl rfl (.yes rfl rfl hc85) rfl ta9 rfl rfl) <|
                  .cons (o_bin rfl rfl (.yes rfl rfl hc85) rfl rfl (s_eql _ _) rfl) <|
                  .cons (o_pickT rfl rfl .no rfl hc85 rfl) <|
                  .cons (o_mv rfl rfl .no rfl) <|
                  .cons (o_noT rfl rfl rfl rfl hc91) <|
                  .cons (o_noT rfl rfl rfl rfl hc91) <|
                  .cons (o_pickF rfl rfl .no rfl hc91 rfl) <|
                  .cons (o_mv rfl rfl .no rfl) <|
                  .cons (o_noT rfl rfl rfl rfl rfl) <|
                  .cons (o_noT rfl rfl rfl rfl rfl) <|
                  .cons (o_pickF rfl rfl .no rfl rfl rfl) <|
                  .cons (o_mv rfl rfl .no rfl) <|
                  .cons (o_noT rfl rfl rfl rfl rfl) <|
                  .cons (o_pickF rfl rfl .no rfl rfl rfl) <|
                  .cons (o_mv rfl rfl .no rfl) <|
                  .cons (o_noT rfl rfl rfl rfl rfl) <|
                  .cons (o_noT rfl rfl rfl rfl rfl) <|
                  .cons (o_pickF rfl rfl .no rfl rfl rfl) <|
                  .cons (o_mv rfl rfl .no rfl) <|
                  .cons (o_noT rfl rfl rfl rfl rfl) <|
                  .cons (o_noT rfl rfl rfl rfl rfl) <|
                  .cons (o_pickF rfl rfl .no rfl rfl rfl) <|
                  .cons (o_mv rfl rfl .no rfl) <|
                  .cons (o_noT rfl rfl rfl rfl rfl) <|
                  .cons (o_pickF rfl rfl .no rfl rfl rfl) <|
                  .cons (o_mv rfl rfl .no rfl) <|
                  .cons (o_noT rfl rfl rfl rfl rfl) <|
                  .cons (o_noT rfl rfl rfl rfl rfl) <|
                  .cons (o_noT rfl rfl rfl rfl rfl) <|
                  .cons (o_noT rfl rfl rfl rfl rfl) <|
                  .cons (o_pickF rfl rfl .no rfl rfl rfl) <|
                  .cons (o_as rfl rfl .no rfl) <|
                  .nil rfl
                ) ?_
                exact ⟨false, (Option.some.inj h93).symm, .w (weak_of ⟨⟨_, rfl, .d rfl⟩, trivial⟩ trivial drop0)⟩
            · skip
              refine cw_region (
                .cons (o_mv rfl rfl .no rfl) <|
                .cons (o_bin rfl rfl .no rfl rfl (b_eql _ _) rfl) <|
                .cons (o_mv rfl rfl .no rfl) <|
                .cons (o_mv rfl rfl (.yes rfl rfl hc73) rfl) <|
                .cons (o_bin rfl rfl (.yes rfl rfl hc73) rfl rfl (b_eql _ _) rfl) <|
                .cons (o_pickT rfl rfl .no rfl hc73 rfl) <|
                .cons (o_mv rfl rfl .no rfl) <|
                .cons (o_mv rfl rfl (.yes rfl rfl hc76) rfl) <|
                .cons (o_bin rfl rfl (.yes rfl rfl hc76) rfl rfl (b_eql _ _) rfl) <|
                .cons (o_pickT rfl rfl .no rfl hc76 rfl) <|
                .cons (o_mv rfl rfl .no rfl) <|
                .cons (o_mv rfl rfl (.yes rfl rfl hc79) rfl) <|
                .cons (o_bin rfl rfl (.yes rfl rfl hc79) rfl rfl (b_eql _ _) rfl) <|
                .cons (o_pickT rfl rfl .no rfl hc79 rfl) <|
                .cons (o_mv rfl rfl .no rfl) <|
                .cons (o_mv rfl rfl (.yes rfl rfl hc82) rfl) <|
                .cons (o_lenM (enc := eapiPair) (xs := x16.1) rfl rfl (.yes rfl rfl hc82) rfl sl22) <|
                .cons (o_bin rfl rfl (.yes rfl rfl hc82) rfl rfl (b_eql _ _) rfl) <|
                .cons (o_pickT rfl rfl .no rfl hc82 rfl) <|
                .cons (o_mv rfl rfl .no rfl) <|
                .cons (o_noT rfl rfl rfl rfl hc85) <|
                .cons (o_noT rfl rfl rfl rfl hc85) <|
                .cons (o_noT rfl rfl rfl rfl hc85) <|
                .cons (o_noT rfl rfl rfl rfl hc85) <|
                .cons (o_noT rfl rfl rfl rfl hc85) <|
                .cons (o_pickF rfl rfl .no rfl hc85 rfl) <|
                .cons (o_mv rfl rfl .no rfl) <|
                .cons (o_noT rfl rfl rfl rfl rfl) <|
                .cons (o_noT rfl rfl rfl rfl rfl) <|
                .cons (o_pickF rfl rfl .no rfl rfl rfl) <|
                .cons (o_mv rfl rfl .no rfl) <|
                .cons (o_noT rfl rfl rfl rfl rfl) <|
                .cons (o_noT rfl rfl rfl rfl rfl) <|
                .cons (o_pickF rfl rfl .no rfl rfl rfl) <|
                .cons (o_mv rfl rfl .no rfl) <|
                .cons (o_noT rfl rfl rfl rfl rfl) <|
                .cons (o_pickF rfl rfl .no rfl rfl rfl) <|
                .cons (o_mv rfl rfl .no rfl) <|
                .cons (o_noT rfl rfl rfl rfl rfl) <|
                .cons (o_noT rfl rfl rfl rfl rfl) <|
                .cons (o_pickF rfl rfl .no rfl rfl rfl) <|
                .cons (o_mv rfl rfl .no rfl) <|
                .cons (o_noT rfl rfl rfl rfl rfl) <|
                .cons (o_noT rfl rfl rfl rfl rfl) <|
                .cons (o_pickF rfl rfl .no rfl rfl rfl) <|
                .cons (o_mv rfl rfl .no rfl) <|
                .cons (o_noT rfl rfl rfl rfl rfl) <|
                .cons (o_pickF rfl rfl .no rfl rfl rfl) <|
                .cons (o_mv rfl rfl .no rfl) <|
                .cons (o_noT rfl rfl rfl rfl rfl) <|
                .cons (o_noT rfl rfl rfl rfl rfl) <|
                .cons (o_noT rfl rfl rfl rfl rfl) <|
                .cons (o_noT rfl rfl rfl rfl rfl) <|
                .cons (o_pickF rfl rfl .no rfl rfl rfl) <|
                .cons (o_as rfl rfl .no rfl) <|
                .nil rfl
              ) ?_
              exact ⟨false, (Option.some.inj h87).symm, .w (weak_of ⟨⟨_, rfl, .d rfl⟩, trivial⟩ trivial drop0)⟩
          · skip
            refine cw_region (
              .cons (o_mv rfl rfl .no rfl) <|
              .cons (o_bin rfl rfl .no rfl rfl (b_eql _ _) rfl) <|
              .cons (o_mv rfl rfl .no rfl) <|
              .cons (o_mv rfl rfl (.yes rfl rfl hc73) rfl) <|
              .cons (o_bin rfl rfl (.yes rfl rfl hc73) rfl rfl (b_eql _ _) rfl) <|
              .cons (o_pickT rfl rfl .no rfl hc73 rfl) <|
              .cons (o_mv rfl rfl .no rfl) <|
              .cons (o_mv rfl rfl (.yes rfl rfl hc76) rfl) <|
              .cons (o_bin rfl rfl (.yes rfl rfl hc76) rfl rfl (b_eql _ _) rfl) <|
              .cons (o_pickT rfl rfl .no rfl hc76 rfl) <|
              .cons (o_mv rfl rfl .no rfl) <|
              .cons (o_mv rfl rfl (.yes rfl rfl hc79) rfl) <|
              .cons (o_bin rfl rfl (.yes rfl rfl hc79) rfl rfl (b_eql _ _) rfl) <|
              .cons (o_pickT rfl rfl .no rfl hc79 rfl) <|
              .cons (o_mv rfl rfl .no rfl) <|
              .cons (o_noT rfl rfl rfl rfl hc82) <|
              .cons (o_noT rfl rfl rfl rfl hc82) <|
              .cons (o_noT rfl rfl rfl rfl hc82) <|
              .cons (o_pickF rfl rfl .no rfl hc82 rfl) <|
              .cons (o_mv rfl rfl .no rfl) <|
              .cons (o_noT rfl rfl rfl rfl rfl) <|
              .cons (o_noT rfl rfl rfl rfl rfl) <|
              .cons (o_noT rfl rfl rfl rfl rfl) <|
              .cons (o_noT rfl rfl rfl rfl rfl) <|
              .cons (o_noT rfl rfl rfl rfl rfl) <|
              .cons (o_pickF rfl rfl .no rfl rfl rfl) <|
              .cons (o_mv rfl rfl .no rfl) <|
              .cons (o_noT rfl rfl rfl rfl rfl) <|
              .cons (o_noT rfl rfl rfl rfl rfl) <|
              .cons (o_pickF rfl rfl .no rfl rfl rfl) <|
              .cons (o_mv rfl rfl .no rfl) <|
              .cons (o_noT rfl rfl rfl rfl rfl) <|
              .cons (o_noT rfl rfl rfl rfl rfl) <|
              .cons (o_pickF rfl rfl .no rfl rfl rfl) <|
              .cons (o_mv rfl rfl .no rfl) <|
              .cons (o_noT rfl rfl rfl rfl rfl) <|
              .cons (o_pickF rfl rfl .no rfl rfl rfl) <|
              .cons (o_mv rfl rfl .no rfl) <|
              .cons (o_noT rfl rfl rfl rfl rfl) <|
              .cons (o_noT rfl rfl rfl rfl rfl) <|
              .cons (o_pickF rfl rfl .no rfl rfl rfl) <|
              .cons (o_mv rfl rfl .no rfl) <|
              .cons (o_noT rfl rfl rfl rfl rfl) <|
              .cons (o_noT rfl rfl rfl rfl rfl) <|
              .cons (o_pickF rfl rfl .no rfl rfl rfl) <|
              .cons (o_mv rfl rfl .no rfl) <|
              .cons (o_noT rfl rfl rfl rfl rfl) <|
              .cons (o_pickF rfl rfl .no rfl rfl rfl) <|
              .cons (o_mv rfl rfl .no rfl) <|
              .cons (o_noT rfl rfl rfl rfl rfl) <|
              .cons (o_noT rfl rfl rfl rfl rfl) <|
              .cons (o_noT rfl rfl rfl rfl rfl) <|
              .cons (o_noT rfl rfl rfl rfl rfl) <|
              .cons (o_pickF rfl rfl .no rfl rfl rfl) <|
              .cons (o_as rfl rfl .no rfl) <|
              .nil rfl
            ) ?_
            exact ⟨false, (Option.some.inj h84).symm, .w (weak_of ⟨⟨_, rfl, .d rfl⟩, trivial⟩ trivial drop0)⟩
        · skip
          refine cw_region (
            .cons (o_mv rfl rfl .no rfl) <|
            .cons (o_bin rfl rfl .no rfl rfl (b_eql _ _) rfl) <|
            .cons (o_mv rfl rfl .no rfl) <|
            .cons (o_mv rfl rfl (.yes rfl rfl hc73) rfl) <|
            .cons (o_bin rfl rfl (.yes rfl rfl hc73) rfl rfl (b_eql _ _) rfl) <|
            .cons (o_pickT rfl rfl .no rfl hc73 rfl) <|
            .cons (o_mv rfl rfl .no rfl) <|
            .cons (o_mv rfl rfl (.yes rfl rfl hc76) rfl) <|
            .cons (o_bin rfl rfl (.yes rfl rfl hc76) rfl rfl (b_eql _ _) rfl) <|
            .cons (o_pickT rfl rfl .no rfl hc76 rfl) <|
            .cons (o_mv rfl rfl .no rfl) <|
            .cons (o_noT rfl rfl rfl rfl hc79) <|
            .cons (o_noT rfl rfl rfl rfl hc79) <|
            .cons (o_pickF rfl rfl .no rfl hc79 rfl) <|
            .cons (o_mv rfl rfl .no rfl) <|
            .cons (o_noT rfl rfl rfl rfl rfl) <|
            .cons (o_noT rfl rfl rfl rfl rfl) <|
            .cons (o_noT rfl rfl rfl rfl rfl) <|
            .cons (o_pickF rfl rfl .no rfl rfl rfl) <|
            .cons (o_mv rfl rfl .no rfl) <|
            .cons (o_noT rfl rfl rfl rfl rfl) <|
            .cons (o_noT rfl rfl rfl rfl rfl) <|
            .cons (o_noT rfl rfl rfl rfl rfl) <|
            .cons (o_noT rfl rfl rfl rfl rfl) <|
            .cons (o_noT rfl rfl rfl rfl rfl) <|
            .cons (o_pickF rfl rfl .no rfl rfl rfl) <|
            .cons (o_mv rfl rfl .no rfl) <|
            .cons (o_noT rfl rfl rfl rfl rfl) <|
            .cons (o_noT rfl rfl rfl rfl rfl) <|
            .cons (o_pickF rfl rfl .no rfl rfl rfl) <|
            .cons (o_mv rfl rfl .no rfl) <|
            .cons (o_noT rfl rfl rfl rfl rfl) <|
            .cons (o_noT rfl rfl rfl rfl rfl) <|
            .cons (o_pickF rfl rfl .no rfl rfl rfl) <|
            .cons (o_mv rfl rfl .no rfl) <|
            .cons (o_noT rfl rfl rfl rfl rfl) <|
            .cons (o_pickF rfl rfl .no rfl rfl rfl) <|
            .cons (o_mv rfl rfl .no rfl) <|
            .cons (o_noT rfl rfl rfl rfl rfl) <|
            .cons (o_noT rfl rfl rfl rfl rfl) <|
            .cons (o_pickF rfl rfl .no rfl rfl rfl) <|
            .cons (o_mv rfl rfl .no rfl) <|
            .cons (o_noT rfl rfl rfl rfl rfl) <|
            .cons (o_noT rfl rfl rfl rfl rfl) <|
            .cons (o_pickF rfl rfl .no rfl rfl rfl) <|
            .cons (o_mv rfl rfl .no rfl) <|
            .cons (o_noT rfl rfl rfl rfl rfl) <|
            .cons (o_pickF rfl rfl .no rfl rfl rfl) <|
            .cons (o_mv rfl rfl .no rfl) <|
            .cons (o_noT rfl rfl rfl rfl rfl) <|
            .cons (o_noT rfl rfl rfl rfl rfl) <|
            .cons (o_noT rfl rfl rfl rfl rfl) <|
            .cons (o_noT rfl rfl rfl rfl rfl) <|
            .cons (o_pickF rfl rfl .no rfl rfl rfl) <|
            .cons (o_as rfl rfl .no rfl) <|
            .nil rfl
          ) ?_
          exact ⟨false, (Option.some.inj h81).symm, .w (weak_of ⟨⟨_, rfl, .d rfl⟩, trivial⟩ trivial drop0)⟩
      · skip
        refine cw_region (
          .cons (o_mv rfl rfl .no rfl) <|
          .cons (o_bin rfl rfl .no rfl rfl (b_eql _ _) rfl) <|
          .cons (o_mv rfl rfl .no rfl) <|
          .cons (o_mv rfl rfl (.yes rfl rfl hc73) rfl) <|
          .cons (o_bin rfl rfl (.yes rfl rfl hc73) rfl rfl (b_eql _ _) rfl) <|
          .cons (o_pickT rfl rfl .no rfl hc73 rfl) <|
          .cons (o_mv rfl rfl .no rfl) <|
          .cons (o_noT rfl rfl rfl rfl hc76) <|
          .cons (o_noT rfl rfl rfl rfl hc76) <|
          .cons (o_pickF rfl rfl .no rfl hc76 rfl) <|
          .cons (o_mv rfl rfl .no rfl) <|
          .cons (o_noT rfl rfl rfl rfl rfl) <|
          .cons (o_noT rfl rfl rfl rfl rfl) <|
          .cons (o_pickF rfl rfl .no rfl rfl rfl) <|
          .cons (o_mv rfl rfl .no rfl) <|
          .cons (o_noT rfl rfl rfl rfl rfl) <|
          .cons (o_noT rfl rfl rfl rfl rfl) <|
          .cons (o_noT rfl rfl rfl rfl rfl) <|
          .cons (o_pickF rfl rfl .no rfl rfl rfl) <|
          .cons (o_mv rfl rfl .no rfl) <|
          .cons (o_noT rfl rfl rfl rfl rfl) <|
          .cons (o_noT rfl rfl rfl rfl rfl) <|
          .cons (o_noT rfl rfl rfl rfl rfl) <|
          .cons (o_noT rfl rfl rfl rfl rfl) <|
          .cons (o_noT rfl rfl rfl rfl rfl) <|
          .cons (o_pickF rfl rfl .no rfl rfl rfl) <|
          .cons (o_mv rfl rfl .no rfl) <|
          .cons (o_noT rfl rfl rfl rfl rfl) <|
          .cons (o_noT rfl rfl rfl rfl rfl) <|
          .cons (o_pickF rfl rfl .no rfl rfl rfl) <|
          .cons (o_mv rfl rfl .no rfl) <|
          .cons (o_noT rfl rfl rfl rfl rfl) <|
          .cons (o_noT rfl rfl rfl rfl rfl) <|
          .cons (o_pickF rfl rfl .no rfl rfl rfl) <|
          .cons (o_mv rfl rfl .no rfl) <|
          .cons (o_noT rfl rfl rfl rfl rfl) <|
          .cons (o_pickF rfl rfl .no rfl rfl rfl) <|
          .cons (o_mv rfl rfl .no rfl) <|
          .cons (o_noT rfl rfl rfl rfl rfl) <|
          .cons (o_noT rfl rfl rfl rfl rfl) <|
          .cons (o_pickF rfl rfl .no rfl rfl rfl) <|
          .cons (o_mv rfl rfl .no rfl) <|
          .cons (o_noT rfl rfl rfl rfl rfl) <|
          .cons (o_noT rfl rfl rfl rfl rfl) <|
          .cons (o_pickF rfl rfl .no rfl rfl rfl) <|
          .cons (o_mv rfl rfl .no rfl) <|
          .cons (o_noT rfl rfl rfl rfl rfl) <|
          .cons (o_pickF rfl rfl .no rfl rfl rfl) <|
          .cons (o_mv rfl rfl .no rfl) <|
          .cons (o_noT rfl rfl rfl rfl rfl) <|
          .cons (o_noT rfl rfl rfl rfl rfl) <|
          .cons (o_noT rfl rfl rfl rfl rfl) <|
          .cons (o_noT rfl rfl rfl rfl rfl) <|
          .cons (o_pickF rfl rfl .no rfl rfl rfl) <|
          .cons (o_as rfl rfl .no rfl) <|
          .nil rfl
        ) ?_
        exact ⟨false, (Option.some.inj h78).symm, .w (weak_of ⟨⟨_, rfl, .d rfl⟩, trivial⟩ trivial drop0)⟩
    · skip
      refine cw_region (
        .cons (o_mv rfl rfl .no rfl) <|
        .cons (o_bin rfl rfl .no rfl rfl (b_eql _ _) rfl) <|
        .cons (o_mv rfl rfl .no rfl) <|
        .cons (o_noT rfl rfl rfl rfl hc73) <|
        .cons (o_noT rfl rfl rfl rfl hc73) <|
        .cons (o_pickF rfl rfl .no rfl hc73 rfl) <|
        .cons (o_mv rfl rfl .no rfl) <|
        .cons (o_noT rfl rfl rfl rfl rfl) <|
        .cons (o_noT rfl rfl rfl rfl rfl) <|
        .cons (o_pickF rfl rfl .no rfl rfl rfl) <|
        .cons (o_mv rfl rfl .no rfl) <|
        .cons (o_noT rfl rfl rfl rfl rfl) <|
        .cons (o_noT rfl rfl rfl rfl rfl) <|
        .cons (o_pickF rfl rfl .no rfl rfl rfl) <|
        .cons (o_mv rfl rfl .no rfl) <|
        .cons (o_noT rfl rfl rfl rfl rfl) <|
        .cons (o_noT rfl rfl rfl rfl rfl) <|
        .cons (o_noT rfl rfl rfl rfl rfl) <|
        .cons (o_pickF rfl rfl .no rfl rfl rfl) <|
        .cons (o_mv rfl rfl .no rfl) <|
        .cons (o_noT rfl rfl rfl rfl rfl) <|
        .cons (o_noT rfl rfl rfl rfl rfl) <|
        .cons (o_noT rfl rfl rfl rfl rfl) <|
        .cons (o_noT rfl rfl rfl rfl rfl) <|
        .cons (o_noT rfl rfl rfl rfl rfl) <|
        .cons (o_pickF rfl rfl .no rfl rfl rfl) <|
        .cons (o_mv rfl rfl .no rfl) <|
        .cons (o_noT rfl rfl rfl rfl rfl) <|
        .cons (o_noT rfl rfl rfl rfl rfl) <|
        .cons (o_pickF rfl rfl .no rfl rfl rfl) <|
        .cons (o_mv rfl rfl .no rfl) <|
        .cons (o_noT rfl rfl rfl rfl rfl) <|
        .cons (o_noT rfl rfl rfl rfl rfl) <|
        .cons (o_pickF rfl rfl .no rfl rfl rfl) <|
        .cons (o_mv rfl rfl .no rfl) <|
        .cons (o_noT rfl rfl rfl rfl rfl) <|
        .cons (o_pickF rfl rfl .no rfl rfl rfl) <|
        .cons (o_mv rfl rfl .no rfl) <|
        .cons (o_noT rfl rfl rfl rfl rfl) <|
        .cons (o_noT rfl rfl rfl rfl rfl) <|
        .cons (o_pickF rfl rfl .no rfl rfl rfl) <|
        .cons (o_mv rfl rfl .no rfl) <|
        .cons (o_noT rfl rfl rfl rfl rfl) <|
        .cons (o_noT rfl rfl rfl rfl rfl) <|
        .cons (o_pickF rfl rfl .no rfl rfl rfl) <|
        .cons (o_mv rfl rfl .no rfl) <|
        .cons (o_noT rfl rfl rfl rfl rfl) <|
        .cons (o_pickF rfl rfl .no rfl rfl rfl) <|
        .cons (o_mv rfl rfl .no rfl) <|
        .cons (o_noT rfl rfl rfl rfl rfl) <|
        .cons (o_noT rfl rfl rfl rfl rfl) <|
        .cons (o_noT rfl rfl rfl rfl rfl) <|
        .cons (o_noT rfl rfl rfl rfl rfl) <|
        .cons (o_pickF rfl rfl .no rfl rfl rfl) <|
        .cons (o_as rfl rfl .no rfl) <|
        .nil rfl
      ) ?_
      exact ⟨false, (Option.some.inj h75).symm, .w (weak_of ⟨⟨_, rfl, .d rfl⟩, trivial⟩ trivial drop0)⟩

end
end Go.Val

