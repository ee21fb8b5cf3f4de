/- Walks of the program's functions, printed. -/
import Derived.Test.YtlcnkhphgekmeaaWc
set_option linter.unusedSectionVars false
set_option linter.unusedVariables false
set_option linter.unusedSimpArgs false
namespace Go.Val
open Go.RowKit Go.Proofs

section
variable [NoDrw]

noncomputable def law09_DeltaTurns (a0 : List ((List UInt8) × ByteArray)) (a1 : List ((List UInt8) × ByteArray)) (a2 : List ((List UInt8) × ByteArray)) : Option Bool :=
  (law09_shown).bind fun x1 =>
  (law09_cut a0).bind fun x4 =>
  (law09_cut a1).bind fun x7 =>
  (law09_cut a2).bind fun x10 =>
  (delta_Diff x4 x7).bind fun x13 =>
  (delta_Diff x7 x4).bind fun x16 =>
  (delta_Apply x4 x13).bind fun x19 =>
  (delta_Apply x19 x16).bind fun x22 =>
  (delta_Map x4).bind fun x25 =>
  (ref09_Same x22 x25).bind fun x28 =>
  cond (decide ((x13.length : Int) ≠ (x16.length : Int))) (
    some false
  ) (
    (((
      whileO (V := Int) (O := (Unit ⊕ Bool)) (fun v105 =>
        cond (decide (v105 < (x13.length : Int))) (
          (gx x13 v105).bind fun x112 =>
          (gx x16 v105).bind fun x115 =>
          cond (!(decide (x112.1 = x115.1))) (
            some (.inr (.inr false))
          ) (
            some (.inl (IntKind.wrap .i64 (v105 + 1)))
          )
        ) (
          some (.inr (.inl ()))
        )
      ) 0
    ) : Option (Unit ⊕ Bool))).bind fun o76 =>
    Sum.elim (fun (v122 : Unit) =>
      (delta_Diff x7 x10).bind fun x123 =>
      (delta_Join ([x13, x123])).bind fun x126 =>
      (((
        cond x1 (
          cond x28 (
            (delta_Apply x4 x126).bind fun x153 =>
            (delta_Map x10).bind fun x156 =>
            (ref09_Same x153 x156).bind fun x159 =>
            some x159
          ) (
            some false
          )
        ) (
          some false
        )
      ) : Option Bool)).bind fun o144 =>
      some o144
    ) (fun w166 =>
      some w166
    ) o76
  )

set_option maxRecDepth 100000 in
theorem law09_DeltaTurns_ok {a0 : List ((List UInt8) × ByteArray)} {a1 : List ((List UInt8) × ByteArray)} {a2 : List ((List UInt8) × ByteArray)} {r : Bool} (h : law09_DeltaTurns a0 a1 a2 = some r) : FnOk Try.prog 9 [.d (eSapiPair a0), .d (eSapiPair a1), .d (eSapiPair a2)] 0 (lk []) (fun rr oo => rr = .d (ebool r) ∧ oo = lk []) := by
  refine fnOk_of Try.func9 rfl rfl ?_
  unfold law09_DeltaTurns at h
  refine cw_seq (cw_region (
    .cons (o_as rfl rfl .no rfl) <|
    .nil rfl
  ) ?_)
  obtain ⟨x1, hx2, h3⟩ := bind_some h
  refine cw_seq (cw_region (
    .cons (o_call rfl rfl .no Try.func10 rfl rfl (law09_shown_ok hx2) .nil trivial (.inl rfl)) <|
    .cons (o_as rfl rfl .no rfl) <|
    .nil rfl
  ) ?_)
  obtain ⟨x4, hx5, h6⟩ := bind_some h3
  refine cw_seq (cw_region (
    .cons (o_mv rfl rfl .no rfl) <|
    .cons (o_call rfl rfl .no Try.func11 rfl rfl (law09_cut_ok hx5) (.cons rfl .d .nil) ⟨trivial, trivial⟩ (.inl rfl)) <|
    .cons (o_as rfl rfl .no rfl) <|
    .nil rfl
  ) ?_)
  obtain ⟨x7, hx8, h9⟩ := bind_some h6
  refine cw_seq (cw_region (
    .cons (o_mv rfl rfl .no rfl) <|
    .cons (o_call rfl rfl .no Try.func11 rfl rfl (law09_cut_ok hx8) (.cons rfl .d .nil) ⟨trivial, trivial⟩ (.inl rfl)) <|
    .cons (o_as rfl rfl .no rfl) <|
    .nil rfl
  ) ?_)
  obtain ⟨x10, hx11, h12⟩ := bind_some h9
  refine cw_seq (cw_region (
    .cons (o_mv rfl rfl .no rfl) <|
    .cons (o_call rfl rfl .no Try.func11 rfl rfl (law09_cut_ok hx11) (.cons rfl .d .nil) ⟨trivial, trivial⟩ (.inl rfl)) <|
    .cons (o_as rfl rfl .no rfl) <|
    .nil rfl
  ) ?_)
  obtain ⟨x13, hx14, h15⟩ := bind_some h12
  refine cw_seq (cw_region (
    .cons (o_mv rfl rfl .no rfl) <|
    .cons (o_mv rfl rfl .no rfl) <|
    .cons (o_call rfl rfl .no Try.func16 rfl rfl (delta_Diff_ok hx14) (.cons rfl .d (.cons rfl .d .nil)) ⟨trivial, trivial, trivial⟩ (.inl rfl)) <|
    .cons (o_as rfl rfl .no rfl) <|
    .nil rfl
  ) ?_)
  obtain ⟨x16, hx17, h18⟩ := bind_some h15
  refine cw_seq (cw_region (
    .cons (o_mv rfl rfl .no rfl) <|
    .cons (o_mv rfl rfl .no rfl) <|
    .cons (o_call rfl rfl .no Try.func16 rfl rfl (delta_Diff_ok hx17) (.cons rfl .d (.cons rfl .d .nil)) ⟨trivial, trivial, trivial⟩ (.inl rfl)) <|
    .cons (o_as rfl rfl .no rfl) <|
    .nil rfl
  ) ?_)
  obtain ⟨x19, hx20, h21⟩ := bind_some h18
  obtain ⟨x22, hx23, h24⟩ := bind_some h21
  obtain ⟨x25, hx26, h27⟩ := bind_some h24
  obtain ⟨x28, hx29, h30⟩ := bind_some h27
  refine cw_seq (cw_region (
    .cons (o_mv rfl rfl .no rfl) <|
    .cons (o_mv rfl rfl .no rfl) <|
    .cons (o_call rfl rfl .no Try.func17 rfl rfl (delta_Apply_ok hx20) (.cons rfl .d (.cons rfl .d .nil)) ⟨trivial, trivial, trivial⟩ (.inl rfl)) <|
    .cons (o_mv rfl rfl .no rfl) <|
    .cons (o_call rfl rfl .no Try.func17 rfl rfl (delta_Apply_ok hx23) (.cons rfl .d (.cons rfl .d .nil)) ⟨trivial, trivial, trivial⟩ (.inl rfl)) <|
    .cons (o_mv rfl rfl .no rfl) <|
    .cons (o_call rfl rfl .no Try.func12 rfl rfl (delta_Map_ok hx26) (.cons rfl .d .nil) ⟨trivial, trivial⟩ (.inl rfl)) <|
    .cons (o_call rfl rfl .no Try.func15 rfl rfl (ref09_Same_ok hx29) (.cons rfl .d (.cons rfl .d .nil)) ⟨trivial, trivial, trivial⟩ (.inl rfl)) <|
    .cons (o_as rfl rfl .no rfl) <|
    .nil rfl
  ) ?_)
  refine cw_seq ?_
  refine cw_seq (cw_region (
    .cons (o_mv rfl rfl .no rfl) <|
    .cons (o_lenM (enc := eapiChange) (xs := x13) rfl rfl .no rfl sl34) <|
    .cons (o_mv rfl rfl .no rfl) <|
    .cons (o_lenM (enc := eapiChange) (xs := x16) rfl rfl .no rfl sl34) <|
    .cons (o_bin rfl rfl .no rfl rfl (b_neq _ _) rfl) <|
    .nil rfl
  ) ?_)
  rcases cond_some h30 with ⟨hc31, h32⟩ | ⟨hc31, h33⟩
  · refine cw_condT rfl hc31 ?_
    refine cw_seq (cw_region (
      .cons (o_as rfl rfl .no rfl) <|
      .nil rfl
    ) ?_)
    have heq := ((Option.some.inj h32).symm).symm
    subst heq
    exact cw_weak (weak_of (l := [(6, .d (ebool false))]) (m := []) ⟨⟨_, rfl, .d rfl⟩, trivial⟩ trivial drop0) (cw_ret ⟨.inr rfl, _, res1 rfl rfl, rfl, rfl⟩)
  · refine cw_condF rfl hc31 ?_
    refine cw_skip ?_
    obtain ⟨o76, hj77, h78⟩ := bind_some h33
    refine cw_join (fun (z : Unit) => St.of [(0, .d (eSapiPair x4)), (1, .d (eSapiPair x7)), (2, .d (eSapiPair x10)), (7, .d (ebool x1)), (8, .d (eSapiChange x13)), (10, .d (ebool x28))] []) (fun (z : Unit) => o76 = (.inl z)) ?_ ?_
    · intro v122 hv165; subst hv165
      obtain ⟨x123, hx124, h125⟩ := bind_some h78
      obtain ⟨x126, hx127, h128⟩ := bind_some h125
      refine cw_seq (cw_region (
        .cons (o_mv rfl rfl .no rfl) <|
        .cons (o_mv rfl rfl .no rfl) <|
        .cons (o_mv rfl rfl .no rfl) <|
        .cons (o_call rfl rfl .no Try.func16 rfl rfl (delta_Diff_ok hx124) (.cons rfl .d (.cons rfl .d .nil)) ⟨trivial, trivial, trivial⟩ (.inl rfl)) <|
        .cons (o_bsl (rows := ([x13, x123] : List (List ((List UInt8) × ByteArray × Bool))).map eSapiChange) rfl rfl .no (.cons rfl (.cons rfl .nil)) rfl sl49 sz34 ze34 rfl (map_sz siSapiChange) (by decide)) <|
        .cons (o_call rfl rfl .no Try.func25 rfl rfl (delta_Join_ok hx127) (.cons rfl .d .nil) ⟨trivial, trivial⟩ (.inl rfl)) <|
        .cons (o_as rfl rfl .no rfl) <|
        .nil rfl
      ) ?_)
      obtain ⟨o144, hj145, h146⟩ := bind_some h128
      refine cw_join (fun (z : Bool) => St.of [(6, .d (ebool z))] []) (fun (z : Bool) => o144 = z) ?_ ?_
      · intro v162 hv163; subst hv163
        have heq := ((Option.some.inj h146).symm).symm
        subst heq
        exact cw_weak (weak_of (l := [(6, .d (ebool o144))]) (m := []) ⟨⟨_, rfl, .d rfl⟩, trivial⟩ trivial drop0) (cw_ret ⟨.inr rfl, _, res1 rfl rfl, rfl, rfl⟩)
      · skip
        rcases cond_some hj145 with ⟨hc147, h148⟩ | ⟨hc147, h149⟩
        · skip
          rcases cond_some h148 with ⟨hc150, h151⟩ | ⟨hc150, h152⟩
          · skip
            obtain ⟨x153, hx154, h155⟩ := bind_some h151
            obtain ⟨x156, hx157, h158⟩ := bind_some h155
            obtain ⟨x159, hx160, h161⟩ := bind_some h158
            refine cw_region (
              .cons (o_mv rfl rfl .no rfl) <|
              .cons (o_mv rfl rfl .no rfl) <|
              .cons (o_mv rfl rfl (.yes rfl rfl hc147) rfl) <|
              .cons (o_pickT rfl rfl .no rfl hc147 rfl) <|
              .cons (o_mv rfl rfl .no rfl) <|
              .cons (o_mv rfl rfl (.yes rfl rfl hc150) rfl) <|
              .cons (o_mv rfl rfl (.yes rfl rfl hc150) rfl) <|
              .cons (o_call rfl rfl (.yes rfl rfl hc150) Try.func17 rfl rfl (delta_Apply_ok hx154) (.cons rfl .d (.cons rfl .d .nil)) ⟨trivial, trivial, trivial⟩ (.inl rfl)) <|
              .cons (o_mv rfl rfl (.yes rfl rfl hc150) rfl) <|
              .cons (o_call rfl rfl (.yes rfl rfl hc150) Try.func12 rfl rfl (delta_Map_ok hx157) (.cons rfl .d .nil) ⟨trivial, trivial⟩ (.inl rfl)) <|
              .cons (o_call rfl rfl (.yes rfl rfl hc150) Try.func15 rfl rfl (ref09_Same_ok hx160) (.cons rfl .d (.cons rfl .d .nil)) ⟨trivial, trivial, trivial⟩ (.inl rfl)) <|
              .cons (o_pickT rfl rfl .no rfl hc150 rfl) <|
              .cons (o_as rfl rfl .no rfl) <|
              .nil rfl
            ) ?_
            exact ⟨x159, (Option.some.inj h161).symm, weak_of ⟨⟨_, rfl, .d rfl⟩, trivial⟩ trivial drop0⟩
          · skip
            refine cw_region (
              .cons (o_mv rfl rfl .no rfl) <|
              .cons (o_mv rfl rfl .no rfl) <|
              .cons (o_mv rfl rfl (.yes rfl rfl hc147) rfl) <|
              .cons (o_pickT rfl rfl .no rfl hc147 rfl) <|
              .cons (o_mv rfl rfl .no rfl) <|
              .cons (o_noT rfl rfl rfl rfl hc150) <|
              .cons (o_noT rfl rfl rfl rfl hc150) <|
              .cons (o_noT rfl rfl rfl rfl hc150) <|
              .cons (o_noT rfl rfl rfl rfl hc150) <|
              .cons (o_noT rfl rfl rfl rfl hc150) <|
              .cons (o_noT rfl rfl rfl rfl hc150) <|
              .cons (o_pickF rfl rfl .no rfl hc150 rfl) <|
              .cons (o_as rfl rfl .no rfl) <|
              .nil rfl
            ) ?_
            exact ⟨false, (Option.some.inj h152).symm, weak_of ⟨⟨_, rfl, .d rfl⟩, trivial⟩ trivial drop0⟩
        · skip
          refine cw_region (
            .cons (o_mv rfl rfl .no rfl) <|
            .cons (o_mv rfl rfl .no rfl) <|
            .cons (o_noT rfl rfl rfl rfl hc147) <|
            .cons (o_pickF rfl rfl .no rfl hc147 rfl) <|
            .cons (o_mv rfl rfl .no rfl) <|
            .cons (o_noT rfl rfl rfl rfl rfl) <|
            .cons (o_noT rfl rfl rfl rfl rfl) <|
            .cons (o_noT rfl rfl rfl rfl rfl) <|
            .cons (o_noT rfl rfl rfl rfl rfl) <|
            .cons (o_noT rfl rfl rfl rfl rfl) <|
            .cons (o_noT rfl rfl rfl rfl rfl) <|
            .cons (o_pickF rfl rfl .no rfl rfl rfl) <|
            .cons (o_as rfl rfl .no rfl) <|
            .nil rfl
          ) ?_
          exact ⟨false, (Option.some.inj h149).symm, weak_of ⟨⟨_, rfl, .d rfl⟩, trivial⟩ trivial drop0⟩
    · skip
      refine cw_seq (cw_region (
        .cons (o_as rfl rfl .no rfl) <|
        .nil rfl
      ) ?_)
      refine cw_block ?_
      refine cw_while (V := Int) (O := (Unit ⊕ Bool)) (fun (z : Int) => St.of [(0, .d (eSapiPair x4)), (1, .d (eSapiPair x7)), (2, .d (eSapiPair x10)), (7, .d (ebool x1)), (8, .d (eSapiChange x13)), (9, .d (eSapiChange x16)), (10, .d (ebool x28)), (11, .d (eint z))] []) hj77 (weak_of ⟨⟨_, rfl, .d rfl⟩, ⟨_, rfl, .d rfl⟩, ⟨_, rfl, .d rfl⟩, ⟨_, rfl, .d rfl⟩, ⟨_, rfl, .d rfl⟩, ⟨_, rfl, .d rfl⟩, ⟨_, rfl, .d rfl⟩, ⟨_, rfl, .d rfl⟩, trivial⟩ trivial drop0) ?_
      intro v105 x106 hb107 hx108
      refine cw_seq ?_
      refine cw_seq (cw_region (
        .cons (o_mv rfl rfl .no rfl) <|
        .cons (o_mv rfl rfl .no rfl) <|
        .cons (o_lenM (enc := eapiChange) (xs := x13) rfl rfl .no rfl sl34) <|
        .cons (o_bin rfl rfl .no rfl rfl (b_lss _ _) rfl) <|
        .nil rfl
      ) ?_)
      rcases cond_some hb107 with ⟨hc109, h110⟩ | ⟨hc109, h111⟩
      · refine cw_condT rfl hc109 ?_
        refine cw_skip ?_
        refine cw_seq ?_
        refine cw_block ?_
        obtain ⟨x112, hx113, h114⟩ := bind_some h110
        have hx113g := gx_some hx113
        obtain ⟨x115, hx116, h117⟩ := bind_some h114
        have hx116g := gx_some hx116
        refine cw_seq (cw_region_any mixed (by kernel_rfl) (
          .cons (o_mv rfl rfl .no rfl) <|
          .cons (o_mv rfl rfl .no rfl) <|
          .cons (o_ixM (enc := eapiChange) (xs := x13) rfl rfl .no rfl rfl sl34 sz38 hx113g.1 hx113g.2) <|
          .cons (o_fld rfl rfl .no rfl fld38_0 (by decide) rfl rfl) <|
          .cons (o_ld rfl rfl .no rfl ta27 rfl rfl) <|
          .cons (o_mv rfl rfl .no rfl) <|
          .cons (o_mv rfl rfl .no rfl) <|
          .cons (o_ixM (enc := eapiChange) (xs := x16) rfl rfl .no rfl rfl sl34 sz38 hx116g.1 hx116g.2) <|
          .cons (o_fld rfl rfl .no rfl fld38_0 (by decide) rfl rfl) <|
          .cons (o_ld rfl rfl .no rfl ta27 rfl rfl) <|
          .cons (o_ne rfl rfl .no rfl rfl rfl rfl eg27 (.bs ar27 un5 sz5)) <|
          .nil rfl
        ) (by kernel_rfl) ?_)
        rcases cond_some h117 with ⟨hc118, h119⟩ | ⟨hc118, h120⟩
        · refine cw_condT rfl hc118 ?_
          refine cw_seq (cw_region (
            .cons (o_as rfl rfl .no rfl) <|
            .nil rfl
          ) ?_)
          have he121 := ((hx108 _ (Option.some.inj h119).symm).symm).symm
          subst he121
          have heq := ((Option.some.inj h78).symm).symm
          subst heq
          exact cw_weak (weak_of (l := [(6, .d (ebool false))]) (m := []) ⟨⟨_, rfl, .d rfl⟩, trivial⟩ trivial drop0) (cw_ret ⟨.inr rfl, _, res1 rfl rfl, rfl, rfl⟩)
        · refine cw_condF rfl hc118 ?_
          refine cw_skip ?_
          refine cw_region (
            .cons (o_mv rfl rfl .no rfl) <|
            .cons (o_bin rfl rfl .no rfl rfl (b_add _ _) rfl) <|
            .cons (o_as rfl rfl .no rfl) <|
            .nil rfl
          ) ?_
          exact ⟨(IntKind.wrap .i64 (v105 + 1)), (Option.some.inj h120).symm, weak_of ⟨⟨_, rfl, .d rfl⟩, ⟨_, rfl, .d rfl⟩, ⟨_, rfl, .d rfl⟩, ⟨_, rfl, .d rfl⟩, ⟨_, rfl, .d rfl⟩, ⟨_, rfl, .d rfl⟩, ⟨_, rfl, .d rfl⟩, ⟨_, rfl, .d rfl⟩, trivial⟩ trivial drop0⟩
      · refine cw_condF rfl hc109 ?_
        refine cw_exit ?_
        exact ⟨(), (hx108 _ (Option.some.inj h111).symm).symm, weak_of ⟨⟨_, rfl, .d rfl⟩, ⟨_, rfl, .d rfl⟩, ⟨_, rfl, .d rfl⟩, ⟨_, rfl, .d rfl⟩, ⟨_, rfl, .d rfl⟩, ⟨_, rfl, .d rfl⟩, trivial⟩ trivial drop0⟩

end
end Go.Val
