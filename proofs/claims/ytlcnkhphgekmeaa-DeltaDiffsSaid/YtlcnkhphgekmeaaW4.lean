/- Walks of the program's functions, printed. -/
import Derived.Test.YtlcnkhphgekmeaaWc
set_option linter.unusedSectionVars false
set_option linter.unusedVariables false
set_option linter.unusedSimpArgs false
namespace Go.Val
open Go.RowKit Go.Proofs

section
variable [NoDrw]

noncomputable def law09_DeltaDiffs (a0 : List ((List UInt8) × ByteArray)) (a1 : List ((List UInt8) × ByteArray)) (a2 : Int) : Option Bool :=
  (law09_shown).bind fun x1 =>
  (law09_cut a0).bind fun x4 =>
  (law09_cut a1).bind fun x7 =>
  (delta_Diff x4 x7).bind fun x10 =>
  (delta_Apply x4 x10).bind fun x13 =>
  (delta_Map x7).bind fun x16 =>
  (ref09_Same x13 x16).bind fun x19 =>
  (((
    cond (decide ((x10.length : Int) > 0)) (
      (ck (decide ((x10.length : Int) ≠ 0))).bind fun _ =>
      (cutB 0 (Int.tmod (bitsAnd .i64 a2 255) (x10.length : Int)) x10.length).bind fun _ =>
      (fits (([] : List ((List UInt8) × ByteArray × Bool)).length + (piece x10 0 (Int.tmod (bitsAnd .i64 a2 255) (x10.length : Int))).length) 48).bind fun _ =>
      (cutB (IntKind.wrap .i64 ((Int.tmod (bitsAnd .i64 a2 255) (x10.length : Int)) + 1)) (x10.length : Int) x10.length).bind fun _ =>
      (fits ((([] : List ((List UInt8) × ByteArray × Bool)) ++ (piece x10 0 (Int.tmod (bitsAnd .i64 a2 255) (x10.length : Int)))).length + (piece x10 (IntKind.wrap .i64 ((Int.tmod (bitsAnd .i64 a2 255) (x10.length : Int)) + 1)) (x10.length : Int)).length) 48).bind fun _ =>
      (delta_Apply x4 ((([] : List ((List UInt8) × ByteArray × Bool)) ++ (piece x10 0 (Int.tmod (bitsAnd .i64 a2 255) (x10.length : Int)))) ++ (piece x10 (IntKind.wrap .i64 ((Int.tmod (bitsAnd .i64 a2 255) (x10.length : Int)) + 1)) (x10.length : Int)))).bind fun x76 =>
      (ref09_Same x76 x16).bind fun x79 =>
      cond x79 (
        some (.inr false)
      ) (
        some (.inl ())
      )
    ) (
      some (.inl ())
    )
  ) : Option (Unit ⊕ Bool))).bind fun o52 =>
  Sum.elim (fun (v86 : Unit) =>
    (((
      whileO (V := Int) (O := (Unit ⊕ Bool)) (fun v173 =>
        cond (decide (v173 < (x10.length : Int))) (
          (gx x10 (IntKind.wrap .i64 (v173 - 1))).bind fun x180 =>
          (gx x10 v173).bind fun x183 =>
          (ref03_Less x180.1 x183.1).bind fun x186 =>
          cond (!x186) (
            some (.inr (.inr false))
          ) (
            some (.inl (IntKind.wrap .i64 (v173 + 1)))
          )
        ) (
          some (.inr (.inl ()))
        )
      ) 1
    ) : Option (Unit ⊕ Bool))).bind fun o138 =>
    Sum.elim (fun (v193 : Unit) =>
      (((
        cond x1 (
          cond x19 (
            (delta_Diff x4 x4).bind fun x212 =>
            some (decide ((x212.length : Int) = 0))
          ) (
            some false
          )
        ) (
          some false
        )
      ) : Option Bool)).bind fun o203 =>
      some o203
    ) (fun w219 =>
      some w219
    ) o138
  ) (fun w222 =>
    some w222
  ) o52

set_option maxRecDepth 100000 in
theorem law09_DeltaDiffs_ok {a0 : List ((List UInt8) × ByteArray)} {a1 : List ((List UInt8) × ByteArray)} {a2 : Int} {r : Bool} (h : law09_DeltaDiffs a0 a1 a2 = some r) : FnOk Try.prog 4 [.d (eSapiPair a0), .d (eSapiPair a1), .d (eint a2)] 0 (lk []) (fun rr oo => rr = .d (ebool r) ∧ oo = lk []) := by
  refine fnOk_of Try.func4 rfl rfl ?_
  unfold law09_DeltaDiffs at h
  refine cw_seq (cw_region (
    .cons (o_as rfl rfl .no rfl) <|
    .nil rfl
  ) ?_)
  obtain ⟨x1, hx2, h3⟩ := bind_some h
  refine cw_seq (cw_region (
    .cons (o_call rfl rfl .no Try.func10 rfl rfl (law09_shown_ok hx2) .nil trivial (.inl rfl)) <|
    .cons (o_as rfl rfl .no rfl) <|
    .nil rfl
  ) ?_)
  obtain ⟨x4, hx5, h6⟩ := bind_some h3
  refine cw_seq (cw_region (
    .cons (o_mv rfl rfl .no rfl) <|
    .cons (o_call rfl rfl .no Try.func11 rfl rfl (law09_cut_ok hx5) (.cons rfl .d .nil) ⟨trivial, trivial⟩ (.inl rfl)) <|
    .cons (o_as rfl rfl .no rfl) <|
    .nil rfl
  ) ?_)
  obtain ⟨x7, hx8, h9⟩ := bind_some h6
  refine cw_seq (cw_region (
    .cons (o_mv rfl rfl .no rfl) <|
    .cons (o_call rfl rfl .no Try.func11 rfl rfl (law09_cut_ok hx8) (.cons rfl .d .nil) ⟨trivial, trivial⟩ (.inl rfl)) <|
    .cons (o_as rfl rfl .no rfl) <|
    .nil rfl
  ) ?_)
  obtain ⟨x10, hx11, h12⟩ := bind_some h9
  refine cw_seq (cw_region (
    .cons (o_mv rfl rfl .no rfl) <|
    .cons (o_mv rfl rfl .no rfl) <|
    .cons (o_call rfl rfl .no Try.func16 rfl rfl (delta_Diff_ok hx11) (.cons rfl .d (.cons rfl .d .nil)) ⟨trivial, trivial, trivial⟩ (.inl rfl)) <|
    .cons (o_as rfl rfl .no rfl) <|
    .nil rfl
  ) ?_)
  obtain ⟨x13, hx14, h15⟩ := bind_some h12
  obtain ⟨x16, hx17, h18⟩ := bind_some h15
  obtain ⟨x19, hx20, h21⟩ := bind_some h18
  refine cw_seq (cw_region (
    .cons (o_mv rfl rfl .no rfl) <|
    .cons (o_mv rfl rfl .no rfl) <|
    .cons (o_call rfl rfl .no Try.func17 rfl rfl (delta_Apply_ok hx14) (.cons rfl .d (.cons rfl .d .nil)) ⟨trivial, trivial, trivial⟩ (.inl rfl)) <|
    .cons (o_mv rfl rfl .no rfl) <|
    .cons (o_call rfl rfl .no Try.func12 rfl rfl (delta_Map_ok hx17) (.cons rfl .d .nil) ⟨trivial, trivial⟩ (.inl rfl)) <|
    .cons (o_call rfl rfl .no Try.func15 rfl rfl (ref09_Same_ok hx20) (.cons rfl .d (.cons rfl .d .nil)) ⟨trivial, trivial, trivial⟩ (.inl rfl)) <|
    .cons (o_as rfl rfl .no rfl) <|
    .nil rfl
  ) ?_)
  obtain ⟨o52, hj53, h54⟩ := bind_some h21
  refine cw_join (fun (z : Unit) => St.of [(0, .d (eSapiPair x4)), (7, .d (ebool x1)), (8, .d (eSapiChange x10)), (9, .d (ebool x19))] []) (fun (z : Unit) => o52 = (.inl z)) ?_ ?_
  · intro v86 hv221; subst hv221
    obtain ⟨o138, hj139, h140⟩ := bind_some h54
    refine cw_join (fun (z : Unit) => St.of [(0, .d (eSapiPair x4)), (7, .d (ebool x1)), (9, .d (ebool x19))] []) (fun (z : Unit) => o138 = (.inl z)) ?_ ?_
    · intro v193 hv218; subst hv218
      obtain ⟨o203, hj204, h205⟩ := bind_some h140
      refine cw_join (fun (z : Bool) => St.of [(6, .d (ebool z))] []) (fun (z : Bool) => o203 = z) ?_ ?_
      · intro v215 hv216; subst hv216
        have heq := ((Option.some.inj h205).symm).symm
        subst heq
        exact cw_weak (weak_of (l := [(6, .d (ebool o203))]) (m := []) ⟨⟨_, rfl, .d rfl⟩, trivial⟩ trivial drop0) (cw_ret ⟨.inr rfl, _, res1 rfl rfl, rfl, rfl⟩)
      · skip
        rcases cond_some hj204 with ⟨hc206, h207⟩ | ⟨hc206, h208⟩
        · skip
          rcases cond_some h207 with ⟨hc209, h210⟩ | ⟨hc209, h211⟩
          · skip
            obtain ⟨x212, hx213, h214⟩ := bind_some h210
            refine cw_region (
              .cons (o_mv rfl rfl .no rfl) <|
              .cons (o_mv rfl rfl .no rfl) <|
              .cons (o_mv rfl rfl (.yes rfl rfl hc206) rfl) <|
              .cons (o_pickT rfl rfl .no rfl hc206 rfl) <|
              .cons (o_mv rfl rfl .no rfl) <|
              .cons (o_mv rfl rfl (.yes rfl rfl hc209) rfl) <|
              .cons (o_mv rfl rfl (.yes rfl rfl hc209) rfl) <|
              .cons (o_call rfl rfl (.yes rfl rfl hc209) Try.func16 rfl rfl (delta_Diff_ok hx213) (.cons rfl .d (.cons rfl .d .nil)) ⟨trivial, trivial, trivial⟩ (.inl rfl)) <|
              .cons (o_lenM (enc := eapiChange) (xs := x212) rfl rfl (.yes rfl rfl hc209) rfl sl34) <|
              .cons (o_bin rfl rfl (.yes rfl rfl hc209) rfl rfl (b_eql _ _) rfl) <|
              .cons (o_pickT rfl rfl .no rfl hc209 rfl) <|
              .cons (o_as rfl rfl .no rfl) <|
              .nil rfl
            ) ?_
            exact ⟨(decide ((x212.length : Int) = 0)), (Option.some.inj h214).symm, weak_of ⟨⟨_, rfl, .d rfl⟩, trivial⟩ trivial drop0⟩
          · skip
            refine cw_region (
              .cons (o_mv rfl rfl .no rfl) <|
              .cons (o_mv rfl rfl .no rfl) <|
              .cons (o_mv rfl rfl (.yes rfl rfl hc206) rfl) <|
              .cons (o_pickT rfl rfl .no rfl hc206 rfl) <|
              .cons (o_mv rfl rfl .no rfl) <|
              .cons (o_noT rfl rfl rfl rfl hc209) <|
              .cons (o_noT rfl rfl rfl rfl hc209) <|
              .cons (o_noT rfl rfl rfl rfl hc209) <|
              .cons (o_noT rfl rfl rfl rfl hc209) <|
              .cons (o_noT rfl rfl rfl rfl hc209) <|
              .cons (o_pickF rfl rfl .no rfl hc209 rfl) <|
              .cons (o_as rfl rfl .no rfl) <|
              .nil rfl
            ) ?_
            exact ⟨false, (Option.some.inj h211).symm, weak_of ⟨⟨_, rfl, .d rfl⟩, trivial⟩ trivial drop0⟩
        · skip
          refine cw_region (
            .cons (o_mv rfl rfl .no rfl) <|
            .cons (o_mv rfl rfl .no rfl) <|
            .cons (o_noT rfl rfl rfl rfl hc206) <|
            .cons (o_pickF rfl rfl .no rfl hc206 rfl) <|
            .cons (o_mv rfl rfl .no rfl) <|
            .cons (o_noT rfl rfl rfl rfl rfl) <|
            .cons (o_noT rfl rfl rfl rfl rfl) <|
            .cons (o_noT rfl rfl rfl rfl rfl) <|
            .cons (o_noT rfl rfl rfl rfl rfl) <|
            .cons (o_noT rfl rfl rfl rfl rfl) <|
            .cons (o_pickF rfl rfl .no rfl rfl rfl) <|
            .cons (o_as rfl rfl .no rfl) <|
            .nil rfl
          ) ?_
          exact ⟨false, (Option.some.inj h208).symm, weak_of ⟨⟨_, rfl, .d rfl⟩, trivial⟩ trivial drop0⟩
    · skip
      refine cw_seq (cw_region (
        .cons (o_as rfl rfl .no rfl) <|
        .nil rfl
      ) ?_)
      refine cw_block ?_
      refine cw_while (V := Int) (O := (Unit ⊕ Bool)) (fun (z : Int) => St.of [(0, .d (eSapiPair x4)), (7, .d (ebool x1)), (8, .d (eSapiChange x10)), (9, .d (ebool x19)), (12, .d (eint z))] []) hj139 (weak_of ⟨⟨_, rfl, .d rfl⟩, ⟨_, rfl, .d rfl⟩, ⟨_, rfl, .d rfl⟩, ⟨_, rfl, .d rfl⟩, ⟨_, rfl, .d rfl⟩, trivial⟩ trivial drop0) ?_
      intro v173 x174 hb175 hx176
      refine cw_seq ?_
      refine cw_seq (cw_region (
        .cons (o_mv rfl rfl .no rfl) <|
        .cons (o_mv rfl rfl .no rfl) <|
        .cons (o_lenM (enc := eapiChange) (xs := x10) rfl rfl .no rfl sl34) <|
        .cons (o_bin rfl rfl .no rfl rfl (b_lss _ _) rfl) <|
        .nil rfl
      ) ?_)
      rcases cond_some hb175 with ⟨hc177, h178⟩ | ⟨hc177, h179⟩
      · refine cw_condT rfl hc177 ?_
        refine cw_skip ?_
        refine cw_seq ?_
        refine cw_block ?_
        obtain ⟨x180, hx181, h182⟩ := bind_some h178
        have hx181g := gx_some hx181
        obtain ⟨x183, hx184, h185⟩ := bind_some h182
        have hx184g := gx_some hx184
        obtain ⟨x186, hx187, h188⟩ := bind_some h185
        refine cw_seq (cw_region_any mixed (by kernel_rfl) (
          .cons (o_mv rfl rfl .no rfl) <|
          .cons (o_mv rfl rfl .no rfl) <|
          .cons (o_bin rfl rfl .no rfl rfl (b_sub _ _) rfl) <|
          .cons (o_ixM (enc := eapiChange) (xs := x10) rfl rfl .no rfl rfl sl34 sz38 hx181g.1 hx181g.2) <|
          .cons (o_fld rfl rfl .no rfl fld38_0 (by decide) rfl rfl) <|
          .cons (o_ld rfl rfl .no rfl ta27 rfl rfl) <|
          .cons (o_mv rfl rfl .no rfl) <|
          .cons (o_mv rfl rfl .no rfl) <|
          .cons (o_ixM (enc := eapiChange) (xs := x10) rfl rfl .no rfl rfl sl34 sz38 hx184g.1 hx184g.2) <|
          .cons (o_fld rfl rfl .no rfl fld38_0 (by decide) rfl rfl) <|
          .cons (o_ld rfl rfl .no rfl ta27 rfl rfl) <|
          .cons (o_call rfl rfl .no Try.func13 rfl rfl (ref03_Less_ok hx187) (.cons rfl .d (.cons rfl .d .nil)) ⟨trivial, trivial, trivial⟩ (.inl rfl)) <|
          .cons (o_not rfl rfl .no rfl) <|
          .nil rfl
        ) (by kernel_rfl) ?_)
        rcases cond_some h188 with ⟨hc189, h190⟩ | ⟨hc189, h191⟩
        · refine cw_condT rfl hc189 ?_
          refine cw_seq (cw_region (
            .cons (o_as rfl rfl .no rfl) <|
            .nil rfl
          ) ?_)
          have he192 := ((hx176 _ (Option.some.inj h190).symm).symm).symm
          subst he192
          have heq := ((Option.some.inj h140).symm).symm
          subst heq
          exact cw_weak (weak_of (l := [(6, .d (ebool false))]) (m := []) ⟨⟨_, rfl, .d rfl⟩, trivial⟩ trivial drop0) (cw_ret ⟨.inr rfl, _, res1 rfl rfl, rfl, rfl⟩)
        · refine cw_condF rfl hc189 ?_
          refine cw_skip ?_
          refine cw_region (
            .cons (o_mv rfl rfl .no rfl) <|
            .cons (o_bin rfl rfl .no rfl rfl (b_add _ _) rfl) <|
            .cons (o_as rfl rfl .no rfl) <|
            .nil rfl
          ) ?_
          exact ⟨(IntKind.wrap .i64 (v173 + 1)), (Option.some.inj h191).symm, weak_of ⟨⟨_, rfl, .d rfl⟩, ⟨_, rfl, .d rfl⟩, ⟨_, rfl, .d rfl⟩, ⟨_, rfl, .d rfl⟩, ⟨_, rfl, .d rfl⟩, trivial⟩ trivial drop0⟩
      · refine cw_condF rfl hc177 ?_
        refine cw_exit ?_
        exact ⟨(), (hx176 _ (Option.some.inj h179).symm).symm, weak_of ⟨⟨_, rfl, .d rfl⟩, ⟨_, rfl, .d rfl⟩, ⟨_, rfl, .d rfl⟩, trivial⟩ trivial drop0⟩
  · skip
    refine cw_seq (cw_region (
      .cons (o_mv rfl rfl .no rfl) <|
      .cons (o_lenM (enc := eapiChange) (xs := x10) rfl rfl .no rfl sl34) <|
      .cons (o_bin rfl rfl .no rfl rfl (b_gtr _ _) rfl) <|
      .nil rfl
    ) ?_)
    rcases cond_some hj53 with ⟨hc55, h56⟩ | ⟨hc55, h57⟩
    · refine cw_condT rfl hc55 ?_
      obtain ⟨x58, hx59, h60⟩ := bind_some h56
      have hx59g := ck_dec hx59
      refine cw_seq (cw_region (
        .cons (o_mv rfl rfl .no rfl) <|
        .cons (o_bin rfl rfl .no rfl rfl (b_and _ _) rfl) <|
        .cons (o_mv rfl rfl .no rfl) <|
        .cons (o_lenM (enc := eapiChange) (xs := x10) rfl rfl .no rfl sl34) <|
        .cons (o_bin rfl rfl .no rfl rfl (b_rem _ _ hx59g) rfl) <|
        .cons (o_as rfl rfl .no rfl) <|
        .nil rfl
      ) ?_)
      obtain ⟨x61, hx62, h63⟩ := bind_some h60
      have hx62g := cutB_some hx62
      obtain ⟨x64, hx65, h66⟩ := bind_some h63
      have hx65g := fits_some hx65
      obtain ⟨x67, hx68, h69⟩ := bind_some h66
      have hx68g := cutB_some hx68
      obtain ⟨x70, hx71, h72⟩ := bind_some h69
      have hx71g := fits_some hx71
      refine cw_seq (cw_region_any mixed (by kernel_rfl) (
        .cons (o_bslO (rows := ([] : List ((List UInt8) × ByteArray × Bool)).map eapiChange) 0 rfl rfl .no .nil rfl sl34 sz38 ze38 rfl (map_sz siapiChange) (by decide) rfl) <|
        .cons (o_mv rfl rfl .no rfl) <|
        .cons (o_mv rfl rfl .no rfl) <|
        .cons (o_slM (enc := eapiChange) (xs := x10) rfl rfl .no rfl sl34 sz38 .no (.val rfl hx62g.2.1) hx62g.2.2.1 hx62g.2.2.2) <|
        .cons (o_appM (enc := eapiChange) (xs := ([] : List ((List UInt8) × ByteArray × Bool))) (ys := (piece x10 0 (Int.tmod (bitsAnd .i64 a2 255) (x10.length : Int)))) rfl rfl .no rfl rfl rfl siapiChange sl34 sl34 sz38 by38 ze38 rfl (by decide) hx65g) <|
        .cons (o_mv rfl rfl .no rfl) <|
        .cons (o_mv rfl rfl .no rfl) <|
        .cons (o_bin rfl rfl .no rfl rfl (b_add _ _) rfl) <|
        .cons (o_slM (enc := eapiChange) (xs := x10) rfl rfl .no rfl sl34 sz38 (.val rfl hx68g.1) .no hx68g.2.2.1 hx68g.2.2.2) <|
        .cons (o_appM (enc := eapiChange) (xs := (([] : List ((List UInt8) × ByteArray × Bool)) ++ (piece x10 0 (Int.tmod (bitsAnd .i64 a2 255) (x10.length : Int))))) (ys := (piece x10 (IntKind.wrap .i64 ((Int.tmod (bitsAnd .i64 a2 255) (x10.length : Int)) + 1)) (x10.length : Int))) rfl rfl .no rfl rfl rfl siapiChange sl34 sl34 sz38 by38 ze38 rfl (by decide) hx71g) <|
        .cons (o_as rfl rfl .no rfl) <|
        .nil rfl
      ) (by kernel_rfl) ?_)
      refine cw_weak (weak_of (l := [(0, .d (eSapiPair x4)), (1, .d (eSapiPair x7)), (7, .d (ebool x1)), (8, .d (eSapiChange x10)), (9, .d (ebool x19)), (11, .d (eSapiChange ((([] : List ((List UInt8) × ByteArray × Bool)) ++ (piece x10 0 (Int.tmod (bitsAnd .i64 a2 255) (x10.length : Int)))) ++ (piece x10 (IntKind.wrap .i64 ((Int.tmod (bitsAnd .i64 a2 255) (x10.length : Int)) + 1)) (x10.length : Int)))))]) (m := []) ⟨⟨_, rfl, .d rfl⟩, ⟨_, rfl, .d rfl⟩, ⟨_, rfl, .d rfl⟩, ⟨_, rfl, .d rfl⟩, ⟨_, rfl, .d rfl⟩, ⟨_, rfl, .frz rfl rfl rfl⟩, trivial⟩ trivial drop0) ?_
      obtain ⟨x76, hx77, h78⟩ := bind_some h72
      obtain ⟨x79, hx80, h81⟩ := bind_some h78
      refine cw_seq (cw_region (
        .cons (o_mv rfl rfl .no rfl) <|
        .cons (o_mv rfl rfl .no rfl) <|
        .cons (o_call rfl rfl .no Try.func17 rfl rfl (delta_Apply_ok hx77) (.cons rfl .d (.cons rfl .d .nil)) ⟨trivial, trivial, trivial⟩ (.inl rfl)) <|
        .cons (o_mv rfl rfl .no rfl) <|
        .cons (o_call rfl rfl .no Try.func12 rfl rfl (delta_Map_ok hx17) (.cons rfl .d .nil) ⟨trivial, trivial⟩ (.inl rfl)) <|
        .cons (o_call rfl rfl .no Try.func15 rfl rfl (ref09_Same_ok hx80) (.cons rfl .d (.cons rfl .d .nil)) ⟨trivial, trivial, trivial⟩ (.inl rfl)) <|
        .nil rfl
      ) ?_)
      rcases cond_some h81 with ⟨hc82, h83⟩ | ⟨hc82, h84⟩
      · refine cw_condT rfl hc82 ?_
        refine cw_seq (cw_region (
          .cons (o_as rfl rfl .no rfl) <|
          .nil rfl
        ) ?_)
        have he85 := ((Option.some.inj h83).symm).symm
        subst he85
        have heq := ((Option.some.inj h54).symm).symm
        subst heq
        exact cw_weak (weak_of (l := [(6, .d (ebool false))]) (m := []) ⟨⟨_, rfl, .d rfl⟩, trivial⟩ trivial drop0) (cw_ret ⟨.inr rfl, _, res1 rfl rfl, rfl, rfl⟩)
      · refine cw_condF rfl hc82 ?_
        refine cw_skip ?_
        exact ⟨(), (Option.some.inj h84).symm, weak_of ⟨⟨_, rfl, .d rfl⟩, ⟨_, rfl, .d rfl⟩, ⟨_, rfl, .d rfl⟩, ⟨_, rfl, .d rfl⟩, trivial⟩ trivial drop0⟩
    · refine cw_condF rfl hc55 ?_
      refine cw_skip ?_
      exact ⟨(), (Option.some.inj h57).symm, weak_of ⟨⟨_, rfl, .d rfl⟩, ⟨_, rfl, .d rfl⟩, ⟨_, rfl, .d rfl⟩, ⟨_, rfl, .d rfl⟩, trivial⟩ trivial drop0⟩

end
end Go.Val
