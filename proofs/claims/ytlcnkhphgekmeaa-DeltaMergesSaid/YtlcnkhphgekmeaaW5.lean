/- Walks of the program's functions, printed. -/
import Derived.Test.YtlcnkhphgekmeaaWc
set_option linter.unusedSectionVars false
set_option linter.unusedVariables false
set_option linter.unusedSimpArgs false
namespace Go.Val
open Go.RowKit Go.Proofs

section
variable [NoDrw]

noncomputable def law09_DeltaMerges (a0 : List ((List UInt8) × ByteArray)) (a1 : List ((List UInt8) × ByteArray)) (a2 : List ((List UInt8) × ByteArray)) : Option Bool :=
  (law09_shown).bind fun x1 =>
  (law09_cut a0).bind fun x4 =>
  (law09_cut a1).bind fun x7 =>
  (law09_cut a2).bind fun x10 =>
  (delta_Merge x4 x7 x10).bind fun x13 =>
  (delta_Merge x4 x10 x7).bind fun x16 =>
  (delta_Diff x4 x10).bind fun x19 =>
  (delta_Apply x7 x19).bind fun x22 =>
  (ref09_Same x13.1 x22).bind fun x25 =>
  (ref09_SameKeys x13.2 x16.2).bind fun x28 =>
  (ref09_Same x13.1 x16.1).bind fun x31 =>
  (delta_Merge x7 x7 x10).bind fun x34 =>
  (delta_Merge x10 x7 x10).bind fun x37 =>
  (((
    (delta_Map x10).bind fun x58 =>
    (ref09_Same x34.1 x58).bind fun x61 =>
    cond x61 (
      some (decide ((x34.2.length : Int) = 0))
    ) (
      some false
    )
  ) : Option Bool)).bind fun o55 =>
  (((
    (delta_Map x7).bind fun x85 =>
    (ref09_Same x37.1 x85).bind fun x88 =>
    cond x88 (
      some (decide ((x37.2.length : Int) = 0))
    ) (
      some false
    )
  ) : Option Bool)).bind fun o82 =>
  (((
    cond x1 (
      cond x25 (
        cond x28 (
          cond (decide ((x13.2.length : Int) > 0)) (
            cond o55 (
              some o82
            ) (
              some false
            )
          ) (
            cond x31 (
              cond o55 (
                some o82
              ) (
                some false
              )
            ) (
              some false
            )
          )
        ) (
          some false
        )
      ) (
        some false
      )
    ) (
      some false
    )
  ) : Option Bool)).bind fun o115 =>
  some o115

set_option maxRecDepth 100000 in
theorem law09_DeltaMerges_ok {a0 : List ((List UInt8) × ByteArray)} {a1 : List ((List UInt8) × ByteArray)} {a2 : List ((List UInt8) × ByteArray)} {r : Bool} (h : law09_DeltaMerges a0 a1 a2 = some r) : FnOk Try.prog 5 [.d (eSapiPair a0), .d (eSapiPair a1), .d (eSapiPair a2)] 0 (lk []) (fun rr oo => rr = .d (ebool r) ∧ oo = lk []) := by
  refine fnOk_of Try.func5 rfl rfl ?_
  unfold law09_DeltaMerges at h
  refine cw_seq (cw_region (
    .cons (o_as rfl rfl .no rfl) <|
    .nil rfl
  ) ?_)
  obtain ⟨x1, hx2, h3⟩ := bind_some h
  refine cw_seq (cw_region (
    .cons (o_call rfl rfl .no Try.func10 rfl rfl (law09_shown_ok hx2) .nil trivial (.inl rfl)) <|
    .cons (o_as rfl rfl .no rfl) <|
    .nil rfl
  ) ?_)
  obtain ⟨x4, hx5, h6⟩ := bind_some h3
  refine cw_seq (cw_region (
    .cons (o_mv rfl rfl .no rfl) <|
    .cons (o_call rfl rfl .no Try.func11 rfl rfl (law09_cut_ok hx5) (.cons rfl .d .nil) ⟨trivial, trivial⟩ (.inl rfl)) <|
    .cons (o_as rfl rfl .no rfl) <|
    .nil rfl
  ) ?_)
  obtain ⟨x7, hx8, h9⟩ := bind_some h6
  refine cw_seq (cw_region (
    .cons (o_mv rfl rfl .no rfl) <|
    .cons (o_call rfl rfl .no Try.func11 rfl rfl (law09_cut_ok hx8) (.cons rfl .d .nil) ⟨trivial, trivial⟩ (.inl rfl)) <|
    .cons (o_as rfl rfl .no rfl) <|
    .nil rfl
  ) ?_)
  obtain ⟨x10, hx11, h12⟩ := bind_some h9
  refine cw_seq (cw_region (
    .cons (o_mv rfl rfl .no rfl) <|
    .cons (o_call rfl rfl .no Try.func11 rfl rfl (law09_cut_ok hx11) (.cons rfl .d .nil) ⟨trivial, trivial⟩ (.inl rfl)) <|
    .cons (o_as rfl rfl .no rfl) <|
    .nil rfl
  ) ?_)
  obtain ⟨x13, hx14, h15⟩ := bind_some h12
  refine cw_seq (cw_region (
    .cons (o_mv rfl rfl .no rfl) <|
    .cons (o_mv rfl rfl .no rfl) <|
    .cons (o_mv rfl rfl .no rfl) <|
    .cons (o_call rfl rfl .no Try.func18 rfl rfl (delta_Merge_ok hx14) (.cons rfl .d (.cons rfl .d (.cons rfl .d .nil))) ⟨trivial, trivial, trivial, trivial⟩ (.inl rfl)) <|
    .cons (o_mv rfl rfl .no rfl) <|
    .cons (o_ext rfl rfl .no rfl rfl) <|
    .cons (o_ext rfl rfl .no rfl rfl) <|
    .cons (o_as rfl rfl .no rfl) <|
    .cons (o_as rfl rfl .no rfl) <|
    .nil rfl
  ) ?_)
  obtain ⟨x16, hx17, h18⟩ := bind_some h15
  refine cw_seq (cw_region (
    .cons (o_mv rfl rfl .no rfl) <|
    .cons (o_mv rfl rfl .no rfl) <|
    .cons (o_mv rfl rfl .no rfl) <|
    .cons (o_call rfl rfl .no Try.func18 rfl rfl (delta_Merge_ok hx17) (.cons rfl .d (.cons rfl .d (.cons rfl .d .nil))) ⟨trivial, trivial, trivial, trivial⟩ (.inl rfl)) <|
    .cons (o_mv rfl rfl .no rfl) <|
    .cons (o_ext rfl rfl .no rfl rfl) <|
    .cons (o_ext rfl rfl .no rfl rfl) <|
    .cons (o_as rfl rfl .no rfl) <|
    .cons (o_as rfl rfl .no rfl) <|
    .nil rfl
  ) ?_)
  obtain ⟨x19, hx20, h21⟩ := bind_some h18
  obtain ⟨x22, hx23, h24⟩ := bind_some h21
  obtain ⟨x25, hx26, h27⟩ := bind_some h24
  refine cw_seq (cw_region (
    .cons (o_mv rfl rfl .no rfl) <|
    .cons (o_mv rfl rfl .no rfl) <|
    .cons (o_mv rfl rfl .no rfl) <|
    .cons (o_mv rfl rfl .no rfl) <|
    .cons (o_call rfl rfl .no Try.func16 rfl rfl (delta_Diff_ok hx20) (.cons rfl .d (.cons rfl .d .nil)) ⟨trivial, trivial, trivial⟩ (.inl rfl)) <|
    .cons (o_call rfl rfl .no Try.func17 rfl rfl (delta_Apply_ok hx23) (.cons rfl .d (.cons rfl .d .nil)) ⟨trivial, trivial, trivial⟩ (.inl rfl)) <|
    .cons (o_call rfl rfl .no Try.func15 rfl rfl (ref09_Same_ok hx26) (.cons rfl .d (.cons rfl .d .nil)) ⟨trivial, trivial, trivial⟩ (.inl rfl)) <|
    .cons (o_as rfl rfl .no rfl) <|
    .nil rfl
  ) ?_)
  obtain ⟨x28, hx29, h30⟩ := bind_some h27
  refine cw_seq (cw_region (
    .cons (o_mv rfl rfl .no rfl) <|
    .cons (o_mv rfl rfl .no rfl) <|
    .cons (o_call rfl rfl .no Try.func19 rfl rfl (ref09_SameKeys_ok hx29) (.cons rfl .d (.cons rfl .d .nil)) ⟨trivial, trivial, trivial⟩ (.inl rfl)) <|
    .cons (o_as rfl rfl .no rfl) <|
    .nil rfl
  ) ?_)
  obtain ⟨x31, hx32, h33⟩ := bind_some h30
  refine cw_seq (cw_region (
    .cons (o_mv rfl rfl .no rfl) <|
    .cons (o_mv rfl rfl .no rfl) <|
    .cons (o_call rfl rfl .no Try.func15 rfl rfl (ref09_Same_ok hx32) (.cons rfl .d (.cons rfl .d .nil)) ⟨trivial, trivial, trivial⟩ (.inl rfl)) <|
    .cons (o_as rfl rfl .no rfl) <|
    .nil rfl
  ) ?_)
  obtain ⟨x34, hx35, h36⟩ := bind_some h33
  refine cw_seq (cw_region (
    .cons (o_mv rfl rfl .no rfl) <|
    .cons (o_mv rfl rfl .no rfl) <|
    .cons (o_mv rfl rfl .no rfl) <|
    .cons (o_call rfl rfl .no Try.func18 rfl rfl (delta_Merge_ok hx35) (.cons rfl .d (.cons rfl .d (.cons rfl .d .nil))) ⟨trivial, trivial, trivial, trivial⟩ (.inl rfl)) <|
    .cons (o_mv rfl rfl .no rfl) <|
    .cons (o_ext rfl rfl .no rfl rfl) <|
    .cons (o_ext rfl rfl .no rfl rfl) <|
    .cons (o_as rfl rfl .no rfl) <|
    .cons (o_as rfl rfl .no rfl) <|
    .nil rfl
  ) ?_)
  obtain ⟨x37, hx38, h39⟩ := bind_some h36
  refine cw_seq (cw_region (
    .cons (o_mv rfl rfl .no rfl) <|
    .cons (o_mv rfl rfl .no rfl) <|
    .cons (o_mv rfl rfl .no rfl) <|
    .cons (o_call rfl rfl .no Try.func18 rfl rfl (delta_Merge_ok hx38) (.cons rfl .d (.cons rfl .d (.cons rfl .d .nil))) ⟨trivial, trivial, trivial, trivial⟩ (.inl rfl)) <|
    .cons (o_mv rfl rfl .no rfl) <|
    .cons (o_ext rfl rfl .no rfl rfl) <|
    .cons (o_ext rfl rfl .no rfl rfl) <|
    .cons (o_as rfl rfl .no rfl) <|
    .cons (o_as rfl rfl .no rfl) <|
    .nil rfl
  ) ?_)
  obtain ⟨o55, hj56, h57⟩ := bind_some h39
  refine cw_join (fun (z : Bool) => St.of [(1, .d (eSapiPair x7)), (7, .d (ebool x1)), (9, .d (eSapiKey x13.2)), (12, .d (ebool x25)), (13, .d (ebool x28)), (14, .d (ebool x31)), (17, .d (eSapiPair x37.1)), (18, .d (eSapiKey x37.2)), (19, .d (ebool z))] []) (fun (z : Bool) => o55 = z) ?_ ?_
  · intro v143 hv144; subst hv144
    obtain ⟨o82, hj83, h84⟩ := bind_some h57
    refine cw_join (fun (z : Bool) => St.of [(7, .d (ebool x1)), (9, .d (eSapiKey x13.2)), (12, .d (ebool x25)), (13, .d (ebool x28)), (14, .d (ebool x31)), (19, .d (ebool o55)), (20, .d (ebool z))] []) (fun (z : Bool) => o82 = z) ?_ ?_
    · intro v141 hv142; subst hv142
      obtain ⟨o115, hj116, h117⟩ := bind_some h84
      refine cw_join (fun (z : Bool) => St.of [(6, .d (ebool z))] []) (fun (z : Bool) => o115 = z) ?_ ?_
      · intro v139 hv140; subst hv140
        have heq := ((Option.some.inj h117).symm).symm
        subst heq
        exact cw_weak (weak_of (l := [(6, .d (ebool o115))]) (m := []) ⟨⟨_, rfl, .d rfl⟩, trivial⟩ trivial drop0) (cw_ret ⟨.inr rfl, _, res1 rfl rfl, rfl, rfl⟩)
      · skip
        rcases cond_some hj116 with ⟨hc118, h119⟩ | ⟨hc118, h120⟩
        · skip
          rcases cond_some h119 with ⟨hc121, h122⟩ | ⟨hc121, h123⟩
          · skip
            rcases cond_some h122 with ⟨hc124, h125⟩ | ⟨hc124, h126⟩
            · skip
              rcases cond_some h125 with ⟨hc127, h128⟩ | ⟨hc127, h129⟩
              · skip
                rcases cond_some h128 with ⟨hc130, h131⟩ | ⟨hc130, h132⟩
                · skip
                  refine cw_region (
                    .cons (o_mv rfl rfl .no rfl) <|
                    .cons (o_mv rfl rfl .no rfl) <|
                    .cons (o_mv rfl rfl (.yes rfl rfl hc118) rfl) <|
                    .cons (o_pickT rfl rfl .no rfl hc118 rfl) <|
                    .cons (o_mv rfl rfl .no rfl) <|
                    .cons (o_mv rfl rfl (.yes rfl rfl hc121) rfl) <|
                    .cons (o_pickT rfl rfl .no rfl hc121 rfl) <|
                    .cons (o_mv rfl rfl .no rfl) <|
                    .cons (o_mv rfl rfl (.yes rfl rfl hc124) rfl) <|
                    .cons (o_lenM (enc := eapiKey) (xs := x13.2) rfl rfl (.yes rfl rfl hc124) rfl sl40) <|
                    .cons (o_bin rfl rfl (.yes rfl rfl hc124) rfl rfl (b_gtr _ _) rfl) <|
                    .cons (o_mv rfl rfl (.yes rfl rfl hc124) rfl) <|
                    .cons (o_noT rfl rfl rfl rfl hc127) <|
                    .cons (o_pickT rfl rfl (.yes rfl rfl hc124) rfl hc127 rfl) <|
                    .cons (o_pickT rfl rfl .no rfl hc124 rfl) <|
                    .cons (o_mv rfl rfl .no rfl) <|
                    .cons (o_mv rfl rfl (.yes rfl rfl rfl) rfl) <|
                    .cons (o_pickT rfl rfl .no rfl rfl rfl) <|
                    .cons (o_mv rfl rfl .no rfl) <|
                    .cons (o_mv rfl rfl (.yes rfl rfl hc130) rfl) <|
                    .cons (o_pickT rfl rfl .no rfl hc130 rfl) <|
                    .cons (o_as rfl rfl .no rfl) <|
                    .nil rfl
                  ) ?_
                  exact ⟨o82, (Option.some.inj h131).symm, weak_of ⟨⟨_, rfl, .d rfl⟩, trivial⟩ trivial drop0⟩
                · skip
                  refine cw_region (
                    .cons (o_mv rfl rfl .no rfl) <|
                    .cons (o_mv rfl rfl .no rfl) <|
                    .cons (o_mv rfl rfl (.yes rfl rfl hc118) rfl) <|
                    .cons (o_pickT rfl rfl .no rfl hc118 rfl) <|
                    .cons (o_mv rfl rfl .no rfl) <|
                    .cons (o_mv rfl rfl (.yes rfl rfl hc121) rfl) <|
                    .cons (o_pickT rfl rfl .no rfl hc121 rfl) <|
                    .cons (o_mv rfl rfl .no rfl) <|
                    .cons (o_mv rfl rfl (.yes rfl rfl hc124) rfl) <|
                    .cons (o_lenM (enc := eapiKey) (xs := x13.2) rfl rfl (.yes rfl rfl hc124) rfl sl40) <|
                    .cons (o_bin rfl rfl (.yes rfl rfl hc124) rfl rfl (b_gtr _ _) rfl) <|
                    .cons (o_mv rfl rfl (.yes rfl rfl hc124) rfl) <|
                    .cons (o_noT rfl rfl rfl rfl hc127) <|
                    .cons (o_pickT rfl rfl (.yes rfl rfl hc124) rfl hc127 rfl) <|
                    .cons (o_pickT rfl rfl .no rfl hc124 rfl) <|
                    .cons (o_mv rfl rfl .no rfl) <|
                    .cons (o_mv rfl rfl (.yes rfl rfl rfl) rfl) <|
                    .cons (o_pickT rfl rfl .no rfl rfl rfl) <|
                    .cons (o_mv rfl rfl .no rfl) <|
                    .cons (o_noT rfl rfl rfl rfl hc130) <|
                    .cons (o_pickF rfl rfl .no rfl hc130 rfl) <|
                    .cons (o_as rfl rfl .no rfl) <|
                    .nil rfl
                  ) ?_
                  exact ⟨false, (Option.some.inj h132).symm, weak_of ⟨⟨_, rfl, .d rfl⟩, trivial⟩ trivial drop0⟩
              · skip
                rcases cond_some h129 with ⟨hc133, h134⟩ | ⟨hc133, h135⟩
                · skip
                  rcases cond_some h134 with ⟨hc136, h137⟩ | ⟨hc136, h138⟩
                  · skip
                    refine cw_region (
                      .cons (o_mv rfl rfl .no rfl) <|
                      .cons (o_mv rfl rfl .no rfl) <|
                      .cons (o_mv rfl rfl (.yes rfl rfl hc118) rfl) <|
                      .cons (o_pickT rfl rfl .no rfl hc118 rfl) <|
                      .cons (o_mv rfl rfl .no rfl) <|
                      .cons (o_mv rfl rfl (.yes rfl rfl hc121) rfl) <|
                      .cons (o_pickT rfl rfl .no rfl hc121 rfl) <|
                      .cons (o_mv rfl rfl .no rfl) <|
                      .cons (o_mv rfl rfl (.yes rfl rfl hc124) rfl) <|
                      .cons (o_lenM (enc := eapiKey) (xs := x13.2) rfl rfl (.yes rfl rfl hc124) rfl sl40) <|
                      .cons (o_bin rfl rfl (.yes rfl rfl hc124) rfl rfl (b_gtr _ _) rfl) <|
                      .cons (o_mv rfl rfl (.yes rfl rfl hc124) rfl) <|
                      .cons (o_mv rfl rfl (.yes rfl rfl hc127) rfl) <|
                      .cons (o_pickF rfl rfl (.yes rfl rfl hc124) rfl hc127 rfl) <|
                      .cons (o_pickT rfl rfl .no rfl hc124 rfl) <|
                      .cons (o_mv rfl rfl .no rfl) <|
                      .cons (o_mv rfl rfl (.yes rfl rfl hc133) rfl) <|
                      .cons (o_pickT rfl rfl .no rfl hc133 rfl) <|
                      .cons (o_mv rfl rfl .no rfl) <|
                      .cons (o_mv rfl rfl (.yes rfl rfl hc136) rfl) <|
                      .cons (o_pickT rfl rfl .no rfl hc136 rfl) <|
                      .cons (o_as rfl rfl .no rfl) <|
                      .nil rfl
                    ) ?_
                    exact ⟨o82, (Option.some.inj h137).symm, weak_of ⟨⟨_, rfl, .d rfl⟩, trivial⟩ trivial drop0⟩
                  · skip
                    refine cw_region (
                      .cons (o_mv rfl rfl .no rfl) <|
                      .cons (o_mv rfl rfl .no rfl) <|
                      .cons (o_mv rfl rfl (.yes rfl rfl hc118) rfl) <|
                      .cons (o_pickT rfl rfl .no rfl hc118 rfl) <|
                      .cons (o_mv rfl rfl .no rfl) <|
                      .cons (o_mv rfl rfl (.yes rfl rfl hc121) rfl) <|
                      .cons (o_pickT rfl rfl .no rfl hc121 rfl) <|
                      .cons (o_mv rfl rfl .no rfl) <|
                      .cons (o_mv rfl rfl (.yes rfl rfl hc124) rfl) <|
                      .cons (o_lenM (enc := eapiKey) (xs := x13.2) rfl rfl (.yes rfl rfl hc124) rfl sl40) <|
                      .cons (o_bin rfl rfl (.yes rfl rfl hc124) rfl rfl (b_gtr _ _) rfl) <|
                      .cons (o_mv rfl rfl (.yes rfl rfl hc124) rfl) <|
                      .cons (o_mv rfl rfl (.yes rfl rfl hc127) rfl) <|
                      .cons (o_pickF rfl rfl (.yes rfl rfl hc124) rfl hc127 rfl) <|
                      .cons (o_pickT rfl rfl .no rfl hc124 rfl) <|
                      .cons (o_mv rfl rfl .no rfl) <|
                      .cons (o_mv rfl rfl (.yes rfl rfl hc133) rfl) <|
                      .cons (o_pickT rfl rfl .no rfl hc133 rfl) <|
                      .cons (o_mv rfl rfl .no rfl) <|
                      .cons (o_noT rfl rfl rfl rfl hc136) <|
                      .cons (o_pickF rfl rfl .no rfl hc136 rfl) <|
                      .cons (o_as rfl rfl .no rfl) <|
                      .nil rfl
                    ) ?_
                    exact ⟨false, (Option.some.inj h138).symm, weak_of ⟨⟨_, rfl, .d rfl⟩, trivial⟩ trivial drop0⟩
                · skip
                  refine cw_region (
                    .cons (o_mv rfl rfl .no rfl) <|
                    .cons (o_mv rfl rfl .no rfl) <|
                    .cons (o_mv rfl rfl (.yes rfl rfl hc118) rfl) <|
                    .cons (o_pickT rfl rfl .no rfl hc118 rfl) <|
                    .cons (o_mv rfl rfl .no rfl) <|
                    .cons (o_mv rfl rfl (.yes rfl rfl hc121) rfl) <|
                    .cons (o_pickT rfl rfl .no rfl hc121 rfl) <|
                    .cons (o_mv rfl rfl .no rfl) <|
                    .cons (o_mv rfl rfl (.yes rfl rfl hc124) rfl) <|
                    .cons (o_lenM (enc := eapiKey) (xs := x13.2) rfl rfl (.yes rfl rfl hc124) rfl sl40) <|
                    .cons (o_bin rfl rfl (.yes rfl rfl hc124) rfl rfl (b_gtr _ _) rfl) <|
                    .cons (o_mv rfl rfl (.yes rfl rfl hc124) rfl) <|
                    .cons (o_mv rfl rfl (.yes rfl rfl hc127) rfl) <|
                    .cons (o_pickF rfl rfl (.yes rfl rfl hc124) rfl hc127 rfl) <|
                    .cons (o_pickT rfl rfl .no rfl hc124 rfl) <|
                    .cons (o_mv rfl rfl .no rfl) <|
                    .cons (o_noT rfl rfl rfl rfl hc133) <|
                    .cons (o_pickF rfl rfl .no rfl hc133 rfl) <|
                    .cons (o_mv rfl rfl .no rfl) <|
                    .cons (o_noT rfl rfl rfl rfl rfl) <|
                    .cons (o_pickF rfl rfl .no rfl rfl rfl) <|
                    .cons (o_as rfl rfl .no rfl) <|
                    .nil rfl
                  ) ?_
                  exact ⟨false, (Option.some.inj h135).symm, weak_of ⟨⟨_, rfl, .d rfl⟩, trivial⟩ trivial drop0⟩
            · skip
              refine cw_region (
                .cons (o_mv rfl rfl .no rfl) <|
                .cons (o_mv rfl rfl .no rfl) <|
                .cons (o_mv rfl rfl (.yes rfl rfl hc118) rfl) <|
                .cons (o_pickT rfl rfl .no rfl hc118 rfl) <|
                .cons (o_mv rfl rfl .no rfl) <|
                .cons (o_mv rfl rfl (.yes rfl rfl hc121) rfl) <|
                .cons (o_pickT rfl rfl .no rfl hc121 rfl) <|
                .cons (o_mv rfl rfl .no rfl) <|
                .cons (o_noT rfl rfl rfl rfl hc124) <|
                .cons (o_noT rfl rfl rfl rfl hc124) <|
                .cons (o_noT rfl rfl rfl rfl hc124) <|
                .cons (o_noT rfl rfl rfl rfl hc124) <|
                .cons (o_noU rfl rfl rfl rfl) <|
                .cons (o_noT rfl rfl rfl rfl hc124) <|
                .cons (o_pickF rfl rfl .no rfl hc124 rfl) <|
                .cons (o_mv rfl rfl .no rfl) <|
                .cons (o_noT rfl rfl rfl rfl rfl) <|
                .cons (o_pickF rfl rfl .no rfl rfl rfl) <|
                .cons (o_mv rfl rfl .no rfl) <|
                .cons (o_noT rfl rfl rfl rfl rfl) <|
                .cons (o_pickF rfl rfl .no rfl rfl rfl) <|
                .cons (o_as rfl rfl .no rfl) <|
                .nil rfl
              ) ?_
              exact ⟨false, (Option.some.inj h126).symm, weak_of ⟨⟨_, rfl, .d rfl⟩, trivial⟩ trivial drop0⟩
          · skip
            refine cw_region (
              .cons (o_mv rfl rfl .no rfl) <|
              .cons (o_mv rfl rfl .no rfl) <|
              .cons (o_mv rfl rfl (.yes rfl rfl hc118) rfl) <|
              .cons (o_pickT rfl rfl .no rfl hc118 rfl) <|
              .cons (o_mv rfl rfl .no rfl) <|
              .cons (o_noT rfl rfl rfl rfl hc121) <|
              .cons (o_pickF rfl rfl .no rfl hc121 rfl) <|
              .cons (o_mv rfl rfl .no rfl) <|
              .cons (o_noT rfl rfl rfl rfl rfl) <|
              .cons (o_noT rfl rfl rfl rfl rfl) <|
              .cons (o_noT rfl rfl rfl rfl rfl) <|
              .cons (o_noT rfl rfl rfl rfl rfl) <|
              .cons (o_noU rfl rfl rfl rfl) <|
              .cons (o_noT rfl rfl rfl rfl rfl) <|
              .cons (o_pickF rfl rfl .no rfl rfl rfl) <|
              .cons (o_mv rfl rfl .no rfl) <|
              .cons (o_noT rfl rfl rfl rfl rfl) <|
              .cons (o_pickF rfl rfl .no rfl rfl rfl) <|
              .cons (o_mv rfl rfl .no rfl) <|
              .cons (o_noT rfl rfl rfl rfl rfl) <|
              .cons (o_pickF rfl rfl .no rfl rfl rfl) <|
              .cons (o_as rfl rfl .no rfl) <|
              .nil rfl
            ) ?_
            exact ⟨false, (Option.some.inj h123).symm, weak_of ⟨⟨_, rfl, .d rfl⟩, trivial⟩ trivial drop0⟩
        · skip
          refine cw_region (
            .cons (o_mv rfl rfl .no rfl) <|
            .cons (o_mv rfl rfl .no rfl) <|
            .cons (o_noT rfl rfl rfl rfl hc118) <|
            .cons (o_pickF rfl rfl .no rfl hc118 rfl) <|
            .cons (o_mv rfl rfl .no rfl) <|
            .cons (o_noT rfl rfl rfl rfl rfl) <|
            .cons (o_pickF rfl rfl .no rfl rfl rfl) <|
            .cons (o_mv rfl rfl .no rfl) <|
            .cons (o_noT rfl rfl rfl rfl rfl) <|
            .cons (o_noT rfl rfl rfl rfl rfl) <|
            .cons (o_noT rfl rfl rfl rfl rfl) <|
            .cons (o_noT rfl rfl rfl rfl rfl) <|
            .cons (o_noU rfl rfl rfl rfl) <|
            .cons (o_noT rfl rfl rfl rfl rfl) <|
            .cons (o_pickF rfl rfl .no rfl rfl rfl) <|
            .cons (o_mv rfl rfl .no rfl) <|
            .cons (o_noT rfl rfl rfl rfl rfl) <|
            .cons (o_pickF rfl rfl .no rfl rfl rfl) <|
            .cons (o_mv rfl rfl .no rfl) <|
            .cons (o_noT rfl rfl rfl rfl rfl) <|
            .cons (o_pickF rfl rfl .no rfl rfl rfl) <|
            .cons (o_as rfl rfl .no rfl) <|
            .nil rfl
          ) ?_
          exact ⟨false, (Option.some.inj h120).symm, weak_of ⟨⟨_, rfl, .d rfl⟩, trivial⟩ trivial drop0⟩
    · skip
      obtain ⟨x85, hx86, h87⟩ := bind_some hj83
      obtain ⟨x88, hx89, h90⟩ := bind_some h87
      rcases cond_some h90 with ⟨hc91, h92⟩ | ⟨hc91, h93⟩
      · skip
        refine cw_region (
          .cons (o_mv rfl rfl .no rfl) <|
          .cons (o_mv rfl rfl .no rfl) <|
          .cons (o_call rfl rfl .no Try.func12 rfl rfl (delta_Map_ok hx86) (.cons rfl .d .nil) ⟨trivial, trivial⟩ (.inl rfl)) <|
          .cons (o_call rfl rfl .no Try.func15 rfl rfl (ref09_Same_ok hx89) (.cons rfl .d (.cons rfl .d .nil)) ⟨trivial, trivial, trivial⟩ (.inl rfl)) <|
          .cons (o_mv rfl rfl .no rfl) <|
          .cons (o_mv rfl rfl (.yes rfl rfl hc91) rfl) <|
          .cons (o_lenM (enc := eapiKey) (xs := x37.2) rfl rfl (.yes rfl rfl hc91) rfl sl40) <|
          .cons (o_bin rfl rfl (.yes rfl rfl hc91) rfl rfl (b_eql _ _) rfl) <|
          .cons (o_pickT rfl rfl .no rfl hc91 rfl) <|
          .cons (o_as rfl rfl .no rfl) <|
          .nil rfl
        ) ?_
        exact ⟨(decide ((x37.2.length : Int) = 0)), (Option.some.inj h92).symm, weak_of ⟨⟨_, rfl, .d rfl⟩, ⟨_, rfl, .d rfl⟩, ⟨_, rfl, .d rfl⟩, ⟨_, rfl, .d rfl⟩, ⟨_, rfl, .d rfl⟩, ⟨_, rfl, .d rfl⟩, ⟨_, rfl, .d rfl⟩, trivial⟩ trivial drop0⟩
      · skip
        refine cw_region (
          .cons (o_mv rfl rfl .no rfl) <|
          .cons (o_mv rfl rfl .no rfl) <|
          .cons (o_call rfl rfl .no Try.func12 rfl rfl (delta_Map_ok hx86) (.cons rfl .d .nil) ⟨trivial, trivial⟩ (.inl rfl)) <|
          .cons (o_call rfl rfl .no Try.func15 rfl rfl (ref09_Same_ok hx89) (.cons rfl .d (.cons rfl .d .nil)) ⟨trivial, trivial, trivial⟩ (.inl rfl)) <|
          .cons (o_mv rfl rfl .no rfl) <|
          .cons (o_noT rfl rfl rfl rfl hc91) <|
          .cons (o_noT rfl rfl rfl rfl hc91) <|
          .cons (o_noT rfl rfl rfl rfl hc91) <|
          .cons (o_pickF rfl rfl .no rfl hc91 rfl) <|
          .cons (o_as rfl rfl .no rfl) <|
          .nil rfl
        ) ?_
        exact ⟨false, (Option.some.inj h93).symm, weak_of ⟨⟨_, rfl, .d rfl⟩, ⟨_, rfl, .d rfl⟩, ⟨_, rfl, .d rfl⟩, ⟨_, rfl, .d rfl⟩, ⟨_, rfl, .d rfl⟩, ⟨_, rfl, .d rfl⟩, ⟨_, rfl, .d rfl⟩, trivial⟩ trivial drop0⟩
  · skip
    obtain ⟨x58, hx59, h60⟩ := bind_some hj56
    obtain ⟨x61, hx62, h63⟩ := bind_some h60
    rcases cond_some h63 with ⟨hc64, h65⟩ | ⟨hc64, h66⟩
    · skip
      refine cw_region (
        .cons (o_mv rfl rfl .no rfl) <|
        .cons (o_mv rfl rfl .no rfl) <|
        .cons (o_call rfl rfl .no Try.func12 rfl rfl (delta_Map_ok hx59) (.cons rfl .d .nil) ⟨trivial, trivial⟩ (.inl rfl)) <|
        .cons (o_call rfl rfl .no Try.func15 rfl rfl (ref09_Same_ok hx62) (.cons rfl .d (.cons rfl .d .nil)) ⟨trivial, trivial, trivial⟩ (.inl rfl)) <|
        .cons (o_mv rfl rfl .no rfl) <|
        .cons (o_mv rfl rfl (.yes rfl rfl hc64) rfl) <|
        .cons (o_lenM (enc := eapiKey) (xs := x34.2) rfl rfl (.yes rfl rfl hc64) rfl sl40) <|
        .cons (o_bin rfl rfl (.yes rfl rfl hc64) rfl rfl (b_eql _ _) rfl) <|
        .cons (o_pickT rfl rfl .no rfl hc64 rfl) <|
        .cons (o_as rfl rfl .no rfl) <|
        .nil rfl
      ) ?_
      exact ⟨(decide ((x34.2.length : Int) = 0)), (Option.some.inj h65).symm, weak_of ⟨⟨_, rfl, .d rfl⟩, ⟨_, rfl, .d rfl⟩, ⟨_, rfl, .d rfl⟩, ⟨_, rfl, .d rfl⟩, ⟨_, rfl, .d rfl⟩, ⟨_, rfl, .d rfl⟩, ⟨_, rfl, .d rfl⟩, ⟨_, rfl, .d rfl⟩, ⟨_, rfl, .d rfl⟩, trivial⟩ trivial drop0⟩
    · skip
      refine cw_region (
        .cons (o_mv rfl rfl .no rfl) <|
        .cons (o_mv rfl rfl .no rfl) <|
        .cons (o_call rfl rfl .no Try.func12 rfl rfl (delta_Map_ok hx59) (.cons rfl .d .nil) ⟨trivial, trivial⟩ (.inl rfl)) <|
        .cons (o_call rfl rfl .no Try.func15 rfl rfl (ref09_Same_ok hx62) (.cons rfl .d (.cons rfl .d .nil)) ⟨trivial, trivial, trivial⟩ (.inl rfl)) <|
        .cons (o_mv rfl rfl .no rfl) <|
        .cons (o_noT rfl rfl rfl rfl hc64) <|
        .cons (o_noT rfl rfl rfl rfl hc64) <|
        .cons (o_noT rfl rfl rfl rfl hc64) <|
        .cons (o_pickF rfl rfl .no rfl hc64 rfl) <|
        .cons (o_as rfl rfl .no rfl) <|
        .nil rfl
      ) ?_
      exact ⟨false, (Option.some.inj h66).symm, weak_of ⟨⟨_, rfl, .d rfl⟩, ⟨_, rfl, .d rfl⟩, ⟨_, rfl, .d rfl⟩, ⟨_, rfl, .d rfl⟩, ⟨_, rfl, .d rfl⟩, ⟨_, rfl, .d rfl⟩, ⟨_, rfl, .d rfl⟩, ⟨_, rfl, .d rfl⟩, ⟨_, rfl, .d rfl⟩, trivial⟩ trivial drop0⟩

end
end Go.Val
