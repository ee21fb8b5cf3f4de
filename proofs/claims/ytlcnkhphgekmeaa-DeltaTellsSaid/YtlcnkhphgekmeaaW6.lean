/- Walks of the program's functions, printed. -/
import Derived.Test.YtlcnkhphgekmeaaWc
set_option linter.unusedSectionVars false
set_option linter.unusedVariables false
set_option linter.unusedSimpArgs false
namespace Go.Val
open Go.RowKit Go.Proofs

section
variable [NoDrw]

noncomputable def law09_DeltaTells (a0 : List ((List UInt8) × ByteArray)) (a1 : List ((List UInt8) × ByteArray)) (a2 : List ((List UInt8) × ByteArray)) (a3 : List ((List UInt8) × ByteArray × Bool)) (a4 : List ((List UInt8) × ByteArray × Bool)) : Option Bool :=
  (law09_shown).bind fun x1 =>
  (law09_cut a0).bind fun x4 =>
  (law09_cut a1).bind fun x7 =>
  (law09_cut a2).bind fun x10 =>
  (law09_changes a3).bind fun x13 =>
  (law09_changes a4).bind fun x16 =>
  (delta_Map x4).bind fun x19 =>
  (ref09_Map x4).bind fun x22 =>
  (ref09_Same x19 x22).bind fun x25 =>
  (delta_Apply x4 x13).bind fun x28 =>
  (ref09_Apply x4 x13).bind fun x31 =>
  (ref09_Same x28 x31).bind fun x34 =>
  (delta_Diff x4 x7).bind fun x37 =>
  (ref09_Diff x4 x7).bind fun x40 =>
  (ref09_SameChanges x37 x40).bind fun x43 =>
  (delta_Join ([x13, x16])).bind fun x46 =>
  (ref09_Join ([x13, x16])).bind fun x49 =>
  (ref09_SameChanges x46 x49).bind fun x52 =>
  (delta_Merge x4 x7 x10).bind fun x55 =>
  (ref09_Merge x4 x7 x10).bind fun x58 =>
  (((
    (ref09_Same x55.1 x58.1).bind fun x76 =>
    cond x76 (
      (ref09_SameKeys x55.2 x58.2).bind fun x82 =>
      some x82
    ) (
      some false
    )
  ) : Option Bool)).bind fun o73 =>
  (((
    (ref09_Same x4 x4).bind fun x118 =>
    cond x118 (
      (ref09_Same x7 x7).bind fun x124 =>
      cond x124 (
        (ref09_Same x10 x10).bind fun x130 =>
        cond x130 (
          (ref09_SameChanges x13 x13).bind fun x136 =>
          cond x136 (
            (ref09_SameChanges x16 x16).bind fun x142 =>
            some x142
          ) (
            some false
          )
        ) (
          some false
        )
      ) (
        some false
      )
    ) (
      some false
    )
  ) : Option Bool)).bind fun o115 =>
  (((
    cond x1 (
      cond x25 (
        cond x34 (
          cond x43 (
            cond x52 (
              cond o73 (
                some o115
              ) (
                some false
              )
            ) (
              some false
            )
          ) (
            some false
          )
        ) (
          some false
        )
      ) (
        some false
      )
    ) (
      some false
    )
  ) : Option Bool)).bind fun o163 =>
  some o163

set_option maxRecDepth 100000 in
theorem law09_DeltaTells_ok {a0 : List ((List UInt8) × ByteArray)} {a1 : List ((List UInt8) × ByteArray)} {a2 : List ((List UInt8) × ByteArray)} {a3 : List ((List UInt8) × ByteArray × Bool)} {a4 : List ((List UInt8) × ByteArray × Bool)} {r : Bool} (h : law09_DeltaTells a0 a1 a2 a3 a4 = some r) : FnOk Try.prog 6 [.d (eSapiPair a0), .d (eSapiPair a1), .d (eSapiPair a2), .d (eSapiChange a3), .d (eSapiChange a4)] 0 (lk []) (fun rr oo => rr = .d (ebool r) ∧ oo = lk []) := by
  refine fnOk_of Try.func6 rfl rfl ?_
  unfold law09_DeltaTells at h
  refine cw_seq (cw_region (
    .cons (o_as rfl rfl .no rfl) <|
    .nil rfl
  ) ?_)
  obtain ⟨x1, hx2, h3⟩ := bind_some h
  refine cw_seq (cw_region (
    .cons (o_call rfl rfl .no Try.func10 rfl rfl (law09_shown_ok hx2) .nil trivial (.inl rfl)) <|
    .cons (o_as rfl rfl .no rfl) <|
    .nil rfl
  ) ?_)
  obtain ⟨x4, hx5, h6⟩ := bind_some h3
  refine cw_seq (cw_region (
    .cons (o_mv rfl rfl .no rfl) <|
    .cons (o_call rfl rfl .no Try.func11 rfl rfl (law09_cut_ok hx5) (.cons rfl .d .nil) ⟨trivial, trivial⟩ (.inl rfl)) <|
    .cons (o_as rfl rfl .no rfl) <|
    .nil rfl
  ) ?_)
  obtain ⟨x7, hx8, h9⟩ := bind_some h6
  refine cw_seq (cw_region (
    .cons (o_mv rfl rfl .no rfl) <|
    .cons (o_call rfl rfl .no Try.func11 rfl rfl (law09_cut_ok hx8) (.cons rfl .d .nil) ⟨trivial, trivial⟩ (.inl rfl)) <|
    .cons (o_as rfl rfl .no rfl) <|
    .nil rfl
  ) ?_)
  obtain ⟨x10, hx11, h12⟩ := bind_some h9
  refine cw_seq (cw_region (
    .cons (o_mv rfl rfl .no rfl) <|
    .cons (o_call rfl rfl .no Try.func11 rfl rfl (law09_cut_ok hx11) (.cons rfl .d .nil) ⟨trivial, trivial⟩ (.inl rfl)) <|
    .cons (o_as rfl rfl .no rfl) <|
    .nil rfl
  ) ?_)
  obtain ⟨x13, hx14, h15⟩ := bind_some h12
  refine cw_seq (cw_region (
    .cons (o_mv rfl rfl .no rfl) <|
    .cons (o_call rfl rfl .no Try.func20 rfl rfl (law09_changes_ok hx14) (.cons rfl .d .nil) ⟨trivial, trivial⟩ (.inl rfl)) <|
    .cons (o_as rfl rfl .no rfl) <|
    .nil rfl
  ) ?_)
  obtain ⟨x16, hx17, h18⟩ := bind_some h15
  refine cw_seq (cw_region (
    .cons (o_mv rfl rfl .no rfl) <|
    .cons (o_call rfl rfl .no Try.func20 rfl rfl (law09_changes_ok hx17) (.cons rfl .d .nil) ⟨trivial, trivial⟩ (.inl rfl)) <|
    .cons (o_as rfl rfl .no rfl) <|
    .nil rfl
  ) ?_)
  obtain ⟨x19, hx20, h21⟩ := bind_some h18
  obtain ⟨x22, hx23, h24⟩ := bind_some h21
  obtain ⟨x25, hx26, h27⟩ := bind_some h24
  refine cw_seq (cw_region (
    .cons (o_mv rfl rfl .no rfl) <|
    .cons (o_call rfl rfl .no Try.func12 rfl rfl (delta_Map_ok hx20) (.cons rfl .d .nil) ⟨trivial, trivial⟩ (.inl rfl)) <|
    .cons (o_mv rfl rfl .no rfl) <|
    .cons (o_call rfl rfl .no Try.func11 rfl rfl (law09_cut_ok hx5) (.cons rfl .d .nil) ⟨trivial, trivial⟩ (.inl rfl)) <|
    .cons (o_call rfl rfl .no Try.func21 rfl rfl (ref09_Map_ok hx23) (.cons rfl .d .nil) ⟨trivial, trivial⟩ (.inl rfl)) <|
    .cons (o_call rfl rfl .no Try.func15 rfl rfl (ref09_Same_ok hx26) (.cons rfl .d (.cons rfl .d .nil)) ⟨trivial, trivial, trivial⟩ (.inl rfl)) <|
    .cons (o_as rfl rfl .no rfl) <|
    .nil rfl
  ) ?_)
  obtain ⟨x28, hx29, h30⟩ := bind_some h27
  obtain ⟨x31, hx32, h33⟩ := bind_some h30
  obtain ⟨x34, hx35, h36⟩ := bind_some h33
  refine cw_seq (cw_region (
    .cons (o_mv rfl rfl .no rfl) <|
    .cons (o_mv rfl rfl .no rfl) <|
    .cons (o_call rfl rfl .no Try.func17 rfl rfl (delta_Apply_ok hx29) (.cons rfl .d (.cons rfl .d .nil)) ⟨trivial, trivial, trivial⟩ (.inl rfl)) <|
    .cons (o_mv rfl rfl .no rfl) <|
    .cons (o_call rfl rfl .no Try.func11 rfl rfl (law09_cut_ok hx5) (.cons rfl .d .nil) ⟨trivial, trivial⟩ (.inl rfl)) <|
    .cons (o_mv rfl rfl .no rfl) <|
    .cons (o_call rfl rfl .no Try.func20 rfl rfl (law09_changes_ok hx14) (.cons rfl .d .nil) ⟨trivial, trivial⟩ (.inl rfl)) <|
    .cons (o_call rfl rfl .no Try.func22 rfl rfl (ref09_Apply_ok hx32) (.cons rfl .d (.cons rfl .d .nil)) ⟨trivial, trivial, trivial⟩ (.inl rfl)) <|
    .cons (o_call rfl rfl .no Try.func15 rfl rfl (ref09_Same_ok hx35) (.cons rfl .d (.cons rfl .d .nil)) ⟨trivial, trivial, trivial⟩ (.inl rfl)) <|
    .cons (o_as rfl rfl .no rfl) <|
    .nil rfl
  ) ?_)
  obtain ⟨x37, hx38, h39⟩ := bind_some h36
  obtain ⟨x40, hx41, h42⟩ := bind_some h39
  obtain ⟨x43, hx44, h45⟩ := bind_some h42
  refine cw_seq (cw_region (
    .cons (o_mv rfl rfl .no rfl) <|
    .cons (o_mv rfl rfl .no rfl) <|
    .cons (o_call rfl rfl .no Try.func16 rfl rfl (delta_Diff_ok hx38) (.cons rfl .d (.cons rfl .d .nil)) ⟨trivial, trivial, trivial⟩ (.inl rfl)) <|
    .cons (o_mv rfl rfl .no rfl) <|
    .cons (o_call rfl rfl .no Try.func11 rfl rfl (law09_cut_ok hx5) (.cons rfl .d .nil) ⟨trivial, trivial⟩ (.inl rfl)) <|
    .cons (o_mv rfl rfl .no rfl) <|
    .cons (o_call rfl rfl .no Try.func11 rfl rfl (law09_cut_ok hx8) (.cons rfl .d .nil) ⟨trivial, trivial⟩ (.inl rfl)) <|
    .cons (o_call rfl rfl .no Try.func24 rfl rfl (ref09_Diff_ok hx41) (.cons rfl .d (.cons rfl .d .nil)) ⟨trivial, trivial, trivial⟩ (.inl rfl)) <|
    .cons (o_call rfl rfl .no Try.func23 rfl rfl (ref09_SameChanges_ok hx44) (.cons rfl .d (.cons rfl .d .nil)) ⟨trivial, trivial, trivial⟩ (.inl rfl)) <|
    .cons (o_as rfl rfl .no rfl) <|
    .nil rfl
  ) ?_)
  obtain ⟨x46, hx47, h48⟩ := bind_some h45
  obtain ⟨x49, hx50, h51⟩ := bind_some h48
  obtain ⟨x52, hx53, h54⟩ := bind_some h51
  refine cw_seq (cw_region (
    .cons (o_mv rfl rfl .no rfl) <|
    .cons (o_mv rfl rfl .no rfl) <|
    .cons (o_bsl (rows := ([x13, x16] : List (List ((List UInt8) × ByteArray × Bool))).map eSapiChange) rfl rfl .no (.cons rfl (.cons rfl .nil)) rfl sl49 sz34 ze34 rfl (map_sz siSapiChange) (by decide)) <|
    .cons (o_call rfl rfl .no Try.func25 rfl rfl (delta_Join_ok hx47) (.cons rfl .d .nil) ⟨trivial, trivial⟩ (.inl rfl)) <|
    .cons (o_mv rfl rfl .no rfl) <|
    .cons (o_call rfl rfl .no Try.func20 rfl rfl (law09_changes_ok hx14) (.cons rfl .d .nil) ⟨trivial, trivial⟩ (.inl rfl)) <|
    .cons (o_mv rfl rfl .no rfl) <|
    .cons (o_call rfl rfl .no Try.func20 rfl rfl (law09_changes_ok hx17) (.cons rfl .d .nil) ⟨trivial, trivial⟩ (.inl rfl)) <|
    .cons (o_bsl (rows := ([x13, x16] : List (List ((List UInt8) × ByteArray × Bool))).map eSapiChange) rfl rfl .no (.cons rfl (.cons rfl .nil)) rfl sl49 sz34 ze34 rfl (map_sz siSapiChange) (by decide)) <|
    .cons (o_call rfl rfl .no Try.func26 rfl rfl (ref09_Join_ok hx50) (.cons rfl .d .nil) ⟨trivial, trivial⟩ (.inl rfl)) <|
    .cons (o_call rfl rfl .no Try.func23 rfl rfl (ref09_SameChanges_ok hx53) (.cons rfl .d (.cons rfl .d .nil)) ⟨trivial, trivial, trivial⟩ (.inl rfl)) <|
    .cons (o_as rfl rfl .no rfl) <|
    .nil rfl
  ) ?_)
  obtain ⟨x55, hx56, h57⟩ := bind_some h54
  refine cw_seq (cw_region (
    .cons (o_mv rfl rfl .no rfl) <|
    .cons (o_mv rfl rfl .no rfl) <|
    .cons (o_mv rfl rfl .no rfl) <|
    .cons (o_call rfl rfl .no Try.func18 rfl rfl (delta_Merge_ok hx56) (.cons rfl .d (.cons rfl .d (.cons rfl .d .nil))) ⟨trivial, trivial, trivial, trivial⟩ (.inl rfl)) <|
    .cons (o_mv rfl rfl .no rfl) <|
    .cons (o_ext rfl rfl .no rfl rfl) <|
    .cons (o_ext rfl rfl .no rfl rfl) <|
    .cons (o_as rfl rfl .no rfl) <|
    .cons (o_as rfl rfl .no rfl) <|
    .nil rfl
  ) ?_)
  obtain ⟨x58, hx59, h60⟩ := bind_some h57
  refine cw_seq (cw_region (
    .cons (o_mv rfl rfl .no rfl) <|
    .cons (o_call rfl rfl .no Try.func11 rfl rfl (law09_cut_ok hx5) (.cons rfl .d .nil) ⟨trivial, trivial⟩ (.inl rfl)) <|
    .cons (o_mv rfl rfl .no rfl) <|
    .cons (o_call rfl rfl .no Try.func11 rfl rfl (law09_cut_ok hx8) (.cons rfl .d .nil) ⟨trivial, trivial⟩ (.inl rfl)) <|
    .cons (o_mv rfl rfl .no rfl) <|
    .cons (o_call rfl rfl .no Try.func11 rfl rfl (law09_cut_ok hx11) (.cons rfl .d .nil) ⟨trivial, trivial⟩ (.inl rfl)) <|
    .cons (o_call rfl rfl .no Try.func27 rfl rfl (ref09_Merge_ok hx59) (.cons rfl .d (.cons rfl .d (.cons rfl .d .nil))) ⟨trivial, trivial, trivial, trivial⟩ (.inl rfl)) <|
    .cons (o_mv rfl rfl .no rfl) <|
    .cons (o_ext rfl rfl .no rfl rfl) <|
    .cons (o_ext rfl rfl .no rfl rfl) <|
    .cons (o_as rfl rfl .no rfl) <|
    .cons (o_as rfl rfl .no rfl) <|
    .nil rfl
  ) ?_)
  obtain ⟨o73, hj74, h75⟩ := bind_some h60
  refine cw_join (fun (z : Bool) => St.of [(0, .d (eSapiPair a0)), (1, .d (eSapiPair a1)), (2, .d (eSapiPair a2)), (3, .d (eSapiChange a3)), (4, .d (eSapiChange a4)), (11, .d (ebool x1)), (12, .d (eSapiPair x4)), (13, .d (eSapiPair x7)), (14, .d (eSapiPair x10)), (15, .d (eSapiChange x13)), (16, .d (eSapiChange x16)), (17, .d (ebool x25)), (18, .d (ebool x34)), (19, .d (ebool x43)), (20, .d (ebool x52)), (25, .d (ebool z))] []) (fun (z : Bool) => o73 = z) ?_ ?_
  · intro v188 hv189; subst hv189
    obtain ⟨o115, hj116, h117⟩ := bind_some h75
    refine cw_join (fun (z : Bool) => St.of [(11, .d (ebool x1)), (17, .d (ebool x25)), (18, .d (ebool x34)), (19, .d (ebool x43)), (20, .d (ebool x52)), (25, .d (ebool o73)), (26, .d (ebool z))] []) (fun (z : Bool) => o115 = z) ?_ ?_
    · intro v186 hv187; subst hv187
      obtain ⟨o163, hj164, h165⟩ := bind_some h117
      refine cw_join (fun (z : Bool) => St.of [(10, .d (ebool z))] []) (fun (z : Bool) => o163 = z) ?_ ?_
      · intro v184 hv185; subst hv185
        have heq := ((Option.some.inj h165).symm).symm
        subst heq
        exact cw_weak (weak_of (l := [(10, .d (ebool o163))]) (m := []) ⟨⟨_, rfl, .d rfl⟩, trivial⟩ trivial drop0) (cw_ret ⟨.inr rfl, _, res1 rfl rfl, rfl, rfl⟩)
      · skip
        rcases cond_some hj164 with ⟨hc166, h167⟩ | ⟨hc166, h168⟩
        · skip
          rcases cond_some h167 with ⟨hc169, h170⟩ | ⟨hc169, h171⟩
          · skip
            rcases cond_some h170 with ⟨hc172, h173⟩ | ⟨hc172, h174⟩
            · skip
              rcases cond_some h173 with ⟨hc175, h176⟩ | ⟨hc175, h177⟩
              · skip
                rcases cond_some h176 with ⟨hc178, h179⟩ | ⟨hc178, h180⟩
                · skip
                  rcases cond_some h179 with ⟨hc181, h182⟩ | ⟨hc181, h183⟩
                  · skip
                    refine cw_region (
                      .cons (o_mv rfl rfl .no rfl) <|
                      .cons (o_mv rfl rfl .no rfl) <|
                      .cons (o_mv rfl rfl (.yes rfl rfl hc166) rfl) <|
                      .cons (o_pickT rfl rfl .no rfl hc166 rfl) <|
                      .cons (o_mv rfl rfl .no rfl) <|
                      .cons (o_mv rfl rfl (.yes rfl rfl hc169) rfl) <|
                      .cons (o_pickT rfl rfl .no rfl hc169 rfl) <|
                      .cons (o_mv rfl rfl .no rfl) <|
                      .cons (o_mv rfl rfl (.yes rfl rfl hc172) rfl) <|
                      .cons (o_pickT rfl rfl .no rfl hc172 rfl) <|
                      .cons (o_mv rfl rfl .no rfl) <|
                      .cons (o_mv rfl rfl (.yes rfl rfl hc175) rfl) <|
                      .cons (o_pickT rfl rfl .no rfl hc175 rfl) <|
                      .cons (o_mv rfl rfl .no rfl) <|
                      .cons (o_mv rfl rfl (.yes rfl rfl hc178) rfl) <|
                      .cons (o_pickT rfl rfl .no rfl hc178 rfl) <|
                      .cons (o_mv rfl rfl .no rfl) <|
                      .cons (o_mv rfl rfl (.yes rfl rfl hc181) rfl) <|
                      .cons (o_pickT rfl rfl .no rfl hc181 rfl) <|
                      .cons (o_as rfl rfl .no rfl) <|
                      .nil rfl
                    ) ?_
                    exact ⟨o115, (Option.some.inj h182).symm, weak_of ⟨⟨_, rfl, .d rfl⟩, trivial⟩ trivial drop0⟩
                  · skip
                    refine cw_region (
                      .cons (o_mv rfl rfl .no rfl) <|
                      .cons (o_mv rfl rfl .no rfl) <|
                      .cons (o_mv rfl rfl (.yes rfl rfl hc166) rfl) <|
                      .cons (o_pickT rfl rfl .no rfl hc166 rfl) <|
                      .cons (o_mv rfl rfl .no rfl) <|
                      .cons (o_mv rfl rfl (.yes rfl rfl hc169) rfl) <|
                      .cons (o_pickT rfl rfl .no rfl hc169 rfl) <|
                      .cons (o_mv rfl rfl .no rfl) <|
                      .cons (o_mv rfl rfl (.yes rfl rfl hc172) rfl) <|
                      .cons (o_pickT rfl rfl .no rfl hc172 rfl) <|
                      .cons (o_mv rfl rfl .no rfl) <|
                      .cons (o_mv rfl rfl (.yes rfl rfl hc175) rfl) <|
                      .cons (o_pickT rfl rfl .no rfl hc175 rfl) <|
                      .cons (o_mv rfl rfl .no rfl) <|
                      .cons (o_mv rfl rfl (.yes rfl rfl hc178) rfl) <|
                      .cons (o_pickT rfl rfl .no rfl hc178 rfl) <|
                      .cons (o_mv rfl rfl .no rfl) <|
                      .cons (o_noT rfl rfl rfl rfl hc181) <|
                      .cons (o_pickF rfl rfl .no rfl hc181 rfl) <|
                      .cons (o_as rfl rfl .no rfl) <|
                      .nil rfl
                    ) ?_
                    exact ⟨false, (Option.some.inj h183).symm, weak_of ⟨⟨_, rfl, .d rfl⟩, trivial⟩ trivial drop0⟩
                · skip
                  refine cw_region (
                    .cons (o_mv rfl rfl .no rfl) <|
                    .cons (o_mv rfl rfl .no rfl) <|
                    .cons (o_mv rfl rfl (.yes rfl rfl hc166) rfl) <|
                    .cons (o_pickT rfl rfl .no rfl hc166 rfl) <|
                    .cons (o_mv rfl rfl .no rfl) <|
                    .cons (o_mv rfl rfl (.yes rfl rfl hc169) rfl) <|
                    .cons (o_pickT rfl rfl .no rfl hc169 rfl) <|
                    .cons (o_mv rfl rfl .no rfl) <|
                    .cons (o_mv rfl rfl (.yes rfl rfl hc172) rfl) <|
                    .cons (o_pickT rfl rfl .no rfl hc172 rfl) <|
                    .cons (o_mv rfl rfl .no rfl) <|
                    .cons (o_mv rfl rfl (.yes rfl rfl hc175) rfl) <|
                    .cons (o_pickT rfl rfl .no rfl hc175 rfl) <|
                    .cons (o_mv rfl rfl .no rfl) <|
                    .cons (o_noT rfl rfl rfl rfl hc178) <|
                    .cons (o_pickF rfl rfl .no rfl hc178 rfl) <|
                    .cons (o_mv rfl rfl .no rfl) <|
                    .cons (o_noT rfl rfl rfl rfl rfl) <|
                    .cons (o_pickF rfl rfl .no rfl rfl rfl) <|
                    .cons (o_as rfl rfl .no rfl) <|
                    .nil rfl
                  ) ?_
                  exact ⟨false, (Option.some.inj h180).symm, weak_of ⟨⟨_, rfl, .d rfl⟩, trivial⟩ trivial drop0⟩
              · skip
                refine cw_region (
                  .cons (o_mv rfl rfl .no rfl) <|
                  .cons (o_mv rfl rfl .no rfl) <|
                  .cons (o_mv rfl rfl (.yes rfl rfl hc166) rfl) <|
                  .cons (o_pickT rfl rfl .no rfl hc166 rfl) <|
                  .cons (o_mv rfl rfl .no rfl) <|
                  .cons (o_mv rfl rfl (.yes rfl rfl hc169) rfl) <|
                  .cons (o_pickT rfl rfl .no rfl hc169 rfl) <|
                  .cons (o_mv rfl rfl .no rfl) <|
                  .cons (o_mv rfl rfl (.yes rfl rfl hc172) rfl) <|
                  .cons (o_pickT rfl rfl .no rfl hc172 rfl) <|
                  .cons (o_mv rfl rfl .no rfl) <|
                  .cons (o_noT rfl rfl rfl rfl hc175) <|
                  .cons (o_pickF rfl rfl .no rfl hc175 rfl) <|
                  .cons (o_mv rfl rfl .no rfl) <|
                  .cons (o_noT rfl rfl rfl rfl rfl) <|
                  .cons (o_pickF rfl rfl .no rfl rfl rfl) <|
                  .cons (o_mv rfl rfl .no rfl) <|
                  .cons (o_noT rfl rfl rfl rfl rfl) <|
                  .cons (o_pickF rfl rfl .no rfl rfl rfl) <|
                  .cons (o_as rfl rfl .no rfl) <|
                  .nil rfl
                ) ?_
                exact ⟨false, (Option.some.inj h177).symm, weak_of ⟨⟨_, rfl, .d rfl⟩, trivial⟩ trivial drop0⟩
            · skip
              refine cw_region (
                .cons (o_mv rfl rfl .no rfl) <|
                .cons (o_mv rfl rfl .no rfl) <|
                .cons (o_mv rfl rfl (.yes rfl rfl hc166) rfl) <|
                .cons (o_pickT rfl rfl .no rfl hc166 rfl) <|
                .cons (o_mv rfl rfl .no rfl) <|
                .cons (o_mv rfl rfl (.yes rfl rfl hc169) rfl) <|
                .cons (o_pickT rfl rfl .no rfl hc169 rfl) <|
                .cons (o_mv rfl rfl .no rfl) <|
                .cons (o_noT rfl rfl rfl rfl hc172) <|
                .cons (o_pickF rfl rfl .no rfl hc172 rfl) <|
                .cons (o_mv rfl rfl .no rfl) <|
                .cons (o_noT rfl rfl rfl rfl rfl) <|
                .cons (o_pickF rfl rfl .no rfl rfl rfl) <|
                .cons (o_mv rfl rfl .no rfl) <|
                .cons (o_noT rfl rfl rfl rfl rfl) <|
                .cons (o_pickF rfl rfl .no rfl rfl rfl) <|
                .cons (o_mv rfl rfl .no rfl) <|
                .cons (o_noT rfl rfl rfl rfl rfl) <|
                .cons (o_pickF rfl rfl .no rfl rfl rfl) <|
                .cons (o_as rfl rfl .no rfl) <|
                .nil rfl
              ) ?_
              exact ⟨false, (Option.some.inj h174).symm, weak_of ⟨⟨_, rfl, .d rfl⟩, trivial⟩ trivial drop0⟩
          · skip
            refine cw_region (
              .cons (o_mv rfl rfl .no rfl) <|
              .cons (o_mv rfl rfl .no rfl) <|
              .cons (o_mv rfl rfl (.yes rfl rfl hc166) rfl) <|
              .cons (o_pickT rfl rfl .no rfl hc166 rfl) <|
              .cons (o_mv rfl rfl .no rfl) <|
              .cons (o_noT rfl rfl rfl rfl hc169) <|
              .cons (o_pickF rfl rfl .no rfl hc169 rfl) <|
              .cons (o_mv rfl rfl .no rfl) <|
              .cons (o_noT rfl rfl rfl rfl rfl) <|
              .cons (o_pickF rfl rfl .no rfl rfl rfl) <|
              .cons (o_mv rfl rfl .no rfl) <|
              .cons (o_noT rfl rfl rfl rfl rfl) <|
              .cons (o_pickF rfl rfl .no rfl rfl rfl) <|
              .cons (o_mv rfl rfl .no rfl) <|
              .cons (o_noT rfl rfl rfl rfl rfl) <|
              .cons (o_pickF rfl rfl .no rfl rfl rfl) <|
              .cons (o_mv rfl rfl .no rfl) <|
              .cons (o_noT rfl rfl rfl rfl rfl) <|
              .cons (o_pickF rfl rfl .no rfl rfl rfl) <|
              .cons (o_as rfl rfl .no rfl) <|
              .nil rfl
            ) ?_
            exact ⟨false, (Option.some.inj h171).symm, weak_of ⟨⟨_, rfl, .d rfl⟩, trivial⟩ trivial drop0⟩
        · skip
          refine cw_region (
            .cons (o_mv rfl rfl .no rfl) <|
            .cons (o_mv rfl rfl .no rfl) <|
            .cons (o_noT rfl rfl rfl rfl hc166) <|
            .cons (o_pickF rfl rfl .no rfl hc166 rfl) <|
            .cons (o_mv rfl rfl .no rfl) <|
            .cons (o_noT rfl rfl rfl rfl rfl) <|
            .cons (o_pickF rfl rfl .no rfl rfl rfl) <|
            .cons (o_mv rfl rfl .no rfl) <|
            .cons (o_noT rfl rfl rfl rfl rfl) <|
            .cons (o_pickF rfl rfl .no rfl rfl rfl) <|
            .cons (o_mv rfl rfl .no rfl) <|
            .cons (o_noT rfl rfl rfl rfl rfl) <|
            .cons (o_pickF rfl rfl .no rfl rfl rfl) <|
            .cons (o_mv rfl rfl .no rfl) <|
            .cons (o_noT rfl rfl rfl rfl rfl) <|
            .cons (o_pickF rfl rfl .no rfl rfl rfl) <|
            .cons (o_mv rfl rfl .no rfl) <|
            .cons (o_noT rfl rfl rfl rfl rfl) <|
            .cons (o_pickF rfl rfl .no rfl rfl rfl) <|
            .cons (o_as rfl rfl .no rfl) <|
            .nil rfl
          ) ?_
          exact ⟨false, (Option.some.inj h168).symm, weak_of ⟨⟨_, rfl, .d rfl⟩, trivial⟩ trivial drop0⟩
    · skip
      obtain ⟨x118, hx119, h120⟩ := bind_some hj116
      rcases cond_some h120 with ⟨hc121, h122⟩ | ⟨hc121, h123⟩
      · skip
        obtain ⟨x124, hx125, h126⟩ := bind_some h122
        rcases cond_some h126 with ⟨hc127, h128⟩ | ⟨hc127, h129⟩
        · skip
          obtain ⟨x130, hx131, h132⟩ := bind_some h128
          rcases cond_some h132 with ⟨hc133, h134⟩ | ⟨hc133, h135⟩
          · skip
            obtain ⟨x136, hx137, h138⟩ := bind_some h134
            rcases cond_some h138 with ⟨hc139, h140⟩ | ⟨hc139, h141⟩
            · skip
              obtain ⟨x142, hx143, h144⟩ := bind_some h140
              refine cw_region (
                .cons (o_mv rfl rfl .no rfl) <|
                .cons (o_mv rfl rfl .no rfl) <|
                .cons (o_call rfl rfl .no Try.func11 rfl rfl (law09_cut_ok hx5) (.cons rfl .d .nil) ⟨trivial, trivial⟩ (.inl rfl)) <|
                .cons (o_call rfl rfl .no Try.func15 rfl rfl (ref09_Same_ok hx119) (.cons rfl .d (.cons rfl .d .nil)) ⟨trivial, trivial, trivial⟩ (.inl rfl)) <|
                .cons (o_mv rfl rfl .no rfl) <|
                .cons (o_mv rfl rfl (.yes rfl rfl hc121) rfl) <|
                .cons (o_mv rfl rfl (.yes rfl rfl hc121) rfl) <|
                .cons (o_call rfl rfl (.yes rfl rfl hc121) Try.func11 rfl rfl (law09_cut_ok hx8) (.cons rfl .d .nil) ⟨trivial, trivial⟩ (.inl rfl)) <|
                .cons (o_call rfl rfl (.yes rfl rfl hc121) Try.func15 rfl rfl (ref09_Same_ok hx125) (.cons rfl .d (.cons rfl .d .nil)) ⟨trivial, trivial, trivial⟩ (.inl rfl)) <|
                .cons (o_pickT rfl rfl .no rfl hc121 rfl) <|
                .cons (o_mv rfl rfl .no rfl) <|
                .cons (o_mv rfl rfl (.yes rfl rfl hc127) rfl) <|
                .cons (o_mv rfl rfl (.yes rfl rfl hc127) rfl) <|
                .cons (o_call rfl rfl (.yes rfl rfl hc127) Try.func11 rfl rfl (law09_cut_ok hx11) (.cons rfl .d .nil) ⟨trivial, trivial⟩ (.inl rfl)) <|
                .cons (o_call rfl rfl (.yes rfl rfl hc127) Try.func15 rfl rfl (ref09_Same_ok hx131) (.cons rfl .d (.cons rfl .d .nil)) ⟨trivial, trivial, trivial⟩ (.inl rfl)) <|
                .cons (o_pickT rfl rfl .no rfl hc127 rfl) <|
                .cons (o_mv rfl rfl .no rfl) <|
                .cons (o_mv rfl rfl (.yes rfl rfl hc133) rfl) <|
                .cons (o_mv rfl rfl (.yes rfl rfl hc133) rfl) <|
                .cons (o_call rfl rfl (.yes rfl rfl hc133) Try.func20 rfl rfl (law09_changes_ok hx14) (.cons rfl .d .nil) ⟨trivial, trivial⟩ (.inl rfl)) <|
                .cons (o_call rfl rfl (.yes rfl rfl hc133) Try.func23 rfl rfl (ref09_SameChanges_ok hx137) (.cons rfl .d (.cons rfl .d .nil)) ⟨trivial, trivial, trivial⟩ (.inl rfl)) <|
                .cons (o_pickT rfl rfl .no rfl hc133 rfl) <|
                .cons (o_mv rfl rfl .no rfl) <|
                .cons (o_mv rfl rfl (.yes rfl rfl hc139) rfl) <|
                .cons (o_mv rfl rfl (.yes rfl rfl hc139) rfl) <|
                .cons (o_call rfl rfl (.yes rfl rfl hc139) Try.func20 rfl rfl (law09_changes_ok hx17) (.cons rfl .d .nil) ⟨trivial, trivial⟩ (.inl rfl)) <|
                .cons (o_call rfl rfl (.yes rfl rfl hc139) Try.func23 rfl rfl (ref09_SameChanges_ok hx143) (.cons rfl .d (.cons rfl .d .nil)) ⟨trivial, trivial, trivial⟩ (.inl rfl)) <|
                .cons (o_pickT rfl rfl .no rfl hc139 rfl) <|
                .cons (o_as rfl rfl .no rfl) <|
                .nil rfl
              ) ?_
              exact ⟨x142, (Option.some.inj h144).symm, weak_of ⟨⟨_, rfl, .d rfl⟩, ⟨_, rfl, .d rfl⟩, ⟨_, rfl, .d rfl⟩, ⟨_, rfl, .d rfl⟩, ⟨_, rfl, .d rfl⟩, ⟨_, rfl, .d rfl⟩, ⟨_, rfl, .d rfl⟩, trivial⟩ trivial drop0⟩
            · skip
              refine cw_region (
                .cons (o_mv rfl rfl .no rfl) <|
                .cons (o_mv rfl rfl .no rfl) <|
                .cons (o_call rfl rfl .no Try.func11 rfl rfl (law09_cut_ok hx5) (.cons rfl .d .nil) ⟨trivial, trivial⟩ (.inl rfl)) <|
                .cons (o_call rfl rfl .no Try.func15 rfl rfl (ref09_Same_ok hx119) (.cons rfl .d (.cons rfl .d .nil)) ⟨trivial, trivial, trivial⟩ (.inl rfl)) <|
                .cons (o_mv rfl rfl .no rfl) <|
                .cons (o_mv rfl rfl (.yes rfl rfl hc121) rfl) <|
                .cons (o_mv rfl rfl (.yes rfl rfl hc121) rfl) <|
                .cons (o_call rfl rfl (.yes rfl rfl hc121) Try.func11 rfl rfl (law09_cut_ok hx8) (.cons rfl .d .nil) ⟨trivial, trivial⟩ (.inl rfl)) <|
                .cons (o_call rfl rfl (.yes rfl rfl hc121) Try.func15 rfl rfl (ref09_Same_ok hx125) (.cons rfl .d (.cons rfl .d .nil)) ⟨trivial, trivial, trivial⟩ (.inl rfl)) <|
                .cons (o_pickT rfl rfl .no rfl hc121 rfl) <|
                .cons (o_mv rfl rfl .no rfl) <|
                .cons (o_mv rfl rfl (.yes rfl rfl hc127) rfl) <|
                .cons (o_mv rfl rfl (.yes rfl rfl hc127) rfl) <|
                .cons (o_call rfl rfl (.yes rfl rfl hc127) Try.func11 rfl rfl (law09_cut_ok hx11) (.cons rfl .d .nil) ⟨trivial, trivial⟩ (.inl rfl)) <|
                .cons (o_call rfl rfl (.yes rfl rfl hc127) Try.func15 rfl rfl (ref09_Same_ok hx131) (.cons rfl .d (.cons rfl .d .nil)) ⟨trivial, trivial, trivial⟩ (.inl rfl)) <|
                .cons (o_pickT rfl rfl .no rfl hc127 rfl) <|
                .cons (o_mv rfl rfl .no rfl) <|
                .cons (o_mv rfl rfl (.yes rfl rfl hc133) rfl) <|
                .cons (o_mv rfl rfl (.yes rfl rfl hc133) rfl) <|
                .cons (o_call rfl rfl (.yes rfl rfl hc133) Try.func20 rfl rfl (law09_changes_ok hx14) (.cons rfl .d .nil) ⟨trivial, trivial⟩ (.inl rfl)) <|
                .cons (o_call rfl rfl (.yes rfl rfl hc133) Try.func23 rfl rfl (ref09_SameChanges_ok hx137) (.cons rfl .d (.cons rfl .d .nil)) ⟨trivial, trivial, trivial⟩ (.inl rfl)) <|
                .cons (o_pickT rfl rfl .no rfl hc133 rfl) <|
                .cons (o_mv rfl rfl .no rfl) <|
                .cons (o_noT rfl rfl rfl rfl hc139) <|
                .cons (o_noT rfl rfl rfl rfl hc139) <|
                .cons (o_noT rfl rfl rfl rfl hc139) <|
                .cons (o_noT rfl rfl rfl rfl hc139) <|
                .cons (o_pickF rfl rfl .no rfl hc139 rfl) <|
                .cons (o_as rfl rfl .no rfl) <|
                .nil rfl
              ) ?_
              exact ⟨false, (Option.some.inj h141).symm, weak_of ⟨⟨_, rfl, .d rfl⟩, ⟨_, rfl, .d rfl⟩, ⟨_, rfl, .d rfl⟩, ⟨_, rfl, .d rfl⟩, ⟨_, rfl, .d rfl⟩, ⟨_, rfl, .d rfl⟩, ⟨_, rfl, .d rfl⟩, trivial⟩ trivial drop0⟩
          · skip
            refine cw_region (
              .cons (o_mv rfl rfl .no rfl) <|
              .cons (o_mv rfl rfl .no rfl) <|
              .cons (o_call rfl rfl .no Try.func11 rfl rfl (law09_cut_ok hx5) (.cons rfl .d .nil) ⟨trivial, trivial⟩ (.inl rfl)) <|
              .cons (o_call rfl rfl .no Try.func15 rfl rfl (ref09_Same_ok hx119) (.cons rfl .d (.cons rfl .d .nil)) ⟨trivial, trivial, trivial⟩ (.inl rfl)) <|
              .cons (o_mv rfl rfl .no rfl) <|
              .cons (o_mv rfl rfl (.yes rfl rfl hc121) rfl) <|
              .cons (o_mv rfl rfl (.yes rfl rfl hc121) rfl) <|
              .cons (o_call rfl rfl (.yes rfl rfl hc121) Try.func11 rfl rfl (law09_cut_ok hx8) (.cons rfl .d .nil) ⟨trivial, trivial⟩ (.inl rfl)) <|
              .cons (o_call rfl rfl (.yes rfl rfl hc121) Try.func15 rfl rfl (ref09_Same_ok hx125) (.cons rfl .d (.cons rfl .d .nil)) ⟨trivial, trivial, trivial⟩ (.inl rfl)) <|
              .cons (o_pickT rfl rfl .no rfl hc121 rfl) <|
              .cons (o_mv rfl rfl .no rfl) <|
              .cons (o_mv rfl rfl (.yes rfl rfl hc127) rfl) <|
              .cons (o_mv rfl rfl (.yes rfl rfl hc127) rfl) <|
              .cons (o_call rfl rfl (.yes rfl rfl hc127) Try.func11 rfl rfl (law09_cut_ok hx11) (.cons rfl .d .nil) ⟨trivial, trivial⟩ (.inl rfl)) <|
              .cons (o_call rfl rfl (.yes rfl rfl hc127) Try.func15 rfl rfl (ref09_Same_ok hx131) (.cons rfl .d (.cons rfl .d .nil)) ⟨trivial, trivial, trivial⟩ (.inl rfl)) <|
              .cons (o_pickT rfl rfl .no rfl hc127 rfl) <|
              .cons (o_mv rfl rfl .no rfl) <|
              .cons (o_noT rfl rfl rfl rfl hc133) <|
              .cons (o_noT rfl rfl rfl rfl hc133) <|
              .cons (o_noT rfl rfl rfl rfl hc133) <|
              .cons (o_noT rfl rfl rfl rfl hc133) <|
              .cons (o_pickF rfl rfl .no rfl hc133 rfl) <|
              .cons (o_mv rfl rfl .no rfl) <|
              .cons (o_noT rfl rfl rfl rfl rfl) <|
              .cons (o_noT rfl rfl rfl rfl rfl) <|
              .cons (o_noT rfl rfl rfl rfl rfl) <|
              .cons (o_noT rfl rfl rfl rfl rfl) <|
              .cons (o_pickF rfl rfl .no rfl rfl rfl) <|
              .cons (o_as rfl rfl .no rfl) <|
              .nil rfl
            ) ?_
            exact ⟨false, (Option.some.inj h135).symm, weak_of ⟨⟨_, rfl, .d rfl⟩, ⟨_, rfl, .d rfl⟩, ⟨_, rfl, .d rfl⟩, ⟨_, rfl, .d rfl⟩, ⟨_, rfl, .d rfl⟩, ⟨_, rfl, .d rfl⟩, ⟨_, rfl, .d rfl⟩, trivial⟩ trivial drop0⟩
        · skip
          refine cw_region (
            .cons (o_mv rfl rfl .no rfl) <|
            .cons (o_mv rfl rfl .no rfl) <|
            .cons (o_call rfl rfl .no Try.func11 rfl rfl (law09_cut_ok hx5) (.cons rfl .d .nil) ⟨trivial, trivial⟩ (.inl rfl)) <|
            .cons (o_call rfl rfl .no Try.func15 rfl rfl (ref09_Same_ok hx119) (.cons rfl .d (.cons rfl .d .nil)) ⟨trivial, trivial, trivial⟩ (.inl rfl)) <|
            .cons (o_mv rfl rfl .no rfl) <|
            .cons (o_mv rfl rfl (.yes rfl rfl hc121) rfl) <|
            .cons (o_mv rfl rfl (.yes rfl rfl hc121) rfl) <|
            .cons (o_call rfl rfl (.yes rfl rfl hc121) Try.func11 rfl rfl (law09_cut_ok hx8) (.cons rfl .d .nil) ⟨trivial, trivial⟩ (.inl rfl)) <|
            .cons (o_call rfl rfl (.yes rfl rfl hc121) Try.func15 rfl rfl (ref09_Same_ok hx125) (.cons rfl .d (.cons rfl .d .nil)) ⟨trivial, trivial, trivial⟩ (.inl rfl)) <|
            .cons (o_pickT rfl rfl .no rfl hc121 rfl) <|
            .cons (o_mv rfl rfl .no rfl) <|
            .cons (o_noT rfl rfl rfl rfl hc127) <|
            .cons (o_noT rfl rfl rfl rfl hc127) <|
            .cons (o_noT rfl rfl rfl rfl hc127) <|
            .cons (o_noT rfl rfl rfl rfl hc127) <|
            .cons (o_pickF rfl rfl .no rfl hc127 rfl) <|
            .cons (o_mv rfl rfl .no rfl) <|
            .cons (o_noT rfl rfl rfl rfl rfl) <|
            .cons (o_noT rfl rfl rfl rfl rfl) <|
            .cons (o_noT rfl rfl rfl rfl rfl) <|
            .cons (o_noT rfl rfl rfl rfl rfl) <|
            .cons (o_pickF rfl rfl .no rfl rfl rfl) <|
            .cons (o_mv rfl rfl .no rfl) <|
            .cons (o_noT rfl rfl rfl rfl rfl) <|
            .cons (o_noT rfl rfl rfl rfl rfl) <|
            .cons (o_noT rfl rfl rfl rfl rfl) <|
            .cons (o_noT rfl rfl rfl rfl rfl) <|
            .cons (o_pickF rfl rfl .no rfl rfl rfl) <|
            .cons (o_as rfl rfl .no rfl) <|
            .nil rfl
          ) ?_
          exact ⟨false, (Option.some.inj h129).symm, weak_of ⟨⟨_, rfl, .d rfl⟩, ⟨_, rfl, .d rfl⟩, ⟨_, rfl, .d rfl⟩, ⟨_, rfl, .d rfl⟩, ⟨_, rfl, .d rfl⟩, ⟨_, rfl, .d rfl⟩, ⟨_, rfl, .d rfl⟩, trivial⟩ trivial drop0⟩
      · skip
        refine cw_region (
          .cons (o_mv rfl rfl .no rfl) <|
          .cons (o_mv rfl rfl .no rfl) <|
          .cons (o_call rfl rfl .no Try.func11 rfl rfl (law09_cut_ok hx5) (.cons rfl .d .nil) ⟨trivial, trivial⟩ (.inl rfl)) <|
          .cons (o_call rfl rfl .no Try.func15 rfl rfl (ref09_Same_ok hx119) (.cons rfl .d (.cons rfl .d .nil)) ⟨trivial, trivial, trivial⟩ (.inl rfl)) <|
          .cons (o_mv rfl rfl .no rfl) <|
          .cons (o_noT rfl rfl rfl rfl hc121) <|
          .cons (o_noT rfl rfl rfl rfl hc121) <|
          .cons (o_noT rfl rfl rfl rfl hc121) <|
          .cons (o_noT rfl rfl rfl rfl hc121) <|
          .cons (o_pickF rfl rfl .no rfl hc121 rfl) <|
          .cons (o_mv rfl rfl .no rfl) <|
          .cons (o_noT rfl rfl rfl rfl rfl) <|
          .cons (o_noT rfl rfl rfl rfl rfl) <|
          .cons (o_noT rfl rfl rfl rfl rfl) <|
          .cons (o_noT rfl rfl rfl rfl rfl) <|
          .cons (o_pickF rfl rfl .no rfl rfl rfl) <|
          .cons (o_mv rfl rfl .no rfl) <|
          .cons (o_noT rfl rfl rfl rfl rfl) <|
          .cons (o_noT rfl rfl rfl rfl rfl) <|
          .cons (o_noT rfl rfl rfl rfl rfl) <|
          .cons (o_noT rfl rfl rfl rfl rfl) <|
          .cons (o_pickF rfl rfl .no rfl rfl rfl) <|
          .cons (o_mv rfl rfl .no rfl) <|
          .cons (o_noT rfl rfl rfl rfl rfl) <|
          .cons (o_noT rfl rfl rfl rfl rfl) <|
          .cons (o_noT rfl rfl rfl rfl rfl) <|
          .cons (o_noT rfl rfl rfl rfl rfl) <|
          .cons (o_pickF rfl rfl .no rfl rfl rfl) <|
          .cons (o_as rfl rfl .no rfl) <|
          .nil rfl
        ) ?_
        exact ⟨false, (Option.some.inj h123).symm, weak_of ⟨⟨_, rfl, .d rfl⟩, ⟨_, rfl, .d rfl⟩, ⟨_, rfl, .d rfl⟩, ⟨_, rfl, .d rfl⟩, ⟨_, rfl, .d rfl⟩, ⟨_, rfl, .d rfl⟩, ⟨_, rfl, .d rfl⟩, trivial⟩ trivial drop0⟩
  · skip
    obtain ⟨x76, hx77, h78⟩ := bind_some hj74
    rcases cond_some h78 with ⟨hc79, h80⟩ | ⟨hc79, h81⟩
    · skip
      obtain ⟨x82, hx83, h84⟩ := bind_some h80
      refine cw_region (
        .cons (o_mv rfl rfl .no rfl) <|
        .cons (o_mv rfl rfl .no rfl) <|
        .cons (o_call rfl rfl .no Try.func15 rfl rfl (ref09_Same_ok hx77) (.cons rfl .d (.cons rfl .d .nil)) ⟨trivial, trivial, trivial⟩ (.inl rfl)) <|
        .cons (o_mv rfl rfl .no rfl) <|
        .cons (o_mv rfl rfl (.yes rfl rfl hc79) rfl) <|
        .cons (o_mv rfl rfl (.yes rfl rfl hc79) rfl) <|
        .cons (o_call rfl rfl (.yes rfl rfl hc79) Try.func19 rfl rfl (ref09_SameKeys_ok hx83) (.cons rfl .d (.cons rfl .d .nil)) ⟨trivial, trivial, trivial⟩ (.inl rfl)) <|
        .cons (o_pickT rfl rfl .no rfl hc79 rfl) <|
        .cons (o_as rfl rfl .no rfl) <|
        .nil rfl
      ) ?_
      exact ⟨x82, (Option.some.inj h84).symm, weak_of ⟨⟨_, rfl, .d rfl⟩, ⟨_, rfl, .d rfl⟩, ⟨_, rfl, .d rfl⟩, ⟨_, rfl, .d rfl⟩, ⟨_, rfl, .d rfl⟩, ⟨_, rfl, .d rfl⟩, ⟨_, rfl, .d rfl⟩, ⟨_, rfl, .d rfl⟩, ⟨_, rfl, .d rfl⟩, ⟨_, rfl, .d rfl⟩, ⟨_, rfl, .d rfl⟩, ⟨_, rfl, .d rfl⟩, ⟨_, rfl, .d rfl⟩, ⟨_, rfl, .d rfl⟩, ⟨_, rfl, .d rfl⟩, ⟨_, rfl, .d rfl⟩, trivial⟩ trivial drop0⟩
    · skip
      refine cw_region (
        .cons (o_mv rfl rfl .no rfl) <|
        .cons (o_mv rfl rfl .no rfl) <|
        .cons (o_call rfl rfl .no Try.func15 rfl rfl (ref09_Same_ok hx77) (.cons rfl .d (.cons rfl .d .nil)) ⟨trivial, trivial, trivial⟩ (.inl rfl)) <|
        .cons (o_mv rfl rfl .no rfl) <|
        .cons (o_noT rfl rfl rfl rfl hc79) <|
        .cons (o_noT rfl rfl rfl rfl hc79) <|
        .cons (o_noT rfl rfl rfl rfl hc79) <|
        .cons (o_pickF rfl rfl .no rfl hc79 rfl) <|
        .cons (o_as rfl rfl .no rfl) <|
        .nil rfl
      ) ?_
      exact ⟨false, (Option.some.inj h81).symm, weak_of ⟨⟨_, rfl, .d rfl⟩, ⟨_, rfl, .d rfl⟩, ⟨_, rfl, .d rfl⟩, ⟨_, rfl, .d rfl⟩, ⟨_, rfl, .d rfl⟩, ⟨_, rfl, .d rfl⟩, ⟨_, rfl, .d rfl⟩, ⟨_, rfl, .d rfl⟩, ⟨_, rfl, .d rfl⟩, ⟨_, rfl, .d rfl⟩, ⟨_, rfl, .d rfl⟩, ⟨_, rfl, .d rfl⟩, ⟨_, rfl, .d rfl⟩, ⟨_, rfl, .d rfl⟩, ⟨_, rfl, .d rfl⟩, ⟨_, rfl, .d rfl⟩, trivial⟩ trivial drop0⟩

end
end Go.Val
