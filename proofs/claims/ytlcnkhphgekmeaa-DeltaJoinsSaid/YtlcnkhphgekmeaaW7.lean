/- Walks of the program's functions, printed. -/
import Derived.Test.YtlcnkhphgekmeaaWc
set_option linter.unusedSectionVars false
set_option linter.unusedVariables false
set_option linter.unusedSimpArgs false
namespace Go.Val
open Go.RowKit Go.Proofs

section
variable [NoDrw]

noncomputable def law09_DeltaJoins (a0 : List ((List UInt8) × ByteArray)) (a1 : List ((List UInt8) × ByteArray × Bool)) (a2 : List ((List UInt8) × ByteArray × Bool)) : Option Bool :=
  (law09_shown).bind fun x1 =>
  (law09_cut a0).bind fun x4 =>
  (law09_changes a1).bind fun x7 =>
  (law09_changes a2).bind fun x10 =>
  (delta_Join ([x7, x10])).bind fun x13 =>
  (delta_Apply x4 x7).bind fun x16 =>
  (delta_Apply x16 x10).bind fun x19 =>
  (delta_Apply x4 x13).bind fun x22 =>
  (ref09_Same x19 x22).bind fun x25 =>
  (delta_Join ([x13])).bind fun x28 =>
  (ref09_SameChanges x28 x13).bind fun x31 =>
  (delta_Join ([x7])).bind fun x34 =>
  (delta_Join ([x34, x10])).bind fun x37 =>
  (ref09_SameChanges x37 x13).bind fun x40 =>
  (((
    cond x1 (
      cond x25 (
        cond x31 (
          some x40
        ) (
          some false
        )
      ) (
        some false
      )
    ) (
      some false
    )
  ) : Option Bool)).bind fun o52 =>
  some o52

set_option maxRecDepth 100000 in
theorem law09_DeltaJoins_ok {a0 : List ((List UInt8) × ByteArray)} {a1 : List ((List UInt8) × ByteArray × Bool)} {a2 : List ((List UInt8) × ByteArray × Bool)} {r : Bool} (h : law09_DeltaJoins a0 a1 a2 = some r) : FnOk Try.prog 7 [.d (eSapiPair a0), .d (eSapiChange a1), .d (eSapiChange a2)] 0 (lk []) (fun rr oo => rr = .d (ebool r) ∧ oo = lk []) := by
  refine fnOk_of Try.func7 rfl rfl ?_
  unfold law09_DeltaJoins at h
  refine cw_seq (cw_region (
    .cons (o_as rfl rfl .no rfl) <|
    .nil rfl
  ) ?_)
  obtain ⟨x1, hx2, h3⟩ := bind_some h
  refine cw_seq (cw_region (
    .cons (o_call rfl rfl .no Try.func10 rfl rfl (law09_shown_ok hx2) .nil trivial (.inl rfl)) <|
    .cons (o_as rfl rfl .no rfl) <|
    .nil rfl
  ) ?_)
  obtain ⟨x4, hx5, h6⟩ := bind_some h3
  refine cw_seq (cw_region (
    .cons (o_mv rfl rfl .no rfl) <|
    .cons (o_call rfl rfl .no Try.func11 rfl rfl (law09_cut_ok hx5) (.cons rfl .d .nil) ⟨trivial, trivial⟩ (.inl rfl)) <|
    .cons (o_as rfl rfl .no rfl) <|
    .nil rfl
  ) ?_)
  obtain ⟨x7, hx8, h9⟩ := bind_some h6
  refine cw_seq (cw_region (
    .cons (o_mv rfl rfl .no rfl) <|
    .cons (o_call rfl rfl .no Try.func20 rfl rfl (law09_changes_ok hx8) (.cons rfl .d .nil) ⟨trivial, trivial⟩ (.inl rfl)) <|
    .cons (o_as rfl rfl .no rfl) <|
    .nil rfl
  ) ?_)
  obtain ⟨x10, hx11, h12⟩ := bind_some h9
  refine cw_seq (cw_region (
    .cons (o_mv rfl rfl .no rfl) <|
    .cons (o_call rfl rfl .no Try.func20 rfl rfl (law09_changes_ok hx11) (.cons rfl .d .nil) ⟨trivial, trivial⟩ (.inl rfl)) <|
    .cons (o_as rfl rfl .no rfl) <|
    .nil rfl
  ) ?_)
  obtain ⟨x13, hx14, h15⟩ := bind_some h12
  refine cw_seq (cw_region (
    .cons (o_mv rfl rfl .no rfl) <|
    .cons (o_mv rfl rfl .no rfl) <|
    .cons (o_bsl (rows := ([x7, x10] : List (List ((List UInt8) × ByteArray × Bool))).map eSapiChange) rfl rfl .no (.cons rfl (.cons rfl .nil)) rfl sl49 sz34 ze34 rfl (map_sz siSapiChange) (by decide)) <|
    .cons (o_call rfl rfl .no Try.func25 rfl rfl (delta_Join_ok hx14) (.cons rfl .d .nil) ⟨trivial, trivial⟩ (.inl rfl)) <|
    .cons (o_as rfl rfl .no rfl) <|
    .nil rfl
  ) ?_)
  obtain ⟨x16, hx17, h18⟩ := bind_some h15
  obtain ⟨x19, hx20, h21⟩ := bind_some h18
  obtain ⟨x22, hx23, h24⟩ := bind_some h21
  obtain ⟨x25, hx26, h27⟩ := bind_some h24
  refine cw_seq (cw_region (
    .cons (o_mv rfl rfl .no rfl) <|
    .cons (o_mv rfl rfl .no rfl) <|
    .cons (o_call rfl rfl .no Try.func17 rfl rfl (delta_Apply_ok hx17) (.cons rfl .d (.cons rfl .d .nil)) ⟨trivial, trivial, trivial⟩ (.inl rfl)) <|
    .cons (o_mv rfl rfl .no rfl) <|
    .cons (o_call rfl rfl .no Try.func17 rfl rfl (delta_Apply_ok hx20) (.cons rfl .d (.cons rfl .d .nil)) ⟨trivial, trivial, trivial⟩ (.inl rfl)) <|
    .cons (o_mv rfl rfl .no rfl) <|
    .cons (o_mv rfl rfl .no rfl) <|
    .cons (o_call rfl rfl .no Try.func17 rfl rfl (delta_Apply_ok hx23) (.cons rfl .d (.cons rfl .d .nil)) ⟨trivial, trivial, trivial⟩ (.inl rfl)) <|
    .cons (o_call rfl rfl .no Try.func15 rfl rfl (ref09_Same_ok hx26) (.cons rfl .d (.cons rfl .d .nil)) ⟨trivial, trivial, trivial⟩ (.inl rfl)) <|
    .cons (o_as rfl rfl .no rfl) <|
    .nil rfl
  ) ?_)
  obtain ⟨x28, hx29, h30⟩ := bind_some h27
  obtain ⟨x31, hx32, h33⟩ := bind_some h30
  refine cw_seq (cw_region (
    .cons (o_mv rfl rfl .no rfl) <|
    .cons (o_bsl (rows := ([x13] : List (List ((List UInt8) × ByteArray × Bool))).map eSapiChange) rfl rfl .no (.cons rfl .nil) rfl sl49 sz34 ze34 rfl (map_sz siSapiChange) (by decide)) <|
    .cons (o_call rfl rfl .no Try.func25 rfl rfl (delta_Join_ok hx29) (.cons rfl .d .nil) ⟨trivial, trivial⟩ (.inl rfl)) <|
    .cons (o_mv rfl rfl .no rfl) <|
    .cons (o_call rfl rfl .no Try.func23 rfl rfl (ref09_SameChanges_ok hx32) (.cons rfl .d (.cons rfl .d .nil)) ⟨trivial, trivial, trivial⟩ (.inl rfl)) <|
    .cons (o_as rfl rfl .no rfl) <|
    .nil rfl
  ) ?_)
  obtain ⟨x34, hx35, h36⟩ := bind_some h33
  obtain ⟨x37, hx38, h39⟩ := bind_some h36
  obtain ⟨x40, hx41, h42⟩ := bind_some h39
  refine cw_seq (cw_region (
    .cons (o_mv rfl rfl .no rfl) <|
    .cons (o_bsl (rows := ([x7] : List (List ((List UInt8) × ByteArray × Bool))).map eSapiChange) rfl rfl .no (.cons rfl .nil) rfl sl49 sz34 ze34 rfl (map_sz siSapiChange) (by decide)) <|
    .cons (o_call rfl rfl .no Try.func25 rfl rfl (delta_Join_ok hx35) (.cons rfl .d .nil) ⟨trivial, trivial⟩ (.inl rfl)) <|
    .cons (o_mv rfl rfl .no rfl) <|
    .cons (o_bsl (rows := ([x34, x10] : List (List ((List UInt8) × ByteArray × Bool))).map eSapiChange) rfl rfl .no (.cons rfl (.cons rfl .nil)) rfl sl49 sz34 ze34 rfl (map_sz siSapiChange) (by decide)) <|
    .cons (o_call rfl rfl .no Try.func25 rfl rfl (delta_Join_ok hx38) (.cons rfl .d .nil) ⟨trivial, trivial⟩ (.inl rfl)) <|
    .cons (o_mv rfl rfl .no rfl) <|
    .cons (o_call rfl rfl .no Try.func23 rfl rfl (ref09_SameChanges_ok hx41) (.cons rfl .d (.cons rfl .d .nil)) ⟨trivial, trivial, trivial⟩ (.inl rfl)) <|
    .cons (o_as rfl rfl .no rfl) <|
    .nil rfl
  ) ?_)
  obtain ⟨o52, hj53, h54⟩ := bind_some h42
  refine cw_join (fun (z : Bool) => St.of [(6, .d (ebool z))] []) (fun (z : Bool) => o52 = z) ?_ ?_
  · intro v64 hv65; subst hv65
    have heq := ((Option.some.inj h54).symm).symm
    subst heq
    exact cw_weak (weak_of (l := [(6, .d (ebool o52))]) (m := []) ⟨⟨_, rfl, .d rfl⟩, trivial⟩ trivial drop0) (cw_ret ⟨.inr rfl, _, res1 rfl rfl, rfl, rfl⟩)
  · skip
    rcases cond_some hj53 with ⟨hc55, h56⟩ | ⟨hc55, h57⟩
    · skip
      rcases cond_some h56 with ⟨hc58, h59⟩ | ⟨hc58, h60⟩
      · skip
        rcases cond_some h59 with ⟨hc61, h62⟩ | ⟨hc61, h63⟩
        · skip
          refine cw_region (
            .cons (o_mv rfl rfl .no rfl) <|
            .cons (o_mv rfl rfl .no rfl) <|
            .cons (o_mv rfl rfl (.yes rfl rfl hc55) rfl) <|
            .cons (o_pickT rfl rfl .no rfl hc55 rfl) <|
            .cons (o_mv rfl rfl .no rfl) <|
            .cons (o_mv rfl rfl (.yes rfl rfl hc58) rfl) <|
            .cons (o_pickT rfl rfl .no rfl hc58 rfl) <|
            .cons (o_mv rfl rfl .no rfl) <|
            .cons (o_mv rfl rfl (.yes rfl rfl hc61) rfl) <|
            .cons (o_pickT rfl rfl .no rfl hc61 rfl) <|
            .cons (o_as rfl rfl .no rfl) <|
            .nil rfl
          ) ?_
          exact ⟨x40, (Option.some.inj h62).symm, weak_of ⟨⟨_, rfl, .d rfl⟩, trivial⟩ trivial drop0⟩
        · skip
          refine cw_region (
            .cons (o_mv rfl rfl .no rfl) <|
            .cons (o_mv rfl rfl .no rfl) <|
            .cons (o_mv rfl rfl (.yes rfl rfl hc55) rfl) <|
            .cons (o_pickT rfl rfl .no rfl hc55 rfl) <|
            .cons (o_mv rfl rfl .no rfl) <|
            .cons (o_mv rfl rfl (.yes rfl rfl hc58) rfl) <|
            .cons (o_pickT rfl rfl .no rfl hc58 rfl) <|
            .cons (o_mv rfl rfl .no rfl) <|
            .cons (o_noT rfl rfl rfl rfl hc61) <|
            .cons (o_pickF rfl rfl .no rfl hc61 rfl) <|
            .cons (o_as rfl rfl .no rfl) <|
            .nil rfl
          ) ?_
          exact ⟨false, (Option.some.inj h63).symm, weak_of ⟨⟨_, rfl, .d rfl⟩, trivial⟩ trivial drop0⟩
      · skip
        refine cw_region (
          .cons (o_mv rfl rfl .no rfl) <|
          .cons (o_mv rfl rfl .no rfl) <|
          .cons (o_mv rfl rfl (.yes rfl rfl hc55) rfl) <|
          .cons (o_pickT rfl rfl .no rfl hc55 rfl) <|
          .cons (o_mv rfl rfl .no rfl) <|
          .cons (o_noT rfl rfl rfl rfl hc58) <|
          .cons (o_pickF rfl rfl .no rfl hc58 rfl) <|
          .cons (o_mv rfl rfl .no rfl) <|
          .cons (o_noT rfl rfl rfl rfl rfl) <|
          .cons (o_pickF rfl rfl .no rfl rfl rfl) <|
          .cons (o_as rfl rfl .no rfl) <|
          .nil rfl
        ) ?_
        exact ⟨false, (Option.some.inj h60).symm, weak_of ⟨⟨_, rfl, .d rfl⟩, trivial⟩ trivial drop0⟩
    · skip
      refine cw_region (
        .cons (o_mv rfl rfl .no rfl) <|
        .cons (o_mv rfl rfl .no rfl) <|
        .cons (o_noT rfl rfl rfl rfl hc55) <|
        .cons (o_pickF rfl rfl .no rfl hc55 rfl) <|
        .cons (o_mv rfl rfl .no rfl) <|
        .cons (o_noT rfl rfl rfl rfl rfl) <|
        .cons (o_pickF rfl rfl .no rfl rfl rfl) <|
        .cons (o_mv rfl rfl .no rfl) <|
        .cons (o_noT rfl rfl rfl rfl rfl) <|
        .cons (o_pickF rfl rfl .no rfl rfl rfl) <|
        .cons (o_as rfl rfl .no rfl) <|
        .nil rfl
      ) ?_
      exact ⟨false, (Option.some.inj h57).symm, weak_of ⟨⟨_, rfl, .d rfl⟩, trivial⟩ trivial drop0⟩

end
end Go.Val
