/- Walks of the program's functions, printed. -/
import Derived.Test.YthipaajmgfnagaaGreatDoorWi
import Derived.Test.YthipaajmgfnagaaGreatDoorHw
set_option linter.unusedSectionVars false
set_option linter.unusedVariables false
set_option linter.unusedSimpArgs false
namespace Go.Val
open Go.RowKit Go.Proofs

section
variable [NoDrw]

noncomputable def law13_shown : Option Bool :=
 (view_New_n).bind fun x1 =>
 (chunk_Write x1 1 31 (ByteArray.mk #[97, 98, 99])).bind fun x4 =>
 (chunk_Read x4.2 1 30 5).bind fun x7 =>
 (view_View_Changes x7.2.2).bind fun x10 =>
 (chunk_Cut x10.2 1 32).bind fun x13 =>
 (chunk_Read x13.2 1 30 5).bind fun x16 =>
 (((
  cond (decide (x4.1 = 0)) (
   cond (decide (x7.1 = (ByteArray.mk #[0, 97, 98, 99, 0]))) (
    cond (decide (x7.2.1 = 0)) (
     cond (decide ((x10.1.length : Int) = 2)) (
      cond (decide (x13.1 = 0)) (
       cond (decide (x16.1 = (ByteArray.mk #[0, 97, 0, 0, 0]))) (
        some (decide (x16.2.1 = 0))
       ) (
        some false
       )
      ) (
       some false
      )
     ) (
      some false
     )
    ) (
     some false
    )
   ) (
    some false
   )
  ) (
   some false
  )
 ) : Option Bool)).bind fun o37 =>
 some o37

set_option maxRecDepth 100000 in
theorem law13_shown_ok {r : Bool} (h : law13_shown = some r) : FnOk Tryz.prog 10 [] 0 (lk []) (fun rr oo => rr = .d (ebool r) ∧ oo = lk []) := by
  refine fnOk_of Tryz.func10 rfl rfl (cw_post ?_)
  unfold law13_shown at h
  refine cw_seq (cw_region (
    .cons (o_as rfl rfl .no rfl) <|
    .nil rfl
  ) ?_)
  obtain ⟨x1, hx2, h3⟩ := bind_some (x := view_New_n) h
  refine cw_seq (cw_region (
    .cons (o_callO 0 rfl rfl .no Tryz.func11 rfl rfl (view_New_n_ok hx2) (.cons rfl .d .nil) ⟨trivial, trivial⟩ rfl (.inl rfl)) <|
    .cons (o_as rfl rfl .no rfl) <|
    .nil rfl
  ) ?_)
  refine cw_seq ?_
  refine cw_seq (cw_region (
    .cons (o_mv rfl rfl .no rfl) <|
    .cons (o_pnilP rfl rfl .no rfl up24) <|
    .nil rfl
  ) ?_)
  refine cw_condF rfl rfl ?_
  refine cw_skip ?_
  obtain ⟨x4, hx5, h6⟩ := bind_some (x := chunk_Write x1 1 31 (ByteArray.mk #[97, 98, 99])) h3
  refine cw_seq (cw_region (
    .cons (o_mv rfl rfl .no rfl) <|
    .cons (o_callX (fun n => bif Nat.beq n 0 then 0 else 1) rfl rfl .no Tryz.func13 rfl rfl (chunk_Write_ok hx5) (.cons rfl (.p rfl) (.cons rfl .d (.cons rfl .d (.cons rfl .d .nil)))) (callInG [4] rfl ⟨(by simp [AV.live, lk, Nat.beq]), trivial, trivial, trivial, trivial⟩ ⟨⟨rfl, (OD.dat_live (oviewView_dat _))⟩, trivial⟩ rfl rfl rfl ⟨rfl, trivial⟩ rfl) (.inl rfl)) <|
    .cons (o_as rfl rfl .no rfl) <|
    .nil rfl
  ) ?_)
  obtain ⟨x7, hx8, h9⟩ := bind_some (x := chunk_Read x4.2 1 30 5) h6
  refine cw_seq (cw_region (
    .cons (o_mv rfl rfl .no rfl) <|
    .cons (o_callX (fun _ => 0) rfl rfl .no Tryz.func14 rfl rfl (chunk_Read_ok hx8) (.cons rfl (.p rfl) (.cons rfl .d (.cons rfl .d (.cons rfl .d .nil)))) (callIn1 rfl ⟨(by simp [AV.live, lk, Nat.beq]), trivial, trivial, trivial, trivial⟩ rfl (OD.dat_live (oviewView_dat _)) (by simp)) (.inl rfl)) <|
    .cons (o_mv rfl rfl .no rfl) <|
    .cons (o_ext rfl rfl .no rfl rfl) <|
    .cons (o_ext rfl rfl .no rfl rfl) <|
    .cons (o_as rfl rfl .no rfl) <|
    .cons (o_as rfl rfl .no rfl) <|
    .nil rfl
  ) ?_)
  obtain ⟨x10, hx11, h12⟩ := bind_some (x := view_View_Changes x7.2.2) h9
  refine cw_seq (cw_region (
    .cons (o_mv rfl rfl .no rfl) <|
    .cons (o_callX (fun n => bif Nat.beq n 0 then 0 else 2) rfl rfl .no Tryz.func17 rfl rfl (view_View_Changes_ok hx11) (.cons rfl (.p rfl) .nil) (callIn1N rfl ⟨(by simp [AV.live, lk, Nat.beq]), trivial⟩ (by decide) rfl (OD.dat_live (oviewView_dat _)) rfl (by simp)) (.inl rfl)) <|
    .cons (o_lenAM (enc := eapiChange) (xs := x10.1) rfl rfl .no rfl rfl sl49) <|
    .cons (o_as rfl rfl .no rfl) <|
    .nil rfl
  ) ?_)
  obtain ⟨x13, hx14, h15⟩ := bind_some (x := chunk_Cut x10.2 1 32) h12
  refine cw_seq (cw_region (
    .cons (o_mv rfl rfl .no rfl) <|
    .cons (o_callX (fun _ => 0) rfl rfl .no Tryz.func12 rfl rfl (chunk_Cut_ok hx14) (.cons rfl (.p rfl) (.cons rfl .d (.cons rfl .d .nil))) (callIn1 rfl ⟨(by simp [AV.live, lk, Nat.beq]), trivial, trivial, trivial⟩ rfl (OD.dat_live (oviewView_dat _)) (by simp)) (.inl rfl)) <|
    .cons (o_as rfl rfl .no rfl) <|
    .nil rfl
  ) ?_)
  obtain ⟨x16, hx17, h18⟩ := bind_some (x := chunk_Read x13.2 1 30 5) h15
  refine cw_seq (cw_region (
    .cons (o_mv rfl rfl .no rfl) <|
    .cons (o_callX (fun _ => 0) rfl rfl .no Tryz.func14 rfl rfl (chunk_Read_ok hx17) (.cons rfl (.p rfl) (.cons rfl .d (.cons rfl .d (.cons rfl .d .nil)))) (callIn1 rfl ⟨(by simp [AV.live, lk, Nat.beq]), trivial, trivial, trivial, trivial⟩ rfl (OD.dat_live (oviewView_dat _)) (by simp)) (.inl rfl)) <|
    .cons (o_mv rfl rfl .no rfl) <|
    .cons (o_ext rfl rfl .no rfl rfl) <|
    .cons (o_ext rfl rfl .no rfl rfl) <|
    .cons (o_as rfl rfl .no rfl) <|
    .cons (o_as rfl rfl .no rfl) <|
    .nil rfl
  ) ?_)
  obtain ⟨o37, hj38, h39⟩ := bind_some h18
  refine cw_join (fun (z : Bool) => St.of [(0, .d (ebool z))] []) (fun (z : Bool) => o37 = z) ?_ ?_
  · intro v58 hv59; subst hv59
    have heq := ((Option.some.inj h39).symm).symm
    subst heq
    exact cw_ret ⟨_, (show Leads _ _ (St.of [(0, .d (ebool o37))] []) from .w (weak_of ⟨⟨_, rfl, .d rfl⟩, trivial⟩ trivial drop0)), .inr rfl, _, res1 rfl rfl, rfl, rfl⟩
  · skip
    rcases cond_some hj38 with ⟨hc40, h41⟩ | ⟨hc40, h42⟩
    · skip
      rcases cond_some h41 with ⟨hc43, h44⟩ | ⟨hc43, h45⟩
      · skip
        rcases cond_some h44 with ⟨hc46, h47⟩ | ⟨hc46, h48⟩
        · skip
          rcases cond_some h47 with ⟨hc49, h50⟩ | ⟨hc49, h51⟩
          · skip
            rcases cond_some h50 with ⟨hc52, h53⟩ | ⟨hc52, h54⟩
            · skip
              rcases cond_some h53 with ⟨hc55, h56⟩ | ⟨hc55, h57⟩
              · skip
                refine cw_region (
                  .cons (o_mv rfl rfl .no rfl) <|
                  .cons (o_bin rfl rfl .no rfl rfl (b_eql _ _) rfl) <|
                  .cons (o_mv rfl rfl .no rfl) <|
                  .cons (o_mv rfl rfl (.yes rfl rfl hc40) rfl) <|
                  .cons (o_bin rfl rfl (.yes rfl rfl hc40) rfl rfl (s_eql _ _) rfl) <|
                  .cons (o_pickT rfl rfl .no rfl hc40 rfl) <|
                  .cons (o_mv rfl rfl .no rfl) <|
                  .cons (o_mv rfl rfl (.yes rfl rfl hc43) rfl) <|
                  .cons (o_bin rfl rfl (.yes rfl rfl hc43) rfl rfl (b_eql _ _) rfl) <|
                  .cons (o_pickT rfl rfl .no rfl hc43 rfl) <|
                  .cons (o_mv rfl rfl .no rfl) <|
                  .cons (o_mv rfl rfl (.yes rfl rfl hc46) rfl) <|
                  .cons (o_bin rfl rfl (.yes rfl rfl hc46) rfl rfl (b_eql _ _) rfl) <|
                  .cons (o_pickT rfl rfl .no rfl hc46 rfl) <|
                  .cons (o_mv rfl rfl .no rfl) <|
                  .cons (o_mv rfl rfl (.yes rfl rfl hc49) rfl) <|
                  .cons (o_bin rfl rfl (.yes rfl rfl hc49) rfl rfl (b_eql _ _) rfl) <|
                  .cons (o_pickT rfl rfl .no rfl hc49 rfl) <|
                  .cons (o_mv rfl rfl .no rfl) <|
                  .cons (o_mv rfl rfl (.yes rfl rfl hc52) rfl) <|
                  .cons (o_bin rfl rfl (.yes rfl rfl hc52) rfl rfl (s_eql _ _) rfl) <|
                  .cons (o_pickT rfl rfl .no rfl hc52 rfl) <|
                  .cons (o_mv rfl rfl .no rfl) <|
                  .cons (o_mv rfl rfl (.yes rfl rfl hc55) rfl) <|
                  .cons (o_bin rfl rfl (.yes rfl rfl hc55) rfl rfl (b_eql _ _) rfl) <|
                  .cons (o_pickT rfl rfl .no rfl hc55 rfl) <|
                  .cons (o_as rfl rfl .no rfl) <|
                  .nil rfl
                ) ?_
                exact ⟨(decide (x16.2.1 = 0)), (Option.some.inj h56).symm, .w (weak_of ⟨⟨_, rfl, .d rfl⟩, trivial⟩ trivial drop0)⟩
              · skip
                refine cw_region (
                  .cons (o_mv rfl rfl .no rfl) <|
                  .cons (o_bin rfl rfl .no rfl rfl (b_eql _ _) rfl) <|
                  .cons (o_mv rfl rfl .no rfl) <|
                  .cons (o_mv rfl rfl (.yes rfl rfl hc40) rfl) <|
                  .cons (o_bin rfl rfl (.yes rfl rfl hc40) rfl rfl (s_eql _ _) rfl) <|
                  .cons (o_pickT rfl rfl .no rfl hc40 rfl) <|
                  .cons (o_mv rfl rfl .no rfl) <|
                  .cons (o_mv rfl rfl (.yes rfl rfl hc43) rfl) <|
                  .cons (o_bin rfl rfl (.yes rfl rfl hc43) rfl rfl (b_eql _ _) rfl) <|
                  .cons (o_pickT rfl rfl .no rfl hc43 rfl) <|
                  .cons (o_mv rfl rfl .no rfl) <|
                  .cons (o_mv rfl rfl (.yes rfl rfl hc46) rfl) <|
                  .cons (o_bin rfl rfl (.yes rfl rfl hc46) rfl rfl (b_eql _ _) rfl) <|
                  .cons (o_pickT rfl rfl .no rfl hc46 rfl) <|
                  .cons (o_mv rfl rfl .no rfl) <|
                  .cons (o_mv rfl rfl (.yes rfl rfl hc49) rfl) <|
                  .cons (o_bin rfl rfl (.yes rfl rfl hc49) rfl rfl (b_eql _ _) rfl) <|
                  .cons (o_pickT rfl rfl .no rfl hc49 rfl) <|
                  .cons (o_mv rfl rfl .no rfl) <|
                  .cons (o_mv rfl rfl (.yes rfl rfl hc52) rfl) <|
                  .cons (o_bin rfl rfl (.yes rfl rfl hc52) rfl rfl (s_eql _ _) rfl) <|
                  .cons (o_pickT rfl rfl .no rfl hc52 rfl) <|
                  .cons (o_mv rfl rfl .no rfl) <|
                  .cons (o_noT rfl rfl rfl rfl hc55) <|
                  .cons (o_noT rfl rfl rfl rfl hc55) <|
                  .cons (o_pickF rfl rfl .no rfl hc55 rfl) <|
                  .cons (o_as rfl rfl .no rfl) <|
                  .nil rfl
                ) ?_
                exact ⟨false, (Option.some.inj h57).symm, .w (weak_of ⟨⟨_, rfl, .d rfl⟩, trivial⟩ trivial drop0)⟩
            · skip
              refine cw_region (
                .cons (o_mv rfl rfl .no rfl) <|
                .cons (o_bin rfl rfl .no rfl rfl (b_eql _ _) rfl) <|
                .cons (o_mv rfl rfl .no rfl) <|
                .cons (o_mv rfl rfl (.yes rfl rfl hc40) rfl) <|
                .cons (o_bin rfl rfl (.yes rfl rfl hc40) rfl rfl (s_eql _ _) rfl) <|
                .cons (o_pickT rfl rfl .no rfl hc40 rfl) <|
                .cons (o_mv rfl rfl .no rfl) <|
                .cons (o_mv rfl rfl (.yes rfl rfl hc43) rfl) <|
                .cons (o_bin rfl rfl (.yes rfl rfl hc43) rfl rfl (b_eql _ _) rfl) <|
                .cons (o_pickT rfl rfl .no rfl hc43 rfl) <|
                .cons (o_mv rfl rfl .no rfl) <|
                .cons (o_mv rfl rfl (.yes rfl rfl hc46) rfl) <|
                .cons (o_bin rfl rfl (.yes rfl rfl hc46) rfl rfl (b_eql _ _) rfl) <|
                .cons (o_pickT rfl rfl .no rfl hc46 rfl) <|
                .cons (o_mv rfl rfl .no rfl) <|
                .cons (o_mv rfl rfl (.yes rfl rfl hc49) rfl) <|
                .cons (o_bin rfl rfl (.yes rfl rfl hc49) rfl rfl (b_eql _ _) rfl) <|
                .cons (o_pickT rfl rfl .no rfl hc49 rfl) <|
                .cons (o_mv rfl rfl .no rfl) <|
                .cons (o_noT rfl rfl rfl rfl hc52) <|
                .cons (o_noT rfl rfl rfl rfl hc52) <|
                .cons (o_pickF rfl rfl .no rfl hc52 rfl) <|
                .cons (o_mv rfl rfl .no rfl) <|
                .cons (o_noT rfl rfl rfl rfl rfl) <|
                .cons (o_noT rfl rfl rfl rfl rfl) <|
                .cons (o_pickF rfl rfl .no rfl rfl rfl) <|
                .cons (o_as rfl rfl .no rfl) <|
                .nil rfl
              ) ?_
              exact ⟨false, (Option.some.inj h54).symm, .w (weak_of ⟨⟨_, rfl, .d rfl⟩, trivial⟩ trivial drop0)⟩
          · skip
            refine cw_region (
              .cons (o_mv rfl rfl .no rfl) <|
              .cons (o_bin rfl rfl .no rfl rfl (b_eql _ _) rfl) <|
              .cons (o_mv rfl rfl .no rfl) <|
              .cons (o_mv rfl rfl (.yes rfl rfl hc40) rfl) <|
              .cons (o_bin rfl rfl (.yes rfl rfl hc40) rfl rfl (s_eql _ _) rfl) <|
              .cons (o_pickT rfl rfl .no rfl hc40 rfl) <|
              .cons (o_mv rfl rfl .no rfl) <|
              .cons (o_mv rfl rfl (.yes rfl rfl hc43) rfl) <|
              .cons (o_bin rfl rfl (.yes rfl rfl hc43) rfl rfl (b_eql _ _) rfl) <|
              .cons (o_pickT rfl rfl .no rfl hc43 rfl) <|
              .cons (o_mv rfl rfl .no rfl) <|
              .cons (o_mv rfl rfl (.yes rfl rfl hc46) rfl) <|
              .cons (o_bin rfl rfl (.yes rfl rfl hc46) rfl rfl (b_eql _ _) rfl) <|
              .cons (o_pickT rfl rfl .no rfl hc46 rfl) <|
              .cons (o_mv rfl rfl .no rfl) <|
              .cons (o_noT rfl rfl rfl rfl hc49) <|
              .cons (o_noT rfl rfl rfl rfl hc49) <|
              .cons (o_pickF rfl rfl .no rfl hc49 rfl) <|
              .cons (o_mv rfl rfl .no rfl) <|
              .cons (o_noT rfl rfl rfl rfl rfl) <|
              .cons (o_noT rfl rfl rfl rfl rfl) <|
              .cons (o_pickF rfl rfl .no rfl rfl rfl) <|
              .cons (o_mv rfl rfl .no rfl) <|
              .cons (o_noT rfl rfl rfl rfl rfl) <|
              .cons (o_noT rfl rfl rfl rfl rfl) <|
              .cons (o_pickF rfl rfl .no rfl rfl rfl) <|
              .cons (o_as rfl rfl .no rfl) <|
              .nil rfl
            ) ?_
            exact ⟨false, (Option.some.inj h51).symm, .w (weak_of ⟨⟨_, rfl, .d rfl⟩, trivial⟩ trivial drop0)⟩
        · skip
          refine cw_region (
            .cons (o_mv rfl rfl .no rfl) <|
            .cons (o_bin rfl rfl .no rfl rfl (b_eql _ _) rfl) <|
            .cons (o_mv rfl rfl .no rfl) <|
            .cons (o_mv rfl rfl (.yes rfl rfl hc40) rfl) <|
            .cons (o_bin rfl rfl (.yes rfl rfl hc40) rfl rfl (s_eql _ _) rfl) <|
            .cons (o_pickT rfl rfl .no rfl hc40 rfl) <|
            .cons (o_mv rfl rfl .no rfl) <|
            .cons (o_mv rfl rfl (.yes rfl rfl hc43) rfl) <|
            .cons (o_bin rfl rfl (.yes rfl rfl hc43) rfl rfl (b_eql _ _) rfl) <|
            .cons (o_pickT rfl rfl .no rfl hc43 rfl) <|
            .cons (o_mv rfl rfl .no rfl) <|
            .cons (o_noT rfl rfl rfl rfl hc46) <|
            .cons (o_noT rfl rfl rfl rfl hc46) <|
            .cons (o_pickF rfl rfl .no rfl hc46 rfl) <|
            .cons (o_mv rfl rfl .no rfl) <|
            .cons (o_noT rfl rfl rfl rfl rfl) <|
            .cons (o_noT rfl rfl rfl rfl rfl) <|
            .cons (o_pickF rfl rfl .no rfl rfl rfl) <|
            .cons (o_mv rfl rfl .no rfl) <|
            .cons (o_noT rfl rfl rfl rfl rfl) <|
            .cons (o_noT rfl rfl rfl rfl rfl) <|
            .cons (o_pickF rfl rfl .no rfl rfl rfl) <|
            .cons (o_mv rfl rfl .no rfl) <|
            .cons (o_noT rfl rfl rfl rfl rfl) <|
            .cons (o_noT rfl rfl rfl rfl rfl) <|
            .cons (o_pickF rfl rfl .no rfl rfl rfl) <|
            .cons (o_as rfl rfl .no rfl) <|
            .nil rfl
          ) ?_
          exact ⟨false, (Option.some.inj h48).symm, .w (weak_of ⟨⟨_, rfl, .d rfl⟩, trivial⟩ trivial drop0)⟩
      · skip
        refine cw_region (
          .cons (o_mv rfl rfl .no rfl) <|
          .cons (o_bin rfl rfl .no rfl rfl (b_eql _ _) rfl) <|
          .cons (o_mv rfl rfl .no rfl) <|
          .cons (o_mv rfl rfl (.yes rfl rfl hc40) rfl) <|
          .cons (o_bin rfl rfl (.yes rfl rfl hc40) rfl rfl (s_eql _ _) rfl) <|
          .cons (o_pickT rfl rfl .no rfl hc40 rfl) <|
          .cons (o_mv rfl rfl .no rfl) <|
          .cons (o_noT rfl rfl rfl rfl hc43) <|
          .cons (o_noT rfl rfl rfl rfl hc43) <|
          .cons (o_pickF rfl rfl .no rfl hc43 rfl) <|
          .cons (o_mv rfl rfl .no rfl) <|
          .cons (o_noT rfl rfl rfl rfl rfl) <|
          .cons (o_noT rfl rfl rfl rfl rfl) <|
          .cons (o_pickF rfl rfl .no rfl rfl rfl) <|
          .cons (o_mv rfl rfl .no rfl) <|
          .cons (o_noT rfl rfl rfl rfl rfl) <|
          .cons (o_noT rfl rfl rfl rfl rfl) <|
          .cons (o_pickF rfl rfl .no rfl rfl rfl) <|
          .cons (o_mv rfl rfl .no rfl) <|
          .cons (o_noT rfl rfl rfl rfl rfl) <|
          .cons (o_noT rfl rfl rfl rfl rfl) <|
          .cons (o_pickF rfl rfl .no rfl rfl rfl) <|
          .cons (o_mv rfl rfl .no rfl) <|
          .cons (o_noT rfl rfl rfl rfl rfl) <|
          .cons (o_noT rfl rfl rfl rfl rfl) <|
          .cons (o_pickF rfl rfl .no rfl rfl rfl) <|
          .cons (o_as rfl rfl .no rfl) <|
          .nil rfl
        ) ?_
        exact ⟨false, (Option.some.inj h45).symm, .w (weak_of ⟨⟨_, rfl, .d rfl⟩, trivial⟩ trivial drop0)⟩
    · skip
      refine cw_region (
        .cons (o_mv rfl rfl .no rfl) <|
        .cons (o_bin rfl rfl .no rfl rfl (b_eql _ _) rfl) <|
        .cons (o_mv rfl rfl .no rfl) <|
        .cons (o_noT rfl rfl rfl rfl hc40) <|
        .cons (o_noT rfl rfl rfl rfl hc40) <|
        .cons (o_pickF rfl rfl .no rfl hc40 rfl) <|
        .cons (o_mv rfl rfl .no rfl) <|
        .cons (o_noT rfl rfl rfl rfl rfl) <|
        .cons (o_noT rfl rfl rfl rfl rfl) <|
        .cons (o_pickF rfl rfl .no rfl rfl rfl) <|
        .cons (o_mv rfl rfl .no rfl) <|
        .cons (o_noT rfl rfl rfl rfl rfl) <|
        .cons (o_noT rfl rfl rfl rfl rfl) <|
        .cons (o_pickF rfl rfl .no rfl rfl rfl) <|
        .cons (o_mv rfl rfl .no rfl) <|
        .cons (o_noT rfl rfl rfl rfl rfl) <|
        .cons (o_noT rfl rfl rfl rfl rfl) <|
        .cons (o_pickF rfl rfl .no rfl rfl rfl) <|
        .cons (o_mv rfl rfl .no rfl) <|
        .cons (o_noT rfl rfl rfl rfl rfl) <|
        .cons (o_noT rfl rfl rfl rfl rfl) <|
        .cons (o_pickF rfl rfl .no rfl rfl rfl) <|
        .cons (o_mv rfl rfl .no rfl) <|
        .cons (o_noT rfl rfl rfl rfl rfl) <|
        .cons (o_noT rfl rfl rfl rfl rfl) <|
        .cons (o_pickF rfl rfl .no rfl rfl rfl) <|
        .cons (o_as rfl rfl .no rfl) <|
        .nil rfl
      ) ?_
      exact ⟨false, (Option.some.inj h42).symm, .w (weak_of ⟨⟨_, rfl, .d rfl⟩, trivial⟩ trivial drop0)⟩

end
end Go.Val

