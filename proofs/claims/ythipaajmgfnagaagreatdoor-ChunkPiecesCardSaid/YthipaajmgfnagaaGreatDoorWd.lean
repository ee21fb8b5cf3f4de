/- Walks of the program's functions, printed. -/
import Derived.Test.YthipaajmgfnagaaGreatDoorWc
set_option linter.unusedSectionVars false
set_option linter.unusedVariables false
set_option linter.unusedSimpArgs false
namespace Go.Val
open Go.RowKit Go.Proofs

section
variable [Drw]

noncomputable def slices_DeleteFunc (a0 : List ((List UInt8) × (List UInt8) × Bool)) : Option (List ((List UInt8) × (List UInt8) × Bool)) :=
 (slices_IndexFunc a0).bind fun x1 =>
 cond (decide (x1 = (-1))) (
  some a0
 ) (
  (((
   whileO (V := (Int × Int × (List ((List UInt8) × (List UInt8) × Bool)))) (O := (Int × (List ((List UInt8) × (List UInt8) × Bool)))) (fun v178 =>
    cond (decide (v178.2.1 < (v178.2.2.length : Int))) (
     (((
      (gx v178.2.2 v178.2.1).bind fun x200 =>
      (span_Clean_1 x200).bind fun x203 =>
      cond (!x203) (
       (gx v178.2.2 v178.1).bind fun x209 =>
       some ((IntKind.wrap .i64 (v178.1 + 1)), (List.set v178.2.2 v178.1.toNat x200))
      ) (
       some (v178.1, v178.2.2)
      )
     ) : Option (Int × (List ((List UInt8) × (List UInt8) × Bool))))).bind fun o197 =>
     some (.inl (o197.1, (IntKind.wrap .i64 (v178.2.1 + 1)), o197.2))
    ) (
     some (.inr (v178.1, v178.2.2))
    )
   ) (x1, (IntKind.wrap .i64 (x1 + 1)), a0)
  ) : Option (Int × (List ((List UInt8) × (List UInt8) × Bool))))).bind fun o109 =>
  (ck (decide (0 ≤ o109.1 ∧ o109.1.toNat ≤ o109.2.length))).bind fun _ =>
  (cutB 0 o109.1 (List.take o109.1.toNat o109.2 ++ List.replicate (o109.2.length - o109.1.toNat) ((List.replicate 24 0), (List.replicate 24 0), false)).length).bind fun _ =>
  some (List.take o109.1.toNat (List.take o109.1.toNat o109.2 ++ List.replicate (o109.2.length - o109.1.toNat) ((List.replicate 24 0), (List.replicate 24 0), false)))
 )

set_option maxRecDepth 100000 in
theorem slices_DeleteFunc_ok {a0 : List ((List UInt8) × (List UInt8) × Bool)} {r : (List ((List UInt8) × (List UInt8) × Bool))} (h : slices_DeleteFunc a0 = some r) (u0 : Nat) : FnOk Tryz.prog 100 [.arr 0 u0, .fn 101 [] []] 1 (lk [(0, .arr u0 49 (List.map eapiSpan a0))]) (fun rr oo => rr = .arr 0 (u0 + 1) ∧ oo = lk [(0, .arr (u0 + 1) 49 (r.map eapiSpan))]) := by
  refine fnOk_of Tryz.func100 rfl rfl (cw_post ?_)
  unfold slices_DeleteFunc at h
  refine cw_seq (cw_region (
    .cons (o_as rfl rfl .no rfl) <|
    .nil rfl
  ) ?_)
  obtain ⟨x1, hx2, h3⟩ := bind_some (x := slices_IndexFunc a0) h
  refine cw_seq (cw_region (
    .cons (o_mv rfl rfl .no rfl) <|
    .cons (o_mv rfl rfl .no rfl) <|
    .cons (o_call rfl rfl .no Tryz.func127 rfl rfl (slices_IndexFunc_ok hx2) (.cons rfl (.arrM rfl) (.cons rfl .f0 .nil)) ⟨trivial, (by simp [AV.live, AV.lives]), trivial⟩ (.inr (DFlat.v _))) <|
    .cons (o_as rfl rfl .no rfl) <|
    .nil rfl
  ) ?_)
  refine cw_seq ?_
  refine cw_seq (cw_region (
    .cons (o_mv rfl rfl .no rfl) <|
    .cons (o_bin rfl rfl .no rfl rfl (b_eql _ _) rfl) <|
    .nil rfl
  ) ?_)
  rcases cond_some h3 with ⟨hc4, h5⟩ | ⟨hc4, h6⟩
  · refine cw_condT rfl hc4 ?_
    refine cw_seq (cw_region (
      .cons (o_mv rfl rfl .no rfl) <|
      .cons (o_as rfl rfl .no rfl) <|
      .nil rfl
    ) ?_)
    have heq := ((Option.some.inj h5).symm).symm
    subst heq
    exact cw_ret ⟨_, (show Leads _ _ (St.of [(4, .arr 0 (u0 + 1))] [(0, .arr (u0 + 1) 49 (a0.map eapiSpan))]) from .w (weak_of ⟨⟨_, rfl, .arr rfl rfl⟩, trivial⟩ ⟨.arrU rfl (by omega) rfl, trivial⟩ (dropK rfl))), .inr rfl, _, res1 rfl rfl, rfl, rfl⟩
  · refine cw_condF rfl hc4 ?_
    refine cw_skip ?_
    obtain ⟨o109, hj110, h111⟩ := bind_some h6
    refine cw_join (fun (z : (Int × (List ((List UInt8) × (List UInt8) × Bool)))) => St.of [(0, .arr 0 u0), (5, .d (eint z.1))] [(0, .arr u0 49 (z.2.map eapiSpan))]) (fun (z : (Int × (List ((List UInt8) × (List UInt8) × Bool)))) => o109 = z) ?_ ?_
    · intro v220 hv221; subst hv221
      obtain ⟨x214, hx215, h216⟩ := bind_some h111
      have hx215g := ck_dec hx215
      refine cw_seq (cw_region (
        .cons (o_mv rfl rfl .no rfl) <|
        .cons (o_mv rfl rfl .no rfl) <|
        .cons (o_tailM (enc := eapiSpan) (xs := o109.2) rfl rfl .no rfl rfl rfl sl59 sz41 hx215g.1 hx215g.2) <|
        .cons (o_clrM (enc := eapiSpan) (xs := o109.2) (z := ((List.replicate 24 0), (List.replicate 24 0), false)) rfl .no rfl rfl sl59 ze41 rfl (by decide) hx215g.2) <|
        .nil rfl
      ) ?_)
      obtain ⟨x217, hx218, h219⟩ := bind_some h216
      have hx218g := cutB_some hx218
      refine cw_seq (cw_region (
        .cons (o_mv rfl rfl .no rfl) <|
        .cons (o_mv rfl rfl .no rfl) <|
        .cons (o_preM (enc := eapiSpan) (xs := (List.take o109.1.toNat o109.2 ++ List.replicate (o109.2.length - o109.1.toNat) ((List.replicate 24 0), (List.replicate 24 0), false))) rfl rfl .no rfl rfl sl59 sz41 (.val rfl hx218g.2.1) hx218g.2.2.2) <|
        .cons (o_as rfl rfl .no rfl) <|
        .nil rfl
      ) ?_)
      have heq := ((Option.some.inj h219).symm).symm
      subst heq
      exact cw_ret ⟨_, (show Leads _ _ (St.of [(4, .arr 0 (u0 + 1))] [(0, .arr (u0 + 1) 49 ((List.take o109.1.toNat (List.take o109.1.toNat o109.2 ++ List.replicate (o109.2.length - o109.1.toNat) ((List.replicate 24 0), (List.replicate 24 0), false))).map eapiSpan))]) from .w (weak_of ⟨⟨_, rfl, .arr rfl rfl⟩, trivial⟩ ⟨.arr rfl rfl, trivial⟩ (dropK rfl))), .inr rfl, _, res1 rfl rfl, rfl, rfl⟩
    · skip
      refine cw_seq (cw_region (
        .cons (o_mv rfl rfl .no rfl) <|
        .cons (o_bin rfl rfl .no rfl rfl (b_add _ _) rfl) <|
        .cons (o_as rfl rfl .no rfl) <|
        .nil rfl
      ) ?_)
      refine cw_block ?_
      refine cw_while (V := (Int × Int × (List ((List UInt8) × (List UInt8) × Bool)))) (O := (Int × (List ((List UInt8) × (List UInt8) × Bool)))) (fun (z : (Int × Int × (List ((List UInt8) × (List UInt8) × Bool)))) => St.of [(0, .arr 0 u0), (1, .fn 101 [] []), (5, .d (eint z.1)), (6, .d (eint z.2.1))] [(0, .arr u0 49 (z.2.2.map eapiSpan))]) hj110 (.w (weak_of ⟨⟨_, rfl, .arr rfl rfl⟩, ⟨_, rfl, .fn .nil .nil⟩, ⟨_, rfl, .d rfl⟩, ⟨_, rfl, .d rfl⟩, trivial⟩ ⟨.arr rfl rfl, trivial⟩ (dropK rfl))) ?_
      intro v178 x179 hb180 hx181
      refine cw_seq ?_
      refine cw_seq (cw_region (
        .cons (o_mv rfl rfl .no rfl) <|
        .cons (o_mv rfl rfl .no rfl) <|
        .cons (o_lenAM (enc := eapiSpan) (xs := v178.2.2) rfl rfl .no rfl rfl sl59) <|
        .cons (o_bin rfl rfl .no rfl rfl (b_lss _ _) rfl) <|
        .nil rfl
      ) ?_)
      rcases cond_some hb180 with ⟨hc182, h183⟩ | ⟨hc182, h184⟩
      · refine cw_condT rfl hc182 ?_
        refine cw_skip ?_
        obtain ⟨o197, hj198, h199⟩ := bind_some h183
        refine cw_join (fun (z : (Int × (List ((List UInt8) × (List UInt8) × Bool)))) => St.of [(0, .arr 0 u0), (1, .fn 101 [] []), (5, .d (eint z.1)), (6, .d (eint v178.2.1))] [(0, .arr u0 49 (z.2.map eapiSpan))]) (fun (z : (Int × (List ((List UInt8) × (List UInt8) × Bool)))) => o197 = z) ?_ ?_
        · intro v212 hv213; subst hv213
          refine cw_region (
            .cons (o_mv rfl rfl .no rfl) <|
            .cons (o_bin rfl rfl .no rfl rfl (b_add _ _) rfl) <|
            .cons (o_as rfl rfl .no rfl) <|
            .nil rfl
          ) ?_
          exact ⟨(o197.1, (IntKind.wrap .i64 (v178.2.1 + 1)), o197.2), (Option.some.inj h199).symm, .w (weak_of ⟨⟨_, rfl, .arr rfl rfl⟩, ⟨_, rfl, .fn .nil .nil⟩, ⟨_, rfl, .d rfl⟩, ⟨_, rfl, .d rfl⟩, trivial⟩ ⟨.arr rfl rfl, trivial⟩ (dropK rfl))⟩
        · skip
          refine cw_block ?_
          obtain ⟨x200, hx201, h202⟩ := bind_some hj198
          have hx201g := gx_some hx201
          refine cw_seq (cw_region (
            .cons (o_mv rfl rfl .no rfl) <|
            .cons (o_mv rfl rfl .no rfl) <|
            .cons (o_ixAM (enc := eapiSpan) (xs := v178.2.2) rfl rfl .no rfl rfl rfl sl59 sz41 hx201g.1 hx201g.2) <|
            .cons (o_ldEM (enc := eapiSpan) (xs := v178.2.2) (r := x200) [] rfl rfl .no rfl rfl hx201g.2 rfl ta41 rfl rfl) <|
            .cons (o_alloc 1 rfl rfl .no ze41 rfl) <|
            .cons (o_st [] rfl .no rfl rfl rfl rfl rfl sz41 rfl rfl) <|
            .nil rfl
          ) ?_)
          obtain ⟨x203, hx204, h205⟩ := bind_some (x := span_Clean_1 x200) h202
          refine cw_seq (cw_region (
            .cons (o_mv rfl rfl .no rfl) <|
            .cons (o_ldP [] rfl rfl .no rfl rfl rfl ta41 rfl rfl) <|
            .cons (o_callV rfl rfl .no rfl Tryz.func101 rfl rfl (span_Clean_1_ok hx204) (.cons rfl .d .nil) ⟨trivial, trivial⟩ (.inl rfl)) <|
            .cons (o_not rfl rfl .no rfl) <|
            .nil rfl
          ) ?_)
          rcases cond_some h205 with ⟨hc206, h207⟩ | ⟨hc206, h208⟩
          · refine cw_condT rfl hc206 ?_
            obtain ⟨x209, hx210, h211⟩ := bind_some h207
            have hx210g := gx_some hx210
            refine cw_seq (cw_region (
              .cons (o_mv rfl rfl .no rfl) <|
              .cons (o_mv rfl rfl .no rfl) <|
              .cons (o_ldP [] rfl rfl .no rfl rfl rfl ta41 rfl rfl) <|
              .cons (o_ixAM (enc := eapiSpan) (xs := v178.2.2) rfl rfl .no rfl rfl rfl sl59 sz41 hx210g.1 hx210g.2) <|
              .cons (o_stEM (enc := eapiSpan) (xs := v178.2.2) (y := x200) (r := x209) rfl .no rfl rfl rfl hx210g.2 sz41 rfl (siapiSpan _)) <|
              .nil rfl
            ) ?_)
            refine cw_region (
              .cons (o_mv rfl rfl .no rfl) <|
              .cons (o_bin rfl rfl .no rfl rfl (b_add _ _) rfl) <|
              .cons (o_as rfl rfl .no rfl) <|
              .nil rfl
            ) ?_
            exact ⟨((IntKind.wrap .i64 (v178.1 + 1)), (List.set v178.2.2 v178.1.toNat x200)), (Option.some.inj h211).symm, .w (weak_of ⟨⟨_, rfl, .arr rfl rfl⟩, ⟨_, rfl, .fn .nil .nil⟩, ⟨_, rfl, .d rfl⟩, ⟨_, rfl, .d rfl⟩, trivial⟩ ⟨.arr rfl rfl, trivial⟩ (dropK rfl))⟩
          · refine cw_condF rfl hc206 ?_
            refine cw_skip ?_
            exact ⟨(v178.1, v178.2.2), (Option.some.inj h208).symm, .w (weak_of ⟨⟨_, rfl, .arr rfl rfl⟩, ⟨_, rfl, .fn .nil .nil⟩, ⟨_, rfl, .d rfl⟩, ⟨_, rfl, .d rfl⟩, trivial⟩ ⟨.arr rfl rfl, trivial⟩ (dropK rfl))⟩
      · refine cw_condF rfl hc182 ?_
        refine cw_exit ?_
        exact ⟨(v178.1, v178.2.2), (hx181 _ (Option.some.inj h184).symm).symm, .w (weak_of ⟨⟨_, rfl, .arr rfl rfl⟩, ⟨_, rfl, .d rfl⟩, trivial⟩ ⟨.arr rfl rfl, trivial⟩ (dropK rfl))⟩

end
end Go.Val

