/- Walks of the program's functions, printed. -/
import Derived.Test.YthipaajmgfnagaaGreatDoorWd
import Derived.Test.YthipaajmgfnagaaGreatDoorHd
set_option linter.unusedSectionVars false
set_option linter.unusedVariables false
set_option linter.unusedSimpArgs false
namespace Go.Val
open Go.RowKit Go.Proofs

section
variable [NoDrw]

noncomputable def span_Clean (a0 : List ((List UInt8) × (List UInt8) × Bool)) : Option (List ((List UInt8) × (List UInt8) × Bool)) :=
 (slices_Clone55 a0).bind fun x1 =>
 (slices_DeleteFunc x1).bind fun x4 =>
 (fits x4.length 49).bind fun _ =>
 (((
  whileO (V := (Int × (List ((List UInt8) × (List UInt8) × Bool)))) (O := (List ((List UInt8) × (List UInt8) × Bool))) (fun v961 =>
   cond (decide (v961.1 < ((sortSpans x4).length : Int))) (
    (((
     (gx (sortSpans x4) v961.1).bind fun x1061 =>
     (span_bounds x1061).bind fun x1064 =>
     (((
      cond (decide ((v961.2.length : Int) > 0)) (
       (gx v961.2 (IntKind.wrap .i64 ((v961.2.length : Int) - 1))).bind fun x1108 =>
       (span_bounds x1108).bind fun x1111 =>
       (span_bound_compare x1064.1 x1111.2).bind fun x1114 =>
       cond (decide (x1114 ≤ 0)) (
        (((
         (span_bound_compare x1064.2 x1111.2).bind fun x1129 =>
         cond (decide (x1129 > 0)) (
          some x1064.2
         ) (
          some x1111.2
         )
        ) : Option ((List UInt8) × Bool))).bind fun o1126 =>
        (span_made x1111.1 o1126).bind fun x1135 =>
        some (.inr (List.set v961.2 (IntKind.wrap .i64 ((v961.2.length : Int) - 1)).toNat x1135))
       ) (
        some (.inl ())
       )
      ) (
       some (.inl ())
      )
     ) : Option (Unit ⊕ (List ((List UInt8) × (List UInt8) × Bool))))).bind fun o1102 =>
     Sum.elim (fun (v1141 : Unit) =>
      (span_made x1064.1 x1064.2).bind fun x1142 =>
      (fits (v961.2.length + ([x1142]).length) 49).bind fun _ =>
      some (v961.2 ++ [x1142])
     ) (fun w1150 =>
      some w1150
     ) o1102
    ) : Option (List ((List UInt8) × (List UInt8) × Bool)))).bind fun o1058 =>
    some (.inl ((IntKind.wrap .i64 (v961.1 + 1)), o1058))
   ) (
    some (.inr v961.2)
   )
  ) (0, [])
 ) : Option (List ((List UInt8) × (List UInt8) × Bool)))).bind fun o580 =>
 some o580

noncomputable def view_View_read (a0 : VwT) (a1 : ((List UInt8) × (List UInt8) × Bool)) : Option VwT :=
 (((
  (fits (a0.2.2.1.length + ([a1]).length) 49).bind fun _ =>
  (span_Clean (a0.2.2.1 ++ [a1])).bind fun x13 =>
  some (a0.1, a0.2.1, x13, a0.2.2.2)
 ) : Option VwT)).bind fun o7 =>
 some o7

set_option maxRecDepth 100000 in
theorem span_Clean_ok {a0 : List ((List UInt8) × (List UInt8) × Bool)} {r : (List ((List UInt8) × (List UInt8) × Bool))} (h : span_Clean a0 = some r) : FnOk Tryz.prog 67 [.d (eSapiSpan a0)] 0 (lk []) (fun rr oo => rr = .arr 0 0 ∧ oo = lk [(0, .arr 0 49 (r.map eapiSpan))]) := by
  refine fnOk_of Tryz.func67 rfl rfl (cw_post ?_)
  unfold span_Clean at h
  refine cw_seq (cw_region (
    .cons (o_as rfl rfl .no rfl) <|
    .nil rfl
  ) ?_)
  obtain ⟨x1, hx2, h3⟩ := bind_some (x := slices_Clone55 a0) h
  obtain ⟨x4, hx5, h6⟩ := bind_some (x := slices_DeleteFunc x1) h3
  refine cw_seq (cw_region (
    .cons (o_mv rfl rfl .no rfl) <|
    .cons (o_callO 4 rfl rfl .no Tryz.func55 rfl rfl (slices_Clone55_ok hx2) (.cons rfl .d .nil) ⟨trivial, trivial⟩ rfl (.inl rfl)) <|
    .cons (o_callX (fun _ => 4) rfl rfl .no Tryz.func100 rfl rfl (slices_DeleteFunc_ok hx5 0) (.cons rfl (.a rfl) (.cons rfl .f0 .nil)) (callIn1 rfl ⟨(by simp [AV.live, lk, Nat.beq]), (by simp [AV.live, AV.lives]), trivial⟩ rfl trivial (by simp)) (.inl rfl)) <|
    .cons (o_as rfl rfl .no rfl) <|
    .nil rfl
  ) ?_)
  obtain ⟨x7, hx8, h9⟩ := bind_some h6
  have hx8g := fits_some hx8
  refine cw_seq (cw_region (
    .cons (o_mv rfl rfl .no rfl) <|
    .cons (o_callX (fun _ => 4) rfl rfl .no Tryz.func104 rfl rfl (sort104_ok hx8 (0 + 1)) (.cons rfl (.a rfl) (.cons rfl .f0 .nil)) (callIn1 rfl ⟨(by simp [AV.live, lk]), (by simp [AV.live, AV.lives]), trivial⟩ rfl trivial (by simp)) (.inl rfl)) <|
    .nil rfl
  ) ?_)
  refine cw_seq (cw_region (
    .cons (o_as rfl rfl .no rfl) <|
    .nil rfl
  ) ?_)
  obtain ⟨o580, hj581, h582⟩ := bind_some h9
  refine cw_join (fun (z : (List ((List UInt8) × (List UInt8) × Bool))) => St.of [(3, .arr 0 0)] [(0, .arr 0 49 (z.map eapiSpan))]) (fun (z : (List ((List UInt8) × (List UInt8) × Bool))) => o580 = z) ?_ ?_
  · intro v1153 hv1154; subst hv1154
    refine cw_seq (cw_region (
      .cons (o_mv rfl rfl .no rfl) <|
      .cons (o_as rfl rfl .no rfl) <|
      .nil rfl
    ) ?_)
    have heq := ((Option.some.inj h582).symm).symm
    subst heq
    exact cw_ret ⟨_, (show Leads _ _ (St.of [(2, .arr 0 0)] [(0, .arr 0 49 (o580.map eapiSpan))]) from .w (weak_of ⟨⟨_, rfl, .arr rfl rfl⟩, trivial⟩ ⟨.arr rfl rfl, trivial⟩ drop0)), .inr rfl, _, res1 rfl rfl, rfl, rfl⟩
  · skip
    refine cw_seq (cw_region (
      .cons (o_mv rfl rfl .no rfl) <|
      .cons (o_lenAM (enc := eapiSpan) (xs := (sortSpans x4)) rfl rfl .no rfl rfl sl59) <|
      .cons (o_mv rfl rfl .no rfl) <|
      .nil rfl
    ) ?_)
    refine cw_block ?_
    refine cw_while (V := (Int × (List ((List UInt8) × (List UInt8) × Bool)))) (O := (List ((List UInt8) × (List UInt8) × Bool))) (fun (z : (Int × (List ((List UInt8) × (List UInt8) × Bool)))) => St.of [(3, .arr 0 0), (16, .arr 4 0), (17, .d (eint ((sortSpans x4).length : Int))), (18, .d (eint z.1))] [(0, .arr 0 49 (z.2.map eapiSpan)), (4, .arr 0 49 ((sortSpans x4).map eapiSpan))]) hj581 (.w (weak_of ⟨⟨_, rfl, .nila rfl rfl⟩, ⟨_, rfl, .arr rfl rfl⟩, ⟨_, rfl, .d rfl⟩, ⟨_, rfl, .d rfl⟩, trivial⟩ ⟨.nil rfl, .arr0 rfl rfl rfl, trivial⟩ drop0)) ?_
    intro v961 x962 hb963 hx964
    refine cw_seq (cw_region (
      .cons (o_bin rfl rfl .no rfl rfl (b_lss _ _) rfl) <|
      .nil rfl
    ) ?_)
    refine cw_seq ?_
    rcases cond_some hb963 with ⟨hc965, h966⟩ | ⟨hc965, h967⟩
    · refine cw_condT rfl hc965 ?_
      refine cw_skip ?_
      obtain ⟨o1058, hj1059, h1060⟩ := bind_some h966
      refine cw_join (fun (z : (List ((List UInt8) × (List UInt8) × Bool))) => St.of [(3, .arr 0 0), (16, .arr 4 0), (17, .d (eint ((sortSpans x4).length : Int))), (18, .d (eint v961.1))] [(0, .arr 0 49 (z.map eapiSpan)), (4, .arr 0 49 ((sortSpans x4).map eapiSpan))]) (fun (z : (List ((List UInt8) × (List UInt8) × Bool))) => o1058 = z) ?_ ?_
      · intro v1151 hv1152; subst hv1152
        refine cw_region (
          .cons (o_bin rfl rfl .no rfl rfl (b_add _ _) rfl) <|
          .cons (o_mv rfl rfl .no rfl) <|
          .nil rfl
        ) ?_
        exact ⟨((IntKind.wrap .i64 (v961.1 + 1)), o1058), (Option.some.inj h1060).symm, .w (weak_of ⟨⟨_, rfl, .arr rfl rfl⟩, ⟨_, rfl, .arr rfl rfl⟩, ⟨_, rfl, .d rfl⟩, ⟨_, rfl, .d rfl⟩, trivial⟩ ⟨.arr rfl rfl, .arr rfl rfl, trivial⟩ drop0)⟩
      · skip
        refine cw_block ?_
        obtain ⟨x1061, hx1062, h1063⟩ := bind_some hj1059
        have hx1062g := gx_some hx1062
        refine cw_seq (cw_region (
          .cons (o_ixAM (enc := eapiSpan) (xs := (sortSpans x4)) rfl rfl .no rfl rfl rfl sl59 sz41 hx1062g.1 hx1062g.2) <|
          .cons (o_ldEM (enc := eapiSpan) (xs := (sortSpans x4)) (r := x1061) [] rfl rfl .no rfl rfl hx1062g.2 rfl ta41 rfl rfl) <|
          .cons (o_alloc 1 rfl rfl .no ze41 rfl) <|
          .cons (o_st [] rfl .no rfl rfl rfl rfl rfl sz41 rfl rfl) <|
          .nil rfl
        ) ?_)
        obtain ⟨x1064, hx1065, h1066⟩ := bind_some (x := span_bounds x1061) h1063
        refine cw_seq (cw_region (
          .cons (o_ldP [] rfl rfl .no rfl rfl rfl ta41 rfl rfl) <|
          .cons (o_call rfl rfl .no Tryz.func102 rfl rfl (span_bounds_ok hx1065) (.cons rfl .d .nil) ⟨trivial, trivial⟩ (.inl rfl)) <|
          .cons (o_mv rfl rfl .no rfl) <|
          .cons (o_ext rfl rfl .no rfl rfl) <|
          .cons (o_ext rfl rfl .no rfl rfl) <|
          .cons (o_alloc 2 rfl rfl .no ze159 rfl) <|
          .cons (o_alloc 3 rfl rfl .no ze159 rfl) <|
          .cons (o_st [] rfl .no rfl rfl rfl rfl rfl sz159 rfl rfl) <|
          .cons (o_st [] rfl .no rfl rfl rfl rfl rfl sz159 rfl rfl) <|
          .nil rfl
        ) ?_)
        obtain ⟨o1102, hj1103, h1104⟩ := bind_some h1066
        refine cw_join (fun (z : Unit) => St.of [(3, .arr 0 0), (6, .ptr 2 0), (7, .ptr 3 0), (16, .arr 4 0), (17, .d (eint ((sortSpans x4).length : Int))), (18, .d (eint v961.1))] [(0, .arr 0 49 (v961.2.map eapiSpan)), (2, .box (.d (espanbound x1064.1))), (3, .box (.d (espanbound x1064.2))), (4, .arr 0 49 ((sortSpans x4).map eapiSpan))]) (fun (z : Unit) => o1102 = (.inl z)) ?_ ?_
        · intro v1141 hv1149; subst hv1149
          simp only [Sum.elim_inl] at h1104
          obtain ⟨x1142, hx1143, h1144⟩ := bind_some (x := span_made x1064.1 x1064.2) h1104
          obtain ⟨x1145, hx1146, h1147⟩ := bind_some h1144
          have hx1146g := fits_some hx1146
          refine cw_region (
            .cons (o_mv rfl rfl .no rfl) <|
            .cons (o_ldP [] rfl rfl .no rfl rfl rfl ta159 rfl rfl) <|
            .cons (o_ldP [] rfl rfl .no rfl rfl rfl ta159 rfl rfl) <|
            .cons (o_call rfl rfl .no Tryz.func106 rfl rfl (span_made_ok hx1143) (.cons rfl .d (.cons rfl .d .nil)) ⟨trivial, trivial, trivial⟩ (.inl rfl)) <|
            .cons (o_bsl (rows := ([x1142] : List ((List UInt8) × (List UInt8) × Bool)).map eapiSpan) rfl rfl .no (.cons rfl .nil) rfl sl59 sz41 ze41 rfl (map_sz siapiSpan) (by decide)) <|
            .cons (o_appM (enc := eapiSpan) (xs := v961.2) (ys := [x1142]) rfl rfl .no rfl rfl rfl siapiSpan sl59 sl59 sz41 by41 ze41 rfl (by decide) hx1146g) <|
            .cons (o_as rfl rfl .no rfl) <|
            .nil rfl
          ) ?_
          exact ⟨(v961.2 ++ [x1142]), (Option.some.inj h1147).symm, .w (weak_of ⟨⟨_, rfl, .arr rfl rfl⟩, ⟨_, rfl, .arr rfl rfl⟩, ⟨_, rfl, .d rfl⟩, ⟨_, rfl, .d rfl⟩, trivial⟩ ⟨.arr0 rfl rfl rfl, .arr rfl rfl, trivial⟩ drop0)⟩
        · skip
          refine cw_seq (cw_region (
            .cons (o_mv rfl rfl .no rfl) <|
            .cons (o_lenAM (enc := eapiSpan) (xs := v961.2) rfl rfl .no rfl rfl sl59) <|
            .cons (o_as rfl rfl .no rfl) <|
            .nil rfl
          ) ?_)
          refine cw_seq (cw_region (
            .cons (o_mv rfl rfl .no rfl) <|
            .cons (o_bin rfl rfl .no rfl rfl (b_gtr _ _) rfl) <|
            .nil rfl
          ) ?_)
          rcases cond_some hj1103 with ⟨hc1105, h1106⟩ | ⟨hc1105, h1107⟩
          · refine cw_condT rfl hc1105 ?_
            obtain ⟨x1108, hx1109, h1110⟩ := bind_some h1106
            have hx1109g := gx_some hx1109
            obtain ⟨x1111, hx1112, h1113⟩ := bind_some (x := span_bounds x1108) h1110
            refine cw_seq (cw_region (
              .cons (o_mv rfl rfl .no rfl) <|
              .cons (o_mv rfl rfl .no rfl) <|
              .cons (o_bin rfl rfl .no rfl rfl (b_sub _ _) rfl) <|
              .cons (o_ixAM (enc := eapiSpan) (xs := v961.2) rfl rfl .no rfl rfl rfl sl59 sz41 hx1109g.1 hx1109g.2) <|
              .cons (o_ldEM (enc := eapiSpan) (xs := v961.2) (r := x1108) [] rfl rfl .no rfl rfl hx1109g.2 rfl ta41 rfl rfl) <|
              .cons (o_call rfl rfl .no Tryz.func102 rfl rfl (span_bounds_ok hx1112) (.cons rfl .d .nil) ⟨trivial, trivial⟩ (.inl rfl)) <|
              .cons (o_mv rfl rfl .no rfl) <|
              .cons (o_ext rfl rfl .no rfl rfl) <|
              .cons (o_ext rfl rfl .no rfl rfl) <|
              .cons (o_alloc 5 rfl rfl .no ze159 rfl) <|
              .cons (o_alloc 6 rfl rfl .no ze159 rfl) <|
              .cons (o_st [] rfl .no rfl rfl rfl rfl rfl sz159 rfl rfl) <|
              .cons (o_st [] rfl .no rfl rfl rfl rfl rfl sz159 rfl rfl) <|
              .nil rfl
            ) ?_)
            obtain ⟨x1114, hx1115, h1116⟩ := bind_some (x := span_bound_compare x1064.1 x1111.2) h1113
            refine cw_seq (cw_region (
              .cons (o_ldP [] rfl rfl .no rfl rfl rfl ta159 rfl rfl) <|
              .cons (o_ldP [] rfl rfl .no rfl rfl rfl ta159 rfl rfl) <|
              .cons (o_call rfl rfl .no Tryz.func103 rfl rfl (span_bound_compare_ok hx1115) (.cons rfl .d (.cons rfl .d .nil)) ⟨trivial, trivial, trivial⟩ (.inl rfl)) <|
              .cons (o_bin rfl rfl .no rfl rfl (b_leq _ _) rfl) <|
              .nil rfl
            ) ?_)
            rcases cond_some h1116 with ⟨hc1117, h1118⟩ | ⟨hc1117, h1119⟩
            · refine cw_condT rfl hc1117 ?_
              obtain ⟨o1126, hj1127, h1128⟩ := bind_some h1118
              refine cw_join (fun (z : ((List UInt8) × Bool)) => St.of [(3, .arr 0 0), (8, .d (eint (v961.2.length : Int))), (9, .ptr 5 0), (10, .ptr 6 0), (16, .arr 4 0), (17, .d (eint ((sortSpans x4).length : Int))), (18, .d (eint v961.1))] [(0, .arr 0 49 (v961.2.map eapiSpan)), (4, .arr 0 49 ((sortSpans x4).map eapiSpan)), (5, .box (.d (espanbound x1111.1))), (6, .box (.d (espanbound z)))]) (fun (z : ((List UInt8) × Bool)) => o1126 = z) ?_ ?_
              · intro v1139 hv1140; subst hv1140
                obtain ⟨x1135, hx1136, h1137⟩ := bind_some (x := span_made x1111.1 o1126) h1128
                refine cw_seq (cw_region (
                  .cons (o_mv rfl rfl .no rfl) <|
                  .cons (o_mv rfl rfl .no rfl) <|
                  .cons (o_bin rfl rfl .no rfl rfl (b_sub _ _) rfl) <|
                  .cons (o_ldP [] rfl rfl .no rfl rfl rfl ta159 rfl rfl) <|
                  .cons (o_ldP [] rfl rfl .no rfl rfl rfl ta159 rfl rfl) <|
                  .cons (o_call rfl rfl .no Tryz.func106 rfl rfl (span_made_ok hx1136) (.cons rfl .d (.cons rfl .d .nil)) ⟨trivial, trivial, trivial⟩ (.inl rfl)) <|
                  .cons (o_ixAM (enc := eapiSpan) (xs := v961.2) rfl rfl .no rfl rfl rfl sl59 sz41 hx1109g.1 hx1109g.2) <|
                  .cons (o_stEM (enc := eapiSpan) (xs := v961.2) (y := x1135) (r := x1108) rfl .no rfl rfl rfl hx1109g.2 sz41 rfl (siapiSpan _)) <|
                  .nil rfl
                ) ?_)
                refine cw_exit ?_
                have he1138 := ((Option.some.inj h1137).symm).symm
                subst he1138
                exact ⟨(List.set v961.2 (IntKind.wrap .i64 ((v961.2.length : Int) - 1)).toNat x1135), (Option.some.inj h1104).symm, .w (weak_of ⟨⟨_, rfl, .arr rfl rfl⟩, ⟨_, rfl, .arr rfl rfl⟩, ⟨_, rfl, .d rfl⟩, ⟨_, rfl, .d rfl⟩, trivial⟩ ⟨.arr rfl rfl, .arr rfl rfl, trivial⟩ drop0)⟩
              · skip
                obtain ⟨x1129, hx1130, h1131⟩ := bind_some (x := span_bound_compare x1064.2 x1111.2) hj1127
                refine cw_seq (cw_region (
                  .cons (o_ldP [] rfl rfl .no rfl rfl rfl ta159 rfl rfl) <|
                  .cons (o_ldP [] rfl rfl .no rfl rfl rfl ta159 rfl rfl) <|
                  .cons (o_call rfl rfl .no Tryz.func103 rfl rfl (span_bound_compare_ok hx1130) (.cons rfl .d (.cons rfl .d .nil)) ⟨trivial, trivial, trivial⟩ (.inl rfl)) <|
                  .cons (o_bin rfl rfl .no rfl rfl (b_gtr _ _) rfl) <|
                  .nil rfl
                ) ?_)
                rcases cond_some h1131 with ⟨hc1132, h1133⟩ | ⟨hc1132, h1134⟩
                · refine cw_condT rfl hc1132 ?_
                  refine cw_region (
                    .cons (o_ldP [] rfl rfl .no rfl rfl rfl ta159 rfl rfl) <|
                    .cons (o_st [] rfl .no rfl rfl rfl rfl rfl sz159 rfl rfl) <|
                    .nil rfl
                  ) ?_
                  exact ⟨x1064.2, (Option.some.inj h1133).symm, .w (weak_of ⟨⟨_, rfl, .arr rfl rfl⟩, ⟨_, rfl, .d rfl⟩, ⟨_, rfl, .ptr rfl rfl⟩, ⟨_, rfl, .ptr rfl rfl⟩, ⟨_, rfl, .arr rfl rfl⟩, ⟨_, rfl, .d rfl⟩, ⟨_, rfl, .d rfl⟩, trivial⟩ ⟨.arr rfl rfl, .arr rfl rfl, .box rfl (.d rfl), .box rfl (.d rfl), trivial⟩ drop0)⟩
                · refine cw_condF rfl hc1132 ?_
                  refine cw_skip ?_
                  exact ⟨x1111.2, (Option.some.inj h1134).symm, .w (weak_of ⟨⟨_, rfl, .arr rfl rfl⟩, ⟨_, rfl, .d rfl⟩, ⟨_, rfl, .ptr rfl rfl⟩, ⟨_, rfl, .ptr rfl rfl⟩, ⟨_, rfl, .arr rfl rfl⟩, ⟨_, rfl, .d rfl⟩, ⟨_, rfl, .d rfl⟩, trivial⟩ ⟨.arr rfl rfl, .arr rfl rfl, .box rfl (.d rfl), .box rfl (.d rfl), trivial⟩ drop0)⟩
            · refine cw_condF rfl hc1117 ?_
              refine cw_skip ?_
              exact ⟨(), (Option.some.inj h1119).symm, .w (weak_of ⟨⟨_, rfl, .arr rfl rfl⟩, ⟨_, rfl, .ptr rfl rfl⟩, ⟨_, rfl, .ptr rfl rfl⟩, ⟨_, rfl, .arr rfl rfl⟩, ⟨_, rfl, .d rfl⟩, ⟨_, rfl, .d rfl⟩, trivial⟩ ⟨.arr rfl rfl, .box rfl (.d rfl), .box rfl (.d rfl), .arr rfl rfl, trivial⟩ drop0)⟩
          · refine cw_condF rfl hc1105 ?_
            refine cw_skip ?_
            exact ⟨(), (Option.some.inj h1107).symm, .w (weak_of ⟨⟨_, rfl, .arr rfl rfl⟩, ⟨_, rfl, .ptr rfl rfl⟩, ⟨_, rfl, .ptr rfl rfl⟩, ⟨_, rfl, .arr rfl rfl⟩, ⟨_, rfl, .d rfl⟩, ⟨_, rfl, .d rfl⟩, trivial⟩ ⟨.arr rfl rfl, .box rfl (.d rfl), .box rfl (.d rfl), .arr rfl rfl, trivial⟩ drop0)⟩
    · refine cw_condF rfl hc965 ?_
      refine cw_exit ?_
      exact ⟨v961.2, (hx964 _ (Option.some.inj h967).symm).symm, .w (weak_of ⟨⟨_, rfl, .arr rfl rfl⟩, trivial⟩ ⟨.arr rfl rfl, trivial⟩ drop0)⟩

set_option maxRecDepth 100000 in
theorem view_View_read_ok {a0 : VwT} {a1 : ((List UInt8) × (List UInt8) × Bool)} {r : VwT} (h : view_View_read a0 a1 = some r) : FnOk Tryz.prog 35 [.ptr 0 0, .d (eapiSpan a1)] 1 (lk [(0, .own (oviewView a0))]) (fun rr oo => rr = .tup [] ∧ oo = lk [(0, .own (oviewView r))]) := by
  refine fnOk_of Tryz.func35 rfl rfl (cw_post ?_)
  unfold view_View_read at h
  obtain ⟨o7, hj8, h9⟩ := bind_some h
  refine cw_tail (fun (z : VwT) => St.of [] [(0, .own (oviewView z))]) (fun (z : VwT) => o7 = z) ?_ ?_
  · intro v16 hv17; subst hv17
    have heq := ((Option.some.inj h9).symm).symm
    subst heq
    exact ⟨_, (show Leads _ _ (St.of [] [(0, .own (oviewView o7))]) from .w (weak_of trivial ⟨.own rfl (.of_eq rfl (oviewView_dat _)), trivial⟩ (dropK rfl))), .inl rfl, _, res0 rfl, rfl, rfl⟩
  · skip
    refine cw_seq (cw_region (
      .cons (o_box 1 rfl rfl .no rfl rfl rfl) <|
      .nil rfl
    ) ?_)
    refine cw_leads (leads_open (o := 0) (y := .st [.ifc 71 (.d (.at (eviewPlain a0.1))), .map 2, .arr 3 0, .arr 4 0]) (news := [(2, .map 0 (mD eapiKey eapiChange a0.2.1)), (3, .arr 0 49 (a0.2.2.1.map eapiSpan)), (4, .arr 0 1 (a0.2.2.2.map eMapiKeyapiChange))]) rfl (.st (.cons (.av rfl) (.cons (.map rfl) (.cons (.arr rfl) (.cons (.arr rfl) .nil))))) rfl rfl ⟨rfl, rfl, rfl, trivial⟩) ?_
    refine cw_weak (weak_of (l := [(0, .ptr 0 0), (3, .ptr 1 0)]) (m := [(0, .box (.st [.ifc 71 (.d (.at (eviewPlain a0.1))), .map 2, .arr 3 0, .arr 4 0])), (1, .box (.d (eapiSpan a1))), (2, .map 0 (mD eapiKey eapiChange a0.2.1)), (3, .arr 0 49 (a0.2.2.1.map eapiSpan)), (4, .arr 0 1 (a0.2.2.2.map eMapiKeyapiChange))]) ⟨⟨_, rfl, .ptr rfl rfl⟩, ⟨_, rfl, .ptr rfl rfl⟩, trivial⟩ ⟨.box rfl (.st (.cons (.ifc (.d rfl)) (.cons (.map rfl rfl) (.cons (.arr rfl rfl) (.cons (.arr rfl rfl) .nil))))), .box rfl (.d rfl), .map rfl rfl, .arr rfl rfl, .arr rfl rfl, trivial⟩ (dropK rfl)) ?_
    obtain ⟨x10, hx11, h12⟩ := bind_some hj8
    have hx11g := fits_some hx11
    obtain ⟨x13, hx14, h15⟩ := bind_some (x := span_Clean (a0.2.2.1 ++ [a1])) h12
    refine cw_region_any mixed (by kernel_rfl) (
      .cons (o_mv rfl rfl .no rfl) <|
      .cons (o_mv rfl rfl .no rfl) <|
      .cons (o_nilP rfl rfl .no rfl) <|
      .cons (o_fldP rfl rfl .no rfl fld76_2 (by decide)) <|
      .cons (o_ldP [2] rfl rfl .no rfl rfl rfl ta59 rfl rfl) <|
      .cons (o_ldP [] rfl rfl .no rfl rfl rfl ta41 rfl rfl) <|
      .cons (o_bsl (rows := ([a1] : List ((List UInt8) × (List UInt8) × Bool)).map eapiSpan) rfl rfl .no (.cons rfl .nil) rfl sl59 sz41 ze41 rfl (map_sz siapiSpan) (by decide)) <|
      .cons (o_appM (enc := eapiSpan) (xs := a0.2.2.1) (ys := [a1]) rfl rfl .no rfl rfl rfl siapiSpan sl59 sl59 sz41 by41 ze41 rfl (by decide) hx11g) <|
      .cons (o_callO 5 rfl rfl .no Tryz.func67 rfl rfl (span_Clean_ok hx14) (.cons rfl (.arrM rfl) .nil) ⟨trivial, trivial⟩ rfl (.inr ⟨trivial, (flat_rows fun _ => (flapiSpan _))⟩)) <|
      .cons (o_nilP rfl rfl .no rfl) <|
      .cons (o_fldP rfl rfl .no rfl fld76_2 (by decide)) <|
      .cons (o_st [2] rfl .no rfl rfl rfl rfl rfl sz59 rfl rfl) <|
      .nil rfl
    ) (by kernel_rfl) ?_
    exact ⟨(a0.1, a0.2.1, x13, a0.2.2.2), (Option.some.inj h15).symm, .trans (leads_pack (o := 0) (y := .st [.ifc 71 (.d (.at (eviewPlain a0.1))), .map 2, .arr 5 0, .arr 4 0]) (x := oviewView (a0.1, a0.2.1, x13, a0.2.2.2)) (l := []) (m := [(0, .own (oviewView (a0.1, a0.2.1, x13, a0.2.2.2)))]) rfl (.st (.cons (.av rfl) (.cons (.map rfl) (.cons (.arr rfl) (.cons (.arr rfl) .nil))))) rfl rfl trivial ⟨.inl rfl, trivial⟩ rfl (OD.dat_live (oviewView_dat _)) ⟨rfl, rfl, rfl, trivial⟩ (dropK rfl)) (.w (weak_of trivial ⟨.own rfl (.of_eq rfl (oviewView_dat _)), trivial⟩ (dropK rfl)))⟩

end
end Go.Val

