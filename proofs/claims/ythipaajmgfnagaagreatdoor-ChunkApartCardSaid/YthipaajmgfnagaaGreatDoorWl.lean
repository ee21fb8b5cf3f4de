/- Walks of the program's functions, printed. -/
import Derived.Test.YthipaajmgfnagaaGreatDoorWj
set_option linter.unusedSectionVars false
set_option linter.unusedVariables false
set_option linter.unusedSimpArgs false
namespace Go.Val
open Go.RowKit Go.Proofs

section
variable [NoDrw]

noncomputable def law13_ChunkApart (a0 : List (Int × Int × Int × Int × ByteArray)) (a1 : List (Int × Int × Int × Int × ByteArray)) : Option Bool :=
 (law13_shown).bind fun x1 =>
 (view_New_n).bind fun x4 =>
 (((
  cond (!x1) (
   some true
  ) (
   some false
  )
 ) : Option Bool)).bind fun o10 =>
 cond o10 (
  some false
 ) (
  (((
   whileO (V := (Int × VwT)) (O := VwT) (fun v335 =>
    (((
     cond (decide (v335.1 < (a0.length : Int))) (
      some (decide (v335.1 < 20))
     ) (
      some false
     )
    ) : Option Bool)).bind fun o342 =>
    cond o342 (
     (((
      (gx a0 v335.1).bind fun x375 =>
      (cutB 0 (min (x375.2.2.2.2.size : Int) 300) x375.2.2.2.2.size).bind fun _ =>
      (chunk_Write v335.2 5 (bitsAnd .i64 x375.2.2.1 1023) (x375.2.2.2.2.extract 0 (min (x375.2.2.2.2.size : Int) 300).toNat)).bind fun x381 =>
      cond (decide (v335.1 < (a1.length : Int))) (
       (gx a1 v335.1).bind fun x387 =>
       (cutB 0 (min (x387.2.2.2.2.size : Int) 300) x387.2.2.2.2.size).bind fun _ =>
       (chunk_Write x381.2 (IntKind.wrap .i64 (6 + (bitsAnd .i64 x387.2.1 3))) (bitsAnd .i64 x387.2.2.1 1023) (x387.2.2.2.2.extract 0 (min (x387.2.2.2.2.size : Int) 300).toNat)).bind fun x393 =>
       some x393.2
      ) (
       some x381.2
      )
     ) : Option VwT)).bind fun o372 =>
     some (.inl ((IntKind.wrap .i64 (v335.1 + 1)), o372))
    ) (
     some (.inr v335.2)
    )
   ) (0, x4)
  ) : Option VwT)).bind fun o208 =>
  (view_View_Scan o208 ((List.replicate 24 0), (List.replicate 24 0), true)).bind fun x400 =>
  (((
   whileO (V := Int) (O := (Unit ⊕ Bool)) (fun v649 =>
    cond (decide (v649 < (x400.1.length : Int))) (
     (gx x400.1 v649).bind fun x656 =>
     (key_Of x656.1).bind fun x659 =>
     (((
      cond (!x659.2) (
       some true
      ) (
       cond (decide (x659.1.2.1 ≠ 3)) (
        some true
       ) (
        cond (decide ((x656.2.size : Int) < 1)) (
         some true
        ) (
         cond (decide ((x656.2.size : Int) > 32)) (
          some true
         ) (
          (gx x656.2.data.toList (IntKind.wrap .i64 ((x656.2.size : Int) - 1))).bind fun x692 =>
          some (decide ((x692.toNat : Int) = 0))
         )
        )
       )
      )
     ) : Option Bool)).bind fun o677 =>
     cond o677 (
      some (.inr (.inr false))
     ) (
      some (.inl (IntKind.wrap .i64 (v649 + 1)))
     )
    ) (
     some (.inr (.inl ()))
    )
   ) 0
  ) : Option (Unit ⊕ Bool))).bind fun o550 =>
  Sum.elim (fun (v701 : Unit) =>
   (chunk_Cut x400.2.2 5 0).bind fun x702 =>
   (view_View_Scan x702.2 ((List.replicate 24 0), (List.replicate 24 0), true)).bind fun x705 =>
   (((
    whileO (V := (Int × Int)) (O := (Int ⊕ Bool)) (fun v1064 =>
     cond (decide (v1064.2 < (x400.1.length : Int))) (
      (((
       (gx x400.1 v1064.2).bind fun x1103 =>
       (key_Of x1103.1).bind fun x1106 =>
       cond (decide (x1106.1.1 = 5)) (
        some (.inl v1064.1)
       ) (
        (((
         cond (decide (v1064.1 ≥ (x705.1.length : Int))) (
          some true
         ) (
          (gx x705.1 v1064.1).bind fun x1124 =>
          some (!((decide (x1124.1 = x1103.1)) && ((decide (x1124.2 = x1103.2)) && true)))
         )
        ) : Option Bool)).bind fun o1118 =>
        cond o1118 (
         some (.inr false)
        ) (
         some (.inl (IntKind.wrap .i64 (v1064.1 + 1)))
        )
       )
      ) : Option (Int ⊕ Bool))).bind fun o1100 =>
      Sum.elim (fun (v1134 : Int) =>
       some (.inl (v1134, (IntKind.wrap .i64 (v1064.2 + 1))))
      ) (fun w1137 =>
       some (.inr (.inr w1137))
      ) o1100
     ) (
      some (.inr (.inl v1064.1))
     )
    ) (0, 0)
   ) : Option (Int ⊕ Bool))).bind fun o921 =>
   Sum.elim (fun (v1138 : Int) =>
    (((
     cond (decide (x400.2.1 = 0)) (
      cond (decide (x702.1 = 0)) (
       cond (decide (x705.2.1 = 0)) (
        some (decide (v1138 = (x705.1.length : Int)))
       ) (
        some false
       )
      ) (
       some false
      )
     ) (
      some false
     )
    ) : Option Bool)).bind fun o1148 =>
    some o1148
   ) (fun w1164 =>
    some w1164
   ) o921
  ) (fun w1167 =>
   some w1167
  ) o550
 )

set_option maxRecDepth 100000 in
theorem law13_ChunkApart_ok {a0 : List (Int × Int × Int × Int × ByteArray)} {a1 : List (Int × Int × Int × Int × ByteArray)} {r : Bool} (h : law13_ChunkApart a0 a1 = some r) : FnOk Tryz.prog 4 [.d (eSwainscotlaw13Op a0), .d (eSwainscotlaw13Op a1)] 0 (lk []) (fun rr oo => rr = .d (ebool r) ∧ oo = lk []) := by
  refine fnOk_of Tryz.func4 rfl rfl (cw_post ?_)
  unfold law13_ChunkApart at h
  refine cw_seq (cw_region (
    .cons (o_as rfl rfl .no rfl) <|
    .nil rfl
  ) ?_)
  obtain ⟨x1, hx2, h3⟩ := bind_some (x := law13_shown) h
  refine cw_seq (cw_region (
    .cons (o_call rfl rfl .no Tryz.func10 rfl rfl (law13_shown_ok hx2) .nil trivial (.inl rfl)) <|
    .cons (o_as rfl rfl .no rfl) <|
    .nil rfl
  ) ?_)
  obtain ⟨x4, hx5, h6⟩ := bind_some (x := view_New_n) h3
  refine cw_seq (cw_region (
    .cons (o_callO 0 rfl rfl .no Tryz.func11 rfl rfl (view_New_n_ok hx5) (.cons rfl .d .nil) ⟨trivial, trivial⟩ rfl (.inl rfl)) <|
    .cons (o_as rfl rfl .no rfl) <|
    .nil rfl
  ) ?_)
  refine cw_seq ?_
  obtain ⟨o10, hj11, h12⟩ := bind_some h6
  refine cw_join (fun (z : Bool) => St.of [(0, .d (eSwainscotlaw13Op a0)), (1, .d (eSwainscotlaw13Op a1)), (6, .ptr 0 0), (28, .d (ebool z))] [(0, .own (oviewView x4))]) (fun (z : Bool) => o10 = z) ?_ ?_
  · intro v1170 hv1171; subst hv1171
    rcases cond_some h12 with ⟨hc16, h17⟩ | ⟨hc16, h18⟩
    · refine cw_condT rfl hc16 ?_
      refine cw_seq (cw_region (
        .cons (o_as rfl rfl .no rfl) <|
        .nil rfl
      ) ?_)
      have heq := ((Option.some.inj h17).symm).symm
      subst heq
      exact cw_ret ⟨_, (show Leads _ _ (St.of [(4, .d (ebool false))] []) from .w (weak_of ⟨⟨_, rfl, .d rfl⟩, trivial⟩ trivial drop0)), .inr rfl, _, res1 rfl rfl, rfl, rfl⟩
    · refine cw_condF rfl hc16 ?_
      refine cw_skip ?_
      obtain ⟨o208, hj209, h210⟩ := bind_some h18
      refine cw_join (fun (z : VwT) => St.of [(6, .ptr 0 0)] [(0, .own (oviewView z))]) (fun (z : VwT) => o208 = z) ?_ ?_
      · intro v1168 hv1169; subst hv1169
        obtain ⟨x400, hx401, h402⟩ := bind_some (x := view_View_Scan o208 ((List.replicate 24 0), (List.replicate 24 0), true)) h210
        refine cw_seq (cw_region (
          .cons (o_mv rfl rfl .no rfl) <|
          .cons (o_bld (ds := [eapiKey (List.replicate 24 0), eapiKey (List.replicate 24 0), ebool true]) rfl rfl .no zs41 rfl pl41 (.cons rfl rfl rfl rfl rfl rfl rfl .nil)) <|
          .cons (o_callX (fun n => bif Nat.beq n 0 then 0 else 3) rfl rfl .no Tryz.func15 rfl rfl (view_View_Scan_ok hx401) (.cons rfl (.p rfl) (.cons rfl .d .nil)) (callIn1N rfl ⟨(by simp [AV.live, lk, Nat.beq]), trivial, trivial⟩ (by decide) rfl (OD.dat_live (oviewView_dat _)) rfl (by simp)) (.inl rfl)) <|
          .cons (o_mv rfl rfl .no rfl) <|
          .cons (o_ext rfl rfl .no rfl rfl) <|
          .cons (o_ext rfl rfl .no rfl rfl) <|
          .cons (o_as rfl rfl .no rfl) <|
          .cons (o_as rfl rfl .no rfl) <|
          .nil rfl
        ) ?_)
        obtain ⟨o550, hj551, h552⟩ := bind_some h402
        refine cw_join (fun (z : Unit) => St.of [(6, .ptr 0 0), (8, .arr 3 0), (9, .d (eapiErrno x400.2.1))] [(0, .own (oviewView x400.2.2)), (3, .arr 0 25 (x400.1.map eapiPair))]) (fun (z : Unit) => o550 = (.inl z)) ?_ ?_
        · intro v701 hv1166; subst hv1166
          simp only [Sum.elim_inl] at h552
          obtain ⟨x702, hx703, h704⟩ := bind_some (x := chunk_Cut x400.2.2 5 0) h552
          refine cw_seq (cw_region (
            .cons (o_mv rfl rfl .no rfl) <|
            .cons (o_callX (fun _ => 0) rfl rfl .no Tryz.func12 rfl rfl (chunk_Cut_ok hx703) (.cons rfl (.p rfl) (.cons rfl .d (.cons rfl .d .nil))) (callIn1 rfl ⟨(by simp [AV.live, lk, Nat.beq]), trivial, trivial, trivial⟩ rfl (OD.dat_live (oviewView_dat _)) (by simp)) (.inl rfl)) <|
            .cons (o_as rfl rfl .no rfl) <|
            .nil rfl
          ) ?_)
          obtain ⟨x705, hx706, h707⟩ := bind_some (x := view_View_Scan x702.2 ((List.replicate 24 0), (List.replicate 24 0), true)) h704
          refine cw_seq (cw_region (
            .cons (o_mv rfl rfl .no rfl) <|
            .cons (o_bld (ds := [eapiKey (List.replicate 24 0), eapiKey (List.replicate 24 0), ebool true]) rfl rfl .no zs41 rfl pl41 (.cons rfl rfl rfl rfl rfl rfl rfl .nil)) <|
            .cons (o_callX (fun n => bif Nat.beq n 0 then 0 else 5) rfl rfl .no Tryz.func15 rfl rfl (view_View_Scan_ok hx706) (.cons rfl (.p rfl) (.cons rfl .d .nil)) (callIn1N rfl ⟨(by simp [AV.live, lk, Nat.beq]), trivial, trivial⟩ (by decide) rfl (OD.dat_live (oviewView_dat _)) rfl (by simp)) (.inl rfl)) <|
            .cons (o_mv rfl rfl .no rfl) <|
            .cons (o_ext rfl rfl .no rfl rfl) <|
            .cons (o_ext rfl rfl .no rfl rfl) <|
            .cons (o_as rfl rfl .no rfl) <|
            .cons (o_as rfl rfl .no rfl) <|
            .nil rfl
          ) ?_)
          refine cw_seq (cw_region (
            .cons (o_as rfl rfl .no rfl) <|
            .nil rfl
          ) ?_)
          obtain ⟨o921, hj922, h923⟩ := bind_some h707
          refine cw_join (fun (z : Int) => St.of [(9, .d (eapiErrno x400.2.1)), (14, .d (eapiErrno x702.1)), (15, .arr 5 0), (16, .d (eapiErrno x705.2.1)), (17, .d (eint z))] [(5, .arr 0 25 (x705.1.map eapiPair))]) (fun (z : Int) => o921 = (.inl z)) ?_ ?_
          · intro v1138 hv1163; subst hv1163
            simp only [Sum.elim_inl] at h923
            obtain ⟨o1148, hj1149, h1150⟩ := bind_some h923
            refine cw_join (fun (z : Bool) => St.of [(4, .d (ebool z))] []) (fun (z : Bool) => o1148 = z) ?_ ?_
            · intro v1160 hv1161; subst hv1161
              have heq := ((Option.some.inj h1150).symm).symm
              subst heq
              exact cw_ret ⟨_, (show Leads _ _ (St.of [(4, .d (ebool o1148))] []) from .w (weak_of ⟨⟨_, rfl, .d rfl⟩, trivial⟩ trivial drop0)), .inr rfl, _, res1 rfl rfl, rfl, rfl⟩
            · skip
              rcases cond_some hj1149 with ⟨hc1151, h1152⟩ | ⟨hc1151, h1153⟩
              · skip
                rcases cond_some h1152 with ⟨hc1154, h1155⟩ | ⟨hc1154, h1156⟩
                · skip
                  rcases cond_some h1155 with ⟨hc1157, h1158⟩ | ⟨hc1157, h1159⟩
                  · skip
                    refine cw_region (
                      .cons (o_mv rfl rfl .no rfl) <|
                      .cons (o_bin rfl rfl .no rfl rfl (b_eql _ _) rfl) <|
                      .cons (o_mv rfl rfl .no rfl) <|
                      .cons (o_mv rfl rfl (.yes rfl rfl hc1151) rfl) <|
                      .cons (o_bin rfl rfl (.yes rfl rfl hc1151) rfl rfl (b_eql _ _) rfl) <|
                      .cons (o_pickT rfl rfl .no rfl hc1151 rfl) <|
                      .cons (o_mv rfl rfl .no rfl) <|
                      .cons (o_mv rfl rfl (.yes rfl rfl hc1154) rfl) <|
                      .cons (o_bin rfl rfl (.yes rfl rfl hc1154) rfl rfl (b_eql _ _) rfl) <|
                      .cons (o_pickT rfl rfl .no rfl hc1154 rfl) <|
                      .cons (o_mv rfl rfl .no rfl) <|
                      .cons (o_mv rfl rfl (.yes rfl rfl hc1157) rfl) <|
                      .cons (o_mv rfl rfl (.yes rfl rfl hc1157) rfl) <|
                      .cons (o_lenAM (enc := eapiPair) (xs := x705.1) rfl rfl (.yes rfl rfl hc1157) rfl rfl sl35) <|
                      .cons (o_bin rfl rfl (.yes rfl rfl hc1157) rfl rfl (b_eql _ _) rfl) <|
                      .cons (o_pickT rfl rfl .no rfl hc1157 rfl) <|
                      .cons (o_as rfl rfl .no rfl) <|
                      .nil rfl
                    ) ?_
                    exact ⟨(decide (v1138 = (x705.1.length : Int))), (Option.some.inj h1158).symm, .w (weak_of ⟨⟨_, rfl, .d rfl⟩, trivial⟩ trivial drop0)⟩
                  · skip
                    refine cw_region (
                      .cons (o_mv rfl rfl .no rfl) <|
                      .cons (o_bin rfl rfl .no rfl rfl (b_eql _ _) rfl) <|
                      .cons (o_mv rfl rfl .no rfl) <|
                      .cons (o_mv rfl rfl (.yes rfl rfl hc1151) rfl) <|
                      .cons (o_bin rfl rfl (.yes rfl rfl hc1151) rfl rfl (b_eql _ _) rfl) <|
                      .cons (o_pickT rfl rfl .no rfl hc1151 rfl) <|
                      .cons (o_mv rfl rfl .no rfl) <|
                      .cons (o_mv rfl rfl (.yes rfl rfl hc1154) rfl) <|
                      .cons (o_bin rfl rfl (.yes rfl rfl hc1154) rfl rfl (b_eql _ _) rfl) <|
                      .cons (o_pickT rfl rfl .no rfl hc1154 rfl) <|
                      .cons (o_mv rfl rfl .no rfl) <|
                      .cons (o_noT rfl rfl rfl rfl hc1157) <|
                      .cons (o_noT rfl rfl rfl rfl hc1157) <|
                      .cons (o_noT rfl rfl rfl rfl hc1157) <|
                      .cons (o_noT rfl rfl rfl rfl hc1157) <|
                      .cons (o_pickF rfl rfl .no rfl hc1157 rfl) <|
                      .cons (o_as rfl rfl .no rfl) <|
                      .nil rfl
                    ) ?_
                    exact ⟨false, (Option.some.inj h1159).symm, .w (weak_of ⟨⟨_, rfl, .d rfl⟩, trivial⟩ trivial drop0)⟩
                · skip
                  refine cw_region (
                    .cons (o_mv rfl rfl .no rfl) <|
                    .cons (o_bin rfl rfl .no rfl rfl (b_eql _ _) rfl) <|
                    .cons (o_mv rfl rfl .no rfl) <|
                    .cons (o_mv rfl rfl (.yes rfl rfl hc1151) rfl) <|
                    .cons (o_bin rfl rfl (.yes rfl rfl hc1151) rfl rfl (b_eql _ _) rfl) <|
                    .cons (o_pickT rfl rfl .no rfl hc1151 rfl) <|
                    .cons (o_mv rfl rfl .no rfl) <|
                    .cons (o_noT rfl rfl rfl rfl hc1154) <|
                    .cons (o_noT rfl rfl rfl rfl hc1154) <|
                    .cons (o_pickF rfl rfl .no rfl hc1154 rfl) <|
                    .cons (o_mv rfl rfl .no rfl) <|
                    .cons (o_noT rfl rfl rfl rfl rfl) <|
                    .cons (o_noT rfl rfl rfl rfl rfl) <|
                    .cons (o_noT rfl rfl rfl rfl rfl) <|
                    .cons (o_noT rfl rfl rfl rfl rfl) <|
                    .cons (o_pickF rfl rfl .no rfl rfl rfl) <|
                    .cons (o_as rfl rfl .no rfl) <|
                    .nil rfl
                  ) ?_
                  exact ⟨false, (Option.some.inj h1156).symm, .w (weak_of ⟨⟨_, rfl, .d rfl⟩, trivial⟩ trivial drop0)⟩
              · skip
                refine cw_region (
                  .cons (o_mv rfl rfl .no rfl) <|
                  .cons (o_bin rfl rfl .no rfl rfl (b_eql _ _) rfl) <|
                  .cons (o_mv rfl rfl .no rfl) <|
                  .cons (o_noT rfl rfl rfl rfl hc1151) <|
                  .cons (o_noT rfl rfl rfl rfl hc1151) <|
                  .cons (o_pickF rfl rfl .no rfl hc1151 rfl) <|
                  .cons (o_mv rfl rfl .no rfl) <|
                  .cons (o_noT rfl rfl rfl rfl rfl) <|
                  .cons (o_noT rfl rfl rfl rfl rfl) <|
                  .cons (o_pickF rfl rfl .no rfl rfl rfl) <|
                  .cons (o_mv rfl rfl .no rfl) <|
                  .cons (o_noT rfl rfl rfl rfl rfl) <|
                  .cons (o_noT rfl rfl rfl rfl rfl) <|
                  .cons (o_noT rfl rfl rfl rfl rfl) <|
                  .cons (o_noT rfl rfl rfl rfl rfl) <|
                  .cons (o_pickF rfl rfl .no rfl rfl rfl) <|
                  .cons (o_as rfl rfl .no rfl) <|
                  .nil rfl
                ) ?_
                exact ⟨false, (Option.some.inj h1153).symm, .w (weak_of ⟨⟨_, rfl, .d rfl⟩, trivial⟩ trivial drop0)⟩
          · skip
            refine cw_seq (cw_region (
              .cons (o_as rfl rfl .no rfl) <|
              .nil rfl
            ) ?_)
            refine cw_block ?_
            refine cw_while (V := (Int × Int)) (O := (Int ⊕ Bool)) (fun (z : (Int × Int)) => St.of [(8, .arr 3 0), (9, .d (eapiErrno x400.2.1)), (14, .d (eapiErrno x702.1)), (15, .arr 5 0), (16, .d (eapiErrno x705.2.1)), (17, .d (eint z.1)), (18, .d (eint z.2))] [(3, .arr 0 25 (x400.1.map eapiPair)), (5, .arr 0 25 (x705.1.map eapiPair))]) hj922 (.w (weak_of ⟨⟨_, rfl, .arr rfl rfl⟩, ⟨_, rfl, .d rfl⟩, ⟨_, rfl, .d rfl⟩, ⟨_, rfl, .arr rfl rfl⟩, ⟨_, rfl, .d rfl⟩, ⟨_, rfl, .d rfl⟩, ⟨_, rfl, .d rfl⟩, trivial⟩ ⟨.arr rfl rfl, .arr rfl rfl, trivial⟩ drop0)) ?_
            intro v1064 x1065 hb1066 hx1067
            refine cw_seq ?_
            refine cw_seq (cw_region (
              .cons (o_mv rfl rfl .no rfl) <|
              .cons (o_mv rfl rfl .no rfl) <|
              .cons (o_lenAM (enc := eapiPair) (xs := x400.1) rfl rfl .no rfl rfl sl35) <|
              .cons (o_bin rfl rfl .no rfl rfl (b_lss _ _) rfl) <|
              .nil rfl
            ) ?_)
            rcases cond_some hb1066 with ⟨hc1068, h1069⟩ | ⟨hc1068, h1070⟩
            · refine cw_condT rfl hc1068 ?_
              refine cw_skip ?_
              obtain ⟨o1100, hj1101, h1102⟩ := bind_some h1069
              refine cw_join (fun (z : Int) => St.of [(8, .arr 3 0), (9, .d (eapiErrno x400.2.1)), (14, .d (eapiErrno x702.1)), (15, .arr 5 0), (16, .d (eapiErrno x705.2.1)), (17, .d (eint z)), (18, .d (eint v1064.2))] [(3, .arr 0 25 (x400.1.map eapiPair)), (5, .arr 0 25 (x705.1.map eapiPair))]) (fun (z : Int) => o1100 = (.inl z)) ?_ ?_
              · intro v1134 hv1136; subst hv1136
                simp only [Sum.elim_inl] at h1102
                refine cw_region (
                  .cons (o_mv rfl rfl .no rfl) <|
                  .cons (o_bin rfl rfl .no rfl rfl (b_add _ _) rfl) <|
                  .cons (o_as rfl rfl .no rfl) <|
                  .nil rfl
                ) ?_
                exact ⟨(v1134, (IntKind.wrap .i64 (v1064.2 + 1))), (Option.some.inj h1102).symm, .w (weak_of ⟨⟨_, rfl, .arr rfl rfl⟩, ⟨_, rfl, .d rfl⟩, ⟨_, rfl, .d rfl⟩, ⟨_, rfl, .arr rfl rfl⟩, ⟨_, rfl, .d rfl⟩, ⟨_, rfl, .d rfl⟩, ⟨_, rfl, .d rfl⟩, trivial⟩ ⟨.arr rfl rfl, .arr rfl rfl, trivial⟩ drop0)⟩
              · skip
                refine cw_block ?_
                obtain ⟨x1103, hx1104, h1105⟩ := bind_some hj1101
                have hx1104g := gx_some hx1104
                obtain ⟨x1106, hx1107, h1108⟩ := bind_some (x := key_Of x1103.1) h1105
                refine cw_seq (cw_region (
                  .cons (o_mv rfl rfl .no rfl) <|
                  .cons (o_mv rfl rfl .no rfl) <|
                  .cons (o_ixAM (enc := eapiPair) (xs := x400.1) rfl rfl .no rfl rfl rfl sl35 sz47 hx1104g.1 hx1104g.2) <|
                  .cons (o_fldE rfl rfl .no rfl rfl fld47_0 (by decide)) <|
                  .cons (o_ldEM (enc := eapiPair) (xs := x400.1) (r := x1103) [0] rfl rfl .no rfl rfl hx1104g.2 rfl ta39 rfl rfl) <|
                  .cons (o_call rfl rfl .no Tryz.func16 rfl rfl (key_Of_ok hx1107) (.cons rfl .d .nil) ⟨trivial, trivial⟩ (.inl rfl)) <|
                  .cons (o_mv rfl rfl .no rfl) <|
                  .cons (o_ext rfl rfl .no rfl rfl) <|
                  .cons (o_ext rfl rfl .no rfl rfl) <|
                  .cons (o_alloc 6 rfl rfl .no ze43 rfl) <|
                  .cons (o_st [] rfl .no rfl rfl rfl rfl rfl sz43 rfl rfl) <|
                  .cons (o_as rfl rfl .no rfl) <|
                  .nil rfl
                ) ?_)
                refine cw_seq ?_
                refine cw_seq (cw_region (
                  .cons (o_fldP rfl rfl .no rfl fld43_0 (by decide)) <|
                  .cons (o_ldP [0] rfl rfl .no rfl rfl rfl ta3 rfl rfl) <|
                  .cons (o_bin rfl rfl .no rfl rfl (b_eql _ _) rfl) <|
                  .nil rfl
                ) ?_)
                rcases cond_some h1108 with ⟨hc1109, h1110⟩ | ⟨hc1109, h1111⟩
                · refine cw_condT rfl hc1109 ?_
                  refine cw_exit ?_
                  exact ⟨v1064.1, (Option.some.inj h1110).symm, .w (weak_of ⟨⟨_, rfl, .arr rfl rfl⟩, ⟨_, rfl, .d rfl⟩, ⟨_, rfl, .d rfl⟩, ⟨_, rfl, .arr rfl rfl⟩, ⟨_, rfl, .d rfl⟩, ⟨_, rfl, .d rfl⟩, ⟨_, rfl, .d rfl⟩, trivial⟩ ⟨.arr rfl rfl, .arr rfl rfl, trivial⟩ drop0)⟩
                · refine cw_condF rfl hc1109 ?_
                  refine cw_skip ?_
                  refine cw_seq ?_
                  obtain ⟨o1118, hj1119, h1120⟩ := bind_some h1111
                  refine cw_join (fun (z : Bool) => St.of [(8, .arr 3 0), (9, .d (eapiErrno x400.2.1)), (14, .d (eapiErrno x702.1)), (15, .arr 5 0), (16, .d (eapiErrno x705.2.1)), (17, .d (eint v1064.1)), (18, .d (eint v1064.2)), (185, .d (ebool z))] [(3, .arr 0 25 (x400.1.map eapiPair)), (5, .arr 0 25 (x705.1.map eapiPair))]) (fun (z : Bool) => o1118 = z) ?_ ?_
                  · intro v1132 hv1133; subst hv1133
                    rcases cond_some h1120 with ⟨hc1127, h1128⟩ | ⟨hc1127, h1129⟩
                    · refine cw_condT rfl hc1127 ?_
                      refine cw_seq (cw_region (
                        .cons (o_as rfl rfl .no rfl) <|
                        .nil rfl
                      ) ?_)
                      have he1130 := ((Option.some.inj h1128).symm).symm
                      subst he1130
                      have he1131 := ((hx1067 _ (Option.some.inj h1102).symm).symm).symm
                      subst he1131
                      have heq := ((Option.some.inj h923).symm).symm
                      subst heq
                      exact cw_ret ⟨_, (show Leads _ _ (St.of [(4, .d (ebool false))] []) from .w (weak_of ⟨⟨_, rfl, .d rfl⟩, trivial⟩ trivial drop0)), .inr rfl, _, res1 rfl rfl, rfl, rfl⟩
                    · refine cw_condF rfl hc1127 ?_
                      refine cw_skip ?_
                      refine cw_region (
                        .cons (o_mv rfl rfl .no rfl) <|
                        .cons (o_bin rfl rfl .no rfl rfl (b_add _ _) rfl) <|
                        .cons (o_as rfl rfl .no rfl) <|
                        .nil rfl
                      ) ?_
                      exact ⟨(IntKind.wrap .i64 (v1064.1 + 1)), (Option.some.inj h1129).symm, .w (weak_of ⟨⟨_, rfl, .arr rfl rfl⟩, ⟨_, rfl, .d rfl⟩, ⟨_, rfl, .d rfl⟩, ⟨_, rfl, .arr rfl rfl⟩, ⟨_, rfl, .d rfl⟩, ⟨_, rfl, .d rfl⟩, ⟨_, rfl, .d rfl⟩, trivial⟩ ⟨.arr rfl rfl, .arr rfl rfl, trivial⟩ drop0)⟩
                  · skip
                    rcases cond_some hj1119 with ⟨hc1121, h1122⟩ | ⟨hc1121, h1123⟩
                    · skip
                      refine cw_region_any mixed (by kernel_rfl) (
                        .cons (o_mv rfl rfl .no rfl) <|
                        .cons (o_mv rfl rfl .no rfl) <|
                        .cons (o_lenAM (enc := eapiPair) (xs := x705.1) rfl rfl .no rfl rfl sl35) <|
                        .cons (o_bin rfl rfl .no rfl rfl (b_geq _ _) rfl) <|
                        .cons (o_mv rfl rfl .no rfl) <|
                        .cons (o_noT rfl rfl rfl rfl hc1121) <|
                        .cons (o_noT rfl rfl rfl rfl hc1121) <|
                        .cons (o_noT rfl rfl rfl rfl hc1121) <|
                        .cons (o_noT rfl rfl rfl rfl hc1121) <|
                        .cons (o_noT rfl rfl rfl rfl hc1121) <|
                        .cons (o_noT rfl rfl rfl rfl hc1121) <|
                        .cons (o_noT rfl rfl rfl rfl hc1121) <|
                        .cons (o_noT rfl rfl rfl rfl hc1121) <|
                        .cons (o_noT rfl rfl rfl rfl hc1121) <|
                        .cons (o_pickT rfl rfl .no rfl hc1121 rfl) <|
                        .nil rfl
                      ) (by kernel_rfl) ?_
                      exact ⟨true, (Option.some.inj h1122).symm, .w (weak_of ⟨⟨_, rfl, .arr rfl rfl⟩, ⟨_, rfl, .d rfl⟩, ⟨_, rfl, .d rfl⟩, ⟨_, rfl, .arr rfl rfl⟩, ⟨_, rfl, .d rfl⟩, ⟨_, rfl, .d rfl⟩, ⟨_, rfl, .d rfl⟩, ⟨_, rfl, .d rfl⟩, trivial⟩ ⟨.arr rfl rfl, .arr rfl rfl, trivial⟩ drop0)⟩
                    · skip
                      obtain ⟨x1124, hx1125, h1126⟩ := bind_some h1123
                      have hx1125g := gx_some hx1125
                      refine cw_region_any mixed (by kernel_rfl) (
                        .cons (o_mv rfl rfl .no rfl) <|
                        .cons (o_mv rfl rfl .no rfl) <|
                        .cons (o_lenAM (enc := eapiPair) (xs := x705.1) rfl rfl .no rfl rfl sl35) <|
                        .cons (o_bin rfl rfl .no rfl rfl (b_geq _ _) rfl) <|
                        .cons (o_mv rfl rfl .no rfl) <|
                        .cons (o_mv rfl rfl (.yes rfl rfl hc1121) rfl) <|
                        .cons (o_mv rfl rfl (.yes rfl rfl hc1121) rfl) <|
                        .cons (o_ixAM (enc := eapiPair) (xs := x705.1) rfl rfl (.yes rfl rfl hc1121) rfl rfl rfl sl35 sz47 hx1125g.1 hx1125g.2) <|
                        .cons (o_ldEM (enc := eapiPair) (xs := x705.1) (r := x1124) [] rfl rfl (.yes rfl rfl hc1121) rfl rfl hx1125g.2 rfl ta47 rfl rfl) <|
                        .cons (o_mv rfl rfl (.yes rfl rfl hc1121) rfl) <|
                        .cons (o_mv rfl rfl (.yes rfl rfl hc1121) rfl) <|
                        .cons (o_ixAM (enc := eapiPair) (xs := x400.1) rfl rfl (.yes rfl rfl hc1121) rfl rfl rfl sl35 sz47 hx1104g.1 hx1104g.2) <|
                        .cons (o_ldEM (enc := eapiPair) (xs := x400.1) (r := x1103) [] rfl rfl (.yes rfl rfl hc1121) rfl rfl hx1104g.2 rfl ta47 rfl rfl) <|
                        .cons (o_ne rfl rfl (.yes rfl rfl hc1121) rfl rfl rfl rfl eg47 (.st flds47 (.cons ta39 rfl rfl rfl rfl (.bs ar39 un5 sz5) (.cons ta9 rfl rfl rfl rfl (.str un9) .nil)))) <|
                        .cons (o_pickF rfl rfl .no rfl hc1121 rfl) <|
                        .nil rfl
                      ) (by kernel_rfl) ?_
                      exact ⟨(!((decide (x1124.1 = x1103.1)) && ((decide (x1124.2 = x1103.2)) && true))), (Option.some.inj h1126).symm, .w (weak_of ⟨⟨_, rfl, .arr rfl rfl⟩, ⟨_, rfl, .d rfl⟩, ⟨_, rfl, .d rfl⟩, ⟨_, rfl, .arr rfl rfl⟩, ⟨_, rfl, .d rfl⟩, ⟨_, rfl, .d rfl⟩, ⟨_, rfl, .d rfl⟩, ⟨_, rfl, .d rfl⟩, trivial⟩ ⟨.arr rfl rfl, .arr rfl rfl, trivial⟩ drop0)⟩
            · refine cw_condF rfl hc1068 ?_
              refine cw_exit ?_
              exact ⟨v1064.1, (hx1067 _ (Option.some.inj h1070).symm).symm, .w (weak_of ⟨⟨_, rfl, .d rfl⟩, ⟨_, rfl, .d rfl⟩, ⟨_, rfl, .arr rfl rfl⟩, ⟨_, rfl, .d rfl⟩, ⟨_, rfl, .d rfl⟩, trivial⟩ ⟨.arr rfl rfl, trivial⟩ drop0)⟩
        · skip
          refine cw_seq (cw_region (
            .cons (o_as rfl rfl .no rfl) <|
            .nil rfl
          ) ?_)
          refine cw_block ?_
          refine cw_while (V := Int) (O := (Unit ⊕ Bool)) (fun (z : Int) => St.of [(6, .ptr 0 0), (8, .arr 3 0), (9, .d (eapiErrno x400.2.1)), (10, .d (eint z))] [(0, .own (oviewView x400.2.2)), (3, .arr 0 25 (x400.1.map eapiPair))]) hj551 (.w (weak_of ⟨⟨_, rfl, .ptro rfl rfl⟩, ⟨_, rfl, .arr rfl rfl⟩, ⟨_, rfl, .d rfl⟩, ⟨_, rfl, .d rfl⟩, trivial⟩ ⟨.own rfl (.of_eq rfl (oviewView_dat _)), .arr rfl rfl, trivial⟩ drop0)) ?_
          intro v649 x650 hb651 hx652
          refine cw_seq ?_
          refine cw_seq (cw_region (
            .cons (o_mv rfl rfl .no rfl) <|
            .cons (o_mv rfl rfl .no rfl) <|
            .cons (o_lenAM (enc := eapiPair) (xs := x400.1) rfl rfl .no rfl rfl sl35) <|
            .cons (o_bin rfl rfl .no rfl rfl (b_lss _ _) rfl) <|
            .nil rfl
          ) ?_)
          rcases cond_some hb651 with ⟨hc653, h654⟩ | ⟨hc653, h655⟩
          · refine cw_condT rfl hc653 ?_
            refine cw_skip ?_
            refine cw_seq ?_
            refine cw_block ?_
            obtain ⟨x656, hx657, h658⟩ := bind_some h654
            have hx657g := gx_some hx657
            obtain ⟨x659, hx660, h661⟩ := bind_some (x := key_Of x656.1) h658
            refine cw_seq (cw_region (
              .cons (o_mv rfl rfl .no rfl) <|
              .cons (o_mv rfl rfl .no rfl) <|
              .cons (o_ixAM (enc := eapiPair) (xs := x400.1) rfl rfl .no rfl rfl rfl sl35 sz47 hx657g.1 hx657g.2) <|
              .cons (o_fldE rfl rfl .no rfl rfl fld47_0 (by decide)) <|
              .cons (o_ldEM (enc := eapiPair) (xs := x400.1) (r := x656) [0] rfl rfl .no rfl rfl hx657g.2 rfl ta39 rfl rfl) <|
              .cons (o_call rfl rfl .no Tryz.func16 rfl rfl (key_Of_ok hx660) (.cons rfl .d .nil) ⟨trivial, trivial⟩ (.inl rfl)) <|
              .cons (o_mv rfl rfl .no rfl) <|
              .cons (o_ext rfl rfl .no rfl rfl) <|
              .cons (o_ext rfl rfl .no rfl rfl) <|
              .cons (o_alloc 4 rfl rfl .no ze43 rfl) <|
              .cons (o_st [] rfl .no rfl rfl rfl rfl rfl sz43 rfl rfl) <|
              .cons (o_as rfl rfl .no rfl) <|
              .nil rfl
            ) ?_)
            refine cw_seq (cw_region (
              .cons (o_mv rfl rfl .no rfl) <|
              .cons (o_mv rfl rfl .no rfl) <|
              .cons (o_ixAM (enc := eapiPair) (xs := x400.1) rfl rfl .no rfl rfl rfl sl35 sz47 hx657g.1 hx657g.2) <|
              .cons (o_fldE rfl rfl .no rfl rfl fld47_1 (by decide)) <|
              .cons (o_ldEM (enc := eapiPair) (xs := x400.1) (r := x656) [1] rfl rfl .no rfl rfl hx657g.2 rfl ta9 rfl rfl) <|
              .cons (o_lenS rfl rfl .no rfl un9) <|
              .cons (o_as rfl rfl .no rfl) <|
              .nil rfl
            ) ?_)
            obtain ⟨o677, hj678, h679⟩ := bind_some h661
            refine cw_join (fun (z : Bool) => St.of [(6, .ptr 0 0), (8, .arr 3 0), (9, .d (eapiErrno x400.2.1)), (10, .d (eint v649)), (144, .d (ebool z))] [(0, .own (oviewView x400.2.2)), (3, .arr 0 25 (x400.1.map eapiPair))]) (fun (z : Bool) => o677 = z) ?_ ?_
            · intro v699 hv700; subst hv700
              rcases cond_some h679 with ⟨hc695, h696⟩ | ⟨hc695, h697⟩
              · refine cw_condT rfl hc695 ?_
                refine cw_seq (cw_region (
                  .cons (o_as rfl rfl .no rfl) <|
                  .nil rfl
                ) ?_)
                have he698 := ((hx652 _ (Option.some.inj h696).symm).symm).symm
                subst he698
                have heq := ((Option.some.inj h552).symm).symm
                subst heq
                exact cw_ret ⟨_, (show Leads _ _ (St.of [(4, .d (ebool false))] []) from .w (weak_of ⟨⟨_, rfl, .d rfl⟩, trivial⟩ trivial drop0)), .inr rfl, _, res1 rfl rfl, rfl, rfl⟩
              · refine cw_condF rfl hc695 ?_
                refine cw_skip ?_
                refine cw_region (
                  .cons (o_mv rfl rfl .no rfl) <|
                  .cons (o_bin rfl rfl .no rfl rfl (b_add _ _) rfl) <|
                  .cons (o_as rfl rfl .no rfl) <|
                  .nil rfl
                ) ?_
                exact ⟨(IntKind.wrap .i64 (v649 + 1)), (Option.some.inj h697).symm, .w (weak_of ⟨⟨_, rfl, .ptro rfl rfl⟩, ⟨_, rfl, .arr rfl rfl⟩, ⟨_, rfl, .d rfl⟩, ⟨_, rfl, .d rfl⟩, trivial⟩ ⟨.own rfl (.of_eq rfl (oviewView_dat _)), .arr rfl rfl, trivial⟩ drop0)⟩
            · skip
              rcases cond_some hj678 with ⟨hc680, h681⟩ | ⟨hc680, h682⟩
              · skip
                refine cw_region (
                  .cons (o_mv rfl rfl .no rfl) <|
                  .cons (o_not rfl rfl .no rfl) <|
                  .cons (o_mv rfl rfl .no rfl) <|
                  .cons (o_noT rfl rfl rfl rfl hc680) <|
                  .cons (o_noT rfl rfl rfl rfl hc680) <|
                  .cons (o_noT rfl rfl rfl rfl hc680) <|
                  .cons (o_pickT rfl rfl .no rfl hc680 rfl) <|
                  .cons (o_mv rfl rfl .no rfl) <|
                  .cons (o_noT rfl rfl rfl rfl rfl) <|
                  .cons (o_noT rfl rfl rfl rfl rfl) <|
                  .cons (o_pickT rfl rfl .no rfl rfl rfl) <|
                  .cons (o_mv rfl rfl .no rfl) <|
                  .cons (o_noT rfl rfl rfl rfl rfl) <|
                  .cons (o_noT rfl rfl rfl rfl rfl) <|
                  .cons (o_pickT rfl rfl .no rfl rfl rfl) <|
                  .cons (o_mv rfl rfl .no rfl) <|
                  .cons (o_noT rfl rfl rfl rfl rfl) <|
                  .cons (o_noT rfl rfl rfl rfl rfl) <|
                  .cons (o_noT rfl rfl rfl rfl rfl) <|
                  .cons (o_noT rfl rfl rfl rfl rfl) <|
                  .cons (o_noT rfl rfl rfl rfl rfl) <|
                  .cons (o_noT rfl rfl rfl rfl rfl) <|
                  .cons (o_noT rfl rfl rfl rfl rfl) <|
                  .cons (o_noT rfl rfl rfl rfl rfl) <|
                  .cons (o_noT rfl rfl rfl rfl rfl) <|
                  .cons (o_pickT rfl rfl .no rfl rfl rfl) <|
                  .nil rfl
                ) ?_
                exact ⟨true, (Option.some.inj h681).symm, .w (weak_of ⟨⟨_, rfl, .ptro rfl rfl⟩, ⟨_, rfl, .arr rfl rfl⟩, ⟨_, rfl, .d rfl⟩, ⟨_, rfl, .d rfl⟩, ⟨_, rfl, .d rfl⟩, trivial⟩ ⟨.own rfl (.of_eq rfl (oviewView_dat _)), .arr rfl rfl, trivial⟩ drop0)⟩
              · skip
                rcases cond_some h682 with ⟨hc683, h684⟩ | ⟨hc683, h685⟩
                · skip
                  refine cw_region (
                    .cons (o_mv rfl rfl .no rfl) <|
                    .cons (o_not rfl rfl .no rfl) <|
                    .cons (o_mv rfl rfl .no rfl) <|
                    .cons (o_fldP rfl rfl (.yes rfl rfl hc680) rfl fld43_1 (by decide)) <|
                    .cons (o_ldP [1] rfl rfl (.yes rfl rfl hc680) rfl rfl rfl ta3 rfl rfl) <|
                    .cons (o_bin rfl rfl (.yes rfl rfl hc680) rfl rfl (b_neq _ _) rfl) <|
                    .cons (o_pickF rfl rfl .no rfl hc680 rfl) <|
                    .cons (o_mv rfl rfl .no rfl) <|
                    .cons (o_noT rfl rfl rfl rfl hc683) <|
                    .cons (o_noT rfl rfl rfl rfl hc683) <|
                    .cons (o_pickT rfl rfl .no rfl hc683 rfl) <|
                    .cons (o_mv rfl rfl .no rfl) <|
                    .cons (o_noT rfl rfl rfl rfl rfl) <|
                    .cons (o_noT rfl rfl rfl rfl rfl) <|
                    .cons (o_pickT rfl rfl .no rfl rfl rfl) <|
                    .cons (o_mv rfl rfl .no rfl) <|
                    .cons (o_noT rfl rfl rfl rfl rfl) <|
                    .cons (o_noT rfl rfl rfl rfl rfl) <|
                    .cons (o_noT rfl rfl rfl rfl rfl) <|
                    .cons (o_noT rfl rfl rfl rfl rfl) <|
                    .cons (o_noT rfl rfl rfl rfl rfl) <|
                    .cons (o_noT rfl rfl rfl rfl rfl) <|
                    .cons (o_noT rfl rfl rfl rfl rfl) <|
                    .cons (o_noT rfl rfl rfl rfl rfl) <|
                    .cons (o_noT rfl rfl rfl rfl rfl) <|
                    .cons (o_pickT rfl rfl .no rfl rfl rfl) <|
                    .nil rfl
                  ) ?_
                  exact ⟨true, (Option.some.inj h684).symm, .w (weak_of ⟨⟨_, rfl, .ptro rfl rfl⟩, ⟨_, rfl, .arr rfl rfl⟩, ⟨_, rfl, .d rfl⟩, ⟨_, rfl, .d rfl⟩, ⟨_, rfl, .d rfl⟩, trivial⟩ ⟨.own rfl (.of_eq rfl (oviewView_dat _)), .arr rfl rfl, trivial⟩ drop0)⟩
                · skip
                  rcases cond_some h685 with ⟨hc686, h687⟩ | ⟨hc686, h688⟩
                  · skip
                    refine cw_region (
                      .cons (o_mv rfl rfl .no rfl) <|
                      .cons (o_not rfl rfl .no rfl) <|
                      .cons (o_mv rfl rfl .no rfl) <|
                      .cons (o_fldP rfl rfl (.yes rfl rfl hc680) rfl fld43_1 (by decide)) <|
                      .cons (o_ldP [1] rfl rfl (.yes rfl rfl hc680) rfl rfl rfl ta3 rfl rfl) <|
                      .cons (o_bin rfl rfl (.yes rfl rfl hc680) rfl rfl (b_neq _ _) rfl) <|
                      .cons (o_pickF rfl rfl .no rfl hc680 rfl) <|
                      .cons (o_mv rfl rfl .no rfl) <|
                      .cons (o_mv rfl rfl (.yes rfl rfl hc683) rfl) <|
                      .cons (o_bin rfl rfl (.yes rfl rfl hc683) rfl rfl (b_lss _ _) rfl) <|
                      .cons (o_pickF rfl rfl .no rfl hc683 rfl) <|
                      .cons (o_mv rfl rfl .no rfl) <|
                      .cons (o_noT rfl rfl rfl rfl hc686) <|
                      .cons (o_noT rfl rfl rfl rfl hc686) <|
                      .cons (o_pickT rfl rfl .no rfl hc686 rfl) <|
                      .cons (o_mv rfl rfl .no rfl) <|
                      .cons (o_noT rfl rfl rfl rfl rfl) <|
                      .cons (o_noT rfl rfl rfl rfl rfl) <|
                      .cons (o_noT rfl rfl rfl rfl rfl) <|
                      .cons (o_noT rfl rfl rfl rfl rfl) <|
                      .cons (o_noT rfl rfl rfl rfl rfl) <|
                      .cons (o_noT rfl rfl rfl rfl rfl) <|
                      .cons (o_noT rfl rfl rfl rfl rfl) <|
                      .cons (o_noT rfl rfl rfl rfl rfl) <|
                      .cons (o_noT rfl rfl rfl rfl rfl) <|
                      .cons (o_pickT rfl rfl .no rfl rfl rfl) <|
                      .nil rfl
                    ) ?_
                    exact ⟨true, (Option.some.inj h687).symm, .w (weak_of ⟨⟨_, rfl, .ptro rfl rfl⟩, ⟨_, rfl, .arr rfl rfl⟩, ⟨_, rfl, .d rfl⟩, ⟨_, rfl, .d rfl⟩, ⟨_, rfl, .d rfl⟩, trivial⟩ ⟨.own rfl (.of_eq rfl (oviewView_dat _)), .arr rfl rfl, trivial⟩ drop0)⟩
                  · skip
                    rcases cond_some h688 with ⟨hc689, h690⟩ | ⟨hc689, h691⟩
                    · skip
                      refine cw_region (
                        .cons (o_mv rfl rfl .no rfl) <|
                        .cons (o_not rfl rfl .no rfl) <|
                        .cons (o_mv rfl rfl .no rfl) <|
                        .cons (o_fldP rfl rfl (.yes rfl rfl hc680) rfl fld43_1 (by decide)) <|
                        .cons (o_ldP [1] rfl rfl (.yes rfl rfl hc680) rfl rfl rfl ta3 rfl rfl) <|
                        .cons (o_bin rfl rfl (.yes rfl rfl hc680) rfl rfl (b_neq _ _) rfl) <|
                        .cons (o_pickF rfl rfl .no rfl hc680 rfl) <|
                        .cons (o_mv rfl rfl .no rfl) <|
                        .cons (o_mv rfl rfl (.yes rfl rfl hc683) rfl) <|
                        .cons (o_bin rfl rfl (.yes rfl rfl hc683) rfl rfl (b_lss _ _) rfl) <|
                        .cons (o_pickF rfl rfl .no rfl hc683 rfl) <|
                        .cons (o_mv rfl rfl .no rfl) <|
                        .cons (o_mv rfl rfl (.yes rfl rfl hc686) rfl) <|
                        .cons (o_bin rfl rfl (.yes rfl rfl hc686) rfl rfl (b_gtr _ _) rfl) <|
                        .cons (o_pickF rfl rfl .no rfl hc686 rfl) <|
                        .cons (o_mv rfl rfl .no rfl) <|
                        .cons (o_noT rfl rfl rfl rfl hc689) <|
                        .cons (o_noT rfl rfl rfl rfl hc689) <|
                        .cons (o_noT rfl rfl rfl rfl hc689) <|
                        .cons (o_noT rfl rfl rfl rfl hc689) <|
                        .cons (o_noT rfl rfl rfl rfl hc689) <|
                        .cons (o_noT rfl rfl rfl rfl hc689) <|
                        .cons (o_noT rfl rfl rfl rfl hc689) <|
                        .cons (o_noT rfl rfl rfl rfl hc689) <|
                        .cons (o_noT rfl rfl rfl rfl hc689) <|
                        .cons (o_pickT rfl rfl .no rfl hc689 rfl) <|
                        .nil rfl
                      ) ?_
                      exact ⟨true, (Option.some.inj h690).symm, .w (weak_of ⟨⟨_, rfl, .ptro rfl rfl⟩, ⟨_, rfl, .arr rfl rfl⟩, ⟨_, rfl, .d rfl⟩, ⟨_, rfl, .d rfl⟩, ⟨_, rfl, .d rfl⟩, trivial⟩ ⟨.own rfl (.of_eq rfl (oviewView_dat _)), .arr rfl rfl, trivial⟩ drop0)⟩
                    · skip
                      obtain ⟨x692, hx693, h694⟩ := bind_some h691
                      have hx693g := gx_some hx693
                      refine cw_region (
                        .cons (o_mv rfl rfl .no rfl) <|
                        .cons (o_not rfl rfl .no rfl) <|
                        .cons (o_mv rfl rfl .no rfl) <|
                        .cons (o_fldP rfl rfl (.yes rfl rfl hc680) rfl fld43_1 (by decide)) <|
                        .cons (o_ldP [1] rfl rfl (.yes rfl rfl hc680) rfl rfl rfl ta3 rfl rfl) <|
                        .cons (o_bin rfl rfl (.yes rfl rfl hc680) rfl rfl (b_neq _ _) rfl) <|
                        .cons (o_pickF rfl rfl .no rfl hc680 rfl) <|
                        .cons (o_mv rfl rfl .no rfl) <|
                        .cons (o_mv rfl rfl (.yes rfl rfl hc683) rfl) <|
                        .cons (o_bin rfl rfl (.yes rfl rfl hc683) rfl rfl (b_lss _ _) rfl) <|
                        .cons (o_pickF rfl rfl .no rfl hc683 rfl) <|
                        .cons (o_mv rfl rfl .no rfl) <|
                        .cons (o_mv rfl rfl (.yes rfl rfl hc686) rfl) <|
                        .cons (o_bin rfl rfl (.yes rfl rfl hc686) rfl rfl (b_gtr _ _) rfl) <|
                        .cons (o_pickF rfl rfl .no rfl hc686 rfl) <|
                        .cons (o_mv rfl rfl .no rfl) <|
                        .cons (o_mv rfl rfl (.yes rfl rfl hc689) rfl) <|
                        .cons (o_mv rfl rfl (.yes rfl rfl hc689) rfl) <|
                        .cons (o_ixAM (enc := eapiPair) (xs := x400.1) rfl rfl (.yes rfl rfl hc689) rfl rfl rfl sl35 sz47 hx657g.1 hx657g.2) <|
                        .cons (o_fldE rfl rfl (.yes rfl rfl hc689) rfl rfl fld47_1 (by decide)) <|
                        .cons (o_ldEM (enc := eapiPair) (xs := x400.1) (r := x656) [1] rfl rfl (.yes rfl rfl hc689) rfl rfl hx657g.2 rfl ta9 rfl rfl) <|
                        .cons (o_mv rfl rfl (.yes rfl rfl hc689) rfl) <|
                        .cons (o_bin rfl rfl (.yes rfl rfl hc689) rfl rfl (b_sub _ _) rfl) <|
                        .cons (o_ixStr rfl rfl (.yes rfl rfl hc689) rfl rfl un9 hx693g.1 hx693g.2) <|
                        .cons (o_bin rfl rfl (.yes rfl rfl hc689) rfl rfl (b_eql _ _) rfl) <|
                        .cons (o_pickF rfl rfl .no rfl hc689 rfl) <|
                        .nil rfl
                      ) ?_
                      exact ⟨(decide ((x692.toNat : Int) = 0)), (Option.some.inj h694).symm, .w (weak_of ⟨⟨_, rfl, .ptro rfl rfl⟩, ⟨_, rfl, .arr rfl rfl⟩, ⟨_, rfl, .d rfl⟩, ⟨_, rfl, .d rfl⟩, ⟨_, rfl, .d rfl⟩, trivial⟩ ⟨.own rfl (.of_eq rfl (oviewView_dat _)), .arr rfl rfl, trivial⟩ drop0)⟩
          · refine cw_condF rfl hc653 ?_
            refine cw_exit ?_
            exact ⟨(), (hx652 _ (Option.some.inj h655).symm).symm, .w (weak_of ⟨⟨_, rfl, .ptro rfl rfl⟩, ⟨_, rfl, .arr rfl rfl⟩, ⟨_, rfl, .d rfl⟩, trivial⟩ ⟨.own rfl (.of_eq rfl (oviewView_dat _)), .arr rfl rfl, trivial⟩ drop0)⟩
      · skip
        refine cw_seq (cw_region (
          .cons (o_as rfl rfl .no rfl) <|
          .nil rfl
        ) ?_)
        refine cw_block ?_
        refine cw_while (V := (Int × VwT)) (O := VwT) (fun (z : (Int × VwT)) => St.of [(0, .d (eSwainscotlaw13Op a0)), (1, .d (eSwainscotlaw13Op a1)), (6, .ptr 0 0), (7, .d (eint z.1))] [(0, .own (oviewView z.2))]) hj209 (.w (weak_of ⟨⟨_, rfl, .d rfl⟩, ⟨_, rfl, .d rfl⟩, ⟨_, rfl, .ptro rfl rfl⟩, ⟨_, rfl, .d rfl⟩, trivial⟩ ⟨.own rfl (.of_eq rfl (oviewView_dat _)), trivial⟩ drop0)) ?_
        intro v335 x336 hb337 hx338
        refine cw_seq ?_
        obtain ⟨o342, hj343, h344⟩ := bind_some hb337
        refine cw_join (fun (z : Bool) => St.of [(0, .d (eSwainscotlaw13Op a0)), (1, .d (eSwainscotlaw13Op a1)), (6, .ptr 0 0), (7, .d (eint v335.1)), (36, .d (ebool z))] [(0, .own (oviewView v335.2))]) (fun (z : Bool) => o342 = z) ?_ ?_
        · intro v398 hv399; subst hv399
          rcases cond_some h344 with ⟨hc348, h349⟩ | ⟨hc348, h350⟩
          · refine cw_condT rfl hc348 ?_
            refine cw_skip ?_
            obtain ⟨o372, hj373, h374⟩ := bind_some h349
            refine cw_join (fun (z : VwT) => St.of [(0, .d (eSwainscotlaw13Op a0)), (1, .d (eSwainscotlaw13Op a1)), (6, .ptr 0 0), (7, .d (eint v335.1))] [(0, .own (oviewView z))]) (fun (z : VwT) => o372 = z) ?_ ?_
            · intro v396 hv397; subst hv397
              refine cw_region (
                .cons (o_mv rfl rfl .no rfl) <|
                .cons (o_bin rfl rfl .no rfl rfl (b_add _ _) rfl) <|
                .cons (o_as rfl rfl .no rfl) <|
                .nil rfl
              ) ?_
              exact ⟨((IntKind.wrap .i64 (v335.1 + 1)), o372), (Option.some.inj h374).symm, .w (weak_of ⟨⟨_, rfl, .d rfl⟩, ⟨_, rfl, .d rfl⟩, ⟨_, rfl, .ptro rfl rfl⟩, ⟨_, rfl, .d rfl⟩, trivial⟩ ⟨.own rfl (.of_eq rfl (oviewView_dat _)), trivial⟩ drop0)⟩
            · skip
              refine cw_block ?_
              obtain ⟨x375, hx376, h377⟩ := bind_some hj373
              have hx376g := gx_some hx376
              obtain ⟨x378, hx379, h380⟩ := bind_some h377
              have hx379g := cutB_some hx379
              obtain ⟨x381, hx382, h383⟩ := bind_some (x := chunk_Write v335.2 5 (bitsAnd .i64 x375.2.2.1 1023) (x375.2.2.2.2.extract 0 (min (x375.2.2.2.2.size : Int) 300).toNat)) h380
              refine cw_seq (cw_region_any mixed (by kernel_rfl) (
                .cons (o_mv rfl rfl .no rfl) <|
                .cons (o_mv rfl rfl .no rfl) <|
                .cons (o_mv rfl rfl .no rfl) <|
                .cons (o_ixM (enc := ewainscotlaw13Op) (xs := a0) rfl rfl .no rfl rfl sl22 sz28 hx376g.1 hx376g.2) <|
                .cons (o_fld rfl rfl .no rfl fld28_2 (by decide) rfl rfl) <|
                .cons (o_ld rfl rfl .no rfl ta3 rfl rfl) <|
                .cons (o_bin rfl rfl .no rfl rfl (b_and _ _) rfl) <|
                .cons (o_mv rfl rfl .no rfl) <|
                .cons (o_mv rfl rfl .no rfl) <|
                .cons (o_ixM (enc := ewainscotlaw13Op) (xs := a0) rfl rfl .no rfl rfl sl22 sz28 hx376g.1 hx376g.2) <|
                .cons (o_fld rfl rfl .no rfl fld28_4 (by decide) rfl rfl) <|
                .cons (o_ld rfl rfl .no rfl ta9 rfl rfl) <|
                .cons (o_mv rfl rfl .no rfl) <|
                .cons (o_mv rfl rfl .no rfl) <|
                .cons (o_ixM (enc := ewainscotlaw13Op) (xs := a0) rfl rfl .no rfl rfl sl22 sz28 hx376g.1 hx376g.2) <|
                .cons (o_fld rfl rfl .no rfl fld28_4 (by decide) rfl rfl) <|
                .cons (o_ld rfl rfl .no rfl ta9 rfl rfl) <|
                .cons (o_lenS rfl rfl .no rfl un9) <|
                .cons (o_min rfl rfl .no rfl rfl) <|
                .cons (o_slS rfl rfl .no rfl un9 .no (.val rfl hx379g.2.1) hx379g.2.2.1 hx379g.2.2.2) <|
                .cons (o_callX (fun n => bif Nat.beq n 0 then 0 else 1) rfl rfl .no Tryz.func13 rfl rfl (chunk_Write_ok hx382) (.cons rfl (.p rfl) (.cons rfl .d (.cons rfl .d (.cons rfl .d .nil)))) (callInG [4] rfl ⟨(by simp [AV.live, lk, Nat.beq]), trivial, trivial, trivial, trivial⟩ ⟨⟨rfl, (OD.dat_live (oviewView_dat _))⟩, trivial⟩ rfl rfl rfl ⟨rfl, trivial⟩ rfl) (.inl rfl)) <|
                .nil rfl
              ) (by kernel_rfl) ?_)
              refine cw_seq (cw_region (
                .cons (o_mv rfl rfl .no rfl) <|
                .cons (o_mv rfl rfl .no rfl) <|
                .cons (o_lenM (enc := ewainscotlaw13Op) (xs := a1) rfl rfl .no rfl sl22) <|
                .cons (o_bin rfl rfl .no rfl rfl (b_lss _ _) rfl) <|
                .nil rfl
              ) ?_)
              rcases cond_some h383 with ⟨hc384, h385⟩ | ⟨hc384, h386⟩
              · refine cw_condT rfl hc384 ?_
                obtain ⟨x387, hx388, h389⟩ := bind_some h385
                have hx388g := gx_some hx388
                obtain ⟨x390, hx391, h392⟩ := bind_some h389
                have hx391g := cutB_some hx391
                obtain ⟨x393, hx394, h395⟩ := bind_some (x := chunk_Write x381.2 (IntKind.wrap .i64 (6 + (bitsAnd .i64 x387.2.1 3))) (bitsAnd .i64 x387.2.2.1 1023) (x387.2.2.2.2.extract 0 (min (x387.2.2.2.2.size : Int) 300).toNat)) h392
                refine cw_region_any mixed (by kernel_rfl) (
                  .cons (o_mv rfl rfl .no rfl) <|
                  .cons (o_mv rfl rfl .no rfl) <|
                  .cons (o_mv rfl rfl .no rfl) <|
                  .cons (o_ixM (enc := ewainscotlaw13Op) (xs := a1) rfl rfl .no rfl rfl sl22 sz28 hx388g.1 hx388g.2) <|
                  .cons (o_fld rfl rfl .no rfl fld28_1 (by decide) rfl rfl) <|
                  .cons (o_ld rfl rfl .no rfl ta3 rfl rfl) <|
                  .cons (o_bin rfl rfl .no rfl rfl (b_and _ _) rfl) <|
                  .cons (o_bin rfl rfl .no rfl rfl (b_add _ _) rfl) <|
                  .cons (o_mv rfl rfl .no rfl) <|
                  .cons (o_mv rfl rfl .no rfl) <|
                  .cons (o_ixM (enc := ewainscotlaw13Op) (xs := a1) rfl rfl .no rfl rfl sl22 sz28 hx388g.1 hx388g.2) <|
                  .cons (o_fld rfl rfl .no rfl fld28_2 (by decide) rfl rfl) <|
                  .cons (o_ld rfl rfl .no rfl ta3 rfl rfl) <|
                  .cons (o_bin rfl rfl .no rfl rfl (b_and _ _) rfl) <|
                  .cons (o_mv rfl rfl .no rfl) <|
                  .cons (o_mv rfl rfl .no rfl) <|
                  .cons (o_ixM (enc := ewainscotlaw13Op) (xs := a1) rfl rfl .no rfl rfl sl22 sz28 hx388g.1 hx388g.2) <|
                  .cons (o_fld rfl rfl .no rfl fld28_4 (by decide) rfl rfl) <|
                  .cons (o_ld rfl rfl .no rfl ta9 rfl rfl) <|
                  .cons (o_mv rfl rfl .no rfl) <|
                  .cons (o_mv rfl rfl .no rfl) <|
                  .cons (o_ixM (enc := ewainscotlaw13Op) (xs := a1) rfl rfl .no rfl rfl sl22 sz28 hx388g.1 hx388g.2) <|
                  .cons (o_fld rfl rfl .no rfl fld28_4 (by decide) rfl rfl) <|
                  .cons (o_ld rfl rfl .no rfl ta9 rfl rfl) <|
                  .cons (o_lenS rfl rfl .no rfl un9) <|
                  .cons (o_min rfl rfl .no rfl rfl) <|
                  .cons (o_slS rfl rfl .no rfl un9 .no (.val rfl hx391g.2.1) hx391g.2.2.1 hx391g.2.2.2) <|
                  .cons (o_callX (fun n => bif Nat.beq n 0 then 0 else 2) rfl rfl .no Tryz.func13 rfl rfl (chunk_Write_ok hx394) (.cons rfl (.p rfl) (.cons rfl .d (.cons rfl .d (.cons rfl .d .nil)))) (callInG [4] rfl ⟨(by simp [AV.live, lk, Nat.beq]), trivial, trivial, trivial, trivial⟩ ⟨⟨rfl, (OD.dat_live (oviewView_dat _))⟩, trivial⟩ rfl rfl rfl ⟨rfl, trivial⟩ rfl) (.inl rfl)) <|
                  .nil rfl
                ) (by kernel_rfl) ?_
                exact ⟨x393.2, (Option.some.inj h395).symm, .w (weak_of ⟨⟨_, rfl, .d rfl⟩, ⟨_, rfl, .d rfl⟩, ⟨_, rfl, .ptro rfl rfl⟩, ⟨_, rfl, .d rfl⟩, trivial⟩ ⟨.own rfl (.of_eq rfl (oviewView_dat _)), trivial⟩ drop0)⟩
              · refine cw_condF rfl hc384 ?_
                refine cw_skip ?_
                exact ⟨x381.2, (Option.some.inj h386).symm, .w (weak_of ⟨⟨_, rfl, .d rfl⟩, ⟨_, rfl, .d rfl⟩, ⟨_, rfl, .ptro rfl rfl⟩, ⟨_, rfl, .d rfl⟩, trivial⟩ ⟨.own rfl (.of_eq rfl (oviewView_dat _)), trivial⟩ drop0)⟩
          · refine cw_condF rfl hc348 ?_
            refine cw_exit ?_
            exact ⟨v335.2, (hx338 _ (Option.some.inj h350).symm).symm, .w (weak_of ⟨⟨_, rfl, .ptro rfl rfl⟩, trivial⟩ ⟨.own rfl (.of_eq rfl (oviewView_dat _)), trivial⟩ drop0)⟩
        · skip
          rcases cond_some hj343 with ⟨hc345, h346⟩ | ⟨hc345, h347⟩
          · skip
            refine cw_region (
              .cons (o_mv rfl rfl .no rfl) <|
              .cons (o_mv rfl rfl .no rfl) <|
              .cons (o_lenM (enc := ewainscotlaw13Op) (xs := a0) rfl rfl .no rfl sl22) <|
              .cons (o_bin rfl rfl .no rfl rfl (b_lss _ _) rfl) <|
              .cons (o_mv rfl rfl .no rfl) <|
              .cons (o_mv rfl rfl (.yes rfl rfl hc345) rfl) <|
              .cons (o_bin rfl rfl (.yes rfl rfl hc345) rfl rfl (b_lss _ _) rfl) <|
              .cons (o_pickT rfl rfl .no rfl hc345 rfl) <|
              .nil rfl
            ) ?_
            exact ⟨(decide (v335.1 < 20)), (Option.some.inj h346).symm, .w (weak_of ⟨⟨_, rfl, .d rfl⟩, ⟨_, rfl, .d rfl⟩, ⟨_, rfl, .ptro rfl rfl⟩, ⟨_, rfl, .d rfl⟩, ⟨_, rfl, .d rfl⟩, trivial⟩ ⟨.own rfl (.of_eq rfl (oviewView_dat _)), trivial⟩ drop0)⟩
          · skip
            refine cw_region (
              .cons (o_mv rfl rfl .no rfl) <|
              .cons (o_mv rfl rfl .no rfl) <|
              .cons (o_lenM (enc := ewainscotlaw13Op) (xs := a0) rfl rfl .no rfl sl22) <|
              .cons (o_bin rfl rfl .no rfl rfl (b_lss _ _) rfl) <|
              .cons (o_mv rfl rfl .no rfl) <|
              .cons (o_noT rfl rfl rfl rfl hc345) <|
              .cons (o_noT rfl rfl rfl rfl hc345) <|
              .cons (o_pickF rfl rfl .no rfl hc345 rfl) <|
              .nil rfl
            ) ?_
            exact ⟨false, (Option.some.inj h347).symm, .w (weak_of ⟨⟨_, rfl, .d rfl⟩, ⟨_, rfl, .d rfl⟩, ⟨_, rfl, .ptro rfl rfl⟩, ⟨_, rfl, .d rfl⟩, ⟨_, rfl, .d rfl⟩, trivial⟩ ⟨.own rfl (.of_eq rfl (oviewView_dat _)), trivial⟩ drop0)⟩
  · skip
    rcases cond_some hj11 with ⟨hc13, h14⟩ | ⟨hc13, h15⟩
    · skip
      refine cw_region (
        .cons (o_mv rfl rfl .no rfl) <|
        .cons (o_not rfl rfl .no rfl) <|
        .cons (o_mv rfl rfl .no rfl) <|
        .cons (o_noT rfl rfl rfl rfl hc13) <|
        .cons (o_noT rfl rfl rfl rfl hc13) <|
        .cons (o_pickT rfl rfl .no rfl hc13 rfl) <|
        .nil rfl
      ) ?_
      exact ⟨true, (Option.some.inj h14).symm, .w (weak_of ⟨⟨_, rfl, .d rfl⟩, ⟨_, rfl, .d rfl⟩, ⟨_, rfl, .ptro rfl rfl⟩, ⟨_, rfl, .d rfl⟩, trivial⟩ ⟨.own rfl (.of_eq rfl (oviewView_dat _)), trivial⟩ drop0)⟩
    · skip
      refine cw_region (
        .cons (o_mv rfl rfl .no rfl) <|
        .cons (o_not rfl rfl .no rfl) <|
        .cons (o_mv rfl rfl .no rfl) <|
        .cons (o_mv rfl rfl (.yes rfl rfl hc13) rfl) <|
        .cons (o_pnilP rfl rfl (.yes rfl rfl hc13) rfl up24) <|
        .cons (o_pickF rfl rfl .no rfl hc13 rfl) <|
        .nil rfl
      ) ?_
      exact ⟨false, (Option.some.inj h15).symm, .w (weak_of ⟨⟨_, rfl, .d rfl⟩, ⟨_, rfl, .d rfl⟩, ⟨_, rfl, .ptro rfl rfl⟩, ⟨_, rfl, .d rfl⟩, trivial⟩ ⟨.own rfl (.of_eq rfl (oviewView_dat _)), trivial⟩ drop0)⟩

end
end Go.Val

