/- Walks of the program's functions, printed. -/
import Derived.Test.YthipaajmgfnagaaGreatDoorWj
set_option linter.unusedSectionVars false
set_option linter.unusedVariables false
set_option linter.unusedSimpArgs false
namespace Go.Val
open Go.RowKit Go.Proofs

section
variable [NoDrw]

noncomputable def law13_ChunkBytes (a0 : List (Int × Int × Int × Int × ByteArray)) (a1 : Int) (a2 : Int) : Option Bool :=
 (law13_shown).bind fun x1 =>
 (view_New_n).bind fun x4 =>
 (((
  cond (!x1) (
   some true
  ) (
   some false
  )
 ) : Option Bool)).bind fun o10 =>
 cond o10 (
  some false
 ) (
  (ck (decide (0 ≤ (2000 : Int) ∧ (2000 : Int) ≤ 140737488355328))).bind fun _ =>
  (((
   whileO (V := (Int × VwT × (List UInt8))) (O := ((VwT × (List UInt8)) ⊕ Bool)) (fun v628 =>
    (((
     cond (decide (v628.1 < (a0.length : Int))) (
      some (decide (v628.1 < 30))
     ) (
      some false
     )
    ) : Option Bool)).bind fun o635 =>
    cond o635 (
     (((
      (gx a0 v628.1).bind fun x695 =>
      (cutB 0 (min (x695.2.2.2.2.size : Int) 300) x695.2.2.2.2.size).bind fun _ =>
      cond (decide (x695.1 = 2)) (
       (chunk_Cut v628.2.1 5 (bitsAnd .i64 x695.2.2.1 1023)).bind fun x704 =>
       cond (decide (x704.1 ≠ 0)) (
        some (.inr false)
       ) (
        whileO (V := (Int × (List UInt8))) (O := ((VwT × (List UInt8)) ⊕ Bool)) (fun v726 =>
         cond (decide (v726.1 < (v726.2.length : Int))) (
          (gx v726.2 v726.1).bind fun x733 =>
          some (.inl ((IntKind.wrap .i64 (v726.1 + 1)), (List.set v726.2 v726.1.toNat (0 : UInt8))))
         ) (
          some (.inr (.inl (x704.2, v726.2)))
         )
        ) ((bitsAnd .i64 x695.2.2.1 1023), v628.2.2)
       )
      ) (
       (chunk_Write v628.2.1 5 (bitsAnd .i64 x695.2.2.1 1023) (x695.2.2.2.2.extract 0 (min (x695.2.2.2.2.size : Int) 300).toNat)).bind fun x736 =>
       cond (decide (x736.1 ≠ 0)) (
        some (.inr false)
       ) (
        (ck (decide (0 ≤ (bitsAnd .i64 x695.2.2.1 1023) ∧ (bitsAnd .i64 x695.2.2.1 1023).toNat ≤ v628.2.2.length))).bind fun _ =>
        some (.inl (x736.2, (List.take (bitsAnd .i64 x695.2.2.1 1023).toNat v628.2.2 ++ cpB (List.drop (bitsAnd .i64 x695.2.2.1 1023).toNat v628.2.2) (x695.2.2.2.2.extract 0 (min (x695.2.2.2.2.size : Int) 300).toNat).data.toList)))
       )
      )
     ) : Option ((VwT × (List UInt8)) ⊕ Bool))).bind fun o692 =>
     Sum.elim (fun (v747 : (VwT × (List UInt8))) =>
      some (.inl ((IntKind.wrap .i64 (v628.1 + 1)), v747.1, v747.2))
     ) (fun w750 =>
      some (.inr (.inr w750))
     ) o692
    ) (
     some (.inr (.inl (v628.2.1, v628.2.2)))
    )
   ) (0, x4, (List.replicate 2000 (0 : UInt8)))
  ) : Option ((VwT × (List UInt8)) ⊕ Bool))).bind fun o385 =>
  Sum.elim (fun (v753 : (VwT × (List UInt8))) =>
   (chunk_Read v753.1 5 (bitsAnd .i64 a1 1023) (bitsAnd .i64 a2 511)).bind fun x754 =>
   (((
    cond (decide (x754.2.1 = 0)) (
     (cutB (bitsAnd .i64 a1 1023) (IntKind.wrap .i64 ((bitsAnd .i64 a1 1023) + (bitsAnd .i64 a2 511))) v753.2.length).bind fun _ =>
     some (decide (x754.1 = (bytesS (piece v753.2 (bitsAnd .i64 a1 1023) (IntKind.wrap .i64 ((bitsAnd .i64 a1 1023) + (bitsAnd .i64 a2 511)))))))
    ) (
     some false
    )
   ) : Option Bool)).bind fun o766 =>
   some o766
  ) (fun w779 =>
   some w779
  ) o385
 )

set_option maxRecDepth 100000 in
theorem law13_ChunkBytes_ok {a0 : List (Int × Int × Int × Int × ByteArray)} {a1 : Int} {a2 : Int} {r : Bool} (h : law13_ChunkBytes a0 a1 a2 = some r) : FnOk Tryz.prog 3 [.d (eSwainscotlaw13Op a0), .d (eint a1), .d (eint a2)] 0 (lk []) (fun rr oo => rr = .d (ebool r) ∧ oo = lk []) := by
  refine fnOk_of Tryz.func3 rfl rfl (cw_post ?_)
  unfold law13_ChunkBytes at h
  refine cw_seq (cw_region (
    .cons (o_as rfl rfl .no rfl) <|
    .nil rfl
  ) ?_)
  obtain ⟨x1, hx2, h3⟩ := bind_some (x := law13_shown) h
  refine cw_seq (cw_region (
    .cons (o_call rfl rfl .no Tryz.func10 rfl rfl (law13_shown_ok hx2) .nil trivial (.inl rfl)) <|
    .cons (o_as rfl rfl .no rfl) <|
    .nil rfl
  ) ?_)
  obtain ⟨x4, hx5, h6⟩ := bind_some (x := view_New_n) h3
  refine cw_seq (cw_region (
    .cons (o_callO 0 rfl rfl .no Tryz.func11 rfl rfl (view_New_n_ok hx5) (.cons rfl .d .nil) ⟨trivial, trivial⟩ rfl (.inl rfl)) <|
    .cons (o_as rfl rfl .no rfl) <|
    .nil rfl
  ) ?_)
  refine cw_seq ?_
  obtain ⟨o10, hj11, h12⟩ := bind_some h6
  refine cw_join (fun (z : Bool) => St.of [(0, .d (eSwainscotlaw13Op a0)), (1, .d (eint a1)), (2, .d (eint a2)), (8, .ptr 0 0), (23, .d (ebool z))] [(0, .own (oviewView x4))]) (fun (z : Bool) => o10 = z) ?_ ?_
  · intro v780 hv781; subst hv781
    rcases cond_some h12 with ⟨hc16, h17⟩ | ⟨hc16, h18⟩
    · refine cw_condT rfl hc16 ?_
      refine cw_seq (cw_region (
        .cons (o_as rfl rfl .no rfl) <|
        .nil rfl
      ) ?_)
      have heq := ((Option.some.inj h17).symm).symm
      subst heq
      exact cw_ret ⟨_, (show Leads _ _ (St.of [(6, .d (ebool false))] []) from .w (weak_of ⟨⟨_, rfl, .d rfl⟩, trivial⟩ trivial drop0)), .inr rfl, _, res1 rfl rfl, rfl, rfl⟩
    · refine cw_condF rfl hc16 ?_
      refine cw_skip ?_
      obtain ⟨x19, hx20, h21⟩ := bind_some h18
      have hx20g := ck_dec hx20
      refine cw_seq (cw_region (
        .cons (o_mksl (n := 2000) 1 rfl rfl .no rfl rfl sl26 sz5 by5 zb5 hx20g rfl) <|
        .cons (o_as rfl rfl .no rfl) <|
        .nil rfl
      ) ?_)
      obtain ⟨o385, hj386, h387⟩ := bind_some h21
      refine cw_join (fun (z : (VwT × (List UInt8))) => St.of [(1, .d (eint a1)), (2, .d (eint a2)), (8, .ptr 0 0), (9, .arr 1 0)] [(0, .own (oviewView z.1)), (1, .arr 0 1 (z.2.map u8D))]) (fun (z : (VwT × (List UInt8))) => o385 = (.inl z)) ?_ ?_
      · intro v753 hv778; subst hv778
        simp only [Sum.elim_inl] at h387
        refine cw_seq (cw_region (
          .cons (o_mv rfl rfl .no rfl) <|
          .cons (o_bin rfl rfl .no rfl rfl (b_and _ _) rfl) <|
          .cons (o_as rfl rfl .no rfl) <|
          .nil rfl
        ) ?_)
        refine cw_seq (cw_region (
          .cons (o_mv rfl rfl .no rfl) <|
          .cons (o_bin rfl rfl .no rfl rfl (b_and _ _) rfl) <|
          .cons (o_as rfl rfl .no rfl) <|
          .nil rfl
        ) ?_)
        obtain ⟨x754, hx755, h756⟩ := bind_some (x := chunk_Read v753.1 5 (bitsAnd .i64 a1 1023) (bitsAnd .i64 a2 511)) h387
        refine cw_seq (cw_region (
          .cons (o_mv rfl rfl .no rfl) <|
          .cons (o_mv rfl rfl .no rfl) <|
          .cons (o_mv rfl rfl .no rfl) <|
          .cons (o_callX (fun _ => 0) rfl rfl .no Tryz.func14 rfl rfl (chunk_Read_ok hx755) (.cons rfl (.p rfl) (.cons rfl .d (.cons rfl .d (.cons rfl .d .nil)))) (callIn1 rfl ⟨(by simp [AV.live, lk, Nat.beq]), trivial, trivial, trivial, trivial⟩ rfl (OD.dat_live (oviewView_dat _)) (by simp)) (.inl rfl)) <|
          .cons (o_mv rfl rfl .no rfl) <|
          .cons (o_ext rfl rfl .no rfl rfl) <|
          .cons (o_ext rfl rfl .no rfl rfl) <|
          .cons (o_as rfl rfl .no rfl) <|
          .cons (o_as rfl rfl .no rfl) <|
          .nil rfl
        ) ?_)
        refine cw_weak (weak_of (l := [(1, .d (eint (bitsAnd .i64 a1 1023))), (2, .d (eint (bitsAnd .i64 a2 511))), (9, .d (bytesD v753.2)), (14, .d (estring x754.1)), (15, .d (eapiErrno x754.2.1))]) (m := []) ⟨⟨_, rfl, .d rfl⟩, ⟨_, rfl, .d rfl⟩, ⟨_, rfl, .frz rfl rfl rfl⟩, ⟨_, rfl, .d rfl⟩, ⟨_, rfl, .d rfl⟩, trivial⟩ trivial drop0) ?_
        obtain ⟨o766, hj767, h768⟩ := bind_some h756
        refine cw_join (fun (z : Bool) => St.of [(6, .d (ebool z))] []) (fun (z : Bool) => o766 = z) ?_ ?_
        · intro v775 hv776; subst hv776
          have heq := ((Option.some.inj h768).symm).symm
          subst heq
          exact cw_ret ⟨_, (show Leads _ _ (St.of [(6, .d (ebool o766))] []) from .w (weak_of ⟨⟨_, rfl, .d rfl⟩, trivial⟩ trivial drop0)), .inr rfl, _, res1 rfl rfl, rfl, rfl⟩
        · skip
          rcases cond_some hj767 with ⟨hc769, h770⟩ | ⟨hc769, h771⟩
          · skip
            obtain ⟨x772, hx773, h774⟩ := bind_some h770
            have hx773g := cutB_some hx773
            refine cw_region (
              .cons (o_mv rfl rfl .no rfl) <|
              .cons (o_bin rfl rfl .no rfl rfl (b_eql _ _) rfl) <|
              .cons (o_mv rfl rfl .no rfl) <|
              .cons (o_mv rfl rfl (.yes rfl rfl hc769) rfl) <|
              .cons (o_mv rfl rfl (.yes rfl rfl hc769) rfl) <|
              .cons (o_mv rfl rfl (.yes rfl rfl hc769) rfl) <|
              .cons (o_mv rfl rfl (.yes rfl rfl hc769) rfl) <|
              .cons (o_mv rfl rfl (.yes rfl rfl hc769) rfl) <|
              .cons (o_bin rfl rfl (.yes rfl rfl hc769) rfl rfl (b_add _ _) rfl) <|
              .cons (o_slM (enc := u8D) (xs := v753.2) rfl rfl (.yes rfl rfl hc769) rfl sl26 sz5 (.val rfl hx773g.1) (.val rfl hx773g.2.1) hx773g.2.2.1 hx773g.2.2.2) <|
              .cons (o_cvD rfl rfl (.yes rfl rfl hc769) rfl sl26 un5 un9) <|
              .cons (o_bin rfl rfl (.yes rfl rfl hc769) rfl rfl (s_eql _ _) rfl) <|
              .cons (o_pickT rfl rfl .no rfl hc769 rfl) <|
              .cons (o_as rfl rfl .no rfl) <|
              .nil rfl
            ) ?_
            exact ⟨(decide (x754.1 = (bytesS (piece v753.2 (bitsAnd .i64 a1 1023) (IntKind.wrap .i64 ((bitsAnd .i64 a1 1023) + (bitsAnd .i64 a2 511))))))), (Option.some.inj h774).symm, .w (weak_of ⟨⟨_, rfl, .d rfl⟩, trivial⟩ trivial drop0)⟩
          · skip
            refine cw_region (
              .cons (o_mv rfl rfl .no rfl) <|
              .cons (o_bin rfl rfl .no rfl rfl (b_eql _ _) rfl) <|
              .cons (o_mv rfl rfl .no rfl) <|
              .cons (o_noT rfl rfl rfl rfl hc769) <|
              .cons (o_noT rfl rfl rfl rfl hc769) <|
              .cons (o_noT rfl rfl rfl rfl hc769) <|
              .cons (o_noT rfl rfl rfl rfl hc769) <|
              .cons (o_noT rfl rfl rfl rfl hc769) <|
              .cons (o_noT rfl rfl rfl rfl hc769) <|
              .cons (o_noT rfl rfl rfl rfl hc769) <|
              .cons (o_noT rfl rfl rfl rfl hc769) <|
              .cons (o_noT rfl rfl rfl rfl hc769) <|
              .cons (o_pickF rfl rfl .no rfl hc769 rfl) <|
              .cons (o_as rfl rfl .no rfl) <|
              .nil rfl
            ) ?_
            exact ⟨false, (Option.some.inj h771).symm, .w (weak_of ⟨⟨_, rfl, .d rfl⟩, trivial⟩ trivial drop0)⟩
      · skip
        refine cw_seq (cw_region (
          .cons (o_as rfl rfl .no rfl) <|
          .nil rfl
        ) ?_)
        refine cw_block ?_
        refine cw_while (V := (Int × VwT × (List UInt8))) (O := ((VwT × (List UInt8)) ⊕ Bool)) (fun (z : (Int × VwT × (List UInt8))) => St.of [(0, .d (eSwainscotlaw13Op a0)), (1, .d (eint a1)), (2, .d (eint a2)), (8, .ptr 0 0), (9, .arr 1 0), (10, .d (eint z.1))] [(0, .own (oviewView z.2.1)), (1, .arr 0 1 (z.2.2.map u8D))]) hj386 (.w (weak_of ⟨⟨_, rfl, .d rfl⟩, ⟨_, rfl, .d rfl⟩, ⟨_, rfl, .d rfl⟩, ⟨_, rfl, .ptro rfl rfl⟩, ⟨_, rfl, .arr rfl rfl⟩, ⟨_, rfl, .d rfl⟩, trivial⟩ ⟨.own rfl (.of_eq rfl (oviewView_dat _)), .arr rfl rfl, trivial⟩ drop0)) ?_
        intro v628 x629 hb630 hx631
        refine cw_seq ?_
        obtain ⟨o635, hj636, h637⟩ := bind_some hb630
        refine cw_join (fun (z : Bool) => St.of [(0, .d (eSwainscotlaw13Op a0)), (1, .d (eint a1)), (2, .d (eint a2)), (8, .ptr 0 0), (9, .arr 1 0), (10, .d (eint v628.1)), (32, .d (ebool z))] [(0, .own (oviewView v628.2.1)), (1, .arr 0 1 (v628.2.2.map u8D))]) (fun (z : Bool) => o635 = z) ?_ ?_
        · intro v751 hv752; subst hv752
          rcases cond_some h637 with ⟨hc641, h642⟩ | ⟨hc641, h643⟩
          · refine cw_condT rfl hc641 ?_
            refine cw_skip ?_
            obtain ⟨o692, hj693, h694⟩ := bind_some h642
            refine cw_join (fun (z : (VwT × (List UInt8))) => St.of [(0, .d (eSwainscotlaw13Op a0)), (1, .d (eint a1)), (2, .d (eint a2)), (8, .ptr 0 0), (9, .arr 1 0), (10, .d (eint v628.1))] [(0, .own (oviewView z.1)), (1, .arr 0 1 (z.2.map u8D))]) (fun (z : (VwT × (List UInt8))) => o692 = (.inl z)) ?_ ?_
            · intro v747 hv749; subst hv749
              simp only [Sum.elim_inl] at h694
              refine cw_region (
                .cons (o_mv rfl rfl .no rfl) <|
                .cons (o_bin rfl rfl .no rfl rfl (b_add _ _) rfl) <|
                .cons (o_as rfl rfl .no rfl) <|
                .nil rfl
              ) ?_
              exact ⟨((IntKind.wrap .i64 (v628.1 + 1)), v747.1, v747.2), (Option.some.inj h694).symm, .w (weak_of ⟨⟨_, rfl, .d rfl⟩, ⟨_, rfl, .d rfl⟩, ⟨_, rfl, .d rfl⟩, ⟨_, rfl, .ptro rfl rfl⟩, ⟨_, rfl, .arr rfl rfl⟩, ⟨_, rfl, .d rfl⟩, trivial⟩ ⟨.own rfl (.of_eq rfl (oviewView_dat _)), .arr rfl rfl, trivial⟩ drop0)⟩
            · skip
              refine cw_block ?_
              obtain ⟨x695, hx696, h697⟩ := bind_some hj693
              have hx696g := gx_some hx696
              refine cw_seq (cw_region (
                .cons (o_mv rfl rfl .no rfl) <|
                .cons (o_mv rfl rfl .no rfl) <|
                .cons (o_ixM (enc := ewainscotlaw13Op) (xs := a0) rfl rfl .no rfl rfl sl22 sz28 hx696g.1 hx696g.2) <|
                .cons (o_fld rfl rfl .no rfl fld28_2 (by decide) rfl rfl) <|
                .cons (o_ld rfl rfl .no rfl ta3 rfl rfl) <|
                .cons (o_bin rfl rfl .no rfl rfl (b_and _ _) rfl) <|
                .cons (o_as rfl rfl .no rfl) <|
                .nil rfl
              ) ?_)
              obtain ⟨x698, hx699, h700⟩ := bind_some h697
              have hx699g := cutB_some hx699
              refine cw_seq (cw_region_any mixed (by kernel_rfl) (
                .cons (o_mv rfl rfl .no rfl) <|
                .cons (o_mv rfl rfl .no rfl) <|
                .cons (o_ixM (enc := ewainscotlaw13Op) (xs := a0) rfl rfl .no rfl rfl sl22 sz28 hx696g.1 hx696g.2) <|
                .cons (o_fld rfl rfl .no rfl fld28_4 (by decide) rfl rfl) <|
                .cons (o_ld rfl rfl .no rfl ta9 rfl rfl) <|
                .cons (o_mv rfl rfl .no rfl) <|
                .cons (o_mv rfl rfl .no rfl) <|
                .cons (o_ixM (enc := ewainscotlaw13Op) (xs := a0) rfl rfl .no rfl rfl sl22 sz28 hx696g.1 hx696g.2) <|
                .cons (o_fld rfl rfl .no rfl fld28_4 (by decide) rfl rfl) <|
                .cons (o_ld rfl rfl .no rfl ta9 rfl rfl) <|
                .cons (o_lenS rfl rfl .no rfl un9) <|
                .cons (o_min rfl rfl .no rfl rfl) <|
                .cons (o_slS rfl rfl .no rfl un9 .no (.val rfl hx699g.2.1) hx699g.2.2.1 hx699g.2.2.2) <|
                .cons (o_as rfl rfl .no rfl) <|
                .nil rfl
              ) (by kernel_rfl) ?_)
              refine cw_seq (cw_region (
                .cons (o_mv rfl rfl .no rfl) <|
                .cons (o_mv rfl rfl .no rfl) <|
                .cons (o_ixM (enc := ewainscotlaw13Op) (xs := a0) rfl rfl .no rfl rfl sl22 sz28 hx696g.1 hx696g.2) <|
                .cons (o_fld rfl rfl .no rfl fld28_0 (by decide) rfl rfl) <|
                .cons (o_ld rfl rfl .no rfl ta3 rfl rfl) <|
                .cons (o_bin rfl rfl .no rfl rfl (b_eql _ _) rfl) <|
                .nil rfl
              ) ?_)
              rcases cond_some h700 with ⟨hc701, h702⟩ | ⟨hc701, h703⟩
              · refine cw_condT rfl hc701 ?_
                refine cw_seq ?_
                obtain ⟨x704, hx705, h706⟩ := bind_some (x := chunk_Cut v628.2.1 5 (bitsAnd .i64 x695.2.2.1 1023)) h702
                refine cw_seq (cw_region (
                  .cons (o_mv rfl rfl .no rfl) <|
                  .cons (o_mv rfl rfl .no rfl) <|
                  .cons (o_callX (fun _ => 0) rfl rfl .no Tryz.func12 rfl rfl (chunk_Cut_ok hx705) (.cons rfl (.p rfl) (.cons rfl .d (.cons rfl .d .nil))) (callIn1 rfl ⟨(by simp [AV.live, lk, Nat.beq]), trivial, trivial, trivial⟩ rfl (OD.dat_live (oviewView_dat _)) (by simp)) (.inl rfl)) <|
                  .cons (o_bin rfl rfl .no rfl rfl (b_neq _ _) rfl) <|
                  .nil rfl
                ) ?_)
                rcases cond_some h706 with ⟨hc707, h708⟩ | ⟨hc707, h709⟩
                · refine cw_condT rfl hc707 ?_
                  refine cw_seq (cw_region (
                    .cons (o_as rfl rfl .no rfl) <|
                    .nil rfl
                  ) ?_)
                  have he710 := ((Option.some.inj h708).symm).symm
                  subst he710
                  have he711 := ((hx631 _ (Option.some.inj h694).symm).symm).symm
                  subst he711
                  have heq := ((Option.some.inj h387).symm).symm
                  subst heq
                  exact cw_ret ⟨_, (show Leads _ _ (St.of [(6, .d (ebool false))] []) from .w (weak_of ⟨⟨_, rfl, .d rfl⟩, trivial⟩ trivial drop0)), .inr rfl, _, res1 rfl rfl, rfl, rfl⟩
                · refine cw_condF rfl hc707 ?_
                  refine cw_skip ?_
                  refine cw_seq (cw_region (
                    .cons (o_mv rfl rfl .no rfl) <|
                    .cons (o_as rfl rfl .no rfl) <|
                    .nil rfl
                  ) ?_)
                  refine cw_block ?_
                  refine cw_while (V := (Int × (List UInt8))) (O := ((VwT × (List UInt8)) ⊕ Bool)) (fun (z : (Int × (List UInt8))) => St.of [(0, .d (eSwainscotlaw13Op a0)), (1, .d (eint a1)), (2, .d (eint a2)), (8, .ptr 0 0), (9, .arr 1 0), (10, .d (eint v628.1)), (13, .d (eint z.1))] [(0, .own (oviewView x704.2)), (1, .arr 0 1 (z.2.map u8D))]) h709 (.w (weak_of ⟨⟨_, rfl, .d rfl⟩, ⟨_, rfl, .d rfl⟩, ⟨_, rfl, .d rfl⟩, ⟨_, rfl, .ptro rfl rfl⟩, ⟨_, rfl, .arr rfl rfl⟩, ⟨_, rfl, .d rfl⟩, ⟨_, rfl, .d rfl⟩, trivial⟩ ⟨.own rfl (.of_eq rfl (oviewView_dat _)), .arr rfl rfl, trivial⟩ drop0)) ?_
                  intro v726 x727 hb728 hx729
                  refine cw_seq ?_
                  refine cw_seq (cw_region (
                    .cons (o_mv rfl rfl .no rfl) <|
                    .cons (o_mv rfl rfl .no rfl) <|
                    .cons (o_lenAM (enc := u8D) (xs := v726.2) rfl rfl .no rfl rfl sl26) <|
                    .cons (o_bin rfl rfl .no rfl rfl (b_lss _ _) rfl) <|
                    .nil rfl
                  ) ?_)
                  rcases cond_some hb728 with ⟨hc730, h731⟩ | ⟨hc730, h732⟩
                  · refine cw_condT rfl hc730 ?_
                    refine cw_skip ?_
                    refine cw_seq ?_
                    refine cw_block ?_
                    obtain ⟨x733, hx734, h735⟩ := bind_some h731
                    have hx734g := gx_some hx734
                    refine cw_region (
                      .cons (o_mv rfl rfl .no rfl) <|
                      .cons (o_mv rfl rfl .no rfl) <|
                      .cons (o_ixAM (enc := u8D) (xs := v726.2) rfl rfl .no rfl rfl rfl sl26 sz5 hx734g.1 hx734g.2) <|
                      .cons (o_stEM (enc := u8D) (xs := v726.2) (y := (0 : UInt8)) (r := x733) rfl .no rfl rfl rfl hx734g.2 sz5 rfl rfl) <|
                      .nil rfl
                    ) ?_
                    refine cw_region (
                      .cons (o_mv rfl rfl .no rfl) <|
                      .cons (o_bin rfl rfl .no rfl rfl (b_add _ _) rfl) <|
                      .cons (o_as rfl rfl .no rfl) <|
                      .nil rfl
                    ) ?_
                    exact ⟨((IntKind.wrap .i64 (v726.1 + 1)), (List.set v726.2 v726.1.toNat (0 : UInt8))), (Option.some.inj h735).symm, .w (weak_of ⟨⟨_, rfl, .d rfl⟩, ⟨_, rfl, .d rfl⟩, ⟨_, rfl, .d rfl⟩, ⟨_, rfl, .ptro rfl rfl⟩, ⟨_, rfl, .arr rfl rfl⟩, ⟨_, rfl, .d rfl⟩, ⟨_, rfl, .d rfl⟩, trivial⟩ ⟨.own rfl (.of_eq rfl (oviewView_dat _)), .arr rfl rfl, trivial⟩ drop0)⟩
                  · refine cw_condF rfl hc730 ?_
                    refine cw_exit ?_
                    exact ⟨(x704.2, v726.2), (hx729 _ (Option.some.inj h732).symm).symm, .w (weak_of ⟨⟨_, rfl, .d rfl⟩, ⟨_, rfl, .d rfl⟩, ⟨_, rfl, .d rfl⟩, ⟨_, rfl, .ptro rfl rfl⟩, ⟨_, rfl, .arr rfl rfl⟩, ⟨_, rfl, .d rfl⟩, trivial⟩ ⟨.own rfl (.of_eq rfl (oviewView_dat _)), .arr rfl rfl, trivial⟩ drop0)⟩
              · refine cw_condF rfl hc701 ?_
                refine cw_seq ?_
                obtain ⟨x736, hx737, h738⟩ := bind_some (x := chunk_Write v628.2.1 5 (bitsAnd .i64 x695.2.2.1 1023) (x695.2.2.2.2.extract 0 (min (x695.2.2.2.2.size : Int) 300).toNat)) h703
                refine cw_seq (cw_region (
                  .cons (o_mv rfl rfl .no rfl) <|
                  .cons (o_mv rfl rfl .no rfl) <|
                  .cons (o_mv rfl rfl .no rfl) <|
                  .cons (o_callX (fun n => bif Nat.beq n 0 then 0 else 2) rfl rfl .no Tryz.func13 rfl rfl (chunk_Write_ok hx737) (.cons rfl (.p rfl) (.cons rfl .d (.cons rfl .d (.cons rfl .d .nil)))) (callInG [4] rfl ⟨(by simp [AV.live, lk, Nat.beq]), trivial, trivial, trivial, trivial⟩ ⟨⟨rfl, (OD.dat_live (oviewView_dat _))⟩, trivial⟩ rfl rfl rfl ⟨rfl, trivial⟩ rfl) (.inl rfl)) <|
                  .cons (o_bin rfl rfl .no rfl rfl (b_neq _ _) rfl) <|
                  .nil rfl
                ) ?_)
                rcases cond_some h738 with ⟨hc739, h740⟩ | ⟨hc739, h741⟩
                · refine cw_condT rfl hc739 ?_
                  refine cw_seq (cw_region (
                    .cons (o_as rfl rfl .no rfl) <|
                    .nil rfl
                  ) ?_)
                  have he742 := ((Option.some.inj h740).symm).symm
                  subst he742
                  have he743 := ((hx631 _ (Option.some.inj h694).symm).symm).symm
                  subst he743
                  have heq := ((Option.some.inj h387).symm).symm
                  subst heq
                  exact cw_ret ⟨_, (show Leads _ _ (St.of [(6, .d (ebool false))] []) from .w (weak_of ⟨⟨_, rfl, .d rfl⟩, trivial⟩ trivial drop0)), .inr rfl, _, res1 rfl rfl, rfl, rfl⟩
                · refine cw_condF rfl hc739 ?_
                  refine cw_skip ?_
                  obtain ⟨x744, hx745, h746⟩ := bind_some h741
                  have hx745g := ck_dec hx745
                  refine cw_region (
                    .cons (o_mv rfl rfl .no rfl) <|
                    .cons (o_mv rfl rfl .no rfl) <|
                    .cons (o_tailM (enc := u8D) (xs := v628.2.2) rfl rfl .no rfl rfl rfl sl26 sz5 hx745g.1 hx745g.2) <|
                    .cons (o_mv rfl rfl .no rfl) <|
                    .cons (o_cpA (xs := v628.2.2) rfl rfl .no rfl rfl rfl sl26 sz5 hx745g.2) <|
                    .nil rfl
                  ) ?_
                  exact ⟨(x736.2, (List.take (bitsAnd .i64 x695.2.2.1 1023).toNat v628.2.2 ++ cpB (List.drop (bitsAnd .i64 x695.2.2.1 1023).toNat v628.2.2) (x695.2.2.2.2.extract 0 (min (x695.2.2.2.2.size : Int) 300).toNat).data.toList)), (Option.some.inj h746).symm, .w (weak_of ⟨⟨_, rfl, .d rfl⟩, ⟨_, rfl, .d rfl⟩, ⟨_, rfl, .d rfl⟩, ⟨_, rfl, .ptro rfl rfl⟩, ⟨_, rfl, .arr rfl rfl⟩, ⟨_, rfl, .d rfl⟩, trivial⟩ ⟨.own rfl (.of_eq rfl (oviewView_dat _)), .arr rfl rfl, trivial⟩ drop0)⟩
          · refine cw_condF rfl hc641 ?_
            refine cw_exit ?_
            exact ⟨(v628.2.1, v628.2.2), (hx631 _ (Option.some.inj h643).symm).symm, .w (weak_of ⟨⟨_, rfl, .d rfl⟩, ⟨_, rfl, .d rfl⟩, ⟨_, rfl, .ptro rfl rfl⟩, ⟨_, rfl, .arr rfl rfl⟩, trivial⟩ ⟨.own rfl (.of_eq rfl (oviewView_dat _)), .arr rfl rfl, trivial⟩ drop0)⟩
        · skip
          rcases cond_some hj636 with ⟨hc638, h639⟩ | ⟨hc638, h640⟩
          · skip
            refine cw_region (
              .cons (o_mv rfl rfl .no rfl) <|
              .cons (o_mv rfl rfl .no rfl) <|
              .cons (o_lenM (enc := ewainscotlaw13Op) (xs := a0) rfl rfl .no rfl sl22) <|
              .cons (o_bin rfl rfl .no rfl rfl (b_lss _ _) rfl) <|
              .cons (o_mv rfl rfl .no rfl) <|
              .cons (o_mv rfl rfl (.yes rfl rfl hc638) rfl) <|
              .cons (o_bin rfl rfl (.yes rfl rfl hc638) rfl rfl (b_lss _ _) rfl) <|
              .cons (o_pickT rfl rfl .no rfl hc638 rfl) <|
              .nil rfl
            ) ?_
            exact ⟨(decide (v628.1 < 30)), (Option.some.inj h639).symm, .w (weak_of ⟨⟨_, rfl, .d rfl⟩, ⟨_, rfl, .d rfl⟩, ⟨_, rfl, .d rfl⟩, ⟨_, rfl, .ptro rfl rfl⟩, ⟨_, rfl, .arr rfl rfl⟩, ⟨_, rfl, .d rfl⟩, ⟨_, rfl, .d rfl⟩, trivial⟩ ⟨.own rfl (.of_eq rfl (oviewView_dat _)), .arr rfl rfl, trivial⟩ drop0)⟩
          · skip
            refine cw_region (
              .cons (o_mv rfl rfl .no rfl) <|
              .cons (o_mv rfl rfl .no rfl) <|
              .cons (o_lenM (enc := ewainscotlaw13Op) (xs := a0) rfl rfl .no rfl sl22) <|
              .cons (o_bin rfl rfl .no rfl rfl (b_lss _ _) rfl) <|
              .cons (o_mv rfl rfl .no rfl) <|
              .cons (o_noT rfl rfl rfl rfl hc638) <|
              .cons (o_noT rfl rfl rfl rfl hc638) <|
              .cons (o_pickF rfl rfl .no rfl hc638 rfl) <|
              .nil rfl
            ) ?_
            exact ⟨false, (Option.some.inj h640).symm, .w (weak_of ⟨⟨_, rfl, .d rfl⟩, ⟨_, rfl, .d rfl⟩, ⟨_, rfl, .d rfl⟩, ⟨_, rfl, .ptro rfl rfl⟩, ⟨_, rfl, .arr rfl rfl⟩, ⟨_, rfl, .d rfl⟩, ⟨_, rfl, .d rfl⟩, trivial⟩ ⟨.own rfl (.of_eq rfl (oviewView_dat _)), .arr rfl rfl, trivial⟩ drop0)⟩
  · skip
    rcases cond_some hj11 with ⟨hc13, h14⟩ | ⟨hc13, h15⟩
    · skip
      refine cw_region (
        .cons (o_mv rfl rfl .no rfl) <|
        .cons (o_not rfl rfl .no rfl) <|
        .cons (o_mv rfl rfl .no rfl) <|
        .cons (o_noT rfl rfl rfl rfl hc13) <|
        .cons (o_noT rfl rfl rfl rfl hc13) <|
        .cons (o_pickT rfl rfl .no rfl hc13 rfl) <|
        .nil rfl
      ) ?_
      exact ⟨true, (Option.some.inj h14).symm, .w (weak_of ⟨⟨_, rfl, .d rfl⟩, ⟨_, rfl, .d rfl⟩, ⟨_, rfl, .d rfl⟩, ⟨_, rfl, .ptro rfl rfl⟩, ⟨_, rfl, .d rfl⟩, trivial⟩ ⟨.own rfl (.of_eq rfl (oviewView_dat _)), trivial⟩ drop0)⟩
    · skip
      refine cw_region (
        .cons (o_mv rfl rfl .no rfl) <|
        .cons (o_not rfl rfl .no rfl) <|
        .cons (o_mv rfl rfl .no rfl) <|
        .cons (o_mv rfl rfl (.yes rfl rfl hc13) rfl) <|
        .cons (o_pnilP rfl rfl (.yes rfl rfl hc13) rfl up24) <|
        .cons (o_pickF rfl rfl .no rfl hc13 rfl) <|
        .nil rfl
      ) ?_
      exact ⟨false, (Option.some.inj h15).symm, .w (weak_of ⟨⟨_, rfl, .d rfl⟩, ⟨_, rfl, .d rfl⟩, ⟨_, rfl, .d rfl⟩, ⟨_, rfl, .ptro rfl rfl⟩, ⟨_, rfl, .d rfl⟩, trivial⟩ ⟨.own rfl (.of_eq rfl (oviewView_dat _)), trivial⟩ drop0)⟩

end
end Go.Val

