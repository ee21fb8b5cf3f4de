/- Walks of the program's functions, printed. -/
import Derived.Test.YtmibkdnmjjdelaaGreatWr
import Derived.Test.YtmibkdnmjjdelaaGreatLc
set_option linter.unusedSectionVars false
set_option linter.unusedVariables false
set_option linter.unusedSimpArgs false
namespace Go.Val
open Go.RowKit Go.Proofs

section
variable [NoDrw]

noncomputable def law12_same (a0 : ((List ((List UInt8) × ByteArray)) × (List ((List UInt8) × ((List UInt8) × ByteArray × Bool))) × (List ((List UInt8) × (List UInt8) × Bool)) × (List (List ((List UInt8) × ((List UInt8) × ByteArray × Bool)))))) (a1 : ((List ((List UInt8) × ByteArray)) × (List ((List UInt8) × ByteArray × Bool)) × (List ((List UInt8) × (List UInt8) × Bool)) × (List (List ((List UInt8) × ByteArray × Bool))))) (a2 : (Int × Int × (List UInt8) × ByteArray × ((List UInt8) × (List UInt8) × Bool))) : Option (Bool × ((List ((List UInt8) × ByteArray)) × (List ((List UInt8) × ((List UInt8) × ByteArray × Bool))) × (List ((List UInt8) × (List UInt8) × Bool)) × (List (List ((List UInt8) × ((List UInt8) × ByteArray × Bool))))) × ((List ((List UInt8) × ByteArray)) × (List ((List UInt8) × ByteArray × Bool)) × (List ((List UInt8) × (List UInt8) × Bool)) × (List (List ((List UInt8) × ByteArray × Bool))))) :=
 (cutB 0 (min (a2.2.2.2.1.size : Int) 50) a2.2.2.2.1.size).bind fun _ =>
 (((
  cond (decide (a2.1 = 1)) (
   (view_View_Put a0 a2.2.2.1 (a2.2.2.2.1.extract 0 (min (a2.2.2.2.1.size : Int) 50).toNat)).bind fun x128 =>
   (ref12_View_Put a1 a2.2.2.1 (a2.2.2.2.1.extract 0 (min (a2.2.2.2.1.size : Int) 50).toNat)).bind fun x131 =>
   some (.inr ((decide (x128.1 = x131.1)), x128.2, x131.2))
  ) (
   cond (decide (a2.1 = 2)) (
    (ref12_View_Delete a1 a2.2.2.1).bind fun x138 =>
    (view_View_Delete a0 a2.2.2.1).bind fun x141 =>
    some (.inr ((decide (x141.1 = 0)), x141.2, x138))
   ) (
    cond (decide (a2.1 = 3)) (
     (view_View_Scan a0 a2.2.2.2.2).bind fun x148 =>
     (((
      cond (decide (x148.2.1 = 0)) (
       (ref12_View_Scan a1 a2.2.2.2.2).bind fun x166 =>
       (ref09_Same x148.1 x166.1).bind fun x169 =>
       some (x169, x166.2)
      ) (
       some (false, a1)
      )
     ) : Option (Bool × ((List ((List UInt8) × ByteArray)) × (List ((List UInt8) × ByteArray × Bool)) × (List ((List UInt8) × (List UInt8) × Bool)) × (List (List ((List UInt8) × ByteArray × Bool))))))).bind fun o160 =>
     (((
      whileO (V := (Int × (List ((List UInt8) × ByteArray)))) (O := Unit) (fun v213 =>
       cond (decide (v213.1 < (v213.2.length : Int))) (
        (gx v213.2 v213.1).bind fun x220 =>
        some (.inl ((IntKind.wrap .i64 (v213.1 + 1)), (List.set v213.2 v213.1.toNat (x220.1, (ByteArray.mk #[63])))))
       ) (
        some (.inr ())
       )
      ) (0, x148.1)
     ) : Option Unit)).bind fun o196 =>
     some (.inr (o160.1, x148.2.2, o160.2))
    ) (
     cond (decide (a2.1 = 4)) (
      (view_View_Mark a0).bind fun x231 =>
      (ref12_View_Mark a1).bind fun x234 =>
      some (.inr ((decide (x231.1 = x234.1)), x231.2, x234.2))
     ) (
      cond (decide (a2.1 = 5)) (
       (view_View_Back a0 a2.2.1).bind fun x241 =>
       (ref12_View_Back a1 a2.2.1).bind fun x244 =>
       some (.inr ((decide (x241.1 = x244.1)), x241.2, x244.2))
      ) (
       some (.inl ())
      )
     )
    )
   )
  )
 ) : Option (Unit ⊕ (Bool × ((List ((List UInt8) × ByteArray)) × (List ((List UInt8) × ((List UInt8) × ByteArray × Bool))) × (List ((List UInt8) × (List UInt8) × Bool)) × (List (List ((List UInt8) × ((List UInt8) × ByteArray × Bool))))) × ((List ((List UInt8) × ByteArray)) × (List ((List UInt8) × ByteArray × Bool)) × (List ((List UInt8) × (List UInt8) × Bool)) × (List (List ((List UInt8) × ByteArray × Bool)))))))).bind fun o122 =>
 Sum.elim (fun (v248 : Unit) =>
  (view_View_Get a0 a2.2.2.1).bind fun x249 =>
  (ref12_View_Get a1 a2.2.2.1).bind fun x252 =>
  (((
   cond (decide (x249.1 = x252.1)) (
    cond (x249.2.1 == x252.2.1) (
     some (decide (x249.2.2.1 = 0))
    ) (
     some false
    )
   ) (
    some false
   )
  ) : Option Bool)).bind fun o261 =>
  some (o261, x249.2.2.2, x252.2.2)
 ) (fun w274 =>
  some w274
 ) o122

noncomputable def law12_ViewPlays (a0 : List ((List UInt8) × ByteArray)) (a1 : List (Int × Int × (List UInt8) × ByteArray × ((List UInt8) × (List UInt8) × Bool))) : Option Bool :=
 (law12_shown).bind fun x1 =>
 (law12_cut a0).bind fun x4 =>
 (view_NewPlain_a x4).bind fun x7 =>
 (((
  cond (!x1) (
   some true
  ) (
   some false
  )
 ) : Option Bool)).bind fun o13 =>
 cond o13 (
  some false
 ) (
  (((
   whileO (V := (Int × (List ((List UInt8) × ByteArray)))) (O := Unit) (fun v63 =>
    cond (decide (v63.1 < (v63.2.length : Int))) (
     (gx v63.2 v63.1).bind fun x70 =>
     some (.inl ((IntKind.wrap .i64 (v63.1 + 1)), (List.set v63.2 v63.1.toNat (x70.1, (ByteArray.mk #[63])))))
    ) (
     some (.inr ())
    )
   ) (0, x7.2)
  ) : Option Unit)).bind fun o46 =>
  (view_New x7.1).bind fun x73 =>
  (ref12_New_a x4).bind fun x76 =>
  (view_Plain_Len x7.1).bind fun x82 =>
  cond (decide (x82 ≠ (x76.1.1.length : Int))) (
   some false
  ) (
   (((
    whileO (V := (Int × ((List ((List UInt8) × ByteArray)) × (List ((List UInt8) × ((List UInt8) × ByteArray × Bool))) × (List ((List UInt8) × (List UInt8) × Bool)) × (List (List ((List UInt8) × ((List UInt8) × ByteArray × Bool))))) × ((List ((List UInt8) × ByteArray)) × (List ((List UInt8) × ByteArray × Bool)) × (List ((List UInt8) × (List UInt8) × Bool)) × (List (List ((List UInt8) × ByteArray × Bool)))))) (O := (Unit ⊕ Bool)) (fun v1789 =>
     (((
      cond (decide (v1789.1 < (a1.length : Int))) (
       some (decide (v1789.1 < 60))
      ) (
       some false
      )
     ) : Option Bool)).bind fun o1796 =>
     cond o1796 (
      (((
       (gx a1 v1789.1).bind fun x1966 =>
       (law12_same v1789.2.1 v1789.2.2 x1966).bind fun x1969 =>
       (view_View_Reads x1969.2.1).bind fun x1972 =>
       (view_View_Changes x1972.2).bind fun x1975 =>
       (((
        (ref08_Same x1972.1 x1969.2.2.2.2.1).bind fun x1993 =>
        cond x1993 (
         (ref09_SameChanges x1975.1 x1969.2.2.2.1).bind fun x1999 =>
         some x1999
        ) (
         some false
        )
       ) : Option Bool)).bind fun o1990 =>
       (((
        whileO (V := (Int × (List ((List UInt8) × (List UInt8) × Bool)))) (O := Unit) (fun v2043 =>
         cond (decide (v2043.1 < (v2043.2.length : Int))) (
          (gx v2043.2 v2043.1).bind fun x2050 =>
          some (.inl ((IntKind.wrap .i64 (v2043.1 + 1)), (List.set v2043.2 v2043.1.toNat (x2050.1, x2050.2.1, (!x2050.2.2)))))
         ) (
          some (.inr ())
         )
        ) (0, x1972.1)
       ) : Option Unit)).bind fun o2026 =>
       (((
        whileO (V := (Int × (List ((List UInt8) × ByteArray × Bool)))) (O := Unit) (fun v2094 =>
         cond (decide (v2094.1 < (v2094.2.length : Int))) (
          (gx v2094.2 v2094.1).bind fun x2101 =>
          some (.inl ((IntKind.wrap .i64 (v2094.1 + 1)), (List.set v2094.2 v2094.1.toNat (x2101.1, x2101.2.1, (!x2101.2.2)))))
         ) (
          some (.inr ())
         )
        ) (0, x1975.1)
       ) : Option Unit)).bind fun o2077 =>
       (((
        cond (!x1969.1) (
         some true
        ) (
         some (!o1990)
        )
       ) : Option Bool)).bind fun o2107 =>
       cond o2107 (
        some (.inr false)
       ) (
        some (.inl (x1975.2, (x1969.2.2.1, x1969.2.2.2.1, x1969.2.2.2.2.1, x1969.2.2.2.2.2)))
       )
      ) : Option ((((List ((List UInt8) × ByteArray)) × (List ((List UInt8) × ((List UInt8) × ByteArray × Bool))) × (List ((List UInt8) × (List UInt8) × Bool)) × (List (List ((List UInt8) × ((List UInt8) × ByteArray × Bool))))) × ((List ((List UInt8) × ByteArray)) × (List ((List UInt8) × ByteArray × Bool)) × (List ((List UInt8) × (List UInt8) × Bool)) × (List (List ((List UInt8) × ByteArray × Bool))))) ⊕ Bool))).bind fun o1963 =>
      Sum.elim (fun (v2126 : (((List ((List UInt8) × ByteArray)) × (List ((List UInt8) × ((List UInt8) × ByteArray × Bool))) × (List ((List UInt8) × (List UInt8) × Bool)) × (List (List ((List UInt8) × ((List UInt8) × ByteArray × Bool))))) × ((List ((List UInt8) × ByteArray)) × (List ((List UInt8) × ByteArray × Bool)) × (List ((List UInt8) × (List UInt8) × Bool)) × (List (List ((List UInt8) × ByteArray × Bool)))))) =>
       some (.inl ((IntKind.wrap .i64 (v1789.1 + 1)), v2126.1, v2126.2))
      ) (fun w2129 =>
       some (.inr (.inr w2129))
      ) o1963
     ) (
      some (.inr (.inl ()))
     )
    ) (0, x73, (x76.1.1, x76.1.2.1, x76.1.2.2.1, x76.1.2.2.2))
   ) : Option (Unit ⊕ Bool))).bind fun o1108 =>
   Sum.elim (fun (v2132 : Unit) =>
    some true
   ) (fun w2135 =>
    some w2135
   ) o1108
  )
 )

set_option maxRecDepth 100000 in
theorem law12_same_ok {a0 : ((List ((List UInt8) × ByteArray)) × (List ((List UInt8) × ((List UInt8) × ByteArray × Bool))) × (List ((List UInt8) × (List UInt8) × Bool)) × (List (List ((List UInt8) × ((List UInt8) × ByteArray × Bool)))))} {a1 : ((List ((List UInt8) × ByteArray)) × (List ((List UInt8) × ByteArray × Bool)) × (List ((List UInt8) × (List UInt8) × Bool)) × (List (List ((List UInt8) × ByteArray × Bool))))} {a2 : (Int × Int × (List UInt8) × ByteArray × ((List UInt8) × (List UInt8) × Bool))} {r : (Bool × ((List ((List UInt8) × ByteArray)) × (List ((List UInt8) × ((List UInt8) × ByteArray × Bool))) × (List ((List UInt8) × (List UInt8) × Bool)) × (List (List ((List UInt8) × ((List UInt8) × ByteArray × Bool))))) × ((List ((List UInt8) × ByteArray)) × (List ((List UInt8) × ByteArray × Bool)) × (List ((List UInt8) × (List UInt8) × Bool)) × (List (List ((List UInt8) × ByteArray × Bool)))))} (h : law12_same a0 a1 a2 = some r) : FnOk Tryz.prog 10 [.ptr 0 0, .ptr 1 0, .d (ewainscotlaw12Op a2)] 2 (lk [(0, .own (oviewView a0)), (1, .own (owainscotref12View a1))]) (fun rr oo => rr = .d (ebool r.1) ∧ oo = lk [(0, .own (oviewView r.2.1)), (1, .own (owainscotref12View r.2.2))]) := by
  refine fnOk_of Tryz.func10 rfl rfl (cw_post ?_)
  unfold law12_same at h
  refine cw_seq (cw_region (
    .cons (o_box 2 rfl rfl .no rfl rfl rfl) <|
    .cons (o_as rfl rfl .no rfl) <|
    .nil rfl
  ) ?_)
  obtain ⟨x1, hx2, h3⟩ := bind_some h
  have hx2g := cutB_some hx2
  refine cw_seq (cw_region (
    .cons (o_fldP rfl rfl .no rfl fld46_3 (by decide)) <|
    .cons (o_ldP [3] rfl rfl .no rfl rfl rfl ta9 rfl rfl) <|
    .cons (o_fldP rfl rfl .no rfl fld46_3 (by decide)) <|
    .cons (o_ldP [3] rfl rfl .no rfl rfl rfl ta9 rfl rfl) <|
    .cons (o_lenS rfl rfl .no rfl un9) <|
    .cons (o_min rfl rfl .no rfl rfl) <|
    .cons (o_slS rfl rfl .no rfl un9 .no (.val rfl hx2g.2.1) hx2g.2.2.1 hx2g.2.2.2) <|
    .cons (o_as rfl rfl .no rfl) <|
    .nil rfl
  ) ?_)
  obtain ⟨o122, hj123, h124⟩ := bind_some h3
  refine cw_join (fun (z : Unit) => St.of [(0, .ptr 0 0), (1, .ptr 1 0), (5, .ptr 2 0)] [(0, .own (oviewView a0)), (1, .own (owainscotref12View a1)), (2, .box (.d (ewainscotlaw12Op a2)))]) (fun (z : Unit) => o122 = (.inl z)) ?_ ?_
  · intro v248 hv273; subst hv273
    simp only [Sum.elim_inl] at h124
    obtain ⟨x249, hx250, h251⟩ := bind_some (x := view_View_Get a0 a2.2.2.1) h124
    refine cw_seq (cw_region (
      .cons (o_mv rfl rfl .no rfl) <|
      .cons (o_fldP rfl rfl .no rfl fld46_2 (by decide)) <|
      .cons (o_ldP [2] rfl rfl .no rfl rfl rfl ta29 rfl rfl) <|
      .cons (o_callX (fun _ => 0) rfl rfl .no Tryz.func20 rfl rfl (view_View_Get_ok hx250) (.cons rfl (.p rfl) (.cons rfl .d .nil)) (callIn1 rfl ⟨(by simp [AV.live, lk, Nat.beq]), trivial, trivial⟩ rfl (OD.dat_live (oviewView_dat _)) (by simp)) (.inl rfl)) <|
      .cons (o_mv rfl rfl .no rfl) <|
      .cons (o_ext rfl rfl .no rfl rfl) <|
      .cons (o_ext rfl rfl .no rfl rfl) <|
      .cons (o_ext rfl rfl .no rfl rfl) <|
      .cons (o_as rfl rfl .no rfl) <|
      .cons (o_as rfl rfl .no rfl) <|
      .cons (o_as rfl rfl .no rfl) <|
      .nil rfl
    ) ?_)
    obtain ⟨x252, hx253, h254⟩ := bind_some (x := ref12_View_Get a1 a2.2.2.1) h251
    refine cw_seq (cw_region (
      .cons (o_mv rfl rfl .no rfl) <|
      .cons (o_fldP rfl rfl .no rfl fld46_2 (by decide)) <|
      .cons (o_ldP [2] rfl rfl .no rfl rfl rfl ta29 rfl rfl) <|
      .cons (o_callX (fun _ => 1) rfl rfl .no Tryz.func30 rfl rfl (ref12_View_Get_ok hx253) (.cons rfl (.p rfl) (.cons rfl .d .nil)) (callIn1 rfl ⟨(by simp [AV.live, lk, Nat.beq]), trivial, trivial⟩ rfl (OD.dat_live (owainscotref12View_dat _)) (by simp)) (.inl rfl)) <|
      .cons (o_mv rfl rfl .no rfl) <|
      .cons (o_ext rfl rfl .no rfl rfl) <|
      .cons (o_ext rfl rfl .no rfl rfl) <|
      .cons (o_as rfl rfl .no rfl) <|
      .cons (o_as rfl rfl .no rfl) <|
      .nil rfl
    ) ?_)
    obtain ⟨o261, hj262, h263⟩ := bind_some h254
    refine cw_join (fun (z : Bool) => St.of [(6, .d (ebool z))] [(0, .own (oviewView x249.2.2.2)), (1, .own (owainscotref12View x252.2.2))]) (fun (z : Bool) => o261 = z) ?_ ?_
    · intro v270 hv271; subst hv271
      have heq := ((Option.some.inj h263).symm).symm
      subst heq
      exact cw_ret ⟨_, (show Leads _ _ (St.of [(6, .d (ebool o261))] [(0, .own (oviewView x249.2.2.2)), (1, .own (owainscotref12View x252.2.2))]) from .w (weak_of ⟨⟨_, rfl, .d rfl⟩, trivial⟩ ⟨.own rfl (.of_eq rfl (oviewView_dat _)), .own rfl (.of_eq rfl (owainscotref12View_dat _)), trivial⟩ (dropK rfl))), .inr rfl, _, res1 rfl rfl, rfl, rfl⟩
    · skip
      rcases cond_some hj262 with ⟨hc264, h265⟩ | ⟨hc264, h266⟩
      · skip
        rcases cond_some h265 with ⟨hc267, h268⟩ | ⟨hc267, h269⟩
        · skip
          refine cw_region (
            .cons (o_mv rfl rfl .no rfl) <|
            .cons (o_mv rfl rfl .no rfl) <|
            .cons (o_bin rfl rfl .no rfl rfl (s_eql _ _) rfl) <|
            .cons (o_mv rfl rfl .no rfl) <|
            .cons (o_mv rfl rfl (.yes rfl rfl hc264) rfl) <|
            .cons (o_mv rfl rfl (.yes rfl rfl hc264) rfl) <|
            .cons (o_bin rfl rfl (.yes rfl rfl hc264) rfl rfl (t_eql _ _ un4) rfl) <|
            .cons (o_pickT rfl rfl .no rfl hc264 rfl) <|
            .cons (o_mv rfl rfl .no rfl) <|
            .cons (o_mv rfl rfl (.yes rfl rfl hc267) rfl) <|
            .cons (o_bin rfl rfl (.yes rfl rfl hc267) rfl rfl (b_eql _ _) rfl) <|
            .cons (o_pickT rfl rfl .no rfl hc267 rfl) <|
            .cons (o_as rfl rfl .no rfl) <|
            .nil rfl
          ) ?_
          exact ⟨(decide (x249.2.2.1 = 0)), (Option.some.inj h268).symm, .w (weak_of ⟨⟨_, rfl, .d rfl⟩, trivial⟩ ⟨.own rfl (.of_eq rfl (oviewView_dat _)), .own rfl (.of_eq rfl (owainscotref12View_dat _)), trivial⟩ (dropK rfl))⟩
        · skip
          refine cw_region (
            .cons (o_mv rfl rfl .no rfl) <|
            .cons (o_mv rfl rfl .no rfl) <|
            .cons (o_bin rfl rfl .no rfl rfl (s_eql _ _) rfl) <|
            .cons (o_mv rfl rfl .no rfl) <|
            .cons (o_mv rfl rfl (.yes rfl rfl hc264) rfl) <|
            .cons (o_mv rfl rfl (.yes rfl rfl hc264) rfl) <|
            .cons (o_bin rfl rfl (.yes rfl rfl hc264) rfl rfl (t_eql _ _ un4) rfl) <|
            .cons (o_pickT rfl rfl .no rfl hc264 rfl) <|
            .cons (o_mv rfl rfl .no rfl) <|
            .cons (o_noT rfl rfl rfl rfl hc267) <|
            .cons (o_noT rfl rfl rfl rfl hc267) <|
            .cons (o_pickF rfl rfl .no rfl hc267 rfl) <|
            .cons (o_as rfl rfl .no rfl) <|
            .nil rfl
          ) ?_
          exact ⟨false, (Option.some.inj h269).symm, .w (weak_of ⟨⟨_, rfl, .d rfl⟩, trivial⟩ ⟨.own rfl (.of_eq rfl (oviewView_dat _)), .own rfl (.of_eq rfl (owainscotref12View_dat _)), trivial⟩ (dropK rfl))⟩
      · skip
        refine cw_region (
          .cons (o_mv rfl rfl .no rfl) <|
          .cons (o_mv rfl rfl .no rfl) <|
          .cons (o_bin rfl rfl .no rfl rfl (s_eql _ _) rfl) <|
          .cons (o_mv rfl rfl .no rfl) <|
          .cons (o_noT rfl rfl rfl rfl hc264) <|
          .cons (o_noT rfl rfl rfl rfl hc264) <|
          .cons (o_noT rfl rfl rfl rfl hc264) <|
          .cons (o_pickF rfl rfl .no rfl hc264 rfl) <|
          .cons (o_mv rfl rfl .no rfl) <|
          .cons (o_noT rfl rfl rfl rfl rfl) <|
          .cons (o_noT rfl rfl rfl rfl rfl) <|
          .cons (o_pickF rfl rfl .no rfl rfl rfl) <|
          .cons (o_as rfl rfl .no rfl) <|
          .nil rfl
        ) ?_
        exact ⟨false, (Option.some.inj h266).symm, .w (weak_of ⟨⟨_, rfl, .d rfl⟩, trivial⟩ ⟨.own rfl (.of_eq rfl (oviewView_dat _)), .own rfl (.of_eq rfl (owainscotref12View_dat _)), trivial⟩ (dropK rfl))⟩
  · skip
    refine cw_seq (cw_region (
      .cons (o_fldP rfl rfl .no rfl fld46_0 (by decide)) <|
      .cons (o_ldP [0] rfl rfl .no rfl rfl rfl ta3 rfl rfl) <|
      .nil rfl
    ) ?_)
    refine cw_block ?_
    refine cw_seq (cw_region (
      .cons (o_bin rfl rfl .no rfl rfl (b_eql _ _) rfl) <|
      .cons (o_as rfl rfl .no rfl) <|
      .nil rfl
    ) ?_)
    rcases cond_some hj123 with ⟨hc125, h126⟩ | ⟨hc125, h127⟩
    · refine cw_condT rfl hc125 ?_
      obtain ⟨x128, hx129, h130⟩ := bind_some (x := view_View_Put a0 a2.2.2.1 (a2.2.2.2.1.extract 0 (min (a2.2.2.2.1.size : Int) 50).toNat)) h126
      obtain ⟨x131, hx132, h133⟩ := bind_some (x := ref12_View_Put a1 a2.2.2.1 (a2.2.2.2.1.extract 0 (min (a2.2.2.2.1.size : Int) 50).toNat)) h130
      refine cw_seq (cw_region_any mixed (by kernel_rfl) (
        .cons (o_mv rfl rfl .no rfl) <|
        .cons (o_fldP rfl rfl .no rfl fld46_2 (by decide)) <|
        .cons (o_ldP [2] rfl rfl .no rfl rfl rfl ta29 rfl rfl) <|
        .cons (o_mv rfl rfl .no rfl) <|
        .cons (o_callX (fun _ => 0) rfl rfl .no Tryz.func16 rfl rfl (view_View_Put_ok hx129) (.cons rfl (.p rfl) (.cons rfl .d (.cons rfl .d .nil))) (callIn1 rfl ⟨(by simp [AV.live, lk, Nat.beq]), trivial, trivial, trivial⟩ rfl (OD.dat_live (oviewView_dat _)) (by simp)) (.inl rfl)) <|
        .cons (o_mv rfl rfl .no rfl) <|
        .cons (o_fldP rfl rfl .no rfl fld46_2 (by decide)) <|
        .cons (o_ldP [2] rfl rfl .no rfl rfl rfl ta29 rfl rfl) <|
        .cons (o_mv rfl rfl .no rfl) <|
        .cons (o_callX (fun _ => 1) rfl rfl .no Tryz.func24 rfl rfl (ref12_View_Put_ok hx132) (.cons rfl (.p rfl) (.cons rfl .d (.cons rfl .d .nil))) (callIn1 rfl ⟨(by simp [AV.live, lk, Nat.beq]), trivial, trivial, trivial⟩ rfl (OD.dat_live (owainscotref12View_dat _)) (by simp)) (.inl rfl)) <|
        .cons (o_bin rfl rfl .no rfl rfl (b_eql _ _) rfl) <|
        .cons (o_as rfl rfl .no rfl) <|
        .nil rfl
      ) (by kernel_rfl) ?_)
      have he134 := ((Option.some.inj h133).symm).symm
      subst he134
      have heq := ((Option.some.inj h124).symm).symm
      subst heq
      exact cw_ret ⟨_, (show Leads _ _ (St.of [(6, .d (ebool (decide (x128.1 = x131.1))))] [(0, .own (oviewView x128.2)), (1, .own (owainscotref12View x131.2))]) from .w (weak_of ⟨⟨_, rfl, .d rfl⟩, trivial⟩ ⟨.own rfl (.of_eq rfl (oviewView_dat _)), .own rfl (.of_eq rfl (owainscotref12View_dat _)), trivial⟩ (dropK rfl))), .inr rfl, _, res1 rfl rfl, rfl, rfl⟩
    · refine cw_condF rfl hc125 ?_
      refine cw_seq (cw_region (
        .cons (o_bin rfl rfl .no rfl rfl (b_eql _ _) rfl) <|
        .cons (o_as rfl rfl .no rfl) <|
        .nil rfl
      ) ?_)
      rcases cond_some h127 with ⟨hc135, h136⟩ | ⟨hc135, h137⟩
      · refine cw_condT rfl hc135 ?_
        obtain ⟨x138, hx139, h140⟩ := bind_some (x := ref12_View_Delete a1 a2.2.2.1) h136
        refine cw_seq (cw_region (
          .cons (o_mv rfl rfl .no rfl) <|
          .cons (o_fldP rfl rfl .no rfl fld46_2 (by decide)) <|
          .cons (o_ldP [2] rfl rfl .no rfl rfl rfl ta29 rfl rfl) <|
          .cons (o_callX (fun _ => 1) rfl rfl .no Tryz.func25 rfl rfl (ref12_View_Delete_ok hx139) (.cons rfl (.p rfl) (.cons rfl .d .nil)) (callIn1 rfl ⟨(by simp [AV.live, lk, Nat.beq]), trivial, trivial⟩ rfl (OD.dat_live (owainscotref12View_dat _)) (by simp)) (.inl rfl)) <|
          .nil rfl
        ) ?_)
        obtain ⟨x141, hx142, h143⟩ := bind_some (x := view_View_Delete a0 a2.2.2.1) h140
        refine cw_seq (cw_region (
          .cons (o_mv rfl rfl .no rfl) <|
          .cons (o_fldP rfl rfl .no rfl fld46_2 (by decide)) <|
          .cons (o_ldP [2] rfl rfl .no rfl rfl rfl ta29 rfl rfl) <|
          .cons (o_callX (fun _ => 0) rfl rfl .no Tryz.func17 rfl rfl (view_View_Delete_ok hx142) (.cons rfl (.p rfl) (.cons rfl .d .nil)) (callIn1 rfl ⟨(by simp [AV.live, lk, Nat.beq]), trivial, trivial⟩ rfl (OD.dat_live (oviewView_dat _)) (by simp)) (.inl rfl)) <|
          .cons (o_bin rfl rfl .no rfl rfl (b_eql _ _) rfl) <|
          .cons (o_as rfl rfl .no rfl) <|
          .nil rfl
        ) ?_)
        have he144 := ((Option.some.inj h143).symm).symm
        subst he144
        have heq := ((Option.some.inj h124).symm).symm
        subst heq
        exact cw_ret ⟨_, (show Leads _ _ (St.of [(6, .d (ebool (decide (x141.1 = 0))))] [(0, .own (oviewView x141.2)), (1, .own (owainscotref12View x138))]) from .w (weak_of ⟨⟨_, rfl, .d rfl⟩, trivial⟩ ⟨.own rfl (.of_eq rfl (oviewView_dat _)), .own rfl (.of_eq rfl (owainscotref12View_dat _)), trivial⟩ (dropK rfl))), .inr rfl, _, res1 rfl rfl, rfl, rfl⟩
      · refine cw_condF rfl hc135 ?_
        refine cw_seq (cw_region (
          .cons (o_bin rfl rfl .no rfl rfl (b_eql _ _) rfl) <|
          .cons (o_as rfl rfl .no rfl) <|
          .nil rfl
        ) ?_)
        rcases cond_some h137 with ⟨hc145, h146⟩ | ⟨hc145, h147⟩
        · refine cw_condT rfl hc145 ?_
          obtain ⟨x148, hx149, h150⟩ := bind_some (x := view_View_Scan a0 a2.2.2.2.2) h146
          refine cw_seq (cw_region (
            .cons (o_mv rfl rfl .no rfl) <|
            .cons (o_fldP rfl rfl .no rfl fld46_4 (by decide)) <|
            .cons (o_ldP [4] rfl rfl .no rfl rfl rfl ta44 rfl rfl) <|
            .cons (o_callX (fun n => bif Nat.beq n 0 then 0 else 3) rfl rfl .no Tryz.func18 rfl rfl (view_View_Scan_ok hx149) (.cons rfl (.p rfl) (.cons rfl .d .nil)) (callIn1N rfl ⟨(by simp [AV.live, lk, Nat.beq]), trivial, trivial⟩ (by decide) rfl (OD.dat_live (oviewView_dat _)) rfl (by simp)) (.inl rfl)) <|
            .cons (o_mv rfl rfl .no rfl) <|
            .cons (o_ext rfl rfl .no rfl rfl) <|
            .cons (o_ext rfl rfl .no rfl rfl) <|
            .cons (o_as rfl rfl .no rfl) <|
            .cons (o_as rfl rfl .no rfl) <|
            .nil rfl
          ) ?_)
          obtain ⟨o160, hj161, h162⟩ := bind_some h150
          refine cw_join (fun (z : (Bool × ((List ((List UInt8) × ByteArray)) × (List ((List UInt8) × ByteArray × Bool)) × (List ((List UInt8) × (List UInt8) × Bool)) × (List (List ((List UInt8) × ByteArray × Bool)))))) => St.of [(8, .arr 3 0), (10, .d (ebool z.1))] [(0, .own (oviewView x148.2.2)), (1, .own (owainscotref12View z.2)), (3, .arr 0 25 (x148.1.map eapiPair))]) (fun (z : (Bool × ((List ((List UInt8) × ByteArray)) × (List ((List UInt8) × ByteArray × Bool)) × (List ((List UInt8) × (List UInt8) × Bool)) × (List (List ((List UInt8) × ByteArray × Bool)))))) => o160 = z) ?_ ?_
          · intro v226 hv227; subst hv227
            obtain ⟨o196, hj197, h198⟩ := bind_some h162
            refine cw_join (fun (z : Unit) => St.of [(10, .d (ebool o160.1))] [(0, .own (oviewView x148.2.2)), (1, .own (owainscotref12View o160.2))]) (fun (z : Unit) => o196 = z) ?_ ?_
            · intro v224 hv225; subst hv225
              refine cw_seq (cw_region (
                .cons (o_mv rfl rfl .no rfl) <|
                .cons (o_as rfl rfl .no rfl) <|
                .nil rfl
              ) ?_)
              have he223 := ((Option.some.inj h198).symm).symm
              subst he223
              have heq := ((Option.some.inj h124).symm).symm
              subst heq
              exact cw_ret ⟨_, (show Leads _ _ (St.of [(6, .d (ebool o160.1))] [(0, .own (oviewView x148.2.2)), (1, .own (owainscotref12View o160.2))]) from .w (weak_of ⟨⟨_, rfl, .d rfl⟩, trivial⟩ ⟨.own rfl (.of_eq rfl (oviewView_dat _)), .own rfl (.of_eq rfl (owainscotref12View_dat _)), trivial⟩ (dropK rfl))), .inr rfl, _, res1 rfl rfl, rfl, rfl⟩
            · skip
              refine cw_seq (cw_region (
                .cons (o_as rfl rfl .no rfl) <|
                .nil rfl
              ) ?_)
              refine cw_block ?_
              refine cw_while (V := (Int × (List ((List UInt8) × ByteArray)))) (O := Unit) (fun (z : (Int × (List ((List UInt8) × ByteArray)))) => St.of [(8, .arr 3 0), (10, .d (ebool o160.1)), (11, .d (eint z.1))] [(0, .own (oviewView x148.2.2)), (1, .own (owainscotref12View o160.2)), (3, .arr 0 25 (z.2.map eapiPair))]) hj197 (.w (weak_of ⟨⟨_, rfl, .arr rfl rfl⟩, ⟨_, rfl, .d rfl⟩, ⟨_, rfl, .d rfl⟩, trivial⟩ ⟨.own rfl (.of_eq rfl (oviewView_dat _)), .own rfl (.of_eq rfl (owainscotref12View_dat _)), .arr rfl rfl, trivial⟩ (dropK rfl))) ?_
              intro v213 x214 hb215 hx216
              refine cw_seq ?_
              refine cw_seq (cw_region (
                .cons (o_mv rfl rfl .no rfl) <|
                .cons (o_mv rfl rfl .no rfl) <|
                .cons (o_lenAM (enc := eapiPair) (xs := v213.2) rfl rfl .no rfl rfl sl22) <|
                .cons (o_bin rfl rfl .no rfl rfl (b_lss _ _) rfl) <|
                .nil rfl
              ) ?_)
              rcases cond_some hb215 with ⟨hc217, h218⟩ | ⟨hc217, h219⟩
              · refine cw_condT rfl hc217 ?_
                refine cw_skip ?_
                refine cw_seq ?_
                refine cw_block ?_
                obtain ⟨x220, hx221, h222⟩ := bind_some h218
                have hx221g := gx_some hx221
                refine cw_region (
                  .cons (o_mv rfl rfl .no rfl) <|
                  .cons (o_mv rfl rfl .no rfl) <|
                  .cons (o_ixAM (enc := eapiPair) (xs := v213.2) rfl rfl .no rfl rfl rfl sl22 sz31 hx221g.1 hx221g.2) <|
                  .cons (o_fldE rfl rfl .no rfl rfl fld31_1 (by decide)) <|
                  .cons (o_stEPM (enc := eapiPair) (xs := v213.2) (y := (x220.1, (ByteArray.mk #[63]))) (r := x220) [1] rfl .no rfl rfl rfl hx221g.2 rfl rfl sz9 rfl rfl (siapiPair _)) <|
                  .nil rfl
                ) ?_
                refine cw_region (
                  .cons (o_mv rfl rfl .no rfl) <|
                  .cons (o_bin rfl rfl .no rfl rfl (b_add _ _) rfl) <|
                  .cons (o_as rfl rfl .no rfl) <|
                  .nil rfl
                ) ?_
                exact ⟨((IntKind.wrap .i64 (v213.1 + 1)), (List.set v213.2 v213.1.toNat (x220.1, (ByteArray.mk #[63])))), (Option.some.inj h222).symm, .w (weak_of ⟨⟨_, rfl, .arr rfl rfl⟩, ⟨_, rfl, .d rfl⟩, ⟨_, rfl, .d rfl⟩, trivial⟩ ⟨.own rfl (.of_eq rfl (oviewView_dat _)), .own rfl (.of_eq rfl (owainscotref12View_dat _)), .arr rfl rfl, trivial⟩ (dropK rfl))⟩
              · refine cw_condF rfl hc217 ?_
                refine cw_exit ?_
                exact ⟨(), (hx216 _ (Option.some.inj h219).symm).symm, .w (weak_of ⟨⟨_, rfl, .d rfl⟩, trivial⟩ ⟨.own rfl (.of_eq rfl (oviewView_dat _)), .own rfl (.of_eq rfl (owainscotref12View_dat _)), trivial⟩ (dropK rfl))⟩
          · skip
            rcases cond_some hj161 with ⟨hc163, h164⟩ | ⟨hc163, h165⟩
            · skip
              obtain ⟨x166, hx167, h168⟩ := bind_some (x := ref12_View_Scan a1 a2.2.2.2.2) h164
              obtain ⟨x169, hx170, h171⟩ := bind_some (x := ref09_Same x148.1 x166.1) h168
              refine cw_region (
                .cons (o_mv rfl rfl .no rfl) <|
                .cons (o_bin rfl rfl .no rfl rfl (b_eql _ _) rfl) <|
                .cons (o_mv rfl rfl .no rfl) <|
                .cons (o_mv rfl rfl (.yes rfl rfl hc163) rfl) <|
                .cons (o_mv rfl rfl (.yes rfl rfl hc163) rfl) <|
                .cons (o_fldP rfl rfl (.yes rfl rfl hc163) rfl fld46_4 (by decide)) <|
                .cons (o_ldP [4] rfl rfl (.yes rfl rfl hc163) rfl rfl rfl ta44 rfl rfl) <|
                .cons (o_callX (fun _ => 1) rfl rfl (.yes rfl rfl hc163) Tryz.func27 rfl rfl (ref12_View_Scan_ok hx167) (.cons rfl (.p rfl) (.cons rfl .d .nil)) (callIn1 rfl ⟨(by simp [AV.live, lk, Nat.beq]), trivial, trivial⟩ rfl (OD.dat_live (owainscotref12View_dat _)) (by simp)) (.inl rfl)) <|
                .cons (o_call rfl rfl (.yes rfl rfl hc163) Tryz.func26 rfl rfl (ref09_Same_ok hx170) (.cons rfl (.arrM rfl) (.cons rfl .d .nil)) ⟨trivial, trivial, trivial⟩ (.inr (DFlat.v _))) <|
                .cons (o_pickT rfl rfl .no rfl hc163 rfl) <|
                .cons (o_as rfl rfl .no rfl) <|
                .nil rfl
              ) ?_
              exact ⟨(x169, x166.2), (Option.some.inj h171).symm, .w (weak_of ⟨⟨_, rfl, .arr rfl rfl⟩, ⟨_, rfl, .d rfl⟩, trivial⟩ ⟨.own rfl (.of_eq rfl (oviewView_dat _)), .own rfl (.of_eq rfl (owainscotref12View_dat _)), .arr rfl rfl, trivial⟩ (dropK rfl))⟩
            · skip
              refine cw_region (
                .cons (o_mv rfl rfl .no rfl) <|
                .cons (o_bin rfl rfl .no rfl rfl (b_eql _ _) rfl) <|
                .cons (o_mv rfl rfl .no rfl) <|
                .cons (o_noT rfl rfl rfl rfl hc163) <|
                .cons (o_noT rfl rfl rfl rfl hc163) <|
                .cons (o_noT rfl rfl rfl rfl hc163) <|
                .cons (o_noT rfl rfl rfl rfl hc163) <|
                .cons (o_noT rfl rfl rfl rfl hc163) <|
                .cons (o_noT rfl rfl rfl rfl hc163) <|
                .cons (o_pickF rfl rfl .no rfl hc163 rfl) <|
                .cons (o_as rfl rfl .no rfl) <|
                .nil rfl
              ) ?_
              exact ⟨(false, a1), (Option.some.inj h165).symm, .w (weak_of ⟨⟨_, rfl, .arr rfl rfl⟩, ⟨_, rfl, .d rfl⟩, trivial⟩ ⟨.own rfl (.of_eq rfl (oviewView_dat _)), .own rfl (.of_eq rfl (owainscotref12View_dat _)), .arr rfl rfl, trivial⟩ (dropK rfl))⟩
        · refine cw_condF rfl hc145 ?_
          refine cw_seq (cw_region (
            .cons (o_bin rfl rfl .no rfl rfl (b_eql _ _) rfl) <|
            .cons (o_as rfl rfl .no rfl) <|
            .nil rfl
          ) ?_)
          rcases cond_some h147 with ⟨hc228, h229⟩ | ⟨hc228, h230⟩
          · refine cw_condT rfl hc228 ?_
            obtain ⟨x231, hx232, h233⟩ := bind_some (x := view_View_Mark a0) h229
            obtain ⟨x234, hx235, h236⟩ := bind_some (x := ref12_View_Mark a1) h233
            refine cw_seq (cw_region (
              .cons (o_mv rfl rfl .no rfl) <|
              .cons (o_callX (fun _ => 0) rfl rfl .no Tryz.func15 rfl rfl (view_View_Mark_ok hx232) (.cons rfl (.p rfl) .nil) (callIn1 rfl ⟨(by simp [AV.live, lk, Nat.beq]), trivial⟩ rfl (OD.dat_live (oviewView_dat _)) (by simp)) (.inl rfl)) <|
              .cons (o_mv rfl rfl .no rfl) <|
              .cons (o_callX (fun _ => 1) rfl rfl .no Tryz.func28 rfl rfl (ref12_View_Mark_ok hx235) (.cons rfl (.p rfl) .nil) (callIn1 rfl ⟨(by simp [AV.live, lk, Nat.beq]), trivial⟩ rfl (OD.dat_live (owainscotref12View_dat _)) (by simp)) (.inl rfl)) <|
              .cons (o_bin rfl rfl .no rfl rfl (b_eql _ _) rfl) <|
              .cons (o_as rfl rfl .no rfl) <|
              .nil rfl
            ) ?_)
            have he237 := ((Option.some.inj h236).symm).symm
            subst he237
            have heq := ((Option.some.inj h124).symm).symm
            subst heq
            exact cw_ret ⟨_, (show Leads _ _ (St.of [(6, .d (ebool (decide (x231.1 = x234.1))))] [(0, .own (oviewView x231.2)), (1, .own (owainscotref12View x234.2))]) from .w (weak_of ⟨⟨_, rfl, .d rfl⟩, trivial⟩ ⟨.own rfl (.of_eq rfl (oviewView_dat _)), .own rfl (.of_eq rfl (owainscotref12View_dat _)), trivial⟩ (dropK rfl))), .inr rfl, _, res1 rfl rfl, rfl, rfl⟩
          · refine cw_condF rfl hc228 ?_
            refine cw_seq (cw_region (
              .cons (o_bin rfl rfl .no rfl rfl (b_eql _ _) rfl) <|
              .cons (o_as rfl rfl .no rfl) <|
              .nil rfl
            ) ?_)
            rcases cond_some h230 with ⟨hc238, h239⟩ | ⟨hc238, h240⟩
            · refine cw_condT rfl hc238 ?_
              obtain ⟨x241, hx242, h243⟩ := bind_some (x := view_View_Back a0 a2.2.1) h239
              obtain ⟨x244, hx245, h246⟩ := bind_some (x := ref12_View_Back a1 a2.2.1) h243
              refine cw_seq (cw_region_any mixed (by kernel_rfl) (
                .cons (o_mv rfl rfl .no rfl) <|
                .cons (o_fldP rfl rfl .no rfl fld46_1 (by decide)) <|
                .cons (o_ldP [1] rfl rfl .no rfl rfl rfl ta3 rfl rfl) <|
                .cons (o_callX (fun _ => 0) rfl rfl .no Tryz.func19 rfl rfl (view_View_Back_ok hx242) (.cons rfl (.p rfl) (.cons rfl .d .nil)) (callIn1 rfl ⟨(by simp [AV.live, lk, Nat.beq]), trivial, trivial⟩ rfl (OD.dat_live (oviewView_dat _)) (by simp)) (.inl rfl)) <|
                .cons (o_mv rfl rfl .no rfl) <|
                .cons (o_fldP rfl rfl .no rfl fld46_1 (by decide)) <|
                .cons (o_ldP [1] rfl rfl .no rfl rfl rfl ta3 rfl rfl) <|
                .cons (o_callX (fun _ => 1) rfl rfl .no Tryz.func29 rfl rfl (ref12_View_Back_ok hx245) (.cons rfl (.p rfl) (.cons rfl .d .nil)) (callIn1 rfl ⟨(by simp [AV.live, lk, Nat.beq]), trivial, trivial⟩ rfl (OD.dat_live (owainscotref12View_dat _)) (by simp)) (.inl rfl)) <|
                .cons (o_bin rfl rfl .no rfl rfl (b_eql _ _) rfl) <|
                .cons (o_as rfl rfl .no rfl) <|
                .nil rfl
              ) (by kernel_rfl) ?_)
              have he247 := ((Option.some.inj h246).symm).symm
              subst he247
              have heq := ((Option.some.inj h124).symm).symm
              subst heq
              exact cw_ret ⟨_, (show Leads _ _ (St.of [(6, .d (ebool (decide (x241.1 = x244.1))))] [(0, .own (oviewView x241.2)), (1, .own (owainscotref12View x244.2))]) from .w (weak_of ⟨⟨_, rfl, .d rfl⟩, trivial⟩ ⟨.own rfl (.of_eq rfl (oviewView_dat _)), .own rfl (.of_eq rfl (owainscotref12View_dat _)), trivial⟩ (dropK rfl))), .inr rfl, _, res1 rfl rfl, rfl, rfl⟩
            · refine cw_condF rfl hc238 ?_
              refine cw_skip ?_
              exact ⟨(), (Option.some.inj h240).symm, .w (weak_of ⟨⟨_, rfl, .ptro rfl rfl⟩, ⟨_, rfl, .ptro rfl rfl⟩, ⟨_, rfl, .ptr rfl rfl⟩, trivial⟩ ⟨.own rfl (.of_eq rfl (oviewView_dat _)), .own rfl (.of_eq rfl (owainscotref12View_dat _)), .box rfl (.d rfl), trivial⟩ (dropK rfl))⟩

set_option maxRecDepth 100000 in
theorem law12_ViewPlays_ok {a0 : List ((List UInt8) × ByteArray)} {a1 : List (Int × Int × (List UInt8) × ByteArray × ((List UInt8) × (List UInt8) × Bool))} {r : Bool} (h : law12_ViewPlays a0 a1 = some r) : FnOk Tryz.prog 3 [.d (eSapiPair a0), .d (eSwainscotlaw12Op a1)] 0 (lk []) (fun rr oo => rr = .d (ebool r) ∧ oo = lk []) := by
  refine fnOk_of Tryz.func3 rfl rfl (cw_post ?_)
  unfold law12_ViewPlays at h
  refine cw_seq (cw_region (
    .cons (o_as rfl rfl .no rfl) <|
    .nil rfl
  ) ?_)
  obtain ⟨x1, hx2, h3⟩ := bind_some (x := law12_shown) h
  refine cw_seq (cw_region (
    .cons (o_call rfl rfl .no Tryz.func4 rfl rfl (law12_shown_ok hx2) .nil trivial (.inl rfl)) <|
    .cons (o_as rfl rfl .no rfl) <|
    .nil rfl
  ) ?_)
  obtain ⟨x4, hx5, h6⟩ := bind_some (x := law12_cut a0) h3
  refine cw_seq (cw_region (
    .cons (o_mv rfl rfl .no rfl) <|
    .cons (o_callO 0 rfl rfl .no Tryz.func5 rfl rfl (law12_cut_ok hx5) (.cons rfl .d .nil) ⟨trivial, trivial⟩ rfl (.inl rfl)) <|
    .cons (o_as rfl rfl .no rfl) <|
    .nil rfl
  ) ?_)
  obtain ⟨x7, hx8, h9⟩ := bind_some (x := view_NewPlain_a x4) h6
  refine cw_seq (cw_region (
    .cons (o_mv rfl rfl .no rfl) <|
    .cons (o_callX (fun _ => 0) rfl rfl .no Tryz.func6 rfl rfl (view_NewPlain_a_ok hx8 0) (.cons rfl (.a rfl) .nil) (callIn1 rfl ⟨(by simp [AV.live, lk, Nat.beq]), trivial⟩ rfl trivial (by simp)) (.inl rfl)) <|
    .cons (o_as rfl rfl .no rfl) <|
    .nil rfl
  ) ?_)
  refine cw_seq ?_
  obtain ⟨o13, hj14, h15⟩ := bind_some h9
  refine cw_join (fun (z : Bool) => St.of [(0, .d (eSapiPair a0)), (1, .d (eSwainscotlaw12Op a1)), (6, .arr 0 0), (7, .d (.at (eviewPlain x7.1))), (28, .d (ebool z))] [(0, .arr 0 25 (x7.2.map eapiPair))]) (fun (z : Bool) => o13 = z) ?_ ?_
  · intro v2138 hv2139; subst hv2139
    rcases cond_some h15 with ⟨hc19, h20⟩ | ⟨hc19, h21⟩
    · refine cw_condT rfl hc19 ?_
      refine cw_seq (cw_region (
        .cons (o_as rfl rfl .no rfl) <|
        .nil rfl
      ) ?_)
      have heq := ((Option.some.inj h20).symm).symm
      subst heq
      exact cw_ret ⟨_, (show Leads _ _ (St.of [(4, .d (ebool false))] []) from .w (weak_of ⟨⟨_, rfl, .d rfl⟩, trivial⟩ trivial drop0)), .inr rfl, _, res1 rfl rfl, rfl, rfl⟩
    · refine cw_condF rfl hc19 ?_
      refine cw_skip ?_
      obtain ⟨o46, hj47, h48⟩ := bind_some h21
      refine cw_join (fun (z : Unit) => St.of [(0, .d (eSapiPair a0)), (1, .d (eSwainscotlaw12Op a1)), (7, .d (.at (eviewPlain x7.1)))] []) (fun (z : Unit) => o46 = z) ?_ ?_
      · intro v2136 hv2137; subst hv2137
        obtain ⟨x73, hx74, h75⟩ := bind_some (x := view_New x7.1) h48
        refine cw_seq (cw_region (
          .cons (o_mv rfl rfl .no rfl) <|
          .cons (o_mkif rfl rfl .no rfl ifB26) <|
          .cons (o_callO 1 rfl rfl .no Tryz.func7 rfl rfl (view_New_ok hx74) (.cons rfl .i .nil) ⟨(by simp [AV.live]), trivial⟩ rfl (.inl rfl)) <|
          .cons (o_as rfl rfl .no rfl) <|
          .nil rfl
        ) ?_)
        obtain ⟨x76, hx77, h78⟩ := bind_some (x := ref12_New_a x4) h75
        refine cw_seq (cw_region (
          .cons (o_mv rfl rfl .no rfl) <|
          .cons (o_callO 2 rfl rfl .no Tryz.func5 rfl rfl (law12_cut_ok hx5) (.cons rfl .d .nil) ⟨trivial, trivial⟩ rfl (.inl rfl)) <|
          .cons (o_callX (fun n => bif Nat.beq n 0 then 2 else 3) rfl rfl .no Tryz.func8 rfl rfl (ref12_New_a_ok hx77 0) (.cons rfl (.a rfl) .nil) (callIn1N rfl ⟨(by simp [AV.live, lk, Nat.beq]), trivial⟩ (by decide) rfl trivial rfl (by simp)) (.inl rfl)) <|
          .cons (o_as rfl rfl .no rfl) <|
          .nil rfl
        ) ?_)
        refine cw_seq ?_
        refine cw_leads (leads_open (o := 3) (y := .st [.d (eSapiPair x76.1.1), .d (eSapiChange x76.1.2.1), .d (eSapiSpan x76.1.2.2.1), .d (eSSapiChange x76.1.2.2.2)]) (news := []) rfl (.st (.cons (.av rfl) (.cons (.av rfl) (.cons (.av rfl) (.cons (.av rfl) .nil))))) rfl rfl trivial) ?_
        refine cw_weak (weak_of (l := [(1, .d (eSwainscotlaw12Op a1)), (7, .d (.at (eviewPlain x7.1))), (9, .ptr 1 0), (10, .ptr 3 0)]) (m := [(1, .own (oviewView x73)), (3, .box (.st [.d (eSapiPair x76.1.1), .d (eSapiChange x76.1.2.1), .d (eSapiSpan x76.1.2.2.1), .d (eSSapiChange x76.1.2.2.2)]))]) ⟨⟨_, rfl, .d rfl⟩, ⟨_, rfl, .d rfl⟩, ⟨_, rfl, .ptro rfl rfl⟩, ⟨_, rfl, .ptr rfl rfl⟩, trivial⟩ ⟨.own rfl (.of_eq rfl (oviewView_dat _)), .box rfl (.st (.cons (.d rfl) (.cons (.d rfl) (.cons (.d rfl) (.cons (.d rfl) .nil))))), trivial⟩ drop0) ?_
        obtain ⟨x82, hx83, h84⟩ := bind_some (x := view_Plain_Len x7.1) h78
        refine cw_seq (cw_region_any mixed (by kernel_rfl) (
          .cons (o_mv rfl rfl .no rfl) <|
          .cons (o_pnilP rfl rfl .no rfl up32) <|
          .cons (o_mv rfl rfl .no rfl) <|
          .cons (o_mv rfl rfl (.yes rfl rfl rfl) rfl) <|
          .cons (o_call rfl rfl (.yes rfl rfl rfl) Tryz.func9 rfl rfl (view_Plain_Len_ok hx83) (.cons rfl .d .nil) ⟨trivial, trivial⟩ (.inl rfl)) <|
          .cons (o_mv rfl rfl (.yes rfl rfl rfl) rfl) <|
          .cons (o_nilP rfl rfl (.yes rfl rfl rfl) rfl) <|
          .cons (o_fldP rfl rfl (.yes rfl rfl rfl) rfl fld41_0 (by decide)) <|
          .cons (o_ldP [0] rfl rfl (.yes rfl rfl rfl) rfl rfl rfl ta22 rfl rfl) <|
          .cons (o_lenM (enc := eapiPair) (xs := x76.1.1) rfl rfl (.yes rfl rfl rfl) rfl sl22) <|
          .cons (o_bin rfl rfl (.yes rfl rfl rfl) rfl rfl (b_neq _ _) rfl) <|
          .cons (o_pickF rfl rfl .no rfl rfl rfl) <|
          .nil rfl
        ) (by kernel_rfl) ?_)
        rcases cond_some h84 with ⟨hc85, h86⟩ | ⟨hc85, h87⟩
        · refine cw_condT rfl hc85 ?_
          refine cw_seq (cw_region (
            .cons (o_as rfl rfl .no rfl) <|
            .nil rfl
          ) ?_)
          have heq := ((Option.some.inj h86).symm).symm
          subst heq
          exact cw_ret ⟨_, (show Leads _ _ (St.of [(4, .d (ebool false))] []) from .w (weak_of ⟨⟨_, rfl, .d rfl⟩, trivial⟩ trivial drop0)), .inr rfl, _, res1 rfl rfl, rfl, rfl⟩
        · refine cw_condF rfl hc85 ?_
          refine cw_skip ?_
          obtain ⟨o1108, hj1109, h1110⟩ := bind_some h87
          refine cw_join (fun (z : Unit) => St.of [] []) (fun (z : Unit) => o1108 = (.inl z)) ?_ ?_
          · intro v2132 hv2134; subst hv2134
            simp only [Sum.elim_inl] at h1110
            refine cw_seq (cw_region (
              .cons (o_as rfl rfl .no rfl) <|
              .nil rfl
            ) ?_)
            have heq := ((Option.some.inj h1110).symm).symm
            subst heq
            exact cw_ret ⟨_, (show Leads _ _ (St.of [(4, .d (ebool true))] []) from .w (weak_of ⟨⟨_, rfl, .d rfl⟩, trivial⟩ trivial drop0)), .inr rfl, _, res1 rfl rfl, rfl, rfl⟩
          · skip
            refine cw_seq (cw_region (
              .cons (o_as rfl rfl .no rfl) <|
              .nil rfl
            ) ?_)
            refine cw_block ?_
            refine cw_while (V := (Int × ((List ((List UInt8) × ByteArray)) × (List ((List UInt8) × ((List UInt8) × ByteArray × Bool))) × (List ((List UInt8) × (List UInt8) × Bool)) × (List (List ((List UInt8) × ((List UInt8) × ByteArray × Bool))))) × ((List ((List UInt8) × ByteArray)) × (List ((List UInt8) × ByteArray × Bool)) × (List ((List UInt8) × (List UInt8) × Bool)) × (List (List ((List UInt8) × ByteArray × Bool)))))) (O := (Unit ⊕ Bool)) (fun (z : (Int × ((List ((List UInt8) × ByteArray)) × (List ((List UInt8) × ((List UInt8) × ByteArray × Bool))) × (List ((List UInt8) × (List UInt8) × Bool)) × (List (List ((List UInt8) × ((List UInt8) × ByteArray × Bool))))) × ((List ((List UInt8) × ByteArray)) × (List ((List UInt8) × ByteArray × Bool)) × (List ((List UInt8) × (List UInt8) × Bool)) × (List (List ((List UInt8) × ByteArray × Bool)))))) => St.of [(1, .d (eSwainscotlaw12Op a1)), (9, .ptr 1 0), (10, .ptr 3 0), (11, .d (eint z.1))] [(1, .own (oviewView z.2.1)), (3, .own (owainscotref12View z.2.2))]) hj1109 (.trans (leads_pack (o := 3) (y := .st [.d (eSapiPair x76.1.1), .d (eSapiChange x76.1.2.1), .d (eSapiSpan x76.1.2.2.1), .d (eSSapiChange x76.1.2.2.2)]) (x := owainscotref12View (x76.1.1, x76.1.2.1, x76.1.2.2.1, x76.1.2.2.2)) (l := [(1, .d (eSwainscotlaw12Op a1)), (9, .ptr 1 0), (10, .ptr 3 0), (11, .d (eint 0))]) (m := [(1, .own (oviewView x73)), (3, .own (owainscotref12View (x76.1.1, x76.1.2.1, x76.1.2.2.1, x76.1.2.2.2)))]) rfl (.st (.cons (.av rfl) (.cons (.av rfl) (.cons (.av rfl) (.cons (.av rfl) .nil))))) rfl rfl ⟨⟨rfl, trivial⟩, ⟨rfl, (by simp [AV.live, AV.lives, lk, Nat.beq])⟩, ⟨rfl, (by simp [AV.live, AV.lives, lk, Nat.beq])⟩, ⟨rfl, trivial⟩, trivial⟩ ⟨(.inr ⟨rfl, (OD.dat_live (oviewView_dat _))⟩), .inl rfl, trivial⟩ rfl (OD.dat_live (owainscotref12View_dat _)) trivial drop0) (.w (weak_of ⟨⟨_, rfl, .d rfl⟩, ⟨_, rfl, .ptro rfl rfl⟩, ⟨_, rfl, .ptro rfl rfl⟩, ⟨_, rfl, .d rfl⟩, trivial⟩ ⟨.own rfl (.of_eq rfl (oviewView_dat _)), .own rfl (.of_eq rfl (owainscotref12View_dat _)), trivial⟩ drop0))) ?_
            intro v1789 x1790 hb1791 hx1792
            refine cw_seq ?_
            obtain ⟨o1796, hj1797, h1798⟩ := bind_some hb1791
            refine cw_join (fun (z : Bool) => St.of [(1, .d (eSwainscotlaw12Op a1)), (9, .ptr 1 0), (10, .ptr 3 0), (11, .d (eint v1789.1)), (64, .d (ebool z))] [(1, .own (oviewView v1789.2.1)), (3, .own (owainscotref12View v1789.2.2))]) (fun (z : Bool) => o1796 = z) ?_ ?_
            · intro v2130 hv2131; subst hv2131
              rcases cond_some h1798 with ⟨hc1802, h1803⟩ | ⟨hc1802, h1804⟩
              · refine cw_condT rfl hc1802 ?_
                refine cw_skip ?_
                obtain ⟨o1963, hj1964, h1965⟩ := bind_some h1803
                refine cw_join (fun (z : (((List ((List UInt8) × ByteArray)) × (List ((List UInt8) × ((List UInt8) × ByteArray × Bool))) × (List ((List UInt8) × (List UInt8) × Bool)) × (List (List ((List UInt8) × ((List UInt8) × ByteArray × Bool))))) × ((List ((List UInt8) × ByteArray)) × (List ((List UInt8) × ByteArray × Bool)) × (List ((List UInt8) × (List UInt8) × Bool)) × (List (List ((List UInt8) × ByteArray × Bool)))))) => St.of [(1, .d (eSwainscotlaw12Op a1)), (9, .ptr 1 0), (10, .ptr 3 0), (11, .d (eint v1789.1))] [(1, .own (oviewView z.1)), (3, .own (owainscotref12View z.2))]) (fun (z : (((List ((List UInt8) × ByteArray)) × (List ((List UInt8) × ((List UInt8) × ByteArray × Bool))) × (List ((List UInt8) × (List UInt8) × Bool)) × (List (List ((List UInt8) × ((List UInt8) × ByteArray × Bool))))) × ((List ((List UInt8) × ByteArray)) × (List ((List UInt8) × ByteArray × Bool)) × (List ((List UInt8) × (List UInt8) × Bool)) × (List (List ((List UInt8) × ByteArray × Bool)))))) => o1963 = (.inl z)) ?_ ?_
                · intro v2126 hv2128; subst hv2128
                  simp only [Sum.elim_inl] at h1965
                  refine cw_region (
                    .cons (o_mv rfl rfl .no rfl) <|
                    .cons (o_bin rfl rfl .no rfl rfl (b_add _ _) rfl) <|
                    .cons (o_as rfl rfl .no rfl) <|
                    .nil rfl
                  ) ?_
                  exact ⟨((IntKind.wrap .i64 (v1789.1 + 1)), v2126.1, v2126.2), (Option.some.inj h1965).symm, .w (weak_of ⟨⟨_, rfl, .d rfl⟩, ⟨_, rfl, .ptro rfl rfl⟩, ⟨_, rfl, .ptro rfl rfl⟩, ⟨_, rfl, .d rfl⟩, trivial⟩ ⟨.own rfl (.of_eq rfl (oviewView_dat _)), .own rfl (.of_eq rfl (owainscotref12View_dat _)), trivial⟩ drop0)⟩
                · skip
                  refine cw_block ?_
                  obtain ⟨x1966, hx1967, h1968⟩ := bind_some hj1964
                  have hx1967g := gx_some hx1967
                  obtain ⟨x1969, hx1970, h1971⟩ := bind_some (x := law12_same v1789.2.1 v1789.2.2 x1966) h1968
                  refine cw_seq (cw_region (
                    .cons (o_mv rfl rfl .no rfl) <|
                    .cons (o_mv rfl rfl .no rfl) <|
                    .cons (o_mv rfl rfl .no rfl) <|
                    .cons (o_mv rfl rfl .no rfl) <|
                    .cons (o_ixM (enc := ewainscotlaw12Op) (xs := a1) rfl rfl .no rfl rfl sl23 sz46 hx1967g.1 hx1967g.2) <|
                    .cons (o_ld rfl rfl .no rfl ta46 rfl rfl) <|
                    .cons (o_callX (fun n => bif Nat.beq n 0 then 1 else 3) rfl rfl .no Tryz.func10 rfl rfl (law12_same_ok hx1970) (.cons rfl (.p rfl) (.cons rfl (.p rfl) (.cons rfl .d .nil))) (callIn2 rfl ⟨(by simp [AV.live, lk, Nat.beq]), (by simp [AV.live, lk, Nat.beq]), trivial, trivial⟩ (by decide) rfl (OD.dat_live (oviewView_dat _)) rfl (OD.dat_live (owainscotref12View_dat _)) (by simp)) (.inl rfl)) <|
                    .cons (o_as rfl rfl .no rfl) <|
                    .nil rfl
                  ) ?_)
                  obtain ⟨x1972, hx1973, h1974⟩ := bind_some (x := view_View_Reads x1969.2.1) h1971
                  refine cw_seq (cw_region (
                    .cons (o_mv rfl rfl .no rfl) <|
                    .cons (o_callX (fun n => bif Nat.beq n 0 then 1 else 4) rfl rfl .no Tryz.func11 rfl rfl (view_View_Reads_ok hx1973) (.cons rfl (.p rfl) .nil) (callIn1N rfl ⟨(by simp [AV.live, lk, Nat.beq]), trivial⟩ (by decide) rfl (OD.dat_live (oviewView_dat _)) rfl (by simp)) (.inl rfl)) <|
                    .cons (o_as rfl rfl .no rfl) <|
                    .nil rfl
                  ) ?_)
                  obtain ⟨x1975, hx1976, h1977⟩ := bind_some (x := view_View_Changes x1972.2) h1974
                  refine cw_seq (cw_region (
                    .cons (o_mv rfl rfl .no rfl) <|
                    .cons (o_callX (fun n => bif Nat.beq n 0 then 1 else 5) rfl rfl .no Tryz.func12 rfl rfl (view_View_Changes_ok hx1976) (.cons rfl (.p rfl) .nil) (callIn1N rfl ⟨(by simp [AV.live, lk, Nat.beq]), trivial⟩ (by decide) rfl (OD.dat_live (oviewView_dat _)) rfl (by simp)) (.inl rfl)) <|
                    .cons (o_as rfl rfl .no rfl) <|
                    .nil rfl
                  ) ?_)
                  refine cw_leads (leads_open (o := 3) (y := .st [.d (eSapiPair x1969.2.2.1), .d (eSapiChange x1969.2.2.2.1), .d (eSapiSpan x1969.2.2.2.2.1), .d (eSSapiChange x1969.2.2.2.2.2)]) (news := []) rfl (.st (.cons (.av rfl) (.cons (.av rfl) (.cons (.av rfl) (.cons (.av rfl) .nil))))) rfl rfl trivial) ?_
                  refine cw_weak (weak_of (l := [(1, .d (eSwainscotlaw12Op a1)), (9, .ptr 1 0), (10, .ptr 3 0), (11, .d (eint v1789.1)), (12, .d (ebool x1969.1)), (13, .arr 4 0), (14, .arr 5 0)]) (m := [(1, .own (oviewView x1975.2)), (3, .box (.st [.d (eSapiPair x1969.2.2.1), .d (eSapiChange x1969.2.2.2.1), .d (eSapiSpan x1969.2.2.2.2.1), .d (eSSapiChange x1969.2.2.2.2.2)])), (4, .arr 0 49 (x1972.1.map eapiSpan)), (5, .arr 0 26 (x1975.1.map eapiChange))]) ⟨⟨_, rfl, .d rfl⟩, ⟨_, rfl, .ptro rfl rfl⟩, ⟨_, rfl, .ptr rfl rfl⟩, ⟨_, rfl, .d rfl⟩, ⟨_, rfl, .d rfl⟩, ⟨_, rfl, .arr rfl rfl⟩, ⟨_, rfl, .arr rfl rfl⟩, trivial⟩ ⟨.own rfl (.of_eq rfl (oviewView_dat _)), .box rfl (.st (.cons (.d rfl) (.cons (.d rfl) (.cons (.d rfl) (.cons (.d rfl) .nil))))), .arr rfl rfl, .arr rfl rfl, trivial⟩ drop0) ?_
                  obtain ⟨o1990, hj1991, h1992⟩ := bind_some h1977
                  refine cw_join (fun (z : Bool) => St.of [(1, .d (eSwainscotlaw12Op a1)), (9, .ptr 1 0), (10, .ptr 3 0), (11, .d (eint v1789.1)), (12, .d (ebool x1969.1)), (13, .arr 4 0), (14, .arr 5 0), (15, .d (ebool z))] [(1, .own (oviewView x1975.2)), (3, .own (owainscotref12View (x1969.2.2.1, x1969.2.2.2.1, x1969.2.2.2.2.1, x1969.2.2.2.2.2))), (4, .arr 0 49 (x1972.1.map eapiSpan)), (5, .arr 0 26 (x1975.1.map eapiChange))]) (fun (z : Bool) => o1990 = z) ?_ ?_
                  · intro v2124 hv2125; subst hv2125
                    obtain ⟨o2026, hj2027, h2028⟩ := bind_some h1992
                    refine cw_join (fun (z : Unit) => St.of [(1, .d (eSwainscotlaw12Op a1)), (9, .ptr 1 0), (10, .ptr 3 0), (11, .d (eint v1789.1)), (12, .d (ebool x1969.1)), (14, .arr 5 0), (15, .d (ebool o1990))] [(1, .own (oviewView x1975.2)), (3, .own (owainscotref12View (x1969.2.2.1, x1969.2.2.2.1, x1969.2.2.2.2.1, x1969.2.2.2.2.2))), (5, .arr 0 26 (x1975.1.map eapiChange))]) (fun (z : Unit) => o2026 = z) ?_ ?_
                    · intro v2122 hv2123; subst hv2123
                      obtain ⟨o2077, hj2078, h2079⟩ := bind_some h2028
                      refine cw_join (fun (z : Unit) => St.of [(1, .d (eSwainscotlaw12Op a1)), (9, .ptr 1 0), (10, .ptr 3 0), (11, .d (eint v1789.1)), (12, .d (ebool x1969.1)), (15, .d (ebool o1990))] [(1, .own (oviewView x1975.2)), (3, .own (owainscotref12View (x1969.2.2.1, x1969.2.2.2.1, x1969.2.2.2.2.1, x1969.2.2.2.2.2)))]) (fun (z : Unit) => o2077 = z) ?_ ?_
                      · intro v2120 hv2121; subst hv2121
                        obtain ⟨o2107, hj2108, h2109⟩ := bind_some h2079
                        refine cw_join (fun (z : Bool) => St.of [(1, .d (eSwainscotlaw12Op a1)), (9, .ptr 1 0), (10, .ptr 3 0), (11, .d (eint v1789.1)), (129, .d (ebool z))] [(1, .own (oviewView x1975.2)), (3, .own (owainscotref12View (x1969.2.2.1, x1969.2.2.2.1, x1969.2.2.2.2.1, x1969.2.2.2.2.2)))]) (fun (z : Bool) => o2107 = z) ?_ ?_
                        · intro v2118 hv2119; subst hv2119
                          rcases cond_some h2109 with ⟨hc2113, h2114⟩ | ⟨hc2113, h2115⟩
                          · refine cw_condT rfl hc2113 ?_
                            refine cw_seq (cw_region (
                              .cons (o_as rfl rfl .no rfl) <|
                              .nil rfl
                            ) ?_)
                            have he2116 := ((Option.some.inj h2114).symm).symm
                            subst he2116
                            have he2117 := ((hx1792 _ (Option.some.inj h1965).symm).symm).symm
                            subst he2117
                            have heq := ((Option.some.inj h1110).symm).symm
                            subst heq
                            exact cw_ret ⟨_, (show Leads _ _ (St.of [(4, .d (ebool false))] []) from .w (weak_of ⟨⟨_, rfl, .d rfl⟩, trivial⟩ trivial drop0)), .inr rfl, _, res1 rfl rfl, rfl, rfl⟩
                          · refine cw_condF rfl hc2113 ?_
                            refine cw_skip ?_
                            exact ⟨(x1975.2, (x1969.2.2.1, x1969.2.2.2.1, x1969.2.2.2.2.1, x1969.2.2.2.2.2)), (Option.some.inj h2115).symm, .w (weak_of ⟨⟨_, rfl, .d rfl⟩, ⟨_, rfl, .ptro rfl rfl⟩, ⟨_, rfl, .ptro rfl rfl⟩, ⟨_, rfl, .d rfl⟩, trivial⟩ ⟨.own rfl (.of_eq rfl (oviewView_dat _)), .own rfl (.of_eq rfl (owainscotref12View_dat _)), trivial⟩ drop0)⟩
                        · skip
                          rcases cond_some hj2108 with ⟨hc2110, h2111⟩ | ⟨hc2110, h2112⟩
                          · skip
                            refine cw_region (
                              .cons (o_mv rfl rfl .no rfl) <|
                              .cons (o_not rfl rfl .no rfl) <|
                              .cons (o_mv rfl rfl .no rfl) <|
                              .cons (o_noT rfl rfl rfl rfl hc2110) <|
                              .cons (o_noT rfl rfl rfl rfl hc2110) <|
                              .cons (o_pickT rfl rfl .no rfl hc2110 rfl) <|
                              .nil rfl
                            ) ?_
                            exact ⟨true, (Option.some.inj h2111).symm, .w (weak_of ⟨⟨_, rfl, .d rfl⟩, ⟨_, rfl, .ptro rfl rfl⟩, ⟨_, rfl, .ptro rfl rfl⟩, ⟨_, rfl, .d rfl⟩, ⟨_, rfl, .d rfl⟩, trivial⟩ ⟨.own rfl (.of_eq rfl (oviewView_dat _)), .own rfl (.of_eq rfl (owainscotref12View_dat _)), trivial⟩ drop0)⟩
                          · skip
                            refine cw_region (
                              .cons (o_mv rfl rfl .no rfl) <|
                              .cons (o_not rfl rfl .no rfl) <|
                              .cons (o_mv rfl rfl .no rfl) <|
                              .cons (o_mv rfl rfl (.yes rfl rfl hc2110) rfl) <|
                              .cons (o_not rfl rfl (.yes rfl rfl hc2110) rfl) <|
                              .cons (o_pickF rfl rfl .no rfl hc2110 rfl) <|
                              .nil rfl
                            ) ?_
                            exact ⟨(!o1990), (Option.some.inj h2112).symm, .w (weak_of ⟨⟨_, rfl, .d rfl⟩, ⟨_, rfl, .ptro rfl rfl⟩, ⟨_, rfl, .ptro rfl rfl⟩, ⟨_, rfl, .d rfl⟩, ⟨_, rfl, .d rfl⟩, trivial⟩ ⟨.own rfl (.of_eq rfl (oviewView_dat _)), .own rfl (.of_eq rfl (owainscotref12View_dat _)), trivial⟩ drop0)⟩
                      · skip
                        refine cw_seq (cw_region (
                          .cons (o_as rfl rfl .no rfl) <|
                          .nil rfl
                        ) ?_)
                        refine cw_block ?_
                        refine cw_while (V := (Int × (List ((List UInt8) × ByteArray × Bool)))) (O := Unit) (fun (z : (Int × (List ((List UInt8) × ByteArray × Bool)))) => St.of [(1, .d (eSwainscotlaw12Op a1)), (9, .ptr 1 0), (10, .ptr 3 0), (11, .d (eint v1789.1)), (12, .d (ebool x1969.1)), (14, .arr 5 0), (15, .d (ebool o1990)), (17, .d (eint z.1))] [(1, .own (oviewView x1975.2)), (3, .own (owainscotref12View (x1969.2.2.1, x1969.2.2.2.1, x1969.2.2.2.2.1, x1969.2.2.2.2.2))), (5, .arr 0 26 (z.2.map eapiChange))]) hj2078 (.w (weak_of ⟨⟨_, rfl, .d rfl⟩, ⟨_, rfl, .ptro rfl rfl⟩, ⟨_, rfl, .ptro rfl rfl⟩, ⟨_, rfl, .d rfl⟩, ⟨_, rfl, .d rfl⟩, ⟨_, rfl, .arr rfl rfl⟩, ⟨_, rfl, .d rfl⟩, ⟨_, rfl, .d rfl⟩, trivial⟩ ⟨.own rfl (.of_eq rfl (oviewView_dat _)), .own rfl (.of_eq rfl (owainscotref12View_dat _)), .arr rfl rfl, trivial⟩ drop0)) ?_
                        intro v2094 x2095 hb2096 hx2097
                        refine cw_seq ?_
                        refine cw_seq (cw_region (
                          .cons (o_mv rfl rfl .no rfl) <|
                          .cons (o_mv rfl rfl .no rfl) <|
                          .cons (o_lenAM (enc := eapiChange) (xs := v2094.2) rfl rfl .no rfl rfl sl37) <|
                          .cons (o_bin rfl rfl .no rfl rfl (b_lss _ _) rfl) <|
                          .nil rfl
                        ) ?_)
                        rcases cond_some hb2096 with ⟨hc2098, h2099⟩ | ⟨hc2098, h2100⟩
                        · refine cw_condT rfl hc2098 ?_
                          refine cw_skip ?_
                          refine cw_seq ?_
                          refine cw_block ?_
                          obtain ⟨x2101, hx2102, h2103⟩ := bind_some h2099
                          have hx2102g := gx_some hx2102
                          refine cw_region (
                            .cons (o_mv rfl rfl .no rfl) <|
                            .cons (o_mv rfl rfl .no rfl) <|
                            .cons (o_mv rfl rfl .no rfl) <|
                            .cons (o_mv rfl rfl .no rfl) <|
                            .cons (o_ixAM (enc := eapiChange) (xs := v2094.2) rfl rfl .no rfl rfl rfl sl37 sz52 hx2102g.1 hx2102g.2) <|
                            .cons (o_fldE rfl rfl .no rfl rfl fld52_2 (by decide)) <|
                            .cons (o_ldEM (enc := eapiChange) (xs := v2094.2) (r := x2101) [2] rfl rfl .no rfl rfl hx2102g.2 rfl ta4 rfl rfl) <|
                            .cons (o_not rfl rfl .no rfl) <|
                            .cons (o_ixAM (enc := eapiChange) (xs := v2094.2) rfl rfl .no rfl rfl rfl sl37 sz52 hx2102g.1 hx2102g.2) <|
                            .cons (o_fldE rfl rfl .no rfl rfl fld52_2 (by decide)) <|
                            .cons (o_stEPM (enc := eapiChange) (xs := v2094.2) (y := (x2101.1, x2101.2.1, (!x2101.2.2))) (r := x2101) [2] rfl .no rfl rfl rfl hx2102g.2 rfl rfl sz4 rfl rfl (siapiChange _)) <|
                            .nil rfl
                          ) ?_
                          refine cw_region (
                            .cons (o_mv rfl rfl .no rfl) <|
                            .cons (o_bin rfl rfl .no rfl rfl (b_add _ _) rfl) <|
                            .cons (o_as rfl rfl .no rfl) <|
                            .nil rfl
                          ) ?_
                          exact ⟨((IntKind.wrap .i64 (v2094.1 + 1)), (List.set v2094.2 v2094.1.toNat (x2101.1, x2101.2.1, (!x2101.2.2)))), (Option.some.inj h2103).symm, .w (weak_of ⟨⟨_, rfl, .d rfl⟩, ⟨_, rfl, .ptro rfl rfl⟩, ⟨_, rfl, .ptro rfl rfl⟩, ⟨_, rfl, .d rfl⟩, ⟨_, rfl, .d rfl⟩, ⟨_, rfl, .arr rfl rfl⟩, ⟨_, rfl, .d rfl⟩, ⟨_, rfl, .d rfl⟩, trivial⟩ ⟨.own rfl (.of_eq rfl (oviewView_dat _)), .own rfl (.of_eq rfl (owainscotref12View_dat _)), .arr rfl rfl, trivial⟩ drop0)⟩
                        · refine cw_condF rfl hc2098 ?_
                          refine cw_exit ?_
                          exact ⟨(), (hx2097 _ (Option.some.inj h2100).symm).symm, .w (weak_of ⟨⟨_, rfl, .d rfl⟩, ⟨_, rfl, .ptro rfl rfl⟩, ⟨_, rfl, .ptro rfl rfl⟩, ⟨_, rfl, .d rfl⟩, ⟨_, rfl, .d rfl⟩, ⟨_, rfl, .d rfl⟩, trivial⟩ ⟨.own rfl (.of_eq rfl (oviewView_dat _)), .own rfl (.of_eq rfl (owainscotref12View_dat _)), trivial⟩ drop0)⟩
                    · skip
                      refine cw_seq (cw_region (
                        .cons (o_as rfl rfl .no rfl) <|
                        .nil rfl
                      ) ?_)
                      refine cw_block ?_
                      refine cw_while (V := (Int × (List ((List UInt8) × (List UInt8) × Bool)))) (O := Unit) (fun (z : (Int × (List ((List UInt8) × (List UInt8) × Bool)))) => St.of [(1, .d (eSwainscotlaw12Op a1)), (9, .ptr 1 0), (10, .ptr 3 0), (11, .d (eint v1789.1)), (12, .d (ebool x1969.1)), (13, .arr 4 0), (14, .arr 5 0), (15, .d (ebool o1990)), (16, .d (eint z.1))] [(1, .own (oviewView x1975.2)), (3, .own (owainscotref12View (x1969.2.2.1, x1969.2.2.2.1, x1969.2.2.2.2.1, x1969.2.2.2.2.2))), (4, .arr 0 49 (z.2.map eapiSpan)), (5, .arr 0 26 (x1975.1.map eapiChange))]) hj2027 (.w (weak_of ⟨⟨_, rfl, .d rfl⟩, ⟨_, rfl, .ptro rfl rfl⟩, ⟨_, rfl, .ptro rfl rfl⟩, ⟨_, rfl, .d rfl⟩, ⟨_, rfl, .d rfl⟩, ⟨_, rfl, .arr rfl rfl⟩, ⟨_, rfl, .arr rfl rfl⟩, ⟨_, rfl, .d rfl⟩, ⟨_, rfl, .d rfl⟩, trivial⟩ ⟨.own rfl (.of_eq rfl (oviewView_dat _)), .own rfl (.of_eq rfl (owainscotref12View_dat _)), .arr rfl rfl, .arr rfl rfl, trivial⟩ drop0)) ?_
                      intro v2043 x2044 hb2045 hx2046
                      refine cw_seq ?_
                      refine cw_seq (cw_region (
                        .cons (o_mv rfl rfl .no rfl) <|
                        .cons (o_mv rfl rfl .no rfl) <|
                        .cons (o_lenAM (enc := eapiSpan) (xs := v2043.2) rfl rfl .no rfl rfl sl38) <|
                        .cons (o_bin rfl rfl .no rfl rfl (b_lss _ _) rfl) <|
                        .nil rfl
                      ) ?_)
                      rcases cond_some hb2045 with ⟨hc2047, h2048⟩ | ⟨hc2047, h2049⟩
                      · refine cw_condT rfl hc2047 ?_
                        refine cw_skip ?_
                        refine cw_seq ?_
                        refine cw_block ?_
                        obtain ⟨x2050, hx2051, h2052⟩ := bind_some h2048
                        have hx2051g := gx_some hx2051
                        refine cw_region (
                          .cons (o_mv rfl rfl .no rfl) <|
                          .cons (o_mv rfl rfl .no rfl) <|
                          .cons (o_mv rfl rfl .no rfl) <|
                          .cons (o_mv rfl rfl .no rfl) <|
                          .cons (o_ixAM (enc := eapiSpan) (xs := v2043.2) rfl rfl .no rfl rfl rfl sl38 sz44 hx2051g.1 hx2051g.2) <|
                          .cons (o_fldE rfl rfl .no rfl rfl fld44_2 (by decide)) <|
                          .cons (o_ldEM (enc := eapiSpan) (xs := v2043.2) (r := x2050) [2] rfl rfl .no rfl rfl hx2051g.2 rfl ta4 rfl rfl) <|
                          .cons (o_not rfl rfl .no rfl) <|
                          .cons (o_ixAM (enc := eapiSpan) (xs := v2043.2) rfl rfl .no rfl rfl rfl sl38 sz44 hx2051g.1 hx2051g.2) <|
                          .cons (o_fldE rfl rfl .no rfl rfl fld44_2 (by decide)) <|
                          .cons (o_stEPM (enc := eapiSpan) (xs := v2043.2) (y := (x2050.1, x2050.2.1, (!x2050.2.2))) (r := x2050) [2] rfl .no rfl rfl rfl hx2051g.2 rfl rfl sz4 rfl rfl (siapiSpan _)) <|
                          .nil rfl
                        ) ?_
                        refine cw_region (
                          .cons (o_mv rfl rfl .no rfl) <|
                          .cons (o_bin rfl rfl .no rfl rfl (b_add _ _) rfl) <|
                          .cons (o_as rfl rfl .no rfl) <|
                          .nil rfl
                        ) ?_
                        exact ⟨((IntKind.wrap .i64 (v2043.1 + 1)), (List.set v2043.2 v2043.1.toNat (x2050.1, x2050.2.1, (!x2050.2.2)))), (Option.some.inj h2052).symm, .w (weak_of ⟨⟨_, rfl, .d rfl⟩, ⟨_, rfl, .ptro rfl rfl⟩, ⟨_, rfl, .ptro rfl rfl⟩, ⟨_, rfl, .d rfl⟩, ⟨_, rfl, .d rfl⟩, ⟨_, rfl, .arr rfl rfl⟩, ⟨_, rfl, .arr rfl rfl⟩, ⟨_, rfl, .d rfl⟩, ⟨_, rfl, .d rfl⟩, trivial⟩ ⟨.own rfl (.of_eq rfl (oviewView_dat _)), .own rfl (.of_eq rfl (owainscotref12View_dat _)), .arr rfl rfl, .arr rfl rfl, trivial⟩ drop0)⟩
                      · refine cw_condF rfl hc2047 ?_
                        refine cw_exit ?_
                        exact ⟨(), (hx2046 _ (Option.some.inj h2049).symm).symm, .w (weak_of ⟨⟨_, rfl, .d rfl⟩, ⟨_, rfl, .ptro rfl rfl⟩, ⟨_, rfl, .ptro rfl rfl⟩, ⟨_, rfl, .d rfl⟩, ⟨_, rfl, .d rfl⟩, ⟨_, rfl, .arr rfl rfl⟩, ⟨_, rfl, .d rfl⟩, trivial⟩ ⟨.own rfl (.of_eq rfl (oviewView_dat _)), .own rfl (.of_eq rfl (owainscotref12View_dat _)), .arr rfl rfl, trivial⟩ drop0)⟩
                  · skip
                    obtain ⟨x1993, hx1994, h1995⟩ := bind_some (x := ref08_Same x1972.1 x1969.2.2.2.2.1) hj1991
                    rcases cond_some h1995 with ⟨hc1996, h1997⟩ | ⟨hc1996, h1998⟩
                    · skip
                      obtain ⟨x1999, hx2000, h2001⟩ := bind_some (x := ref09_SameChanges x1975.1 x1969.2.2.2.1) h1997
                      refine cw_region (
                        .cons (o_mv rfl rfl .no rfl) <|
                        .cons (o_mv rfl rfl .no rfl) <|
                        .cons (o_nilP rfl rfl .no rfl) <|
                        .cons (o_fldP rfl rfl .no rfl fld41_2 (by decide)) <|
                        .cons (o_ldP [2] rfl rfl .no rfl rfl rfl ta38 rfl rfl) <|
                        .cons (o_call rfl rfl .no Tryz.func13 rfl rfl (ref08_Same_ok hx1994) (.cons rfl (.arrM rfl) (.cons rfl .d .nil)) ⟨trivial, trivial, trivial⟩ (.inr (DFlat.v _))) <|
                        .cons (o_mv rfl rfl .no rfl) <|
                        .cons (o_mv rfl rfl (.yes rfl rfl hc1996) rfl) <|
                        .cons (o_mv rfl rfl (.yes rfl rfl hc1996) rfl) <|
                        .cons (o_nilP rfl rfl (.yes rfl rfl hc1996) rfl) <|
                        .cons (o_fldP rfl rfl (.yes rfl rfl hc1996) rfl fld41_1 (by decide)) <|
                        .cons (o_ldP [1] rfl rfl (.yes rfl rfl hc1996) rfl rfl rfl ta37 rfl rfl) <|
                        .cons (o_call rfl rfl (.yes rfl rfl hc1996) Tryz.func14 rfl rfl (ref09_SameChanges_ok hx2000) (.cons rfl (.arrM rfl) (.cons rfl .d .nil)) ⟨trivial, trivial, trivial⟩ (.inr (DFlat.v _))) <|
                        .cons (o_pickT rfl rfl .no rfl hc1996 rfl) <|
                        .cons (o_as rfl rfl .no rfl) <|
                        .nil rfl
                      ) ?_
                      exact ⟨x1999, (Option.some.inj h2001).symm, .trans (leads_pack (o := 3) (y := .st [.d (eSapiPair x1969.2.2.1), .d (eSapiChange x1969.2.2.2.1), .d (eSapiSpan x1969.2.2.2.2.1), .d (eSSapiChange x1969.2.2.2.2.2)]) (x := owainscotref12View (x1969.2.2.1, x1969.2.2.2.1, x1969.2.2.2.2.1, x1969.2.2.2.2.2)) (l := [(1, .d (eSwainscotlaw12Op a1)), (9, .ptr 1 0), (10, .ptr 3 0), (11, .d (eint v1789.1)), (12, .d (ebool x1969.1)), (13, .arr 4 0), (14, .arr 5 0), (15, .d (ebool x1999))]) (m := [(1, .own (oviewView x1975.2)), (3, .own (owainscotref12View (x1969.2.2.1, x1969.2.2.2.1, x1969.2.2.2.2.1, x1969.2.2.2.2.2))), (4, .arr 0 49 (x1972.1.map eapiSpan)), (5, .arr 0 26 (x1975.1.map eapiChange))]) rfl (.st (.cons (.av rfl) (.cons (.av rfl) (.cons (.av rfl) (.cons (.av rfl) .nil))))) rfl rfl ⟨⟨rfl, trivial⟩, ⟨rfl, (by simp [AV.live, AV.lives, lk, Nat.beq])⟩, ⟨rfl, (by simp [AV.live, AV.lives, lk, Nat.beq])⟩, ⟨rfl, trivial⟩, ⟨rfl, trivial⟩, ⟨rfl, (by simp [AV.live, AV.lives, lk, Nat.beq])⟩, ⟨rfl, (by simp [AV.live, AV.lives, lk, Nat.beq])⟩, ⟨rfl, trivial⟩, trivial⟩ ⟨(.inr ⟨rfl, (OD.dat_live (oviewView_dat _))⟩), .inl rfl, (.inr ⟨rfl, trivial⟩), (.inr ⟨rfl, trivial⟩), trivial⟩ rfl (OD.dat_live (owainscotref12View_dat _)) trivial drop0) (.w (weak_of ⟨⟨_, rfl, .d rfl⟩, ⟨_, rfl, .ptro rfl rfl⟩, ⟨_, rfl, .ptro rfl rfl⟩, ⟨_, rfl, .d rfl⟩, ⟨_, rfl, .d rfl⟩, ⟨_, rfl, .arr rfl rfl⟩, ⟨_, rfl, .arr rfl rfl⟩, ⟨_, rfl, .d rfl⟩, trivial⟩ ⟨.own rfl (.of_eq rfl (oviewView_dat _)), .own rfl (.of_eq rfl (owainscotref12View_dat _)), .arr rfl rfl, .arr rfl rfl, trivial⟩ drop0))⟩
                    · skip
                      refine cw_region (
                        .cons (o_mv rfl rfl .no rfl) <|
                        .cons (o_mv rfl rfl .no rfl) <|
                        .cons (o_nilP rfl rfl .no rfl) <|
                        .cons (o_fldP rfl rfl .no rfl fld41_2 (by decide)) <|
                        .cons (o_ldP [2] rfl rfl .no rfl rfl rfl ta38 rfl rfl) <|
                        .cons (o_call rfl rfl .no Tryz.func13 rfl rfl (ref08_Same_ok hx1994) (.cons rfl (.arrM rfl) (.cons rfl .d .nil)) ⟨trivial, trivial, trivial⟩ (.inr (DFlat.v _))) <|
                        .cons (o_mv rfl rfl .no rfl) <|
                        .cons (o_noT rfl rfl rfl rfl hc1996) <|
                        .cons (o_noT rfl rfl rfl rfl hc1996) <|
                        .cons (o_noT rfl rfl rfl rfl hc1996) <|
                        .cons (o_noT rfl rfl rfl rfl hc1996) <|
                        .cons (o_noT rfl rfl rfl rfl hc1996) <|
                        .cons (o_noT rfl rfl rfl rfl hc1996) <|
                        .cons (o_pickF rfl rfl .no rfl hc1996 rfl) <|
                        .cons (o_as rfl rfl .no rfl) <|
                        .nil rfl
                      ) ?_
                      exact ⟨false, (Option.some.inj h1998).symm, .trans (leads_pack (o := 3) (y := .st [.d (eSapiPair x1969.2.2.1), .d (eSapiChange x1969.2.2.2.1), .d (eSapiSpan x1969.2.2.2.2.1), .d (eSSapiChange x1969.2.2.2.2.2)]) (x := owainscotref12View (x1969.2.2.1, x1969.2.2.2.1, x1969.2.2.2.2.1, x1969.2.2.2.2.2)) (l := [(1, .d (eSwainscotlaw12Op a1)), (9, .ptr 1 0), (10, .ptr 3 0), (11, .d (eint v1789.1)), (12, .d (ebool x1969.1)), (13, .arr 4 0), (14, .arr 5 0), (15, .d (ebool false))]) (m := [(1, .own (oviewView x1975.2)), (3, .own (owainscotref12View (x1969.2.2.1, x1969.2.2.2.1, x1969.2.2.2.2.1, x1969.2.2.2.2.2))), (4, .arr 0 49 (x1972.1.map eapiSpan)), (5, .arr 0 26 (x1975.1.map eapiChange))]) rfl (.st (.cons (.av rfl) (.cons (.av rfl) (.cons (.av rfl) (.cons (.av rfl) .nil))))) rfl rfl ⟨⟨rfl, trivial⟩, ⟨rfl, (by simp [AV.live, AV.lives, lk, Nat.beq])⟩, ⟨rfl, (by simp [AV.live, AV.lives, lk, Nat.beq])⟩, ⟨rfl, trivial⟩, ⟨rfl, trivial⟩, ⟨rfl, (by simp [AV.live, AV.lives, lk, Nat.beq])⟩, ⟨rfl, (by simp [AV.live, AV.lives, lk, Nat.beq])⟩, ⟨rfl, trivial⟩, trivial⟩ ⟨(.inr ⟨rfl, (OD.dat_live (oviewView_dat _))⟩), .inl rfl, (.inr ⟨rfl, trivial⟩), (.inr ⟨rfl, trivial⟩), trivial⟩ rfl (OD.dat_live (owainscotref12View_dat _)) trivial drop0) (.w (weak_of ⟨⟨_, rfl, .d rfl⟩, ⟨_, rfl, .ptro rfl rfl⟩, ⟨_, rfl, .ptro rfl rfl⟩, ⟨_, rfl, .d rfl⟩, ⟨_, rfl, .d rfl⟩, ⟨_, rfl, .arr rfl rfl⟩, ⟨_, rfl, .arr rfl rfl⟩, ⟨_, rfl, .d rfl⟩, trivial⟩ ⟨.own rfl (.of_eq rfl (oviewView_dat _)), .own rfl (.of_eq rfl (owainscotref12View_dat _)), .arr rfl rfl, .arr rfl rfl, trivial⟩ drop0))⟩
              · refine cw_condF rfl hc1802 ?_
                refine cw_exit ?_
                exact ⟨(), (hx1792 _ (Option.some.inj h1804).symm).symm, .w (weak_of trivial trivial drop0)⟩
            · skip
              rcases cond_some hj1797 with ⟨hc1799, h1800⟩ | ⟨hc1799, h1801⟩
              · skip
                refine cw_region (
                  .cons (o_mv rfl rfl .no rfl) <|
                  .cons (o_mv rfl rfl .no rfl) <|
                  .cons (o_lenM (enc := ewainscotlaw12Op) (xs := a1) rfl rfl .no rfl sl23) <|
                  .cons (o_bin rfl rfl .no rfl rfl (b_lss _ _) rfl) <|
                  .cons (o_mv rfl rfl .no rfl) <|
                  .cons (o_mv rfl rfl (.yes rfl rfl hc1799) rfl) <|
                  .cons (o_bin rfl rfl (.yes rfl rfl hc1799) rfl rfl (b_lss _ _) rfl) <|
                  .cons (o_pickT rfl rfl .no rfl hc1799 rfl) <|
                  .nil rfl
                ) ?_
                exact ⟨(decide (v1789.1 < 60)), (Option.some.inj h1800).symm, .w (weak_of ⟨⟨_, rfl, .d rfl⟩, ⟨_, rfl, .ptro rfl rfl⟩, ⟨_, rfl, .ptro rfl rfl⟩, ⟨_, rfl, .d rfl⟩, ⟨_, rfl, .d rfl⟩, trivial⟩ ⟨.own rfl (.of_eq rfl (oviewView_dat _)), .own rfl (.of_eq rfl (owainscotref12View_dat _)), trivial⟩ drop0)⟩
              · skip
                refine cw_region (
                  .cons (o_mv rfl rfl .no rfl) <|
                  .cons (o_mv rfl rfl .no rfl) <|
                  .cons (o_lenM (enc := ewainscotlaw12Op) (xs := a1) rfl rfl .no rfl sl23) <|
                  .cons (o_bin rfl rfl .no rfl rfl (b_lss _ _) rfl) <|
                  .cons (o_mv rfl rfl .no rfl) <|
                  .cons (o_noT rfl rfl rfl rfl hc1799) <|
                  .cons (o_noT rfl rfl rfl rfl hc1799) <|
                  .cons (o_pickF rfl rfl .no rfl hc1799 rfl) <|
                  .nil rfl
                ) ?_
                exact ⟨false, (Option.some.inj h1801).symm, .w (weak_of ⟨⟨_, rfl, .d rfl⟩, ⟨_, rfl, .ptro rfl rfl⟩, ⟨_, rfl, .ptro rfl rfl⟩, ⟨_, rfl, .d rfl⟩, ⟨_, rfl, .d rfl⟩, trivial⟩ ⟨.own rfl (.of_eq rfl (oviewView_dat _)), .own rfl (.of_eq rfl (owainscotref12View_dat _)), trivial⟩ drop0)⟩
      · skip
        refine cw_seq (cw_region (
          .cons (o_as rfl rfl .no rfl) <|
          .nil rfl
        ) ?_)
        refine cw_block ?_
        refine cw_while (V := (Int × (List ((List UInt8) × ByteArray)))) (O := Unit) (fun (z : (Int × (List ((List UInt8) × ByteArray)))) => St.of [(0, .d (eSapiPair a0)), (1, .d (eSwainscotlaw12Op a1)), (6, .arr 0 0), (7, .d (.at (eviewPlain x7.1))), (8, .d (eint z.1))] [(0, .arr 0 25 (z.2.map eapiPair))]) hj47 (.w (weak_of ⟨⟨_, rfl, .d rfl⟩, ⟨_, rfl, .d rfl⟩, ⟨_, rfl, .arr rfl rfl⟩, ⟨_, rfl, .d rfl⟩, ⟨_, rfl, .d rfl⟩, trivial⟩ ⟨.arr rfl rfl, trivial⟩ drop0)) ?_
        intro v63 x64 hb65 hx66
        refine cw_seq ?_
        refine cw_seq (cw_region (
          .cons (o_mv rfl rfl .no rfl) <|
          .cons (o_mv rfl rfl .no rfl) <|
          .cons (o_lenAM (enc := eapiPair) (xs := v63.2) rfl rfl .no rfl rfl sl22) <|
          .cons (o_bin rfl rfl .no rfl rfl (b_lss _ _) rfl) <|
          .nil rfl
        ) ?_)
        rcases cond_some hb65 with ⟨hc67, h68⟩ | ⟨hc67, h69⟩
        · refine cw_condT rfl hc67 ?_
          refine cw_skip ?_
          refine cw_seq ?_
          refine cw_block ?_
          obtain ⟨x70, hx71, h72⟩ := bind_some h68
          have hx71g := gx_some hx71
          refine cw_region (
            .cons (o_mv rfl rfl .no rfl) <|
            .cons (o_mv rfl rfl .no rfl) <|
            .cons (o_ixAM (enc := eapiPair) (xs := v63.2) rfl rfl .no rfl rfl rfl sl22 sz31 hx71g.1 hx71g.2) <|
            .cons (o_fldE rfl rfl .no rfl rfl fld31_1 (by decide)) <|
            .cons (o_stEPM (enc := eapiPair) (xs := v63.2) (y := (x70.1, (ByteArray.mk #[63]))) (r := x70) [1] rfl .no rfl rfl rfl hx71g.2 rfl rfl sz9 rfl rfl (siapiPair _)) <|
            .nil rfl
          ) ?_
          refine cw_region (
            .cons (o_mv rfl rfl .no rfl) <|
            .cons (o_bin rfl rfl .no rfl rfl (b_add _ _) rfl) <|
            .cons (o_as rfl rfl .no rfl) <|
            .nil rfl
          ) ?_
          exact ⟨((IntKind.wrap .i64 (v63.1 + 1)), (List.set v63.2 v63.1.toNat (x70.1, (ByteArray.mk #[63])))), (Option.some.inj h72).symm, .w (weak_of ⟨⟨_, rfl, .d rfl⟩, ⟨_, rfl, .d rfl⟩, ⟨_, rfl, .arr rfl rfl⟩, ⟨_, rfl, .d rfl⟩, ⟨_, rfl, .d rfl⟩, trivial⟩ ⟨.arr rfl rfl, trivial⟩ drop0)⟩
        · refine cw_condF rfl hc67 ?_
          refine cw_exit ?_
          exact ⟨(), (hx66 _ (Option.some.inj h69).symm).symm, .w (weak_of ⟨⟨_, rfl, .d rfl⟩, ⟨_, rfl, .d rfl⟩, ⟨_, rfl, .d rfl⟩, trivial⟩ trivial drop0)⟩
  · skip
    rcases cond_some hj14 with ⟨hc16, h17⟩ | ⟨hc16, h18⟩
    · skip
      refine cw_region (
        .cons (o_mv rfl rfl .no rfl) <|
        .cons (o_not rfl rfl .no rfl) <|
        .cons (o_mv rfl rfl .no rfl) <|
        .cons (o_noT rfl rfl rfl rfl hc16) <|
        .cons (o_noT rfl rfl rfl rfl hc16) <|
        .cons (o_pickT rfl rfl .no rfl hc16 rfl) <|
        .nil rfl
      ) ?_
      exact ⟨true, (Option.some.inj h17).symm, .w (weak_of ⟨⟨_, rfl, .d rfl⟩, ⟨_, rfl, .d rfl⟩, ⟨_, rfl, .arr rfl rfl⟩, ⟨_, rfl, .d rfl⟩, ⟨_, rfl, .d rfl⟩, trivial⟩ ⟨.arr rfl rfl, trivial⟩ drop0)⟩
    · skip
      refine cw_region (
        .cons (o_mv rfl rfl .no rfl) <|
        .cons (o_not rfl rfl .no rfl) <|
        .cons (o_mv rfl rfl .no rfl) <|
        .cons (o_mv rfl rfl (.yes rfl rfl hc16) rfl) <|
        .cons (o_pnilA rfl rfl (.yes rfl rfl hc16) rfl up26) <|
        .cons (o_pickF rfl rfl .no rfl hc16 rfl) <|
        .nil rfl
      ) ?_
      exact ⟨false, (Option.some.inj h18).symm, .w (weak_of ⟨⟨_, rfl, .d rfl⟩, ⟨_, rfl, .d rfl⟩, ⟨_, rfl, .arr rfl rfl⟩, ⟨_, rfl, .d rfl⟩, ⟨_, rfl, .d rfl⟩, trivial⟩ ⟨.arr rfl rfl, trivial⟩ drop0)⟩

end
end Go.Val

