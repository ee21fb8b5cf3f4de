/- Walks of the program's functions, printed. -/
import Derived.Test.YtmibkdnmjjdelaaGreatWf
import Derived.Test.YtmibkdnmjjdelaaGreatHe
set_option linter.unusedSectionVars false
set_option linter.unusedVariables false
set_option linter.unusedSimpArgs false
namespace Go.Val
open Go.RowKit Go.Proofs

section
variable [NoDrw]

noncomputable def view_Plain_Scan (a0 : (List ((List UInt8) × ByteArray))) (a1 : ((List UInt8) × (List UInt8) × Bool)) : Option ((List ((List UInt8) × ByteArray)) × Int) :=
 (view_place a0 a1.1).bind fun x1 =>
 (((
  cond (!a1.2.2) (
   (view_place a0 a1.2.1).bind fun x16 =>
   some x16.1
  ) (
   some (a0.length : Int)
  )
 ) : Option Int)).bind fun o10 =>
 (cutB x1.1 (max x1.1 o10) a0.length).bind fun _ =>
 (slices_Clone140 (piece a0 x1.1 (max x1.1 o10))).bind fun x22 =>
 some (x22, 0)

noncomputable def view_NewPlain (a0 : List ((List UInt8) × ByteArray)) : Option (List ((List UInt8) × ByteArray)) :=
 (delta_Map a0).bind fun x1 =>
 some x1

noncomputable def view_NewPlain_a (a0 : List ((List UInt8) × ByteArray)) : Option ((List ((List UInt8) × ByteArray)) × (List ((List UInt8) × ByteArray))) :=
 (delta_Map_a a0).bind fun x1 =>
 some (x1.1, x1.2)

noncomputable def view_View_Reads (a0 : ((List ((List UInt8) × ByteArray)) × (List ((List UInt8) × ((List UInt8) × ByteArray × Bool))) × (List ((List UInt8) × (List UInt8) × Bool)) × (List (List ((List UInt8) × ((List UInt8) × ByteArray × Bool)))))) : Option ((List ((List UInt8) × (List UInt8) × Bool)) × ((List ((List UInt8) × ByteArray)) × (List ((List UInt8) × ((List UInt8) × ByteArray × Bool))) × (List ((List UInt8) × (List UInt8) × Bool)) × (List (List ((List UInt8) × ((List UInt8) × ByteArray × Bool)))))) :=
 (slices_Clone31 a0.2.2.1).bind fun x1 =>
 some (x1, (a0.1, a0.2.1, a0.2.2.1, a0.2.2.2))

noncomputable def view_View_Get (a0 : ((List ((List UInt8) × ByteArray)) × (List ((List UInt8) × ((List UInt8) × ByteArray × Bool))) × (List ((List UInt8) × (List UInt8) × Bool)) × (List (List ((List UInt8) × ((List UInt8) × ByteArray × Bool)))))) (a1 : List UInt8) : Option (ByteArray × Bool × Int × ((List ((List UInt8) × ByteArray)) × (List ((List UInt8) × ((List UInt8) × ByteArray × Bool))) × (List ((List UInt8) × (List UInt8) × Bool)) × (List (List ((List UInt8) × ((List UInt8) × ByteArray × Bool)))))) :=
 cond ((mget a0.2.1 a1).isSome) (
  some (((mget a0.2.1 a1).getD ((List.replicate 24 0), (ByteArray.mk #[]), false)).2.1, (!((mget a0.2.1 a1).getD ((List.replicate 24 0), (ByteArray.mk #[]), false)).2.2), 0, (a0.1, a0.2.1, a0.2.2.1, a0.2.2.2))
 ) (
  (key_One a1).bind fun x7 =>
  (view_View_read (a0.1, a0.2.1, a0.2.2.1, a0.2.2.2) x7).bind fun x10 =>
  (view_Plain_Get x10.1 a1).bind fun x13 =>
  cond (decide (x13.2.2 ≠ 0)) (
   some ((ByteArray.mk #[]), false, x13.2.2, (x10.1, x10.2.1, x10.2.2.1, x10.2.2.2))
  ) (
   some (x13.1, x13.2.1, 0, (x10.1, x10.2.1, x10.2.2.1, x10.2.2.2))
  )
 )

noncomputable def view_View_Changes (a0 : ((List ((List UInt8) × ByteArray)) × (List ((List UInt8) × ((List UInt8) × ByteArray × Bool))) × (List ((List UInt8) × (List UInt8) × Bool)) × (List (List ((List UInt8) × ((List UInt8) × ByteArray × Bool)))))) : Option ((List ((List UInt8) × ByteArray × Bool)) × ((List ((List UInt8) × ByteArray)) × (List ((List UInt8) × ((List UInt8) × ByteArray × Bool))) × (List ((List UInt8) × (List UInt8) × Bool)) × (List (List ((List UInt8) × ((List UInt8) × ByteArray × Bool)))))) :=
 (fits a0.2.1.length 48).bind fun _ =>
 forOrd a0.2.1 (fun x4 => (
 (delta_Join ([(x4.map fun p => p.2)])).bind fun x8 =>
 some (x8, (a0.1, a0.2.1, a0.2.2.1, a0.2.2.2))
 ))

noncomputable def view_View_Mark (a0 : ((List ((List UInt8) × ByteArray)) × (List ((List UInt8) × ((List UInt8) × ByteArray × Bool))) × (List ((List UInt8) × (List UInt8) × Bool)) × (List (List ((List UInt8) × ((List UInt8) × ByteArray × Bool)))))) : Option (Int × ((List ((List UInt8) × ByteArray)) × (List ((List UInt8) × ((List UInt8) × ByteArray × Bool))) × (List ((List UInt8) × (List UInt8) × Bool)) × (List (List ((List UInt8) × ((List UInt8) × ByteArray × Bool)))))) :=
 (fits (a0.2.2.2.length + ([a0.2.1]).length) 8).bind fun _ =>
 some ((IntKind.wrap .i64 (((a0.2.2.2 ++ [a0.2.1]).length : Int) - 1)), (a0.1, a0.2.1, a0.2.2.1, (a0.2.2.2 ++ [a0.2.1])))

noncomputable def view_View_Back (a0 : ((List ((List UInt8) × ByteArray)) × (List ((List UInt8) × ((List UInt8) × ByteArray × Bool))) × (List ((List UInt8) × (List UInt8) × Bool)) × (List (List ((List UInt8) × ((List UInt8) × ByteArray × Bool)))))) (a1 : Int) : Option (Int × ((List ((List UInt8) × ByteArray)) × (List ((List UInt8) × ((List UInt8) × ByteArray × Bool))) × (List ((List UInt8) × (List UInt8) × Bool)) × (List (List ((List UInt8) × ((List UInt8) × ByteArray × Bool)))))) :=
 (((
  cond (decide (a1 < 0)) (
   some true
  ) (
   some (decide (a1 ≥ (a0.2.2.2.length : Int)))
  )
 ) : Option Bool)).bind fun o7 =>
 cond o7 (
  some (1, (a0.1, a0.2.1, a0.2.2.1, a0.2.2.2))
 ) (
  (gx a0.2.2.2 a1).bind fun x16 =>
  (cutB 0 (IntKind.wrap .i64 (a1 + 1)) a0.2.2.2.length).bind fun _ =>
  some (0, (a0.1, x16, a0.2.2.1, (List.take (IntKind.wrap .i64 (a1 + 1)).toNat a0.2.2.2)))
 )

noncomputable def view_View_Scan (a0 : ((List ((List UInt8) × ByteArray)) × (List ((List UInt8) × ((List UInt8) × ByteArray × Bool))) × (List ((List UInt8) × (List UInt8) × Bool)) × (List (List ((List UInt8) × ((List UInt8) × ByteArray × Bool)))))) (a1 : ((List UInt8) × (List UInt8) × Bool)) : Option ((List ((List UInt8) × ByteArray)) × Int × ((List ((List UInt8) × ByteArray)) × (List ((List UInt8) × ((List UInt8) × ByteArray × Bool))) × (List ((List UInt8) × (List UInt8) × Bool)) × (List (List ((List UInt8) × ((List UInt8) × ByteArray × Bool)))))) :=
 (view_View_read a0 a1).bind fun x1 =>
 (view_Plain_Scan x1.1 a1).bind fun x4 =>
 cond (decide (x4.2 ≠ 0)) (
  some ([], x4.2, (x1.1, x1.2.1, x1.2.2.1, x1.2.2.2))
 ) (
  forOrd x1.2.1 (fun x34 => (List.foldlM (m := Option) (fun (v32 : (List ((List UInt8) × ByteArray × Bool))) (x33 : ((List UInt8) × ((List UInt8) × ByteArray × Bool))) => ((
   (key_In a1 x33.1).bind fun x43 =>
   cond x43 (
    (fits (v32.length + ([x33.2]).length) 48).bind fun _ =>
    some (v32 ++ [x33.2])
   ) (
    some v32
   )
  ) : Option (List ((List UInt8) × ByteArray × Bool)))) ([]) x34).bind fun (v39 : (List ((List UInt8) × ByteArray × Bool))) =>
   (delta_Apply x4.1 v39).bind fun x52 =>
   some (x52, 0, (x1.1, x1.2.1, x1.2.2.1, x1.2.2.2))
  )
 )

noncomputable def view_New (a0 : (List ((List UInt8) × ByteArray))) : Option ((List ((List UInt8) × ByteArray)) × (List ((List UInt8) × ((List UInt8) × ByteArray × Bool))) × (List ((List UInt8) × (List UInt8) × Bool)) × (List (List ((List UInt8) × ((List UInt8) × ByteArray × Bool))))) :=
 (((
  some ()
 ) : Option Unit)).bind fun o1 =>
 some (a0, [], [], [])

noncomputable def view_Size (a0 : (List ((List UInt8) × ByteArray))) : Option (Int × Bool) :=
 (view_Plain_Len a0).bind fun x1 =>
 some (x1, true)

noncomputable def law12_shown : Option Bool :=
 (view_NewPlain ([((List.set (List.replicate 24 0) 0 (UInt8.ofNat 1)), (ByteArray.mk #[97]))])).bind fun x1 =>
 (view_New x1).bind fun x4 =>
 (view_View_Mark x4).bind fun x7 =>
 (view_View_Put x7.2 (List.set (List.replicate 24 0) 0 (UInt8.ofNat 2)) (ByteArray.mk #[98])).bind fun x10 =>
 (view_View_Delete x10.2 (List.set (List.replicate 24 0) 0 (UInt8.ofNat 1))).bind fun x13 =>
 (view_View_Scan x13.2 ((List.replicate 24 0), (List.replicate 24 0), true)).bind fun x16 =>
 (view_View_Back x16.2.2 x7.1).bind fun x19 =>
 (view_View_Get x19.2 (List.set (List.replicate 24 0) 0 (UInt8.ofNat 1))).bind fun x22 =>
 (view_Size x1).bind fun x25 =>
 (((
  cond (decide (x7.1 = 0)) (
   cond (decide (x10.1 = 0)) (
    cond (decide (x13.1 = 0)) (
     cond (decide (x16.2.1 = 0)) (
      cond (decide ((x16.1.length : Int) = 1)) (
       (gx x16.1 0).bind fun x88 =>
       cond (decide (x88.2 = (ByteArray.mk #[98]))) (
        cond (decide (x19.1 = 0)) (
         cond (decide (x22.1 = (ByteArray.mk #[97]))) (
          cond x22.2.1 (
           cond (decide (x22.2.2.1 = 0)) (
            cond (decide (x25.1 = 1)) (
             cond x25.2 (
              (view_View_Reads x22.2.2.2).bind fun x112 =>
              some (decide ((x112.1.length : Int) = 1))
             ) (
              some false
             )
            ) (
             some false
            )
           ) (
            some false
           )
          ) (
           some false
          )
         ) (
          some false
         )
        ) (
         some false
        )
       ) (
        some false
       )
      ) (
       some false
      )
     ) (
      some false
     )
    ) (
     some false
    )
   ) (
    some false
   )
  ) (
   some false
  )
 ) : Option Bool)).bind fun o70 =>
 some o70

set_option maxRecDepth 100000 in
theorem view_Plain_Scan_ok {a0 : (List ((List UInt8) × ByteArray))} {a1 : ((List UInt8) × (List UInt8) × Bool)} {r : ((List ((List UInt8) × ByteArray)) × Int)} (h : view_Plain_Scan a0 a1 = some r) : FnOk Tryz.prog 138 [.d (ePviewPlain a0), .d (eapiSpan a1)] 0 (lk []) (fun rr oo => rr = .tup [.d (eSapiPair r.1), .d (eapiErrno r.2)] ∧ oo = lk []) := by
  refine fnOk_of Tryz.func138 rfl rfl (cw_post ?_)
  unfold view_Plain_Scan at h
  refine cw_seq (cw_region (
    .cons (o_box 0 rfl rfl .no rfl rfl rfl) <|
    .cons (o_as rfl rfl .no rfl) <|
    .cons (o_as rfl rfl .no rfl) <|
    .nil rfl
  ) ?_)
  obtain ⟨x1, hx2, h3⟩ := bind_some (x := view_place a0 a1.1) h
  refine cw_seq (cw_region_any mixed (by kernel_rfl) (
    .cons (o_mv rfl rfl .no rfl) <|
    .cons (o_nilA rfl rfl .no rfl) <|
    .cons (o_fld rfl rfl .no rfl fld65_0 (by decide) rfl rfl) <|
    .cons (o_ld rfl rfl .no rfl ta22 rfl rfl) <|
    .cons (o_fldP rfl rfl .no rfl fld44_0 (by decide)) <|
    .cons (o_ldP [0] rfl rfl .no rfl rfl rfl ta29 rfl rfl) <|
    .cons (o_call rfl rfl .no Tryz.func139 rfl rfl (view_place_ok hx2) (.cons rfl .d (.cons rfl .d .nil)) ⟨trivial, trivial, trivial⟩ (.inl rfl)) <|
    .cons (o_mv rfl rfl .no rfl) <|
    .cons (o_ext rfl rfl .no rfl rfl) <|
    .cons (o_ext rfl rfl .no rfl rfl) <|
    .cons (o_as rfl rfl .no rfl) <|
    .cons (o_as rfl rfl .no rfl) <|
    .nil rfl
  ) (by kernel_rfl) ?_)
  refine cw_seq (cw_region (
    .cons (o_mv rfl rfl .no rfl) <|
    .cons (o_nilA rfl rfl .no rfl) <|
    .cons (o_fld rfl rfl .no rfl fld65_0 (by decide) rfl rfl) <|
    .cons (o_ld rfl rfl .no rfl ta22 rfl rfl) <|
    .cons (o_lenM (enc := eapiPair) (xs := a0) rfl rfl .no rfl sl22) <|
    .cons (o_as rfl rfl .no rfl) <|
    .nil rfl
  ) ?_)
  obtain ⟨o10, hj11, h12⟩ := bind_some h3
  refine cw_join (fun (z : Int) => St.of [(0, .d (.at (eviewPlain a0))), (6, .d (eint x1.1)), (8, .d (eint z))] []) (fun (z : Int) => o10 = z) ?_ ?_
  · intro v25 hv26; subst hv26
    obtain ⟨x19, hx20, h21⟩ := bind_some h12
    have hx20g := cutB_some hx20
    obtain ⟨x22, hx23, h24⟩ := bind_some (x := slices_Clone140 (piece a0 x1.1 (max x1.1 o10))) h21
    refine cw_seq (cw_region (
      .cons (o_mv rfl rfl .no rfl) <|
      .cons (o_nilA rfl rfl .no rfl) <|
      .cons (o_fld rfl rfl .no rfl fld65_0 (by decide) rfl rfl) <|
      .cons (o_ld rfl rfl .no rfl ta22 rfl rfl) <|
      .cons (o_mv rfl rfl .no rfl) <|
      .cons (o_mv rfl rfl .no rfl) <|
      .cons (o_mv rfl rfl .no rfl) <|
      .cons (o_max rfl rfl .no rfl rfl) <|
      .cons (o_slM (enc := eapiPair) (xs := a0) rfl rfl .no rfl sl22 sz31 (.val rfl hx20g.1) (.val rfl hx20g.2.1) hx20g.2.2.1 hx20g.2.2.2) <|
      .cons (o_callO 1 rfl rfl .no Tryz.func140 rfl rfl (slices_Clone140_ok hx23) (.cons rfl .d .nil) ⟨trivial, trivial⟩ rfl (.inl rfl)) <|
      .cons (o_as rfl rfl .no rfl) <|
      .cons (o_as rfl rfl .no rfl) <|
      .nil rfl
    ) ?_)
    have heq := ((Option.some.inj h24).symm).symm
    subst heq
    exact cw_ret ⟨_, (show Leads _ _ (St.of [(4, .d (eSapiPair x22)), (5, .d (eapiErrno 0))] []) from .w (weak_of ⟨⟨_, rfl, .frz rfl rfl rfl⟩, ⟨_, rfl, .d rfl⟩, trivial⟩ trivial drop0)), .inr rfl, _, res2 rfl rfl rfl, rfl, rfl⟩
  · skip
    refine cw_seq (cw_region (
      .cons (o_fldP rfl rfl .no rfl fld44_2 (by decide)) <|
      .cons (o_ldP [2] rfl rfl .no rfl rfl rfl ta4 rfl rfl) <|
      .cons (o_not rfl rfl .no rfl) <|
      .nil rfl
    ) ?_)
    rcases cond_some hj11 with ⟨hc13, h14⟩ | ⟨hc13, h15⟩
    · refine cw_condT rfl hc13 ?_
      obtain ⟨x16, hx17, h18⟩ := bind_some (x := view_place a0 a1.2.1) h14
      refine cw_region_any mixed (by kernel_rfl) (
        .cons (o_mv rfl rfl .no rfl) <|
        .cons (o_nilA rfl rfl .no rfl) <|
        .cons (o_fld rfl rfl .no rfl fld65_0 (by decide) rfl rfl) <|
        .cons (o_ld rfl rfl .no rfl ta22 rfl rfl) <|
        .cons (o_fldP rfl rfl .no rfl fld44_1 (by decide)) <|
        .cons (o_ldP [1] rfl rfl .no rfl rfl rfl ta29 rfl rfl) <|
        .cons (o_call rfl rfl .no Tryz.func139 rfl rfl (view_place_ok hx17) (.cons rfl .d (.cons rfl .d .nil)) ⟨trivial, trivial, trivial⟩ (.inl rfl)) <|
        .cons (o_mv rfl rfl .no rfl) <|
        .cons (o_ext rfl rfl .no rfl rfl) <|
        .cons (o_ext rfl rfl .no rfl rfl) <|
        .cons (o_as rfl rfl .no rfl) <|
        .nil rfl
      ) (by kernel_rfl) ?_
      exact ⟨x16.1, (Option.some.inj h18).symm, .w (weak_of ⟨⟨_, rfl, .d rfl⟩, ⟨_, rfl, .d rfl⟩, ⟨_, rfl, .d rfl⟩, trivial⟩ trivial drop0)⟩
    · refine cw_condF rfl hc13 ?_
      refine cw_skip ?_
      exact ⟨(a0.length : Int), (Option.some.inj h15).symm, .w (weak_of ⟨⟨_, rfl, .d rfl⟩, ⟨_, rfl, .d rfl⟩, ⟨_, rfl, .d rfl⟩, trivial⟩ trivial drop0)⟩

set_option maxRecDepth 100000 in
theorem view_NewPlain_ok {a0 : List ((List UInt8) × ByteArray)} {r : (List ((List UInt8) × ByteArray))} (h : view_NewPlain a0 = some r) : FnOk Tryz.prog 6 [.d (eSapiPair a0)] 0 (lk []) (fun rr oo => rr = .d (ePviewPlain r) ∧ oo = lk []) := by
  refine fnOk_of Tryz.func6 rfl rfl (cw_post ?_)
  unfold view_NewPlain at h
  refine cw_seq (cw_region (
    .cons (o_as rfl rfl .no rfl) <|
    .nil rfl
  ) ?_)
  obtain ⟨x1, hx2, h3⟩ := bind_some (x := delta_Map a0) h
  refine cw_seq (cw_region (
    .cons (o_mv rfl rfl .no rfl) <|
    .cons (o_call rfl rfl .no Tryz.func22 rfl rfl (delta_Map_ok hx2) (.cons rfl .d .nil) ⟨trivial, trivial⟩ (.inl rfl)) <|
    .cons (o_bld (ds := [eSapiPair x1]) rfl rfl .no zs65 rfl pl65 (.cons rfl rfl rfl rfl rfl rfl rfl .nil)) <|
    .cons (o_box 0 rfl rfl .no rfl rfl rfl) <|
    .cons (o_as rfl rfl .no rfl) <|
    .nil rfl
  ) ?_)
  have heq := ((Option.some.inj h3).symm).symm
  subst heq
  exact cw_ret ⟨_, (show Leads _ _ (St.of [(2, .d (.at (eviewPlain x1)))] []) from .w (weak_of ⟨⟨_, rfl, .pin rfl rfl⟩, trivial⟩ trivial drop0)), .inr rfl, _, res1 rfl rfl, rfl, rfl⟩

set_option maxRecDepth 100000 in
theorem view_NewPlain_a_ok {a0 : List ((List UInt8) × ByteArray)} {r : ((List ((List UInt8) × ByteArray)) × (List ((List UInt8) × ByteArray)))} (h : view_NewPlain_a a0 = some r) (u0 : Nat) : FnOk Tryz.prog 6 [.arr 0 u0] 1 (lk [(0, .arr u0 25 (List.map eapiPair a0))]) (fun rr oo => rr = .d (ePviewPlain r.1) ∧ oo = lk [(0, .arr u0 25 (r.2.map eapiPair))]) := by
  refine fnOk_of Tryz.func6 rfl rfl (cw_post ?_)
  unfold view_NewPlain_a at h
  refine cw_seq (cw_region (
    .cons (o_as rfl rfl .no rfl) <|
    .nil rfl
  ) ?_)
  obtain ⟨x1, hx2, h3⟩ := bind_some (x := delta_Map_a a0) h
  refine cw_seq (cw_region (
    .cons (o_mv rfl rfl .no rfl) <|
    .cons (o_callX (fun _ => 0) rfl rfl .no Tryz.func22 rfl rfl (delta_Map_a_ok hx2 u0) (.cons rfl (.a rfl) .nil) (callIn1 rfl ⟨(by simp [AV.live, lk, Nat.beq]), trivial⟩ rfl trivial (by simp)) (.inl rfl)) <|
    .cons (o_bld (ds := [eSapiPair x1.1]) rfl rfl .no zs65 rfl pl65 (.cons rfl rfl rfl rfl rfl rfl rfl .nil)) <|
    .cons (o_box 1 rfl rfl .no rfl rfl rfl) <|
    .cons (o_as rfl rfl .no rfl) <|
    .nil rfl
  ) ?_)
  have heq := ((Option.some.inj h3).symm).symm
  subst heq
  exact cw_ret ⟨_, (show Leads _ _ (St.of [(2, .d (.at (eviewPlain x1.1)))] [(0, .arr u0 25 (x1.2.map eapiPair))]) from .w (weak_of ⟨⟨_, rfl, .pin rfl rfl⟩, trivial⟩ ⟨.arr rfl rfl, trivial⟩ (dropK rfl))), .inr rfl, _, res1 rfl rfl, rfl, rfl⟩

set_option maxRecDepth 100000 in
theorem view_View_Reads_ok {a0 : ((List ((List UInt8) × ByteArray)) × (List ((List UInt8) × ((List UInt8) × ByteArray × Bool))) × (List ((List UInt8) × (List UInt8) × Bool)) × (List (List ((List UInt8) × ((List UInt8) × ByteArray × Bool)))))} {r : ((List ((List UInt8) × (List UInt8) × Bool)) × ((List ((List UInt8) × ByteArray)) × (List ((List UInt8) × ((List UInt8) × ByteArray × Bool))) × (List ((List UInt8) × (List UInt8) × Bool)) × (List (List ((List UInt8) × ((List UInt8) × ByteArray × Bool))))))} (h : view_View_Reads a0 = some r) : FnOk Tryz.prog 11 [.ptr 0 0] 1 (lk [(0, .own (oviewView a0))]) (fun rr oo => rr = .arr 1 0 ∧ oo = lk [(0, .own (oviewView r.2)), (1, .arr 0 49 (r.1.map eapiSpan))]) := by
  refine fnOk_of Tryz.func11 rfl rfl (cw_post ?_)
  unfold view_View_Reads at h
  refine cw_seq (cw_region (
    .cons (o_as rfl rfl .no rfl) <|
    .nil rfl
  ) ?_)
  refine cw_leads (leads_open (o := 0) (y := .st [.ifc 26 (.d (.at (eviewPlain a0.1))), .map 4, .arr 2 0, .arr 3 0]) (news := [(4, .map 0 (mD eapiKey eapiChange a0.2.1)), (2, .arr 0 49 (a0.2.2.1.map eapiSpan)), (3, .arr 0 1 (a0.2.2.2.map eMapiKeyapiChange))]) rfl (.st (.cons (.av rfl) (.cons (.map rfl) (.cons (.arr rfl) (.cons (.arr rfl) .nil))))) rfl rfl ⟨rfl, rfl, rfl, trivial⟩) ?_
  refine cw_weak (weak_of (l := [(0, .ptr 0 0)]) (m := [(0, .box (.st [.ifc 26 (.d (.at (eviewPlain a0.1))), .map 4, .arr 2 0, .arr 3 0])), (2, .arr 0 49 (a0.2.2.1.map eapiSpan)), (3, .arr 0 1 (a0.2.2.2.map eMapiKeyapiChange)), (4, .map 0 (mD eapiKey eapiChange a0.2.1))]) ⟨⟨_, rfl, .ptr rfl rfl⟩, trivial⟩ ⟨.box rfl (.st (.cons (.ifc (.d rfl)) (.cons (.map rfl rfl) (.cons (.arr rfl rfl) (.cons (.arr rfl rfl) .nil))))), .arr rfl rfl, .arr rfl rfl, .map rfl rfl, trivial⟩ (dropK rfl)) ?_
  obtain ⟨x1, hx2, h3⟩ := bind_some (x := slices_Clone31 a0.2.2.1) h
  refine cw_seq (cw_region (
    .cons (o_mv rfl rfl .no rfl) <|
    .cons (o_nilP rfl rfl .no rfl) <|
    .cons (o_fldP rfl rfl .no rfl fld71_2 (by decide)) <|
    .cons (o_ldP [2] rfl rfl .no rfl rfl rfl ta38 rfl rfl) <|
    .cons (o_callO 1 rfl rfl .no Tryz.func31 rfl rfl (slices_Clone31_ok hx2) (.cons rfl (.arrM rfl) .nil) ⟨trivial, trivial⟩ rfl (.inr ⟨trivial, (flat_rows fun _ => (flapiSpan _))⟩)) <|
    .cons (o_as rfl rfl .no rfl) <|
    .nil rfl
  ) ?_)
  have heq := ((Option.some.inj h3).symm).symm
  subst heq
  exact cw_ret ⟨_, (show Leads _ _ (St.of [(2, .arr 1 0)] [(0, .own (oviewView (a0.1, a0.2.1, a0.2.2.1, a0.2.2.2))), (1, .arr 0 49 (x1.map eapiSpan))]) from .trans (leads_pack (o := 0) (y := .st [.ifc 26 (.d (.at (eviewPlain a0.1))), .map 4, .arr 2 0, .arr 3 0]) (x := oviewView (a0.1, a0.2.1, a0.2.2.1, a0.2.2.2)) (l := [(2, .arr 1 0)]) (m := [(0, .own (oviewView (a0.1, a0.2.1, a0.2.2.1, a0.2.2.2))), (1, .arr 0 49 (x1.map eapiSpan))]) rfl (.st (.cons (.av rfl) (.cons (.map rfl) (.cons (.arr rfl) (.cons (.arr rfl) .nil))))) rfl rfl ⟨⟨rfl, (by simp [AV.live, AV.lives, lk, Nat.beq])⟩, trivial⟩ ⟨.inl rfl, (.inr ⟨rfl, trivial⟩), trivial⟩ rfl (OD.dat_live (oviewView_dat _)) ⟨rfl, rfl, rfl, trivial⟩ (dropK rfl)) (.w (weak_of ⟨⟨_, rfl, .arr rfl rfl⟩, trivial⟩ ⟨.own rfl (.of_eq rfl (oviewView_dat _)), .arr rfl rfl, trivial⟩ (dropK rfl)))), .inr rfl, _, res1 rfl rfl, rfl, rfl⟩

set_option maxRecDepth 100000 in
theorem view_View_Get_ok {a0 : ((List ((List UInt8) × ByteArray)) × (List ((List UInt8) × ((List UInt8) × ByteArray × Bool))) × (List ((List UInt8) × (List UInt8) × Bool)) × (List (List ((List UInt8) × ((List UInt8) × ByteArray × Bool)))))} {a1 : List UInt8} {r : (ByteArray × Bool × Int × ((List ((List UInt8) × ByteArray)) × (List ((List UInt8) × ((List UInt8) × ByteArray × Bool))) × (List ((List UInt8) × (List UInt8) × Bool)) × (List (List ((List UInt8) × ((List UInt8) × ByteArray × Bool))))))} (h : view_View_Get a0 a1 = some r) : FnOk Tryz.prog 20 [.ptr 0 0, .d (eapiKey a1)] 1 (lk [(0, .own (oviewView a0))]) (fun rr oo => rr = .tup [.d (estring r.1), .d (ebool r.2.1), .d (eapiErrno r.2.2.1)] ∧ oo = lk [(0, .own (oviewView r.2.2.2))]) := by
  refine fnOk_of Tryz.func20 rfl rfl (cw_post ?_)
  unfold view_View_Get at h
  refine cw_seq (cw_region (
    .cons (o_box 1 rfl rfl .no rfl rfl rfl) <|
    .cons (o_as rfl rfl .no rfl) <|
    .cons (o_as rfl rfl .no rfl) <|
    .cons (o_as rfl rfl .no rfl) <|
    .nil rfl
  ) ?_)
  refine cw_seq ?_
  refine cw_leads (leads_open (o := 0) (y := .st [.ifc 26 (.d (.at (eviewPlain a0.1))), .map 2, .arr 3 0, .arr 4 0]) (news := [(2, .map 0 (mD eapiKey eapiChange a0.2.1)), (3, .arr 0 49 (a0.2.2.1.map eapiSpan)), (4, .arr 0 1 (a0.2.2.2.map eMapiKeyapiChange))]) rfl (.st (.cons (.av rfl) (.cons (.map rfl) (.cons (.arr rfl) (.cons (.arr rfl) .nil))))) rfl rfl ⟨rfl, rfl, rfl, trivial⟩) ?_
  refine cw_weak (weak_of (l := [(0, .ptr 0 0), (3, .ptr 1 0)]) (m := [(0, .box (.st [.ifc 26 (.d (.at (eviewPlain a0.1))), .map 2, .arr 3 0, .arr 4 0])), (1, .box (.d (eapiKey a1))), (2, .map 0 (mD eapiKey eapiChange a0.2.1)), (3, .arr 0 49 (a0.2.2.1.map eapiSpan)), (4, .arr 0 1 (a0.2.2.2.map eMapiKeyapiChange))]) ⟨⟨_, rfl, .ptr rfl rfl⟩, ⟨_, rfl, .ptr rfl rfl⟩, trivial⟩ ⟨.box rfl (.st (.cons (.ifc (.d rfl)) (.cons (.map rfl rfl) (.cons (.arr rfl rfl) (.cons (.arr rfl rfl) .nil))))), .box rfl (.d rfl), .map rfl rfl, .arr rfl rfl, .arr rfl rfl, trivial⟩ (dropK rfl)) ?_
  refine cw_seq (cw_region_any mixed (by kernel_rfl) (
    .cons (o_mv rfl rfl .no rfl) <|
    .cons (o_nilP rfl rfl .no rfl) <|
    .cons (o_fldP rfl rfl .no rfl fld71_1 (by decide)) <|
    .cons (o_ldP [1] rfl rfl .no rfl rfl rfl ta68 rfl rfl) <|
    .cons (o_ldP [] rfl rfl .no rfl rfl rfl ta29 rfl rfl) <|
    .cons (o_mapget (ek := eapiKey) (ev := eapiChange) (m := a0.2.1) a1 ((List.replicate 24 0), (ByteArray.mk #[]), false) rfl rfl .no rfl rfl rfl mp68 kl29 ze52 rfl rfl) <|
    .cons (o_mv rfl rfl .no rfl) <|
    .cons (o_ext rfl rfl .no rfl rfl) <|
    .cons (o_ext rfl rfl .no rfl rfl) <|
    .cons (o_alloc 5 rfl rfl .no ze52 rfl) <|
    .cons (o_st [] rfl .no rfl rfl rfl rfl rfl sz52 rfl rfl) <|
    .cons (o_as rfl rfl .no rfl) <|
    .nil rfl
  ) (by kernel_rfl) ?_)
  refine cw_seq (cw_region (
    .cons (o_mv rfl rfl .no rfl) <|
    .nil rfl
  ) ?_)
  rcases cond_some h with ⟨hc1, h2⟩ | ⟨hc1, h3⟩
  · refine cw_condT rfl hc1 ?_
    refine cw_seq (cw_region_any mixed (by kernel_rfl) (
      .cons (o_fldP rfl rfl .no rfl fld52_1 (by decide)) <|
      .cons (o_ldP [1] rfl rfl .no rfl rfl rfl ta9 rfl rfl) <|
      .cons (o_fldP rfl rfl .no rfl fld52_2 (by decide)) <|
      .cons (o_ldP [2] rfl rfl .no rfl rfl rfl ta4 rfl rfl) <|
      .cons (o_not rfl rfl .no rfl) <|
      .cons (o_as rfl rfl .no rfl) <|
      .cons (o_as rfl rfl .no rfl) <|
      .cons (o_as rfl rfl .no rfl) <|
      .nil rfl
    ) (by kernel_rfl) ?_)
    have heq := ((Option.some.inj h2).symm).symm
    subst heq
    exact cw_ret ⟨_, (show Leads _ _ (St.of [(4, .d (estring ((mget a0.2.1 a1).getD ((List.replicate 24 0), (ByteArray.mk #[]), false)).2.1)), (5, .d (ebool (!((mget a0.2.1 a1).getD ((List.replicate 24 0), (ByteArray.mk #[]), false)).2.2))), (6, .d (eapiErrno 0))] [(0, .own (oviewView (a0.1, a0.2.1, a0.2.2.1, a0.2.2.2)))]) from .trans (leads_pack (o := 0) (y := .st [.ifc 26 (.d (.at (eviewPlain a0.1))), .map 2, .arr 3 0, .arr 4 0]) (x := oviewView (a0.1, a0.2.1, a0.2.2.1, a0.2.2.2)) (l := [(4, .d (estring ((mget a0.2.1 a1).getD ((List.replicate 24 0), (ByteArray.mk #[]), false)).2.1)), (5, .d (ebool (!((mget a0.2.1 a1).getD ((List.replicate 24 0), (ByteArray.mk #[]), false)).2.2))), (6, .d (eint 0))]) (m := [(0, .own (oviewView (a0.1, a0.2.1, a0.2.2.1, a0.2.2.2)))]) rfl (.st (.cons (.av rfl) (.cons (.map rfl) (.cons (.arr rfl) (.cons (.arr rfl) .nil))))) rfl rfl ⟨⟨rfl, trivial⟩, ⟨rfl, trivial⟩, ⟨rfl, trivial⟩, trivial⟩ ⟨.inl rfl, trivial⟩ rfl (OD.dat_live (oviewView_dat _)) ⟨rfl, rfl, rfl, trivial⟩ (dropK rfl)) (.w (weak_of ⟨⟨_, rfl, .d rfl⟩, ⟨_, rfl, .d rfl⟩, ⟨_, rfl, .d rfl⟩, trivial⟩ ⟨.own rfl (.of_eq rfl (oviewView_dat _)), trivial⟩ (dropK rfl)))), .inr rfl, _, res3 rfl rfl rfl rfl, rfl, rfl⟩
  · refine cw_condF rfl hc1 ?_
    refine cw_skip ?_
    refine cw_leads (leads_pack (o := 0) (y := .st [.ifc 26 (.d (.at (eviewPlain a0.1))), .map 2, .arr 3 0, .arr 4 0]) (x := oviewView (a0.1, a0.2.1, a0.2.2.1, a0.2.2.2)) (l := [(0, .ptr 0 0), (3, .ptr 1 0)]) (m := [(0, .own (oviewView (a0.1, a0.2.1, a0.2.2.1, a0.2.2.2))), (1, .box (.d (eapiKey a1)))]) rfl (.st (.cons (.av rfl) (.cons (.map rfl) (.cons (.arr rfl) (.cons (.arr rfl) .nil))))) rfl rfl ⟨⟨rfl, (by simp [AV.live, AV.lives, lk, Nat.beq])⟩, ⟨rfl, (by simp [AV.live, AV.lives, lk, Nat.beq])⟩, trivial⟩ ⟨.inl rfl, (.inr ⟨rfl, trivial⟩), trivial⟩ rfl (OD.dat_live (oviewView_dat _)) ⟨rfl, rfl, rfl, trivial⟩ (dropK rfl)) ?_
    obtain ⟨x7, hx8, h9⟩ := bind_some (x := key_One a1) h3
    obtain ⟨x10, hx11, h12⟩ := bind_some (x := view_View_read (a0.1, a0.2.1, a0.2.2.1, a0.2.2.2) x7) h9
    refine cw_seq (cw_region (
      .cons (o_mv rfl rfl .no rfl) <|
      .cons (o_ldP [] rfl rfl .no rfl rfl rfl ta29 rfl rfl) <|
      .cons (o_call rfl rfl .no Tryz.func39 rfl rfl (key_One_ok hx8) (.cons rfl .d .nil) ⟨trivial, trivial⟩ (.inl rfl)) <|
      .cons (o_callX (fun _ => 0) rfl rfl .no Tryz.func36 rfl rfl (view_View_read_ok hx11) (.cons rfl (.p rfl) (.cons rfl .d .nil)) (callIn1 rfl ⟨(by simp [AV.live, lk, Nat.beq]), trivial, trivial⟩ rfl (OD.dat_live (oviewView_dat _)) (by simp)) (.inl rfl)) <|
      .nil rfl
    ) ?_)
    refine cw_leads (leads_open (o := 0) (y := .st [.ifc 26 (.d (.at (eviewPlain x10.1))), .map 6, .arr 7 0, .arr 8 0]) (news := [(6, .map 0 (mD eapiKey eapiChange x10.2.1)), (7, .arr 0 49 (x10.2.2.1.map eapiSpan)), (8, .arr 0 1 (x10.2.2.2.map eMapiKeyapiChange))]) rfl (.st (.cons (.av rfl) (.cons (.map rfl) (.cons (.arr rfl) (.cons (.arr rfl) .nil))))) rfl rfl ⟨rfl, rfl, rfl, trivial⟩) ?_
    refine cw_weak (weak_of (l := [(0, .ptr 0 0), (3, .ptr 1 0)]) (m := [(0, .box (.st [.ifc 26 (.d (.at (eviewPlain x10.1))), .map 6, .arr 7 0, .arr 8 0])), (1, .box (.d (eapiKey a1))), (6, .map 0 (mD eapiKey eapiChange x10.2.1)), (7, .arr 0 49 (x10.2.2.1.map eapiSpan)), (8, .arr 0 1 (x10.2.2.2.map eMapiKeyapiChange))]) ⟨⟨_, rfl, .ptr rfl rfl⟩, ⟨_, rfl, .ptr rfl rfl⟩, trivial⟩ ⟨.box rfl (.st (.cons (.ifc (.d rfl)) (.cons (.map rfl rfl) (.cons (.arr rfl rfl) (.cons (.arr rfl rfl) .nil))))), .box rfl (.d rfl), .map rfl rfl, .arr rfl rfl, .arr rfl rfl, trivial⟩ (dropK rfl)) ?_
    obtain ⟨x13, hx14, h15⟩ := bind_some (x := view_Plain_Get x10.1 a1) h12
    refine cw_seq (cw_region_any mixed (by kernel_rfl) (
      .cons (o_mv rfl rfl .no rfl) <|
      .cons (o_nilP rfl rfl .no rfl) <|
      .cons (o_fldP rfl rfl .no rfl fld71_0 (by decide)) <|
      .cons (o_ldP [0] rfl rfl .no rfl rfl rfl ta67 rfl rfl) <|
      .cons (o_ldP [] rfl rfl .no rfl rfl rfl ta29 rfl rfl) <|
      .cons (o_inv (fun o => o) rfl rfl .no rfl Tryz.func137 rfl rfl rfl hm26_Get (view_Plain_Get_ok hx14) (.cons rfl .d (.cons rfl .d .nil)) (by decide) (callIn0 ⟨trivial, trivial, trivial⟩) (.inl rfl)) <|
      .cons (o_mv rfl rfl .no rfl) <|
      .cons (o_ext rfl rfl .no rfl rfl) <|
      .cons (o_ext rfl rfl .no rfl rfl) <|
      .cons (o_ext rfl rfl .no rfl rfl) <|
      .cons (o_as rfl rfl .no rfl) <|
      .cons (o_as rfl rfl .no rfl) <|
      .cons (o_as rfl rfl .no rfl) <|
      .nil rfl
    ) (by kernel_rfl) ?_)
    refine cw_seq ?_
    refine cw_seq (cw_region (
      .cons (o_mv rfl rfl .no rfl) <|
      .cons (o_bin rfl rfl .no rfl rfl (b_neq _ _) rfl) <|
      .nil rfl
    ) ?_)
    rcases cond_some h15 with ⟨hc16, h17⟩ | ⟨hc16, h18⟩
    · refine cw_condT rfl hc16 ?_
      refine cw_seq (cw_region (
        .cons (o_mv rfl rfl .no rfl) <|
        .cons (o_as rfl rfl .no rfl) <|
        .cons (o_as rfl rfl .no rfl) <|
        .cons (o_as rfl rfl .no rfl) <|
        .nil rfl
      ) ?_)
      have heq := ((Option.some.inj h17).symm).symm
      subst heq
      exact cw_ret ⟨_, (show Leads _ _ (St.of [(4, .d (estring (ByteArray.mk #[]))), (5, .d (ebool false)), (6, .d (eapiErrno x13.2.2))] [(0, .own (oviewView (x10.1, x10.2.1, x10.2.2.1, x10.2.2.2)))]) from .trans (leads_pack (o := 0) (y := .st [.ifc 26 (.d (.at (eviewPlain x10.1))), .map 6, .arr 7 0, .arr 8 0]) (x := oviewView (x10.1, x10.2.1, x10.2.2.1, x10.2.2.2)) (l := [(4, .d (estring (ByteArray.mk #[]))), (5, .d (ebool false)), (6, .d (eapiErrno x13.2.2))]) (m := [(0, .own (oviewView (x10.1, x10.2.1, x10.2.2.1, x10.2.2.2)))]) rfl (.st (.cons (.av rfl) (.cons (.map rfl) (.cons (.arr rfl) (.cons (.arr rfl) .nil))))) rfl rfl ⟨⟨rfl, trivial⟩, ⟨rfl, trivial⟩, ⟨rfl, trivial⟩, trivial⟩ ⟨.inl rfl, trivial⟩ rfl (OD.dat_live (oviewView_dat _)) ⟨rfl, rfl, rfl, trivial⟩ (dropK rfl)) (.w (weak_of ⟨⟨_, rfl, .d rfl⟩, ⟨_, rfl, .d rfl⟩, ⟨_, rfl, .d rfl⟩, trivial⟩ ⟨.own rfl (.of_eq rfl (oviewView_dat _)), trivial⟩ (dropK rfl)))), .inr rfl, _, res3 rfl rfl rfl rfl, rfl, rfl⟩
    · refine cw_condF rfl hc16 ?_
      refine cw_skip ?_
      refine cw_seq (cw_region (
        .cons (o_mv rfl rfl .no rfl) <|
        .cons (o_mv rfl rfl .no rfl) <|
        .cons (o_as rfl rfl .no rfl) <|
        .cons (o_as rfl rfl .no rfl) <|
        .cons (o_as rfl rfl .no rfl) <|
        .nil rfl
      ) ?_)
      have heq := ((Option.some.inj h18).symm).symm
      subst heq
      exact cw_ret ⟨_, (show Leads _ _ (St.of [(4, .d (estring x13.1)), (5, .d (ebool x13.2.1)), (6, .d (eapiErrno 0))] [(0, .own (oviewView (x10.1, x10.2.1, x10.2.2.1, x10.2.2.2)))]) from .trans (leads_pack (o := 0) (y := .st [.ifc 26 (.d (.at (eviewPlain x10.1))), .map 6, .arr 7 0, .arr 8 0]) (x := oviewView (x10.1, x10.2.1, x10.2.2.1, x10.2.2.2)) (l := [(4, .d (estring x13.1)), (5, .d (ebool x13.2.1)), (6, .d (eint 0))]) (m := [(0, .own (oviewView (x10.1, x10.2.1, x10.2.2.1, x10.2.2.2)))]) rfl (.st (.cons (.av rfl) (.cons (.map rfl) (.cons (.arr rfl) (.cons (.arr rfl) .nil))))) rfl rfl ⟨⟨rfl, trivial⟩, ⟨rfl, trivial⟩, ⟨rfl, trivial⟩, trivial⟩ ⟨.inl rfl, trivial⟩ rfl (OD.dat_live (oviewView_dat _)) ⟨rfl, rfl, rfl, trivial⟩ (dropK rfl)) (.w (weak_of ⟨⟨_, rfl, .d rfl⟩, ⟨_, rfl, .d rfl⟩, ⟨_, rfl, .d rfl⟩, trivial⟩ ⟨.own rfl (.of_eq rfl (oviewView_dat _)), trivial⟩ (dropK rfl)))), .inr rfl, _, res3 rfl rfl rfl rfl, rfl, rfl⟩

set_option maxHeartbeats 4000000 in
set_option maxRecDepth 100000 in
theorem view_View_Changes_ok {a0 : ((List ((List UInt8) × ByteArray)) × (List ((List UInt8) × ((List UInt8) × ByteArray × Bool))) × (List ((List UInt8) × (List UInt8) × Bool)) × (List (List ((List UInt8) × ((List UInt8) × ByteArray × Bool)))))} {r : ((List ((List UInt8) × ByteArray × Bool)) × ((List ((List UInt8) × ByteArray)) × (List ((List UInt8) × ((List UInt8) × ByteArray × Bool))) × (List ((List UInt8) × (List UInt8) × Bool)) × (List (List ((List UInt8) × ((List UInt8) × ByteArray × Bool))))))} (h : view_View_Changes a0 = some r) : FnOk Tryz.prog 12 [.ptr 0 0] 1 (lk [(0, .own (oviewView a0))]) (fun rr oo => rr = .arr 1 0 ∧ oo = lk [(0, .own (oviewView r.2)), (1, .arr 0 26 (r.1.map eapiChange))]) := by
  refine fnOk_of Tryz.func12 rfl rfl (cw_post ?_)
  unfold view_View_Changes at h
  refine cw_seq (cw_region (
    .cons (o_as rfl rfl .no rfl) <|
    .nil rfl
  ) ?_)
  refine cw_leads (leads_open (o := 0) (y := .st [.ifc 26 (.d (.at (eviewPlain a0.1))), .map 5, .arr 2 0, .arr 3 0]) (news := [(5, .map 0 (mD eapiKey eapiChange a0.2.1)), (2, .arr 0 49 (a0.2.2.1.map eapiSpan)), (3, .arr 0 1 (a0.2.2.2.map eMapiKeyapiChange))]) rfl (.st (.cons (.av rfl) (.cons (.map rfl) (.cons (.arr rfl) (.cons (.arr rfl) .nil))))) rfl rfl ⟨rfl, rfl, rfl, trivial⟩) ?_
  refine cw_weak (weak_of (l := [(0, .ptr 0 0)]) (m := [(0, .box (.st [.ifc 26 (.d (.at (eviewPlain a0.1))), .map 5, .arr 2 0, .arr 3 0])), (2, .arr 0 49 (a0.2.2.1.map eapiSpan)), (3, .arr 0 1 (a0.2.2.2.map eMapiKeyapiChange)), (5, .map 0 (mD eapiKey eapiChange a0.2.1))]) ⟨⟨_, rfl, .ptr rfl rfl⟩, trivial⟩ ⟨.box rfl (.st (.cons (.ifc (.d rfl)) (.cons (.map rfl rfl) (.cons (.arr rfl rfl) (.cons (.arr rfl rfl) .nil))))), .arr rfl rfl, .arr rfl rfl, .map rfl rfl, trivial⟩ (dropK rfl)) ?_
  obtain ⟨x1, hx2, h3⟩ := bind_some h
  have hx2g := fits_some hx2
  have ho6 := forOrd_some h3
  refine cw_seq (cw_regionA (
    .cons (o_mv rfl rfl .no rfl) <|
    .cons (o_nilP rfl rfl .no rfl) <|
    .cons (o_fldP rfl rfl .no rfl fld71_1 (by decide)) <|
    .cons (o_ldP [1] rfl rfl .no rfl rfl rfl ta68 rfl rfl) <|
    .cons (o_callX (fun n => bif Nat.beq n 0 then 5 else 4) rfl rfl .no Tryz.func34 rfl rfl (values34_ok (ek := eapiKey) (ev := eapiChange) (m := a0.2.1) 0) (.cons rfl (.m rfl) .nil) (callIn1N rfl ⟨(by simp [AV.live, lk]), trivial⟩ (by decide) rfl trivial rfl (by simp)) (.inl rfl)) <|
    .any (a_callX (fun n => bif Nat.beq n 0 then 5 else 4) rfl rfl Tryz.func33 rfl rfl (collect33_ok (ek := eapiKey) (m := a0.2.1) 0 hx2g) (.cons rfl (.f1 rfl) .nil) (callIn2 rfl ⟨(by simp [AV.live, AV.lives, lk, Nat.beq]), trivial⟩ (by decide) rfl trivial rfl (by simp [OB.live, AV.live, lk, Nat.beq]) (by simp)) (fun _ => (callIn2 rfl ⟨(by simp [AV.live, AV.lives, lk, Nat.beq]), trivial⟩ (by decide) rfl trivial rfl (by simp [OB.live, AV.live, lk, Nat.beq]) (by simp))) (.inl rfl)) fun s' hs => ?_))
  obtain ⟨x4, hl5, rfl⟩ := hs
  have h7 := ho6 x4 hl5
  obtain ⟨x8, hx9, h10⟩ := bind_some (x := delta_Join ([(x4.map fun p => p.2)])) h7
  refine (
    .cons (o_bsl (rows := ([(x4.map fun p => p.2)] : List (List ((List UInt8) × ByteArray × Bool))).map eSapiChange) rfl rfl .no (.cons rfl .nil) rfl sl39 sz37 ze37 rfl (map_sz siSapiChange) (by decide)) <|
    .cons (o_callO 1 rfl rfl .no Tryz.func32 rfl rfl (delta_Join_ok hx9) (.cons rfl .d .nil) ⟨trivial, trivial⟩ rfl (.inl rfl)) <|
    .cons (o_as rfl rfl .no rfl) <|
    .nil rfl ?_)
  have heq := ((Option.some.inj h10).symm).symm
  subst heq
  exact cw_ret ⟨_, (show Leads _ _ (St.of [(2, .arr 1 0)] [(0, .own (oviewView (a0.1, a0.2.1, a0.2.2.1, a0.2.2.2))), (1, .arr 0 26 (x8.map eapiChange))]) from .trans (leads_pack (o := 0) (y := .st [.ifc 26 (.d (.at (eviewPlain a0.1))), .map 5, .arr 2 0, .arr 3 0]) (x := oviewView (a0.1, a0.2.1, a0.2.2.1, a0.2.2.2)) (l := [(2, .arr 1 0)]) (m := [(0, .own (oviewView (a0.1, a0.2.1, a0.2.2.1, a0.2.2.2))), (1, .arr 0 26 (x8.map eapiChange))]) rfl (.st (.cons (.av rfl) (.cons (.map rfl) (.cons (.arr rfl) (.cons (.arr rfl) .nil))))) rfl rfl ⟨⟨rfl, (by simp [AV.live, AV.lives, lk, Nat.beq])⟩, trivial⟩ ⟨.inl rfl, (.inr ⟨rfl, trivial⟩), trivial⟩ rfl (OD.dat_live (oviewView_dat _)) ⟨rfl, rfl, rfl, trivial⟩ (dropK rfl)) (.w (weak_of ⟨⟨_, rfl, .arr rfl rfl⟩, trivial⟩ ⟨.own rfl (.of_eq rfl (oviewView_dat _)), .arr rfl rfl, trivial⟩ (dropK rfl)))), .inr rfl, _, res1 rfl rfl, rfl, rfl⟩

set_option maxRecDepth 100000 in
theorem view_View_Mark_ok {a0 : ((List ((List UInt8) × ByteArray)) × (List ((List UInt8) × ((List UInt8) × ByteArray × Bool))) × (List ((List UInt8) × (List UInt8) × Bool)) × (List (List ((List UInt8) × ((List UInt8) × ByteArray × Bool)))))} {r : (Int × ((List ((List UInt8) × ByteArray)) × (List ((List UInt8) × ((List UInt8) × ByteArray × Bool))) × (List ((List UInt8) × (List UInt8) × Bool)) × (List (List ((List UInt8) × ((List UInt8) × ByteArray × Bool))))))} (h : view_View_Mark a0 = some r) : FnOk Tryz.prog 15 [.ptr 0 0] 1 (lk [(0, .own (oviewView a0))]) (fun rr oo => rr = .d (eint r.1) ∧ oo = lk [(0, .own (oviewView r.2))]) := by
  refine fnOk_of Tryz.func15 rfl rfl (cw_post ?_)
  unfold view_View_Mark at h
  refine cw_seq (cw_region (
    .cons (o_as rfl rfl .no rfl) <|
    .nil rfl
  ) ?_)
  refine cw_leads (leads_open (o := 0) (y := .st [.ifc 26 (.d (.at (eviewPlain a0.1))), .map 1, .arr 2 0, .arr 3 0]) (news := [(1, .map 0 (mD eapiKey eapiChange a0.2.1)), (2, .arr 0 49 (a0.2.2.1.map eapiSpan)), (3, .arr 0 1 (a0.2.2.2.map eMapiKeyapiChange))]) rfl (.st (.cons (.av rfl) (.cons (.map rfl) (.cons (.arr rfl) (.cons (.arr rfl) .nil))))) rfl rfl ⟨rfl, rfl, rfl, trivial⟩) ?_
  refine cw_weak (weak_of (l := [(0, .ptr 0 0)]) (m := [(0, .box (.st [.ifc 26 (.d (.at (eviewPlain a0.1))), .map 1, .arr 2 0, .arr 3 0])), (1, .map 0 (mD eapiKey eapiChange a0.2.1)), (2, .arr 0 49 (a0.2.2.1.map eapiSpan)), (3, .arr 0 1 (a0.2.2.2.map eMapiKeyapiChange))]) ⟨⟨_, rfl, .ptr rfl rfl⟩, trivial⟩ ⟨.box rfl (.st (.cons (.ifc (.d rfl)) (.cons (.map rfl rfl) (.cons (.arr rfl rfl) (.cons (.arr rfl rfl) .nil))))), .map rfl rfl, .arr rfl rfl, .arr rfl rfl, trivial⟩ (dropK rfl)) ?_
  obtain ⟨x1, hx2, h3⟩ := bind_some h
  have hx2g := fits_some hx2
  refine cw_seq (cw_region_any mixed (by kernel_rfl) (
    .cons (o_mv rfl rfl .no rfl) <|
    .cons (o_mv rfl rfl .no rfl) <|
    .cons (o_nilP rfl rfl .no rfl) <|
    .cons (o_fldP rfl rfl .no rfl fld71_3 (by decide)) <|
    .cons (o_ldP [3] rfl rfl .no rfl rfl rfl ta69 rfl rfl) <|
    .cons (o_mv rfl rfl .no rfl) <|
    .cons (o_nilP rfl rfl .no rfl) <|
    .cons (o_fldP rfl rfl .no rfl fld71_1 (by decide)) <|
    .cons (o_ldP [1] rfl rfl .no rfl rfl rfl ta68 rfl rfl) <|
    .cons (o_callX (fun _ => 1) rfl rfl .no Tryz.func35 rfl rfl (clone35D_ok (ek := eapiKey) (ev := eapiChange) (m := a0.2.1) 0) (.cons rfl (.m rfl) .nil) (callIn1 rfl ⟨(by simp [AV.live, lk]), trivial⟩ rfl trivial (by simp)) (.inl rfl)) <|
    .cons (o_bsl (rows := ([a0.2.1] : List (List ((List UInt8) × ((List UInt8) × ByteArray × Bool)))).map eMapiKeyapiChange) rfl rfl .no (.cons rfl .nil) rfl sl69 sz68 ze68 rfl (map_sz siMapiKeyapiChange) (by decide)) <|
    .cons (o_appM (enc := eMapiKeyapiChange) (xs := a0.2.2.2) (ys := [a0.2.1]) rfl rfl .no rfl rfl rfl siMapiKeyapiChange sl69 sl69 sz68 by68 ze68 rfl (by decide) hx2g) <|
    .cons (o_nilP rfl rfl .no rfl) <|
    .cons (o_fldP rfl rfl .no rfl fld71_3 (by decide)) <|
    .cons (o_st [3] rfl .no rfl rfl rfl rfl rfl sz69 rfl rfl) <|
    .nil rfl
  ) (by kernel_rfl) ?_)
  refine cw_seq (cw_region (
    .cons (o_mv rfl rfl .no rfl) <|
    .cons (o_nilP rfl rfl .no rfl) <|
    .cons (o_fldP rfl rfl .no rfl fld71_3 (by decide)) <|
    .cons (o_ldP [3] rfl rfl .no rfl rfl rfl ta69 rfl rfl) <|
    .cons (o_lenAM (enc := eMapiKeyapiChange) (xs := (a0.2.2.2 ++ [a0.2.1])) rfl rfl .no rfl rfl sl69) <|
    .cons (o_bin rfl rfl .no rfl rfl (b_sub _ _) rfl) <|
    .cons (o_as rfl rfl .no rfl) <|
    .nil rfl
  ) ?_)
  have heq := ((Option.some.inj h3).symm).symm
  subst heq
  exact cw_ret ⟨_, (show Leads _ _ (St.of [(2, .d (eint (IntKind.wrap .i64 (((a0.2.2.2 ++ [a0.2.1]).length : Int) - 1))))] [(0, .own (oviewView (a0.1, a0.2.1, a0.2.2.1, (a0.2.2.2 ++ [a0.2.1]))))]) from .trans (leads_pack (o := 0) (y := .st [.ifc 26 (.d (.at (eviewPlain a0.1))), .map 1, .arr 2 0, .arr 3 (0 + 1)]) (x := oviewView (a0.1, a0.2.1, a0.2.2.1, (a0.2.2.2 ++ [a0.2.1]))) (l := [(2, .d (eint (IntKind.wrap .i64 (((a0.2.2.2 ++ [a0.2.1]).length : Int) - 1))))]) (m := [(0, .own (oviewView (a0.1, a0.2.1, a0.2.2.1, (a0.2.2.2 ++ [a0.2.1]))))]) rfl (.st (.cons (.av rfl) (.cons (.map rfl) (.cons (.arr rfl) (.cons (.arr rfl) .nil))))) rfl rfl ⟨⟨rfl, trivial⟩, trivial⟩ ⟨.inl rfl, trivial⟩ rfl (OD.dat_live (oviewView_dat _)) ⟨rfl, rfl, rfl, trivial⟩ (dropK rfl)) (.w (weak_of ⟨⟨_, rfl, .d rfl⟩, trivial⟩ ⟨.own rfl (.of_eq rfl (oviewView_dat _)), trivial⟩ (dropK rfl)))), .inr rfl, _, res1 rfl rfl, rfl, rfl⟩

set_option maxRecDepth 100000 in
theorem view_View_Back_ok {a0 : ((List ((List UInt8) × ByteArray)) × (List ((List UInt8) × ((List UInt8) × ByteArray × Bool))) × (List ((List UInt8) × (List UInt8) × Bool)) × (List (List ((List UInt8) × ((List UInt8) × ByteArray × Bool)))))} {a1 : Int} {r : (Int × ((List ((List UInt8) × ByteArray)) × (List ((List UInt8) × ((List UInt8) × ByteArray × Bool))) × (List ((List UInt8) × (List UInt8) × Bool)) × (List (List ((List UInt8) × ((List UInt8) × ByteArray × Bool))))))} (h : view_View_Back a0 a1 = some r) : FnOk Tryz.prog 19 [.ptr 0 0, .d (eint a1)] 1 (lk [(0, .own (oviewView a0))]) (fun rr oo => rr = .d (eapiErrno r.1) ∧ oo = lk [(0, .own (oviewView r.2))]) := by
  refine fnOk_of Tryz.func19 rfl rfl (cw_post ?_)
  unfold view_View_Back at h
  refine cw_seq (cw_region (
    .cons (o_as rfl rfl .no rfl) <|
    .nil rfl
  ) ?_)
  refine cw_seq ?_
  refine cw_leads (leads_open (o := 0) (y := .st [.ifc 26 (.d (.at (eviewPlain a0.1))), .map 1, .arr 2 0, .arr 3 0]) (news := [(1, .map 0 (mD eapiKey eapiChange a0.2.1)), (2, .arr 0 49 (a0.2.2.1.map eapiSpan)), (3, .arr 0 1 (a0.2.2.2.map eMapiKeyapiChange))]) rfl (.st (.cons (.av rfl) (.cons (.map rfl) (.cons (.arr rfl) (.cons (.arr rfl) .nil))))) rfl rfl ⟨rfl, rfl, rfl, trivial⟩) ?_
  refine cw_weak (weak_of (l := [(0, .ptr 0 0), (1, .d (eint a1))]) (m := [(0, .box (.st [.ifc 26 (.d (.at (eviewPlain a0.1))), .map 1, .arr 2 0, .arr 3 0])), (1, .map 0 (mD eapiKey eapiChange a0.2.1)), (2, .arr 0 49 (a0.2.2.1.map eapiSpan)), (3, .arr 0 1 (a0.2.2.2.map eMapiKeyapiChange))]) ⟨⟨_, rfl, .ptr rfl rfl⟩, ⟨_, rfl, .d rfl⟩, trivial⟩ ⟨.box rfl (.st (.cons (.ifc (.d rfl)) (.cons (.map rfl rfl) (.cons (.arr rfl rfl) (.cons (.arr rfl rfl) .nil))))), .map rfl rfl, .arr rfl rfl, .arr rfl rfl, trivial⟩ (dropK rfl)) ?_
  obtain ⟨o7, hj8, h9⟩ := bind_some h
  refine cw_join (fun (z : Bool) => St.of [(0, .ptr 0 0), (1, .d (eint a1)), (15, .d (ebool z))] [(0, .own (oviewView (a0.1, a0.2.1, a0.2.2.1, a0.2.2.2)))]) (fun (z : Bool) => o7 = z) ?_ ?_
  · intro v22 hv23; subst hv23
    rcases cond_some h9 with ⟨hc13, h14⟩ | ⟨hc13, h15⟩
    · refine cw_condT rfl hc13 ?_
      refine cw_seq (cw_region (
        .cons (o_as rfl rfl .no rfl) <|
        .nil rfl
      ) ?_)
      have heq := ((Option.some.inj h14).symm).symm
      subst heq
      exact cw_ret ⟨_, (show Leads _ _ (St.of [(4, .d (eapiErrno 1))] [(0, .own (oviewView (a0.1, a0.2.1, a0.2.2.1, a0.2.2.2)))]) from .w (weak_of ⟨⟨_, rfl, .d rfl⟩, trivial⟩ ⟨.own rfl (.of_eq rfl (oviewView_dat _)), trivial⟩ (dropK rfl))), .inr rfl, _, res1 rfl rfl, rfl, rfl⟩
    · refine cw_condF rfl hc13 ?_
      refine cw_skip ?_
      refine cw_leads (leads_open (o := 0) (y := .st [.ifc 26 (.d (.at (eviewPlain a0.1))), .map 4, .arr 5 0, .arr 6 0]) (news := [(4, .map 0 (mD eapiKey eapiChange a0.2.1)), (5, .arr 0 49 (a0.2.2.1.map eapiSpan)), (6, .arr 0 1 (a0.2.2.2.map eMapiKeyapiChange))]) rfl (.st (.cons (.av rfl) (.cons (.map rfl) (.cons (.arr rfl) (.cons (.arr rfl) .nil))))) rfl rfl ⟨rfl, rfl, rfl, trivial⟩) ?_
      refine cw_weak (weak_of (l := [(0, .ptr 0 0), (1, .d (eint a1))]) (m := [(0, .box (.st [.ifc 26 (.d (.at (eviewPlain a0.1))), .map 4, .arr 5 0, .arr 6 0])), (4, .map 0 (mD eapiKey eapiChange a0.2.1)), (5, .arr 0 49 (a0.2.2.1.map eapiSpan)), (6, .arr 0 1 (a0.2.2.2.map eMapiKeyapiChange))]) ⟨⟨_, rfl, .ptr rfl rfl⟩, ⟨_, rfl, .d rfl⟩, trivial⟩ ⟨.box rfl (.st (.cons (.ifc (.d rfl)) (.cons (.map rfl rfl) (.cons (.arr rfl rfl) (.cons (.arr rfl rfl) .nil))))), .map rfl rfl, .arr rfl rfl, .arr rfl rfl, trivial⟩ (dropK rfl)) ?_
      obtain ⟨x16, hx17, h18⟩ := bind_some h15
      have hx17g := gx_some hx17
      refine cw_seq (cw_region (
        .cons (o_mv rfl rfl .no rfl) <|
        .cons (o_mv rfl rfl .no rfl) <|
        .cons (o_nilP rfl rfl .no rfl) <|
        .cons (o_fldP rfl rfl .no rfl fld71_3 (by decide)) <|
        .cons (o_ldP [3] rfl rfl .no rfl rfl rfl ta69 rfl rfl) <|
        .cons (o_mv rfl rfl .no rfl) <|
        .cons (o_ixAM (enc := eMapiKeyapiChange) (xs := a0.2.2.2) rfl rfl .no rfl rfl rfl sl69 sz68 hx17g.1 hx17g.2) <|
        .cons (o_ldEM (enc := eMapiKeyapiChange) (xs := a0.2.2.2) (r := x16) [] rfl rfl .no rfl rfl hx17g.2 rfl ta68 rfl rfl) <|
        .cons (o_callO 7 rfl rfl .no Tryz.func35 rfl rfl (clone35N_ok (ek := eapiKey) (ev := eapiChange) (m := x16)) (.cons rfl .d .nil) ⟨trivial, trivial⟩ rfl (.inl rfl)) <|
        .cons (o_nilP rfl rfl .no rfl) <|
        .cons (o_fldP rfl rfl .no rfl fld71_1 (by decide)) <|
        .cons (o_st [1] rfl .no rfl rfl rfl rfl rfl sz68 rfl rfl) <|
        .nil rfl
      ) ?_)
      obtain ⟨x19, hx20, h21⟩ := bind_some h18
      have hx20g := cutB_some hx20
      refine cw_seq (cw_region (
        .cons (o_mv rfl rfl .no rfl) <|
        .cons (o_mv rfl rfl .no rfl) <|
        .cons (o_nilP rfl rfl .no rfl) <|
        .cons (o_fldP rfl rfl .no rfl fld71_3 (by decide)) <|
        .cons (o_ldP [3] rfl rfl .no rfl rfl rfl ta69 rfl rfl) <|
        .cons (o_mv rfl rfl .no rfl) <|
        .cons (o_bin rfl rfl .no rfl rfl (b_add _ _) rfl) <|
        .cons (o_preM (enc := eMapiKeyapiChange) (xs := a0.2.2.2) rfl rfl .no rfl rfl sl69 sz68 (.val rfl hx20g.2.1) hx20g.2.2.2) <|
        .cons (o_nilP rfl rfl .no rfl) <|
        .cons (o_fldP rfl rfl .no rfl fld71_3 (by decide)) <|
        .cons (o_st [3] rfl .no rfl rfl rfl rfl rfl sz69 rfl rfl) <|
        .nil rfl
      ) ?_)
      refine cw_seq (cw_region (
        .cons (o_as rfl rfl .no rfl) <|
        .nil rfl
      ) ?_)
      have heq := ((Option.some.inj h21).symm).symm
      subst heq
      exact cw_ret ⟨_, (show Leads _ _ (St.of [(4, .d (eapiErrno 0))] [(0, .own (oviewView (a0.1, x16, a0.2.2.1, (List.take (IntKind.wrap .i64 (a1 + 1)).toNat a0.2.2.2))))]) from .trans (leads_pack (o := 0) (y := .st [.ifc 26 (.d (.at (eviewPlain a0.1))), .map 7, .arr 5 0, .arr 6 (0 + 1)]) (x := oviewView (a0.1, x16, a0.2.2.1, (List.take (IntKind.wrap .i64 (a1 + 1)).toNat a0.2.2.2))) (l := [(4, .d (eint 0))]) (m := [(0, .own (oviewView (a0.1, x16, a0.2.2.1, (List.take (IntKind.wrap .i64 (a1 + 1)).toNat a0.2.2.2))))]) rfl (.st (.cons (.av rfl) (.cons (.map rfl) (.cons (.arr rfl) (.cons (.arr rfl) .nil))))) rfl rfl ⟨⟨rfl, trivial⟩, trivial⟩ ⟨.inl rfl, trivial⟩ rfl (OD.dat_live (oviewView_dat _)) ⟨rfl, rfl, rfl, trivial⟩ (dropK rfl)) (.w (weak_of ⟨⟨_, rfl, .d rfl⟩, trivial⟩ ⟨.own rfl (.of_eq rfl (oviewView_dat _)), trivial⟩ (dropK rfl)))), .inr rfl, _, res1 rfl rfl, rfl, rfl⟩
  · skip
    rcases cond_some hj8 with ⟨hc10, h11⟩ | ⟨hc10, h12⟩
    · skip
      refine cw_region (
        .cons (o_mv rfl rfl .no rfl) <|
        .cons (o_bin rfl rfl .no rfl rfl (b_lss _ _) rfl) <|
        .cons (o_mv rfl rfl .no rfl) <|
        .cons (o_noT rfl rfl rfl rfl hc10) <|
        .cons (o_noT rfl rfl rfl rfl hc10) <|
        .cons (o_noT rfl rfl rfl rfl hc10) <|
        .cons (o_noT rfl rfl rfl rfl hc10) <|
        .cons (o_noT rfl rfl rfl rfl hc10) <|
        .cons (o_noT rfl rfl rfl rfl hc10) <|
        .cons (o_noT rfl rfl rfl rfl hc10) <|
        .cons (o_pickT rfl rfl .no rfl hc10 rfl) <|
        .nil rfl
      ) ?_
      exact ⟨true, (Option.some.inj h11).symm, .trans (leads_pack (o := 0) (y := .st [.ifc 26 (.d (.at (eviewPlain a0.1))), .map 1, .arr 2 0, .arr 3 0]) (x := oviewView (a0.1, a0.2.1, a0.2.2.1, a0.2.2.2)) (l := [(0, .ptr 0 0), (1, .d (eint a1)), (15, .d (ebool true))]) (m := [(0, .own (oviewView (a0.1, a0.2.1, a0.2.2.1, a0.2.2.2)))]) rfl (.st (.cons (.av rfl) (.cons (.map rfl) (.cons (.arr rfl) (.cons (.arr rfl) .nil))))) rfl rfl ⟨⟨rfl, (by simp [AV.live, AV.lives, lk, Nat.beq])⟩, ⟨rfl, trivial⟩, ⟨rfl, trivial⟩, trivial⟩ ⟨.inl rfl, trivial⟩ rfl (OD.dat_live (oviewView_dat _)) ⟨rfl, rfl, rfl, trivial⟩ (dropK rfl)) (.w (weak_of ⟨⟨_, rfl, .ptro rfl rfl⟩, ⟨_, rfl, .d rfl⟩, ⟨_, rfl, .d rfl⟩, trivial⟩ ⟨.own rfl (.of_eq rfl (oviewView_dat _)), trivial⟩ (dropK rfl)))⟩
    · skip
      refine cw_region (
        .cons (o_mv rfl rfl .no rfl) <|
        .cons (o_bin rfl rfl .no rfl rfl (b_lss _ _) rfl) <|
        .cons (o_mv rfl rfl .no rfl) <|
        .cons (o_mv rfl rfl (.yes rfl rfl hc10) rfl) <|
        .cons (o_mv rfl rfl (.yes rfl rfl hc10) rfl) <|
        .cons (o_nilP rfl rfl (.yes rfl rfl hc10) rfl) <|
        .cons (o_fldP rfl rfl (.yes rfl rfl hc10) rfl fld71_3 (by decide)) <|
        .cons (o_ldP [3] rfl rfl (.yes rfl rfl hc10) rfl rfl rfl ta69 rfl rfl) <|
        .cons (o_lenAM (enc := eMapiKeyapiChange) (xs := a0.2.2.2) rfl rfl (.yes rfl rfl hc10) rfl rfl sl69) <|
        .cons (o_bin rfl rfl (.yes rfl rfl hc10) rfl rfl (b_geq _ _) rfl) <|
        .cons (o_pickF rfl rfl .no rfl hc10 rfl) <|
        .nil rfl
      ) ?_
      exact ⟨(decide (a1 ≥ (a0.2.2.2.length : Int))), (Option.some.inj h12).symm, .trans (leads_pack (o := 0) (y := .st [.ifc 26 (.d (.at (eviewPlain a0.1))), .map 1, .arr 2 0, .arr 3 0]) (x := oviewView (a0.1, a0.2.1, a0.2.2.1, a0.2.2.2)) (l := [(0, .ptr 0 0), (1, .d (eint a1)), (15, .d (ebool (decide (a1 ≥ (a0.2.2.2.length : Int)))))]) (m := [(0, .own (oviewView (a0.1, a0.2.1, a0.2.2.1, a0.2.2.2)))]) rfl (.st (.cons (.av rfl) (.cons (.map rfl) (.cons (.arr rfl) (.cons (.arr rfl) .nil))))) rfl rfl ⟨⟨rfl, (by simp [AV.live, AV.lives, lk, Nat.beq])⟩, ⟨rfl, trivial⟩, ⟨rfl, trivial⟩, trivial⟩ ⟨.inl rfl, trivial⟩ rfl (OD.dat_live (oviewView_dat _)) ⟨rfl, rfl, rfl, trivial⟩ (dropK rfl)) (.w (weak_of ⟨⟨_, rfl, .ptro rfl rfl⟩, ⟨_, rfl, .d rfl⟩, ⟨_, rfl, .d rfl⟩, trivial⟩ ⟨.own rfl (.of_eq rfl (oviewView_dat _)), trivial⟩ (dropK rfl)))⟩

set_option maxRecDepth 100000 in
theorem view_View_Scan_ok {a0 : ((List ((List UInt8) × ByteArray)) × (List ((List UInt8) × ((List UInt8) × ByteArray × Bool))) × (List ((List UInt8) × (List UInt8) × Bool)) × (List (List ((List UInt8) × ((List UInt8) × ByteArray × Bool)))))} {a1 : ((List UInt8) × (List UInt8) × Bool)} {r : ((List ((List UInt8) × ByteArray)) × Int × ((List ((List UInt8) × ByteArray)) × (List ((List UInt8) × ((List UInt8) × ByteArray × Bool))) × (List ((List UInt8) × (List UInt8) × Bool)) × (List (List ((List UInt8) × ((List UInt8) × ByteArray × Bool))))))} (h : view_View_Scan a0 a1 = some r) : FnOk Tryz.prog 18 [.ptr 0 0, .d (eapiSpan a1)] 1 (lk [(0, .own (oviewView a0))]) (fun rr oo => rr = .tup [.arr 1 0, .d (eapiErrno r.2.1)] ∧ oo = lk [(0, .own (oviewView r.2.2)), (1, .arr 0 25 (r.1.map eapiPair))]) := by
  refine fnOk_of Tryz.func18 rfl rfl (cw_post ?_)
  unfold view_View_Scan at h
  refine cw_seq (cw_region (
    .cons (o_box 9 rfl rfl .no rfl rfl rfl) <|
    .cons (o_as rfl rfl .no rfl) <|
    .cons (o_as rfl rfl .no rfl) <|
    .nil rfl
  ) ?_)
  obtain ⟨x1, hx2, h3⟩ := bind_some (x := view_View_read a0 a1) h
  refine cw_seq (cw_region (
    .cons (o_mv rfl rfl .no rfl) <|
    .cons (o_ldP [] rfl rfl .no rfl rfl rfl ta44 rfl rfl) <|
    .cons (o_callX (fun _ => 0) rfl rfl .no Tryz.func36 rfl rfl (view_View_read_ok hx2) (.cons rfl (.p rfl) (.cons rfl .d .nil)) (callIn1 rfl ⟨(by simp [AV.live, lk, Nat.beq]), trivial, trivial⟩ rfl (OD.dat_live (oviewView_dat _)) (by simp)) (.inl rfl)) <|
    .nil rfl
  ) ?_)
  refine cw_leads (leads_open (o := 0) (y := .st [.ifc 26 (.d (.at (eviewPlain x1.1))), .map 2, .arr 3 0, .arr 4 0]) (news := [(2, .map 0 (mD eapiKey eapiChange x1.2.1)), (3, .arr 0 49 (x1.2.2.1.map eapiSpan)), (4, .arr 0 1 (x1.2.2.2.map eMapiKeyapiChange))]) rfl (.st (.cons (.av rfl) (.cons (.map rfl) (.cons (.arr rfl) (.cons (.arr rfl) .nil))))) rfl rfl ⟨rfl, rfl, rfl, trivial⟩) ?_
  refine cw_weak (weak_of (l := [(0, .ptr 0 0), (3, .ptr 9 0)]) (m := [(0, .box (.st [.ifc 26 (.d (.at (eviewPlain x1.1))), .map 2, .arr 3 0, .arr 4 0])), (2, .map 0 (mD eapiKey eapiChange x1.2.1)), (3, .arr 0 49 (x1.2.2.1.map eapiSpan)), (4, .arr 0 1 (x1.2.2.2.map eMapiKeyapiChange)), (9, .box (.d (eapiSpan a1)))]) ⟨⟨_, rfl, .ptr rfl rfl⟩, ⟨_, rfl, .ptr rfl rfl⟩, trivial⟩ ⟨.box rfl (.st (.cons (.ifc (.d rfl)) (.cons (.map rfl rfl) (.cons (.arr rfl rfl) (.cons (.arr rfl rfl) .nil))))), .map rfl rfl, .arr rfl rfl, .arr rfl rfl, .box rfl (.d rfl), trivial⟩ (dropK rfl)) ?_
  obtain ⟨x4, hx5, h6⟩ := bind_some (x := view_Plain_Scan x1.1 a1) h3
  refine cw_seq (cw_region_any mixed (by kernel_rfl) (
    .cons (o_mv rfl rfl .no rfl) <|
    .cons (o_nilP rfl rfl .no rfl) <|
    .cons (o_fldP rfl rfl .no rfl fld71_0 (by decide)) <|
    .cons (o_ldP [0] rfl rfl .no rfl rfl rfl ta67 rfl rfl) <|
    .cons (o_ldP [] rfl rfl .no rfl rfl rfl ta44 rfl rfl) <|
    .cons (o_inv (fun o => o) rfl rfl .no rfl Tryz.func138 rfl rfl rfl hm26_Scan (view_Plain_Scan_ok hx5) (.cons rfl .d (.cons rfl .d .nil)) (by decide) (callIn0 ⟨trivial, trivial, trivial⟩) (.inl rfl)) <|
    .cons (o_mv rfl rfl .no rfl) <|
    .cons (o_ext rfl rfl .no rfl rfl) <|
    .cons (o_ext rfl rfl .no rfl rfl) <|
    .cons (o_as rfl rfl .no rfl) <|
    .cons (o_as rfl rfl .no rfl) <|
    .nil rfl
  ) (by kernel_rfl) ?_)
  refine cw_seq ?_
  refine cw_seq (cw_region (
    .cons (o_mv rfl rfl .no rfl) <|
    .cons (o_bin rfl rfl .no rfl rfl (b_neq _ _) rfl) <|
    .nil rfl
  ) ?_)
  rcases cond_some h6 with ⟨hc7, h8⟩ | ⟨hc7, h9⟩
  · refine cw_condT rfl hc7 ?_
    refine cw_seq (cw_region (
      .cons (o_mv rfl rfl .no rfl) <|
      .cons (o_as rfl rfl .no rfl) <|
      .cons (o_as rfl rfl .no rfl) <|
      .nil rfl
    ) ?_)
    have heq := ((Option.some.inj h8).symm).symm
    subst heq
    exact cw_ret ⟨_, (show Leads _ _ (St.of [(4, .arr 1 0), (5, .d (eapiErrno x4.2))] [(0, .own (oviewView (x1.1, x1.2.1, x1.2.2.1, x1.2.2.2))), (1, .arr 0 25 (([]).map eapiPair))]) from .trans (leads_pack (o := 0) (y := .st [.ifc 26 (.d (.at (eviewPlain x1.1))), .map 2, .arr 3 0, .arr 4 0]) (x := oviewView (x1.1, x1.2.1, x1.2.2.1, x1.2.2.2)) (l := [(4, .d (.v (.slice none 0 0))), (5, .d (eapiErrno x4.2))]) (m := [(0, .own (oviewView (x1.1, x1.2.1, x1.2.2.1, x1.2.2.2)))]) rfl (.st (.cons (.av rfl) (.cons (.map rfl) (.cons (.arr rfl) (.cons (.arr rfl) .nil))))) rfl rfl ⟨⟨rfl, trivial⟩, ⟨rfl, trivial⟩, trivial⟩ ⟨.inl rfl, trivial⟩ rfl (OD.dat_live (oviewView_dat _)) ⟨rfl, rfl, rfl, trivial⟩ (dropK rfl)) (.w (weak_of ⟨⟨_, rfl, .nila rfl rfl⟩, ⟨_, rfl, .d rfl⟩, trivial⟩ ⟨.own rfl (.of_eq rfl (oviewView_dat _)), .nil rfl, trivial⟩ (dropK rfl)))), .inr rfl, _, res2 rfl rfl rfl, rfl, rfl⟩
  · refine cw_condF rfl hc7 ?_
    refine cw_skip ?_
    refine cw_seq (cw_region (
      .cons (o_as rfl rfl .no rfl) <|
      .nil rfl
    ) ?_)
    refine cw_seq ?_
    refine cw_seq (cw_region (
      .cons (o_mv rfl rfl .no rfl) <|
      .cons (o_nilP rfl rfl .no rfl) <|
      .cons (o_fldP rfl rfl .no rfl fld71_1 (by decide)) <|
      .cons (o_ldP [1] rfl rfl .no rfl rfl rfl ta68 rfl rfl) <|
      .cons (o_range 5 rfl rfl .no rfl rfl mp68 rfl) <|
      .nil rfl
    ) ?_)
    have ho38 := forOrd_some h9
    refine cw_mapRange (V := (List ((List UInt8) × ByteArray × Bool))) (ek := eapiKey) (ev := eapiChange) (M := x1.2.1) (fun x34 hl42 => bind_ex (ho38 x34 hl42)) (fun (z : (List ((List UInt8) × ByteArray × Bool))) (l : List ((List UInt8) × ((List UInt8) × ByteArray × Bool))) => St.of [(3, .ptr 9 0), (6, .d (eSapiPair x4.1)), (8, .arr 8 0), (30, .it 5)] [(0, .box (.st [.ifc 26 (.d (.at (eviewPlain x1.1))), .map 2, .arr 3 0, .arr 4 0])), (2, .map 0 (mD eapiKey eapiChange x1.2.1)), (3, .arr 0 49 (x1.2.2.1.map eapiSpan)), (4, .arr 0 1 (x1.2.2.2.map eMapiKeyapiChange)), (5, .iter 2 0 (mD eapiKey eapiChange l) none), (8, .arr 0 26 (z.map eapiChange)), (9, .box (.d (eapiSpan a1)))]) (fun (z : (List ((List UInt8) × ByteArray × Bool))) => St.of [(6, .d (eSapiPair x4.1)), (8, .arr 8 0)] [(0, .box (.st [.ifc 26 (.d (.at (eviewPlain x1.1))), .map 2, .arr 3 0, .arr 4 0])), (2, .map 0 (mD eapiKey eapiChange x1.2.1)), (3, .arr 0 49 (x1.2.2.1.map eapiSpan)), (4, .arr 0 1 (x1.2.2.2.map eMapiKeyapiChange)), (8, .arr 0 26 (z.map eapiChange))]) rfl rfl (.w (weak_of ⟨⟨_, rfl, .ptr rfl rfl⟩, ⟨_, rfl, .d rfl⟩, ⟨_, rfl, .nila rfl rfl⟩, ⟨_, rfl, .it rfl rfl⟩, trivial⟩ ⟨.box rfl (.st (.cons (.ifc (.d rfl)) (.cons (.map rfl rfl) (.cons (.arr rfl rfl) (.cons (.arr rfl rfl) .nil))))), .map rfl rfl, .arr rfl rfl, .arr rfl rfl, .iter rfl rfl rfl rfl rfl (.inl rfl), .nil rfl, .box rfl (.d rfl), trivial⟩ (dropK rfl))) (fun _ _ => ⟨rfl, rfl, rfl⟩) (fun z => .w (weak_of ⟨⟨_, rfl, .d rfl⟩, ⟨_, rfl, .arr rfl rfl⟩, trivial⟩ ⟨.box rfl (.st (.cons (.ifc (.d rfl)) (.cons (.map rfl rfl) (.cons (.arr rfl rfl) (.cons (.arr rfl rfl) .nil))))), .map rfl rfl, .arr rfl rfl, .arr rfl rfl, .arr rfl rfl, trivial⟩ (dropK rfl))) ?_ ?_
    · intro v39 h40
      obtain ⟨x52, hx53, h54⟩ := bind_some (x := delta_Apply x4.1 v39) h40
      refine cw_seq (cw_region (
        .cons (o_mv rfl rfl .no rfl) <|
        .cons (o_mv rfl rfl .no rfl) <|
        .cons (o_callO 1 rfl rfl .no Tryz.func38 rfl rfl (delta_Apply_ok hx53) (.cons rfl .d (.cons rfl (.arrM rfl) .nil)) ⟨trivial, trivial, trivial⟩ rfl (.inr ⟨trivial, (flat_rows fun _ => (flapiPair _))⟩)) <|
        .cons (o_as rfl rfl .no rfl) <|
        .cons (o_as rfl rfl .no rfl) <|
        .nil rfl
      ) ?_)
      have heq := ((Option.some.inj h54).symm).symm
      subst heq
      exact cw_ret ⟨_, (show Leads _ _ (St.of [(4, .arr 1 0), (5, .d (eapiErrno 0))] [(0, .own (oviewView (x1.1, x1.2.1, x1.2.2.1, x1.2.2.2))), (1, .arr 0 25 (x52.map eapiPair))]) from .trans (leads_pack (o := 0) (y := .st [.ifc 26 (.d (.at (eviewPlain x1.1))), .map 2, .arr 3 0, .arr 4 0]) (x := oviewView (x1.1, x1.2.1, x1.2.2.1, x1.2.2.2)) (l := [(4, .arr 1 0), (5, .d (eint 0))]) (m := [(0, .own (oviewView (x1.1, x1.2.1, x1.2.2.1, x1.2.2.2))), (1, .arr 0 25 (x52.map eapiPair))]) rfl (.st (.cons (.av rfl) (.cons (.map rfl) (.cons (.arr rfl) (.cons (.arr rfl) .nil))))) rfl rfl ⟨⟨rfl, (by simp [AV.live, AV.lives, lk, Nat.beq])⟩, ⟨rfl, trivial⟩, trivial⟩ ⟨.inl rfl, (.inr ⟨rfl, trivial⟩), trivial⟩ rfl (OD.dat_live (oviewView_dat _)) ⟨rfl, rfl, rfl, trivial⟩ (dropK rfl)) (.w (weak_of ⟨⟨_, rfl, .arr rfl rfl⟩, ⟨_, rfl, .d rfl⟩, trivial⟩ ⟨.own rfl (.of_eq rfl (oviewView_dat _)), .arr rfl rfl, trivial⟩ (dropK rfl)))), .inr rfl, _, res2 rfl rfl rfl, rfl, rfl⟩
    · intro Q41 v32 x33 x34 x35 v36 hb37
      refine cw_block ?_
      refine cw_seq (cw_region (
        .cons (o_entry rfl rfl .no rfl rfl rfl) <|
        .cons (o_ext rfl rfl .no rfl rfl) <|
        .cons (o_ext rfl rfl .no rfl rfl) <|
        .cons (o_alloc 6 rfl rfl .no ze29 rfl) <|
        .cons (o_alloc 7 rfl rfl .no ze52 rfl) <|
        .cons (o_st [] rfl .no rfl rfl rfl rfl rfl sz29 rfl rfl) <|
        .cons (o_st [] rfl .no rfl rfl rfl rfl rfl sz52 rfl rfl) <|
        .nil rfl
      ) ?_)
      obtain ⟨x43, hx44, h45⟩ := bind_some (x := key_In a1 x33.1) hb37
      refine cw_seq (cw_region (
        .cons (o_ldP [] rfl rfl .no rfl rfl rfl ta44 rfl rfl) <|
        .cons (o_ldP [] rfl rfl .no rfl rfl rfl ta29 rfl rfl) <|
        .cons (o_call rfl rfl .no Tryz.func37 rfl rfl (key_In_ok hx44) (.cons rfl .d (.cons rfl .d .nil)) ⟨trivial, trivial, trivial⟩ (.inl rfl)) <|
        .nil rfl
      ) ?_)
      rcases cond_some h45 with ⟨hc46, h47⟩ | ⟨hc46, h48⟩
      · refine cw_condT rfl hc46 ?_
        obtain ⟨x49, hx50, h51⟩ := bind_some h47
        have hx50g := fits_some hx50
        refine cw_region (
          .cons (o_mv rfl rfl .no rfl) <|
          .cons (o_ldP [] rfl rfl .no rfl rfl rfl ta52 rfl rfl) <|
          .cons (o_bsl (rows := ([x33.2] : List ((List UInt8) × ByteArray × Bool)).map eapiChange) rfl rfl .no (.cons rfl .nil) rfl sl37 sz52 ze52 rfl (map_sz siapiChange) (by decide)) <|
          .cons (o_appM (enc := eapiChange) (xs := v32) (ys := [x33.2]) rfl rfl .no rfl rfl rfl siapiChange sl37 sl37 sz52 by52 ze52 rfl (by decide) hx50g) <|
          .cons (o_as rfl rfl .no rfl) <|
          .nil rfl
        ) ?_
        have heq := ((Option.some.inj h51).symm).symm
        subst heq
        exact .w (weak_of ⟨⟨_, rfl, .ptr rfl rfl⟩, ⟨_, rfl, .d rfl⟩, ⟨_, rfl, .arr rfl rfl⟩, ⟨_, rfl, .it rfl rfl⟩, trivial⟩ ⟨.box rfl (.st (.cons (.ifc (.d rfl)) (.cons (.map rfl rfl) (.cons (.arr rfl rfl) (.cons (.arr rfl rfl) .nil))))), .map rfl rfl, .arr rfl rfl, .arr rfl rfl, .iter rfl rfl rfl rfl rfl (.inl rfl), .arr0 rfl rfl rfl, .box rfl (.d rfl), trivial⟩ (dropK rfl))
      · refine cw_condF rfl hc46 ?_
        refine cw_skip ?_
        have heq := ((Option.some.inj h48).symm).symm
        subst heq
        exact .w (weak_of ⟨⟨_, rfl, .ptr rfl rfl⟩, ⟨_, rfl, .d rfl⟩, ⟨_, rfl, .arr rfl rfl⟩, ⟨_, rfl, .it rfl rfl⟩, trivial⟩ ⟨.box rfl (.st (.cons (.ifc (.d rfl)) (.cons (.map rfl rfl) (.cons (.arr rfl rfl) (.cons (.arr rfl rfl) .nil))))), .map rfl rfl, .arr rfl rfl, .arr rfl rfl, .iter rfl rfl rfl rfl rfl (.inl rfl), .arr rfl rfl, .box rfl (.d rfl), trivial⟩ (dropK rfl))

set_option maxRecDepth 100000 in
theorem view_New_ok {a0 : (List ((List UInt8) × ByteArray))} {r : ((List ((List UInt8) × ByteArray)) × (List ((List UInt8) × ((List UInt8) × ByteArray × Bool))) × (List ((List UInt8) × (List UInt8) × Bool)) × (List (List ((List UInt8) × ((List UInt8) × ByteArray × Bool)))))} (h : view_New a0 = some r) : FnOk Tryz.prog 7 [.ifc 26 (.d (.at (eviewPlain a0)))] 0 (lk []) (fun rr oo => rr = .ptr 0 0 ∧ oo = lk [(0, .own (oviewView r))]) := by
  refine fnOk_of Tryz.func7 rfl rfl (cw_post ?_)
  unfold view_New at h
  refine cw_seq (cw_region (
    .cons (o_as rfl rfl .no rfl) <|
    .nil rfl
  ) ?_)
  obtain ⟨o1, hj2, h3⟩ := bind_some h
  refine cw_join (fun (z : Unit) => St.of [(0, .ifc 26 (.d (.at (eviewPlain a0))))] []) (fun (z : Unit) => o1 = z) ?_ ?_
  · intro v4 hv5; subst hv5
    refine cw_seq (cw_region (
      .cons (o_mv rfl rfl .no rfl) <|
      .cons (o_mkmap eapiKey eapiChange 1 rfl rfl .no rfl) <|
      .cons (o_bldA rfl rfl .no zo71 rfl pl71 (.cons rfl rfl rfl rfl rfl rfl rfl (.cons rfl rfl rfl rfl rfl rfl rfl .nil))) <|
      .cons (o_box 0 rfl rfl .no rfl rfl rfl) <|
      .cons (o_as rfl rfl .no rfl) <|
      .nil rfl
    ) ?_)
    have heq := ((Option.some.inj h3).symm).symm
    subst heq
    exact cw_ret ⟨_, (show Leads _ _ (St.of [(2, .ptr 0 0)] [(0, .own (oviewView (a0, [], [], [])))]) from .trans (leads_pack (o := 0) (y := .st [.ifc 26 (.d (.at (eviewPlain a0))), .map 1, .d (.v (.slice none 0 0)), .d (.v (.slice none 0 0))]) (x := oviewView (a0, [], [], [])) (l := [(2, .ptr 0 0)]) (m := [(0, .own (oviewView (a0, [], [], [])))]) rfl (.st (.cons (.av rfl) (.cons (.map rfl) (.cons (.nil rfl) (.cons (.nil rfl) .nil))))) rfl rfl ⟨⟨rfl, (by simp [AV.live, AV.lives, lk, Nat.beq])⟩, trivial⟩ ⟨.inl rfl, trivial⟩ rfl (OD.dat_live (oviewView_dat _)) ⟨rfl, trivial⟩ drop0) (.w (weak_of ⟨⟨_, rfl, .ptro rfl rfl⟩, trivial⟩ ⟨.own rfl (.of_eq rfl (oviewView_dat _)), trivial⟩ drop0))), .inr rfl, _, res1 rfl rfl, rfl, rfl⟩
  · skip
    refine cw_seq (cw_region (
      .cons (o_mv rfl rfl .no rfl) <|
      .cons (o_ifnil rfl rfl .no rfl ifcB67) <|
      .nil rfl
    ) ?_)
    refine cw_condF rfl rfl ?_
    refine cw_skip ?_
    exact ⟨(), (Option.some.inj hj2).symm, .w (weak_of ⟨⟨_, rfl, .ifc (.d rfl)⟩, trivial⟩ trivial drop0)⟩

set_option maxRecDepth 100000 in
theorem view_Size_ok {a0 : (List ((List UInt8) × ByteArray))} {r : (Int × Bool)} (h : view_Size a0 = some r) : FnOk Tryz.prog 21 [.ifc 26 (.d (.at (eviewPlain a0)))] 0 (lk []) (fun rr oo => rr = .tup [.d (eint r.1), .d (ebool r.2)] ∧ oo = lk []) := by
  refine fnOk_of Tryz.func21 rfl rfl (cw_post ?_)
  unfold view_Size at h
  refine cw_seq (cw_region (
    .cons (o_as rfl rfl .no rfl) <|
    .cons (o_as rfl rfl .no rfl) <|
    .nil rfl
  ) ?_)
  refine cw_seq ?_
  refine cw_seq (cw_region (
    .cons (o_mv rfl rfl .no rfl) <|
    .cons (o_tassT rfl rfl .no rfl tassB89_26) <|
    .cons (o_mv rfl rfl .no rfl) <|
    .cons (o_ext rfl rfl .no rfl rfl) <|
    .cons (o_ext rfl rfl .no rfl rfl) <|
    .cons (o_as rfl rfl .no rfl) <|
    .cons (o_as rfl rfl .no rfl) <|
    .nil rfl
  ) ?_)
  refine cw_seq (cw_region (
    .cons (o_mv rfl rfl .no rfl) <|
    .nil rfl
  ) ?_)
  refine cw_condT rfl rfl ?_
  obtain ⟨x1, hx2, h3⟩ := bind_some (x := view_Plain_Len a0) h
  refine cw_seq (cw_region (
    .cons (o_mv rfl rfl .no rfl) <|
    .cons (o_inv (fun o => o) rfl rfl .no rfl Tryz.func9 rfl rfl rfl hm26_Len (view_Plain_Len_ok hx2) (.cons rfl .d .nil) (by decide) (callIn0 ⟨trivial, trivial⟩) (.inl rfl)) <|
    .cons (o_as rfl rfl .no rfl) <|
    .cons (o_as rfl rfl .no rfl) <|
    .nil rfl
  ) ?_)
  have heq := ((Option.some.inj h3).symm).symm
  subst heq
  exact cw_ret ⟨_, (show Leads _ _ (St.of [(2, .d (eint x1)), (3, .d (ebool true))] []) from .w (weak_of ⟨⟨_, rfl, .d rfl⟩, ⟨_, rfl, .d rfl⟩, trivial⟩ trivial drop0)), .inr rfl, _, res2 rfl rfl rfl, rfl, rfl⟩

set_option maxRecDepth 100000 in
theorem law12_shown_ok {r : Bool} (h : law12_shown = some r) : FnOk Tryz.prog 4 [] 0 (lk []) (fun rr oo => rr = .d (ebool r) ∧ oo = lk []) := by
  refine fnOk_of Tryz.func4 rfl rfl (cw_post ?_)
  unfold law12_shown at h
  refine cw_seq (cw_region (
    .cons (o_as rfl rfl .no rfl) <|
    .nil rfl
  ) ?_)
  obtain ⟨x1, hx2, h3⟩ := bind_some (x := view_NewPlain ([((List.set (List.replicate 24 0) 0 (UInt8.ofNat 1)), (ByteArray.mk #[97]))])) h
  refine cw_seq (cw_region (
    .cons (o_bldB (l := (List.replicate 24 0)) (r := (List.set (List.replicate 24 0) 0 (UInt8.ofNat 1))) rfl rfl .no ze29 ar29 sz5 (.cons rfl (by decide) rfl .nil)) <|
    .cons (o_bld (ds := [eapiKey (List.set (List.replicate 24 0) 0 (UInt8.ofNat 1)), estring (ByteArray.mk #[97])]) rfl rfl .no zs31 rfl pl31 (.cons rfl rfl rfl rfl rfl rfl rfl (.cons rfl rfl rfl rfl rfl rfl rfl .nil))) <|
    .cons (o_bsl (rows := ([((List.set (List.replicate 24 0) 0 (UInt8.ofNat 1)), (ByteArray.mk #[97]))] : List ((List UInt8) × ByteArray)).map eapiPair) rfl rfl .no (.cons rfl .nil) rfl sl22 sz31 ze31 rfl (map_sz siapiPair) (by decide)) <|
    .cons (o_call rfl rfl .no Tryz.func6 rfl rfl (view_NewPlain_ok hx2) (.cons rfl .d .nil) ⟨trivial, trivial⟩ (.inl rfl)) <|
    .cons (o_as rfl rfl .no rfl) <|
    .nil rfl
  ) ?_)
  refine cw_seq ?_
  refine cw_seq (cw_region (
    .cons (o_mv rfl rfl .no rfl) <|
    .cons (o_pnilA rfl rfl .no rfl up26) <|
    .nil rfl
  ) ?_)
  refine cw_condF rfl rfl ?_
  refine cw_skip ?_
  obtain ⟨x4, hx5, h6⟩ := bind_some (x := view_New x1) h3
  refine cw_seq (cw_region (
    .cons (o_mv rfl rfl .no rfl) <|
    .cons (o_mkif rfl rfl .no rfl ifB26) <|
    .cons (o_callO 0 rfl rfl .no Tryz.func7 rfl rfl (view_New_ok hx5) (.cons rfl .i .nil) ⟨(by simp [AV.live]), trivial⟩ rfl (.inl rfl)) <|
    .cons (o_as rfl rfl .no rfl) <|
    .nil rfl
  ) ?_)
  refine cw_seq ?_
  refine cw_seq (cw_region (
    .cons (o_mv rfl rfl .no rfl) <|
    .cons (o_pnilP rfl rfl .no rfl up32) <|
    .nil rfl
  ) ?_)
  refine cw_condF rfl rfl ?_
  refine cw_skip ?_
  obtain ⟨x7, hx8, h9⟩ := bind_some (x := view_View_Mark x4) h6
  refine cw_seq (cw_region (
    .cons (o_mv rfl rfl .no rfl) <|
    .cons (o_callX (fun _ => 0) rfl rfl .no Tryz.func15 rfl rfl (view_View_Mark_ok hx8) (.cons rfl (.p rfl) .nil) (callIn1 rfl ⟨(by simp [AV.live, lk, Nat.beq]), trivial⟩ rfl (OD.dat_live (oviewView_dat _)) (by simp)) (.inl rfl)) <|
    .cons (o_as rfl rfl .no rfl) <|
    .nil rfl
  ) ?_)
  obtain ⟨x10, hx11, h12⟩ := bind_some (x := view_View_Put x7.2 (List.set (List.replicate 24 0) 0 (UInt8.ofNat 2)) (ByteArray.mk #[98])) h9
  refine cw_seq (cw_region (
    .cons (o_mv rfl rfl .no rfl) <|
    .cons (o_bldB (l := (List.replicate 24 0)) (r := (List.set (List.replicate 24 0) 0 (UInt8.ofNat 2))) rfl rfl .no ze29 ar29 sz5 (.cons rfl (by decide) rfl .nil)) <|
    .cons (o_callX (fun _ => 0) rfl rfl .no Tryz.func16 rfl rfl (view_View_Put_ok hx11) (.cons rfl (.p rfl) (.cons rfl .d (.cons rfl .d .nil))) (callIn1 rfl ⟨(by simp [AV.live, lk, Nat.beq]), trivial, trivial, trivial⟩ rfl (OD.dat_live (oviewView_dat _)) (by simp)) (.inl rfl)) <|
    .cons (o_as rfl rfl .no rfl) <|
    .nil rfl
  ) ?_)
  obtain ⟨x13, hx14, h15⟩ := bind_some (x := view_View_Delete x10.2 (List.set (List.replicate 24 0) 0 (UInt8.ofNat 1))) h12
  refine cw_seq (cw_region (
    .cons (o_mv rfl rfl .no rfl) <|
    .cons (o_bldB (l := (List.replicate 24 0)) (r := (List.set (List.replicate 24 0) 0 (UInt8.ofNat 1))) rfl rfl .no ze29 ar29 sz5 (.cons rfl (by decide) rfl .nil)) <|
    .cons (o_callX (fun _ => 0) rfl rfl .no Tryz.func17 rfl rfl (view_View_Delete_ok hx14) (.cons rfl (.p rfl) (.cons rfl .d .nil)) (callIn1 rfl ⟨(by simp [AV.live, lk, Nat.beq]), trivial, trivial⟩ rfl (OD.dat_live (oviewView_dat _)) (by simp)) (.inl rfl)) <|
    .cons (o_as rfl rfl .no rfl) <|
    .nil rfl
  ) ?_)
  obtain ⟨x16, hx17, h18⟩ := bind_some (x := view_View_Scan x13.2 ((List.replicate 24 0), (List.replicate 24 0), true)) h15
  refine cw_seq (cw_region (
    .cons (o_mv rfl rfl .no rfl) <|
    .cons (o_bld (ds := [eapiKey (List.replicate 24 0), eapiKey (List.replicate 24 0), ebool true]) rfl rfl .no zs44 rfl pl44 (.cons rfl rfl rfl rfl rfl rfl rfl .nil)) <|
    .cons (o_callX (fun n => bif Nat.beq n 0 then 0 else 1) rfl rfl .no Tryz.func18 rfl rfl (view_View_Scan_ok hx17) (.cons rfl (.p rfl) (.cons rfl .d .nil)) (callIn1N rfl ⟨(by simp [AV.live, lk, Nat.beq]), trivial, trivial⟩ (by decide) rfl (OD.dat_live (oviewView_dat _)) rfl (by simp)) (.inl rfl)) <|
    .cons (o_mv rfl rfl .no rfl) <|
    .cons (o_ext rfl rfl .no rfl rfl) <|
    .cons (o_ext rfl rfl .no rfl rfl) <|
    .cons (o_as rfl rfl .no rfl) <|
    .cons (o_as rfl rfl .no rfl) <|
    .nil rfl
  ) ?_)
  obtain ⟨x19, hx20, h21⟩ := bind_some (x := view_View_Back x16.2.2 x7.1) h18
  refine cw_seq (cw_region (
    .cons (o_mv rfl rfl .no rfl) <|
    .cons (o_mv rfl rfl .no rfl) <|
    .cons (o_callX (fun _ => 0) rfl rfl .no Tryz.func19 rfl rfl (view_View_Back_ok hx20) (.cons rfl (.p rfl) (.cons rfl .d .nil)) (callIn1 rfl ⟨(by simp [AV.live, lk, Nat.beq]), trivial, trivial⟩ rfl (OD.dat_live (oviewView_dat _)) (by simp)) (.inl rfl)) <|
    .cons (o_as rfl rfl .no rfl) <|
    .nil rfl
  ) ?_)
  obtain ⟨x22, hx23, h24⟩ := bind_some (x := view_View_Get x19.2 (List.set (List.replicate 24 0) 0 (UInt8.ofNat 1))) h21
  refine cw_seq (cw_region (
    .cons (o_mv rfl rfl .no rfl) <|
    .cons (o_bldB (l := (List.replicate 24 0)) (r := (List.set (List.replicate 24 0) 0 (UInt8.ofNat 1))) rfl rfl .no ze29 ar29 sz5 (.cons rfl (by decide) rfl .nil)) <|
    .cons (o_callX (fun _ => 0) rfl rfl .no Tryz.func20 rfl rfl (view_View_Get_ok hx23) (.cons rfl (.p rfl) (.cons rfl .d .nil)) (callIn1 rfl ⟨(by simp [AV.live, lk, Nat.beq]), trivial, trivial⟩ rfl (OD.dat_live (oviewView_dat _)) (by simp)) (.inl rfl)) <|
    .cons (o_mv rfl rfl .no rfl) <|
    .cons (o_ext rfl rfl .no rfl rfl) <|
    .cons (o_ext rfl rfl .no rfl rfl) <|
    .cons (o_ext rfl rfl .no rfl rfl) <|
    .cons (o_as rfl rfl .no rfl) <|
    .cons (o_as rfl rfl .no rfl) <|
    .cons (o_as rfl rfl .no rfl) <|
    .nil rfl
  ) ?_)
  obtain ⟨x25, hx26, h27⟩ := bind_some (x := view_Size x1) h24
  refine cw_seq (cw_region (
    .cons (o_mv rfl rfl .no rfl) <|
    .cons (o_mkif rfl rfl .no rfl ifB26) <|
    .cons (o_call rfl rfl .no Tryz.func21 rfl rfl (view_Size_ok hx26) (.cons rfl .i .nil) ⟨(by simp [AV.live]), trivial⟩ (.inl rfl)) <|
    .cons (o_mv rfl rfl .no rfl) <|
    .cons (o_ext rfl rfl .no rfl rfl) <|
    .cons (o_ext rfl rfl .no rfl rfl) <|
    .cons (o_as rfl rfl .no rfl) <|
    .cons (o_as rfl rfl .no rfl) <|
    .nil rfl
  ) ?_)
  obtain ⟨o70, hj71, h72⟩ := bind_some h27
  refine cw_join (fun (z : Bool) => St.of [(0, .d (ebool z))] []) (fun (z : Bool) => o70 = z) ?_ ?_
  · intro v115 hv116; subst hv116
    have heq := ((Option.some.inj h72).symm).symm
    subst heq
    exact cw_ret ⟨_, (show Leads _ _ (St.of [(0, .d (ebool o70))] []) from .w (weak_of ⟨⟨_, rfl, .d rfl⟩, trivial⟩ trivial drop0)), .inr rfl, _, res1 rfl rfl, rfl, rfl⟩
  · skip
    rcases cond_some hj71 with ⟨hc73, h74⟩ | ⟨hc73, h75⟩
    · skip
      rcases cond_some h74 with ⟨hc76, h77⟩ | ⟨hc76, h78⟩
      · skip
        rcases cond_some h77 with ⟨hc79, h80⟩ | ⟨hc79, h81⟩
        · skip
          rcases cond_some h80 with ⟨hc82, h83⟩ | ⟨hc82, h84⟩
          · skip
            rcases cond_some h83 with ⟨hc85, h86⟩ | ⟨hc85, h87⟩
            · skip
              obtain ⟨x88, hx89, h90⟩ := bind_some h86
              have hx89g := gx_some hx89
              rcases cond_some h90 with ⟨hc91, h92⟩ | ⟨hc91, h93⟩
              · skip
                rcases cond_some h92 with ⟨hc94, h95⟩ | ⟨hc94, h96⟩
                · skip
                  rcases cond_some h95 with ⟨hc97, h98⟩ | ⟨hc97, h99⟩
                  · skip
                    rcases cond_some h98 with ⟨hc100, h101⟩ | ⟨hc100, h102⟩
                    · skip
                      rcases cond_some h101 with ⟨hc103, h104⟩ | ⟨hc103, h105⟩
                      · skip
                        rcases cond_some h104 with ⟨hc106, h107⟩ | ⟨hc106, h108⟩
                        · skip
                          rcases cond_some h107 with ⟨hc109, h110⟩ | ⟨hc109, h111⟩
                          · skip
                            obtain ⟨x112, hx113, h114⟩ := bind_some (x := view_View_Reads x22.2.2.2) h110
                            refine cw_region (
                              .cons (o_mv rfl rfl .no rfl) <|
                              .cons (o_bin rfl rfl .no rfl rfl (b_eql _ _) rfl) <|
                              .cons (o_mv rfl rfl .no rfl) <|
                              .cons (o_mv rfl rfl (.yes rfl rfl hc73) rfl) <|
                              .cons (o_bin rfl rfl (.yes rfl rfl hc73) rfl rfl (b_eql _ _) rfl) <|
                              .cons (o_pickT rfl rfl .no rfl hc73 rfl) <|
                              .cons (o_mv rfl rfl .no rfl) <|
                              .cons (o_mv rfl rfl (.yes rfl rfl hc76) rfl) <|
                              .cons (o_bin rfl rfl (.yes rfl rfl hc76) rfl rfl (b_eql _ _) rfl) <|
                              .cons (o_pickT rfl rfl .no rfl hc76 rfl) <|
                              .cons (o_mv rfl rfl .no rfl) <|
                              .cons (o_mv rfl rfl (.yes rfl rfl hc79) rfl) <|
                              .cons (o_bin rfl rfl (.yes rfl rfl hc79) rfl rfl (b_eql _ _) rfl) <|
                              .cons (o_pickT rfl rfl .no rfl hc79 rfl) <|
                              .cons (o_mv rfl rfl .no rfl) <|
                              .cons (o_mv rfl rfl (.yes rfl rfl hc82) rfl) <|
                              .cons (o_lenAM (enc := eapiPair) (xs := x16.1) rfl rfl (.yes rfl rfl hc82) rfl rfl sl22) <|
                              .cons (o_bin rfl rfl (.yes rfl rfl hc82) rfl rfl (b_eql _ _) rfl) <|
                              .cons (o_pickT rfl rfl .no rfl hc82 rfl) <|
                              .cons (o_mv rfl rfl .no rfl) <|
                              .cons (o_mv rfl rfl (.yes rfl rfl hc85) rfl) <|
                              .cons (o_ixAM (enc := eapiPair) (xs := x16.1) rfl rfl (.yes rfl rfl hc85) rfl rfl rfl sl22 sz31 hx89g.1 hx89g.2) <|
                              .cons (o_fldE rfl rfl (.yes rfl rfl hc85) rfl rfl fld31_1 (by decide)) <|
                              .cons (o_ldEM (enc := eapiPair) (xs := x16.1) (r := x88) [1] rfl rfl (.yes rfl rfl hc85) rfl rfl hx89g.2 rfl ta9 rfl rfl) <|
                              .cons (o_bin rfl rfl (.yes rfl rfl hc85) rfl rfl (s_eql _ _) rfl) <|
                              .cons (o_pickT rfl rfl .no rfl hc85 rfl) <|
                              .cons (o_mv rfl rfl .no rfl) <|
                              .cons (o_mv rfl rfl (.yes rfl rfl hc91) rfl) <|
                              .cons (o_bin rfl rfl (.yes rfl rfl hc91) rfl rfl (b_eql _ _) rfl) <|
                              .cons (o_pickT rfl rfl .no rfl hc91 rfl) <|
                              .cons (o_mv rfl rfl .no rfl) <|
                              .cons (o_mv rfl rfl (.yes rfl rfl hc94) rfl) <|
                              .cons (o_bin rfl rfl (.yes rfl rfl hc94) rfl rfl (s_eql _ _) rfl) <|
                              .cons (o_pickT rfl rfl .no rfl hc94 rfl) <|
                              .cons (o_mv rfl rfl .no rfl) <|
                              .cons (o_mv rfl rfl (.yes rfl rfl hc97) rfl) <|
                              .cons (o_pickT rfl rfl .no rfl hc97 rfl) <|
                              .cons (o_mv rfl rfl .no rfl) <|
                              .cons (o_mv rfl rfl (.yes rfl rfl hc100) rfl) <|
                              .cons (o_bin rfl rfl (.yes rfl rfl hc100) rfl rfl (b_eql _ _) rfl) <|
                              .cons (o_pickT rfl rfl .no rfl hc100 rfl) <|
                              .cons (o_mv rfl rfl .no rfl) <|
                              .cons (o_mv rfl rfl (.yes rfl rfl hc103) rfl) <|
                              .cons (o_bin rfl rfl (.yes rfl rfl hc103) rfl rfl (b_eql _ _) rfl) <|
                              .cons (o_pickT rfl rfl .no rfl hc103 rfl) <|
                              .cons (o_mv rfl rfl .no rfl) <|
                              .cons (o_mv rfl rfl (.yes rfl rfl hc106) rfl) <|
                              .cons (o_pickT rfl rfl .no rfl hc106 rfl) <|
                              .cons (o_mv rfl rfl .no rfl) <|
                              .cons (o_mv rfl rfl (.yes rfl rfl hc109) rfl) <|
                              .cons (o_callX (fun n => bif Nat.beq n 0 then 0 else 2) rfl rfl (.yes rfl rfl hc109) Tryz.func11 rfl rfl (view_View_Reads_ok hx113) (.cons rfl (.p rfl) .nil) (callIn1N rfl ⟨(by simp [AV.live, lk, Nat.beq]), trivial⟩ (by decide) rfl (OD.dat_live (oviewView_dat _)) rfl (by simp)) (.inl rfl)) <|
                              .cons (o_lenAM (enc := eapiSpan) (xs := x112.1) rfl rfl (.yes rfl rfl hc109) rfl rfl sl38) <|
                              .cons (o_bin rfl rfl (.yes rfl rfl hc109) rfl rfl (b_eql _ _) rfl) <|
                              .cons (o_pickT rfl rfl .no rfl hc109 rfl) <|
                              .cons (o_as rfl rfl .no rfl) <|
                              .nil rfl
                            ) ?_
                            exact ⟨(decide ((x112.1.length : Int) = 1)), (Option.some.inj h114).symm, .w (weak_of ⟨⟨_, rfl, .d rfl⟩, trivial⟩ trivial drop0)⟩
                          · skip
                            refine cw_region (
                              .cons (o_mv rfl rfl .no rfl) <|
                              .cons (o_bin rfl rfl .no rfl rfl (b_eql _ _) rfl) <|
                              .cons (o_mv rfl rfl .no rfl) <|
                              .cons (o_mv rfl rfl (.yes rfl rfl hc73) rfl) <|
                              .cons (o_bin rfl rfl (.yes rfl rfl hc73) rfl rfl (b_eql _ _) rfl) <|
                              .cons (o_pickT rfl rfl .no rfl hc73 rfl) <|
                              .cons (o_mv rfl rfl .no rfl) <|
                              .cons (o_mv rfl rfl (.yes rfl rfl hc76) rfl) <|
                              .cons (o_bin rfl rfl (.yes rfl rfl hc76) rfl rfl (b_eql _ _) rfl) <|
                              .cons (o_pickT rfl rfl .no rfl hc76 rfl) <|
                              .cons (o_mv rfl rfl .no rfl) <|
                              .cons (o_mv rfl rfl (.yes rfl rfl hc79) rfl) <|
                              .cons (o_bin rfl rfl (.yes rfl rfl hc79) rfl rfl (b_eql _ _) rfl) <|
                              .cons (o_pickT rfl rfl .no rfl hc79 rfl) <|
                              .cons (o_mv rfl rfl .no rfl) <|
                              .cons (o_mv rfl rfl (.yes rfl rfl hc82) rfl) <|
                              .cons (o_lenAM (enc := eapiPair) (xs := x16.1) rfl rfl (.yes rfl rfl hc82) rfl rfl sl22) <|
                              .cons (o_bin rfl rfl (.yes rfl rfl hc82) rfl rfl (b_eql _ _) rfl) <|
                              .cons (o_pickT rfl rfl .no rfl hc82 rfl) <|
                              .cons (o_mv rfl rfl .no rfl) <|
                              .cons (o_mv rfl rfl (.yes rfl rfl hc85) rfl) <|
                              .cons (o_ixAM (enc := eapiPair) (xs := x16.1) rfl rfl (.yes rfl rfl hc85) rfl rfl rfl sl22 sz31 hx89g.1 hx89g.2) <|
                              .cons (o_fldE rfl rfl (.yes rfl rfl hc85) rfl rfl fld31_1 (by decide)) <|
                              .cons (o_ldEM (enc := eapiPair) (xs := x16.1) (r := x88) [1] rfl rfl (.yes rfl rfl hc85) rfl rfl hx89g.2 rfl ta9 rfl rfl) <|
                              .cons (o_bin rfl rfl (.yes rfl rfl hc85) rfl rfl (s_eql _ _) rfl) <|
                              .cons (o_pickT rfl rfl .no rfl hc85 rfl) <|
                              .cons (o_mv rfl rfl .no rfl) <|
                              .cons (o_mv rfl rfl (.yes rfl rfl hc91) rfl) <|
                              .cons (o_bin rfl rfl (.yes rfl rfl hc91) rfl rfl (b_eql _ _) rfl) <|
                              .cons (o_pickT rfl rfl .no rfl hc91 rfl) <|
                              .cons (o_mv rfl rfl .no rfl) <|
                              .cons (o_mv rfl rfl (.yes rfl rfl hc94) rfl) <|
                              .cons (o_bin rfl rfl (.yes rfl rfl hc94) rfl rfl (s_eql _ _) rfl) <|
                              .cons (o_pickT rfl rfl .no rfl hc94 rfl) <|
                              .cons (o_mv rfl rfl .no rfl) <|
                              .cons (o_mv rfl rfl (.yes rfl rfl hc97) rfl) <|
                              .cons (o_pickT rfl rfl .no rfl hc97 rfl) <|
                              .cons (o_mv rfl rfl .no rfl) <|
                              .cons (o_mv rfl rfl (.yes rfl rfl hc100) rfl) <|
                              .cons (o_bin rfl rfl (.yes rfl rfl hc100) rfl rfl (b_eql _ _) rfl) <|
                              .cons (o_pickT rfl rfl .no rfl hc100 rfl) <|
                              .cons (o_mv rfl rfl .no rfl) <|
                              .cons (o_mv rfl rfl (.yes rfl rfl hc103) rfl) <|
                              .cons (o_bin rfl rfl (.yes rfl rfl hc103) rfl rfl (b_eql _ _) rfl) <|
                              .cons (o_pickT rfl rfl .no rfl hc103 rfl) <|
                              .cons (o_mv rfl rfl .no rfl) <|
                              .cons (o_mv rfl rfl (.yes rfl rfl hc106) rfl) <|
                              .cons (o_pickT rfl rfl .no rfl hc106 rfl) <|
                              .cons (o_mv rfl rfl .no rfl) <|
                              .cons (o_noT rfl rfl rfl rfl hc109) <|
                              .cons (o_noT rfl rfl rfl rfl hc109) <|
                              .cons (o_noT rfl rfl rfl rfl hc109) <|
                              .cons (o_noT rfl rfl rfl rfl hc109) <|
                              .cons (o_pickF rfl rfl .no rfl hc109 rfl) <|
                              .cons (o_as rfl rfl .no rfl) <|
                              .nil rfl
                            ) ?_
                            exact ⟨false, (Option.some.inj h111).symm, .w (weak_of ⟨⟨_, rfl, .d rfl⟩, trivial⟩ trivial drop0)⟩
                        · skip
                          refine cw_region (
                            .cons (o_mv rfl rfl .no rfl) <|
                            .cons (o_bin rfl rfl .no rfl rfl (b_eql _ _) rfl) <|
                            .cons (o_mv rfl rfl .no rfl) <|
                            .cons (o_mv rfl rfl (.yes rfl rfl hc73) rfl) <|
                            .cons (o_bin rfl rfl (.yes rfl rfl hc73) rfl rfl (b_eql _ _) rfl) <|
                            .cons (o_pickT rfl rfl .no rfl hc73 rfl) <|
                            .cons (o_mv rfl rfl .no rfl) <|
                            .cons (o_mv rfl rfl (.yes rfl rfl hc76) rfl) <|
                            .cons (o_bin rfl rfl (.yes rfl rfl hc76) rfl rfl (b_eql _ _) rfl) <|
                            .cons (o_pickT rfl rfl .no rfl hc76 rfl) <|
                            .cons (o_mv rfl rfl .no rfl) <|
                            .cons (o_mv rfl rfl (.yes rfl rfl hc79) rfl) <|
                            .cons (o_bin rfl rfl (.yes rfl rfl hc79) rfl rfl (b_eql _ _) rfl) <|
                            .cons (o_pickT rfl rfl .no rfl hc79 rfl) <|
                            .cons (o_mv rfl rfl .no rfl) <|
                            .cons (o_mv rfl rfl (.yes rfl rfl hc82) rfl) <|
                            .cons (o_lenAM (enc := eapiPair) (xs := x16.1) rfl rfl (.yes rfl rfl hc82) rfl rfl sl22) <|
                            .cons (o_bin rfl rfl (.yes rfl rfl hc82) rfl rfl (b_eql _ _) rfl) <|
                            .cons (o_pickT rfl rfl .no rfl hc82 rfl) <|
                            .cons (o_mv rfl rfl .no rfl) <|
                            .cons (o_mv rfl rfl (.yes rfl rfl hc85) rfl) <|
                            .cons (o_ixAM (enc := eapiPair) (xs := x16.1) rfl rfl (.yes rfl rfl hc85) rfl rfl rfl sl22 sz31 hx89g.1 hx89g.2) <|
                            .cons (o_fldE rfl rfl (.yes rfl rfl hc85) rfl rfl fld31_1 (by decide)) <|
                            .cons (o_ldEM (enc := eapiPair) (xs := x16.1) (r := x88) [1] rfl rfl (.yes rfl rfl hc85) rfl rfl hx89g.2 rfl ta9 rfl rfl) <|
                            .cons (o_bin rfl rfl (.yes rfl rfl hc85) rfl rfl (s_eql _ _) rfl) <|
                            .cons (o_pickT rfl rfl .no rfl hc85 rfl) <|
                            .cons (o_mv rfl rfl .no rfl) <|
                            .cons (o_mv rfl rfl (.yes rfl rfl hc91) rfl) <|
                            .cons (o_bin rfl rfl (.yes rfl rfl hc91) rfl rfl (b_eql _ _) rfl) <|
                            .cons (o_pickT rfl rfl .no rfl hc91 rfl) <|
                            .cons (o_mv rfl rfl .no rfl) <|
                            .cons (o_mv rfl rfl (.yes rfl rfl hc94) rfl) <|
                            .cons (o_bin rfl rfl (.yes rfl rfl hc94) rfl rfl (s_eql _ _) rfl) <|
                            .cons (o_pickT rfl rfl .no rfl hc94 rfl) <|
                            .cons (o_mv rfl rfl .no rfl) <|
                            .cons (o_mv rfl rfl (.yes rfl rfl hc97) rfl) <|
                            .cons (o_pickT rfl rfl .no rfl hc97 rfl) <|
                            .cons (o_mv rfl rfl .no rfl) <|
                            .cons (o_mv rfl rfl (.yes rfl rfl hc100) rfl) <|
                            .cons (o_bin rfl rfl (.yes rfl rfl hc100) rfl rfl (b_eql _ _) rfl) <|
                            .cons (o_pickT rfl rfl .no rfl hc100 rfl) <|
                            .cons (o_mv rfl rfl .no rfl) <|
                            .cons (o_mv rfl rfl (.yes rfl rfl hc103) rfl) <|
                            .cons (o_bin rfl rfl (.yes rfl rfl hc103) rfl rfl (b_eql _ _) rfl) <|
                            .cons (o_pickT rfl rfl .no rfl hc103 rfl) <|
                            .cons (o_mv rfl rfl .no rfl) <|
                            .cons (o_noT rfl rfl rfl rfl hc106) <|
                            .cons (o_pickF rfl rfl .no rfl hc106 rfl) <|
                            .cons (o_mv rfl rfl .no rfl) <|
                            .cons (o_noT rfl rfl rfl rfl rfl) <|
                            .cons (o_noT rfl rfl rfl rfl rfl) <|
                            .cons (o_noT rfl rfl rfl rfl rfl) <|
                            .cons (o_noT rfl rfl rfl rfl rfl) <|
                            .cons (o_pickF rfl rfl .no rfl rfl rfl) <|
                            .cons (o_as rfl rfl .no rfl) <|
                            .nil rfl
                          ) ?_
                          exact ⟨false, (Option.some.inj h108).symm, .w (weak_of ⟨⟨_, rfl, .d rfl⟩, trivial⟩ trivial drop0)⟩
                      · skip
                        refine cw_region (
                          .cons (o_mv rfl rfl .no rfl) <|
                          .cons (o_bin rfl rfl .no rfl rfl (b_eql _ _) rfl) <|
                          .cons (o_mv rfl rfl .no rfl) <|
                          .cons (o_mv rfl rfl (.yes rfl rfl hc73) rfl) <|
                          .cons (o_bin rfl rfl (.yes rfl rfl hc73) rfl rfl (b_eql _ _) rfl) <|
                          .cons (o_pickT rfl rfl .no rfl hc73 rfl) <|
                          .cons (o_mv rfl rfl .no rfl) <|
                          .cons (o_mv rfl rfl (.yes rfl rfl hc76) rfl) <|
                          .cons (o_bin rfl rfl (.yes rfl rfl hc76) rfl rfl (b_eql _ _) rfl) <|
                          .cons (o_pickT rfl rfl .no rfl hc76 rfl) <|
                          .cons (o_mv rfl rfl .no rfl) <|
                          .cons (o_mv rfl rfl (.yes rfl rfl hc79) rfl) <|
                          .cons (o_bin rfl rfl (.yes rfl rfl hc79) rfl rfl (b_eql _ _) rfl) <|
                          .cons (o_pickT rfl rfl .no rfl hc79 rfl) <|
                          .cons (o_mv rfl rfl .no rfl) <|
                          .cons (o_mv rfl rfl (.yes rfl rfl hc82) rfl) <|
                          .cons (o_lenAM (enc := eapiPair) (xs := x16.1) rfl rfl (.yes rfl rfl hc82) rfl rfl sl22) <|
                          .cons (o_bin rfl rfl (.yes rfl rfl hc82) rfl rfl (b_eql _ _) rfl) <|
                          .cons (o_pickT rfl rfl .no rfl hc82 rfl) <|
                          .cons (o_mv rfl rfl .no rfl) <|
                          .cons (o_mv rfl rfl (.yes rfl rfl hc85) rfl) <|
                          .cons (o_ixAM (enc := eapiPair) (xs := x16.1) rfl rfl (.yes rfl rfl hc85) rfl rfl rfl sl22 sz31 hx89g.1 hx89g.2) <|
                          .cons (o_fldE rfl rfl (.yes rfl rfl hc85) rfl rfl fld31_1 (by decide)) <|
                          .cons (o_ldEM (enc := eapiPair) (xs := x16.1) (r := x88) [1] rfl rfl (.yes rfl rfl hc85) rfl rfl hx89g.2 rfl ta9 rfl rfl) <|
                          .cons (o_bin rfl rfl (.yes rfl rfl hc85) rfl rfl (s_eql _ _) rfl) <|
                          .cons (o_pickT rfl rfl .no rfl hc85 rfl) <|
                          .cons (o_mv rfl rfl .no rfl) <|
                          .cons (o_mv rfl rfl (.yes rfl rfl hc91) rfl) <|
                          .cons (o_bin rfl rfl (.yes rfl rfl hc91) rfl rfl (b_eql _ _) rfl) <|
                          .cons (o_pickT rfl rfl .no rfl hc91 rfl) <|
                          .cons (o_mv rfl rfl .no rfl) <|
                          .cons (o_mv rfl rfl (.yes rfl rfl hc94) rfl) <|
                          .cons (o_bin rfl rfl (.yes rfl rfl hc94) rfl rfl (s_eql _ _) rfl) <|
                          .cons (o_pickT rfl rfl .no rfl hc94 rfl) <|
                          .cons (o_mv rfl rfl .no rfl) <|
                          .cons (o_mv rfl rfl (.yes rfl rfl hc97) rfl) <|
                          .cons (o_pickT rfl rfl .no rfl hc97 rfl) <|
                          .cons (o_mv rfl rfl .no rfl) <|
                          .cons (o_mv rfl rfl (.yes rfl rfl hc100) rfl) <|
                          .cons (o_bin rfl rfl (.yes rfl rfl hc100) rfl rfl (b_eql _ _) rfl) <|
                          .cons (o_pickT rfl rfl .no rfl hc100 rfl) <|
                          .cons (o_mv rfl rfl .no rfl) <|
                          .cons (o_noT rfl rfl rfl rfl hc103) <|
                          .cons (o_noT rfl rfl rfl rfl hc103) <|
                          .cons (o_pickF rfl rfl .no rfl hc103 rfl) <|
                          .cons (o_mv rfl rfl .no rfl) <|
                          .cons (o_noT rfl rfl rfl rfl rfl) <|
                          .cons (o_pickF rfl rfl .no rfl rfl rfl) <|
                          .cons (o_mv rfl rfl .no rfl) <|
                          .cons (o_noT rfl rfl rfl rfl rfl) <|
                          .cons (o_noT rfl rfl rfl rfl rfl) <|
                          .cons (o_noT rfl rfl rfl rfl rfl) <|
                          .cons (o_noT rfl rfl rfl rfl rfl) <|
                          .cons (o_pickF rfl rfl .no rfl rfl rfl) <|
                          .cons (o_as rfl rfl .no rfl) <|
                          .nil rfl
                        ) ?_
                        exact ⟨false, (Option.some.inj h105).symm, .w (weak_of ⟨⟨_, rfl, .d rfl⟩, trivial⟩ trivial drop0)⟩
                    · skip
                      refine cw_region (
                        .cons (o_mv rfl rfl .no rfl) <|
                        .cons (o_bin rfl rfl .no rfl rfl (b_eql _ _) rfl) <|
                        .cons (o_mv rfl rfl .no rfl) <|
                        .cons (o_mv rfl rfl (.yes rfl rfl hc73) rfl) <|
                        .cons (o_bin rfl rfl (.yes rfl rfl hc73) rfl rfl (b_eql _ _) rfl) <|
                        .cons (o_pickT rfl rfl .no rfl hc73 rfl) <|
                        .cons (o_mv rfl rfl .no rfl) <|
                        .cons (o_mv rfl rfl (.yes rfl rfl hc76) rfl) <|
                        .cons (o_bin rfl rfl (.yes rfl rfl hc76) rfl rfl (b_eql _ _) rfl) <|
                        .cons (o_pickT rfl rfl .no rfl hc76 rfl) <|
                        .cons (o_mv rfl rfl .no rfl) <|
                        .cons (o_mv rfl rfl (.yes rfl rfl hc79) rfl) <|
                        .cons (o_bin rfl rfl (.yes rfl rfl hc79) rfl rfl (b_eql _ _) rfl) <|
                        .cons (o_pickT rfl rfl .no rfl hc79 rfl) <|
                        .cons (o_mv rfl rfl .no rfl) <|
                        .cons (o_mv rfl rfl (.yes rfl rfl hc82) rfl) <|
                        .cons (o_lenAM (enc := eapiPair) (xs := x16.1) rfl rfl (.yes rfl rfl hc82) rfl rfl sl22) <|
                        .cons (o_bin rfl rfl (.yes rfl rfl hc82) rfl rfl (b_eql _ _) rfl) <|
                        .cons (o_pickT rfl rfl .no rfl hc82 rfl) <|
                        .cons (o_mv rfl rfl .no rfl) <|
                        .cons (o_mv rfl rfl (.yes rfl rfl hc85) rfl) <|
                        .cons (o_ixAM (enc := eapiPair) (xs := x16.1) rfl rfl (.yes rfl rfl hc85) rfl rfl rfl sl22 sz31 hx89g.1 hx89g.2) <|
                        .cons (o_fldE rfl rfl (.yes rfl rfl hc85) rfl rfl fld31_1 (by decide)) <|
                        .cons (o_ldEM (enc := eapiPair) (xs := x16.1) (r := x88) [1] rfl rfl (.yes rfl rfl hc85) rfl rfl hx89g.2 rfl ta9 rfl rfl) <|
                        .cons (o_bin rfl rfl (.yes rfl rfl hc85) rfl rfl (s_eql _ _) rfl) <|
                        .cons (o_pickT rfl rfl .no rfl hc85 rfl) <|
                        .cons (o_mv rfl rfl .no rfl) <|
                        .cons (o_mv rfl rfl (.yes rfl rfl hc91) rfl) <|
                        .cons (o_bin rfl rfl (.yes rfl rfl hc91) rfl rfl (b_eql _ _) rfl) <|
                        .cons (o_pickT rfl rfl .no rfl hc91 rfl) <|
                        .cons (o_mv rfl rfl .no rfl) <|
                        .cons (o_mv rfl rfl (.yes rfl rfl hc94) rfl) <|
                        .cons (o_bin rfl rfl (.yes rfl rfl hc94) rfl rfl (s_eql _ _) rfl) <|
                        .cons (o_pickT rfl rfl .no rfl hc94 rfl) <|
                        .cons (o_mv rfl rfl .no rfl) <|
                        .cons (o_mv rfl rfl (.yes rfl rfl hc97) rfl) <|
                        .cons (o_pickT rfl rfl .no rfl hc97 rfl) <|
                        .cons (o_mv rfl rfl .no rfl) <|
                        .cons (o_noT rfl rfl rfl rfl hc100) <|
                        .cons (o_noT rfl rfl rfl rfl hc100) <|
                        .cons (o_pickF rfl rfl .no rfl hc100 rfl) <|
                        .cons (o_mv rfl rfl .no rfl) <|
                        .cons (o_noT rfl rfl rfl rfl rfl) <|
                        .cons (o_noT rfl rfl rfl rfl rfl) <|
                        .cons (o_pickF rfl rfl .no rfl rfl rfl) <|
                        .cons (o_mv rfl rfl .no rfl) <|
                        .cons (o_noT rfl rfl rfl rfl rfl) <|
                        .cons (o_pickF rfl rfl .no rfl rfl rfl) <|
                        .cons (o_mv rfl rfl .no rfl) <|
                        .cons (o_noT rfl rfl rfl rfl rfl) <|
                        .cons (o_noT rfl rfl rfl rfl rfl) <|
                        .cons (o_noT rfl rfl rfl rfl rfl) <|
                        .cons (o_noT rfl rfl rfl rfl rfl) <|
                        .cons (o_pickF rfl rfl .no rfl rfl rfl) <|
                        .cons (o_as rfl rfl .no rfl) <|
                        .nil rfl
                      ) ?_
                      exact ⟨false, (Option.some.inj h102).symm, .w (weak_of ⟨⟨_, rfl, .d rfl⟩, trivial⟩ trivial drop0)⟩
                  · skip
                    refine cw_region (
                      .cons (o_mv rfl rfl .no rfl) <|
                      .cons (o_bin rfl rfl .no rfl rfl (b_eql _ _) rfl) <|
                      .cons (o_mv rfl rfl .no rfl) <|
                      .cons (o_mv rfl rfl (.yes rfl rfl hc73) rfl) <|
                      .cons (o_bin rfl rfl (.yes rfl rfl hc73) rfl rfl (b_eql _ _) rfl) <|
                      .cons (o_pickT rfl rfl .no rfl hc73 rfl) <|
                      .cons (o_mv rfl rfl .no rfl) <|
                      .cons (o_mv rfl rfl (.yes rfl rfl hc76) rfl) <|
                      .cons (o_bin rfl rfl (.yes rfl rfl hc76) rfl rfl (b_eql _ _) rfl) <|
                      .cons (o_pickT rfl rfl .no rfl hc76 rfl) <|
                      .cons (o_mv rfl rfl .no rfl) <|
                      .cons (o_mv rfl rfl (.yes rfl rfl hc79) rfl) <|
                      .cons (o_bin rfl rfl (.yes rfl rfl hc79) rfl rfl (b_eql _ _) rfl) <|
                      .cons (o_pickT rfl rfl .no rfl hc79 rfl) <|
                      .cons (o_mv rfl rfl .no rfl) <|
                      .cons (o_mv rfl rfl (.yes rfl rfl hc82) rfl) <|
                      .cons (o_lenAM (enc := eapiPair) (xs := x16.1) rfl rfl (.yes rfl rfl hc82) rfl rfl sl22) <|
                      .cons (o_bin rfl rfl (.yes rfl rfl hc82) rfl rfl (b_eql _ _) rfl) <|
                      .cons (o_pickT rfl rfl .no rfl hc82 rfl) <|
                      .cons (o_mv rfl rfl .no rfl) <|
                      .cons (o_mv rfl rfl (.yes rfl rfl hc85) rfl) <|
                      .cons (o_ixAM (enc := eapiPair) (xs := x16.1) rfl rfl (.yes rfl rfl hc85) rfl rfl rfl sl22 sz31 hx89g.1 hx89g.2) <|
                      .cons (o_fldE rfl rfl (.yes rfl rfl hc85) rfl rfl fld31_1 (by decide)) <|
                      .cons (o_ldEM (enc := eapiPair) (xs := x16.1) (r := x88) [1] rfl rfl (.yes rfl rfl hc85) rfl rfl hx89g.2 rfl ta9 rfl rfl) <|
                      .cons (o_bin rfl rfl (.yes rfl rfl hc85) rfl rfl (s_eql _ _) rfl) <|
                      .cons (o_pickT rfl rfl .no rfl hc85 rfl) <|
                      .cons (o_mv rfl rfl .no rfl) <|
                      .cons (o_mv rfl rfl (.yes rfl rfl hc91) rfl) <|
                      .cons (o_bin rfl rfl (.yes rfl rfl hc91) rfl rfl (b_eql _ _) rfl) <|
                      .cons (o_pickT rfl rfl .no rfl hc91 rfl) <|
                      .cons (o_mv rfl rfl .no rfl) <|
                      .cons (o_mv rfl rfl (.yes rfl rfl hc94) rfl) <|
                      .cons (o_bin rfl rfl (.yes rfl rfl hc94) rfl rfl (s_eql _ _) rfl) <|
                      .cons (o_pickT rfl rfl .no rfl hc94 rfl) <|
                      .cons (o_mv rfl rfl .no rfl) <|
                      .cons (o_noT rfl rfl rfl rfl hc97) <|
                      .cons (o_pickF rfl rfl .no rfl hc97 rfl) <|
                      .cons (o_mv rfl rfl .no rfl) <|
                      .cons (o_noT rfl rfl rfl rfl rfl) <|
                      .cons (o_noT rfl rfl rfl rfl rfl) <|
                      .cons (o_pickF rfl rfl .no rfl rfl rfl) <|
                      .cons (o_mv rfl rfl .no rfl) <|
                      .cons (o_noT rfl rfl rfl rfl rfl) <|
                      .cons (o_noT rfl rfl rfl rfl rfl) <|
                      .cons (o_pickF rfl rfl .no rfl rfl rfl) <|
                      .cons (o_mv rfl rfl .no rfl) <|
                      .cons (o_noT rfl rfl rfl rfl rfl) <|
                      .cons (o_pickF rfl rfl .no rfl rfl rfl) <|
                      .cons (o_mv rfl rfl .no rfl) <|
                      .cons (o_noT rfl rfl rfl rfl rfl) <|
                      .cons (o_noT rfl rfl rfl rfl rfl) <|
                      .cons (o_noT rfl rfl rfl rfl rfl) <|
                      .cons (o_noT rfl rfl rfl rfl rfl) <|
                      .cons (o_pickF rfl rfl .no rfl rfl rfl) <|
                      .cons (o_as rfl rfl .no rfl) <|
                      .nil rfl
                    ) ?_
                    exact ⟨false, (Option.some.inj h99).symm, .w (weak_of ⟨⟨_, rfl, .d rfl⟩, trivial⟩ trivial drop0)⟩
                · skip
                  refine cw_region (
                    .cons (o_mv rfl rfl .no rfl) <|
                    .cons (o_bin rfl rfl .no rfl rfl (b_eql _ _) rfl) <|
                    .cons (o_mv rfl rfl .no rfl) <|
                    .cons (o_mv rfl rfl (.yes rfl rfl hc73) rfl) <|
                    .cons (o_bin rfl rfl (.yes rfl rfl hc73) rfl rfl (b_eql _ _) rfl) <|
                    .cons (o_pickT rfl rfl .no rfl hc73 rfl) <|
                    .cons (o_mv rfl rfl .no rfl) <|
                    .cons (o_mv rfl rfl (.yes rfl rfl hc76) rfl) <|
                    .cons (o_bin rfl rfl (.yes rfl rfl hc76) rfl rfl (b_eql _ _) rfl) <|
                    .cons (o_pickT rfl rfl .no rfl hc76 rfl) <|
                    .cons (o_mv rfl rfl .no rfl) <|
                    .cons (o_mv rfl rfl (.yes rfl rfl hc79) rfl) <|
                    .cons (o_bin rfl rfl (.yes rfl rfl hc79) rfl rfl (b_eql _ _) rfl) <|
                    .cons (o_pickT rfl rfl .no rfl hc79 rfl) <|
                    .cons (o_mv rfl rfl .no rfl) <|
                    .cons (o_mv rfl rfl (.yes rfl rfl hc82) rfl) <|
                    .cons (o_lenAM (enc := eapiPair) (xs := x16.1) rfl rfl (.yes rfl rfl hc82) rfl rfl sl22) <|
                    .cons (o_bin rfl rfl (.yes rfl rfl hc82) rfl rfl (b_eql _ _) rfl) <|
                    .cons (o_pickT rfl rfl .no rfl hc82 rfl) <|
                    .cons (o_mv rfl rfl .no rfl) <|
                    .cons (o_mv rfl rfl (.yes rfl rfl hc85) rfl) <|
                    .cons (o_ixAM (enc := eapiPair) (xs := x16.1) rfl rfl (.yes rfl rfl hc85) rfl rfl rfl sl22 sz31 hx89g.1 hx89g.2) <|
                    .cons (o_fldE rfl rfl (.yes rfl rfl hc85) rfl rfl fld31_1 (by decide)) <|
                    .cons (o_ldEM (enc := eapiPair) (xs := x16.1) (r := x88) [1] rfl rfl (.yes rfl rfl hc85) rfl rfl hx89g.2 rfl ta9 rfl rfl) <|
                    .cons (o_bin rfl rfl (.yes rfl rfl hc85) rfl rfl (s_eql _ _) rfl) <|
                    .cons (o_pickT rfl rfl .no rfl hc85 rfl) <|
                    .cons (o_mv rfl rfl .no rfl) <|
                    .cons (o_mv rfl rfl (.yes rfl rfl hc91) rfl) <|
                    .cons (o_bin rfl rfl (.yes rfl rfl hc91) rfl rfl (b_eql _ _) rfl) <|
                    .cons (o_pickT rfl rfl .no rfl hc91 rfl) <|
                    .cons (o_mv rfl rfl .no rfl) <|
                    .cons (o_noT rfl rfl rfl rfl hc94) <|
                    .cons (o_noT rfl rfl rfl rfl hc94) <|
                    .cons (o_pickF rfl rfl .no rfl hc94 rfl) <|
                    .cons (o_mv rfl rfl .no rfl) <|
                    .cons (o_noT rfl rfl rfl rfl rfl) <|
                    .cons (o_pickF rfl rfl .no rfl rfl rfl) <|
                    .cons (o_mv rfl rfl .no rfl) <|
                    .cons (o_noT rfl rfl rfl rfl rfl) <|
                    .cons (o_noT rfl rfl rfl rfl rfl) <|
                    .cons (o_pickF rfl rfl .no rfl rfl rfl) <|
                    .cons (o_mv rfl rfl .no rfl) <|
                    .cons (o_noT rfl rfl rfl rfl rfl) <|
                    .cons (o_noT rfl rfl rfl rfl rfl) <|
                    .cons (o_pickF rfl rfl .no rfl rfl rfl) <|
                    .cons (o_mv rfl rfl .no rfl) <|
                    .cons (o_noT rfl rfl rfl rfl rfl) <|
                    .cons (o_pickF rfl rfl .no rfl rfl rfl) <|
                    .cons (o_mv rfl rfl .no rfl) <|
                    .cons (o_noT rfl rfl rfl rfl rfl) <|
                    .cons (o_noT rfl rfl rfl rfl rfl) <|
                    .cons (o_noT rfl rfl rfl rfl rfl) <|
                    .cons (o_noT rfl rfl rfl rfl rfl) <|
                    .cons (o_pickF rfl rfl .no rfl rfl rfl) <|
                    .cons (o_as rfl rfl .no rfl) <|
                    .nil rfl
                  ) ?_
                  exact ⟨false, (Option.some.inj h96).symm, .w (weak_of ⟨⟨_, rfl, .d rfl⟩, trivial⟩ trivial drop0)⟩
              · skip
                refine cw_region (
                  .cons (o_mv rfl rfl .no rfl) <|
                  .cons (o_bin rfl rfl .no rfl rfl (b_eql _ _) rfl) <|
                  .cons (o_mv rfl rfl .no rfl) <|
                  .cons (o_mv rfl rfl (.yes rfl rfl hc73) rfl) <|
                  .cons (o_bin rfl rfl (.yes rfl rfl hc73) rfl rfl (b_eql _ _) rfl) <|
                  .cons (o_pickT rfl rfl .no rfl hc73 rfl) <|
                  .cons (o_mv rfl rfl .no rfl) <|
                  .cons (o_mv rfl rfl (.yes rfl rfl hc76) rfl) <|
                  .cons (o_bin rfl rfl (.yes rfl rfl hc76) rfl rfl (b_eql _ _) rfl) <|
                  .cons (o_pickT rfl rfl .no rfl hc76 rfl) <|
                  .cons (o_mv rfl rfl .no rfl) <|
                  .cons (o_mv rfl rfl (.yes rfl rfl hc79) rfl) <|
                  .cons (o_bin rfl rfl (.yes rfl rfl hc79) rfl rfl (b_eql _ _) rfl) <|
                  .cons (o_pickT rfl rfl .no rfl hc79 rfl) <|
                  .cons (o_mv rfl rfl .no rfl) <|
                  .cons (o_mv rfl rfl (.yes rfl rfl hc82) rfl) <|
                  .cons (o_lenAM (enc := eapiPair) (xs := x16.1) rfl rfl (.yes rfl rfl hc82) rfl rfl sl22) <|
                  .cons (o_bin rfl rfl (.yes rfl rfl hc82) rfl rfl (b_eql _ _) rfl) <|
                  .cons (o_pickT rfl rfl .no rfl hc82 rfl) <|
                  .cons (o_mv rfl rfl .no rfl) <|
                  .cons (o_mv rfl rfl (.yes rfl rfl hc85) rfl) <|
                  .cons (o_ixAM (enc := eapiPair) (xs := x16.1) rfl rfl (.yes rfl rfl hc85) rfl rfl rfl sl22 sz31 hx89g.1 hx89g.2) <|
                  .cons (o_fldE rfl rfl (.yes rfl rfl hc85) rfl rfl fld31_1 (by decide)) <|
                  .cons (o_ldEM (enc := eapiPair) (xs := x16.1) (r := x88) [1] rfl rfl (.yes rfl rfl hc85) rfl rfl hx89g.2 rfl ta9 rfl rfl) <|
                  .cons (o_bin rfl rfl (.yes rfl rfl hc85) rfl rfl (s_eql _ _) rfl) <|
                  .cons (o_pickT rfl rfl .no rfl hc85 rfl) <|
                  .cons (o_mv rfl rfl .no rfl) <|
                  .cons (o_noT rfl rfl rfl rfl hc91) <|
                  .cons (o_noT rfl rfl rfl rfl hc91) <|
                  .cons (o_pickF rfl rfl .no rfl hc91 rfl) <|
                  .cons (o_mv rfl rfl .no rfl) <|
                  .cons (o_noT rfl rfl rfl rfl rfl) <|
                  .cons (o_noT rfl rfl rfl rfl rfl) <|
                  .cons (o_pickF rfl rfl .no rfl rfl rfl) <|
                  .cons (o_mv rfl rfl .no rfl) <|
                  .cons (o_noT rfl rfl rfl rfl rfl) <|
                  .cons (o_pickF rfl rfl .no rfl rfl rfl) <|
                  .cons (o_mv rfl rfl .no rfl) <|
                  .cons (o_noT rfl rfl rfl rfl rfl) <|
                  .cons (o_noT rfl rfl rfl rfl rfl) <|
                  .cons (o_pickF rfl rfl .no rfl rfl rfl) <|
                  .cons (o_mv rfl rfl .no rfl) <|
                  .cons (o_noT rfl rfl rfl rfl rfl) <|
                  .cons (o_noT rfl rfl rfl rfl rfl) <|
                  .cons (o_pickF rfl rfl .no rfl rfl rfl) <|
                  .cons (o_mv rfl rfl .no rfl) <|
                  .cons (o_noT rfl rfl rfl rfl rfl) <|
                  .cons (o_pickF rfl rfl .no rfl rfl rfl) <|
                  .cons (o_mv rfl rfl .no rfl) <|
                  .cons (o_noT rfl rfl rfl rfl rfl) <|
                  .cons (o_noT rfl rfl rfl rfl rfl) <|
                  .cons (o_noT rfl rfl rfl rfl rfl) <|
                  .cons (o_noT rfl rfl rfl rfl rfl) <|
                  .cons (o_pickF rfl rfl .no rfl rfl rfl) <|
                  .cons (o_as rfl rfl .no rfl) <|
                  .nil rfl
                ) ?_
                exact ⟨false, (Option.some.inj h93).symm, .w (weak_of ⟨⟨_, rfl, .d rfl⟩, trivial⟩ trivial drop0)⟩
            · skip
              refine cw_region (
                .cons (o_mv rfl rfl .no rfl) <|
                .cons (o_bin rfl rfl .no rfl rfl (b_eql _ _) rfl) <|
                .cons (o_mv rfl rfl .no rfl) <|
                .cons (o_mv rfl rfl (.yes rfl rfl hc73) rfl) <|
                .cons (o_bin rfl rfl (.yes rfl rfl hc73) rfl rfl (b_eql _ _) rfl) <|
                .cons (o_pickT rfl rfl .no rfl hc73 rfl) <|
                .cons (o_mv rfl rfl .no rfl) <|
                .cons (o_mv rfl rfl (.yes rfl rfl hc76) rfl) <|
                .cons (o_bin rfl rfl (.yes rfl rfl hc76) rfl rfl (b_eql _ _) rfl) <|
                .cons (o_pickT rfl rfl .no rfl hc76 rfl) <|
                .cons (o_mv rfl rfl .no rfl) <|
                .cons (o_mv rfl rfl (.yes rfl rfl hc79) rfl) <|
                .cons (o_bin rfl rfl (.yes rfl rfl hc79) rfl rfl (b_eql _ _) rfl) <|
                .cons (o_pickT rfl rfl .no rfl hc79 rfl) <|
                .cons (o_mv rfl rfl .no rfl) <|
                .cons (o_mv rfl rfl (.yes rfl rfl hc82) rfl) <|
                .cons (o_lenAM (enc := eapiPair) (xs := x16.1) rfl rfl (.yes rfl rfl hc82) rfl rfl sl22) <|
                .cons (o_bin rfl rfl (.yes rfl rfl hc82) rfl rfl (b_eql _ _) rfl) <|
                .cons (o_pickT rfl rfl .no rfl hc82 rfl) <|
                .cons (o_mv rfl rfl .no rfl) <|
                .cons (o_noT rfl rfl rfl rfl hc85) <|
                .cons (o_noT rfl rfl rfl rfl hc85) <|
                .cons (o_noT rfl rfl rfl rfl hc85) <|
                .cons (o_noT rfl rfl rfl rfl hc85) <|
                .cons (o_noT rfl rfl rfl rfl hc85) <|
                .cons (o_pickF rfl rfl .no rfl hc85 rfl) <|
                .cons (o_mv rfl rfl .no rfl) <|
                .cons (o_noT rfl rfl rfl rfl rfl) <|
                .cons (o_noT rfl rfl rfl rfl rfl) <|
                .cons (o_pickF rfl rfl .no rfl rfl rfl) <|
                .cons (o_mv rfl rfl .no rfl) <|
                .cons (o_noT rfl rfl rfl rfl rfl) <|
                .cons (o_noT rfl rfl rfl rfl rfl) <|
                .cons (o_pickF rfl rfl .no rfl rfl rfl) <|
                .cons (o_mv rfl rfl .no rfl) <|
                .cons (o_noT rfl rfl rfl rfl rfl) <|
                .cons (o_pickF rfl rfl .no rfl rfl rfl) <|
                .cons (o_mv rfl rfl .no rfl) <|
                .cons (o_noT rfl rfl rfl rfl rfl) <|
                .cons (o_noT rfl rfl rfl rfl rfl) <|
                .cons (o_pickF rfl rfl .no rfl rfl rfl) <|
                .cons (o_mv rfl rfl .no rfl) <|
                .cons (o_noT rfl rfl rfl rfl rfl) <|
                .cons (o_noT rfl rfl rfl rfl rfl) <|
                .cons (o_pickF rfl rfl .no rfl rfl rfl) <|
                .cons (o_mv rfl rfl .no rfl) <|
                .cons (o_noT rfl rfl rfl rfl rfl) <|
                .cons (o_pickF rfl rfl .no rfl rfl rfl) <|
                .cons (o_mv rfl rfl .no rfl) <|
                .cons (o_noT rfl rfl rfl rfl rfl) <|
                .cons (o_noT rfl rfl rfl rfl rfl) <|
                .cons (o_noT rfl rfl rfl rfl rfl) <|
                .cons (o_noT rfl rfl rfl rfl rfl) <|
                .cons (o_pickF rfl rfl .no rfl rfl rfl) <|
                .cons (o_as rfl rfl .no rfl) <|
                .nil rfl
              ) ?_
              exact ⟨false, (Option.some.inj h87).symm, .w (weak_of ⟨⟨_, rfl, .d rfl⟩, trivial⟩ trivial drop0)⟩
          · skip
            refine cw_region (
              .cons (o_mv rfl rfl .no rfl) <|
              .cons (o_bin rfl rfl .no rfl rfl (b_eql _ _) rfl) <|
              .cons (o_mv rfl rfl .no rfl) <|
              .cons (o_mv rfl rfl (.yes rfl rfl hc73) rfl) <|
              .cons (o_bin rfl rfl (.yes rfl rfl hc73) rfl rfl (b_eql _ _) rfl) <|
              .cons (o_pickT rfl rfl .no rfl hc73 rfl) <|
              .cons (o_mv rfl rfl .no rfl) <|
              .cons (o_mv rfl rfl (.yes rfl rfl hc76) rfl) <|
              .cons (o_bin rfl rfl (.yes rfl rfl hc76) rfl rfl (b_eql _ _) rfl) <|
              .cons (o_pickT rfl rfl .no rfl hc76 rfl) <|
              .cons (o_mv rfl rfl .no rfl) <|
              .cons (o_mv rfl rfl (.yes rfl rfl hc79) rfl) <|
              .cons (o_bin rfl rfl (.yes rfl rfl hc79) rfl rfl (b_eql _ _) rfl) <|
              .cons (o_pickT rfl rfl .no rfl hc79 rfl) <|
              .cons (o_mv rfl rfl .no rfl) <|
              .cons (o_noT rfl rfl rfl rfl hc82) <|
              .cons (o_noT rfl rfl rfl rfl hc82) <|
              .cons (o_noT rfl rfl rfl rfl hc82) <|
              .cons (o_pickF rfl rfl .no rfl hc82 rfl) <|
              .cons (o_mv rfl rfl .no rfl) <|
              .cons (o_noT rfl rfl rfl rfl rfl) <|
              .cons (o_noT rfl rfl rfl rfl rfl) <|
              .cons (o_noT rfl rfl rfl rfl rfl) <|
              .cons (o_noT rfl rfl rfl rfl rfl) <|
              .cons (o_noT rfl rfl rfl rfl rfl) <|
              .cons (o_pickF rfl rfl .no rfl rfl rfl) <|
              .cons (o_mv rfl rfl .no rfl) <|
              .cons (o_noT rfl rfl rfl rfl rfl) <|
              .cons (o_noT rfl rfl rfl rfl rfl) <|
              .cons (o_pickF rfl rfl .no rfl rfl rfl) <|
              .cons (o_mv rfl rfl .no rfl) <|
              .cons (o_noT rfl rfl rfl rfl rfl) <|
              .cons (o_noT rfl rfl rfl rfl rfl) <|
              .cons (o_pickF rfl rfl .no rfl rfl rfl) <|
              .cons (o_mv rfl rfl .no rfl) <|
              .cons (o_noT rfl rfl rfl rfl rfl) <|
              .cons (o_pickF rfl rfl .no rfl rfl rfl) <|
              .cons (o_mv rfl rfl .no rfl) <|
              .cons (o_noT rfl rfl rfl rfl rfl) <|
              .cons (o_noT rfl rfl rfl rfl rfl) <|
              .cons (o_pickF rfl rfl .no rfl rfl rfl) <|
              .cons (o_mv rfl rfl .no rfl) <|
              .cons (o_noT rfl rfl rfl rfl rfl) <|
              .cons (o_noT rfl rfl rfl rfl rfl) <|
              .cons (o_pickF rfl rfl .no rfl rfl rfl) <|
              .cons (o_mv rfl rfl .no rfl) <|
              .cons (o_noT rfl rfl rfl rfl rfl) <|
              .cons (o_pickF rfl rfl .no rfl rfl rfl) <|
              .cons (o_mv rfl rfl .no rfl) <|
              .cons (o_noT rfl rfl rfl rfl rfl) <|
              .cons (o_noT rfl rfl rfl rfl rfl) <|
              .cons (o_noT rfl rfl rfl rfl rfl) <|
              .cons (o_noT rfl rfl rfl rfl rfl) <|
              .cons (o_pickF rfl rfl .no rfl rfl rfl) <|
              .cons (o_as rfl rfl .no rfl) <|
              .nil rfl
            ) ?_
            exact ⟨false, (Option.some.inj h84).symm, .w (weak_of ⟨⟨_, rfl, .d rfl⟩, trivial⟩ trivial drop0)⟩
        · skip
          refine cw_region (
            .cons (o_mv rfl rfl .no rfl) <|
            .cons (o_bin rfl rfl .no rfl rfl (b_eql _ _) rfl) <|
            .cons (o_mv rfl rfl .no rfl) <|
            .cons (o_mv rfl rfl (.yes rfl rfl hc73) rfl) <|
            .cons (o_bin rfl rfl (.yes rfl rfl hc73) rfl rfl (b_eql _ _) rfl) <|
            .cons (o_pickT rfl rfl .no rfl hc73 rfl) <|
            .cons (o_mv rfl rfl .no rfl) <|
            .cons (o_mv rfl rfl (.yes rfl rfl hc76) rfl) <|
            .cons (o_bin rfl rfl (.yes rfl rfl hc76) rfl rfl (b_eql _ _) rfl) <|
            .cons (o_pickT rfl rfl .no rfl hc76 rfl) <|
            .cons (o_mv rfl rfl .no rfl) <|
            .cons (o_noT rfl rfl rfl rfl hc79) <|
            .cons (o_noT rfl rfl rfl rfl hc79) <|
            .cons (o_pickF rfl rfl .no rfl hc79 rfl) <|
            .cons (o_mv rfl rfl .no rfl) <|
            .cons (o_noT rfl rfl rfl rfl rfl) <|
            .cons (o_noT rfl rfl rfl rfl rfl) <|
            .cons (o_noT rfl rfl rfl rfl rfl) <|
            .cons (o_pickF rfl rfl .no rfl rfl rfl) <|
            .cons (o_mv rfl rfl .no rfl) <|
            .cons (o_noT rfl rfl rfl rfl rfl) <|
            .cons (o_noT rfl rfl rfl rfl rfl) <|
            .cons (o_noT rfl rfl rfl rfl rfl) <|
            .cons (o_noT rfl rfl rfl rfl rfl) <|
            .cons (o_noT rfl rfl rfl rfl rfl) <|
            .cons (o_pickF rfl rfl .no rfl rfl rfl) <|
            .cons (o_mv rfl rfl .no rfl) <|
            .cons (o_noT rfl rfl rfl rfl rfl) <|
            .cons (o_noT rfl rfl rfl rfl rfl) <|
            .cons (o_pickF rfl rfl .no rfl rfl rfl) <|
            .cons (o_mv rfl rfl .no rfl) <|
            .cons (o_noT rfl rfl rfl rfl rfl) <|
            .cons (o_noT rfl rfl rfl rfl rfl) <|
            .cons (o_pickF rfl rfl .no rfl rfl rfl) <|
            .cons (o_mv rfl rfl .no rfl) <|
            .cons (o_noT rfl rfl rfl rfl rfl) <|
            .cons (o_pickF rfl rfl .no rfl rfl rfl) <|
            .cons (o_mv rfl rfl .no rfl) <|
            .cons (o_noT rfl rfl rfl rfl rfl) <|
            .cons (o_noT rfl rfl rfl rfl rfl) <|
            .cons (o_pickF rfl rfl .no rfl rfl rfl) <|
            .cons (o_mv rfl rfl .no rfl) <|
            .cons (o_noT rfl rfl rfl rfl rfl) <|
            .cons (o_noT rfl rfl rfl rfl rfl) <|
            .cons (o_pickF rfl rfl .no rfl rfl rfl) <|
            .cons (o_mv rfl rfl .no rfl) <|
            .cons (o_noT rfl rfl rfl rfl rfl) <|
            .cons (o_pickF rfl rfl .no rfl rfl rfl) <|
            .cons (o_mv rfl rfl .no rfl) <|
            .cons (o_noT rfl rfl rfl rfl rfl) <|
            .cons (o_noT rfl rfl rfl rfl rfl) <|
            .cons (o_noT rfl rfl rfl rfl rfl) <|
            .cons (o_noT rfl rfl rfl rfl rfl) <|
            .cons (o_pickF rfl rfl .no rfl rfl rfl) <|
            .cons (o_as rfl rfl .no rfl) <|
            .nil rfl
          ) ?_
          exact ⟨false, (Option.some.inj h81).symm, .w (weak_of ⟨⟨_, rfl, .d rfl⟩, trivial⟩ trivial drop0)⟩
      · skip
        refine cw_region (
          .cons (o_mv rfl rfl .no rfl) <|
          .cons (o_bin rfl rfl .no rfl rfl (b_eql _ _) rfl) <|
          .cons (o_mv rfl rfl .no rfl) <|
          .cons (o_mv rfl rfl (.yes rfl rfl hc73) rfl) <|
          .cons (o_bin rfl rfl (.yes rfl rfl hc73) rfl rfl (b_eql _ _) rfl) <|
          .cons (o_pickT rfl rfl .no rfl hc73 rfl) <|
          .cons (o_mv rfl rfl .no rfl) <|
          .cons (o_noT rfl rfl rfl rfl hc76) <|
          .cons (o_noT rfl rfl rfl rfl hc76) <|
          .cons (o_pickF rfl rfl .no rfl hc76 rfl) <|
          .cons (o_mv rfl rfl .no rfl) <|
          .cons (o_noT rfl rfl rfl rfl rfl) <|
          .cons (o_noT rfl rfl rfl rfl rfl) <|
          .cons (o_pickF rfl rfl .no rfl rfl rfl) <|
          .cons (o_mv rfl rfl .no rfl) <|
          .cons (o_noT rfl rfl rfl rfl rfl) <|
          .cons (o_noT rfl rfl rfl rfl rfl) <|
          .cons (o_noT rfl rfl rfl rfl rfl) <|
          .cons (o_pickF rfl rfl .no rfl rfl rfl) <|
          .cons (o_mv rfl rfl .no rfl) <|
          .cons (o_noT rfl rfl rfl rfl rfl) <|
          .cons (o_noT rfl rfl rfl rfl rfl) <|
          .cons (o_noT rfl rfl rfl rfl rfl) <|
          .cons (o_noT rfl rfl rfl rfl rfl) <|
          .cons (o_noT rfl rfl rfl rfl rfl) <|
          .cons (o_pickF rfl rfl .no rfl rfl rfl) <|
          .cons (o_mv rfl rfl .no rfl) <|
          .cons (o_noT rfl rfl rfl rfl rfl) <|
          .cons (o_noT rfl rfl rfl rfl rfl) <|
          .cons (o_pickF rfl rfl .no rfl rfl rfl) <|
          .cons (o_mv rfl rfl .no rfl) <|
          .cons (o_noT rfl rfl rfl rfl rfl) <|
          .cons (o_noT rfl rfl rfl rfl rfl) <|
          .cons (o_pickF rfl rfl .no rfl rfl rfl) <|
          .cons (o_mv rfl rfl .no rfl) <|
          .cons (o_noT rfl rfl rfl rfl rfl) <|
          .cons (o_pickF rfl rfl .no rfl rfl rfl) <|
          .cons (o_mv rfl rfl .no rfl) <|
          .cons (o_noT rfl rfl rfl rfl rfl) <|
          .cons (o_noT rfl rfl rfl rfl rfl) <|
          .cons (o_pickF rfl rfl .no rfl rfl rfl) <|
          .cons (o_mv rfl rfl .no rfl) <|
          .cons (o_noT rfl rfl rfl rfl rfl) <|
          .cons (o_noT rfl rfl rfl rfl rfl) <|
          .cons (o_pickF rfl rfl .no rfl rfl rfl) <|
          .cons (o_mv rfl rfl .no rfl) <|
          .cons (o_noT rfl rfl rfl rfl rfl) <|
          .cons (o_pickF rfl rfl .no rfl rfl rfl) <|
          .cons (o_mv rfl rfl .no rfl) <|
          .cons (o_noT rfl rfl rfl rfl rfl) <|
          .cons (o_noT rfl rfl rfl rfl rfl) <|
          .cons (o_noT rfl rfl rfl rfl rfl) <|
          .cons (o_noT rfl rfl rfl rfl rfl) <|
          .cons (o_pickF rfl rfl .no rfl rfl rfl) <|
          .cons (o_as rfl rfl .no rfl) <|
          .nil rfl
        ) ?_
        exact ⟨false, (Option.some.inj h78).symm, .w (weak_of ⟨⟨_, rfl, .d rfl⟩, trivial⟩ trivial drop0)⟩
    · skip
      refine cw_region (
        .cons (o_mv rfl rfl .no rfl) <|
        .cons (o_bin rfl rfl .no rfl rfl (b_eql _ _) rfl) <|
        .cons (o_mv rfl rfl .no rfl) <|
        .cons (o_noT rfl rfl rfl rfl hc73) <|
        .cons (o_noT rfl rfl rfl rfl hc73) <|
        .cons (o_pickF rfl rfl .no rfl hc73 rfl) <|
        .cons (o_mv rfl rfl .no rfl) <|
        .cons (o_noT rfl rfl rfl rfl rfl) <|
        .cons (o_noT rfl rfl rfl rfl rfl) <|
        .cons (o_pickF rfl rfl .no rfl rfl rfl) <|
        .cons (o_mv rfl rfl .no rfl) <|
        .cons (o_noT rfl rfl rfl rfl rfl) <|
        .cons (o_noT rfl rfl rfl rfl rfl) <|
        .cons (o_pickF rfl rfl .no rfl rfl rfl) <|
        .cons (o_mv rfl rfl .no rfl) <|
        .cons (o_noT rfl rfl rfl rfl rfl) <|
        .cons (o_noT rfl rfl rfl rfl rfl) <|
        .cons (o_noT rfl rfl rfl rfl rfl) <|
        .cons (o_pickF rfl rfl .no rfl rfl rfl) <|
        .cons (o_mv rfl rfl .no rfl) <|
        .cons (o_noT rfl rfl rfl rfl rfl) <|
        .cons (o_noT rfl rfl rfl rfl rfl) <|
        .cons (o_noT rfl rfl rfl rfl rfl) <|
        .cons (o_noT rfl rfl rfl rfl rfl) <|
        .cons (o_noT rfl rfl rfl rfl rfl) <|
        .cons (o_pickF rfl rfl .no rfl rfl rfl) <|
        .cons (o_mv rfl rfl .no rfl) <|
        .cons (o_noT rfl rfl rfl rfl rfl) <|
        .cons (o_noT rfl rfl rfl rfl rfl) <|
        .cons (o_pickF rfl rfl .no rfl rfl rfl) <|
        .cons (o_mv rfl rfl .no rfl) <|
        .cons (o_noT rfl rfl rfl rfl rfl) <|
        .cons (o_noT rfl rfl rfl rfl rfl) <|
        .cons (o_pickF rfl rfl .no rfl rfl rfl) <|
        .cons (o_mv rfl rfl .no rfl) <|
        .cons (o_noT rfl rfl rfl rfl rfl) <|
        .cons (o_pickF rfl rfl .no rfl rfl rfl) <|
        .cons (o_mv rfl rfl .no rfl) <|
        .cons (o_noT rfl rfl rfl rfl rfl) <|
        .cons (o_noT rfl rfl rfl rfl rfl) <|
        .cons (o_pickF rfl rfl .no rfl rfl rfl) <|
        .cons (o_mv rfl rfl .no rfl) <|
        .cons (o_noT rfl rfl rfl rfl rfl) <|
        .cons (o_noT rfl rfl rfl rfl rfl) <|
        .cons (o_pickF rfl rfl .no rfl rfl rfl) <|
        .cons (o_mv rfl rfl .no rfl) <|
        .cons (o_noT rfl rfl rfl rfl rfl) <|
        .cons (o_pickF rfl rfl .no rfl rfl rfl) <|
        .cons (o_mv rfl rfl .no rfl) <|
        .cons (o_noT rfl rfl rfl rfl rfl) <|
        .cons (o_noT rfl rfl rfl rfl rfl) <|
        .cons (o_noT rfl rfl rfl rfl rfl) <|
        .cons (o_noT rfl rfl rfl rfl rfl) <|
        .cons (o_pickF rfl rfl .no rfl rfl rfl) <|
        .cons (o_as rfl rfl .no rfl) <|
        .nil rfl
      ) ?_
      exact ⟨false, (Option.some.inj h75).symm, .w (weak_of ⟨⟨_, rfl, .d rfl⟩, trivial⟩ trivial drop0)⟩

end
end Go.Val

