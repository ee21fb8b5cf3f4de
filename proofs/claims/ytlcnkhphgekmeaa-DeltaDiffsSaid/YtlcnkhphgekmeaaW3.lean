/- Walks of the program's functions, printed. -/
import Derived.Test.YtlcnkhphgekmeaaWc
set_option linter.unusedSectionVars false
set_option linter.unusedVariables false
set_option linter.unusedSimpArgs false
namespace Go.Val
open Go.RowKit Go.Proofs

section
variable [NoDrw]

noncomputable def law09_DeltaMaps (a0 : List ((List UInt8) × ByteArray)) : Option Bool :=
  (law09_shown).bind fun x1 =>
  (law09_cut a0).bind fun x4 =>
  (delta_Map x4).bind fun x7 =>
  (((
    whileO (V := Int) (O := (Unit ⊕ Bool)) (fun v96 =>
      cond (decide (v96 < (x7.length : Int))) (
        (gx x7 (IntKind.wrap .i64 (v96 - 1))).bind fun x103 =>
        (gx x7 v96).bind fun x106 =>
        (ref03_Less x103.1 x106.1).bind fun x109 =>
        cond (!x109) (
          some (.inr (.inr false))
        ) (
          some (.inl (IntKind.wrap .i64 (v96 + 1)))
        )
      ) (
        some (.inr (.inl ()))
      )
    ) 1
  ) : Option (Unit ⊕ Bool))).bind fun o61 =>
  Sum.elim (fun (v116 : Unit) =>
    (((
      whileO (V := Int) (O := (Unit ⊕ Bool)) (fun v1993 =>
        cond (decide (v1993 < (x4.length : Int))) (
          (((
            (gx x4 v1993).bind fun x2184 =>
            (((
              whileO (V := (ByteArray × Int)) (O := ByteArray) (fun v2322 =>
                cond (decide (v2322.2 < (x4.length : Int))) (
                  (((
                    (gx x4 v2322.2).bind fun x2338 =>
                    cond (decide (x2338.1 = x2184.1)) (
                      some x2338.2
                    ) (
                      some v2322.1
                    )
                  ) : Option ByteArray)).bind fun o2335 =>
                  some (.inl (o2335, (IntKind.wrap .i64 (v2322.2 + 1))))
                ) (
                  some (.inr v2322.1)
                )
              ) (x2184.2, v1993)
            ) : Option ByteArray)).bind fun o2265 =>
            (ref09_Get x7 x2184.1).bind fun x2346 =>
            (((
              cond (!x2346.2) (
                some true
              ) (
                some (decide (x2346.1 ≠ o2265))
              )
            ) : Option Bool)).bind fun o2352 =>
            cond o2352 (
              some (.inr false)
            ) (
              some (.inl ())
            )
          ) : Option (Unit ⊕ Bool))).bind fun o2181 =>
          Sum.elim (fun (v2367 : Unit) =>
            some (.inl (IntKind.wrap .i64 (v1993 + 1)))
          ) (fun w2370 =>
            some (.inr (.inr w2370))
          ) o2181
        ) (
          some (.inr (.inl ()))
        )
      ) 0
    ) : Option (Unit ⊕ Bool))).bind fun o1242 =>
    Sum.elim (fun (v2371 : Unit) =>
      (((
        cond x1 (
          cond (decide ((x7.length : Int) ≤ (x4.length : Int))) (
            (delta_Map x7).bind fun x2393 =>
            (ref09_Same x2393 x7).bind fun x2396 =>
            some x2396
          ) (
            some false
          )
        ) (
          some false
        )
      ) : Option Bool)).bind fun o2384 =>
      some o2384
    ) (fun w2403 =>
      some w2403
    ) o1242
  ) (fun w2406 =>
    some w2406
  ) o61

set_option maxRecDepth 100000 in
theorem law09_DeltaMaps_ok {a0 : List ((List UInt8) × ByteArray)} {r : Bool} (h : law09_DeltaMaps a0 = some r) : FnOk Try.prog 3 [.d (eSapiPair a0)] 0 (lk []) (fun rr oo => rr = .d (ebool r) ∧ oo = lk []) := by
  refine fnOk_of Try.func3 rfl rfl ?_
  unfold law09_DeltaMaps at h
  refine cw_seq (cw_region (
    .cons (o_as rfl rfl .no rfl) <|
    .nil rfl
  ) ?_)
  obtain ⟨x1, hx2, h3⟩ := bind_some h
  refine cw_seq (cw_region (
    .cons (o_call rfl rfl .no Try.func10 rfl rfl (law09_shown_ok hx2) .nil trivial (.inl rfl)) <|
    .cons (o_as rfl rfl .no rfl) <|
    .nil rfl
  ) ?_)
  obtain ⟨x4, hx5, h6⟩ := bind_some h3
  refine cw_seq (cw_region (
    .cons (o_mv rfl rfl .no rfl) <|
    .cons (o_call rfl rfl .no Try.func11 rfl rfl (law09_cut_ok hx5) (.cons rfl .d .nil) ⟨trivial, trivial⟩ (.inl rfl)) <|
    .cons (o_as rfl rfl .no rfl) <|
    .nil rfl
  ) ?_)
  obtain ⟨x7, hx8, h9⟩ := bind_some h6
  refine cw_seq (cw_region (
    .cons (o_mv rfl rfl .no rfl) <|
    .cons (o_call rfl rfl .no Try.func12 rfl rfl (delta_Map_ok hx8) (.cons rfl .d .nil) ⟨trivial, trivial⟩ (.inl rfl)) <|
    .cons (o_as rfl rfl .no rfl) <|
    .nil rfl
  ) ?_)
  obtain ⟨o61, hj62, h63⟩ := bind_some h9
  refine cw_join (fun (z : Unit) => St.of [(0, .d (eSapiPair x4)), (3, .d (ebool x1)), (4, .d (eSapiPair x7))] []) (fun (z : Unit) => o61 = (.inl z)) ?_ ?_
  · intro v116 hv2405; subst hv2405
    obtain ⟨o1242, hj1243, h1244⟩ := bind_some h63
    refine cw_join (fun (z : Unit) => St.of [(0, .d (eSapiPair x4)), (3, .d (ebool x1)), (4, .d (eSapiPair x7))] []) (fun (z : Unit) => o1242 = (.inl z)) ?_ ?_
    · intro v2371 hv2402; subst hv2402
      obtain ⟨o2384, hj2385, h2386⟩ := bind_some h1244
      refine cw_join (fun (z : Bool) => St.of [(2, .d (ebool z))] []) (fun (z : Bool) => o2384 = z) ?_ ?_
      · intro v2399 hv2400; subst hv2400
        have heq := ((Option.some.inj h2386).symm).symm
        subst heq
        exact cw_weak (weak_of (l := [(2, .d (ebool o2384))]) (m := []) ⟨⟨_, rfl, .d rfl⟩, trivial⟩ trivial drop0) (cw_ret ⟨.inr rfl, _, res1 rfl rfl, rfl, rfl⟩)
      · skip
        rcases cond_some hj2385 with ⟨hc2387, h2388⟩ | ⟨hc2387, h2389⟩
        · skip
          rcases cond_some h2388 with ⟨hc2390, h2391⟩ | ⟨hc2390, h2392⟩
          · skip
            obtain ⟨x2393, hx2394, h2395⟩ := bind_some h2391
            obtain ⟨x2396, hx2397, h2398⟩ := bind_some h2395
            refine cw_region (
              .cons (o_mv rfl rfl .no rfl) <|
              .cons (o_mv rfl rfl .no rfl) <|
              .cons (o_mv rfl rfl (.yes rfl rfl hc2387) rfl) <|
              .cons (o_lenM (enc := eapiPair) (xs := x7) rfl rfl (.yes rfl rfl hc2387) rfl sl22) <|
              .cons (o_mv rfl rfl (.yes rfl rfl hc2387) rfl) <|
              .cons (o_lenM (enc := eapiPair) (xs := x4) rfl rfl (.yes rfl rfl hc2387) rfl sl22) <|
              .cons (o_bin rfl rfl (.yes rfl rfl hc2387) rfl rfl (b_leq _ _) rfl) <|
              .cons (o_pickT rfl rfl .no rfl hc2387 rfl) <|
              .cons (o_mv rfl rfl .no rfl) <|
              .cons (o_mv rfl rfl (.yes rfl rfl hc2390) rfl) <|
              .cons (o_call rfl rfl (.yes rfl rfl hc2390) Try.func12 rfl rfl (delta_Map_ok hx2394) (.cons rfl .d .nil) ⟨trivial, trivial⟩ (.inl rfl)) <|
              .cons (o_mv rfl rfl (.yes rfl rfl hc2390) rfl) <|
              .cons (o_call rfl rfl (.yes rfl rfl hc2390) Try.func15 rfl rfl (ref09_Same_ok hx2397) (.cons rfl .d (.cons rfl .d .nil)) ⟨trivial, trivial, trivial⟩ (.inl rfl)) <|
              .cons (o_pickT rfl rfl .no rfl hc2390 rfl) <|
              .cons (o_as rfl rfl .no rfl) <|
              .nil rfl
            ) ?_
            exact ⟨x2396, (Option.some.inj h2398).symm, weak_of ⟨⟨_, rfl, .d rfl⟩, trivial⟩ trivial drop0⟩
          · skip
            refine cw_region (
              .cons (o_mv rfl rfl .no rfl) <|
              .cons (o_mv rfl rfl .no rfl) <|
              .cons (o_mv rfl rfl (.yes rfl rfl hc2387) rfl) <|
              .cons (o_lenM (enc := eapiPair) (xs := x7) rfl rfl (.yes rfl rfl hc2387) rfl sl22) <|
              .cons (o_mv rfl rfl (.yes rfl rfl hc2387) rfl) <|
              .cons (o_lenM (enc := eapiPair) (xs := x4) rfl rfl (.yes rfl rfl hc2387) rfl sl22) <|
              .cons (o_bin rfl rfl (.yes rfl rfl hc2387) rfl rfl (b_leq _ _) rfl) <|
              .cons (o_pickT rfl rfl .no rfl hc2387 rfl) <|
              .cons (o_mv rfl rfl .no rfl) <|
              .cons (o_noT rfl rfl rfl rfl hc2390) <|
              .cons (o_noT rfl rfl rfl rfl hc2390) <|
              .cons (o_noT rfl rfl rfl rfl hc2390) <|
              .cons (o_noT rfl rfl rfl rfl hc2390) <|
              .cons (o_pickF rfl rfl .no rfl hc2390 rfl) <|
              .cons (o_as rfl rfl .no rfl) <|
              .nil rfl
            ) ?_
            exact ⟨false, (Option.some.inj h2392).symm, weak_of ⟨⟨_, rfl, .d rfl⟩, trivial⟩ trivial drop0⟩
        · skip
          refine cw_region (
            .cons (o_mv rfl rfl .no rfl) <|
            .cons (o_mv rfl rfl .no rfl) <|
            .cons (o_noT rfl rfl rfl rfl hc2387) <|
            .cons (o_noT rfl rfl rfl rfl hc2387) <|
            .cons (o_noT rfl rfl rfl rfl hc2387) <|
            .cons (o_noT rfl rfl rfl rfl hc2387) <|
            .cons (o_noT rfl rfl rfl rfl hc2387) <|
            .cons (o_pickF rfl rfl .no rfl hc2387 rfl) <|
            .cons (o_mv rfl rfl .no rfl) <|
            .cons (o_noT rfl rfl rfl rfl rfl) <|
            .cons (o_noT rfl rfl rfl rfl rfl) <|
            .cons (o_noT rfl rfl rfl rfl rfl) <|
            .cons (o_noT rfl rfl rfl rfl rfl) <|
            .cons (o_pickF rfl rfl .no rfl rfl rfl) <|
            .cons (o_as rfl rfl .no rfl) <|
            .nil rfl
          ) ?_
          exact ⟨false, (Option.some.inj h2389).symm, weak_of ⟨⟨_, rfl, .d rfl⟩, trivial⟩ trivial drop0⟩
    · skip
      refine cw_seq (cw_region (
        .cons (o_as rfl rfl .no rfl) <|
        .nil rfl
      ) ?_)
      refine cw_block ?_
      refine cw_while (V := Int) (O := (Unit ⊕ Bool)) (fun (z : Int) => St.of [(0, .d (eSapiPair x4)), (3, .d (ebool x1)), (4, .d (eSapiPair x7)), (6, .d (eint z))] []) hj1243 (weak_of ⟨⟨_, rfl, .d rfl⟩, ⟨_, rfl, .d rfl⟩, ⟨_, rfl, .d rfl⟩, ⟨_, rfl, .d rfl⟩, trivial⟩ trivial drop0) ?_
      intro v1993 x1994 hb1995 hx1996
      refine cw_seq ?_
      refine cw_seq (cw_region (
        .cons (o_mv rfl rfl .no rfl) <|
        .cons (o_mv rfl rfl .no rfl) <|
        .cons (o_lenM (enc := eapiPair) (xs := x4) rfl rfl .no rfl sl22) <|
        .cons (o_bin rfl rfl .no rfl rfl (b_lss _ _) rfl) <|
        .nil rfl
      ) ?_)
      rcases cond_some hb1995 with ⟨hc1997, h1998⟩ | ⟨hc1997, h1999⟩
      · refine cw_condT rfl hc1997 ?_
        refine cw_skip ?_
        obtain ⟨o2181, hj2182, h2183⟩ := bind_some h1998
        refine cw_join (fun (z : Unit) => St.of [(0, .d (eSapiPair x4)), (3, .d (ebool x1)), (4, .d (eSapiPair x7)), (6, .d (eint v1993))] []) (fun (z : Unit) => o2181 = (.inl z)) ?_ ?_
        · intro v2367 hv2369; subst hv2369
          refine cw_region (
            .cons (o_mv rfl rfl .no rfl) <|
            .cons (o_bin rfl rfl .no rfl rfl (b_add _ _) rfl) <|
            .cons (o_as rfl rfl .no rfl) <|
            .nil rfl
          ) ?_
          exact ⟨(IntKind.wrap .i64 (v1993 + 1)), (Option.some.inj h2183).symm, weak_of ⟨⟨_, rfl, .d rfl⟩, ⟨_, rfl, .d rfl⟩, ⟨_, rfl, .d rfl⟩, ⟨_, rfl, .d rfl⟩, trivial⟩ trivial drop0⟩
        · skip
          refine cw_block ?_
          obtain ⟨x2184, hx2185, h2186⟩ := bind_some hj2182
          have hx2185g := gx_some hx2185
          refine cw_seq (cw_region (
            .cons (o_mv rfl rfl .no rfl) <|
            .cons (o_mv rfl rfl .no rfl) <|
            .cons (o_ixM (enc := eapiPair) (xs := x4) rfl rfl .no rfl rfl sl22 sz29 hx2185g.1 hx2185g.2) <|
            .cons (o_fld rfl rfl .no rfl fld29_1 (by decide) rfl rfl) <|
            .cons (o_ld rfl rfl .no rfl ta9 rfl rfl) <|
            .cons (o_as rfl rfl .no rfl) <|
            .nil rfl
          ) ?_)
          obtain ⟨o2265, hj2266, h2267⟩ := bind_some h2186
          refine cw_join (fun (z : ByteArray) => St.of [(0, .d (eSapiPair x4)), (3, .d (ebool x1)), (4, .d (eSapiPair x7)), (6, .d (eint v1993)), (7, .d (estring z))] []) (fun (z : ByteArray) => o2265 = z) ?_ ?_
          · intro v2365 hv2366; subst hv2366
            obtain ⟨x2346, hx2347, h2348⟩ := bind_some h2267
            refine cw_seq (cw_region (
              .cons (o_mv rfl rfl .no rfl) <|
              .cons (o_mv rfl rfl .no rfl) <|
              .cons (o_mv rfl rfl .no rfl) <|
              .cons (o_ixM (enc := eapiPair) (xs := x4) rfl rfl .no rfl rfl sl22 sz29 hx2185g.1 hx2185g.2) <|
              .cons (o_fld rfl rfl .no rfl fld29_0 (by decide) rfl rfl) <|
              .cons (o_ld rfl rfl .no rfl ta27 rfl rfl) <|
              .cons (o_call rfl rfl .no Try.func14 rfl rfl (ref09_Get_ok hx2347) (.cons rfl .d (.cons rfl .d .nil)) ⟨trivial, trivial, trivial⟩ (.inl rfl)) <|
              .cons (o_mv rfl rfl .no rfl) <|
              .cons (o_ext rfl rfl .no rfl rfl) <|
              .cons (o_ext rfl rfl .no rfl rfl) <|
              .cons (o_as rfl rfl .no rfl) <|
              .cons (o_as rfl rfl .no rfl) <|
              .nil rfl
            ) ?_)
            obtain ⟨o2352, hj2353, h2354⟩ := bind_some h2348
            refine cw_join (fun (z : Bool) => St.of [(0, .d (eSapiPair x4)), (3, .d (ebool x1)), (4, .d (eSapiPair x7)), (6, .d (eint v1993)), (85, .d (ebool z))] []) (fun (z : Bool) => o2352 = z) ?_ ?_
            · intro v2363 hv2364; subst hv2364
              rcases cond_some h2354 with ⟨hc2358, h2359⟩ | ⟨hc2358, h2360⟩
              · refine cw_condT rfl hc2358 ?_
                refine cw_seq (cw_region (
                  .cons (o_as rfl rfl .no rfl) <|
                  .nil rfl
                ) ?_)
                have he2361 := ((Option.some.inj h2359).symm).symm
                subst he2361
                have he2362 := ((hx1996 _ (Option.some.inj h2183).symm).symm).symm
                subst he2362
                have heq := ((Option.some.inj h1244).symm).symm
                subst heq
                exact cw_weak (weak_of (l := [(2, .d (ebool false))]) (m := []) ⟨⟨_, rfl, .d rfl⟩, trivial⟩ trivial drop0) (cw_ret ⟨.inr rfl, _, res1 rfl rfl, rfl, rfl⟩)
              · refine cw_condF rfl hc2358 ?_
                refine cw_skip ?_
                exact ⟨(), (Option.some.inj h2360).symm, weak_of ⟨⟨_, rfl, .d rfl⟩, ⟨_, rfl, .d rfl⟩, ⟨_, rfl, .d rfl⟩, ⟨_, rfl, .d rfl⟩, trivial⟩ trivial drop0⟩
            · skip
              rcases cond_some hj2353 with ⟨hc2355, h2356⟩ | ⟨hc2355, h2357⟩
              · skip
                refine cw_region (
                  .cons (o_mv rfl rfl .no rfl) <|
                  .cons (o_not rfl rfl .no rfl) <|
                  .cons (o_mv rfl rfl .no rfl) <|
                  .cons (o_noT rfl rfl rfl rfl hc2355) <|
                  .cons (o_noT rfl rfl rfl rfl hc2355) <|
                  .cons (o_noT rfl rfl rfl rfl hc2355) <|
                  .cons (o_pickT rfl rfl .no rfl hc2355 rfl) <|
                  .nil rfl
                ) ?_
                exact ⟨true, (Option.some.inj h2356).symm, weak_of ⟨⟨_, rfl, .d rfl⟩, ⟨_, rfl, .d rfl⟩, ⟨_, rfl, .d rfl⟩, ⟨_, rfl, .d rfl⟩, ⟨_, rfl, .d rfl⟩, trivial⟩ trivial drop0⟩
              · skip
                refine cw_region (
                  .cons (o_mv rfl rfl .no rfl) <|
                  .cons (o_not rfl rfl .no rfl) <|
                  .cons (o_mv rfl rfl .no rfl) <|
                  .cons (o_mv rfl rfl (.yes rfl rfl hc2355) rfl) <|
                  .cons (o_mv rfl rfl (.yes rfl rfl hc2355) rfl) <|
                  .cons (o_bin rfl rfl (.yes rfl rfl hc2355) rfl rfl (s_neq _ _) rfl) <|
                  .cons (o_pickF rfl rfl .no rfl hc2355 rfl) <|
                  .nil rfl
                ) ?_
                exact ⟨(decide (x2346.1 ≠ o2265)), (Option.some.inj h2357).symm, weak_of ⟨⟨_, rfl, .d rfl⟩, ⟨_, rfl, .d rfl⟩, ⟨_, rfl, .d rfl⟩, ⟨_, rfl, .d rfl⟩, ⟨_, rfl, .d rfl⟩, trivial⟩ trivial drop0⟩
          · skip
            refine cw_seq (cw_region (
              .cons (o_mv rfl rfl .no rfl) <|
              .cons (o_as rfl rfl .no rfl) <|
              .nil rfl
            ) ?_)
            refine cw_block ?_
            refine cw_while (V := (ByteArray × Int)) (O := ByteArray) (fun (z : (ByteArray × Int)) => St.of [(0, .d (eSapiPair x4)), (3, .d (ebool x1)), (4, .d (eSapiPair x7)), (6, .d (eint v1993)), (7, .d (estring z.1)), (8, .d (eint z.2))] []) hj2266 (weak_of ⟨⟨_, rfl, .d rfl⟩, ⟨_, rfl, .d rfl⟩, ⟨_, rfl, .d rfl⟩, ⟨_, rfl, .d rfl⟩, ⟨_, rfl, .d rfl⟩, ⟨_, rfl, .d rfl⟩, trivial⟩ trivial drop0) ?_
            intro v2322 x2323 hb2324 hx2325
            refine cw_seq ?_
            refine cw_seq (cw_region (
              .cons (o_mv rfl rfl .no rfl) <|
              .cons (o_mv rfl rfl .no rfl) <|
              .cons (o_lenM (enc := eapiPair) (xs := x4) rfl rfl .no rfl sl22) <|
              .cons (o_bin rfl rfl .no rfl rfl (b_lss _ _) rfl) <|
              .nil rfl
            ) ?_)
            rcases cond_some hb2324 with ⟨hc2326, h2327⟩ | ⟨hc2326, h2328⟩
            · refine cw_condT rfl hc2326 ?_
              refine cw_skip ?_
              obtain ⟨o2335, hj2336, h2337⟩ := bind_some h2327
              refine cw_join (fun (z : ByteArray) => St.of [(0, .d (eSapiPair x4)), (3, .d (ebool x1)), (4, .d (eSapiPair x7)), (6, .d (eint v1993)), (7, .d (estring z)), (8, .d (eint v2322.2))] []) (fun (z : ByteArray) => o2335 = z) ?_ ?_
              · intro v2344 hv2345; subst hv2345
                refine cw_region (
                  .cons (o_mv rfl rfl .no rfl) <|
                  .cons (o_bin rfl rfl .no rfl rfl (b_add _ _) rfl) <|
                  .cons (o_as rfl rfl .no rfl) <|
                  .nil rfl
                ) ?_
                exact ⟨(o2335, (IntKind.wrap .i64 (v2322.2 + 1))), (Option.some.inj h2337).symm, weak_of ⟨⟨_, rfl, .d rfl⟩, ⟨_, rfl, .d rfl⟩, ⟨_, rfl, .d rfl⟩, ⟨_, rfl, .d rfl⟩, ⟨_, rfl, .d rfl⟩, ⟨_, rfl, .d rfl⟩, trivial⟩ trivial drop0⟩
              · skip
                refine cw_block ?_
                obtain ⟨x2338, hx2339, h2340⟩ := bind_some hj2336
                have hx2339g := gx_some hx2339
                refine cw_seq (cw_region_any mixed (by kernel_rfl) (
                  .cons (o_mv rfl rfl .no rfl) <|
                  .cons (o_mv rfl rfl .no rfl) <|
                  .cons (o_ixM (enc := eapiPair) (xs := x4) rfl rfl .no rfl rfl sl22 sz29 hx2339g.1 hx2339g.2) <|
                  .cons (o_fld rfl rfl .no rfl fld29_0 (by decide) rfl rfl) <|
                  .cons (o_ld rfl rfl .no rfl ta27 rfl rfl) <|
                  .cons (o_mv rfl rfl .no rfl) <|
                  .cons (o_mv rfl rfl .no rfl) <|
                  .cons (o_ixM (enc := eapiPair) (xs := x4) rfl rfl .no rfl rfl sl22 sz29 hx2185g.1 hx2185g.2) <|
                  .cons (o_fld rfl rfl .no rfl fld29_0 (by decide) rfl rfl) <|
                  .cons (o_ld rfl rfl .no rfl ta27 rfl rfl) <|
                  .cons (o_eq rfl rfl .no rfl rfl rfl rfl eg27 (.bs ar27 un5 sz5)) <|
                  .nil rfl
                ) (by kernel_rfl) ?_)
                rcases cond_some h2340 with ⟨hc2341, h2342⟩ | ⟨hc2341, h2343⟩
                · refine cw_condT rfl hc2341 ?_
                  refine cw_region (
                    .cons (o_mv rfl rfl .no rfl) <|
                    .cons (o_mv rfl rfl .no rfl) <|
                    .cons (o_ixM (enc := eapiPair) (xs := x4) rfl rfl .no rfl rfl sl22 sz29 hx2339g.1 hx2339g.2) <|
                    .cons (o_fld rfl rfl .no rfl fld29_1 (by decide) rfl rfl) <|
                    .cons (o_ld rfl rfl .no rfl ta9 rfl rfl) <|
                    .cons (o_as rfl rfl .no rfl) <|
                    .nil rfl
                  ) ?_
                  exact ⟨x2338.2, (Option.some.inj h2342).symm, weak_of ⟨⟨_, rfl, .d rfl⟩, ⟨_, rfl, .d rfl⟩, ⟨_, rfl, .d rfl⟩, ⟨_, rfl, .d rfl⟩, ⟨_, rfl, .d rfl⟩, ⟨_, rfl, .d rfl⟩, trivial⟩ trivial drop0⟩
                · refine cw_condF rfl hc2341 ?_
                  refine cw_skip ?_
                  exact ⟨v2322.1, (Option.some.inj h2343).symm, weak_of ⟨⟨_, rfl, .d rfl⟩, ⟨_, rfl, .d rfl⟩, ⟨_, rfl, .d rfl⟩, ⟨_, rfl, .d rfl⟩, ⟨_, rfl, .d rfl⟩, ⟨_, rfl, .d rfl⟩, trivial⟩ trivial drop0⟩
            · refine cw_condF rfl hc2326 ?_
              refine cw_exit ?_
              exact ⟨v2322.1, (hx2325 _ (Option.some.inj h2328).symm).symm, weak_of ⟨⟨_, rfl, .d rfl⟩, ⟨_, rfl, .d rfl⟩, ⟨_, rfl, .d rfl⟩, ⟨_, rfl, .d rfl⟩, ⟨_, rfl, .d rfl⟩, trivial⟩ trivial drop0⟩
      · refine cw_condF rfl hc1997 ?_
        refine cw_exit ?_
        exact ⟨(), (hx1996 _ (Option.some.inj h1999).symm).symm, weak_of ⟨⟨_, rfl, .d rfl⟩, ⟨_, rfl, .d rfl⟩, ⟨_, rfl, .d rfl⟩, trivial⟩ trivial drop0⟩
  · skip
    refine cw_seq (cw_region (
      .cons (o_as rfl rfl .no rfl) <|
      .nil rfl
    ) ?_)
    refine cw_block ?_
    refine cw_while (V := Int) (O := (Unit ⊕ Bool)) (fun (z : Int) => St.of [(0, .d (eSapiPair x4)), (3, .d (ebool x1)), (4, .d (eSapiPair x7)), (5, .d (eint z))] []) hj62 (weak_of ⟨⟨_, rfl, .d rfl⟩, ⟨_, rfl, .d rfl⟩, ⟨_, rfl, .d rfl⟩, ⟨_, rfl, .d rfl⟩, trivial⟩ trivial drop0) ?_
    intro v96 x97 hb98 hx99
    refine cw_seq ?_
    refine cw_seq (cw_region (
      .cons (o_mv rfl rfl .no rfl) <|
      .cons (o_mv rfl rfl .no rfl) <|
      .cons (o_lenM (enc := eapiPair) (xs := x7) rfl rfl .no rfl sl22) <|
      .cons (o_bin rfl rfl .no rfl rfl (b_lss _ _) rfl) <|
      .nil rfl
    ) ?_)
    rcases cond_some hb98 with ⟨hc100, h101⟩ | ⟨hc100, h102⟩
    · refine cw_condT rfl hc100 ?_
      refine cw_skip ?_
      refine cw_seq ?_
      refine cw_block ?_
      obtain ⟨x103, hx104, h105⟩ := bind_some h101
      have hx104g := gx_some hx104
      obtain ⟨x106, hx107, h108⟩ := bind_some h105
      have hx107g := gx_some hx107
      obtain ⟨x109, hx110, h111⟩ := bind_some h108
      refine cw_seq (cw_region_any mixed (by kernel_rfl) (
        .cons (o_mv rfl rfl .no rfl) <|
        .cons (o_mv rfl rfl .no rfl) <|
        .cons (o_bin rfl rfl .no rfl rfl (b_sub _ _) rfl) <|
        .cons (o_ixM (enc := eapiPair) (xs := x7) rfl rfl .no rfl rfl sl22 sz29 hx104g.1 hx104g.2) <|
        .cons (o_fld rfl rfl .no rfl fld29_0 (by decide) rfl rfl) <|
        .cons (o_ld rfl rfl .no rfl ta27 rfl rfl) <|
        .cons (o_mv rfl rfl .no rfl) <|
        .cons (o_mv rfl rfl .no rfl) <|
        .cons (o_ixM (enc := eapiPair) (xs := x7) rfl rfl .no rfl rfl sl22 sz29 hx107g.1 hx107g.2) <|
        .cons (o_fld rfl rfl .no rfl fld29_0 (by decide) rfl rfl) <|
        .cons (o_ld rfl rfl .no rfl ta27 rfl rfl) <|
        .cons (o_call rfl rfl .no Try.func13 rfl rfl (ref03_Less_ok hx110) (.cons rfl .d (.cons rfl .d .nil)) ⟨trivial, trivial, trivial⟩ (.inl rfl)) <|
        .cons (o_not rfl rfl .no rfl) <|
        .nil rfl
      ) (by kernel_rfl) ?_)
      rcases cond_some h111 with ⟨hc112, h113⟩ | ⟨hc112, h114⟩
      · refine cw_condT rfl hc112 ?_
        refine cw_seq (cw_region (
          .cons (o_as rfl rfl .no rfl) <|
          .nil rfl
        ) ?_)
        have he115 := ((hx99 _ (Option.some.inj h113).symm).symm).symm
        subst he115
        have heq := ((Option.some.inj h63).symm).symm
        subst heq
        exact cw_weak (weak_of (l := [(2, .d (ebool false))]) (m := []) ⟨⟨_, rfl, .d rfl⟩, trivial⟩ trivial drop0) (cw_ret ⟨.inr rfl, _, res1 rfl rfl, rfl, rfl⟩)
      · refine cw_condF rfl hc112 ?_
        refine cw_skip ?_
        refine cw_region (
          .cons (o_mv rfl rfl .no rfl) <|
          .cons (o_bin rfl rfl .no rfl rfl (b_add _ _) rfl) <|
          .cons (o_as rfl rfl .no rfl) <|
          .nil rfl
        ) ?_
        exact ⟨(IntKind.wrap .i64 (v96 + 1)), (Option.some.inj h114).symm, weak_of ⟨⟨_, rfl, .d rfl⟩, ⟨_, rfl, .d rfl⟩, ⟨_, rfl, .d rfl⟩, ⟨_, rfl, .d rfl⟩, trivial⟩ trivial drop0⟩
    · refine cw_condF rfl hc100 ?_
      refine cw_exit ?_
      exact ⟨(), (hx99 _ (Option.some.inj h102).symm).symm, weak_of ⟨⟨_, rfl, .d rfl⟩, ⟨_, rfl, .d rfl⟩, ⟨_, rfl, .d rfl⟩, trivial⟩ trivial drop0⟩

end
end Go.Val
