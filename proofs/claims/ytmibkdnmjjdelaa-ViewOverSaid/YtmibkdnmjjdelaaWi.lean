/- Walks of the program's functions, printed. -/
import Derived.Test.YtmibkdnmjjdelaaWh
import Derived.Test.YtmibkdnmjjdelaaLc
set_option linter.unusedSectionVars false
set_option linter.unusedVariables false
set_option linter.unusedSimpArgs false
namespace Go.Val
open Go.RowKit Go.Proofs

section
variable [NoDrw]

noncomputable def law12_ViewReads (a0 : List ((List UInt8) × ByteArray)) (a1 : List UInt8) (a2 : ((List UInt8) × (List UInt8) × Bool)) (a3 : List UInt8) (a4 : Bool) : Option Bool :=
  (law12_shown).bind fun x1 =>
  (law12_cut a0).bind fun x4 =>
  (view_NewPlain x4).bind fun x7 =>
  (view_New x7).bind fun x10 =>
  (((
    cond (!x1) (
      some true
    ) (
      some false
    )
  ) : Option Bool)).bind fun o16 =>
  cond o16 (
    some false
  ) (
    (((
      cond a4 (
        (view_View_Put x10 a1 (ByteArray.mk #[120])).bind fun x37 =>
        some x37.2
      ) (
        some x10
      )
    ) : Option ((List ((List UInt8) × ByteArray)) × (List ((List UInt8) × ((List UInt8) × ByteArray × Bool))) × (List ((List UInt8) × (List UInt8) × Bool)) × (List (List ((List UInt8) × ((List UInt8) × ByteArray × Bool))))))).bind fun o31 =>
    (view_View_Get o31 a1).bind fun x40 =>
    (((
      (view_View_Reads x40.2.2.2).bind fun x61 =>
      (ref08_Has x61.1 a3).bind fun x64 =>
      cond (decide (a3 = a1)) (
        some ((x64 == (!a4)), x61.2)
      ) (
        some ((x64 == false), x61.2)
      )
    ) : Option (Bool × ((List ((List UInt8) × ByteArray)) × (List ((List UInt8) × ((List UInt8) × ByteArray × Bool))) × (List ((List UInt8) × (List UInt8) × Bool)) × (List (List ((List UInt8) × ((List UInt8) × ByteArray × Bool)))))))).bind fun o58 =>
    (view_View_Scan o58.2 a2).bind fun x70 =>
    (ref03_In a2 a3).bind fun x73 =>
    (((
      (view_View_Reads x70.2.2).bind fun x97 =>
      (ref08_Has x97.1 a3).bind fun x100 =>
      cond (decide (a3 = a1)) (
        cond (!a4) (
          some (x100 == true)
        ) (
          some (x100 == x73)
        )
      ) (
        some (x100 == x73)
      )
    ) : Option Bool)).bind fun o94 =>
    (((
      cond o58.1 (
        some o94
      ) (
        some false
      )
    ) : Option Bool)).bind fun o112 =>
    some o112
  )

noncomputable def law12_ViewApplies (a0 : List ((List UInt8) × ByteArray)) (a1 : List (Int × Int × (List UInt8) × ByteArray × ((List UInt8) × (List UInt8) × Bool))) (a2 : Int) : Option Bool :=
  (law12_shown).bind fun x1 =>
  (law12_cut a0).bind fun x4 =>
  (view_NewPlain x4).bind fun x7 =>
  (view_New x7).bind fun x10 =>
  (((
    cond (!x1) (
      some true
    ) (
      some false
    )
  ) : Option Bool)).bind fun o16 =>
  cond o16 (
    some false
  ) (
    (((
      whileO (V := (Int × Int × ((List ((List UInt8) × ByteArray)) × (List ((List UInt8) × ((List UInt8) × ByteArray × Bool))) × (List ((List UInt8) × (List UInt8) × Bool)) × (List (List ((List UInt8) × ((List UInt8) × ByteArray × Bool))))) × ((List ((List UInt8) × ByteArray)) × (List ((List UInt8) × ((List UInt8) × ByteArray × Bool))) × (List ((List UInt8) × (List UInt8) × Bool)) × (List (List ((List UInt8) × ((List UInt8) × ByteArray × Bool))))))) (O := ((((List ((List UInt8) × ByteArray)) × (List ((List UInt8) × ((List UInt8) × ByteArray × Bool))) × (List ((List UInt8) × (List UInt8) × Bool)) × (List (List ((List UInt8) × ((List UInt8) × ByteArray × Bool))))) × ((List ((List UInt8) × ByteArray)) × (List ((List UInt8) × ((List UInt8) × ByteArray × Bool))) × (List ((List UInt8) × (List UInt8) × Bool)) × (List (List ((List UInt8) × ((List UInt8) × ByteArray × Bool)))))) ⊕ Bool)) (fun v1351 =>
        (((
          cond (decide (v1351.2.1 < (a1.length : Int))) (
            some (decide (v1351.2.1 < 40))
          ) (
            some false
          )
        ) : Option Bool)).bind fun o1358 =>
        cond o1358 (
          (((
            (gx a1 v1351.2.1).bind fun x1490 =>
            (cutB 0 (min (x1490.2.2.2.1.size : Int) 50) x1490.2.2.2.1.size).bind fun _ =>
            (((
              cond (decide (v1351.1 = (bitsAnd .i64 a2 63))) (
                (view_View_Scan v1351.2.2.2 ((List.replicate 24 0), (List.replicate 24 0), true)).bind fun x1546 =>
                (((
                  cond (decide (x1546.2.1 ≠ 0)) (
                    some true
                  ) (
                    (view_View_Changes x1546.2.2).bind fun x1567 =>
                    (delta_Apply x4 x1567.1).bind fun x1570 =>
                    (ref09_Same x1546.1 x1570).bind fun x1573 =>
                    some (!x1573)
                  )
                ) : Option Bool)).bind fun o1561 =>
                cond o1561 (
                  some (.inr false)
                ) (
                  (view_NewPlain x1546.1).bind fun x1582 =>
                  (view_New x1582).bind fun x1585 =>
                  some (.inl x1585)
                )
              ) (
                some (.inl v1351.2.2.2)
              )
            ) : Option (((List ((List UInt8) × ByteArray)) × (List ((List UInt8) × ((List UInt8) × ByteArray × Bool))) × (List ((List UInt8) × (List UInt8) × Bool)) × (List (List ((List UInt8) × ((List UInt8) × ByteArray × Bool))))) ⊕ Bool))).bind fun o1540 =>
            Sum.elim (fun (v1590 : ((List ((List UInt8) × ByteArray)) × (List ((List UInt8) × ((List UInt8) × ByteArray × Bool))) × (List ((List UInt8) × (List UInt8) × Bool)) × (List (List ((List UInt8) × ((List UInt8) × ByteArray × Bool)))))) =>
              cond (decide (x1490.1 = 1)) (
                (view_View_Put v1351.2.2.1 x1490.2.2.1 (x1490.2.2.2.1.extract 0 (min (x1490.2.2.2.1.size : Int) 50).toNat)).bind fun x1594 =>
                (view_View_Put v1590 x1490.2.2.1 (x1490.2.2.2.1.extract 0 (min (x1490.2.2.2.1.size : Int) 50).toNat)).bind fun x1597 =>
                cond (decide (x1594.1 ≠ x1597.1)) (
                  some (.inr false)
                ) (
                  some (.inl (x1594.2, x1597.2))
                )
              ) (
                (view_View_Delete v1351.2.2.1 x1490.2.2.1).bind fun x1605 =>
                (view_View_Delete v1590 x1490.2.2.1).bind fun x1608 =>
                some (.inl (x1605.2, x1608.2))
              )
            ) (fun w1613 =>
              some (.inr w1613)
            ) o1540
          ) : Option ((((List ((List UInt8) × ByteArray)) × (List ((List UInt8) × ((List UInt8) × ByteArray × Bool))) × (List ((List UInt8) × (List UInt8) × Bool)) × (List (List ((List UInt8) × ((List UInt8) × ByteArray × Bool))))) × ((List ((List UInt8) × ByteArray)) × (List ((List UInt8) × ((List UInt8) × ByteArray × Bool))) × (List ((List UInt8) × (List UInt8) × Bool)) × (List (List ((List UInt8) × ((List UInt8) × ByteArray × Bool)))))) ⊕ Bool))).bind fun o1487 =>
          Sum.elim (fun (v1614 : (((List ((List UInt8) × ByteArray)) × (List ((List UInt8) × ((List UInt8) × ByteArray × Bool))) × (List ((List UInt8) × (List UInt8) × Bool)) × (List (List ((List UInt8) × ((List UInt8) × ByteArray × Bool))))) × ((List ((List UInt8) × ByteArray)) × (List ((List UInt8) × ((List UInt8) × ByteArray × Bool))) × (List ((List UInt8) × (List UInt8) × Bool)) × (List (List ((List UInt8) × ((List UInt8) × ByteArray × Bool))))))) =>
            some (.inl ((IntKind.wrap .i64 (v1351.1 + 1)), (IntKind.wrap .i64 (v1351.2.1 + 1)), v1614.1, v1614.2))
          ) (fun w1617 =>
            some (.inr (.inr w1617))
          ) o1487
        ) (
          some (.inr (.inl (v1351.2.2.1, v1351.2.2.2)))
        )
      ) (0, 0, x10, x10)
    ) : Option ((((List ((List UInt8) × ByteArray)) × (List ((List UInt8) × ((List UInt8) × ByteArray × Bool))) × (List ((List UInt8) × (List UInt8) × Bool)) × (List (List ((List UInt8) × ((List UInt8) × ByteArray × Bool))))) × ((List ((List UInt8) × ByteArray)) × (List ((List UInt8) × ((List UInt8) × ByteArray × Bool))) × (List ((List UInt8) × (List UInt8) × Bool)) × (List (List ((List UInt8) × ((List UInt8) × ByteArray × Bool)))))) ⊕ Bool))).bind fun o820 =>
    Sum.elim (fun (v1620 : (((List ((List UInt8) × ByteArray)) × (List ((List UInt8) × ((List UInt8) × ByteArray × Bool))) × (List ((List UInt8) × (List UInt8) × Bool)) × (List (List ((List UInt8) × ((List UInt8) × ByteArray × Bool))))) × ((List ((List UInt8) × ByteArray)) × (List ((List UInt8) × ((List UInt8) × ByteArray × Bool))) × (List ((List UInt8) × (List UInt8) × Bool)) × (List (List ((List UInt8) × ((List UInt8) × ByteArray × Bool))))))) =>
      (view_View_Scan v1620.1 ((List.replicate 24 0), (List.replicate 24 0), true)).bind fun x1621 =>
      (view_View_Scan v1620.2 ((List.replicate 24 0), (List.replicate 24 0), true)).bind fun x1624 =>
      (((
        cond (decide (x1621.2.1 = 0)) (
          cond (decide (x1624.2.1 = 0)) (
            (ref09_Same x1621.1 x1624.1).bind fun x1657 =>
            cond x1657 (
              (view_View_Changes x1621.2.2).bind fun x1663 =>
              (delta_Apply x4 x1663.1).bind fun x1666 =>
              (ref09_Same x1621.1 x1666).bind fun x1669 =>
              some x1669
            ) (
              some false
            )
          ) (
            some false
          )
        ) (
          some false
        )
      ) : Option Bool)).bind fun o1648 =>
      some o1648
    ) (fun w1676 =>
      some w1676
    ) o820
  )

noncomputable def law12_ViewBacks (a0 : List ((List UInt8) × ByteArray)) (a1 : List (Int × Int × (List UInt8) × ByteArray × ((List UInt8) × (List UInt8) × Bool))) (a2 : List (Int × Int × (List UInt8) × ByteArray × ((List UInt8) × (List UInt8) × Bool))) : Option Bool :=
  (law12_shown).bind fun x1 =>
  (law12_cut a0).bind fun x4 =>
  (view_NewPlain x4).bind fun x7 =>
  (view_New x7).bind fun x10 =>
  (((
    cond (!x1) (
      some true
    ) (
      some false
    )
  ) : Option Bool)).bind fun o16 =>
  cond o16 (
    some false
  ) (
    (law12_does x10 a1 30).bind fun x25 =>
    (view_View_Mark x25).bind fun x28 =>
    (view_View_Changes x28.2).bind fun x31 =>
    (((
      whileO (V := (Int × ((List ((List UInt8) × ByteArray)) × (List ((List UInt8) × ((List UInt8) × ByteArray × Bool))) × (List ((List UInt8) × (List UInt8) × Bool)) × (List (List ((List UInt8) × ((List UInt8) × ByteArray × Bool))))))) (O := (((List ((List UInt8) × ByteArray)) × (List ((List UInt8) × ((List UInt8) × ByteArray × Bool))) × (List ((List UInt8) × (List UInt8) × Bool)) × (List (List ((List UInt8) × ((List UInt8) × ByteArray × Bool))))) ⊕ Bool)) (fun v220 =>
        cond (decide (v220.1 < 2)) (
          (law12_does v220.2 a2 30).bind fun x227 =>
          (view_View_Back x227 x28.1).bind fun x230 =>
          (((
            cond (decide (x230.1 ≠ 0)) (
              some (true, x230.2)
            ) (
              (view_View_Changes x230.2).bind fun x248 =>
              (ref09_SameChanges x248.1 x31.1).bind fun x251 =>
              some ((!x251), x248.2)
            )
          ) : Option (Bool × ((List ((List UInt8) × ByteArray)) × (List ((List UInt8) × ((List UInt8) × ByteArray × Bool))) × (List ((List UInt8) × (List UInt8) × Bool)) × (List (List ((List UInt8) × ((List UInt8) × ByteArray × Bool)))))))).bind fun o242 =>
          cond o242.1 (
            some (.inr (.inr false))
          ) (
            some (.inl ((IntKind.wrap .i64 (v220.1 + 1)), o242.2))
          )
        ) (
          some (.inr (.inl v220.2))
        )
      ) (0, x31.2)
    ) : Option (((List ((List UInt8) × ByteArray)) × (List ((List UInt8) × ((List UInt8) × ByteArray × Bool))) × (List ((List UInt8) × (List UInt8) × Bool)) × (List (List ((List UInt8) × ((List UInt8) × ByteArray × Bool))))) ⊕ Bool))).bind fun o145 =>
    Sum.elim (fun (v260 : ((List ((List UInt8) × ByteArray)) × (List ((List UInt8) × ((List UInt8) × ByteArray × Bool))) × (List ((List UInt8) × (List UInt8) × Bool)) × (List (List ((List UInt8) × ((List UInt8) × ByteArray × Bool)))))) =>
      (((
        (view_View_Back v260 (IntKind.wrap .i64 (x28.1 + 1))).bind fun x276 =>
        cond (decide (x276.1 = 1)) (
          (view_View_Back x276.2 (-1)).bind fun x282 =>
          some (decide (x282.1 = 1))
        ) (
          some false
        )
      ) : Option Bool)).bind fun o273 =>
      some o273
    ) (fun w289 =>
      some w289
    ) o145
  )

set_option maxRecDepth 100000 in
theorem law12_ViewReads_ok {a0 : List ((List UInt8) × ByteArray)} {a1 : List UInt8} {a2 : ((List UInt8) × (List UInt8) × Bool)} {a3 : List UInt8} {a4 : Bool} {r : Bool} (h : law12_ViewReads a0 a1 a2 a3 a4 = some r) : FnOk Try.prog 3 [.d (eSapiPair a0), .d (eapiKey a1), .d (eapiSpan a2), .d (eapiKey a3), .d (ebool a4)] 0 (lk []) (fun rr oo => rr = .d (ebool r) ∧ oo = lk []) := by
  refine fnOk_of Try.func3 rfl rfl (cw_post ?_)
  unfold law12_ViewReads at h
  refine cw_seq (cw_region (
    .cons (o_box 0 rfl rfl .no rfl rfl rfl) <|
    .cons (o_box 1 rfl rfl .no rfl rfl rfl) <|
    .cons (o_box 2 rfl rfl .no rfl rfl rfl) <|
    .cons (o_as rfl rfl .no rfl) <|
    .nil rfl
  ) ?_)
  obtain ⟨x1, hx2, h3⟩ := bind_some (x := law12_shown) h
  refine cw_seq (cw_region (
    .cons (o_call rfl rfl .no Try.func7 rfl rfl (law12_shown_ok hx2) .nil trivial (.inl rfl)) <|
    .cons (o_as rfl rfl .no rfl) <|
    .nil rfl
  ) ?_)
  obtain ⟨x4, hx5, h6⟩ := bind_some (x := law12_cut a0) h3
  obtain ⟨x7, hx8, h9⟩ := bind_some (x := view_NewPlain x4) h6
  obtain ⟨x10, hx11, h12⟩ := bind_some (x := view_New x7) h9
  refine cw_seq (cw_region (
    .cons (o_mv rfl rfl .no rfl) <|
    .cons (o_call rfl rfl .no Try.func10 rfl rfl (law12_cut_ok hx5) (.cons rfl .d .nil) ⟨trivial, trivial⟩ (.inl rfl)) <|
    .cons (o_call rfl rfl .no Try.func9 rfl rfl (view_NewPlain_ok hx8) (.cons rfl .d .nil) ⟨trivial, trivial⟩ (.inl rfl)) <|
    .cons (o_mkif rfl rfl .no rfl ifB30) <|
    .cons (o_callO 3 rfl rfl .no Try.func8 rfl rfl (view_New_ok hx11) (.cons rfl .i .nil) ⟨(by simp [AV.live]), trivial⟩ rfl (.inl rfl)) <|
    .cons (o_as rfl rfl .no rfl) <|
    .nil rfl
  ) ?_)
  refine cw_seq ?_
  obtain ⟨o16, hj17, h18⟩ := bind_some h12
  refine cw_join (fun (z : Bool) => St.of [(4, .d (ebool a4)), (6, .ptr 0 0), (7, .ptr 1 0), (8, .ptr 2 0), (12, .ptr 3 0), (27, .d (ebool z))] [(0, .box (.d (eapiKey a1))), (1, .box (.d (eapiSpan a2))), (2, .box (.d (eapiKey a3))), (3, .own (oviewView x10))]) (fun (z : Bool) => o16 = z) ?_ ?_
  · intro v126 hv127; subst hv127
    rcases cond_some h18 with ⟨hc22, h23⟩ | ⟨hc22, h24⟩
    · refine cw_condT rfl hc22 ?_
      refine cw_seq (cw_region (
        .cons (o_as rfl rfl .no rfl) <|
        .nil rfl
      ) ?_)
      have heq := ((Option.some.inj h23).symm).symm
      subst heq
      exact cw_ret ⟨_, (show Leads _ _ (St.of [(10, .d (ebool false))] []) from .w (weak_of ⟨⟨_, rfl, .d rfl⟩, trivial⟩ trivial drop0)), .inr rfl, _, res1 rfl rfl, rfl, rfl⟩
    · refine cw_condF rfl hc22 ?_
      refine cw_skip ?_
      obtain ⟨o31, hj32, h33⟩ := bind_some h24
      refine cw_join (fun (z : ((List ((List UInt8) × ByteArray)) × (List ((List UInt8) × ((List UInt8) × ByteArray × Bool))) × (List ((List UInt8) × (List UInt8) × Bool)) × (List (List ((List UInt8) × ((List UInt8) × ByteArray × Bool)))))) => St.of [(4, .d (ebool a4)), (6, .ptr 0 0), (7, .ptr 1 0), (8, .ptr 2 0), (12, .ptr 3 0)] [(0, .box (.d (eapiKey a1))), (1, .box (.d (eapiSpan a2))), (2, .box (.d (eapiKey a3))), (3, .own (oviewView z))]) (fun (z : ((List ((List UInt8) × ByteArray)) × (List ((List UInt8) × ((List UInt8) × ByteArray × Bool))) × (List ((List UInt8) × (List UInt8) × Bool)) × (List (List ((List UInt8) × ((List UInt8) × ByteArray × Bool)))))) => o31 = z) ?_ ?_
      · intro v124 hv125; subst hv125
        obtain ⟨x40, hx41, h42⟩ := bind_some (x := view_View_Get o31 a1) h33
        refine cw_seq (cw_region (
          .cons (o_mv rfl rfl .no rfl) <|
          .cons (o_ldP [] rfl rfl .no rfl rfl rfl ta24 rfl rfl) <|
          .cons (o_callX (fun _ => 3) rfl rfl .no Try.func12 rfl rfl (view_View_Get_ok hx41) (.cons rfl (.p rfl) (.cons rfl .d .nil)) (callIn1 rfl ⟨(by simp [AV.live, lk, Nat.beq]), trivial, trivial⟩ rfl (OD.dat_live (oviewView_dat _)) (by simp)) (.inl rfl)) <|
          .nil rfl
        ) ?_)
        obtain ⟨o58, hj59, h60⟩ := bind_some h42
        refine cw_join (fun (z : (Bool × ((List ((List UInt8) × ByteArray)) × (List ((List UInt8) × ((List UInt8) × ByteArray × Bool))) × (List ((List UInt8) × (List UInt8) × Bool)) × (List (List ((List UInt8) × ((List UInt8) × ByteArray × Bool))))))) => St.of [(4, .d (ebool a4)), (6, .ptr 0 0), (7, .ptr 1 0), (8, .ptr 2 0), (12, .ptr 3 0), (13, .d (ebool z.1))] [(0, .box (.d (eapiKey a1))), (1, .box (.d (eapiSpan a2))), (2, .box (.d (eapiKey a3))), (3, .own (oviewView z.2))]) (fun (z : (Bool × ((List ((List UInt8) × ByteArray)) × (List ((List UInt8) × ((List UInt8) × ByteArray × Bool))) × (List ((List UInt8) × (List UInt8) × Bool)) × (List (List ((List UInt8) × ((List UInt8) × ByteArray × Bool))))))) => o58 = z) ?_ ?_
        · intro v122 hv123; subst hv123
          obtain ⟨x70, hx71, h72⟩ := bind_some (x := view_View_Scan o58.2 a2) h60
          refine cw_seq (cw_region (
            .cons (o_mv rfl rfl .no rfl) <|
            .cons (o_ldP [] rfl rfl .no rfl rfl rfl ta26 rfl rfl) <|
            .cons (o_callX (fun _ => 3) rfl rfl .no Try.func15 rfl rfl (view_View_Scan_ok hx71) (.cons rfl (.p rfl) (.cons rfl .d .nil)) (callIn1 rfl ⟨(by simp [AV.live, lk, Nat.beq]), trivial, trivial⟩ rfl (OD.dat_live (oviewView_dat _)) (by simp)) (.inl rfl)) <|
            .nil rfl
          ) ?_)
          obtain ⟨x73, hx74, h75⟩ := bind_some (x := ref03_In a2 a3) h72
          refine cw_seq (cw_region (
            .cons (o_ldP [] rfl rfl .no rfl rfl rfl ta26 rfl rfl) <|
            .cons (o_ldP [] rfl rfl .no rfl rfl rfl ta24 rfl rfl) <|
            .cons (o_call rfl rfl .no Try.func16 rfl rfl (ref03_In_ok hx74) (.cons rfl .d (.cons rfl .d .nil)) ⟨trivial, trivial, trivial⟩ (.inl rfl)) <|
            .cons (o_as rfl rfl .no rfl) <|
            .nil rfl
          ) ?_)
          obtain ⟨o94, hj95, h96⟩ := bind_some h75
          refine cw_join (fun (z : Bool) => St.of [(13, .d (ebool o58.1)), (15, .d (ebool z))] []) (fun (z : Bool) => o94 = z) ?_ ?_
          · intro v120 hv121; subst hv121
            obtain ⟨o112, hj113, h114⟩ := bind_some h96
            refine cw_join (fun (z : Bool) => St.of [(10, .d (ebool z))] []) (fun (z : Bool) => o112 = z) ?_ ?_
            · intro v118 hv119; subst hv119
              have heq := ((Option.some.inj h114).symm).symm
              subst heq
              exact cw_ret ⟨_, (show Leads _ _ (St.of [(10, .d (ebool o112))] []) from .w (weak_of ⟨⟨_, rfl, .d rfl⟩, trivial⟩ trivial drop0)), .inr rfl, _, res1 rfl rfl, rfl, rfl⟩
            · skip
              rcases cond_some hj113 with ⟨hc115, h116⟩ | ⟨hc115, h117⟩
              · skip
                refine cw_region (
                  .cons (o_mv rfl rfl .no rfl) <|
                  .cons (o_mv rfl rfl .no rfl) <|
                  .cons (o_mv rfl rfl (.yes rfl rfl hc115) rfl) <|
                  .cons (o_pickT rfl rfl .no rfl hc115 rfl) <|
                  .cons (o_as rfl rfl .no rfl) <|
                  .nil rfl
                ) ?_
                exact ⟨o94, (Option.some.inj h116).symm, .w (weak_of ⟨⟨_, rfl, .d rfl⟩, trivial⟩ trivial drop0)⟩
              · skip
                refine cw_region (
                  .cons (o_mv rfl rfl .no rfl) <|
                  .cons (o_mv rfl rfl .no rfl) <|
                  .cons (o_noT rfl rfl rfl rfl hc115) <|
                  .cons (o_pickF rfl rfl .no rfl hc115 rfl) <|
                  .cons (o_as rfl rfl .no rfl) <|
                  .nil rfl
                ) ?_
                exact ⟨false, (Option.some.inj h117).symm, .w (weak_of ⟨⟨_, rfl, .d rfl⟩, trivial⟩ trivial drop0)⟩
          · skip
            obtain ⟨x97, hx98, h99⟩ := bind_some (x := view_View_Reads x70.2.2) hj95
            obtain ⟨x100, hx101, h102⟩ := bind_some (x := ref08_Has x97.1 a3) h99
            rcases cond_some h102 with ⟨hc103, h104⟩ | ⟨hc103, h105⟩
            · skip
              rcases cond_some h104 with ⟨hc106, h107⟩ | ⟨hc106, h108⟩
              · skip
                refine cw_region_any mixed (by kernel_rfl) (
                  .cons (o_mv rfl rfl .no rfl) <|
                  .cons (o_callX (fun _ => 3) rfl rfl .no Try.func14 rfl rfl (view_View_Reads_ok hx98) (.cons rfl (.p rfl) .nil) (callIn1 rfl ⟨(by simp [AV.live, lk, Nat.beq]), trivial⟩ rfl (OD.dat_live (oviewView_dat _)) (by simp)) (.inl rfl)) <|
                  .cons (o_ldP [] rfl rfl .no rfl rfl rfl ta24 rfl rfl) <|
                  .cons (o_call rfl rfl .no Try.func13 rfl rfl (ref08_Has_ok hx101) (.cons rfl .d (.cons rfl .d .nil)) ⟨trivial, trivial, trivial⟩ (.inl rfl)) <|
                  .cons (o_ldP [] rfl rfl .no rfl rfl rfl ta24 rfl rfl) <|
                  .cons (o_ldP [] rfl rfl .no rfl rfl rfl ta24 rfl rfl) <|
                  .cons (o_eq rfl rfl .no rfl rfl rfl rfl eg24 (.bs ar24 un5 sz5)) <|
                  .cons (o_mv rfl rfl .no rfl) <|
                  .cons (o_mv rfl rfl (.yes rfl rfl hc103) rfl) <|
                  .cons (o_not rfl rfl (.yes rfl rfl hc103) rfl) <|
                  .cons (o_pickT rfl rfl .no rfl hc103 rfl) <|
                  .cons (o_mv rfl rfl .no rfl) <|
                  .cons (o_noT rfl rfl rfl rfl hc106) <|
                  .cons (o_pickT rfl rfl .no rfl hc106 rfl) <|
                  .cons (o_bin rfl rfl .no rfl rfl (t_eql _ _ un4) rfl) <|
                  .cons (o_as rfl rfl .no rfl) <|
                  .nil rfl
                ) (by kernel_rfl) ?_
                exact ⟨(x100 == true), (Option.some.inj h107).symm, .w (weak_of ⟨⟨_, rfl, .d rfl⟩, ⟨_, rfl, .d rfl⟩, trivial⟩ trivial drop0)⟩
              · skip
                refine cw_region_any mixed (by kernel_rfl) (
                  .cons (o_mv rfl rfl .no rfl) <|
                  .cons (o_callX (fun _ => 3) rfl rfl .no Try.func14 rfl rfl (view_View_Reads_ok hx98) (.cons rfl (.p rfl) .nil) (callIn1 rfl ⟨(by simp [AV.live, lk, Nat.beq]), trivial⟩ rfl (OD.dat_live (oviewView_dat _)) (by simp)) (.inl rfl)) <|
                  .cons (o_ldP [] rfl rfl .no rfl rfl rfl ta24 rfl rfl) <|
                  .cons (o_call rfl rfl .no Try.func13 rfl rfl (ref08_Has_ok hx101) (.cons rfl .d (.cons rfl .d .nil)) ⟨trivial, trivial, trivial⟩ (.inl rfl)) <|
                  .cons (o_ldP [] rfl rfl .no rfl rfl rfl ta24 rfl rfl) <|
                  .cons (o_ldP [] rfl rfl .no rfl rfl rfl ta24 rfl rfl) <|
                  .cons (o_eq rfl rfl .no rfl rfl rfl rfl eg24 (.bs ar24 un5 sz5)) <|
                  .cons (o_mv rfl rfl .no rfl) <|
                  .cons (o_mv rfl rfl (.yes rfl rfl hc103) rfl) <|
                  .cons (o_not rfl rfl (.yes rfl rfl hc103) rfl) <|
                  .cons (o_pickT rfl rfl .no rfl hc103 rfl) <|
                  .cons (o_mv rfl rfl .no rfl) <|
                  .cons (o_mv rfl rfl (.yes rfl rfl hc106) rfl) <|
                  .cons (o_pickF rfl rfl .no rfl hc106 rfl) <|
                  .cons (o_bin rfl rfl .no rfl rfl (t_eql _ _ un4) rfl) <|
                  .cons (o_as rfl rfl .no rfl) <|
                  .nil rfl
                ) (by kernel_rfl) ?_
                exact ⟨(x100 == x73), (Option.some.inj h108).symm, .w (weak_of ⟨⟨_, rfl, .d rfl⟩, ⟨_, rfl, .d rfl⟩, trivial⟩ trivial drop0)⟩
            · skip
              refine cw_region_any mixed (by kernel_rfl) (
                .cons (o_mv rfl rfl .no rfl) <|
                .cons (o_callX (fun _ => 3) rfl rfl .no Try.func14 rfl rfl (view_View_Reads_ok hx98) (.cons rfl (.p rfl) .nil) (callIn1 rfl ⟨(by simp [AV.live, lk, Nat.beq]), trivial⟩ rfl (OD.dat_live (oviewView_dat _)) (by simp)) (.inl rfl)) <|
                .cons (o_ldP [] rfl rfl .no rfl rfl rfl ta24 rfl rfl) <|
                .cons (o_call rfl rfl .no Try.func13 rfl rfl (ref08_Has_ok hx101) (.cons rfl .d (.cons rfl .d .nil)) ⟨trivial, trivial, trivial⟩ (.inl rfl)) <|
                .cons (o_ldP [] rfl rfl .no rfl rfl rfl ta24 rfl rfl) <|
                .cons (o_ldP [] rfl rfl .no rfl rfl rfl ta24 rfl rfl) <|
                .cons (o_eq rfl rfl .no rfl rfl rfl rfl eg24 (.bs ar24 un5 sz5)) <|
                .cons (o_mv rfl rfl .no rfl) <|
                .cons (o_noT rfl rfl rfl rfl hc103) <|
                .cons (o_noT rfl rfl rfl rfl hc103) <|
                .cons (o_pickF rfl rfl .no rfl hc103 rfl) <|
                .cons (o_mv rfl rfl .no rfl) <|
                .cons (o_mv rfl rfl (.yes rfl rfl rfl) rfl) <|
                .cons (o_pickF rfl rfl .no rfl rfl rfl) <|
                .cons (o_bin rfl rfl .no rfl rfl (t_eql _ _ un4) rfl) <|
                .cons (o_as rfl rfl .no rfl) <|
                .nil rfl
              ) (by kernel_rfl) ?_
              exact ⟨(x100 == x73), (Option.some.inj h105).symm, .w (weak_of ⟨⟨_, rfl, .d rfl⟩, ⟨_, rfl, .d rfl⟩, trivial⟩ trivial drop0)⟩
        · skip
          obtain ⟨x61, hx62, h63⟩ := bind_some (x := view_View_Reads x40.2.2.2) hj59
          obtain ⟨x64, hx65, h66⟩ := bind_some (x := ref08_Has x61.1 a3) h63
          rcases cond_some h66 with ⟨hc67, h68⟩ | ⟨hc67, h69⟩
          · skip
            refine cw_region_any mixed (by kernel_rfl) (
              .cons (o_mv rfl rfl .no rfl) <|
              .cons (o_callX (fun _ => 3) rfl rfl .no Try.func14 rfl rfl (view_View_Reads_ok hx62) (.cons rfl (.p rfl) .nil) (callIn1 rfl ⟨(by simp [AV.live, lk, Nat.beq]), trivial⟩ rfl (OD.dat_live (oviewView_dat _)) (by simp)) (.inl rfl)) <|
              .cons (o_ldP [] rfl rfl .no rfl rfl rfl ta24 rfl rfl) <|
              .cons (o_call rfl rfl .no Try.func13 rfl rfl (ref08_Has_ok hx65) (.cons rfl .d (.cons rfl .d .nil)) ⟨trivial, trivial, trivial⟩ (.inl rfl)) <|
              .cons (o_ldP [] rfl rfl .no rfl rfl rfl ta24 rfl rfl) <|
              .cons (o_ldP [] rfl rfl .no rfl rfl rfl ta24 rfl rfl) <|
              .cons (o_eq rfl rfl .no rfl rfl rfl rfl eg24 (.bs ar24 un5 sz5)) <|
              .cons (o_mv rfl rfl .no rfl) <|
              .cons (o_mv rfl rfl (.yes rfl rfl hc67) rfl) <|
              .cons (o_not rfl rfl (.yes rfl rfl hc67) rfl) <|
              .cons (o_pickT rfl rfl .no rfl hc67 rfl) <|
              .cons (o_bin rfl rfl .no rfl rfl (t_eql _ _ un4) rfl) <|
              .cons (o_as rfl rfl .no rfl) <|
              .nil rfl
            ) (by kernel_rfl) ?_
            exact ⟨((x64 == (!a4)), x61.2), (Option.some.inj h68).symm, .w (weak_of ⟨⟨_, rfl, .d rfl⟩, ⟨_, rfl, .ptr rfl rfl⟩, ⟨_, rfl, .ptr rfl rfl⟩, ⟨_, rfl, .ptr rfl rfl⟩, ⟨_, rfl, .ptro rfl rfl⟩, ⟨_, rfl, .d rfl⟩, trivial⟩ ⟨.box rfl (.d rfl), .box rfl (.d rfl), .box rfl (.d rfl), .own rfl (.of_eq rfl (oviewView_dat _)), trivial⟩ drop0)⟩
          · skip
            refine cw_region_any mixed (by kernel_rfl) (
              .cons (o_mv rfl rfl .no rfl) <|
              .cons (o_callX (fun _ => 3) rfl rfl .no Try.func14 rfl rfl (view_View_Reads_ok hx62) (.cons rfl (.p rfl) .nil) (callIn1 rfl ⟨(by simp [AV.live, lk, Nat.beq]), trivial⟩ rfl (OD.dat_live (oviewView_dat _)) (by simp)) (.inl rfl)) <|
              .cons (o_ldP [] rfl rfl .no rfl rfl rfl ta24 rfl rfl) <|
              .cons (o_call rfl rfl .no Try.func13 rfl rfl (ref08_Has_ok hx65) (.cons rfl .d (.cons rfl .d .nil)) ⟨trivial, trivial, trivial⟩ (.inl rfl)) <|
              .cons (o_ldP [] rfl rfl .no rfl rfl rfl ta24 rfl rfl) <|
              .cons (o_ldP [] rfl rfl .no rfl rfl rfl ta24 rfl rfl) <|
              .cons (o_eq rfl rfl .no rfl rfl rfl rfl eg24 (.bs ar24 un5 sz5)) <|
              .cons (o_mv rfl rfl .no rfl) <|
              .cons (o_noT rfl rfl rfl rfl hc67) <|
              .cons (o_noT rfl rfl rfl rfl hc67) <|
              .cons (o_pickF rfl rfl .no rfl hc67 rfl) <|
              .cons (o_bin rfl rfl .no rfl rfl (t_eql _ _ un4) rfl) <|
              .cons (o_as rfl rfl .no rfl) <|
              .nil rfl
            ) (by kernel_rfl) ?_
            exact ⟨((x64 == false), x61.2), (Option.some.inj h69).symm, .w (weak_of ⟨⟨_, rfl, .d rfl⟩, ⟨_, rfl, .ptr rfl rfl⟩, ⟨_, rfl, .ptr rfl rfl⟩, ⟨_, rfl, .ptr rfl rfl⟩, ⟨_, rfl, .ptro rfl rfl⟩, ⟨_, rfl, .d rfl⟩, trivial⟩ ⟨.box rfl (.d rfl), .box rfl (.d rfl), .box rfl (.d rfl), .own rfl (.of_eq rfl (oviewView_dat _)), trivial⟩ drop0)⟩
      · skip
        refine cw_seq (cw_region (
          .cons (o_mv rfl rfl .no rfl) <|
          .nil rfl
        ) ?_)
        rcases cond_some hj32 with ⟨hc34, h35⟩ | ⟨hc34, h36⟩
        · refine cw_condT rfl hc34 ?_
          obtain ⟨x37, hx38, h39⟩ := bind_some (x := view_View_Put x10 a1 (ByteArray.mk #[120])) h35
          refine cw_region (
            .cons (o_mv rfl rfl .no rfl) <|
            .cons (o_ldP [] rfl rfl .no rfl rfl rfl ta24 rfl rfl) <|
            .cons (o_callX (fun _ => 3) rfl rfl .no Try.func11 rfl rfl (view_View_Put_ok hx38) (.cons rfl (.p rfl) (.cons rfl .d (.cons rfl .d .nil))) (callIn1 rfl ⟨(by simp [AV.live, lk, Nat.beq]), trivial, trivial, trivial⟩ rfl (OD.dat_live (oviewView_dat _)) (by simp)) (.inl rfl)) <|
            .nil rfl
          ) ?_
          exact ⟨x37.2, (Option.some.inj h39).symm, .w (weak_of ⟨⟨_, rfl, .d rfl⟩, ⟨_, rfl, .ptr rfl rfl⟩, ⟨_, rfl, .ptr rfl rfl⟩, ⟨_, rfl, .ptr rfl rfl⟩, ⟨_, rfl, .ptro rfl rfl⟩, trivial⟩ ⟨.box rfl (.d rfl), .box rfl (.d rfl), .box rfl (.d rfl), .own rfl (.of_eq rfl (oviewView_dat _)), trivial⟩ drop0)⟩
        · refine cw_condF rfl hc34 ?_
          refine cw_skip ?_
          exact ⟨x10, (Option.some.inj h36).symm, .w (weak_of ⟨⟨_, rfl, .d rfl⟩, ⟨_, rfl, .ptr rfl rfl⟩, ⟨_, rfl, .ptr rfl rfl⟩, ⟨_, rfl, .ptr rfl rfl⟩, ⟨_, rfl, .ptro rfl rfl⟩, trivial⟩ ⟨.box rfl (.d rfl), .box rfl (.d rfl), .box rfl (.d rfl), .own rfl (.of_eq rfl (oviewView_dat _)), trivial⟩ drop0)⟩
  · skip
    rcases cond_some hj17 with ⟨hc19, h20⟩ | ⟨hc19, h21⟩
    · skip
      refine cw_region (
        .cons (o_mv rfl rfl .no rfl) <|
        .cons (o_not rfl rfl .no rfl) <|
        .cons (o_mv rfl rfl .no rfl) <|
        .cons (o_noT rfl rfl rfl rfl hc19) <|
        .cons (o_noT rfl rfl rfl rfl hc19) <|
        .cons (o_pickT rfl rfl .no rfl hc19 rfl) <|
        .nil rfl
      ) ?_
      exact ⟨true, (Option.some.inj h20).symm, .w (weak_of ⟨⟨_, rfl, .d rfl⟩, ⟨_, rfl, .ptr rfl rfl⟩, ⟨_, rfl, .ptr rfl rfl⟩, ⟨_, rfl, .ptr rfl rfl⟩, ⟨_, rfl, .ptro rfl rfl⟩, ⟨_, rfl, .d rfl⟩, trivial⟩ ⟨.box rfl (.d rfl), .box rfl (.d rfl), .box rfl (.d rfl), .own rfl (.of_eq rfl (oviewView_dat _)), trivial⟩ drop0)⟩
    · skip
      refine cw_region (
        .cons (o_mv rfl rfl .no rfl) <|
        .cons (o_not rfl rfl .no rfl) <|
        .cons (o_mv rfl rfl .no rfl) <|
        .cons (o_mv rfl rfl (.yes rfl rfl hc19) rfl) <|
        .cons (o_pnilP rfl rfl (.yes rfl rfl hc19) rfl up28) <|
        .cons (o_pickF rfl rfl .no rfl hc19 rfl) <|
        .nil rfl
      ) ?_
      exact ⟨false, (Option.some.inj h21).symm, .w (weak_of ⟨⟨_, rfl, .d rfl⟩, ⟨_, rfl, .ptr rfl rfl⟩, ⟨_, rfl, .ptr rfl rfl⟩, ⟨_, rfl, .ptr rfl rfl⟩, ⟨_, rfl, .ptro rfl rfl⟩, ⟨_, rfl, .d rfl⟩, trivial⟩ ⟨.box rfl (.d rfl), .box rfl (.d rfl), .box rfl (.d rfl), .own rfl (.of_eq rfl (oviewView_dat _)), trivial⟩ drop0)⟩

set_option maxRecDepth 100000 in
theorem law12_ViewApplies_ok {a0 : List ((List UInt8) × ByteArray)} {a1 : List (Int × Int × (List UInt8) × ByteArray × ((List UInt8) × (List UInt8) × Bool))} {a2 : Int} {r : Bool} (h : law12_ViewApplies a0 a1 a2 = some r) : FnOk Try.prog 4 [.d (eSapiPair a0), .d (eSwainscotlaw12Op a1), .d (eint a2)] 0 (lk []) (fun rr oo => rr = .d (ebool r) ∧ oo = lk []) := by
  refine fnOk_of Try.func4 rfl rfl (cw_post ?_)
  unfold law12_ViewApplies at h
  refine cw_seq (cw_region (
    .cons (o_as rfl rfl .no rfl) <|
    .nil rfl
  ) ?_)
  obtain ⟨x1, hx2, h3⟩ := bind_some (x := law12_shown) h
  refine cw_seq (cw_region (
    .cons (o_call rfl rfl .no Try.func7 rfl rfl (law12_shown_ok hx2) .nil trivial (.inl rfl)) <|
    .cons (o_as rfl rfl .no rfl) <|
    .nil rfl
  ) ?_)
  obtain ⟨x4, hx5, h6⟩ := bind_some (x := law12_cut a0) h3
  refine cw_seq (cw_region (
    .cons (o_mv rfl rfl .no rfl) <|
    .cons (o_call rfl rfl .no Try.func10 rfl rfl (law12_cut_ok hx5) (.cons rfl .d .nil) ⟨trivial, trivial⟩ (.inl rfl)) <|
    .cons (o_as rfl rfl .no rfl) <|
    .nil rfl
  ) ?_)
  obtain ⟨x7, hx8, h9⟩ := bind_some (x := view_NewPlain x4) h6
  obtain ⟨x10, hx11, h12⟩ := bind_some (x := view_New x7) h9
  refine cw_seq (cw_region (
    .cons (o_mv rfl rfl .no rfl) <|
    .cons (o_call rfl rfl .no Try.func9 rfl rfl (view_NewPlain_ok hx8) (.cons rfl .d .nil) ⟨trivial, trivial⟩ (.inl rfl)) <|
    .cons (o_mkif rfl rfl .no rfl ifB30) <|
    .cons (o_callO 0 rfl rfl .no Try.func8 rfl rfl (view_New_ok hx11) (.cons rfl .i .nil) ⟨(by simp [AV.live]), trivial⟩ rfl (.inl rfl)) <|
    .cons (o_as rfl rfl .no rfl) <|
    .nil rfl
  ) ?_)
  refine cw_seq (cw_region (
    .cons (o_mv rfl rfl .no rfl) <|
    .cons (o_call rfl rfl .no Try.func9 rfl rfl (view_NewPlain_ok hx8) (.cons rfl .d .nil) ⟨trivial, trivial⟩ (.inl rfl)) <|
    .cons (o_mkif rfl rfl .no rfl ifB30) <|
    .cons (o_callO 1 rfl rfl .no Try.func8 rfl rfl (view_New_ok hx11) (.cons rfl .i .nil) ⟨(by simp [AV.live]), trivial⟩ rfl (.inl rfl)) <|
    .cons (o_as rfl rfl .no rfl) <|
    .nil rfl
  ) ?_)
  refine cw_seq ?_
  obtain ⟨o16, hj17, h18⟩ := bind_some h12
  refine cw_join (fun (z : Bool) => St.of [(0, .d (eSapiPair x4)), (1, .d (eSwainscotlaw12Op a1)), (2, .d (eint a2)), (8, .ptr 0 0), (9, .ptr 1 0), (40, .d (ebool z))] [(0, .own (oviewView x10)), (1, .own (oviewView x10))]) (fun (z : Bool) => o16 = z) ?_ ?_
  · intro v1677 hv1678; subst hv1678
    rcases cond_some h18 with ⟨hc22, h23⟩ | ⟨hc22, h24⟩
    · refine cw_condT rfl hc22 ?_
      refine cw_seq (cw_region (
        .cons (o_as rfl rfl .no rfl) <|
        .nil rfl
      ) ?_)
      have heq := ((Option.some.inj h23).symm).symm
      subst heq
      exact cw_ret ⟨_, (show Leads _ _ (St.of [(6, .d (ebool false))] []) from .w (weak_of ⟨⟨_, rfl, .d rfl⟩, trivial⟩ trivial drop0)), .inr rfl, _, res1 rfl rfl, rfl, rfl⟩
    · refine cw_condF rfl hc22 ?_
      refine cw_skip ?_
      refine cw_seq (cw_region (
        .cons (o_mv rfl rfl .no rfl) <|
        .cons (o_bin rfl rfl .no rfl rfl (b_and _ _) rfl) <|
        .cons (o_as rfl rfl .no rfl) <|
        .nil rfl
      ) ?_)
      refine cw_seq (cw_region (
        .cons (o_as rfl rfl .no rfl) <|
        .nil rfl
      ) ?_)
      obtain ⟨o820, hj821, h822⟩ := bind_some h24
      refine cw_join (fun (z : (((List ((List UInt8) × ByteArray)) × (List ((List UInt8) × ((List UInt8) × ByteArray × Bool))) × (List ((List UInt8) × (List UInt8) × Bool)) × (List (List ((List UInt8) × ((List UInt8) × ByteArray × Bool))))) × ((List ((List UInt8) × ByteArray)) × (List ((List UInt8) × ((List UInt8) × ByteArray × Bool))) × (List ((List UInt8) × (List UInt8) × Bool)) × (List (List ((List UInt8) × ((List UInt8) × ByteArray × Bool))))))) => St.of [(0, .d (eSapiPair x4)), (8, .ptr 0 0), (9, .ptr 1 0)] [(0, .own (oviewView z.1)), (1, .own (oviewView z.2))]) (fun (z : (((List ((List UInt8) × ByteArray)) × (List ((List UInt8) × ((List UInt8) × ByteArray × Bool))) × (List ((List UInt8) × (List UInt8) × Bool)) × (List (List ((List UInt8) × ((List UInt8) × ByteArray × Bool))))) × ((List ((List UInt8) × ByteArray)) × (List ((List UInt8) × ((List UInt8) × ByteArray × Bool))) × (List ((List UInt8) × (List UInt8) × Bool)) × (List (List ((List UInt8) × ((List UInt8) × ByteArray × Bool))))))) => o820 = (.inl z)) ?_ ?_
      · intro v1620 hv1675; subst hv1675
        simp only [Sum.elim_inl] at h822
        obtain ⟨x1621, hx1622, h1623⟩ := bind_some (x := view_View_Scan v1620.1 ((List.replicate 24 0), (List.replicate 24 0), true)) h822
        refine cw_seq (cw_region (
          .cons (o_mv rfl rfl .no rfl) <|
          .cons (o_bld (ds := [eapiKey (List.replicate 24 0), eapiKey (List.replicate 24 0), ebool true]) rfl rfl .no zs26 rfl pl26 (.cons rfl rfl rfl rfl rfl rfl rfl .nil)) <|
          .cons (o_callX (fun _ => 0) rfl rfl .no Try.func15 rfl rfl (view_View_Scan_ok hx1622) (.cons rfl (.p rfl) (.cons rfl .d .nil)) (callIn1 rfl ⟨(by simp [AV.live, lk, Nat.beq]), trivial, trivial⟩ rfl (OD.dat_live (oviewView_dat _)) (by simp)) (.inl rfl)) <|
          .cons (o_mv rfl rfl .no rfl) <|
          .cons (o_ext rfl rfl .no rfl rfl) <|
          .cons (o_ext rfl rfl .no rfl rfl) <|
          .cons (o_as rfl rfl .no rfl) <|
          .cons (o_as rfl rfl .no rfl) <|
          .nil rfl
        ) ?_)
        obtain ⟨x1624, hx1625, h1626⟩ := bind_some (x := view_View_Scan v1620.2 ((List.replicate 24 0), (List.replicate 24 0), true)) h1623
        refine cw_seq (cw_region (
          .cons (o_mv rfl rfl .no rfl) <|
          .cons (o_bld (ds := [eapiKey (List.replicate 24 0), eapiKey (List.replicate 24 0), ebool true]) rfl rfl .no zs26 rfl pl26 (.cons rfl rfl rfl rfl rfl rfl rfl .nil)) <|
          .cons (o_callX (fun _ => 1) rfl rfl .no Try.func15 rfl rfl (view_View_Scan_ok hx1625) (.cons rfl (.p rfl) (.cons rfl .d .nil)) (callIn1 rfl ⟨(by simp [AV.live, lk, Nat.beq]), trivial, trivial⟩ rfl (OD.dat_live (oviewView_dat _)) (by simp)) (.inl rfl)) <|
          .cons (o_mv rfl rfl .no rfl) <|
          .cons (o_ext rfl rfl .no rfl rfl) <|
          .cons (o_ext rfl rfl .no rfl rfl) <|
          .cons (o_as rfl rfl .no rfl) <|
          .cons (o_as rfl rfl .no rfl) <|
          .nil rfl
        ) ?_)
        obtain ⟨o1648, hj1649, h1650⟩ := bind_some h1626
        refine cw_join (fun (z : Bool) => St.of [(6, .d (ebool z))] []) (fun (z : Bool) => o1648 = z) ?_ ?_
        · intro v1672 hv1673; subst hv1673
          have heq := ((Option.some.inj h1650).symm).symm
          subst heq
          exact cw_ret ⟨_, (show Leads _ _ (St.of [(6, .d (ebool o1648))] []) from .w (weak_of ⟨⟨_, rfl, .d rfl⟩, trivial⟩ trivial drop0)), .inr rfl, _, res1 rfl rfl, rfl, rfl⟩
        · skip
          rcases cond_some hj1649 with ⟨hc1651, h1652⟩ | ⟨hc1651, h1653⟩
          · skip
            rcases cond_some h1652 with ⟨hc1654, h1655⟩ | ⟨hc1654, h1656⟩
            · skip
              obtain ⟨x1657, hx1658, h1659⟩ := bind_some (x := ref09_Same x1621.1 x1624.1) h1655
              rcases cond_some h1659 with ⟨hc1660, h1661⟩ | ⟨hc1660, h1662⟩
              · skip
                obtain ⟨x1663, hx1664, h1665⟩ := bind_some (x := view_View_Changes x1621.2.2) h1661
                obtain ⟨x1666, hx1667, h1668⟩ := bind_some (x := delta_Apply x4 x1663.1) h1665
                obtain ⟨x1669, hx1670, h1671⟩ := bind_some (x := ref09_Same x1621.1 x1666) h1668
                refine cw_region (
                  .cons (o_mv rfl rfl .no rfl) <|
                  .cons (o_bin rfl rfl .no rfl rfl (b_eql _ _) rfl) <|
                  .cons (o_mv rfl rfl .no rfl) <|
                  .cons (o_mv rfl rfl (.yes rfl rfl hc1651) rfl) <|
                  .cons (o_bin rfl rfl (.yes rfl rfl hc1651) rfl rfl (b_eql _ _) rfl) <|
                  .cons (o_pickT rfl rfl .no rfl hc1651 rfl) <|
                  .cons (o_mv rfl rfl .no rfl) <|
                  .cons (o_mv rfl rfl (.yes rfl rfl hc1654) rfl) <|
                  .cons (o_mv rfl rfl (.yes rfl rfl hc1654) rfl) <|
                  .cons (o_call rfl rfl (.yes rfl rfl hc1654) Try.func17 rfl rfl (ref09_Same_ok hx1658) (.cons rfl .d (.cons rfl .d .nil)) ⟨trivial, trivial, trivial⟩ (.inl rfl)) <|
                  .cons (o_pickT rfl rfl .no rfl hc1654 rfl) <|
                  .cons (o_mv rfl rfl .no rfl) <|
                  .cons (o_mv rfl rfl (.yes rfl rfl hc1660) rfl) <|
                  .cons (o_mv rfl rfl (.yes rfl rfl hc1660) rfl) <|
                  .cons (o_mv rfl rfl (.yes rfl rfl hc1660) rfl) <|
                  .cons (o_callX (fun _ => 0) rfl rfl (.yes rfl rfl hc1660) Try.func19 rfl rfl (view_View_Changes_ok hx1664) (.cons rfl (.p rfl) .nil) (callIn1 rfl ⟨(by simp [AV.live, lk, Nat.beq]), trivial⟩ rfl (OD.dat_live (oviewView_dat _)) (by simp)) (.inl rfl)) <|
                  .cons (o_call rfl rfl (.yes rfl rfl hc1660) Try.func18 rfl rfl (delta_Apply_ok hx1667) (.cons rfl .d (.cons rfl .d .nil)) ⟨trivial, trivial, trivial⟩ (.inl rfl)) <|
                  .cons (o_call rfl rfl (.yes rfl rfl hc1660) Try.func17 rfl rfl (ref09_Same_ok hx1670) (.cons rfl .d (.cons rfl .d .nil)) ⟨trivial, trivial, trivial⟩ (.inl rfl)) <|
                  .cons (o_pickT rfl rfl .no rfl hc1660 rfl) <|
                  .cons (o_as rfl rfl .no rfl) <|
                  .nil rfl
                ) ?_
                exact ⟨x1669, (Option.some.inj h1671).symm, .w (weak_of ⟨⟨_, rfl, .d rfl⟩, trivial⟩ trivial drop0)⟩
              · skip
                refine cw_region (
                  .cons (o_mv rfl rfl .no rfl) <|
                  .cons (o_bin rfl rfl .no rfl rfl (b_eql _ _) rfl) <|
                  .cons (o_mv rfl rfl .no rfl) <|
                  .cons (o_mv rfl rfl (.yes rfl rfl hc1651) rfl) <|
                  .cons (o_bin rfl rfl (.yes rfl rfl hc1651) rfl rfl (b_eql _ _) rfl) <|
                  .cons (o_pickT rfl rfl .no rfl hc1651 rfl) <|
                  .cons (o_mv rfl rfl .no rfl) <|
                  .cons (o_mv rfl rfl (.yes rfl rfl hc1654) rfl) <|
                  .cons (o_mv rfl rfl (.yes rfl rfl hc1654) rfl) <|
                  .cons (o_call rfl rfl (.yes rfl rfl hc1654) Try.func17 rfl rfl (ref09_Same_ok hx1658) (.cons rfl .d (.cons rfl .d .nil)) ⟨trivial, trivial, trivial⟩ (.inl rfl)) <|
                  .cons (o_pickT rfl rfl .no rfl hc1654 rfl) <|
                  .cons (o_mv rfl rfl .no rfl) <|
                  .cons (o_noT rfl rfl rfl rfl hc1660) <|
                  .cons (o_noT rfl rfl rfl rfl hc1660) <|
                  .cons (o_noT rfl rfl rfl rfl hc1660) <|
                  .cons (o_noT rfl rfl rfl rfl hc1660) <|
                  .cons (o_noT rfl rfl rfl rfl hc1660) <|
                  .cons (o_noT rfl rfl rfl rfl hc1660) <|
                  .cons (o_pickF rfl rfl .no rfl hc1660 rfl) <|
                  .cons (o_as rfl rfl .no rfl) <|
                  .nil rfl
                ) ?_
                exact ⟨false, (Option.some.inj h1662).symm, .w (weak_of ⟨⟨_, rfl, .d rfl⟩, trivial⟩ trivial drop0)⟩
            · skip
              refine cw_region (
                .cons (o_mv rfl rfl .no rfl) <|
                .cons (o_bin rfl rfl .no rfl rfl (b_eql _ _) rfl) <|
                .cons (o_mv rfl rfl .no rfl) <|
                .cons (o_mv rfl rfl (.yes rfl rfl hc1651) rfl) <|
                .cons (o_bin rfl rfl (.yes rfl rfl hc1651) rfl rfl (b_eql _ _) rfl) <|
                .cons (o_pickT rfl rfl .no rfl hc1651 rfl) <|
                .cons (o_mv rfl rfl .no rfl) <|
                .cons (o_noT rfl rfl rfl rfl hc1654) <|
                .cons (o_noT rfl rfl rfl rfl hc1654) <|
                .cons (o_noT rfl rfl rfl rfl hc1654) <|
                .cons (o_pickF rfl rfl .no rfl hc1654 rfl) <|
                .cons (o_mv rfl rfl .no rfl) <|
                .cons (o_noT rfl rfl rfl rfl rfl) <|
                .cons (o_noT rfl rfl rfl rfl rfl) <|
                .cons (o_noT rfl rfl rfl rfl rfl) <|
                .cons (o_noT rfl rfl rfl rfl rfl) <|
                .cons (o_noT rfl rfl rfl rfl rfl) <|
                .cons (o_noT rfl rfl rfl rfl rfl) <|
                .cons (o_pickF rfl rfl .no rfl rfl rfl) <|
                .cons (o_as rfl rfl .no rfl) <|
                .nil rfl
              ) ?_
              exact ⟨false, (Option.some.inj h1656).symm, .w (weak_of ⟨⟨_, rfl, .d rfl⟩, trivial⟩ trivial drop0)⟩
          · skip
            refine cw_region (
              .cons (o_mv rfl rfl .no rfl) <|
              .cons (o_bin rfl rfl .no rfl rfl (b_eql _ _) rfl) <|
              .cons (o_mv rfl rfl .no rfl) <|
              .cons (o_noT rfl rfl rfl rfl hc1651) <|
              .cons (o_noT rfl rfl rfl rfl hc1651) <|
              .cons (o_pickF rfl rfl .no rfl hc1651 rfl) <|
              .cons (o_mv rfl rfl .no rfl) <|
              .cons (o_noT rfl rfl rfl rfl rfl) <|
              .cons (o_noT rfl rfl rfl rfl rfl) <|
              .cons (o_noT rfl rfl rfl rfl rfl) <|
              .cons (o_pickF rfl rfl .no rfl rfl rfl) <|
              .cons (o_mv rfl rfl .no rfl) <|
              .cons (o_noT rfl rfl rfl rfl rfl) <|
              .cons (o_noT rfl rfl rfl rfl rfl) <|
              .cons (o_noT rfl rfl rfl rfl rfl) <|
              .cons (o_noT rfl rfl rfl rfl rfl) <|
              .cons (o_noT rfl rfl rfl rfl rfl) <|
              .cons (o_noT rfl rfl rfl rfl rfl) <|
              .cons (o_pickF rfl rfl .no rfl rfl rfl) <|
              .cons (o_as rfl rfl .no rfl) <|
              .nil rfl
            ) ?_
            exact ⟨false, (Option.some.inj h1653).symm, .w (weak_of ⟨⟨_, rfl, .d rfl⟩, trivial⟩ trivial drop0)⟩
      · skip
        refine cw_seq (cw_region (
          .cons (o_as rfl rfl .no rfl) <|
          .nil rfl
        ) ?_)
        refine cw_block ?_
        refine cw_while (V := (Int × Int × ((List ((List UInt8) × ByteArray)) × (List ((List UInt8) × ((List UInt8) × ByteArray × Bool))) × (List ((List UInt8) × (List UInt8) × Bool)) × (List (List ((List UInt8) × ((List UInt8) × ByteArray × Bool))))) × ((List ((List UInt8) × ByteArray)) × (List ((List UInt8) × ((List UInt8) × ByteArray × Bool))) × (List ((List UInt8) × (List UInt8) × Bool)) × (List (List ((List UInt8) × ((List UInt8) × ByteArray × Bool))))))) (O := ((((List ((List UInt8) × ByteArray)) × (List ((List UInt8) × ((List UInt8) × ByteArray × Bool))) × (List ((List UInt8) × (List UInt8) × Bool)) × (List (List ((List UInt8) × ((List UInt8) × ByteArray × Bool))))) × ((List ((List UInt8) × ByteArray)) × (List ((List UInt8) × ((List UInt8) × ByteArray × Bool))) × (List ((List UInt8) × (List UInt8) × Bool)) × (List (List ((List UInt8) × ((List UInt8) × ByteArray × Bool)))))) ⊕ Bool)) (fun (z : (Int × Int × ((List ((List UInt8) × ByteArray)) × (List ((List UInt8) × ((List UInt8) × ByteArray × Bool))) × (List ((List UInt8) × (List UInt8) × Bool)) × (List (List ((List UInt8) × ((List UInt8) × ByteArray × Bool))))) × ((List ((List UInt8) × ByteArray)) × (List ((List UInt8) × ((List UInt8) × ByteArray × Bool))) × (List ((List UInt8) × (List UInt8) × Bool)) × (List (List ((List UInt8) × ((List UInt8) × ByteArray × Bool))))))) => St.of [(0, .d (eSapiPair x4)), (1, .d (eSwainscotlaw12Op a1)), (8, .ptr 0 0), (9, .ptr 1 0), (10, .d (eint (bitsAnd .i64 a2 63))), (11, .d (eint z.1)), (12, .d (eint z.2.1))] [(0, .own (oviewView z.2.2.1)), (1, .own (oviewView z.2.2.2))]) hj821 (.w (weak_of ⟨⟨_, rfl, .d rfl⟩, ⟨_, rfl, .d rfl⟩, ⟨_, rfl, .ptro rfl rfl⟩, ⟨_, rfl, .ptro rfl rfl⟩, ⟨_, rfl, .d rfl⟩, ⟨_, rfl, .d rfl⟩, ⟨_, rfl, .d rfl⟩, trivial⟩ ⟨.own rfl (.of_eq rfl (oviewView_dat _)), .own rfl (.of_eq rfl (oviewView_dat _)), trivial⟩ drop0)) ?_
        intro v1351 x1352 hb1353 hx1354
        refine cw_seq ?_
        obtain ⟨o1358, hj1359, h1360⟩ := bind_some hb1353
        refine cw_join (fun (z : Bool) => St.of [(0, .d (eSapiPair x4)), (1, .d (eSwainscotlaw12Op a1)), (8, .ptr 0 0), (9, .ptr 1 0), (10, .d (eint (bitsAnd .i64 a2 63))), (11, .d (eint v1351.1)), (12, .d (eint v1351.2.1)), (50, .d (ebool z))] [(0, .own (oviewView v1351.2.2.1)), (1, .own (oviewView v1351.2.2.2))]) (fun (z : Bool) => o1358 = z) ?_ ?_
        · intro v1618 hv1619; subst hv1619
          rcases cond_some h1360 with ⟨hc1364, h1365⟩ | ⟨hc1364, h1366⟩
          · refine cw_condT rfl hc1364 ?_
            refine cw_skip ?_
            obtain ⟨o1487, hj1488, h1489⟩ := bind_some h1365
            refine cw_join (fun (z : (((List ((List UInt8) × ByteArray)) × (List ((List UInt8) × ((List UInt8) × ByteArray × Bool))) × (List ((List UInt8) × (List UInt8) × Bool)) × (List (List ((List UInt8) × ((List UInt8) × ByteArray × Bool))))) × ((List ((List UInt8) × ByteArray)) × (List ((List UInt8) × ((List UInt8) × ByteArray × Bool))) × (List ((List UInt8) × (List UInt8) × Bool)) × (List (List ((List UInt8) × ((List UInt8) × ByteArray × Bool))))))) => St.of [(0, .d (eSapiPair x4)), (1, .d (eSwainscotlaw12Op a1)), (8, .ptr 0 0), (9, .ptr 2 0), (10, .d (eint (bitsAnd .i64 a2 63))), (11, .d (eint (IntKind.wrap .i64 (v1351.1 + 1)))), (12, .d (eint v1351.2.1))] [(0, .own (oviewView z.1)), (2, .own (oviewView z.2))]) (fun (z : (((List ((List UInt8) × ByteArray)) × (List ((List UInt8) × ((List UInt8) × ByteArray × Bool))) × (List ((List UInt8) × (List UInt8) × Bool)) × (List (List ((List UInt8) × ((List UInt8) × ByteArray × Bool))))) × ((List ((List UInt8) × ByteArray)) × (List ((List UInt8) × ((List UInt8) × ByteArray × Bool))) × (List ((List UInt8) × (List UInt8) × Bool)) × (List (List ((List UInt8) × ((List UInt8) × ByteArray × Bool))))))) => o1487 = (.inl z)) ?_ ?_
            · intro v1614 hv1616; subst hv1616
              simp only [Sum.elim_inl] at h1489
              refine cw_region (
                .cons (o_mv rfl rfl .no rfl) <|
                .cons (o_bin rfl rfl .no rfl rfl (b_add _ _) rfl) <|
                .cons (o_as rfl rfl .no rfl) <|
                .nil rfl
              ) ?_
              exact ⟨((IntKind.wrap .i64 (v1351.1 + 1)), (IntKind.wrap .i64 (v1351.2.1 + 1)), v1614.1, v1614.2), (Option.some.inj h1489).symm, .trans (leads_ren (l := [(0, .d (eSapiPair x4)), (1, .d (eSwainscotlaw12Op a1)), (8, .ptr 0 0), (9, .ptr 1 0), (10, .d (eint (bitsAnd .i64 a2 63))), (11, .d (eint (IntKind.wrap .i64 (v1351.1 + 1)))), (12, .d (eint (IntKind.wrap .i64 (v1351.2.1 + 1))))]) (m := [(0, .own (oviewView v1614.1)), (1, .own (oviewView v1614.2))]) (fun n => bif Nat.beq n 1 then 2 else n) ⟨⟨rfl, trivial⟩, ⟨rfl, trivial⟩, ⟨rfl, (by simp [AV.live, AV.lives, lk, Nat.beq])⟩, ⟨rfl, (by simp [AV.live, AV.lives, lk, Nat.beq])⟩, ⟨rfl, trivial⟩, ⟨rfl, trivial⟩, ⟨rfl, trivial⟩, trivial⟩ ⟨⟨rfl, (OD.dat_live (oviewView_dat _))⟩, ⟨rfl, (OD.dat_live (oviewView_dat _))⟩, trivial⟩ rfl (fun _ h => absurd h (Nat.not_lt_zero _))) (.w (weak_of ⟨⟨_, rfl, .d rfl⟩, ⟨_, rfl, .d rfl⟩, ⟨_, rfl, .ptro rfl rfl⟩, ⟨_, rfl, .ptro rfl rfl⟩, ⟨_, rfl, .d rfl⟩, ⟨_, rfl, .d rfl⟩, ⟨_, rfl, .d rfl⟩, trivial⟩ ⟨.own rfl (.of_eq rfl (oviewView_dat _)), .own rfl (.of_eq rfl (oviewView_dat _)), trivial⟩ drop0))⟩
            · skip
              refine cw_block ?_
              obtain ⟨x1490, hx1491, h1492⟩ := bind_some hj1488
              have hx1491g := gx_some hx1491
              obtain ⟨x1493, hx1494, h1495⟩ := bind_some h1492
              have hx1494g := cutB_some hx1494
              refine cw_seq (cw_region_any mixed (by kernel_rfl) (
                .cons (o_mv rfl rfl .no rfl) <|
                .cons (o_mv rfl rfl .no rfl) <|
                .cons (o_ixM (enc := ewainscotlaw12Op) (xs := a1) rfl rfl .no rfl rfl sl44 sz46 hx1491g.1 hx1491g.2) <|
                .cons (o_fld rfl rfl .no rfl fld46_3 (by decide) rfl rfl) <|
                .cons (o_ld rfl rfl .no rfl ta9 rfl rfl) <|
                .cons (o_mv rfl rfl .no rfl) <|
                .cons (o_mv rfl rfl .no rfl) <|
                .cons (o_ixM (enc := ewainscotlaw12Op) (xs := a1) rfl rfl .no rfl rfl sl44 sz46 hx1491g.1 hx1491g.2) <|
                .cons (o_fld rfl rfl .no rfl fld46_3 (by decide) rfl rfl) <|
                .cons (o_ld rfl rfl .no rfl ta9 rfl rfl) <|
                .cons (o_lenS rfl rfl .no rfl un9) <|
                .cons (o_min rfl rfl .no rfl rfl) <|
                .cons (o_slS rfl rfl .no rfl un9 .no (.val rfl hx1494g.2.1) hx1494g.2.2.1 hx1494g.2.2.2) <|
                .cons (o_as rfl rfl .no rfl) <|
                .nil rfl
              ) (by kernel_rfl) ?_)
              obtain ⟨o1540, hj1541, h1542⟩ := bind_some h1495
              refine cw_join (fun (z : ((List ((List UInt8) × ByteArray)) × (List ((List UInt8) × ((List UInt8) × ByteArray × Bool))) × (List ((List UInt8) × (List UInt8) × Bool)) × (List (List ((List UInt8) × ((List UInt8) × ByteArray × Bool)))))) => St.of [(0, .d (eSapiPair x4)), (1, .d (eSwainscotlaw12Op a1)), (8, .ptr 0 0), (9, .ptr 2 0), (10, .d (eint (bitsAnd .i64 a2 63))), (11, .d (eint v1351.1)), (12, .d (eint v1351.2.1)), (13, .d (estring (x1490.2.2.2.1.extract 0 (min (x1490.2.2.2.1.size : Int) 50).toNat)))] [(0, .own (oviewView v1351.2.2.1)), (2, .own (oviewView z))]) (fun (z : ((List ((List UInt8) × ByteArray)) × (List ((List UInt8) × ((List UInt8) × ByteArray × Bool))) × (List ((List UInt8) × (List UInt8) × Bool)) × (List (List ((List UInt8) × ((List UInt8) × ByteArray × Bool)))))) => o1540 = (.inl z)) ?_ ?_
              · intro v1590 hv1612; subst hv1612
                simp only [Sum.elim_inl] at h1542
                refine cw_seq (cw_region (
                  .cons (o_mv rfl rfl .no rfl) <|
                  .cons (o_bin rfl rfl .no rfl rfl (b_add _ _) rfl) <|
                  .cons (o_as rfl rfl .no rfl) <|
                  .nil rfl
                ) ?_)
                refine cw_seq (cw_region (
                  .cons (o_mv rfl rfl .no rfl) <|
                  .cons (o_mv rfl rfl .no rfl) <|
                  .cons (o_ixM (enc := ewainscotlaw12Op) (xs := a1) rfl rfl .no rfl rfl sl44 sz46 hx1491g.1 hx1491g.2) <|
                  .cons (o_fld rfl rfl .no rfl fld46_0 (by decide) rfl rfl) <|
                  .cons (o_ld rfl rfl .no rfl ta3 rfl rfl) <|
                  .cons (o_bin rfl rfl .no rfl rfl (b_eql _ _) rfl) <|
                  .nil rfl
                ) ?_)
                rcases cond_some h1542 with ⟨hc1591, h1592⟩ | ⟨hc1591, h1593⟩
                · refine cw_condT rfl hc1591 ?_
                  obtain ⟨x1594, hx1595, h1596⟩ := bind_some (x := view_View_Put v1351.2.2.1 x1490.2.2.1 (x1490.2.2.2.1.extract 0 (min (x1490.2.2.2.1.size : Int) 50).toNat)) h1592
                  obtain ⟨x1597, hx1598, h1599⟩ := bind_some (x := view_View_Put v1590 x1490.2.2.1 (x1490.2.2.2.1.extract 0 (min (x1490.2.2.2.1.size : Int) 50).toNat)) h1596
                  refine cw_seq (cw_region_any mixed (by kernel_rfl) (
                    .cons (o_mv rfl rfl .no rfl) <|
                    .cons (o_mv rfl rfl .no rfl) <|
                    .cons (o_mv rfl rfl .no rfl) <|
                    .cons (o_ixM (enc := ewainscotlaw12Op) (xs := a1) rfl rfl .no rfl rfl sl44 sz46 hx1491g.1 hx1491g.2) <|
                    .cons (o_fld rfl rfl .no rfl fld46_2 (by decide) rfl rfl) <|
                    .cons (o_ld rfl rfl .no rfl ta24 rfl rfl) <|
                    .cons (o_mv rfl rfl .no rfl) <|
                    .cons (o_callX (fun _ => 0) rfl rfl .no Try.func11 rfl rfl (view_View_Put_ok hx1595) (.cons rfl (.p rfl) (.cons rfl .d (.cons rfl .d .nil))) (callIn1 rfl ⟨(by simp [AV.live, lk, Nat.beq]), trivial, trivial, trivial⟩ rfl (OD.dat_live (oviewView_dat _)) (by simp)) (.inl rfl)) <|
                    .cons (o_mv rfl rfl .no rfl) <|
                    .cons (o_mv rfl rfl .no rfl) <|
                    .cons (o_mv rfl rfl .no rfl) <|
                    .cons (o_ixM (enc := ewainscotlaw12Op) (xs := a1) rfl rfl .no rfl rfl sl44 sz46 hx1491g.1 hx1491g.2) <|
                    .cons (o_fld rfl rfl .no rfl fld46_2 (by decide) rfl rfl) <|
                    .cons (o_ld rfl rfl .no rfl ta24 rfl rfl) <|
                    .cons (o_mv rfl rfl .no rfl) <|
                    .cons (o_callX (fun _ => 2) rfl rfl .no Try.func11 rfl rfl (view_View_Put_ok hx1598) (.cons rfl (.p rfl) (.cons rfl .d (.cons rfl .d .nil))) (callIn1 rfl ⟨(by simp [AV.live, lk, Nat.beq]), trivial, trivial, trivial⟩ rfl (OD.dat_live (oviewView_dat _)) (by simp)) (.inl rfl)) <|
                    .cons (o_bin rfl rfl .no rfl rfl (b_neq _ _) rfl) <|
                    .nil rfl
                  ) (by kernel_rfl) ?_)
                  rcases cond_some h1599 with ⟨hc1600, h1601⟩ | ⟨hc1600, h1602⟩
                  · refine cw_condT rfl hc1600 ?_
                    refine cw_seq (cw_region (
                      .cons (o_as rfl rfl .no rfl) <|
                      .nil rfl
                    ) ?_)
                    have he1603 := ((Option.some.inj h1601).symm).symm
                    subst he1603
                    have he1604 := ((hx1354 _ (Option.some.inj h1489).symm).symm).symm
                    subst he1604
                    have heq := ((Option.some.inj h822).symm).symm
                    subst heq
                    exact cw_ret ⟨_, (show Leads _ _ (St.of [(6, .d (ebool false))] []) from .w (weak_of ⟨⟨_, rfl, .d rfl⟩, trivial⟩ trivial drop0)), .inr rfl, _, res1 rfl rfl, rfl, rfl⟩
                  · refine cw_condF rfl hc1600 ?_
                    refine cw_skip ?_
                    exact ⟨(x1594.2, x1597.2), (Option.some.inj h1602).symm, .w (weak_of ⟨⟨_, rfl, .d rfl⟩, ⟨_, rfl, .d rfl⟩, ⟨_, rfl, .ptro rfl rfl⟩, ⟨_, rfl, .ptro rfl rfl⟩, ⟨_, rfl, .d rfl⟩, ⟨_, rfl, .d rfl⟩, ⟨_, rfl, .d rfl⟩, trivial⟩ ⟨.own rfl (.of_eq rfl (oviewView_dat _)), .own rfl (.of_eq rfl (oviewView_dat _)), trivial⟩ drop0)⟩
                · refine cw_condF rfl hc1591 ?_
                  obtain ⟨x1605, hx1606, h1607⟩ := bind_some (x := view_View_Delete v1351.2.2.1 x1490.2.2.1) h1593
                  refine cw_seq (cw_region (
                    .cons (o_mv rfl rfl .no rfl) <|
                    .cons (o_mv rfl rfl .no rfl) <|
                    .cons (o_mv rfl rfl .no rfl) <|
                    .cons (o_ixM (enc := ewainscotlaw12Op) (xs := a1) rfl rfl .no rfl rfl sl44 sz46 hx1491g.1 hx1491g.2) <|
                    .cons (o_fld rfl rfl .no rfl fld46_2 (by decide) rfl rfl) <|
                    .cons (o_ld rfl rfl .no rfl ta24 rfl rfl) <|
                    .cons (o_callX (fun _ => 0) rfl rfl .no Try.func20 rfl rfl (view_View_Delete_ok hx1606) (.cons rfl (.p rfl) (.cons rfl .d .nil)) (callIn1 rfl ⟨(by simp [AV.live, lk, Nat.beq]), trivial, trivial⟩ rfl (OD.dat_live (oviewView_dat _)) (by simp)) (.inl rfl)) <|
                    .nil rfl
                  ) ?_)
                  obtain ⟨x1608, hx1609, h1610⟩ := bind_some (x := view_View_Delete v1590 x1490.2.2.1) h1607
                  refine cw_region (
                    .cons (o_mv rfl rfl .no rfl) <|
                    .cons (o_mv rfl rfl .no rfl) <|
                    .cons (o_mv rfl rfl .no rfl) <|
                    .cons (o_ixM (enc := ewainscotlaw12Op) (xs := a1) rfl rfl .no rfl rfl sl44 sz46 hx1491g.1 hx1491g.2) <|
                    .cons (o_fld rfl rfl .no rfl fld46_2 (by decide) rfl rfl) <|
                    .cons (o_ld rfl rfl .no rfl ta24 rfl rfl) <|
                    .cons (o_callX (fun _ => 2) rfl rfl .no Try.func20 rfl rfl (view_View_Delete_ok hx1609) (.cons rfl (.p rfl) (.cons rfl .d .nil)) (callIn1 rfl ⟨(by simp [AV.live, lk, Nat.beq]), trivial, trivial⟩ rfl (OD.dat_live (oviewView_dat _)) (by simp)) (.inl rfl)) <|
                    .nil rfl
                  ) ?_
                  exact ⟨(x1605.2, x1608.2), (Option.some.inj h1610).symm, .w (weak_of ⟨⟨_, rfl, .d rfl⟩, ⟨_, rfl, .d rfl⟩, ⟨_, rfl, .ptro rfl rfl⟩, ⟨_, rfl, .ptro rfl rfl⟩, ⟨_, rfl, .d rfl⟩, ⟨_, rfl, .d rfl⟩, ⟨_, rfl, .d rfl⟩, trivial⟩ ⟨.own rfl (.of_eq rfl (oviewView_dat _)), .own rfl (.of_eq rfl (oviewView_dat _)), trivial⟩ drop0)⟩
              · skip
                refine cw_seq (cw_region (
                  .cons (o_mv rfl rfl .no rfl) <|
                  .cons (o_mv rfl rfl .no rfl) <|
                  .cons (o_bin rfl rfl .no rfl rfl (b_eql _ _) rfl) <|
                  .nil rfl
                ) ?_)
                rcases cond_some hj1541 with ⟨hc1543, h1544⟩ | ⟨hc1543, h1545⟩
                · refine cw_condT rfl hc1543 ?_
                  obtain ⟨x1546, hx1547, h1548⟩ := bind_some (x := view_View_Scan v1351.2.2.2 ((List.replicate 24 0), (List.replicate 24 0), true)) h1544
                  refine cw_seq (cw_region (
                    .cons (o_mv rfl rfl .no rfl) <|
                    .cons (o_bld (ds := [eapiKey (List.replicate 24 0), eapiKey (List.replicate 24 0), ebool true]) rfl rfl .no zs26 rfl pl26 (.cons rfl rfl rfl rfl rfl rfl rfl .nil)) <|
                    .cons (o_callX (fun _ => 1) rfl rfl .no Try.func15 rfl rfl (view_View_Scan_ok hx1547) (.cons rfl (.p rfl) (.cons rfl .d .nil)) (callIn1 rfl ⟨(by simp [AV.live, lk, Nat.beq]), trivial, trivial⟩ rfl (OD.dat_live (oviewView_dat _)) (by simp)) (.inl rfl)) <|
                    .cons (o_mv rfl rfl .no rfl) <|
                    .cons (o_ext rfl rfl .no rfl rfl) <|
                    .cons (o_ext rfl rfl .no rfl rfl) <|
                    .cons (o_as rfl rfl .no rfl) <|
                    .cons (o_as rfl rfl .no rfl) <|
                    .nil rfl
                  ) ?_)
                  refine cw_seq ?_
                  obtain ⟨o1561, hj1562, h1563⟩ := bind_some h1548
                  refine cw_join (fun (z : Bool) => St.of [(0, .d (eSapiPair x4)), (1, .d (eSwainscotlaw12Op a1)), (8, .ptr 0 0), (10, .d (eint (bitsAnd .i64 a2 63))), (11, .d (eint v1351.1)), (12, .d (eint v1351.2.1)), (13, .d (estring (x1490.2.2.2.1.extract 0 (min (x1490.2.2.2.1.size : Int) 50).toNat))), (14, .d (eSapiPair x1546.1)), (85, .d (ebool z))] [(0, .own (oviewView v1351.2.2.1))]) (fun (z : Bool) => o1561 = z) ?_ ?_
                  · intro v1588 hv1589; subst hv1589
                    rcases cond_some h1563 with ⟨hc1576, h1577⟩ | ⟨hc1576, h1578⟩
                    · refine cw_condT rfl hc1576 ?_
                      refine cw_seq (cw_region (
                        .cons (o_as rfl rfl .no rfl) <|
                        .nil rfl
                      ) ?_)
                      have he1579 := ((Option.some.inj h1577).symm).symm
                      subst he1579
                      have he1580 := ((Option.some.inj h1542).symm).symm
                      subst he1580
                      have he1581 := ((hx1354 _ (Option.some.inj h1489).symm).symm).symm
                      subst he1581
                      have heq := ((Option.some.inj h822).symm).symm
                      subst heq
                      exact cw_ret ⟨_, (show Leads _ _ (St.of [(6, .d (ebool false))] []) from .w (weak_of ⟨⟨_, rfl, .d rfl⟩, trivial⟩ trivial drop0)), .inr rfl, _, res1 rfl rfl, rfl, rfl⟩
                    · refine cw_condF rfl hc1576 ?_
                      refine cw_skip ?_
                      obtain ⟨x1582, hx1583, h1584⟩ := bind_some (x := view_NewPlain x1546.1) h1578
                      obtain ⟨x1585, hx1586, h1587⟩ := bind_some (x := view_New x1582) h1584
                      refine cw_seq (cw_region (
                        .cons (o_mv rfl rfl .no rfl) <|
                        .cons (o_call rfl rfl .no Try.func9 rfl rfl (view_NewPlain_ok hx1583) (.cons rfl .d .nil) ⟨trivial, trivial⟩ (.inl rfl)) <|
                        .cons (o_mkif rfl rfl .no rfl ifB30) <|
                        .cons (o_callO 2 rfl rfl .no Try.func8 rfl rfl (view_New_ok hx1586) (.cons rfl .i .nil) ⟨(by simp [AV.live]), trivial⟩ rfl (.inl rfl)) <|
                        .cons (o_as rfl rfl .no rfl) <|
                        .nil rfl
                      ) ?_)
                      refine cw_seq (cw_region (
                        .cons (o_mv rfl rfl .no rfl) <|
                        .cons (o_pnilP rfl rfl .no rfl up28) <|
                        .nil rfl
                      ) ?_)
                      refine cw_condF rfl rfl ?_
                      refine cw_skip ?_
                      exact ⟨x1585, (Option.some.inj h1587).symm, .w (weak_of ⟨⟨_, rfl, .d rfl⟩, ⟨_, rfl, .d rfl⟩, ⟨_, rfl, .ptro rfl rfl⟩, ⟨_, rfl, .ptro rfl rfl⟩, ⟨_, rfl, .d rfl⟩, ⟨_, rfl, .d rfl⟩, ⟨_, rfl, .d rfl⟩, ⟨_, rfl, .d rfl⟩, trivial⟩ ⟨.own rfl (.of_eq rfl (oviewView_dat _)), .own rfl (.of_eq rfl (oviewView_dat _)), trivial⟩ drop0)⟩
                  · skip
                    rcases cond_some hj1562 with ⟨hc1564, h1565⟩ | ⟨hc1564, h1566⟩
                    · skip
                      refine cw_region (
                        .cons (o_mv rfl rfl .no rfl) <|
                        .cons (o_bin rfl rfl .no rfl rfl (b_neq _ _) rfl) <|
                        .cons (o_mv rfl rfl .no rfl) <|
                        .cons (o_noT rfl rfl rfl rfl hc1564) <|
                        .cons (o_noT rfl rfl rfl rfl hc1564) <|
                        .cons (o_noT rfl rfl rfl rfl hc1564) <|
                        .cons (o_noT rfl rfl rfl rfl hc1564) <|
                        .cons (o_noT rfl rfl rfl rfl hc1564) <|
                        .cons (o_noT rfl rfl rfl rfl hc1564) <|
                        .cons (o_noT rfl rfl rfl rfl hc1564) <|
                        .cons (o_pickT rfl rfl .no rfl hc1564 rfl) <|
                        .nil rfl
                      ) ?_
                      exact ⟨true, (Option.some.inj h1565).symm, .w (weak_of ⟨⟨_, rfl, .d rfl⟩, ⟨_, rfl, .d rfl⟩, ⟨_, rfl, .ptro rfl rfl⟩, ⟨_, rfl, .d rfl⟩, ⟨_, rfl, .d rfl⟩, ⟨_, rfl, .d rfl⟩, ⟨_, rfl, .d rfl⟩, ⟨_, rfl, .d rfl⟩, ⟨_, rfl, .d rfl⟩, trivial⟩ ⟨.own rfl (.of_eq rfl (oviewView_dat _)), trivial⟩ drop0)⟩
                    · skip
                      obtain ⟨x1567, hx1568, h1569⟩ := bind_some (x := view_View_Changes x1546.2.2) h1566
                      obtain ⟨x1570, hx1571, h1572⟩ := bind_some (x := delta_Apply x4 x1567.1) h1569
                      obtain ⟨x1573, hx1574, h1575⟩ := bind_some (x := ref09_Same x1546.1 x1570) h1572
                      refine cw_region (
                        .cons (o_mv rfl rfl .no rfl) <|
                        .cons (o_bin rfl rfl .no rfl rfl (b_neq _ _) rfl) <|
                        .cons (o_mv rfl rfl .no rfl) <|
                        .cons (o_mv rfl rfl (.yes rfl rfl hc1564) rfl) <|
                        .cons (o_mv rfl rfl (.yes rfl rfl hc1564) rfl) <|
                        .cons (o_mv rfl rfl (.yes rfl rfl hc1564) rfl) <|
                        .cons (o_callX (fun _ => 1) rfl rfl (.yes rfl rfl hc1564) Try.func19 rfl rfl (view_View_Changes_ok hx1568) (.cons rfl (.p rfl) .nil) (callIn1 rfl ⟨(by simp [AV.live, lk, Nat.beq]), trivial⟩ rfl (OD.dat_live (oviewView_dat _)) (by simp)) (.inl rfl)) <|
                        .cons (o_call rfl rfl (.yes rfl rfl hc1564) Try.func18 rfl rfl (delta_Apply_ok hx1571) (.cons rfl .d (.cons rfl .d .nil)) ⟨trivial, trivial, trivial⟩ (.inl rfl)) <|
                        .cons (o_call rfl rfl (.yes rfl rfl hc1564) Try.func17 rfl rfl (ref09_Same_ok hx1574) (.cons rfl .d (.cons rfl .d .nil)) ⟨trivial, trivial, trivial⟩ (.inl rfl)) <|
                        .cons (o_not rfl rfl (.yes rfl rfl hc1564) rfl) <|
                        .cons (o_pickF rfl rfl .no rfl hc1564 rfl) <|
                        .nil rfl
                      ) ?_
                      exact ⟨(!x1573), (Option.some.inj h1575).symm, .w (weak_of ⟨⟨_, rfl, .d rfl⟩, ⟨_, rfl, .d rfl⟩, ⟨_, rfl, .ptro rfl rfl⟩, ⟨_, rfl, .d rfl⟩, ⟨_, rfl, .d rfl⟩, ⟨_, rfl, .d rfl⟩, ⟨_, rfl, .d rfl⟩, ⟨_, rfl, .d rfl⟩, ⟨_, rfl, .d rfl⟩, trivial⟩ ⟨.own rfl (.of_eq rfl (oviewView_dat _)), trivial⟩ drop0)⟩
                · refine cw_condF rfl hc1543 ?_
                  refine cw_skip ?_
                  exact ⟨v1351.2.2.2, (Option.some.inj h1545).symm, .trans (leads_ren (l := [(0, .d (eSapiPair x4)), (1, .d (eSwainscotlaw12Op a1)), (8, .ptr 0 0), (9, .ptr 2 0), (10, .d (eint (bitsAnd .i64 a2 63))), (11, .d (eint v1351.1)), (12, .d (eint v1351.2.1)), (13, .d (estring (x1490.2.2.2.1.extract 0 (min (x1490.2.2.2.1.size : Int) 50).toNat)))]) (m := [(0, .own (oviewView v1351.2.2.1)), (2, .own (oviewView v1351.2.2.2))]) (fun n => bif Nat.beq n 2 then 1 else n) ⟨⟨rfl, trivial⟩, ⟨rfl, trivial⟩, ⟨rfl, (by simp [AV.live, AV.lives, lk, Nat.beq])⟩, ⟨rfl, (by simp [AV.live, AV.lives, lk, Nat.beq])⟩, ⟨rfl, trivial⟩, ⟨rfl, trivial⟩, ⟨rfl, trivial⟩, ⟨rfl, trivial⟩, trivial⟩ ⟨⟨rfl, (OD.dat_live (oviewView_dat _))⟩, ⟨rfl, (OD.dat_live (oviewView_dat _))⟩, trivial⟩ rfl (fun _ h => absurd h (Nat.not_lt_zero _))) (.w (weak_of ⟨⟨_, rfl, .d rfl⟩, ⟨_, rfl, .d rfl⟩, ⟨_, rfl, .ptro rfl rfl⟩, ⟨_, rfl, .ptro rfl rfl⟩, ⟨_, rfl, .d rfl⟩, ⟨_, rfl, .d rfl⟩, ⟨_, rfl, .d rfl⟩, ⟨_, rfl, .d rfl⟩, trivial⟩ ⟨.own rfl (.of_eq rfl (oviewView_dat _)), .own rfl (.of_eq rfl (oviewView_dat _)), trivial⟩ drop0))⟩
          · refine cw_condF rfl hc1364 ?_
            refine cw_exit ?_
            exact ⟨(v1351.2.2.1, v1351.2.2.2), (hx1354 _ (Option.some.inj h1366).symm).symm, .w (weak_of ⟨⟨_, rfl, .d rfl⟩, ⟨_, rfl, .ptro rfl rfl⟩, ⟨_, rfl, .ptro rfl rfl⟩, trivial⟩ ⟨.own rfl (.of_eq rfl (oviewView_dat _)), .own rfl (.of_eq rfl (oviewView_dat _)), trivial⟩ drop0)⟩
        · skip
          rcases cond_some hj1359 with ⟨hc1361, h1362⟩ | ⟨hc1361, h1363⟩
          · skip
            refine cw_region (
              .cons (o_mv rfl rfl .no rfl) <|
              .cons (o_mv rfl rfl .no rfl) <|
              .cons (o_lenM (enc := ewainscotlaw12Op) (xs := a1) rfl rfl .no rfl sl44) <|
              .cons (o_bin rfl rfl .no rfl rfl (b_lss _ _) rfl) <|
              .cons (o_mv rfl rfl .no rfl) <|
              .cons (o_mv rfl rfl (.yes rfl rfl hc1361) rfl) <|
              .cons (o_bin rfl rfl (.yes rfl rfl hc1361) rfl rfl (b_lss _ _) rfl) <|
              .cons (o_pickT rfl rfl .no rfl hc1361 rfl) <|
              .nil rfl
            ) ?_
            exact ⟨(decide (v1351.2.1 < 40)), (Option.some.inj h1362).symm, .w (weak_of ⟨⟨_, rfl, .d rfl⟩, ⟨_, rfl, .d rfl⟩, ⟨_, rfl, .ptro rfl rfl⟩, ⟨_, rfl, .ptro rfl rfl⟩, ⟨_, rfl, .d rfl⟩, ⟨_, rfl, .d rfl⟩, ⟨_, rfl, .d rfl⟩, ⟨_, rfl, .d rfl⟩, trivial⟩ ⟨.own rfl (.of_eq rfl (oviewView_dat _)), .own rfl (.of_eq rfl (oviewView_dat _)), trivial⟩ drop0)⟩
          · skip
            refine cw_region (
              .cons (o_mv rfl rfl .no rfl) <|
              .cons (o_mv rfl rfl .no rfl) <|
              .cons (o_lenM (enc := ewainscotlaw12Op) (xs := a1) rfl rfl .no rfl sl44) <|
              .cons (o_bin rfl rfl .no rfl rfl (b_lss _ _) rfl) <|
              .cons (o_mv rfl rfl .no rfl) <|
              .cons (o_noT rfl rfl rfl rfl hc1361) <|
              .cons (o_noT rfl rfl rfl rfl hc1361) <|
              .cons (o_pickF rfl rfl .no rfl hc1361 rfl) <|
              .nil rfl
            ) ?_
            exact ⟨false, (Option.some.inj h1363).symm, .w (weak_of ⟨⟨_, rfl, .d rfl⟩, ⟨_, rfl, .d rfl⟩, ⟨_, rfl, .ptro rfl rfl⟩, ⟨_, rfl, .ptro rfl rfl⟩, ⟨_, rfl, .d rfl⟩, ⟨_, rfl, .d rfl⟩, ⟨_, rfl, .d rfl⟩, ⟨_, rfl, .d rfl⟩, trivial⟩ ⟨.own rfl (.of_eq rfl (oviewView_dat _)), .own rfl (.of_eq rfl (oviewView_dat _)), trivial⟩ drop0)⟩
  · skip
    rcases cond_some hj17 with ⟨hc19, h20⟩ | ⟨hc19, h21⟩
    · skip
      refine cw_region (
        .cons (o_mv rfl rfl .no rfl) <|
        .cons (o_not rfl rfl .no rfl) <|
        .cons (o_mv rfl rfl .no rfl) <|
        .cons (o_noT rfl rfl rfl rfl hc19) <|
        .cons (o_noT rfl rfl rfl rfl hc19) <|
        .cons (o_pickT rfl rfl .no rfl hc19 rfl) <|
        .cons (o_mv rfl rfl .no rfl) <|
        .cons (o_noT rfl rfl rfl rfl rfl) <|
        .cons (o_noT rfl rfl rfl rfl rfl) <|
        .cons (o_pickT rfl rfl .no rfl rfl rfl) <|
        .nil rfl
      ) ?_
      exact ⟨true, (Option.some.inj h20).symm, .w (weak_of ⟨⟨_, rfl, .d rfl⟩, ⟨_, rfl, .d rfl⟩, ⟨_, rfl, .d rfl⟩, ⟨_, rfl, .ptro rfl rfl⟩, ⟨_, rfl, .ptro rfl rfl⟩, ⟨_, rfl, .d rfl⟩, trivial⟩ ⟨.own rfl (.of_eq rfl (oviewView_dat _)), .own rfl (.of_eq rfl (oviewView_dat _)), trivial⟩ drop0)⟩
    · skip
      refine cw_region (
        .cons (o_mv rfl rfl .no rfl) <|
        .cons (o_not rfl rfl .no rfl) <|
        .cons (o_mv rfl rfl .no rfl) <|
        .cons (o_mv rfl rfl (.yes rfl rfl hc19) rfl) <|
        .cons (o_pnilP rfl rfl (.yes rfl rfl hc19) rfl up28) <|
        .cons (o_pickF rfl rfl .no rfl hc19 rfl) <|
        .cons (o_mv rfl rfl .no rfl) <|
        .cons (o_mv rfl rfl (.yes rfl rfl rfl) rfl) <|
        .cons (o_pnilP rfl rfl (.yes rfl rfl rfl) rfl up28) <|
        .cons (o_pickF rfl rfl .no rfl rfl rfl) <|
        .nil rfl
      ) ?_
      exact ⟨false, (Option.some.inj h21).symm, .w (weak_of ⟨⟨_, rfl, .d rfl⟩, ⟨_, rfl, .d rfl⟩, ⟨_, rfl, .d rfl⟩, ⟨_, rfl, .ptro rfl rfl⟩, ⟨_, rfl, .ptro rfl rfl⟩, ⟨_, rfl, .d rfl⟩, trivial⟩ ⟨.own rfl (.of_eq rfl (oviewView_dat _)), .own rfl (.of_eq rfl (oviewView_dat _)), trivial⟩ drop0)⟩

set_option maxRecDepth 100000 in
theorem law12_ViewBacks_ok {a0 : List ((List UInt8) × ByteArray)} {a1 : List (Int × Int × (List UInt8) × ByteArray × ((List UInt8) × (List UInt8) × Bool))} {a2 : List (Int × Int × (List UInt8) × ByteArray × ((List UInt8) × (List UInt8) × Bool))} {r : Bool} (h : law12_ViewBacks a0 a1 a2 = some r) : FnOk Try.prog 5 [.d (eSapiPair a0), .d (eSwainscotlaw12Op a1), .d (eSwainscotlaw12Op a2)] 0 (lk []) (fun rr oo => rr = .d (ebool r) ∧ oo = lk []) := by
  refine fnOk_of Try.func5 rfl rfl (cw_post ?_)
  unfold law12_ViewBacks at h
  refine cw_seq (cw_region (
    .cons (o_as rfl rfl .no rfl) <|
    .nil rfl
  ) ?_)
  obtain ⟨x1, hx2, h3⟩ := bind_some (x := law12_shown) h
  refine cw_seq (cw_region (
    .cons (o_call rfl rfl .no Try.func7 rfl rfl (law12_shown_ok hx2) .nil trivial (.inl rfl)) <|
    .cons (o_as rfl rfl .no rfl) <|
    .nil rfl
  ) ?_)
  obtain ⟨x4, hx5, h6⟩ := bind_some (x := law12_cut a0) h3
  obtain ⟨x7, hx8, h9⟩ := bind_some (x := view_NewPlain x4) h6
  obtain ⟨x10, hx11, h12⟩ := bind_some (x := view_New x7) h9
  refine cw_seq (cw_region (
    .cons (o_mv rfl rfl .no rfl) <|
    .cons (o_call rfl rfl .no Try.func10 rfl rfl (law12_cut_ok hx5) (.cons rfl .d .nil) ⟨trivial, trivial⟩ (.inl rfl)) <|
    .cons (o_call rfl rfl .no Try.func9 rfl rfl (view_NewPlain_ok hx8) (.cons rfl .d .nil) ⟨trivial, trivial⟩ (.inl rfl)) <|
    .cons (o_mkif rfl rfl .no rfl ifB30) <|
    .cons (o_callO 0 rfl rfl .no Try.func8 rfl rfl (view_New_ok hx11) (.cons rfl .i .nil) ⟨(by simp [AV.live]), trivial⟩ rfl (.inl rfl)) <|
    .cons (o_as rfl rfl .no rfl) <|
    .nil rfl
  ) ?_)
  refine cw_seq ?_
  obtain ⟨o16, hj17, h18⟩ := bind_some h12
  refine cw_join (fun (z : Bool) => St.of [(1, .d (eSwainscotlaw12Op a1)), (2, .d (eSwainscotlaw12Op a2)), (8, .ptr 0 0), (24, .d (ebool z))] [(0, .own (oviewView x10))]) (fun (z : Bool) => o16 = z) ?_ ?_
  · intro v290 hv291; subst hv291
    rcases cond_some h18 with ⟨hc22, h23⟩ | ⟨hc22, h24⟩
    · refine cw_condT rfl hc22 ?_
      refine cw_seq (cw_region (
        .cons (o_as rfl rfl .no rfl) <|
        .nil rfl
      ) ?_)
      have heq := ((Option.some.inj h23).symm).symm
      subst heq
      exact cw_ret ⟨_, (show Leads _ _ (St.of [(6, .d (ebool false))] []) from .w (weak_of ⟨⟨_, rfl, .d rfl⟩, trivial⟩ trivial drop0)), .inr rfl, _, res1 rfl rfl, rfl, rfl⟩
    · refine cw_condF rfl hc22 ?_
      refine cw_skip ?_
      obtain ⟨x25, hx26, h27⟩ := bind_some (x := law12_does x10 a1 30) h24
      refine cw_seq (cw_region (
        .cons (o_mv rfl rfl .no rfl) <|
        .cons (o_mv rfl rfl .no rfl) <|
        .cons (o_callX (fun _ => 0) rfl rfl .no Try.func21 rfl rfl (law12_does_ok hx26) (.cons rfl (.p rfl) (.cons rfl .d (.cons rfl .d .nil))) (callIn1 rfl ⟨(by simp [AV.live, lk, Nat.beq]), trivial, trivial, trivial⟩ rfl (OD.dat_live (oviewView_dat _)) (by simp)) (.inl rfl)) <|
        .nil rfl
      ) ?_)
      obtain ⟨x28, hx29, h30⟩ := bind_some (x := view_View_Mark x25) h27
      refine cw_seq (cw_region (
        .cons (o_mv rfl rfl .no rfl) <|
        .cons (o_callX (fun _ => 0) rfl rfl .no Try.func22 rfl rfl (view_View_Mark_ok hx29) (.cons rfl (.p rfl) .nil) (callIn1 rfl ⟨(by simp [AV.live, lk, Nat.beq]), trivial⟩ rfl (OD.dat_live (oviewView_dat _)) (by simp)) (.inl rfl)) <|
        .cons (o_as rfl rfl .no rfl) <|
        .nil rfl
      ) ?_)
      obtain ⟨x31, hx32, h33⟩ := bind_some (x := view_View_Changes x28.2) h30
      refine cw_seq (cw_region (
        .cons (o_mv rfl rfl .no rfl) <|
        .cons (o_callX (fun _ => 0) rfl rfl .no Try.func19 rfl rfl (view_View_Changes_ok hx32) (.cons rfl (.p rfl) .nil) (callIn1 rfl ⟨(by simp [AV.live, lk, Nat.beq]), trivial⟩ rfl (OD.dat_live (oviewView_dat _)) (by simp)) (.inl rfl)) <|
        .cons (o_as rfl rfl .no rfl) <|
        .nil rfl
      ) ?_)
      obtain ⟨o145, hj146, h147⟩ := bind_some h33
      refine cw_join (fun (z : ((List ((List UInt8) × ByteArray)) × (List ((List UInt8) × ((List UInt8) × ByteArray × Bool))) × (List ((List UInt8) × (List UInt8) × Bool)) × (List (List ((List UInt8) × ((List UInt8) × ByteArray × Bool)))))) => St.of [(8, .ptr 0 0), (9, .d (eint x28.1))] [(0, .own (oviewView z))]) (fun (z : ((List ((List UInt8) × ByteArray)) × (List ((List UInt8) × ((List UInt8) × ByteArray × Bool))) × (List ((List UInt8) × (List UInt8) × Bool)) × (List (List ((List UInt8) × ((List UInt8) × ByteArray × Bool)))))) => o145 = (.inl z)) ?_ ?_
      · intro v260 hv288; subst hv288
        simp only [Sum.elim_inl] at h147
        obtain ⟨o273, hj274, h275⟩ := bind_some h147
        refine cw_join (fun (z : Bool) => St.of [(6, .d (ebool z))] []) (fun (z : Bool) => o273 = z) ?_ ?_
        · intro v285 hv286; subst hv286
          have heq := ((Option.some.inj h275).symm).symm
          subst heq
          exact cw_ret ⟨_, (show Leads _ _ (St.of [(6, .d (ebool o273))] []) from .w (weak_of ⟨⟨_, rfl, .d rfl⟩, trivial⟩ trivial drop0)), .inr rfl, _, res1 rfl rfl, rfl, rfl⟩
        · skip
          obtain ⟨x276, hx277, h278⟩ := bind_some (x := view_View_Back v260 (IntKind.wrap .i64 (x28.1 + 1))) hj274
          rcases cond_some h278 with ⟨hc279, h280⟩ | ⟨hc279, h281⟩
          · skip
            obtain ⟨x282, hx283, h284⟩ := bind_some (x := view_View_Back x276.2 (-1)) h280
            refine cw_region (
              .cons (o_mv rfl rfl .no rfl) <|
              .cons (o_mv rfl rfl .no rfl) <|
              .cons (o_bin rfl rfl .no rfl rfl (b_add _ _) rfl) <|
              .cons (o_callX (fun _ => 0) rfl rfl .no Try.func23 rfl rfl (view_View_Back_ok hx277) (.cons rfl (.p rfl) (.cons rfl .d .nil)) (callIn1 rfl ⟨(by simp [AV.live, lk, Nat.beq]), trivial, trivial⟩ rfl (OD.dat_live (oviewView_dat _)) (by simp)) (.inl rfl)) <|
              .cons (o_bin rfl rfl .no rfl rfl (b_eql _ _) rfl) <|
              .cons (o_mv rfl rfl .no rfl) <|
              .cons (o_mv rfl rfl (.yes rfl rfl hc279) rfl) <|
              .cons (o_callX (fun _ => 0) rfl rfl (.yes rfl rfl hc279) Try.func23 rfl rfl (view_View_Back_ok hx283) (.cons rfl (.p rfl) (.cons rfl .d .nil)) (callIn1 rfl ⟨(by simp [AV.live, lk, Nat.beq]), trivial, trivial⟩ rfl (OD.dat_live (oviewView_dat _)) (by simp)) (.inl rfl)) <|
              .cons (o_bin rfl rfl (.yes rfl rfl hc279) rfl rfl (b_eql _ _) rfl) <|
              .cons (o_pickT rfl rfl .no rfl hc279 rfl) <|
              .cons (o_as rfl rfl .no rfl) <|
              .nil rfl
            ) ?_
            exact ⟨(decide (x282.1 = 1)), (Option.some.inj h284).symm, .w (weak_of ⟨⟨_, rfl, .d rfl⟩, trivial⟩ trivial drop0)⟩
          · skip
            refine cw_region (
              .cons (o_mv rfl rfl .no rfl) <|
              .cons (o_mv rfl rfl .no rfl) <|
              .cons (o_bin rfl rfl .no rfl rfl (b_add _ _) rfl) <|
              .cons (o_callX (fun _ => 0) rfl rfl .no Try.func23 rfl rfl (view_View_Back_ok hx277) (.cons rfl (.p rfl) (.cons rfl .d .nil)) (callIn1 rfl ⟨(by simp [AV.live, lk, Nat.beq]), trivial, trivial⟩ rfl (OD.dat_live (oviewView_dat _)) (by simp)) (.inl rfl)) <|
              .cons (o_bin rfl rfl .no rfl rfl (b_eql _ _) rfl) <|
              .cons (o_mv rfl rfl .no rfl) <|
              .cons (o_noT rfl rfl rfl rfl hc279) <|
              .cons (o_noT rfl rfl rfl rfl hc279) <|
              .cons (o_noT rfl rfl rfl rfl hc279) <|
              .cons (o_pickF rfl rfl .no rfl hc279 rfl) <|
              .cons (o_as rfl rfl .no rfl) <|
              .nil rfl
            ) ?_
            exact ⟨false, (Option.some.inj h281).symm, .w (weak_of ⟨⟨_, rfl, .d rfl⟩, trivial⟩ trivial drop0)⟩
      · skip
        refine cw_seq (cw_region (
          .cons (o_as rfl rfl .no rfl) <|
          .nil rfl
        ) ?_)
        refine cw_block ?_
        refine cw_while (V := (Int × ((List ((List UInt8) × ByteArray)) × (List ((List UInt8) × ((List UInt8) × ByteArray × Bool))) × (List ((List UInt8) × (List UInt8) × Bool)) × (List (List ((List UInt8) × ((List UInt8) × ByteArray × Bool))))))) (O := (((List ((List UInt8) × ByteArray)) × (List ((List UInt8) × ((List UInt8) × ByteArray × Bool))) × (List ((List UInt8) × (List UInt8) × Bool)) × (List (List ((List UInt8) × ((List UInt8) × ByteArray × Bool))))) ⊕ Bool)) (fun (z : (Int × ((List ((List UInt8) × ByteArray)) × (List ((List UInt8) × ((List UInt8) × ByteArray × Bool))) × (List ((List UInt8) × (List UInt8) × Bool)) × (List (List ((List UInt8) × ((List UInt8) × ByteArray × Bool))))))) => St.of [(2, .d (eSwainscotlaw12Op a2)), (8, .ptr 0 0), (9, .d (eint x28.1)), (10, .d (eSapiChange x31.1)), (11, .d (eint z.1))] [(0, .own (oviewView z.2))]) hj146 (.w (weak_of ⟨⟨_, rfl, .d rfl⟩, ⟨_, rfl, .ptro rfl rfl⟩, ⟨_, rfl, .d rfl⟩, ⟨_, rfl, .d rfl⟩, ⟨_, rfl, .d rfl⟩, trivial⟩ ⟨.own rfl (.of_eq rfl (oviewView_dat _)), trivial⟩ drop0)) ?_
        intro v220 x221 hb222 hx223
        refine cw_seq ?_
        refine cw_seq (cw_region (
          .cons (o_mv rfl rfl .no rfl) <|
          .cons (o_bin rfl rfl .no rfl rfl (b_lss _ _) rfl) <|
          .nil rfl
        ) ?_)
        rcases cond_some hb222 with ⟨hc224, h225⟩ | ⟨hc224, h226⟩
        · refine cw_condT rfl hc224 ?_
          refine cw_skip ?_
          refine cw_seq ?_
          refine cw_block ?_
          obtain ⟨x227, hx228, h229⟩ := bind_some (x := law12_does v220.2 a2 30) h225
          refine cw_seq (cw_region (
            .cons (o_mv rfl rfl .no rfl) <|
            .cons (o_mv rfl rfl .no rfl) <|
            .cons (o_callX (fun _ => 0) rfl rfl .no Try.func21 rfl rfl (law12_does_ok hx228) (.cons rfl (.p rfl) (.cons rfl .d (.cons rfl .d .nil))) (callIn1 rfl ⟨(by simp [AV.live, lk, Nat.beq]), trivial, trivial, trivial⟩ rfl (OD.dat_live (oviewView_dat _)) (by simp)) (.inl rfl)) <|
            .nil rfl
          ) ?_)
          obtain ⟨x230, hx231, h232⟩ := bind_some (x := view_View_Back x227 x28.1) h229
          refine cw_seq (cw_region (
            .cons (o_mv rfl rfl .no rfl) <|
            .cons (o_mv rfl rfl .no rfl) <|
            .cons (o_callX (fun _ => 0) rfl rfl .no Try.func23 rfl rfl (view_View_Back_ok hx231) (.cons rfl (.p rfl) (.cons rfl .d .nil)) (callIn1 rfl ⟨(by simp [AV.live, lk, Nat.beq]), trivial, trivial⟩ rfl (OD.dat_live (oviewView_dat _)) (by simp)) (.inl rfl)) <|
            .cons (o_as rfl rfl .no rfl) <|
            .nil rfl
          ) ?_)
          obtain ⟨o242, hj243, h244⟩ := bind_some h232
          refine cw_join (fun (z : (Bool × ((List ((List UInt8) × ByteArray)) × (List ((List UInt8) × ((List UInt8) × ByteArray × Bool))) × (List ((List UInt8) × (List UInt8) × Bool)) × (List (List ((List UInt8) × ((List UInt8) × ByteArray × Bool))))))) => St.of [(2, .d (eSwainscotlaw12Op a2)), (8, .ptr 0 0), (9, .d (eint x28.1)), (10, .d (eSapiChange x31.1)), (11, .d (eint v220.1)), (50, .d (ebool z.1))] [(0, .own (oviewView z.2))]) (fun (z : (Bool × ((List ((List UInt8) × ByteArray)) × (List ((List UInt8) × ((List UInt8) × ByteArray × Bool))) × (List ((List UInt8) × (List UInt8) × Bool)) × (List (List ((List UInt8) × ((List UInt8) × ByteArray × Bool))))))) => o242 = z) ?_ ?_
          · intro v258 hv259; subst hv259
            rcases cond_some h244 with ⟨hc254, h255⟩ | ⟨hc254, h256⟩
            · refine cw_condT rfl hc254 ?_
              refine cw_seq (cw_region (
                .cons (o_as rfl rfl .no rfl) <|
                .nil rfl
              ) ?_)
              have he257 := ((hx223 _ (Option.some.inj h255).symm).symm).symm
              subst he257
              have heq := ((Option.some.inj h147).symm).symm
              subst heq
              exact cw_ret ⟨_, (show Leads _ _ (St.of [(6, .d (ebool false))] []) from .w (weak_of ⟨⟨_, rfl, .d rfl⟩, trivial⟩ trivial drop0)), .inr rfl, _, res1 rfl rfl, rfl, rfl⟩
            · refine cw_condF rfl hc254 ?_
              refine cw_skip ?_
              refine cw_region (
                .cons (o_mv rfl rfl .no rfl) <|
                .cons (o_bin rfl rfl .no rfl rfl (b_add _ _) rfl) <|
                .cons (o_as rfl rfl .no rfl) <|
                .nil rfl
              ) ?_
              exact ⟨((IntKind.wrap .i64 (v220.1 + 1)), o242.2), (Option.some.inj h256).symm, .w (weak_of ⟨⟨_, rfl, .d rfl⟩, ⟨_, rfl, .ptro rfl rfl⟩, ⟨_, rfl, .d rfl⟩, ⟨_, rfl, .d rfl⟩, ⟨_, rfl, .d rfl⟩, trivial⟩ ⟨.own rfl (.of_eq rfl (oviewView_dat _)), trivial⟩ drop0)⟩
          · skip
            rcases cond_some hj243 with ⟨hc245, h246⟩ | ⟨hc245, h247⟩
            · skip
              refine cw_region (
                .cons (o_mv rfl rfl .no rfl) <|
                .cons (o_bin rfl rfl .no rfl rfl (b_neq _ _) rfl) <|
                .cons (o_mv rfl rfl .no rfl) <|
                .cons (o_noT rfl rfl rfl rfl hc245) <|
                .cons (o_noT rfl rfl rfl rfl hc245) <|
                .cons (o_noT rfl rfl rfl rfl hc245) <|
                .cons (o_noT rfl rfl rfl rfl hc245) <|
                .cons (o_noT rfl rfl rfl rfl hc245) <|
                .cons (o_pickT rfl rfl .no rfl hc245 rfl) <|
                .nil rfl
              ) ?_
              exact ⟨(true, x230.2), (Option.some.inj h246).symm, .w (weak_of ⟨⟨_, rfl, .d rfl⟩, ⟨_, rfl, .ptro rfl rfl⟩, ⟨_, rfl, .d rfl⟩, ⟨_, rfl, .d rfl⟩, ⟨_, rfl, .d rfl⟩, ⟨_, rfl, .d rfl⟩, trivial⟩ ⟨.own rfl (.of_eq rfl (oviewView_dat _)), trivial⟩ drop0)⟩
            · skip
              obtain ⟨x248, hx249, h250⟩ := bind_some (x := view_View_Changes x230.2) h247
              obtain ⟨x251, hx252, h253⟩ := bind_some (x := ref09_SameChanges x248.1 x31.1) h250
              refine cw_region (
                .cons (o_mv rfl rfl .no rfl) <|
                .cons (o_bin rfl rfl .no rfl rfl (b_neq _ _) rfl) <|
                .cons (o_mv rfl rfl .no rfl) <|
                .cons (o_mv rfl rfl (.yes rfl rfl hc245) rfl) <|
                .cons (o_callX (fun _ => 0) rfl rfl (.yes rfl rfl hc245) Try.func19 rfl rfl (view_View_Changes_ok hx249) (.cons rfl (.p rfl) .nil) (callIn1 rfl ⟨(by simp [AV.live, lk, Nat.beq]), trivial⟩ rfl (OD.dat_live (oviewView_dat _)) (by simp)) (.inl rfl)) <|
                .cons (o_mv rfl rfl (.yes rfl rfl hc245) rfl) <|
                .cons (o_call rfl rfl (.yes rfl rfl hc245) Try.func24 rfl rfl (ref09_SameChanges_ok hx252) (.cons rfl .d (.cons rfl .d .nil)) ⟨trivial, trivial, trivial⟩ (.inl rfl)) <|
                .cons (o_not rfl rfl (.yes rfl rfl hc245) rfl) <|
                .cons (o_pickF rfl rfl .no rfl hc245 rfl) <|
                .nil rfl
              ) ?_
              exact ⟨((!x251), x248.2), (Option.some.inj h253).symm, .w (weak_of ⟨⟨_, rfl, .d rfl⟩, ⟨_, rfl, .ptro rfl rfl⟩, ⟨_, rfl, .d rfl⟩, ⟨_, rfl, .d rfl⟩, ⟨_, rfl, .d rfl⟩, ⟨_, rfl, .d rfl⟩, trivial⟩ ⟨.own rfl (.of_eq rfl (oviewView_dat _)), trivial⟩ drop0)⟩
        · refine cw_condF rfl hc224 ?_
          refine cw_exit ?_
          exact ⟨v220.2, (hx223 _ (Option.some.inj h226).symm).symm, .w (weak_of ⟨⟨_, rfl, .ptro rfl rfl⟩, ⟨_, rfl, .d rfl⟩, trivial⟩ ⟨.own rfl (.of_eq rfl (oviewView_dat _)), trivial⟩ drop0)⟩
  · skip
    rcases cond_some hj17 with ⟨hc19, h20⟩ | ⟨hc19, h21⟩
    · skip
      refine cw_region (
        .cons (o_mv rfl rfl .no rfl) <|
        .cons (o_not rfl rfl .no rfl) <|
        .cons (o_mv rfl rfl .no rfl) <|
        .cons (o_noT rfl rfl rfl rfl hc19) <|
        .cons (o_noT rfl rfl rfl rfl hc19) <|
        .cons (o_pickT rfl rfl .no rfl hc19 rfl) <|
        .nil rfl
      ) ?_
      exact ⟨true, (Option.some.inj h20).symm, .w (weak_of ⟨⟨_, rfl, .d rfl⟩, ⟨_, rfl, .d rfl⟩, ⟨_, rfl, .ptro rfl rfl⟩, ⟨_, rfl, .d rfl⟩, trivial⟩ ⟨.own rfl (.of_eq rfl (oviewView_dat _)), trivial⟩ drop0)⟩
    · skip
      refine cw_region (
        .cons (o_mv rfl rfl .no rfl) <|
        .cons (o_not rfl rfl .no rfl) <|
        .cons (o_mv rfl rfl .no rfl) <|
        .cons (o_mv rfl rfl (.yes rfl rfl hc19) rfl) <|
        .cons (o_pnilP rfl rfl (.yes rfl rfl hc19) rfl up28) <|
        .cons (o_pickF rfl rfl .no rfl hc19 rfl) <|
        .nil rfl
      ) ?_
      exact ⟨false, (Option.some.inj h21).symm, .w (weak_of ⟨⟨_, rfl, .d rfl⟩, ⟨_, rfl, .d rfl⟩, ⟨_, rfl, .ptro rfl rfl⟩, ⟨_, rfl, .d rfl⟩, trivial⟩ ⟨.own rfl (.of_eq rfl (oviewView_dat _)), trivial⟩ drop0)⟩

end
end Go.Val

