/- Walks of the program's functions, printed. -/
import Derived.Test.YtlcnkhphgekmeaaHc
set_option linter.unusedSectionVars false
set_option linter.unusedVariables false
set_option linter.unusedSimpArgs false
namespace Go.Val
open Go.RowKit Go.Proofs

section
variable [NoDrw]

noncomputable def ref03_Less (a0 : List UInt8) (a1 : List UInt8) : Option Bool :=
  some (Op.bytesLess (bytesS a0).data.toList (bytesS a1).data.toList)

noncomputable def ref09_find (a0 : List ((List UInt8) × ByteArray)) (a1 : List UInt8) : Option (Int × Bool) :=
  (((
    whileO (V := Int) (O := Int) (fun v72 =>
      cond (decide (v72 < (a0.length : Int))) (
        (gx a0 v72).bind fun x79 =>
        (ref03_Less x79.1 a1).bind fun x82 =>
        cond (!x82) (
          some (.inr v72)
        ) (
          some (.inl (IntKind.wrap .i64 (v72 + 1)))
        )
      ) (
        some (.inr v72)
      )
    ) 0
  ) : Option Int)).bind fun o43 =>
  (((
    cond (decide (o43 < (a0.length : Int))) (
      (gx a0 o43).bind fun x100 =>
      some (decide (x100.1 = a1))
    ) (
      some false
    )
  ) : Option Bool)).bind fun o94 =>
  some (o43, o94)

noncomputable def ref09_Get (a0 : List ((List UInt8) × ByteArray)) (a1 : List UInt8) : Option (ByteArray × Bool) :=
  (ref09_find a0 a1).bind fun x1 =>
  cond (!x1.2) (
    some ((ByteArray.mk #[]), false)
  ) (
    (gx a0 x1.1).bind fun x7 =>
    some (x7.2, true)
  )

noncomputable def ref09_Same (a0 : List ((List UInt8) × ByteArray)) (a1 : List ((List UInt8) × ByteArray)) : Option Bool :=
  cond (decide ((a0.length : Int) ≠ (a1.length : Int))) (
    some false
  ) (
    (((
      whileO (V := Int) (O := (Unit ⊕ Bool)) (fun v75 =>
        cond (decide (v75 < (a0.length : Int))) (
          (gx a0 v75).bind fun x82 =>
          (gx a1 v75).bind fun x85 =>
          cond (!((decide (x82.1 = x85.1)) && ((decide (x82.2 = x85.2)) && true))) (
            some (.inr (.inr false))
          ) (
            some (.inl (IntKind.wrap .i64 (v75 + 1)))
          )
        ) (
          some (.inr (.inl ()))
        )
      ) 0
    ) : Option (Unit ⊕ Bool))).bind fun o46 =>
    Sum.elim (fun (v92 : Unit) =>
      some true
    ) (fun w95 =>
      some w95
    ) o46
  )

noncomputable def ref09_SameKeys (a0 : List (List UInt8)) (a1 : List (List UInt8)) : Option Bool :=
  cond (decide ((a0.length : Int) ≠ (a1.length : Int))) (
    some false
  ) (
    (((
      whileO (V := Int) (O := (Unit ⊕ Bool)) (fun v75 =>
        cond (decide (v75 < (a0.length : Int))) (
          (gx a0 v75).bind fun x82 =>
          (gx a1 v75).bind fun x85 =>
          cond (!(decide (x82 = x85))) (
            some (.inr (.inr false))
          ) (
            some (.inl (IntKind.wrap .i64 (v75 + 1)))
          )
        ) (
          some (.inr (.inl ()))
        )
      ) 0
    ) : Option (Unit ⊕ Bool))).bind fun o46 =>
    Sum.elim (fun (v92 : Unit) =>
      some true
    ) (fun w95 =>
      some w95
    ) o46
  )

noncomputable def ref09_SameChanges (a0 : List ((List UInt8) × ByteArray × Bool)) (a1 : List ((List UInt8) × ByteArray × Bool)) : Option Bool :=
  cond (decide ((a0.length : Int) ≠ (a1.length : Int))) (
    some false
  ) (
    (((
      whileO (V := Int) (O := (Unit ⊕ Bool)) (fun v75 =>
        cond (decide (v75 < (a0.length : Int))) (
          (gx a0 v75).bind fun x82 =>
          (gx a1 v75).bind fun x85 =>
          cond (!((decide (x82.1 = x85.1)) && ((decide (x82.2.1 = x85.2.1)) && ((x82.2.2 == x85.2.2) && true)))) (
            some (.inr (.inr false))
          ) (
            some (.inl (IntKind.wrap .i64 (v75 + 1)))
          )
        ) (
          some (.inr (.inl ()))
        )
      ) 0
    ) : Option (Unit ⊕ Bool))).bind fun o46 =>
    Sum.elim (fun (v92 : Unit) =>
      some true
    ) (fun w95 =>
      some w95
    ) o46
  )

noncomputable def ref09_put (a0 : List ((List UInt8) × ByteArray)) (a1 : ((List UInt8) × ByteArray)) : Option (List ((List UInt8) × ByteArray)) :=
  (ref09_find a0 a1.1).bind fun x1 =>
  (cutB 0 x1.1 a0.length).bind fun _ =>
  (fits (([] : List ((List UInt8) × ByteArray)).length + (piece a0 0 x1.1).length) 40).bind fun _ =>
  (fits ((([] : List ((List UInt8) × ByteArray)) ++ (piece a0 0 x1.1)).length + ([a1]).length) 40).bind fun _ =>
  (((
    cond x1.2 (
      some (IntKind.wrap .i64 (x1.1 + 1))
    ) (
      some x1.1
    )
  ) : Option Int)).bind fun o16 =>
  (cutB o16 (a0.length : Int) a0.length).bind fun _ =>
  (fits (((([] : List ((List UInt8) × ByteArray)) ++ (piece a0 0 x1.1)) ++ [a1]).length + (piece a0 o16 (a0.length : Int)).length) 40).bind fun _ =>
  some (((([] : List ((List UInt8) × ByteArray)) ++ (piece a0 0 x1.1)) ++ [a1]) ++ (piece a0 o16 (a0.length : Int)))

noncomputable def ref09_Map (a0 : List ((List UInt8) × ByteArray)) : Option (List ((List UInt8) × ByteArray)) :=
  (((
    whileO (V := ((List ((List UInt8) × ByteArray)) × Int)) (O := (List ((List UInt8) × ByteArray))) (fun v57 =>
      cond (decide (v57.2 < (a0.length : Int))) (
        (gx a0 v57.2).bind fun x64 =>
        (ref09_put v57.1 x64).bind fun x67 =>
        some (.inl (x67, (IntKind.wrap .i64 (v57.2 + 1))))
      ) (
        some (.inr v57.1)
      )
    ) ([], 0)
  ) : Option (List ((List UInt8) × ByteArray)))).bind fun o34 =>
  some o34

noncomputable def ref09_with (a0 : List ((List UInt8) × ByteArray × Bool)) (a1 : ((List UInt8) × ByteArray × Bool)) : Option (List ((List UInt8) × ByteArray × Bool)) :=
  (((
    cond a1.2.2 (
      some (a1.1, (ByteArray.mk #[]), a1.2.2)
    ) (
      some a1
    )
  ) : Option ((List UInt8) × ByteArray × Bool))).bind fun o4 =>
  (((
    whileO (V := Int) (O := Int) (fun v81 =>
      cond (decide (v81 < (a0.length : Int))) (
        (gx a0 v81).bind fun x88 =>
        (ref03_Less x88.1 o4.1).bind fun x91 =>
        cond (!x91) (
          some (.inr v81)
        ) (
          some (.inl (IntKind.wrap .i64 (v81 + 1)))
        )
      ) (
        some (.inr v81)
      )
    ) 0
  ) : Option Int)).bind fun o52 =>
  (cutB 0 o52 a0.length).bind fun _ =>
  (fits (([] : List ((List UInt8) × ByteArray × Bool)).length + (piece a0 0 o52).length) 48).bind fun _ =>
  (fits ((([] : List ((List UInt8) × ByteArray × Bool)) ++ (piece a0 0 o52)).length + ([o4]).length) 48).bind fun _ =>
  (((
    (((
      cond (decide (o52 < (a0.length : Int))) (
        (gx a0 o52).bind fun x141 =>
        some (decide (x141.1 = o4.1))
      ) (
        some false
      )
    ) : Option Bool)).bind fun o135 =>
    cond o135 (
      some (IntKind.wrap .i64 (o52 + 1))
    ) (
      some o52
    )
  ) : Option Int)).bind fun o126 =>
  (cutB o126 (a0.length : Int) a0.length).bind fun _ =>
  (fits (((([] : List ((List UInt8) × ByteArray × Bool)) ++ (piece a0 0 o52)) ++ [o4]).length + (piece a0 o126 (a0.length : Int)).length) 48).bind fun _ =>
  some (((([] : List ((List UInt8) × ByteArray × Bool)) ++ (piece a0 0 o52)) ++ [o4]) ++ (piece a0 o126 (a0.length : Int)))

noncomputable def law09_changes (a0 : List ((List UInt8) × ByteArray × Bool)) : Option (List ((List UInt8) × ByteArray × Bool)) :=
  (((
    whileO (V := (Int × (List ((List UInt8) × ByteArray × Bool)))) (O := (List ((List UInt8) × ByteArray × Bool))) (fun v127 =>
      (((
        cond (decide (v127.1 < (a0.length : Int))) (
          some (decide (v127.1 < 40))
        ) (
          some false
        )
      ) : Option Bool)).bind fun o134 =>
      cond o134 (
        (gx a0 v127.1).bind fun x143 =>
        (cutB 0 (min (x143.2.1.size : Int) 40) x143.2.1.size).bind fun _ =>
        (fits (v127.2.length + ([(x143.1, (x143.2.1.extract 0 (min (x143.2.1.size : Int) 40).toNat), x143.2.2)]).length) 48).bind fun _ =>
        some (.inl ((IntKind.wrap .i64 (v127.1 + 1)), (v127.2 ++ [(x143.1, (x143.2.1.extract 0 (min (x143.2.1.size : Int) 40).toNat), x143.2.2)])))
      ) (
        some (.inr v127.2)
      )
    ) (0, [])
  ) : Option (List ((List UInt8) × ByteArray × Bool)))).bind fun o76 =>
  some o76

noncomputable def ref09_Apply (a0 : List ((List UInt8) × ByteArray)) (a1 : List ((List UInt8) × ByteArray × Bool)) : Option (List ((List UInt8) × ByteArray)) :=
  (ref09_Map a0).bind fun x1 =>
  (((
    whileO (V := ((List ((List UInt8) × ByteArray)) × Int)) (O := (List ((List UInt8) × ByteArray))) (fun v325 =>
      cond (decide (v325.2 < (a1.length : Int))) (
        (((
          (gx a1 v325.2).bind fun x362 =>
          (ref09_find v325.1 x362.1).bind fun x365 =>
          cond (!x362.2.2) (
            (ref09_put v325.1 (x362.1, x362.2.1)).bind fun x371 =>
            some x371
          ) (
            cond x365.2 (
              (cutB 0 x365.1 v325.1.length).bind fun _ =>
              (fits (([] : List ((List UInt8) × ByteArray)).length + (piece v325.1 0 x365.1).length) 40).bind fun _ =>
              (cutB (IntKind.wrap .i64 (x365.1 + 1)) (v325.1.length : Int) v325.1.length).bind fun _ =>
              (fits ((([] : List ((List UInt8) × ByteArray)) ++ (piece v325.1 0 x365.1)).length + (piece v325.1 (IntKind.wrap .i64 (x365.1 + 1)) (v325.1.length : Int)).length) 40).bind fun _ =>
              some ((([] : List ((List UInt8) × ByteArray)) ++ (piece v325.1 0 x365.1)) ++ (piece v325.1 (IntKind.wrap .i64 (x365.1 + 1)) (v325.1.length : Int)))
            ) (
              some v325.1
            )
          )
        ) : Option (List ((List UInt8) × ByteArray)))).bind fun o359 =>
        some (.inl (o359, (IntKind.wrap .i64 (v325.2 + 1))))
      ) (
        some (.inr v325.1)
      )
    ) (x1, 0)
  ) : Option (List ((List UInt8) × ByteArray)))).bind fun o196 =>
  some o196

noncomputable def ref09_Diff (a0 : List ((List UInt8) × ByteArray)) (a1 : List ((List UInt8) × ByteArray)) : Option (List ((List UInt8) × ByteArray × Bool)) :=
  (ref09_Map a0).bind fun x1 =>
  (ref09_Map a1).bind fun x4 =>
  (((
    whileO (V := ((List ((List UInt8) × ByteArray × Bool)) × Int)) (O := (List ((List UInt8) × ByteArray × Bool))) (fun v238 =>
      cond (decide (v238.2 < (x1.length : Int))) (
        (((
          (gx x1 v238.2).bind fun x266 =>
          (ref09_Get x4 x266.1).bind fun x269 =>
          cond (!x269.2) (
            (ref09_with v238.1 (x266.1, (ByteArray.mk #[]), true)).bind fun x275 =>
            some x275
          ) (
            cond (decide (x269.1 ≠ x266.2)) (
              (ref09_with v238.1 (x266.1, x269.1, false)).bind fun x281 =>
              some x281
            ) (
              some v238.1
            )
          )
        ) : Option (List ((List UInt8) × ByteArray × Bool)))).bind fun o263 =>
        some (.inl (o263, (IntKind.wrap .i64 (v238.2 + 1))))
      ) (
        some (.inr v238.1)
      )
    ) ([], 0)
  ) : Option (List ((List UInt8) × ByteArray × Bool)))).bind fun o145 =>
  (((
    whileO (V := ((List ((List UInt8) × ByteArray × Bool)) × Int)) (O := (List ((List UInt8) × ByteArray × Bool))) (fun v457 =>
      cond (decide (v457.2 < (x4.length : Int))) (
        (((
          (gx x4 v457.2).bind fun x479 =>
          (ref09_Get x1 x479.1).bind fun x482 =>
          cond (!x482.2) (
            (ref09_with v457.1 (x479.1, x479.2, false)).bind fun x488 =>
            some x488
          ) (
            some v457.1
          )
        ) : Option (List ((List UInt8) × ByteArray × Bool)))).bind fun o476 =>
        some (.inl (o476, (IntKind.wrap .i64 (v457.2 + 1))))
      ) (
        some (.inr v457.1)
      )
    ) (o145, 0)
  ) : Option (List ((List UInt8) × ByteArray × Bool)))).bind fun o388 =>
  some o388

noncomputable def ref09_alike (a0 : List ((List UInt8) × ByteArray)) (a1 : List ((List UInt8) × ByteArray)) (a2 : List UInt8) : Option Bool :=
  (ref09_Get a0 a2).bind fun x1 =>
  (ref09_Get a1 a2).bind fun x4 =>
  (((
    cond (x1.2 == x4.2) (
      some (decide (x1.1 = x4.1))
    ) (
      some false
    )
  ) : Option Bool)).bind fun o10 =>
  some o10

noncomputable def ref09_Join (a0 : List (List ((List UInt8) × ByteArray × Bool))) : Option (List ((List UInt8) × ByteArray × Bool)) :=
  (((
    whileO (V := ((List ((List UInt8) × ByteArray × Bool)) × Int)) (O := (List ((List UInt8) × ByteArray × Bool))) (fun v472 =>
      cond (decide (v472.2 < (a0.length : Int))) (
        (((
          whileO (V := ((List ((List UInt8) × ByteArray × Bool)) × Int)) (O := (List ((List UInt8) × ByteArray × Bool))) (fun v550 =>
            (gx a0 v472.2).bind fun x554 =>
            cond (decide (v550.2 < (x554.length : Int))) (
              (gx x554 v550.2).bind fun x560 =>
              (ref09_with v550.1 x560).bind fun x563 =>
              some (.inl (x563, (IntKind.wrap .i64 (v550.2 + 1))))
            ) (
              some (.inr v550.1)
            )
          ) (v472.1, 0)
        ) : Option (List ((List UInt8) × ByteArray × Bool)))).bind fun o521 =>
        some (.inl (o521, (IntKind.wrap .i64 (v472.2 + 1))))
      ) (
        some (.inr v472.1)
      )
    ) ([], 0)
  ) : Option (List ((List UInt8) × ByteArray × Bool)))).bind fun o283 =>
  some o283

noncomputable def ref09_Merge (a0 : List ((List UInt8) × ByteArray)) (a1 : List ((List UInt8) × ByteArray)) (a2 : List ((List UInt8) × ByteArray)) : Option ((List ((List UInt8) × ByteArray)) × (List (List UInt8))) :=
  (ref09_Map a0).bind fun x1 =>
  (ref09_Map a1).bind fun x4 =>
  (ref09_Map a2).bind fun x7 =>
  (ref09_Diff x1 x7).bind fun x10 =>
  (((
    whileO (V := ((List ((List UInt8) × ByteArray)) × Int × (List (List UInt8)))) (O := ((List ((List UInt8) × ByteArray)) × (List (List UInt8)))) (fun v384 =>
      cond (decide (v384.2.1 < (x10.length : Int))) (
        (((
          (gx x10 v384.2.1).bind fun x426 =>
          (cutB v384.2.1 (IntKind.wrap .i64 (v384.2.1 + 1)) x10.length).bind fun _ =>
          (ref09_Apply v384.1 (piece x10 v384.2.1 (IntKind.wrap .i64 (v384.2.1 + 1)))).bind fun x432 =>
          (ref09_alike x1 x4 x426.1).bind fun x435 =>
          (ref09_alike x4 x7 x426.1).bind fun x438 =>
          (((
            cond (!x435) (
              some (!x438)
            ) (
              some false
            )
          ) : Option Bool)).bind fun o444 =>
          cond o444 (
            (fits (v384.2.2.length + ([x426.1]).length) 24).bind fun _ =>
            some (x432, (v384.2.2 ++ [x426.1]))
          ) (
            some (x432, v384.2.2)
          )
        ) : Option ((List ((List UInt8) × ByteArray)) × (List (List UInt8))))).bind fun o423 =>
        some (.inl (o423.1, (IntKind.wrap .i64 (v384.2.1 + 1)), o423.2))
      ) (
        some (.inr (v384.1, v384.2.2))
      )
    ) (x4, 0, [])
  ) : Option ((List ((List UInt8) × ByteArray)) × (List (List UInt8))))).bind fun o235 =>
  some (o235.1, o235.2)

noncomputable def delta_values (a0 : List ((List UInt8) × ByteArray)) : Option (List (List UInt8 × ByteArray)) :=
  (((
    whileO (V := (Int × (List (List UInt8 × ByteArray)))) (O := (List (List UInt8 × ByteArray))) (fun v42 =>
      cond (decide (v42.1 < (a0.length : Int))) (
        (gx a0 v42.1).bind fun x49 =>
        some (.inl ((IntKind.wrap .i64 (v42.1 + 1)), (mset v42.2 x49.1 x49.2)))
      ) (
        some (.inr v42.2)
      )
    ) (0, [])
  ) : Option (List (List UInt8 × ByteArray)))).bind fun o25 =>
  some o25

noncomputable def delta_does (a0 : List (List UInt8 × ByteArray)) (a1 : ((List UInt8) × ByteArray × Bool)) : Option (List (List UInt8 × ByteArray)) :=
  (((
    cond a1.2.2 (
      some (mdel a0 a1.1)
    ) (
      some (mset a0 a1.1 a1.2.1)
    )
  ) : Option (List (List UInt8 × ByteArray)))).bind fun o4 =>
  some o4

noncomputable def delta_alike (a0 : List (List UInt8 × ByteArray)) (a1 : List (List UInt8 × ByteArray)) (a2 : List UInt8) : Option (Bool × (List (List UInt8 × ByteArray)) × (List (List UInt8 × ByteArray))) :=
  (((
    cond ((mget a0 a2).isSome == (mget a1 a2).isSome) (
      some (decide (((mget a0 a2).getD (ByteArray.mk #[])) = ((mget a1 a2).getD (ByteArray.mk #[]))))
    ) (
      some false
    )
  ) : Option Bool)).bind fun o4 =>
  some (o4, a0, a1)

noncomputable def law09_cut (a0 : List ((List UInt8) × ByteArray)) : Option (List ((List UInt8) × ByteArray)) :=
  (((
    whileO (V := (Int × (List ((List UInt8) × ByteArray)))) (O := (List ((List UInt8) × ByteArray))) (fun v127 =>
      (((
        cond (decide (v127.1 < (a0.length : Int))) (
          some (decide (v127.1 < 40))
        ) (
          some false
        )
      ) : Option Bool)).bind fun o134 =>
      cond o134 (
        (gx a0 v127.1).bind fun x143 =>
        (cutB 0 (min (x143.2.size : Int) 40) x143.2.size).bind fun _ =>
        (fits (v127.2.length + ([(x143.1, (x143.2.extract 0 (min (x143.2.size : Int) 40).toNat))]).length) 40).bind fun _ =>
        some (.inl ((IntKind.wrap .i64 (v127.1 + 1)), (v127.2 ++ [(x143.1, (x143.2.extract 0 (min (x143.2.size : Int) 40).toNat))])))
      ) (
        some (.inr v127.2)
      )
    ) (0, [])
  ) : Option (List ((List UInt8) × ByteArray)))).bind fun o76 =>
  some o76

noncomputable def law09_k (a0 : Int) : Option (List UInt8) :=
  (ck (decide (0 ≤ a0 ∧ a0 < 256))).bind fun _ =>
  some (List.set (List.replicate 24 0) 0 (UInt8.ofNat a0.toNat))

set_option maxRecDepth 100000 in
theorem ref03_Less_ok {a0 : List UInt8} {a1 : List UInt8} {r : Bool} (h : ref03_Less a0 a1 = some r) : FnOk Try.prog 13 [.d (eapiKey a0), .d (eapiKey a1)] 0 (lk []) (fun rr oo => rr = .d (ebool r) ∧ oo = lk []) := by
  refine fnOk_of Try.func13 rfl rfl ?_
  unfold ref03_Less at h
  refine cw_seq (cw_region (
    .cons (o_box 0 rfl rfl .no rfl rfl rfl) <|
    .cons (o_box 1 rfl rfl .no rfl rfl rfl) <|
    .cons (o_as rfl rfl .no rfl) <|
    .nil rfl
  ) ?_)
  refine cw_seq (cw_region_any mixed (by kernel_rfl) (
    .cons (o_slP rfl rfl .no rfl ar27 sz5 .no .no (by decide) (by decide) (by decide)) <|
    .cons (o_cvB [] rfl rfl .no rfl rfl rfl sl56 un5 un9) <|
    .cons (o_slP rfl rfl .no rfl ar27 sz5 .no .no (by decide) (by decide) (by decide)) <|
    .cons (o_cvB [] rfl rfl .no rfl rfl rfl sl56 un5 un9) <|
    .cons (o_bin rfl rfl .no rfl rfl (s_lss _ _) rfl) <|
    .cons (o_as rfl rfl .no rfl) <|
    .nil rfl
  ) (by kernel_rfl) ?_)
  have heq := ((Option.some.inj h).symm).symm
  subst heq
  exact cw_weak (weak_of (l := [(4, .d (ebool (Op.bytesLess (bytesS a0).data.toList (bytesS a1).data.toList)))]) (m := []) ⟨⟨_, rfl, .d rfl⟩, trivial⟩ trivial drop0) (cw_ret ⟨.inr rfl, _, res1 rfl rfl, rfl, rfl⟩)

set_option maxRecDepth 100000 in
theorem ref09_find_ok {a0 : List ((List UInt8) × ByteArray)} {a1 : List UInt8} {r : (Int × Bool)} (h : ref09_find a0 a1 = some r) : FnOk Try.prog 31 [.d (eSapiPair a0), .d (eapiKey a1)] 0 (lk []) (fun rr oo => rr = .tup [.d (eint r.1), .d (ebool r.2)] ∧ oo = lk []) := by
  refine fnOk_of Try.func31 rfl rfl ?_
  unfold ref09_find at h
  refine cw_seq (cw_region (
    .cons (o_box 0 rfl rfl .no rfl rfl rfl) <|
    .cons (o_as rfl rfl .no rfl) <|
    .cons (o_as rfl rfl .no rfl) <|
    .nil rfl
  ) ?_)
  refine cw_seq (cw_region (
    .cons (o_as rfl rfl .no rfl) <|
    .nil rfl
  ) ?_)
  obtain ⟨o43, hj44, h45⟩ := bind_some h
  refine cw_join (fun (z : Int) => St.of [(0, .d (eSapiPair a0)), (3, .ptr 0 0), (6, .d (eint z))] [(0, .box (.d (eapiKey a1)))]) (fun (z : Int) => o43 = z) ?_ ?_
  · intro v105 hv106; subst hv106
    obtain ⟨o94, hj95, h96⟩ := bind_some h45
    refine cw_join (fun (z : Bool) => St.of [(4, .d (eint o43)), (5, .d (ebool z))] []) (fun (z : Bool) => o94 = z) ?_ ?_
    · intro v103 hv104; subst hv104
      have heq := ((Option.some.inj h96).symm).symm
      subst heq
      exact cw_weak (weak_of (l := [(4, .d (eint o43)), (5, .d (ebool o94))]) (m := []) ⟨⟨_, rfl, .d rfl⟩, ⟨_, rfl, .d rfl⟩, trivial⟩ trivial drop0) (cw_ret ⟨.inr rfl, _, res2 rfl rfl rfl, rfl, rfl⟩)
    · skip
      rcases cond_some hj95 with ⟨hc97, h98⟩ | ⟨hc97, h99⟩
      · skip
        obtain ⟨x100, hx101, h102⟩ := bind_some h98
        have hx101g := gx_some hx101
        refine cw_region_any mixed (by kernel_rfl) (
          .cons (o_mv rfl rfl .no rfl) <|
          .cons (o_mv rfl rfl .no rfl) <|
          .cons (o_mv rfl rfl .no rfl) <|
          .cons (o_lenM (enc := eapiPair) (xs := a0) rfl rfl .no rfl sl22) <|
          .cons (o_bin rfl rfl .no rfl rfl (b_lss _ _) rfl) <|
          .cons (o_mv rfl rfl .no rfl) <|
          .cons (o_mv rfl rfl (.yes rfl rfl hc97) rfl) <|
          .cons (o_mv rfl rfl (.yes rfl rfl hc97) rfl) <|
          .cons (o_ixM (enc := eapiPair) (xs := a0) rfl rfl (.yes rfl rfl hc97) rfl rfl sl22 sz29 hx101g.1 hx101g.2) <|
          .cons (o_fld rfl rfl (.yes rfl rfl hc97) rfl fld29_0 (by decide) rfl rfl) <|
          .cons (o_ld rfl rfl (.yes rfl rfl hc97) rfl ta27 rfl rfl) <|
          .cons (o_ldP [] rfl rfl (.yes rfl rfl hc97) rfl rfl rfl ta27 rfl rfl) <|
          .cons (o_eq rfl rfl (.yes rfl rfl hc97) rfl rfl rfl rfl eg27 (.bs ar27 un5 sz5)) <|
          .cons (o_pickT rfl rfl .no rfl hc97 rfl) <|
          .cons (o_as rfl rfl .no rfl) <|
          .cons (o_as rfl rfl .no rfl) <|
          .nil rfl
        ) (by kernel_rfl) ?_
        exact ⟨(decide (x100.1 = a1)), (Option.some.inj h102).symm, weak_of ⟨⟨_, rfl, .d rfl⟩, ⟨_, rfl, .d rfl⟩, trivial⟩ trivial drop0⟩
      · skip
        refine cw_region_any mixed (by kernel_rfl) (
          .cons (o_mv rfl rfl .no rfl) <|
          .cons (o_mv rfl rfl .no rfl) <|
          .cons (o_mv rfl rfl .no rfl) <|
          .cons (o_lenM (enc := eapiPair) (xs := a0) rfl rfl .no rfl sl22) <|
          .cons (o_bin rfl rfl .no rfl rfl (b_lss _ _) rfl) <|
          .cons (o_mv rfl rfl .no rfl) <|
          .cons (o_noT rfl rfl rfl rfl hc97) <|
          .cons (o_noT rfl rfl rfl rfl hc97) <|
          .cons (o_noT rfl rfl rfl rfl hc97) <|
          .cons (o_noT rfl rfl rfl rfl hc97) <|
          .cons (o_noT rfl rfl rfl rfl hc97) <|
          .cons (o_noT rfl rfl rfl rfl hc97) <|
          .cons (o_noT rfl rfl rfl rfl hc97) <|
          .cons (o_pickF rfl rfl .no rfl hc97 rfl) <|
          .cons (o_as rfl rfl .no rfl) <|
          .cons (o_as rfl rfl .no rfl) <|
          .nil rfl
        ) (by kernel_rfl) ?_
        exact ⟨false, (Option.some.inj h99).symm, weak_of ⟨⟨_, rfl, .d rfl⟩, ⟨_, rfl, .d rfl⟩, trivial⟩ trivial drop0⟩
  · skip
    refine cw_block ?_
    refine cw_while (V := Int) (O := Int) (fun (z : Int) => St.of [(0, .d (eSapiPair a0)), (3, .ptr 0 0), (6, .d (eint z))] [(0, .box (.d (eapiKey a1)))]) hj44 (weak_of ⟨⟨_, rfl, .d rfl⟩, ⟨_, rfl, .ptr rfl rfl⟩, ⟨_, rfl, .d rfl⟩, trivial⟩ ⟨.box rfl (.d rfl), trivial⟩ drop0) ?_
    intro v72 x73 hb74 hx75
    refine cw_seq ?_
    refine cw_seq (cw_region (
      .cons (o_mv rfl rfl .no rfl) <|
      .cons (o_mv rfl rfl .no rfl) <|
      .cons (o_lenM (enc := eapiPair) (xs := a0) rfl rfl .no rfl sl22) <|
      .cons (o_bin rfl rfl .no rfl rfl (b_lss _ _) rfl) <|
      .nil rfl
    ) ?_)
    rcases cond_some hb74 with ⟨hc76, h77⟩ | ⟨hc76, h78⟩
    · refine cw_condT rfl hc76 ?_
      refine cw_skip ?_
      refine cw_block ?_
      obtain ⟨x79, hx80, h81⟩ := bind_some h77
      have hx80g := gx_some hx80
      obtain ⟨x82, hx83, h84⟩ := bind_some h81
      refine cw_seq (cw_region_any mixed (by kernel_rfl) (
        .cons (o_mv rfl rfl .no rfl) <|
        .cons (o_mv rfl rfl .no rfl) <|
        .cons (o_ixM (enc := eapiPair) (xs := a0) rfl rfl .no rfl rfl sl22 sz29 hx80g.1 hx80g.2) <|
        .cons (o_fld rfl rfl .no rfl fld29_0 (by decide) rfl rfl) <|
        .cons (o_ld rfl rfl .no rfl ta27 rfl rfl) <|
        .cons (o_ldP [] rfl rfl .no rfl rfl rfl ta27 rfl rfl) <|
        .cons (o_call rfl rfl .no Try.func13 rfl rfl (ref03_Less_ok hx83) (.cons rfl .d (.cons rfl .d .nil)) ⟨trivial, trivial, trivial⟩ (.inl rfl)) <|
        .cons (o_as rfl rfl .no rfl) <|
        .nil rfl
      ) (by kernel_rfl) ?_)
      refine cw_seq ?_
      refine cw_seq (cw_region (
        .cons (o_mv rfl rfl .no rfl) <|
        .cons (o_not rfl rfl .no rfl) <|
        .nil rfl
      ) ?_)
      rcases cond_some h84 with ⟨hc85, h86⟩ | ⟨hc85, h87⟩
      · refine cw_condT rfl hc85 ?_
        refine cw_exit ?_
        exact ⟨v72, (hx75 _ (Option.some.inj h86).symm).symm, weak_of ⟨⟨_, rfl, .d rfl⟩, ⟨_, rfl, .ptr rfl rfl⟩, ⟨_, rfl, .d rfl⟩, trivial⟩ ⟨.box rfl (.d rfl), trivial⟩ drop0⟩
      · refine cw_condF rfl hc85 ?_
        refine cw_skip ?_
        refine cw_region (
          .cons (o_mv rfl rfl .no rfl) <|
          .cons (o_bin rfl rfl .no rfl rfl (b_add _ _) rfl) <|
          .cons (o_as rfl rfl .no rfl) <|
          .nil rfl
        ) ?_
        exact ⟨(IntKind.wrap .i64 (v72 + 1)), (Option.some.inj h87).symm, weak_of ⟨⟨_, rfl, .d rfl⟩, ⟨_, rfl, .ptr rfl rfl⟩, ⟨_, rfl, .d rfl⟩, trivial⟩ ⟨.box rfl (.d rfl), trivial⟩ drop0⟩
    · refine cw_condF rfl hc76 ?_
      refine cw_exit ?_
      exact ⟨v72, (hx75 _ (Option.some.inj h78).symm).symm, weak_of ⟨⟨_, rfl, .d rfl⟩, ⟨_, rfl, .ptr rfl rfl⟩, ⟨_, rfl, .d rfl⟩, trivial⟩ ⟨.box rfl (.d rfl), trivial⟩ drop0⟩

set_option maxRecDepth 100000 in
theorem ref09_Get_ok {a0 : List ((List UInt8) × ByteArray)} {a1 : List UInt8} {r : (ByteArray × Bool)} (h : ref09_Get a0 a1 = some r) : FnOk Try.prog 14 [.d (eSapiPair a0), .d (eapiKey a1)] 0 (lk []) (fun rr oo => rr = .tup [.d (estring r.1), .d (ebool r.2)] ∧ oo = lk []) := by
  refine fnOk_of Try.func14 rfl rfl ?_
  unfold ref09_Get at h
  refine cw_seq (cw_region (
    .cons (o_box 0 rfl rfl .no rfl rfl rfl) <|
    .cons (o_as rfl rfl .no rfl) <|
    .cons (o_as rfl rfl .no rfl) <|
    .nil rfl
  ) ?_)
  obtain ⟨x1, hx2, h3⟩ := bind_some h
  refine cw_seq (cw_region (
    .cons (o_mv rfl rfl .no rfl) <|
    .cons (o_ldP [] rfl rfl .no rfl rfl rfl ta27 rfl rfl) <|
    .cons (o_call rfl rfl .no Try.func31 rfl rfl (ref09_find_ok hx2) (.cons rfl .d (.cons rfl .d .nil)) ⟨trivial, trivial, trivial⟩ (.inl rfl)) <|
    .cons (o_mv rfl rfl .no rfl) <|
    .cons (o_ext rfl rfl .no rfl rfl) <|
    .cons (o_ext rfl rfl .no rfl rfl) <|
    .cons (o_as rfl rfl .no rfl) <|
    .cons (o_as rfl rfl .no rfl) <|
    .nil rfl
  ) ?_)
  refine cw_seq ?_
  refine cw_seq (cw_region (
    .cons (o_mv rfl rfl .no rfl) <|
    .cons (o_not rfl rfl .no rfl) <|
    .nil rfl
  ) ?_)
  rcases cond_some h3 with ⟨hc4, h5⟩ | ⟨hc4, h6⟩
  · refine cw_condT rfl hc4 ?_
    refine cw_seq (cw_region (
      .cons (o_as rfl rfl .no rfl) <|
      .cons (o_as rfl rfl .no rfl) <|
      .nil rfl
    ) ?_)
    have heq := ((Option.some.inj h5).symm).symm
    subst heq
    exact cw_weak (weak_of (l := [(4, .d (estring (ByteArray.mk #[]))), (5, .d (ebool false))]) (m := []) ⟨⟨_, rfl, .d rfl⟩, ⟨_, rfl, .d rfl⟩, trivial⟩ trivial drop0) (cw_ret ⟨.inr rfl, _, res2 rfl rfl rfl, rfl, rfl⟩)
  · refine cw_condF rfl hc4 ?_
    refine cw_skip ?_
    obtain ⟨x7, hx8, h9⟩ := bind_some h6
    have hx8g := gx_some hx8
    refine cw_seq (cw_region (
      .cons (o_mv rfl rfl .no rfl) <|
      .cons (o_mv rfl rfl .no rfl) <|
      .cons (o_ixM (enc := eapiPair) (xs := a0) rfl rfl .no rfl rfl sl22 sz29 hx8g.1 hx8g.2) <|
      .cons (o_fld rfl rfl .no rfl fld29_1 (by decide) rfl rfl) <|
      .cons (o_ld rfl rfl .no rfl ta9 rfl rfl) <|
      .cons (o_as rfl rfl .no rfl) <|
      .cons (o_as rfl rfl .no rfl) <|
      .nil rfl
    ) ?_)
    have heq := ((Option.some.inj h9).symm).symm
    subst heq
    exact cw_weak (weak_of (l := [(4, .d (estring x7.2)), (5, .d (ebool true))]) (m := []) ⟨⟨_, rfl, .d rfl⟩, ⟨_, rfl, .d rfl⟩, trivial⟩ trivial drop0) (cw_ret ⟨.inr rfl, _, res2 rfl rfl rfl, rfl, rfl⟩)

set_option maxRecDepth 100000 in
theorem ref09_Same_ok {a0 : List ((List UInt8) × ByteArray)} {a1 : List ((List UInt8) × ByteArray)} {r : Bool} (h : ref09_Same a0 a1 = some r) : FnOk Try.prog 15 [.d (eSapiPair a0), .d (eSapiPair a1)] 0 (lk []) (fun rr oo => rr = .d (ebool r) ∧ oo = lk []) := by
  refine fnOk_of Try.func15 rfl rfl ?_
  unfold ref09_Same at h
  refine cw_seq (cw_region (
    .cons (o_as rfl rfl .no rfl) <|
    .nil rfl
  ) ?_)
  refine cw_seq ?_
  refine cw_seq (cw_region (
    .cons (o_mv rfl rfl .no rfl) <|
    .cons (o_lenM (enc := eapiPair) (xs := a0) rfl rfl .no rfl sl22) <|
    .cons (o_mv rfl rfl .no rfl) <|
    .cons (o_lenM (enc := eapiPair) (xs := a1) rfl rfl .no rfl sl22) <|
    .cons (o_bin rfl rfl .no rfl rfl (b_neq _ _) rfl) <|
    .nil rfl
  ) ?_)
  rcases cond_some h with ⟨hc1, h2⟩ | ⟨hc1, h3⟩
  · refine cw_condT rfl hc1 ?_
    refine cw_seq (cw_region (
      .cons (o_as rfl rfl .no rfl) <|
      .nil rfl
    ) ?_)
    have heq := ((Option.some.inj h2).symm).symm
    subst heq
    exact cw_weak (weak_of (l := [(4, .d (ebool false))]) (m := []) ⟨⟨_, rfl, .d rfl⟩, trivial⟩ trivial drop0) (cw_ret ⟨.inr rfl, _, res1 rfl rfl, rfl, rfl⟩)
  · refine cw_condF rfl hc1 ?_
    refine cw_skip ?_
    obtain ⟨o46, hj47, h48⟩ := bind_some h3
    refine cw_join (fun (z : Unit) => St.of [] []) (fun (z : Unit) => o46 = (.inl z)) ?_ ?_
    · intro v92 hv94; subst hv94
      refine cw_seq (cw_region (
        .cons (o_as rfl rfl .no rfl) <|
        .nil rfl
      ) ?_)
      have heq := ((Option.some.inj h48).symm).symm
      subst heq
      exact cw_weak (weak_of (l := [(4, .d (ebool true))]) (m := []) ⟨⟨_, rfl, .d rfl⟩, trivial⟩ trivial drop0) (cw_ret ⟨.inr rfl, _, res1 rfl rfl, rfl, rfl⟩)
    · skip
      refine cw_seq (cw_region (
        .cons (o_as rfl rfl .no rfl) <|
        .nil rfl
      ) ?_)
      refine cw_block ?_
      refine cw_while (V := Int) (O := (Unit ⊕ Bool)) (fun (z : Int) => St.of [(0, .d (eSapiPair a0)), (1, .d (eSapiPair a1)), (5, .d (eint z))] []) hj47 (weak_of ⟨⟨_, rfl, .d rfl⟩, ⟨_, rfl, .d rfl⟩, ⟨_, rfl, .d rfl⟩, trivial⟩ trivial drop0) ?_
      intro v75 x76 hb77 hx78
      refine cw_seq ?_
      refine cw_seq (cw_region (
        .cons (o_mv rfl rfl .no rfl) <|
        .cons (o_mv rfl rfl .no rfl) <|
        .cons (o_lenM (enc := eapiPair) (xs := a0) rfl rfl .no rfl sl22) <|
        .cons (o_bin rfl rfl .no rfl rfl (b_lss _ _) rfl) <|
        .nil rfl
      ) ?_)
      rcases cond_some hb77 with ⟨hc79, h80⟩ | ⟨hc79, h81⟩
      · refine cw_condT rfl hc79 ?_
        refine cw_skip ?_
        refine cw_seq ?_
        refine cw_block ?_
        obtain ⟨x82, hx83, h84⟩ := bind_some h80
        have hx83g := gx_some hx83
        obtain ⟨x85, hx86, h87⟩ := bind_some h84
        have hx86g := gx_some hx86
        refine cw_seq (cw_region_any mixed (by kernel_rfl) (
          .cons (o_mv rfl rfl .no rfl) <|
          .cons (o_mv rfl rfl .no rfl) <|
          .cons (o_ixM (enc := eapiPair) (xs := a0) rfl rfl .no rfl rfl sl22 sz29 hx83g.1 hx83g.2) <|
          .cons (o_ld rfl rfl .no rfl ta29 rfl rfl) <|
          .cons (o_mv rfl rfl .no rfl) <|
          .cons (o_mv rfl rfl .no rfl) <|
          .cons (o_ixM (enc := eapiPair) (xs := a1) rfl rfl .no rfl rfl sl22 sz29 hx86g.1 hx86g.2) <|
          .cons (o_ld rfl rfl .no rfl ta29 rfl rfl) <|
          .cons (o_ne rfl rfl .no rfl rfl rfl rfl eg29 (.st flds29 (.cons ta27 rfl rfl rfl rfl (.bs ar27 un5 sz5) (.cons ta9 rfl rfl rfl rfl (.str un9) .nil)))) <|
          .nil rfl
        ) (by kernel_rfl) ?_)
        rcases cond_some h87 with ⟨hc88, h89⟩ | ⟨hc88, h90⟩
        · refine cw_condT rfl hc88 ?_
          refine cw_seq (cw_region (
            .cons (o_as rfl rfl .no rfl) <|
            .nil rfl
          ) ?_)
          have he91 := ((hx78 _ (Option.some.inj h89).symm).symm).symm
          subst he91
          have heq := ((Option.some.inj h48).symm).symm
          subst heq
          exact cw_weak (weak_of (l := [(4, .d (ebool false))]) (m := []) ⟨⟨_, rfl, .d rfl⟩, trivial⟩ trivial drop0) (cw_ret ⟨.inr rfl, _, res1 rfl rfl, rfl, rfl⟩)
        · refine cw_condF rfl hc88 ?_
          refine cw_skip ?_
          refine cw_region (
            .cons (o_mv rfl rfl .no rfl) <|
            .cons (o_bin rfl rfl .no rfl rfl (b_add _ _) rfl) <|
            .cons (o_as rfl rfl .no rfl) <|
            .nil rfl
          ) ?_
          exact ⟨(IntKind.wrap .i64 (v75 + 1)), (Option.some.inj h90).symm, weak_of ⟨⟨_, rfl, .d rfl⟩, ⟨_, rfl, .d rfl⟩, ⟨_, rfl, .d rfl⟩, trivial⟩ trivial drop0⟩
      · refine cw_condF rfl hc79 ?_
        refine cw_exit ?_
        exact ⟨(), (hx78 _ (Option.some.inj h81).symm).symm, weak_of trivial trivial drop0⟩

set_option maxRecDepth 100000 in
theorem ref09_SameKeys_ok {a0 : List (List UInt8)} {a1 : List (List UInt8)} {r : Bool} (h : ref09_SameKeys a0 a1 = some r) : FnOk Try.prog 19 [.d (eSapiKey a0), .d (eSapiKey a1)] 0 (lk []) (fun rr oo => rr = .d (ebool r) ∧ oo = lk []) := by
  refine fnOk_of Try.func19 rfl rfl ?_
  unfold ref09_SameKeys at h
  refine cw_seq (cw_region (
    .cons (o_as rfl rfl .no rfl) <|
    .nil rfl
  ) ?_)
  refine cw_seq ?_
  refine cw_seq (cw_region (
    .cons (o_mv rfl rfl .no rfl) <|
    .cons (o_lenM (enc := eapiKey) (xs := a0) rfl rfl .no rfl sl40) <|
    .cons (o_mv rfl rfl .no rfl) <|
    .cons (o_lenM (enc := eapiKey) (xs := a1) rfl rfl .no rfl sl40) <|
    .cons (o_bin rfl rfl .no rfl rfl (b_neq _ _) rfl) <|
    .nil rfl
  ) ?_)
  rcases cond_some h with ⟨hc1, h2⟩ | ⟨hc1, h3⟩
  · refine cw_condT rfl hc1 ?_
    refine cw_seq (cw_region (
      .cons (o_as rfl rfl .no rfl) <|
      .nil rfl
    ) ?_)
    have heq := ((Option.some.inj h2).symm).symm
    subst heq
    exact cw_weak (weak_of (l := [(4, .d (ebool false))]) (m := []) ⟨⟨_, rfl, .d rfl⟩, trivial⟩ trivial drop0) (cw_ret ⟨.inr rfl, _, res1 rfl rfl, rfl, rfl⟩)
  · refine cw_condF rfl hc1 ?_
    refine cw_skip ?_
    obtain ⟨o46, hj47, h48⟩ := bind_some h3
    refine cw_join (fun (z : Unit) => St.of [] []) (fun (z : Unit) => o46 = (.inl z)) ?_ ?_
    · intro v92 hv94; subst hv94
      refine cw_seq (cw_region (
        .cons (o_as rfl rfl .no rfl) <|
        .nil rfl
      ) ?_)
      have heq := ((Option.some.inj h48).symm).symm
      subst heq
      exact cw_weak (weak_of (l := [(4, .d (ebool true))]) (m := []) ⟨⟨_, rfl, .d rfl⟩, trivial⟩ trivial drop0) (cw_ret ⟨.inr rfl, _, res1 rfl rfl, rfl, rfl⟩)
    · skip
      refine cw_seq (cw_region (
        .cons (o_as rfl rfl .no rfl) <|
        .nil rfl
      ) ?_)
      refine cw_block ?_
      refine cw_while (V := Int) (O := (Unit ⊕ Bool)) (fun (z : Int) => St.of [(0, .d (eSapiKey a0)), (1, .d (eSapiKey a1)), (5, .d (eint z))] []) hj47 (weak_of ⟨⟨_, rfl, .d rfl⟩, ⟨_, rfl, .d rfl⟩, ⟨_, rfl, .d rfl⟩, trivial⟩ trivial drop0) ?_
      intro v75 x76 hb77 hx78
      refine cw_seq ?_
      refine cw_seq (cw_region (
        .cons (o_mv rfl rfl .no rfl) <|
        .cons (o_mv rfl rfl .no rfl) <|
        .cons (o_lenM (enc := eapiKey) (xs := a0) rfl rfl .no rfl sl40) <|
        .cons (o_bin rfl rfl .no rfl rfl (b_lss _ _) rfl) <|
        .nil rfl
      ) ?_)
      rcases cond_some hb77 with ⟨hc79, h80⟩ | ⟨hc79, h81⟩
      · refine cw_condT rfl hc79 ?_
        refine cw_skip ?_
        refine cw_seq ?_
        refine cw_block ?_
        obtain ⟨x82, hx83, h84⟩ := bind_some h80
        have hx83g := gx_some hx83
        obtain ⟨x85, hx86, h87⟩ := bind_some h84
        have hx86g := gx_some hx86
        refine cw_seq (cw_region_any mixed (by kernel_rfl) (
          .cons (o_mv rfl rfl .no rfl) <|
          .cons (o_mv rfl rfl .no rfl) <|
          .cons (o_ixM (enc := eapiKey) (xs := a0) rfl rfl .no rfl rfl sl40 sz27 hx83g.1 hx83g.2) <|
          .cons (o_ld rfl rfl .no rfl ta27 rfl rfl) <|
          .cons (o_mv rfl rfl .no rfl) <|
          .cons (o_mv rfl rfl .no rfl) <|
          .cons (o_ixM (enc := eapiKey) (xs := a1) rfl rfl .no rfl rfl sl40 sz27 hx86g.1 hx86g.2) <|
          .cons (o_ld rfl rfl .no rfl ta27 rfl rfl) <|
          .cons (o_ne rfl rfl .no rfl rfl rfl rfl eg27 (.bs ar27 un5 sz5)) <|
          .nil rfl
        ) (by kernel_rfl) ?_)
        rcases cond_some h87 with ⟨hc88, h89⟩ | ⟨hc88, h90⟩
        · refine cw_condT rfl hc88 ?_
          refine cw_seq (cw_region (
            .cons (o_as rfl rfl .no rfl) <|
            .nil rfl
          ) ?_)
          have he91 := ((hx78 _ (Option.some.inj h89).symm).symm).symm
          subst he91
          have heq := ((Option.some.inj h48).symm).symm
          subst heq
          exact cw_weak (weak_of (l := [(4, .d (ebool false))]) (m := []) ⟨⟨_, rfl, .d rfl⟩, trivial⟩ trivial drop0) (cw_ret ⟨.inr rfl, _, res1 rfl rfl, rfl, rfl⟩)
        · refine cw_condF rfl hc88 ?_
          refine cw_skip ?_
          refine cw_region (
            .cons (o_mv rfl rfl .no rfl) <|
            .cons (o_bin rfl rfl .no rfl rfl (b_add _ _) rfl) <|
            .cons (o_as rfl rfl .no rfl) <|
            .nil rfl
          ) ?_
          exact ⟨(IntKind.wrap .i64 (v75 + 1)), (Option.some.inj h90).symm, weak_of ⟨⟨_, rfl, .d rfl⟩, ⟨_, rfl, .d rfl⟩, ⟨_, rfl, .d rfl⟩, trivial⟩ trivial drop0⟩
      · refine cw_condF rfl hc79 ?_
        refine cw_exit ?_
        exact ⟨(), (hx78 _ (Option.some.inj h81).symm).symm, weak_of trivial trivial drop0⟩

set_option maxRecDepth 100000 in
theorem ref09_SameChanges_ok {a0 : List ((List UInt8) × ByteArray × Bool)} {a1 : List ((List UInt8) × ByteArray × Bool)} {r : Bool} (h : ref09_SameChanges a0 a1 = some r) : FnOk Try.prog 23 [.d (eSapiChange a0), .d (eSapiChange a1)] 0 (lk []) (fun rr oo => rr = .d (ebool r) ∧ oo = lk []) := by
  refine fnOk_of Try.func23 rfl rfl ?_
  unfold ref09_SameChanges at h
  refine cw_seq (cw_region (
    .cons (o_as rfl rfl .no rfl) <|
    .nil rfl
  ) ?_)
  refine cw_seq ?_
  refine cw_seq (cw_region (
    .cons (o_mv rfl rfl .no rfl) <|
    .cons (o_lenM (enc := eapiChange) (xs := a0) rfl rfl .no rfl sl34) <|
    .cons (o_mv rfl rfl .no rfl) <|
    .cons (o_lenM (enc := eapiChange) (xs := a1) rfl rfl .no rfl sl34) <|
    .cons (o_bin rfl rfl .no rfl rfl (b_neq _ _) rfl) <|
    .nil rfl
  ) ?_)
  rcases cond_some h with ⟨hc1, h2⟩ | ⟨hc1, h3⟩
  · refine cw_condT rfl hc1 ?_
    refine cw_seq (cw_region (
      .cons (o_as rfl rfl .no rfl) <|
      .nil rfl
    ) ?_)
    have heq := ((Option.some.inj h2).symm).symm
    subst heq
    exact cw_weak (weak_of (l := [(4, .d (ebool false))]) (m := []) ⟨⟨_, rfl, .d rfl⟩, trivial⟩ trivial drop0) (cw_ret ⟨.inr rfl, _, res1 rfl rfl, rfl, rfl⟩)
  · refine cw_condF rfl hc1 ?_
    refine cw_skip ?_
    obtain ⟨o46, hj47, h48⟩ := bind_some h3
    refine cw_join (fun (z : Unit) => St.of [] []) (fun (z : Unit) => o46 = (.inl z)) ?_ ?_
    · intro v92 hv94; subst hv94
      refine cw_seq (cw_region (
        .cons (o_as rfl rfl .no rfl) <|
        .nil rfl
      ) ?_)
      have heq := ((Option.some.inj h48).symm).symm
      subst heq
      exact cw_weak (weak_of (l := [(4, .d (ebool true))]) (m := []) ⟨⟨_, rfl, .d rfl⟩, trivial⟩ trivial drop0) (cw_ret ⟨.inr rfl, _, res1 rfl rfl, rfl, rfl⟩)
    · skip
      refine cw_seq (cw_region (
        .cons (o_as rfl rfl .no rfl) <|
        .nil rfl
      ) ?_)
      refine cw_block ?_
      refine cw_while (V := Int) (O := (Unit ⊕ Bool)) (fun (z : Int) => St.of [(0, .d (eSapiChange a0)), (1, .d (eSapiChange a1)), (5, .d (eint z))] []) hj47 (weak_of ⟨⟨_, rfl, .d rfl⟩, ⟨_, rfl, .d rfl⟩, ⟨_, rfl, .d rfl⟩, trivial⟩ trivial drop0) ?_
      intro v75 x76 hb77 hx78
      refine cw_seq ?_
      refine cw_seq (cw_region (
        .cons (o_mv rfl rfl .no rfl) <|
        .cons (o_mv rfl rfl .no rfl) <|
        .cons (o_lenM (enc := eapiChange) (xs := a0) rfl rfl .no rfl sl34) <|
        .cons (o_bin rfl rfl .no rfl rfl (b_lss _ _) rfl) <|
        .nil rfl
      ) ?_)
      rcases cond_some hb77 with ⟨hc79, h80⟩ | ⟨hc79, h81⟩
      · refine cw_condT rfl hc79 ?_
        refine cw_skip ?_
        refine cw_seq ?_
        refine cw_block ?_
        obtain ⟨x82, hx83, h84⟩ := bind_some h80
        have hx83g := gx_some hx83
        obtain ⟨x85, hx86, h87⟩ := bind_some h84
        have hx86g := gx_some hx86
        refine cw_seq (cw_region_any mixed (by kernel_rfl) (
          .cons (o_mv rfl rfl .no rfl) <|
          .cons (o_mv rfl rfl .no rfl) <|
          .cons (o_ixM (enc := eapiChange) (xs := a0) rfl rfl .no rfl rfl sl34 sz38 hx83g.1 hx83g.2) <|
          .cons (o_ld rfl rfl .no rfl ta38 rfl rfl) <|
          .cons (o_mv rfl rfl .no rfl) <|
          .cons (o_mv rfl rfl .no rfl) <|
          .cons (o_ixM (enc := eapiChange) (xs := a1) rfl rfl .no rfl rfl sl34 sz38 hx86g.1 hx86g.2) <|
          .cons (o_ld rfl rfl .no rfl ta38 rfl rfl) <|
          .cons (o_ne rfl rfl .no rfl rfl rfl rfl eg38 (.st flds38 (.cons ta27 rfl rfl rfl rfl (.bs ar27 un5 sz5) (.cons ta9 rfl rfl rfl rfl (.str un9) (.cons ta4 rfl rfl rfl rfl (.bool un4) .nil))))) <|
          .nil rfl
        ) (by kernel_rfl) ?_)
        rcases cond_some h87 with ⟨hc88, h89⟩ | ⟨hc88, h90⟩
        · refine cw_condT rfl hc88 ?_
          refine cw_seq (cw_region (
            .cons (o_as rfl rfl .no rfl) <|
            .nil rfl
          ) ?_)
          have he91 := ((hx78 _ (Option.some.inj h89).symm).symm).symm
          subst he91
          have heq := ((Option.some.inj h48).symm).symm
          subst heq
          exact cw_weak (weak_of (l := [(4, .d (ebool false))]) (m := []) ⟨⟨_, rfl, .d rfl⟩, trivial⟩ trivial drop0) (cw_ret ⟨.inr rfl, _, res1 rfl rfl, rfl, rfl⟩)
        · refine cw_condF rfl hc88 ?_
          refine cw_skip ?_
          refine cw_region (
            .cons (o_mv rfl rfl .no rfl) <|
            .cons (o_bin rfl rfl .no rfl rfl (b_add _ _) rfl) <|
            .cons (o_as rfl rfl .no rfl) <|
            .nil rfl
          ) ?_
          exact ⟨(IntKind.wrap .i64 (v75 + 1)), (Option.some.inj h90).symm, weak_of ⟨⟨_, rfl, .d rfl⟩, ⟨_, rfl, .d rfl⟩, ⟨_, rfl, .d rfl⟩, trivial⟩ trivial drop0⟩
      · refine cw_condF rfl hc79 ?_
        refine cw_exit ?_
        exact ⟨(), (hx78 _ (Option.some.inj h81).symm).symm, weak_of trivial trivial drop0⟩

set_option maxRecDepth 100000 in
theorem ref09_put_ok {a0 : List ((List UInt8) × ByteArray)} {a1 : ((List UInt8) × ByteArray)} {r : (List ((List UInt8) × ByteArray))} (h : ref09_put a0 a1 = some r) : FnOk Try.prog 36 [.d (eSapiPair a0), .d (eapiPair a1)] 0 (lk []) (fun rr oo => rr = .d (eSapiPair r) ∧ oo = lk []) := by
  refine fnOk_of Try.func36 rfl rfl ?_
  unfold ref09_put at h
  refine cw_seq (cw_region (
    .cons (o_box 0 rfl rfl .no rfl rfl rfl) <|
    .cons (o_as rfl rfl .no rfl) <|
    .nil rfl
  ) ?_)
  obtain ⟨x1, hx2, h3⟩ := bind_some h
  refine cw_seq (cw_region (
    .cons (o_mv rfl rfl .no rfl) <|
    .cons (o_fldP rfl rfl .no rfl fld29_0 (by decide)) <|
    .cons (o_ldP [0] rfl rfl .no rfl rfl rfl ta27 rfl rfl) <|
    .cons (o_call rfl rfl .no Try.func31 rfl rfl (ref09_find_ok hx2) (.cons rfl .d (.cons rfl .d .nil)) ⟨trivial, trivial, trivial⟩ (.inl rfl)) <|
    .cons (o_mv rfl rfl .no rfl) <|
    .cons (o_ext rfl rfl .no rfl rfl) <|
    .cons (o_ext rfl rfl .no rfl rfl) <|
    .cons (o_as rfl rfl .no rfl) <|
    .cons (o_as rfl rfl .no rfl) <|
    .nil rfl
  ) ?_)
  obtain ⟨x4, hx5, h6⟩ := bind_some h3
  have hx5g := cutB_some hx5
  obtain ⟨x7, hx8, h9⟩ := bind_some h6
  have hx8g := fits_some hx8
  refine cw_seq (cw_region (
    .cons (o_bslO (rows := ([] : List ((List UInt8) × ByteArray)).map eapiPair) 1 rfl rfl .no .nil rfl sl22 sz29 ze29 rfl (map_sz siapiPair) (by decide) rfl) <|
    .cons (o_mv rfl rfl .no rfl) <|
    .cons (o_mv rfl rfl .no rfl) <|
    .cons (o_slM (enc := eapiPair) (xs := a0) rfl rfl .no rfl sl22 sz29 .no (.val rfl hx5g.2.1) hx5g.2.2.1 hx5g.2.2.2) <|
    .cons (o_appM (enc := eapiPair) (xs := ([] : List ((List UInt8) × ByteArray))) (ys := (piece a0 0 x1.1)) rfl rfl .no rfl rfl rfl siapiPair sl22 sl22 sz29 by29 ze29 rfl (by decide) hx8g) <|
    .cons (o_as rfl rfl .no rfl) <|
    .nil rfl
  ) ?_)
  obtain ⟨x10, hx11, h12⟩ := bind_some h9
  have hx11g := fits_some hx11
  refine cw_seq (cw_region (
    .cons (o_mv rfl rfl .no rfl) <|
    .cons (o_ldP [] rfl rfl .no rfl rfl rfl ta29 rfl rfl) <|
    .cons (o_bsl (rows := ([a1] : List ((List UInt8) × ByteArray)).map eapiPair) rfl rfl .no (.cons rfl .nil) rfl sl22 sz29 ze29 rfl (map_sz siapiPair) (by decide)) <|
    .cons (o_appM (enc := eapiPair) (xs := (([] : List ((List UInt8) × ByteArray)) ++ (piece a0 0 x1.1))) (ys := [a1]) rfl rfl .no rfl rfl rfl siapiPair sl22 sl22 sz29 by29 ze29 rfl (by decide) hx11g) <|
    .cons (o_as rfl rfl .no rfl) <|
    .nil rfl
  ) ?_)
  obtain ⟨o16, hj17, h18⟩ := bind_some h12
  refine cw_join (fun (z : Int) => St.of [(0, .d (eSapiPair a0)), (5, .d (eint z)), (7, .arr 1 0)] [(1, .arr 0 25 (((([] : List ((List UInt8) × ByteArray)) ++ (piece a0 0 x1.1)) ++ [a1]).map eapiPair))]) (fun (z : Int) => o16 = z) ?_ ?_
  · intro v28 hv29; subst hv29
    obtain ⟨x22, hx23, h24⟩ := bind_some h18
    have hx23g := cutB_some hx23
    obtain ⟨x25, hx26, h27⟩ := bind_some h24
    have hx26g := fits_some hx26
    refine cw_seq (cw_region (
      .cons (o_mv rfl rfl .no rfl) <|
      .cons (o_mv rfl rfl .no rfl) <|
      .cons (o_mv rfl rfl .no rfl) <|
      .cons (o_slM (enc := eapiPair) (xs := a0) rfl rfl .no rfl sl22 sz29 (.val rfl hx23g.1) .no hx23g.2.2.1 hx23g.2.2.2) <|
      .cons (o_appM (enc := eapiPair) (xs := ((([] : List ((List UInt8) × ByteArray)) ++ (piece a0 0 x1.1)) ++ [a1])) (ys := (piece a0 o16 (a0.length : Int))) rfl rfl .no rfl rfl rfl siapiPair sl22 sl22 sz29 by29 ze29 rfl (by decide) hx26g) <|
      .cons (o_as rfl rfl .no rfl) <|
      .nil rfl
    ) ?_)
    have heq := ((Option.some.inj h27).symm).symm
    subst heq
    exact cw_weak (weak_of (l := [(4, .d (eSapiPair (((([] : List ((List UInt8) × ByteArray)) ++ (piece a0 0 x1.1)) ++ [a1]) ++ (piece a0 o16 (a0.length : Int)))))]) (m := []) ⟨⟨_, rfl, .frz rfl rfl rfl⟩, trivial⟩ trivial drop0) (cw_ret ⟨.inr rfl, _, res1 rfl rfl, rfl, rfl⟩)
  · skip
    refine cw_seq (cw_region (
      .cons (o_mv rfl rfl .no rfl) <|
      .nil rfl
    ) ?_)
    rcases cond_some hj17 with ⟨hc19, h20⟩ | ⟨hc19, h21⟩
    · refine cw_condT rfl hc19 ?_
      refine cw_region (
        .cons (o_mv rfl rfl .no rfl) <|
        .cons (o_bin rfl rfl .no rfl rfl (b_add _ _) rfl) <|
        .cons (o_as rfl rfl .no rfl) <|
        .nil rfl
      ) ?_
      exact ⟨(IntKind.wrap .i64 (x1.1 + 1)), (Option.some.inj h20).symm, weak_of ⟨⟨_, rfl, .d rfl⟩, ⟨_, rfl, .d rfl⟩, ⟨_, rfl, .arr rfl rfl⟩, trivial⟩ ⟨.arr0 rfl rfl rfl, trivial⟩ drop0⟩
    · refine cw_condF rfl hc19 ?_
      refine cw_skip ?_
      exact ⟨x1.1, (Option.some.inj h21).symm, weak_of ⟨⟨_, rfl, .d rfl⟩, ⟨_, rfl, .d rfl⟩, ⟨_, rfl, .arr rfl rfl⟩, trivial⟩ ⟨.arr0 rfl rfl rfl, trivial⟩ drop0⟩

set_option maxRecDepth 100000 in
theorem ref09_Map_ok {a0 : List ((List UInt8) × ByteArray)} {r : (List ((List UInt8) × ByteArray))} (h : ref09_Map a0 = some r) : FnOk Try.prog 21 [.d (eSapiPair a0)] 0 (lk []) (fun rr oo => rr = .d (eSapiPair r) ∧ oo = lk []) := by
  refine fnOk_of Try.func21 rfl rfl ?_
  unfold ref09_Map at h
  refine cw_seq (cw_region (
    .cons (o_as rfl rfl .no rfl) <|
    .nil rfl
  ) ?_)
  refine cw_seq (cw_region (
    .cons (o_as rfl rfl .no rfl) <|
    .nil rfl
  ) ?_)
  obtain ⟨o34, hj35, h36⟩ := bind_some h
  refine cw_join (fun (z : (List ((List UInt8) × ByteArray))) => St.of [(3, .d (eSapiPair z))] []) (fun (z : (List ((List UInt8) × ByteArray))) => o34 = z) ?_ ?_
  · intro v70 hv71; subst hv71
    refine cw_seq (cw_region (
      .cons (o_mv rfl rfl .no rfl) <|
      .cons (o_as rfl rfl .no rfl) <|
      .nil rfl
    ) ?_)
    have heq := ((Option.some.inj h36).symm).symm
    subst heq
    exact cw_weak (weak_of (l := [(2, .d (eSapiPair o34))]) (m := []) ⟨⟨_, rfl, .d rfl⟩, trivial⟩ trivial drop0) (cw_ret ⟨.inr rfl, _, res1 rfl rfl, rfl, rfl⟩)
  · skip
    refine cw_seq (cw_region (
      .cons (o_as rfl rfl .no rfl) <|
      .nil rfl
    ) ?_)
    refine cw_block ?_
    refine cw_while (V := ((List ((List UInt8) × ByteArray)) × Int)) (O := (List ((List UInt8) × ByteArray))) (fun (z : ((List ((List UInt8) × ByteArray)) × Int)) => St.of [(0, .d (eSapiPair a0)), (3, .d (eSapiPair z.1)), (4, .d (eint z.2))] []) hj35 (weak_of ⟨⟨_, rfl, .d rfl⟩, ⟨_, rfl, .nil0⟩, ⟨_, rfl, .d rfl⟩, trivial⟩ trivial drop0) ?_
    intro v57 x58 hb59 hx60
    refine cw_seq ?_
    refine cw_seq (cw_region (
      .cons (o_mv rfl rfl .no rfl) <|
      .cons (o_mv rfl rfl .no rfl) <|
      .cons (o_lenM (enc := eapiPair) (xs := a0) rfl rfl .no rfl sl22) <|
      .cons (o_bin rfl rfl .no rfl rfl (b_lss _ _) rfl) <|
      .nil rfl
    ) ?_)
    rcases cond_some hb59 with ⟨hc61, h62⟩ | ⟨hc61, h63⟩
    · refine cw_condT rfl hc61 ?_
      refine cw_skip ?_
      refine cw_seq ?_
      refine cw_block ?_
      obtain ⟨x64, hx65, h66⟩ := bind_some h62
      have hx65g := gx_some hx65
      obtain ⟨x67, hx68, h69⟩ := bind_some h66
      refine cw_region (
        .cons (o_mv rfl rfl .no rfl) <|
        .cons (o_mv rfl rfl .no rfl) <|
        .cons (o_mv rfl rfl .no rfl) <|
        .cons (o_ixM (enc := eapiPair) (xs := a0) rfl rfl .no rfl rfl sl22 sz29 hx65g.1 hx65g.2) <|
        .cons (o_ld rfl rfl .no rfl ta29 rfl rfl) <|
        .cons (o_call rfl rfl .no Try.func36 rfl rfl (ref09_put_ok hx68) (.cons rfl .d (.cons rfl .d .nil)) ⟨trivial, trivial, trivial⟩ (.inl rfl)) <|
        .cons (o_as rfl rfl .no rfl) <|
        .nil rfl
      ) ?_
      refine cw_region (
        .cons (o_mv rfl rfl .no rfl) <|
        .cons (o_bin rfl rfl .no rfl rfl (b_add _ _) rfl) <|
        .cons (o_as rfl rfl .no rfl) <|
        .nil rfl
      ) ?_
      exact ⟨(x67, (IntKind.wrap .i64 (v57.2 + 1))), (Option.some.inj h69).symm, weak_of ⟨⟨_, rfl, .d rfl⟩, ⟨_, rfl, .d rfl⟩, ⟨_, rfl, .d rfl⟩, trivial⟩ trivial drop0⟩
    · refine cw_condF rfl hc61 ?_
      refine cw_exit ?_
      exact ⟨v57.1, (hx60 _ (Option.some.inj h63).symm).symm, weak_of ⟨⟨_, rfl, .d rfl⟩, trivial⟩ trivial drop0⟩

set_option maxRecDepth 100000 in
theorem ref09_with_ok {a0 : List ((List UInt8) × ByteArray × Bool)} {a1 : ((List UInt8) × ByteArray × Bool)} {r : (List ((List UInt8) × ByteArray × Bool))} (h : ref09_with a0 a1 = some r) : FnOk Try.prog 37 [.d (eSapiChange a0), .d (eapiChange a1)] 0 (lk []) (fun rr oo => rr = .d (eSapiChange r) ∧ oo = lk []) := by
  refine fnOk_of Try.func37 rfl rfl ?_
  unfold ref09_with at h
  refine cw_seq (cw_region (
    .cons (o_box 0 rfl rfl .no rfl rfl rfl) <|
    .cons (o_as rfl rfl .no rfl) <|
    .nil rfl
  ) ?_)
  obtain ⟨o4, hj5, h6⟩ := bind_some h
  refine cw_join (fun (z : ((List UInt8) × ByteArray × Bool)) => St.of [(0, .d (eSapiChange a0)), (3, .ptr 0 0)] [(0, .box (.d (eapiChange z)))]) (fun (z : ((List UInt8) × ByteArray × Bool)) => o4 = z) ?_ ?_
  · intro v159 hv160; subst hv160
    refine cw_seq (cw_region (
      .cons (o_as rfl rfl .no rfl) <|
      .nil rfl
    ) ?_)
    obtain ⟨o52, hj53, h54⟩ := bind_some h6
    refine cw_join (fun (z : Int) => St.of [(0, .d (eSapiChange a0)), (3, .ptr 0 0), (5, .d (eint z))] [(0, .box (.d (eapiChange o4)))]) (fun (z : Int) => o52 = z) ?_ ?_
    · intro v157 hv158; subst hv158
      obtain ⟨x97, hx98, h99⟩ := bind_some h54
      have hx98g := cutB_some hx98
      obtain ⟨x100, hx101, h102⟩ := bind_some h99
      have hx101g := fits_some hx101
      refine cw_seq (cw_region (
        .cons (o_bslO (rows := ([] : List ((List UInt8) × ByteArray × Bool)).map eapiChange) 1 rfl rfl .no .nil rfl sl34 sz38 ze38 rfl (map_sz siapiChange) (by decide) rfl) <|
        .cons (o_mv rfl rfl .no rfl) <|
        .cons (o_mv rfl rfl .no rfl) <|
        .cons (o_slM (enc := eapiChange) (xs := a0) rfl rfl .no rfl sl34 sz38 .no (.val rfl hx98g.2.1) hx98g.2.2.1 hx98g.2.2.2) <|
        .cons (o_appM (enc := eapiChange) (xs := ([] : List ((List UInt8) × ByteArray × Bool))) (ys := (piece a0 0 o52)) rfl rfl .no rfl rfl rfl siapiChange sl34 sl34 sz38 by38 ze38 rfl (by decide) hx101g) <|
        .cons (o_as rfl rfl .no rfl) <|
        .nil rfl
      ) ?_)
      obtain ⟨x103, hx104, h105⟩ := bind_some h102
      have hx104g := fits_some hx104
      refine cw_seq (cw_region (
        .cons (o_mv rfl rfl .no rfl) <|
        .cons (o_ldP [] rfl rfl .no rfl rfl rfl ta38 rfl rfl) <|
        .cons (o_bsl (rows := ([o4] : List ((List UInt8) × ByteArray × Bool)).map eapiChange) rfl rfl .no (.cons rfl .nil) rfl sl34 sz38 ze38 rfl (map_sz siapiChange) (by decide)) <|
        .cons (o_appM (enc := eapiChange) (xs := (([] : List ((List UInt8) × ByteArray × Bool)) ++ (piece a0 0 o52))) (ys := [o4]) rfl rfl .no rfl rfl rfl siapiChange sl34 sl34 sz38 by38 ze38 rfl (by decide) hx104g) <|
        .cons (o_as rfl rfl .no rfl) <|
        .nil rfl
      ) ?_)
      obtain ⟨o126, hj127, h128⟩ := bind_some h105
      refine cw_join (fun (z : Int) => St.of [(0, .d (eSapiChange a0)), (5, .d (eint z)), (7, .arr 1 0)] [(1, .arr 0 26 (((([] : List ((List UInt8) × ByteArray × Bool)) ++ (piece a0 0 o52)) ++ [o4]).map eapiChange))]) (fun (z : Int) => o126 = z) ?_ ?_
      · intro v155 hv156; subst hv156
        obtain ⟨x149, hx150, h151⟩ := bind_some h128
        have hx150g := cutB_some hx150
        obtain ⟨x152, hx153, h154⟩ := bind_some h151
        have hx153g := fits_some hx153
        refine cw_seq (cw_region (
          .cons (o_mv rfl rfl .no rfl) <|
          .cons (o_mv rfl rfl .no rfl) <|
          .cons (o_mv rfl rfl .no rfl) <|
          .cons (o_slM (enc := eapiChange) (xs := a0) rfl rfl .no rfl sl34 sz38 (.val rfl hx150g.1) .no hx150g.2.2.1 hx150g.2.2.2) <|
          .cons (o_appM (enc := eapiChange) (xs := ((([] : List ((List UInt8) × ByteArray × Bool)) ++ (piece a0 0 o52)) ++ [o4])) (ys := (piece a0 o126 (a0.length : Int))) rfl rfl .no rfl rfl rfl siapiChange sl34 sl34 sz38 by38 ze38 rfl (by decide) hx153g) <|
          .cons (o_as rfl rfl .no rfl) <|
          .nil rfl
        ) ?_)
        have heq := ((Option.some.inj h154).symm).symm
        subst heq
        exact cw_weak (weak_of (l := [(4, .d (eSapiChange (((([] : List ((List UInt8) × ByteArray × Bool)) ++ (piece a0 0 o52)) ++ [o4]) ++ (piece a0 o126 (a0.length : Int)))))]) (m := []) ⟨⟨_, rfl, .frz rfl rfl rfl⟩, trivial⟩ trivial drop0) (cw_ret ⟨.inr rfl, _, res1 rfl rfl, rfl, rfl⟩)
      · skip
        obtain ⟨o135, hj136, h137⟩ := bind_some hj127
        refine cw_join (fun (z : Bool) => St.of [(0, .d (eSapiChange a0)), (5, .d (eint o52)), (7, .arr 1 0), (49, .d (ebool z))] [(1, .arr 0 26 (((([] : List ((List UInt8) × ByteArray × Bool)) ++ (piece a0 0 o52)) ++ [o4]).map eapiChange))]) (fun (z : Bool) => o135 = z) ?_ ?_
        · intro v147 hv148; subst hv148
          rcases cond_some h137 with ⟨hc144, h145⟩ | ⟨hc144, h146⟩
          · refine cw_condT rfl hc144 ?_
            refine cw_region (
              .cons (o_mv rfl rfl .no rfl) <|
              .cons (o_bin rfl rfl .no rfl rfl (b_add _ _) rfl) <|
              .cons (o_as rfl rfl .no rfl) <|
              .nil rfl
            ) ?_
            exact ⟨(IntKind.wrap .i64 (o52 + 1)), (Option.some.inj h145).symm, weak_of ⟨⟨_, rfl, .d rfl⟩, ⟨_, rfl, .d rfl⟩, ⟨_, rfl, .arr rfl rfl⟩, trivial⟩ ⟨.arr rfl rfl, trivial⟩ drop0⟩
          · refine cw_condF rfl hc144 ?_
            refine cw_skip ?_
            exact ⟨o52, (Option.some.inj h146).symm, weak_of ⟨⟨_, rfl, .d rfl⟩, ⟨_, rfl, .d rfl⟩, ⟨_, rfl, .arr rfl rfl⟩, trivial⟩ ⟨.arr rfl rfl, trivial⟩ drop0⟩
        · skip
          rcases cond_some hj136 with ⟨hc138, h139⟩ | ⟨hc138, h140⟩
          · skip
            obtain ⟨x141, hx142, h143⟩ := bind_some h139
            have hx142g := gx_some hx142
            refine cw_region_any mixed (by kernel_rfl) (
              .cons (o_mv rfl rfl .no rfl) <|
              .cons (o_mv rfl rfl .no rfl) <|
              .cons (o_lenM (enc := eapiChange) (xs := a0) rfl rfl .no rfl sl34) <|
              .cons (o_bin rfl rfl .no rfl rfl (b_lss _ _) rfl) <|
              .cons (o_mv rfl rfl .no rfl) <|
              .cons (o_mv rfl rfl (.yes rfl rfl hc138) rfl) <|
              .cons (o_mv rfl rfl (.yes rfl rfl hc138) rfl) <|
              .cons (o_ixM (enc := eapiChange) (xs := a0) rfl rfl (.yes rfl rfl hc138) rfl rfl sl34 sz38 hx142g.1 hx142g.2) <|
              .cons (o_fld rfl rfl (.yes rfl rfl hc138) rfl fld38_0 (by decide) rfl rfl) <|
              .cons (o_ld rfl rfl (.yes rfl rfl hc138) rfl ta27 rfl rfl) <|
              .cons (o_fldP rfl rfl (.yes rfl rfl hc138) rfl fld38_0 (by decide)) <|
              .cons (o_ldP [0] rfl rfl (.yes rfl rfl hc138) rfl rfl rfl ta27 rfl rfl) <|
              .cons (o_eq rfl rfl (.yes rfl rfl hc138) rfl rfl rfl rfl eg27 (.bs ar27 un5 sz5)) <|
              .cons (o_pickT rfl rfl .no rfl hc138 rfl) <|
              .nil rfl
            ) (by kernel_rfl) ?_
            exact ⟨(decide (x141.1 = o4.1)), (Option.some.inj h143).symm, weak_of ⟨⟨_, rfl, .d rfl⟩, ⟨_, rfl, .d rfl⟩, ⟨_, rfl, .arr rfl rfl⟩, ⟨_, rfl, .d rfl⟩, trivial⟩ ⟨.arr0 rfl rfl rfl, trivial⟩ drop0⟩
          · skip
            refine cw_region_any mixed (by kernel_rfl) (
              .cons (o_mv rfl rfl .no rfl) <|
              .cons (o_mv rfl rfl .no rfl) <|
              .cons (o_lenM (enc := eapiChange) (xs := a0) rfl rfl .no rfl sl34) <|
              .cons (o_bin rfl rfl .no rfl rfl (b_lss _ _) rfl) <|
              .cons (o_mv rfl rfl .no rfl) <|
              .cons (o_noT rfl rfl rfl rfl hc138) <|
              .cons (o_noT rfl rfl rfl rfl hc138) <|
              .cons (o_noT rfl rfl rfl rfl hc138) <|
              .cons (o_noT rfl rfl rfl rfl hc138) <|
              .cons (o_noT rfl rfl rfl rfl hc138) <|
              .cons (o_noT rfl rfl rfl rfl hc138) <|
              .cons (o_noT rfl rfl rfl rfl hc138) <|
              .cons (o_noT rfl rfl rfl rfl hc138) <|
              .cons (o_pickF rfl rfl .no rfl hc138 rfl) <|
              .nil rfl
            ) (by kernel_rfl) ?_
            exact ⟨false, (Option.some.inj h140).symm, weak_of ⟨⟨_, rfl, .d rfl⟩, ⟨_, rfl, .d rfl⟩, ⟨_, rfl, .arr rfl rfl⟩, ⟨_, rfl, .d rfl⟩, trivial⟩ ⟨.arr0 rfl rfl rfl, trivial⟩ drop0⟩
    · skip
      refine cw_block ?_
      refine cw_while (V := Int) (O := Int) (fun (z : Int) => St.of [(0, .d (eSapiChange a0)), (3, .ptr 0 0), (5, .d (eint z))] [(0, .box (.d (eapiChange o4)))]) hj53 (weak_of ⟨⟨_, rfl, .d rfl⟩, ⟨_, rfl, .ptr rfl rfl⟩, ⟨_, rfl, .d rfl⟩, trivial⟩ ⟨.box rfl (.d rfl), trivial⟩ drop0) ?_
      intro v81 x82 hb83 hx84
      refine cw_seq ?_
      refine cw_seq (cw_region (
        .cons (o_mv rfl rfl .no rfl) <|
        .cons (o_mv rfl rfl .no rfl) <|
        .cons (o_lenM (enc := eapiChange) (xs := a0) rfl rfl .no rfl sl34) <|
        .cons (o_bin rfl rfl .no rfl rfl (b_lss _ _) rfl) <|
        .nil rfl
      ) ?_)
      rcases cond_some hb83 with ⟨hc85, h86⟩ | ⟨hc85, h87⟩
      · refine cw_condT rfl hc85 ?_
        refine cw_skip ?_
        refine cw_block ?_
        obtain ⟨x88, hx89, h90⟩ := bind_some h86
        have hx89g := gx_some hx89
        obtain ⟨x91, hx92, h93⟩ := bind_some h90
        refine cw_seq (cw_region_any mixed (by kernel_rfl) (
          .cons (o_mv rfl rfl .no rfl) <|
          .cons (o_mv rfl rfl .no rfl) <|
          .cons (o_ixM (enc := eapiChange) (xs := a0) rfl rfl .no rfl rfl sl34 sz38 hx89g.1 hx89g.2) <|
          .cons (o_fld rfl rfl .no rfl fld38_0 (by decide) rfl rfl) <|
          .cons (o_ld rfl rfl .no rfl ta27 rfl rfl) <|
          .cons (o_fldP rfl rfl .no rfl fld38_0 (by decide)) <|
          .cons (o_ldP [0] rfl rfl .no rfl rfl rfl ta27 rfl rfl) <|
          .cons (o_call rfl rfl .no Try.func13 rfl rfl (ref03_Less_ok hx92) (.cons rfl .d (.cons rfl .d .nil)) ⟨trivial, trivial, trivial⟩ (.inl rfl)) <|
          .cons (o_as rfl rfl .no rfl) <|
          .nil rfl
        ) (by kernel_rfl) ?_)
        refine cw_seq ?_
        refine cw_seq (cw_region (
          .cons (o_mv rfl rfl .no rfl) <|
          .cons (o_not rfl rfl .no rfl) <|
          .nil rfl
        ) ?_)
        rcases cond_some h93 with ⟨hc94, h95⟩ | ⟨hc94, h96⟩
        · refine cw_condT rfl hc94 ?_
          refine cw_exit ?_
          exact ⟨v81, (hx84 _ (Option.some.inj h95).symm).symm, weak_of ⟨⟨_, rfl, .d rfl⟩, ⟨_, rfl, .ptr rfl rfl⟩, ⟨_, rfl, .d rfl⟩, trivial⟩ ⟨.box rfl (.d rfl), trivial⟩ drop0⟩
        · refine cw_condF rfl hc94 ?_
          refine cw_skip ?_
          refine cw_region (
            .cons (o_mv rfl rfl .no rfl) <|
            .cons (o_bin rfl rfl .no rfl rfl (b_add _ _) rfl) <|
            .cons (o_as rfl rfl .no rfl) <|
            .nil rfl
          ) ?_
          exact ⟨(IntKind.wrap .i64 (v81 + 1)), (Option.some.inj h96).symm, weak_of ⟨⟨_, rfl, .d rfl⟩, ⟨_, rfl, .ptr rfl rfl⟩, ⟨_, rfl, .d rfl⟩, trivial⟩ ⟨.box rfl (.d rfl), trivial⟩ drop0⟩
      · refine cw_condF rfl hc85 ?_
        refine cw_exit ?_
        exact ⟨v81, (hx84 _ (Option.some.inj h87).symm).symm, weak_of ⟨⟨_, rfl, .d rfl⟩, ⟨_, rfl, .ptr rfl rfl⟩, ⟨_, rfl, .d rfl⟩, trivial⟩ ⟨.box rfl (.d rfl), trivial⟩ drop0⟩
  · skip
    refine cw_seq (cw_region (
      .cons (o_fldP rfl rfl .no rfl fld38_2 (by decide)) <|
      .cons (o_ldP [2] rfl rfl .no rfl rfl rfl ta4 rfl rfl) <|
      .nil rfl
    ) ?_)
    rcases cond_some hj5 with ⟨hc7, h8⟩ | ⟨hc7, h9⟩
    · refine cw_condT rfl hc7 ?_
      refine cw_region (
        .cons (o_fldP rfl rfl .no rfl fld38_1 (by decide)) <|
        .cons (o_st [1] rfl .no rfl rfl rfl rfl rfl sz9 rfl rfl) <|
        .nil rfl
      ) ?_
      exact ⟨(a1.1, (ByteArray.mk #[]), a1.2.2), (Option.some.inj h8).symm, weak_of ⟨⟨_, rfl, .d rfl⟩, ⟨_, rfl, .ptr rfl rfl⟩, trivial⟩ ⟨.box rfl (.d rfl), trivial⟩ drop0⟩
    · refine cw_condF rfl hc7 ?_
      refine cw_skip ?_
      exact ⟨a1, (Option.some.inj h9).symm, weak_of ⟨⟨_, rfl, .d rfl⟩, ⟨_, rfl, .ptr rfl rfl⟩, trivial⟩ ⟨.box rfl (.d rfl), trivial⟩ drop0⟩

set_option maxRecDepth 100000 in
theorem law09_changes_ok {a0 : List ((List UInt8) × ByteArray × Bool)} {r : (List ((List UInt8) × ByteArray × Bool))} (h : law09_changes a0 = some r) : FnOk Try.prog 20 [.d (eSapiChange a0)] 0 (lk []) (fun rr oo => rr = .d (eSapiChange r) ∧ oo = lk []) := by
  refine fnOk_of Try.func20 rfl rfl ?_
  unfold law09_changes at h
  refine cw_seq (cw_region (
    .cons (o_as rfl rfl .no rfl) <|
    .nil rfl
  ) ?_)
  refine cw_seq (cw_region (
    .cons (o_as rfl rfl .no rfl) <|
    .nil rfl
  ) ?_)
  obtain ⟨o76, hj77, h78⟩ := bind_some h
  refine cw_join (fun (z : (List ((List UInt8) × ByteArray × Bool))) => St.of [(3, .arr 1 0)] [(1, .arr 0 26 (z.map eapiChange))]) (fun (z : (List ((List UInt8) × ByteArray × Bool))) => o76 = z) ?_ ?_
  · intro v154 hv155; subst hv155
    refine cw_seq (cw_region (
      .cons (o_mv rfl rfl .no rfl) <|
      .cons (o_as rfl rfl .no rfl) <|
      .nil rfl
    ) ?_)
    have heq := ((Option.some.inj h78).symm).symm
    subst heq
    exact cw_weak (weak_of (l := [(2, .d (eSapiChange o76))]) (m := []) ⟨⟨_, rfl, .frz rfl rfl rfl⟩, trivial⟩ trivial drop0) (cw_ret ⟨.inr rfl, _, res1 rfl rfl, rfl, rfl⟩)
  · skip
    refine cw_seq (cw_region (
      .cons (o_as rfl rfl .no rfl) <|
      .nil rfl
    ) ?_)
    refine cw_block ?_
    refine cw_while (V := (Int × (List ((List UInt8) × ByteArray × Bool)))) (O := (List ((List UInt8) × ByteArray × Bool))) (fun (z : (Int × (List ((List UInt8) × ByteArray × Bool)))) => St.of [(0, .d (eSapiChange a0)), (3, .arr 1 0), (4, .d (eint z.1))] [(1, .arr 0 26 (z.2.map eapiChange))]) hj77 (weak_of ⟨⟨_, rfl, .d rfl⟩, ⟨_, rfl, .nila rfl rfl⟩, ⟨_, rfl, .d rfl⟩, trivial⟩ ⟨.nil rfl, trivial⟩ drop0) ?_
    intro v127 x128 hb129 hx130
    refine cw_seq ?_
    obtain ⟨o134, hj135, h136⟩ := bind_some hb129
    refine cw_join (fun (z : Bool) => St.of [(0, .d (eSapiChange a0)), (3, .arr 1 0), (4, .d (eint v127.1)), (13, .d (ebool z))] [(1, .arr 0 26 (v127.2.map eapiChange))]) (fun (z : Bool) => o134 = z) ?_ ?_
    · intro v152 hv153; subst hv153
      rcases cond_some h136 with ⟨hc140, h141⟩ | ⟨hc140, h142⟩
      · refine cw_condT rfl hc140 ?_
        refine cw_skip ?_
        refine cw_seq ?_
        refine cw_block ?_
        obtain ⟨x143, hx144, h145⟩ := bind_some h141
        have hx144g := gx_some hx144
        refine cw_seq (cw_region (
          .cons (o_mv rfl rfl .no rfl) <|
          .cons (o_mv rfl rfl .no rfl) <|
          .cons (o_ixM (enc := eapiChange) (xs := a0) rfl rfl .no rfl rfl sl34 sz38 hx144g.1 hx144g.2) <|
          .cons (o_ld rfl rfl .no rfl ta38 rfl rfl) <|
          .cons (o_alloc 0 rfl rfl .no ze38 rfl) <|
          .cons (o_st [] rfl .no rfl rfl rfl rfl rfl sz38 rfl rfl) <|
          .nil rfl
        ) ?_)
        obtain ⟨x146, hx147, h148⟩ := bind_some h145
        have hx147g := cutB_some hx147
        refine cw_seq (cw_region (
          .cons (o_fldP rfl rfl .no rfl fld38_1 (by decide)) <|
          .cons (o_ldP [1] rfl rfl .no rfl rfl rfl ta9 rfl rfl) <|
          .cons (o_fldP rfl rfl .no rfl fld38_1 (by decide)) <|
          .cons (o_ldP [1] rfl rfl .no rfl rfl rfl ta9 rfl rfl) <|
          .cons (o_lenS rfl rfl .no rfl un9) <|
          .cons (o_min rfl rfl .no rfl rfl) <|
          .cons (o_slS rfl rfl .no rfl un9 .no (.val rfl hx147g.2.1) hx147g.2.2.1 hx147g.2.2.2) <|
          .cons (o_fldP rfl rfl .no rfl fld38_1 (by decide)) <|
          .cons (o_st [1] rfl .no rfl rfl rfl rfl rfl sz9 rfl rfl) <|
          .nil rfl
        ) ?_)
        obtain ⟨x149, hx150, h151⟩ := bind_some h148
        have hx150g := fits_some hx150
        refine cw_region (
          .cons (o_mv rfl rfl .no rfl) <|
          .cons (o_ldP [] rfl rfl .no rfl rfl rfl ta38 rfl rfl) <|
          .cons (o_bsl (rows := ([(x143.1, (x143.2.1.extract 0 (min (x143.2.1.size : Int) 40).toNat), x143.2.2)] : List ((List UInt8) × ByteArray × Bool)).map eapiChange) rfl rfl .no (.cons rfl .nil) rfl sl34 sz38 ze38 rfl (map_sz siapiChange) (by decide)) <|
          .cons (o_appM (enc := eapiChange) (xs := v127.2) (ys := [(x143.1, (x143.2.1.extract 0 (min (x143.2.1.size : Int) 40).toNat), x143.2.2)]) rfl rfl .no rfl rfl rfl siapiChange sl34 sl34 sz38 by38 ze38 rfl (by decide) hx150g) <|
          .cons (o_as rfl rfl .no rfl) <|
          .nil rfl
        ) ?_
        refine cw_region (
          .cons (o_mv rfl rfl .no rfl) <|
          .cons (o_bin rfl rfl .no rfl rfl (b_add _ _) rfl) <|
          .cons (o_as rfl rfl .no rfl) <|
          .nil rfl
        ) ?_
        exact ⟨((IntKind.wrap .i64 (v127.1 + 1)), (v127.2 ++ [(x143.1, (x143.2.1.extract 0 (min (x143.2.1.size : Int) 40).toNat), x143.2.2)])), (Option.some.inj h151).symm, weak_of ⟨⟨_, rfl, .d rfl⟩, ⟨_, rfl, .arr rfl rfl⟩, ⟨_, rfl, .d rfl⟩, trivial⟩ ⟨.arr0 rfl rfl rfl, trivial⟩ drop0⟩
      · refine cw_condF rfl hc140 ?_
        refine cw_exit ?_
        exact ⟨v127.2, (hx130 _ (Option.some.inj h142).symm).symm, weak_of ⟨⟨_, rfl, .arr rfl rfl⟩, trivial⟩ ⟨.arr rfl rfl, trivial⟩ drop0⟩
    · skip
      rcases cond_some hj135 with ⟨hc137, h138⟩ | ⟨hc137, h139⟩
      · skip
        refine cw_region (
          .cons (o_mv rfl rfl .no rfl) <|
          .cons (o_mv rfl rfl .no rfl) <|
          .cons (o_lenM (enc := eapiChange) (xs := a0) rfl rfl .no rfl sl34) <|
          .cons (o_bin rfl rfl .no rfl rfl (b_lss _ _) rfl) <|
          .cons (o_mv rfl rfl .no rfl) <|
          .cons (o_mv rfl rfl (.yes rfl rfl hc137) rfl) <|
          .cons (o_bin rfl rfl (.yes rfl rfl hc137) rfl rfl (b_lss _ _) rfl) <|
          .cons (o_pickT rfl rfl .no rfl hc137 rfl) <|
          .nil rfl
        ) ?_
        exact ⟨(decide (v127.1 < 40)), (Option.some.inj h138).symm, weak_of ⟨⟨_, rfl, .d rfl⟩, ⟨_, rfl, .arr rfl rfl⟩, ⟨_, rfl, .d rfl⟩, ⟨_, rfl, .d rfl⟩, trivial⟩ ⟨.arr rfl rfl, trivial⟩ drop0⟩
      · skip
        refine cw_region (
          .cons (o_mv rfl rfl .no rfl) <|
          .cons (o_mv rfl rfl .no rfl) <|
          .cons (o_lenM (enc := eapiChange) (xs := a0) rfl rfl .no rfl sl34) <|
          .cons (o_bin rfl rfl .no rfl rfl (b_lss _ _) rfl) <|
          .cons (o_mv rfl rfl .no rfl) <|
          .cons (o_noT rfl rfl rfl rfl hc137) <|
          .cons (o_noT rfl rfl rfl rfl hc137) <|
          .cons (o_pickF rfl rfl .no rfl hc137 rfl) <|
          .nil rfl
        ) ?_
        exact ⟨false, (Option.some.inj h139).symm, weak_of ⟨⟨_, rfl, .d rfl⟩, ⟨_, rfl, .arr rfl rfl⟩, ⟨_, rfl, .d rfl⟩, ⟨_, rfl, .d rfl⟩, trivial⟩ ⟨.arr rfl rfl, trivial⟩ drop0⟩

set_option maxRecDepth 100000 in
theorem ref09_Apply_ok {a0 : List ((List UInt8) × ByteArray)} {a1 : List ((List UInt8) × ByteArray × Bool)} {r : (List ((List UInt8) × ByteArray))} (h : ref09_Apply a0 a1 = some r) : FnOk Try.prog 22 [.d (eSapiPair a0), .d (eSapiChange a1)] 0 (lk []) (fun rr oo => rr = .d (eSapiPair r) ∧ oo = lk []) := by
  refine fnOk_of Try.func22 rfl rfl ?_
  unfold ref09_Apply at h
  refine cw_seq (cw_region (
    .cons (o_as rfl rfl .no rfl) <|
    .nil rfl
  ) ?_)
  obtain ⟨x1, hx2, h3⟩ := bind_some h
  refine cw_seq (cw_region (
    .cons (o_mv rfl rfl .no rfl) <|
    .cons (o_call rfl rfl .no Try.func21 rfl rfl (ref09_Map_ok hx2) (.cons rfl .d .nil) ⟨trivial, trivial⟩ (.inl rfl)) <|
    .cons (o_as rfl rfl .no rfl) <|
    .nil rfl
  ) ?_)
  obtain ⟨o196, hj197, h198⟩ := bind_some h3
  refine cw_join (fun (z : (List ((List UInt8) × ByteArray))) => St.of [(5, .d (eSapiPair z))] []) (fun (z : (List ((List UInt8) × ByteArray))) => o196 = z) ?_ ?_
  · intro v391 hv392; subst hv392
    refine cw_seq (cw_region (
      .cons (o_mv rfl rfl .no rfl) <|
      .cons (o_as rfl rfl .no rfl) <|
      .nil rfl
    ) ?_)
    have heq := ((Option.some.inj h198).symm).symm
    subst heq
    exact cw_weak (weak_of (l := [(4, .d (eSapiPair o196))]) (m := []) ⟨⟨_, rfl, .d rfl⟩, trivial⟩ trivial drop0) (cw_ret ⟨.inr rfl, _, res1 rfl rfl, rfl, rfl⟩)
  · skip
    refine cw_seq (cw_region (
      .cons (o_as rfl rfl .no rfl) <|
      .nil rfl
    ) ?_)
    refine cw_block ?_
    refine cw_while (V := ((List ((List UInt8) × ByteArray)) × Int)) (O := (List ((List UInt8) × ByteArray))) (fun (z : ((List ((List UInt8) × ByteArray)) × Int)) => St.of [(1, .d (eSapiChange a1)), (5, .d (eSapiPair z.1)), (6, .d (eint z.2))] []) hj197 (weak_of ⟨⟨_, rfl, .d rfl⟩, ⟨_, rfl, .d rfl⟩, ⟨_, rfl, .d rfl⟩, trivial⟩ trivial drop0) ?_
    intro v325 x326 hb327 hx328
    refine cw_seq ?_
    refine cw_seq (cw_region (
      .cons (o_mv rfl rfl .no rfl) <|
      .cons (o_mv rfl rfl .no rfl) <|
      .cons (o_lenM (enc := eapiChange) (xs := a1) rfl rfl .no rfl sl34) <|
      .cons (o_bin rfl rfl .no rfl rfl (b_lss _ _) rfl) <|
      .nil rfl
    ) ?_)
    rcases cond_some hb327 with ⟨hc329, h330⟩ | ⟨hc329, h331⟩
    · refine cw_condT rfl hc329 ?_
      refine cw_skip ?_
      obtain ⟨o359, hj360, h361⟩ := bind_some h330
      refine cw_join (fun (z : (List ((List UInt8) × ByteArray))) => St.of [(1, .d (eSapiChange a1)), (5, .d (eSapiPair z)), (6, .d (eint v325.2))] []) (fun (z : (List ((List UInt8) × ByteArray))) => o359 = z) ?_ ?_
      · intro v389 hv390; subst hv390
        refine cw_region (
          .cons (o_mv rfl rfl .no rfl) <|
          .cons (o_bin rfl rfl .no rfl rfl (b_add _ _) rfl) <|
          .cons (o_as rfl rfl .no rfl) <|
          .nil rfl
        ) ?_
        exact ⟨(o359, (IntKind.wrap .i64 (v325.2 + 1))), (Option.some.inj h361).symm, weak_of ⟨⟨_, rfl, .d rfl⟩, ⟨_, rfl, .d rfl⟩, ⟨_, rfl, .d rfl⟩, trivial⟩ trivial drop0⟩
      · skip
        refine cw_block ?_
        obtain ⟨x362, hx363, h364⟩ := bind_some hj360
        have hx363g := gx_some hx363
        obtain ⟨x365, hx366, h367⟩ := bind_some h364
        refine cw_seq (cw_region (
          .cons (o_mv rfl rfl .no rfl) <|
          .cons (o_mv rfl rfl .no rfl) <|
          .cons (o_mv rfl rfl .no rfl) <|
          .cons (o_ixM (enc := eapiChange) (xs := a1) rfl rfl .no rfl rfl sl34 sz38 hx363g.1 hx363g.2) <|
          .cons (o_fld rfl rfl .no rfl fld38_0 (by decide) rfl rfl) <|
          .cons (o_ld rfl rfl .no rfl ta27 rfl rfl) <|
          .cons (o_call rfl rfl .no Try.func31 rfl rfl (ref09_find_ok hx366) (.cons rfl .d (.cons rfl .d .nil)) ⟨trivial, trivial, trivial⟩ (.inl rfl)) <|
          .cons (o_mv rfl rfl .no rfl) <|
          .cons (o_ext rfl rfl .no rfl rfl) <|
          .cons (o_ext rfl rfl .no rfl rfl) <|
          .cons (o_as rfl rfl .no rfl) <|
          .cons (o_as rfl rfl .no rfl) <|
          .nil rfl
        ) ?_)
        refine cw_seq (cw_region (
          .cons (o_mv rfl rfl .no rfl) <|
          .cons (o_mv rfl rfl .no rfl) <|
          .cons (o_ixM (enc := eapiChange) (xs := a1) rfl rfl .no rfl rfl sl34 sz38 hx363g.1 hx363g.2) <|
          .cons (o_fld rfl rfl .no rfl fld38_2 (by decide) rfl rfl) <|
          .cons (o_ld rfl rfl .no rfl ta4 rfl rfl) <|
          .cons (o_not rfl rfl .no rfl) <|
          .nil rfl
        ) ?_)
        rcases cond_some h367 with ⟨hc368, h369⟩ | ⟨hc368, h370⟩
        · refine cw_condT rfl hc368 ?_
          obtain ⟨x371, hx372, h373⟩ := bind_some h369
          refine cw_region_any mixed (by kernel_rfl) (
            .cons (o_mv rfl rfl .no rfl) <|
            .cons (o_mv rfl rfl .no rfl) <|
            .cons (o_mv rfl rfl .no rfl) <|
            .cons (o_ixM (enc := eapiChange) (xs := a1) rfl rfl .no rfl rfl sl34 sz38 hx363g.1 hx363g.2) <|
            .cons (o_fld rfl rfl .no rfl fld38_0 (by decide) rfl rfl) <|
            .cons (o_ld rfl rfl .no rfl ta27 rfl rfl) <|
            .cons (o_mv rfl rfl .no rfl) <|
            .cons (o_mv rfl rfl .no rfl) <|
            .cons (o_ixM (enc := eapiChange) (xs := a1) rfl rfl .no rfl rfl sl34 sz38 hx363g.1 hx363g.2) <|
            .cons (o_fld rfl rfl .no rfl fld38_1 (by decide) rfl rfl) <|
            .cons (o_ld rfl rfl .no rfl ta9 rfl rfl) <|
            .cons (o_bld (ds := [eapiKey x362.1, estring x362.2.1]) rfl rfl .no zs29 rfl pl29 (.cons rfl rfl rfl rfl rfl rfl rfl (.cons rfl rfl rfl rfl rfl rfl rfl .nil))) <|
            .cons (o_call rfl rfl .no Try.func36 rfl rfl (ref09_put_ok hx372) (.cons rfl .d (.cons rfl .d .nil)) ⟨trivial, trivial, trivial⟩ (.inl rfl)) <|
            .cons (o_as rfl rfl .no rfl) <|
            .nil rfl
          ) (by kernel_rfl) ?_
          exact ⟨x371, (Option.some.inj h373).symm, weak_of ⟨⟨_, rfl, .d rfl⟩, ⟨_, rfl, .d rfl⟩, ⟨_, rfl, .d rfl⟩, trivial⟩ trivial drop0⟩
        · refine cw_condF rfl hc368 ?_
          refine cw_seq (cw_region (
            .cons (o_mv rfl rfl .no rfl) <|
            .nil rfl
          ) ?_)
          rcases cond_some h370 with ⟨hc374, h375⟩ | ⟨hc374, h376⟩
          · refine cw_condT rfl hc374 ?_
            obtain ⟨x377, hx378, h379⟩ := bind_some h375
            have hx378g := cutB_some hx378
            obtain ⟨x380, hx381, h382⟩ := bind_some h379
            have hx381g := fits_some hx381
            obtain ⟨x383, hx384, h385⟩ := bind_some h382
            have hx384g := cutB_some hx384
            obtain ⟨x386, hx387, h388⟩ := bind_some h385
            have hx387g := fits_some hx387
            refine cw_region_any mixed (by kernel_rfl) (
              .cons (o_bslO (rows := ([] : List ((List UInt8) × ByteArray)).map eapiPair) 0 rfl rfl .no .nil rfl sl22 sz29 ze29 rfl (map_sz siapiPair) (by decide) rfl) <|
              .cons (o_mv rfl rfl .no rfl) <|
              .cons (o_mv rfl rfl .no rfl) <|
              .cons (o_slM (enc := eapiPair) (xs := v325.1) rfl rfl .no rfl sl22 sz29 .no (.val rfl hx378g.2.1) hx378g.2.2.1 hx378g.2.2.2) <|
              .cons (o_appM (enc := eapiPair) (xs := ([] : List ((List UInt8) × ByteArray))) (ys := (piece v325.1 0 x365.1)) rfl rfl .no rfl rfl rfl siapiPair sl22 sl22 sz29 by29 ze29 rfl (by decide) hx381g) <|
              .cons (o_mv rfl rfl .no rfl) <|
              .cons (o_mv rfl rfl .no rfl) <|
              .cons (o_bin rfl rfl .no rfl rfl (b_add _ _) rfl) <|
              .cons (o_slM (enc := eapiPair) (xs := v325.1) rfl rfl .no rfl sl22 sz29 (.val rfl hx384g.1) .no hx384g.2.2.1 hx384g.2.2.2) <|
              .cons (o_appM (enc := eapiPair) (xs := (([] : List ((List UInt8) × ByteArray)) ++ (piece v325.1 0 x365.1))) (ys := (piece v325.1 (IntKind.wrap .i64 (x365.1 + 1)) (v325.1.length : Int))) rfl rfl .no rfl rfl rfl siapiPair sl22 sl22 sz29 by29 ze29 rfl (by decide) hx387g) <|
              .cons (o_as rfl rfl .no rfl) <|
              .nil rfl
            ) (by kernel_rfl) ?_
            exact ⟨((([] : List ((List UInt8) × ByteArray)) ++ (piece v325.1 0 x365.1)) ++ (piece v325.1 (IntKind.wrap .i64 (x365.1 + 1)) (v325.1.length : Int))), (Option.some.inj h388).symm, weak_of ⟨⟨_, rfl, .d rfl⟩, ⟨_, rfl, .frz rfl rfl rfl⟩, ⟨_, rfl, .d rfl⟩, trivial⟩ trivial drop0⟩
          · refine cw_condF rfl hc374 ?_
            refine cw_skip ?_
            exact ⟨v325.1, (Option.some.inj h376).symm, weak_of ⟨⟨_, rfl, .d rfl⟩, ⟨_, rfl, .d rfl⟩, ⟨_, rfl, .d rfl⟩, trivial⟩ trivial drop0⟩
    · refine cw_condF rfl hc329 ?_
      refine cw_exit ?_
      exact ⟨v325.1, (hx328 _ (Option.some.inj h331).symm).symm, weak_of ⟨⟨_, rfl, .d rfl⟩, trivial⟩ trivial drop0⟩

set_option maxRecDepth 100000 in
theorem ref09_Diff_ok {a0 : List ((List UInt8) × ByteArray)} {a1 : List ((List UInt8) × ByteArray)} {r : (List ((List UInt8) × ByteArray × Bool))} (h : ref09_Diff a0 a1 = some r) : FnOk Try.prog 24 [.d (eSapiPair a0), .d (eSapiPair a1)] 0 (lk []) (fun rr oo => rr = .d (eSapiChange r) ∧ oo = lk []) := by
  refine fnOk_of Try.func24 rfl rfl ?_
  unfold ref09_Diff at h
  refine cw_seq (cw_region (
    .cons (o_as rfl rfl .no rfl) <|
    .nil rfl
  ) ?_)
  obtain ⟨x1, hx2, h3⟩ := bind_some h
  refine cw_seq (cw_region (
    .cons (o_mv rfl rfl .no rfl) <|
    .cons (o_call rfl rfl .no Try.func21 rfl rfl (ref09_Map_ok hx2) (.cons rfl .d .nil) ⟨trivial, trivial⟩ (.inl rfl)) <|
    .cons (o_as rfl rfl .no rfl) <|
    .nil rfl
  ) ?_)
  obtain ⟨x4, hx5, h6⟩ := bind_some h3
  refine cw_seq (cw_region (
    .cons (o_mv rfl rfl .no rfl) <|
    .cons (o_call rfl rfl .no Try.func21 rfl rfl (ref09_Map_ok hx5) (.cons rfl .d .nil) ⟨trivial, trivial⟩ (.inl rfl)) <|
    .cons (o_as rfl rfl .no rfl) <|
    .nil rfl
  ) ?_)
  refine cw_seq (cw_region (
    .cons (o_as rfl rfl .no rfl) <|
    .nil rfl
  ) ?_)
  obtain ⟨o145, hj146, h147⟩ := bind_some h6
  refine cw_join (fun (z : (List ((List UInt8) × ByteArray × Bool))) => St.of [(0, .d (eSapiPair x1)), (1, .d (eSapiPair x4)), (5, .d (eSapiChange z))] []) (fun (z : (List ((List UInt8) × ByteArray × Bool))) => o145 = z) ?_ ?_
  · intro v495 hv496; subst hv496
    obtain ⟨o388, hj389, h390⟩ := bind_some h147
    refine cw_join (fun (z : (List ((List UInt8) × ByteArray × Bool))) => St.of [(5, .d (eSapiChange z))] []) (fun (z : (List ((List UInt8) × ByteArray × Bool))) => o388 = z) ?_ ?_
    · intro v493 hv494; subst hv494
      refine cw_seq (cw_region (
        .cons (o_mv rfl rfl .no rfl) <|
        .cons (o_as rfl rfl .no rfl) <|
        .nil rfl
      ) ?_)
      have heq := ((Option.some.inj h390).symm).symm
      subst heq
      exact cw_weak (weak_of (l := [(4, .d (eSapiChange o388))]) (m := []) ⟨⟨_, rfl, .d rfl⟩, trivial⟩ trivial drop0) (cw_ret ⟨.inr rfl, _, res1 rfl rfl, rfl, rfl⟩)
    · skip
      refine cw_seq (cw_region (
        .cons (o_as rfl rfl .no rfl) <|
        .nil rfl
      ) ?_)
      refine cw_block ?_
      refine cw_while (V := ((List ((List UInt8) × ByteArray × Bool)) × Int)) (O := (List ((List UInt8) × ByteArray × Bool))) (fun (z : ((List ((List UInt8) × ByteArray × Bool)) × Int)) => St.of [(0, .d (eSapiPair x1)), (1, .d (eSapiPair x4)), (5, .d (eSapiChange z.1)), (9, .d (eint z.2))] []) hj389 (weak_of ⟨⟨_, rfl, .d rfl⟩, ⟨_, rfl, .d rfl⟩, ⟨_, rfl, .d rfl⟩, ⟨_, rfl, .d rfl⟩, trivial⟩ trivial drop0) ?_
      intro v457 x458 hb459 hx460
      refine cw_seq ?_
      refine cw_seq (cw_region (
        .cons (o_mv rfl rfl .no rfl) <|
        .cons (o_mv rfl rfl .no rfl) <|
        .cons (o_lenM (enc := eapiPair) (xs := x4) rfl rfl .no rfl sl22) <|
        .cons (o_bin rfl rfl .no rfl rfl (b_lss _ _) rfl) <|
        .nil rfl
      ) ?_)
      rcases cond_some hb459 with ⟨hc461, h462⟩ | ⟨hc461, h463⟩
      · refine cw_condT rfl hc461 ?_
        refine cw_skip ?_
        obtain ⟨o476, hj477, h478⟩ := bind_some h462
        refine cw_join (fun (z : (List ((List UInt8) × ByteArray × Bool))) => St.of [(0, .d (eSapiPair x1)), (1, .d (eSapiPair x4)), (5, .d (eSapiChange z)), (9, .d (eint v457.2))] []) (fun (z : (List ((List UInt8) × ByteArray × Bool))) => o476 = z) ?_ ?_
        · intro v491 hv492; subst hv492
          refine cw_region (
            .cons (o_mv rfl rfl .no rfl) <|
            .cons (o_bin rfl rfl .no rfl rfl (b_add _ _) rfl) <|
            .cons (o_as rfl rfl .no rfl) <|
            .nil rfl
          ) ?_
          exact ⟨(o476, (IntKind.wrap .i64 (v457.2 + 1))), (Option.some.inj h478).symm, weak_of ⟨⟨_, rfl, .d rfl⟩, ⟨_, rfl, .d rfl⟩, ⟨_, rfl, .d rfl⟩, ⟨_, rfl, .d rfl⟩, trivial⟩ trivial drop0⟩
        · skip
          refine cw_block ?_
          obtain ⟨x479, hx480, h481⟩ := bind_some hj477
          have hx480g := gx_some hx480
          obtain ⟨x482, hx483, h484⟩ := bind_some h481
          refine cw_seq (cw_region (
            .cons (o_mv rfl rfl .no rfl) <|
            .cons (o_mv rfl rfl .no rfl) <|
            .cons (o_mv rfl rfl .no rfl) <|
            .cons (o_ixM (enc := eapiPair) (xs := x4) rfl rfl .no rfl rfl sl22 sz29 hx480g.1 hx480g.2) <|
            .cons (o_fld rfl rfl .no rfl fld29_0 (by decide) rfl rfl) <|
            .cons (o_ld rfl rfl .no rfl ta27 rfl rfl) <|
            .cons (o_call rfl rfl .no Try.func14 rfl rfl (ref09_Get_ok hx483) (.cons rfl .d (.cons rfl .d .nil)) ⟨trivial, trivial, trivial⟩ (.inl rfl)) <|
            .cons (o_mv rfl rfl .no rfl) <|
            .cons (o_ext rfl rfl .no rfl rfl) <|
            .cons (o_ext rfl rfl .no rfl rfl) <|
            .cons (o_as rfl rfl .no rfl) <|
            .cons (o_as rfl rfl .no rfl) <|
            .nil rfl
          ) ?_)
          refine cw_seq (cw_region (
            .cons (o_mv rfl rfl .no rfl) <|
            .cons (o_not rfl rfl .no rfl) <|
            .nil rfl
          ) ?_)
          rcases cond_some h484 with ⟨hc485, h486⟩ | ⟨hc485, h487⟩
          · refine cw_condT rfl hc485 ?_
            obtain ⟨x488, hx489, h490⟩ := bind_some h486
            refine cw_region_any mixed (by kernel_rfl) (
              .cons (o_mv rfl rfl .no rfl) <|
              .cons (o_mv rfl rfl .no rfl) <|
              .cons (o_mv rfl rfl .no rfl) <|
              .cons (o_ixM (enc := eapiPair) (xs := x4) rfl rfl .no rfl rfl sl22 sz29 hx480g.1 hx480g.2) <|
              .cons (o_fld rfl rfl .no rfl fld29_0 (by decide) rfl rfl) <|
              .cons (o_ld rfl rfl .no rfl ta27 rfl rfl) <|
              .cons (o_mv rfl rfl .no rfl) <|
              .cons (o_mv rfl rfl .no rfl) <|
              .cons (o_ixM (enc := eapiPair) (xs := x4) rfl rfl .no rfl rfl sl22 sz29 hx480g.1 hx480g.2) <|
              .cons (o_fld rfl rfl .no rfl fld29_1 (by decide) rfl rfl) <|
              .cons (o_ld rfl rfl .no rfl ta9 rfl rfl) <|
              .cons (o_bld (ds := [eapiKey x479.1, estring x479.2, ebool false]) rfl rfl .no zs38 rfl pl38 (.cons rfl rfl rfl rfl rfl rfl rfl (.cons rfl rfl rfl rfl rfl rfl rfl .nil))) <|
              .cons (o_call rfl rfl .no Try.func37 rfl rfl (ref09_with_ok hx489) (.cons rfl .d (.cons rfl .d .nil)) ⟨trivial, trivial, trivial⟩ (.inl rfl)) <|
              .cons (o_as rfl rfl .no rfl) <|
              .nil rfl
            ) (by kernel_rfl) ?_
            exact ⟨x488, (Option.some.inj h490).symm, weak_of ⟨⟨_, rfl, .d rfl⟩, ⟨_, rfl, .d rfl⟩, ⟨_, rfl, .d rfl⟩, ⟨_, rfl, .d rfl⟩, trivial⟩ trivial drop0⟩
          · refine cw_condF rfl hc485 ?_
            refine cw_skip ?_
            exact ⟨v457.1, (Option.some.inj h487).symm, weak_of ⟨⟨_, rfl, .d rfl⟩, ⟨_, rfl, .d rfl⟩, ⟨_, rfl, .d rfl⟩, ⟨_, rfl, .d rfl⟩, trivial⟩ trivial drop0⟩
      · refine cw_condF rfl hc461 ?_
        refine cw_exit ?_
        exact ⟨v457.1, (hx460 _ (Option.some.inj h463).symm).symm, weak_of ⟨⟨_, rfl, .d rfl⟩, trivial⟩ trivial drop0⟩
  · skip
    refine cw_seq (cw_region (
      .cons (o_as rfl rfl .no rfl) <|
      .nil rfl
    ) ?_)
    refine cw_block ?_
    refine cw_while (V := ((List ((List UInt8) × ByteArray × Bool)) × Int)) (O := (List ((List UInt8) × ByteArray × Bool))) (fun (z : ((List ((List UInt8) × ByteArray × Bool)) × Int)) => St.of [(0, .d (eSapiPair x1)), (1, .d (eSapiPair x4)), (5, .d (eSapiChange z.1)), (6, .d (eint z.2))] []) hj146 (weak_of ⟨⟨_, rfl, .d rfl⟩, ⟨_, rfl, .d rfl⟩, ⟨_, rfl, .nil0⟩, ⟨_, rfl, .d rfl⟩, trivial⟩ trivial drop0) ?_
    intro v238 x239 hb240 hx241
    refine cw_seq ?_
    refine cw_seq (cw_region (
      .cons (o_mv rfl rfl .no rfl) <|
      .cons (o_mv rfl rfl .no rfl) <|
      .cons (o_lenM (enc := eapiPair) (xs := x1) rfl rfl .no rfl sl22) <|
      .cons (o_bin rfl rfl .no rfl rfl (b_lss _ _) rfl) <|
      .nil rfl
    ) ?_)
    rcases cond_some hb240 with ⟨hc242, h243⟩ | ⟨hc242, h244⟩
    · refine cw_condT rfl hc242 ?_
      refine cw_skip ?_
      obtain ⟨o263, hj264, h265⟩ := bind_some h243
      refine cw_join (fun (z : (List ((List UInt8) × ByteArray × Bool))) => St.of [(0, .d (eSapiPair x1)), (1, .d (eSapiPair x4)), (5, .d (eSapiChange z)), (6, .d (eint v238.2))] []) (fun (z : (List ((List UInt8) × ByteArray × Bool))) => o263 = z) ?_ ?_
      · intro v284 hv285; subst hv285
        refine cw_region (
          .cons (o_mv rfl rfl .no rfl) <|
          .cons (o_bin rfl rfl .no rfl rfl (b_add _ _) rfl) <|
          .cons (o_as rfl rfl .no rfl) <|
          .nil rfl
        ) ?_
        exact ⟨(o263, (IntKind.wrap .i64 (v238.2 + 1))), (Option.some.inj h265).symm, weak_of ⟨⟨_, rfl, .d rfl⟩, ⟨_, rfl, .d rfl⟩, ⟨_, rfl, .d rfl⟩, ⟨_, rfl, .d rfl⟩, trivial⟩ trivial drop0⟩
      · skip
        refine cw_block ?_
        obtain ⟨x266, hx267, h268⟩ := bind_some hj264
        have hx267g := gx_some hx267
        obtain ⟨x269, hx270, h271⟩ := bind_some h268
        refine cw_seq (cw_region (
          .cons (o_mv rfl rfl .no rfl) <|
          .cons (o_mv rfl rfl .no rfl) <|
          .cons (o_mv rfl rfl .no rfl) <|
          .cons (o_ixM (enc := eapiPair) (xs := x1) rfl rfl .no rfl rfl sl22 sz29 hx267g.1 hx267g.2) <|
          .cons (o_fld rfl rfl .no rfl fld29_0 (by decide) rfl rfl) <|
          .cons (o_ld rfl rfl .no rfl ta27 rfl rfl) <|
          .cons (o_call rfl rfl .no Try.func14 rfl rfl (ref09_Get_ok hx270) (.cons rfl .d (.cons rfl .d .nil)) ⟨trivial, trivial, trivial⟩ (.inl rfl)) <|
          .cons (o_mv rfl rfl .no rfl) <|
          .cons (o_ext rfl rfl .no rfl rfl) <|
          .cons (o_ext rfl rfl .no rfl rfl) <|
          .cons (o_as rfl rfl .no rfl) <|
          .cons (o_as rfl rfl .no rfl) <|
          .nil rfl
        ) ?_)
        refine cw_seq (cw_region (
          .cons (o_mv rfl rfl .no rfl) <|
          .cons (o_not rfl rfl .no rfl) <|
          .nil rfl
        ) ?_)
        rcases cond_some h271 with ⟨hc272, h273⟩ | ⟨hc272, h274⟩
        · refine cw_condT rfl hc272 ?_
          obtain ⟨x275, hx276, h277⟩ := bind_some h273
          refine cw_region (
            .cons (o_mv rfl rfl .no rfl) <|
            .cons (o_mv rfl rfl .no rfl) <|
            .cons (o_mv rfl rfl .no rfl) <|
            .cons (o_ixM (enc := eapiPair) (xs := x1) rfl rfl .no rfl rfl sl22 sz29 hx267g.1 hx267g.2) <|
            .cons (o_fld rfl rfl .no rfl fld29_0 (by decide) rfl rfl) <|
            .cons (o_ld rfl rfl .no rfl ta27 rfl rfl) <|
            .cons (o_bld (ds := [eapiKey x266.1, estring (ByteArray.mk #[]), ebool true]) rfl rfl .no zs38 rfl pl38 (.cons rfl rfl rfl rfl rfl rfl rfl (.cons rfl rfl rfl rfl rfl rfl rfl .nil))) <|
            .cons (o_call rfl rfl .no Try.func37 rfl rfl (ref09_with_ok hx276) (.cons rfl .d (.cons rfl .d .nil)) ⟨trivial, trivial, trivial⟩ (.inl rfl)) <|
            .cons (o_as rfl rfl .no rfl) <|
            .nil rfl
          ) ?_
          exact ⟨x275, (Option.some.inj h277).symm, weak_of ⟨⟨_, rfl, .d rfl⟩, ⟨_, rfl, .d rfl⟩, ⟨_, rfl, .d rfl⟩, ⟨_, rfl, .d rfl⟩, trivial⟩ trivial drop0⟩
        · refine cw_condF rfl hc272 ?_
          refine cw_seq (cw_region (
            .cons (o_mv rfl rfl .no rfl) <|
            .cons (o_mv rfl rfl .no rfl) <|
            .cons (o_mv rfl rfl .no rfl) <|
            .cons (o_ixM (enc := eapiPair) (xs := x1) rfl rfl .no rfl rfl sl22 sz29 hx267g.1 hx267g.2) <|
            .cons (o_fld rfl rfl .no rfl fld29_1 (by decide) rfl rfl) <|
            .cons (o_ld rfl rfl .no rfl ta9 rfl rfl) <|
            .cons (o_bin rfl rfl .no rfl rfl (s_neq _ _) rfl) <|
            .nil rfl
          ) ?_)
          rcases cond_some h274 with ⟨hc278, h279⟩ | ⟨hc278, h280⟩
          · refine cw_condT rfl hc278 ?_
            obtain ⟨x281, hx282, h283⟩ := bind_some h279
            refine cw_region (
              .cons (o_mv rfl rfl .no rfl) <|
              .cons (o_mv rfl rfl .no rfl) <|
              .cons (o_mv rfl rfl .no rfl) <|
              .cons (o_ixM (enc := eapiPair) (xs := x1) rfl rfl .no rfl rfl sl22 sz29 hx267g.1 hx267g.2) <|
              .cons (o_fld rfl rfl .no rfl fld29_0 (by decide) rfl rfl) <|
              .cons (o_ld rfl rfl .no rfl ta27 rfl rfl) <|
              .cons (o_mv rfl rfl .no rfl) <|
              .cons (o_bld (ds := [eapiKey x266.1, estring x269.1, ebool false]) rfl rfl .no zs38 rfl pl38 (.cons rfl rfl rfl rfl rfl rfl rfl (.cons rfl rfl rfl rfl rfl rfl rfl .nil))) <|
              .cons (o_call rfl rfl .no Try.func37 rfl rfl (ref09_with_ok hx282) (.cons rfl .d (.cons rfl .d .nil)) ⟨trivial, trivial, trivial⟩ (.inl rfl)) <|
              .cons (o_as rfl rfl .no rfl) <|
              .nil rfl
            ) ?_
            exact ⟨x281, (Option.some.inj h283).symm, weak_of ⟨⟨_, rfl, .d rfl⟩, ⟨_, rfl, .d rfl⟩, ⟨_, rfl, .d rfl⟩, ⟨_, rfl, .d rfl⟩, trivial⟩ trivial drop0⟩
          · refine cw_condF rfl hc278 ?_
            refine cw_skip ?_
            exact ⟨v238.1, (Option.some.inj h280).symm, weak_of ⟨⟨_, rfl, .d rfl⟩, ⟨_, rfl, .d rfl⟩, ⟨_, rfl, .d rfl⟩, ⟨_, rfl, .d rfl⟩, trivial⟩ trivial drop0⟩
    · refine cw_condF rfl hc242 ?_
      refine cw_exit ?_
      exact ⟨v238.1, (hx241 _ (Option.some.inj h244).symm).symm, weak_of ⟨⟨_, rfl, .d rfl⟩, ⟨_, rfl, .d rfl⟩, ⟨_, rfl, .d rfl⟩, trivial⟩ trivial drop0⟩

set_option maxRecDepth 100000 in
theorem ref09_alike_ok {a0 : List ((List UInt8) × ByteArray)} {a1 : List ((List UInt8) × ByteArray)} {a2 : List UInt8} {r : Bool} (h : ref09_alike a0 a1 a2 = some r) : FnOk Try.prog 39 [.d (eSapiPair a0), .d (eSapiPair a1), .d (eapiKey a2)] 0 (lk []) (fun rr oo => rr = .d (ebool r) ∧ oo = lk []) := by
  refine fnOk_of Try.func39 rfl rfl ?_
  unfold ref09_alike at h
  refine cw_seq (cw_region (
    .cons (o_box 0 rfl rfl .no rfl rfl rfl) <|
    .cons (o_as rfl rfl .no rfl) <|
    .nil rfl
  ) ?_)
  obtain ⟨x1, hx2, h3⟩ := bind_some h
  refine cw_seq (cw_region (
    .cons (o_mv rfl rfl .no rfl) <|
    .cons (o_ldP [] rfl rfl .no rfl rfl rfl ta27 rfl rfl) <|
    .cons (o_call rfl rfl .no Try.func14 rfl rfl (ref09_Get_ok hx2) (.cons rfl .d (.cons rfl .d .nil)) ⟨trivial, trivial, trivial⟩ (.inl rfl)) <|
    .cons (o_mv rfl rfl .no rfl) <|
    .cons (o_ext rfl rfl .no rfl rfl) <|
    .cons (o_ext rfl rfl .no rfl rfl) <|
    .cons (o_as rfl rfl .no rfl) <|
    .cons (o_as rfl rfl .no rfl) <|
    .nil rfl
  ) ?_)
  obtain ⟨x4, hx5, h6⟩ := bind_some h3
  refine cw_seq (cw_region (
    .cons (o_mv rfl rfl .no rfl) <|
    .cons (o_ldP [] rfl rfl .no rfl rfl rfl ta27 rfl rfl) <|
    .cons (o_call rfl rfl .no Try.func14 rfl rfl (ref09_Get_ok hx5) (.cons rfl .d (.cons rfl .d .nil)) ⟨trivial, trivial, trivial⟩ (.inl rfl)) <|
    .cons (o_mv rfl rfl .no rfl) <|
    .cons (o_ext rfl rfl .no rfl rfl) <|
    .cons (o_ext rfl rfl .no rfl rfl) <|
    .cons (o_as rfl rfl .no rfl) <|
    .cons (o_as rfl rfl .no rfl) <|
    .nil rfl
  ) ?_)
  obtain ⟨o10, hj11, h12⟩ := bind_some h6
  refine cw_join (fun (z : Bool) => St.of [(6, .d (ebool z))] []) (fun (z : Bool) => o10 = z) ?_ ?_
  · intro v16 hv17; subst hv17
    have heq := ((Option.some.inj h12).symm).symm
    subst heq
    exact cw_weak (weak_of (l := [(6, .d (ebool o10))]) (m := []) ⟨⟨_, rfl, .d rfl⟩, trivial⟩ trivial drop0) (cw_ret ⟨.inr rfl, _, res1 rfl rfl, rfl, rfl⟩)
  · skip
    rcases cond_some hj11 with ⟨hc13, h14⟩ | ⟨hc13, h15⟩
    · skip
      refine cw_region (
        .cons (o_mv rfl rfl .no rfl) <|
        .cons (o_mv rfl rfl .no rfl) <|
        .cons (o_bin rfl rfl .no rfl rfl (t_eql _ _ un4) rfl) <|
        .cons (o_mv rfl rfl .no rfl) <|
        .cons (o_mv rfl rfl (.yes rfl rfl hc13) rfl) <|
        .cons (o_mv rfl rfl (.yes rfl rfl hc13) rfl) <|
        .cons (o_bin rfl rfl (.yes rfl rfl hc13) rfl rfl (s_eql _ _) rfl) <|
        .cons (o_pickT rfl rfl .no rfl hc13 rfl) <|
        .cons (o_as rfl rfl .no rfl) <|
        .nil rfl
      ) ?_
      exact ⟨(decide (x1.1 = x4.1)), (Option.some.inj h14).symm, weak_of ⟨⟨_, rfl, .d rfl⟩, trivial⟩ trivial drop0⟩
    · skip
      refine cw_region (
        .cons (o_mv rfl rfl .no rfl) <|
        .cons (o_mv rfl rfl .no rfl) <|
        .cons (o_bin rfl rfl .no rfl rfl (t_eql _ _ un4) rfl) <|
        .cons (o_mv rfl rfl .no rfl) <|
        .cons (o_noT rfl rfl rfl rfl hc13) <|
        .cons (o_noT rfl rfl rfl rfl hc13) <|
        .cons (o_noT rfl rfl rfl rfl hc13) <|
        .cons (o_pickF rfl rfl .no rfl hc13 rfl) <|
        .cons (o_as rfl rfl .no rfl) <|
        .nil rfl
      ) ?_
      exact ⟨false, (Option.some.inj h15).symm, weak_of ⟨⟨_, rfl, .d rfl⟩, trivial⟩ trivial drop0⟩

set_option maxRecDepth 100000 in
theorem ref09_Join_ok {a0 : List (List ((List UInt8) × ByteArray × Bool))} {r : (List ((List UInt8) × ByteArray × Bool))} (h : ref09_Join a0 = some r) : FnOk Try.prog 26 [.d (eSSapiChange a0)] 0 (lk []) (fun rr oo => rr = .d (eSapiChange r) ∧ oo = lk []) := by
  refine fnOk_of Try.func26 rfl rfl ?_
  unfold ref09_Join at h
  refine cw_seq (cw_region (
    .cons (o_as rfl rfl .no rfl) <|
    .nil rfl
  ) ?_)
  refine cw_seq (cw_region (
    .cons (o_as rfl rfl .no rfl) <|
    .nil rfl
  ) ?_)
  obtain ⟨o283, hj284, h285⟩ := bind_some h
  refine cw_join (fun (z : (List ((List UInt8) × ByteArray × Bool))) => St.of [(3, .d (eSapiChange z))] []) (fun (z : (List ((List UInt8) × ByteArray × Bool))) => o283 = z) ?_ ?_
  · intro v568 hv569; subst hv569
    refine cw_seq (cw_region (
      .cons (o_mv rfl rfl .no rfl) <|
      .cons (o_as rfl rfl .no rfl) <|
      .nil rfl
    ) ?_)
    have heq := ((Option.some.inj h285).symm).symm
    subst heq
    exact cw_weak (weak_of (l := [(2, .d (eSapiChange o283))]) (m := []) ⟨⟨_, rfl, .d rfl⟩, trivial⟩ trivial drop0) (cw_ret ⟨.inr rfl, _, res1 rfl rfl, rfl, rfl⟩)
  · skip
    refine cw_seq (cw_region (
      .cons (o_as rfl rfl .no rfl) <|
      .nil rfl
    ) ?_)
    refine cw_block ?_
    refine cw_while (V := ((List ((List UInt8) × ByteArray × Bool)) × Int)) (O := (List ((List UInt8) × ByteArray × Bool))) (fun (z : ((List ((List UInt8) × ByteArray × Bool)) × Int)) => St.of [(0, .d (eSSapiChange a0)), (3, .d (eSapiChange z.1)), (4, .d (eint z.2))] []) hj284 (weak_of ⟨⟨_, rfl, .d rfl⟩, ⟨_, rfl, .nil0⟩, ⟨_, rfl, .d rfl⟩, trivial⟩ trivial drop0) ?_
    intro v472 x473 hb474 hx475
    refine cw_seq ?_
    refine cw_seq (cw_region (
      .cons (o_mv rfl rfl .no rfl) <|
      .cons (o_mv rfl rfl .no rfl) <|
      .cons (o_lenM (enc := eSapiChange) (xs := a0) rfl rfl .no rfl sl49) <|
      .cons (o_bin rfl rfl .no rfl rfl (b_lss _ _) rfl) <|
      .nil rfl
    ) ?_)
    rcases cond_some hb474 with ⟨hc476, h477⟩ | ⟨hc476, h478⟩
    · refine cw_condT rfl hc476 ?_
      refine cw_skip ?_
      obtain ⟨o521, hj522, h523⟩ := bind_some h477
      refine cw_join (fun (z : (List ((List UInt8) × ByteArray × Bool))) => St.of [(0, .d (eSSapiChange a0)), (3, .d (eSapiChange z)), (4, .d (eint v472.2))] []) (fun (z : (List ((List UInt8) × ByteArray × Bool))) => o521 = z) ?_ ?_
      · intro v566 hv567; subst hv567
        refine cw_region (
          .cons (o_mv rfl rfl .no rfl) <|
          .cons (o_bin rfl rfl .no rfl rfl (b_add _ _) rfl) <|
          .cons (o_as rfl rfl .no rfl) <|
          .nil rfl
        ) ?_
        exact ⟨(o521, (IntKind.wrap .i64 (v472.2 + 1))), (Option.some.inj h523).symm, weak_of ⟨⟨_, rfl, .d rfl⟩, ⟨_, rfl, .d rfl⟩, ⟨_, rfl, .d rfl⟩, trivial⟩ trivial drop0⟩
      · skip
        refine cw_block ?_
        refine cw_seq (cw_region (
          .cons (o_as rfl rfl .no rfl) <|
          .nil rfl
        ) ?_)
        refine cw_block ?_
        refine cw_while (V := ((List ((List UInt8) × ByteArray × Bool)) × Int)) (O := (List ((List UInt8) × ByteArray × Bool))) (fun (z : ((List ((List UInt8) × ByteArray × Bool)) × Int)) => St.of [(0, .d (eSSapiChange a0)), (3, .d (eSapiChange z.1)), (4, .d (eint v472.2)), (5, .d (eint z.2))] []) hj522 (weak_of ⟨⟨_, rfl, .d rfl⟩, ⟨_, rfl, .d rfl⟩, ⟨_, rfl, .d rfl⟩, ⟨_, rfl, .d rfl⟩, trivial⟩ trivial drop0) ?_
        intro v550 x551 hb552 hx553
        refine cw_seq ?_
        obtain ⟨x554, hx555, h556⟩ := bind_some hb552
        have hx555g := gx_some hx555
        refine cw_seq (cw_region (
          .cons (o_mv rfl rfl .no rfl) <|
          .cons (o_mv rfl rfl .no rfl) <|
          .cons (o_mv rfl rfl .no rfl) <|
          .cons (o_ixM (enc := eSapiChange) (xs := a0) rfl rfl .no rfl rfl sl49 sz34 hx555g.1 hx555g.2) <|
          .cons (o_ld rfl rfl .no rfl ta34 rfl rfl) <|
          .cons (o_lenM (enc := eapiChange) (xs := x554) rfl rfl .no rfl sl34) <|
          .cons (o_bin rfl rfl .no rfl rfl (b_lss _ _) rfl) <|
          .nil rfl
        ) ?_)
        rcases cond_some h556 with ⟨hc557, h558⟩ | ⟨hc557, h559⟩
        · refine cw_condT rfl hc557 ?_
          refine cw_skip ?_
          refine cw_seq ?_
          refine cw_block ?_
          obtain ⟨x560, hx561, h562⟩ := bind_some h558
          have hx561g := gx_some hx561
          obtain ⟨x563, hx564, h565⟩ := bind_some h562
          refine cw_region (
            .cons (o_mv rfl rfl .no rfl) <|
            .cons (o_mv rfl rfl .no rfl) <|
            .cons (o_mv rfl rfl .no rfl) <|
            .cons (o_ixM (enc := eSapiChange) (xs := a0) rfl rfl .no rfl rfl sl49 sz34 hx555g.1 hx555g.2) <|
            .cons (o_ld rfl rfl .no rfl ta34 rfl rfl) <|
            .cons (o_mv rfl rfl .no rfl) <|
            .cons (o_ixM (enc := eapiChange) (xs := x554) rfl rfl .no rfl rfl sl34 sz38 hx561g.1 hx561g.2) <|
            .cons (o_ld rfl rfl .no rfl ta38 rfl rfl) <|
            .cons (o_call rfl rfl .no Try.func37 rfl rfl (ref09_with_ok hx564) (.cons rfl .d (.cons rfl .d .nil)) ⟨trivial, trivial, trivial⟩ (.inl rfl)) <|
            .cons (o_as rfl rfl .no rfl) <|
            .nil rfl
          ) ?_
          refine cw_region (
            .cons (o_mv rfl rfl .no rfl) <|
            .cons (o_bin rfl rfl .no rfl rfl (b_add _ _) rfl) <|
            .cons (o_as rfl rfl .no rfl) <|
            .nil rfl
          ) ?_
          exact ⟨(x563, (IntKind.wrap .i64 (v550.2 + 1))), (Option.some.inj h565).symm, weak_of ⟨⟨_, rfl, .d rfl⟩, ⟨_, rfl, .d rfl⟩, ⟨_, rfl, .d rfl⟩, ⟨_, rfl, .d rfl⟩, trivial⟩ trivial drop0⟩
        · refine cw_condF rfl hc557 ?_
          refine cw_exit ?_
          exact ⟨v550.1, (hx553 _ (Option.some.inj h559).symm).symm, weak_of ⟨⟨_, rfl, .d rfl⟩, ⟨_, rfl, .d rfl⟩, ⟨_, rfl, .d rfl⟩, trivial⟩ trivial drop0⟩
    · refine cw_condF rfl hc476 ?_
      refine cw_exit ?_
      exact ⟨v472.1, (hx475 _ (Option.some.inj h478).symm).symm, weak_of ⟨⟨_, rfl, .d rfl⟩, trivial⟩ trivial drop0⟩

set_option maxRecDepth 100000 in
theorem ref09_Merge_ok {a0 : List ((List UInt8) × ByteArray)} {a1 : List ((List UInt8) × ByteArray)} {a2 : List ((List UInt8) × ByteArray)} {r : ((List ((List UInt8) × ByteArray)) × (List (List UInt8)))} (h : ref09_Merge a0 a1 a2 = some r) : FnOk Try.prog 27 [.d (eSapiPair a0), .d (eSapiPair a1), .d (eSapiPair a2)] 0 (lk []) (fun rr oo => rr = .tup [.d (eSapiPair r.1), .d (eSapiKey r.2)] ∧ oo = lk []) := by
  refine fnOk_of Try.func27 rfl rfl ?_
  unfold ref09_Merge at h
  refine cw_seq (cw_region (
    .cons (o_as rfl rfl .no rfl) <|
    .cons (o_as rfl rfl .no rfl) <|
    .nil rfl
  ) ?_)
  obtain ⟨x1, hx2, h3⟩ := bind_some h
  refine cw_seq (cw_region (
    .cons (o_mv rfl rfl .no rfl) <|
    .cons (o_call rfl rfl .no Try.func21 rfl rfl (ref09_Map_ok hx2) (.cons rfl .d .nil) ⟨trivial, trivial⟩ (.inl rfl)) <|
    .cons (o_as rfl rfl .no rfl) <|
    .nil rfl
  ) ?_)
  obtain ⟨x4, hx5, h6⟩ := bind_some h3
  refine cw_seq (cw_region (
    .cons (o_mv rfl rfl .no rfl) <|
    .cons (o_call rfl rfl .no Try.func21 rfl rfl (ref09_Map_ok hx5) (.cons rfl .d .nil) ⟨trivial, trivial⟩ (.inl rfl)) <|
    .cons (o_as rfl rfl .no rfl) <|
    .nil rfl
  ) ?_)
  obtain ⟨x7, hx8, h9⟩ := bind_some h6
  refine cw_seq (cw_region (
    .cons (o_mv rfl rfl .no rfl) <|
    .cons (o_call rfl rfl .no Try.func21 rfl rfl (ref09_Map_ok hx8) (.cons rfl .d .nil) ⟨trivial, trivial⟩ (.inl rfl)) <|
    .cons (o_as rfl rfl .no rfl) <|
    .nil rfl
  ) ?_)
  refine cw_seq (cw_region (
    .cons (o_mv rfl rfl .no rfl) <|
    .cons (o_as rfl rfl .no rfl) <|
    .nil rfl
  ) ?_)
  refine cw_seq (cw_region (
    .cons (o_as rfl rfl .no rfl) <|
    .nil rfl
  ) ?_)
  obtain ⟨x10, hx11, h12⟩ := bind_some h9
  refine cw_seq (cw_region (
    .cons (o_mv rfl rfl .no rfl) <|
    .cons (o_mv rfl rfl .no rfl) <|
    .cons (o_call rfl rfl .no Try.func24 rfl rfl (ref09_Diff_ok hx11) (.cons rfl .d (.cons rfl .d .nil)) ⟨trivial, trivial, trivial⟩ (.inl rfl)) <|
    .cons (o_as rfl rfl .no rfl) <|
    .nil rfl
  ) ?_)
  obtain ⟨o235, hj236, h237⟩ := bind_some h12
  refine cw_join (fun (z : ((List ((List UInt8) × ByteArray)) × (List (List UInt8)))) => St.of [(8, .d (eSapiPair z.1)), (9, .arr 1 0)] [(1, .arr 0 24 (z.2.map eapiKey))]) (fun (z : ((List ((List UInt8) × ByteArray)) × (List (List UInt8)))) => o235 = z) ?_ ?_
  · intro v460 hv461; subst hv461
    refine cw_seq (cw_region (
      .cons (o_mv rfl rfl .no rfl) <|
      .cons (o_mv rfl rfl .no rfl) <|
      .cons (o_as rfl rfl .no rfl) <|
      .cons (o_as rfl rfl .no rfl) <|
      .nil rfl
    ) ?_)
    have heq := ((Option.some.inj h237).symm).symm
    subst heq
    exact cw_weak (weak_of (l := [(6, .d (eSapiPair o235.1)), (7, .d (eSapiKey o235.2))]) (m := []) ⟨⟨_, rfl, .d rfl⟩, ⟨_, rfl, .frz rfl rfl rfl⟩, trivial⟩ trivial drop0) (cw_ret ⟨.inr rfl, _, res2 rfl rfl rfl, rfl, rfl⟩)
  · skip
    refine cw_seq (cw_region (
      .cons (o_as rfl rfl .no rfl) <|
      .nil rfl
    ) ?_)
    refine cw_block ?_
    refine cw_while (V := ((List ((List UInt8) × ByteArray)) × Int × (List (List UInt8)))) (O := ((List ((List UInt8) × ByteArray)) × (List (List UInt8)))) (fun (z : ((List ((List UInt8) × ByteArray)) × Int × (List (List UInt8)))) => St.of [(0, .d (eSapiPair x1)), (1, .d (eSapiPair x4)), (2, .d (eSapiPair x7)), (8, .d (eSapiPair z.1)), (9, .arr 1 0), (10, .d (eSapiChange x10)), (11, .d (eint z.2.1))] [(1, .arr 0 24 (z.2.2.map eapiKey))]) hj236 (weak_of ⟨⟨_, rfl, .d rfl⟩, ⟨_, rfl, .d rfl⟩, ⟨_, rfl, .d rfl⟩, ⟨_, rfl, .d rfl⟩, ⟨_, rfl, .nila rfl rfl⟩, ⟨_, rfl, .d rfl⟩, ⟨_, rfl, .d rfl⟩, trivial⟩ ⟨.nil rfl, trivial⟩ drop0) ?_
    intro v384 x385 hb386 hx387
    refine cw_seq ?_
    refine cw_seq (cw_region (
      .cons (o_mv rfl rfl .no rfl) <|
      .cons (o_mv rfl rfl .no rfl) <|
      .cons (o_lenM (enc := eapiChange) (xs := x10) rfl rfl .no rfl sl34) <|
      .cons (o_bin rfl rfl .no rfl rfl (b_lss _ _) rfl) <|
      .nil rfl
    ) ?_)
    rcases cond_some hb386 with ⟨hc388, h389⟩ | ⟨hc388, h390⟩
    · refine cw_condT rfl hc388 ?_
      refine cw_skip ?_
      obtain ⟨o423, hj424, h425⟩ := bind_some h389
      refine cw_join (fun (z : ((List ((List UInt8) × ByteArray)) × (List (List UInt8)))) => St.of [(0, .d (eSapiPair x1)), (1, .d (eSapiPair x4)), (2, .d (eSapiPair x7)), (8, .d (eSapiPair z.1)), (9, .arr 1 0), (10, .d (eSapiChange x10)), (11, .d (eint v384.2.1))] [(1, .arr 0 24 (z.2.map eapiKey))]) (fun (z : ((List ((List UInt8) × ByteArray)) × (List (List UInt8)))) => o423 = z) ?_ ?_
      · intro v458 hv459; subst hv459
        refine cw_region (
          .cons (o_mv rfl rfl .no rfl) <|
          .cons (o_bin rfl rfl .no rfl rfl (b_add _ _) rfl) <|
          .cons (o_as rfl rfl .no rfl) <|
          .nil rfl
        ) ?_
        exact ⟨(o423.1, (IntKind.wrap .i64 (v384.2.1 + 1)), o423.2), (Option.some.inj h425).symm, weak_of ⟨⟨_, rfl, .d rfl⟩, ⟨_, rfl, .d rfl⟩, ⟨_, rfl, .d rfl⟩, ⟨_, rfl, .d rfl⟩, ⟨_, rfl, .arr rfl rfl⟩, ⟨_, rfl, .d rfl⟩, ⟨_, rfl, .d rfl⟩, trivial⟩ ⟨.arr rfl rfl, trivial⟩ drop0⟩
      · skip
        refine cw_block ?_
        obtain ⟨x426, hx427, h428⟩ := bind_some hj424
        have hx427g := gx_some hx427
        refine cw_seq (cw_region (
          .cons (o_mv rfl rfl .no rfl) <|
          .cons (o_mv rfl rfl .no rfl) <|
          .cons (o_ixM (enc := eapiChange) (xs := x10) rfl rfl .no rfl rfl sl34 sz38 hx427g.1 hx427g.2) <|
          .cons (o_fld rfl rfl .no rfl fld38_0 (by decide) rfl rfl) <|
          .cons (o_ld rfl rfl .no rfl ta27 rfl rfl) <|
          .cons (o_alloc 0 rfl rfl .no ze27 rfl) <|
          .cons (o_st [] rfl .no rfl rfl rfl rfl rfl sz27 rfl rfl) <|
          .nil rfl
        ) ?_)
        obtain ⟨x429, hx430, h431⟩ := bind_some h428
        have hx430g := cutB_some hx430
        obtain ⟨x432, hx433, h434⟩ := bind_some h431
        refine cw_seq (cw_region (
          .cons (o_mv rfl rfl .no rfl) <|
          .cons (o_mv rfl rfl .no rfl) <|
          .cons (o_mv rfl rfl .no rfl) <|
          .cons (o_mv rfl rfl .no rfl) <|
          .cons (o_bin rfl rfl .no rfl rfl (b_add _ _) rfl) <|
          .cons (o_slM (enc := eapiChange) (xs := x10) rfl rfl .no rfl sl34 sz38 (.val rfl hx430g.1) (.val rfl hx430g.2.1) hx430g.2.2.1 hx430g.2.2.2) <|
          .cons (o_call rfl rfl .no Try.func22 rfl rfl (ref09_Apply_ok hx433) (.cons rfl .d (.cons rfl .d .nil)) ⟨trivial, trivial, trivial⟩ (.inl rfl)) <|
          .cons (o_as rfl rfl .no rfl) <|
          .nil rfl
        ) ?_)
        obtain ⟨x435, hx436, h437⟩ := bind_some h434
        refine cw_seq (cw_region (
          .cons (o_mv rfl rfl .no rfl) <|
          .cons (o_mv rfl rfl .no rfl) <|
          .cons (o_ldP [] rfl rfl .no rfl rfl rfl ta27 rfl rfl) <|
          .cons (o_call rfl rfl .no Try.func39 rfl rfl (ref09_alike_ok hx436) (.cons rfl .d (.cons rfl .d (.cons rfl .d .nil))) ⟨trivial, trivial, trivial, trivial⟩ (.inl rfl)) <|
          .cons (o_as rfl rfl .no rfl) <|
          .nil rfl
        ) ?_)
        obtain ⟨x438, hx439, h440⟩ := bind_some h437
        refine cw_seq (cw_region (
          .cons (o_mv rfl rfl .no rfl) <|
          .cons (o_mv rfl rfl .no rfl) <|
          .cons (o_ldP [] rfl rfl .no rfl rfl rfl ta27 rfl rfl) <|
          .cons (o_call rfl rfl .no Try.func39 rfl rfl (ref09_alike_ok hx439) (.cons rfl .d (.cons rfl .d (.cons rfl .d .nil))) ⟨trivial, trivial, trivial, trivial⟩ (.inl rfl)) <|
          .cons (o_as rfl rfl .no rfl) <|
          .nil rfl
        ) ?_)
        obtain ⟨o444, hj445, h446⟩ := bind_some h440
        refine cw_join (fun (z : Bool) => St.of [(0, .d (eSapiPair x1)), (1, .d (eSapiPair x4)), (2, .d (eSapiPair x7)), (8, .d (eSapiPair x432)), (9, .arr 1 0), (10, .d (eSapiChange x10)), (11, .d (eint v384.2.1)), (12, .ptr 0 0), (56, .d (ebool z))] [(0, .box (.d (eapiKey x426.1))), (1, .arr 0 24 (v384.2.2.map eapiKey))]) (fun (z : Bool) => o444 = z) ?_ ?_
        · intro v456 hv457; subst hv457
          rcases cond_some h446 with ⟨hc450, h451⟩ | ⟨hc450, h452⟩
          · refine cw_condT rfl hc450 ?_
            obtain ⟨x453, hx454, h455⟩ := bind_some h451
            have hx454g := fits_some hx454
            refine cw_region (
              .cons (o_mv rfl rfl .no rfl) <|
              .cons (o_ldP [] rfl rfl .no rfl rfl rfl ta27 rfl rfl) <|
              .cons (o_bsl (rows := ([x426.1] : List (List UInt8)).map eapiKey) rfl rfl .no (.cons rfl .nil) rfl sl40 sz27 ze27 rfl (map_sz siapiKey) (by decide)) <|
              .cons (o_appM (enc := eapiKey) (xs := v384.2.2) (ys := [x426.1]) rfl rfl .no rfl rfl rfl siapiKey sl40 sl40 sz27 by27 ze27 rfl (by decide) hx454g) <|
              .cons (o_as rfl rfl .no rfl) <|
              .nil rfl
            ) ?_
            exact ⟨(x432, (v384.2.2 ++ [x426.1])), (Option.some.inj h455).symm, weak_of ⟨⟨_, rfl, .d rfl⟩, ⟨_, rfl, .d rfl⟩, ⟨_, rfl, .d rfl⟩, ⟨_, rfl, .d rfl⟩, ⟨_, rfl, .arr rfl rfl⟩, ⟨_, rfl, .d rfl⟩, ⟨_, rfl, .d rfl⟩, trivial⟩ ⟨.arr0 rfl rfl rfl, trivial⟩ drop0⟩
          · refine cw_condF rfl hc450 ?_
            refine cw_skip ?_
            exact ⟨(x432, v384.2.2), (Option.some.inj h452).symm, weak_of ⟨⟨_, rfl, .d rfl⟩, ⟨_, rfl, .d rfl⟩, ⟨_, rfl, .d rfl⟩, ⟨_, rfl, .d rfl⟩, ⟨_, rfl, .arr rfl rfl⟩, ⟨_, rfl, .d rfl⟩, ⟨_, rfl, .d rfl⟩, trivial⟩ ⟨.arr rfl rfl, trivial⟩ drop0⟩
        · skip
          rcases cond_some hj445 with ⟨hc447, h448⟩ | ⟨hc447, h449⟩
          · skip
            refine cw_region (
              .cons (o_mv rfl rfl .no rfl) <|
              .cons (o_not rfl rfl .no rfl) <|
              .cons (o_mv rfl rfl .no rfl) <|
              .cons (o_mv rfl rfl (.yes rfl rfl hc447) rfl) <|
              .cons (o_not rfl rfl (.yes rfl rfl hc447) rfl) <|
              .cons (o_pickT rfl rfl .no rfl hc447 rfl) <|
              .nil rfl
            ) ?_
            exact ⟨(!x438), (Option.some.inj h448).symm, weak_of ⟨⟨_, rfl, .d rfl⟩, ⟨_, rfl, .d rfl⟩, ⟨_, rfl, .d rfl⟩, ⟨_, rfl, .d rfl⟩, ⟨_, rfl, .arr rfl rfl⟩, ⟨_, rfl, .d rfl⟩, ⟨_, rfl, .d rfl⟩, ⟨_, rfl, .ptr rfl rfl⟩, ⟨_, rfl, .d rfl⟩, trivial⟩ ⟨.box rfl (.d rfl), .arr rfl rfl, trivial⟩ drop0⟩
          · skip
            refine cw_region (
              .cons (o_mv rfl rfl .no rfl) <|
              .cons (o_not rfl rfl .no rfl) <|
              .cons (o_mv rfl rfl .no rfl) <|
              .cons (o_noT rfl rfl rfl rfl hc447) <|
              .cons (o_noT rfl rfl rfl rfl hc447) <|
              .cons (o_pickF rfl rfl .no rfl hc447 rfl) <|
              .nil rfl
            ) ?_
            exact ⟨false, (Option.some.inj h449).symm, weak_of ⟨⟨_, rfl, .d rfl⟩, ⟨_, rfl, .d rfl⟩, ⟨_, rfl, .d rfl⟩, ⟨_, rfl, .d rfl⟩, ⟨_, rfl, .arr rfl rfl⟩, ⟨_, rfl, .d rfl⟩, ⟨_, rfl, .d rfl⟩, ⟨_, rfl, .ptr rfl rfl⟩, ⟨_, rfl, .d rfl⟩, trivial⟩ ⟨.box rfl (.d rfl), .arr rfl rfl, trivial⟩ drop0⟩
    · refine cw_condF rfl hc388 ?_
      refine cw_exit ?_
      exact ⟨(v384.1, v384.2.2), (hx387 _ (Option.some.inj h390).symm).symm, weak_of ⟨⟨_, rfl, .d rfl⟩, ⟨_, rfl, .arr rfl rfl⟩, trivial⟩ ⟨.arr rfl rfl, trivial⟩ drop0⟩

set_option maxRecDepth 100000 in
theorem delta_values_ok {a0 : List ((List UInt8) × ByteArray)} {r : (List (List UInt8 × ByteArray))} (h : delta_values a0 = some r) : FnOk Try.prog 30 [.d (eSapiPair a0)] 0 (lk []) (fun rr oo => rr = .map 0 ∧ oo = lk [(0, .map 0 (mD eapiKey estring r))]) := by
  refine fnOk_of Try.func30 rfl rfl ?_
  unfold delta_values at h
  refine cw_seq (cw_region (
    .cons (o_as rfl rfl .no rfl) <|
    .nil rfl
  ) ?_)
  refine cw_seq (cw_region (
    .cons (o_mkmap eapiKey estring 0 rfl rfl .no rfl) <|
    .cons (o_as rfl rfl .no rfl) <|
    .nil rfl
  ) ?_)
  obtain ⟨o25, hj26, h27⟩ := bind_some h
  refine cw_join (fun (z : (List (List UInt8 × ByteArray))) => St.of [(3, .map 0)] [(0, .map 0 (mD eapiKey estring z))]) (fun (z : (List (List UInt8 × ByteArray))) => o25 = z) ?_ ?_
  · intro v52 hv53; subst hv53
    refine cw_seq (cw_region (
      .cons (o_mv rfl rfl .no rfl) <|
      .cons (o_as rfl rfl .no rfl) <|
      .nil rfl
    ) ?_)
    have heq := ((Option.some.inj h27).symm).symm
    subst heq
    exact cw_weak (weak_of (l := [(2, .map 0)]) (m := [(0, .map 0 (mD eapiKey estring o25))]) ⟨⟨_, rfl, .map rfl rfl⟩, trivial⟩ ⟨.map rfl rfl, trivial⟩ drop0) (cw_ret ⟨.inr rfl, _, res1 rfl rfl, rfl, rfl⟩)
  · skip
    refine cw_seq (cw_region (
      .cons (o_mv rfl rfl .no rfl) <|
      .cons (o_lenM (enc := eapiPair) (xs := a0) rfl rfl .no rfl sl22) <|
      .cons (o_mv rfl rfl .no rfl) <|
      .nil rfl
    ) ?_)
    refine cw_block ?_
    refine cw_while (V := (Int × (List (List UInt8 × ByteArray)))) (O := (List (List UInt8 × ByteArray))) (fun (z : (Int × (List (List UInt8 × ByteArray)))) => St.of [(3, .map 0), (7, .d (eSapiPair a0)), (8, .d (eint (a0.length : Int))), (9, .d (eint z.1))] [(0, .map 0 (mD eapiKey estring z.2))]) hj26 (weak_of ⟨⟨_, rfl, .map rfl rfl⟩, ⟨_, rfl, .d rfl⟩, ⟨_, rfl, .d rfl⟩, ⟨_, rfl, .d rfl⟩, trivial⟩ ⟨.map rfl rfl, trivial⟩ drop0) ?_
    intro v42 x43 hb44 hx45
    refine cw_seq (cw_region (
      .cons (o_bin rfl rfl .no rfl rfl (b_lss _ _) rfl) <|
      .nil rfl
    ) ?_)
    refine cw_seq ?_
    rcases cond_some hb44 with ⟨hc46, h47⟩ | ⟨hc46, h48⟩
    · refine cw_condT rfl hc46 ?_
      refine cw_skip ?_
      refine cw_seq ?_
      refine cw_block ?_
      obtain ⟨x49, hx50, h51⟩ := bind_some h47
      have hx50g := gx_some hx50
      refine cw_seq (cw_region (
        .cons (o_ixM (enc := eapiPair) (xs := a0) rfl rfl .no rfl rfl sl22 sz29 hx50g.1 hx50g.2) <|
        .cons (o_ld rfl rfl .no rfl ta29 rfl rfl) <|
        .cons (o_alloc 1 rfl rfl .no ze29 rfl) <|
        .cons (o_st [] rfl .no rfl rfl rfl rfl rfl sz29 rfl rfl) <|
        .nil rfl
      ) ?_)
      refine cw_region (
        .cons (o_mv rfl rfl .no rfl) <|
        .cons (o_fldP rfl rfl .no rfl fld29_0 (by decide)) <|
        .cons (o_ldP [0] rfl rfl .no rfl rfl rfl ta27 rfl rfl) <|
        .cons (o_fldP rfl rfl .no rfl fld29_1 (by decide)) <|
        .cons (o_ldP [1] rfl rfl .no rfl rfl rfl ta9 rfl rfl) <|
        .cons (o_mapset (ek := eapiKey) (ev := estring) (m := v42.2) x49.1 x49.2 rfl .no rfl rfl rfl rfl mp54 kl27 rfl) <|
        .nil rfl
      ) ?_
      refine cw_region (
        .cons (o_bin rfl rfl .no rfl rfl (b_add _ _) rfl) <|
        .cons (o_mv rfl rfl .no rfl) <|
        .nil rfl
      ) ?_
      exact ⟨((IntKind.wrap .i64 (v42.1 + 1)), (mset v42.2 x49.1 x49.2)), (Option.some.inj h51).symm, weak_of ⟨⟨_, rfl, .map rfl rfl⟩, ⟨_, rfl, .d rfl⟩, ⟨_, rfl, .d rfl⟩, ⟨_, rfl, .d rfl⟩, trivial⟩ ⟨.map0 rfl rfl rfl (noIter rfl), trivial⟩ drop0⟩
    · refine cw_condF rfl hc46 ?_
      refine cw_exit ?_
      exact ⟨v42.2, (hx45 _ (Option.some.inj h48).symm).symm, weak_of ⟨⟨_, rfl, .map rfl rfl⟩, trivial⟩ ⟨.map rfl rfl, trivial⟩ drop0⟩

set_option maxRecDepth 100000 in
theorem delta_does_ok {a0 : List (List UInt8 × ByteArray)} {a1 : ((List UInt8) × ByteArray × Bool)} {r : (List (List UInt8 × ByteArray))} (h : delta_does a0 a1 = some r) (u0 : Nat) : FnOk Try.prog 33 [.map 0, .d (eapiChange a1)] 1 (lk [(0, .map u0 (mD eapiKey estring a0))]) (fun rr oo => rr = .tup [] ∧ oo = lk [(0, .map (u0 + 1) (mD eapiKey estring r))]) := by
  refine fnOk_of Try.func33 rfl rfl ?_
  unfold delta_does at h
  obtain ⟨o4, hj5, h6⟩ := bind_some h
  refine cw_tail (fun (z : (List (List UInt8 × ByteArray))) => St.of [] [(0, .map (u0 + 1) (mD eapiKey estring z))]) (fun (z : (List (List UInt8 × ByteArray))) => o4 = z) ?_ ?_
  · intro v10 hv11; subst hv11
    have heq := ((Option.some.inj h6).symm).symm
    subst heq
    exact ⟨.inl rfl, _, res0 rfl, rfl, rfl⟩
  · skip
    refine cw_seq (cw_region (
      .cons (o_box 1 rfl rfl .no rfl rfl rfl) <|
      .nil rfl
    ) ?_)
    refine cw_seq (cw_region (
      .cons (o_fldP rfl rfl .no rfl fld38_2 (by decide)) <|
      .cons (o_ldP [2] rfl rfl .no rfl rfl rfl ta4 rfl rfl) <|
      .nil rfl
    ) ?_)
    rcases cond_some hj5 with ⟨hc7, h8⟩ | ⟨hc7, h9⟩
    · refine cw_condT rfl hc7 ?_
      refine cw_region (
        .cons (o_mv rfl rfl .no rfl) <|
        .cons (o_fldP rfl rfl .no rfl fld38_0 (by decide)) <|
        .cons (o_ldP [0] rfl rfl .no rfl rfl rfl ta27 rfl rfl) <|
        .cons (o_mapdel (ek := eapiKey) (ev := estring) (m := a0) a1.1 rfl .no rfl rfl rfl mp54 kl27 rfl) <|
        .nil rfl
      ) ?_
      exact ⟨(mdel a0 a1.1), (Option.some.inj h8).symm, weak_of trivial ⟨.map rfl rfl, trivial⟩ (dropK rfl)⟩
    · refine cw_condF rfl hc7 ?_
      refine cw_region (
        .cons (o_mv rfl rfl .no rfl) <|
        .cons (o_fldP rfl rfl .no rfl fld38_0 (by decide)) <|
        .cons (o_ldP [0] rfl rfl .no rfl rfl rfl ta27 rfl rfl) <|
        .cons (o_fldP rfl rfl .no rfl fld38_1 (by decide)) <|
        .cons (o_ldP [1] rfl rfl .no rfl rfl rfl ta9 rfl rfl) <|
        .cons (o_mapset (ek := eapiKey) (ev := estring) (m := a0) a1.1 a1.2.1 rfl .no rfl rfl rfl rfl mp54 kl27 rfl) <|
        .nil rfl
      ) ?_
      exact ⟨(mset a0 a1.1 a1.2.1), (Option.some.inj h9).symm, weak_of trivial ⟨.map rfl rfl, trivial⟩ (dropK rfl)⟩

set_option maxRecDepth 100000 in
theorem delta_alike_ok {a0 : List (List UInt8 × ByteArray)} {a1 : List (List UInt8 × ByteArray)} {a2 : List UInt8} {r : (Bool × (List (List UInt8 × ByteArray)) × (List (List UInt8 × ByteArray)))} (h : delta_alike a0 a1 a2 = some r) (u0 : Nat) (u1 : Nat) : FnOk Try.prog 35 [.map 0, .map 1, .d (eapiKey a2)] 2 (lk [(0, .map u0 (mD eapiKey estring a0)), (1, .map u1 (mD eapiKey estring a1))]) (fun rr oo => rr = .d (ebool r.1) ∧ oo = lk [(0, .map u0 (mD eapiKey estring r.2.1)), (1, .map u1 (mD eapiKey estring r.2.2))]) := by
  refine fnOk_of Try.func35 rfl rfl ?_
  unfold delta_alike at h
  refine cw_seq (cw_region (
    .cons (o_box 2 rfl rfl .no rfl rfl rfl) <|
    .cons (o_as rfl rfl .no rfl) <|
    .nil rfl
  ) ?_)
  refine cw_seq (cw_region (
    .cons (o_mv rfl rfl .no rfl) <|
    .cons (o_ldP [] rfl rfl .no rfl rfl rfl ta27 rfl rfl) <|
    .cons (o_mapget (ek := eapiKey) (ev := estring) (m := a0) a2 (ByteArray.mk #[]) rfl rfl .no rfl rfl rfl mp54 kl27 ze9 rfl rfl) <|
    .cons (o_mv rfl rfl .no rfl) <|
    .cons (o_ext rfl rfl .no rfl rfl) <|
    .cons (o_ext rfl rfl .no rfl rfl) <|
    .cons (o_as rfl rfl .no rfl) <|
    .cons (o_as rfl rfl .no rfl) <|
    .nil rfl
  ) ?_)
  refine cw_seq (cw_region (
    .cons (o_mv rfl rfl .no rfl) <|
    .cons (o_ldP [] rfl rfl .no rfl rfl rfl ta27 rfl rfl) <|
    .cons (o_mapget (ek := eapiKey) (ev := estring) (m := a1) a2 (ByteArray.mk #[]) rfl rfl .no rfl rfl rfl mp54 kl27 ze9 rfl rfl) <|
    .cons (o_mv rfl rfl .no rfl) <|
    .cons (o_ext rfl rfl .no rfl rfl) <|
    .cons (o_ext rfl rfl .no rfl rfl) <|
    .cons (o_as rfl rfl .no rfl) <|
    .cons (o_as rfl rfl .no rfl) <|
    .nil rfl
  ) ?_)
  obtain ⟨o4, hj5, h6⟩ := bind_some h
  refine cw_join (fun (z : Bool) => St.of [(6, .d (ebool z))] [(0, .map u0 (mD eapiKey estring a0)), (1, .map u1 (mD eapiKey estring a1))]) (fun (z : Bool) => o4 = z) ?_ ?_
  · intro v10 hv11; subst hv11
    have heq := ((Option.some.inj h6).symm).symm
    subst heq
    exact cw_weak (weak_of (l := [(6, .d (ebool o4))]) (m := [(0, .map u0 (mD eapiKey estring a0)), (1, .map u1 (mD eapiKey estring a1))]) ⟨⟨_, rfl, .d rfl⟩, trivial⟩ ⟨.map rfl rfl, .map rfl rfl, trivial⟩ (dropK rfl)) (cw_ret ⟨.inr rfl, _, res1 rfl rfl, rfl, rfl⟩)
  · skip
    rcases cond_some hj5 with ⟨hc7, h8⟩ | ⟨hc7, h9⟩
    · skip
      refine cw_region (
        .cons (o_mv rfl rfl .no rfl) <|
        .cons (o_mv rfl rfl .no rfl) <|
        .cons (o_bin rfl rfl .no rfl rfl (t_eql _ _ un4) rfl) <|
        .cons (o_mv rfl rfl .no rfl) <|
        .cons (o_mv rfl rfl (.yes rfl rfl hc7) rfl) <|
        .cons (o_mv rfl rfl (.yes rfl rfl hc7) rfl) <|
        .cons (o_bin rfl rfl (.yes rfl rfl hc7) rfl rfl (s_eql _ _) rfl) <|
        .cons (o_pickT rfl rfl .no rfl hc7 rfl) <|
        .cons (o_as rfl rfl .no rfl) <|
        .nil rfl
      ) ?_
      exact ⟨(decide (((mget a0 a2).getD (ByteArray.mk #[])) = ((mget a1 a2).getD (ByteArray.mk #[])))), (Option.some.inj h8).symm, weak_of ⟨⟨_, rfl, .d rfl⟩, trivial⟩ ⟨.map rfl rfl, .map rfl rfl, trivial⟩ (dropK rfl)⟩
    · skip
      refine cw_region (
        .cons (o_mv rfl rfl .no rfl) <|
        .cons (o_mv rfl rfl .no rfl) <|
        .cons (o_bin rfl rfl .no rfl rfl (t_eql _ _ un4) rfl) <|
        .cons (o_mv rfl rfl .no rfl) <|
        .cons (o_noT rfl rfl rfl rfl hc7) <|
        .cons (o_noT rfl rfl rfl rfl hc7) <|
        .cons (o_noT rfl rfl rfl rfl hc7) <|
        .cons (o_pickF rfl rfl .no rfl hc7 rfl) <|
        .cons (o_as rfl rfl .no rfl) <|
        .nil rfl
      ) ?_
      exact ⟨false, (Option.some.inj h9).symm, weak_of ⟨⟨_, rfl, .d rfl⟩, trivial⟩ ⟨.map rfl rfl, .map rfl rfl, trivial⟩ (dropK rfl)⟩

set_option maxRecDepth 100000 in
theorem law09_cut_ok {a0 : List ((List UInt8) × ByteArray)} {r : (List ((List UInt8) × ByteArray))} (h : law09_cut a0 = some r) : FnOk Try.prog 11 [.d (eSapiPair a0)] 0 (lk []) (fun rr oo => rr = .d (eSapiPair r) ∧ oo = lk []) := by
  refine fnOk_of Try.func11 rfl rfl ?_
  unfold law09_cut at h
  refine cw_seq (cw_region (
    .cons (o_as rfl rfl .no rfl) <|
    .nil rfl
  ) ?_)
  refine cw_seq (cw_region (
    .cons (o_as rfl rfl .no rfl) <|
    .nil rfl
  ) ?_)
  obtain ⟨o76, hj77, h78⟩ := bind_some h
  refine cw_join (fun (z : (List ((List UInt8) × ByteArray))) => St.of [(3, .arr 1 0)] [(1, .arr 0 25 (z.map eapiPair))]) (fun (z : (List ((List UInt8) × ByteArray))) => o76 = z) ?_ ?_
  · intro v154 hv155; subst hv155
    refine cw_seq (cw_region (
      .cons (o_mv rfl rfl .no rfl) <|
      .cons (o_as rfl rfl .no rfl) <|
      .nil rfl
    ) ?_)
    have heq := ((Option.some.inj h78).symm).symm
    subst heq
    exact cw_weak (weak_of (l := [(2, .d (eSapiPair o76))]) (m := []) ⟨⟨_, rfl, .frz rfl rfl rfl⟩, trivial⟩ trivial drop0) (cw_ret ⟨.inr rfl, _, res1 rfl rfl, rfl, rfl⟩)
  · skip
    refine cw_seq (cw_region (
      .cons (o_as rfl rfl .no rfl) <|
      .nil rfl
    ) ?_)
    refine cw_block ?_
    refine cw_while (V := (Int × (List ((List UInt8) × ByteArray)))) (O := (List ((List UInt8) × ByteArray))) (fun (z : (Int × (List ((List UInt8) × ByteArray)))) => St.of [(0, .d (eSapiPair a0)), (3, .arr 1 0), (4, .d (eint z.1))] [(1, .arr 0 25 (z.2.map eapiPair))]) hj77 (weak_of ⟨⟨_, rfl, .d rfl⟩, ⟨_, rfl, .nila rfl rfl⟩, ⟨_, rfl, .d rfl⟩, trivial⟩ ⟨.nil rfl, trivial⟩ drop0) ?_
    intro v127 x128 hb129 hx130
    refine cw_seq ?_
    obtain ⟨o134, hj135, h136⟩ := bind_some hb129
    refine cw_join (fun (z : Bool) => St.of [(0, .d (eSapiPair a0)), (3, .arr 1 0), (4, .d (eint v127.1)), (13, .d (ebool z))] [(1, .arr 0 25 (v127.2.map eapiPair))]) (fun (z : Bool) => o134 = z) ?_ ?_
    · intro v152 hv153; subst hv153
      rcases cond_some h136 with ⟨hc140, h141⟩ | ⟨hc140, h142⟩
      · refine cw_condT rfl hc140 ?_
        refine cw_skip ?_
        refine cw_seq ?_
        refine cw_block ?_
        obtain ⟨x143, hx144, h145⟩ := bind_some h141
        have hx144g := gx_some hx144
        refine cw_seq (cw_region (
          .cons (o_mv rfl rfl .no rfl) <|
          .cons (o_mv rfl rfl .no rfl) <|
          .cons (o_ixM (enc := eapiPair) (xs := a0) rfl rfl .no rfl rfl sl22 sz29 hx144g.1 hx144g.2) <|
          .cons (o_ld rfl rfl .no rfl ta29 rfl rfl) <|
          .cons (o_alloc 0 rfl rfl .no ze29 rfl) <|
          .cons (o_st [] rfl .no rfl rfl rfl rfl rfl sz29 rfl rfl) <|
          .nil rfl
        ) ?_)
        obtain ⟨x146, hx147, h148⟩ := bind_some h145
        have hx147g := cutB_some hx147
        refine cw_seq (cw_region (
          .cons (o_fldP rfl rfl .no rfl fld29_1 (by decide)) <|
          .cons (o_ldP [1] rfl rfl .no rfl rfl rfl ta9 rfl rfl) <|
          .cons (o_fldP rfl rfl .no rfl fld29_1 (by decide)) <|
          .cons (o_ldP [1] rfl rfl .no rfl rfl rfl ta9 rfl rfl) <|
          .cons (o_lenS rfl rfl .no rfl un9) <|
          .cons (o_min rfl rfl .no rfl rfl) <|
          .cons (o_slS rfl rfl .no rfl un9 .no (.val rfl hx147g.2.1) hx147g.2.2.1 hx147g.2.2.2) <|
          .cons (o_fldP rfl rfl .no rfl fld29_1 (by decide)) <|
          .cons (o_st [1] rfl .no rfl rfl rfl rfl rfl sz9 rfl rfl) <|
          .nil rfl
        ) ?_)
        obtain ⟨x149, hx150, h151⟩ := bind_some h148
        have hx150g := fits_some hx150
        refine cw_region (
          .cons (o_mv rfl rfl .no rfl) <|
          .cons (o_ldP [] rfl rfl .no rfl rfl rfl ta29 rfl rfl) <|
          .cons (o_bsl (rows := ([(x143.1, (x143.2.extract 0 (min (x143.2.size : Int) 40).toNat))] : List ((List UInt8) × ByteArray)).map eapiPair) rfl rfl .no (.cons rfl .nil) rfl sl22 sz29 ze29 rfl (map_sz siapiPair) (by decide)) <|
          .cons (o_appM (enc := eapiPair) (xs := v127.2) (ys := [(x143.1, (x143.2.extract 0 (min (x143.2.size : Int) 40).toNat))]) rfl rfl .no rfl rfl rfl siapiPair sl22 sl22 sz29 by29 ze29 rfl (by decide) hx150g) <|
          .cons (o_as rfl rfl .no rfl) <|
          .nil rfl
        ) ?_
        refine cw_region (
          .cons (o_mv rfl rfl .no rfl) <|
          .cons (o_bin rfl rfl .no rfl rfl (b_add _ _) rfl) <|
          .cons (o_as rfl rfl .no rfl) <|
          .nil rfl
        ) ?_
        exact ⟨((IntKind.wrap .i64 (v127.1 + 1)), (v127.2 ++ [(x143.1, (x143.2.extract 0 (min (x143.2.size : Int) 40).toNat))])), (Option.some.inj h151).symm, weak_of ⟨⟨_, rfl, .d rfl⟩, ⟨_, rfl, .arr rfl rfl⟩, ⟨_, rfl, .d rfl⟩, trivial⟩ ⟨.arr0 rfl rfl rfl, trivial⟩ drop0⟩
      · refine cw_condF rfl hc140 ?_
        refine cw_exit ?_
        exact ⟨v127.2, (hx130 _ (Option.some.inj h142).symm).symm, weak_of ⟨⟨_, rfl, .arr rfl rfl⟩, trivial⟩ ⟨.arr rfl rfl, trivial⟩ drop0⟩
    · skip
      rcases cond_some hj135 with ⟨hc137, h138⟩ | ⟨hc137, h139⟩
      · skip
        refine cw_region (
          .cons (o_mv rfl rfl .no rfl) <|
          .cons (o_mv rfl rfl .no rfl) <|
          .cons (o_lenM (enc := eapiPair) (xs := a0) rfl rfl .no rfl sl22) <|
          .cons (o_bin rfl rfl .no rfl rfl (b_lss _ _) rfl) <|
          .cons (o_mv rfl rfl .no rfl) <|
          .cons (o_mv rfl rfl (.yes rfl rfl hc137) rfl) <|
          .cons (o_bin rfl rfl (.yes rfl rfl hc137) rfl rfl (b_lss _ _) rfl) <|
          .cons (o_pickT rfl rfl .no rfl hc137 rfl) <|
          .nil rfl
        ) ?_
        exact ⟨(decide (v127.1 < 40)), (Option.some.inj h138).symm, weak_of ⟨⟨_, rfl, .d rfl⟩, ⟨_, rfl, .arr rfl rfl⟩, ⟨_, rfl, .d rfl⟩, ⟨_, rfl, .d rfl⟩, trivial⟩ ⟨.arr rfl rfl, trivial⟩ drop0⟩
      · skip
        refine cw_region (
          .cons (o_mv rfl rfl .no rfl) <|
          .cons (o_mv rfl rfl .no rfl) <|
          .cons (o_lenM (enc := eapiPair) (xs := a0) rfl rfl .no rfl sl22) <|
          .cons (o_bin rfl rfl .no rfl rfl (b_lss _ _) rfl) <|
          .cons (o_mv rfl rfl .no rfl) <|
          .cons (o_noT rfl rfl rfl rfl hc137) <|
          .cons (o_noT rfl rfl rfl rfl hc137) <|
          .cons (o_pickF rfl rfl .no rfl hc137 rfl) <|
          .nil rfl
        ) ?_
        exact ⟨false, (Option.some.inj h139).symm, weak_of ⟨⟨_, rfl, .d rfl⟩, ⟨_, rfl, .arr rfl rfl⟩, ⟨_, rfl, .d rfl⟩, ⟨_, rfl, .d rfl⟩, trivial⟩ ⟨.arr rfl rfl, trivial⟩ drop0⟩

set_option maxRecDepth 100000 in
theorem law09_k_okc {a0 : Int} {r : (List UInt8)} (h : law09_k a0 = some r) : FnOk Try.prog 28 [.d (euint8 a0)] 0 (lk []) (fun rr oo => rr = .d (eapiKey r) ∧ oo = lk [(0, .box (.d (eapiKey r)))]) := by
  refine fnOk_of Try.func28 rfl rfl ?_
  unfold law09_k at h
  refine cw_seq (cw_region (
    .cons (o_alloc 0 rfl rfl .no ze27 rfl) <|
    .nil rfl
  ) ?_)
  obtain ⟨x1, hx2, h3⟩ := bind_some h
  have hx2g := ck_dec hx2
  refine cw_seq (cw_region (
    .cons (o_mv rfl rfl .no rfl) <|
    .cons (o_bldB (l := (List.replicate 24 0)) (r := (List.set (List.replicate 24 0) 0 (UInt8.ofNat a0.toNat))) rfl rfl .no ze27 ar27 sz5 (.cons rfl hx2g rfl .nil)) <|
    .cons (o_st [] rfl .no rfl rfl rfl rfl rfl sz27 rfl rfl) <|
    .nil rfl
  ) ?_)
  have heq := ((Option.some.inj h3).symm).symm
  subst heq
  exact cw_weak (weak_of (l := [(2, .ptr 0 0)]) (m := [(0, .box (.d (eapiKey (List.set (List.replicate 24 0) 0 (UInt8.ofNat a0.toNat)))))]) ⟨⟨_, rfl, .ptr rfl rfl⟩, trivial⟩ ⟨.box rfl (.d rfl), trivial⟩ drop0) (cw_ret ⟨.inr rfl, _, resC rfl rfl rfl ta27 rfl rfl, rfl, rfl⟩)
theorem law09_k_ok {a0 : Int} {r : (List UInt8)} (h : law09_k a0 = some r) : FnOk Try.prog 28 [.d (euint8 a0)] 0 (lk []) (fun rr oo => rr = .d (eapiKey r) ∧ oo = lk []) := fnOk_forget (law09_k_okc h)

end
end Go.Val
