/- Walks of the program's functions, printed. -/
import Derived.Test.YthipaajmgfnagaaGreatDoorWa
set_option linter.unusedSectionVars false
set_option linter.unusedVariables false
set_option linter.unusedSimpArgs false
namespace Go.Val
open Go.RowKit Go.Proofs

section
variable [Drw]

noncomputable def slices_BinarySearchFunc (a0 : List ((List UInt8) × ByteArray)) (a1 : List UInt8) : Option (Int × Bool) :=
 (((
  whileO (V := (Int × Int)) (O := Int) (fun v72 =>
   cond (decide (v72.1 < v72.2)) (
    (gx a0 (IntKind.wrap .i64 (Int.fdiv (IntKind.wrap .u64 (IntKind.wrap .i64 (v72.1 + v72.2))) (2 ^ 1)))).bind fun x79 =>
    (view_place_1 x79 a1).bind fun x82 =>
    cond (decide (x82 < 0)) (
     some (.inl ((IntKind.wrap .i64 ((IntKind.wrap .i64 (Int.fdiv (IntKind.wrap .u64 (IntKind.wrap .i64 (v72.1 + v72.2))) (2 ^ 1))) + 1)), v72.2))
    ) (
     some (.inl (v72.1, (IntKind.wrap .i64 (Int.fdiv (IntKind.wrap .u64 (IntKind.wrap .i64 (v72.1 + v72.2))) (2 ^ 1)))))
    )
   ) (
    some (.inr v72.1)
   )
  ) (0, (a0.length : Int))
 ) : Option Int)).bind fun o43 =>
 (((
  cond (decide (o43 < (a0.length : Int))) (
   (gx a0 o43).bind fun x103 =>
   (view_place_1 x103 a1).bind fun x106 =>
   some (decide (x106 = 0))
  ) (
   some false
  )
 ) : Option Bool)).bind fun o97 =>
 some (o43, o97)

noncomputable def view_place (a0 : List ((List UInt8) × ByteArray)) (a1 : List UInt8) : Option (Int × Bool) :=
 (slices_BinarySearchFunc a0 a1).bind fun x1 =>
 some (x1.1, x1.2)

noncomputable def view_Plain_Get (a0 : (List ((List UInt8) × ByteArray))) (a1 : List UInt8) : Option (ByteArray × Bool × Int) :=
 (view_place a0 a1).bind fun x1 =>
 cond (!x1.2) (
  some ((ByteArray.mk #[]), false, 0)
 ) (
  (gx a0 x1.1).bind fun x7 =>
  some (x7.2, true, 0)
 )

noncomputable def key_In (a0 : ((List UInt8) × (List UInt8) × Bool)) (a1 : List UInt8) : Option Bool :=
 (((
  (bytes_Compare a1 a0.1).bind fun x19 =>
  cond (decide (x19 ≥ 0)) (
   cond a0.2.2 (
    some true
   ) (
    (bytes_Compare a1 a0.2.1).bind fun x28 =>
    some (decide (x28 < 0))
   )
  ) (
   some false
  )
 ) : Option Bool)).bind fun o16 =>
 some o16

noncomputable def span_bounds (a0 : ((List UInt8) × (List UInt8) × Bool)) : Option (((List UInt8) × Bool) × ((List UInt8) × Bool)) :=
 cond a0.2.2 (
  some ((a0.1, false), ((List.replicate 24 0), true))
 ) (
  some ((a0.1, false), (a0.2.1, false))
 )

noncomputable def span_bound_compare (a0 : ((List UInt8) × Bool)) (a1 : ((List UInt8) × Bool)) : Option Int :=
 (((
  cond a0.2 (
   some a1.2
  ) (
   some false
  )
 ) : Option Bool)).bind fun o4 =>
 cond o4 (
  some 0
 ) (
  cond a0.2 (
   some 1
  ) (
   cond a1.2 (
    some (-1)
   ) (
    (bytes_Compare a0.1 a1.1).bind fun x19 =>
    some x19
   )
  )
 )

noncomputable def span_made (a0 : ((List UInt8) × Bool)) (a1 : ((List UInt8) × Bool)) : Option ((List UInt8) × (List UInt8) × Bool) :=
 some (a0.1, a1.1, a1.2)

noncomputable def span_Clean_1 (a0 : ((List UInt8) × (List UInt8) × Bool)) : Option Bool :=
 (span_bounds a0).bind fun x1 =>
 (span_bound_compare x1.1 x1.2).bind fun x4 =>
 some (decide (x4 ≥ 0))

noncomputable def span_Clean_2 (a0 : ((List UInt8) × (List UInt8) × Bool)) (a1 : ((List UInt8) × (List UInt8) × Bool)) : Option Int :=
 (bytes_Compare a0.1 a1.1).bind fun x1 =>
 some x1

noncomputable def slices_IndexFunc (a0 : List ((List UInt8) × (List UInt8) × Bool)) : Option Int :=
 (((
  whileO (V := Int) (O := (Unit ⊕ Int)) (fun v72 =>
   cond (decide (v72 < (a0.length : Int))) (
    (gx a0 v72).bind fun x79 =>
    (span_Clean_1 x79).bind fun x82 =>
    cond x82 (
     some (.inr (.inr v72))
    ) (
     some (.inl (IntKind.wrap .i64 (v72 + 1)))
    )
   ) (
    some (.inr (.inl ()))
   )
  ) 0
 ) : Option (Unit ⊕ Int))).bind fun o43 =>
 Sum.elim (fun (v89 : Unit) =>
  some (-1)
 ) (fun w92 =>
  some w92
 ) o43

noncomputable def key_One (a0 : List UInt8) : Option ((List UInt8) × (List UInt8) × Bool) :=
 (((
  whileO (V := (Int × ((List UInt8) × (List UInt8) × Bool))) (O := (Unit ⊕ ((List UInt8) × (List UInt8) × Bool))) (fun v117 =>
   cond (decide (v117.1 ≥ 0)) (
    (ck (decide (0 ≤ v117.1 ∧ v117.1 < 24))).bind fun _ =>
    (gx v117.2.2.1 v117.1).bind fun x127 =>
    (ck (decide (v117.1.toNat < v117.2.2.1.length))).bind fun _ =>
    (ck (decide (0 ≤ (IntKind.wrap .u8 ((x127.toNat : Int) + 1)) ∧ (IntKind.wrap .u8 ((x127.toNat : Int) + 1)) < 256))).bind fun _ =>
    (gx (List.set v117.2.2.1 v117.1.toNat (UInt8.ofNat (IntKind.wrap .u8 ((x127.toNat : Int) + 1)).toNat)) v117.1).bind fun x136 =>
    cond (decide ((x136.toNat : Int) ≠ 0)) (
     some (.inr (.inr (v117.2.1, (List.set v117.2.2.1 v117.1.toNat (UInt8.ofNat (IntKind.wrap .u8 ((x127.toNat : Int) + 1)).toNat)), v117.2.2.2)))
    ) (
     some (.inl ((IntKind.wrap .i64 (v117.1 - 1)), (v117.2.1, (List.set v117.2.2.1 v117.1.toNat (UInt8.ofNat (IntKind.wrap .u8 ((x127.toNat : Int) + 1)).toNat)), v117.2.2.2)))
    )
   ) (
    some (.inr (.inl ()))
   )
  ) (23, (a0, a0, false))
 ) : Option (Unit ⊕ ((List UInt8) × (List UInt8) × Bool)))).bind fun o70 =>
 Sum.elim (fun (v143 : Unit) =>
  some (a0, (List.replicate 24 0), true)
 ) (fun w146 =>
  some w146
 ) o70

noncomputable def ref03_In (a0 : ((List UInt8) × (List UInt8) × Bool)) (a1 : List UInt8) : Option Bool :=
 (((
  cond (!Op.bytesLess (bytesS a1).data.toList (bytesS a0.1).data.toList) (
   cond a0.2.2 (
    some true
   ) (
    some (Op.bytesLess (bytesS a1).data.toList (bytesS a0.2.1).data.toList)
   )
  ) (
   some false
  )
 ) : Option Bool)).bind fun o7 =>
 some o7

noncomputable def ref08_Has (a0 : List ((List UInt8) × (List UInt8) × Bool)) (a1 : List UInt8) : Option Bool :=
 (((
  whileO (V := Int) (O := (Unit ⊕ Bool)) (fun v72 =>
   cond (decide (v72 < (a0.length : Int))) (
    (gx a0 v72).bind fun x79 =>
    (ref03_In x79 a1).bind fun x82 =>
    cond x82 (
     some (.inr (.inr true))
    ) (
     some (.inl (IntKind.wrap .i64 (v72 + 1)))
    )
   ) (
    some (.inr (.inl ()))
   )
  ) 0
 ) : Option (Unit ⊕ Bool))).bind fun o43 =>
 Sum.elim (fun (v89 : Unit) =>
  some false
 ) (fun w92 =>
  some w92
 ) o43

set_option maxRecDepth 100000 in
theorem slices_BinarySearchFunc_ok {a0 : List ((List UInt8) × ByteArray)} {a1 : List UInt8} {r : (Int × Bool)} (h : slices_BinarySearchFunc a0 a1 = some r) : FnOk Tryz.prog 204 [.d (eSapiPair a0), .d (eapiKey a1), .fn 205 [] []] 0 (lk []) (fun rr oo => rr = .tup [.d (eint r.1), .d (ebool r.2)] ∧ oo = lk []) := by
  refine fnOk_of Tryz.func204 rfl rfl (cw_post ?_)
  unfold slices_BinarySearchFunc at h
  refine cw_seq (cw_region (
    .cons (o_box 0 rfl rfl .no rfl rfl rfl) <|
    .cons (o_as rfl rfl .no rfl) <|
    .cons (o_as rfl rfl .no rfl) <|
    .nil rfl
  ) ?_)
  refine cw_seq (cw_region (
    .cons (o_mv rfl rfl .no rfl) <|
    .cons (o_lenM (enc := eapiPair) (xs := a0) rfl rfl .no rfl sl35) <|
    .cons (o_as rfl rfl .no rfl) <|
    .nil rfl
  ) ?_)
  refine cw_seq (cw_region (
    .cons (o_mv rfl rfl .no rfl) <|
    .cons (o_as rfl rfl .no rfl) <|
    .cons (o_as rfl rfl .no rfl) <|
    .nil rfl
  ) ?_)
  obtain ⟨o43, hj44, h45⟩ := bind_some h
  refine cw_join (fun (z : Int) => St.of [(0, .d (eSapiPair a0)), (2, .fn 205 [] []), (4, .ptr 0 0), (8, .d (eint (a0.length : Int))), (9, .d (eint z))] [(0, .box (.d (eapiKey a1)))]) (fun (z : Int) => o43 = z) ?_ ?_
  · intro v111 hv112; subst hv112
    obtain ⟨o97, hj98, h99⟩ := bind_some h45
    refine cw_join (fun (z : Bool) => St.of [(6, .d (eint o43)), (7, .d (ebool z))] []) (fun (z : Bool) => o97 = z) ?_ ?_
    · intro v109 hv110; subst hv110
      have heq := ((Option.some.inj h99).symm).symm
      subst heq
      exact cw_ret ⟨_, (show Leads _ _ (St.of [(6, .d (eint o43)), (7, .d (ebool o97))] []) from .w (weak_of ⟨⟨_, rfl, .d rfl⟩, ⟨_, rfl, .d rfl⟩, trivial⟩ trivial drop0)), .inr rfl, _, res2 rfl rfl rfl, rfl, rfl⟩
    · skip
      rcases cond_some hj98 with ⟨hc100, h101⟩ | ⟨hc100, h102⟩
      · skip
        obtain ⟨x103, hx104, h105⟩ := bind_some h101
        have hx104g := gx_some hx104
        obtain ⟨x106, hx107, h108⟩ := bind_some (x := view_place_1 x103 a1) h105
        refine cw_region_any mixed (by kernel_rfl) (
          .cons (o_mv rfl rfl .no rfl) <|
          .cons (o_mv rfl rfl .no rfl) <|
          .cons (o_mv rfl rfl .no rfl) <|
          .cons (o_bin rfl rfl .no rfl rfl (b_lss _ _) rfl) <|
          .cons (o_mv rfl rfl .no rfl) <|
          .cons (o_mv rfl rfl (.yes rfl rfl hc100) rfl) <|
          .cons (o_mv rfl rfl (.yes rfl rfl hc100) rfl) <|
          .cons (o_mv rfl rfl (.yes rfl rfl hc100) rfl) <|
          .cons (o_ixM (enc := eapiPair) (xs := a0) rfl rfl (.yes rfl rfl hc100) rfl rfl sl35 sz47 hx104g.1 hx104g.2) <|
          .cons (o_ld rfl rfl (.yes rfl rfl hc100) rfl ta47 rfl rfl) <|
          .cons (o_ldP [] rfl rfl (.yes rfl rfl hc100) rfl rfl rfl ta39 rfl rfl) <|
          .cons (o_callV rfl rfl (.yes rfl rfl hc100) rfl Tryz.func205 rfl rfl (view_place_1_ok hx107) (.cons rfl .d (.cons rfl .d .nil)) ⟨trivial, trivial, trivial⟩ (.inl rfl)) <|
          .cons (o_bin rfl rfl (.yes rfl rfl hc100) rfl rfl (b_eql _ _) rfl) <|
          .cons (o_pickT rfl rfl .no rfl hc100 rfl) <|
          .cons (o_as rfl rfl .no rfl) <|
          .cons (o_as rfl rfl .no rfl) <|
          .nil rfl
        ) (by kernel_rfl) ?_
        exact ⟨(decide (x106 = 0)), (Option.some.inj h108).symm, .w (weak_of ⟨⟨_, rfl, .d rfl⟩, ⟨_, rfl, .d rfl⟩, trivial⟩ trivial drop0)⟩
      · skip
        refine cw_region_any mixed (by kernel_rfl) (
          .cons (o_mv rfl rfl .no rfl) <|
          .cons (o_mv rfl rfl .no rfl) <|
          .cons (o_mv rfl rfl .no rfl) <|
          .cons (o_bin rfl rfl .no rfl rfl (b_lss _ _) rfl) <|
          .cons (o_mv rfl rfl .no rfl) <|
          .cons (o_noT rfl rfl rfl rfl hc100) <|
          .cons (o_noT rfl rfl rfl rfl hc100) <|
          .cons (o_noT rfl rfl rfl rfl hc100) <|
          .cons (o_noT rfl rfl rfl rfl hc100) <|
          .cons (o_noT rfl rfl rfl rfl hc100) <|
          .cons (o_noT rfl rfl rfl rfl hc100) <|
          .cons (o_noT rfl rfl rfl rfl hc100) <|
          .cons (o_noT rfl rfl rfl rfl hc100) <|
          .cons (o_pickF rfl rfl .no rfl hc100 rfl) <|
          .cons (o_as rfl rfl .no rfl) <|
          .cons (o_as rfl rfl .no rfl) <|
          .nil rfl
        ) (by kernel_rfl) ?_
        exact ⟨false, (Option.some.inj h102).symm, .w (weak_of ⟨⟨_, rfl, .d rfl⟩, ⟨_, rfl, .d rfl⟩, trivial⟩ trivial drop0)⟩
  · skip
    refine cw_block ?_
    refine cw_while (V := (Int × Int)) (O := Int) (fun (z : (Int × Int)) => St.of [(0, .d (eSapiPair a0)), (2, .fn 205 [] []), (4, .ptr 0 0), (8, .d (eint (a0.length : Int))), (9, .d (eint z.1)), (10, .d (eint z.2))] [(0, .box (.d (eapiKey a1)))]) hj44 (.w (weak_of ⟨⟨_, rfl, .d rfl⟩, ⟨_, rfl, .fn .nil .nil⟩, ⟨_, rfl, .ptr rfl rfl⟩, ⟨_, rfl, .d rfl⟩, ⟨_, rfl, .d rfl⟩, ⟨_, rfl, .d rfl⟩, trivial⟩ ⟨.box rfl (.d rfl), trivial⟩ drop0)) ?_
    intro v72 x73 hb74 hx75
    refine cw_seq ?_
    refine cw_seq (cw_region (
      .cons (o_mv rfl rfl .no rfl) <|
      .cons (o_mv rfl rfl .no rfl) <|
      .cons (o_bin rfl rfl .no rfl rfl (b_lss _ _) rfl) <|
      .nil rfl
    ) ?_)
    rcases cond_some hb74 with ⟨hc76, h77⟩ | ⟨hc76, h78⟩
    · refine cw_condT rfl hc76 ?_
      refine cw_skip ?_
      refine cw_block ?_
      refine cw_seq (cw_region (
        .cons (o_mv rfl rfl .no rfl) <|
        .cons (o_mv rfl rfl .no rfl) <|
        .cons (o_bin rfl rfl .no rfl rfl (b_add _ _) rfl) <|
        .cons (o_conv rfl rfl .no rfl un3 un126) <|
        .cons (o_bin rfl rfl .no rfl rfl (b_shr _ _ (by decide)) rfl) <|
        .cons (o_conv rfl rfl .no rfl un126 un3) <|
        .cons (o_as rfl rfl .no rfl) <|
        .nil rfl
      ) ?_)
      obtain ⟨x79, hx80, h81⟩ := bind_some h77
      have hx80g := gx_some hx80
      obtain ⟨x82, hx83, h84⟩ := bind_some (x := view_place_1 x79 a1) h81
      refine cw_seq (cw_region_any mixed (by kernel_rfl) (
        .cons (o_mv rfl rfl .no rfl) <|
        .cons (o_mv rfl rfl .no rfl) <|
        .cons (o_mv rfl rfl .no rfl) <|
        .cons (o_ixM (enc := eapiPair) (xs := a0) rfl rfl .no rfl rfl sl35 sz47 hx80g.1 hx80g.2) <|
        .cons (o_ld rfl rfl .no rfl ta47 rfl rfl) <|
        .cons (o_ldP [] rfl rfl .no rfl rfl rfl ta39 rfl rfl) <|
        .cons (o_callV rfl rfl .no rfl Tryz.func205 rfl rfl (view_place_1_ok hx83) (.cons rfl .d (.cons rfl .d .nil)) ⟨trivial, trivial, trivial⟩ (.inl rfl)) <|
        .cons (o_bin rfl rfl .no rfl rfl (b_lss _ _) rfl) <|
        .nil rfl
      ) (by kernel_rfl) ?_)
      rcases cond_some h84 with ⟨hc85, h86⟩ | ⟨hc85, h87⟩
      · refine cw_condT rfl hc85 ?_
        refine cw_region (
          .cons (o_mv rfl rfl .no rfl) <|
          .cons (o_bin rfl rfl .no rfl rfl (b_add _ _) rfl) <|
          .cons (o_as rfl rfl .no rfl) <|
          .nil rfl
        ) ?_
        exact ⟨((IntKind.wrap .i64 ((IntKind.wrap .i64 (Int.fdiv (IntKind.wrap .u64 (IntKind.wrap .i64 (v72.1 + v72.2))) (2 ^ 1))) + 1)), v72.2), (Option.some.inj h86).symm, .w (weak_of ⟨⟨_, rfl, .d rfl⟩, ⟨_, rfl, .fn .nil .nil⟩, ⟨_, rfl, .ptr rfl rfl⟩, ⟨_, rfl, .d rfl⟩, ⟨_, rfl, .d rfl⟩, ⟨_, rfl, .d rfl⟩, trivial⟩ ⟨.box rfl (.d rfl), trivial⟩ drop0)⟩
      · refine cw_condF rfl hc85 ?_
        refine cw_region (
          .cons (o_mv rfl rfl .no rfl) <|
          .cons (o_as rfl rfl .no rfl) <|
          .nil rfl
        ) ?_
        exact ⟨(v72.1, (IntKind.wrap .i64 (Int.fdiv (IntKind.wrap .u64 (IntKind.wrap .i64 (v72.1 + v72.2))) (2 ^ 1)))), (Option.some.inj h87).symm, .w (weak_of ⟨⟨_, rfl, .d rfl⟩, ⟨_, rfl, .fn .nil .nil⟩, ⟨_, rfl, .ptr rfl rfl⟩, ⟨_, rfl, .d rfl⟩, ⟨_, rfl, .d rfl⟩, ⟨_, rfl, .d rfl⟩, trivial⟩ ⟨.box rfl (.d rfl), trivial⟩ drop0)⟩
    · refine cw_condF rfl hc76 ?_
      refine cw_exit ?_
      exact ⟨v72.1, (hx75 _ (Option.some.inj h78).symm).symm, .w (weak_of ⟨⟨_, rfl, .d rfl⟩, ⟨_, rfl, .fn .nil .nil⟩, ⟨_, rfl, .ptr rfl rfl⟩, ⟨_, rfl, .d rfl⟩, ⟨_, rfl, .d rfl⟩, trivial⟩ ⟨.box rfl (.d rfl), trivial⟩ drop0)⟩

set_option maxRecDepth 100000 in
theorem view_place_ok {a0 : List ((List UInt8) × ByteArray)} {a1 : List UInt8} {r : (Int × Bool)} (h : view_place a0 a1 = some r) : FnOk Tryz.prog 202 [.d (eSapiPair a0), .d (eapiKey a1)] 0 (lk []) (fun rr oo => rr = .tup [.d (eint r.1), .d (ebool r.2)] ∧ oo = lk []) := by
  refine fnOk_of Tryz.func202 rfl rfl (cw_post ?_)
  unfold view_place at h
  refine cw_seq (cw_region (
    .cons (o_box 0 rfl rfl .no rfl rfl rfl) <|
    .cons (o_as rfl rfl .no rfl) <|
    .cons (o_as rfl rfl .no rfl) <|
    .nil rfl
  ) ?_)
  obtain ⟨x1, hx2, h3⟩ := bind_some (x := slices_BinarySearchFunc a0 a1) h
  refine cw_seq (cw_region (
    .cons (o_mv rfl rfl .no rfl) <|
    .cons (o_ldP [] rfl rfl .no rfl rfl rfl ta39 rfl rfl) <|
    .cons (o_call rfl rfl .no Tryz.func204 rfl rfl (slices_BinarySearchFunc_ok hx2) (.cons rfl .d (.cons rfl .d (.cons rfl .f0 .nil))) ⟨trivial, trivial, (by simp [AV.live, AV.lives]), trivial⟩ (.inl rfl)) <|
    .cons (o_ext rfl rfl .no rfl rfl) <|
    .cons (o_ext rfl rfl .no rfl rfl) <|
    .cons (o_as rfl rfl .no rfl) <|
    .cons (o_as rfl rfl .no rfl) <|
    .nil rfl
  ) ?_)
  have heq := ((Option.some.inj h3).symm).symm
  subst heq
  exact cw_ret ⟨_, (show Leads _ _ (St.of [(4, .d (eint x1.1)), (5, .d (ebool x1.2))] []) from .w (weak_of ⟨⟨_, rfl, .d rfl⟩, ⟨_, rfl, .d rfl⟩, trivial⟩ trivial drop0)), .inr rfl, _, res2 rfl rfl rfl, rfl, rfl⟩

set_option maxRecDepth 100000 in
theorem view_Plain_Get_ok {a0 : (List ((List UInt8) × ByteArray))} {a1 : List UInt8} {r : (ByteArray × Bool × Int)} (h : view_Plain_Get a0 a1 = some r) : FnOk Tryz.prog 199 [.d (ePviewPlain a0), .d (eapiKey a1)] 0 (lk []) (fun rr oo => rr = .tup [.d (estring r.1), .d (ebool r.2.1), .d (eapiErrno r.2.2)] ∧ oo = lk []) := by
  refine fnOk_of Tryz.func199 rfl rfl (cw_post ?_)
  unfold view_Plain_Get at h
  refine cw_seq (cw_region (
    .cons (o_box 0 rfl rfl .no rfl rfl rfl) <|
    .cons (o_as rfl rfl .no rfl) <|
    .cons (o_as rfl rfl .no rfl) <|
    .cons (o_as rfl rfl .no rfl) <|
    .nil rfl
  ) ?_)
  obtain ⟨x1, hx2, h3⟩ := bind_some (x := view_place a0 a1) h
  refine cw_seq (cw_region_any mixed (by kernel_rfl) (
    .cons (o_mv rfl rfl .no rfl) <|
    .cons (o_nilA rfl rfl .no rfl) <|
    .cons (o_fld rfl rfl .no rfl fld113_0 (by decide) rfl rfl) <|
    .cons (o_ld rfl rfl .no rfl ta35 rfl rfl) <|
    .cons (o_ldP [] rfl rfl .no rfl rfl rfl ta39 rfl rfl) <|
    .cons (o_call rfl rfl .no Tryz.func202 rfl rfl (view_place_ok hx2) (.cons rfl .d (.cons rfl .d .nil)) ⟨trivial, trivial, trivial⟩ (.inl rfl)) <|
    .cons (o_mv rfl rfl .no rfl) <|
    .cons (o_ext rfl rfl .no rfl rfl) <|
    .cons (o_ext rfl rfl .no rfl rfl) <|
    .cons (o_as rfl rfl .no rfl) <|
    .cons (o_as rfl rfl .no rfl) <|
    .nil rfl
  ) (by kernel_rfl) ?_)
  refine cw_seq ?_
  refine cw_seq (cw_region (
    .cons (o_mv rfl rfl .no rfl) <|
    .cons (o_not rfl rfl .no rfl) <|
    .nil rfl
  ) ?_)
  rcases cond_some h3 with ⟨hc4, h5⟩ | ⟨hc4, h6⟩
  · refine cw_condT rfl hc4 ?_
    refine cw_seq (cw_region (
      .cons (o_as rfl rfl .no rfl) <|
      .cons (o_as rfl rfl .no rfl) <|
      .cons (o_as rfl rfl .no rfl) <|
      .nil rfl
    ) ?_)
    have heq := ((Option.some.inj h5).symm).symm
    subst heq
    exact cw_ret ⟨_, (show Leads _ _ (St.of [(4, .d (estring (ByteArray.mk #[]))), (5, .d (ebool false)), (6, .d (eapiErrno 0))] []) from .w (weak_of ⟨⟨_, rfl, .d rfl⟩, ⟨_, rfl, .d rfl⟩, ⟨_, rfl, .d rfl⟩, trivial⟩ trivial drop0)), .inr rfl, _, res3 rfl rfl rfl rfl, rfl, rfl⟩
  · refine cw_condF rfl hc4 ?_
    refine cw_skip ?_
    obtain ⟨x7, hx8, h9⟩ := bind_some h6
    have hx8g := gx_some hx8
    refine cw_seq (cw_region (
      .cons (o_mv rfl rfl .no rfl) <|
      .cons (o_nilA rfl rfl .no rfl) <|
      .cons (o_fld rfl rfl .no rfl fld113_0 (by decide) rfl rfl) <|
      .cons (o_ld rfl rfl .no rfl ta35 rfl rfl) <|
      .cons (o_mv rfl rfl .no rfl) <|
      .cons (o_ixM (enc := eapiPair) (xs := a0) rfl rfl .no rfl rfl sl35 sz47 hx8g.1 hx8g.2) <|
      .cons (o_fld rfl rfl .no rfl fld47_1 (by decide) rfl rfl) <|
      .cons (o_ld rfl rfl .no rfl ta9 rfl rfl) <|
      .cons (o_as rfl rfl .no rfl) <|
      .cons (o_as rfl rfl .no rfl) <|
      .cons (o_as rfl rfl .no rfl) <|
      .nil rfl
    ) ?_)
    have heq := ((Option.some.inj h9).symm).symm
    subst heq
    exact cw_ret ⟨_, (show Leads _ _ (St.of [(4, .d (estring x7.2)), (5, .d (ebool true)), (6, .d (eapiErrno 0))] []) from .w (weak_of ⟨⟨_, rfl, .d rfl⟩, ⟨_, rfl, .d rfl⟩, ⟨_, rfl, .d rfl⟩, trivial⟩ trivial drop0)), .inr rfl, _, res3 rfl rfl rfl rfl, rfl, rfl⟩

set_option maxRecDepth 100000 in
theorem key_In_ok {a0 : ((List UInt8) × (List UInt8) × Bool)} {a1 : List UInt8} {r : Bool} (h : key_In a0 a1 = some r) : FnOk Tryz.prog 36 [.d (eapiSpan a0), .d (eapiKey a1)] 0 (lk []) (fun rr oo => rr = .d (ebool r) ∧ oo = lk []) := by
  refine fnOk_of Tryz.func36 rfl rfl (cw_post ?_)
  unfold key_In at h
  refine cw_seq (cw_region (
    .cons (o_box 0 rfl rfl .no rfl rfl rfl) <|
    .cons (o_box 1 rfl rfl .no rfl rfl rfl) <|
    .cons (o_as rfl rfl .no rfl) <|
    .nil rfl
  ) ?_)
  obtain ⟨o16, hj17, h18⟩ := bind_some h
  refine cw_join (fun (z : Bool) => St.of [(4, .d (ebool z))] []) (fun (z : Bool) => o16 = z) ?_ ?_
  · intro v31 hv32; subst hv32
    have heq := ((Option.some.inj h18).symm).symm
    subst heq
    exact cw_ret ⟨_, (show Leads _ _ (St.of [(4, .d (ebool o16))] []) from .w (weak_of ⟨⟨_, rfl, .d rfl⟩, trivial⟩ trivial drop0)), .inr rfl, _, res1 rfl rfl, rfl, rfl⟩
  · skip
    obtain ⟨x19, hx20, h21⟩ := bind_some (x := bytes_Compare a1 a0.1) hj17
    rcases cond_some h21 with ⟨hc22, h23⟩ | ⟨hc22, h24⟩
    · skip
      rcases cond_some h23 with ⟨hc25, h26⟩ | ⟨hc25, h27⟩
      · skip
        refine cw_region_any mixed (by kernel_rfl) (
          .cons (o_slP rfl rfl .no rfl ar39 sz5 .no .no (by decide) (by decide) (by decide)) <|
          .cons (o_fldP rfl rfl .no rfl fld41_0 (by decide)) <|
          .cons (o_slP rfl rfl .no rfl ar39 sz5 .no .no (by decide) (by decide) (by decide)) <|
          .cons (o_call rfl rfl .no Tryz.func68 rfl rfl (bytes_Compare_ok hx20) (.cons rfl (.bsl [] rfl rfl rfl) (.cons rfl (.bsl [0] rfl rfl rfl) .nil)) ⟨trivial, trivial, trivial⟩ (.inr (DFlat.v _))) <|
          .cons (o_bin rfl rfl .no rfl rfl (b_geq _ _) rfl) <|
          .cons (o_mv rfl rfl .no rfl) <|
          .cons (o_fldP rfl rfl (.yes rfl rfl hc22) rfl fld41_2 (by decide)) <|
          .cons (o_ldP [2] rfl rfl (.yes rfl rfl hc22) rfl rfl rfl ta4 rfl rfl) <|
          .cons (o_mv rfl rfl (.yes rfl rfl hc22) rfl) <|
          .cons (o_noT rfl rfl rfl rfl hc25) <|
          .cons (o_noT rfl rfl rfl rfl hc25) <|
          .cons (o_noT rfl rfl rfl rfl hc25) <|
          .cons (o_noT rfl rfl rfl rfl hc25) <|
          .cons (o_noT rfl rfl rfl rfl hc25) <|
          .cons (o_pickT rfl rfl (.yes rfl rfl hc22) rfl hc25 rfl) <|
          .cons (o_pickT rfl rfl .no rfl hc22 rfl) <|
          .cons (o_as rfl rfl .no rfl) <|
          .nil rfl
        ) (by kernel_rfl) ?_
        exact ⟨true, (Option.some.inj h26).symm, .w (weak_of ⟨⟨_, rfl, .d rfl⟩, trivial⟩ trivial drop0)⟩
      · skip
        obtain ⟨x28, hx29, h30⟩ := bind_some (x := bytes_Compare a1 a0.2.1) h27
        refine cw_region_any mixed (by kernel_rfl) (
          .cons (o_slP rfl rfl .no rfl ar39 sz5 .no .no (by decide) (by decide) (by decide)) <|
          .cons (o_fldP rfl rfl .no rfl fld41_0 (by decide)) <|
          .cons (o_slP rfl rfl .no rfl ar39 sz5 .no .no (by decide) (by decide) (by decide)) <|
          .cons (o_call rfl rfl .no Tryz.func68 rfl rfl (bytes_Compare_ok hx20) (.cons rfl (.bsl [] rfl rfl rfl) (.cons rfl (.bsl [0] rfl rfl rfl) .nil)) ⟨trivial, trivial, trivial⟩ (.inr (DFlat.v _))) <|
          .cons (o_bin rfl rfl .no rfl rfl (b_geq _ _) rfl) <|
          .cons (o_mv rfl rfl .no rfl) <|
          .cons (o_fldP rfl rfl (.yes rfl rfl hc22) rfl fld41_2 (by decide)) <|
          .cons (o_ldP [2] rfl rfl (.yes rfl rfl hc22) rfl rfl rfl ta4 rfl rfl) <|
          .cons (o_mv rfl rfl (.yes rfl rfl hc22) rfl) <|
          .cons (o_slP rfl rfl (.yes rfl rfl hc25) rfl ar39 sz5 .no .no (by decide) (by decide) (by decide)) <|
          .cons (o_fldP rfl rfl (.yes rfl rfl hc25) rfl fld41_1 (by decide)) <|
          .cons (o_slP rfl rfl (.yes rfl rfl hc25) rfl ar39 sz5 .no .no (by decide) (by decide) (by decide)) <|
          .cons (o_call rfl rfl (.yes rfl rfl hc25) Tryz.func68 rfl rfl (bytes_Compare_ok hx29) (.cons rfl (.bsl [] rfl rfl rfl) (.cons rfl (.bsl [1] rfl rfl rfl) .nil)) ⟨trivial, trivial, trivial⟩ (.inr (DFlat.v _))) <|
          .cons (o_bin rfl rfl (.yes rfl rfl hc25) rfl rfl (b_lss _ _) rfl) <|
          .cons (o_pickF rfl rfl (.yes rfl rfl hc22) rfl hc25 rfl) <|
          .cons (o_pickT rfl rfl .no rfl hc22 rfl) <|
          .cons (o_as rfl rfl .no rfl) <|
          .nil rfl
        ) (by kernel_rfl) ?_
        exact ⟨(decide (x28 < 0)), (Option.some.inj h30).symm, .w (weak_of ⟨⟨_, rfl, .d rfl⟩, trivial⟩ trivial drop0)⟩
    · skip
      refine cw_region_any mixed (by kernel_rfl) (
        .cons (o_slP rfl rfl .no rfl ar39 sz5 .no .no (by decide) (by decide) (by decide)) <|
        .cons (o_fldP rfl rfl .no rfl fld41_0 (by decide)) <|
        .cons (o_slP rfl rfl .no rfl ar39 sz5 .no .no (by decide) (by decide) (by decide)) <|
        .cons (o_call rfl rfl .no Tryz.func68 rfl rfl (bytes_Compare_ok hx20) (.cons rfl (.bsl [] rfl rfl rfl) (.cons rfl (.bsl [0] rfl rfl rfl) .nil)) ⟨trivial, trivial, trivial⟩ (.inr (DFlat.v _))) <|
        .cons (o_bin rfl rfl .no rfl rfl (b_geq _ _) rfl) <|
        .cons (o_mv rfl rfl .no rfl) <|
        .cons (o_noT rfl rfl rfl rfl hc22) <|
        .cons (o_noT rfl rfl rfl rfl hc22) <|
        .cons (o_noT rfl rfl rfl rfl hc22) <|
        .cons (o_noU rfl rfl rfl rfl) <|
        .cons (o_noU rfl rfl rfl rfl) <|
        .cons (o_noU rfl rfl rfl rfl) <|
        .cons (o_noU rfl rfl rfl rfl) <|
        .cons (o_noU rfl rfl rfl rfl) <|
        .cons (o_noT rfl rfl rfl rfl hc22) <|
        .cons (o_pickF rfl rfl .no rfl hc22 rfl) <|
        .cons (o_as rfl rfl .no rfl) <|
        .nil rfl
      ) (by kernel_rfl) ?_
      exact ⟨false, (Option.some.inj h24).symm, .w (weak_of ⟨⟨_, rfl, .d rfl⟩, trivial⟩ trivial drop0)⟩

set_option maxRecDepth 100000 in
theorem span_bounds_okc {a0 : ((List UInt8) × (List UInt8) × Bool)} {r : (((List UInt8) × Bool) × ((List UInt8) × Bool))} (h : span_bounds a0 = some r) : FnOk Tryz.prog 102 [.d (eapiSpan a0)] 0 (lk []) (fun rr oo => rr = .tup [.d (espanbound r.1), .d (espanbound r.2)] ∧ oo = lk [(1, .box (.d (espanbound r.1))), (2, .box (.d (espanbound r.2)))]) := by
  refine fnOk_of Tryz.func102 rfl rfl (cw_post ?_)
  unfold span_bounds at h
  refine cw_seq (cw_region (
    .cons (o_box 0 rfl rfl .no rfl rfl rfl) <|
    .cons (o_alloc 1 rfl rfl .no ze159 rfl) <|
    .cons (o_alloc 2 rfl rfl .no ze159 rfl) <|
    .nil rfl
  ) ?_)
  refine cw_seq ?_
  refine cw_seq (cw_region (
    .cons (o_fldP rfl rfl .no rfl fld41_2 (by decide)) <|
    .cons (o_ldP [2] rfl rfl .no rfl rfl rfl ta4 rfl rfl) <|
    .nil rfl
  ) ?_)
  rcases cond_some h with ⟨hc1, h2⟩ | ⟨hc1, h3⟩
  · refine cw_condT rfl hc1 ?_
    refine cw_seq (cw_region (
      .cons (o_fldP rfl rfl .no rfl fld41_0 (by decide)) <|
      .cons (o_ldP [0] rfl rfl .no rfl rfl rfl ta39 rfl rfl) <|
      .cons (o_bld (ds := [eapiKey a0.1, ebool false]) rfl rfl .no zs159 rfl pl159 (.cons rfl rfl rfl rfl rfl rfl rfl .nil)) <|
      .cons (o_bld (ds := [eapiKey (List.replicate 24 0), ebool true]) rfl rfl .no zs159 rfl pl159 (.cons rfl rfl rfl rfl rfl rfl rfl .nil)) <|
      .cons (o_st [] rfl .no rfl rfl rfl rfl rfl sz159 rfl rfl) <|
      .cons (o_st [] rfl .no rfl rfl rfl rfl rfl sz159 rfl rfl) <|
      .nil rfl
    ) ?_)
    have heq := ((Option.some.inj h2).symm).symm
    subst heq
    exact cw_ret ⟨_, (show Leads _ _ (St.of [(2, .ptr 1 0), (3, .ptr 2 0)] [(1, .box (.d (espanbound (a0.1, false)))), (2, .box (.d (espanbound ((List.replicate 24 0), true))))]) from .w (weak_of ⟨⟨_, rfl, .ptr rfl rfl⟩, ⟨_, rfl, .ptr rfl rfl⟩, trivial⟩ ⟨.box rfl (.d rfl), .box rfl (.d rfl), trivial⟩ drop0)), .inr rfl, _, resCC rfl rfl rfl ta159 rfl rfl rfl rfl ta159 rfl rfl, rfl, rfl⟩
  · refine cw_condF rfl hc1 ?_
    refine cw_skip ?_
    refine cw_seq (cw_region_any mixed (by kernel_rfl) (
      .cons (o_fldP rfl rfl .no rfl fld41_0 (by decide)) <|
      .cons (o_ldP [0] rfl rfl .no rfl rfl rfl ta39 rfl rfl) <|
      .cons (o_bld (ds := [eapiKey a0.1, ebool false]) rfl rfl .no zs159 rfl pl159 (.cons rfl rfl rfl rfl rfl rfl rfl .nil)) <|
      .cons (o_fldP rfl rfl .no rfl fld41_1 (by decide)) <|
      .cons (o_ldP [1] rfl rfl .no rfl rfl rfl ta39 rfl rfl) <|
      .cons (o_bld (ds := [eapiKey a0.2.1, ebool false]) rfl rfl .no zs159 rfl pl159 (.cons rfl rfl rfl rfl rfl rfl rfl .nil)) <|
      .cons (o_st [] rfl .no rfl rfl rfl rfl rfl sz159 rfl rfl) <|
      .cons (o_st [] rfl .no rfl rfl rfl rfl rfl sz159 rfl rfl) <|
      .nil rfl
    ) (by kernel_rfl) ?_)
    have heq := ((Option.some.inj h3).symm).symm
    subst heq
    exact cw_ret ⟨_, (show Leads _ _ (St.of [(2, .ptr 1 0), (3, .ptr 2 0)] [(1, .box (.d (espanbound (a0.1, false)))), (2, .box (.d (espanbound (a0.2.1, false))))]) from .w (weak_of ⟨⟨_, rfl, .ptr rfl rfl⟩, ⟨_, rfl, .ptr rfl rfl⟩, trivial⟩ ⟨.box rfl (.d rfl), .box rfl (.d rfl), trivial⟩ drop0)), .inr rfl, _, resCC rfl rfl rfl ta159 rfl rfl rfl rfl ta159 rfl rfl, rfl, rfl⟩
theorem span_bounds_ok {a0 : ((List UInt8) × (List UInt8) × Bool)} {r : (((List UInt8) × Bool) × ((List UInt8) × Bool))} (h : span_bounds a0 = some r) : FnOk Tryz.prog 102 [.d (eapiSpan a0)] 0 (lk []) (fun rr oo => rr = .tup [.d (espanbound r.1), .d (espanbound r.2)] ∧ oo = lk []) := fnOk_forget2 (span_bounds_okc h)

set_option maxRecDepth 100000 in
theorem span_bound_compare_ok {a0 : ((List UInt8) × Bool)} {a1 : ((List UInt8) × Bool)} {r : Int} (h : span_bound_compare a0 a1 = some r) : FnOk Tryz.prog 103 [.d (espanbound a0), .d (espanbound a1)] 0 (lk []) (fun rr oo => rr = .d (eint r) ∧ oo = lk []) := by
  refine fnOk_of Tryz.func103 rfl rfl (cw_post ?_)
  unfold span_bound_compare at h
  refine cw_seq (cw_region (
    .cons (o_box 0 rfl rfl .no rfl rfl rfl) <|
    .cons (o_box 1 rfl rfl .no rfl rfl rfl) <|
    .cons (o_as rfl rfl .no rfl) <|
    .nil rfl
  ) ?_)
  refine cw_seq ?_
  refine cw_block ?_
  obtain ⟨o4, hj5, h6⟩ := bind_some h
  refine cw_join (fun (z : Bool) => St.of [(2, .ptr 0 0), (3, .ptr 1 0), (5, .d (ebool z))] [(0, .box (.d (espanbound a0))), (1, .box (.d (espanbound a1)))]) (fun (z : Bool) => o4 = z) ?_ ?_
  · intro v22 hv23; subst hv23
    rcases cond_some h6 with ⟨hc10, h11⟩ | ⟨hc10, h12⟩
    · refine cw_condT rfl hc10 ?_
      refine cw_seq (cw_region (
        .cons (o_as rfl rfl .no rfl) <|
        .nil rfl
      ) ?_)
      have heq := ((Option.some.inj h11).symm).symm
      subst heq
      exact cw_ret ⟨_, (show Leads _ _ (St.of [(4, .d (eint 0))] []) from .w (weak_of ⟨⟨_, rfl, .d rfl⟩, trivial⟩ trivial drop0)), .inr rfl, _, res1 rfl rfl, rfl, rfl⟩
    · refine cw_condF rfl hc10 ?_
      refine cw_seq (cw_region (
        .cons (o_fldP rfl rfl .no rfl fld159_1 (by decide)) <|
        .cons (o_ldP [1] rfl rfl .no rfl rfl rfl ta4 rfl rfl) <|
        .cons (o_as rfl rfl .no rfl) <|
        .nil rfl
      ) ?_)
      rcases cond_some h12 with ⟨hc13, h14⟩ | ⟨hc13, h15⟩
      · refine cw_condT rfl hc13 ?_
        refine cw_seq (cw_region (
          .cons (o_as rfl rfl .no rfl) <|
          .nil rfl
        ) ?_)
        have heq := ((Option.some.inj h14).symm).symm
        subst heq
        exact cw_ret ⟨_, (show Leads _ _ (St.of [(4, .d (eint 1))] []) from .w (weak_of ⟨⟨_, rfl, .d rfl⟩, trivial⟩ trivial drop0)), .inr rfl, _, res1 rfl rfl, rfl, rfl⟩
      · refine cw_condF rfl hc13 ?_
        refine cw_seq (cw_region (
          .cons (o_fldP rfl rfl .no rfl fld159_1 (by decide)) <|
          .cons (o_ldP [1] rfl rfl .no rfl rfl rfl ta4 rfl rfl) <|
          .cons (o_as rfl rfl .no rfl) <|
          .nil rfl
        ) ?_)
        rcases cond_some h15 with ⟨hc16, h17⟩ | ⟨hc16, h18⟩
        · refine cw_condT rfl hc16 ?_
          refine cw_seq (cw_region (
            .cons (o_as rfl rfl .no rfl) <|
            .nil rfl
          ) ?_)
          have heq := ((Option.some.inj h17).symm).symm
          subst heq
          exact cw_ret ⟨_, (show Leads _ _ (St.of [(4, .d (eint (-1)))] []) from .w (weak_of ⟨⟨_, rfl, .d rfl⟩, trivial⟩ trivial drop0)), .inr rfl, _, res1 rfl rfl, rfl, rfl⟩
        · refine cw_condF rfl hc16 ?_
          refine cw_skip ?_
          obtain ⟨x19, hx20, h21⟩ := bind_some (x := bytes_Compare a0.1 a1.1) h18
          refine cw_seq (cw_region_any mixed (by kernel_rfl) (
            .cons (o_fldP rfl rfl .no rfl fld159_0 (by decide)) <|
            .cons (o_slP rfl rfl .no rfl ar39 sz5 .no .no (by decide) (by decide) (by decide)) <|
            .cons (o_fldP rfl rfl .no rfl fld159_0 (by decide)) <|
            .cons (o_slP rfl rfl .no rfl ar39 sz5 .no .no (by decide) (by decide) (by decide)) <|
            .cons (o_call rfl rfl .no Tryz.func68 rfl rfl (bytes_Compare_ok hx20) (.cons rfl (.bsl [0] rfl rfl rfl) (.cons rfl (.bsl [0] rfl rfl rfl) .nil)) ⟨trivial, trivial, trivial⟩ (.inr (DFlat.v _))) <|
            .cons (o_as rfl rfl .no rfl) <|
            .nil rfl
          ) (by kernel_rfl) ?_)
          have heq := ((Option.some.inj h21).symm).symm
          subst heq
          exact cw_ret ⟨_, (show Leads _ _ (St.of [(4, .d (eint x19))] []) from .w (weak_of ⟨⟨_, rfl, .d rfl⟩, trivial⟩ trivial drop0)), .inr rfl, _, res1 rfl rfl, rfl, rfl⟩
  · skip
    rcases cond_some hj5 with ⟨hc7, h8⟩ | ⟨hc7, h9⟩
    · skip
      refine cw_region (
        .cons (o_fldP rfl rfl .no rfl fld159_1 (by decide)) <|
        .cons (o_ldP [1] rfl rfl .no rfl rfl rfl ta4 rfl rfl) <|
        .cons (o_mv rfl rfl .no rfl) <|
        .cons (o_fldP rfl rfl (.yes rfl rfl hc7) rfl fld159_1 (by decide)) <|
        .cons (o_ldP [1] rfl rfl (.yes rfl rfl hc7) rfl rfl rfl ta4 rfl rfl) <|
        .cons (o_pickT rfl rfl .no rfl hc7 rfl) <|
        .cons (o_as rfl rfl .no rfl) <|
        .nil rfl
      ) ?_
      exact ⟨a1.2, (Option.some.inj h8).symm, .w (weak_of ⟨⟨_, rfl, .ptr rfl rfl⟩, ⟨_, rfl, .ptr rfl rfl⟩, ⟨_, rfl, .d rfl⟩, trivial⟩ ⟨.box rfl (.d rfl), .box rfl (.d rfl), trivial⟩ drop0)⟩
    · skip
      refine cw_region (
        .cons (o_fldP rfl rfl .no rfl fld159_1 (by decide)) <|
        .cons (o_ldP [1] rfl rfl .no rfl rfl rfl ta4 rfl rfl) <|
        .cons (o_mv rfl rfl .no rfl) <|
        .cons (o_noT rfl rfl rfl rfl hc7) <|
        .cons (o_noT rfl rfl rfl rfl hc7) <|
        .cons (o_pickF rfl rfl .no rfl hc7 rfl) <|
        .cons (o_as rfl rfl .no rfl) <|
        .nil rfl
      ) ?_
      exact ⟨false, (Option.some.inj h9).symm, .w (weak_of ⟨⟨_, rfl, .ptr rfl rfl⟩, ⟨_, rfl, .ptr rfl rfl⟩, ⟨_, rfl, .d rfl⟩, trivial⟩ ⟨.box rfl (.d rfl), .box rfl (.d rfl), trivial⟩ drop0)⟩

set_option maxRecDepth 100000 in
theorem span_made_okc {a0 : ((List UInt8) × Bool)} {a1 : ((List UInt8) × Bool)} {r : ((List UInt8) × (List UInt8) × Bool)} (h : span_made a0 a1 = some r) : FnOk Tryz.prog 106 [.d (espanbound a0), .d (espanbound a1)] 0 (lk []) (fun rr oo => rr = .d (eapiSpan r) ∧ oo = lk [(2, .box (.d (eapiSpan r)))]) := by
  refine fnOk_of Tryz.func106 rfl rfl (cw_post ?_)
  unfold span_made at h
  refine cw_seq (cw_region (
    .cons (o_box 0 rfl rfl .no rfl rfl rfl) <|
    .cons (o_box 1 rfl rfl .no rfl rfl rfl) <|
    .cons (o_alloc 2 rfl rfl .no ze41 rfl) <|
    .nil rfl
  ) ?_)
  refine cw_seq (cw_region (
    .cons (o_fldP rfl rfl .no rfl fld159_0 (by decide)) <|
    .cons (o_ldP [0] rfl rfl .no rfl rfl rfl ta39 rfl rfl) <|
    .cons (o_fldP rfl rfl .no rfl fld159_0 (by decide)) <|
    .cons (o_ldP [0] rfl rfl .no rfl rfl rfl ta39 rfl rfl) <|
    .cons (o_fldP rfl rfl .no rfl fld159_1 (by decide)) <|
    .cons (o_ldP [1] rfl rfl .no rfl rfl rfl ta4 rfl rfl) <|
    .cons (o_bld (ds := [eapiKey a0.1, eapiKey a1.1, ebool a1.2]) rfl rfl .no zs41 rfl pl41 (.cons rfl rfl rfl rfl rfl rfl rfl (.cons rfl rfl rfl rfl rfl rfl rfl (.cons rfl rfl rfl rfl rfl rfl rfl .nil)))) <|
    .cons (o_st [] rfl .no rfl rfl rfl rfl rfl sz41 rfl rfl) <|
    .nil rfl
  ) ?_)
  have heq := ((Option.some.inj h).symm).symm
  subst heq
  exact cw_ret ⟨_, (show Leads _ _ (St.of [(4, .ptr 2 0)] [(2, .box (.d (eapiSpan (a0.1, a1.1, a1.2))))]) from .w (weak_of ⟨⟨_, rfl, .ptr rfl rfl⟩, trivial⟩ ⟨.box rfl (.d rfl), trivial⟩ drop0)), .inr rfl, _, resC rfl rfl rfl ta41 rfl rfl, rfl, rfl⟩
theorem span_made_ok {a0 : ((List UInt8) × Bool)} {a1 : ((List UInt8) × Bool)} {r : ((List UInt8) × (List UInt8) × Bool)} (h : span_made a0 a1 = some r) : FnOk Tryz.prog 106 [.d (espanbound a0), .d (espanbound a1)] 0 (lk []) (fun rr oo => rr = .d (eapiSpan r) ∧ oo = lk []) := fnOk_forget (span_made_okc h)

set_option maxRecDepth 100000 in
theorem span_Clean_1_ok {a0 : ((List UInt8) × (List UInt8) × Bool)} {r : Bool} (h : span_Clean_1 a0 = some r) : FnOk Tryz.prog 101 [.d (eapiSpan a0)] 0 (lk []) (fun rr oo => rr = .d (ebool r) ∧ oo = lk []) := by
  refine fnOk_of Tryz.func101 rfl rfl (cw_post ?_)
  unfold span_Clean_1 at h
  refine cw_seq (cw_region (
    .cons (o_box 0 rfl rfl .no rfl rfl rfl) <|
    .cons (o_as rfl rfl .no rfl) <|
    .nil rfl
  ) ?_)
  obtain ⟨x1, hx2, h3⟩ := bind_some (x := span_bounds a0) h
  refine cw_seq (cw_region (
    .cons (o_ldP [] rfl rfl .no rfl rfl rfl ta41 rfl rfl) <|
    .cons (o_call rfl rfl .no Tryz.func102 rfl rfl (span_bounds_ok hx2) (.cons rfl .d .nil) ⟨trivial, trivial⟩ (.inl rfl)) <|
    .cons (o_mv rfl rfl .no rfl) <|
    .cons (o_ext rfl rfl .no rfl rfl) <|
    .cons (o_ext rfl rfl .no rfl rfl) <|
    .cons (o_alloc 1 rfl rfl .no ze159 rfl) <|
    .cons (o_alloc 2 rfl rfl .no ze159 rfl) <|
    .cons (o_st [] rfl .no rfl rfl rfl rfl rfl sz159 rfl rfl) <|
    .cons (o_st [] rfl .no rfl rfl rfl rfl rfl sz159 rfl rfl) <|
    .nil rfl
  ) ?_)
  obtain ⟨x4, hx5, h6⟩ := bind_some (x := span_bound_compare x1.1 x1.2) h3
  refine cw_seq (cw_region (
    .cons (o_ldP [] rfl rfl .no rfl rfl rfl ta159 rfl rfl) <|
    .cons (o_ldP [] rfl rfl .no rfl rfl rfl ta159 rfl rfl) <|
    .cons (o_call rfl rfl .no Tryz.func103 rfl rfl (span_bound_compare_ok hx5) (.cons rfl .d (.cons rfl .d .nil)) ⟨trivial, trivial, trivial⟩ (.inl rfl)) <|
    .cons (o_bin rfl rfl .no rfl rfl (b_geq _ _) rfl) <|
    .cons (o_as rfl rfl .no rfl) <|
    .nil rfl
  ) ?_)
  have heq := ((Option.some.inj h6).symm).symm
  subst heq
  exact cw_ret ⟨_, (show Leads _ _ (St.of [(2, .d (ebool (decide (x4 ≥ 0))))] []) from .w (weak_of ⟨⟨_, rfl, .d rfl⟩, trivial⟩ trivial drop0)), .inr rfl, _, res1 rfl rfl, rfl, rfl⟩

set_option maxRecDepth 100000 in
theorem span_Clean_2_ok {a0 : ((List UInt8) × (List UInt8) × Bool)} {a1 : ((List UInt8) × (List UInt8) × Bool)} {r : Int} (h : span_Clean_2 a0 a1 = some r) : FnOk Tryz.prog 105 [.d (eapiSpan a0), .d (eapiSpan a1)] 0 (lk []) (fun rr oo => rr = .d (eint r) ∧ oo = lk []) := by
  refine fnOk_of Tryz.func105 rfl rfl (cw_post ?_)
  unfold span_Clean_2 at h
  refine cw_seq (cw_region (
    .cons (o_box 0 rfl rfl .no rfl rfl rfl) <|
    .cons (o_box 1 rfl rfl .no rfl rfl rfl) <|
    .cons (o_as rfl rfl .no rfl) <|
    .nil rfl
  ) ?_)
  obtain ⟨x1, hx2, h3⟩ := bind_some (x := bytes_Compare a0.1 a1.1) h
  refine cw_seq (cw_region_any mixed (by kernel_rfl) (
    .cons (o_fldP rfl rfl .no rfl fld41_0 (by decide)) <|
    .cons (o_slP rfl rfl .no rfl ar39 sz5 .no .no (by decide) (by decide) (by decide)) <|
    .cons (o_fldP rfl rfl .no rfl fld41_0 (by decide)) <|
    .cons (o_slP rfl rfl .no rfl ar39 sz5 .no .no (by decide) (by decide) (by decide)) <|
    .cons (o_call rfl rfl .no Tryz.func68 rfl rfl (bytes_Compare_ok hx2) (.cons rfl (.bsl [0] rfl rfl rfl) (.cons rfl (.bsl [0] rfl rfl rfl) .nil)) ⟨trivial, trivial, trivial⟩ (.inr (DFlat.v _))) <|
    .cons (o_as rfl rfl .no rfl) <|
    .nil rfl
  ) (by kernel_rfl) ?_)
  have heq := ((Option.some.inj h3).symm).symm
  subst heq
  exact cw_ret ⟨_, (show Leads _ _ (St.of [(4, .d (eint x1))] []) from .w (weak_of ⟨⟨_, rfl, .d rfl⟩, trivial⟩ trivial drop0)), .inr rfl, _, res1 rfl rfl, rfl, rfl⟩

set_option maxRecDepth 100000 in
theorem slices_IndexFunc_ok {a0 : List ((List UInt8) × (List UInt8) × Bool)} {r : Int} (h : slices_IndexFunc a0 = some r) : FnOk Tryz.prog 127 [.d (eSapiSpan a0), .fn 101 [] []] 0 (lk []) (fun rr oo => rr = .d (eint r) ∧ oo = lk []) := by
  refine fnOk_of Tryz.func127 rfl rfl (cw_post ?_)
  unfold slices_IndexFunc at h
  refine cw_seq (cw_region (
    .cons (o_as rfl rfl .no rfl) <|
    .nil rfl
  ) ?_)
  obtain ⟨o43, hj44, h45⟩ := bind_some h
  refine cw_join (fun (z : Unit) => St.of [] []) (fun (z : Unit) => o43 = (.inl z)) ?_ ?_
  · intro v89 hv91; subst hv91
    simp only [Sum.elim_inl] at h45
    refine cw_seq (cw_region (
      .cons (o_as rfl rfl .no rfl) <|
      .nil rfl
    ) ?_)
    have heq := ((Option.some.inj h45).symm).symm
    subst heq
    exact cw_ret ⟨_, (show Leads _ _ (St.of [(4, .d (eint (-1)))] []) from .w (weak_of ⟨⟨_, rfl, .d rfl⟩, trivial⟩ trivial drop0)), .inr rfl, _, res1 rfl rfl, rfl, rfl⟩
  · skip
    refine cw_seq (cw_region (
      .cons (o_mv rfl rfl .no rfl) <|
      .cons (o_lenM (enc := eapiSpan) (xs := a0) rfl rfl .no rfl sl59) <|
      .cons (o_mv rfl rfl .no rfl) <|
      .nil rfl
    ) ?_)
    refine cw_block ?_
    refine cw_while (V := Int) (O := (Unit ⊕ Int)) (fun (z : Int) => St.of [(0, .d (eSapiSpan a0)), (1, .fn 101 [] []), (7, .d (eint (a0.length : Int))), (8, .d (eint z))] []) hj44 (.w (weak_of ⟨⟨_, rfl, .d rfl⟩, ⟨_, rfl, .fn .nil .nil⟩, ⟨_, rfl, .d rfl⟩, ⟨_, rfl, .d rfl⟩, trivial⟩ trivial drop0)) ?_
    intro v72 x73 hb74 hx75
    refine cw_seq (cw_region (
      .cons (o_bin rfl rfl .no rfl rfl (b_lss _ _) rfl) <|
      .nil rfl
    ) ?_)
    refine cw_seq ?_
    rcases cond_some hb74 with ⟨hc76, h77⟩ | ⟨hc76, h78⟩
    · refine cw_condT rfl hc76 ?_
      refine cw_skip ?_
      refine cw_seq ?_
      refine cw_block ?_
      refine cw_seq (cw_region (
        .cons (o_mv rfl rfl .no rfl) <|
        .cons (o_as rfl rfl .no rfl) <|
        .nil rfl
      ) ?_)
      obtain ⟨x79, hx80, h81⟩ := bind_some h77
      have hx80g := gx_some hx80
      obtain ⟨x82, hx83, h84⟩ := bind_some (x := span_Clean_1 x79) h81
      refine cw_seq (cw_region (
        .cons (o_mv rfl rfl .no rfl) <|
        .cons (o_mv rfl rfl .no rfl) <|
        .cons (o_mv rfl rfl .no rfl) <|
        .cons (o_ixM (enc := eapiSpan) (xs := a0) rfl rfl .no rfl rfl sl59 sz41 hx80g.1 hx80g.2) <|
        .cons (o_ld rfl rfl .no rfl ta41 rfl rfl) <|
        .cons (o_callV rfl rfl .no rfl Tryz.func101 rfl rfl (span_Clean_1_ok hx83) (.cons rfl .d .nil) ⟨trivial, trivial⟩ (.inl rfl)) <|
        .nil rfl
      ) ?_)
      rcases cond_some h84 with ⟨hc85, h86⟩ | ⟨hc85, h87⟩
      · refine cw_condT rfl hc85 ?_
        refine cw_seq (cw_region (
          .cons (o_mv rfl rfl .no rfl) <|
          .cons (o_as rfl rfl .no rfl) <|
          .nil rfl
        ) ?_)
        have he88 := ((hx75 _ (Option.some.inj h86).symm).symm).symm
        subst he88
        have heq := ((Option.some.inj h45).symm).symm
        subst heq
        exact cw_ret ⟨_, (show Leads _ _ (St.of [(4, .d (eint v72))] []) from .w (weak_of ⟨⟨_, rfl, .d rfl⟩, trivial⟩ trivial drop0)), .inr rfl, _, res1 rfl rfl, rfl, rfl⟩
      · refine cw_condF rfl hc85 ?_
        refine cw_skip ?_
        refine cw_region (
          .cons (o_bin rfl rfl .no rfl rfl (b_add _ _) rfl) <|
          .cons (o_mv rfl rfl .no rfl) <|
          .nil rfl
        ) ?_
        exact ⟨(IntKind.wrap .i64 (v72 + 1)), (Option.some.inj h87).symm, .w (weak_of ⟨⟨_, rfl, .d rfl⟩, ⟨_, rfl, .fn .nil .nil⟩, ⟨_, rfl, .d rfl⟩, ⟨_, rfl, .d rfl⟩, trivial⟩ trivial drop0)⟩
    · refine cw_condF rfl hc76 ?_
      refine cw_exit ?_
      exact ⟨(), (hx75 _ (Option.some.inj h78).symm).symm, .w (weak_of trivial trivial drop0)⟩

set_option maxRecDepth 100000 in
theorem key_One_okc {a0 : List UInt8} {r : ((List UInt8) × (List UInt8) × Bool)} (h : key_One a0 = some r) : FnOk Tryz.prog 65 [.d (eapiKey a0)] 0 (lk []) (fun rr oo => rr = .d (eapiSpan r) ∧ oo = lk [(1, .box (.d (eapiSpan r)))]) := by
  refine fnOk_of Tryz.func65 rfl rfl (cw_post ?_)
  unfold key_One at h
  refine cw_seq (cw_region (
    .cons (o_box 0 rfl rfl .no rfl rfl rfl) <|
    .cons (o_alloc 1 rfl rfl .no ze41 rfl) <|
    .nil rfl
  ) ?_)
  refine cw_seq (cw_region (
    .cons (o_ldP [] rfl rfl .no rfl rfl rfl ta39 rfl rfl) <|
    .cons (o_ldP [] rfl rfl .no rfl rfl rfl ta39 rfl rfl) <|
    .cons (o_bld (ds := [eapiKey a0, eapiKey a0, ebool false]) rfl rfl .no zs41 rfl pl41 (.cons rfl rfl rfl rfl rfl rfl rfl (.cons rfl rfl rfl rfl rfl rfl rfl .nil))) <|
    .cons (o_alloc 2 rfl rfl .no ze41 rfl) <|
    .cons (o_st [] rfl .no rfl rfl rfl rfl rfl sz41 rfl rfl) <|
    .nil rfl
  ) ?_)
  obtain ⟨o70, hj71, h72⟩ := bind_some h
  refine cw_join (fun (z : Unit) => St.of [(1, .ptr 0 0), (2, .ptr 1 0)] [(0, .box (.d (eapiKey a0))), (1, .box (.d (eapiSpan ((List.replicate 24 0), (List.replicate 24 0), false))))]) (fun (z : Unit) => o70 = (.inl z)) ?_ ?_
  · intro v143 hv145; subst hv145
    simp only [Sum.elim_inl] at h72
    refine cw_seq (cw_region (
      .cons (o_ldP [] rfl rfl .no rfl rfl rfl ta39 rfl rfl) <|
      .cons (o_bld (ds := [eapiKey a0, eapiKey (List.replicate 24 0), ebool true]) rfl rfl .no zs41 rfl pl41 (.cons rfl rfl rfl rfl rfl rfl rfl (.cons rfl rfl rfl rfl rfl rfl rfl .nil))) <|
      .cons (o_st [] rfl .no rfl rfl rfl rfl rfl sz41 rfl rfl) <|
      .nil rfl
    ) ?_)
    have heq := ((Option.some.inj h72).symm).symm
    subst heq
    exact cw_ret ⟨_, (show Leads _ _ (St.of [(2, .ptr 1 0)] [(1, .box (.d (eapiSpan (a0, (List.replicate 24 0), true))))]) from .w (weak_of ⟨⟨_, rfl, .ptr rfl rfl⟩, trivial⟩ ⟨.box rfl (.d rfl), trivial⟩ drop0)), .inr rfl, _, resC rfl rfl rfl ta41 rfl rfl, rfl, rfl⟩
  · skip
    refine cw_seq (cw_region (
      .cons (o_as rfl rfl .no rfl) <|
      .nil rfl
    ) ?_)
    refine cw_block ?_
    refine cw_while (V := (Int × ((List UInt8) × (List UInt8) × Bool))) (O := (Unit ⊕ ((List UInt8) × (List UInt8) × Bool))) (fun (z : (Int × ((List UInt8) × (List UInt8) × Bool))) => St.of [(1, .ptr 0 0), (2, .ptr 1 0), (3, .ptr 2 0), (4, .d (eint z.1))] [(0, .box (.d (eapiKey a0))), (1, .box (.d (eapiSpan ((List.replicate 24 0), (List.replicate 24 0), false)))), (2, .box (.d (eapiSpan z.2)))]) hj71 (.w (weak_of ⟨⟨_, rfl, .ptr rfl rfl⟩, ⟨_, rfl, .ptr rfl rfl⟩, ⟨_, rfl, .ptr rfl rfl⟩, ⟨_, rfl, .d rfl⟩, trivial⟩ ⟨.box rfl (.d rfl), .box rfl (.d rfl), .box rfl (.d rfl), trivial⟩ drop0)) ?_
    intro v117 x118 hb119 hx120
    refine cw_seq ?_
    refine cw_seq (cw_region (
      .cons (o_mv rfl rfl .no rfl) <|
      .cons (o_bin rfl rfl .no rfl rfl (b_geq _ _) rfl) <|
      .nil rfl
    ) ?_)
    rcases cond_some hb119 with ⟨hc121, h122⟩ | ⟨hc121, h123⟩
    · refine cw_condT rfl hc121 ?_
      refine cw_skip ?_
      refine cw_seq ?_
      refine cw_block ?_
      obtain ⟨x124, hx125, h126⟩ := bind_some h122
      have hx125g := ck_dec hx125
      obtain ⟨x127, hx128, h129⟩ := bind_some h126
      have hx128g := gx_some hx128
      obtain ⟨x130, hx131, h132⟩ := bind_some h129
      have hx131g := ck_dec hx131
      obtain ⟨x133, hx134, h135⟩ := bind_some h132
      have hx134g := ck_dec hx134
      refine cw_seq (cw_region (
        .cons (o_mv rfl rfl .no rfl) <|
        .cons (o_fldP rfl rfl .no rfl fld41_1 (by decide)) <|
        .cons (o_ixP rfl rfl .no rfl rfl ar39 sz5 hx125g) <|
        .cons (o_ldB (l := v117.2.2.1) [1] rfl rfl .no rfl rfl rfl hx128g.2 ta5) <|
        .cons (o_bin rfl rfl .no rfl rfl (b_add _ _) rfl) <|
        .cons (o_fldP rfl rfl .no rfl fld41_1 (by decide)) <|
        .cons (o_ixP rfl rfl .no rfl rfl ar39 sz5 hx125g) <|
        .cons (o_stB (l := v117.2.2.1) [1] rfl .no rfl rfl rfl rfl hx131g hx134g sz5) <|
        .nil rfl
      ) ?_)
      obtain ⟨x136, hx137, h138⟩ := bind_some h135
      have hx137g := gx_some hx137
      refine cw_seq (cw_region (
        .cons (o_mv rfl rfl .no rfl) <|
        .cons (o_fldP rfl rfl .no rfl fld41_1 (by decide)) <|
        .cons (o_ixP rfl rfl .no rfl rfl ar39 sz5 hx125g) <|
        .cons (o_ldB (l := (List.set v117.2.2.1 v117.1.toNat (UInt8.ofNat (IntKind.wrap .u8 ((x127.toNat : Int) + 1)).toNat))) [1] rfl rfl .no rfl rfl rfl hx137g.2 ta5) <|
        .cons (o_bin rfl rfl .no rfl rfl (b_neq _ _) rfl) <|
        .nil rfl
      ) ?_)
      rcases cond_some h138 with ⟨hc139, h140⟩ | ⟨hc139, h141⟩
      · refine cw_condT rfl hc139 ?_
        refine cw_seq (cw_region (
          .cons (o_ldP [] rfl rfl .no rfl rfl rfl ta41 rfl rfl) <|
          .cons (o_st [] rfl .no rfl rfl rfl rfl rfl sz41 rfl rfl) <|
          .nil rfl
        ) ?_)
        have he142 := ((hx120 _ (Option.some.inj h140).symm).symm).symm
        subst he142
        have heq := ((Option.some.inj h72).symm).symm
        subst heq
        exact cw_ret ⟨_, (show Leads _ _ (St.of [(2, .ptr 1 0)] [(1, .box (.d (eapiSpan (v117.2.1, (List.set v117.2.2.1 v117.1.toNat (UInt8.ofNat (IntKind.wrap .u8 ((x127.toNat : Int) + 1)).toNat)), v117.2.2.2))))]) from .w (weak_of ⟨⟨_, rfl, .ptr rfl rfl⟩, trivial⟩ ⟨.box rfl (.d rfl), trivial⟩ drop0)), .inr rfl, _, resC rfl rfl rfl ta41 rfl rfl, rfl, rfl⟩
      · refine cw_condF rfl hc139 ?_
        refine cw_skip ?_
        refine cw_region (
          .cons (o_mv rfl rfl .no rfl) <|
          .cons (o_bin rfl rfl .no rfl rfl (b_sub _ _) rfl) <|
          .cons (o_as rfl rfl .no rfl) <|
          .nil rfl
        ) ?_
        exact ⟨((IntKind.wrap .i64 (v117.1 - 1)), (v117.2.1, (List.set v117.2.2.1 v117.1.toNat (UInt8.ofNat (IntKind.wrap .u8 ((x127.toNat : Int) + 1)).toNat)), v117.2.2.2)), (Option.some.inj h141).symm, .w (weak_of ⟨⟨_, rfl, .ptr rfl rfl⟩, ⟨_, rfl, .ptr rfl rfl⟩, ⟨_, rfl, .ptr rfl rfl⟩, ⟨_, rfl, .d rfl⟩, trivial⟩ ⟨.box rfl (.d rfl), .box rfl (.d rfl), .box rfl (.d rfl), trivial⟩ drop0)⟩
    · refine cw_condF rfl hc121 ?_
      refine cw_exit ?_
      exact ⟨(), (hx120 _ (Option.some.inj h123).symm).symm, .w (weak_of ⟨⟨_, rfl, .ptr rfl rfl⟩, ⟨_, rfl, .ptr rfl rfl⟩, trivial⟩ ⟨.box rfl (.d rfl), .box rfl (.d rfl), trivial⟩ drop0)⟩
theorem key_One_ok {a0 : List UInt8} {r : ((List UInt8) × (List UInt8) × Bool)} (h : key_One a0 = some r) : FnOk Tryz.prog 65 [.d (eapiKey a0)] 0 (lk []) (fun rr oo => rr = .d (eapiSpan r) ∧ oo = lk []) := fnOk_forget (key_One_okc h)

set_option maxRecDepth 100000 in
theorem ref03_In_ok {a0 : ((List UInt8) × (List UInt8) × Bool)} {a1 : List UInt8} {r : Bool} (h : ref03_In a0 a1 = some r) : FnOk Tryz.prog 59 [.d (eapiSpan a0), .d (eapiKey a1)] 0 (lk []) (fun rr oo => rr = .d (ebool r) ∧ oo = lk []) := by
  refine fnOk_of Tryz.func59 rfl rfl (cw_post ?_)
  unfold ref03_In at h
  refine cw_seq (cw_region (
    .cons (o_box 0 rfl rfl .no rfl rfl rfl) <|
    .cons (o_box 1 rfl rfl .no rfl rfl rfl) <|
    .cons (o_as rfl rfl .no rfl) <|
    .nil rfl
  ) ?_)
  obtain ⟨o7, hj8, h9⟩ := bind_some h
  refine cw_join (fun (z : Bool) => St.of [(4, .d (ebool z))] []) (fun (z : Bool) => o7 = z) ?_ ?_
  · intro v16 hv17; subst hv17
    have heq := ((Option.some.inj h9).symm).symm
    subst heq
    exact cw_ret ⟨_, (show Leads _ _ (St.of [(4, .d (ebool o7))] []) from .w (weak_of ⟨⟨_, rfl, .d rfl⟩, trivial⟩ trivial drop0)), .inr rfl, _, res1 rfl rfl, rfl, rfl⟩
  · skip
    rcases cond_some hj8 with ⟨hc10, h11⟩ | ⟨hc10, h12⟩
    · skip
      rcases cond_some h11 with ⟨hc13, h14⟩ | ⟨hc13, h15⟩
      · skip
        refine cw_region_any mixed (by kernel_rfl) (
          .cons (o_slP rfl rfl .no rfl ar39 sz5 .no .no (by decide) (by decide) (by decide)) <|
          .cons (o_cvB [] rfl rfl .no rfl rfl rfl sl26 un5 un9) <|
          .cons (o_fldP rfl rfl .no rfl fld41_0 (by decide)) <|
          .cons (o_slP rfl rfl .no rfl ar39 sz5 .no .no (by decide) (by decide) (by decide)) <|
          .cons (o_cvB [0] rfl rfl .no rfl rfl rfl sl26 un5 un9) <|
          .cons (o_bin rfl rfl .no rfl rfl (s_geq _ _) rfl) <|
          .cons (o_mv rfl rfl .no rfl) <|
          .cons (o_fldP rfl rfl (.yes rfl rfl hc10) rfl fld41_2 (by decide)) <|
          .cons (o_ldP [2] rfl rfl (.yes rfl rfl hc10) rfl rfl rfl ta4 rfl rfl) <|
          .cons (o_mv rfl rfl (.yes rfl rfl hc10) rfl) <|
          .cons (o_noT rfl rfl rfl rfl hc13) <|
          .cons (o_noT rfl rfl rfl rfl hc13) <|
          .cons (o_noT rfl rfl rfl rfl hc13) <|
          .cons (o_noT rfl rfl rfl rfl hc13) <|
          .cons (o_noT rfl rfl rfl rfl hc13) <|
          .cons (o_noT rfl rfl rfl rfl hc13) <|
          .cons (o_pickT rfl rfl (.yes rfl rfl hc10) rfl hc13 rfl) <|
          .cons (o_pickT rfl rfl .no rfl hc10 rfl) <|
          .cons (o_as rfl rfl .no rfl) <|
          .nil rfl
        ) (by kernel_rfl) ?_
        exact ⟨true, (Option.some.inj h14).symm, .w (weak_of ⟨⟨_, rfl, .d rfl⟩, trivial⟩ trivial drop0)⟩
      · skip
        refine cw_region_any mixed (by kernel_rfl) (
          .cons (o_slP rfl rfl .no rfl ar39 sz5 .no .no (by decide) (by decide) (by decide)) <|
          .cons (o_cvB [] rfl rfl .no rfl rfl rfl sl26 un5 un9) <|
          .cons (o_fldP rfl rfl .no rfl fld41_0 (by decide)) <|
          .cons (o_slP rfl rfl .no rfl ar39 sz5 .no .no (by decide) (by decide) (by decide)) <|
          .cons (o_cvB [0] rfl rfl .no rfl rfl rfl sl26 un5 un9) <|
          .cons (o_bin rfl rfl .no rfl rfl (s_geq _ _) rfl) <|
          .cons (o_mv rfl rfl .no rfl) <|
          .cons (o_fldP rfl rfl (.yes rfl rfl hc10) rfl fld41_2 (by decide)) <|
          .cons (o_ldP [2] rfl rfl (.yes rfl rfl hc10) rfl rfl rfl ta4 rfl rfl) <|
          .cons (o_mv rfl rfl (.yes rfl rfl hc10) rfl) <|
          .cons (o_slP rfl rfl (.yes rfl rfl hc13) rfl ar39 sz5 .no .no (by decide) (by decide) (by decide)) <|
          .cons (o_cvB [] rfl rfl (.yes rfl rfl hc13) rfl rfl rfl sl26 un5 un9) <|
          .cons (o_fldP rfl rfl (.yes rfl rfl hc13) rfl fld41_1 (by decide)) <|
          .cons (o_slP rfl rfl (.yes rfl rfl hc13) rfl ar39 sz5 .no .no (by decide) (by decide) (by decide)) <|
          .cons (o_cvB [1] rfl rfl (.yes rfl rfl hc13) rfl rfl rfl sl26 un5 un9) <|
          .cons (o_bin rfl rfl (.yes rfl rfl hc13) rfl rfl (s_lss _ _) rfl) <|
          .cons (o_pickF rfl rfl (.yes rfl rfl hc10) rfl hc13 rfl) <|
          .cons (o_pickT rfl rfl .no rfl hc10 rfl) <|
          .cons (o_as rfl rfl .no rfl) <|
          .nil rfl
        ) (by kernel_rfl) ?_
        exact ⟨(Op.bytesLess (bytesS a1).data.toList (bytesS a0.2.1).data.toList), (Option.some.inj h15).symm, .w (weak_of ⟨⟨_, rfl, .d rfl⟩, trivial⟩ trivial drop0)⟩
    · skip
      refine cw_region_any mixed (by kernel_rfl) (
        .cons (o_slP rfl rfl .no rfl ar39 sz5 .no .no (by decide) (by decide) (by decide)) <|
        .cons (o_cvB [] rfl rfl .no rfl rfl rfl sl26 un5 un9) <|
        .cons (o_fldP rfl rfl .no rfl fld41_0 (by decide)) <|
        .cons (o_slP rfl rfl .no rfl ar39 sz5 .no .no (by decide) (by decide) (by decide)) <|
        .cons (o_cvB [0] rfl rfl .no rfl rfl rfl sl26 un5 un9) <|
        .cons (o_bin rfl rfl .no rfl rfl (s_geq _ _) rfl) <|
        .cons (o_mv rfl rfl .no rfl) <|
        .cons (o_noT rfl rfl rfl rfl hc10) <|
        .cons (o_noT rfl rfl rfl rfl hc10) <|
        .cons (o_noT rfl rfl rfl rfl hc10) <|
        .cons (o_noU rfl rfl rfl rfl) <|
        .cons (o_noU rfl rfl rfl rfl) <|
        .cons (o_noU rfl rfl rfl rfl) <|
        .cons (o_noU rfl rfl rfl rfl) <|
        .cons (o_noU rfl rfl rfl rfl) <|
        .cons (o_noU rfl rfl rfl rfl) <|
        .cons (o_noT rfl rfl rfl rfl hc10) <|
        .cons (o_pickF rfl rfl .no rfl hc10 rfl) <|
        .cons (o_as rfl rfl .no rfl) <|
        .nil rfl
      ) (by kernel_rfl) ?_
      exact ⟨false, (Option.some.inj h12).symm, .w (weak_of ⟨⟨_, rfl, .d rfl⟩, trivial⟩ trivial drop0)⟩

set_option maxRecDepth 100000 in
theorem ref08_Has_ok {a0 : List ((List UInt8) × (List UInt8) × Bool)} {a1 : List UInt8} {r : Bool} (h : ref08_Has a0 a1 = some r) : FnOk Tryz.prog 26 [.d (eSapiSpan a0), .d (eapiKey a1)] 0 (lk []) (fun rr oo => rr = .d (ebool r) ∧ oo = lk []) := by
  refine fnOk_of Tryz.func26 rfl rfl (cw_post ?_)
  unfold ref08_Has at h
  refine cw_seq (cw_region (
    .cons (o_box 0 rfl rfl .no rfl rfl rfl) <|
    .cons (o_as rfl rfl .no rfl) <|
    .nil rfl
  ) ?_)
  obtain ⟨o43, hj44, h45⟩ := bind_some h
  refine cw_join (fun (z : Unit) => St.of [] []) (fun (z : Unit) => o43 = (.inl z)) ?_ ?_
  · intro v89 hv91; subst hv91
    simp only [Sum.elim_inl] at h45
    refine cw_seq (cw_region (
      .cons (o_as rfl rfl .no rfl) <|
      .nil rfl
    ) ?_)
    have heq := ((Option.some.inj h45).symm).symm
    subst heq
    exact cw_ret ⟨_, (show Leads _ _ (St.of [(4, .d (ebool false))] []) from .w (weak_of ⟨⟨_, rfl, .d rfl⟩, trivial⟩ trivial drop0)), .inr rfl, _, res1 rfl rfl, rfl, rfl⟩
  · skip
    refine cw_seq (cw_region (
      .cons (o_as rfl rfl .no rfl) <|
      .nil rfl
    ) ?_)
    refine cw_block ?_
    refine cw_while (V := Int) (O := (Unit ⊕ Bool)) (fun (z : Int) => St.of [(0, .d (eSapiSpan a0)), (3, .ptr 0 0), (5, .d (eint z))] [(0, .box (.d (eapiKey a1)))]) hj44 (.w (weak_of ⟨⟨_, rfl, .d rfl⟩, ⟨_, rfl, .ptr rfl rfl⟩, ⟨_, rfl, .d rfl⟩, trivial⟩ ⟨.box rfl (.d rfl), trivial⟩ drop0)) ?_
    intro v72 x73 hb74 hx75
    refine cw_seq ?_
    refine cw_seq (cw_region (
      .cons (o_mv rfl rfl .no rfl) <|
      .cons (o_mv rfl rfl .no rfl) <|
      .cons (o_lenM (enc := eapiSpan) (xs := a0) rfl rfl .no rfl sl59) <|
      .cons (o_bin rfl rfl .no rfl rfl (b_lss _ _) rfl) <|
      .nil rfl
    ) ?_)
    rcases cond_some hb74 with ⟨hc76, h77⟩ | ⟨hc76, h78⟩
    · refine cw_condT rfl hc76 ?_
      refine cw_skip ?_
      refine cw_seq ?_
      refine cw_block ?_
      obtain ⟨x79, hx80, h81⟩ := bind_some h77
      have hx80g := gx_some hx80
      obtain ⟨x82, hx83, h84⟩ := bind_some (x := ref03_In x79 a1) h81
      refine cw_seq (cw_region_any mixed (by kernel_rfl) (
        .cons (o_mv rfl rfl .no rfl) <|
        .cons (o_mv rfl rfl .no rfl) <|
        .cons (o_ixM (enc := eapiSpan) (xs := a0) rfl rfl .no rfl rfl sl59 sz41 hx80g.1 hx80g.2) <|
        .cons (o_ld rfl rfl .no rfl ta41 rfl rfl) <|
        .cons (o_ldP [] rfl rfl .no rfl rfl rfl ta39 rfl rfl) <|
        .cons (o_call rfl rfl .no Tryz.func59 rfl rfl (ref03_In_ok hx83) (.cons rfl .d (.cons rfl .d .nil)) ⟨trivial, trivial, trivial⟩ (.inl rfl)) <|
        .cons (o_as rfl rfl .no rfl) <|
        .nil rfl
      ) (by kernel_rfl) ?_)
      refine cw_seq (cw_region (
        .cons (o_mv rfl rfl .no rfl) <|
        .nil rfl
      ) ?_)
      rcases cond_some h84 with ⟨hc85, h86⟩ | ⟨hc85, h87⟩
      · refine cw_condT rfl hc85 ?_
        refine cw_seq (cw_region (
          .cons (o_as rfl rfl .no rfl) <|
          .nil rfl
        ) ?_)
        have he88 := ((hx75 _ (Option.some.inj h86).symm).symm).symm
        subst he88
        have heq := ((Option.some.inj h45).symm).symm
        subst heq
        exact cw_ret ⟨_, (show Leads _ _ (St.of [(4, .d (ebool true))] []) from .w (weak_of ⟨⟨_, rfl, .d rfl⟩, trivial⟩ trivial drop0)), .inr rfl, _, res1 rfl rfl, rfl, rfl⟩
      · refine cw_condF rfl hc85 ?_
        refine cw_skip ?_
        refine cw_region (
          .cons (o_mv rfl rfl .no rfl) <|
          .cons (o_bin rfl rfl .no rfl rfl (b_add _ _) rfl) <|
          .cons (o_as rfl rfl .no rfl) <|
          .nil rfl
        ) ?_
        exact ⟨(IntKind.wrap .i64 (v72 + 1)), (Option.some.inj h87).symm, .w (weak_of ⟨⟨_, rfl, .d rfl⟩, ⟨_, rfl, .ptr rfl rfl⟩, ⟨_, rfl, .d rfl⟩, trivial⟩ ⟨.box rfl (.d rfl), trivial⟩ drop0)⟩
    · refine cw_condF rfl hc76 ?_
      refine cw_exit ?_
      exact ⟨(), (hx75 _ (Option.some.inj h78).symm).symm, .w (weak_of trivial trivial drop0)⟩

end
end Go.Val

