/- Walks of the program's functions, printed. -/
import Derived.Test.YthipaajmgfnagaaGreatDoorWg
import Derived.Test.YthipaajmgfnagaaGreatDoorHf
import Derived.Test.YthipaajmgfnagaaGreatDoorXv
set_option linter.unusedSectionVars false
set_option linter.unusedVariables false
set_option linter.unusedSimpArgs false
namespace Go.Val
open Go.RowKit Go.Proofs

section
variable [NoDrw]

noncomputable def key_number (a0 : Int) : Option Bool :=
 (((
  cond (decide (a0 ≥ 1)) (
   some (decide (a0 < 1073741824))
  ) (
   some false
  )
 ) : Option Bool)).bind fun o4 =>
 some o4

noncomputable def key_word_p (a0 : List UInt8) (a1 : Int) : Option (List UInt8) :=
 (((
  whileO (V := (Int × (List UInt8))) (O := (List UInt8)) (fun v87 =>
   cond (decide (v87.1 < 4)) (
    (ck (decide (0 ≤ (IntKind.wrap .i64 (8 * (IntKind.wrap .i64 ((IntKind.wrap .i64 (4 - 1)) - v87.1))))))).bind fun _ =>
    (ck (decide (0 ≤ v87.1 ∧ v87.1 < 4))).bind fun _ =>
    (ck (decide (v87.1.toNat < v87.2.length))).bind fun _ =>
    (ck (decide (0 ≤ (IntKind.wrap .u8 (Int.fdiv a1 (2 ^ (min (IntKind.wrap .i64 (8 * (IntKind.wrap .i64 ((IntKind.wrap .i64 (4 - 1)) - v87.1)))).toNat (IntKind.bits .i64))))) ∧ (IntKind.wrap .u8 (Int.fdiv a1 (2 ^ (min (IntKind.wrap .i64 (8 * (IntKind.wrap .i64 ((IntKind.wrap .i64 (4 - 1)) - v87.1)))).toNat (IntKind.bits .i64))))) < 256))).bind fun _ =>
    some (.inl ((IntKind.wrap .i64 (v87.1 + 1)), (List.set v87.2 v87.1.toNat (UInt8.ofNat (IntKind.wrap .u8 (Int.fdiv a1 (2 ^ (min (IntKind.wrap .i64 (8 * (IntKind.wrap .i64 ((IntKind.wrap .i64 (4 - 1)) - v87.1)))).toNat (IntKind.bits .i64))))).toNat))))
   ) (
    some (.inr v87.2)
   )
  ) (0, a0)
 ) : Option (List UInt8))).bind fun o52 =>
 some o52

noncomputable def key_word_q (a0 : List UInt8) (a1 : Int) : Option (List UInt8) :=
 (((
  whileO (V := (Int × (List UInt8))) (O := (List UInt8)) (fun v87 =>
   cond (decide (v87.1 < 4)) (
    (ck (decide (0 ≤ (IntKind.wrap .i64 (8 * (IntKind.wrap .i64 ((IntKind.wrap .i64 (4 - 1)) - v87.1))))))).bind fun _ =>
    (ck (decide (0 ≤ v87.1 ∧ v87.1 < 4))).bind fun _ =>
    (ck (decide (20 + v87.1.toNat < v87.2.length))).bind fun _ =>
    (ck (decide (0 ≤ (IntKind.wrap .u8 (Int.fdiv a1 (2 ^ (min (IntKind.wrap .i64 (8 * (IntKind.wrap .i64 ((IntKind.wrap .i64 (4 - 1)) - v87.1)))).toNat (IntKind.bits .i64))))) ∧ (IntKind.wrap .u8 (Int.fdiv a1 (2 ^ (min (IntKind.wrap .i64 (8 * (IntKind.wrap .i64 ((IntKind.wrap .i64 (4 - 1)) - v87.1)))).toNat (IntKind.bits .i64))))) < 256))).bind fun _ =>
    some (.inl ((IntKind.wrap .i64 (v87.1 + 1)), (List.set v87.2 (20 + v87.1.toNat) (UInt8.ofNat (IntKind.wrap .u8 (Int.fdiv a1 (2 ^ (min (IntKind.wrap .i64 (8 * (IntKind.wrap .i64 ((IntKind.wrap .i64 (4 - 1)) - v87.1)))).toNat (IntKind.bits .i64))))).toNat))))
   ) (
    some (.inr v87.2)
   )
  ) (0, a0)
 ) : Option (List UInt8))).bind fun o52 =>
 some o52

noncomputable def key_begins (a0 : Int) (a1 : Int) : Option (List UInt8) :=
 (key_word_p (List.replicate 24 0) a0).bind fun x1 =>
 (ck (decide (0 ≤ (4 : Int) ∧ (4 : Int) < 24))).bind fun _ =>
 (ck (decide (4 < x1.length))).bind fun _ =>
 (ck (decide (0 ≤ (IntKind.wrap .u8 a1) ∧ (IntKind.wrap .u8 a1) < 256))).bind fun _ =>
 some (List.set x1 4 (UInt8.ofNat (IntKind.wrap .u8 a1).toNat))

noncomputable def key_Inode (a0 : Int) : Option ((List UInt8) × Bool) :=
 (key_number a0).bind fun x1 =>
 cond (!x1) (
  some ((List.replicate 24 0), false)
 ) (
  (key_begins a0 1).bind fun x7 =>
  some (x7, true)
 )

noncomputable def key_Chunk (a0 : Int) (a1 : Int) : Option ((List UInt8) × Bool) :=
 (((
  (key_number a0).bind fun x16 =>
  cond (!x16) (
   some true
  ) (
   cond (decide (a1 < 0)) (
    some true
   ) (
    some (decide (a1 > 4294967295))
   )
  )
 ) : Option Bool)).bind fun o13 =>
 cond o13 (
  some ((List.replicate 24 0), false)
 ) (
  (key_begins a0 3).bind fun x28 =>
  (key_word_q x28 a1).bind fun x31 =>
  some (x31, true)
 )

noncomputable def key_of (a0 : List UInt8) : Option Int :=
 (((
  whileO (V := (Int × Int)) (O := Int) (fun v42 =>
   cond (decide (v42.2 < (a0.length : Int))) (
    (gx a0 v42.2).bind fun x49 =>
    some (.inl ((bitsOr .i64 (IntKind.wrap .i64 (v42.1 * 2 ^ 8)) (IntKind.wrap .i64 (x49.toNat : Int))), (IntKind.wrap .i64 (v42.2 + 1))))
   ) (
    some (.inr v42.1)
   )
  ) (0, 0)
 ) : Option Int)).bind fun o25 =>
 some o25

noncomputable def key_Of (a0 : List UInt8) : Option ((Int × Int × ByteArray × Int) × Bool) :=
 (key_of (List.take 4 (List.drop 0 a0))).bind fun x1 =>
 (ck (decide (0 ≤ (4 : Int) ∧ (4 : Int) < 24))).bind fun _ =>
 (gx a0 4).bind fun x7 =>
 (((
  cond (decide ((IntKind.wrap .i64 (x7.toNat : Int)) = 1)) (
   (key_Inode x1).bind fun x34 =>
   some (x34.2, (x1, (IntKind.wrap .i64 (x7.toNat : Int)), (ByteArray.mk #[]), 0), x34.1)
  ) (
   cond (decide ((IntKind.wrap .i64 (x7.toNat : Int)) = 2)) (
    none
   ) (
    cond (decide ((IntKind.wrap .i64 (x7.toNat : Int)) = 3)) (
     (key_of (List.take 4 (List.drop 20 a0))).bind fun x43 =>
     (key_Chunk x1 x43).bind fun x46 =>
     some (x46.2, (x1, (IntKind.wrap .i64 (x7.toNat : Int)), (ByteArray.mk #[]), x43), x46.1)
    ) (
     some (false, (x1, (IntKind.wrap .i64 (x7.toNat : Int)), (ByteArray.mk #[]), 0), (List.replicate 24 0))
    )
   )
  )
 ) : Option (Bool × (Int × Int × ByteArray × Int) × (List UInt8)))).bind fun o28 =>
 (((
  cond (!o28.1) (
   some true
  ) (
   some (!(decide (o28.2.2 = a0)))
  )
 ) : Option Bool)).bind fun o52 =>
 cond o52 (
  some ((0, 0, (ByteArray.mk #[]), 0), false)
 ) (
  some (o28.2.1, true)
 )

noncomputable def key_Chunks (a0 : Int) (a1 : Int) : Option ((List UInt8) × (List UInt8) × Bool) :=
 (key_Chunk a0 a1).bind fun x1 =>
 cond (!x1.2) (
  some ((List.replicate 24 0), (List.replicate 24 0), false)
 ) (
  (key_begins a0 4).bind fun x7 =>
  some (x1.1, x7, false)
 )

noncomputable def inode_Trim (a0 : ByteArray) : Option ByteArray :=
 (cutB 0 (min (a0.size : Int) 32) a0.size).bind fun _ =>
 (strTrimR (a0.extract 0 (min (a0.size : Int) 32).toNat) (ByteArray.mk #[0])).bind fun x4 =>
 some x4

noncomputable def inode_Full (a0 : ByteArray) : Option ByteArray :=
 (cutB 0 (min (a0.size : Int) 32) a0.size).bind fun _ =>
 (strRepeat (ByteArray.mk #[0]) (IntKind.wrap .i64 (32 - ((a0.extract 0 (min (a0.size : Int) 32).toNat).size : Int)))).bind fun x4 =>
 (ck (decide ((a0.extract 0 (min (a0.size : Int) 32).toNat).size + x4.size ≤ 9223372036854775807))).bind fun _ =>
 some ((a0.extract 0 (min (a0.size : Int) 32).toNat) ++ x4)

noncomputable def chunk_may (a0 : Int) (a1 : Int) (a2 : Int) : Option Bool :=
 (key_Inode a0).bind fun x1 =>
 (((
  cond x1.2 (
   cond (decide ((min a1 a2) ≥ 0)) (
    cond (decide (a1 ≤ 1048576)) (
     some (decide (a2 ≤ (IntKind.wrap .i64 (1048576 - a1))))
    ) (
     some false
    )
   ) (
    some false
   )
  ) (
   some false
  )
 ) : Option Bool)).bind fun o13 =>
 some o13

noncomputable def chunk_lay (a0 : VwT) (a1 : Int) (a2 : Int) (a3 : ByteArray) : Option (Int × VwT) :=
 (key_Chunk a1 a2).bind fun x1 =>
 (inode_Trim a3).bind fun x4 =>
 cond (decide (x4 = (ByteArray.mk #[]))) (
  (view_View_Delete a0 x1.1).bind fun x10 =>
  some (x10.1, x10.2)
 ) (
  (view_View_Put a0 x1.1 x4).bind fun x13 =>
  some (x13.1, x13.2)
 )

noncomputable def chunk_Read (a0 : VwT) (a1 : Int) (a2 : Int) (a3 : Int) : Option (ByteArray × Int × VwT) :=
 (chunk_may a1 a2 a3).bind fun x1 =>
 cond (!x1) (
  some ((ByteArray.mk #[]), 1, a0)
 ) (
  cond (decide (a3 = 0)) (
   some ((ByteArray.mk #[]), 0, a0)
  ) (
   (key_Chunk a1 (IntKind.wrap .i64 (Int.tdiv a2 32))).bind fun x10 =>
   (key_Chunk a1 (IntKind.wrap .i64 (Int.tdiv (IntKind.wrap .i64 ((IntKind.wrap .i64 ((IntKind.wrap .i64 (a2 + a3)) + 32)) - 1)) 32))).bind fun x13 =>
   (view_View_Scan a0 (x10.1, x13.1, false)).bind fun x16 =>
   cond (decide (x16.2.1 ≠ 0)) (
    some ((ByteArray.mk #[]), x16.2.1, x16.2.2)
   ) (
    (ck (decide (0 ≤ (IntKind.wrap .i64 (32 * (IntKind.wrap .i64 ((IntKind.wrap .i64 (Int.tdiv (IntKind.wrap .i64 ((IntKind.wrap .i64 ((IntKind.wrap .i64 (a2 + a3)) + 32)) - 1)) 32)) - (IntKind.wrap .i64 (Int.tdiv a2 32)))))) ∧ (IntKind.wrap .i64 (32 * (IntKind.wrap .i64 ((IntKind.wrap .i64 (Int.tdiv (IntKind.wrap .i64 ((IntKind.wrap .i64 ((IntKind.wrap .i64 (a2 + a3)) + 32)) - 1)) 32)) - (IntKind.wrap .i64 (Int.tdiv a2 32)))))) ≤ 140737488355328))).bind fun _ =>
    (((
     whileO (V := (Int × (List UInt8))) (O := ((List UInt8) ⊕ (ByteArray × Int × VwT))) (fun v211 =>
      cond (decide (v211.1 < (x16.1.length : Int))) (
       (gx x16.1 v211.1).bind fun x218 =>
       (key_Of x218.1).bind fun x221 =>
       (((
        cond (!x221.2) (
         some true
        ) (
         cond (decide (x221.1.2.2.2 < (IntKind.wrap .i64 (Int.tdiv a2 32)))) (
          some true
         ) (
          some (decide (x221.1.2.2.2 ≥ (IntKind.wrap .i64 (Int.tdiv (IntKind.wrap .i64 ((IntKind.wrap .i64 ((IntKind.wrap .i64 (a2 + a3)) + 32)) - 1)) 32))))
         )
        )
       ) : Option Bool)).bind fun o230 =>
       cond o230 (
        some (.inr (.inr ((ByteArray.mk #[]), 12, x16.2.2)))
       ) (
        (ck (decide (0 ≤ (IntKind.wrap .i64 (32 * (IntKind.wrap .i64 (x221.1.2.2.2 - (IntKind.wrap .i64 (Int.tdiv a2 32)))))) ∧ (IntKind.wrap .i64 (32 * (IntKind.wrap .i64 (x221.1.2.2.2 - (IntKind.wrap .i64 (Int.tdiv a2 32)))))).toNat ≤ v211.2.length))).bind fun _ =>
        (inode_Full x218.2).bind fun x246 =>
        some (.inl ((IntKind.wrap .i64 (v211.1 + 1)), (List.take (IntKind.wrap .i64 (32 * (IntKind.wrap .i64 (x221.1.2.2.2 - (IntKind.wrap .i64 (Int.tdiv a2 32)))))).toNat v211.2 ++ cpB (List.drop (IntKind.wrap .i64 (32 * (IntKind.wrap .i64 (x221.1.2.2.2 - (IntKind.wrap .i64 (Int.tdiv a2 32)))))).toNat v211.2) x246.data.toList)))
       )
      ) (
       some (.inr (.inl v211.2))
      )
     ) (0, (List.replicate (IntKind.wrap .i64 (32 * (IntKind.wrap .i64 ((IntKind.wrap .i64 (Int.tdiv (IntKind.wrap .i64 ((IntKind.wrap .i64 ((IntKind.wrap .i64 (a2 + a3)) + 32)) - 1)) 32)) - (IntKind.wrap .i64 (Int.tdiv a2 32)))))).toNat (0 : UInt8)))
    ) : Option ((List UInt8) ⊕ (ByteArray × Int × VwT)))).bind fun o136 =>
    Sum.elim (fun (v251 : (List UInt8)) =>
     (cutB (IntKind.wrap .i64 (a2 - (IntKind.wrap .i64 (32 * (IntKind.wrap .i64 (Int.tdiv a2 32)))))) (IntKind.wrap .i64 ((IntKind.wrap .i64 (a2 - (IntKind.wrap .i64 (32 * (IntKind.wrap .i64 (Int.tdiv a2 32)))))) + a3)) v251.length).bind fun _ =>
     some ((bytesS (piece v251 (IntKind.wrap .i64 (a2 - (IntKind.wrap .i64 (32 * (IntKind.wrap .i64 (Int.tdiv a2 32)))))) (IntKind.wrap .i64 ((IntKind.wrap .i64 (a2 - (IntKind.wrap .i64 (32 * (IntKind.wrap .i64 (Int.tdiv a2 32)))))) + a3)))), 0, x16.2.2)
    ) (fun w257 =>
     some w257
    ) o136
   )
  )
 )

noncomputable def chunk_Cut (a0 : VwT) (a1 : Int) (a2 : Int) : Option (Int × VwT) :=
 (chunk_may a1 0 a2).bind fun x1 =>
 cond (!x1) (
  some (1, a0)
 ) (
  (key_Chunks a1 (IntKind.wrap .i64 (Int.tdiv a2 32))).bind fun x7 =>
  (view_View_Scan a0 x7).bind fun x10 =>
  cond (decide (x10.2.1 ≠ 0)) (
   some (x10.2.1, x10.2.2)
  ) (
   (((
    whileO (V := (Int × VwT)) (O := (VwT ⊕ (Int × VwT))) (fun v437 =>
     cond (decide (v437.1 < (x10.1.length : Int))) (
      (((
       (gx x10.1 v437.1).bind fun x482 =>
       (key_Of x482.1).bind fun x485 =>
       cond (!x485.2) (
        some (.inr (12, v437.2))
       ) (
        (((
         cond (decide (x485.1.2.2.2 = (IntKind.wrap .i64 (Int.tdiv a2 32)))) (
          some (Int.tmod a2 32)
         ) (
          some 0
         )
        ) : Option Int)).bind fun o496 =>
        (cutB 0 (min (x482.2.size : Int) o496) x482.2.size).bind fun _ =>
        (inode_Trim (x482.2.extract 0 (min (x482.2.size : Int) o496).toNat)).bind fun x505 =>
        cond (decide (x505 = x482.2)) (
         some (.inl v437.2)
        ) (
         (chunk_lay v437.2 a1 x485.1.2.2.2 x505).bind fun x511 =>
         cond (decide (x511.1 ≠ 0)) (
          some (.inr (x511.1, x511.2))
         ) (
          some (.inl x511.2)
         )
        )
       )
      ) : Option (VwT ⊕ (Int × VwT)))).bind fun o479 =>
      Sum.elim (fun (v521 : VwT) =>
       some (.inl ((IntKind.wrap .i64 (v437.1 + 1)), v521))
      ) (fun w524 =>
       some (.inr (.inr w524))
      ) o479
     ) (
      some (.inr (.inl v437.2))
     )
    ) (0, x10.2.2)
   ) : Option (VwT ⊕ (Int × VwT)))).bind fun o268 =>
   Sum.elim (fun (v525 : VwT) =>
    some (0, v525)
   ) (fun w528 =>
    some w528
   ) o268
  )
 )

set_option maxRecDepth 100000 in
theorem key_number_ok {a0 : Int} {r : Bool} (h : key_number a0 = some r) : FnOk Tryz.prog 56 [.d (eint a0)] 0 (lk []) (fun rr oo => rr = .d (ebool r) ∧ oo = lk []) := by
  refine fnOk_of Tryz.func56 rfl rfl (cw_post ?_)
  unfold key_number at h
  refine cw_seq (cw_region (
    .cons (o_as rfl rfl .no rfl) <|
    .nil rfl
  ) ?_)
  obtain ⟨o4, hj5, h6⟩ := bind_some h
  refine cw_join (fun (z : Bool) => St.of [(2, .d (ebool z))] []) (fun (z : Bool) => o4 = z) ?_ ?_
  · intro v10 hv11; subst hv11
    have heq := ((Option.some.inj h6).symm).symm
    subst heq
    exact cw_ret ⟨_, (show Leads _ _ (St.of [(2, .d (ebool o4))] []) from .w (weak_of ⟨⟨_, rfl, .d rfl⟩, trivial⟩ trivial drop0)), .inr rfl, _, res1 rfl rfl, rfl, rfl⟩
  · skip
    rcases cond_some hj5 with ⟨hc7, h8⟩ | ⟨hc7, h9⟩
    · skip
      refine cw_region (
        .cons (o_mv rfl rfl .no rfl) <|
        .cons (o_bin rfl rfl .no rfl rfl (b_geq _ _) rfl) <|
        .cons (o_mv rfl rfl .no rfl) <|
        .cons (o_mv rfl rfl (.yes rfl rfl hc7) rfl) <|
        .cons (o_bin rfl rfl (.yes rfl rfl hc7) rfl rfl (b_lss _ _) rfl) <|
        .cons (o_pickT rfl rfl .no rfl hc7 rfl) <|
        .cons (o_as rfl rfl .no rfl) <|
        .nil rfl
      ) ?_
      exact ⟨(decide (a0 < 1073741824)), (Option.some.inj h8).symm, .w (weak_of ⟨⟨_, rfl, .d rfl⟩, trivial⟩ trivial drop0)⟩
    · skip
      refine cw_region (
        .cons (o_mv rfl rfl .no rfl) <|
        .cons (o_bin rfl rfl .no rfl rfl (b_geq _ _) rfl) <|
        .cons (o_mv rfl rfl .no rfl) <|
        .cons (o_noT rfl rfl rfl rfl hc7) <|
        .cons (o_noT rfl rfl rfl rfl hc7) <|
        .cons (o_pickF rfl rfl .no rfl hc7 rfl) <|
        .cons (o_as rfl rfl .no rfl) <|
        .nil rfl
      ) ?_
      exact ⟨false, (Option.some.inj h9).symm, .w (weak_of ⟨⟨_, rfl, .d rfl⟩, trivial⟩ trivial drop0)⟩

set_option maxRecDepth 100000 in
theorem key_word_p_ok {a0 : List UInt8} {a1 : Int} {r : (List UInt8)} (h : key_word_p a0 a1 = some r) : FnOk Tryz.prog 58 [.bsl 0 (0 + 0) 4 24, .d (eint a1)] 1 (lk [(0, .box (.d (eapiKey a0)))]) (fun rr oo => rr = .tup [] ∧ oo = lk [(0, .box (.d (eapiKey r)))]) := by
  refine fnOk_of Tryz.func58 rfl rfl (cw_post ?_)
  unfold key_word_p at h
  obtain ⟨o52, hj53, h54⟩ := bind_some h
  refine cw_tail (fun (z : (List UInt8)) => St.of [] [(0, .box (.d (eapiKey z)))]) (fun (z : (List UInt8)) => o52 = z) ?_ ?_
  · intro v106 hv107; subst hv107
    have heq := ((Option.some.inj h54).symm).symm
    subst heq
    exact ⟨_, (show Leads _ _ (St.of [] [(0, .box (.d (eapiKey o52)))]) from .w (weak_of trivial ⟨.box rfl (.d rfl), trivial⟩ (dropK rfl))), .inl rfl, _, res0 rfl, rfl, rfl⟩
  · skip
    refine cw_seq (cw_region (
      .cons (o_mv rfl rfl .no rfl) <|
      .cons (o_lenB rfl rfl .no rfl sl26) <|
      .cons (o_mv rfl rfl .no rfl) <|
      .nil rfl
    ) ?_)
    refine cw_block ?_
    refine cw_while (V := (Int × (List UInt8))) (O := (List UInt8)) (fun (z : (Int × (List UInt8))) => St.of [(0, .bsl 0 (0 + 0) 4 24), (1, .d (eint a1)), (6, .d (eint 4)), (7, .d (eint z.1))] [(0, .box (.d (eapiKey z.2)))]) hj53 (.w (weak_of ⟨⟨_, rfl, .bsl rfl rfl⟩, ⟨_, rfl, .d rfl⟩, ⟨_, rfl, .d rfl⟩, ⟨_, rfl, .d rfl⟩, trivial⟩ ⟨.box rfl (.d rfl), trivial⟩ (dropK rfl))) ?_
    intro v87 x88 hb89 hx90
    refine cw_seq (cw_region (
      .cons (o_bin rfl rfl .no rfl rfl (b_lss _ _) rfl) <|
      .nil rfl
    ) ?_)
    refine cw_seq ?_
    rcases cond_some hb89 with ⟨hc91, h92⟩ | ⟨hc91, h93⟩
    · refine cw_condT rfl hc91 ?_
      refine cw_skip ?_
      refine cw_seq ?_
      refine cw_block ?_
      refine cw_seq (cw_region (
        .cons (o_mv rfl rfl .no rfl) <|
        .cons (o_as rfl rfl .no rfl) <|
        .nil rfl
      ) ?_)
      obtain ⟨x94, hx95, h96⟩ := bind_some h92
      have hx95g := ck_dec hx95
      obtain ⟨x97, hx98, h99⟩ := bind_some h96
      have hx98g := ck_dec hx98
      obtain ⟨x100, hx101, h102⟩ := bind_some h99
      have hx101g := ck_dec hx101
      obtain ⟨x103, hx104, h105⟩ := bind_some h102
      have hx104g := ck_dec hx104
      refine cw_region (
        .cons (o_mv rfl rfl .no rfl) <|
        .cons (o_mv rfl rfl .no rfl) <|
        .cons (o_mv rfl rfl .no rfl) <|
        .cons (o_mv rfl rfl .no rfl) <|
        .cons (o_lenB rfl rfl .no rfl sl26) <|
        .cons (o_bin rfl rfl .no rfl rfl (b_sub _ _) rfl) <|
        .cons (o_mv rfl rfl .no rfl) <|
        .cons (o_bin rfl rfl .no rfl rfl (b_sub _ _) rfl) <|
        .cons (o_bin rfl rfl .no rfl rfl (b_mul _ _) rfl) <|
        .cons (o_bin rfl rfl .no rfl rfl (b_shr _ _ hx95g) rfl) <|
        .cons (o_conv rfl rfl .no rfl un3 un5) <|
        .cons (o_ixS rfl rfl .no rfl rfl sl26 sz5 hx98g) <|
        .cons (o_stB (l := v87.2) [] rfl .no rfl rfl rfl rfl hx101g hx104g sz5) <|
        .nil rfl
      ) ?_
      refine cw_region (
        .cons (o_bin rfl rfl .no rfl rfl (b_add _ _) rfl) <|
        .cons (o_mv rfl rfl .no rfl) <|
        .nil rfl
      ) ?_
      exact ⟨((IntKind.wrap .i64 (v87.1 + 1)), (List.set v87.2 v87.1.toNat (UInt8.ofNat (IntKind.wrap .u8 (Int.fdiv a1 (2 ^ (min (IntKind.wrap .i64 (8 * (IntKind.wrap .i64 ((IntKind.wrap .i64 (4 - 1)) - v87.1)))).toNat (IntKind.bits .i64))))).toNat))), (Option.some.inj h105).symm, .w (weak_of ⟨⟨_, rfl, .bsl rfl rfl⟩, ⟨_, rfl, .d rfl⟩, ⟨_, rfl, .d rfl⟩, ⟨_, rfl, .d rfl⟩, trivial⟩ ⟨.box rfl (.d rfl), trivial⟩ (dropK rfl))⟩
    · refine cw_condF rfl hc91 ?_
      refine cw_exit ?_
      exact ⟨v87.2, (hx90 _ (Option.some.inj h93).symm).symm, .w (weak_of trivial ⟨.box rfl (.d rfl), trivial⟩ (dropK rfl))⟩

set_option maxRecDepth 100000 in
theorem key_word_q_ok {a0 : List UInt8} {a1 : Int} {r : (List UInt8)} (h : key_word_q a0 a1 = some r) : FnOk Tryz.prog 58 [.bsl 0 (0 + 20) 4 4, .d (eint a1)] 1 (lk [(0, .box (.d (eapiKey a0)))]) (fun rr oo => rr = .tup [] ∧ oo = lk [(0, .box (.d (eapiKey r)))]) := by
  refine fnOk_of Tryz.func58 rfl rfl (cw_post ?_)
  unfold key_word_q at h
  obtain ⟨o52, hj53, h54⟩ := bind_some h
  refine cw_tail (fun (z : (List UInt8)) => St.of [] [(0, .box (.d (eapiKey z)))]) (fun (z : (List UInt8)) => o52 = z) ?_ ?_
  · intro v106 hv107; subst hv107
    have heq := ((Option.some.inj h54).symm).symm
    subst heq
    exact ⟨_, (show Leads _ _ (St.of [] [(0, .box (.d (eapiKey o52)))]) from .w (weak_of trivial ⟨.box rfl (.d rfl), trivial⟩ (dropK rfl))), .inl rfl, _, res0 rfl, rfl, rfl⟩
  · skip
    refine cw_seq (cw_region (
      .cons (o_mv rfl rfl .no rfl) <|
      .cons (o_lenB rfl rfl .no rfl sl26) <|
      .cons (o_mv rfl rfl .no rfl) <|
      .nil rfl
    ) ?_)
    refine cw_block ?_
    refine cw_while (V := (Int × (List UInt8))) (O := (List UInt8)) (fun (z : (Int × (List UInt8))) => St.of [(0, .bsl 0 (0 + 20) 4 4), (1, .d (eint a1)), (6, .d (eint 4)), (7, .d (eint z.1))] [(0, .box (.d (eapiKey z.2)))]) hj53 (.w (weak_of ⟨⟨_, rfl, .bsl rfl rfl⟩, ⟨_, rfl, .d rfl⟩, ⟨_, rfl, .d rfl⟩, ⟨_, rfl, .d rfl⟩, trivial⟩ ⟨.box rfl (.d rfl), trivial⟩ (dropK rfl))) ?_
    intro v87 x88 hb89 hx90
    refine cw_seq (cw_region (
      .cons (o_bin rfl rfl .no rfl rfl (b_lss _ _) rfl) <|
      .nil rfl
    ) ?_)
    refine cw_seq ?_
    rcases cond_some hb89 with ⟨hc91, h92⟩ | ⟨hc91, h93⟩
    · refine cw_condT rfl hc91 ?_
      refine cw_skip ?_
      refine cw_seq ?_
      refine cw_block ?_
      refine cw_seq (cw_region (
        .cons (o_mv rfl rfl .no rfl) <|
        .cons (o_as rfl rfl .no rfl) <|
        .nil rfl
      ) ?_)
      obtain ⟨x94, hx95, h96⟩ := bind_some h92
      have hx95g := ck_dec hx95
      obtain ⟨x97, hx98, h99⟩ := bind_some h96
      have hx98g := ck_dec hx98
      obtain ⟨x100, hx101, h102⟩ := bind_some h99
      have hx101g := ck_dec hx101
      obtain ⟨x103, hx104, h105⟩ := bind_some h102
      have hx104g := ck_dec hx104
      refine cw_region (
        .cons (o_mv rfl rfl .no rfl) <|
        .cons (o_mv rfl rfl .no rfl) <|
        .cons (o_mv rfl rfl .no rfl) <|
        .cons (o_mv rfl rfl .no rfl) <|
        .cons (o_lenB rfl rfl .no rfl sl26) <|
        .cons (o_bin rfl rfl .no rfl rfl (b_sub _ _) rfl) <|
        .cons (o_mv rfl rfl .no rfl) <|
        .cons (o_bin rfl rfl .no rfl rfl (b_sub _ _) rfl) <|
        .cons (o_bin rfl rfl .no rfl rfl (b_mul _ _) rfl) <|
        .cons (o_bin rfl rfl .no rfl rfl (b_shr _ _ hx95g) rfl) <|
        .cons (o_conv rfl rfl .no rfl un3 un5) <|
        .cons (o_ixS rfl rfl .no rfl rfl sl26 sz5 hx98g) <|
        .cons (o_stBo (off := 20) (l := v87.2) [] rfl .no rfl rfl rfl rfl hx101g hx104g sz5) <|
        .nil rfl
      ) ?_
      refine cw_region (
        .cons (o_bin rfl rfl .no rfl rfl (b_add _ _) rfl) <|
        .cons (o_mv rfl rfl .no rfl) <|
        .nil rfl
      ) ?_
      exact ⟨((IntKind.wrap .i64 (v87.1 + 1)), (List.set v87.2 (20 + v87.1.toNat) (UInt8.ofNat (IntKind.wrap .u8 (Int.fdiv a1 (2 ^ (min (IntKind.wrap .i64 (8 * (IntKind.wrap .i64 ((IntKind.wrap .i64 (4 - 1)) - v87.1)))).toNat (IntKind.bits .i64))))).toNat))), (Option.some.inj h105).symm, .w (weak_of ⟨⟨_, rfl, .bsl rfl rfl⟩, ⟨_, rfl, .d rfl⟩, ⟨_, rfl, .d rfl⟩, ⟨_, rfl, .d rfl⟩, trivial⟩ ⟨.box rfl (.d rfl), trivial⟩ (dropK rfl))⟩
    · refine cw_condF rfl hc91 ?_
      refine cw_exit ?_
      exact ⟨v87.2, (hx90 _ (Option.some.inj h93).symm).symm, .w (weak_of trivial ⟨.box rfl (.d rfl), trivial⟩ (dropK rfl))⟩

set_option maxRecDepth 100000 in
theorem key_begins_okc {a0 : Int} {a1 : Int} {r : (List UInt8)} (h : key_begins a0 a1 = some r) : FnOk Tryz.prog 57 [.d (eint a0), .d (eint a1)] 0 (lk []) (fun rr oo => rr = .d (eapiKey r) ∧ oo = lk [(0, .box (.d (eapiKey r)))]) := by
  refine fnOk_of Tryz.func57 rfl rfl (cw_post ?_)
  unfold key_begins at h
  refine cw_seq (cw_region (
    .cons (o_alloc 0 rfl rfl .no ze39 rfl) <|
    .nil rfl
  ) ?_)
  obtain ⟨x1, hx2, h3⟩ := bind_some (x := key_word_p (List.replicate 24 0) a0) h
  refine cw_seq (cw_region (
    .cons (o_slC 0 4 24 rfl rfl .no rfl ar39 sz5 .no (.val rfl (by decide)) (by decide) (by decide) (by decide) (by decide) (by decide) (by decide)) <|
    .cons (o_mv rfl rfl .no rfl) <|
    .cons (o_callX (fun _ => 0) rfl rfl .no Tryz.func58 rfl rfl (key_word_p_ok hx2) (.cons rfl (.bs rfl) (.cons rfl .d .nil)) (callIn1 rfl ⟨(by simp [AV.live, lk, Nat.beq]), trivial, trivial⟩ rfl trivial (by simp)) (.inl rfl)) <|
    .nil rfl
  ) ?_)
  obtain ⟨x4, hx5, h6⟩ := bind_some h3
  have hx5g := ck_dec hx5
  obtain ⟨x7, hx8, h9⟩ := bind_some h6
  have hx8g := ck_dec hx8
  obtain ⟨x10, hx11, h12⟩ := bind_some h9
  have hx11g := ck_dec hx11
  refine cw_seq (cw_region (
    .cons (o_mv rfl rfl .no rfl) <|
    .cons (o_conv rfl rfl .no rfl un3 un5) <|
    .cons (o_ixP rfl rfl .no rfl rfl ar39 sz5 hx5g) <|
    .cons (o_stB (l := x1) [] rfl .no rfl rfl rfl rfl hx8g hx11g sz5) <|
    .nil rfl
  ) ?_)
  refine cw_seq (cw_region (
    .cons (o_ldP [] rfl rfl .no rfl rfl rfl ta39 rfl rfl) <|
    .cons (o_st [] rfl .no rfl rfl rfl rfl rfl sz39 rfl rfl) <|
    .nil rfl
  ) ?_)
  have heq := ((Option.some.inj h12).symm).symm
  subst heq
  exact cw_ret ⟨_, (show Leads _ _ (St.of [(4, .ptr 0 0)] [(0, .box (.d (eapiKey (List.set x1 4 (UInt8.ofNat (IntKind.wrap .u8 a1).toNat)))))]) from .w (weak_of ⟨⟨_, rfl, .ptr rfl rfl⟩, trivial⟩ ⟨.box rfl (.d rfl), trivial⟩ drop0)), .inr rfl, _, resC rfl rfl rfl ta39 rfl rfl, rfl, rfl⟩
theorem key_begins_ok {a0 : Int} {a1 : Int} {r : (List UInt8)} (h : key_begins a0 a1 = some r) : FnOk Tryz.prog 57 [.d (eint a0), .d (eint a1)] 0 (lk []) (fun rr oo => rr = .d (eapiKey r) ∧ oo = lk []) := fnOk_forget (key_begins_okc h)

set_option maxRecDepth 100000 in
theorem key_Inode_okc {a0 : Int} {r : ((List UInt8) × Bool)} (h : key_Inode a0 = some r) : FnOk Tryz.prog 39 [.d (eint a0)] 0 (lk []) (fun rr oo => rr = .tup [.d (eapiKey r.1), .d (ebool r.2)] ∧ oo = lk [(0, .box (.d (eapiKey r.1)))]) := by
  refine fnOk_of Tryz.func39 rfl rfl (cw_post ?_)
  unfold key_Inode at h
  refine cw_seq (cw_region (
    .cons (o_alloc 0 rfl rfl .no ze39 rfl) <|
    .cons (o_as rfl rfl .no rfl) <|
    .nil rfl
  ) ?_)
  refine cw_seq ?_
  obtain ⟨x1, hx2, h3⟩ := bind_some (x := key_number a0) h
  refine cw_seq (cw_region (
    .cons (o_mv rfl rfl .no rfl) <|
    .cons (o_call rfl rfl .no Tryz.func56 rfl rfl (key_number_ok hx2) (.cons rfl .d .nil) ⟨trivial, trivial⟩ (.inl rfl)) <|
    .cons (o_not rfl rfl .no rfl) <|
    .nil rfl
  ) ?_)
  rcases cond_some h3 with ⟨hc4, h5⟩ | ⟨hc4, h6⟩
  · refine cw_condT rfl hc4 ?_
    refine cw_seq (cw_region (
      .cons (o_bldB (l := (List.replicate 24 0)) (r := (List.replicate 24 0)) rfl rfl .no ze39 ar39 sz5 .nil) <|
      .cons (o_st [] rfl .no rfl rfl rfl rfl rfl sz39 rfl rfl) <|
      .cons (o_as rfl rfl .no rfl) <|
      .nil rfl
    ) ?_)
    have heq := ((Option.some.inj h5).symm).symm
    subst heq
    exact cw_ret ⟨_, (show Leads _ _ (St.of [(2, .ptr 0 0), (3, .d (ebool false))] [(0, .box (.d (eapiKey (List.replicate 24 0))))]) from .w (weak_of ⟨⟨_, rfl, .ptr rfl rfl⟩, ⟨_, rfl, .d rfl⟩, trivial⟩ ⟨.box rfl (.d rfl), trivial⟩ drop0)), .inr rfl, _, resCT rfl rfl rfl ta39 rfl rfl rfl, rfl, rfl⟩
  · refine cw_condF rfl hc4 ?_
    refine cw_skip ?_
    obtain ⟨x7, hx8, h9⟩ := bind_some (x := key_begins a0 1) h6
    refine cw_seq (cw_region (
      .cons (o_mv rfl rfl .no rfl) <|
      .cons (o_call rfl rfl .no Tryz.func57 rfl rfl (key_begins_ok hx8) (.cons rfl .d (.cons rfl .d .nil)) ⟨trivial, trivial, trivial⟩ (.inl rfl)) <|
      .cons (o_st [] rfl .no rfl rfl rfl rfl rfl sz39 rfl rfl) <|
      .cons (o_as rfl rfl .no rfl) <|
      .nil rfl
    ) ?_)
    have heq := ((Option.some.inj h9).symm).symm
    subst heq
    exact cw_ret ⟨_, (show Leads _ _ (St.of [(2, .ptr 0 0), (3, .d (ebool true))] [(0, .box (.d (eapiKey x7)))]) from .w (weak_of ⟨⟨_, rfl, .ptr rfl rfl⟩, ⟨_, rfl, .d rfl⟩, trivial⟩ ⟨.box rfl (.d rfl), trivial⟩ drop0)), .inr rfl, _, resCT rfl rfl rfl ta39 rfl rfl rfl, rfl, rfl⟩
theorem key_Inode_ok {a0 : Int} {r : ((List UInt8) × Bool)} (h : key_Inode a0 = some r) : FnOk Tryz.prog 39 [.d (eint a0)] 0 (lk []) (fun rr oo => rr = .tup [.d (eapiKey r.1), .d (ebool r.2)] ∧ oo = lk []) := fnOk_forget2 (key_Inode_okc h)

set_option maxRecDepth 100000 in
theorem key_Chunk_okc {a0 : Int} {a1 : Int} {r : ((List UInt8) × Bool)} (h : key_Chunk a0 a1 = some r) : FnOk Tryz.prog 25 [.d (eint a0), .d (eint a1)] 0 (lk []) (fun rr oo => rr = .tup [.d (eapiKey r.1), .d (ebool r.2)] ∧ oo = lk [(0, .box (.d (eapiKey r.1)))]) := by
  refine fnOk_of Tryz.func25 rfl rfl (cw_post ?_)
  unfold key_Chunk at h
  refine cw_seq (cw_region (
    .cons (o_alloc 0 rfl rfl .no ze39 rfl) <|
    .cons (o_as rfl rfl .no rfl) <|
    .nil rfl
  ) ?_)
  refine cw_seq ?_
  obtain ⟨o13, hj14, h15⟩ := bind_some h
  refine cw_join (fun (z : Bool) => St.of [(0, .d (eint a0)), (1, .d (eint a1)), (4, .ptr 0 0), (17, .d (ebool z))] [(0, .box (.d (eapiKey (List.replicate 24 0))))]) (fun (z : Bool) => o13 = z) ?_ ?_
  · intro v34 hv35; subst hv35
    rcases cond_some h15 with ⟨hc25, h26⟩ | ⟨hc25, h27⟩
    · refine cw_condT rfl hc25 ?_
      refine cw_seq (cw_region (
        .cons (o_bldB (l := (List.replicate 24 0)) (r := (List.replicate 24 0)) rfl rfl .no ze39 ar39 sz5 .nil) <|
        .cons (o_st [] rfl .no rfl rfl rfl rfl rfl sz39 rfl rfl) <|
        .cons (o_as rfl rfl .no rfl) <|
        .nil rfl
      ) ?_)
      have heq := ((Option.some.inj h26).symm).symm
      subst heq
      exact cw_ret ⟨_, (show Leads _ _ (St.of [(4, .ptr 0 0), (5, .d (ebool false))] [(0, .box (.d (eapiKey (List.replicate 24 0))))]) from .w (weak_of ⟨⟨_, rfl, .ptr rfl rfl⟩, ⟨_, rfl, .d rfl⟩, trivial⟩ ⟨.box rfl (.d rfl), trivial⟩ drop0)), .inr rfl, _, resCT rfl rfl rfl ta39 rfl rfl rfl, rfl, rfl⟩
    · refine cw_condF rfl hc25 ?_
      refine cw_skip ?_
      obtain ⟨x28, hx29, h30⟩ := bind_some (x := key_begins a0 3) h27
      refine cw_seq (cw_region (
        .cons (o_mv rfl rfl .no rfl) <|
        .cons (o_call rfl rfl .no Tryz.func57 rfl rfl (key_begins_ok hx29) (.cons rfl .d (.cons rfl .d .nil)) ⟨trivial, trivial, trivial⟩ (.inl rfl)) <|
        .cons (o_alloc 1 rfl rfl .no ze39 rfl) <|
        .cons (o_st [] rfl .no rfl rfl rfl rfl rfl sz39 rfl rfl) <|
        .nil rfl
      ) ?_)
      obtain ⟨x31, hx32, h33⟩ := bind_some (x := key_word_q x28 a1) h30
      refine cw_seq (cw_region (
        .cons (o_slC 20 4 4 rfl rfl .no rfl ar39 sz5 (.val rfl (by decide)) .no (by decide) (by decide) (by decide) (by decide) (by decide) (by decide)) <|
        .cons (o_mv rfl rfl .no rfl) <|
        .cons (o_callX (fun _ => 1) rfl rfl .no Tryz.func58 rfl rfl (key_word_q_ok hx32) (.cons rfl (.bs rfl) (.cons rfl .d .nil)) (callIn1 rfl ⟨(by simp [AV.live, lk, Nat.beq]), trivial, trivial⟩ rfl trivial (by simp)) (.inl rfl)) <|
        .nil rfl
      ) ?_)
      refine cw_seq (cw_region (
        .cons (o_ldP [] rfl rfl .no rfl rfl rfl ta39 rfl rfl) <|
        .cons (o_st [] rfl .no rfl rfl rfl rfl rfl sz39 rfl rfl) <|
        .cons (o_as rfl rfl .no rfl) <|
        .nil rfl
      ) ?_)
      have heq := ((Option.some.inj h33).symm).symm
      subst heq
      exact cw_ret ⟨_, (show Leads _ _ (St.of [(4, .ptr 0 0), (5, .d (ebool true))] [(0, .box (.d (eapiKey x31)))]) from .w (weak_of ⟨⟨_, rfl, .ptr rfl rfl⟩, ⟨_, rfl, .d rfl⟩, trivial⟩ ⟨.box rfl (.d rfl), trivial⟩ drop0)), .inr rfl, _, resCT rfl rfl rfl ta39 rfl rfl rfl, rfl, rfl⟩
  · skip
    obtain ⟨x16, hx17, h18⟩ := bind_some (x := key_number a0) hj14
    rcases cond_some h18 with ⟨hc19, h20⟩ | ⟨hc19, h21⟩
    · skip
      refine cw_region (
        .cons (o_mv rfl rfl .no rfl) <|
        .cons (o_call rfl rfl .no Tryz.func56 rfl rfl (key_number_ok hx17) (.cons rfl .d .nil) ⟨trivial, trivial⟩ (.inl rfl)) <|
        .cons (o_not rfl rfl .no rfl) <|
        .cons (o_mv rfl rfl .no rfl) <|
        .cons (o_noT rfl rfl rfl rfl hc19) <|
        .cons (o_noT rfl rfl rfl rfl hc19) <|
        .cons (o_pickT rfl rfl .no rfl hc19 rfl) <|
        .cons (o_mv rfl rfl .no rfl) <|
        .cons (o_noT rfl rfl rfl rfl rfl) <|
        .cons (o_noT rfl rfl rfl rfl rfl) <|
        .cons (o_pickT rfl rfl .no rfl rfl rfl) <|
        .nil rfl
      ) ?_
      exact ⟨true, (Option.some.inj h20).symm, .w (weak_of ⟨⟨_, rfl, .d rfl⟩, ⟨_, rfl, .d rfl⟩, ⟨_, rfl, .ptr rfl rfl⟩, ⟨_, rfl, .d rfl⟩, trivial⟩ ⟨.box rfl (.d rfl), trivial⟩ drop0)⟩
    · skip
      rcases cond_some h21 with ⟨hc22, h23⟩ | ⟨hc22, h24⟩
      · skip
        refine cw_region (
          .cons (o_mv rfl rfl .no rfl) <|
          .cons (o_call rfl rfl .no Tryz.func56 rfl rfl (key_number_ok hx17) (.cons rfl .d .nil) ⟨trivial, trivial⟩ (.inl rfl)) <|
          .cons (o_not rfl rfl .no rfl) <|
          .cons (o_mv rfl rfl .no rfl) <|
          .cons (o_mv rfl rfl (.yes rfl rfl hc19) rfl) <|
          .cons (o_bin rfl rfl (.yes rfl rfl hc19) rfl rfl (b_lss _ _) rfl) <|
          .cons (o_pickF rfl rfl .no rfl hc19 rfl) <|
          .cons (o_mv rfl rfl .no rfl) <|
          .cons (o_noT rfl rfl rfl rfl hc22) <|
          .cons (o_noT rfl rfl rfl rfl hc22) <|
          .cons (o_pickT rfl rfl .no rfl hc22 rfl) <|
          .nil rfl
        ) ?_
        exact ⟨true, (Option.some.inj h23).symm, .w (weak_of ⟨⟨_, rfl, .d rfl⟩, ⟨_, rfl, .d rfl⟩, ⟨_, rfl, .ptr rfl rfl⟩, ⟨_, rfl, .d rfl⟩, trivial⟩ ⟨.box rfl (.d rfl), trivial⟩ drop0)⟩
      · skip
        refine cw_region (
          .cons (o_mv rfl rfl .no rfl) <|
          .cons (o_call rfl rfl .no Tryz.func56 rfl rfl (key_number_ok hx17) (.cons rfl .d .nil) ⟨trivial, trivial⟩ (.inl rfl)) <|
          .cons (o_not rfl rfl .no rfl) <|
          .cons (o_mv rfl rfl .no rfl) <|
          .cons (o_mv rfl rfl (.yes rfl rfl hc19) rfl) <|
          .cons (o_bin rfl rfl (.yes rfl rfl hc19) rfl rfl (b_lss _ _) rfl) <|
          .cons (o_pickF rfl rfl .no rfl hc19 rfl) <|
          .cons (o_mv rfl rfl .no rfl) <|
          .cons (o_mv rfl rfl (.yes rfl rfl hc22) rfl) <|
          .cons (o_bin rfl rfl (.yes rfl rfl hc22) rfl rfl (b_gtr _ _) rfl) <|
          .cons (o_pickF rfl rfl .no rfl hc22 rfl) <|
          .nil rfl
        ) ?_
        exact ⟨(decide (a1 > 4294967295)), (Option.some.inj h24).symm, .w (weak_of ⟨⟨_, rfl, .d rfl⟩, ⟨_, rfl, .d rfl⟩, ⟨_, rfl, .ptr rfl rfl⟩, ⟨_, rfl, .d rfl⟩, trivial⟩ ⟨.box rfl (.d rfl), trivial⟩ drop0)⟩
theorem key_Chunk_ok {a0 : Int} {a1 : Int} {r : ((List UInt8) × Bool)} (h : key_Chunk a0 a1 = some r) : FnOk Tryz.prog 25 [.d (eint a0), .d (eint a1)] 0 (lk []) (fun rr oo => rr = .tup [.d (eapiKey r.1), .d (ebool r.2)] ∧ oo = lk []) := fnOk_forget2 (key_Chunk_okc h)

set_option maxRecDepth 100000 in
theorem key_of_ok {a0 : List UInt8} {r : Int} (h : key_of a0 = some r) : FnOk Tryz.prog 38 [.d (bytesD a0)] 0 (lk []) (fun rr oo => rr = .d (eint r) ∧ oo = lk []) := by
  refine fnOk_of Tryz.func38 rfl rfl (cw_post ?_)
  unfold key_of at h
  refine cw_seq (cw_region (
    .cons (o_as rfl rfl .no rfl) <|
    .nil rfl
  ) ?_)
  refine cw_seq (cw_region (
    .cons (o_as rfl rfl .no rfl) <|
    .nil rfl
  ) ?_)
  obtain ⟨o25, hj26, h27⟩ := bind_some h
  refine cw_join (fun (z : Int) => St.of [(3, .d (eint z))] []) (fun (z : Int) => o25 = z) ?_ ?_
  · intro v52 hv53; subst hv53
    refine cw_seq (cw_region (
      .cons (o_mv rfl rfl .no rfl) <|
      .cons (o_as rfl rfl .no rfl) <|
      .nil rfl
    ) ?_)
    have heq := ((Option.some.inj h27).symm).symm
    subst heq
    exact cw_ret ⟨_, (show Leads _ _ (St.of [(2, .d (eint o25))] []) from .w (weak_of ⟨⟨_, rfl, .d rfl⟩, trivial⟩ trivial drop0)), .inr rfl, _, res1 rfl rfl, rfl, rfl⟩
  · skip
    refine cw_seq (cw_region (
      .cons (o_mv rfl rfl .no rfl) <|
      .cons (o_lenM (enc := u8D) (xs := a0) rfl rfl .no rfl sl26) <|
      .cons (o_mv rfl rfl .no rfl) <|
      .nil rfl
    ) ?_)
    refine cw_block ?_
    refine cw_while (V := (Int × Int)) (O := Int) (fun (z : (Int × Int)) => St.of [(3, .d (eint z.1)), (6, .d (bytesD a0)), (7, .d (eint (a0.length : Int))), (8, .d (eint z.2))] []) hj26 (.w (weak_of ⟨⟨_, rfl, .d rfl⟩, ⟨_, rfl, .d rfl⟩, ⟨_, rfl, .d rfl⟩, ⟨_, rfl, .d rfl⟩, trivial⟩ trivial drop0)) ?_
    intro v42 x43 hb44 hx45
    refine cw_seq (cw_region (
      .cons (o_bin rfl rfl .no rfl rfl (b_lss _ _) rfl) <|
      .nil rfl
    ) ?_)
    refine cw_seq ?_
    rcases cond_some hb44 with ⟨hc46, h47⟩ | ⟨hc46, h48⟩
    · refine cw_condT rfl hc46 ?_
      refine cw_skip ?_
      refine cw_seq ?_
      refine cw_block ?_
      obtain ⟨x49, hx50, h51⟩ := bind_some h47
      have hx50g := gx_some hx50
      refine cw_seq (cw_region (
        .cons (o_ixM (enc := u8D) (xs := a0) rfl rfl .no rfl rfl sl26 sz5 hx50g.1 hx50g.2) <|
        .cons (o_ld rfl rfl .no rfl ta5 rfl rfl) <|
        .cons (o_as rfl rfl .no rfl) <|
        .nil rfl
      ) ?_)
      refine cw_region (
        .cons (o_mv rfl rfl .no rfl) <|
        .cons (o_bin rfl rfl .no rfl rfl (b_shl _ _ (by decide)) rfl) <|
        .cons (o_mv rfl rfl .no rfl) <|
        .cons (o_conv rfl rfl .no rfl un5 un3) <|
        .cons (o_bin rfl rfl .no rfl rfl (b_or _ _) rfl) <|
        .cons (o_as rfl rfl .no rfl) <|
        .nil rfl
      ) ?_
      refine cw_region (
        .cons (o_bin rfl rfl .no rfl rfl (b_add _ _) rfl) <|
        .cons (o_mv rfl rfl .no rfl) <|
        .nil rfl
      ) ?_
      exact ⟨((bitsOr .i64 (IntKind.wrap .i64 (v42.1 * 2 ^ 8)) (IntKind.wrap .i64 (x49.toNat : Int))), (IntKind.wrap .i64 (v42.2 + 1))), (Option.some.inj h51).symm, .w (weak_of ⟨⟨_, rfl, .d rfl⟩, ⟨_, rfl, .d rfl⟩, ⟨_, rfl, .d rfl⟩, ⟨_, rfl, .d rfl⟩, trivial⟩ trivial drop0)⟩
    · refine cw_condF rfl hc46 ?_
      refine cw_exit ?_
      exact ⟨v42.1, (hx45 _ (Option.some.inj h48).symm).symm, .w (weak_of ⟨⟨_, rfl, .d rfl⟩, trivial⟩ trivial drop0)⟩

set_option maxRecDepth 100000 in
theorem key_Of_okc {a0 : List UInt8} {r : ((Int × Int × ByteArray × Int) × Bool)} (h : key_Of a0 = some r) : FnOk Tryz.prog 16 [.d (eapiKey a0)] 0 (lk []) (fun rr oo => rr = .tup [.d (ekeyParts r.1), .d (ebool r.2)] ∧ oo = lk [(1, .box (.d (ekeyParts r.1)))]) := by
  refine fnOk_of Tryz.func16 rfl rfl (cw_post ?_)
  unfold key_Of at h
  refine cw_seq (cw_region (
    .cons (o_box 0 rfl rfl .no rfl rfl rfl) <|
    .cons (o_alloc 1 rfl rfl .no ze43 rfl) <|
    .cons (o_as rfl rfl .no rfl) <|
    .nil rfl
  ) ?_)
  obtain ⟨x1, hx2, h3⟩ := bind_some (x := key_of (List.take 4 (List.drop 0 a0))) h
  obtain ⟨x4, hx5, h6⟩ := bind_some h3
  have hx5g := ck_dec hx5
  obtain ⟨x7, hx8, h9⟩ := bind_some h6
  have hx8g := gx_some hx8
  refine cw_seq (cw_region_any mixed (by kernel_rfl) (
    .cons (o_slC 0 4 24 rfl rfl .no rfl ar39 sz5 .no (.val rfl (by decide)) (by decide) (by decide) (by decide) (by decide) (by decide) (by decide)) <|
    .cons (o_call rfl rfl .no Tryz.func38 rfl rfl (key_of_ok hx2) (.cons rfl (.bslP (m0 := 0) (lo := 0) [] rfl rfl rfl rfl) .nil) ⟨trivial, trivial⟩ (.inr (DFlat.v _))) <|
    .cons (o_ixP rfl rfl .no rfl rfl ar39 sz5 hx5g) <|
    .cons (o_ldB (l := a0) [] rfl rfl .no rfl rfl rfl hx8g.2 ta5) <|
    .cons (o_conv rfl rfl .no rfl un5 un3) <|
    .cons (o_bld (ds := [eint x1, eint (IntKind.wrap .i64 (x7.toNat : Int)), estring (ByteArray.mk #[]), eint 0]) rfl rfl .no zs43 rfl pl43 (.cons rfl rfl rfl rfl rfl rfl rfl (.cons rfl rfl rfl rfl rfl rfl rfl .nil))) <|
    .cons (o_alloc 2 rfl rfl .no ze43 rfl) <|
    .cons (o_st [] rfl .no rfl rfl rfl rfl rfl sz43 rfl rfl) <|
    .nil rfl
  ) (by kernel_rfl) ?_)
  refine cw_seq (cw_region (
    .cons (o_alloc 3 rfl rfl .no ze39 rfl) <|
    .nil rfl
  ) ?_)
  refine cw_seq (cw_region (
    .cons (o_as rfl rfl .no rfl) <|
    .nil rfl
  ) ?_)
  obtain ⟨o28, hj29, h30⟩ := bind_some h9
  refine cw_join (fun (z : (Bool × (Int × Int × ByteArray × Int) × (List UInt8))) => St.of [(1, .ptr 0 0), (2, .ptr 1 0), (4, .ptr 2 0), (5, .ptr 3 0), (6, .d (ebool z.1))] [(0, .box (.d (eapiKey a0))), (1, .box (.d (ekeyParts (0, 0, (ByteArray.mk #[]), 0)))), (2, .box (.d (ekeyParts z.2.1))), (3, .box (.d (eapiKey z.2.2)))]) (fun (z : (Bool × (Int × Int × ByteArray × Int) × (List UInt8))) => o28 = z) ?_ ?_
  · intro v63 hv64; subst hv64
    refine cw_seq ?_
    obtain ⟨o52, hj53, h54⟩ := bind_some h30
    refine cw_join (fun (z : Bool) => St.of [(2, .ptr 1 0), (4, .ptr 2 0), (60, .d (ebool z))] [(1, .box (.d (ekeyParts (0, 0, (ByteArray.mk #[]), 0)))), (2, .box (.d (ekeyParts o28.2.1)))]) (fun (z : Bool) => o52 = z) ?_ ?_
    · intro v61 hv62; subst hv62
      rcases cond_some h54 with ⟨hc58, h59⟩ | ⟨hc58, h60⟩
      · refine cw_condT rfl hc58 ?_
        refine cw_seq (cw_region (
          .cons (o_bld (ds := [eint 0, eint 0, estring (ByteArray.mk #[]), eint 0]) rfl rfl .no zs43 rfl pl43 .nil) <|
          .cons (o_st [] rfl .no rfl rfl rfl rfl rfl sz43 rfl rfl) <|
          .cons (o_as rfl rfl .no rfl) <|
          .nil rfl
        ) ?_)
        have heq := ((Option.some.inj h59).symm).symm
        subst heq
        exact cw_ret ⟨_, (show Leads _ _ (St.of [(2, .ptr 1 0), (3, .d (ebool false))] [(1, .box (.d (ekeyParts (0, 0, (ByteArray.mk #[]), 0))))]) from .w (weak_of ⟨⟨_, rfl, .ptr rfl rfl⟩, ⟨_, rfl, .d rfl⟩, trivial⟩ ⟨.box rfl (.d rfl), trivial⟩ drop0)), .inr rfl, _, resCT rfl rfl rfl ta43 rfl rfl rfl, rfl, rfl⟩
      · refine cw_condF rfl hc58 ?_
        refine cw_skip ?_
        refine cw_seq (cw_region (
          .cons (o_ldP [] rfl rfl .no rfl rfl rfl ta43 rfl rfl) <|
          .cons (o_st [] rfl .no rfl rfl rfl rfl rfl sz43 rfl rfl) <|
          .cons (o_as rfl rfl .no rfl) <|
          .nil rfl
        ) ?_)
        have heq := ((Option.some.inj h60).symm).symm
        subst heq
        exact cw_ret ⟨_, (show Leads _ _ (St.of [(2, .ptr 1 0), (3, .d (ebool true))] [(1, .box (.d (ekeyParts o28.2.1)))]) from .w (weak_of ⟨⟨_, rfl, .ptr rfl rfl⟩, ⟨_, rfl, .d rfl⟩, trivial⟩ ⟨.box rfl (.d rfl), trivial⟩ drop0)), .inr rfl, _, resCT rfl rfl rfl ta43 rfl rfl rfl, rfl, rfl⟩
    · skip
      rcases cond_some hj53 with ⟨hc55, h56⟩ | ⟨hc55, h57⟩
      · skip
        refine cw_region (
          .cons (o_mv rfl rfl .no rfl) <|
          .cons (o_not rfl rfl .no rfl) <|
          .cons (o_mv rfl rfl .no rfl) <|
          .cons (o_noT rfl rfl rfl rfl hc55) <|
          .cons (o_noT rfl rfl rfl rfl hc55) <|
          .cons (o_noT rfl rfl rfl rfl hc55) <|
          .cons (o_pickT rfl rfl .no rfl hc55 rfl) <|
          .nil rfl
        ) ?_
        exact ⟨true, (Option.some.inj h56).symm, .w (weak_of ⟨⟨_, rfl, .ptr rfl rfl⟩, ⟨_, rfl, .ptr rfl rfl⟩, ⟨_, rfl, .d rfl⟩, trivial⟩ ⟨.box rfl (.d rfl), .box rfl (.d rfl), trivial⟩ drop0)⟩
      · skip
        refine cw_region (
          .cons (o_mv rfl rfl .no rfl) <|
          .cons (o_not rfl rfl .no rfl) <|
          .cons (o_mv rfl rfl .no rfl) <|
          .cons (o_ldP [] rfl rfl (.yes rfl rfl hc55) rfl rfl rfl ta39 rfl rfl) <|
          .cons (o_ldP [] rfl rfl (.yes rfl rfl hc55) rfl rfl rfl ta39 rfl rfl) <|
          .cons (o_ne rfl rfl (.yes rfl rfl hc55) rfl rfl rfl rfl eg39 (.bs ar39 un5 sz5)) <|
          .cons (o_pickF rfl rfl .no rfl hc55 rfl) <|
          .nil rfl
        ) ?_
        exact ⟨(!(decide (o28.2.2 = a0))), (Option.some.inj h57).symm, .w (weak_of ⟨⟨_, rfl, .ptr rfl rfl⟩, ⟨_, rfl, .ptr rfl rfl⟩, ⟨_, rfl, .d rfl⟩, trivial⟩ ⟨.box rfl (.d rfl), .box rfl (.d rfl), trivial⟩ drop0)⟩
  · skip
    refine cw_seq (cw_region (
      .cons (o_fldP rfl rfl .no rfl fld43_1 (by decide)) <|
      .cons (o_ldP [1] rfl rfl .no rfl rfl rfl ta3 rfl rfl) <|
      .nil rfl
    ) ?_)
    refine cw_block ?_
    refine cw_seq (cw_region (
      .cons (o_bin rfl rfl .no rfl rfl (b_eql _ _) rfl) <|
      .cons (o_as rfl rfl .no rfl) <|
      .nil rfl
    ) ?_)
    rcases cond_some hj29 with ⟨hc31, h32⟩ | ⟨hc31, h33⟩
    · refine cw_condT rfl hc31 ?_
      obtain ⟨x34, hx35, h36⟩ := bind_some (x := key_Inode x1) h32
      refine cw_region (
        .cons (o_fldP rfl rfl .no rfl fld43_0 (by decide)) <|
        .cons (o_ldP [0] rfl rfl .no rfl rfl rfl ta3 rfl rfl) <|
        .cons (o_call rfl rfl .no Tryz.func39 rfl rfl (key_Inode_ok hx35) (.cons rfl .d .nil) ⟨trivial, trivial⟩ (.inl rfl)) <|
        .cons (o_mv rfl rfl .no rfl) <|
        .cons (o_ext rfl rfl .no rfl rfl) <|
        .cons (o_ext rfl rfl .no rfl rfl) <|
        .cons (o_st [] rfl .no rfl rfl rfl rfl rfl sz39 rfl rfl) <|
        .cons (o_as rfl rfl .no rfl) <|
        .nil rfl
      ) ?_
      exact ⟨(x34.2, (x1, (IntKind.wrap .i64 (x7.toNat : Int)), (ByteArray.mk #[]), 0), x34.1), (Option.some.inj h36).symm, .w (weak_of ⟨⟨_, rfl, .ptr rfl rfl⟩, ⟨_, rfl, .ptr rfl rfl⟩, ⟨_, rfl, .ptr rfl rfl⟩, ⟨_, rfl, .ptr rfl rfl⟩, ⟨_, rfl, .d rfl⟩, trivial⟩ ⟨.box rfl (.d rfl), .box rfl (.d rfl), .box rfl (.d rfl), .box rfl (.d rfl), trivial⟩ drop0)⟩
    · refine cw_condF rfl hc31 ?_
      refine cw_seq (cw_region (
        .cons (o_bin rfl rfl .no rfl rfl (b_eql _ _) rfl) <|
        .cons (o_as rfl rfl .no rfl) <|
        .nil rfl
      ) ?_)
      rcases cond_some h33 with ⟨hc37, h38⟩ | ⟨hc37, h39⟩
      · refine cw_condT rfl hc37 ?_
        exact nomatch h38
      · refine cw_condF rfl hc37 ?_
        refine cw_seq (cw_region (
          .cons (o_bin rfl rfl .no rfl rfl (b_eql _ _) rfl) <|
          .cons (o_as rfl rfl .no rfl) <|
          .nil rfl
        ) ?_)
        rcases cond_some h39 with ⟨hc40, h41⟩ | ⟨hc40, h42⟩
        · refine cw_condT rfl hc40 ?_
          obtain ⟨x43, hx44, h45⟩ := bind_some (x := key_of (List.take 4 (List.drop 20 a0))) h41
          refine cw_seq (cw_region (
            .cons (o_slC 20 4 4 rfl rfl .no rfl ar39 sz5 (.val rfl (by decide)) .no (by decide) (by decide) (by decide) (by decide) (by decide) (by decide)) <|
            .cons (o_call rfl rfl .no Tryz.func38 rfl rfl (key_of_ok hx44) (.cons rfl (.bslP (m0 := 0) (lo := 20) [] rfl rfl rfl rfl) .nil) ⟨trivial, trivial⟩ (.inr (DFlat.v _))) <|
            .cons (o_fldP rfl rfl .no rfl fld43_3 (by decide)) <|
            .cons (o_st [3] rfl .no rfl rfl rfl rfl rfl sz3 rfl rfl) <|
            .nil rfl
          ) ?_)
          obtain ⟨x46, hx47, h48⟩ := bind_some (x := key_Chunk x1 x43) h45
          refine cw_region (
            .cons (o_fldP rfl rfl .no rfl fld43_0 (by decide)) <|
            .cons (o_ldP [0] rfl rfl .no rfl rfl rfl ta3 rfl rfl) <|
            .cons (o_fldP rfl rfl .no rfl fld43_3 (by decide)) <|
            .cons (o_ldP [3] rfl rfl .no rfl rfl rfl ta3 rfl rfl) <|
            .cons (o_call rfl rfl .no Tryz.func25 rfl rfl (key_Chunk_ok hx47) (.cons rfl .d (.cons rfl .d .nil)) ⟨trivial, trivial, trivial⟩ (.inl rfl)) <|
            .cons (o_mv rfl rfl .no rfl) <|
            .cons (o_ext rfl rfl .no rfl rfl) <|
            .cons (o_ext rfl rfl .no rfl rfl) <|
            .cons (o_st [] rfl .no rfl rfl rfl rfl rfl sz39 rfl rfl) <|
            .cons (o_as rfl rfl .no rfl) <|
            .nil rfl
          ) ?_
          exact ⟨(x46.2, (x1, (IntKind.wrap .i64 (x7.toNat : Int)), (ByteArray.mk #[]), x43), x46.1), (Option.some.inj h48).symm, .w (weak_of ⟨⟨_, rfl, .ptr rfl rfl⟩, ⟨_, rfl, .ptr rfl rfl⟩, ⟨_, rfl, .ptr rfl rfl⟩, ⟨_, rfl, .ptr rfl rfl⟩, ⟨_, rfl, .d rfl⟩, trivial⟩ ⟨.box rfl (.d rfl), .box rfl (.d rfl), .box rfl (.d rfl), .box rfl (.d rfl), trivial⟩ drop0)⟩
        · refine cw_condF rfl hc40 ?_
          refine cw_skip ?_
          exact ⟨(false, (x1, (IntKind.wrap .i64 (x7.toNat : Int)), (ByteArray.mk #[]), 0), (List.replicate 24 0)), (Option.some.inj h42).symm, .w (weak_of ⟨⟨_, rfl, .ptr rfl rfl⟩, ⟨_, rfl, .ptr rfl rfl⟩, ⟨_, rfl, .ptr rfl rfl⟩, ⟨_, rfl, .ptr rfl rfl⟩, ⟨_, rfl, .d rfl⟩, trivial⟩ ⟨.box rfl (.d rfl), .box rfl (.d rfl), .box rfl (.d rfl), .box rfl (.d rfl), trivial⟩ drop0)⟩
theorem key_Of_ok {a0 : List UInt8} {r : ((Int × Int × ByteArray × Int) × Bool)} (h : key_Of a0 = some r) : FnOk Tryz.prog 16 [.d (eapiKey a0)] 0 (lk []) (fun rr oo => rr = .tup [.d (ekeyParts r.1), .d (ebool r.2)] ∧ oo = lk []) := fnOk_forget2 (key_Of_okc h)

set_option maxRecDepth 100000 in
theorem key_Chunks_okc {a0 : Int} {a1 : Int} {r : ((List UInt8) × (List UInt8) × Bool)} (h : key_Chunks a0 a1 = some r) : FnOk Tryz.prog 29 [.d (eint a0), .d (eint a1)] 0 (lk []) (fun rr oo => rr = .d (eapiSpan r) ∧ oo = lk [(0, .box (.d (eapiSpan r)))]) := by
  refine fnOk_of Tryz.func29 rfl rfl (cw_post ?_)
  unfold key_Chunks at h
  refine cw_seq (cw_region (
    .cons (o_alloc 0 rfl rfl .no ze41 rfl) <|
    .nil rfl
  ) ?_)
  obtain ⟨x1, hx2, h3⟩ := bind_some (x := key_Chunk a0 a1) h
  refine cw_seq (cw_region (
    .cons (o_mv rfl rfl .no rfl) <|
    .cons (o_mv rfl rfl .no rfl) <|
    .cons (o_call rfl rfl .no Tryz.func25 rfl rfl (key_Chunk_ok hx2) (.cons rfl .d (.cons rfl .d .nil)) ⟨trivial, trivial, trivial⟩ (.inl rfl)) <|
    .cons (o_mv rfl rfl .no rfl) <|
    .cons (o_ext rfl rfl .no rfl rfl) <|
    .cons (o_ext rfl rfl .no rfl rfl) <|
    .cons (o_alloc 1 rfl rfl .no ze39 rfl) <|
    .cons (o_st [] rfl .no rfl rfl rfl rfl rfl sz39 rfl rfl) <|
    .cons (o_as rfl rfl .no rfl) <|
    .nil rfl
  ) ?_)
  refine cw_seq ?_
  refine cw_seq (cw_region (
    .cons (o_mv rfl rfl .no rfl) <|
    .cons (o_not rfl rfl .no rfl) <|
    .nil rfl
  ) ?_)
  rcases cond_some h3 with ⟨hc4, h5⟩ | ⟨hc4, h6⟩
  · refine cw_condT rfl hc4 ?_
    refine cw_seq (cw_region (
      .cons (o_bld (ds := [eapiKey (List.replicate 24 0), eapiKey (List.replicate 24 0), ebool false]) rfl rfl .no zs41 rfl pl41 .nil) <|
      .cons (o_st [] rfl .no rfl rfl rfl rfl rfl sz41 rfl rfl) <|
      .nil rfl
    ) ?_)
    have heq := ((Option.some.inj h5).symm).symm
    subst heq
    exact cw_ret ⟨_, (show Leads _ _ (St.of [(4, .ptr 0 0)] [(0, .box (.d (eapiSpan ((List.replicate 24 0), (List.replicate 24 0), false))))]) from .w (weak_of ⟨⟨_, rfl, .ptr rfl rfl⟩, trivial⟩ ⟨.box rfl (.d rfl), trivial⟩ drop0)), .inr rfl, _, resC rfl rfl rfl ta41 rfl rfl, rfl, rfl⟩
  · refine cw_condF rfl hc4 ?_
    refine cw_skip ?_
    obtain ⟨x7, hx8, h9⟩ := bind_some (x := key_begins a0 4) h6
    refine cw_seq (cw_region_any mixed (by kernel_rfl) (
      .cons (o_ldP [] rfl rfl .no rfl rfl rfl ta39 rfl rfl) <|
      .cons (o_mv rfl rfl .no rfl) <|
      .cons (o_call rfl rfl .no Tryz.func57 rfl rfl (key_begins_ok hx8) (.cons rfl .d (.cons rfl .d .nil)) ⟨trivial, trivial, trivial⟩ (.inl rfl)) <|
      .cons (o_bld (ds := [eapiKey x1.1, eapiKey x7, ebool false]) rfl rfl .no zs41 rfl pl41 (.cons rfl rfl rfl rfl rfl rfl rfl (.cons rfl rfl rfl rfl rfl rfl rfl .nil))) <|
      .cons (o_st [] rfl .no rfl rfl rfl rfl rfl sz41 rfl rfl) <|
      .nil rfl
    ) (by kernel_rfl) ?_)
    have heq := ((Option.some.inj h9).symm).symm
    subst heq
    exact cw_ret ⟨_, (show Leads _ _ (St.of [(4, .ptr 0 0)] [(0, .box (.d (eapiSpan (x1.1, x7, false))))]) from .w (weak_of ⟨⟨_, rfl, .ptr rfl rfl⟩, trivial⟩ ⟨.box rfl (.d rfl), trivial⟩ drop0)), .inr rfl, _, resC rfl rfl rfl ta41 rfl rfl, rfl, rfl⟩
theorem key_Chunks_ok {a0 : Int} {a1 : Int} {r : ((List UInt8) × (List UInt8) × Bool)} (h : key_Chunks a0 a1 = some r) : FnOk Tryz.prog 29 [.d (eint a0), .d (eint a1)] 0 (lk []) (fun rr oo => rr = .d (eapiSpan r) ∧ oo = lk []) := fnOk_forget (key_Chunks_okc h)

set_option maxRecDepth 100000 in
theorem inode_Trim_ok {a0 : ByteArray} {r : ByteArray} (h : inode_Trim a0 = some r) : FnOk Tryz.prog 30 [.d (estring a0)] 0 (lk []) (fun rr oo => rr = .d (estring r) ∧ oo = lk []) := by
  refine fnOk_of Tryz.func30 rfl rfl (cw_post ?_)
  unfold inode_Trim at h
  refine cw_seq (cw_region (
    .cons (o_as rfl rfl .no rfl) <|
    .nil rfl
  ) ?_)
  obtain ⟨x1, hx2, h3⟩ := bind_some h
  have hx2g := cutB_some hx2
  obtain ⟨x4, hx5, h6⟩ := bind_some (x := strTrimR (a0.extract 0 (min (a0.size : Int) 32).toNat) (ByteArray.mk #[0])) h3
  refine cw_seq (cw_region (
    .cons (o_mv rfl rfl .no rfl) <|
    .cons (o_mv rfl rfl .no rfl) <|
    .cons (o_lenS rfl rfl .no rfl un9) <|
    .cons (o_min rfl rfl .no rfl rfl) <|
    .cons (o_slS rfl rfl .no rfl un9 .no (.val rfl hx2g.2.1) hx2g.2.2.1 hx2g.2.2.2) <|
    .cons (o_call rfl rfl .no Tryz.func61 rfl rfl (strTrimR_ok hx5) (.cons rfl .d (.cons rfl .d .nil)) ⟨trivial, trivial, trivial⟩ (.inl rfl)) <|
    .cons (o_as rfl rfl .no rfl) <|
    .nil rfl
  ) ?_)
  have heq := ((Option.some.inj h6).symm).symm
  subst heq
  exact cw_ret ⟨_, (show Leads _ _ (St.of [(2, .d (estring x4))] []) from .w (weak_of ⟨⟨_, rfl, .d rfl⟩, trivial⟩ trivial drop0)), .inr rfl, _, res1 rfl rfl, rfl, rfl⟩

set_option maxRecDepth 100000 in
theorem inode_Full_ok {a0 : ByteArray} {r : ByteArray} (h : inode_Full a0 = some r) : FnOk Tryz.prog 34 [.d (estring a0)] 0 (lk []) (fun rr oo => rr = .d (estring r) ∧ oo = lk []) := by
  refine fnOk_of Tryz.func34 rfl rfl (cw_post ?_)
  unfold inode_Full at h
  refine cw_seq (cw_region (
    .cons (o_as rfl rfl .no rfl) <|
    .nil rfl
  ) ?_)
  obtain ⟨x1, hx2, h3⟩ := bind_some h
  have hx2g := cutB_some hx2
  refine cw_seq (cw_region (
    .cons (o_mv rfl rfl .no rfl) <|
    .cons (o_mv rfl rfl .no rfl) <|
    .cons (o_lenS rfl rfl .no rfl un9) <|
    .cons (o_min rfl rfl .no rfl rfl) <|
    .cons (o_slS rfl rfl .no rfl un9 .no (.val rfl hx2g.2.1) hx2g.2.2.1 hx2g.2.2.2) <|
    .cons (o_as rfl rfl .no rfl) <|
    .nil rfl
  ) ?_)
  obtain ⟨x4, hx5, h6⟩ := bind_some (x := strRepeat (ByteArray.mk #[0]) (IntKind.wrap .i64 (32 - ((a0.extract 0 (min (a0.size : Int) 32).toNat).size : Int)))) h3
  obtain ⟨x7, hx8, h9⟩ := bind_some h6
  have hx8g := ck_dec hx8
  refine cw_seq (cw_region (
    .cons (o_mv rfl rfl .no rfl) <|
    .cons (o_mv rfl rfl .no rfl) <|
    .cons (o_lenS rfl rfl .no rfl un9) <|
    .cons (o_bin rfl rfl .no rfl rfl (b_sub _ _) rfl) <|
    .cons (o_call rfl rfl .no Tryz.func66 rfl rfl (strRepeat_ok hx5) (.cons rfl .d (.cons rfl .d .nil)) ⟨trivial, trivial, trivial⟩ (.inl rfl)) <|
    .cons (o_bin rfl rfl .no rfl rfl (s_add _ _ hx8g) rfl) <|
    .cons (o_as rfl rfl .no rfl) <|
    .nil rfl
  ) ?_)
  have heq := ((Option.some.inj h9).symm).symm
  subst heq
  exact cw_ret ⟨_, (show Leads _ _ (St.of [(2, .d (estring ((a0.extract 0 (min (a0.size : Int) 32).toNat) ++ x4)))] []) from .w (weak_of ⟨⟨_, rfl, .d rfl⟩, trivial⟩ trivial drop0)), .inr rfl, _, res1 rfl rfl, rfl, rfl⟩

set_option maxRecDepth 100000 in
theorem chunk_may_ok {a0 : Int} {a1 : Int} {a2 : Int} {r : Bool} (h : chunk_may a0 a1 a2 = some r) : FnOk Tryz.prog 28 [.d (eint a0), .d (eint a1), .d (eint a2)] 0 (lk []) (fun rr oo => rr = .d (ebool r) ∧ oo = lk []) := by
  refine fnOk_of Tryz.func28 rfl rfl (cw_post ?_)
  unfold chunk_may at h
  refine cw_seq (cw_region (
    .cons (o_as rfl rfl .no rfl) <|
    .nil rfl
  ) ?_)
  obtain ⟨x1, hx2, h3⟩ := bind_some (x := key_Inode a0) h
  refine cw_seq (cw_region (
    .cons (o_mv rfl rfl .no rfl) <|
    .cons (o_call rfl rfl .no Tryz.func39 rfl rfl (key_Inode_ok hx2) (.cons rfl .d .nil) ⟨trivial, trivial⟩ (.inl rfl)) <|
    .cons (o_mv rfl rfl .no rfl) <|
    .cons (o_ext rfl rfl .no rfl rfl) <|
    .cons (o_ext rfl rfl .no rfl rfl) <|
    .cons (o_alloc 0 rfl rfl .no ze39 rfl) <|
    .cons (o_st [] rfl .no rfl rfl rfl rfl rfl sz39 rfl rfl) <|
    .cons (o_as rfl rfl .no rfl) <|
    .nil rfl
  ) ?_)
  obtain ⟨o13, hj14, h15⟩ := bind_some h3
  refine cw_join (fun (z : Bool) => St.of [(6, .d (ebool z))] []) (fun (z : Bool) => o13 = z) ?_ ?_
  · intro v25 hv26; subst hv26
    have heq := ((Option.some.inj h15).symm).symm
    subst heq
    exact cw_ret ⟨_, (show Leads _ _ (St.of [(6, .d (ebool o13))] []) from .w (weak_of ⟨⟨_, rfl, .d rfl⟩, trivial⟩ trivial drop0)), .inr rfl, _, res1 rfl rfl, rfl, rfl⟩
  · skip
    rcases cond_some hj14 with ⟨hc16, h17⟩ | ⟨hc16, h18⟩
    · skip
      rcases cond_some h17 with ⟨hc19, h20⟩ | ⟨hc19, h21⟩
      · skip
        rcases cond_some h20 with ⟨hc22, h23⟩ | ⟨hc22, h24⟩
        · skip
          refine cw_region (
            .cons (o_mv rfl rfl .no rfl) <|
            .cons (o_mv rfl rfl .no rfl) <|
            .cons (o_mv rfl rfl (.yes rfl rfl hc16) rfl) <|
            .cons (o_mv rfl rfl (.yes rfl rfl hc16) rfl) <|
            .cons (o_min rfl rfl (.yes rfl rfl hc16) rfl rfl) <|
            .cons (o_bin rfl rfl (.yes rfl rfl hc16) rfl rfl (b_geq _ _) rfl) <|
            .cons (o_pickT rfl rfl .no rfl hc16 rfl) <|
            .cons (o_mv rfl rfl .no rfl) <|
            .cons (o_mv rfl rfl (.yes rfl rfl hc19) rfl) <|
            .cons (o_bin rfl rfl (.yes rfl rfl hc19) rfl rfl (b_leq _ _) rfl) <|
            .cons (o_pickT rfl rfl .no rfl hc19 rfl) <|
            .cons (o_mv rfl rfl .no rfl) <|
            .cons (o_mv rfl rfl (.yes rfl rfl hc22) rfl) <|
            .cons (o_mv rfl rfl (.yes rfl rfl hc22) rfl) <|
            .cons (o_bin rfl rfl (.yes rfl rfl hc22) rfl rfl (b_sub _ _) rfl) <|
            .cons (o_bin rfl rfl (.yes rfl rfl hc22) rfl rfl (b_leq _ _) rfl) <|
            .cons (o_pickT rfl rfl .no rfl hc22 rfl) <|
            .cons (o_as rfl rfl .no rfl) <|
            .nil rfl
          ) ?_
          exact ⟨(decide (a2 ≤ (IntKind.wrap .i64 (1048576 - a1)))), (Option.some.inj h23).symm, .w (weak_of ⟨⟨_, rfl, .d rfl⟩, trivial⟩ trivial drop0)⟩
        · skip
          refine cw_region (
            .cons (o_mv rfl rfl .no rfl) <|
            .cons (o_mv rfl rfl .no rfl) <|
            .cons (o_mv rfl rfl (.yes rfl rfl hc16) rfl) <|
            .cons (o_mv rfl rfl (.yes rfl rfl hc16) rfl) <|
            .cons (o_min rfl rfl (.yes rfl rfl hc16) rfl rfl) <|
            .cons (o_bin rfl rfl (.yes rfl rfl hc16) rfl rfl (b_geq _ _) rfl) <|
            .cons (o_pickT rfl rfl .no rfl hc16 rfl) <|
            .cons (o_mv rfl rfl .no rfl) <|
            .cons (o_mv rfl rfl (.yes rfl rfl hc19) rfl) <|
            .cons (o_bin rfl rfl (.yes rfl rfl hc19) rfl rfl (b_leq _ _) rfl) <|
            .cons (o_pickT rfl rfl .no rfl hc19 rfl) <|
            .cons (o_mv rfl rfl .no rfl) <|
            .cons (o_noT rfl rfl rfl rfl hc22) <|
            .cons (o_noT rfl rfl rfl rfl hc22) <|
            .cons (o_noT rfl rfl rfl rfl hc22) <|
            .cons (o_noT rfl rfl rfl rfl hc22) <|
            .cons (o_pickF rfl rfl .no rfl hc22 rfl) <|
            .cons (o_as rfl rfl .no rfl) <|
            .nil rfl
          ) ?_
          exact ⟨false, (Option.some.inj h24).symm, .w (weak_of ⟨⟨_, rfl, .d rfl⟩, trivial⟩ trivial drop0)⟩
      · skip
        refine cw_region (
          .cons (o_mv rfl rfl .no rfl) <|
          .cons (o_mv rfl rfl .no rfl) <|
          .cons (o_mv rfl rfl (.yes rfl rfl hc16) rfl) <|
          .cons (o_mv rfl rfl (.yes rfl rfl hc16) rfl) <|
          .cons (o_min rfl rfl (.yes rfl rfl hc16) rfl rfl) <|
          .cons (o_bin rfl rfl (.yes rfl rfl hc16) rfl rfl (b_geq _ _) rfl) <|
          .cons (o_pickT rfl rfl .no rfl hc16 rfl) <|
          .cons (o_mv rfl rfl .no rfl) <|
          .cons (o_noT rfl rfl rfl rfl hc19) <|
          .cons (o_noT rfl rfl rfl rfl hc19) <|
          .cons (o_pickF rfl rfl .no rfl hc19 rfl) <|
          .cons (o_mv rfl rfl .no rfl) <|
          .cons (o_noT rfl rfl rfl rfl rfl) <|
          .cons (o_noT rfl rfl rfl rfl rfl) <|
          .cons (o_noT rfl rfl rfl rfl rfl) <|
          .cons (o_noT rfl rfl rfl rfl rfl) <|
          .cons (o_pickF rfl rfl .no rfl rfl rfl) <|
          .cons (o_as rfl rfl .no rfl) <|
          .nil rfl
        ) ?_
        exact ⟨false, (Option.some.inj h21).symm, .w (weak_of ⟨⟨_, rfl, .d rfl⟩, trivial⟩ trivial drop0)⟩
    · skip
      refine cw_region (
        .cons (o_mv rfl rfl .no rfl) <|
        .cons (o_mv rfl rfl .no rfl) <|
        .cons (o_noT rfl rfl rfl rfl hc16) <|
        .cons (o_noT rfl rfl rfl rfl hc16) <|
        .cons (o_noT rfl rfl rfl rfl hc16) <|
        .cons (o_noT rfl rfl rfl rfl hc16) <|
        .cons (o_pickF rfl rfl .no rfl hc16 rfl) <|
        .cons (o_mv rfl rfl .no rfl) <|
        .cons (o_noT rfl rfl rfl rfl rfl) <|
        .cons (o_noT rfl rfl rfl rfl rfl) <|
        .cons (o_pickF rfl rfl .no rfl rfl rfl) <|
        .cons (o_mv rfl rfl .no rfl) <|
        .cons (o_noT rfl rfl rfl rfl rfl) <|
        .cons (o_noT rfl rfl rfl rfl rfl) <|
        .cons (o_noT rfl rfl rfl rfl rfl) <|
        .cons (o_noT rfl rfl rfl rfl rfl) <|
        .cons (o_pickF rfl rfl .no rfl rfl rfl) <|
        .cons (o_as rfl rfl .no rfl) <|
        .nil rfl
      ) ?_
      exact ⟨false, (Option.some.inj h18).symm, .w (weak_of ⟨⟨_, rfl, .d rfl⟩, trivial⟩ trivial drop0)⟩

set_option maxRecDepth 100000 in
theorem chunk_lay_ok {a0 : VwT} {a1 : Int} {a2 : Int} {a3 : ByteArray} {r : (Int × VwT)} (h : chunk_lay a0 a1 a2 a3 = some r) : FnOk Tryz.prog 31 [.ptr 0 0, .d (eint a1), .d (eint a2), .d (estring a3)] 1 (lk [(0, .own (oviewView a0))]) (fun rr oo => rr = .d (eapiErrno r.1) ∧ oo = lk [(0, .own (oviewView r.2))]) := by
  refine fnOk_of Tryz.func31 rfl rfl (cw_post ?_)
  unfold chunk_lay at h
  refine cw_seq (cw_region (
    .cons (o_as rfl rfl .no rfl) <|
    .nil rfl
  ) ?_)
  obtain ⟨x1, hx2, h3⟩ := bind_some (x := key_Chunk a1 a2) h
  refine cw_seq (cw_region (
    .cons (o_mv rfl rfl .no rfl) <|
    .cons (o_mv rfl rfl .no rfl) <|
    .cons (o_call rfl rfl .no Tryz.func25 rfl rfl (key_Chunk_ok hx2) (.cons rfl .d (.cons rfl .d .nil)) ⟨trivial, trivial, trivial⟩ (.inl rfl)) <|
    .cons (o_mv rfl rfl .no rfl) <|
    .cons (o_ext rfl rfl .no rfl rfl) <|
    .cons (o_ext rfl rfl .no rfl rfl) <|
    .cons (o_alloc 1 rfl rfl .no ze39 rfl) <|
    .cons (o_st [] rfl .no rfl rfl rfl rfl rfl sz39 rfl rfl) <|
    .cons (o_as rfl rfl .no rfl) <|
    .nil rfl
  ) ?_)
  refine cw_seq ?_
  obtain ⟨x4, hx5, h6⟩ := bind_some (x := inode_Trim a3) h3
  refine cw_seq (cw_region (
    .cons (o_mv rfl rfl .no rfl) <|
    .cons (o_call rfl rfl .no Tryz.func30 rfl rfl (inode_Trim_ok hx5) (.cons rfl .d .nil) ⟨trivial, trivial⟩ (.inl rfl)) <|
    .cons (o_as rfl rfl .no rfl) <|
    .nil rfl
  ) ?_)
  refine cw_seq (cw_region (
    .cons (o_mv rfl rfl .no rfl) <|
    .cons (o_bin rfl rfl .no rfl rfl (s_eql _ _) rfl) <|
    .nil rfl
  ) ?_)
  rcases cond_some h6 with ⟨hc7, h8⟩ | ⟨hc7, h9⟩
  · refine cw_condT rfl hc7 ?_
    obtain ⟨x10, hx11, h12⟩ := bind_some (x := view_View_Delete a0 x1.1) h8
    refine cw_seq (cw_region (
      .cons (o_mv rfl rfl .no rfl) <|
      .cons (o_ldP [] rfl rfl .no rfl rfl rfl ta39 rfl rfl) <|
      .cons (o_callX (fun _ => 0) rfl rfl .no Tryz.func62 rfl rfl (view_View_Delete_ok hx11) (.cons rfl (.p rfl) (.cons rfl .d .nil)) (callIn1 rfl ⟨(by simp [AV.live, lk, Nat.beq]), trivial, trivial⟩ rfl (OD.dat_live (oviewView_dat _)) (by simp)) (.inl rfl)) <|
      .cons (o_as rfl rfl .no rfl) <|
      .nil rfl
    ) ?_)
    have heq := ((Option.some.inj h12).symm).symm
    subst heq
    exact cw_ret ⟨_, (show Leads _ _ (St.of [(8, .d (eapiErrno x10.1))] [(0, .own (oviewView x10.2))]) from .w (weak_of ⟨⟨_, rfl, .d rfl⟩, trivial⟩ ⟨.own rfl (.of_eq rfl (oviewView_dat _)), trivial⟩ (dropK rfl))), .inr rfl, _, res1 rfl rfl, rfl, rfl⟩
  · refine cw_condF rfl hc7 ?_
    refine cw_skip ?_
    obtain ⟨x13, hx14, h15⟩ := bind_some (x := view_View_Put a0 x1.1 x4) h9
    refine cw_seq (cw_region (
      .cons (o_mv rfl rfl .no rfl) <|
      .cons (o_ldP [] rfl rfl .no rfl rfl rfl ta39 rfl rfl) <|
      .cons (o_mv rfl rfl .no rfl) <|
      .cons (o_callX (fun _ => 0) rfl rfl .no Tryz.func63 rfl rfl (view_View_Put_ok hx14) (.cons rfl (.p rfl) (.cons rfl .d (.cons rfl .d .nil))) (callIn1 rfl ⟨(by simp [AV.live, lk, Nat.beq]), trivial, trivial, trivial⟩ rfl (OD.dat_live (oviewView_dat _)) (by simp)) (.inl rfl)) <|
      .cons (o_as rfl rfl .no rfl) <|
      .nil rfl
    ) ?_)
    have heq := ((Option.some.inj h15).symm).symm
    subst heq
    exact cw_ret ⟨_, (show Leads _ _ (St.of [(8, .d (eapiErrno x13.1))] [(0, .own (oviewView x13.2))]) from .w (weak_of ⟨⟨_, rfl, .d rfl⟩, trivial⟩ ⟨.own rfl (.of_eq rfl (oviewView_dat _)), trivial⟩ (dropK rfl))), .inr rfl, _, res1 rfl rfl, rfl, rfl⟩

set_option maxRecDepth 100000 in
theorem chunk_Read_ok {a0 : VwT} {a1 : Int} {a2 : Int} {a3 : Int} {r : (ByteArray × Int × VwT)} (h : chunk_Read a0 a1 a2 a3 = some r) : FnOk Tryz.prog 14 [.ptr 0 0, .d (eint a1), .d (eint a2), .d (eint a3)] 1 (lk [(0, .own (oviewView a0))]) (fun rr oo => rr = .tup [.d (estring r.1), .d (eapiErrno r.2.1)] ∧ oo = lk [(0, .own (oviewView r.2.2))]) := by
  refine fnOk_of Tryz.func14 rfl rfl (cw_post ?_)
  unfold chunk_Read at h
  refine cw_seq (cw_region (
    .cons (o_as rfl rfl .no rfl) <|
    .cons (o_as rfl rfl .no rfl) <|
    .nil rfl
  ) ?_)
  refine cw_seq ?_
  refine cw_block ?_
  obtain ⟨x1, hx2, h3⟩ := bind_some (x := chunk_may a1 a2 a3) h
  refine cw_seq (cw_region (
    .cons (o_mv rfl rfl .no rfl) <|
    .cons (o_mv rfl rfl .no rfl) <|
    .cons (o_mv rfl rfl .no rfl) <|
    .cons (o_call rfl rfl .no Tryz.func28 rfl rfl (chunk_may_ok hx2) (.cons rfl .d (.cons rfl .d (.cons rfl .d .nil))) ⟨trivial, trivial, trivial, trivial⟩ (.inl rfl)) <|
    .cons (o_not rfl rfl .no rfl) <|
    .cons (o_as rfl rfl .no rfl) <|
    .nil rfl
  ) ?_)
  rcases cond_some h3 with ⟨hc4, h5⟩ | ⟨hc4, h6⟩
  · refine cw_condT rfl hc4 ?_
    refine cw_seq (cw_region (
      .cons (o_as rfl rfl .no rfl) <|
      .cons (o_as rfl rfl .no rfl) <|
      .nil rfl
    ) ?_)
    have heq := ((Option.some.inj h5).symm).symm
    subst heq
    exact cw_ret ⟨_, (show Leads _ _ (St.of [(8, .d (estring (ByteArray.mk #[]))), (9, .d (eapiErrno 1))] [(0, .own (oviewView a0))]) from .w (weak_of ⟨⟨_, rfl, .d rfl⟩, ⟨_, rfl, .d rfl⟩, trivial⟩ ⟨.own rfl (.of_eq rfl (oviewView_dat _)), trivial⟩ (dropK rfl))), .inr rfl, _, res2 rfl rfl rfl, rfl, rfl⟩
  · refine cw_condF rfl hc4 ?_
    refine cw_seq (cw_region (
      .cons (o_mv rfl rfl .no rfl) <|
      .cons (o_bin rfl rfl .no rfl rfl (b_eql _ _) rfl) <|
      .cons (o_as rfl rfl .no rfl) <|
      .nil rfl
    ) ?_)
    rcases cond_some h6 with ⟨hc7, h8⟩ | ⟨hc7, h9⟩
    · refine cw_condT rfl hc7 ?_
      refine cw_seq (cw_region (
        .cons (o_as rfl rfl .no rfl) <|
        .cons (o_as rfl rfl .no rfl) <|
        .nil rfl
      ) ?_)
      have heq := ((Option.some.inj h8).symm).symm
      subst heq
      exact cw_ret ⟨_, (show Leads _ _ (St.of [(8, .d (estring (ByteArray.mk #[]))), (9, .d (eapiErrno 0))] [(0, .own (oviewView a0))]) from .w (weak_of ⟨⟨_, rfl, .d rfl⟩, ⟨_, rfl, .d rfl⟩, trivial⟩ ⟨.own rfl (.of_eq rfl (oviewView_dat _)), trivial⟩ (dropK rfl))), .inr rfl, _, res2 rfl rfl rfl, rfl, rfl⟩
    · refine cw_condF rfl hc7 ?_
      refine cw_skip ?_
      refine cw_seq (cw_region (
        .cons (o_mv rfl rfl .no rfl) <|
        .cons (o_bin rfl rfl .no rfl rfl (b_quo _ _ (by decide)) rfl) <|
        .cons (o_mv rfl rfl .no rfl) <|
        .cons (o_mv rfl rfl .no rfl) <|
        .cons (o_bin rfl rfl .no rfl rfl (b_add _ _) rfl) <|
        .cons (o_bin rfl rfl .no rfl rfl (b_add _ _) rfl) <|
        .cons (o_bin rfl rfl .no rfl rfl (b_sub _ _) rfl) <|
        .cons (o_bin rfl rfl .no rfl rfl (b_quo _ _ (by decide)) rfl) <|
        .cons (o_as rfl rfl .no rfl) <|
        .cons (o_as rfl rfl .no rfl) <|
        .nil rfl
      ) ?_)
      obtain ⟨x10, hx11, h12⟩ := bind_some (x := key_Chunk a1 (IntKind.wrap .i64 (Int.tdiv a2 32))) h9
      refine cw_seq (cw_region (
        .cons (o_mv rfl rfl .no rfl) <|
        .cons (o_mv rfl rfl .no rfl) <|
        .cons (o_call rfl rfl .no Tryz.func25 rfl rfl (key_Chunk_ok hx11) (.cons rfl .d (.cons rfl .d .nil)) ⟨trivial, trivial, trivial⟩ (.inl rfl)) <|
        .cons (o_mv rfl rfl .no rfl) <|
        .cons (o_ext rfl rfl .no rfl rfl) <|
        .cons (o_ext rfl rfl .no rfl rfl) <|
        .cons (o_alloc 1 rfl rfl .no ze39 rfl) <|
        .cons (o_st [] rfl .no rfl rfl rfl rfl rfl sz39 rfl rfl) <|
        .cons (o_as rfl rfl .no rfl) <|
        .nil rfl
      ) ?_)
      obtain ⟨x13, hx14, h15⟩ := bind_some (x := key_Chunk a1 (IntKind.wrap .i64 (Int.tdiv (IntKind.wrap .i64 ((IntKind.wrap .i64 ((IntKind.wrap .i64 (a2 + a3)) + 32)) - 1)) 32))) h12
      refine cw_seq (cw_region (
        .cons (o_mv rfl rfl .no rfl) <|
        .cons (o_mv rfl rfl .no rfl) <|
        .cons (o_call rfl rfl .no Tryz.func25 rfl rfl (key_Chunk_ok hx14) (.cons rfl .d (.cons rfl .d .nil)) ⟨trivial, trivial, trivial⟩ (.inl rfl)) <|
        .cons (o_mv rfl rfl .no rfl) <|
        .cons (o_ext rfl rfl .no rfl rfl) <|
        .cons (o_ext rfl rfl .no rfl rfl) <|
        .cons (o_alloc 2 rfl rfl .no ze39 rfl) <|
        .cons (o_st [] rfl .no rfl rfl rfl rfl rfl sz39 rfl rfl) <|
        .cons (o_as rfl rfl .no rfl) <|
        .nil rfl
      ) ?_)
      obtain ⟨x16, hx17, h18⟩ := bind_some (x := view_View_Scan a0 (x10.1, x13.1, false)) h15
      refine cw_seq (cw_region (
        .cons (o_mv rfl rfl .no rfl) <|
        .cons (o_ldP [] rfl rfl .no rfl rfl rfl ta39 rfl rfl) <|
        .cons (o_ldP [] rfl rfl .no rfl rfl rfl ta39 rfl rfl) <|
        .cons (o_bld (ds := [eapiKey x10.1, eapiKey x13.1, ebool false]) rfl rfl .no zs41 rfl pl41 (.cons rfl rfl rfl rfl rfl rfl rfl (.cons rfl rfl rfl rfl rfl rfl rfl .nil))) <|
        .cons (o_callX (fun n => bif Nat.beq n 0 then 0 else 3) rfl rfl .no Tryz.func15 rfl rfl (view_View_Scan_ok hx17) (.cons rfl (.p rfl) (.cons rfl .d .nil)) (callIn1N rfl ⟨(by simp [AV.live, lk, Nat.beq]), trivial, trivial⟩ (by decide) rfl (OD.dat_live (oviewView_dat _)) rfl (by simp)) (.inl rfl)) <|
        .cons (o_mv rfl rfl .no rfl) <|
        .cons (o_ext rfl rfl .no rfl rfl) <|
        .cons (o_ext rfl rfl .no rfl rfl) <|
        .cons (o_as rfl rfl .no rfl) <|
        .cons (o_as rfl rfl .no rfl) <|
        .nil rfl
      ) ?_)
      refine cw_seq ?_
      refine cw_seq (cw_region (
        .cons (o_mv rfl rfl .no rfl) <|
        .cons (o_bin rfl rfl .no rfl rfl (b_neq _ _) rfl) <|
        .nil rfl
      ) ?_)
      rcases cond_some h18 with ⟨hc19, h20⟩ | ⟨hc19, h21⟩
      · refine cw_condT rfl hc19 ?_
        refine cw_seq (cw_region (
          .cons (o_mv rfl rfl .no rfl) <|
          .cons (o_as rfl rfl .no rfl) <|
          .cons (o_as rfl rfl .no rfl) <|
          .nil rfl
        ) ?_)
        have heq := ((Option.some.inj h20).symm).symm
        subst heq
        exact cw_ret ⟨_, (show Leads _ _ (St.of [(8, .d (estring (ByteArray.mk #[]))), (9, .d (eapiErrno x16.2.1))] [(0, .own (oviewView x16.2.2))]) from .w (weak_of ⟨⟨_, rfl, .d rfl⟩, ⟨_, rfl, .d rfl⟩, trivial⟩ ⟨.own rfl (.of_eq rfl (oviewView_dat _)), trivial⟩ (dropK rfl))), .inr rfl, _, res2 rfl rfl rfl, rfl, rfl⟩
      · refine cw_condF rfl hc19 ?_
        refine cw_skip ?_
        obtain ⟨x22, hx23, h24⟩ := bind_some h21
        have hx23g := ck_dec hx23
        refine cw_seq (cw_region (
          .cons (o_mv rfl rfl .no rfl) <|
          .cons (o_mv rfl rfl .no rfl) <|
          .cons (o_bin rfl rfl .no rfl rfl (b_sub _ _) rfl) <|
          .cons (o_bin rfl rfl .no rfl rfl (b_mul _ _) rfl) <|
          .cons (o_mksl (n := (IntKind.wrap .i64 (32 * (IntKind.wrap .i64 ((IntKind.wrap .i64 (Int.tdiv (IntKind.wrap .i64 ((IntKind.wrap .i64 ((IntKind.wrap .i64 (a2 + a3)) + 32)) - 1)) 32)) - (IntKind.wrap .i64 (Int.tdiv a2 32))))))) 4 rfl rfl .no rfl rfl sl26 sz5 by5 zb5 hx23g rfl) <|
          .cons (o_as rfl rfl .no rfl) <|
          .nil rfl
        ) ?_)
        obtain ⟨o136, hj137, h138⟩ := bind_some h24
        refine cw_join (fun (z : (List UInt8)) => St.of [(2, .d (eint a2)), (3, .d (eint a3)), (10, .d (eint (IntKind.wrap .i64 (Int.tdiv a2 32)))), (18, .arr 4 0)] [(0, .own (oviewView x16.2.2)), (4, .arr 0 1 (z.map u8D))]) (fun (z : (List UInt8)) => o136 = (.inl z)) ?_ ?_
        · intro v251 hv256; subst hv256
          simp only [Sum.elim_inl] at h138
          refine cw_seq (cw_region (
            .cons (o_mv rfl rfl .no rfl) <|
            .cons (o_mv rfl rfl .no rfl) <|
            .cons (o_bin rfl rfl .no rfl rfl (b_mul _ _) rfl) <|
            .cons (o_bin rfl rfl .no rfl rfl (b_sub _ _) rfl) <|
            .cons (o_as rfl rfl .no rfl) <|
            .nil rfl
          ) ?_)
          refine cw_weak (weak_of (l := [(2, .d (eint (IntKind.wrap .i64 (a2 - (IntKind.wrap .i64 (32 * (IntKind.wrap .i64 (Int.tdiv a2 32)))))))), (3, .d (eint a3)), (18, .d (bytesD v251))]) (m := [(0, .own (oviewView x16.2.2))]) ⟨⟨_, rfl, .d rfl⟩, ⟨_, rfl, .d rfl⟩, ⟨_, rfl, .frz rfl rfl rfl⟩, trivial⟩ ⟨.own rfl (.of_eq rfl (oviewView_dat _)), trivial⟩ (dropK rfl)) ?_
          obtain ⟨x252, hx253, h254⟩ := bind_some h138
          have hx253g := cutB_some hx253
          refine cw_seq (cw_region (
            .cons (o_mv rfl rfl .no rfl) <|
            .cons (o_mv rfl rfl .no rfl) <|
            .cons (o_mv rfl rfl .no rfl) <|
            .cons (o_mv rfl rfl .no rfl) <|
            .cons (o_bin rfl rfl .no rfl rfl (b_add _ _) rfl) <|
            .cons (o_slM (enc := u8D) (xs := v251) rfl rfl .no rfl sl26 sz5 (.val rfl hx253g.1) (.val rfl hx253g.2.1) hx253g.2.2.1 hx253g.2.2.2) <|
            .cons (o_cvD rfl rfl .no rfl sl26 un5 un9) <|
            .cons (o_as rfl rfl .no rfl) <|
            .cons (o_as rfl rfl .no rfl) <|
            .nil rfl
          ) ?_)
          have heq := ((Option.some.inj h254).symm).symm
          subst heq
          exact cw_ret ⟨_, (show Leads _ _ (St.of [(8, .d (estring (bytesS (piece v251 (IntKind.wrap .i64 (a2 - (IntKind.wrap .i64 (32 * (IntKind.wrap .i64 (Int.tdiv a2 32)))))) (IntKind.wrap .i64 ((IntKind.wrap .i64 (a2 - (IntKind.wrap .i64 (32 * (IntKind.wrap .i64 (Int.tdiv a2 32)))))) + a3)))))), (9, .d (eapiErrno 0))] [(0, .own (oviewView x16.2.2))]) from .w (weak_of ⟨⟨_, rfl, .d rfl⟩, ⟨_, rfl, .d rfl⟩, trivial⟩ ⟨.own rfl (.of_eq rfl (oviewView_dat _)), trivial⟩ (dropK rfl))), .inr rfl, _, res2 rfl rfl rfl, rfl, rfl⟩
        · skip
          refine cw_seq (cw_region (
            .cons (o_mv rfl rfl .no rfl) <|
            .cons (o_lenAM (enc := eapiPair) (xs := x16.1) rfl rfl .no rfl rfl sl35) <|
            .cons (o_mv rfl rfl .no rfl) <|
            .nil rfl
          ) ?_)
          refine cw_block ?_
          refine cw_while (V := (Int × (List UInt8))) (O := ((List UInt8) ⊕ (ByteArray × Int × VwT))) (fun (z : (Int × (List UInt8))) => St.of [(2, .d (eint a2)), (3, .d (eint a3)), (10, .d (eint (IntKind.wrap .i64 (Int.tdiv a2 32)))), (11, .d (eint (IntKind.wrap .i64 (Int.tdiv (IntKind.wrap .i64 ((IntKind.wrap .i64 ((IntKind.wrap .i64 (a2 + a3)) + 32)) - 1)) 32)))), (18, .arr 4 0), (68, .arr 3 0), (69, .d (eint (x16.1.length : Int))), (70, .d (eint z.1))] [(0, .own (oviewView x16.2.2)), (3, .arr 0 25 (x16.1.map eapiPair)), (4, .arr 0 1 (z.2.map u8D))]) hj137 (.w (weak_of ⟨⟨_, rfl, .d rfl⟩, ⟨_, rfl, .d rfl⟩, ⟨_, rfl, .d rfl⟩, ⟨_, rfl, .d rfl⟩, ⟨_, rfl, .arr rfl rfl⟩, ⟨_, rfl, .arr rfl rfl⟩, ⟨_, rfl, .d rfl⟩, ⟨_, rfl, .d rfl⟩, trivial⟩ ⟨.own rfl (.of_eq rfl (oviewView_dat _)), .arr rfl rfl, .arr rfl rfl, trivial⟩ (dropK rfl))) ?_
          intro v211 x212 hb213 hx214
          refine cw_seq (cw_region (
            .cons (o_bin rfl rfl .no rfl rfl (b_lss _ _) rfl) <|
            .nil rfl
          ) ?_)
          refine cw_seq ?_
          rcases cond_some hb213 with ⟨hc215, h216⟩ | ⟨hc215, h217⟩
          · refine cw_condT rfl hc215 ?_
            refine cw_skip ?_
            refine cw_seq ?_
            refine cw_block ?_
            obtain ⟨x218, hx219, h220⟩ := bind_some h216
            have hx219g := gx_some hx219
            refine cw_seq (cw_region (
              .cons (o_ixAM (enc := eapiPair) (xs := x16.1) rfl rfl .no rfl rfl rfl sl35 sz47 hx219g.1 hx219g.2) <|
              .cons (o_ldEM (enc := eapiPair) (xs := x16.1) (r := x218) [] rfl rfl .no rfl rfl hx219g.2 rfl ta47 rfl rfl) <|
              .cons (o_alloc 5 rfl rfl .no ze47 rfl) <|
              .cons (o_st [] rfl .no rfl rfl rfl rfl rfl sz47 rfl rfl) <|
              .nil rfl
            ) ?_)
            obtain ⟨x221, hx222, h223⟩ := bind_some (x := key_Of x218.1) h220
            refine cw_seq (cw_region (
              .cons (o_fldP rfl rfl .no rfl fld47_0 (by decide)) <|
              .cons (o_ldP [0] rfl rfl .no rfl rfl rfl ta39 rfl rfl) <|
              .cons (o_call rfl rfl .no Tryz.func16 rfl rfl (key_Of_ok hx222) (.cons rfl .d .nil) ⟨trivial, trivial⟩ (.inl rfl)) <|
              .cons (o_mv rfl rfl .no rfl) <|
              .cons (o_ext rfl rfl .no rfl rfl) <|
              .cons (o_ext rfl rfl .no rfl rfl) <|
              .cons (o_alloc 6 rfl rfl .no ze43 rfl) <|
              .cons (o_st [] rfl .no rfl rfl rfl rfl rfl sz43 rfl rfl) <|
              .cons (o_as rfl rfl .no rfl) <|
              .nil rfl
            ) ?_)
            refine cw_seq ?_
            obtain ⟨o230, hj231, h232⟩ := bind_some h223
            refine cw_join (fun (z : Bool) => St.of [(2, .d (eint a2)), (3, .d (eint a3)), (10, .d (eint (IntKind.wrap .i64 (Int.tdiv a2 32)))), (11, .d (eint (IntKind.wrap .i64 (Int.tdiv (IntKind.wrap .i64 ((IntKind.wrap .i64 ((IntKind.wrap .i64 (a2 + a3)) + 32)) - 1)) 32)))), (18, .arr 4 0), (20, .ptr 5 0), (21, .ptr 6 0), (68, .arr 3 0), (69, .d (eint (x16.1.length : Int))), (70, .d (eint v211.1)), (93, .d (ebool z))] [(0, .own (oviewView x16.2.2)), (3, .arr 0 25 (x16.1.map eapiPair)), (4, .arr 0 1 (v211.2.map u8D)), (5, .box (.d (eapiPair x218))), (6, .box (.d (ekeyParts x221.1)))]) (fun (z : Bool) => o230 = z) ?_ ?_
            · intro v249 hv250; subst hv250
              rcases cond_some h232 with ⟨hc239, h240⟩ | ⟨hc239, h241⟩
              · refine cw_condT rfl hc239 ?_
                refine cw_seq (cw_region (
                  .cons (o_as rfl rfl .no rfl) <|
                  .cons (o_as rfl rfl .no rfl) <|
                  .nil rfl
                ) ?_)
                have he242 := ((hx214 _ (Option.some.inj h240).symm).symm).symm
                subst he242
                have heq := ((Option.some.inj h138).symm).symm
                subst heq
                exact cw_ret ⟨_, (show Leads _ _ (St.of [(8, .d (estring (ByteArray.mk #[]))), (9, .d (eapiErrno 12))] [(0, .own (oviewView x16.2.2))]) from .w (weak_of ⟨⟨_, rfl, .d rfl⟩, ⟨_, rfl, .d rfl⟩, trivial⟩ ⟨.own rfl (.of_eq rfl (oviewView_dat _)), trivial⟩ (dropK rfl))), .inr rfl, _, res2 rfl rfl rfl, rfl, rfl⟩
              · refine cw_condF rfl hc239 ?_
                refine cw_skip ?_
                obtain ⟨x243, hx244, h245⟩ := bind_some h241
                have hx244g := ck_dec hx244
                obtain ⟨x246, hx247, h248⟩ := bind_some (x := inode_Full x218.2) h245
                refine cw_region_any mixed (by kernel_rfl) (
                  .cons (o_mv rfl rfl .no rfl) <|
                  .cons (o_fldP rfl rfl .no rfl fld43_3 (by decide)) <|
                  .cons (o_ldP [3] rfl rfl .no rfl rfl rfl ta3 rfl rfl) <|
                  .cons (o_mv rfl rfl .no rfl) <|
                  .cons (o_bin rfl rfl .no rfl rfl (b_sub _ _) rfl) <|
                  .cons (o_bin rfl rfl .no rfl rfl (b_mul _ _) rfl) <|
                  .cons (o_tailM (enc := u8D) (xs := v211.2) rfl rfl .no rfl rfl rfl sl26 sz5 hx244g.1 hx244g.2) <|
                  .cons (o_fldP rfl rfl .no rfl fld47_1 (by decide)) <|
                  .cons (o_ldP [1] rfl rfl .no rfl rfl rfl ta9 rfl rfl) <|
                  .cons (o_call rfl rfl .no Tryz.func34 rfl rfl (inode_Full_ok hx247) (.cons rfl .d .nil) ⟨trivial, trivial⟩ (.inl rfl)) <|
                  .cons (o_cpA (xs := v211.2) rfl rfl .no rfl rfl rfl sl26 sz5 hx244g.2) <|
                  .nil rfl
                ) (by kernel_rfl) ?_
                refine cw_region (
                  .cons (o_bin rfl rfl .no rfl rfl (b_add _ _) rfl) <|
                  .cons (o_mv rfl rfl .no rfl) <|
                  .nil rfl
                ) ?_
                exact ⟨((IntKind.wrap .i64 (v211.1 + 1)), (List.take (IntKind.wrap .i64 (32 * (IntKind.wrap .i64 (x221.1.2.2.2 - (IntKind.wrap .i64 (Int.tdiv a2 32)))))).toNat v211.2 ++ cpB (List.drop (IntKind.wrap .i64 (32 * (IntKind.wrap .i64 (x221.1.2.2.2 - (IntKind.wrap .i64 (Int.tdiv a2 32)))))).toNat v211.2) x246.data.toList)), (Option.some.inj h248).symm, .w (weak_of ⟨⟨_, rfl, .d rfl⟩, ⟨_, rfl, .d rfl⟩, ⟨_, rfl, .d rfl⟩, ⟨_, rfl, .d rfl⟩, ⟨_, rfl, .arr rfl rfl⟩, ⟨_, rfl, .arr rfl rfl⟩, ⟨_, rfl, .d rfl⟩, ⟨_, rfl, .d rfl⟩, trivial⟩ ⟨.own rfl (.of_eq rfl (oviewView_dat _)), .arr rfl rfl, .arr rfl rfl, trivial⟩ (dropK rfl))⟩
            · skip
              rcases cond_some hj231 with ⟨hc233, h234⟩ | ⟨hc233, h235⟩
              · skip
                refine cw_region (
                  .cons (o_mv rfl rfl .no rfl) <|
                  .cons (o_not rfl rfl .no rfl) <|
                  .cons (o_mv rfl rfl .no rfl) <|
                  .cons (o_noT rfl rfl rfl rfl hc233) <|
                  .cons (o_noT rfl rfl rfl rfl hc233) <|
                  .cons (o_noT rfl rfl rfl rfl hc233) <|
                  .cons (o_noT rfl rfl rfl rfl hc233) <|
                  .cons (o_pickT rfl rfl .no rfl hc233 rfl) <|
                  .cons (o_mv rfl rfl .no rfl) <|
                  .cons (o_noT rfl rfl rfl rfl rfl) <|
                  .cons (o_noT rfl rfl rfl rfl rfl) <|
                  .cons (o_noT rfl rfl rfl rfl rfl) <|
                  .cons (o_noT rfl rfl rfl rfl rfl) <|
                  .cons (o_pickT rfl rfl .no rfl rfl rfl) <|
                  .nil rfl
                ) ?_
                exact ⟨true, (Option.some.inj h234).symm, .w (weak_of ⟨⟨_, rfl, .d rfl⟩, ⟨_, rfl, .d rfl⟩, ⟨_, rfl, .d rfl⟩, ⟨_, rfl, .d rfl⟩, ⟨_, rfl, .arr rfl rfl⟩, ⟨_, rfl, .ptr rfl rfl⟩, ⟨_, rfl, .ptr rfl rfl⟩, ⟨_, rfl, .arr rfl rfl⟩, ⟨_, rfl, .d rfl⟩, ⟨_, rfl, .d rfl⟩, ⟨_, rfl, .d rfl⟩, trivial⟩ ⟨.own rfl (.of_eq rfl (oviewView_dat _)), .arr rfl rfl, .arr rfl rfl, .box rfl (.d rfl), .box rfl (.d rfl), trivial⟩ (dropK rfl))⟩
              · skip
                rcases cond_some h235 with ⟨hc236, h237⟩ | ⟨hc236, h238⟩
                · skip
                  refine cw_region (
                    .cons (o_mv rfl rfl .no rfl) <|
                    .cons (o_not rfl rfl .no rfl) <|
                    .cons (o_mv rfl rfl .no rfl) <|
                    .cons (o_fldP rfl rfl (.yes rfl rfl hc233) rfl fld43_3 (by decide)) <|
                    .cons (o_ldP [3] rfl rfl (.yes rfl rfl hc233) rfl rfl rfl ta3 rfl rfl) <|
                    .cons (o_mv rfl rfl (.yes rfl rfl hc233) rfl) <|
                    .cons (o_bin rfl rfl (.yes rfl rfl hc233) rfl rfl (b_lss _ _) rfl) <|
                    .cons (o_pickF rfl rfl .no rfl hc233 rfl) <|
                    .cons (o_mv rfl rfl .no rfl) <|
                    .cons (o_noT rfl rfl rfl rfl hc236) <|
                    .cons (o_noT rfl rfl rfl rfl hc236) <|
                    .cons (o_noT rfl rfl rfl rfl hc236) <|
                    .cons (o_noT rfl rfl rfl rfl hc236) <|
                    .cons (o_pickT rfl rfl .no rfl hc236 rfl) <|
                    .nil rfl
                  ) ?_
                  exact ⟨true, (Option.some.inj h237).symm, .w (weak_of ⟨⟨_, rfl, .d rfl⟩, ⟨_, rfl, .d rfl⟩, ⟨_, rfl, .d rfl⟩, ⟨_, rfl, .d rfl⟩, ⟨_, rfl, .arr rfl rfl⟩, ⟨_, rfl, .ptr rfl rfl⟩, ⟨_, rfl, .ptr rfl rfl⟩, ⟨_, rfl, .arr rfl rfl⟩, ⟨_, rfl, .d rfl⟩, ⟨_, rfl, .d rfl⟩, ⟨_, rfl, .d rfl⟩, trivial⟩ ⟨.own rfl (.of_eq rfl (oviewView_dat _)), .arr rfl rfl, .arr rfl rfl, .box rfl (.d rfl), .box rfl (.d rfl), trivial⟩ (dropK rfl))⟩
                · skip
                  refine cw_region (
                    .cons (o_mv rfl rfl .no rfl) <|
                    .cons (o_not rfl rfl .no rfl) <|
                    .cons (o_mv rfl rfl .no rfl) <|
                    .cons (o_fldP rfl rfl (.yes rfl rfl hc233) rfl fld43_3 (by decide)) <|
                    .cons (o_ldP [3] rfl rfl (.yes rfl rfl hc233) rfl rfl rfl ta3 rfl rfl) <|
                    .cons (o_mv rfl rfl (.yes rfl rfl hc233) rfl) <|
                    .cons (o_bin rfl rfl (.yes rfl rfl hc233) rfl rfl (b_lss _ _) rfl) <|
                    .cons (o_pickF rfl rfl .no rfl hc233 rfl) <|
                    .cons (o_mv rfl rfl .no rfl) <|
                    .cons (o_fldP rfl rfl (.yes rfl rfl hc236) rfl fld43_3 (by decide)) <|
                    .cons (o_ldP [3] rfl rfl (.yes rfl rfl hc236) rfl rfl rfl ta3 rfl rfl) <|
                    .cons (o_mv rfl rfl (.yes rfl rfl hc236) rfl) <|
                    .cons (o_bin rfl rfl (.yes rfl rfl hc236) rfl rfl (b_geq _ _) rfl) <|
                    .cons (o_pickF rfl rfl .no rfl hc236 rfl) <|
                    .nil rfl
                  ) ?_
                  exact ⟨(decide (x221.1.2.2.2 ≥ (IntKind.wrap .i64 (Int.tdiv (IntKind.wrap .i64 ((IntKind.wrap .i64 ((IntKind.wrap .i64 (a2 + a3)) + 32)) - 1)) 32)))), (Option.some.inj h238).symm, .w (weak_of ⟨⟨_, rfl, .d rfl⟩, ⟨_, rfl, .d rfl⟩, ⟨_, rfl, .d rfl⟩, ⟨_, rfl, .d rfl⟩, ⟨_, rfl, .arr rfl rfl⟩, ⟨_, rfl, .ptr rfl rfl⟩, ⟨_, rfl, .ptr rfl rfl⟩, ⟨_, rfl, .arr rfl rfl⟩, ⟨_, rfl, .d rfl⟩, ⟨_, rfl, .d rfl⟩, ⟨_, rfl, .d rfl⟩, trivial⟩ ⟨.own rfl (.of_eq rfl (oviewView_dat _)), .arr rfl rfl, .arr rfl rfl, .box rfl (.d rfl), .box rfl (.d rfl), trivial⟩ (dropK rfl))⟩
          · refine cw_condF rfl hc215 ?_
            refine cw_exit ?_
            exact ⟨v211.2, (hx214 _ (Option.some.inj h217).symm).symm, .w (weak_of ⟨⟨_, rfl, .d rfl⟩, ⟨_, rfl, .d rfl⟩, ⟨_, rfl, .d rfl⟩, ⟨_, rfl, .arr rfl rfl⟩, trivial⟩ ⟨.own rfl (.of_eq rfl (oviewView_dat _)), .arr rfl rfl, trivial⟩ (dropK rfl))⟩

set_option maxRecDepth 100000 in
theorem chunk_Cut_ok {a0 : VwT} {a1 : Int} {a2 : Int} {r : (Int × VwT)} (h : chunk_Cut a0 a1 a2 = some r) : FnOk Tryz.prog 12 [.ptr 0 0, .d (eint a1), .d (eint a2)] 1 (lk [(0, .own (oviewView a0))]) (fun rr oo => rr = .d (eapiErrno r.1) ∧ oo = lk [(0, .own (oviewView r.2))]) := by
  refine fnOk_of Tryz.func12 rfl rfl (cw_post ?_)
  unfold chunk_Cut at h
  refine cw_seq (cw_region (
    .cons (o_as rfl rfl .no rfl) <|
    .nil rfl
  ) ?_)
  refine cw_seq ?_
  obtain ⟨x1, hx2, h3⟩ := bind_some (x := chunk_may a1 0 a2) h
  refine cw_seq (cw_region (
    .cons (o_mv rfl rfl .no rfl) <|
    .cons (o_mv rfl rfl .no rfl) <|
    .cons (o_call rfl rfl .no Tryz.func28 rfl rfl (chunk_may_ok hx2) (.cons rfl .d (.cons rfl .d (.cons rfl .d .nil))) ⟨trivial, trivial, trivial, trivial⟩ (.inl rfl)) <|
    .cons (o_not rfl rfl .no rfl) <|
    .nil rfl
  ) ?_)
  rcases cond_some h3 with ⟨hc4, h5⟩ | ⟨hc4, h6⟩
  · refine cw_condT rfl hc4 ?_
    refine cw_seq (cw_region (
      .cons (o_as rfl rfl .no rfl) <|
      .nil rfl
    ) ?_)
    have heq := ((Option.some.inj h5).symm).symm
    subst heq
    exact cw_ret ⟨_, (show Leads _ _ (St.of [(6, .d (eapiErrno 1))] [(0, .own (oviewView a0))]) from .w (weak_of ⟨⟨_, rfl, .d rfl⟩, trivial⟩ ⟨.own rfl (.of_eq rfl (oviewView_dat _)), trivial⟩ (dropK rfl))), .inr rfl, _, res1 rfl rfl, rfl, rfl⟩
  · refine cw_condF rfl hc4 ?_
    refine cw_skip ?_
    refine cw_seq (cw_region (
      .cons (o_mv rfl rfl .no rfl) <|
      .cons (o_bin rfl rfl .no rfl rfl (b_quo _ _ (by decide)) rfl) <|
      .cons (o_as rfl rfl .no rfl) <|
      .nil rfl
    ) ?_)
    obtain ⟨x7, hx8, h9⟩ := bind_some (x := key_Chunks a1 (IntKind.wrap .i64 (Int.tdiv a2 32))) h6
    obtain ⟨x10, hx11, h12⟩ := bind_some (x := view_View_Scan a0 x7) h9
    refine cw_seq (cw_region (
      .cons (o_mv rfl rfl .no rfl) <|
      .cons (o_mv rfl rfl .no rfl) <|
      .cons (o_mv rfl rfl .no rfl) <|
      .cons (o_call rfl rfl .no Tryz.func29 rfl rfl (key_Chunks_ok hx8) (.cons rfl .d (.cons rfl .d .nil)) ⟨trivial, trivial, trivial⟩ (.inl rfl)) <|
      .cons (o_callX (fun n => bif Nat.beq n 0 then 0 else 1) rfl rfl .no Tryz.func15 rfl rfl (view_View_Scan_ok hx11) (.cons rfl (.p rfl) (.cons rfl .d .nil)) (callIn1N rfl ⟨(by simp [AV.live, lk, Nat.beq]), trivial, trivial⟩ (by decide) rfl (OD.dat_live (oviewView_dat _)) rfl (by simp)) (.inl rfl)) <|
      .cons (o_mv rfl rfl .no rfl) <|
      .cons (o_ext rfl rfl .no rfl rfl) <|
      .cons (o_ext rfl rfl .no rfl rfl) <|
      .cons (o_as rfl rfl .no rfl) <|
      .cons (o_as rfl rfl .no rfl) <|
      .nil rfl
    ) ?_)
    refine cw_seq ?_
    refine cw_seq (cw_region (
      .cons (o_mv rfl rfl .no rfl) <|
      .cons (o_bin rfl rfl .no rfl rfl (b_neq _ _) rfl) <|
      .nil rfl
    ) ?_)
    rcases cond_some h12 with ⟨hc13, h14⟩ | ⟨hc13, h15⟩
    · refine cw_condT rfl hc13 ?_
      refine cw_seq (cw_region (
        .cons (o_mv rfl rfl .no rfl) <|
        .cons (o_as rfl rfl .no rfl) <|
        .nil rfl
      ) ?_)
      have heq := ((Option.some.inj h14).symm).symm
      subst heq
      exact cw_ret ⟨_, (show Leads _ _ (St.of [(6, .d (eapiErrno x10.2.1))] [(0, .own (oviewView x10.2.2))]) from .w (weak_of ⟨⟨_, rfl, .d rfl⟩, trivial⟩ ⟨.own rfl (.of_eq rfl (oviewView_dat _)), trivial⟩ (dropK rfl))), .inr rfl, _, res1 rfl rfl, rfl, rfl⟩
    · refine cw_condF rfl hc13 ?_
      refine cw_skip ?_
      obtain ⟨o268, hj269, h270⟩ := bind_some h15
      refine cw_join (fun (z : VwT) => St.of [] [(0, .own (oviewView z))]) (fun (z : VwT) => o268 = (.inl z)) ?_ ?_
      · intro v525 hv527; subst hv527
        simp only [Sum.elim_inl] at h270
        refine cw_seq (cw_region (
          .cons (o_as rfl rfl .no rfl) <|
          .nil rfl
        ) ?_)
        have heq := ((Option.some.inj h270).symm).symm
        subst heq
        exact cw_ret ⟨_, (show Leads _ _ (St.of [(6, .d (eapiErrno 0))] [(0, .own (oviewView v525))]) from .w (weak_of ⟨⟨_, rfl, .d rfl⟩, trivial⟩ ⟨.own rfl (.of_eq rfl (oviewView_dat _)), trivial⟩ (dropK rfl))), .inr rfl, _, res1 rfl rfl, rfl, rfl⟩
      · skip
        refine cw_seq (cw_region (
          .cons (o_mv rfl rfl .no rfl) <|
          .cons (o_lenAM (enc := eapiPair) (xs := x10.1) rfl rfl .no rfl rfl sl35) <|
          .cons (o_mv rfl rfl .no rfl) <|
          .nil rfl
        ) ?_)
        refine cw_block ?_
        refine cw_while (V := (Int × VwT)) (O := (VwT ⊕ (Int × VwT))) (fun (z : (Int × VwT)) => St.of [(0, .ptr 0 0), (1, .d (eint a1)), (2, .d (eint a2)), (7, .d (eint (IntKind.wrap .i64 (Int.tdiv a2 32)))), (34, .arr 1 0), (35, .d (eint (x10.1.length : Int))), (36, .d (eint z.1))] [(0, .own (oviewView z.2)), (1, .arr 0 25 (x10.1.map eapiPair))]) hj269 (.w (weak_of ⟨⟨_, rfl, .ptro rfl rfl⟩, ⟨_, rfl, .d rfl⟩, ⟨_, rfl, .d rfl⟩, ⟨_, rfl, .d rfl⟩, ⟨_, rfl, .arr rfl rfl⟩, ⟨_, rfl, .d rfl⟩, ⟨_, rfl, .d rfl⟩, trivial⟩ ⟨.own rfl (.of_eq rfl (oviewView_dat _)), .arr rfl rfl, trivial⟩ (dropK rfl))) ?_
        intro v437 x438 hb439 hx440
        refine cw_seq (cw_region (
          .cons (o_bin rfl rfl .no rfl rfl (b_lss _ _) rfl) <|
          .nil rfl
        ) ?_)
        refine cw_seq ?_
        rcases cond_some hb439 with ⟨hc441, h442⟩ | ⟨hc441, h443⟩
        · refine cw_condT rfl hc441 ?_
          refine cw_skip ?_
          obtain ⟨o479, hj480, h481⟩ := bind_some h442
          refine cw_join (fun (z : VwT) => St.of [(0, .ptr 0 0), (1, .d (eint a1)), (2, .d (eint a2)), (7, .d (eint (IntKind.wrap .i64 (Int.tdiv a2 32)))), (34, .arr 1 0), (35, .d (eint (x10.1.length : Int))), (36, .d (eint v437.1))] [(0, .own (oviewView z)), (1, .arr 0 25 (x10.1.map eapiPair))]) (fun (z : VwT) => o479 = (.inl z)) ?_ ?_
          · intro v521 hv523; subst hv523
            simp only [Sum.elim_inl] at h481
            refine cw_region (
              .cons (o_bin rfl rfl .no rfl rfl (b_add _ _) rfl) <|
              .cons (o_mv rfl rfl .no rfl) <|
              .nil rfl
            ) ?_
            exact ⟨((IntKind.wrap .i64 (v437.1 + 1)), v521), (Option.some.inj h481).symm, .w (weak_of ⟨⟨_, rfl, .ptro rfl rfl⟩, ⟨_, rfl, .d rfl⟩, ⟨_, rfl, .d rfl⟩, ⟨_, rfl, .d rfl⟩, ⟨_, rfl, .arr rfl rfl⟩, ⟨_, rfl, .d rfl⟩, ⟨_, rfl, .d rfl⟩, trivial⟩ ⟨.own rfl (.of_eq rfl (oviewView_dat _)), .arr rfl rfl, trivial⟩ (dropK rfl))⟩
          · skip
            refine cw_block ?_
            obtain ⟨x482, hx483, h484⟩ := bind_some hj480
            have hx483g := gx_some hx483
            refine cw_seq (cw_region (
              .cons (o_ixAM (enc := eapiPair) (xs := x10.1) rfl rfl .no rfl rfl rfl sl35 sz47 hx483g.1 hx483g.2) <|
              .cons (o_ldEM (enc := eapiPair) (xs := x10.1) (r := x482) [] rfl rfl .no rfl rfl hx483g.2 rfl ta47 rfl rfl) <|
              .cons (o_alloc 2 rfl rfl .no ze47 rfl) <|
              .cons (o_st [] rfl .no rfl rfl rfl rfl rfl sz47 rfl rfl) <|
              .nil rfl
            ) ?_)
            obtain ⟨x485, hx486, h487⟩ := bind_some (x := key_Of x482.1) h484
            refine cw_seq (cw_region (
              .cons (o_fldP rfl rfl .no rfl fld47_0 (by decide)) <|
              .cons (o_ldP [0] rfl rfl .no rfl rfl rfl ta39 rfl rfl) <|
              .cons (o_call rfl rfl .no Tryz.func16 rfl rfl (key_Of_ok hx486) (.cons rfl .d .nil) ⟨trivial, trivial⟩ (.inl rfl)) <|
              .cons (o_mv rfl rfl .no rfl) <|
              .cons (o_ext rfl rfl .no rfl rfl) <|
              .cons (o_ext rfl rfl .no rfl rfl) <|
              .cons (o_alloc 3 rfl rfl .no ze43 rfl) <|
              .cons (o_st [] rfl .no rfl rfl rfl rfl rfl sz43 rfl rfl) <|
              .cons (o_as rfl rfl .no rfl) <|
              .nil rfl
            ) ?_)
            refine cw_seq ?_
            refine cw_seq (cw_region (
              .cons (o_mv rfl rfl .no rfl) <|
              .cons (o_not rfl rfl .no rfl) <|
              .nil rfl
            ) ?_)
            rcases cond_some h487 with ⟨hc488, h489⟩ | ⟨hc488, h490⟩
            · refine cw_condT rfl hc488 ?_
              refine cw_seq (cw_region (
                .cons (o_as rfl rfl .no rfl) <|
                .nil rfl
              ) ?_)
              have he491 := ((Option.some.inj h489).symm).symm
              subst he491
              have he492 := ((hx440 _ (Option.some.inj h481).symm).symm).symm
              subst he492
              have heq := ((Option.some.inj h270).symm).symm
              subst heq
              exact cw_ret ⟨_, (show Leads _ _ (St.of [(6, .d (eapiErrno 12))] [(0, .own (oviewView v437.2))]) from .w (weak_of ⟨⟨_, rfl, .d rfl⟩, trivial⟩ ⟨.own rfl (.of_eq rfl (oviewView_dat _)), trivial⟩ (dropK rfl))), .inr rfl, _, res1 rfl rfl, rfl, rfl⟩
            · refine cw_condF rfl hc488 ?_
              refine cw_skip ?_
              refine cw_seq (cw_region (
                .cons (o_as rfl rfl .no rfl) <|
                .nil rfl
              ) ?_)
              obtain ⟨o496, hj497, h498⟩ := bind_some h490
              refine cw_join (fun (z : Int) => St.of [(0, .ptr 0 0), (1, .d (eint a1)), (2, .d (eint a2)), (7, .d (eint (IntKind.wrap .i64 (Int.tdiv a2 32)))), (11, .ptr 2 0), (12, .ptr 3 0), (14, .d (eint z)), (34, .arr 1 0), (35, .d (eint (x10.1.length : Int))), (36, .d (eint v437.1))] [(0, .own (oviewView v437.2)), (1, .arr 0 25 (x10.1.map eapiPair)), (2, .box (.d (eapiPair x482))), (3, .box (.d (ekeyParts x485.1)))]) (fun (z : Int) => o496 = z) ?_ ?_
              · intro v519 hv520; subst hv520
                obtain ⟨x502, hx503, h504⟩ := bind_some h498
                have hx503g := cutB_some hx503
                obtain ⟨x505, hx506, h507⟩ := bind_some (x := inode_Trim (x482.2.extract 0 (min (x482.2.size : Int) o496).toNat)) h504
                refine cw_seq (cw_region (
                  .cons (o_fldP rfl rfl .no rfl fld47_1 (by decide)) <|
                  .cons (o_ldP [1] rfl rfl .no rfl rfl rfl ta9 rfl rfl) <|
                  .cons (o_fldP rfl rfl .no rfl fld47_1 (by decide)) <|
                  .cons (o_ldP [1] rfl rfl .no rfl rfl rfl ta9 rfl rfl) <|
                  .cons (o_lenS rfl rfl .no rfl un9) <|
                  .cons (o_mv rfl rfl .no rfl) <|
                  .cons (o_min rfl rfl .no rfl rfl) <|
                  .cons (o_slS rfl rfl .no rfl un9 .no (.val rfl hx503g.2.1) hx503g.2.2.1 hx503g.2.2.2) <|
                  .cons (o_call rfl rfl .no Tryz.func30 rfl rfl (inode_Trim_ok hx506) (.cons rfl .d .nil) ⟨trivial, trivial⟩ (.inl rfl)) <|
                  .cons (o_as rfl rfl .no rfl) <|
                  .nil rfl
                ) ?_)
                refine cw_seq ?_
                refine cw_seq (cw_region (
                  .cons (o_mv rfl rfl .no rfl) <|
                  .cons (o_fldP rfl rfl .no rfl fld47_1 (by decide)) <|
                  .cons (o_ldP [1] rfl rfl .no rfl rfl rfl ta9 rfl rfl) <|
                  .cons (o_bin rfl rfl .no rfl rfl (s_eql _ _) rfl) <|
                  .nil rfl
                ) ?_)
                rcases cond_some h507 with ⟨hc508, h509⟩ | ⟨hc508, h510⟩
                · refine cw_condT rfl hc508 ?_
                  refine cw_exit ?_
                  exact ⟨v437.2, (Option.some.inj h509).symm, .w (weak_of ⟨⟨_, rfl, .ptro rfl rfl⟩, ⟨_, rfl, .d rfl⟩, ⟨_, rfl, .d rfl⟩, ⟨_, rfl, .d rfl⟩, ⟨_, rfl, .arr rfl rfl⟩, ⟨_, rfl, .d rfl⟩, ⟨_, rfl, .d rfl⟩, trivial⟩ ⟨.own rfl (.of_eq rfl (oviewView_dat _)), .arr rfl rfl, trivial⟩ (dropK rfl))⟩
                · refine cw_condF rfl hc508 ?_
                  refine cw_skip ?_
                  obtain ⟨x511, hx512, h513⟩ := bind_some (x := chunk_lay v437.2 a1 x485.1.2.2.2 x505) h510
                  refine cw_seq (cw_region (
                    .cons (o_mv rfl rfl .no rfl) <|
                    .cons (o_mv rfl rfl .no rfl) <|
                    .cons (o_fldP rfl rfl .no rfl fld43_3 (by decide)) <|
                    .cons (o_ldP [3] rfl rfl .no rfl rfl rfl ta3 rfl rfl) <|
                    .cons (o_mv rfl rfl .no rfl) <|
                    .cons (o_callX (fun _ => 0) rfl rfl .no Tryz.func31 rfl rfl (chunk_lay_ok hx512) (.cons rfl (.p rfl) (.cons rfl .d (.cons rfl .d (.cons rfl .d .nil)))) (callIn1 rfl ⟨(by simp [AV.live, lk, Nat.beq]), trivial, trivial, trivial, trivial⟩ rfl (OD.dat_live (oviewView_dat _)) (by simp)) (.inl rfl)) <|
                    .cons (o_as rfl rfl .no rfl) <|
                    .nil rfl
                  ) ?_)
                  refine cw_seq (cw_region (
                    .cons (o_mv rfl rfl .no rfl) <|
                    .cons (o_bin rfl rfl .no rfl rfl (b_neq _ _) rfl) <|
                    .nil rfl
                  ) ?_)
                  rcases cond_some h513 with ⟨hc514, h515⟩ | ⟨hc514, h516⟩
                  · refine cw_condT rfl hc514 ?_
                    refine cw_seq (cw_region (
                      .cons (o_mv rfl rfl .no rfl) <|
                      .cons (o_as rfl rfl .no rfl) <|
                      .nil rfl
                    ) ?_)
                    have he517 := ((Option.some.inj h515).symm).symm
                    subst he517
                    have he518 := ((hx440 _ (Option.some.inj h481).symm).symm).symm
                    subst he518
                    have heq := ((Option.some.inj h270).symm).symm
                    subst heq
                    exact cw_ret ⟨_, (show Leads _ _ (St.of [(6, .d (eapiErrno x511.1))] [(0, .own (oviewView x511.2))]) from .w (weak_of ⟨⟨_, rfl, .d rfl⟩, trivial⟩ ⟨.own rfl (.of_eq rfl (oviewView_dat _)), trivial⟩ (dropK rfl))), .inr rfl, _, res1 rfl rfl, rfl, rfl⟩
                  · refine cw_condF rfl hc514 ?_
                    refine cw_skip ?_
                    exact ⟨x511.2, (Option.some.inj h516).symm, .w (weak_of ⟨⟨_, rfl, .ptro rfl rfl⟩, ⟨_, rfl, .d rfl⟩, ⟨_, rfl, .d rfl⟩, ⟨_, rfl, .d rfl⟩, ⟨_, rfl, .arr rfl rfl⟩, ⟨_, rfl, .d rfl⟩, ⟨_, rfl, .d rfl⟩, trivial⟩ ⟨.own rfl (.of_eq rfl (oviewView_dat _)), .arr rfl rfl, trivial⟩ (dropK rfl))⟩
              · skip
                refine cw_seq (cw_region (
                  .cons (o_fldP rfl rfl .no rfl fld43_3 (by decide)) <|
                  .cons (o_ldP [3] rfl rfl .no rfl rfl rfl ta3 rfl rfl) <|
                  .cons (o_mv rfl rfl .no rfl) <|
                  .cons (o_bin rfl rfl .no rfl rfl (b_eql _ _) rfl) <|
                  .nil rfl
                ) ?_)
                rcases cond_some hj497 with ⟨hc499, h500⟩ | ⟨hc499, h501⟩
                · refine cw_condT rfl hc499 ?_
                  refine cw_region (
                    .cons (o_mv rfl rfl .no rfl) <|
                    .cons (o_bin rfl rfl .no rfl rfl (b_rem _ _ (by decide)) rfl) <|
                    .cons (o_as rfl rfl .no rfl) <|
                    .nil rfl
                  ) ?_
                  exact ⟨(Int.tmod a2 32), (Option.some.inj h500).symm, .w (weak_of ⟨⟨_, rfl, .ptro rfl rfl⟩, ⟨_, rfl, .d rfl⟩, ⟨_, rfl, .d rfl⟩, ⟨_, rfl, .d rfl⟩, ⟨_, rfl, .ptr rfl rfl⟩, ⟨_, rfl, .ptr rfl rfl⟩, ⟨_, rfl, .d rfl⟩, ⟨_, rfl, .arr rfl rfl⟩, ⟨_, rfl, .d rfl⟩, ⟨_, rfl, .d rfl⟩, trivial⟩ ⟨.own rfl (.of_eq rfl (oviewView_dat _)), .arr rfl rfl, .box rfl (.d rfl), .box rfl (.d rfl), trivial⟩ (dropK rfl))⟩
                · refine cw_condF rfl hc499 ?_
                  refine cw_skip ?_
                  exact ⟨0, (Option.some.inj h501).symm, .w (weak_of ⟨⟨_, rfl, .ptro rfl rfl⟩, ⟨_, rfl, .d rfl⟩, ⟨_, rfl, .d rfl⟩, ⟨_, rfl, .d rfl⟩, ⟨_, rfl, .ptr rfl rfl⟩, ⟨_, rfl, .ptr rfl rfl⟩, ⟨_, rfl, .d rfl⟩, ⟨_, rfl, .arr rfl rfl⟩, ⟨_, rfl, .d rfl⟩, ⟨_, rfl, .d rfl⟩, trivial⟩ ⟨.own rfl (.of_eq rfl (oviewView_dat _)), .arr rfl rfl, .box rfl (.d rfl), .box rfl (.d rfl), trivial⟩ (dropK rfl))⟩
        · refine cw_condF rfl hc441 ?_
          refine cw_exit ?_
          exact ⟨v437.2, (hx440 _ (Option.some.inj h443).symm).symm, .w (weak_of trivial ⟨.own rfl (.of_eq rfl (oviewView_dat _)), trivial⟩ (dropK rfl))⟩

end
end Go.Val

