/- Walks of the program's functions, printed. -/
import Derived.Test.YthipaajmgfnagaaGreatDoorWj
set_option linter.unusedSectionVars false
set_option linter.unusedVariables false
set_option linter.unusedSimpArgs false
namespace Go.Val
open Go.RowKit Go.Proofs

section
variable [NoDrw]

noncomputable def law13_ChunkReads (a0 : Int) (a1 : Int) (a2 : Int) (a3 : ByteArray) : Option Bool :=
 (law13_shown).bind fun x1 =>
 (view_New_n).bind fun x4 =>
 (((
  cond (!x1) (
   some true
  ) (
   some false
  )
 ) : Option Bool)).bind fun o10 =>
 cond o10 (
  some false
 ) (
  (chunk_Read x4 5 (bitsAnd .i64 a0 65535) (IntKind.wrap .i64 (1 + (bitsAnd .i64 a1 1023)))).bind fun x19 =>
  (((
   whileO (V := (Int × VwT)) (O := (Unit ⊕ Bool)) (fun v193 =>
    cond (decide (v193.1 < 2100)) (
     (key_Chunk 5 v193.1).bind fun x200 =>
     (view_View_Reads v193.2).bind fun x203 =>
     (ref08_Has x203.1 x200.1).bind fun x206 =>
     (((
      cond (!x200.2) (
       some true
      ) (
       cond (decide ((IntKind.wrap .i64 ((IntKind.wrap .i64 (32 * v193.1)) + 31)) ≥ (bitsAnd .i64 a0 65535))) (
        some (!(x206 == (decide ((IntKind.wrap .i64 (32 * v193.1)) < (IntKind.wrap .i64 ((bitsAnd .i64 a0 65535) + (IntKind.wrap .i64 (1 + (bitsAnd .i64 a1 1023)))))))))
       ) (
        some (!(x206 == false))
       )
      )
     ) : Option Bool)).bind fun o215 =>
     cond o215 (
      some (.inr (.inr false))
     ) (
      some (.inl ((IntKind.wrap .i64 (v193.1 + 1)), x203.2))
     )
    ) (
     some (.inr (.inl ()))
    )
   ) (0, x19.2.2)
  ) : Option (Unit ⊕ Bool))).bind fun o124 =>
  Sum.elim (fun (v230 : Unit) =>
   (cutB 0 (min (a3.size : Int) 320) a3.size).bind fun _ =>
   (ck (decide (0 ≤ (Int.tmod (IntKind.wrap .i64 (32 - (Int.tmod ((a3.extract 0 (min (a3.size : Int) 320).toNat).size : Int) 32))) 32) ∧ (Int.tmod (IntKind.wrap .i64 (32 - (Int.tmod ((a3.extract 0 (min (a3.size : Int) 320).toNat).size : Int) 32))) 32) ≤ 140737488355328))).bind fun _ =>
   (ck (decide ((a3.extract 0 (min (a3.size : Int) 320).toNat).size + (ByteArray.mk (List.replicate (Int.tmod (IntKind.wrap .i64 (32 - (Int.tmod ((a3.extract 0 (min (a3.size : Int) 320).toNat).size : Int) 32))) 32).toNat (0 : UInt8)).toArray).size ≤ 9223372036854775807))).bind fun _ =>
   (chunk_Write x4 5 (IntKind.wrap .i64 (32 * (bitsAnd .i64 a2 1023))) ((a3.extract 0 (min (a3.size : Int) 320).toNat) ++ (ByteArray.mk (List.replicate (Int.tmod (IntKind.wrap .i64 (32 - (Int.tmod ((a3.extract 0 (min (a3.size : Int) 320).toNat).size : Int) 32))) 32).toNat (0 : UInt8)).toArray))).bind fun x240 =>
   (((
    cond (decide (x19.2.1 = 0)) (
     cond (decide (x240.1 = 0)) (
      (view_View_Reads x240.2).bind fun x267 =>
      cond (decide ((x267.1.length : Int) = 0)) (
       (view_View_Changes x267.2).bind fun x273 =>
       some (decide ((x273.1.length : Int) = (IntKind.wrap .i64 (Int.tdiv (((a3.extract 0 (min (a3.size : Int) 320).toNat) ++ (ByteArray.mk (List.replicate (Int.tmod (IntKind.wrap .i64 (32 - (Int.tmod ((a3.extract 0 (min (a3.size : Int) 320).toNat).size : Int) 32))) 32).toNat (0 : UInt8)).toArray)).size : Int) 32))))
      ) (
       some false
      )
     ) (
      some false
     )
    ) (
     some false
    )
   ) : Option Bool)).bind fun o258 =>
   some o258
  ) (fun w280 =>
   some w280
  ) o124
 )

set_option maxRecDepth 100000 in
theorem law13_ChunkReads_ok {a0 : Int} {a1 : Int} {a2 : Int} {a3 : ByteArray} {r : Bool} (h : law13_ChunkReads a0 a1 a2 a3 = some r) : FnOk Tryz.prog 9 [.d (eint a0), .d (eint a1), .d (eint a2), .d (estring a3)] 0 (lk []) (fun rr oo => rr = .d (ebool r) ∧ oo = lk []) := by
  refine fnOk_of Tryz.func9 rfl rfl (cw_post ?_)
  unfold law13_ChunkReads at h
  refine cw_seq (cw_region (
    .cons (o_as rfl rfl .no rfl) <|
    .nil rfl
  ) ?_)
  obtain ⟨x1, hx2, h3⟩ := bind_some (x := law13_shown) h
  refine cw_seq (cw_region (
    .cons (o_call rfl rfl .no Tryz.func10 rfl rfl (law13_shown_ok hx2) .nil trivial (.inl rfl)) <|
    .cons (o_as rfl rfl .no rfl) <|
    .nil rfl
  ) ?_)
  obtain ⟨x4, hx5, h6⟩ := bind_some (x := view_New_n) h3
  refine cw_seq (cw_region (
    .cons (o_callO 0 rfl rfl .no Tryz.func11 rfl rfl (view_New_n_ok hx5) (.cons rfl .d .nil) ⟨trivial, trivial⟩ rfl (.inl rfl)) <|
    .cons (o_as rfl rfl .no rfl) <|
    .nil rfl
  ) ?_)
  refine cw_seq (cw_region (
    .cons (o_callO 1 rfl rfl .no Tryz.func11 rfl rfl (view_New_n_ok hx5) (.cons rfl .d .nil) ⟨trivial, trivial⟩ rfl (.inl rfl)) <|
    .cons (o_as rfl rfl .no rfl) <|
    .nil rfl
  ) ?_)
  refine cw_seq ?_
  obtain ⟨o10, hj11, h12⟩ := bind_some h6
  refine cw_join (fun (z : Bool) => St.of [(0, .d (eint a0)), (1, .d (eint a1)), (2, .d (eint a2)), (3, .d (estring a3)), (10, .ptr 0 0), (11, .ptr 1 0), (32, .d (ebool z))] [(0, .own (oviewView x4)), (1, .own (oviewView x4))]) (fun (z : Bool) => o10 = z) ?_ ?_
  · intro v281 hv282; subst hv282
    rcases cond_some h12 with ⟨hc16, h17⟩ | ⟨hc16, h18⟩
    · refine cw_condT rfl hc16 ?_
      refine cw_seq (cw_region (
        .cons (o_as rfl rfl .no rfl) <|
        .nil rfl
      ) ?_)
      have heq := ((Option.some.inj h17).symm).symm
      subst heq
      exact cw_ret ⟨_, (show Leads _ _ (St.of [(8, .d (ebool false))] []) from .w (weak_of ⟨⟨_, rfl, .d rfl⟩, trivial⟩ trivial drop0)), .inr rfl, _, res1 rfl rfl, rfl, rfl⟩
    · refine cw_condF rfl hc16 ?_
      refine cw_skip ?_
      refine cw_seq (cw_region (
        .cons (o_mv rfl rfl .no rfl) <|
        .cons (o_bin rfl rfl .no rfl rfl (b_and _ _) rfl) <|
        .cons (o_as rfl rfl .no rfl) <|
        .nil rfl
      ) ?_)
      refine cw_seq (cw_region (
        .cons (o_mv rfl rfl .no rfl) <|
        .cons (o_bin rfl rfl .no rfl rfl (b_and _ _) rfl) <|
        .cons (o_bin rfl rfl .no rfl rfl (b_add _ _) rfl) <|
        .cons (o_as rfl rfl .no rfl) <|
        .nil rfl
      ) ?_)
      obtain ⟨x19, hx20, h21⟩ := bind_some (x := chunk_Read x4 5 (bitsAnd .i64 a0 65535) (IntKind.wrap .i64 (1 + (bitsAnd .i64 a1 1023)))) h18
      refine cw_seq (cw_region (
        .cons (o_mv rfl rfl .no rfl) <|
        .cons (o_mv rfl rfl .no rfl) <|
        .cons (o_mv rfl rfl .no rfl) <|
        .cons (o_callX (fun _ => 0) rfl rfl .no Tryz.func14 rfl rfl (chunk_Read_ok hx20) (.cons rfl (.p rfl) (.cons rfl .d (.cons rfl .d (.cons rfl .d .nil)))) (callIn1 rfl ⟨(by simp [AV.live, lk, Nat.beq]), trivial, trivial, trivial, trivial⟩ rfl (OD.dat_live (oviewView_dat _)) (by simp)) (.inl rfl)) <|
        .cons (o_mv rfl rfl .no rfl) <|
        .cons (o_ext rfl rfl .no rfl rfl) <|
        .cons (o_ext rfl rfl .no rfl rfl) <|
        .cons (o_as rfl rfl .no rfl) <|
        .cons (o_as rfl rfl .no rfl) <|
        .nil rfl
      ) ?_)
      obtain ⟨o124, hj125, h126⟩ := bind_some h21
      refine cw_join (fun (z : Unit) => St.of [(2, .d (eint a2)), (3, .d (estring a3)), (11, .ptr 1 0), (13, .d (eapiErrno x19.2.1))] [(1, .own (oviewView x4))]) (fun (z : Unit) => o124 = (.inl z)) ?_ ?_
      · intro v230 hv279; subst hv279
        simp only [Sum.elim_inl] at h126
        obtain ⟨x231, hx232, h233⟩ := bind_some h126
        have hx232g := cutB_some hx232
        refine cw_seq (cw_region (
          .cons (o_mv rfl rfl .no rfl) <|
          .cons (o_mv rfl rfl .no rfl) <|
          .cons (o_lenS rfl rfl .no rfl un9) <|
          .cons (o_min rfl rfl .no rfl rfl) <|
          .cons (o_slS rfl rfl .no rfl un9 .no (.val rfl hx232g.2.1) hx232g.2.2.1 hx232g.2.2.2) <|
          .cons (o_as rfl rfl .no rfl) <|
          .nil rfl
        ) ?_)
        obtain ⟨x234, hx235, h236⟩ := bind_some h233
        have hx235g := ck_dec hx235
        obtain ⟨x237, hx238, h239⟩ := bind_some h236
        have hx238g := ck_dec hx238
        refine cw_seq (cw_region (
          .cons (o_mv rfl rfl .no rfl) <|
          .cons (o_mv rfl rfl .no rfl) <|
          .cons (o_lenS rfl rfl .no rfl un9) <|
          .cons (o_bin rfl rfl .no rfl rfl (b_rem _ _ (by decide)) rfl) <|
          .cons (o_bin rfl rfl .no rfl rfl (b_sub _ _) rfl) <|
          .cons (o_bin rfl rfl .no rfl rfl (b_rem _ _ (by decide)) rfl) <|
          .cons (o_mksl (n := (Int.tmod (IntKind.wrap .i64 (32 - (Int.tmod ((a3.extract 0 (min (a3.size : Int) 320).toNat).size : Int) 32))) 32)) 4 rfl rfl .no rfl rfl sl26 sz5 by5 zb5 hx235g rfl) <|
          .cons (o_cvA (xs := (List.replicate (Int.tmod (IntKind.wrap .i64 (32 - (Int.tmod ((a3.extract 0 (min (a3.size : Int) 320).toNat).size : Int) 32))) 32).toNat (0 : UInt8))) rfl rfl .no rfl rfl sl26 un5 un9) <|
          .cons (o_bin rfl rfl .no rfl rfl (s_add _ _ hx238g) rfl) <|
          .cons (o_as rfl rfl .no rfl) <|
          .nil rfl
        ) ?_)
        obtain ⟨x240, hx241, h242⟩ := bind_some (x := chunk_Write x4 5 (IntKind.wrap .i64 (32 * (bitsAnd .i64 a2 1023))) ((a3.extract 0 (min (a3.size : Int) 320).toNat) ++ (ByteArray.mk (List.replicate (Int.tmod (IntKind.wrap .i64 (32 - (Int.tmod ((a3.extract 0 (min (a3.size : Int) 320).toNat).size : Int) 32))) 32).toNat (0 : UInt8)).toArray))) h239
        refine cw_seq (cw_region (
          .cons (o_mv rfl rfl .no rfl) <|
          .cons (o_mv rfl rfl .no rfl) <|
          .cons (o_bin rfl rfl .no rfl rfl (b_and _ _) rfl) <|
          .cons (o_bin rfl rfl .no rfl rfl (b_mul _ _) rfl) <|
          .cons (o_mv rfl rfl .no rfl) <|
          .cons (o_callX (fun n => bif Nat.beq n 0 then 1 else 5) rfl rfl .no Tryz.func13 rfl rfl (chunk_Write_ok hx241) (.cons rfl (.p rfl) (.cons rfl .d (.cons rfl .d (.cons rfl .d .nil)))) (callInG [4] rfl ⟨(by simp [AV.live, lk, Nat.beq]), trivial, trivial, trivial, trivial⟩ ⟨⟨rfl, (OD.dat_live (oviewView_dat _))⟩, trivial⟩ rfl rfl rfl ⟨rfl, trivial⟩ rfl) (.inl rfl)) <|
          .cons (o_as rfl rfl .no rfl) <|
          .nil rfl
        ) ?_)
        obtain ⟨o258, hj259, h260⟩ := bind_some h242
        refine cw_join (fun (z : Bool) => St.of [(8, .d (ebool z))] []) (fun (z : Bool) => o258 = z) ?_ ?_
        · intro v276 hv277; subst hv277
          have heq := ((Option.some.inj h260).symm).symm
          subst heq
          exact cw_ret ⟨_, (show Leads _ _ (St.of [(8, .d (ebool o258))] []) from .w (weak_of ⟨⟨_, rfl, .d rfl⟩, trivial⟩ trivial drop0)), .inr rfl, _, res1 rfl rfl, rfl, rfl⟩
        · skip
          rcases cond_some hj259 with ⟨hc261, h262⟩ | ⟨hc261, h263⟩
          · skip
            rcases cond_some h262 with ⟨hc264, h265⟩ | ⟨hc264, h266⟩
            · skip
              obtain ⟨x267, hx268, h269⟩ := bind_some (x := view_View_Reads x240.2) h265
              rcases cond_some h269 with ⟨hc270, h271⟩ | ⟨hc270, h272⟩
              · skip
                obtain ⟨x273, hx274, h275⟩ := bind_some (x := view_View_Changes x267.2) h271
                refine cw_region (
                  .cons (o_mv rfl rfl .no rfl) <|
                  .cons (o_bin rfl rfl .no rfl rfl (b_eql _ _) rfl) <|
                  .cons (o_mv rfl rfl .no rfl) <|
                  .cons (o_mv rfl rfl (.yes rfl rfl hc261) rfl) <|
                  .cons (o_bin rfl rfl (.yes rfl rfl hc261) rfl rfl (b_eql _ _) rfl) <|
                  .cons (o_pickT rfl rfl .no rfl hc261 rfl) <|
                  .cons (o_mv rfl rfl .no rfl) <|
                  .cons (o_mv rfl rfl (.yes rfl rfl hc264) rfl) <|
                  .cons (o_callX (fun n => bif Nat.beq n 0 then 1 else 6) rfl rfl (.yes rfl rfl hc264) Tryz.func24 rfl rfl (view_View_Reads_ok hx268) (.cons rfl (.p rfl) .nil) (callIn1N rfl ⟨(by simp [AV.live, lk, Nat.beq]), trivial⟩ (by decide) rfl (OD.dat_live (oviewView_dat _)) rfl (by simp)) (.inl rfl)) <|
                  .cons (o_lenAM (enc := eapiSpan) (xs := x267.1) rfl rfl (.yes rfl rfl hc264) rfl rfl sl59) <|
                  .cons (o_bin rfl rfl (.yes rfl rfl hc264) rfl rfl (b_eql _ _) rfl) <|
                  .cons (o_pickT rfl rfl .no rfl hc264 rfl) <|
                  .cons (o_mv rfl rfl .no rfl) <|
                  .cons (o_mv rfl rfl (.yes rfl rfl hc270) rfl) <|
                  .cons (o_callX (fun n => bif Nat.beq n 0 then 1 else 7) rfl rfl (.yes rfl rfl hc270) Tryz.func17 rfl rfl (view_View_Changes_ok hx274) (.cons rfl (.p rfl) .nil) (callIn1N rfl ⟨(by simp [AV.live, lk, Nat.beq]), trivial⟩ (by decide) rfl (OD.dat_live (oviewView_dat _)) rfl (by simp)) (.inl rfl)) <|
                  .cons (o_lenAM (enc := eapiChange) (xs := x273.1) rfl rfl (.yes rfl rfl hc270) rfl rfl sl49) <|
                  .cons (o_mv rfl rfl (.yes rfl rfl hc270) rfl) <|
                  .cons (o_lenS rfl rfl (.yes rfl rfl hc270) rfl un9) <|
                  .cons (o_bin rfl rfl (.yes rfl rfl hc270) rfl rfl (b_quo _ _ (by decide)) rfl) <|
                  .cons (o_bin rfl rfl (.yes rfl rfl hc270) rfl rfl (b_eql _ _) rfl) <|
                  .cons (o_pickT rfl rfl .no rfl hc270 rfl) <|
                  .cons (o_as rfl rfl .no rfl) <|
                  .nil rfl
                ) ?_
                exact ⟨(decide ((x273.1.length : Int) = (IntKind.wrap .i64 (Int.tdiv (((a3.extract 0 (min (a3.size : Int) 320).toNat) ++ (ByteArray.mk (List.replicate (Int.tmod (IntKind.wrap .i64 (32 - (Int.tmod ((a3.extract 0 (min (a3.size : Int) 320).toNat).size : Int) 32))) 32).toNat (0 : UInt8)).toArray)).size : Int) 32)))), (Option.some.inj h275).symm, .w (weak_of ⟨⟨_, rfl, .d rfl⟩, trivial⟩ trivial drop0)⟩
              · skip
                refine cw_region (
                  .cons (o_mv rfl rfl .no rfl) <|
                  .cons (o_bin rfl rfl .no rfl rfl (b_eql _ _) rfl) <|
                  .cons (o_mv rfl rfl .no rfl) <|
                  .cons (o_mv rfl rfl (.yes rfl rfl hc261) rfl) <|
                  .cons (o_bin rfl rfl (.yes rfl rfl hc261) rfl rfl (b_eql _ _) rfl) <|
                  .cons (o_pickT rfl rfl .no rfl hc261 rfl) <|
                  .cons (o_mv rfl rfl .no rfl) <|
                  .cons (o_mv rfl rfl (.yes rfl rfl hc264) rfl) <|
                  .cons (o_callX (fun n => bif Nat.beq n 0 then 1 else 6) rfl rfl (.yes rfl rfl hc264) Tryz.func24 rfl rfl (view_View_Reads_ok hx268) (.cons rfl (.p rfl) .nil) (callIn1N rfl ⟨(by simp [AV.live, lk, Nat.beq]), trivial⟩ (by decide) rfl (OD.dat_live (oviewView_dat _)) rfl (by simp)) (.inl rfl)) <|
                  .cons (o_lenAM (enc := eapiSpan) (xs := x267.1) rfl rfl (.yes rfl rfl hc264) rfl rfl sl59) <|
                  .cons (o_bin rfl rfl (.yes rfl rfl hc264) rfl rfl (b_eql _ _) rfl) <|
                  .cons (o_pickT rfl rfl .no rfl hc264 rfl) <|
                  .cons (o_mv rfl rfl .no rfl) <|
                  .cons (o_noT rfl rfl rfl rfl hc270) <|
                  .cons (o_noT rfl rfl rfl rfl hc270) <|
                  .cons (o_noT rfl rfl rfl rfl hc270) <|
                  .cons (o_noT rfl rfl rfl rfl hc270) <|
                  .cons (o_noT rfl rfl rfl rfl hc270) <|
                  .cons (o_noT rfl rfl rfl rfl hc270) <|
                  .cons (o_noT rfl rfl rfl rfl hc270) <|
                  .cons (o_pickF rfl rfl .no rfl hc270 rfl) <|
                  .cons (o_as rfl rfl .no rfl) <|
                  .nil rfl
                ) ?_
                exact ⟨false, (Option.some.inj h272).symm, .w (weak_of ⟨⟨_, rfl, .d rfl⟩, trivial⟩ trivial drop0)⟩
            · skip
              refine cw_region (
                .cons (o_mv rfl rfl .no rfl) <|
                .cons (o_bin rfl rfl .no rfl rfl (b_eql _ _) rfl) <|
                .cons (o_mv rfl rfl .no rfl) <|
                .cons (o_mv rfl rfl (.yes rfl rfl hc261) rfl) <|
                .cons (o_bin rfl rfl (.yes rfl rfl hc261) rfl rfl (b_eql _ _) rfl) <|
                .cons (o_pickT rfl rfl .no rfl hc261 rfl) <|
                .cons (o_mv rfl rfl .no rfl) <|
                .cons (o_noT rfl rfl rfl rfl hc264) <|
                .cons (o_noT rfl rfl rfl rfl hc264) <|
                .cons (o_noT rfl rfl rfl rfl hc264) <|
                .cons (o_noT rfl rfl rfl rfl hc264) <|
                .cons (o_pickF rfl rfl .no rfl hc264 rfl) <|
                .cons (o_mv rfl rfl .no rfl) <|
                .cons (o_noT rfl rfl rfl rfl rfl) <|
                .cons (o_noT rfl rfl rfl rfl rfl) <|
                .cons (o_noT rfl rfl rfl rfl rfl) <|
                .cons (o_noT rfl rfl rfl rfl rfl) <|
                .cons (o_noT rfl rfl rfl rfl rfl) <|
                .cons (o_noT rfl rfl rfl rfl rfl) <|
                .cons (o_noT rfl rfl rfl rfl rfl) <|
                .cons (o_pickF rfl rfl .no rfl rfl rfl) <|
                .cons (o_as rfl rfl .no rfl) <|
                .nil rfl
              ) ?_
              exact ⟨false, (Option.some.inj h266).symm, .w (weak_of ⟨⟨_, rfl, .d rfl⟩, trivial⟩ trivial drop0)⟩
          · skip
            refine cw_region (
              .cons (o_mv rfl rfl .no rfl) <|
              .cons (o_bin rfl rfl .no rfl rfl (b_eql _ _) rfl) <|
              .cons (o_mv rfl rfl .no rfl) <|
              .cons (o_noT rfl rfl rfl rfl hc261) <|
              .cons (o_noT rfl rfl rfl rfl hc261) <|
              .cons (o_pickF rfl rfl .no rfl hc261 rfl) <|
              .cons (o_mv rfl rfl .no rfl) <|
              .cons (o_noT rfl rfl rfl rfl rfl) <|
              .cons (o_noT rfl rfl rfl rfl rfl) <|
              .cons (o_noT rfl rfl rfl rfl rfl) <|
              .cons (o_noT rfl rfl rfl rfl rfl) <|
              .cons (o_pickF rfl rfl .no rfl rfl rfl) <|
              .cons (o_mv rfl rfl .no rfl) <|
              .cons (o_noT rfl rfl rfl rfl rfl) <|
              .cons (o_noT rfl rfl rfl rfl rfl) <|
              .cons (o_noT rfl rfl rfl rfl rfl) <|
              .cons (o_noT rfl rfl rfl rfl rfl) <|
              .cons (o_noT rfl rfl rfl rfl rfl) <|
              .cons (o_noT rfl rfl rfl rfl rfl) <|
              .cons (o_noT rfl rfl rfl rfl rfl) <|
              .cons (o_pickF rfl rfl .no rfl rfl rfl) <|
              .cons (o_as rfl rfl .no rfl) <|
              .nil rfl
            ) ?_
            exact ⟨false, (Option.some.inj h263).symm, .w (weak_of ⟨⟨_, rfl, .d rfl⟩, trivial⟩ trivial drop0)⟩
      · skip
        refine cw_seq (cw_region (
          .cons (o_as rfl rfl .no rfl) <|
          .nil rfl
        ) ?_)
        refine cw_block ?_
        refine cw_while (V := (Int × VwT)) (O := (Unit ⊕ Bool)) (fun (z : (Int × VwT)) => St.of [(0, .d (eint (bitsAnd .i64 a0 65535))), (1, .d (eint (IntKind.wrap .i64 (1 + (bitsAnd .i64 a1 1023))))), (2, .d (eint a2)), (3, .d (estring a3)), (10, .ptr 0 0), (11, .ptr 1 0), (13, .d (eapiErrno x19.2.1)), (14, .d (eint z.1))] [(0, .own (oviewView z.2)), (1, .own (oviewView x4))]) hj125 (.w (weak_of ⟨⟨_, rfl, .d rfl⟩, ⟨_, rfl, .d rfl⟩, ⟨_, rfl, .d rfl⟩, ⟨_, rfl, .d rfl⟩, ⟨_, rfl, .ptro rfl rfl⟩, ⟨_, rfl, .ptro rfl rfl⟩, ⟨_, rfl, .d rfl⟩, ⟨_, rfl, .d rfl⟩, trivial⟩ ⟨.own rfl (.of_eq rfl (oviewView_dat _)), .own rfl (.of_eq rfl (oviewView_dat _)), trivial⟩ drop0)) ?_
        intro v193 x194 hb195 hx196
        refine cw_seq ?_
        refine cw_seq (cw_region (
          .cons (o_mv rfl rfl .no rfl) <|
          .cons (o_bin rfl rfl .no rfl rfl (b_lss _ _) rfl) <|
          .nil rfl
        ) ?_)
        rcases cond_some hb195 with ⟨hc197, h198⟩ | ⟨hc197, h199⟩
        · refine cw_condT rfl hc197 ?_
          refine cw_skip ?_
          refine cw_seq ?_
          refine cw_block ?_
          obtain ⟨x200, hx201, h202⟩ := bind_some (x := key_Chunk 5 v193.1) h198
          refine cw_seq (cw_region (
            .cons (o_mv rfl rfl .no rfl) <|
            .cons (o_call rfl rfl .no Tryz.func25 rfl rfl (key_Chunk_ok hx201) (.cons rfl .d (.cons rfl .d .nil)) ⟨trivial, trivial, trivial⟩ (.inl rfl)) <|
            .cons (o_mv rfl rfl .no rfl) <|
            .cons (o_ext rfl rfl .no rfl rfl) <|
            .cons (o_ext rfl rfl .no rfl rfl) <|
            .cons (o_alloc 2 rfl rfl .no ze39 rfl) <|
            .cons (o_st [] rfl .no rfl rfl rfl rfl rfl sz39 rfl rfl) <|
            .cons (o_as rfl rfl .no rfl) <|
            .nil rfl
          ) ?_)
          obtain ⟨x203, hx204, h205⟩ := bind_some (x := view_View_Reads v193.2) h202
          obtain ⟨x206, hx207, h208⟩ := bind_some (x := ref08_Has x203.1 x200.1) h205
          refine cw_seq (cw_region_any mixed (by kernel_rfl) (
            .cons (o_mv rfl rfl .no rfl) <|
            .cons (o_callX (fun n => bif Nat.beq n 0 then 0 else 3) rfl rfl .no Tryz.func24 rfl rfl (view_View_Reads_ok hx204) (.cons rfl (.p rfl) .nil) (callIn1N rfl ⟨(by simp [AV.live, lk, Nat.beq]), trivial⟩ (by decide) rfl (OD.dat_live (oviewView_dat _)) rfl (by simp)) (.inl rfl)) <|
            .cons (o_ldP [] rfl rfl .no rfl rfl rfl ta39 rfl rfl) <|
            .cons (o_call rfl rfl .no Tryz.func26 rfl rfl (ref08_Has_ok hx207) (.cons rfl (.arrM rfl) (.cons rfl .d .nil)) ⟨trivial, trivial, trivial⟩ (.inr (DFlat.v _))) <|
            .cons (o_as rfl rfl .no rfl) <|
            .nil rfl
          ) (by kernel_rfl) ?_)
          obtain ⟨o215, hj216, h217⟩ := bind_some h208
          refine cw_join (fun (z : Bool) => St.of [(0, .d (eint (bitsAnd .i64 a0 65535))), (1, .d (eint (IntKind.wrap .i64 (1 + (bitsAnd .i64 a1 1023))))), (2, .d (eint a2)), (3, .d (estring a3)), (10, .ptr 0 0), (11, .ptr 1 0), (13, .d (eapiErrno x19.2.1)), (14, .d (eint v193.1)), (76, .d (ebool z))] [(0, .own (oviewView x203.2)), (1, .own (oviewView x4))]) (fun (z : Bool) => o215 = z) ?_ ?_
          · intro v228 hv229; subst hv229
            rcases cond_some h217 with ⟨hc224, h225⟩ | ⟨hc224, h226⟩
            · refine cw_condT rfl hc224 ?_
              refine cw_seq (cw_region (
                .cons (o_as rfl rfl .no rfl) <|
                .nil rfl
              ) ?_)
              have he227 := ((hx196 _ (Option.some.inj h225).symm).symm).symm
              subst he227
              have heq := ((Option.some.inj h126).symm).symm
              subst heq
              exact cw_ret ⟨_, (show Leads _ _ (St.of [(8, .d (ebool false))] []) from .w (weak_of ⟨⟨_, rfl, .d rfl⟩, trivial⟩ trivial drop0)), .inr rfl, _, res1 rfl rfl, rfl, rfl⟩
            · refine cw_condF rfl hc224 ?_
              refine cw_skip ?_
              refine cw_region (
                .cons (o_mv rfl rfl .no rfl) <|
                .cons (o_bin rfl rfl .no rfl rfl (b_add _ _) rfl) <|
                .cons (o_as rfl rfl .no rfl) <|
                .nil rfl
              ) ?_
              exact ⟨((IntKind.wrap .i64 (v193.1 + 1)), x203.2), (Option.some.inj h226).symm, .w (weak_of ⟨⟨_, rfl, .d rfl⟩, ⟨_, rfl, .d rfl⟩, ⟨_, rfl, .d rfl⟩, ⟨_, rfl, .d rfl⟩, ⟨_, rfl, .ptro rfl rfl⟩, ⟨_, rfl, .ptro rfl rfl⟩, ⟨_, rfl, .d rfl⟩, ⟨_, rfl, .d rfl⟩, trivial⟩ ⟨.own rfl (.of_eq rfl (oviewView_dat _)), .own rfl (.of_eq rfl (oviewView_dat _)), trivial⟩ drop0)⟩
          · skip
            rcases cond_some hj216 with ⟨hc218, h219⟩ | ⟨hc218, h220⟩
            · skip
              refine cw_region (
                .cons (o_mv rfl rfl .no rfl) <|
                .cons (o_not rfl rfl .no rfl) <|
                .cons (o_mv rfl rfl .no rfl) <|
                .cons (o_noT rfl rfl rfl rfl hc218) <|
                .cons (o_noT rfl rfl rfl rfl hc218) <|
                .cons (o_noT rfl rfl rfl rfl hc218) <|
                .cons (o_noT rfl rfl rfl rfl hc218) <|
                .cons (o_noT rfl rfl rfl rfl hc218) <|
                .cons (o_noT rfl rfl rfl rfl hc218) <|
                .cons (o_noT rfl rfl rfl rfl hc218) <|
                .cons (o_noU rfl rfl rfl rfl) <|
                .cons (o_noU rfl rfl rfl rfl) <|
                .cons (o_noU rfl rfl rfl rfl) <|
                .cons (o_noU rfl rfl rfl rfl) <|
                .cons (o_noU rfl rfl rfl rfl) <|
                .cons (o_noU rfl rfl rfl rfl) <|
                .cons (o_noT rfl rfl rfl rfl hc218) <|
                .cons (o_noT rfl rfl rfl rfl hc218) <|
                .cons (o_pickT rfl rfl .no rfl hc218 rfl) <|
                .nil rfl
              ) ?_
              exact ⟨true, (Option.some.inj h219).symm, .w (weak_of ⟨⟨_, rfl, .d rfl⟩, ⟨_, rfl, .d rfl⟩, ⟨_, rfl, .d rfl⟩, ⟨_, rfl, .d rfl⟩, ⟨_, rfl, .ptro rfl rfl⟩, ⟨_, rfl, .ptro rfl rfl⟩, ⟨_, rfl, .d rfl⟩, ⟨_, rfl, .d rfl⟩, ⟨_, rfl, .d rfl⟩, trivial⟩ ⟨.own rfl (.of_eq rfl (oviewView_dat _)), .own rfl (.of_eq rfl (oviewView_dat _)), trivial⟩ drop0)⟩
            · skip
              rcases cond_some h220 with ⟨hc221, h222⟩ | ⟨hc221, h223⟩
              · skip
                refine cw_region (
                  .cons (o_mv rfl rfl .no rfl) <|
                  .cons (o_not rfl rfl .no rfl) <|
                  .cons (o_mv rfl rfl .no rfl) <|
                  .cons (o_mv rfl rfl (.yes rfl rfl hc218) rfl) <|
                  .cons (o_mv rfl rfl (.yes rfl rfl hc218) rfl) <|
                  .cons (o_bin rfl rfl (.yes rfl rfl hc218) rfl rfl (b_mul _ _) rfl) <|
                  .cons (o_bin rfl rfl (.yes rfl rfl hc218) rfl rfl (b_add _ _) rfl) <|
                  .cons (o_mv rfl rfl (.yes rfl rfl hc218) rfl) <|
                  .cons (o_bin rfl rfl (.yes rfl rfl hc218) rfl rfl (b_geq _ _) rfl) <|
                  .cons (o_mv rfl rfl (.yes rfl rfl hc218) rfl) <|
                  .cons (o_mv rfl rfl (.yes rfl rfl hc221) rfl) <|
                  .cons (o_bin rfl rfl (.yes rfl rfl hc221) rfl rfl (b_mul _ _) rfl) <|
                  .cons (o_mv rfl rfl (.yes rfl rfl hc221) rfl) <|
                  .cons (o_mv rfl rfl (.yes rfl rfl hc221) rfl) <|
                  .cons (o_bin rfl rfl (.yes rfl rfl hc221) rfl rfl (b_add _ _) rfl) <|
                  .cons (o_bin rfl rfl (.yes rfl rfl hc221) rfl rfl (b_lss _ _) rfl) <|
                  .cons (o_pickT rfl rfl (.yes rfl rfl hc218) rfl hc221 rfl) <|
                  .cons (o_bin rfl rfl (.yes rfl rfl hc218) rfl rfl (t_neq _ _ un4) rfl) <|
                  .cons (o_pickF rfl rfl .no rfl hc218 rfl) <|
                  .nil rfl
                ) ?_
                exact ⟨(!(x206 == (decide ((IntKind.wrap .i64 (32 * v193.1)) < (IntKind.wrap .i64 ((bitsAnd .i64 a0 65535) + (IntKind.wrap .i64 (1 + (bitsAnd .i64 a1 1023))))))))), (Option.some.inj h222).symm, .w (weak_of ⟨⟨_, rfl, .d rfl⟩, ⟨_, rfl, .d rfl⟩, ⟨_, rfl, .d rfl⟩, ⟨_, rfl, .d rfl⟩, ⟨_, rfl, .ptro rfl rfl⟩, ⟨_, rfl, .ptro rfl rfl⟩, ⟨_, rfl, .d rfl⟩, ⟨_, rfl, .d rfl⟩, ⟨_, rfl, .d rfl⟩, trivial⟩ ⟨.own rfl (.of_eq rfl (oviewView_dat _)), .own rfl (.of_eq rfl (oviewView_dat _)), trivial⟩ drop0)⟩
              · skip
                refine cw_region (
                  .cons (o_mv rfl rfl .no rfl) <|
                  .cons (o_not rfl rfl .no rfl) <|
                  .cons (o_mv rfl rfl .no rfl) <|
                  .cons (o_mv rfl rfl (.yes rfl rfl hc218) rfl) <|
                  .cons (o_mv rfl rfl (.yes rfl rfl hc218) rfl) <|
                  .cons (o_bin rfl rfl (.yes rfl rfl hc218) rfl rfl (b_mul _ _) rfl) <|
                  .cons (o_bin rfl rfl (.yes rfl rfl hc218) rfl rfl (b_add _ _) rfl) <|
                  .cons (o_mv rfl rfl (.yes rfl rfl hc218) rfl) <|
                  .cons (o_bin rfl rfl (.yes rfl rfl hc218) rfl rfl (b_geq _ _) rfl) <|
                  .cons (o_mv rfl rfl (.yes rfl rfl hc218) rfl) <|
                  .cons (o_noT rfl rfl rfl rfl hc221) <|
                  .cons (o_noT rfl rfl rfl rfl hc221) <|
                  .cons (o_noT rfl rfl rfl rfl hc221) <|
                  .cons (o_noT rfl rfl rfl rfl hc221) <|
                  .cons (o_noT rfl rfl rfl rfl hc221) <|
                  .cons (o_noT rfl rfl rfl rfl hc221) <|
                  .cons (o_pickF rfl rfl (.yes rfl rfl hc218) rfl hc221 rfl) <|
                  .cons (o_bin rfl rfl (.yes rfl rfl hc218) rfl rfl (t_neq _ _ un4) rfl) <|
                  .cons (o_pickF rfl rfl .no rfl hc218 rfl) <|
                  .nil rfl
                ) ?_
                exact ⟨(!(x206 == false)), (Option.some.inj h223).symm, .w (weak_of ⟨⟨_, rfl, .d rfl⟩, ⟨_, rfl, .d rfl⟩, ⟨_, rfl, .d rfl⟩, ⟨_, rfl, .d rfl⟩, ⟨_, rfl, .ptro rfl rfl⟩, ⟨_, rfl, .ptro rfl rfl⟩, ⟨_, rfl, .d rfl⟩, ⟨_, rfl, .d rfl⟩, ⟨_, rfl, .d rfl⟩, trivial⟩ ⟨.own rfl (.of_eq rfl (oviewView_dat _)), .own rfl (.of_eq rfl (oviewView_dat _)), trivial⟩ drop0)⟩
        · refine cw_condF rfl hc197 ?_
          refine cw_exit ?_
          exact ⟨(), (hx196 _ (Option.some.inj h199).symm).symm, .w (weak_of ⟨⟨_, rfl, .d rfl⟩, ⟨_, rfl, .d rfl⟩, ⟨_, rfl, .ptro rfl rfl⟩, ⟨_, rfl, .d rfl⟩, trivial⟩ ⟨.own rfl (.of_eq rfl (oviewView_dat _)), trivial⟩ drop0)⟩
  · skip
    rcases cond_some hj11 with ⟨hc13, h14⟩ | ⟨hc13, h15⟩
    · skip
      refine cw_region (
        .cons (o_mv rfl rfl .no rfl) <|
        .cons (o_not rfl rfl .no rfl) <|
        .cons (o_mv rfl rfl .no rfl) <|
        .cons (o_noT rfl rfl rfl rfl hc13) <|
        .cons (o_noT rfl rfl rfl rfl hc13) <|
        .cons (o_pickT rfl rfl .no rfl hc13 rfl) <|
        .cons (o_mv rfl rfl .no rfl) <|
        .cons (o_noT rfl rfl rfl rfl rfl) <|
        .cons (o_noT rfl rfl rfl rfl rfl) <|
        .cons (o_pickT rfl rfl .no rfl rfl rfl) <|
        .nil rfl
      ) ?_
      exact ⟨true, (Option.some.inj h14).symm, .w (weak_of ⟨⟨_, rfl, .d rfl⟩, ⟨_, rfl, .d rfl⟩, ⟨_, rfl, .d rfl⟩, ⟨_, rfl, .d rfl⟩, ⟨_, rfl, .ptro rfl rfl⟩, ⟨_, rfl, .ptro rfl rfl⟩, ⟨_, rfl, .d rfl⟩, trivial⟩ ⟨.own rfl (.of_eq rfl (oviewView_dat _)), .own rfl (.of_eq rfl (oviewView_dat _)), trivial⟩ drop0)⟩
    · skip
      refine cw_region (
        .cons (o_mv rfl rfl .no rfl) <|
        .cons (o_not rfl rfl .no rfl) <|
        .cons (o_mv rfl rfl .no rfl) <|
        .cons (o_mv rfl rfl (.yes rfl rfl hc13) rfl) <|
        .cons (o_pnilP rfl rfl (.yes rfl rfl hc13) rfl up24) <|
        .cons (o_pickF rfl rfl .no rfl hc13 rfl) <|
        .cons (o_mv rfl rfl .no rfl) <|
        .cons (o_mv rfl rfl (.yes rfl rfl rfl) rfl) <|
        .cons (o_pnilP rfl rfl (.yes rfl rfl rfl) rfl up24) <|
        .cons (o_pickF rfl rfl .no rfl rfl rfl) <|
        .nil rfl
      ) ?_
      exact ⟨false, (Option.some.inj h15).symm, .w (weak_of ⟨⟨_, rfl, .d rfl⟩, ⟨_, rfl, .d rfl⟩, ⟨_, rfl, .d rfl⟩, ⟨_, rfl, .d rfl⟩, ⟨_, rfl, .ptro rfl rfl⟩, ⟨_, rfl, .ptro rfl rfl⟩, ⟨_, rfl, .d rfl⟩, trivial⟩ ⟨.own rfl (.of_eq rfl (oviewView_dat _)), .own rfl (.of_eq rfl (oviewView_dat _)), trivial⟩ drop0)⟩

end
end Go.Val

