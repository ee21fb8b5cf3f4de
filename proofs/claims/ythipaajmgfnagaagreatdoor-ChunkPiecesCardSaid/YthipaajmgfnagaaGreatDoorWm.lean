/- Walks of the program's functions, printed. -/
import Derived.Test.YthipaajmgfnagaaGreatDoorWj
set_option linter.unusedSectionVars false
set_option linter.unusedVariables false
set_option linter.unusedSimpArgs false
namespace Go.Val
open Go.RowKit Go.Proofs

section
variable [NoDrw]

noncomputable def law13_ChunkPieces (a0 : Int) (a1 : ByteArray) (a2 : Int) : Option Bool :=
 (law13_shown).bind fun x1 =>
 (view_New_n).bind fun x4 =>
 (((
  cond (!x1) (
   some true
  ) (
   some false
  )
 ) : Option Bool)).bind fun o10 =>
 cond o10 (
  some false
 ) (
  (cutB 0 (min (a1.size : Int) 300) a1.size).bind fun _ =>
  (ck (decide ((IntKind.wrap .i64 (((a1.extract 0 (min (a1.size : Int) 300).toNat).size : Int) + 1)) ≠ 0))).bind fun _ =>
  (chunk_Write x4 5 (bitsAnd .i64 a0 65535) (a1.extract 0 (min (a1.size : Int) 300).toNat)).bind fun x25 =>
  (cutB 0 (Int.tmod (bitsAnd .i64 a2 511) (IntKind.wrap .i64 (((a1.extract 0 (min (a1.size : Int) 300).toNat).size : Int) + 1))) ((a1.extract 0 (min (a1.size : Int) 300).toNat).size)).bind fun _ =>
  (chunk_Write x4 5 (bitsAnd .i64 a0 65535) ((a1.extract 0 (min (a1.size : Int) 300).toNat).extract 0 (Int.tmod (bitsAnd .i64 a2 511) (IntKind.wrap .i64 (((a1.extract 0 (min (a1.size : Int) 300).toNat).size : Int) + 1))).toNat)).bind fun x31 =>
  (cutB (Int.tmod (bitsAnd .i64 a2 511) (IntKind.wrap .i64 (((a1.extract 0 (min (a1.size : Int) 300).toNat).size : Int) + 1))) ((a1.extract 0 (min (a1.size : Int) 300).toNat).size : Int) ((a1.extract 0 (min (a1.size : Int) 300).toNat).size)).bind fun _ =>
  (chunk_Write x31.2 5 (IntKind.wrap .i64 ((bitsAnd .i64 a0 65535) + (Int.tmod (bitsAnd .i64 a2 511) (IntKind.wrap .i64 (((a1.extract 0 (min (a1.size : Int) 300).toNat).size : Int) + 1))))) ((a1.extract 0 (min (a1.size : Int) 300).toNat).extract (Int.tmod (bitsAnd .i64 a2 511) (IntKind.wrap .i64 (((a1.extract 0 (min (a1.size : Int) 300).toNat).size : Int) + 1))).toNat ((a1.extract 0 (min (a1.size : Int) 300).toNat).size : Int).toNat)).bind fun x37 =>
  (chunk_Write x4 5 (IntKind.wrap .i64 ((bitsAnd .i64 a0 65535) + (Int.tmod (bitsAnd .i64 a2 511) (IntKind.wrap .i64 (((a1.extract 0 (min (a1.size : Int) 300).toNat).size : Int) + 1))))) ((a1.extract 0 (min (a1.size : Int) 300).toNat).extract (Int.tmod (bitsAnd .i64 a2 511) (IntKind.wrap .i64 (((a1.extract 0 (min (a1.size : Int) 300).toNat).size : Int) + 1))).toNat ((a1.extract 0 (min (a1.size : Int) 300).toNat).size : Int).toNat)).bind fun x40 =>
  (chunk_Write x40.2 5 (bitsAnd .i64 a0 65535) ((a1.extract 0 (min (a1.size : Int) 300).toNat).extract 0 (Int.tmod (bitsAnd .i64 a2 511) (IntKind.wrap .i64 (((a1.extract 0 (min (a1.size : Int) 300).toNat).size : Int) + 1))).toNat)).bind fun x43 =>
  (((
   cond (decide (x25.1 ≠ 0)) (
    some true
   ) (
    cond (decide (x31.1 ≠ 0)) (
     some true
    ) (
     cond (decide (x37.1 ≠ 0)) (
      some true
     ) (
      cond (decide (x40.1 ≠ 0)) (
       some true
      ) (
       some (decide (x43.1 ≠ 0))
      )
     )
    )
   )
  ) : Option Bool)).bind fun o58 =>
  cond o58 (
   some false
  ) (
   (view_View_Scan x25.2 ((List.replicate 24 0), (List.replicate 24 0), true)).bind fun x76 =>
   (view_View_Scan x37.2 ((List.replicate 24 0), (List.replicate 24 0), true)).bind fun x79 =>
   (view_View_Scan x43.2 ((List.replicate 24 0), (List.replicate 24 0), true)).bind fun x82 =>
   (((
    cond (decide ((x76.1.length : Int) ≠ (x79.1.length : Int))) (
     some true
    ) (
     some (decide ((x76.1.length : Int) ≠ (x82.1.length : Int)))
    )
   ) : Option Bool)).bind fun o88 =>
   cond o88 (
    some false
   ) (
    (((
     whileO (V := Int) (O := (Unit ⊕ Bool)) (fun v313 =>
      cond (decide (v313 < (x76.1.length : Int))) (
       (((
        (gx x76.1 v313).bind fun x341 =>
        (gx x79.1 v313).bind fun x344 =>
        cond (!((decide (x341.1 = x344.1)) && ((decide (x341.2 = x344.2)) && true))) (
         some true
        ) (
         (gx x82.1 v313).bind fun x350 =>
         some (!((decide (x341.1 = x350.1)) && ((decide (x341.2 = x350.2)) && true)))
        )
       ) : Option Bool)).bind fun o338 =>
       cond o338 (
        some (.inr (.inr false))
       ) (
        some (.inl (IntKind.wrap .i64 (v313 + 1)))
       )
      ) (
       some (.inr (.inl ()))
      )
     ) 0
    ) : Option (Unit ⊕ Bool))).bind fun o226 =>
    Sum.elim (fun (v359 : Unit) =>
     (chunk_Read x76.2.2 5 (bitsAnd .i64 a0 65535) ((a1.extract 0 (min (a1.size : Int) 300).toNat).size : Int)).bind fun x360 =>
     (((
      cond (decide (x360.2.1 = 0)) (
       some (decide (x360.1 = (a1.extract 0 (min (a1.size : Int) 300).toNat)))
      ) (
       some false
      )
     ) : Option Bool)).bind fun o366 =>
     some o366
    ) (fun w376 =>
     some w376
    ) o226
   )
  )
 )

set_option maxRecDepth 100000 in
theorem law13_ChunkPieces_ok {a0 : Int} {a1 : ByteArray} {a2 : Int} {r : Bool} (h : law13_ChunkPieces a0 a1 a2 = some r) : FnOk Tryz.prog 6 [.d (eint a0), .d (estring a1), .d (eint a2)] 0 (lk []) (fun rr oo => rr = .d (ebool r) ∧ oo = lk []) := by
  refine fnOk_of Tryz.func6 rfl rfl (cw_post ?_)
  unfold law13_ChunkPieces at h
  refine cw_seq (cw_region (
    .cons (o_as rfl rfl .no rfl) <|
    .nil rfl
  ) ?_)
  obtain ⟨x1, hx2, h3⟩ := bind_some (x := law13_shown) h
  refine cw_seq (cw_region (
    .cons (o_call rfl rfl .no Tryz.func10 rfl rfl (law13_shown_ok hx2) .nil trivial (.inl rfl)) <|
    .cons (o_as rfl rfl .no rfl) <|
    .nil rfl
  ) ?_)
  obtain ⟨x4, hx5, h6⟩ := bind_some (x := view_New_n) h3
  refine cw_seq (cw_region (
    .cons (o_callO 0 rfl rfl .no Tryz.func11 rfl rfl (view_New_n_ok hx5) (.cons rfl .d .nil) ⟨trivial, trivial⟩ rfl (.inl rfl)) <|
    .cons (o_as rfl rfl .no rfl) <|
    .nil rfl
  ) ?_)
  refine cw_seq (cw_region (
    .cons (o_callO 1 rfl rfl .no Tryz.func11 rfl rfl (view_New_n_ok hx5) (.cons rfl .d .nil) ⟨trivial, trivial⟩ rfl (.inl rfl)) <|
    .cons (o_as rfl rfl .no rfl) <|
    .nil rfl
  ) ?_)
  refine cw_seq (cw_region (
    .cons (o_callO 2 rfl rfl .no Tryz.func11 rfl rfl (view_New_n_ok hx5) (.cons rfl .d .nil) ⟨trivial, trivial⟩ rfl (.inl rfl)) <|
    .cons (o_as rfl rfl .no rfl) <|
    .nil rfl
  ) ?_)
  refine cw_seq ?_
  obtain ⟨o10, hj11, h12⟩ := bind_some h6
  refine cw_join (fun (z : Bool) => St.of [(0, .d (eint a0)), (1, .d (estring a1)), (2, .d (eint a2)), (8, .ptr 0 0), (9, .ptr 1 0), (10, .ptr 2 0), (43, .d (ebool z))] [(0, .own (oviewView x4)), (1, .own (oviewView x4)), (2, .own (oviewView x4))]) (fun (z : Bool) => o10 = z) ?_ ?_
  · intro v381 hv382; subst hv382
    rcases cond_some h12 with ⟨hc16, h17⟩ | ⟨hc16, h18⟩
    · refine cw_condT rfl hc16 ?_
      refine cw_seq (cw_region (
        .cons (o_as rfl rfl .no rfl) <|
        .nil rfl
      ) ?_)
      have heq := ((Option.some.inj h17).symm).symm
      subst heq
      exact cw_ret ⟨_, (show Leads _ _ (St.of [(6, .d (ebool false))] []) from .w (weak_of ⟨⟨_, rfl, .d rfl⟩, trivial⟩ trivial drop0)), .inr rfl, _, res1 rfl rfl, rfl, rfl⟩
    · refine cw_condF rfl hc16 ?_
      refine cw_skip ?_
      refine cw_seq (cw_region (
        .cons (o_mv rfl rfl .no rfl) <|
        .cons (o_bin rfl rfl .no rfl rfl (b_and _ _) rfl) <|
        .cons (o_as rfl rfl .no rfl) <|
        .nil rfl
      ) ?_)
      obtain ⟨x19, hx20, h21⟩ := bind_some h18
      have hx20g := cutB_some hx20
      refine cw_seq (cw_region (
        .cons (o_mv rfl rfl .no rfl) <|
        .cons (o_mv rfl rfl .no rfl) <|
        .cons (o_lenS rfl rfl .no rfl un9) <|
        .cons (o_min rfl rfl .no rfl rfl) <|
        .cons (o_slS rfl rfl .no rfl un9 .no (.val rfl hx20g.2.1) hx20g.2.2.1 hx20g.2.2.2) <|
        .cons (o_as rfl rfl .no rfl) <|
        .nil rfl
      ) ?_)
      obtain ⟨x22, hx23, h24⟩ := bind_some h21
      have hx23g := ck_dec hx23
      refine cw_seq (cw_region (
        .cons (o_mv rfl rfl .no rfl) <|
        .cons (o_bin rfl rfl .no rfl rfl (b_and _ _) rfl) <|
        .cons (o_mv rfl rfl .no rfl) <|
        .cons (o_lenS rfl rfl .no rfl un9) <|
        .cons (o_bin rfl rfl .no rfl rfl (b_add _ _) rfl) <|
        .cons (o_bin rfl rfl .no rfl rfl (b_rem _ _ hx23g) rfl) <|
        .cons (o_as rfl rfl .no rfl) <|
        .nil rfl
      ) ?_)
      obtain ⟨x25, hx26, h27⟩ := bind_some (x := chunk_Write x4 5 (bitsAnd .i64 a0 65535) (a1.extract 0 (min (a1.size : Int) 300).toNat)) h24
      refine cw_seq (cw_region (
        .cons (o_mv rfl rfl .no rfl) <|
        .cons (o_mv rfl rfl .no rfl) <|
        .cons (o_mv rfl rfl .no rfl) <|
        .cons (o_callX (fun n => bif Nat.beq n 0 then 0 else 3) rfl rfl .no Tryz.func13 rfl rfl (chunk_Write_ok hx26) (.cons rfl (.p rfl) (.cons rfl .d (.cons rfl .d (.cons rfl .d .nil)))) (callInG [4] rfl ⟨(by simp [AV.live, lk, Nat.beq]), trivial, trivial, trivial, trivial⟩ ⟨⟨rfl, (OD.dat_live (oviewView_dat _))⟩, trivial⟩ rfl rfl rfl ⟨rfl, trivial⟩ rfl) (.inl rfl)) <|
        .cons (o_as rfl rfl .no rfl) <|
        .nil rfl
      ) ?_)
      obtain ⟨x28, hx29, h30⟩ := bind_some h27
      have hx29g := cutB_some hx29
      obtain ⟨x31, hx32, h33⟩ := bind_some (x := chunk_Write x4 5 (bitsAnd .i64 a0 65535) ((a1.extract 0 (min (a1.size : Int) 300).toNat).extract 0 (Int.tmod (bitsAnd .i64 a2 511) (IntKind.wrap .i64 (((a1.extract 0 (min (a1.size : Int) 300).toNat).size : Int) + 1))).toNat)) h30
      refine cw_seq (cw_region (
        .cons (o_mv rfl rfl .no rfl) <|
        .cons (o_mv rfl rfl .no rfl) <|
        .cons (o_mv rfl rfl .no rfl) <|
        .cons (o_mv rfl rfl .no rfl) <|
        .cons (o_slS rfl rfl .no rfl un9 .no (.val rfl hx29g.2.1) hx29g.2.2.1 hx29g.2.2.2) <|
        .cons (o_callX (fun n => bif Nat.beq n 0 then 1 else 4) rfl rfl .no Tryz.func13 rfl rfl (chunk_Write_ok hx32) (.cons rfl (.p rfl) (.cons rfl .d (.cons rfl .d (.cons rfl .d .nil)))) (callInG [4] rfl ⟨(by simp [AV.live, lk, Nat.beq]), trivial, trivial, trivial, trivial⟩ ⟨⟨rfl, (OD.dat_live (oviewView_dat _))⟩, trivial⟩ rfl rfl rfl ⟨rfl, trivial⟩ rfl) (.inl rfl)) <|
        .cons (o_as rfl rfl .no rfl) <|
        .nil rfl
      ) ?_)
      obtain ⟨x34, hx35, h36⟩ := bind_some h33
      have hx35g := cutB_some hx35
      obtain ⟨x37, hx38, h39⟩ := bind_some (x := chunk_Write x31.2 5 (IntKind.wrap .i64 ((bitsAnd .i64 a0 65535) + (Int.tmod (bitsAnd .i64 a2 511) (IntKind.wrap .i64 (((a1.extract 0 (min (a1.size : Int) 300).toNat).size : Int) + 1))))) ((a1.extract 0 (min (a1.size : Int) 300).toNat).extract (Int.tmod (bitsAnd .i64 a2 511) (IntKind.wrap .i64 (((a1.extract 0 (min (a1.size : Int) 300).toNat).size : Int) + 1))).toNat ((a1.extract 0 (min (a1.size : Int) 300).toNat).size : Int).toNat)) h36
      refine cw_seq (cw_region (
        .cons (o_mv rfl rfl .no rfl) <|
        .cons (o_mv rfl rfl .no rfl) <|
        .cons (o_mv rfl rfl .no rfl) <|
        .cons (o_bin rfl rfl .no rfl rfl (b_add _ _) rfl) <|
        .cons (o_mv rfl rfl .no rfl) <|
        .cons (o_mv rfl rfl .no rfl) <|
        .cons (o_slS rfl rfl .no rfl un9 (.val rfl hx35g.1) .no hx35g.2.2.1 hx35g.2.2.2) <|
        .cons (o_callX (fun n => bif Nat.beq n 0 then 1 else 5) rfl rfl .no Tryz.func13 rfl rfl (chunk_Write_ok hx38) (.cons rfl (.p rfl) (.cons rfl .d (.cons rfl .d (.cons rfl .d .nil)))) (callInG [4] rfl ⟨(by simp [AV.live, lk, Nat.beq]), trivial, trivial, trivial, trivial⟩ ⟨⟨rfl, (OD.dat_live (oviewView_dat _))⟩, trivial⟩ rfl rfl rfl ⟨rfl, trivial⟩ rfl) (.inl rfl)) <|
        .cons (o_as rfl rfl .no rfl) <|
        .nil rfl
      ) ?_)
      obtain ⟨x40, hx41, h42⟩ := bind_some (x := chunk_Write x4 5 (IntKind.wrap .i64 ((bitsAnd .i64 a0 65535) + (Int.tmod (bitsAnd .i64 a2 511) (IntKind.wrap .i64 (((a1.extract 0 (min (a1.size : Int) 300).toNat).size : Int) + 1))))) ((a1.extract 0 (min (a1.size : Int) 300).toNat).extract (Int.tmod (bitsAnd .i64 a2 511) (IntKind.wrap .i64 (((a1.extract 0 (min (a1.size : Int) 300).toNat).size : Int) + 1))).toNat ((a1.extract 0 (min (a1.size : Int) 300).toNat).size : Int).toNat)) h39
      refine cw_seq (cw_region (
        .cons (o_mv rfl rfl .no rfl) <|
        .cons (o_mv rfl rfl .no rfl) <|
        .cons (o_mv rfl rfl .no rfl) <|
        .cons (o_bin rfl rfl .no rfl rfl (b_add _ _) rfl) <|
        .cons (o_mv rfl rfl .no rfl) <|
        .cons (o_mv rfl rfl .no rfl) <|
        .cons (o_slS rfl rfl .no rfl un9 (.val rfl hx35g.1) .no hx35g.2.2.1 hx35g.2.2.2) <|
        .cons (o_callX (fun n => bif Nat.beq n 0 then 2 else 6) rfl rfl .no Tryz.func13 rfl rfl (chunk_Write_ok hx41) (.cons rfl (.p rfl) (.cons rfl .d (.cons rfl .d (.cons rfl .d .nil)))) (callInG [4] rfl ⟨(by simp [AV.live, lk, Nat.beq]), trivial, trivial, trivial, trivial⟩ ⟨⟨rfl, (OD.dat_live (oviewView_dat _))⟩, trivial⟩ rfl rfl rfl ⟨rfl, trivial⟩ rfl) (.inl rfl)) <|
        .cons (o_as rfl rfl .no rfl) <|
        .nil rfl
      ) ?_)
      obtain ⟨x43, hx44, h45⟩ := bind_some (x := chunk_Write x40.2 5 (bitsAnd .i64 a0 65535) ((a1.extract 0 (min (a1.size : Int) 300).toNat).extract 0 (Int.tmod (bitsAnd .i64 a2 511) (IntKind.wrap .i64 (((a1.extract 0 (min (a1.size : Int) 300).toNat).size : Int) + 1))).toNat)) h42
      refine cw_seq (cw_region (
        .cons (o_mv rfl rfl .no rfl) <|
        .cons (o_mv rfl rfl .no rfl) <|
        .cons (o_mv rfl rfl .no rfl) <|
        .cons (o_mv rfl rfl .no rfl) <|
        .cons (o_slS rfl rfl .no rfl un9 .no (.val rfl hx29g.2.1) hx29g.2.2.1 hx29g.2.2.2) <|
        .cons (o_callX (fun n => bif Nat.beq n 0 then 2 else 7) rfl rfl .no Tryz.func13 rfl rfl (chunk_Write_ok hx44) (.cons rfl (.p rfl) (.cons rfl .d (.cons rfl .d (.cons rfl .d .nil)))) (callInG [4] rfl ⟨(by simp [AV.live, lk, Nat.beq]), trivial, trivial, trivial, trivial⟩ ⟨⟨rfl, (OD.dat_live (oviewView_dat _))⟩, trivial⟩ rfl rfl rfl ⟨rfl, trivial⟩ rfl) (.inl rfl)) <|
        .cons (o_as rfl rfl .no rfl) <|
        .nil rfl
      ) ?_)
      refine cw_seq ?_
      obtain ⟨o58, hj59, h60⟩ := bind_some h45
      refine cw_join (fun (z : Bool) => St.of [(0, .d (eint (bitsAnd .i64 a0 65535))), (1, .d (estring (a1.extract 0 (min (a1.size : Int) 300).toNat))), (8, .ptr 0 0), (9, .ptr 1 0), (10, .ptr 2 0), (106, .d (ebool z))] [(0, .own (oviewView x25.2)), (1, .own (oviewView x37.2)), (2, .own (oviewView x43.2))]) (fun (z : Bool) => o58 = z) ?_ ?_
      · intro v379 hv380; subst hv380
        rcases cond_some h60 with ⟨hc73, h74⟩ | ⟨hc73, h75⟩
        · refine cw_condT rfl hc73 ?_
          refine cw_seq (cw_region (
            .cons (o_as rfl rfl .no rfl) <|
            .nil rfl
          ) ?_)
          have heq := ((Option.some.inj h74).symm).symm
          subst heq
          exact cw_ret ⟨_, (show Leads _ _ (St.of [(6, .d (ebool false))] []) from .w (weak_of ⟨⟨_, rfl, .d rfl⟩, trivial⟩ trivial drop0)), .inr rfl, _, res1 rfl rfl, rfl, rfl⟩
        · refine cw_condF rfl hc73 ?_
          refine cw_skip ?_
          obtain ⟨x76, hx77, h78⟩ := bind_some (x := view_View_Scan x25.2 ((List.replicate 24 0), (List.replicate 24 0), true)) h75
          refine cw_seq (cw_region (
            .cons (o_mv rfl rfl .no rfl) <|
            .cons (o_bld (ds := [eapiKey (List.replicate 24 0), eapiKey (List.replicate 24 0), ebool true]) rfl rfl .no zs41 rfl pl41 (.cons rfl rfl rfl rfl rfl rfl rfl .nil)) <|
            .cons (o_callX (fun n => bif Nat.beq n 0 then 0 else 8) rfl rfl .no Tryz.func15 rfl rfl (view_View_Scan_ok hx77) (.cons rfl (.p rfl) (.cons rfl .d .nil)) (callIn1N rfl ⟨(by simp [AV.live, lk, Nat.beq]), trivial, trivial⟩ (by decide) rfl (OD.dat_live (oviewView_dat _)) rfl (by simp)) (.inl rfl)) <|
            .cons (o_mv rfl rfl .no rfl) <|
            .cons (o_ext rfl rfl .no rfl rfl) <|
            .cons (o_ext rfl rfl .no rfl rfl) <|
            .cons (o_as rfl rfl .no rfl) <|
            .cons (o_as rfl rfl .no rfl) <|
            .nil rfl
          ) ?_)
          obtain ⟨x79, hx80, h81⟩ := bind_some (x := view_View_Scan x37.2 ((List.replicate 24 0), (List.replicate 24 0), true)) h78
          refine cw_seq (cw_region (
            .cons (o_mv rfl rfl .no rfl) <|
            .cons (o_bld (ds := [eapiKey (List.replicate 24 0), eapiKey (List.replicate 24 0), ebool true]) rfl rfl .no zs41 rfl pl41 (.cons rfl rfl rfl rfl rfl rfl rfl .nil)) <|
            .cons (o_callX (fun n => bif Nat.beq n 0 then 1 else 9) rfl rfl .no Tryz.func15 rfl rfl (view_View_Scan_ok hx80) (.cons rfl (.p rfl) (.cons rfl .d .nil)) (callIn1N rfl ⟨(by simp [AV.live, lk, Nat.beq]), trivial, trivial⟩ (by decide) rfl (OD.dat_live (oviewView_dat _)) rfl (by simp)) (.inl rfl)) <|
            .cons (o_mv rfl rfl .no rfl) <|
            .cons (o_ext rfl rfl .no rfl rfl) <|
            .cons (o_ext rfl rfl .no rfl rfl) <|
            .cons (o_as rfl rfl .no rfl) <|
            .cons (o_as rfl rfl .no rfl) <|
            .nil rfl
          ) ?_)
          obtain ⟨x82, hx83, h84⟩ := bind_some (x := view_View_Scan x43.2 ((List.replicate 24 0), (List.replicate 24 0), true)) h81
          refine cw_seq (cw_region (
            .cons (o_mv rfl rfl .no rfl) <|
            .cons (o_bld (ds := [eapiKey (List.replicate 24 0), eapiKey (List.replicate 24 0), ebool true]) rfl rfl .no zs41 rfl pl41 (.cons rfl rfl rfl rfl rfl rfl rfl .nil)) <|
            .cons (o_callX (fun n => bif Nat.beq n 0 then 2 else 10) rfl rfl .no Tryz.func15 rfl rfl (view_View_Scan_ok hx83) (.cons rfl (.p rfl) (.cons rfl .d .nil)) (callIn1N rfl ⟨(by simp [AV.live, lk, Nat.beq]), trivial, trivial⟩ (by decide) rfl (OD.dat_live (oviewView_dat _)) rfl (by simp)) (.inl rfl)) <|
            .cons (o_mv rfl rfl .no rfl) <|
            .cons (o_ext rfl rfl .no rfl rfl) <|
            .cons (o_ext rfl rfl .no rfl rfl) <|
            .cons (o_as rfl rfl .no rfl) <|
            .cons (o_as rfl rfl .no rfl) <|
            .nil rfl
          ) ?_)
          refine cw_seq ?_
          obtain ⟨o88, hj89, h90⟩ := bind_some h84
          refine cw_join (fun (z : Bool) => St.of [(0, .d (eint (bitsAnd .i64 a0 65535))), (1, .d (estring (a1.extract 0 (min (a1.size : Int) 300).toNat))), (8, .ptr 0 0), (17, .arr 8 0), (19, .arr 9 0), (21, .arr 10 0), (136, .d (ebool z))] [(0, .own (oviewView x76.2.2)), (8, .arr 0 25 (x76.1.map eapiPair)), (9, .arr 0 25 (x79.1.map eapiPair)), (10, .arr 0 25 (x82.1.map eapiPair))]) (fun (z : Bool) => o88 = z) ?_ ?_
          · intro v377 hv378; subst hv378
            rcases cond_some h90 with ⟨hc94, h95⟩ | ⟨hc94, h96⟩
            · refine cw_condT rfl hc94 ?_
              refine cw_seq (cw_region (
                .cons (o_as rfl rfl .no rfl) <|
                .nil rfl
              ) ?_)
              have heq := ((Option.some.inj h95).symm).symm
              subst heq
              exact cw_ret ⟨_, (show Leads _ _ (St.of [(6, .d (ebool false))] []) from .w (weak_of ⟨⟨_, rfl, .d rfl⟩, trivial⟩ trivial drop0)), .inr rfl, _, res1 rfl rfl, rfl, rfl⟩
            · refine cw_condF rfl hc94 ?_
              refine cw_skip ?_
              obtain ⟨o226, hj227, h228⟩ := bind_some h96
              refine cw_join (fun (z : Unit) => St.of [(0, .d (eint (bitsAnd .i64 a0 65535))), (1, .d (estring (a1.extract 0 (min (a1.size : Int) 300).toNat))), (8, .ptr 0 0)] [(0, .own (oviewView x76.2.2))]) (fun (z : Unit) => o226 = (.inl z)) ?_ ?_
              · intro v359 hv375; subst hv375
                simp only [Sum.elim_inl] at h228
                obtain ⟨x360, hx361, h362⟩ := bind_some (x := chunk_Read x76.2.2 5 (bitsAnd .i64 a0 65535) ((a1.extract 0 (min (a1.size : Int) 300).toNat).size : Int)) h228
                refine cw_seq (cw_region (
                  .cons (o_mv rfl rfl .no rfl) <|
                  .cons (o_mv rfl rfl .no rfl) <|
                  .cons (o_mv rfl rfl .no rfl) <|
                  .cons (o_lenS rfl rfl .no rfl un9) <|
                  .cons (o_callX (fun _ => 0) rfl rfl .no Tryz.func14 rfl rfl (chunk_Read_ok hx361) (.cons rfl (.p rfl) (.cons rfl .d (.cons rfl .d (.cons rfl .d .nil)))) (callIn1 rfl ⟨(by simp [AV.live, lk, Nat.beq]), trivial, trivial, trivial, trivial⟩ rfl (OD.dat_live (oviewView_dat _)) (by simp)) (.inl rfl)) <|
                  .cons (o_mv rfl rfl .no rfl) <|
                  .cons (o_ext rfl rfl .no rfl rfl) <|
                  .cons (o_ext rfl rfl .no rfl rfl) <|
                  .cons (o_as rfl rfl .no rfl) <|
                  .cons (o_as rfl rfl .no rfl) <|
                  .nil rfl
                ) ?_)
                obtain ⟨o366, hj367, h368⟩ := bind_some h362
                refine cw_join (fun (z : Bool) => St.of [(6, .d (ebool z))] []) (fun (z : Bool) => o366 = z) ?_ ?_
                · intro v372 hv373; subst hv373
                  have heq := ((Option.some.inj h368).symm).symm
                  subst heq
                  exact cw_ret ⟨_, (show Leads _ _ (St.of [(6, .d (ebool o366))] []) from .w (weak_of ⟨⟨_, rfl, .d rfl⟩, trivial⟩ trivial drop0)), .inr rfl, _, res1 rfl rfl, rfl, rfl⟩
                · skip
                  rcases cond_some hj367 with ⟨hc369, h370⟩ | ⟨hc369, h371⟩
                  · skip
                    refine cw_region (
                      .cons (o_mv rfl rfl .no rfl) <|
                      .cons (o_bin rfl rfl .no rfl rfl (b_eql _ _) rfl) <|
                      .cons (o_mv rfl rfl .no rfl) <|
                      .cons (o_mv rfl rfl (.yes rfl rfl hc369) rfl) <|
                      .cons (o_mv rfl rfl (.yes rfl rfl hc369) rfl) <|
                      .cons (o_bin rfl rfl (.yes rfl rfl hc369) rfl rfl (s_eql _ _) rfl) <|
                      .cons (o_pickT rfl rfl .no rfl hc369 rfl) <|
                      .cons (o_as rfl rfl .no rfl) <|
                      .nil rfl
                    ) ?_
                    exact ⟨(decide (x360.1 = (a1.extract 0 (min (a1.size : Int) 300).toNat))), (Option.some.inj h370).symm, .w (weak_of ⟨⟨_, rfl, .d rfl⟩, trivial⟩ trivial drop0)⟩
                  · skip
                    refine cw_region (
                      .cons (o_mv rfl rfl .no rfl) <|
                      .cons (o_bin rfl rfl .no rfl rfl (b_eql _ _) rfl) <|
                      .cons (o_mv rfl rfl .no rfl) <|
                      .cons (o_noT rfl rfl rfl rfl hc369) <|
                      .cons (o_noT rfl rfl rfl rfl hc369) <|
                      .cons (o_noT rfl rfl rfl rfl hc369) <|
                      .cons (o_pickF rfl rfl .no rfl hc369 rfl) <|
                      .cons (o_as rfl rfl .no rfl) <|
                      .nil rfl
                    ) ?_
                    exact ⟨false, (Option.some.inj h371).symm, .w (weak_of ⟨⟨_, rfl, .d rfl⟩, trivial⟩ trivial drop0)⟩
              · skip
                refine cw_seq (cw_region (
                  .cons (o_as rfl rfl .no rfl) <|
                  .nil rfl
                ) ?_)
                refine cw_block ?_
                refine cw_while (V := Int) (O := (Unit ⊕ Bool)) (fun (z : Int) => St.of [(0, .d (eint (bitsAnd .i64 a0 65535))), (1, .d (estring (a1.extract 0 (min (a1.size : Int) 300).toNat))), (8, .ptr 0 0), (17, .arr 8 0), (19, .arr 9 0), (21, .arr 10 0), (23, .d (eint z))] [(0, .own (oviewView x76.2.2)), (8, .arr 0 25 (x76.1.map eapiPair)), (9, .arr 0 25 (x79.1.map eapiPair)), (10, .arr 0 25 (x82.1.map eapiPair))]) hj227 (.w (weak_of ⟨⟨_, rfl, .d rfl⟩, ⟨_, rfl, .d rfl⟩, ⟨_, rfl, .ptro rfl rfl⟩, ⟨_, rfl, .arr rfl rfl⟩, ⟨_, rfl, .arr rfl rfl⟩, ⟨_, rfl, .arr rfl rfl⟩, ⟨_, rfl, .d rfl⟩, trivial⟩ ⟨.own rfl (.of_eq rfl (oviewView_dat _)), .arr rfl rfl, .arr rfl rfl, .arr rfl rfl, trivial⟩ drop0)) ?_
                intro v313 x314 hb315 hx316
                refine cw_seq ?_
                refine cw_seq (cw_region (
                  .cons (o_mv rfl rfl .no rfl) <|
                  .cons (o_mv rfl rfl .no rfl) <|
                  .cons (o_lenAM (enc := eapiPair) (xs := x76.1) rfl rfl .no rfl rfl sl35) <|
                  .cons (o_bin rfl rfl .no rfl rfl (b_lss _ _) rfl) <|
                  .nil rfl
                ) ?_)
                rcases cond_some hb315 with ⟨hc317, h318⟩ | ⟨hc317, h319⟩
                · refine cw_condT rfl hc317 ?_
                  refine cw_skip ?_
                  refine cw_seq ?_
                  refine cw_block ?_
                  obtain ⟨o338, hj339, h340⟩ := bind_some h318
                  refine cw_join (fun (z : Bool) => St.of [(0, .d (eint (bitsAnd .i64 a0 65535))), (1, .d (estring (a1.extract 0 (min (a1.size : Int) 300).toNat))), (8, .ptr 0 0), (17, .arr 8 0), (19, .arr 9 0), (21, .arr 10 0), (23, .d (eint v313)), (162, .d (ebool z))] [(0, .own (oviewView x76.2.2)), (8, .arr 0 25 (x76.1.map eapiPair)), (9, .arr 0 25 (x79.1.map eapiPair)), (10, .arr 0 25 (x82.1.map eapiPair))]) (fun (z : Bool) => o338 = z) ?_ ?_
                  · intro v357 hv358; subst hv358
                    rcases cond_some h340 with ⟨hc353, h354⟩ | ⟨hc353, h355⟩
                    · refine cw_condT rfl hc353 ?_
                      refine cw_seq (cw_region (
                        .cons (o_as rfl rfl .no rfl) <|
                        .nil rfl
                      ) ?_)
                      have he356 := ((hx316 _ (Option.some.inj h354).symm).symm).symm
                      subst he356
                      have heq := ((Option.some.inj h228).symm).symm
                      subst heq
                      exact cw_ret ⟨_, (show Leads _ _ (St.of [(6, .d (ebool false))] []) from .w (weak_of ⟨⟨_, rfl, .d rfl⟩, trivial⟩ trivial drop0)), .inr rfl, _, res1 rfl rfl, rfl, rfl⟩
                    · refine cw_condF rfl hc353 ?_
                      refine cw_skip ?_
                      refine cw_region (
                        .cons (o_mv rfl rfl .no rfl) <|
                        .cons (o_bin rfl rfl .no rfl rfl (b_add _ _) rfl) <|
                        .cons (o_as rfl rfl .no rfl) <|
                        .nil rfl
                      ) ?_
                      exact ⟨(IntKind.wrap .i64 (v313 + 1)), (Option.some.inj h355).symm, .w (weak_of ⟨⟨_, rfl, .d rfl⟩, ⟨_, rfl, .d rfl⟩, ⟨_, rfl, .ptro rfl rfl⟩, ⟨_, rfl, .arr rfl rfl⟩, ⟨_, rfl, .arr rfl rfl⟩, ⟨_, rfl, .arr rfl rfl⟩, ⟨_, rfl, .d rfl⟩, trivial⟩ ⟨.own rfl (.of_eq rfl (oviewView_dat _)), .arr rfl rfl, .arr rfl rfl, .arr rfl rfl, trivial⟩ drop0)⟩
                  · skip
                    obtain ⟨x341, hx342, h343⟩ := bind_some hj339
                    have hx342g := gx_some hx342
                    obtain ⟨x344, hx345, h346⟩ := bind_some h343
                    have hx345g := gx_some hx345
                    rcases cond_some h346 with ⟨hc347, h348⟩ | ⟨hc347, h349⟩
                    · skip
                      refine cw_region_any mixed (by kernel_rfl) (
                        .cons (o_mv rfl rfl .no rfl) <|
                        .cons (o_mv rfl rfl .no rfl) <|
                        .cons (o_ixAM (enc := eapiPair) (xs := x76.1) rfl rfl .no rfl rfl rfl sl35 sz47 hx342g.1 hx342g.2) <|
                        .cons (o_ldEM (enc := eapiPair) (xs := x76.1) (r := x341) [] rfl rfl .no rfl rfl hx342g.2 rfl ta47 rfl rfl) <|
                        .cons (o_mv rfl rfl .no rfl) <|
                        .cons (o_mv rfl rfl .no rfl) <|
                        .cons (o_ixAM (enc := eapiPair) (xs := x79.1) rfl rfl .no rfl rfl rfl sl35 sz47 hx345g.1 hx345g.2) <|
                        .cons (o_ldEM (enc := eapiPair) (xs := x79.1) (r := x344) [] rfl rfl .no rfl rfl hx345g.2 rfl ta47 rfl rfl) <|
                        .cons (o_ne rfl rfl .no rfl rfl rfl rfl eg47 (.st flds47 (.cons ta39 rfl rfl rfl rfl (.bs ar39 un5 sz5) (.cons ta9 rfl rfl rfl rfl (.str un9) .nil)))) <|
                        .cons (o_mv rfl rfl .no rfl) <|
                        .cons (o_noT rfl rfl rfl rfl hc347) <|
                        .cons (o_noT rfl rfl rfl rfl hc347) <|
                        .cons (o_noT rfl rfl rfl rfl hc347) <|
                        .cons (o_noT rfl rfl rfl rfl hc347) <|
                        .cons (o_noT rfl rfl rfl rfl hc347) <|
                        .cons (o_noT rfl rfl rfl rfl hc347) <|
                        .cons (o_noT rfl rfl rfl rfl hc347) <|
                        .cons (o_noT rfl rfl rfl rfl hc347) <|
                        .cons (o_noT rfl rfl rfl rfl hc347) <|
                        .cons (o_pickT rfl rfl .no rfl hc347 rfl) <|
                        .nil rfl
                      ) (by kernel_rfl) ?_
                      exact ⟨true, (Option.some.inj h348).symm, .w (weak_of ⟨⟨_, rfl, .d rfl⟩, ⟨_, rfl, .d rfl⟩, ⟨_, rfl, .ptro rfl rfl⟩, ⟨_, rfl, .arr rfl rfl⟩, ⟨_, rfl, .arr rfl rfl⟩, ⟨_, rfl, .arr rfl rfl⟩, ⟨_, rfl, .d rfl⟩, ⟨_, rfl, .d rfl⟩, trivial⟩ ⟨.own rfl (.of_eq rfl (oviewView_dat _)), .arr rfl rfl, .arr rfl rfl, .arr rfl rfl, trivial⟩ drop0)⟩
                    · skip
                      obtain ⟨x350, hx351, h352⟩ := bind_some h349
                      have hx351g := gx_some hx351
                      refine cw_region_any mixed (by kernel_rfl) (
                        .cons (o_mv rfl rfl .no rfl) <|
                        .cons (o_mv rfl rfl .no rfl) <|
                        .cons (o_ixAM (enc := eapiPair) (xs := x76.1) rfl rfl .no rfl rfl rfl sl35 sz47 hx342g.1 hx342g.2) <|
                        .cons (o_ldEM (enc := eapiPair) (xs := x76.1) (r := x341) [] rfl rfl .no rfl rfl hx342g.2 rfl ta47 rfl rfl) <|
                        .cons (o_mv rfl rfl .no rfl) <|
                        .cons (o_mv rfl rfl .no rfl) <|
                        .cons (o_ixAM (enc := eapiPair) (xs := x79.1) rfl rfl .no rfl rfl rfl sl35 sz47 hx345g.1 hx345g.2) <|
                        .cons (o_ldEM (enc := eapiPair) (xs := x79.1) (r := x344) [] rfl rfl .no rfl rfl hx345g.2 rfl ta47 rfl rfl) <|
                        .cons (o_ne rfl rfl .no rfl rfl rfl rfl eg47 (.st flds47 (.cons ta39 rfl rfl rfl rfl (.bs ar39 un5 sz5) (.cons ta9 rfl rfl rfl rfl (.str un9) .nil)))) <|
                        .cons (o_mv rfl rfl .no rfl) <|
                        .cons (o_mv rfl rfl (.yes rfl rfl hc347) rfl) <|
                        .cons (o_mv rfl rfl (.yes rfl rfl hc347) rfl) <|
                        .cons (o_ixAM (enc := eapiPair) (xs := x76.1) rfl rfl (.yes rfl rfl hc347) rfl rfl rfl sl35 sz47 hx342g.1 hx342g.2) <|
                        .cons (o_ldEM (enc := eapiPair) (xs := x76.1) (r := x341) [] rfl rfl (.yes rfl rfl hc347) rfl rfl hx342g.2 rfl ta47 rfl rfl) <|
                        .cons (o_mv rfl rfl (.yes rfl rfl hc347) rfl) <|
                        .cons (o_mv rfl rfl (.yes rfl rfl hc347) rfl) <|
                        .cons (o_ixAM (enc := eapiPair) (xs := x82.1) rfl rfl (.yes rfl rfl hc347) rfl rfl rfl sl35 sz47 hx351g.1 hx351g.2) <|
                        .cons (o_ldEM (enc := eapiPair) (xs := x82.1) (r := x350) [] rfl rfl (.yes rfl rfl hc347) rfl rfl hx351g.2 rfl ta47 rfl rfl) <|
                        .cons (o_ne rfl rfl (.yes rfl rfl hc347) rfl rfl rfl rfl eg47 (.st flds47 (.cons ta39 rfl rfl rfl rfl (.bs ar39 un5 sz5) (.cons ta9 rfl rfl rfl rfl (.str un9) .nil)))) <|
                        .cons (o_pickF rfl rfl .no rfl hc347 rfl) <|
                        .nil rfl
                      ) (by kernel_rfl) ?_
                      exact ⟨(!((decide (x341.1 = x350.1)) && ((decide (x341.2 = x350.2)) && true))), (Option.some.inj h352).symm, .w (weak_of ⟨⟨_, rfl, .d rfl⟩, ⟨_, rfl, .d rfl⟩, ⟨_, rfl, .ptro rfl rfl⟩, ⟨_, rfl, .arr rfl rfl⟩, ⟨_, rfl, .arr rfl rfl⟩, ⟨_, rfl, .arr rfl rfl⟩, ⟨_, rfl, .d rfl⟩, ⟨_, rfl, .d rfl⟩, trivial⟩ ⟨.own rfl (.of_eq rfl (oviewView_dat _)), .arr rfl rfl, .arr rfl rfl, .arr rfl rfl, trivial⟩ drop0)⟩
                · refine cw_condF rfl hc317 ?_
                  refine cw_exit ?_
                  exact ⟨(), (hx316 _ (Option.some.inj h319).symm).symm, .w (weak_of ⟨⟨_, rfl, .d rfl⟩, ⟨_, rfl, .d rfl⟩, ⟨_, rfl, .ptro rfl rfl⟩, trivial⟩ ⟨.own rfl (.of_eq rfl (oviewView_dat _)), trivial⟩ drop0)⟩
          · skip
            rcases cond_some hj89 with ⟨hc91, h92⟩ | ⟨hc91, h93⟩
            · skip
              refine cw_region (
                .cons (o_mv rfl rfl .no rfl) <|
                .cons (o_lenAM (enc := eapiPair) (xs := x76.1) rfl rfl .no rfl rfl sl35) <|
                .cons (o_mv rfl rfl .no rfl) <|
                .cons (o_lenAM (enc := eapiPair) (xs := x79.1) rfl rfl .no rfl rfl sl35) <|
                .cons (o_bin rfl rfl .no rfl rfl (b_neq _ _) rfl) <|
                .cons (o_mv rfl rfl .no rfl) <|
                .cons (o_noT rfl rfl rfl rfl hc91) <|
                .cons (o_noT rfl rfl rfl rfl hc91) <|
                .cons (o_noT rfl rfl rfl rfl hc91) <|
                .cons (o_noT rfl rfl rfl rfl hc91) <|
                .cons (o_noT rfl rfl rfl rfl hc91) <|
                .cons (o_pickT rfl rfl .no rfl hc91 rfl) <|
                .nil rfl
              ) ?_
              exact ⟨true, (Option.some.inj h92).symm, .w (weak_of ⟨⟨_, rfl, .d rfl⟩, ⟨_, rfl, .d rfl⟩, ⟨_, rfl, .ptro rfl rfl⟩, ⟨_, rfl, .arr rfl rfl⟩, ⟨_, rfl, .arr rfl rfl⟩, ⟨_, rfl, .arr rfl rfl⟩, ⟨_, rfl, .d rfl⟩, trivial⟩ ⟨.own rfl (.of_eq rfl (oviewView_dat _)), .arr rfl rfl, .arr rfl rfl, .arr rfl rfl, trivial⟩ drop0)⟩
            · skip
              refine cw_region (
                .cons (o_mv rfl rfl .no rfl) <|
                .cons (o_lenAM (enc := eapiPair) (xs := x76.1) rfl rfl .no rfl rfl sl35) <|
                .cons (o_mv rfl rfl .no rfl) <|
                .cons (o_lenAM (enc := eapiPair) (xs := x79.1) rfl rfl .no rfl rfl sl35) <|
                .cons (o_bin rfl rfl .no rfl rfl (b_neq _ _) rfl) <|
                .cons (o_mv rfl rfl .no rfl) <|
                .cons (o_mv rfl rfl (.yes rfl rfl hc91) rfl) <|
                .cons (o_lenAM (enc := eapiPair) (xs := x76.1) rfl rfl (.yes rfl rfl hc91) rfl rfl sl35) <|
                .cons (o_mv rfl rfl (.yes rfl rfl hc91) rfl) <|
                .cons (o_lenAM (enc := eapiPair) (xs := x82.1) rfl rfl (.yes rfl rfl hc91) rfl rfl sl35) <|
                .cons (o_bin rfl rfl (.yes rfl rfl hc91) rfl rfl (b_neq _ _) rfl) <|
                .cons (o_pickF rfl rfl .no rfl hc91 rfl) <|
                .nil rfl
              ) ?_
              exact ⟨(decide ((x76.1.length : Int) ≠ (x82.1.length : Int))), (Option.some.inj h93).symm, .w (weak_of ⟨⟨_, rfl, .d rfl⟩, ⟨_, rfl, .d rfl⟩, ⟨_, rfl, .ptro rfl rfl⟩, ⟨_, rfl, .arr rfl rfl⟩, ⟨_, rfl, .arr rfl rfl⟩, ⟨_, rfl, .arr rfl rfl⟩, ⟨_, rfl, .d rfl⟩, trivial⟩ ⟨.own rfl (.of_eq rfl (oviewView_dat _)), .arr rfl rfl, .arr rfl rfl, .arr rfl rfl, trivial⟩ drop0)⟩
      · skip
        rcases cond_some hj59 with ⟨hc61, h62⟩ | ⟨hc61, h63⟩
        · skip
          refine cw_region (
            .cons (o_mv rfl rfl .no rfl) <|
            .cons (o_bin rfl rfl .no rfl rfl (b_neq _ _) rfl) <|
            .cons (o_mv rfl rfl .no rfl) <|
            .cons (o_noT rfl rfl rfl rfl hc61) <|
            .cons (o_noT rfl rfl rfl rfl hc61) <|
            .cons (o_pickT rfl rfl .no rfl hc61 rfl) <|
            .cons (o_mv rfl rfl .no rfl) <|
            .cons (o_noT rfl rfl rfl rfl rfl) <|
            .cons (o_noT rfl rfl rfl rfl rfl) <|
            .cons (o_pickT rfl rfl .no rfl rfl rfl) <|
            .cons (o_mv rfl rfl .no rfl) <|
            .cons (o_noT rfl rfl rfl rfl rfl) <|
            .cons (o_noT rfl rfl rfl rfl rfl) <|
            .cons (o_pickT rfl rfl .no rfl rfl rfl) <|
            .cons (o_mv rfl rfl .no rfl) <|
            .cons (o_noT rfl rfl rfl rfl rfl) <|
            .cons (o_noT rfl rfl rfl rfl rfl) <|
            .cons (o_pickT rfl rfl .no rfl rfl rfl) <|
            .nil rfl
          ) ?_
          exact ⟨true, (Option.some.inj h62).symm, .w (weak_of ⟨⟨_, rfl, .d rfl⟩, ⟨_, rfl, .d rfl⟩, ⟨_, rfl, .ptro rfl rfl⟩, ⟨_, rfl, .ptro rfl rfl⟩, ⟨_, rfl, .ptro rfl rfl⟩, ⟨_, rfl, .d rfl⟩, trivial⟩ ⟨.own rfl (.of_eq rfl (oviewView_dat _)), .own rfl (.of_eq rfl (oviewView_dat _)), .own rfl (.of_eq rfl (oviewView_dat _)), trivial⟩ drop0)⟩
        · skip
          rcases cond_some h63 with ⟨hc64, h65⟩ | ⟨hc64, h66⟩
          · skip
            refine cw_region (
              .cons (o_mv rfl rfl .no rfl) <|
              .cons (o_bin rfl rfl .no rfl rfl (b_neq _ _) rfl) <|
              .cons (o_mv rfl rfl .no rfl) <|
              .cons (o_mv rfl rfl (.yes rfl rfl hc61) rfl) <|
              .cons (o_bin rfl rfl (.yes rfl rfl hc61) rfl rfl (b_neq _ _) rfl) <|
              .cons (o_pickF rfl rfl .no rfl hc61 rfl) <|
              .cons (o_mv rfl rfl .no rfl) <|
              .cons (o_noT rfl rfl rfl rfl hc64) <|
              .cons (o_noT rfl rfl rfl rfl hc64) <|
              .cons (o_pickT rfl rfl .no rfl hc64 rfl) <|
              .cons (o_mv rfl rfl .no rfl) <|
              .cons (o_noT rfl rfl rfl rfl rfl) <|
              .cons (o_noT rfl rfl rfl rfl rfl) <|
              .cons (o_pickT rfl rfl .no rfl rfl rfl) <|
              .cons (o_mv rfl rfl .no rfl) <|
              .cons (o_noT rfl rfl rfl rfl rfl) <|
              .cons (o_noT rfl rfl rfl rfl rfl) <|
              .cons (o_pickT rfl rfl .no rfl rfl rfl) <|
              .nil rfl
            ) ?_
            exact ⟨true, (Option.some.inj h65).symm, .w (weak_of ⟨⟨_, rfl, .d rfl⟩, ⟨_, rfl, .d rfl⟩, ⟨_, rfl, .ptro rfl rfl⟩, ⟨_, rfl, .ptro rfl rfl⟩, ⟨_, rfl, .ptro rfl rfl⟩, ⟨_, rfl, .d rfl⟩, trivial⟩ ⟨.own rfl (.of_eq rfl (oviewView_dat _)), .own rfl (.of_eq rfl (oviewView_dat _)), .own rfl (.of_eq rfl (oviewView_dat _)), trivial⟩ drop0)⟩
          · skip
            rcases cond_some h66 with ⟨hc67, h68⟩ | ⟨hc67, h69⟩
            · skip
              refine cw_region (
                .cons (o_mv rfl rfl .no rfl) <|
                .cons (o_bin rfl rfl .no rfl rfl (b_neq _ _) rfl) <|
                .cons (o_mv rfl rfl .no rfl) <|
                .cons (o_mv rfl rfl (.yes rfl rfl hc61) rfl) <|
                .cons (o_bin rfl rfl (.yes rfl rfl hc61) rfl rfl (b_neq _ _) rfl) <|
                .cons (o_pickF rfl rfl .no rfl hc61 rfl) <|
                .cons (o_mv rfl rfl .no rfl) <|
                .cons (o_mv rfl rfl (.yes rfl rfl hc64) rfl) <|
                .cons (o_bin rfl rfl (.yes rfl rfl hc64) rfl rfl (b_neq _ _) rfl) <|
                .cons (o_pickF rfl rfl .no rfl hc64 rfl) <|
                .cons (o_mv rfl rfl .no rfl) <|
                .cons (o_noT rfl rfl rfl rfl hc67) <|
                .cons (o_noT rfl rfl rfl rfl hc67) <|
                .cons (o_pickT rfl rfl .no rfl hc67 rfl) <|
                .cons (o_mv rfl rfl .no rfl) <|
                .cons (o_noT rfl rfl rfl rfl rfl) <|
                .cons (o_noT rfl rfl rfl rfl rfl) <|
                .cons (o_pickT rfl rfl .no rfl rfl rfl) <|
                .nil rfl
              ) ?_
              exact ⟨true, (Option.some.inj h68).symm, .w (weak_of ⟨⟨_, rfl, .d rfl⟩, ⟨_, rfl, .d rfl⟩, ⟨_, rfl, .ptro rfl rfl⟩, ⟨_, rfl, .ptro rfl rfl⟩, ⟨_, rfl, .ptro rfl rfl⟩, ⟨_, rfl, .d rfl⟩, trivial⟩ ⟨.own rfl (.of_eq rfl (oviewView_dat _)), .own rfl (.of_eq rfl (oviewView_dat _)), .own rfl (.of_eq rfl (oviewView_dat _)), trivial⟩ drop0)⟩
            · skip
              rcases cond_some h69 with ⟨hc70, h71⟩ | ⟨hc70, h72⟩
              · skip
                refine cw_region (
                  .cons (o_mv rfl rfl .no rfl) <|
                  .cons (o_bin rfl rfl .no rfl rfl (b_neq _ _) rfl) <|
                  .cons (o_mv rfl rfl .no rfl) <|
                  .cons (o_mv rfl rfl (.yes rfl rfl hc61) rfl) <|
                  .cons (o_bin rfl rfl (.yes rfl rfl hc61) rfl rfl (b_neq _ _) rfl) <|
                  .cons (o_pickF rfl rfl .no rfl hc61 rfl) <|
                  .cons (o_mv rfl rfl .no rfl) <|
                  .cons (o_mv rfl rfl (.yes rfl rfl hc64) rfl) <|
                  .cons (o_bin rfl rfl (.yes rfl rfl hc64) rfl rfl (b_neq _ _) rfl) <|
                  .cons (o_pickF rfl rfl .no rfl hc64 rfl) <|
                  .cons (o_mv rfl rfl .no rfl) <|
                  .cons (o_mv rfl rfl (.yes rfl rfl hc67) rfl) <|
                  .cons (o_bin rfl rfl (.yes rfl rfl hc67) rfl rfl (b_neq _ _) rfl) <|
                  .cons (o_pickF rfl rfl .no rfl hc67 rfl) <|
                  .cons (o_mv rfl rfl .no rfl) <|
                  .cons (o_noT rfl rfl rfl rfl hc70) <|
                  .cons (o_noT rfl rfl rfl rfl hc70) <|
                  .cons (o_pickT rfl rfl .no rfl hc70 rfl) <|
                  .nil rfl
                ) ?_
                exact ⟨true, (Option.some.inj h71).symm, .w (weak_of ⟨⟨_, rfl, .d rfl⟩, ⟨_, rfl, .d rfl⟩, ⟨_, rfl, .ptro rfl rfl⟩, ⟨_, rfl, .ptro rfl rfl⟩, ⟨_, rfl, .ptro rfl rfl⟩, ⟨_, rfl, .d rfl⟩, trivial⟩ ⟨.own rfl (.of_eq rfl (oviewView_dat _)), .own rfl (.of_eq rfl (oviewView_dat _)), .own rfl (.of_eq rfl (oviewView_dat _)), trivial⟩ drop0)⟩
              · skip
                refine cw_region (
                  .cons (o_mv rfl rfl .no rfl) <|
                  .cons (o_bin rfl rfl .no rfl rfl (b_neq _ _) rfl) <|
                  .cons (o_mv rfl rfl .no rfl) <|
                  .cons (o_mv rfl rfl (.yes rfl rfl hc61) rfl) <|
                  .cons (o_bin rfl rfl (.yes rfl rfl hc61) rfl rfl (b_neq _ _) rfl) <|
                  .cons (o_pickF rfl rfl .no rfl hc61 rfl) <|
                  .cons (o_mv rfl rfl .no rfl) <|
                  .cons (o_mv rfl rfl (.yes rfl rfl hc64) rfl) <|
                  .cons (o_bin rfl rfl (.yes rfl rfl hc64) rfl rfl (b_neq _ _) rfl) <|
                  .cons (o_pickF rfl rfl .no rfl hc64 rfl) <|
                  .cons (o_mv rfl rfl .no rfl) <|
                  .cons (o_mv rfl rfl (.yes rfl rfl hc67) rfl) <|
                  .cons (o_bin rfl rfl (.yes rfl rfl hc67) rfl rfl (b_neq _ _) rfl) <|
                  .cons (o_pickF rfl rfl .no rfl hc67 rfl) <|
                  .cons (o_mv rfl rfl .no rfl) <|
                  .cons (o_mv rfl rfl (.yes rfl rfl hc70) rfl) <|
                  .cons (o_bin rfl rfl (.yes rfl rfl hc70) rfl rfl (b_neq _ _) rfl) <|
                  .cons (o_pickF rfl rfl .no rfl hc70 rfl) <|
                  .nil rfl
                ) ?_
                exact ⟨(decide (x43.1 ≠ 0)), (Option.some.inj h72).symm, .w (weak_of ⟨⟨_, rfl, .d rfl⟩, ⟨_, rfl, .d rfl⟩, ⟨_, rfl, .ptro rfl rfl⟩, ⟨_, rfl, .ptro rfl rfl⟩, ⟨_, rfl, .ptro rfl rfl⟩, ⟨_, rfl, .d rfl⟩, trivial⟩ ⟨.own rfl (.of_eq rfl (oviewView_dat _)), .own rfl (.of_eq rfl (oviewView_dat _)), .own rfl (.of_eq rfl (oviewView_dat _)), trivial⟩ drop0)⟩
  · skip
    rcases cond_some hj11 with ⟨hc13, h14⟩ | ⟨hc13, h15⟩
    · skip
      refine cw_region (
        .cons (o_mv rfl rfl .no rfl) <|
        .cons (o_not rfl rfl .no rfl) <|
        .cons (o_mv rfl rfl .no rfl) <|
        .cons (o_noT rfl rfl rfl rfl hc13) <|
        .cons (o_noT rfl rfl rfl rfl hc13) <|
        .cons (o_pickT rfl rfl .no rfl hc13 rfl) <|
        .cons (o_mv rfl rfl .no rfl) <|
        .cons (o_noT rfl rfl rfl rfl rfl) <|
        .cons (o_noT rfl rfl rfl rfl rfl) <|
        .cons (o_pickT rfl rfl .no rfl rfl rfl) <|
        .cons (o_mv rfl rfl .no rfl) <|
        .cons (o_noT rfl rfl rfl rfl rfl) <|
        .cons (o_noT rfl rfl rfl rfl rfl) <|
        .cons (o_pickT rfl rfl .no rfl rfl rfl) <|
        .nil rfl
      ) ?_
      exact ⟨true, (Option.some.inj h14).symm, .w (weak_of ⟨⟨_, rfl, .d rfl⟩, ⟨_, rfl, .d rfl⟩, ⟨_, rfl, .d rfl⟩, ⟨_, rfl, .ptro rfl rfl⟩, ⟨_, rfl, .ptro rfl rfl⟩, ⟨_, rfl, .ptro rfl rfl⟩, ⟨_, rfl, .d rfl⟩, trivial⟩ ⟨.own rfl (.of_eq rfl (oviewView_dat _)), .own rfl (.of_eq rfl (oviewView_dat _)), .own rfl (.of_eq rfl (oviewView_dat _)), trivial⟩ drop0)⟩
    · skip
      refine cw_region (
        .cons (o_mv rfl rfl .no rfl) <|
        .cons (o_not rfl rfl .no rfl) <|
        .cons (o_mv rfl rfl .no rfl) <|
        .cons (o_mv rfl rfl (.yes rfl rfl hc13) rfl) <|
        .cons (o_pnilP rfl rfl (.yes rfl rfl hc13) rfl up24) <|
        .cons (o_pickF rfl rfl .no rfl hc13 rfl) <|
        .cons (o_mv rfl rfl .no rfl) <|
        .cons (o_mv rfl rfl (.yes rfl rfl rfl) rfl) <|
        .cons (o_pnilP rfl rfl (.yes rfl rfl rfl) rfl up24) <|
        .cons (o_pickF rfl rfl .no rfl rfl rfl) <|
        .cons (o_mv rfl rfl .no rfl) <|
        .cons (o_mv rfl rfl (.yes rfl rfl rfl) rfl) <|
        .cons (o_pnilP rfl rfl (.yes rfl rfl rfl) rfl up24) <|
        .cons (o_pickF rfl rfl .no rfl rfl rfl) <|
        .nil rfl
      ) ?_
      exact ⟨false, (Option.some.inj h15).symm, .w (weak_of ⟨⟨_, rfl, .d rfl⟩, ⟨_, rfl, .d rfl⟩, ⟨_, rfl, .d rfl⟩, ⟨_, rfl, .ptro rfl rfl⟩, ⟨_, rfl, .ptro rfl rfl⟩, ⟨_, rfl, .ptro rfl rfl⟩, ⟨_, rfl, .d rfl⟩, trivial⟩ ⟨.own rfl (.of_eq rfl (oviewView_dat _)), .own rfl (.of_eq rfl (oviewView_dat _)), .own rfl (.of_eq rfl (oviewView_dat _)), trivial⟩ drop0)⟩

end
end Go.Val

