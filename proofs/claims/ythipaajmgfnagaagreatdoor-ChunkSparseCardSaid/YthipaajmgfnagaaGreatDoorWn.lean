/- Walks of the program's functions, printed. -/
import Derived.Test.YthipaajmgfnagaaGreatDoorWj
set_option linter.unusedSectionVars false
set_option linter.unusedVariables false
set_option linter.unusedSimpArgs false
namespace Go.Val
open Go.RowKit Go.Proofs

section
variable [NoDrw]

noncomputable def law13_ChunkSparse (a0 : Int) (a1 : ByteArray) (a2 : Int) : Option Bool :=
 (law13_shown).bind fun x1 =>
 (view_New_n).bind fun x4 =>
 (((
  cond (!x1) (
   some true
  ) (
   some false
  )
 ) : Option Bool)).bind fun o10 =>
 cond o10 (
  some false
 ) (
  (cutB 0 (min (a1.size : Int) 300) a1.size).bind fun _ =>
  (chunk_Write x4 5 (Int.tmod (bitsAnd .i64 a0 1048575) 1048076) (a1.extract 0 (min (a1.size : Int) 300).toNat)).bind fun x22 =>
  (view_View_Scan x22.2 ((List.replicate 24 0), (List.replicate 24 0), true)).bind fun x25 =>
  (((
   cond (decide ((a1.extract 0 (min (a1.size : Int) 300).toNat) ≠ (ByteArray.mk #[]))) (
    some (IntKind.wrap .i64 ((IntKind.wrap .i64 ((IntKind.wrap .i64 (Int.tdiv (IntKind.wrap .i64 ((IntKind.wrap .i64 ((Int.tmod (bitsAnd .i64 a0 1048575) 1048076) + ((a1.extract 0 (min (a1.size : Int) 300).toNat).size : Int))) - 1)) 32)) - (IntKind.wrap .i64 (Int.tdiv (Int.tmod (bitsAnd .i64 a0 1048575) 1048076) 32)))) + 1))
   ) (
    some 0
   )
  ) : Option Int)).bind fun o31 =>
  (chunk_Read x25.2.2 5 (max (IntKind.wrap .i64 ((Int.tmod (bitsAnd .i64 a0 1048575) 1048076) - (bitsAnd .i64 a2 127))) 0) (IntKind.wrap .i64 ((Int.tmod (bitsAnd .i64 a0 1048575) 1048076) - (max (IntKind.wrap .i64 ((Int.tmod (bitsAnd .i64 a0 1048575) 1048076) - (bitsAnd .i64 a2 127))) 0)))).bind fun x37 =>
  (chunk_Read x37.2.2 5 (IntKind.wrap .i64 ((Int.tmod (bitsAnd .i64 a0 1048575) 1048076) + ((a1.extract 0 (min (a1.size : Int) 300).toNat).size : Int))) (bitsAnd .i64 a2 127)).bind fun x40 =>
  (((
   cond (decide (x22.1 = 0)) (
    cond (decide (x25.2.1 = 0)) (
     cond (decide (x37.2.1 = 0)) (
      cond (decide (x40.2.1 = 0)) (
       cond (decide ((x25.1.length : Int) ≤ o31)) (
        (ck (decide (0 ≤ (IntKind.wrap .i64 ((Int.tmod (bitsAnd .i64 a0 1048575) 1048076) - (max (IntKind.wrap .i64 ((Int.tmod (bitsAnd .i64 a0 1048575) 1048076) - (bitsAnd .i64 a2 127))) 0))) ∧ (IntKind.wrap .i64 ((Int.tmod (bitsAnd .i64 a0 1048575) 1048076) - (max (IntKind.wrap .i64 ((Int.tmod (bitsAnd .i64 a0 1048575) 1048076) - (bitsAnd .i64 a2 127))) 0))) ≤ 140737488355328))).bind fun _ =>
        cond (decide (x37.1 = (ByteArray.mk (List.replicate (IntKind.wrap .i64 ((Int.tmod (bitsAnd .i64 a0 1048575) 1048076) - (max (IntKind.wrap .i64 ((Int.tmod (bitsAnd .i64 a0 1048575) 1048076) - (bitsAnd .i64 a2 127))) 0))).toNat (0 : UInt8)).toArray))) (
         (ck (decide (0 ≤ (bitsAnd .i64 a2 127) ∧ (bitsAnd .i64 a2 127) ≤ 140737488355328))).bind fun _ =>
         some (decide (x40.1 = (ByteArray.mk (List.replicate (bitsAnd .i64 a2 127).toNat (0 : UInt8)).toArray)))
        ) (
         some false
        )
       ) (
        some false
       )
      ) (
       some false
      )
     ) (
      some false
     )
    ) (
     some false
    )
   ) (
    some false
   )
  ) : Option Bool)).bind fun o67 =>
  some o67
 )

set_option maxRecDepth 100000 in
theorem law13_ChunkSparse_ok {a0 : Int} {a1 : ByteArray} {a2 : Int} {r : Bool} (h : law13_ChunkSparse a0 a1 a2 = some r) : FnOk Tryz.prog 7 [.d (eint a0), .d (estring a1), .d (eint a2)] 0 (lk []) (fun rr oo => rr = .d (ebool r) ∧ oo = lk []) := by
  refine fnOk_of Tryz.func7 rfl rfl (cw_post ?_)
  unfold law13_ChunkSparse at h
  refine cw_seq (cw_region (
    .cons (o_as rfl rfl .no rfl) <|
    .nil rfl
  ) ?_)
  obtain ⟨x1, hx2, h3⟩ := bind_some (x := law13_shown) h
  refine cw_seq (cw_region (
    .cons (o_call rfl rfl .no Tryz.func10 rfl rfl (law13_shown_ok hx2) .nil trivial (.inl rfl)) <|
    .cons (o_as rfl rfl .no rfl) <|
    .nil rfl
  ) ?_)
  obtain ⟨x4, hx5, h6⟩ := bind_some (x := view_New_n) h3
  refine cw_seq (cw_region (
    .cons (o_callO 0 rfl rfl .no Tryz.func11 rfl rfl (view_New_n_ok hx5) (.cons rfl .d .nil) ⟨trivial, trivial⟩ rfl (.inl rfl)) <|
    .cons (o_as rfl rfl .no rfl) <|
    .nil rfl
  ) ?_)
  refine cw_seq ?_
  obtain ⟨o10, hj11, h12⟩ := bind_some h6
  refine cw_join (fun (z : Bool) => St.of [(0, .d (eint a0)), (1, .d (estring a1)), (2, .d (eint a2)), (8, .ptr 0 0), (25, .d (ebool z))] [(0, .own (oviewView x4))]) (fun (z : Bool) => o10 = z) ?_ ?_
  · intro v98 hv99; subst hv99
    rcases cond_some h12 with ⟨hc16, h17⟩ | ⟨hc16, h18⟩
    · refine cw_condT rfl hc16 ?_
      refine cw_seq (cw_region (
        .cons (o_as rfl rfl .no rfl) <|
        .nil rfl
      ) ?_)
      have heq := ((Option.some.inj h17).symm).symm
      subst heq
      exact cw_ret ⟨_, (show Leads _ _ (St.of [(6, .d (ebool false))] []) from .w (weak_of ⟨⟨_, rfl, .d rfl⟩, trivial⟩ trivial drop0)), .inr rfl, _, res1 rfl rfl, rfl, rfl⟩
    · refine cw_condF rfl hc16 ?_
      refine cw_skip ?_
      refine cw_seq (cw_region (
        .cons (o_mv rfl rfl .no rfl) <|
        .cons (o_bin rfl rfl .no rfl rfl (b_and _ _) rfl) <|
        .cons (o_bin rfl rfl .no rfl rfl (b_rem _ _ (by decide)) rfl) <|
        .cons (o_as rfl rfl .no rfl) <|
        .nil rfl
      ) ?_)
      obtain ⟨x19, hx20, h21⟩ := bind_some h18
      have hx20g := cutB_some hx20
      refine cw_seq (cw_region (
        .cons (o_mv rfl rfl .no rfl) <|
        .cons (o_mv rfl rfl .no rfl) <|
        .cons (o_lenS rfl rfl .no rfl un9) <|
        .cons (o_min rfl rfl .no rfl rfl) <|
        .cons (o_slS rfl rfl .no rfl un9 .no (.val rfl hx20g.2.1) hx20g.2.2.1 hx20g.2.2.2) <|
        .cons (o_as rfl rfl .no rfl) <|
        .nil rfl
      ) ?_)
      obtain ⟨x22, hx23, h24⟩ := bind_some (x := chunk_Write x4 5 (Int.tmod (bitsAnd .i64 a0 1048575) 1048076) (a1.extract 0 (min (a1.size : Int) 300).toNat)) h21
      refine cw_seq (cw_region (
        .cons (o_mv rfl rfl .no rfl) <|
        .cons (o_mv rfl rfl .no rfl) <|
        .cons (o_mv rfl rfl .no rfl) <|
        .cons (o_callX (fun n => bif Nat.beq n 0 then 0 else 1) rfl rfl .no Tryz.func13 rfl rfl (chunk_Write_ok hx23) (.cons rfl (.p rfl) (.cons rfl .d (.cons rfl .d (.cons rfl .d .nil)))) (callInG [4] rfl ⟨(by simp [AV.live, lk, Nat.beq]), trivial, trivial, trivial, trivial⟩ ⟨⟨rfl, (OD.dat_live (oviewView_dat _))⟩, trivial⟩ rfl rfl rfl ⟨rfl, trivial⟩ rfl) (.inl rfl)) <|
        .cons (o_as rfl rfl .no rfl) <|
        .nil rfl
      ) ?_)
      obtain ⟨x25, hx26, h27⟩ := bind_some (x := view_View_Scan x22.2 ((List.replicate 24 0), (List.replicate 24 0), true)) h24
      refine cw_seq (cw_region (
        .cons (o_mv rfl rfl .no rfl) <|
        .cons (o_bld (ds := [eapiKey (List.replicate 24 0), eapiKey (List.replicate 24 0), ebool true]) rfl rfl .no zs41 rfl pl41 (.cons rfl rfl rfl rfl rfl rfl rfl .nil)) <|
        .cons (o_callX (fun n => bif Nat.beq n 0 then 0 else 2) rfl rfl .no Tryz.func15 rfl rfl (view_View_Scan_ok hx26) (.cons rfl (.p rfl) (.cons rfl .d .nil)) (callIn1N rfl ⟨(by simp [AV.live, lk, Nat.beq]), trivial, trivial⟩ (by decide) rfl (OD.dat_live (oviewView_dat _)) rfl (by simp)) (.inl rfl)) <|
        .cons (o_mv rfl rfl .no rfl) <|
        .cons (o_ext rfl rfl .no rfl rfl) <|
        .cons (o_ext rfl rfl .no rfl rfl) <|
        .cons (o_as rfl rfl .no rfl) <|
        .cons (o_as rfl rfl .no rfl) <|
        .nil rfl
      ) ?_)
      refine cw_seq (cw_region (
        .cons (o_as rfl rfl .no rfl) <|
        .nil rfl
      ) ?_)
      obtain ⟨o31, hj32, h33⟩ := bind_some h27
      refine cw_join (fun (z : Int) => St.of [(0, .d (eint (Int.tmod (bitsAnd .i64 a0 1048575) 1048076))), (1, .d (estring (a1.extract 0 (min (a1.size : Int) 300).toNat))), (2, .d (eint a2)), (8, .ptr 0 0), (9, .d (eapiErrno x22.1)), (10, .arr 2 0), (11, .d (eapiErrno x25.2.1)), (12, .d (eint z))] [(0, .own (oviewView x25.2.2)), (2, .arr 0 25 (x25.1.map eapiPair))]) (fun (z : Int) => o31 = z) ?_ ?_
      · intro v96 hv97; subst hv97
        refine cw_seq (cw_region (
          .cons (o_mv rfl rfl .no rfl) <|
          .cons (o_bin rfl rfl .no rfl rfl (b_and _ _) rfl) <|
          .cons (o_as rfl rfl .no rfl) <|
          .nil rfl
        ) ?_)
        refine cw_seq (cw_region (
          .cons (o_mv rfl rfl .no rfl) <|
          .cons (o_mv rfl rfl .no rfl) <|
          .cons (o_bin rfl rfl .no rfl rfl (b_sub _ _) rfl) <|
          .cons (o_max rfl rfl .no rfl rfl) <|
          .cons (o_as rfl rfl .no rfl) <|
          .nil rfl
        ) ?_)
        obtain ⟨x37, hx38, h39⟩ := bind_some (x := chunk_Read x25.2.2 5 (max (IntKind.wrap .i64 ((Int.tmod (bitsAnd .i64 a0 1048575) 1048076) - (bitsAnd .i64 a2 127))) 0) (IntKind.wrap .i64 ((Int.tmod (bitsAnd .i64 a0 1048575) 1048076) - (max (IntKind.wrap .i64 ((Int.tmod (bitsAnd .i64 a0 1048575) 1048076) - (bitsAnd .i64 a2 127))) 0)))) h33
        refine cw_seq (cw_region (
          .cons (o_mv rfl rfl .no rfl) <|
          .cons (o_mv rfl rfl .no rfl) <|
          .cons (o_mv rfl rfl .no rfl) <|
          .cons (o_mv rfl rfl .no rfl) <|
          .cons (o_bin rfl rfl .no rfl rfl (b_sub _ _) rfl) <|
          .cons (o_callX (fun _ => 0) rfl rfl .no Tryz.func14 rfl rfl (chunk_Read_ok hx38) (.cons rfl (.p rfl) (.cons rfl .d (.cons rfl .d (.cons rfl .d .nil)))) (callIn1 rfl ⟨(by simp [AV.live, lk, Nat.beq]), trivial, trivial, trivial, trivial⟩ rfl (OD.dat_live (oviewView_dat _)) (by simp)) (.inl rfl)) <|
          .cons (o_mv rfl rfl .no rfl) <|
          .cons (o_ext rfl rfl .no rfl rfl) <|
          .cons (o_ext rfl rfl .no rfl rfl) <|
          .cons (o_as rfl rfl .no rfl) <|
          .cons (o_as rfl rfl .no rfl) <|
          .nil rfl
        ) ?_)
        obtain ⟨x40, hx41, h42⟩ := bind_some (x := chunk_Read x37.2.2 5 (IntKind.wrap .i64 ((Int.tmod (bitsAnd .i64 a0 1048575) 1048076) + ((a1.extract 0 (min (a1.size : Int) 300).toNat).size : Int))) (bitsAnd .i64 a2 127)) h39
        refine cw_seq (cw_region (
          .cons (o_mv rfl rfl .no rfl) <|
          .cons (o_mv rfl rfl .no rfl) <|
          .cons (o_mv rfl rfl .no rfl) <|
          .cons (o_lenS rfl rfl .no rfl un9) <|
          .cons (o_bin rfl rfl .no rfl rfl (b_add _ _) rfl) <|
          .cons (o_mv rfl rfl .no rfl) <|
          .cons (o_callX (fun _ => 0) rfl rfl .no Tryz.func14 rfl rfl (chunk_Read_ok hx41) (.cons rfl (.p rfl) (.cons rfl .d (.cons rfl .d (.cons rfl .d .nil)))) (callIn1 rfl ⟨(by simp [AV.live, lk, Nat.beq]), trivial, trivial, trivial, trivial⟩ rfl (OD.dat_live (oviewView_dat _)) (by simp)) (.inl rfl)) <|
          .cons (o_mv rfl rfl .no rfl) <|
          .cons (o_ext rfl rfl .no rfl rfl) <|
          .cons (o_ext rfl rfl .no rfl rfl) <|
          .cons (o_as rfl rfl .no rfl) <|
          .cons (o_as rfl rfl .no rfl) <|
          .nil rfl
        ) ?_)
        obtain ⟨o67, hj68, h69⟩ := bind_some h42
        refine cw_join (fun (z : Bool) => St.of [(6, .d (ebool z))] []) (fun (z : Bool) => o67 = z) ?_ ?_
        · intro v94 hv95; subst hv95
          have heq := ((Option.some.inj h69).symm).symm
          subst heq
          exact cw_ret ⟨_, (show Leads _ _ (St.of [(6, .d (ebool o67))] []) from .w (weak_of ⟨⟨_, rfl, .d rfl⟩, trivial⟩ trivial drop0)), .inr rfl, _, res1 rfl rfl, rfl, rfl⟩
        · skip
          rcases cond_some hj68 with ⟨hc70, h71⟩ | ⟨hc70, h72⟩
          · skip
            rcases cond_some h71 with ⟨hc73, h74⟩ | ⟨hc73, h75⟩
            · skip
              rcases cond_some h74 with ⟨hc76, h77⟩ | ⟨hc76, h78⟩
              · skip
                rcases cond_some h77 with ⟨hc79, h80⟩ | ⟨hc79, h81⟩
                · skip
                  rcases cond_some h80 with ⟨hc82, h83⟩ | ⟨hc82, h84⟩
                  · skip
                    obtain ⟨x85, hx86, h87⟩ := bind_some h83
                    have hx86g := ck_dec hx86
                    rcases cond_some h87 with ⟨hc88, h89⟩ | ⟨hc88, h90⟩
                    · skip
                      obtain ⟨x91, hx92, h93⟩ := bind_some h89
                      have hx92g := ck_dec hx92
                      refine cw_region (
                        .cons (o_mv rfl rfl .no rfl) <|
                        .cons (o_bin rfl rfl .no rfl rfl (b_eql _ _) rfl) <|
                        .cons (o_mv rfl rfl .no rfl) <|
                        .cons (o_mv rfl rfl (.yes rfl rfl hc70) rfl) <|
                        .cons (o_bin rfl rfl (.yes rfl rfl hc70) rfl rfl (b_eql _ _) rfl) <|
                        .cons (o_pickT rfl rfl .no rfl hc70 rfl) <|
                        .cons (o_mv rfl rfl .no rfl) <|
                        .cons (o_mv rfl rfl (.yes rfl rfl hc73) rfl) <|
                        .cons (o_bin rfl rfl (.yes rfl rfl hc73) rfl rfl (b_eql _ _) rfl) <|
                        .cons (o_pickT rfl rfl .no rfl hc73 rfl) <|
                        .cons (o_mv rfl rfl .no rfl) <|
                        .cons (o_mv rfl rfl (.yes rfl rfl hc76) rfl) <|
                        .cons (o_bin rfl rfl (.yes rfl rfl hc76) rfl rfl (b_eql _ _) rfl) <|
                        .cons (o_pickT rfl rfl .no rfl hc76 rfl) <|
                        .cons (o_mv rfl rfl .no rfl) <|
                        .cons (o_mv rfl rfl (.yes rfl rfl hc79) rfl) <|
                        .cons (o_lenAM (enc := eapiPair) (xs := x25.1) rfl rfl (.yes rfl rfl hc79) rfl rfl sl35) <|
                        .cons (o_mv rfl rfl (.yes rfl rfl hc79) rfl) <|
                        .cons (o_bin rfl rfl (.yes rfl rfl hc79) rfl rfl (b_leq _ _) rfl) <|
                        .cons (o_pickT rfl rfl .no rfl hc79 rfl) <|
                        .cons (o_mv rfl rfl .no rfl) <|
                        .cons (o_mv rfl rfl (.yes rfl rfl hc82) rfl) <|
                        .cons (o_mv rfl rfl (.yes rfl rfl hc82) rfl) <|
                        .cons (o_mv rfl rfl (.yes rfl rfl hc82) rfl) <|
                        .cons (o_bin rfl rfl (.yes rfl rfl hc82) rfl rfl (b_sub _ _) rfl) <|
                        .cons (o_mksl (n := (IntKind.wrap .i64 ((Int.tmod (bitsAnd .i64 a0 1048575) 1048076) - (max (IntKind.wrap .i64 ((Int.tmod (bitsAnd .i64 a0 1048575) 1048076) - (bitsAnd .i64 a2 127))) 0)))) 3 rfl rfl (.yes rfl rfl hc82) rfl rfl sl26 sz5 by5 zb5 hx86g rfl) <|
                        .cons (o_cvA (xs := (List.replicate (IntKind.wrap .i64 ((Int.tmod (bitsAnd .i64 a0 1048575) 1048076) - (max (IntKind.wrap .i64 ((Int.tmod (bitsAnd .i64 a0 1048575) 1048076) - (bitsAnd .i64 a2 127))) 0))).toNat (0 : UInt8))) rfl rfl (.yes rfl rfl hc82) rfl rfl sl26 un5 un9) <|
                        .cons (o_bin rfl rfl (.yes rfl rfl hc82) rfl rfl (s_eql _ _) rfl) <|
                        .cons (o_pickT rfl rfl .no rfl hc82 rfl) <|
                        .cons (o_mv rfl rfl .no rfl) <|
                        .cons (o_mv rfl rfl (.yes rfl rfl hc88) rfl) <|
                        .cons (o_mv rfl rfl (.yes rfl rfl hc88) rfl) <|
                        .cons (o_mksl (n := (bitsAnd .i64 a2 127)) 4 rfl rfl (.yes rfl rfl hc88) rfl rfl sl26 sz5 by5 zb5 hx92g rfl) <|
                        .cons (o_cvA (xs := (List.replicate (bitsAnd .i64 a2 127).toNat (0 : UInt8))) rfl rfl (.yes rfl rfl hc88) rfl rfl sl26 un5 un9) <|
                        .cons (o_bin rfl rfl (.yes rfl rfl hc88) rfl rfl (s_eql _ _) rfl) <|
                        .cons (o_pickT rfl rfl .no rfl hc88 rfl) <|
                        .cons (o_as rfl rfl .no rfl) <|
                        .nil rfl
                      ) ?_
                      exact ⟨(decide (x40.1 = (ByteArray.mk (List.replicate (bitsAnd .i64 a2 127).toNat (0 : UInt8)).toArray))), (Option.some.inj h93).symm, .w (weak_of ⟨⟨_, rfl, .d rfl⟩, trivial⟩ trivial drop0)⟩
                    · skip
                      refine cw_region (
                        .cons (o_mv rfl rfl .no rfl) <|
                        .cons (o_bin rfl rfl .no rfl rfl (b_eql _ _) rfl) <|
                        .cons (o_mv rfl rfl .no rfl) <|
                        .cons (o_mv rfl rfl (.yes rfl rfl hc70) rfl) <|
                        .cons (o_bin rfl rfl (.yes rfl rfl hc70) rfl rfl (b_eql _ _) rfl) <|
                        .cons (o_pickT rfl rfl .no rfl hc70 rfl) <|
                        .cons (o_mv rfl rfl .no rfl) <|
                        .cons (o_mv rfl rfl (.yes rfl rfl hc73) rfl) <|
                        .cons (o_bin rfl rfl (.yes rfl rfl hc73) rfl rfl (b_eql _ _) rfl) <|
                        .cons (o_pickT rfl rfl .no rfl hc73 rfl) <|
                        .cons (o_mv rfl rfl .no rfl) <|
                        .cons (o_mv rfl rfl (.yes rfl rfl hc76) rfl) <|
                        .cons (o_bin rfl rfl (.yes rfl rfl hc76) rfl rfl (b_eql _ _) rfl) <|
                        .cons (o_pickT rfl rfl .no rfl hc76 rfl) <|
                        .cons (o_mv rfl rfl .no rfl) <|
                        .cons (o_mv rfl rfl (.yes rfl rfl hc79) rfl) <|
                        .cons (o_lenAM (enc := eapiPair) (xs := x25.1) rfl rfl (.yes rfl rfl hc79) rfl rfl sl35) <|
                        .cons (o_mv rfl rfl (.yes rfl rfl hc79) rfl) <|
                        .cons (o_bin rfl rfl (.yes rfl rfl hc79) rfl rfl (b_leq _ _) rfl) <|
                        .cons (o_pickT rfl rfl .no rfl hc79 rfl) <|
                        .cons (o_mv rfl rfl .no rfl) <|
                        .cons (o_mv rfl rfl (.yes rfl rfl hc82) rfl) <|
                        .cons (o_mv rfl rfl (.yes rfl rfl hc82) rfl) <|
                        .cons (o_mv rfl rfl (.yes rfl rfl hc82) rfl) <|
                        .cons (o_bin rfl rfl (.yes rfl rfl hc82) rfl rfl (b_sub _ _) rfl) <|
                        .cons (o_mksl (n := (IntKind.wrap .i64 ((Int.tmod (bitsAnd .i64 a0 1048575) 1048076) - (max (IntKind.wrap .i64 ((Int.tmod (bitsAnd .i64 a0 1048575) 1048076) - (bitsAnd .i64 a2 127))) 0)))) 3 rfl rfl (.yes rfl rfl hc82) rfl rfl sl26 sz5 by5 zb5 hx86g rfl) <|
                        .cons (o_cvA (xs := (List.replicate (IntKind.wrap .i64 ((Int.tmod (bitsAnd .i64 a0 1048575) 1048076) - (max (IntKind.wrap .i64 ((Int.tmod (bitsAnd .i64 a0 1048575) 1048076) - (bitsAnd .i64 a2 127))) 0))).toNat (0 : UInt8))) rfl rfl (.yes rfl rfl hc82) rfl rfl sl26 un5 un9) <|
                        .cons (o_bin rfl rfl (.yes rfl rfl hc82) rfl rfl (s_eql _ _) rfl) <|
                        .cons (o_pickT rfl rfl .no rfl hc82 rfl) <|
                        .cons (o_mv rfl rfl .no rfl) <|
                        .cons (o_noT rfl rfl rfl rfl hc88) <|
                        .cons (o_noT rfl rfl rfl rfl hc88) <|
                        .cons (o_noT rfl rfl rfl rfl hc88) <|
                        .cons (o_noT rfl rfl rfl rfl hc88) <|
                        .cons (o_noT rfl rfl rfl rfl hc88) <|
                        .cons (o_pickF rfl rfl .no rfl hc88 rfl) <|
                        .cons (o_as rfl rfl .no rfl) <|
                        .nil rfl
                      ) ?_
                      exact ⟨false, (Option.some.inj h90).symm, .w (weak_of ⟨⟨_, rfl, .d rfl⟩, trivial⟩ trivial drop0)⟩
                  · skip
                    refine cw_region (
                      .cons (o_mv rfl rfl .no rfl) <|
                      .cons (o_bin rfl rfl .no rfl rfl (b_eql _ _) rfl) <|
                      .cons (o_mv rfl rfl .no rfl) <|
                      .cons (o_mv rfl rfl (.yes rfl rfl hc70) rfl) <|
                      .cons (o_bin rfl rfl (.yes rfl rfl hc70) rfl rfl (b_eql _ _) rfl) <|
                      .cons (o_pickT rfl rfl .no rfl hc70 rfl) <|
                      .cons (o_mv rfl rfl .no rfl) <|
                      .cons (o_mv rfl rfl (.yes rfl rfl hc73) rfl) <|
                      .cons (o_bin rfl rfl (.yes rfl rfl hc73) rfl rfl (b_eql _ _) rfl) <|
                      .cons (o_pickT rfl rfl .no rfl hc73 rfl) <|
                      .cons (o_mv rfl rfl .no rfl) <|
                      .cons (o_mv rfl rfl (.yes rfl rfl hc76) rfl) <|
                      .cons (o_bin rfl rfl (.yes rfl rfl hc76) rfl rfl (b_eql _ _) rfl) <|
                      .cons (o_pickT rfl rfl .no rfl hc76 rfl) <|
                      .cons (o_mv rfl rfl .no rfl) <|
                      .cons (o_mv rfl rfl (.yes rfl rfl hc79) rfl) <|
                      .cons (o_lenAM (enc := eapiPair) (xs := x25.1) rfl rfl (.yes rfl rfl hc79) rfl rfl sl35) <|
                      .cons (o_mv rfl rfl (.yes rfl rfl hc79) rfl) <|
                      .cons (o_bin rfl rfl (.yes rfl rfl hc79) rfl rfl (b_leq _ _) rfl) <|
                      .cons (o_pickT rfl rfl .no rfl hc79 rfl) <|
                      .cons (o_mv rfl rfl .no rfl) <|
                      .cons (o_noT rfl rfl rfl rfl hc82) <|
                      .cons (o_noT rfl rfl rfl rfl hc82) <|
                      .cons (o_noT rfl rfl rfl rfl hc82) <|
                      .cons (o_noT rfl rfl rfl rfl hc82) <|
                      .cons (o_noT rfl rfl rfl rfl hc82) <|
                      .cons (o_noT rfl rfl rfl rfl hc82) <|
                      .cons (o_noT rfl rfl rfl rfl hc82) <|
                      .cons (o_pickF rfl rfl .no rfl hc82 rfl) <|
                      .cons (o_mv rfl rfl .no rfl) <|
                      .cons (o_noT rfl rfl rfl rfl rfl) <|
                      .cons (o_noT rfl rfl rfl rfl rfl) <|
                      .cons (o_noT rfl rfl rfl rfl rfl) <|
                      .cons (o_noT rfl rfl rfl rfl rfl) <|
                      .cons (o_noT rfl rfl rfl rfl rfl) <|
                      .cons (o_pickF rfl rfl .no rfl rfl rfl) <|
                      .cons (o_as rfl rfl .no rfl) <|
                      .nil rfl
                    ) ?_
                    exact ⟨false, (Option.some.inj h84).symm, .w (weak_of ⟨⟨_, rfl, .d rfl⟩, trivial⟩ trivial drop0)⟩
                · skip
                  refine cw_region (
                    .cons (o_mv rfl rfl .no rfl) <|
                    .cons (o_bin rfl rfl .no rfl rfl (b_eql _ _) rfl) <|
                    .cons (o_mv rfl rfl .no rfl) <|
                    .cons (o_mv rfl rfl (.yes rfl rfl hc70) rfl) <|
                    .cons (o_bin rfl rfl (.yes rfl rfl hc70) rfl rfl (b_eql _ _) rfl) <|
                    .cons (o_pickT rfl rfl .no rfl hc70 rfl) <|
                    .cons (o_mv rfl rfl .no rfl) <|
                    .cons (o_mv rfl rfl (.yes rfl rfl hc73) rfl) <|
                    .cons (o_bin rfl rfl (.yes rfl rfl hc73) rfl rfl (b_eql _ _) rfl) <|
                    .cons (o_pickT rfl rfl .no rfl hc73 rfl) <|
                    .cons (o_mv rfl rfl .no rfl) <|
                    .cons (o_mv rfl rfl (.yes rfl rfl hc76) rfl) <|
                    .cons (o_bin rfl rfl (.yes rfl rfl hc76) rfl rfl (b_eql _ _) rfl) <|
                    .cons (o_pickT rfl rfl .no rfl hc76 rfl) <|
                    .cons (o_mv rfl rfl .no rfl) <|
                    .cons (o_noT rfl rfl rfl rfl hc79) <|
                    .cons (o_noT rfl rfl rfl rfl hc79) <|
                    .cons (o_noT rfl rfl rfl rfl hc79) <|
                    .cons (o_noT rfl rfl rfl rfl hc79) <|
                    .cons (o_pickF rfl rfl .no rfl hc79 rfl) <|
                    .cons (o_mv rfl rfl .no rfl) <|
                    .cons (o_noT rfl rfl rfl rfl rfl) <|
                    .cons (o_noT rfl rfl rfl rfl rfl) <|
                    .cons (o_noT rfl rfl rfl rfl rfl) <|
                    .cons (o_noT rfl rfl rfl rfl rfl) <|
                    .cons (o_noT rfl rfl rfl rfl rfl) <|
                    .cons (o_noT rfl rfl rfl rfl rfl) <|
                    .cons (o_noT rfl rfl rfl rfl rfl) <|
                    .cons (o_pickF rfl rfl .no rfl rfl rfl) <|
                    .cons (o_mv rfl rfl .no rfl) <|
                    .cons (o_noT rfl rfl rfl rfl rfl) <|
                    .cons (o_noT rfl rfl rfl rfl rfl) <|
                    .cons (o_noT rfl rfl rfl rfl rfl) <|
                    .cons (o_noT rfl rfl rfl rfl rfl) <|
                    .cons (o_noT rfl rfl rfl rfl rfl) <|
                    .cons (o_pickF rfl rfl .no rfl rfl rfl) <|
                    .cons (o_as rfl rfl .no rfl) <|
                    .nil rfl
                  ) ?_
                  exact ⟨false, (Option.some.inj h81).symm, .w (weak_of ⟨⟨_, rfl, .d rfl⟩, trivial⟩ trivial drop0)⟩
              · skip
                refine cw_region (
                  .cons (o_mv rfl rfl .no rfl) <|
                  .cons (o_bin rfl rfl .no rfl rfl (b_eql _ _) rfl) <|
                  .cons (o_mv rfl rfl .no rfl) <|
                  .cons (o_mv rfl rfl (.yes rfl rfl hc70) rfl) <|
                  .cons (o_bin rfl rfl (.yes rfl rfl hc70) rfl rfl (b_eql _ _) rfl) <|
                  .cons (o_pickT rfl rfl .no rfl hc70 rfl) <|
                  .cons (o_mv rfl rfl .no rfl) <|
                  .cons (o_mv rfl rfl (.yes rfl rfl hc73) rfl) <|
                  .cons (o_bin rfl rfl (.yes rfl rfl hc73) rfl rfl (b_eql _ _) rfl) <|
                  .cons (o_pickT rfl rfl .no rfl hc73 rfl) <|
                  .cons (o_mv rfl rfl .no rfl) <|
                  .cons (o_noT rfl rfl rfl rfl hc76) <|
                  .cons (o_noT rfl rfl rfl rfl hc76) <|
                  .cons (o_pickF rfl rfl .no rfl hc76 rfl) <|
                  .cons (o_mv rfl rfl .no rfl) <|
                  .cons (o_noT rfl rfl rfl rfl rfl) <|
                  .cons (o_noT rfl rfl rfl rfl rfl) <|
                  .cons (o_noT rfl rfl rfl rfl rfl) <|
                  .cons (o_noT rfl rfl rfl rfl rfl) <|
                  .cons (o_pickF rfl rfl .no rfl rfl rfl) <|
                  .cons (o_mv rfl rfl .no rfl) <|
                  .cons (o_noT rfl rfl rfl rfl rfl) <|
                  .cons (o_noT rfl rfl rfl rfl rfl) <|
                  .cons (o_noT rfl rfl rfl rfl rfl) <|
                  .cons (o_noT rfl rfl rfl rfl rfl) <|
                  .cons (o_noT rfl rfl rfl rfl rfl) <|
                  .cons (o_noT rfl rfl rfl rfl rfl) <|
                  .cons (o_noT rfl rfl rfl rfl rfl) <|
                  .cons (o_pickF rfl rfl .no rfl rfl rfl) <|
                  .cons (o_mv rfl rfl .no rfl) <|
                  .cons (o_noT rfl rfl rfl rfl rfl) <|
                  .cons (o_noT rfl rfl rfl rfl rfl) <|
                  .cons (o_noT rfl rfl rfl rfl rfl) <|
                  .cons (o_noT rfl rfl rfl rfl rfl) <|
                  .cons (o_noT rfl rfl rfl rfl rfl) <|
                  .cons (o_pickF rfl rfl .no rfl rfl rfl) <|
                  .cons (o_as rfl rfl .no rfl) <|
                  .nil rfl
                ) ?_
                exact ⟨false, (Option.some.inj h78).symm, .w (weak_of ⟨⟨_, rfl, .d rfl⟩, trivial⟩ trivial drop0)⟩
            · skip
              refine cw_region (
                .cons (o_mv rfl rfl .no rfl) <|
                .cons (o_bin rfl rfl .no rfl rfl (b_eql _ _) rfl) <|
                .cons (o_mv rfl rfl .no rfl) <|
                .cons (o_mv rfl rfl (.yes rfl rfl hc70) rfl) <|
                .cons (o_bin rfl rfl (.yes rfl rfl hc70) rfl rfl (b_eql _ _) rfl) <|
                .cons (o_pickT rfl rfl .no rfl hc70 rfl) <|
                .cons (o_mv rfl rfl .no rfl) <|
                .cons (o_noT rfl rfl rfl rfl hc73) <|
                .cons (o_noT rfl rfl rfl rfl hc73) <|
                .cons (o_pickF rfl rfl .no rfl hc73 rfl) <|
                .cons (o_mv rfl rfl .no rfl) <|
                .cons (o_noT rfl rfl rfl rfl rfl) <|
                .cons (o_noT rfl rfl rfl rfl rfl) <|
                .cons (o_pickF rfl rfl .no rfl rfl rfl) <|
                .cons (o_mv rfl rfl .no rfl) <|
                .cons (o_noT rfl rfl rfl rfl rfl) <|
                .cons (o_noT rfl rfl rfl rfl rfl) <|
                .cons (o_noT rfl rfl rfl rfl rfl) <|
                .cons (o_noT rfl rfl rfl rfl rfl) <|
                .cons (o_pickF rfl rfl .no rfl rfl rfl) <|
                .cons (o_mv rfl rfl .no rfl) <|
                .cons (o_noT rfl rfl rfl rfl rfl) <|
                .cons (o_noT rfl rfl rfl rfl rfl) <|
                .cons (o_noT rfl rfl rfl rfl rfl) <|
                .cons (o_noT rfl rfl rfl rfl rfl) <|
                .cons (o_noT rfl rfl rfl rfl rfl) <|
                .cons (o_noT rfl rfl rfl rfl rfl) <|
                .cons (o_noT rfl rfl rfl rfl rfl) <|
                .cons (o_pickF rfl rfl .no rfl rfl rfl) <|
                .cons (o_mv rfl rfl .no rfl) <|
                .cons (o_noT rfl rfl rfl rfl rfl) <|
                .cons (o_noT rfl rfl rfl rfl rfl) <|
                .cons (o_noT rfl rfl rfl rfl rfl) <|
                .cons (o_noT rfl rfl rfl rfl rfl) <|
                .cons (o_noT rfl rfl rfl rfl rfl) <|
                .cons (o_pickF rfl rfl .no rfl rfl rfl) <|
                .cons (o_as rfl rfl .no rfl) <|
                .nil rfl
              ) ?_
              exact ⟨false, (Option.some.inj h75).symm, .w (weak_of ⟨⟨_, rfl, .d rfl⟩, trivial⟩ trivial drop0)⟩
          · skip
            refine cw_region (
              .cons (o_mv rfl rfl .no rfl) <|
              .cons (o_bin rfl rfl .no rfl rfl (b_eql _ _) rfl) <|
              .cons (o_mv rfl rfl .no rfl) <|
              .cons (o_noT rfl rfl rfl rfl hc70) <|
              .cons (o_noT rfl rfl rfl rfl hc70) <|
              .cons (o_pickF rfl rfl .no rfl hc70 rfl) <|
              .cons (o_mv rfl rfl .no rfl) <|
              .cons (o_noT rfl rfl rfl rfl rfl) <|
              .cons (o_noT rfl rfl rfl rfl rfl) <|
              .cons (o_pickF rfl rfl .no rfl rfl rfl) <|
              .cons (o_mv rfl rfl .no rfl) <|
              .cons (o_noT rfl rfl rfl rfl rfl) <|
              .cons (o_noT rfl rfl rfl rfl rfl) <|
              .cons (o_pickF rfl rfl .no rfl rfl rfl) <|
              .cons (o_mv rfl rfl .no rfl) <|
              .cons (o_noT rfl rfl rfl rfl rfl) <|
              .cons (o_noT rfl rfl rfl rfl rfl) <|
              .cons (o_noT rfl rfl rfl rfl rfl) <|
              .cons (o_noT rfl rfl rfl rfl rfl) <|
              .cons (o_pickF rfl rfl .no rfl rfl rfl) <|
              .cons (o_mv rfl rfl .no rfl) <|
              .cons (o_noT rfl rfl rfl rfl rfl) <|
              .cons (o_noT rfl rfl rfl rfl rfl) <|
              .cons (o_noT rfl rfl rfl rfl rfl) <|
              .cons (o_noT rfl rfl rfl rfl rfl) <|
              .cons (o_noT rfl rfl rfl rfl rfl) <|
              .cons (o_noT rfl rfl rfl rfl rfl) <|
              .cons (o_noT rfl rfl rfl rfl rfl) <|
              .cons (o_pickF rfl rfl .no rfl rfl rfl) <|
              .cons (o_mv rfl rfl .no rfl) <|
              .cons (o_noT rfl rfl rfl rfl rfl) <|
              .cons (o_noT rfl rfl rfl rfl rfl) <|
              .cons (o_noT rfl rfl rfl rfl rfl) <|
              .cons (o_noT rfl rfl rfl rfl rfl) <|
              .cons (o_noT rfl rfl rfl rfl rfl) <|
              .cons (o_pickF rfl rfl .no rfl rfl rfl) <|
              .cons (o_as rfl rfl .no rfl) <|
              .nil rfl
            ) ?_
            exact ⟨false, (Option.some.inj h72).symm, .w (weak_of ⟨⟨_, rfl, .d rfl⟩, trivial⟩ trivial drop0)⟩
      · skip
        refine cw_seq (cw_region (
          .cons (o_mv rfl rfl .no rfl) <|
          .cons (o_bin rfl rfl .no rfl rfl (s_neq _ _) rfl) <|
          .nil rfl
        ) ?_)
        rcases cond_some hj32 with ⟨hc34, h35⟩ | ⟨hc34, h36⟩
        · refine cw_condT rfl hc34 ?_
          refine cw_region (
            .cons (o_mv rfl rfl .no rfl) <|
            .cons (o_mv rfl rfl .no rfl) <|
            .cons (o_lenS rfl rfl .no rfl un9) <|
            .cons (o_bin rfl rfl .no rfl rfl (b_add _ _) rfl) <|
            .cons (o_bin rfl rfl .no rfl rfl (b_sub _ _) rfl) <|
            .cons (o_bin rfl rfl .no rfl rfl (b_quo _ _ (by decide)) rfl) <|
            .cons (o_mv rfl rfl .no rfl) <|
            .cons (o_bin rfl rfl .no rfl rfl (b_quo _ _ (by decide)) rfl) <|
            .cons (o_bin rfl rfl .no rfl rfl (b_sub _ _) rfl) <|
            .cons (o_bin rfl rfl .no rfl rfl (b_add _ _) rfl) <|
            .cons (o_as rfl rfl .no rfl) <|
            .nil rfl
          ) ?_
          exact ⟨(IntKind.wrap .i64 ((IntKind.wrap .i64 ((IntKind.wrap .i64 (Int.tdiv (IntKind.wrap .i64 ((IntKind.wrap .i64 ((Int.tmod (bitsAnd .i64 a0 1048575) 1048076) + ((a1.extract 0 (min (a1.size : Int) 300).toNat).size : Int))) - 1)) 32)) - (IntKind.wrap .i64 (Int.tdiv (Int.tmod (bitsAnd .i64 a0 1048575) 1048076) 32)))) + 1)), (Option.some.inj h35).symm, .w (weak_of ⟨⟨_, rfl, .d rfl⟩, ⟨_, rfl, .d rfl⟩, ⟨_, rfl, .d rfl⟩, ⟨_, rfl, .ptro rfl rfl⟩, ⟨_, rfl, .d rfl⟩, ⟨_, rfl, .arr rfl rfl⟩, ⟨_, rfl, .d rfl⟩, ⟨_, rfl, .d rfl⟩, trivial⟩ ⟨.own rfl (.of_eq rfl (oviewView_dat _)), .arr rfl rfl, trivial⟩ drop0)⟩
        · refine cw_condF rfl hc34 ?_
          refine cw_skip ?_
          exact ⟨0, (Option.some.inj h36).symm, .w (weak_of ⟨⟨_, rfl, .d rfl⟩, ⟨_, rfl, .d rfl⟩, ⟨_, rfl, .d rfl⟩, ⟨_, rfl, .ptro rfl rfl⟩, ⟨_, rfl, .d rfl⟩, ⟨_, rfl, .arr rfl rfl⟩, ⟨_, rfl, .d rfl⟩, ⟨_, rfl, .d rfl⟩, trivial⟩ ⟨.own rfl (.of_eq rfl (oviewView_dat _)), .arr rfl rfl, trivial⟩ drop0)⟩
  · skip
    rcases cond_some hj11 with ⟨hc13, h14⟩ | ⟨hc13, h15⟩
    · skip
      refine cw_region (
        .cons (o_mv rfl rfl .no rfl) <|
        .cons (o_not rfl rfl .no rfl) <|
        .cons (o_mv rfl rfl .no rfl) <|
        .cons (o_noT rfl rfl rfl rfl hc13) <|
        .cons (o_noT rfl rfl rfl rfl hc13) <|
        .cons (o_pickT rfl rfl .no rfl hc13 rfl) <|
        .nil rfl
      ) ?_
      exact ⟨true, (Option.some.inj h14).symm, .w (weak_of ⟨⟨_, rfl, .d rfl⟩, ⟨_, rfl, .d rfl⟩, ⟨_, rfl, .d rfl⟩, ⟨_, rfl, .ptro rfl rfl⟩, ⟨_, rfl, .d rfl⟩, trivial⟩ ⟨.own rfl (.of_eq rfl (oviewView_dat _)), trivial⟩ drop0)⟩
    · skip
      refine cw_region (
        .cons (o_mv rfl rfl .no rfl) <|
        .cons (o_not rfl rfl .no rfl) <|
        .cons (o_mv rfl rfl .no rfl) <|
        .cons (o_mv rfl rfl (.yes rfl rfl hc13) rfl) <|
        .cons (o_pnilP rfl rfl (.yes rfl rfl hc13) rfl up24) <|
        .cons (o_pickF rfl rfl .no rfl hc13 rfl) <|
        .nil rfl
      ) ?_
      exact ⟨false, (Option.some.inj h15).symm, .w (weak_of ⟨⟨_, rfl, .d rfl⟩, ⟨_, rfl, .d rfl⟩, ⟨_, rfl, .d rfl⟩, ⟨_, rfl, .ptro rfl rfl⟩, ⟨_, rfl, .d rfl⟩, trivial⟩ ⟨.own rfl (.of_eq rfl (oviewView_dat _)), trivial⟩ drop0)⟩

end
end Go.Val

