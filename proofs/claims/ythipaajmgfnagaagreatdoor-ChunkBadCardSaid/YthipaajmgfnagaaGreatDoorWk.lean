/- Walks of the program's functions, printed. -/
import Derived.Test.YthipaajmgfnagaaGreatDoorWj
set_option linter.unusedSectionVars false
set_option linter.unusedVariables false
set_option linter.unusedSimpArgs false
namespace Go.Val
open Go.RowKit Go.Proofs

section
variable [NoDrw]

noncomputable def law13_ChunkBad (a0 : Int) (a1 : Int) (a2 : Int) (a3 : ByteArray) : Option Bool :=
 (law13_shown).bind fun x1 =>
 (view_New_n).bind fun x4 =>
 (((
  cond (!x1) (
   some true
  ) (
   some false
  )
 ) : Option Bool)).bind fun o10 =>
 cond o10 (
  some false
 ) (
  (cutB 0 (min (a3.size : Int) 100) a3.size).bind fun _ =>
  (((
   cond (decide (a0 ≥ 1)) (
    some (decide (a0 < 1073741824))
   ) (
    some false
   )
  ) : Option Bool)).bind fun o25 =>
  (((
   cond o25 (
    cond (decide (a1 ≥ 0)) (
     cond (decide (a2 ≥ 0)) (
      cond (decide (a1 ≤ 1048576)) (
       some (decide (a2 ≤ (IntKind.wrap .i64 (1048576 - a1))))
      ) (
       some false
      )
     ) (
      some false
     )
    ) (
     some false
    )
   ) (
    some false
   )
  ) : Option Bool)).bind fun o43 =>
  (((
   (((
    cond (decide (a2 > 5000)) (
     some o43
    ) (
     some false
    )
   ) : Option Bool)).bind fun o78 =>
   cond o78 (
    some (bitsAnd .i64 5000 a2)
   ) (
    some a2
   )
  ) : Option Int)).bind fun o72 =>
  (chunk_Read x4 a0 a1 o72).bind fun x89 =>
  (chunk_Cut x89.2.2 a0 a1).bind fun x92 =>
  (view_View_Changes x92.2).bind fun x95 =>
  (chunk_Write x95.2 a0 a1 (a3.extract 0 (min (a3.size : Int) 100).toNat)).bind fun x98 =>
  (((
   cond o25 (
    cond (decide (a1 ≥ 0)) (
     some (decide (a1 ≤ 1048576))
    ) (
     some false
    )
   ) (
    some false
   )
  ) : Option Bool)).bind fun o107 =>
  (((
   cond o107 (
    some (decide (((a3.extract 0 (min (a3.size : Int) 100).toNat).size : Int) ≤ (IntKind.wrap .i64 (1048576 - a1))))
   ) (
    some false
   )
  ) : Option Bool)).bind fun o119 =>
  (((
   cond ((decide (x89.2.1 = 0)) == o43) (
    cond o43 (
     cond ((decide (x98.1 = 0)) == o119) (
      cond o119 (
       cond ((decide (x92.1 = 0)) == o107) (
        cond o107 (
         some (decide ((x95.1.length : Int) = 0))
        ) (
         cond (decide (x92.1 = 1)) (
          some (decide ((x95.1.length : Int) = 0))
         ) (
          some false
         )
        )
       ) (
        some false
       )
      ) (
       cond (decide (x98.1 = 1)) (
        (view_View_Changes x98.2).bind fun x230 =>
        cond (decide ((x230.1.length : Int) = 0)) (
         cond ((decide (x92.1 = 0)) == o107) (
          cond o107 (
           some (decide ((x95.1.length : Int) = 0))
          ) (
           cond (decide (x92.1 = 1)) (
            some (decide ((x95.1.length : Int) = 0))
           ) (
            some false
           )
          )
         ) (
          some false
         )
        ) (
         some false
        )
       ) (
        some false
       )
      )
     ) (
      some false
     )
    ) (
     cond (decide (x89.2.1 = 1)) (
      cond (decide (x89.1 = (ByteArray.mk #[]))) (
       cond ((decide (x98.1 = 0)) == o119) (
        cond o119 (
         cond ((decide (x92.1 = 0)) == o107) (
          cond o107 (
           some (decide ((x95.1.length : Int) = 0))
          ) (
           cond (decide (x92.1 = 1)) (
            some (decide ((x95.1.length : Int) = 0))
           ) (
            some false
           )
          )
         ) (
          some false
         )
        ) (
         cond (decide (x98.1 = 1)) (
          (view_View_Changes x98.2).bind fun x269 =>
          cond (decide ((x269.1.length : Int) = 0)) (
           cond ((decide (x92.1 = 0)) == o107) (
            cond o107 (
             some (decide ((x95.1.length : Int) = 0))
            ) (
             cond (decide (x92.1 = 1)) (
              some (decide ((x95.1.length : Int) = 0))
             ) (
              some false
             )
            )
           ) (
            some false
           )
          ) (
           some false
          )
         ) (
          some false
         )
        )
       ) (
        some false
       )
      ) (
       some false
      )
     ) (
      some false
     )
    )
   ) (
    some false
   )
  ) : Option Bool)).bind fun o203 =>
  some o203
 )

set_option maxRecDepth 100000 in
theorem law13_ChunkBad_ok {a0 : Int} {a1 : Int} {a2 : Int} {a3 : ByteArray} {r : Bool} (h : law13_ChunkBad a0 a1 a2 a3 = some r) : FnOk Tryz.prog 5 [.d (eint a0), .d (eint a1), .d (eint a2), .d (estring a3)] 0 (lk []) (fun rr oo => rr = .d (ebool r) ∧ oo = lk []) := by
  refine fnOk_of Tryz.func5 rfl rfl (cw_post ?_)
  unfold law13_ChunkBad at h
  refine cw_seq (cw_region (
    .cons (o_as rfl rfl .no rfl) <|
    .nil rfl
  ) ?_)
  obtain ⟨x1, hx2, h3⟩ := bind_some (x := law13_shown) h
  refine cw_seq (cw_region (
    .cons (o_call rfl rfl .no Tryz.func10 rfl rfl (law13_shown_ok hx2) .nil trivial (.inl rfl)) <|
    .cons (o_as rfl rfl .no rfl) <|
    .nil rfl
  ) ?_)
  obtain ⟨x4, hx5, h6⟩ := bind_some (x := view_New_n) h3
  refine cw_seq (cw_region (
    .cons (o_callO 0 rfl rfl .no Tryz.func11 rfl rfl (view_New_n_ok hx5) (.cons rfl .d .nil) ⟨trivial, trivial⟩ rfl (.inl rfl)) <|
    .cons (o_as rfl rfl .no rfl) <|
    .nil rfl
  ) ?_)
  refine cw_seq ?_
  obtain ⟨o10, hj11, h12⟩ := bind_some h6
  refine cw_join (fun (z : Bool) => St.of [(0, .d (eint a0)), (1, .d (eint a1)), (2, .d (eint a2)), (3, .d (estring a3)), (10, .ptr 0 0), (27, .d (ebool z))] [(0, .own (oviewView x4))]) (fun (z : Bool) => o10 = z) ?_ ?_
  · intro v296 hv297; subst hv297
    rcases cond_some h12 with ⟨hc16, h17⟩ | ⟨hc16, h18⟩
    · refine cw_condT rfl hc16 ?_
      refine cw_seq (cw_region (
        .cons (o_as rfl rfl .no rfl) <|
        .nil rfl
      ) ?_)
      have heq := ((Option.some.inj h17).symm).symm
      subst heq
      exact cw_ret ⟨_, (show Leads _ _ (St.of [(8, .d (ebool false))] []) from .w (weak_of ⟨⟨_, rfl, .d rfl⟩, trivial⟩ trivial drop0)), .inr rfl, _, res1 rfl rfl, rfl, rfl⟩
    · refine cw_condF rfl hc16 ?_
      refine cw_skip ?_
      obtain ⟨x19, hx20, h21⟩ := bind_some h18
      have hx20g := cutB_some hx20
      refine cw_seq (cw_region (
        .cons (o_mv rfl rfl .no rfl) <|
        .cons (o_mv rfl rfl .no rfl) <|
        .cons (o_lenS rfl rfl .no rfl un9) <|
        .cons (o_min rfl rfl .no rfl rfl) <|
        .cons (o_slS rfl rfl .no rfl un9 .no (.val rfl hx20g.2.1) hx20g.2.2.1 hx20g.2.2.2) <|
        .cons (o_as rfl rfl .no rfl) <|
        .nil rfl
      ) ?_)
      obtain ⟨o25, hj26, h27⟩ := bind_some h21
      refine cw_join (fun (z : Bool) => St.of [(0, .d (eint a0)), (1, .d (eint a1)), (2, .d (eint a2)), (3, .d (estring (a3.extract 0 (min (a3.size : Int) 100).toNat))), (10, .ptr 0 0), (11, .d (ebool z))] [(0, .own (oviewView x4))]) (fun (z : Bool) => o25 = z) ?_ ?_
      · intro v294 hv295; subst hv295
        obtain ⟨o43, hj44, h45⟩ := bind_some h27
        refine cw_join (fun (z : Bool) => St.of [(0, .d (eint a0)), (1, .d (eint a1)), (2, .d (eint a2)), (3, .d (estring (a3.extract 0 (min (a3.size : Int) 100).toNat))), (10, .ptr 0 0), (11, .d (ebool o25)), (12, .d (ebool z))] [(0, .own (oviewView x4))]) (fun (z : Bool) => o43 = z) ?_ ?_
        · intro v292 hv293; subst hv293
          obtain ⟨o72, hj73, h74⟩ := bind_some h45
          refine cw_join (fun (z : Int) => St.of [(0, .d (eint a0)), (1, .d (eint a1)), (2, .d (eint z)), (3, .d (estring (a3.extract 0 (min (a3.size : Int) 100).toNat))), (10, .ptr 0 0), (11, .d (ebool o25)), (12, .d (ebool o43))] [(0, .own (oviewView x4))]) (fun (z : Int) => o72 = z) ?_ ?_
          · intro v290 hv291; subst hv291
            obtain ⟨x89, hx90, h91⟩ := bind_some (x := chunk_Read x4 a0 a1 o72) h74
            refine cw_seq (cw_region (
              .cons (o_mv rfl rfl .no rfl) <|
              .cons (o_mv rfl rfl .no rfl) <|
              .cons (o_mv rfl rfl .no rfl) <|
              .cons (o_mv rfl rfl .no rfl) <|
              .cons (o_callX (fun _ => 0) rfl rfl .no Tryz.func14 rfl rfl (chunk_Read_ok hx90) (.cons rfl (.p rfl) (.cons rfl .d (.cons rfl .d (.cons rfl .d .nil)))) (callIn1 rfl ⟨(by simp [AV.live, lk, Nat.beq]), trivial, trivial, trivial, trivial⟩ rfl (OD.dat_live (oviewView_dat _)) (by simp)) (.inl rfl)) <|
              .cons (o_mv rfl rfl .no rfl) <|
              .cons (o_ext rfl rfl .no rfl rfl) <|
              .cons (o_ext rfl rfl .no rfl rfl) <|
              .cons (o_as rfl rfl .no rfl) <|
              .cons (o_as rfl rfl .no rfl) <|
              .nil rfl
            ) ?_)
            obtain ⟨x92, hx93, h94⟩ := bind_some (x := chunk_Cut x89.2.2 a0 a1) h91
            refine cw_seq (cw_region (
              .cons (o_mv rfl rfl .no rfl) <|
              .cons (o_mv rfl rfl .no rfl) <|
              .cons (o_mv rfl rfl .no rfl) <|
              .cons (o_callX (fun _ => 0) rfl rfl .no Tryz.func12 rfl rfl (chunk_Cut_ok hx93) (.cons rfl (.p rfl) (.cons rfl .d (.cons rfl .d .nil))) (callIn1 rfl ⟨(by simp [AV.live, lk, Nat.beq]), trivial, trivial, trivial⟩ rfl (OD.dat_live (oviewView_dat _)) (by simp)) (.inl rfl)) <|
              .cons (o_as rfl rfl .no rfl) <|
              .nil rfl
            ) ?_)
            obtain ⟨x95, hx96, h97⟩ := bind_some (x := view_View_Changes x92.2) h94
            refine cw_seq (cw_region (
              .cons (o_mv rfl rfl .no rfl) <|
              .cons (o_callX (fun n => bif Nat.beq n 0 then 0 else 1) rfl rfl .no Tryz.func17 rfl rfl (view_View_Changes_ok hx96) (.cons rfl (.p rfl) .nil) (callIn1N rfl ⟨(by simp [AV.live, lk, Nat.beq]), trivial⟩ (by decide) rfl (OD.dat_live (oviewView_dat _)) rfl (by simp)) (.inl rfl)) <|
              .cons (o_lenAM (enc := eapiChange) (xs := x95.1) rfl rfl .no rfl rfl sl49) <|
              .cons (o_bin rfl rfl .no rfl rfl (b_eql _ _) rfl) <|
              .cons (o_as rfl rfl .no rfl) <|
              .nil rfl
            ) ?_)
            obtain ⟨x98, hx99, h100⟩ := bind_some (x := chunk_Write x95.2 a0 a1 (a3.extract 0 (min (a3.size : Int) 100).toNat)) h97
            refine cw_seq (cw_region (
              .cons (o_mv rfl rfl .no rfl) <|
              .cons (o_mv rfl rfl .no rfl) <|
              .cons (o_mv rfl rfl .no rfl) <|
              .cons (o_mv rfl rfl .no rfl) <|
              .cons (o_callX (fun n => bif Nat.beq n 0 then 0 else 2) rfl rfl .no Tryz.func13 rfl rfl (chunk_Write_ok hx99) (.cons rfl (.p rfl) (.cons rfl .d (.cons rfl .d (.cons rfl .d .nil)))) (callInG [4] rfl ⟨(by simp [AV.live, lk, Nat.beq]), trivial, trivial, trivial, trivial⟩ ⟨⟨rfl, (OD.dat_live (oviewView_dat _))⟩, trivial⟩ rfl rfl rfl ⟨rfl, trivial⟩ rfl) (.inl rfl)) <|
              .cons (o_as rfl rfl .no rfl) <|
              .nil rfl
            ) ?_)
            obtain ⟨o107, hj108, h109⟩ := bind_some h100
            refine cw_join (fun (z : Bool) => St.of [(1, .d (eint a1)), (3, .d (estring (a3.extract 0 (min (a3.size : Int) 100).toNat))), (10, .ptr 0 0), (12, .d (ebool o43)), (13, .d (estring x89.1)), (14, .d (eapiErrno x89.2.1)), (15, .d (eapiErrno x92.1)), (16, .d (ebool (decide ((x95.1.length : Int) = 0)))), (17, .d (eapiErrno x98.1)), (18, .d (ebool z))] [(0, .own (oviewView x98.2))]) (fun (z : Bool) => o107 = z) ?_ ?_
            · intro v288 hv289; subst hv289
              obtain ⟨o119, hj120, h121⟩ := bind_some h109
              refine cw_join (fun (z : Bool) => St.of [(10, .ptr 0 0), (12, .d (ebool o43)), (13, .d (estring x89.1)), (14, .d (eapiErrno x89.2.1)), (15, .d (eapiErrno x92.1)), (16, .d (ebool (decide ((x95.1.length : Int) = 0)))), (17, .d (eapiErrno x98.1)), (18, .d (ebool o107)), (19, .d (ebool z))] [(0, .own (oviewView x98.2))]) (fun (z : Bool) => o119 = z) ?_ ?_
              · intro v286 hv287; subst hv287
                obtain ⟨o203, hj204, h205⟩ := bind_some h121
                refine cw_join (fun (z : Bool) => St.of [(8, .d (ebool z))] []) (fun (z : Bool) => o203 = z) ?_ ?_
                · intro v284 hv285; subst hv285
                  have heq := ((Option.some.inj h205).symm).symm
                  subst heq
                  exact cw_ret ⟨_, (show Leads _ _ (St.of [(8, .d (ebool o203))] []) from .w (weak_of ⟨⟨_, rfl, .d rfl⟩, trivial⟩ trivial drop0)), .inr rfl, _, res1 rfl rfl, rfl, rfl⟩
                · skip
                  rcases cond_some hj204 with ⟨hc206, h207⟩ | ⟨hc206, h208⟩
                  · skip
                    rcases cond_some h207 with ⟨hc209, h210⟩ | ⟨hc209, h211⟩
                    · skip
                      rcases cond_some h210 with ⟨hc212, h213⟩ | ⟨hc212, h214⟩
                      · skip
                        rcases cond_some h213 with ⟨hc215, h216⟩ | ⟨hc215, h217⟩
                        · skip
                          rcases cond_some h216 with ⟨hc218, h219⟩ | ⟨hc218, h220⟩
                          · skip
                            rcases cond_some h219 with ⟨hc221, h222⟩ | ⟨hc221, h223⟩
                            · skip
                              refine cw_region (
                                .cons (o_mv rfl rfl .no rfl) <|
                                .cons (o_bin rfl rfl .no rfl rfl (b_eql _ _) rfl) <|
                                .cons (o_mv rfl rfl .no rfl) <|
                                .cons (o_bin rfl rfl .no rfl rfl (t_eql _ _ un4) rfl) <|
                                .cons (o_mv rfl rfl .no rfl) <|
                                .cons (o_mv rfl rfl (.yes rfl rfl hc206) rfl) <|
                                .cons (o_mv rfl rfl (.yes rfl rfl hc206) rfl) <|
                                .cons (o_noT rfl rfl rfl rfl hc209) <|
                                .cons (o_noT rfl rfl rfl rfl hc209) <|
                                .cons (o_noT rfl rfl rfl rfl hc209) <|
                                .cons (o_noU rfl rfl rfl rfl) <|
                                .cons (o_noU rfl rfl rfl rfl) <|
                                .cons (o_noT rfl rfl rfl rfl hc209) <|
                                .cons (o_pickT rfl rfl (.yes rfl rfl hc206) rfl hc209 rfl) <|
                                .cons (o_pickT rfl rfl .no rfl hc206 rfl) <|
                                .cons (o_mv rfl rfl .no rfl) <|
                                .cons (o_mv rfl rfl (.yes rfl rfl rfl) rfl) <|
                                .cons (o_bin rfl rfl (.yes rfl rfl rfl) rfl rfl (b_eql _ _) rfl) <|
                                .cons (o_mv rfl rfl (.yes rfl rfl rfl) rfl) <|
                                .cons (o_bin rfl rfl (.yes rfl rfl rfl) rfl rfl (t_eql _ _ un4) rfl) <|
                                .cons (o_pickT rfl rfl .no rfl rfl rfl) <|
                                .cons (o_mv rfl rfl .no rfl) <|
                                .cons (o_mv rfl rfl (.yes rfl rfl hc212) rfl) <|
                                .cons (o_mv rfl rfl (.yes rfl rfl hc212) rfl) <|
                                .cons (o_noT rfl rfl rfl rfl hc215) <|
                                .cons (o_noT rfl rfl rfl rfl hc215) <|
                                .cons (o_noT rfl rfl rfl rfl hc215) <|
                                .cons (o_noU rfl rfl rfl rfl) <|
                                .cons (o_noU rfl rfl rfl rfl) <|
                                .cons (o_noU rfl rfl rfl rfl) <|
                                .cons (o_noU rfl rfl rfl rfl) <|
                                .cons (o_noT rfl rfl rfl rfl hc215) <|
                                .cons (o_pickT rfl rfl (.yes rfl rfl hc212) rfl hc215 rfl) <|
                                .cons (o_pickT rfl rfl .no rfl hc212 rfl) <|
                                .cons (o_mv rfl rfl .no rfl) <|
                                .cons (o_mv rfl rfl (.yes rfl rfl rfl) rfl) <|
                                .cons (o_bin rfl rfl (.yes rfl rfl rfl) rfl rfl (b_eql _ _) rfl) <|
                                .cons (o_mv rfl rfl (.yes rfl rfl rfl) rfl) <|
                                .cons (o_bin rfl rfl (.yes rfl rfl rfl) rfl rfl (t_eql _ _ un4) rfl) <|
                                .cons (o_pickT rfl rfl .no rfl rfl rfl) <|
                                .cons (o_mv rfl rfl .no rfl) <|
                                .cons (o_mv rfl rfl (.yes rfl rfl hc218) rfl) <|
                                .cons (o_mv rfl rfl (.yes rfl rfl hc218) rfl) <|
                                .cons (o_noT rfl rfl rfl rfl hc221) <|
                                .cons (o_noT rfl rfl rfl rfl hc221) <|
                                .cons (o_pickT rfl rfl (.yes rfl rfl hc218) rfl hc221 rfl) <|
                                .cons (o_pickT rfl rfl .no rfl hc218 rfl) <|
                                .cons (o_mv rfl rfl .no rfl) <|
                                .cons (o_mv rfl rfl (.yes rfl rfl rfl) rfl) <|
                                .cons (o_pickT rfl rfl .no rfl rfl rfl) <|
                                .cons (o_as rfl rfl .no rfl) <|
                                .nil rfl
                              ) ?_
                              exact ⟨(decide ((x95.1.length : Int) = 0)), (Option.some.inj h222).symm, .w (weak_of ⟨⟨_, rfl, .d rfl⟩, trivial⟩ trivial drop0)⟩
                            · skip
                              rcases cond_some h223 with ⟨hc224, h225⟩ | ⟨hc224, h226⟩
                              · skip
                                refine cw_region (
                                  .cons (o_mv rfl rfl .no rfl) <|
                                  .cons (o_bin rfl rfl .no rfl rfl (b_eql _ _) rfl) <|
                                  .cons (o_mv rfl rfl .no rfl) <|
                                  .cons (o_bin rfl rfl .no rfl rfl (t_eql _ _ un4) rfl) <|
                                  .cons (o_mv rfl rfl .no rfl) <|
                                  .cons (o_mv rfl rfl (.yes rfl rfl hc206) rfl) <|
                                  .cons (o_mv rfl rfl (.yes rfl rfl hc206) rfl) <|
                                  .cons (o_noT rfl rfl rfl rfl hc209) <|
                                  .cons (o_noT rfl rfl rfl rfl hc209) <|
                                  .cons (o_noT rfl rfl rfl rfl hc209) <|
                                  .cons (o_noU rfl rfl rfl rfl) <|
                                  .cons (o_noU rfl rfl rfl rfl) <|
                                  .cons (o_noT rfl rfl rfl rfl hc209) <|
                                  .cons (o_pickT rfl rfl (.yes rfl rfl hc206) rfl hc209 rfl) <|
                                  .cons (o_pickT rfl rfl .no rfl hc206 rfl) <|
                                  .cons (o_mv rfl rfl .no rfl) <|
                                  .cons (o_mv rfl rfl (.yes rfl rfl rfl) rfl) <|
                                  .cons (o_bin rfl rfl (.yes rfl rfl rfl) rfl rfl (b_eql _ _) rfl) <|
                                  .cons (o_mv rfl rfl (.yes rfl rfl rfl) rfl) <|
                                  .cons (o_bin rfl rfl (.yes rfl rfl rfl) rfl rfl (t_eql _ _ un4) rfl) <|
                                  .cons (o_pickT rfl rfl .no rfl rfl rfl) <|
                                  .cons (o_mv rfl rfl .no rfl) <|
                                  .cons (o_mv rfl rfl (.yes rfl rfl hc212) rfl) <|
                                  .cons (o_mv rfl rfl (.yes rfl rfl hc212) rfl) <|
                                  .cons (o_noT rfl rfl rfl rfl hc215) <|
                                  .cons (o_noT rfl rfl rfl rfl hc215) <|
                                  .cons (o_noT rfl rfl rfl rfl hc215) <|
                                  .cons (o_noU rfl rfl rfl rfl) <|
                                  .cons (o_noU rfl rfl rfl rfl) <|
                                  .cons (o_noU rfl rfl rfl rfl) <|
                                  .cons (o_noU rfl rfl rfl rfl) <|
                                  .cons (o_noT rfl rfl rfl rfl hc215) <|
                                  .cons (o_pickT rfl rfl (.yes rfl rfl hc212) rfl hc215 rfl) <|
                                  .cons (o_pickT rfl rfl .no rfl hc212 rfl) <|
                                  .cons (o_mv rfl rfl .no rfl) <|
                                  .cons (o_mv rfl rfl (.yes rfl rfl rfl) rfl) <|
                                  .cons (o_bin rfl rfl (.yes rfl rfl rfl) rfl rfl (b_eql _ _) rfl) <|
                                  .cons (o_mv rfl rfl (.yes rfl rfl rfl) rfl) <|
                                  .cons (o_bin rfl rfl (.yes rfl rfl rfl) rfl rfl (t_eql _ _ un4) rfl) <|
                                  .cons (o_pickT rfl rfl .no rfl rfl rfl) <|
                                  .cons (o_mv rfl rfl .no rfl) <|
                                  .cons (o_mv rfl rfl (.yes rfl rfl hc218) rfl) <|
                                  .cons (o_mv rfl rfl (.yes rfl rfl hc218) rfl) <|
                                  .cons (o_mv rfl rfl (.yes rfl rfl hc221) rfl) <|
                                  .cons (o_bin rfl rfl (.yes rfl rfl hc221) rfl rfl (b_eql _ _) rfl) <|
                                  .cons (o_pickF rfl rfl (.yes rfl rfl hc218) rfl hc221 rfl) <|
                                  .cons (o_pickT rfl rfl .no rfl hc218 rfl) <|
                                  .cons (o_mv rfl rfl .no rfl) <|
                                  .cons (o_mv rfl rfl (.yes rfl rfl hc224) rfl) <|
                                  .cons (o_pickT rfl rfl .no rfl hc224 rfl) <|
                                  .cons (o_as rfl rfl .no rfl) <|
                                  .nil rfl
                                ) ?_
                                exact ⟨(decide ((x95.1.length : Int) = 0)), (Option.some.inj h225).symm, .w (weak_of ⟨⟨_, rfl, .d rfl⟩, trivial⟩ trivial drop0)⟩
                              · skip
                                refine cw_region (
                                  .cons (o_mv rfl rfl .no rfl) <|
                                  .cons (o_bin rfl rfl .no rfl rfl (b_eql _ _) rfl) <|
                                  .cons (o_mv rfl rfl .no rfl) <|
                                  .cons (o_bin rfl rfl .no rfl rfl (t_eql _ _ un4) rfl) <|
                                  .cons (o_mv rfl rfl .no rfl) <|
                                  .cons (o_mv rfl rfl (.yes rfl rfl hc206) rfl) <|
                                  .cons (o_mv rfl rfl (.yes rfl rfl hc206) rfl) <|
                                  .cons (o_noT rfl rfl rfl rfl hc209) <|
                                  .cons (o_noT rfl rfl rfl rfl hc209) <|
                                  .cons (o_noT rfl rfl rfl rfl hc209) <|
                                  .cons (o_noU rfl rfl rfl rfl) <|
                                  .cons (o_noU rfl rfl rfl rfl) <|
                                  .cons (o_noT rfl rfl rfl rfl hc209) <|
                                  .cons (o_pickT rfl rfl (.yes rfl rfl hc206) rfl hc209 rfl) <|
                                  .cons (o_pickT rfl rfl .no rfl hc206 rfl) <|
                                  .cons (o_mv rfl rfl .no rfl) <|
                                  .cons (o_mv rfl rfl (.yes rfl rfl rfl) rfl) <|
                                  .cons (o_bin rfl rfl (.yes rfl rfl rfl) rfl rfl (b_eql _ _) rfl) <|
                                  .cons (o_mv rfl rfl (.yes rfl rfl rfl) rfl) <|
                                  .cons (o_bin rfl rfl (.yes rfl rfl rfl) rfl rfl (t_eql _ _ un4) rfl) <|
                                  .cons (o_pickT rfl rfl .no rfl rfl rfl) <|
                                  .cons (o_mv rfl rfl .no rfl) <|
                                  .cons (o_mv rfl rfl (.yes rfl rfl hc212) rfl) <|
                                  .cons (o_mv rfl rfl (.yes rfl rfl hc212) rfl) <|
                                  .cons (o_noT rfl rfl rfl rfl hc215) <|
                                  .cons (o_noT rfl rfl rfl rfl hc215) <|
                                  .cons (o_noT rfl rfl rfl rfl hc215) <|
                                  .cons (o_noU rfl rfl rfl rfl) <|
                                  .cons (o_noU rfl rfl rfl rfl) <|
                                  .cons (o_noU rfl rfl rfl rfl) <|
                                  .cons (o_noU rfl rfl rfl rfl) <|
                                  .cons (o_noT rfl rfl rfl rfl hc215) <|
                                  .cons (o_pickT rfl rfl (.yes rfl rfl hc212) rfl hc215 rfl) <|
                                  .cons (o_pickT rfl rfl .no rfl hc212 rfl) <|
                                  .cons (o_mv rfl rfl .no rfl) <|
                                  .cons (o_mv rfl rfl (.yes rfl rfl rfl) rfl) <|
                                  .cons (o_bin rfl rfl (.yes rfl rfl rfl) rfl rfl (b_eql _ _) rfl) <|
                                  .cons (o_mv rfl rfl (.yes rfl rfl rfl) rfl) <|
                                  .cons (o_bin rfl rfl (.yes rfl rfl rfl) rfl rfl (t_eql _ _ un4) rfl) <|
                                  .cons (o_pickT rfl rfl .no rfl rfl rfl) <|
                                  .cons (o_mv rfl rfl .no rfl) <|
                                  .cons (o_mv rfl rfl (.yes rfl rfl hc218) rfl) <|
                                  .cons (o_mv rfl rfl (.yes rfl rfl hc218) rfl) <|
                                  .cons (o_mv rfl rfl (.yes rfl rfl hc221) rfl) <|
                                  .cons (o_bin rfl rfl (.yes rfl rfl hc221) rfl rfl (b_eql _ _) rfl) <|
                                  .cons (o_pickF rfl rfl (.yes rfl rfl hc218) rfl hc221 rfl) <|
                                  .cons (o_pickT rfl rfl .no rfl hc218 rfl) <|
                                  .cons (o_mv rfl rfl .no rfl) <|
                                  .cons (o_noT rfl rfl rfl rfl hc224) <|
                                  .cons (o_pickF rfl rfl .no rfl hc224 rfl) <|
                                  .cons (o_as rfl rfl .no rfl) <|
                                  .nil rfl
                                ) ?_
                                exact ⟨false, (Option.some.inj h226).symm, .w (weak_of ⟨⟨_, rfl, .d rfl⟩, trivial⟩ trivial drop0)⟩
                          · skip
                            refine cw_region (
                              .cons (o_mv rfl rfl .no rfl) <|
                              .cons (o_bin rfl rfl .no rfl rfl (b_eql _ _) rfl) <|
                              .cons (o_mv rfl rfl .no rfl) <|
                              .cons (o_bin rfl rfl .no rfl rfl (t_eql _ _ un4) rfl) <|
                              .cons (o_mv rfl rfl .no rfl) <|
                              .cons (o_mv rfl rfl (.yes rfl rfl hc206) rfl) <|
                              .cons (o_mv rfl rfl (.yes rfl rfl hc206) rfl) <|
                              .cons (o_noT rfl rfl rfl rfl hc209) <|
                              .cons (o_noT rfl rfl rfl rfl hc209) <|
                              .cons (o_noT rfl rfl rfl rfl hc209) <|
                              .cons (o_noU rfl rfl rfl rfl) <|
                              .cons (o_noU rfl rfl rfl rfl) <|
                              .cons (o_noT rfl rfl rfl rfl hc209) <|
                              .cons (o_pickT rfl rfl (.yes rfl rfl hc206) rfl hc209 rfl) <|
                              .cons (o_pickT rfl rfl .no rfl hc206 rfl) <|
                              .cons (o_mv rfl rfl .no rfl) <|
                              .cons (o_mv rfl rfl (.yes rfl rfl rfl) rfl) <|
                              .cons (o_bin rfl rfl (.yes rfl rfl rfl) rfl rfl (b_eql _ _) rfl) <|
                              .cons (o_mv rfl rfl (.yes rfl rfl rfl) rfl) <|
                              .cons (o_bin rfl rfl (.yes rfl rfl rfl) rfl rfl (t_eql _ _ un4) rfl) <|
                              .cons (o_pickT rfl rfl .no rfl rfl rfl) <|
                              .cons (o_mv rfl rfl .no rfl) <|
                              .cons (o_mv rfl rfl (.yes rfl rfl hc212) rfl) <|
                              .cons (o_mv rfl rfl (.yes rfl rfl hc212) rfl) <|
                              .cons (o_noT rfl rfl rfl rfl hc215) <|
                              .cons (o_noT rfl rfl rfl rfl hc215) <|
                              .cons (o_noT rfl rfl rfl rfl hc215) <|
                              .cons (o_noU rfl rfl rfl rfl) <|
                              .cons (o_noU rfl rfl rfl rfl) <|
                              .cons (o_noU rfl rfl rfl rfl) <|
                              .cons (o_noU rfl rfl rfl rfl) <|
                              .cons (o_noT rfl rfl rfl rfl hc215) <|
                              .cons (o_pickT rfl rfl (.yes rfl rfl hc212) rfl hc215 rfl) <|
                              .cons (o_pickT rfl rfl .no rfl hc212 rfl) <|
                              .cons (o_mv rfl rfl .no rfl) <|
                              .cons (o_mv rfl rfl (.yes rfl rfl rfl) rfl) <|
                              .cons (o_bin rfl rfl (.yes rfl rfl rfl) rfl rfl (b_eql _ _) rfl) <|
                              .cons (o_mv rfl rfl (.yes rfl rfl rfl) rfl) <|
                              .cons (o_bin rfl rfl (.yes rfl rfl rfl) rfl rfl (t_eql _ _ un4) rfl) <|
                              .cons (o_pickT rfl rfl .no rfl rfl rfl) <|
                              .cons (o_mv rfl rfl .no rfl) <|
                              .cons (o_noT rfl rfl rfl rfl hc218) <|
                              .cons (o_noT rfl rfl rfl rfl hc218) <|
                              .cons (o_noU rfl rfl rfl rfl) <|
                              .cons (o_noU rfl rfl rfl rfl) <|
                              .cons (o_noT rfl rfl rfl rfl hc218) <|
                              .cons (o_pickF rfl rfl .no rfl hc218 rfl) <|
                              .cons (o_mv rfl rfl .no rfl) <|
                              .cons (o_noT rfl rfl rfl rfl rfl) <|
                              .cons (o_pickF rfl rfl .no rfl rfl rfl) <|
                              .cons (o_as rfl rfl .no rfl) <|
                              .nil rfl
                            ) ?_
                            exact ⟨false, (Option.some.inj h220).symm, .w (weak_of ⟨⟨_, rfl, .d rfl⟩, trivial⟩ trivial drop0)⟩
                        · skip
                          rcases cond_some h217 with ⟨hc227, h228⟩ | ⟨hc227, h229⟩
                          · skip
                            obtain ⟨x230, hx231, h232⟩ := bind_some (x := view_View_Changes x98.2) h228
                            rcases cond_some h232 with ⟨hc233, h234⟩ | ⟨hc233, h235⟩
                            · skip
                              rcases cond_some h234 with ⟨hc236, h237⟩ | ⟨hc236, h238⟩
                              · skip
                                rcases cond_some h237 with ⟨hc239, h240⟩ | ⟨hc239, h241⟩
                                · skip
                                  refine cw_region (
                                    .cons (o_mv rfl rfl .no rfl) <|
                                    .cons (o_bin rfl rfl .no rfl rfl (b_eql _ _) rfl) <|
                                    .cons (o_mv rfl rfl .no rfl) <|
                                    .cons (o_bin rfl rfl .no rfl rfl (t_eql _ _ un4) rfl) <|
                                    .cons (o_mv rfl rfl .no rfl) <|
                                    .cons (o_mv rfl rfl (.yes rfl rfl hc206) rfl) <|
                                    .cons (o_mv rfl rfl (.yes rfl rfl hc206) rfl) <|
                                    .cons (o_noT rfl rfl rfl rfl hc209) <|
                                    .cons (o_noT rfl rfl rfl rfl hc209) <|
                                    .cons (o_noT rfl rfl rfl rfl hc209) <|
                                    .cons (o_noU rfl rfl rfl rfl) <|
                                    .cons (o_noU rfl rfl rfl rfl) <|
                                    .cons (o_noT rfl rfl rfl rfl hc209) <|
                                    .cons (o_pickT rfl rfl (.yes rfl rfl hc206) rfl hc209 rfl) <|
                                    .cons (o_pickT rfl rfl .no rfl hc206 rfl) <|
                                    .cons (o_mv rfl rfl .no rfl) <|
                                    .cons (o_mv rfl rfl (.yes rfl rfl rfl) rfl) <|
                                    .cons (o_bin rfl rfl (.yes rfl rfl rfl) rfl rfl (b_eql _ _) rfl) <|
                                    .cons (o_mv rfl rfl (.yes rfl rfl rfl) rfl) <|
                                    .cons (o_bin rfl rfl (.yes rfl rfl rfl) rfl rfl (t_eql _ _ un4) rfl) <|
                                    .cons (o_pickT rfl rfl .no rfl rfl rfl) <|
                                    .cons (o_mv rfl rfl .no rfl) <|
                                    .cons (o_mv rfl rfl (.yes rfl rfl hc212) rfl) <|
                                    .cons (o_mv rfl rfl (.yes rfl rfl hc212) rfl) <|
                                    .cons (o_mv rfl rfl (.yes rfl rfl hc215) rfl) <|
                                    .cons (o_bin rfl rfl (.yes rfl rfl hc215) rfl rfl (b_eql _ _) rfl) <|
                                    .cons (o_mv rfl rfl (.yes rfl rfl hc215) rfl) <|
                                    .cons (o_mv rfl rfl (.yes rfl rfl hc227) rfl) <|
                                    .cons (o_callX (fun n => bif Nat.beq n 0 then 0 else 3) rfl rfl (.yes rfl rfl hc227) Tryz.func17 rfl rfl (view_View_Changes_ok hx231) (.cons rfl (.p rfl) .nil) (callIn1N rfl ⟨(by simp [AV.live, lk, Nat.beq]), trivial⟩ (by decide) rfl (OD.dat_live (oviewView_dat _)) rfl (by simp)) (.inl rfl)) <|
                                    .cons (o_lenAM (enc := eapiChange) (xs := x230.1) rfl rfl (.yes rfl rfl hc227) rfl rfl sl49) <|
                                    .cons (o_bin rfl rfl (.yes rfl rfl hc227) rfl rfl (b_eql _ _) rfl) <|
                                    .cons (o_pickT rfl rfl (.yes rfl rfl hc215) rfl hc227 rfl) <|
                                    .cons (o_pickF rfl rfl (.yes rfl rfl hc212) rfl hc215 rfl) <|
                                    .cons (o_pickT rfl rfl .no rfl hc212 rfl) <|
                                    .cons (o_mv rfl rfl .no rfl) <|
                                    .cons (o_mv rfl rfl (.yes rfl rfl hc233) rfl) <|
                                    .cons (o_bin rfl rfl (.yes rfl rfl hc233) rfl rfl (b_eql _ _) rfl) <|
                                    .cons (o_mv rfl rfl (.yes rfl rfl hc233) rfl) <|
                                    .cons (o_bin rfl rfl (.yes rfl rfl hc233) rfl rfl (t_eql _ _ un4) rfl) <|
                                    .cons (o_pickT rfl rfl .no rfl hc233 rfl) <|
                                    .cons (o_mv rfl rfl .no rfl) <|
                                    .cons (o_mv rfl rfl (.yes rfl rfl hc236) rfl) <|
                                    .cons (o_mv rfl rfl (.yes rfl rfl hc236) rfl) <|
                                    .cons (o_noT rfl rfl rfl rfl hc239) <|
                                    .cons (o_noT rfl rfl rfl rfl hc239) <|
                                    .cons (o_pickT rfl rfl (.yes rfl rfl hc236) rfl hc239 rfl) <|
                                    .cons (o_pickT rfl rfl .no rfl hc236 rfl) <|
                                    .cons (o_mv rfl rfl .no rfl) <|
                                    .cons (o_mv rfl rfl (.yes rfl rfl rfl) rfl) <|
                                    .cons (o_pickT rfl rfl .no rfl rfl rfl) <|
                                    .cons (o_as rfl rfl .no rfl) <|
                                    .nil rfl
                                  ) ?_
                                  exact ⟨(decide ((x95.1.length : Int) = 0)), (Option.some.inj h240).symm, .w (weak_of ⟨⟨_, rfl, .d rfl⟩, trivial⟩ trivial drop0)⟩
                                · skip
                                  rcases cond_some h241 with ⟨hc242, h243⟩ | ⟨hc242, h244⟩
                                  · skip
                                    refine cw_region (
                                      .cons (o_mv rfl rfl .no rfl) <|
                                      .cons (o_bin rfl rfl .no rfl rfl (b_eql _ _) rfl) <|
                                      .cons (o_mv rfl rfl .no rfl) <|
                                      .cons (o_bin rfl rfl .no rfl rfl (t_eql _ _ un4) rfl) <|
                                      .cons (o_mv rfl rfl .no rfl) <|
                                      .cons (o_mv rfl rfl (.yes rfl rfl hc206) rfl) <|
                                      .cons (o_mv rfl rfl (.yes rfl rfl hc206) rfl) <|
                                      .cons (o_noT rfl rfl rfl rfl hc209) <|
                                      .cons (o_noT rfl rfl rfl rfl hc209) <|
                                      .cons (o_noT rfl rfl rfl rfl hc209) <|
                                      .cons (o_noU rfl rfl rfl rfl) <|
                                      .cons (o_noU rfl rfl rfl rfl) <|
                                      .cons (o_noT rfl rfl rfl rfl hc209) <|
                                      .cons (o_pickT rfl rfl (.yes rfl rfl hc206) rfl hc209 rfl) <|
                                      .cons (o_pickT rfl rfl .no rfl hc206 rfl) <|
                                      .cons (o_mv rfl rfl .no rfl) <|
                                      .cons (o_mv rfl rfl (.yes rfl rfl rfl) rfl) <|
                                      .cons (o_bin rfl rfl (.yes rfl rfl rfl) rfl rfl (b_eql _ _) rfl) <|
                                      .cons (o_mv rfl rfl (.yes rfl rfl rfl) rfl) <|
                                      .cons (o_bin rfl rfl (.yes rfl rfl rfl) rfl rfl (t_eql _ _ un4) rfl) <|
                                      .cons (o_pickT rfl rfl .no rfl rfl rfl) <|
                                      .cons (o_mv rfl rfl .no rfl) <|
                                      .cons (o_mv rfl rfl (.yes rfl rfl hc212) rfl) <|
                                      .cons (o_mv rfl rfl (.yes rfl rfl hc212) rfl) <|
                                      .cons (o_mv rfl rfl (.yes rfl rfl hc215) rfl) <|
                                      .cons (o_bin rfl rfl (.yes rfl rfl hc215) rfl rfl (b_eql _ _) rfl) <|
                                      .cons (o_mv rfl rfl (.yes rfl rfl hc215) rfl) <|
                                      .cons (o_mv rfl rfl (.yes rfl rfl hc227) rfl) <|
                                      .cons (o_callX (fun n => bif Nat.beq n 0 then 0 else 3) rfl rfl (.yes rfl rfl hc227) Tryz.func17 rfl rfl (view_View_Changes_ok hx231) (.cons rfl (.p rfl) .nil) (callIn1N rfl ⟨(by simp [AV.live, lk, Nat.beq]), trivial⟩ (by decide) rfl (OD.dat_live (oviewView_dat _)) rfl (by simp)) (.inl rfl)) <|
                                      .cons (o_lenAM (enc := eapiChange) (xs := x230.1) rfl rfl (.yes rfl rfl hc227) rfl rfl sl49) <|
                                      .cons (o_bin rfl rfl (.yes rfl rfl hc227) rfl rfl (b_eql _ _) rfl) <|
                                      .cons (o_pickT rfl rfl (.yes rfl rfl hc215) rfl hc227 rfl) <|
                                      .cons (o_pickF rfl rfl (.yes rfl rfl hc212) rfl hc215 rfl) <|
                                      .cons (o_pickT rfl rfl .no rfl hc212 rfl) <|
                                      .cons (o_mv rfl rfl .no rfl) <|
                                      .cons (o_mv rfl rfl (.yes rfl rfl hc233) rfl) <|
                                      .cons (o_bin rfl rfl (.yes rfl rfl hc233) rfl rfl (b_eql _ _) rfl) <|
                                      .cons (o_mv rfl rfl (.yes rfl rfl hc233) rfl) <|
                                      .cons (o_bin rfl rfl (.yes rfl rfl hc233) rfl rfl (t_eql _ _ un4) rfl) <|
                                      .cons (o_pickT rfl rfl .no rfl hc233 rfl) <|
                                      .cons (o_mv rfl rfl .no rfl) <|
                                      .cons (o_mv rfl rfl (.yes rfl rfl hc236) rfl) <|
                                      .cons (o_mv rfl rfl (.yes rfl rfl hc236) rfl) <|
                                      .cons (o_mv rfl rfl (.yes rfl rfl hc239) rfl) <|
                                      .cons (o_bin rfl rfl (.yes rfl rfl hc239) rfl rfl (b_eql _ _) rfl) <|
                                      .cons (o_pickF rfl rfl (.yes rfl rfl hc236) rfl hc239 rfl) <|
                                      .cons (o_pickT rfl rfl .no rfl hc236 rfl) <|
                                      .cons (o_mv rfl rfl .no rfl) <|
                                      .cons (o_mv rfl rfl (.yes rfl rfl hc242) rfl) <|
                                      .cons (o_pickT rfl rfl .no rfl hc242 rfl) <|
                                      .cons (o_as rfl rfl .no rfl) <|
                                      .nil rfl
                                    ) ?_
                                    exact ⟨(decide ((x95.1.length : Int) = 0)), (Option.some.inj h243).symm, .w (weak_of ⟨⟨_, rfl, .d rfl⟩, trivial⟩ trivial drop0)⟩
                                  · skip
                                    refine cw_region (
                                      .cons (o_mv rfl rfl .no rfl) <|
                                      .cons (o_bin rfl rfl .no rfl rfl (b_eql _ _) rfl) <|
                                      .cons (o_mv rfl rfl .no rfl) <|
                                      .cons (o_bin rfl rfl .no rfl rfl (t_eql _ _ un4) rfl) <|
                                      .cons (o_mv rfl rfl .no rfl) <|
                                      .cons (o_mv rfl rfl (.yes rfl rfl hc206) rfl) <|
                                      .cons (o_mv rfl rfl (.yes rfl rfl hc206) rfl) <|
                                      .cons (o_noT rfl rfl rfl rfl hc209) <|
                                      .cons (o_noT rfl rfl rfl rfl hc209) <|
                                      .cons (o_noT rfl rfl rfl rfl hc209) <|
                                      .cons (o_noU rfl rfl rfl rfl) <|
                                      .cons (o_noU rfl rfl rfl rfl) <|
                                      .cons (o_noT rfl rfl rfl rfl hc209) <|
                                      .cons (o_pickT rfl rfl (.yes rfl rfl hc206) rfl hc209 rfl) <|
                                      .cons (o_pickT rfl rfl .no rfl hc206 rfl) <|
                                      .cons (o_mv rfl rfl .no rfl) <|
                                      .cons (o_mv rfl rfl (.yes rfl rfl rfl) rfl) <|
                                      .cons (o_bin rfl rfl (.yes rfl rfl rfl) rfl rfl (b_eql _ _) rfl) <|
                                      .cons (o_mv rfl rfl (.yes rfl rfl rfl) rfl) <|
                                      .cons (o_bin rfl rfl (.yes rfl rfl rfl) rfl rfl (t_eql _ _ un4) rfl) <|
                                      .cons (o_pickT rfl rfl .no rfl rfl rfl) <|
                                      .cons (o_mv rfl rfl .no rfl) <|
                                      .cons (o_mv rfl rfl (.yes rfl rfl hc212) rfl) <|
                                      .cons (o_mv rfl rfl (.yes rfl rfl hc212) rfl) <|
                                      .cons (o_mv rfl rfl (.yes rfl rfl hc215) rfl) <|
                                      .cons (o_bin rfl rfl (.yes rfl rfl hc215) rfl rfl (b_eql _ _) rfl) <|
                                      .cons (o_mv rfl rfl (.yes rfl rfl hc215) rfl) <|
                                      .cons (o_mv rfl rfl (.yes rfl rfl hc227) rfl) <|
                                      .cons (o_callX (fun n => bif Nat.beq n 0 then 0 else 3) rfl rfl (.yes rfl rfl hc227) Tryz.func17 rfl rfl (view_View_Changes_ok hx231) (.cons rfl (.p rfl) .nil) (callIn1N rfl ⟨(by simp [AV.live, lk, Nat.beq]), trivial⟩ (by decide) rfl (OD.dat_live (oviewView_dat _)) rfl (by simp)) (.inl rfl)) <|
                                      .cons (o_lenAM (enc := eapiChange) (xs := x230.1) rfl rfl (.yes rfl rfl hc227) rfl rfl sl49) <|
                                      .cons (o_bin rfl rfl (.yes rfl rfl hc227) rfl rfl (b_eql _ _) rfl) <|
                                      .cons (o_pickT rfl rfl (.yes rfl rfl hc215) rfl hc227 rfl) <|
                                      .cons (o_pickF rfl rfl (.yes rfl rfl hc212) rfl hc215 rfl) <|
                                      .cons (o_pickT rfl rfl .no rfl hc212 rfl) <|
                                      .cons (o_mv rfl rfl .no rfl) <|
                                      .cons (o_mv rfl rfl (.yes rfl rfl hc233) rfl) <|
                                      .cons (o_bin rfl rfl (.yes rfl rfl hc233) rfl rfl (b_eql _ _) rfl) <|
                                      .cons (o_mv rfl rfl (.yes rfl rfl hc233) rfl) <|
                                      .cons (o_bin rfl rfl (.yes rfl rfl hc233) rfl rfl (t_eql _ _ un4) rfl) <|
                                      .cons (o_pickT rfl rfl .no rfl hc233 rfl) <|
                                      .cons (o_mv rfl rfl .no rfl) <|
                                      .cons (o_mv rfl rfl (.yes rfl rfl hc236) rfl) <|
                                      .cons (o_mv rfl rfl (.yes rfl rfl hc236) rfl) <|
                                      .cons (o_mv rfl rfl (.yes rfl rfl hc239) rfl) <|
                                      .cons (o_bin rfl rfl (.yes rfl rfl hc239) rfl rfl (b_eql _ _) rfl) <|
                                      .cons (o_pickF rfl rfl (.yes rfl rfl hc236) rfl hc239 rfl) <|
                                      .cons (o_pickT rfl rfl .no rfl hc236 rfl) <|
                                      .cons (o_mv rfl rfl .no rfl) <|
                                      .cons (o_noT rfl rfl rfl rfl hc242) <|
                                      .cons (o_pickF rfl rfl .no rfl hc242 rfl) <|
                                      .cons (o_as rfl rfl .no rfl) <|
                                      .nil rfl
                                    ) ?_
                                    exact ⟨false, (Option.some.inj h244).symm, .w (weak_of ⟨⟨_, rfl, .d rfl⟩, trivial⟩ trivial drop0)⟩
                              · skip
                                refine cw_region (
                                  .cons (o_mv rfl rfl .no rfl) <|
                                  .cons (o_bin rfl rfl .no rfl rfl (b_eql _ _) rfl) <|
                                  .cons (o_mv rfl rfl .no rfl) <|
                                  .cons (o_bin rfl rfl .no rfl rfl (t_eql _ _ un4) rfl) <|
                                  .cons (o_mv rfl rfl .no rfl) <|
                                  .cons (o_mv rfl rfl (.yes rfl rfl hc206) rfl) <|
                                  .cons (o_mv rfl rfl (.yes rfl rfl hc206) rfl) <|
                                  .cons (o_noT rfl rfl rfl rfl hc209) <|
                                  .cons (o_noT rfl rfl rfl rfl hc209) <|
                                  .cons (o_noT rfl rfl rfl rfl hc209) <|
                                  .cons (o_noU rfl rfl rfl rfl) <|
                                  .cons (o_noU rfl rfl rfl rfl) <|
                                  .cons (o_noT rfl rfl rfl rfl hc209) <|
                                  .cons (o_pickT rfl rfl (.yes rfl rfl hc206) rfl hc209 rfl) <|
                                  .cons (o_pickT rfl rfl .no rfl hc206 rfl) <|
                                  .cons (o_mv rfl rfl .no rfl) <|
                                  .cons (o_mv rfl rfl (.yes rfl rfl rfl) rfl) <|
                                  .cons (o_bin rfl rfl (.yes rfl rfl rfl) rfl rfl (b_eql _ _) rfl) <|
                                  .cons (o_mv rfl rfl (.yes rfl rfl rfl) rfl) <|
                                  .cons (o_bin rfl rfl (.yes rfl rfl rfl) rfl rfl (t_eql _ _ un4) rfl) <|
                                  .cons (o_pickT rfl rfl .no rfl rfl rfl) <|
                                  .cons (o_mv rfl rfl .no rfl) <|
                                  .cons (o_mv rfl rfl (.yes rfl rfl hc212) rfl) <|
                                  .cons (o_mv rfl rfl (.yes rfl rfl hc212) rfl) <|
                                  .cons (o_mv rfl rfl (.yes rfl rfl hc215) rfl) <|
                                  .cons (o_bin rfl rfl (.yes rfl rfl hc215) rfl rfl (b_eql _ _) rfl) <|
                                  .cons (o_mv rfl rfl (.yes rfl rfl hc215) rfl) <|
                                  .cons (o_mv rfl rfl (.yes rfl rfl hc227) rfl) <|
                                  .cons (o_callX (fun n => bif Nat.beq n 0 then 0 else 3) rfl rfl (.yes rfl rfl hc227) Tryz.func17 rfl rfl (view_View_Changes_ok hx231) (.cons rfl (.p rfl) .nil) (callIn1N rfl ⟨(by simp [AV.live, lk, Nat.beq]), trivial⟩ (by decide) rfl (OD.dat_live (oviewView_dat _)) rfl (by simp)) (.inl rfl)) <|
                                  .cons (o_lenAM (enc := eapiChange) (xs := x230.1) rfl rfl (.yes rfl rfl hc227) rfl rfl sl49) <|
                                  .cons (o_bin rfl rfl (.yes rfl rfl hc227) rfl rfl (b_eql _ _) rfl) <|
                                  .cons (o_pickT rfl rfl (.yes rfl rfl hc215) rfl hc227 rfl) <|
                                  .cons (o_pickF rfl rfl (.yes rfl rfl hc212) rfl hc215 rfl) <|
                                  .cons (o_pickT rfl rfl .no rfl hc212 rfl) <|
                                  .cons (o_mv rfl rfl .no rfl) <|
                                  .cons (o_mv rfl rfl (.yes rfl rfl hc233) rfl) <|
                                  .cons (o_bin rfl rfl (.yes rfl rfl hc233) rfl rfl (b_eql _ _) rfl) <|
                                  .cons (o_mv rfl rfl (.yes rfl rfl hc233) rfl) <|
                                  .cons (o_bin rfl rfl (.yes rfl rfl hc233) rfl rfl (t_eql _ _ un4) rfl) <|
                                  .cons (o_pickT rfl rfl .no rfl hc233 rfl) <|
                                  .cons (o_mv rfl rfl .no rfl) <|
                                  .cons (o_noT rfl rfl rfl rfl hc236) <|
                                  .cons (o_noT rfl rfl rfl rfl hc236) <|
                                  .cons (o_noU rfl rfl rfl rfl) <|
                                  .cons (o_noU rfl rfl rfl rfl) <|
                                  .cons (o_noT rfl rfl rfl rfl hc236) <|
                                  .cons (o_pickF rfl rfl .no rfl hc236 rfl) <|
                                  .cons (o_mv rfl rfl .no rfl) <|
                                  .cons (o_noT rfl rfl rfl rfl rfl) <|
                                  .cons (o_pickF rfl rfl .no rfl rfl rfl) <|
                                  .cons (o_as rfl rfl .no rfl) <|
                                  .nil rfl
                                ) ?_
                                exact ⟨false, (Option.some.inj h238).symm, .w (weak_of ⟨⟨_, rfl, .d rfl⟩, trivial⟩ trivial drop0)⟩
                            · skip
                              refine cw_region (
                                .cons (o_mv rfl rfl .no rfl) <|
                                .cons (o_bin rfl rfl .no rfl rfl (b_eql _ _) rfl) <|
                                .cons (o_mv rfl rfl .no rfl) <|
                                .cons (o_bin rfl rfl .no rfl rfl (t_eql _ _ un4) rfl) <|
                                .cons (o_mv rfl rfl .no rfl) <|
                                .cons (o_mv rfl rfl (.yes rfl rfl hc206) rfl) <|
                                .cons (o_mv rfl rfl (.yes rfl rfl hc206) rfl) <|
                                .cons (o_noT rfl rfl rfl rfl hc209) <|
                                .cons (o_noT rfl rfl rfl rfl hc209) <|
                                .cons (o_noT rfl rfl rfl rfl hc209) <|
                                .cons (o_noU rfl rfl rfl rfl) <|
                                .cons (o_noU rfl rfl rfl rfl) <|
                                .cons (o_noT rfl rfl rfl rfl hc209) <|
                                .cons (o_pickT rfl rfl (.yes rfl rfl hc206) rfl hc209 rfl) <|
                                .cons (o_pickT rfl rfl .no rfl hc206 rfl) <|
                                .cons (o_mv rfl rfl .no rfl) <|
                                .cons (o_mv rfl rfl (.yes rfl rfl rfl) rfl) <|
                                .cons (o_bin rfl rfl (.yes rfl rfl rfl) rfl rfl (b_eql _ _) rfl) <|
                                .cons (o_mv rfl rfl (.yes rfl rfl rfl) rfl) <|
                                .cons (o_bin rfl rfl (.yes rfl rfl rfl) rfl rfl (t_eql _ _ un4) rfl) <|
                                .cons (o_pickT rfl rfl .no rfl rfl rfl) <|
                                .cons (o_mv rfl rfl .no rfl) <|
                                .cons (o_mv rfl rfl (.yes rfl rfl hc212) rfl) <|
                                .cons (o_mv rfl rfl (.yes rfl rfl hc212) rfl) <|
                                .cons (o_mv rfl rfl (.yes rfl rfl hc215) rfl) <|
                                .cons (o_bin rfl rfl (.yes rfl rfl hc215) rfl rfl (b_eql _ _) rfl) <|
                                .cons (o_mv rfl rfl (.yes rfl rfl hc215) rfl) <|
                                .cons (o_mv rfl rfl (.yes rfl rfl hc227) rfl) <|
                                .cons (o_callX (fun n => bif Nat.beq n 0 then 0 else 3) rfl rfl (.yes rfl rfl hc227) Tryz.func17 rfl rfl (view_View_Changes_ok hx231) (.cons rfl (.p rfl) .nil) (callIn1N rfl ⟨(by simp [AV.live, lk, Nat.beq]), trivial⟩ (by decide) rfl (OD.dat_live (oviewView_dat _)) rfl (by simp)) (.inl rfl)) <|
                                .cons (o_lenAM (enc := eapiChange) (xs := x230.1) rfl rfl (.yes rfl rfl hc227) rfl rfl sl49) <|
                                .cons (o_bin rfl rfl (.yes rfl rfl hc227) rfl rfl (b_eql _ _) rfl) <|
                                .cons (o_pickT rfl rfl (.yes rfl rfl hc215) rfl hc227 rfl) <|
                                .cons (o_pickF rfl rfl (.yes rfl rfl hc212) rfl hc215 rfl) <|
                                .cons (o_pickT rfl rfl .no rfl hc212 rfl) <|
                                .cons (o_mv rfl rfl .no rfl) <|
                                .cons (o_noT rfl rfl rfl rfl hc233) <|
                                .cons (o_noT rfl rfl rfl rfl hc233) <|
                                .cons (o_noT rfl rfl rfl rfl hc233) <|
                                .cons (o_noT rfl rfl rfl rfl hc233) <|
                                .cons (o_pickF rfl rfl .no rfl hc233 rfl) <|
                                .cons (o_mv rfl rfl .no rfl) <|
                                .cons (o_noT rfl rfl rfl rfl rfl) <|
                                .cons (o_noT rfl rfl rfl rfl rfl) <|
                                .cons (o_noU rfl rfl rfl rfl) <|
                                .cons (o_noU rfl rfl rfl rfl) <|
                                .cons (o_noT rfl rfl rfl rfl rfl) <|
                                .cons (o_pickF rfl rfl .no rfl rfl rfl) <|
                                .cons (o_mv rfl rfl .no rfl) <|
                                .cons (o_noT rfl rfl rfl rfl rfl) <|
                                .cons (o_pickF rfl rfl .no rfl rfl rfl) <|
                                .cons (o_as rfl rfl .no rfl) <|
                                .nil rfl
                              ) ?_
                              exact ⟨false, (Option.some.inj h235).symm, .w (weak_of ⟨⟨_, rfl, .d rfl⟩, trivial⟩ trivial drop0)⟩
                          · skip
                            refine cw_region (
                              .cons (o_mv rfl rfl .no rfl) <|
                              .cons (o_bin rfl rfl .no rfl rfl (b_eql _ _) rfl) <|
                              .cons (o_mv rfl rfl .no rfl) <|
                              .cons (o_bin rfl rfl .no rfl rfl (t_eql _ _ un4) rfl) <|
                              .cons (o_mv rfl rfl .no rfl) <|
                              .cons (o_mv rfl rfl (.yes rfl rfl hc206) rfl) <|
                              .cons (o_mv rfl rfl (.yes rfl rfl hc206) rfl) <|
                              .cons (o_noT rfl rfl rfl rfl hc209) <|
                              .cons (o_noT rfl rfl rfl rfl hc209) <|
                              .cons (o_noT rfl rfl rfl rfl hc209) <|
                              .cons (o_noU rfl rfl rfl rfl) <|
                              .cons (o_noU rfl rfl rfl rfl) <|
                              .cons (o_noT rfl rfl rfl rfl hc209) <|
                              .cons (o_pickT rfl rfl (.yes rfl rfl hc206) rfl hc209 rfl) <|
                              .cons (o_pickT rfl rfl .no rfl hc206 rfl) <|
                              .cons (o_mv rfl rfl .no rfl) <|
                              .cons (o_mv rfl rfl (.yes rfl rfl rfl) rfl) <|
                              .cons (o_bin rfl rfl (.yes rfl rfl rfl) rfl rfl (b_eql _ _) rfl) <|
                              .cons (o_mv rfl rfl (.yes rfl rfl rfl) rfl) <|
                              .cons (o_bin rfl rfl (.yes rfl rfl rfl) rfl rfl (t_eql _ _ un4) rfl) <|
                              .cons (o_pickT rfl rfl .no rfl rfl rfl) <|
                              .cons (o_mv rfl rfl .no rfl) <|
                              .cons (o_mv rfl rfl (.yes rfl rfl hc212) rfl) <|
                              .cons (o_mv rfl rfl (.yes rfl rfl hc212) rfl) <|
                              .cons (o_mv rfl rfl (.yes rfl rfl hc215) rfl) <|
                              .cons (o_bin rfl rfl (.yes rfl rfl hc215) rfl rfl (b_eql _ _) rfl) <|
                              .cons (o_mv rfl rfl (.yes rfl rfl hc215) rfl) <|
                              .cons (o_noT rfl rfl rfl rfl hc227) <|
                              .cons (o_noT rfl rfl rfl rfl hc227) <|
                              .cons (o_noT rfl rfl rfl rfl hc227) <|
                              .cons (o_noT rfl rfl rfl rfl hc227) <|
                              .cons (o_pickF rfl rfl (.yes rfl rfl hc215) rfl hc227 rfl) <|
                              .cons (o_pickF rfl rfl (.yes rfl rfl hc212) rfl hc215 rfl) <|
                              .cons (o_pickT rfl rfl .no rfl hc212 rfl) <|
                              .cons (o_mv rfl rfl .no rfl) <|
                              .cons (o_noT rfl rfl rfl rfl rfl) <|
                              .cons (o_noT rfl rfl rfl rfl rfl) <|
                              .cons (o_noT rfl rfl rfl rfl rfl) <|
                              .cons (o_noT rfl rfl rfl rfl rfl) <|
                              .cons (o_pickF rfl rfl .no rfl rfl rfl) <|
                              .cons (o_mv rfl rfl .no rfl) <|
                              .cons (o_noT rfl rfl rfl rfl rfl) <|
                              .cons (o_noT rfl rfl rfl rfl rfl) <|
                              .cons (o_noU rfl rfl rfl rfl) <|
                              .cons (o_noU rfl rfl rfl rfl) <|
                              .cons (o_noT rfl rfl rfl rfl rfl) <|
                              .cons (o_pickF rfl rfl .no rfl rfl rfl) <|
                              .cons (o_mv rfl rfl .no rfl) <|
                              .cons (o_noT rfl rfl rfl rfl rfl) <|
                              .cons (o_pickF rfl rfl .no rfl rfl rfl) <|
                              .cons (o_as rfl rfl .no rfl) <|
                              .nil rfl
                            ) ?_
                            exact ⟨false, (Option.some.inj h229).symm, .w (weak_of ⟨⟨_, rfl, .d rfl⟩, trivial⟩ trivial drop0)⟩
                      · skip
                        refine cw_region (
                          .cons (o_mv rfl rfl .no rfl) <|
                          .cons (o_bin rfl rfl .no rfl rfl (b_eql _ _) rfl) <|
                          .cons (o_mv rfl rfl .no rfl) <|
                          .cons (o_bin rfl rfl .no rfl rfl (t_eql _ _ un4) rfl) <|
                          .cons (o_mv rfl rfl .no rfl) <|
                          .cons (o_mv rfl rfl (.yes rfl rfl hc206) rfl) <|
                          .cons (o_mv rfl rfl (.yes rfl rfl hc206) rfl) <|
                          .cons (o_noT rfl rfl rfl rfl hc209) <|
                          .cons (o_noT rfl rfl rfl rfl hc209) <|
                          .cons (o_noT rfl rfl rfl rfl hc209) <|
                          .cons (o_noU rfl rfl rfl rfl) <|
                          .cons (o_noU rfl rfl rfl rfl) <|
                          .cons (o_noT rfl rfl rfl rfl hc209) <|
                          .cons (o_pickT rfl rfl (.yes rfl rfl hc206) rfl hc209 rfl) <|
                          .cons (o_pickT rfl rfl .no rfl hc206 rfl) <|
                          .cons (o_mv rfl rfl .no rfl) <|
                          .cons (o_mv rfl rfl (.yes rfl rfl rfl) rfl) <|
                          .cons (o_bin rfl rfl (.yes rfl rfl rfl) rfl rfl (b_eql _ _) rfl) <|
                          .cons (o_mv rfl rfl (.yes rfl rfl rfl) rfl) <|
                          .cons (o_bin rfl rfl (.yes rfl rfl rfl) rfl rfl (t_eql _ _ un4) rfl) <|
                          .cons (o_pickT rfl rfl .no rfl rfl rfl) <|
                          .cons (o_mv rfl rfl .no rfl) <|
                          .cons (o_noT rfl rfl rfl rfl hc212) <|
                          .cons (o_noT rfl rfl rfl rfl hc212) <|
                          .cons (o_noU rfl rfl rfl rfl) <|
                          .cons (o_noU rfl rfl rfl rfl) <|
                          .cons (o_noU rfl rfl rfl rfl) <|
                          .cons (o_noU rfl rfl rfl rfl) <|
                          .cons (o_noU rfl rfl rfl rfl) <|
                          .cons (o_noU rfl rfl rfl rfl) <|
                          .cons (o_noU rfl rfl rfl rfl) <|
                          .cons (o_noU rfl rfl rfl rfl) <|
                          .cons (o_noT rfl rfl rfl rfl hc212) <|
                          .cons (o_pickF rfl rfl .no rfl hc212 rfl) <|
                          .cons (o_mv rfl rfl .no rfl) <|
                          .cons (o_noT rfl rfl rfl rfl rfl) <|
                          .cons (o_noT rfl rfl rfl rfl rfl) <|
                          .cons (o_noT rfl rfl rfl rfl rfl) <|
                          .cons (o_noT rfl rfl rfl rfl rfl) <|
                          .cons (o_pickF rfl rfl .no rfl rfl rfl) <|
                          .cons (o_mv rfl rfl .no rfl) <|
                          .cons (o_noT rfl rfl rfl rfl rfl) <|
                          .cons (o_noT rfl rfl rfl rfl rfl) <|
                          .cons (o_noU rfl rfl rfl rfl) <|
                          .cons (o_noU rfl rfl rfl rfl) <|
                          .cons (o_noT rfl rfl rfl rfl rfl) <|
                          .cons (o_pickF rfl rfl .no rfl rfl rfl) <|
                          .cons (o_mv rfl rfl .no rfl) <|
                          .cons (o_noT rfl rfl rfl rfl rfl) <|
                          .cons (o_pickF rfl rfl .no rfl rfl rfl) <|
                          .cons (o_as rfl rfl .no rfl) <|
                          .nil rfl
                        ) ?_
                        exact ⟨false, (Option.some.inj h214).symm, .w (weak_of ⟨⟨_, rfl, .d rfl⟩, trivial⟩ trivial drop0)⟩
                    · skip
                      rcases cond_some h211 with ⟨hc245, h246⟩ | ⟨hc245, h247⟩
                      · skip
                        rcases cond_some h246 with ⟨hc248, h249⟩ | ⟨hc248, h250⟩
                        · skip
                          rcases cond_some h249 with ⟨hc251, h252⟩ | ⟨hc251, h253⟩
                          · skip
                            rcases cond_some h252 with ⟨hc254, h255⟩ | ⟨hc254, h256⟩
                            · skip
                              rcases cond_some h255 with ⟨hc257, h258⟩ | ⟨hc257, h259⟩
                              · skip
                                rcases cond_some h258 with ⟨hc260, h261⟩ | ⟨hc260, h262⟩
                                · skip
                                  refine cw_region (
                                    .cons (o_mv rfl rfl .no rfl) <|
                                    .cons (o_bin rfl rfl .no rfl rfl (b_eql _ _) rfl) <|
                                    .cons (o_mv rfl rfl .no rfl) <|
                                    .cons (o_bin rfl rfl .no rfl rfl (t_eql _ _ un4) rfl) <|
                                    .cons (o_mv rfl rfl .no rfl) <|
                                    .cons (o_mv rfl rfl (.yes rfl rfl hc206) rfl) <|
                                    .cons (o_mv rfl rfl (.yes rfl rfl hc206) rfl) <|
                                    .cons (o_mv rfl rfl (.yes rfl rfl hc209) rfl) <|
                                    .cons (o_bin rfl rfl (.yes rfl rfl hc209) rfl rfl (b_eql _ _) rfl) <|
                                    .cons (o_mv rfl rfl (.yes rfl rfl hc209) rfl) <|
                                    .cons (o_mv rfl rfl (.yes rfl rfl hc245) rfl) <|
                                    .cons (o_bin rfl rfl (.yes rfl rfl hc245) rfl rfl (s_eql _ _) rfl) <|
                                    .cons (o_pickT rfl rfl (.yes rfl rfl hc209) rfl hc245 rfl) <|
                                    .cons (o_pickF rfl rfl (.yes rfl rfl hc206) rfl hc209 rfl) <|
                                    .cons (o_pickT rfl rfl .no rfl hc206 rfl) <|
                                    .cons (o_mv rfl rfl .no rfl) <|
                                    .cons (o_mv rfl rfl (.yes rfl rfl hc248) rfl) <|
                                    .cons (o_bin rfl rfl (.yes rfl rfl hc248) rfl rfl (b_eql _ _) rfl) <|
                                    .cons (o_mv rfl rfl (.yes rfl rfl hc248) rfl) <|
                                    .cons (o_bin rfl rfl (.yes rfl rfl hc248) rfl rfl (t_eql _ _ un4) rfl) <|
                                    .cons (o_pickT rfl rfl .no rfl hc248 rfl) <|
                                    .cons (o_mv rfl rfl .no rfl) <|
                                    .cons (o_mv rfl rfl (.yes rfl rfl hc251) rfl) <|
                                    .cons (o_mv rfl rfl (.yes rfl rfl hc251) rfl) <|
                                    .cons (o_noT rfl rfl rfl rfl hc254) <|
                                    .cons (o_noT rfl rfl rfl rfl hc254) <|
                                    .cons (o_noT rfl rfl rfl rfl hc254) <|
                                    .cons (o_noU rfl rfl rfl rfl) <|
                                    .cons (o_noU rfl rfl rfl rfl) <|
                                    .cons (o_noU rfl rfl rfl rfl) <|
                                    .cons (o_noU rfl rfl rfl rfl) <|
                                    .cons (o_noT rfl rfl rfl rfl hc254) <|
                                    .cons (o_pickT rfl rfl (.yes rfl rfl hc251) rfl hc254 rfl) <|
                                    .cons (o_pickT rfl rfl .no rfl hc251 rfl) <|
                                    .cons (o_mv rfl rfl .no rfl) <|
                                    .cons (o_mv rfl rfl (.yes rfl rfl rfl) rfl) <|
                                    .cons (o_bin rfl rfl (.yes rfl rfl rfl) rfl rfl (b_eql _ _) rfl) <|
                                    .cons (o_mv rfl rfl (.yes rfl rfl rfl) rfl) <|
                                    .cons (o_bin rfl rfl (.yes rfl rfl rfl) rfl rfl (t_eql _ _ un4) rfl) <|
                                    .cons (o_pickT rfl rfl .no rfl rfl rfl) <|
                                    .cons (o_mv rfl rfl .no rfl) <|
                                    .cons (o_mv rfl rfl (.yes rfl rfl hc257) rfl) <|
                                    .cons (o_mv rfl rfl (.yes rfl rfl hc257) rfl) <|
                                    .cons (o_noT rfl rfl rfl rfl hc260) <|
                                    .cons (o_noT rfl rfl rfl rfl hc260) <|
                                    .cons (o_pickT rfl rfl (.yes rfl rfl hc257) rfl hc260 rfl) <|
                                    .cons (o_pickT rfl rfl .no rfl hc257 rfl) <|
                                    .cons (o_mv rfl rfl .no rfl) <|
                                    .cons (o_mv rfl rfl (.yes rfl rfl rfl) rfl) <|
                                    .cons (o_pickT rfl rfl .no rfl rfl rfl) <|
                                    .cons (o_as rfl rfl .no rfl) <|
                                    .nil rfl
                                  ) ?_
                                  exact ⟨(decide ((x95.1.length : Int) = 0)), (Option.some.inj h261).symm, .w (weak_of ⟨⟨_, rfl, .d rfl⟩, trivial⟩ trivial drop0)⟩
                                · skip
                                  rcases cond_some h262 with ⟨hc263, h264⟩ | ⟨hc263, h265⟩
                                  · skip
                                    refine cw_region (
                                      .cons (o_mv rfl rfl .no rfl) <|
                                      .cons (o_bin rfl rfl .no rfl rfl (b_eql _ _) rfl) <|
                                      .cons (o_mv rfl rfl .no rfl) <|
                                      .cons (o_bin rfl rfl .no rfl rfl (t_eql _ _ un4) rfl) <|
                                      .cons (o_mv rfl rfl .no rfl) <|
                                      .cons (o_mv rfl rfl (.yes rfl rfl hc206) rfl) <|
                                      .cons (o_mv rfl rfl (.yes rfl rfl hc206) rfl) <|
                                      .cons (o_mv rfl rfl (.yes rfl rfl hc209) rfl) <|
                                      .cons (o_bin rfl rfl (.yes rfl rfl hc209) rfl rfl (b_eql _ _) rfl) <|
                                      .cons (o_mv rfl rfl (.yes rfl rfl hc209) rfl) <|
                                      .cons (o_mv rfl rfl (.yes rfl rfl hc245) rfl) <|
                                      .cons (o_bin rfl rfl (.yes rfl rfl hc245) rfl rfl (s_eql _ _) rfl) <|
                                      .cons (o_pickT rfl rfl (.yes rfl rfl hc209) rfl hc245 rfl) <|
                                      .cons (o_pickF rfl rfl (.yes rfl rfl hc206) rfl hc209 rfl) <|
                                      .cons (o_pickT rfl rfl .no rfl hc206 rfl) <|
                                      .cons (o_mv rfl rfl .no rfl) <|
                                      .cons (o_mv rfl rfl (.yes rfl rfl hc248) rfl) <|
                                      .cons (o_bin rfl rfl (.yes rfl rfl hc248) rfl rfl (b_eql _ _) rfl) <|
                                      .cons (o_mv rfl rfl (.yes rfl rfl hc248) rfl) <|
                                      .cons (o_bin rfl rfl (.yes rfl rfl hc248) rfl rfl (t_eql _ _ un4) rfl) <|
                                      .cons (o_pickT rfl rfl .no rfl hc248 rfl) <|
                                      .cons (o_mv rfl rfl .no rfl) <|
                                      .cons (o_mv rfl rfl (.yes rfl rfl hc251) rfl) <|
                                      .cons (o_mv rfl rfl (.yes rfl rfl hc251) rfl) <|
                                      .cons (o_noT rfl rfl rfl rfl hc254) <|
                                      .cons (o_noT rfl rfl rfl rfl hc254) <|
                                      .cons (o_noT rfl rfl rfl rfl hc254) <|
                                      .cons (o_noU rfl rfl rfl rfl) <|
                                      .cons (o_noU rfl rfl rfl rfl) <|
                                      .cons (o_noU rfl rfl rfl rfl) <|
                                      .cons (o_noU rfl rfl rfl rfl) <|
                                      .cons (o_noT rfl rfl rfl rfl hc254) <|
                                      .cons (o_pickT rfl rfl (.yes rfl rfl hc251) rfl hc254 rfl) <|
                                      .cons (o_pickT rfl rfl .no rfl hc251 rfl) <|
                                      .cons (o_mv rfl rfl .no rfl) <|
                                      .cons (o_mv rfl rfl (.yes rfl rfl rfl) rfl) <|
                                      .cons (o_bin rfl rfl (.yes rfl rfl rfl) rfl rfl (b_eql _ _) rfl) <|
                                      .cons (o_mv rfl rfl (.yes rfl rfl rfl) rfl) <|
                                      .cons (o_bin rfl rfl (.yes rfl rfl rfl) rfl rfl (t_eql _ _ un4) rfl) <|
                                      .cons (o_pickT rfl rfl .no rfl rfl rfl) <|
                                      .cons (o_mv rfl rfl .no rfl) <|
                                      .cons (o_mv rfl rfl (.yes rfl rfl hc257) rfl) <|
                                      .cons (o_mv rfl rfl (.yes rfl rfl hc257) rfl) <|
                                      .cons (o_mv rfl rfl (.yes rfl rfl hc260) rfl) <|
                                      .cons (o_bin rfl rfl (.yes rfl rfl hc260) rfl rfl (b_eql _ _) rfl) <|
                                      .cons (o_pickF rfl rfl (.yes rfl rfl hc257) rfl hc260 rfl) <|
                                      .cons (o_pickT rfl rfl .no rfl hc257 rfl) <|
                                      .cons (o_mv rfl rfl .no rfl) <|
                                      .cons (o_mv rfl rfl (.yes rfl rfl hc263) rfl) <|
                                      .cons (o_pickT rfl rfl .no rfl hc263 rfl) <|
                                      .cons (o_as rfl rfl .no rfl) <|
                                      .nil rfl
                                    ) ?_
                                    exact ⟨(decide ((x95.1.length : Int) = 0)), (Option.some.inj h264).symm, .w (weak_of ⟨⟨_, rfl, .d rfl⟩, trivial⟩ trivial drop0)⟩
                                  · skip
                                    refine cw_region (
                                      .cons (o_mv rfl rfl .no rfl) <|
                                      .cons (o_bin rfl rfl .no rfl rfl (b_eql _ _) rfl) <|
                                      .cons (o_mv rfl rfl .no rfl) <|
                                      .cons (o_bin rfl rfl .no rfl rfl (t_eql _ _ un4) rfl) <|
                                      .cons (o_mv rfl rfl .no rfl) <|
                                      .cons (o_mv rfl rfl (.yes rfl rfl hc206) rfl) <|
                                      .cons (o_mv rfl rfl (.yes rfl rfl hc206) rfl) <|
                                      .cons (o_mv rfl rfl (.yes rfl rfl hc209) rfl) <|
                                      .cons (o_bin rfl rfl (.yes rfl rfl hc209) rfl rfl (b_eql _ _) rfl) <|
                                      .cons (o_mv rfl rfl (.yes rfl rfl hc209) rfl) <|
                                      .cons (o_mv rfl rfl (.yes rfl rfl hc245) rfl) <|
                                      .cons (o_bin rfl rfl (.yes rfl rfl hc245) rfl rfl (s_eql _ _) rfl) <|
                                      .cons (o_pickT rfl rfl (.yes rfl rfl hc209) rfl hc245 rfl) <|
                                      .cons (o_pickF rfl rfl (.yes rfl rfl hc206) rfl hc209 rfl) <|
                                      .cons (o_pickT rfl rfl .no rfl hc206 rfl) <|
                                      .cons (o_mv rfl rfl .no rfl) <|
                                      .cons (o_mv rfl rfl (.yes rfl rfl hc248) rfl) <|
                                      .cons (o_bin rfl rfl (.yes rfl rfl hc248) rfl rfl (b_eql _ _) rfl) <|
                                      .cons (o_mv rfl rfl (.yes rfl rfl hc248) rfl) <|
                                      .cons (o_bin rfl rfl (.yes rfl rfl hc248) rfl rfl (t_eql _ _ un4) rfl) <|
                                      .cons (o_pickT rfl rfl .no rfl hc248 rfl) <|
                                      .cons (o_mv rfl rfl .no rfl) <|
                                      .cons (o_mv rfl rfl (.yes rfl rfl hc251) rfl) <|
                                      .cons (o_mv rfl rfl (.yes rfl rfl hc251) rfl) <|
                                      .cons (o_noT rfl rfl rfl rfl hc254) <|
                                      .cons (o_noT rfl rfl rfl rfl hc254) <|
                                      .cons (o_noT rfl rfl rfl rfl hc254) <|
                                      .cons (o_noU rfl rfl rfl rfl) <|
                                      .cons (o_noU rfl rfl rfl rfl) <|
                                      .cons (o_noU rfl rfl rfl rfl) <|
                                      .cons (o_noU rfl rfl rfl rfl) <|
                                      .cons (o_noT rfl rfl rfl rfl hc254) <|
                                      .cons (o_pickT rfl rfl (.yes rfl rfl hc251) rfl hc254 rfl) <|
                                      .cons (o_pickT rfl rfl .no rfl hc251 rfl) <|
                                      .cons (o_mv rfl rfl .no rfl) <|
                                      .cons (o_mv rfl rfl (.yes rfl rfl rfl) rfl) <|
                                      .cons (o_bin rfl rfl (.yes rfl rfl rfl) rfl rfl (b_eql _ _) rfl) <|
                                      .cons (o_mv rfl rfl (.yes rfl rfl rfl) rfl) <|
                                      .cons (o_bin rfl rfl (.yes rfl rfl rfl) rfl rfl (t_eql _ _ un4) rfl) <|
                                      .cons (o_pickT rfl rfl .no rfl rfl rfl) <|
                                      .cons (o_mv rfl rfl .no rfl) <|
                                      .cons (o_mv rfl rfl (.yes rfl rfl hc257) rfl) <|
                                      .cons (o_mv rfl rfl (.yes rfl rfl hc257) rfl) <|
                                      .cons (o_mv rfl rfl (.yes rfl rfl hc260) rfl) <|
                                      .cons (o_bin rfl rfl (.yes rfl rfl hc260) rfl rfl (b_eql _ _) rfl) <|
                                      .cons (o_pickF rfl rfl (.yes rfl rfl hc257) rfl hc260 rfl) <|
                                      .cons (o_pickT rfl rfl .no rfl hc257 rfl) <|
                                      .cons (o_mv rfl rfl .no rfl) <|
                                      .cons (o_noT rfl rfl rfl rfl hc263) <|
                                      .cons (o_pickF rfl rfl .no rfl hc263 rfl) <|
                                      .cons (o_as rfl rfl .no rfl) <|
                                      .nil rfl
                                    ) ?_
                                    exact ⟨false, (Option.some.inj h265).symm, .w (weak_of ⟨⟨_, rfl, .d rfl⟩, trivial⟩ trivial drop0)⟩
                              · skip
                                refine cw_region (
                                  .cons (o_mv rfl rfl .no rfl) <|
                                  .cons (o_bin rfl rfl .no rfl rfl (b_eql _ _) rfl) <|
                                  .cons (o_mv rfl rfl .no rfl) <|
                                  .cons (o_bin rfl rfl .no rfl rfl (t_eql _ _ un4) rfl) <|
                                  .cons (o_mv rfl rfl .no rfl) <|
                                  .cons (o_mv rfl rfl (.yes rfl rfl hc206) rfl) <|
                                  .cons (o_mv rfl rfl (.yes rfl rfl hc206) rfl) <|
                                  .cons (o_mv rfl rfl (.yes rfl rfl hc209) rfl) <|
                                  .cons (o_bin rfl rfl (.yes rfl rfl hc209) rfl rfl (b_eql _ _) rfl) <|
                                  .cons (o_mv rfl rfl (.yes rfl rfl hc209) rfl) <|
                                  .cons (o_mv rfl rfl (.yes rfl rfl hc245) rfl) <|
                                  .cons (o_bin rfl rfl (.yes rfl rfl hc245) rfl rfl (s_eql _ _) rfl) <|
                                  .cons (o_pickT rfl rfl (.yes rfl rfl hc209) rfl hc245 rfl) <|
                                  .cons (o_pickF rfl rfl (.yes rfl rfl hc206) rfl hc209 rfl) <|
                                  .cons (o_pickT rfl rfl .no rfl hc206 rfl) <|
                                  .cons (o_mv rfl rfl .no rfl) <|
                                  .cons (o_mv rfl rfl (.yes rfl rfl hc248) rfl) <|
                                  .cons (o_bin rfl rfl (.yes rfl rfl hc248) rfl rfl (b_eql _ _) rfl) <|
                                  .cons (o_mv rfl rfl (.yes rfl rfl hc248) rfl) <|
                                  .cons (o_bin rfl rfl (.yes rfl rfl hc248) rfl rfl (t_eql _ _ un4) rfl) <|
                                  .cons (o_pickT rfl rfl .no rfl hc248 rfl) <|
                                  .cons (o_mv rfl rfl .no rfl) <|
                                  .cons (o_mv rfl rfl (.yes rfl rfl hc251) rfl) <|
                                  .cons (o_mv rfl rfl (.yes rfl rfl hc251) rfl) <|
                                  .cons (o_noT rfl rfl rfl rfl hc254) <|
                                  .cons (o_noT rfl rfl rfl rfl hc254) <|
                                  .cons (o_noT rfl rfl rfl rfl hc254) <|
                                  .cons (o_noU rfl rfl rfl rfl) <|
                                  .cons (o_noU rfl rfl rfl rfl) <|
                                  .cons (o_noU rfl rfl rfl rfl) <|
                                  .cons (o_noU rfl rfl rfl rfl) <|
                                  .cons (o_noT rfl rfl rfl rfl hc254) <|
                                  .cons (o_pickT rfl rfl (.yes rfl rfl hc251) rfl hc254 rfl) <|
                                  .cons (o_pickT rfl rfl .no rfl hc251 rfl) <|
                                  .cons (o_mv rfl rfl .no rfl) <|
                                  .cons (o_mv rfl rfl (.yes rfl rfl rfl) rfl) <|
                                  .cons (o_bin rfl rfl (.yes rfl rfl rfl) rfl rfl (b_eql _ _) rfl) <|
                                  .cons (o_mv rfl rfl (.yes rfl rfl rfl) rfl) <|
                                  .cons (o_bin rfl rfl (.yes rfl rfl rfl) rfl rfl (t_eql _ _ un4) rfl) <|
                                  .cons (o_pickT rfl rfl .no rfl rfl rfl) <|
                                  .cons (o_mv rfl rfl .no rfl) <|
                                  .cons (o_noT rfl rfl rfl rfl hc257) <|
                                  .cons (o_noT rfl rfl rfl rfl hc257) <|
                                  .cons (o_noU rfl rfl rfl rfl) <|
                                  .cons (o_noU rfl rfl rfl rfl) <|
                                  .cons (o_noT rfl rfl rfl rfl hc257) <|
                                  .cons (o_pickF rfl rfl .no rfl hc257 rfl) <|
                                  .cons (o_mv rfl rfl .no rfl) <|
                                  .cons (o_noT rfl rfl rfl rfl rfl) <|
                                  .cons (o_pickF rfl rfl .no rfl rfl rfl) <|
                                  .cons (o_as rfl rfl .no rfl) <|
                                  .nil rfl
                                ) ?_
                                exact ⟨false, (Option.some.inj h259).symm, .w (weak_of ⟨⟨_, rfl, .d rfl⟩, trivial⟩ trivial drop0)⟩
                            · skip
                              rcases cond_some h256 with ⟨hc266, h267⟩ | ⟨hc266, h268⟩
                              · skip
                                obtain ⟨x269, hx270, h271⟩ := bind_some (x := view_View_Changes x98.2) h267
                                rcases cond_some h271 with ⟨hc272, h273⟩ | ⟨hc272, h274⟩
                                · skip
                                  rcases cond_some h273 with ⟨hc275, h276⟩ | ⟨hc275, h277⟩
                                  · skip
                                    rcases cond_some h276 with ⟨hc278, h279⟩ | ⟨hc278, h280⟩
                                    · skip
                                      refine cw_region (
                                        .cons (o_mv rfl rfl .no rfl) <|
                                        .cons (o_bin rfl rfl .no rfl rfl (b_eql _ _) rfl) <|
                                        .cons (o_mv rfl rfl .no rfl) <|
                                        .cons (o_bin rfl rfl .no rfl rfl (t_eql _ _ un4) rfl) <|
                                        .cons (o_mv rfl rfl .no rfl) <|
                                        .cons (o_mv rfl rfl (.yes rfl rfl hc206) rfl) <|
                                        .cons (o_mv rfl rfl (.yes rfl rfl hc206) rfl) <|
                                        .cons (o_mv rfl rfl (.yes rfl rfl hc209) rfl) <|
                                        .cons (o_bin rfl rfl (.yes rfl rfl hc209) rfl rfl (b_eql _ _) rfl) <|
                                        .cons (o_mv rfl rfl (.yes rfl rfl hc209) rfl) <|
                                        .cons (o_mv rfl rfl (.yes rfl rfl hc245) rfl) <|
                                        .cons (o_bin rfl rfl (.yes rfl rfl hc245) rfl rfl (s_eql _ _) rfl) <|
                                        .cons (o_pickT rfl rfl (.yes rfl rfl hc209) rfl hc245 rfl) <|
                                        .cons (o_pickF rfl rfl (.yes rfl rfl hc206) rfl hc209 rfl) <|
                                        .cons (o_pickT rfl rfl .no rfl hc206 rfl) <|
                                        .cons (o_mv rfl rfl .no rfl) <|
                                        .cons (o_mv rfl rfl (.yes rfl rfl hc248) rfl) <|
                                        .cons (o_bin rfl rfl (.yes rfl rfl hc248) rfl rfl (b_eql _ _) rfl) <|
                                        .cons (o_mv rfl rfl (.yes rfl rfl hc248) rfl) <|
                                        .cons (o_bin rfl rfl (.yes rfl rfl hc248) rfl rfl (t_eql _ _ un4) rfl) <|
                                        .cons (o_pickT rfl rfl .no rfl hc248 rfl) <|
                                        .cons (o_mv rfl rfl .no rfl) <|
                                        .cons (o_mv rfl rfl (.yes rfl rfl hc251) rfl) <|
                                        .cons (o_mv rfl rfl (.yes rfl rfl hc251) rfl) <|
                                        .cons (o_mv rfl rfl (.yes rfl rfl hc254) rfl) <|
                                        .cons (o_bin rfl rfl (.yes rfl rfl hc254) rfl rfl (b_eql _ _) rfl) <|
                                        .cons (o_mv rfl rfl (.yes rfl rfl hc254) rfl) <|
                                        .cons (o_mv rfl rfl (.yes rfl rfl hc266) rfl) <|
                                        .cons (o_callX (fun n => bif Nat.beq n 0 then 0 else 3) rfl rfl (.yes rfl rfl hc266) Tryz.func17 rfl rfl (view_View_Changes_ok hx270) (.cons rfl (.p rfl) .nil) (callIn1N rfl ⟨(by simp [AV.live, lk, Nat.beq]), trivial⟩ (by decide) rfl (OD.dat_live (oviewView_dat _)) rfl (by simp)) (.inl rfl)) <|
                                        .cons (o_lenAM (enc := eapiChange) (xs := x269.1) rfl rfl (.yes rfl rfl hc266) rfl rfl sl49) <|
                                        .cons (o_bin rfl rfl (.yes rfl rfl hc266) rfl rfl (b_eql _ _) rfl) <|
                                        .cons (o_pickT rfl rfl (.yes rfl rfl hc254) rfl hc266 rfl) <|
                                        .cons (o_pickF rfl rfl (.yes rfl rfl hc251) rfl hc254 rfl) <|
                                        .cons (o_pickT rfl rfl .no rfl hc251 rfl) <|
                                        .cons (o_mv rfl rfl .no rfl) <|
                                        .cons (o_mv rfl rfl (.yes rfl rfl hc272) rfl) <|
                                        .cons (o_bin rfl rfl (.yes rfl rfl hc272) rfl rfl (b_eql _ _) rfl) <|
                                        .cons (o_mv rfl rfl (.yes rfl rfl hc272) rfl) <|
                                        .cons (o_bin rfl rfl (.yes rfl rfl hc272) rfl rfl (t_eql _ _ un4) rfl) <|
                                        .cons (o_pickT rfl rfl .no rfl hc272 rfl) <|
                                        .cons (o_mv rfl rfl .no rfl) <|
                                        .cons (o_mv rfl rfl (.yes rfl rfl hc275) rfl) <|
                                        .cons (o_mv rfl rfl (.yes rfl rfl hc275) rfl) <|
                                        .cons (o_noT rfl rfl rfl rfl hc278) <|
                                        .cons (o_noT rfl rfl rfl rfl hc278) <|
                                        .cons (o_pickT rfl rfl (.yes rfl rfl hc275) rfl hc278 rfl) <|
                                        .cons (o_pickT rfl rfl .no rfl hc275 rfl) <|
                                        .cons (o_mv rfl rfl .no rfl) <|
                                        .cons (o_mv rfl rfl (.yes rfl rfl rfl) rfl) <|
                                        .cons (o_pickT rfl rfl .no rfl rfl rfl) <|
                                        .cons (o_as rfl rfl .no rfl) <|
                                        .nil rfl
                                      ) ?_
                                      exact ⟨(decide ((x95.1.length : Int) = 0)), (Option.some.inj h279).symm, .w (weak_of ⟨⟨_, rfl, .d rfl⟩, trivial⟩ trivial drop0)⟩
                                    · skip
                                      rcases cond_some h280 with ⟨hc281, h282⟩ | ⟨hc281, h283⟩
                                      · skip
                                        refine cw_region (
                                          .cons (o_mv rfl rfl .no rfl) <|
                                          .cons (o_bin rfl rfl .no rfl rfl (b_eql _ _) rfl) <|
                                          .cons (o_mv rfl rfl .no rfl) <|
                                          .cons (o_bin rfl rfl .no rfl rfl (t_eql _ _ un4) rfl) <|
                                          .cons (o_mv rfl rfl .no rfl) <|
                                          .cons (o_mv rfl rfl (.yes rfl rfl hc206) rfl) <|
                                          .cons (o_mv rfl rfl (.yes rfl rfl hc206) rfl) <|
                                          .cons (o_mv rfl rfl (.yes rfl rfl hc209) rfl) <|
                                          .cons (o_bin rfl rfl (.yes rfl rfl hc209) rfl rfl (b_eql _ _) rfl) <|
                                          .cons (o_mv rfl rfl (.yes rfl rfl hc209) rfl) <|
                                          .cons (o_mv rfl rfl (.yes rfl rfl hc245) rfl) <|
                                          .cons (o_bin rfl rfl (.yes rfl rfl hc245) rfl rfl (s_eql _ _) rfl) <|
                                          .cons (o_pickT rfl rfl (.yes rfl rfl hc209) rfl hc245 rfl) <|
                                          .cons (o_pickF rfl rfl (.yes rfl rfl hc206) rfl hc209 rfl) <|
                                          .cons (o_pickT rfl rfl .no rfl hc206 rfl) <|
                                          .cons (o_mv rfl rfl .no rfl) <|
                                          .cons (o_mv rfl rfl (.yes rfl rfl hc248) rfl) <|
                                          .cons (o_bin rfl rfl (.yes rfl rfl hc248) rfl rfl (b_eql _ _) rfl) <|
                                          .cons (o_mv rfl rfl (.yes rfl rfl hc248) rfl) <|
                                          .cons (o_bin rfl rfl (.yes rfl rfl hc248) rfl rfl (t_eql _ _ un4) rfl) <|
                                          .cons (o_pickT rfl rfl .no rfl hc248 rfl) <|
                                          .cons (o_mv rfl rfl .no rfl) <|
                                          .cons (o_mv rfl rfl (.yes rfl rfl hc251) rfl) <|
                                          .cons (o_mv rfl rfl (.yes rfl rfl hc251) rfl) <|
                                          .cons (o_mv rfl rfl (.yes rfl rfl hc254) rfl) <|
                                          .cons (o_bin rfl rfl (.yes rfl rfl hc254) rfl rfl (b_eql _ _) rfl) <|
                                          .cons (o_mv rfl rfl (.yes rfl rfl hc254) rfl) <|
                                          .cons (o_mv rfl rfl (.yes rfl rfl hc266) rfl) <|
                                          .cons (o_callX (fun n => bif Nat.beq n 0 then 0 else 3) rfl rfl (.yes rfl rfl hc266) Tryz.func17 rfl rfl (view_View_Changes_ok hx270) (.cons rfl (.p rfl) .nil) (callIn1N rfl ⟨(by simp [AV.live, lk, Nat.beq]), trivial⟩ (by decide) rfl (OD.dat_live (oviewView_dat _)) rfl (by simp)) (.inl rfl)) <|
                                          .cons (o_lenAM (enc := eapiChange) (xs := x269.1) rfl rfl (.yes rfl rfl hc266) rfl rfl sl49) <|
                                          .cons (o_bin rfl rfl (.yes rfl rfl hc266) rfl rfl (b_eql _ _) rfl) <|
                                          .cons (o_pickT rfl rfl (.yes rfl rfl hc254) rfl hc266 rfl) <|
                                          .cons (o_pickF rfl rfl (.yes rfl rfl hc251) rfl hc254 rfl) <|
                                          .cons (o_pickT rfl rfl .no rfl hc251 rfl) <|
                                          .cons (o_mv rfl rfl .no rfl) <|
                                          .cons (o_mv rfl rfl (.yes rfl rfl hc272) rfl) <|
                                          .cons (o_bin rfl rfl (.yes rfl rfl hc272) rfl rfl (b_eql _ _) rfl) <|
                                          .cons (o_mv rfl rfl (.yes rfl rfl hc272) rfl) <|
                                          .cons (o_bin rfl rfl (.yes rfl rfl hc272) rfl rfl (t_eql _ _ un4) rfl) <|
                                          .cons (o_pickT rfl rfl .no rfl hc272 rfl) <|
                                          .cons (o_mv rfl rfl .no rfl) <|
                                          .cons (o_mv rfl rfl (.yes rfl rfl hc275) rfl) <|
                                          .cons (o_mv rfl rfl (.yes rfl rfl hc275) rfl) <|
                                          .cons (o_mv rfl rfl (.yes rfl rfl hc278) rfl) <|
                                          .cons (o_bin rfl rfl (.yes rfl rfl hc278) rfl rfl (b_eql _ _) rfl) <|
                                          .cons (o_pickF rfl rfl (.yes rfl rfl hc275) rfl hc278 rfl) <|
                                          .cons (o_pickT rfl rfl .no rfl hc275 rfl) <|
                                          .cons (o_mv rfl rfl .no rfl) <|
                                          .cons (o_mv rfl rfl (.yes rfl rfl hc281) rfl) <|
                                          .cons (o_pickT rfl rfl .no rfl hc281 rfl) <|
                                          .cons (o_as rfl rfl .no rfl) <|
                                          .nil rfl
                                        ) ?_
                                        exact ⟨(decide ((x95.1.length : Int) = 0)), (Option.some.inj h282).symm, .w (weak_of ⟨⟨_, rfl, .d rfl⟩, trivial⟩ trivial drop0)⟩
                                      · skip
                                        refine cw_region (
                                          .cons (o_mv rfl rfl .no rfl) <|
                                          .cons (o_bin rfl rfl .no rfl rfl (b_eql _ _) rfl) <|
                                          .cons (o_mv rfl rfl .no rfl) <|
                                          .cons (o_bin rfl rfl .no rfl rfl (t_eql _ _ un4) rfl) <|
                                          .cons (o_mv rfl rfl .no rfl) <|
                                          .cons (o_mv rfl rfl (.yes rfl rfl hc206) rfl) <|
                                          .cons (o_mv rfl rfl (.yes rfl rfl hc206) rfl) <|
                                          .cons (o_mv rfl rfl (.yes rfl rfl hc209) rfl) <|
                                          .cons (o_bin rfl rfl (.yes rfl rfl hc209) rfl rfl (b_eql _ _) rfl) <|
                                          .cons (o_mv rfl rfl (.yes rfl rfl hc209) rfl) <|
                                          .cons (o_mv rfl rfl (.yes rfl rfl hc245) rfl) <|
                                          .cons (o_bin rfl rfl (.yes rfl rfl hc245) rfl rfl (s_eql _ _) rfl) <|
                                          .cons (o_pickT rfl rfl (.yes rfl rfl hc209) rfl hc245 rfl) <|
                                          .cons (o_pickF rfl rfl (.yes rfl rfl hc206) rfl hc209 rfl) <|
                                          .cons (o_pickT rfl rfl .no rfl hc206 rfl) <|
                                          .cons (o_mv rfl rfl .no rfl) <|
                                          .cons (o_mv rfl rfl (.yes rfl rfl hc248) rfl) <|
                                          .cons (o_bin rfl rfl (.yes rfl rfl hc248) rfl rfl (b_eql _ _) rfl) <|
                                          .cons (o_mv rfl rfl (.yes rfl rfl hc248) rfl) <|
                                          .cons (o_bin rfl rfl (.yes rfl rfl hc248) rfl rfl (t_eql _ _ un4) rfl) <|
                                          .cons (o_pickT rfl rfl .no rfl hc248 rfl) <|
                                          .cons (o_mv rfl rfl .no rfl) <|
                                          .cons (o_mv rfl rfl (.yes rfl rfl hc251) rfl) <|
                                          .cons (o_mv rfl rfl (.yes rfl rfl hc251) rfl) <|
                                          .cons (o_mv rfl rfl (.yes rfl rfl hc254) rfl) <|
                                          .cons (o_bin rfl rfl (.yes rfl rfl hc254) rfl rfl (b_eql _ _) rfl) <|
                                          .cons (o_mv rfl rfl (.yes rfl rfl hc254) rfl) <|
                                          .cons (o_mv rfl rfl (.yes rfl rfl hc266) rfl) <|
                                          .cons (o_callX (fun n => bif Nat.beq n 0 then 0 else 3) rfl rfl (.yes rfl rfl hc266) Tryz.func17 rfl rfl (view_View_Changes_ok hx270) (.cons rfl (.p rfl) .nil) (callIn1N rfl ⟨(by simp [AV.live, lk, Nat.beq]), trivial⟩ (by decide) rfl (OD.dat_live (oviewView_dat _)) rfl (by simp)) (.inl rfl)) <|
                                          .cons (o_lenAM (enc := eapiChange) (xs := x269.1) rfl rfl (.yes rfl rfl hc266) rfl rfl sl49) <|
                                          .cons (o_bin rfl rfl (.yes rfl rfl hc266) rfl rfl (b_eql _ _) rfl) <|
                                          .cons (o_pickT rfl rfl (.yes rfl rfl hc254) rfl hc266 rfl) <|
                                          .cons (o_pickF rfl rfl (.yes rfl rfl hc251) rfl hc254 rfl) <|
                                          .cons (o_pickT rfl rfl .no rfl hc251 rfl) <|
                                          .cons (o_mv rfl rfl .no rfl) <|
                                          .cons (o_mv rfl rfl (.yes rfl rfl hc272) rfl) <|
                                          .cons (o_bin rfl rfl (.yes rfl rfl hc272) rfl rfl (b_eql _ _) rfl) <|
                                          .cons (o_mv rfl rfl (.yes rfl rfl hc272) rfl) <|
                                          .cons (o_bin rfl rfl (.yes rfl rfl hc272) rfl rfl (t_eql _ _ un4) rfl) <|
                                          .cons (o_pickT rfl rfl .no rfl hc272 rfl) <|
                                          .cons (o_mv rfl rfl .no rfl) <|
                                          .cons (o_mv rfl rfl (.yes rfl rfl hc275) rfl) <|
                                          .cons (o_mv rfl rfl (.yes rfl rfl hc275) rfl) <|
                                          .cons (o_mv rfl rfl (.yes rfl rfl hc278) rfl) <|
                                          .cons (o_bin rfl rfl (.yes rfl rfl hc278) rfl rfl (b_eql _ _) rfl) <|
                                          .cons (o_pickF rfl rfl (.yes rfl rfl hc275) rfl hc278 rfl) <|
                                          .cons (o_pickT rfl rfl .no rfl hc275 rfl) <|
                                          .cons (o_mv rfl rfl .no rfl) <|
                                          .cons (o_noT rfl rfl rfl rfl hc281) <|
                                          .cons (o_pickF rfl rfl .no rfl hc281 rfl) <|
                                          .cons (o_as rfl rfl .no rfl) <|
                                          .nil rfl
                                        ) ?_
                                        exact ⟨false, (Option.some.inj h283).symm, .w (weak_of ⟨⟨_, rfl, .d rfl⟩, trivial⟩ trivial drop0)⟩
                                  · skip
                                    refine cw_region (
                                      .cons (o_mv rfl rfl .no rfl) <|
                                      .cons (o_bin rfl rfl .no rfl rfl (b_eql _ _) rfl) <|
                                      .cons (o_mv rfl rfl .no rfl) <|
                                      .cons (o_bin rfl rfl .no rfl rfl (t_eql _ _ un4) rfl) <|
                                      .cons (o_mv rfl rfl .no rfl) <|
                                      .cons (o_mv rfl rfl (.yes rfl rfl hc206) rfl) <|
                                      .cons (o_mv rfl rfl (.yes rfl rfl hc206) rfl) <|
                                      .cons (o_mv rfl rfl (.yes rfl rfl hc209) rfl) <|
                                      .cons (o_bin rfl rfl (.yes rfl rfl hc209) rfl rfl (b_eql _ _) rfl) <|
                                      .cons (o_mv rfl rfl (.yes rfl rfl hc209) rfl) <|
                                      .cons (o_mv rfl rfl (.yes rfl rfl hc245) rfl) <|
                                      .cons (o_bin rfl rfl (.yes rfl rfl hc245) rfl rfl (s_eql _ _) rfl) <|
                                      .cons (o_pickT rfl rfl (.yes rfl rfl hc209) rfl hc245 rfl) <|
                                      .cons (o_pickF rfl rfl (.yes rfl rfl hc206) rfl hc209 rfl) <|
                                      .cons (o_pickT rfl rfl .no rfl hc206 rfl) <|
                                      .cons (o_mv rfl rfl .no rfl) <|
                                      .cons (o_mv rfl rfl (.yes rfl rfl hc248) rfl) <|
                                      .cons (o_bin rfl rfl (.yes rfl rfl hc248) rfl rfl (b_eql _ _) rfl) <|
                                      .cons (o_mv rfl rfl (.yes rfl rfl hc248) rfl) <|
                                      .cons (o_bin rfl rfl (.yes rfl rfl hc248) rfl rfl (t_eql _ _ un4) rfl) <|
                                      .cons (o_pickT rfl rfl .no rfl hc248 rfl) <|
                                      .cons (o_mv rfl rfl .no rfl) <|
                                      .cons (o_mv rfl rfl (.yes rfl rfl hc251) rfl) <|
                                      .cons (o_mv rfl rfl (.yes rfl rfl hc251) rfl) <|
                                      .cons (o_mv rfl rfl (.yes rfl rfl hc254) rfl) <|
                                      .cons (o_bin rfl rfl (.yes rfl rfl hc254) rfl rfl (b_eql _ _) rfl) <|
                                      .cons (o_mv rfl rfl (.yes rfl rfl hc254) rfl) <|
                                      .cons (o_mv rfl rfl (.yes rfl rfl hc266) rfl) <|
                                      .cons (o_callX (fun n => bif Nat.beq n 0 then 0 else 3) rfl rfl (.yes rfl rfl hc266) Tryz.func17 rfl rfl (view_View_Changes_ok hx270) (.cons rfl (.p rfl) .nil) (callIn1N rfl ⟨(by simp [AV.live, lk, Nat.beq]), trivial⟩ (by decide) rfl (OD.dat_live (oviewView_dat _)) rfl (by simp)) (.inl rfl)) <|
                                      .cons (o_lenAM (enc := eapiChange) (xs := x269.1) rfl rfl (.yes rfl rfl hc266) rfl rfl sl49) <|
                                      .cons (o_bin rfl rfl (.yes rfl rfl hc266) rfl rfl (b_eql _ _) rfl) <|
                                      .cons (o_pickT rfl rfl (.yes rfl rfl hc254) rfl hc266 rfl) <|
                                      .cons (o_pickF rfl rfl (.yes rfl rfl hc251) rfl hc254 rfl) <|
                                      .cons (o_pickT rfl rfl .no rfl hc251 rfl) <|
                                      .cons (o_mv rfl rfl .no rfl) <|
                                      .cons (o_mv rfl rfl (.yes rfl rfl hc272) rfl) <|
                                      .cons (o_bin rfl rfl (.yes rfl rfl hc272) rfl rfl (b_eql _ _) rfl) <|
                                      .cons (o_mv rfl rfl (.yes rfl rfl hc272) rfl) <|
                                      .cons (o_bin rfl rfl (.yes rfl rfl hc272) rfl rfl (t_eql _ _ un4) rfl) <|
                                      .cons (o_pickT rfl rfl .no rfl hc272 rfl) <|
                                      .cons (o_mv rfl rfl .no rfl) <|
                                      .cons (o_noT rfl rfl rfl rfl hc275) <|
                                      .cons (o_noT rfl rfl rfl rfl hc275) <|
                                      .cons (o_noU rfl rfl rfl rfl) <|
                                      .cons (o_noU rfl rfl rfl rfl) <|
                                      .cons (o_noT rfl rfl rfl rfl hc275) <|
                                      .cons (o_pickF rfl rfl .no rfl hc275 rfl) <|
                                      .cons (o_mv rfl rfl .no rfl) <|
                                      .cons (o_noT rfl rfl rfl rfl rfl) <|
                                      .cons (o_pickF rfl rfl .no rfl rfl rfl) <|
                                      .cons (o_as rfl rfl .no rfl) <|
                                      .nil rfl
                                    ) ?_
                                    exact ⟨false, (Option.some.inj h277).symm, .w (weak_of ⟨⟨_, rfl, .d rfl⟩, trivial⟩ trivial drop0)⟩
                                · skip
                                  refine cw_region (
                                    .cons (o_mv rfl rfl .no rfl) <|
                                    .cons (o_bin rfl rfl .no rfl rfl (b_eql _ _) rfl) <|
                                    .cons (o_mv rfl rfl .no rfl) <|
                                    .cons (o_bin rfl rfl .no rfl rfl (t_eql _ _ un4) rfl) <|
                                    .cons (o_mv rfl rfl .no rfl) <|
                                    .cons (o_mv rfl rfl (.yes rfl rfl hc206) rfl) <|
                                    .cons (o_mv rfl rfl (.yes rfl rfl hc206) rfl) <|
                                    .cons (o_mv rfl rfl (.yes rfl rfl hc209) rfl) <|
                                    .cons (o_bin rfl rfl (.yes rfl rfl hc209) rfl rfl (b_eql _ _) rfl) <|
                                    .cons (o_mv rfl rfl (.yes rfl rfl hc209) rfl) <|
                                    .cons (o_mv rfl rfl (.yes rfl rfl hc245) rfl) <|
                                    .cons (o_bin rfl rfl (.yes rfl rfl hc245) rfl rfl (s_eql _ _) rfl) <|
                                    .cons (o_pickT rfl rfl (.yes rfl rfl hc209) rfl hc245 rfl) <|
                                    .cons (o_pickF rfl rfl (.yes rfl rfl hc206) rfl hc209 rfl) <|
                                    .cons (o_pickT rfl rfl .no rfl hc206 rfl) <|
                                    .cons (o_mv rfl rfl .no rfl) <|
                                    .cons (o_mv rfl rfl (.yes rfl rfl hc248) rfl) <|
                                    .cons (o_bin rfl rfl (.yes rfl rfl hc248) rfl rfl (b_eql _ _) rfl) <|
                                    .cons (o_mv rfl rfl (.yes rfl rfl hc248) rfl) <|
                                    .cons (o_bin rfl rfl (.yes rfl rfl hc248) rfl rfl (t_eql _ _ un4) rfl) <|
                                    .cons (o_pickT rfl rfl .no rfl hc248 rfl) <|
                                    .cons (o_mv rfl rfl .no rfl) <|
                                    .cons (o_mv rfl rfl (.yes rfl rfl hc251) rfl) <|
                                    .cons (o_mv rfl rfl (.yes rfl rfl hc251) rfl) <|
                                    .cons (o_mv rfl rfl (.yes rfl rfl hc254) rfl) <|
                                    .cons (o_bin rfl rfl (.yes rfl rfl hc254) rfl rfl (b_eql _ _) rfl) <|
                                    .cons (o_mv rfl rfl (.yes rfl rfl hc254) rfl) <|
                                    .cons (o_mv rfl rfl (.yes rfl rfl hc266) rfl) <|
                                    .cons (o_callX (fun n => bif Nat.beq n 0 then 0 else 3) rfl rfl (.yes rfl rfl hc266) Tryz.func17 rfl rfl (view_View_Changes_ok hx270) (.cons rfl (.p rfl) .nil) (callIn1N rfl ⟨(by simp [AV.live, lk, Nat.beq]), trivial⟩ (by decide) rfl (OD.dat_live (oviewView_dat _)) rfl (by simp)) (.inl rfl)) <|
                                    .cons (o_lenAM (enc := eapiChange) (xs := x269.1) rfl rfl (.yes rfl rfl hc266) rfl rfl sl49) <|
                                    .cons (o_bin rfl rfl (.yes rfl rfl hc266) rfl rfl (b_eql _ _) rfl) <|
                                    .cons (o_pickT rfl rfl (.yes rfl rfl hc254) rfl hc266 rfl) <|
                                    .cons (o_pickF rfl rfl (.yes rfl rfl hc251) rfl hc254 rfl) <|
                                    .cons (o_pickT rfl rfl .no rfl hc251 rfl) <|
                                    .cons (o_mv rfl rfl .no rfl) <|
                                    .cons (o_noT rfl rfl rfl rfl hc272) <|
                                    .cons (o_noT rfl rfl rfl rfl hc272) <|
                                    .cons (o_noT rfl rfl rfl rfl hc272) <|
                                    .cons (o_noT rfl rfl rfl rfl hc272) <|
                                    .cons (o_pickF rfl rfl .no rfl hc272 rfl) <|
                                    .cons (o_mv rfl rfl .no rfl) <|
                                    .cons (o_noT rfl rfl rfl rfl rfl) <|
                                    .cons (o_noT rfl rfl rfl rfl rfl) <|
                                    .cons (o_noU rfl rfl rfl rfl) <|
                                    .cons (o_noU rfl rfl rfl rfl) <|
                                    .cons (o_noT rfl rfl rfl rfl rfl) <|
                                    .cons (o_pickF rfl rfl .no rfl rfl rfl) <|
                                    .cons (o_mv rfl rfl .no rfl) <|
                                    .cons (o_noT rfl rfl rfl rfl rfl) <|
                                    .cons (o_pickF rfl rfl .no rfl rfl rfl) <|
                                    .cons (o_as rfl rfl .no rfl) <|
                                    .nil rfl
                                  ) ?_
                                  exact ⟨false, (Option.some.inj h274).symm, .w (weak_of ⟨⟨_, rfl, .d rfl⟩, trivial⟩ trivial drop0)⟩
                              · skip
                                refine cw_region (
                                  .cons (o_mv rfl rfl .no rfl) <|
                                  .cons (o_bin rfl rfl .no rfl rfl (b_eql _ _) rfl) <|
                                  .cons (o_mv rfl rfl .no rfl) <|
                                  .cons (o_bin rfl rfl .no rfl rfl (t_eql _ _ un4) rfl) <|
                                  .cons (o_mv rfl rfl .no rfl) <|
                                  .cons (o_mv rfl rfl (.yes rfl rfl hc206) rfl) <|
                                  .cons (o_mv rfl rfl (.yes rfl rfl hc206) rfl) <|
                                  .cons (o_mv rfl rfl (.yes rfl rfl hc209) rfl) <|
                                  .cons (o_bin rfl rfl (.yes rfl rfl hc209) rfl rfl (b_eql _ _) rfl) <|
                                  .cons (o_mv rfl rfl (.yes rfl rfl hc209) rfl) <|
                                  .cons (o_mv rfl rfl (.yes rfl rfl hc245) rfl) <|
                                  .cons (o_bin rfl rfl (.yes rfl rfl hc245) rfl rfl (s_eql _ _) rfl) <|
                                  .cons (o_pickT rfl rfl (.yes rfl rfl hc209) rfl hc245 rfl) <|
                                  .cons (o_pickF rfl rfl (.yes rfl rfl hc206) rfl hc209 rfl) <|
                                  .cons (o_pickT rfl rfl .no rfl hc206 rfl) <|
                                  .cons (o_mv rfl rfl .no rfl) <|
                                  .cons (o_mv rfl rfl (.yes rfl rfl hc248) rfl) <|
                                  .cons (o_bin rfl rfl (.yes rfl rfl hc248) rfl rfl (b_eql _ _) rfl) <|
                                  .cons (o_mv rfl rfl (.yes rfl rfl hc248) rfl) <|
                                  .cons (o_bin rfl rfl (.yes rfl rfl hc248) rfl rfl (t_eql _ _ un4) rfl) <|
                                  .cons (o_pickT rfl rfl .no rfl hc248 rfl) <|
                                  .cons (o_mv rfl rfl .no rfl) <|
                                  .cons (o_mv rfl rfl (.yes rfl rfl hc251) rfl) <|
                                  .cons (o_mv rfl rfl (.yes rfl rfl hc251) rfl) <|
                                  .cons (o_mv rfl rfl (.yes rfl rfl hc254) rfl) <|
                                  .cons (o_bin rfl rfl (.yes rfl rfl hc254) rfl rfl (b_eql _ _) rfl) <|
                                  .cons (o_mv rfl rfl (.yes rfl rfl hc254) rfl) <|
                                  .cons (o_noT rfl rfl rfl rfl hc266) <|
                                  .cons (o_noT rfl rfl rfl rfl hc266) <|
                                  .cons (o_noT rfl rfl rfl rfl hc266) <|
                                  .cons (o_noT rfl rfl rfl rfl hc266) <|
                                  .cons (o_pickF rfl rfl (.yes rfl rfl hc254) rfl hc266 rfl) <|
                                  .cons (o_pickF rfl rfl (.yes rfl rfl hc251) rfl hc254 rfl) <|
                                  .cons (o_pickT rfl rfl .no rfl hc251 rfl) <|
                                  .cons (o_mv rfl rfl .no rfl) <|
                                  .cons (o_noT rfl rfl rfl rfl rfl) <|
                                  .cons (o_noT rfl rfl rfl rfl rfl) <|
                                  .cons (o_noT rfl rfl rfl rfl rfl) <|
                                  .cons (o_noT rfl rfl rfl rfl rfl) <|
                                  .cons (o_pickF rfl rfl .no rfl rfl rfl) <|
                                  .cons (o_mv rfl rfl .no rfl) <|
                                  .cons (o_noT rfl rfl rfl rfl rfl) <|
                                  .cons (o_noT rfl rfl rfl rfl rfl) <|
                                  .cons (o_noU rfl rfl rfl rfl) <|
                                  .cons (o_noU rfl rfl rfl rfl) <|
                                  .cons (o_noT rfl rfl rfl rfl rfl) <|
                                  .cons (o_pickF rfl rfl .no rfl rfl rfl) <|
                                  .cons (o_mv rfl rfl .no rfl) <|
                                  .cons (o_noT rfl rfl rfl rfl rfl) <|
                                  .cons (o_pickF rfl rfl .no rfl rfl rfl) <|
                                  .cons (o_as rfl rfl .no rfl) <|
                                  .nil rfl
                                ) ?_
                                exact ⟨false, (Option.some.inj h268).symm, .w (weak_of ⟨⟨_, rfl, .d rfl⟩, trivial⟩ trivial drop0)⟩
                          · skip
                            refine cw_region (
                              .cons (o_mv rfl rfl .no rfl) <|
                              .cons (o_bin rfl rfl .no rfl rfl (b_eql _ _) rfl) <|
                              .cons (o_mv rfl rfl .no rfl) <|
                              .cons (o_bin rfl rfl .no rfl rfl (t_eql _ _ un4) rfl) <|
                              .cons (o_mv rfl rfl .no rfl) <|
                              .cons (o_mv rfl rfl (.yes rfl rfl hc206) rfl) <|
                              .cons (o_mv rfl rfl (.yes rfl rfl hc206) rfl) <|
                              .cons (o_mv rfl rfl (.yes rfl rfl hc209) rfl) <|
                              .cons (o_bin rfl rfl (.yes rfl rfl hc209) rfl rfl (b_eql _ _) rfl) <|
                              .cons (o_mv rfl rfl (.yes rfl rfl hc209) rfl) <|
                              .cons (o_mv rfl rfl (.yes rfl rfl hc245) rfl) <|
                              .cons (o_bin rfl rfl (.yes rfl rfl hc245) rfl rfl (s_eql _ _) rfl) <|
                              .cons (o_pickT rfl rfl (.yes rfl rfl hc209) rfl hc245 rfl) <|
                              .cons (o_pickF rfl rfl (.yes rfl rfl hc206) rfl hc209 rfl) <|
                              .cons (o_pickT rfl rfl .no rfl hc206 rfl) <|
                              .cons (o_mv rfl rfl .no rfl) <|
                              .cons (o_mv rfl rfl (.yes rfl rfl hc248) rfl) <|
                              .cons (o_bin rfl rfl (.yes rfl rfl hc248) rfl rfl (b_eql _ _) rfl) <|
                              .cons (o_mv rfl rfl (.yes rfl rfl hc248) rfl) <|
                              .cons (o_bin rfl rfl (.yes rfl rfl hc248) rfl rfl (t_eql _ _ un4) rfl) <|
                              .cons (o_pickT rfl rfl .no rfl hc248 rfl) <|
                              .cons (o_mv rfl rfl .no rfl) <|
                              .cons (o_noT rfl rfl rfl rfl hc251) <|
                              .cons (o_noT rfl rfl rfl rfl hc251) <|
                              .cons (o_noU rfl rfl rfl rfl) <|
                              .cons (o_noU rfl rfl rfl rfl) <|
                              .cons (o_noU rfl rfl rfl rfl) <|
                              .cons (o_noU rfl rfl rfl rfl) <|
                              .cons (o_noU rfl rfl rfl rfl) <|
                              .cons (o_noU rfl rfl rfl rfl) <|
                              .cons (o_noU rfl rfl rfl rfl) <|
                              .cons (o_noU rfl rfl rfl rfl) <|
                              .cons (o_noT rfl rfl rfl rfl hc251) <|
                              .cons (o_pickF rfl rfl .no rfl hc251 rfl) <|
                              .cons (o_mv rfl rfl .no rfl) <|
                              .cons (o_noT rfl rfl rfl rfl rfl) <|
                              .cons (o_noT rfl rfl rfl rfl rfl) <|
                              .cons (o_noT rfl rfl rfl rfl rfl) <|
                              .cons (o_noT rfl rfl rfl rfl rfl) <|
                              .cons (o_pickF rfl rfl .no rfl rfl rfl) <|
                              .cons (o_mv rfl rfl .no rfl) <|
                              .cons (o_noT rfl rfl rfl rfl rfl) <|
                              .cons (o_noT rfl rfl rfl rfl rfl) <|
                              .cons (o_noU rfl rfl rfl rfl) <|
                              .cons (o_noU rfl rfl rfl rfl) <|
                              .cons (o_noT rfl rfl rfl rfl rfl) <|
                              .cons (o_pickF rfl rfl .no rfl rfl rfl) <|
                              .cons (o_mv rfl rfl .no rfl) <|
                              .cons (o_noT rfl rfl rfl rfl rfl) <|
                              .cons (o_pickF rfl rfl .no rfl rfl rfl) <|
                              .cons (o_as rfl rfl .no rfl) <|
                              .nil rfl
                            ) ?_
                            exact ⟨false, (Option.some.inj h253).symm, .w (weak_of ⟨⟨_, rfl, .d rfl⟩, trivial⟩ trivial drop0)⟩
                        · skip
                          refine cw_region (
                            .cons (o_mv rfl rfl .no rfl) <|
                            .cons (o_bin rfl rfl .no rfl rfl (b_eql _ _) rfl) <|
                            .cons (o_mv rfl rfl .no rfl) <|
                            .cons (o_bin rfl rfl .no rfl rfl (t_eql _ _ un4) rfl) <|
                            .cons (o_mv rfl rfl .no rfl) <|
                            .cons (o_mv rfl rfl (.yes rfl rfl hc206) rfl) <|
                            .cons (o_mv rfl rfl (.yes rfl rfl hc206) rfl) <|
                            .cons (o_mv rfl rfl (.yes rfl rfl hc209) rfl) <|
                            .cons (o_bin rfl rfl (.yes rfl rfl hc209) rfl rfl (b_eql _ _) rfl) <|
                            .cons (o_mv rfl rfl (.yes rfl rfl hc209) rfl) <|
                            .cons (o_mv rfl rfl (.yes rfl rfl hc245) rfl) <|
                            .cons (o_bin rfl rfl (.yes rfl rfl hc245) rfl rfl (s_eql _ _) rfl) <|
                            .cons (o_pickT rfl rfl (.yes rfl rfl hc209) rfl hc245 rfl) <|
                            .cons (o_pickF rfl rfl (.yes rfl rfl hc206) rfl hc209 rfl) <|
                            .cons (o_pickT rfl rfl .no rfl hc206 rfl) <|
                            .cons (o_mv rfl rfl .no rfl) <|
                            .cons (o_noT rfl rfl rfl rfl hc248) <|
                            .cons (o_noT rfl rfl rfl rfl hc248) <|
                            .cons (o_noT rfl rfl rfl rfl hc248) <|
                            .cons (o_noT rfl rfl rfl rfl hc248) <|
                            .cons (o_pickF rfl rfl .no rfl hc248 rfl) <|
                            .cons (o_mv rfl rfl .no rfl) <|
                            .cons (o_noT rfl rfl rfl rfl rfl) <|
                            .cons (o_noT rfl rfl rfl rfl rfl) <|
                            .cons (o_noU rfl rfl rfl rfl) <|
                            .cons (o_noU rfl rfl rfl rfl) <|
                            .cons (o_noU rfl rfl rfl rfl) <|
                            .cons (o_noU rfl rfl rfl rfl) <|
                            .cons (o_noU rfl rfl rfl rfl) <|
                            .cons (o_noU rfl rfl rfl rfl) <|
                            .cons (o_noU rfl rfl rfl rfl) <|
                            .cons (o_noU rfl rfl rfl rfl) <|
                            .cons (o_noT rfl rfl rfl rfl rfl) <|
                            .cons (o_pickF rfl rfl .no rfl rfl rfl) <|
                            .cons (o_mv rfl rfl .no rfl) <|
                            .cons (o_noT rfl rfl rfl rfl rfl) <|
                            .cons (o_noT rfl rfl rfl rfl rfl) <|
                            .cons (o_noT rfl rfl rfl rfl rfl) <|
                            .cons (o_noT rfl rfl rfl rfl rfl) <|
                            .cons (o_pickF rfl rfl .no rfl rfl rfl) <|
                            .cons (o_mv rfl rfl .no rfl) <|
                            .cons (o_noT rfl rfl rfl rfl rfl) <|
                            .cons (o_noT rfl rfl rfl rfl rfl) <|
                            .cons (o_noU rfl rfl rfl rfl) <|
                            .cons (o_noU rfl rfl rfl rfl) <|
                            .cons (o_noT rfl rfl rfl rfl rfl) <|
                            .cons (o_pickF rfl rfl .no rfl rfl rfl) <|
                            .cons (o_mv rfl rfl .no rfl) <|
                            .cons (o_noT rfl rfl rfl rfl rfl) <|
                            .cons (o_pickF rfl rfl .no rfl rfl rfl) <|
                            .cons (o_as rfl rfl .no rfl) <|
                            .nil rfl
                          ) ?_
                          exact ⟨false, (Option.some.inj h250).symm, .w (weak_of ⟨⟨_, rfl, .d rfl⟩, trivial⟩ trivial drop0)⟩
                      · skip
                        refine cw_region (
                          .cons (o_mv rfl rfl .no rfl) <|
                          .cons (o_bin rfl rfl .no rfl rfl (b_eql _ _) rfl) <|
                          .cons (o_mv rfl rfl .no rfl) <|
                          .cons (o_bin rfl rfl .no rfl rfl (t_eql _ _ un4) rfl) <|
                          .cons (o_mv rfl rfl .no rfl) <|
                          .cons (o_mv rfl rfl (.yes rfl rfl hc206) rfl) <|
                          .cons (o_mv rfl rfl (.yes rfl rfl hc206) rfl) <|
                          .cons (o_mv rfl rfl (.yes rfl rfl hc209) rfl) <|
                          .cons (o_bin rfl rfl (.yes rfl rfl hc209) rfl rfl (b_eql _ _) rfl) <|
                          .cons (o_mv rfl rfl (.yes rfl rfl hc209) rfl) <|
                          .cons (o_noT rfl rfl rfl rfl hc245) <|
                          .cons (o_noT rfl rfl rfl rfl hc245) <|
                          .cons (o_pickF rfl rfl (.yes rfl rfl hc209) rfl hc245 rfl) <|
                          .cons (o_pickF rfl rfl (.yes rfl rfl hc206) rfl hc209 rfl) <|
                          .cons (o_pickT rfl rfl .no rfl hc206 rfl) <|
                          .cons (o_mv rfl rfl .no rfl) <|
                          .cons (o_noT rfl rfl rfl rfl rfl) <|
                          .cons (o_noT rfl rfl rfl rfl rfl) <|
                          .cons (o_noT rfl rfl rfl rfl rfl) <|
                          .cons (o_noT rfl rfl rfl rfl rfl) <|
                          .cons (o_pickF rfl rfl .no rfl rfl rfl) <|
                          .cons (o_mv rfl rfl .no rfl) <|
                          .cons (o_noT rfl rfl rfl rfl rfl) <|
                          .cons (o_noT rfl rfl rfl rfl rfl) <|
                          .cons (o_noU rfl rfl rfl rfl) <|
                          .cons (o_noU rfl rfl rfl rfl) <|
                          .cons (o_noU rfl rfl rfl rfl) <|
                          .cons (o_noU rfl rfl rfl rfl) <|
                          .cons (o_noU rfl rfl rfl rfl) <|
                          .cons (o_noU rfl rfl rfl rfl) <|
                          .cons (o_noU rfl rfl rfl rfl) <|
                          .cons (o_noU rfl rfl rfl rfl) <|
                          .cons (o_noT rfl rfl rfl rfl rfl) <|
                          .cons (o_pickF rfl rfl .no rfl rfl rfl) <|
                          .cons (o_mv rfl rfl .no rfl) <|
                          .cons (o_noT rfl rfl rfl rfl rfl) <|
                          .cons (o_noT rfl rfl rfl rfl rfl) <|
                          .cons (o_noT rfl rfl rfl rfl rfl) <|
                          .cons (o_noT rfl rfl rfl rfl rfl) <|
                          .cons (o_pickF rfl rfl .no rfl rfl rfl) <|
                          .cons (o_mv rfl rfl .no rfl) <|
                          .cons (o_noT rfl rfl rfl rfl rfl) <|
                          .cons (o_noT rfl rfl rfl rfl rfl) <|
                          .cons (o_noU rfl rfl rfl rfl) <|
                          .cons (o_noU rfl rfl rfl rfl) <|
                          .cons (o_noT rfl rfl rfl rfl rfl) <|
                          .cons (o_pickF rfl rfl .no rfl rfl rfl) <|
                          .cons (o_mv rfl rfl .no rfl) <|
                          .cons (o_noT rfl rfl rfl rfl rfl) <|
                          .cons (o_pickF rfl rfl .no rfl rfl rfl) <|
                          .cons (o_as rfl rfl .no rfl) <|
                          .nil rfl
                        ) ?_
                        exact ⟨false, (Option.some.inj h247).symm, .w (weak_of ⟨⟨_, rfl, .d rfl⟩, trivial⟩ trivial drop0)⟩
                  · skip
                    refine cw_region (
                      .cons (o_mv rfl rfl .no rfl) <|
                      .cons (o_bin rfl rfl .no rfl rfl (b_eql _ _) rfl) <|
                      .cons (o_mv rfl rfl .no rfl) <|
                      .cons (o_bin rfl rfl .no rfl rfl (t_eql _ _ un4) rfl) <|
                      .cons (o_mv rfl rfl .no rfl) <|
                      .cons (o_noT rfl rfl rfl rfl hc206) <|
                      .cons (o_noT rfl rfl rfl rfl hc206) <|
                      .cons (o_noU rfl rfl rfl rfl) <|
                      .cons (o_noU rfl rfl rfl rfl) <|
                      .cons (o_noU rfl rfl rfl rfl) <|
                      .cons (o_noU rfl rfl rfl rfl) <|
                      .cons (o_noU rfl rfl rfl rfl) <|
                      .cons (o_noU rfl rfl rfl rfl) <|
                      .cons (o_noT rfl rfl rfl rfl hc206) <|
                      .cons (o_pickF rfl rfl .no rfl hc206 rfl) <|
                      .cons (o_mv rfl rfl .no rfl) <|
                      .cons (o_noT rfl rfl rfl rfl rfl) <|
                      .cons (o_noT rfl rfl rfl rfl rfl) <|
                      .cons (o_noT rfl rfl rfl rfl rfl) <|
                      .cons (o_noT rfl rfl rfl rfl rfl) <|
                      .cons (o_pickF rfl rfl .no rfl rfl rfl) <|
                      .cons (o_mv rfl rfl .no rfl) <|
                      .cons (o_noT rfl rfl rfl rfl rfl) <|
                      .cons (o_noT rfl rfl rfl rfl rfl) <|
                      .cons (o_noU rfl rfl rfl rfl) <|
                      .cons (o_noU rfl rfl rfl rfl) <|
                      .cons (o_noU rfl rfl rfl rfl) <|
                      .cons (o_noU rfl rfl rfl rfl) <|
                      .cons (o_noU rfl rfl rfl rfl) <|
                      .cons (o_noU rfl rfl rfl rfl) <|
                      .cons (o_noU rfl rfl rfl rfl) <|
                      .cons (o_noU rfl rfl rfl rfl) <|
                      .cons (o_noT rfl rfl rfl rfl rfl) <|
                      .cons (o_pickF rfl rfl .no rfl rfl rfl) <|
                      .cons (o_mv rfl rfl .no rfl) <|
                      .cons (o_noT rfl rfl rfl rfl rfl) <|
                      .cons (o_noT rfl rfl rfl rfl rfl) <|
                      .cons (o_noT rfl rfl rfl rfl rfl) <|
                      .cons (o_noT rfl rfl rfl rfl rfl) <|
                      .cons (o_pickF rfl rfl .no rfl rfl rfl) <|
                      .cons (o_mv rfl rfl .no rfl) <|
                      .cons (o_noT rfl rfl rfl rfl rfl) <|
                      .cons (o_noT rfl rfl rfl rfl rfl) <|
                      .cons (o_noU rfl rfl rfl rfl) <|
                      .cons (o_noU rfl rfl rfl rfl) <|
                      .cons (o_noT rfl rfl rfl rfl rfl) <|
                      .cons (o_pickF rfl rfl .no rfl rfl rfl) <|
                      .cons (o_mv rfl rfl .no rfl) <|
                      .cons (o_noT rfl rfl rfl rfl rfl) <|
                      .cons (o_pickF rfl rfl .no rfl rfl rfl) <|
                      .cons (o_as rfl rfl .no rfl) <|
                      .nil rfl
                    ) ?_
                    exact ⟨false, (Option.some.inj h208).symm, .w (weak_of ⟨⟨_, rfl, .d rfl⟩, trivial⟩ trivial drop0)⟩
              · skip
                rcases cond_some hj120 with ⟨hc122, h123⟩ | ⟨hc122, h124⟩
                · skip
                  refine cw_region (
                    .cons (o_mv rfl rfl .no rfl) <|
                    .cons (o_mv rfl rfl .no rfl) <|
                    .cons (o_mv rfl rfl (.yes rfl rfl hc122) rfl) <|
                    .cons (o_lenS rfl rfl (.yes rfl rfl hc122) rfl un9) <|
                    .cons (o_mv rfl rfl (.yes rfl rfl hc122) rfl) <|
                    .cons (o_bin rfl rfl (.yes rfl rfl hc122) rfl rfl (b_sub _ _) rfl) <|
                    .cons (o_bin rfl rfl (.yes rfl rfl hc122) rfl rfl (b_leq _ _) rfl) <|
                    .cons (o_pickT rfl rfl .no rfl hc122 rfl) <|
                    .cons (o_as rfl rfl .no rfl) <|
                    .nil rfl
                  ) ?_
                  exact ⟨(decide (((a3.extract 0 (min (a3.size : Int) 100).toNat).size : Int) ≤ (IntKind.wrap .i64 (1048576 - a1)))), (Option.some.inj h123).symm, .w (weak_of ⟨⟨_, rfl, .ptro rfl rfl⟩, ⟨_, rfl, .d rfl⟩, ⟨_, rfl, .d rfl⟩, ⟨_, rfl, .d rfl⟩, ⟨_, rfl, .d rfl⟩, ⟨_, rfl, .d rfl⟩, ⟨_, rfl, .d rfl⟩, ⟨_, rfl, .d rfl⟩, ⟨_, rfl, .d rfl⟩, trivial⟩ ⟨.own rfl (.of_eq rfl (oviewView_dat _)), trivial⟩ drop0)⟩
                · skip
                  refine cw_region (
                    .cons (o_mv rfl rfl .no rfl) <|
                    .cons (o_mv rfl rfl .no rfl) <|
                    .cons (o_noT rfl rfl rfl rfl hc122) <|
                    .cons (o_noT rfl rfl rfl rfl hc122) <|
                    .cons (o_noT rfl rfl rfl rfl hc122) <|
                    .cons (o_noT rfl rfl rfl rfl hc122) <|
                    .cons (o_noT rfl rfl rfl rfl hc122) <|
                    .cons (o_pickF rfl rfl .no rfl hc122 rfl) <|
                    .cons (o_as rfl rfl .no rfl) <|
                    .nil rfl
                  ) ?_
                  exact ⟨false, (Option.some.inj h124).symm, .w (weak_of ⟨⟨_, rfl, .ptro rfl rfl⟩, ⟨_, rfl, .d rfl⟩, ⟨_, rfl, .d rfl⟩, ⟨_, rfl, .d rfl⟩, ⟨_, rfl, .d rfl⟩, ⟨_, rfl, .d rfl⟩, ⟨_, rfl, .d rfl⟩, ⟨_, rfl, .d rfl⟩, ⟨_, rfl, .d rfl⟩, trivial⟩ ⟨.own rfl (.of_eq rfl (oviewView_dat _)), trivial⟩ drop0)⟩
            · skip
              rcases cond_some hj108 with ⟨hc110, h111⟩ | ⟨hc110, h112⟩
              · skip
                rcases cond_some h111 with ⟨hc113, h114⟩ | ⟨hc113, h115⟩
                · skip
                  refine cw_region (
                    .cons (o_mv rfl rfl .no rfl) <|
                    .cons (o_mv rfl rfl .no rfl) <|
                    .cons (o_mv rfl rfl (.yes rfl rfl hc110) rfl) <|
                    .cons (o_bin rfl rfl (.yes rfl rfl hc110) rfl rfl (b_geq _ _) rfl) <|
                    .cons (o_pickT rfl rfl .no rfl hc110 rfl) <|
                    .cons (o_mv rfl rfl .no rfl) <|
                    .cons (o_mv rfl rfl (.yes rfl rfl hc113) rfl) <|
                    .cons (o_bin rfl rfl (.yes rfl rfl hc113) rfl rfl (b_leq _ _) rfl) <|
                    .cons (o_pickT rfl rfl .no rfl hc113 rfl) <|
                    .cons (o_as rfl rfl .no rfl) <|
                    .nil rfl
                  ) ?_
                  exact ⟨(decide (a1 ≤ 1048576)), (Option.some.inj h114).symm, .w (weak_of ⟨⟨_, rfl, .d rfl⟩, ⟨_, rfl, .d rfl⟩, ⟨_, rfl, .ptro rfl rfl⟩, ⟨_, rfl, .d rfl⟩, ⟨_, rfl, .d rfl⟩, ⟨_, rfl, .d rfl⟩, ⟨_, rfl, .d rfl⟩, ⟨_, rfl, .d rfl⟩, ⟨_, rfl, .d rfl⟩, ⟨_, rfl, .d rfl⟩, trivial⟩ ⟨.own rfl (.of_eq rfl (oviewView_dat _)), trivial⟩ drop0)⟩
                · skip
                  refine cw_region (
                    .cons (o_mv rfl rfl .no rfl) <|
                    .cons (o_mv rfl rfl .no rfl) <|
                    .cons (o_mv rfl rfl (.yes rfl rfl hc110) rfl) <|
                    .cons (o_bin rfl rfl (.yes rfl rfl hc110) rfl rfl (b_geq _ _) rfl) <|
                    .cons (o_pickT rfl rfl .no rfl hc110 rfl) <|
                    .cons (o_mv rfl rfl .no rfl) <|
                    .cons (o_noT rfl rfl rfl rfl hc113) <|
                    .cons (o_noT rfl rfl rfl rfl hc113) <|
                    .cons (o_pickF rfl rfl .no rfl hc113 rfl) <|
                    .cons (o_as rfl rfl .no rfl) <|
                    .nil rfl
                  ) ?_
                  exact ⟨false, (Option.some.inj h115).symm, .w (weak_of ⟨⟨_, rfl, .d rfl⟩, ⟨_, rfl, .d rfl⟩, ⟨_, rfl, .ptro rfl rfl⟩, ⟨_, rfl, .d rfl⟩, ⟨_, rfl, .d rfl⟩, ⟨_, rfl, .d rfl⟩, ⟨_, rfl, .d rfl⟩, ⟨_, rfl, .d rfl⟩, ⟨_, rfl, .d rfl⟩, ⟨_, rfl, .d rfl⟩, trivial⟩ ⟨.own rfl (.of_eq rfl (oviewView_dat _)), trivial⟩ drop0)⟩
              · skip
                refine cw_region (
                  .cons (o_mv rfl rfl .no rfl) <|
                  .cons (o_mv rfl rfl .no rfl) <|
                  .cons (o_noT rfl rfl rfl rfl hc110) <|
                  .cons (o_noT rfl rfl rfl rfl hc110) <|
                  .cons (o_pickF rfl rfl .no rfl hc110 rfl) <|
                  .cons (o_mv rfl rfl .no rfl) <|
                  .cons (o_noT rfl rfl rfl rfl rfl) <|
                  .cons (o_noT rfl rfl rfl rfl rfl) <|
                  .cons (o_pickF rfl rfl .no rfl rfl rfl) <|
                  .cons (o_as rfl rfl .no rfl) <|
                  .nil rfl
                ) ?_
                exact ⟨false, (Option.some.inj h112).symm, .w (weak_of ⟨⟨_, rfl, .d rfl⟩, ⟨_, rfl, .d rfl⟩, ⟨_, rfl, .ptro rfl rfl⟩, ⟨_, rfl, .d rfl⟩, ⟨_, rfl, .d rfl⟩, ⟨_, rfl, .d rfl⟩, ⟨_, rfl, .d rfl⟩, ⟨_, rfl, .d rfl⟩, ⟨_, rfl, .d rfl⟩, ⟨_, rfl, .d rfl⟩, trivial⟩ ⟨.own rfl (.of_eq rfl (oviewView_dat _)), trivial⟩ drop0)⟩
          · skip
            obtain ⟨o78, hj79, h80⟩ := bind_some hj73
            refine cw_join (fun (z : Bool) => St.of [(0, .d (eint a0)), (1, .d (eint a1)), (2, .d (eint a2)), (3, .d (estring (a3.extract 0 (min (a3.size : Int) 100).toNat))), (10, .ptr 0 0), (11, .d (ebool o25)), (12, .d (ebool o43)), (62, .d (ebool z))] [(0, .own (oviewView x4))]) (fun (z : Bool) => o78 = z) ?_ ?_
            · intro v87 hv88; subst hv88
              rcases cond_some h80 with ⟨hc84, h85⟩ | ⟨hc84, h86⟩
              · refine cw_condT rfl hc84 ?_
                refine cw_region (
                  .cons (o_mv rfl rfl .no rfl) <|
                  .cons (o_bin rfl rfl .no rfl rfl (b_and _ _) rfl) <|
                  .cons (o_as rfl rfl .no rfl) <|
                  .nil rfl
                ) ?_
                exact ⟨(bitsAnd .i64 5000 a2), (Option.some.inj h85).symm, .w (weak_of ⟨⟨_, rfl, .d rfl⟩, ⟨_, rfl, .d rfl⟩, ⟨_, rfl, .d rfl⟩, ⟨_, rfl, .d rfl⟩, ⟨_, rfl, .ptro rfl rfl⟩, ⟨_, rfl, .d rfl⟩, ⟨_, rfl, .d rfl⟩, trivial⟩ ⟨.own rfl (.of_eq rfl (oviewView_dat _)), trivial⟩ drop0)⟩
              · refine cw_condF rfl hc84 ?_
                refine cw_skip ?_
                exact ⟨a2, (Option.some.inj h86).symm, .w (weak_of ⟨⟨_, rfl, .d rfl⟩, ⟨_, rfl, .d rfl⟩, ⟨_, rfl, .d rfl⟩, ⟨_, rfl, .d rfl⟩, ⟨_, rfl, .ptro rfl rfl⟩, ⟨_, rfl, .d rfl⟩, ⟨_, rfl, .d rfl⟩, trivial⟩ ⟨.own rfl (.of_eq rfl (oviewView_dat _)), trivial⟩ drop0)⟩
            · skip
              rcases cond_some hj79 with ⟨hc81, h82⟩ | ⟨hc81, h83⟩
              · skip
                refine cw_region (
                  .cons (o_mv rfl rfl .no rfl) <|
                  .cons (o_bin rfl rfl .no rfl rfl (b_gtr _ _) rfl) <|
                  .cons (o_mv rfl rfl .no rfl) <|
                  .cons (o_mv rfl rfl (.yes rfl rfl hc81) rfl) <|
                  .cons (o_pickT rfl rfl .no rfl hc81 rfl) <|
                  .nil rfl
                ) ?_
                exact ⟨o43, (Option.some.inj h82).symm, .w (weak_of ⟨⟨_, rfl, .d rfl⟩, ⟨_, rfl, .d rfl⟩, ⟨_, rfl, .d rfl⟩, ⟨_, rfl, .d rfl⟩, ⟨_, rfl, .ptro rfl rfl⟩, ⟨_, rfl, .d rfl⟩, ⟨_, rfl, .d rfl⟩, ⟨_, rfl, .d rfl⟩, trivial⟩ ⟨.own rfl (.of_eq rfl (oviewView_dat _)), trivial⟩ drop0)⟩
              · skip
                refine cw_region (
                  .cons (o_mv rfl rfl .no rfl) <|
                  .cons (o_bin rfl rfl .no rfl rfl (b_gtr _ _) rfl) <|
                  .cons (o_mv rfl rfl .no rfl) <|
                  .cons (o_noT rfl rfl rfl rfl hc81) <|
                  .cons (o_pickF rfl rfl .no rfl hc81 rfl) <|
                  .nil rfl
                ) ?_
                exact ⟨false, (Option.some.inj h83).symm, .w (weak_of ⟨⟨_, rfl, .d rfl⟩, ⟨_, rfl, .d rfl⟩, ⟨_, rfl, .d rfl⟩, ⟨_, rfl, .d rfl⟩, ⟨_, rfl, .ptro rfl rfl⟩, ⟨_, rfl, .d rfl⟩, ⟨_, rfl, .d rfl⟩, ⟨_, rfl, .d rfl⟩, trivial⟩ ⟨.own rfl (.of_eq rfl (oviewView_dat _)), trivial⟩ drop0)⟩
        · skip
          rcases cond_some hj44 with ⟨hc46, h47⟩ | ⟨hc46, h48⟩
          · skip
            rcases cond_some h47 with ⟨hc49, h50⟩ | ⟨hc49, h51⟩
            · skip
              rcases cond_some h50 with ⟨hc52, h53⟩ | ⟨hc52, h54⟩
              · skip
                rcases cond_some h53 with ⟨hc55, h56⟩ | ⟨hc55, h57⟩
                · skip
                  refine cw_region (
                    .cons (o_mv rfl rfl .no rfl) <|
                    .cons (o_mv rfl rfl .no rfl) <|
                    .cons (o_mv rfl rfl (.yes rfl rfl hc46) rfl) <|
                    .cons (o_bin rfl rfl (.yes rfl rfl hc46) rfl rfl (b_geq _ _) rfl) <|
                    .cons (o_pickT rfl rfl .no rfl hc46 rfl) <|
                    .cons (o_mv rfl rfl .no rfl) <|
                    .cons (o_mv rfl rfl (.yes rfl rfl hc49) rfl) <|
                    .cons (o_bin rfl rfl (.yes rfl rfl hc49) rfl rfl (b_geq _ _) rfl) <|
                    .cons (o_pickT rfl rfl .no rfl hc49 rfl) <|
                    .cons (o_mv rfl rfl .no rfl) <|
                    .cons (o_mv rfl rfl (.yes rfl rfl hc52) rfl) <|
                    .cons (o_bin rfl rfl (.yes rfl rfl hc52) rfl rfl (b_leq _ _) rfl) <|
                    .cons (o_pickT rfl rfl .no rfl hc52 rfl) <|
                    .cons (o_mv rfl rfl .no rfl) <|
                    .cons (o_mv rfl rfl (.yes rfl rfl hc55) rfl) <|
                    .cons (o_mv rfl rfl (.yes rfl rfl hc55) rfl) <|
                    .cons (o_bin rfl rfl (.yes rfl rfl hc55) rfl rfl (b_sub _ _) rfl) <|
                    .cons (o_bin rfl rfl (.yes rfl rfl hc55) rfl rfl (b_leq _ _) rfl) <|
                    .cons (o_pickT rfl rfl .no rfl hc55 rfl) <|
                    .cons (o_as rfl rfl .no rfl) <|
                    .nil rfl
                  ) ?_
                  exact ⟨(decide (a2 ≤ (IntKind.wrap .i64 (1048576 - a1)))), (Option.some.inj h56).symm, .w (weak_of ⟨⟨_, rfl, .d rfl⟩, ⟨_, rfl, .d rfl⟩, ⟨_, rfl, .d rfl⟩, ⟨_, rfl, .d rfl⟩, ⟨_, rfl, .ptro rfl rfl⟩, ⟨_, rfl, .d rfl⟩, ⟨_, rfl, .d rfl⟩, trivial⟩ ⟨.own rfl (.of_eq rfl (oviewView_dat _)), trivial⟩ drop0)⟩
                · skip
                  refine cw_region (
                    .cons (o_mv rfl rfl .no rfl) <|
                    .cons (o_mv rfl rfl .no rfl) <|
                    .cons (o_mv rfl rfl (.yes rfl rfl hc46) rfl) <|
                    .cons (o_bin rfl rfl (.yes rfl rfl hc46) rfl rfl (b_geq _ _) rfl) <|
                    .cons (o_pickT rfl rfl .no rfl hc46 rfl) <|
                    .cons (o_mv rfl rfl .no rfl) <|
                    .cons (o_mv rfl rfl (.yes rfl rfl hc49) rfl) <|
                    .cons (o_bin rfl rfl (.yes rfl rfl hc49) rfl rfl (b_geq _ _) rfl) <|
                    .cons (o_pickT rfl rfl .no rfl hc49 rfl) <|
                    .cons (o_mv rfl rfl .no rfl) <|
                    .cons (o_mv rfl rfl (.yes rfl rfl hc52) rfl) <|
                    .cons (o_bin rfl rfl (.yes rfl rfl hc52) rfl rfl (b_leq _ _) rfl) <|
                    .cons (o_pickT rfl rfl .no rfl hc52 rfl) <|
                    .cons (o_mv rfl rfl .no rfl) <|
                    .cons (o_noT rfl rfl rfl rfl hc55) <|
                    .cons (o_noT rfl rfl rfl rfl hc55) <|
                    .cons (o_noT rfl rfl rfl rfl hc55) <|
                    .cons (o_noT rfl rfl rfl rfl hc55) <|
                    .cons (o_pickF rfl rfl .no rfl hc55 rfl) <|
                    .cons (o_as rfl rfl .no rfl) <|
                    .nil rfl
                  ) ?_
                  exact ⟨false, (Option.some.inj h57).symm, .w (weak_of ⟨⟨_, rfl, .d rfl⟩, ⟨_, rfl, .d rfl⟩, ⟨_, rfl, .d rfl⟩, ⟨_, rfl, .d rfl⟩, ⟨_, rfl, .ptro rfl rfl⟩, ⟨_, rfl, .d rfl⟩, ⟨_, rfl, .d rfl⟩, trivial⟩ ⟨.own rfl (.of_eq rfl (oviewView_dat _)), trivial⟩ drop0)⟩
              · skip
                refine cw_region (
                  .cons (o_mv rfl rfl .no rfl) <|
                  .cons (o_mv rfl rfl .no rfl) <|
                  .cons (o_mv rfl rfl (.yes rfl rfl hc46) rfl) <|
                  .cons (o_bin rfl rfl (.yes rfl rfl hc46) rfl rfl (b_geq _ _) rfl) <|
                  .cons (o_pickT rfl rfl .no rfl hc46 rfl) <|
                  .cons (o_mv rfl rfl .no rfl) <|
                  .cons (o_mv rfl rfl (.yes rfl rfl hc49) rfl) <|
                  .cons (o_bin rfl rfl (.yes rfl rfl hc49) rfl rfl (b_geq _ _) rfl) <|
                  .cons (o_pickT rfl rfl .no rfl hc49 rfl) <|
                  .cons (o_mv rfl rfl .no rfl) <|
                  .cons (o_noT rfl rfl rfl rfl hc52) <|
                  .cons (o_noT rfl rfl rfl rfl hc52) <|
                  .cons (o_pickF rfl rfl .no rfl hc52 rfl) <|
                  .cons (o_mv rfl rfl .no rfl) <|
                  .cons (o_noT rfl rfl rfl rfl rfl) <|
                  .cons (o_noT rfl rfl rfl rfl rfl) <|
                  .cons (o_noT rfl rfl rfl rfl rfl) <|
                  .cons (o_noT rfl rfl rfl rfl rfl) <|
                  .cons (o_pickF rfl rfl .no rfl rfl rfl) <|
                  .cons (o_as rfl rfl .no rfl) <|
                  .nil rfl
                ) ?_
                exact ⟨false, (Option.some.inj h54).symm, .w (weak_of ⟨⟨_, rfl, .d rfl⟩, ⟨_, rfl, .d rfl⟩, ⟨_, rfl, .d rfl⟩, ⟨_, rfl, .d rfl⟩, ⟨_, rfl, .ptro rfl rfl⟩, ⟨_, rfl, .d rfl⟩, ⟨_, rfl, .d rfl⟩, trivial⟩ ⟨.own rfl (.of_eq rfl (oviewView_dat _)), trivial⟩ drop0)⟩
            · skip
              refine cw_region (
                .cons (o_mv rfl rfl .no rfl) <|
                .cons (o_mv rfl rfl .no rfl) <|
                .cons (o_mv rfl rfl (.yes rfl rfl hc46) rfl) <|
                .cons (o_bin rfl rfl (.yes rfl rfl hc46) rfl rfl (b_geq _ _) rfl) <|
                .cons (o_pickT rfl rfl .no rfl hc46 rfl) <|
                .cons (o_mv rfl rfl .no rfl) <|
                .cons (o_noT rfl rfl rfl rfl hc49) <|
                .cons (o_noT rfl rfl rfl rfl hc49) <|
                .cons (o_pickF rfl rfl .no rfl hc49 rfl) <|
                .cons (o_mv rfl rfl .no rfl) <|
                .cons (o_noT rfl rfl rfl rfl rfl) <|
                .cons (o_noT rfl rfl rfl rfl rfl) <|
                .cons (o_pickF rfl rfl .no rfl rfl rfl) <|
                .cons (o_mv rfl rfl .no rfl) <|
                .cons (o_noT rfl rfl rfl rfl rfl) <|
                .cons (o_noT rfl rfl rfl rfl rfl) <|
                .cons (o_noT rfl rfl rfl rfl rfl) <|
                .cons (o_noT rfl rfl rfl rfl rfl) <|
                .cons (o_pickF rfl rfl .no rfl rfl rfl) <|
                .cons (o_as rfl rfl .no rfl) <|
                .nil rfl
              ) ?_
              exact ⟨false, (Option.some.inj h51).symm, .w (weak_of ⟨⟨_, rfl, .d rfl⟩, ⟨_, rfl, .d rfl⟩, ⟨_, rfl, .d rfl⟩, ⟨_, rfl, .d rfl⟩, ⟨_, rfl, .ptro rfl rfl⟩, ⟨_, rfl, .d rfl⟩, ⟨_, rfl, .d rfl⟩, trivial⟩ ⟨.own rfl (.of_eq rfl (oviewView_dat _)), trivial⟩ drop0)⟩
          · skip
            refine cw_region (
              .cons (o_mv rfl rfl .no rfl) <|
              .cons (o_mv rfl rfl .no rfl) <|
              .cons (o_noT rfl rfl rfl rfl hc46) <|
              .cons (o_noT rfl rfl rfl rfl hc46) <|
              .cons (o_pickF rfl rfl .no rfl hc46 rfl) <|
              .cons (o_mv rfl rfl .no rfl) <|
              .cons (o_noT rfl rfl rfl rfl rfl) <|
              .cons (o_noT rfl rfl rfl rfl rfl) <|
              .cons (o_pickF rfl rfl .no rfl rfl rfl) <|
              .cons (o_mv rfl rfl .no rfl) <|
              .cons (o_noT rfl rfl rfl rfl rfl) <|
              .cons (o_noT rfl rfl rfl rfl rfl) <|
              .cons (o_pickF rfl rfl .no rfl rfl rfl) <|
              .cons (o_mv rfl rfl .no rfl) <|
              .cons (o_noT rfl rfl rfl rfl rfl) <|
              .cons (o_noT rfl rfl rfl rfl rfl) <|
              .cons (o_noT rfl rfl rfl rfl rfl) <|
              .cons (o_noT rfl rfl rfl rfl rfl) <|
              .cons (o_pickF rfl rfl .no rfl rfl rfl) <|
              .cons (o_as rfl rfl .no rfl) <|
              .nil rfl
            ) ?_
            exact ⟨false, (Option.some.inj h48).symm, .w (weak_of ⟨⟨_, rfl, .d rfl⟩, ⟨_, rfl, .d rfl⟩, ⟨_, rfl, .d rfl⟩, ⟨_, rfl, .d rfl⟩, ⟨_, rfl, .ptro rfl rfl⟩, ⟨_, rfl, .d rfl⟩, ⟨_, rfl, .d rfl⟩, trivial⟩ ⟨.own rfl (.of_eq rfl (oviewView_dat _)), trivial⟩ drop0)⟩
      · skip
        rcases cond_some hj26 with ⟨hc28, h29⟩ | ⟨hc28, h30⟩
        · skip
          refine cw_region (
            .cons (o_mv rfl rfl .no rfl) <|
            .cons (o_bin rfl rfl .no rfl rfl (b_geq _ _) rfl) <|
            .cons (o_mv rfl rfl .no rfl) <|
            .cons (o_mv rfl rfl (.yes rfl rfl hc28) rfl) <|
            .cons (o_bin rfl rfl (.yes rfl rfl hc28) rfl rfl (b_lss _ _) rfl) <|
            .cons (o_pickT rfl rfl .no rfl hc28 rfl) <|
            .cons (o_as rfl rfl .no rfl) <|
            .nil rfl
          ) ?_
          exact ⟨(decide (a0 < 1073741824)), (Option.some.inj h29).symm, .w (weak_of ⟨⟨_, rfl, .d rfl⟩, ⟨_, rfl, .d rfl⟩, ⟨_, rfl, .d rfl⟩, ⟨_, rfl, .d rfl⟩, ⟨_, rfl, .ptro rfl rfl⟩, ⟨_, rfl, .d rfl⟩, trivial⟩ ⟨.own rfl (.of_eq rfl (oviewView_dat _)), trivial⟩ drop0)⟩
        · skip
          refine cw_region (
            .cons (o_mv rfl rfl .no rfl) <|
            .cons (o_bin rfl rfl .no rfl rfl (b_geq _ _) rfl) <|
            .cons (o_mv rfl rfl .no rfl) <|
            .cons (o_noT rfl rfl rfl rfl hc28) <|
            .cons (o_noT rfl rfl rfl rfl hc28) <|
            .cons (o_pickF rfl rfl .no rfl hc28 rfl) <|
            .cons (o_as rfl rfl .no rfl) <|
            .nil rfl
          ) ?_
          exact ⟨false, (Option.some.inj h30).symm, .w (weak_of ⟨⟨_, rfl, .d rfl⟩, ⟨_, rfl, .d rfl⟩, ⟨_, rfl, .d rfl⟩, ⟨_, rfl, .d rfl⟩, ⟨_, rfl, .ptro rfl rfl⟩, ⟨_, rfl, .d rfl⟩, trivial⟩ ⟨.own rfl (.of_eq rfl (oviewView_dat _)), trivial⟩ drop0)⟩
  · skip
    rcases cond_some hj11 with ⟨hc13, h14⟩ | ⟨hc13, h15⟩
    · skip
      refine cw_region (
        .cons (o_mv rfl rfl .no rfl) <|
        .cons (o_not rfl rfl .no rfl) <|
        .cons (o_mv rfl rfl .no rfl) <|
        .cons (o_noT rfl rfl rfl rfl hc13) <|
        .cons (o_noT rfl rfl rfl rfl hc13) <|
        .cons (o_pickT rfl rfl .no rfl hc13 rfl) <|
        .nil rfl
      ) ?_
      exact ⟨true, (Option.some.inj h14).symm, .w (weak_of ⟨⟨_, rfl, .d rfl⟩, ⟨_, rfl, .d rfl⟩, ⟨_, rfl, .d rfl⟩, ⟨_, rfl, .d rfl⟩, ⟨_, rfl, .ptro rfl rfl⟩, ⟨_, rfl, .d rfl⟩, trivial⟩ ⟨.own rfl (.of_eq rfl (oviewView_dat _)), trivial⟩ drop0)⟩
    · skip
      refine cw_region (
        .cons (o_mv rfl rfl .no rfl) <|
        .cons (o_not rfl rfl .no rfl) <|
        .cons (o_mv rfl rfl .no rfl) <|
        .cons (o_mv rfl rfl (.yes rfl rfl hc13) rfl) <|
        .cons (o_pnilP rfl rfl (.yes rfl rfl hc13) rfl up24) <|
        .cons (o_pickF rfl rfl .no rfl hc13 rfl) <|
        .nil rfl
      ) ?_
      exact ⟨false, (Option.some.inj h15).symm, .w (weak_of ⟨⟨_, rfl, .d rfl⟩, ⟨_, rfl, .d rfl⟩, ⟨_, rfl, .d rfl⟩, ⟨_, rfl, .d rfl⟩, ⟨_, rfl, .ptro rfl rfl⟩, ⟨_, rfl, .d rfl⟩, trivial⟩ ⟨.own rfl (.of_eq rfl (oviewView_dat _)), trivial⟩ drop0)⟩

end
end Go.Val

