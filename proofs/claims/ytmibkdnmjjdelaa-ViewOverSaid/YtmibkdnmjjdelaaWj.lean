/- Walks of the program's functions, printed. -/
import Derived.Test.YtmibkdnmjjdelaaWi
import Derived.Test.YtmibkdnmjjdelaaXo
set_option linter.unusedSectionVars false
set_option linter.unusedVariables false
set_option linter.unusedSimpArgs false
namespace Go.Val
open Go.RowKit Go.Proofs

section
variable [NoDrw]

noncomputable def view_New_o (a0 : ((List ((List UInt8) × ByteArray)) × (List ((List UInt8) × ((List UInt8) × ByteArray × Bool))) × (List ((List UInt8) × (List UInt8) × Bool)) × (List (List ((List UInt8) × ((List UInt8) × ByteArray × Bool)))))) : Option (((List ((List UInt8) × ByteArray)) × (List ((List UInt8) × ((List UInt8) × ByteArray × Bool))) × (List ((List UInt8) × (List UInt8) × Bool)) × (List (List ((List UInt8) × ((List UInt8) × ByteArray × Bool))))) × ((List ((List UInt8) × ((List UInt8) × ByteArray × Bool))) × (List ((List UInt8) × (List UInt8) × Bool)) × (List (List ((List UInt8) × ((List UInt8) × ByteArray × Bool)))))) :=
  (((
    some ()
  ) : Option Unit)).bind fun o1 =>
  some (a0, ([], [], []))

noncomputable def view_View_Put_r (a0 : ((List ((List UInt8) × ((List UInt8) × ByteArray × Bool))) × (List ((List UInt8) × (List UInt8) × Bool)) × (List (List ((List UInt8) × ((List UInt8) × ByteArray × Bool)))))) (a1 : List UInt8) (a2 : ByteArray) (b1 : ((List ((List UInt8) × ByteArray)) × (List ((List UInt8) × ((List UInt8) × ByteArray × Bool))) × (List ((List UInt8) × (List UInt8) × Bool)) × (List (List ((List UInt8) × ((List UInt8) × ByteArray × Bool)))))) : Option (Int × ((List ((List UInt8) × ((List UInt8) × ByteArray × Bool))) × (List ((List UInt8) × (List UInt8) × Bool)) × (List (List ((List UInt8) × ((List UInt8) × ByteArray × Bool))))) × ((List ((List UInt8) × ByteArray)) × (List ((List UInt8) × ((List UInt8) × ByteArray × Bool))) × (List ((List UInt8) × (List UInt8) × Bool)) × (List (List ((List UInt8) × ((List UInt8) × ByteArray × Bool)))))) :=
  (((
    cond (decide (a2 = (ByteArray.mk #[]))) (
      some true
    ) (
      some (decide ((a2.size : Int) > 40))
    )
  ) : Option Bool)).bind fun o4 =>
  cond o4 (
    some (1, a0, b1)
  ) (
    some (0, ((mset a0.1 a1 (a1, a2, false)), a0.2.1, a0.2.2), b1)
  )

noncomputable def view_View_Delete_r (a0 : ((List ((List UInt8) × ((List UInt8) × ByteArray × Bool))) × (List ((List UInt8) × (List UInt8) × Bool)) × (List (List ((List UInt8) × ((List UInt8) × ByteArray × Bool)))))) (a1 : List UInt8) (b1 : ((List ((List UInt8) × ByteArray)) × (List ((List UInt8) × ((List UInt8) × ByteArray × Bool))) × (List ((List UInt8) × (List UInt8) × Bool)) × (List (List ((List UInt8) × ((List UInt8) × ByteArray × Bool)))))) : Option (Int × ((List ((List UInt8) × ((List UInt8) × ByteArray × Bool))) × (List ((List UInt8) × (List UInt8) × Bool)) × (List (List ((List UInt8) × ((List UInt8) × ByteArray × Bool))))) × ((List ((List UInt8) × ByteArray)) × (List ((List UInt8) × ((List UInt8) × ByteArray × Bool))) × (List ((List UInt8) × (List UInt8) × Bool)) × (List (List ((List UInt8) × ((List UInt8) × ByteArray × Bool)))))) :=
  some (0, ((mset a0.1 a1 (a1, (ByteArray.mk #[]), true)), a0.2.1, a0.2.2), b1)

noncomputable def law12_does_r (a0 : ((List ((List UInt8) × ((List UInt8) × ByteArray × Bool))) × (List ((List UInt8) × (List UInt8) × Bool)) × (List (List ((List UInt8) × ((List UInt8) × ByteArray × Bool)))))) (a1 : List (Int × Int × (List UInt8) × ByteArray × ((List UInt8) × (List UInt8) × Bool))) (a2 : Int) (b1 : ((List ((List UInt8) × ByteArray)) × (List ((List UInt8) × ((List UInt8) × ByteArray × Bool))) × (List ((List UInt8) × (List UInt8) × Bool)) × (List (List ((List UInt8) × ((List UInt8) × ByteArray × Bool)))))) : Option (((List ((List UInt8) × ((List UInt8) × ByteArray × Bool))) × (List ((List UInt8) × (List UInt8) × Bool)) × (List (List ((List UInt8) × ((List UInt8) × ByteArray × Bool))))) × ((List ((List UInt8) × ByteArray)) × (List ((List UInt8) × ((List UInt8) × ByteArray × Bool))) × (List ((List UInt8) × (List UInt8) × Bool)) × (List (List ((List UInt8) × ((List UInt8) × ByteArray × Bool)))))) :=
  (((
    whileO (V := (Int × ((List ((List UInt8) × ((List UInt8) × ByteArray × Bool))) × (List ((List UInt8) × (List UInt8) × Bool)) × (List (List ((List UInt8) × ((List UInt8) × ByteArray × Bool))))) × ((List ((List UInt8) × ByteArray)) × (List ((List UInt8) × ((List UInt8) × ByteArray × Bool))) × (List ((List UInt8) × (List UInt8) × Bool)) × (List (List ((List UInt8) × ((List UInt8) × ByteArray × Bool))))))) (O := (((List ((List UInt8) × ((List UInt8) × ByteArray × Bool))) × (List ((List UInt8) × (List UInt8) × Bool)) × (List (List ((List UInt8) × ((List UInt8) × ByteArray × Bool))))) × ((List ((List UInt8) × ByteArray)) × (List ((List UInt8) × ((List UInt8) × ByteArray × Bool))) × (List ((List UInt8) × (List UInt8) × Bool)) × (List (List ((List UInt8) × ((List UInt8) × ByteArray × Bool))))))) (fun v257 =>
      (((
        cond (decide (v257.1 < (a1.length : Int))) (
          some (decide (v257.1 < a2))
        ) (
          some false
        )
      ) : Option Bool)).bind fun o264 =>
      cond o264 (
        (((
          (gx a1 v257.1).bind fun x291 =>
          cond (decide (x291.1 = 1)) (
            (cutB 0 (min (x291.2.2.2.1.size : Int) 50) x291.2.2.2.1.size).bind fun _ =>
            (view_View_Put_r v257.2.1 x291.2.2.1 (x291.2.2.2.1.extract 0 (min (x291.2.2.2.1.size : Int) 50).toNat) v257.2.2).bind fun x300 =>
            some (x300.2.1, x300.2.2)
          ) (
            (view_View_Delete_r v257.2.1 x291.2.2.1 v257.2.2).bind fun x303 =>
            some (x303.2.1, x303.2.2)
          )
        ) : Option (((List ((List UInt8) × ((List UInt8) × ByteArray × Bool))) × (List ((List UInt8) × (List UInt8) × Bool)) × (List (List ((List UInt8) × ((List UInt8) × ByteArray × Bool))))) × ((List ((List UInt8) × ByteArray)) × (List ((List UInt8) × ((List UInt8) × ByteArray × Bool))) × (List ((List UInt8) × (List UInt8) × Bool)) × (List (List ((List UInt8) × ((List UInt8) × ByteArray × Bool)))))))).bind fun o288 =>
        some (.inl ((IntKind.wrap .i64 (v257.1 + 1)), o288.1, o288.2))
      ) (
        some (.inr (v257.2.1, v257.2.2))
      )
    ) (0, a0, b1)
  ) : Option (((List ((List UInt8) × ((List UInt8) × ByteArray × Bool))) × (List ((List UInt8) × (List UInt8) × Bool)) × (List (List ((List UInt8) × ((List UInt8) × ByteArray × Bool))))) × ((List ((List UInt8) × ByteArray)) × (List ((List UInt8) × ((List UInt8) × ByteArray × Bool))) × (List ((List UInt8) × (List UInt8) × Bool)) × (List (List ((List UInt8) × ((List UInt8) × ByteArray × Bool)))))))).bind fun o154 =>
  some (o154.1, o154.2)

noncomputable def view_View_read_r (a0 : ((List ((List UInt8) × ((List UInt8) × ByteArray × Bool))) × (List ((List UInt8) × (List UInt8) × Bool)) × (List (List ((List UInt8) × ((List UInt8) × ByteArray × Bool)))))) (a1 : ((List UInt8) × (List UInt8) × Bool)) (b1 : ((List ((List UInt8) × ByteArray)) × (List ((List UInt8) × ((List UInt8) × ByteArray × Bool))) × (List ((List UInt8) × (List UInt8) × Bool)) × (List (List ((List UInt8) × ((List UInt8) × ByteArray × Bool)))))) : Option (((List ((List UInt8) × ((List UInt8) × ByteArray × Bool))) × (List ((List UInt8) × (List UInt8) × Bool)) × (List (List ((List UInt8) × ((List UInt8) × ByteArray × Bool))))) × ((List ((List UInt8) × ByteArray)) × (List ((List UInt8) × ((List UInt8) × ByteArray × Bool))) × (List ((List UInt8) × (List UInt8) × Bool)) × (List (List ((List UInt8) × ((List UInt8) × ByteArray × Bool)))))) :=
  (((
    (fits (a0.2.1.length + ([a1]).length) 49).bind fun _ =>
    (span_Clean (a0.2.1 ++ [a1])).bind fun x13 =>
    some (a0.1, x13, a0.2.2)
  ) : Option ((List ((List UInt8) × ((List UInt8) × ByteArray × Bool))) × (List ((List UInt8) × (List UInt8) × Bool)) × (List (List ((List UInt8) × ((List UInt8) × ByteArray × Bool))))))).bind fun o7 =>
  some (o7, b1)

noncomputable def view_View_Scan_r (a0 : ((List ((List UInt8) × ((List UInt8) × ByteArray × Bool))) × (List ((List UInt8) × (List UInt8) × Bool)) × (List (List ((List UInt8) × ((List UInt8) × ByteArray × Bool)))))) (a1 : ((List UInt8) × (List UInt8) × Bool)) (b1 : ((List ((List UInt8) × ByteArray)) × (List ((List UInt8) × ((List UInt8) × ByteArray × Bool))) × (List ((List UInt8) × (List UInt8) × Bool)) × (List (List ((List UInt8) × ((List UInt8) × ByteArray × Bool)))))) : Option ((List ((List UInt8) × ByteArray)) × Int × ((List ((List UInt8) × ((List UInt8) × ByteArray × Bool))) × (List ((List UInt8) × (List UInt8) × Bool)) × (List (List ((List UInt8) × ((List UInt8) × ByteArray × Bool))))) × ((List ((List UInt8) × ByteArray)) × (List ((List UInt8) × ((List UInt8) × ByteArray × Bool))) × (List ((List UInt8) × (List UInt8) × Bool)) × (List (List ((List UInt8) × ((List UInt8) × ByteArray × Bool)))))) :=
  (view_View_read_r a0 a1 b1).bind fun x1 =>
  (view_View_Scan x1.2 a1).bind fun x4 =>
  cond (decide (x4.2.1 ≠ 0)) (
    some ([], x4.2.1, (x1.1.1, x1.1.2.1, x1.1.2.2), x4.2.2)
  ) (
    forOrd x1.1.1 (fun x34 => (List.foldlM (m := Option) (fun (v32 : (List ((List UInt8) × ByteArray × Bool))) (x33 : ((List UInt8) × ((List UInt8) × ByteArray × Bool))) => ((
      (key_In a1 x33.1).bind fun x43 =>
      cond x43 (
        (fits (v32.length + ([x33.2]).length) 48).bind fun _ =>
        some (v32 ++ [x33.2])
      ) (
        some v32
      )
    ) : Option (List ((List UInt8) × ByteArray × Bool)))) ([]) x34).bind fun (v39 : (List ((List UInt8) × ByteArray × Bool))) =>
      (delta_Apply x4.1 v39).bind fun x55 =>
      some (x55, 0, (x1.1.1, x1.1.2.1, x1.1.2.2), x4.2.2)
    )
  )

noncomputable def law12_ViewOver (a0 : List ((List UInt8) × ByteArray)) (a1 : List (Int × Int × (List UInt8) × ByteArray × ((List UInt8) × (List UInt8) × Bool))) (a2 : List (Int × Int × (List UInt8) × ByteArray × ((List UInt8) × (List UInt8) × Bool))) : Option Bool :=
  (law12_shown).bind fun x1 =>
  (law12_cut a0).bind fun x4 =>
  (view_NewPlain x4).bind fun x7 =>
  (view_New x7).bind fun x10 =>
  (((
    cond (!x1) (
      some true
    ) (
      some false
    )
  ) : Option Bool)).bind fun o16 =>
  cond o16 (
    some false
  ) (
    (law12_does x10 a1 30).bind fun x25 =>
    (view_View_Changes x25).bind fun x28 =>
    (view_New_o x28.2).bind fun x31 =>
    (law12_does_r x31.2 a2 30 x31.1).bind fun x34 =>
    (law12_does x25 a2 30).bind fun x37 =>
    (view_View_Scan_r x34.1 ((List.replicate 24 0), (List.replicate 24 0), true) x34.2).bind fun x40 =>
    (view_View_Scan x37 ((List.replicate 24 0), (List.replicate 24 0), true)).bind fun x43 =>
    (((
      cond (decide (x40.2.1 = 0)) (
        cond (decide (x43.2.1 = 0)) (
          (ref09_Same x40.1 x43.1).bind fun x73 =>
          cond x73 (
            (view_View_Changes x40.2.2.2).bind fun x79 =>
            (ref09_SameChanges x79.1 x28.1).bind fun x82 =>
            some x82
          ) (
            some false
          )
        ) (
          some false
        )
      ) (
        some false
      )
    ) : Option Bool)).bind fun o64 =>
    some o64
  )

set_option maxRecDepth 100000 in
theorem view_New_o_ok {a0 : ((List ((List UInt8) × ByteArray)) × (List ((List UInt8) × ((List UInt8) × ByteArray × Bool))) × (List ((List UInt8) × (List UInt8) × Bool)) × (List (List ((List UInt8) × ((List UInt8) × ByteArray × Bool)))))} {r : (((List ((List UInt8) × ByteArray)) × (List ((List UInt8) × ((List UInt8) × ByteArray × Bool))) × (List ((List UInt8) × (List UInt8) × Bool)) × (List (List ((List UInt8) × ((List UInt8) × ByteArray × Bool))))) × ((List ((List UInt8) × ((List UInt8) × ByteArray × Bool))) × (List ((List UInt8) × (List UInt8) × Bool)) × (List (List ((List UInt8) × ((List UInt8) × ByteArray × Bool))))))} (h : view_New_o a0 = some r) : FnOk Try.prog 8 [.ifc 28 (.ptr 0 0)] 1 (lk [(0, .own (oviewView a0))]) (fun rr oo => rr = .ptr 1 0 ∧ oo = lk [(0, .own (oviewView r.1)), (1, .own (oviewViewR0 0 r.2))]) := by
  refine fnOk_of Try.func8 rfl rfl (cw_post ?_)
  unfold view_New_o at h
  refine cw_seq (cw_region (
    .cons (o_as rfl rfl .no rfl) <|
    .nil rfl
  ) ?_)
  obtain ⟨o1, hj2, h3⟩ := bind_some h
  refine cw_join (fun (z : Unit) => St.of [(0, .ifc 28 (.ptr 0 0))] [(0, .own (oviewView a0))]) (fun (z : Unit) => o1 = z) ?_ ?_
  · intro v4 hv5; subst hv5
    refine cw_seq (cw_region (
      .cons (o_mv rfl rfl .no rfl) <|
      .cons (o_mkmap eapiKey eapiChange 2 rfl rfl .no rfl) <|
      .cons (o_bldA rfl rfl .no zo67 rfl pl67 (.cons rfl rfl rfl rfl rfl rfl rfl (.cons rfl rfl rfl rfl rfl rfl rfl .nil))) <|
      .cons (o_box 1 rfl rfl .no rfl rfl rfl) <|
      .cons (o_as rfl rfl .no rfl) <|
      .nil rfl
    ) ?_)
    have heq := ((Option.some.inj h3).symm).symm
    subst heq
    exact cw_ret ⟨_, (show Leads _ _ (St.of [(2, .ptr 1 0)] [(0, .own (oviewView a0)), (1, .own (oviewViewR0 0 ([], [], [])))]) from .trans (leads_pack (o := 1) (y := .st [.ifc 28 (.ptr 0 0), .map 2, .d (.v (.slice none 0 0)), .d (.v (.slice none 0 0))]) (x := oviewViewR0 0 ([], [], [])) (l := [(2, .ptr 1 0)]) (m := [(0, .own (oviewView a0)), (1, .own (oviewViewR0 0 ([], [], [])))]) rfl (.st (.cons (.av rfl) (.cons (.map rfl) (.cons (.nil rfl) (.cons (.nil rfl) .nil))))) rfl rfl ⟨⟨rfl, (by simp [AV.live, AV.lives, lk, Nat.beq])⟩, trivial⟩ ⟨(.inr ⟨rfl, (OD.dat_live (oviewView_dat _))⟩), .inl rfl, trivial⟩ rfl (by simp [oviewViewR0, OB.live, OD.live, OD.lives, AV.live, lk, Nat.beq]) ⟨rfl, trivial⟩ (dropK rfl)) (.w (weak_of ⟨⟨_, rfl, .ptro rfl rfl⟩, trivial⟩ ⟨.own rfl (.of_eq rfl (oviewView_dat _)), .own rfl (.st (.cons (.av (.ifc (.ptro rfl rfl))) (.cons (.map rfl) (.cons (.arr rfl) (.cons (.arr rfl) .nil))))), trivial⟩ (dropK rfl)))), .inr rfl, _, res1 rfl rfl, rfl, rfl⟩
  · skip
    refine cw_seq (cw_region (
      .cons (o_mv rfl rfl .no rfl) <|
      .cons (o_ifnil rfl rfl .no rfl ifcB63) <|
      .nil rfl
    ) ?_)
    refine cw_condF rfl rfl ?_
    refine cw_skip ?_
    exact ⟨(), (Option.some.inj hj2).symm, .w (weak_of ⟨⟨_, rfl, .ifc (.ptro rfl rfl)⟩, trivial⟩ ⟨.own rfl (.of_eq rfl (oviewView_dat _)), trivial⟩ (dropK rfl))⟩

set_option maxRecDepth 100000 in
theorem view_View_Put_r_ok {a0 : ((List ((List UInt8) × ((List UInt8) × ByteArray × Bool))) × (List ((List UInt8) × (List UInt8) × Bool)) × (List (List ((List UInt8) × ((List UInt8) × ByteArray × Bool)))))} {a1 : List UInt8} {a2 : ByteArray} {b1 : ((List ((List UInt8) × ByteArray)) × (List ((List UInt8) × ((List UInt8) × ByteArray × Bool))) × (List ((List UInt8) × (List UInt8) × Bool)) × (List (List ((List UInt8) × ((List UInt8) × ByteArray × Bool)))))} {r : (Int × ((List ((List UInt8) × ((List UInt8) × ByteArray × Bool))) × (List ((List UInt8) × (List UInt8) × Bool)) × (List (List ((List UInt8) × ((List UInt8) × ByteArray × Bool))))) × ((List ((List UInt8) × ByteArray)) × (List ((List UInt8) × ((List UInt8) × ByteArray × Bool))) × (List ((List UInt8) × (List UInt8) × Bool)) × (List (List ((List UInt8) × ((List UInt8) × ByteArray × Bool))))))} (h : view_View_Put_r a0 a1 a2 b1 = some r) : FnOk Try.prog 11 [.ptr 0 0, .d (eapiKey a1), .d (estring a2)] 2 (lk [(0, .own (oviewViewR0 1 a0)), (1, .own (oviewView b1))]) (fun rr oo => rr = .d (eapiErrno r.1) ∧ oo = lk [(0, .own (oviewViewR0 1 r.2.1)), (1, .own (oviewView r.2.2))]) := by
  refine fnOk_of Try.func11 rfl rfl (cw_post ?_)
  unfold view_View_Put_r at h
  refine cw_seq (cw_region (
    .cons (o_box 2 rfl rfl .no rfl rfl rfl) <|
    .cons (o_as rfl rfl .no rfl) <|
    .nil rfl
  ) ?_)
  refine cw_seq ?_
  obtain ⟨o4, hj5, h6⟩ := bind_some h
  refine cw_join (fun (z : Bool) => St.of [(0, .ptr 0 0), (2, .d (estring a2)), (4, .ptr 2 0), (13, .d (ebool z))] [(0, .own (oviewViewR0 1 a0)), (1, .own (oviewView b1)), (2, .box (.d (eapiKey a1)))]) (fun (z : Bool) => o4 = z) ?_ ?_
  · intro v13 hv14; subst hv14
    rcases cond_some h6 with ⟨hc10, h11⟩ | ⟨hc10, h12⟩
    · refine cw_condT rfl hc10 ?_
      refine cw_seq (cw_region (
        .cons (o_as rfl rfl .no rfl) <|
        .nil rfl
      ) ?_)
      have heq := ((Option.some.inj h11).symm).symm
      subst heq
      exact cw_ret ⟨_, (show Leads _ _ (St.of [(6, .d (eapiErrno 1))] [(0, .own (oviewViewR0 1 a0)), (1, .own (oviewView b1))]) from .w (weak_of ⟨⟨_, rfl, .d rfl⟩, trivial⟩ ⟨.own rfl (.st (.cons (.av (.ifc (.ptro rfl rfl))) (.cons (.map rfl) (.cons (.arr rfl) (.cons (.arr rfl) .nil))))), .own rfl (.of_eq rfl (oviewView_dat _)), trivial⟩ (dropK rfl))), .inr rfl, _, res1 rfl rfl, rfl, rfl⟩
    · refine cw_condF rfl hc10 ?_
      refine cw_skip ?_
      refine cw_leads (leads_open (o := 0) (y := .st [.ifc 28 (.ptr 1 0), .map 3, .arr 4 0, .arr 5 0]) (news := [(3, .map 0 (mD eapiKey eapiChange a0.1)), (4, .arr 0 49 (a0.2.1.map eapiSpan)), (5, .arr 0 1 (a0.2.2.map eMapiKeyapiChange))]) rfl (.st (.cons (.av rfl) (.cons (.map rfl) (.cons (.arr rfl) (.cons (.arr rfl) .nil))))) rfl rfl ⟨rfl, rfl, rfl, trivial⟩) ?_
      refine cw_weak (weak_of (l := [(0, .ptr 0 0), (2, .d (estring a2)), (4, .ptr 2 0)]) (m := [(0, .box (.st [.ifc 28 (.ptr 1 0), .map 3, .arr 4 0, .arr 5 0])), (1, .own (oviewView b1)), (2, .box (.d (eapiKey a1))), (3, .map 0 (mD eapiKey eapiChange a0.1)), (4, .arr 0 49 (a0.2.1.map eapiSpan)), (5, .arr 0 1 (a0.2.2.map eMapiKeyapiChange))]) ⟨⟨_, rfl, .ptr rfl rfl⟩, ⟨_, rfl, .d rfl⟩, ⟨_, rfl, .ptr rfl rfl⟩, trivial⟩ ⟨.box rfl (.st (.cons (.ifc (.ptro rfl rfl)) (.cons (.map rfl rfl) (.cons (.arr rfl rfl) (.cons (.arr rfl rfl) .nil))))), .own rfl (.of_eq rfl (oviewView_dat _)), .box rfl (.d rfl), .map rfl rfl, .arr rfl rfl, .arr rfl rfl, trivial⟩ (dropK rfl)) ?_
      refine cw_seq (cw_region_any mixed (by kernel_rfl) (
        .cons (o_mv rfl rfl .no rfl) <|
        .cons (o_nilP rfl rfl .no rfl) <|
        .cons (o_fldP rfl rfl .no rfl fld67_1 (by decide)) <|
        .cons (o_ldP [1] rfl rfl .no rfl rfl rfl ta64 rfl rfl) <|
        .cons (o_ldP [] rfl rfl .no rfl rfl rfl ta24 rfl rfl) <|
        .cons (o_ldP [] rfl rfl .no rfl rfl rfl ta24 rfl rfl) <|
        .cons (o_mv rfl rfl .no rfl) <|
        .cons (o_bld (ds := [eapiKey a1, estring a2, ebool false]) rfl rfl .no zs71 rfl pl71 (.cons rfl rfl rfl rfl rfl rfl rfl (.cons rfl rfl rfl rfl rfl rfl rfl .nil))) <|
        .cons (o_mapset (ek := eapiKey) (ev := eapiChange) (m := a0.1) a1 (a1, a2, false) rfl .no rfl rfl rfl rfl mp64 kl24 rfl) <|
        .nil rfl
      ) (by kernel_rfl) ?_)
      refine cw_seq (cw_region (
        .cons (o_as rfl rfl .no rfl) <|
        .nil rfl
      ) ?_)
      have heq := ((Option.some.inj h12).symm).symm
      subst heq
      exact cw_ret ⟨_, (show Leads _ _ (St.of [(6, .d (eapiErrno 0))] [(0, .own (oviewViewR0 1 ((mset a0.1 a1 (a1, a2, false)), a0.2.1, a0.2.2))), (1, .own (oviewView b1))]) from .trans (leads_pack (o := 0) (y := .st [.ifc 28 (.ptr 1 0), .map 3, .arr 4 0, .arr 5 0]) (x := oviewViewR0 1 ((mset a0.1 a1 (a1, a2, false)), a0.2.1, a0.2.2)) (l := [(6, .d (eint 0))]) (m := [(0, .own (oviewViewR0 1 ((mset a0.1 a1 (a1, a2, false)), a0.2.1, a0.2.2))), (1, .own (oviewView b1))]) rfl (.st (.cons (.av rfl) (.cons (.map rfl) (.cons (.arr rfl) (.cons (.arr rfl) .nil))))) rfl rfl ⟨⟨rfl, trivial⟩, trivial⟩ ⟨.inl rfl, (.inr ⟨rfl, (OD.dat_live (oviewView_dat _))⟩), trivial⟩ rfl (by simp [oviewViewR0, OB.live, OD.live, OD.lives, AV.live, lk, Nat.beq]) ⟨rfl, rfl, rfl, trivial⟩ (dropK rfl)) (.w (weak_of ⟨⟨_, rfl, .d rfl⟩, trivial⟩ ⟨.own rfl (.st (.cons (.av (.ifc (.ptro rfl rfl))) (.cons (.map rfl) (.cons (.arr rfl) (.cons (.arr rfl) .nil))))), .own rfl (.of_eq rfl (oviewView_dat _)), trivial⟩ (dropK rfl)))), .inr rfl, _, res1 rfl rfl, rfl, rfl⟩
  · skip
    rcases cond_some hj5 with ⟨hc7, h8⟩ | ⟨hc7, h9⟩
    · skip
      refine cw_region (
        .cons (o_mv rfl rfl .no rfl) <|
        .cons (o_bin rfl rfl .no rfl rfl (s_eql _ _) rfl) <|
        .cons (o_mv rfl rfl .no rfl) <|
        .cons (o_noT rfl rfl rfl rfl hc7) <|
        .cons (o_noT rfl rfl rfl rfl hc7) <|
        .cons (o_noT rfl rfl rfl rfl hc7) <|
        .cons (o_pickT rfl rfl .no rfl hc7 rfl) <|
        .nil rfl
      ) ?_
      exact ⟨true, (Option.some.inj h8).symm, .w (weak_of ⟨⟨_, rfl, .ptro rfl rfl⟩, ⟨_, rfl, .d rfl⟩, ⟨_, rfl, .ptr rfl rfl⟩, ⟨_, rfl, .d rfl⟩, trivial⟩ ⟨.own rfl (.st (.cons (.av (.ifc (.ptro rfl rfl))) (.cons (.map rfl) (.cons (.arr rfl) (.cons (.arr rfl) .nil))))), .own rfl (.of_eq rfl (oviewView_dat _)), .box rfl (.d rfl), trivial⟩ (dropK rfl))⟩
    · skip
      refine cw_region (
        .cons (o_mv rfl rfl .no rfl) <|
        .cons (o_bin rfl rfl .no rfl rfl (s_eql _ _) rfl) <|
        .cons (o_mv rfl rfl .no rfl) <|
        .cons (o_mv rfl rfl (.yes rfl rfl hc7) rfl) <|
        .cons (o_lenS rfl rfl (.yes rfl rfl hc7) rfl un9) <|
        .cons (o_bin rfl rfl (.yes rfl rfl hc7) rfl rfl (b_gtr _ _) rfl) <|
        .cons (o_pickF rfl rfl .no rfl hc7 rfl) <|
        .nil rfl
      ) ?_
      exact ⟨(decide ((a2.size : Int) > 40)), (Option.some.inj h9).symm, .w (weak_of ⟨⟨_, rfl, .ptro rfl rfl⟩, ⟨_, rfl, .d rfl⟩, ⟨_, rfl, .ptr rfl rfl⟩, ⟨_, rfl, .d rfl⟩, trivial⟩ ⟨.own rfl (.st (.cons (.av (.ifc (.ptro rfl rfl))) (.cons (.map rfl) (.cons (.arr rfl) (.cons (.arr rfl) .nil))))), .own rfl (.of_eq rfl (oviewView_dat _)), .box rfl (.d rfl), trivial⟩ (dropK rfl))⟩

set_option maxRecDepth 100000 in
theorem view_View_Delete_r_ok {a0 : ((List ((List UInt8) × ((List UInt8) × ByteArray × Bool))) × (List ((List UInt8) × (List UInt8) × Bool)) × (List (List ((List UInt8) × ((List UInt8) × ByteArray × Bool)))))} {a1 : List UInt8} {b1 : ((List ((List UInt8) × ByteArray)) × (List ((List UInt8) × ((List UInt8) × ByteArray × Bool))) × (List ((List UInt8) × (List UInt8) × Bool)) × (List (List ((List UInt8) × ((List UInt8) × ByteArray × Bool)))))} {r : (Int × ((List ((List UInt8) × ((List UInt8) × ByteArray × Bool))) × (List ((List UInt8) × (List UInt8) × Bool)) × (List (List ((List UInt8) × ((List UInt8) × ByteArray × Bool))))) × ((List ((List UInt8) × ByteArray)) × (List ((List UInt8) × ((List UInt8) × ByteArray × Bool))) × (List ((List UInt8) × (List UInt8) × Bool)) × (List (List ((List UInt8) × ((List UInt8) × ByteArray × Bool))))))} (h : view_View_Delete_r a0 a1 b1 = some r) : FnOk Try.prog 20 [.ptr 0 0, .d (eapiKey a1)] 2 (lk [(0, .own (oviewViewR0 1 a0)), (1, .own (oviewView b1))]) (fun rr oo => rr = .d (eapiErrno r.1) ∧ oo = lk [(0, .own (oviewViewR0 1 r.2.1)), (1, .own (oviewView r.2.2))]) := by
  refine fnOk_of Try.func20 rfl rfl (cw_post ?_)
  unfold view_View_Delete_r at h
  refine cw_seq (cw_region (
    .cons (o_box 2 rfl rfl .no rfl rfl rfl) <|
    .cons (o_as rfl rfl .no rfl) <|
    .nil rfl
  ) ?_)
  refine cw_leads (leads_open (o := 0) (y := .st [.ifc 28 (.ptr 1 0), .map 3, .arr 4 0, .arr 5 0]) (news := [(3, .map 0 (mD eapiKey eapiChange a0.1)), (4, .arr 0 49 (a0.2.1.map eapiSpan)), (5, .arr 0 1 (a0.2.2.map eMapiKeyapiChange))]) rfl (.st (.cons (.av rfl) (.cons (.map rfl) (.cons (.arr rfl) (.cons (.arr rfl) .nil))))) rfl rfl ⟨rfl, rfl, rfl, trivial⟩) ?_
  refine cw_weak (weak_of (l := [(0, .ptr 0 0), (3, .ptr 2 0)]) (m := [(0, .box (.st [.ifc 28 (.ptr 1 0), .map 3, .arr 4 0, .arr 5 0])), (1, .own (oviewView b1)), (2, .box (.d (eapiKey a1))), (3, .map 0 (mD eapiKey eapiChange a0.1)), (4, .arr 0 49 (a0.2.1.map eapiSpan)), (5, .arr 0 1 (a0.2.2.map eMapiKeyapiChange))]) ⟨⟨_, rfl, .ptr rfl rfl⟩, ⟨_, rfl, .ptr rfl rfl⟩, trivial⟩ ⟨.box rfl (.st (.cons (.ifc (.ptro rfl rfl)) (.cons (.map rfl rfl) (.cons (.arr rfl rfl) (.cons (.arr rfl rfl) .nil))))), .own rfl (.of_eq rfl (oviewView_dat _)), .box rfl (.d rfl), .map rfl rfl, .arr rfl rfl, .arr rfl rfl, trivial⟩ (dropK rfl)) ?_
  refine cw_seq (cw_region_any mixed (by kernel_rfl) (
    .cons (o_mv rfl rfl .no rfl) <|
    .cons (o_nilP rfl rfl .no rfl) <|
    .cons (o_fldP rfl rfl .no rfl fld67_1 (by decide)) <|
    .cons (o_ldP [1] rfl rfl .no rfl rfl rfl ta64 rfl rfl) <|
    .cons (o_ldP [] rfl rfl .no rfl rfl rfl ta24 rfl rfl) <|
    .cons (o_ldP [] rfl rfl .no rfl rfl rfl ta24 rfl rfl) <|
    .cons (o_bld (ds := [eapiKey a1, estring (ByteArray.mk #[]), ebool true]) rfl rfl .no zs71 rfl pl71 (.cons rfl rfl rfl rfl rfl rfl rfl (.cons rfl rfl rfl rfl rfl rfl rfl .nil))) <|
    .cons (o_mapset (ek := eapiKey) (ev := eapiChange) (m := a0.1) a1 (a1, (ByteArray.mk #[]), true) rfl .no rfl rfl rfl rfl mp64 kl24 rfl) <|
    .nil rfl
  ) (by kernel_rfl) ?_)
  refine cw_seq (cw_region (
    .cons (o_as rfl rfl .no rfl) <|
    .nil rfl
  ) ?_)
  have heq := ((Option.some.inj h).symm).symm
  subst heq
  exact cw_ret ⟨_, (show Leads _ _ (St.of [(4, .d (eapiErrno 0))] [(0, .own (oviewViewR0 1 ((mset a0.1 a1 (a1, (ByteArray.mk #[]), true)), a0.2.1, a0.2.2))), (1, .own (oviewView b1))]) from .trans (leads_pack (o := 0) (y := .st [.ifc 28 (.ptr 1 0), .map 3, .arr 4 0, .arr 5 0]) (x := oviewViewR0 1 ((mset a0.1 a1 (a1, (ByteArray.mk #[]), true)), a0.2.1, a0.2.2)) (l := [(4, .d (eint 0))]) (m := [(0, .own (oviewViewR0 1 ((mset a0.1 a1 (a1, (ByteArray.mk #[]), true)), a0.2.1, a0.2.2))), (1, .own (oviewView b1))]) rfl (.st (.cons (.av rfl) (.cons (.map rfl) (.cons (.arr rfl) (.cons (.arr rfl) .nil))))) rfl rfl ⟨⟨rfl, trivial⟩, trivial⟩ ⟨.inl rfl, (.inr ⟨rfl, (OD.dat_live (oviewView_dat _))⟩), trivial⟩ rfl (by simp [oviewViewR0, OB.live, OD.live, OD.lives, AV.live, lk, Nat.beq]) ⟨rfl, rfl, rfl, trivial⟩ (dropK rfl)) (.w (weak_of ⟨⟨_, rfl, .d rfl⟩, trivial⟩ ⟨.own rfl (.st (.cons (.av (.ifc (.ptro rfl rfl))) (.cons (.map rfl) (.cons (.arr rfl) (.cons (.arr rfl) .nil))))), .own rfl (.of_eq rfl (oviewView_dat _)), trivial⟩ (dropK rfl)))), .inr rfl, _, res1 rfl rfl, rfl, rfl⟩

set_option maxRecDepth 100000 in
theorem law12_does_r_ok {a0 : ((List ((List UInt8) × ((List UInt8) × ByteArray × Bool))) × (List ((List UInt8) × (List UInt8) × Bool)) × (List (List ((List UInt8) × ((List UInt8) × ByteArray × Bool)))))} {a1 : List (Int × Int × (List UInt8) × ByteArray × ((List UInt8) × (List UInt8) × Bool))} {a2 : Int} {b1 : ((List ((List UInt8) × ByteArray)) × (List ((List UInt8) × ((List UInt8) × ByteArray × Bool))) × (List ((List UInt8) × (List UInt8) × Bool)) × (List (List ((List UInt8) × ((List UInt8) × ByteArray × Bool)))))} {r : (((List ((List UInt8) × ((List UInt8) × ByteArray × Bool))) × (List ((List UInt8) × (List UInt8) × Bool)) × (List (List ((List UInt8) × ((List UInt8) × ByteArray × Bool))))) × ((List ((List UInt8) × ByteArray)) × (List ((List UInt8) × ((List UInt8) × ByteArray × Bool))) × (List ((List UInt8) × (List UInt8) × Bool)) × (List (List ((List UInt8) × ((List UInt8) × ByteArray × Bool))))))} (h : law12_does_r a0 a1 a2 b1 = some r) : FnOk Try.prog 21 [.ptr 0 0, .d (eSwainscotlaw12Op a1), .d (eint a2)] 2 (lk [(0, .own (oviewViewR0 1 a0)), (1, .own (oviewView b1))]) (fun rr oo => rr = .tup [] ∧ oo = lk [(0, .own (oviewViewR0 1 r.1)), (1, .own (oviewView r.2))]) := by
  refine fnOk_of Try.func21 rfl rfl (cw_post ?_)
  unfold law12_does_r at h
  obtain ⟨o154, hj155, h156⟩ := bind_some h
  refine cw_tail (fun (z : (((List ((List UInt8) × ((List UInt8) × ByteArray × Bool))) × (List ((List UInt8) × (List UInt8) × Bool)) × (List (List ((List UInt8) × ((List UInt8) × ByteArray × Bool))))) × ((List ((List UInt8) × ByteArray)) × (List ((List UInt8) × ((List UInt8) × ByteArray × Bool))) × (List ((List UInt8) × (List UInt8) × Bool)) × (List (List ((List UInt8) × ((List UInt8) × ByteArray × Bool))))))) => St.of [] [(0, .own (oviewViewR0 1 z.1)), (1, .own (oviewView z.2))]) (fun (z : (((List ((List UInt8) × ((List UInt8) × ByteArray × Bool))) × (List ((List UInt8) × (List UInt8) × Bool)) × (List (List ((List UInt8) × ((List UInt8) × ByteArray × Bool))))) × ((List ((List UInt8) × ByteArray)) × (List ((List UInt8) × ((List UInt8) × ByteArray × Bool))) × (List ((List UInt8) × (List UInt8) × Bool)) × (List (List ((List UInt8) × ((List UInt8) × ByteArray × Bool))))))) => o154 = z) ?_ ?_
  · intro v310 hv311; subst hv311
    have heq := ((Option.some.inj h156).symm).symm
    subst heq
    exact ⟨_, (show Leads _ _ (St.of [] [(0, .own (oviewViewR0 1 o154.1)), (1, .own (oviewView o154.2))]) from .w (weak_of trivial ⟨.own rfl (.st (.cons (.av (.ifc (.ptro rfl rfl))) (.cons (.map rfl) (.cons (.arr rfl) (.cons (.arr rfl) .nil))))), .own rfl (.of_eq rfl (oviewView_dat _)), trivial⟩ (dropK rfl))), .inl rfl, _, res0 rfl, rfl, rfl⟩
  · skip
    refine cw_seq (cw_region (
      .cons (o_as rfl rfl .no rfl) <|
      .nil rfl
    ) ?_)
    refine cw_block ?_
    refine cw_while (V := (Int × ((List ((List UInt8) × ((List UInt8) × ByteArray × Bool))) × (List ((List UInt8) × (List UInt8) × Bool)) × (List (List ((List UInt8) × ((List UInt8) × ByteArray × Bool))))) × ((List ((List UInt8) × ByteArray)) × (List ((List UInt8) × ((List UInt8) × ByteArray × Bool))) × (List ((List UInt8) × (List UInt8) × Bool)) × (List (List ((List UInt8) × ((List UInt8) × ByteArray × Bool))))))) (O := (((List ((List UInt8) × ((List UInt8) × ByteArray × Bool))) × (List ((List UInt8) × (List UInt8) × Bool)) × (List (List ((List UInt8) × ((List UInt8) × ByteArray × Bool))))) × ((List ((List UInt8) × ByteArray)) × (List ((List UInt8) × ((List UInt8) × ByteArray × Bool))) × (List ((List UInt8) × (List UInt8) × Bool)) × (List (List ((List UInt8) × ((List UInt8) × ByteArray × Bool))))))) (fun (z : (Int × ((List ((List UInt8) × ((List UInt8) × ByteArray × Bool))) × (List ((List UInt8) × (List UInt8) × Bool)) × (List (List ((List UInt8) × ((List UInt8) × ByteArray × Bool))))) × ((List ((List UInt8) × ByteArray)) × (List ((List UInt8) × ((List UInt8) × ByteArray × Bool))) × (List ((List UInt8) × (List UInt8) × Bool)) × (List (List ((List UInt8) × ((List UInt8) × ByteArray × Bool))))))) => St.of [(0, .ptr 0 0), (1, .d (eSwainscotlaw12Op a1)), (2, .d (eint a2)), (6, .d (eint z.1))] [(0, .own (oviewViewR0 1 z.2.1)), (1, .own (oviewView z.2.2))]) hj155 (.w (weak_of ⟨⟨_, rfl, .ptro rfl rfl⟩, ⟨_, rfl, .d rfl⟩, ⟨_, rfl, .d rfl⟩, ⟨_, rfl, .d rfl⟩, trivial⟩ ⟨.own rfl (.st (.cons (.av (.ifc (.ptro rfl rfl))) (.cons (.map rfl) (.cons (.arr rfl) (.cons (.arr rfl) .nil))))), .own rfl (.of_eq rfl (oviewView_dat _)), trivial⟩ (dropK rfl))) ?_
    intro v257 x258 hb259 hx260
    refine cw_seq ?_
    obtain ⟨o264, hj265, h266⟩ := bind_some hb259
    refine cw_join (fun (z : Bool) => St.of [(0, .ptr 0 0), (1, .d (eSwainscotlaw12Op a1)), (2, .d (eint a2)), (6, .d (eint v257.1)), (15, .d (ebool z))] [(0, .own (oviewViewR0 1 v257.2.1)), (1, .own (oviewView v257.2.2))]) (fun (z : Bool) => o264 = z) ?_ ?_
    · intro v308 hv309; subst hv309
      rcases cond_some h266 with ⟨hc270, h271⟩ | ⟨hc270, h272⟩
      · refine cw_condT rfl hc270 ?_
        refine cw_skip ?_
        obtain ⟨o288, hj289, h290⟩ := bind_some h271
        refine cw_join (fun (z : (((List ((List UInt8) × ((List UInt8) × ByteArray × Bool))) × (List ((List UInt8) × (List UInt8) × Bool)) × (List (List ((List UInt8) × ((List UInt8) × ByteArray × Bool))))) × ((List ((List UInt8) × ByteArray)) × (List ((List UInt8) × ((List UInt8) × ByteArray × Bool))) × (List ((List UInt8) × (List UInt8) × Bool)) × (List (List ((List UInt8) × ((List UInt8) × ByteArray × Bool))))))) => St.of [(0, .ptr 0 0), (1, .d (eSwainscotlaw12Op a1)), (2, .d (eint a2)), (6, .d (eint v257.1))] [(0, .own (oviewViewR0 1 z.1)), (1, .own (oviewView z.2))]) (fun (z : (((List ((List UInt8) × ((List UInt8) × ByteArray × Bool))) × (List ((List UInt8) × (List UInt8) × Bool)) × (List (List ((List UInt8) × ((List UInt8) × ByteArray × Bool))))) × ((List ((List UInt8) × ByteArray)) × (List ((List UInt8) × ((List UInt8) × ByteArray × Bool))) × (List ((List UInt8) × (List UInt8) × Bool)) × (List (List ((List UInt8) × ((List UInt8) × ByteArray × Bool))))))) => o288 = z) ?_ ?_
        · intro v306 hv307; subst hv307
          refine cw_region (
            .cons (o_mv rfl rfl .no rfl) <|
            .cons (o_bin rfl rfl .no rfl rfl (b_add _ _) rfl) <|
            .cons (o_as rfl rfl .no rfl) <|
            .nil rfl
          ) ?_
          exact ⟨((IntKind.wrap .i64 (v257.1 + 1)), o288.1, o288.2), (Option.some.inj h290).symm, .w (weak_of ⟨⟨_, rfl, .ptro rfl rfl⟩, ⟨_, rfl, .d rfl⟩, ⟨_, rfl, .d rfl⟩, ⟨_, rfl, .d rfl⟩, trivial⟩ ⟨.own rfl (.st (.cons (.av (.ifc (.ptro rfl rfl))) (.cons (.map rfl) (.cons (.arr rfl) (.cons (.arr rfl) .nil))))), .own rfl (.of_eq rfl (oviewView_dat _)), trivial⟩ (dropK rfl))⟩
        · skip
          refine cw_block ?_
          obtain ⟨x291, hx292, h293⟩ := bind_some hj289
          have hx292g := gx_some hx292
          refine cw_seq (cw_region (
            .cons (o_mv rfl rfl .no rfl) <|
            .cons (o_mv rfl rfl .no rfl) <|
            .cons (o_ixM (enc := ewainscotlaw12Op) (xs := a1) rfl rfl .no rfl rfl sl44 sz46 hx292g.1 hx292g.2) <|
            .cons (o_fld rfl rfl .no rfl fld46_0 (by decide) rfl rfl) <|
            .cons (o_ld rfl rfl .no rfl ta3 rfl rfl) <|
            .cons (o_bin rfl rfl .no rfl rfl (b_eql _ _) rfl) <|
            .nil rfl
          ) ?_)
          rcases cond_some h293 with ⟨hc294, h295⟩ | ⟨hc294, h296⟩
          · refine cw_condT rfl hc294 ?_
            obtain ⟨x297, hx298, h299⟩ := bind_some h295
            have hx298g := cutB_some hx298
            obtain ⟨x300, hx301, h302⟩ := bind_some (x := view_View_Put_r v257.2.1 x291.2.2.1 (x291.2.2.2.1.extract 0 (min (x291.2.2.2.1.size : Int) 50).toNat) v257.2.2) h299
            refine cw_region_any mixed (by kernel_rfl) (
              .cons (o_mv rfl rfl .no rfl) <|
              .cons (o_mv rfl rfl .no rfl) <|
              .cons (o_mv rfl rfl .no rfl) <|
              .cons (o_ixM (enc := ewainscotlaw12Op) (xs := a1) rfl rfl .no rfl rfl sl44 sz46 hx292g.1 hx292g.2) <|
              .cons (o_fld rfl rfl .no rfl fld46_2 (by decide) rfl rfl) <|
              .cons (o_ld rfl rfl .no rfl ta24 rfl rfl) <|
              .cons (o_mv rfl rfl .no rfl) <|
              .cons (o_mv rfl rfl .no rfl) <|
              .cons (o_ixM (enc := ewainscotlaw12Op) (xs := a1) rfl rfl .no rfl rfl sl44 sz46 hx292g.1 hx292g.2) <|
              .cons (o_fld rfl rfl .no rfl fld46_3 (by decide) rfl rfl) <|
              .cons (o_ld rfl rfl .no rfl ta9 rfl rfl) <|
              .cons (o_mv rfl rfl .no rfl) <|
              .cons (o_mv rfl rfl .no rfl) <|
              .cons (o_ixM (enc := ewainscotlaw12Op) (xs := a1) rfl rfl .no rfl rfl sl44 sz46 hx292g.1 hx292g.2) <|
              .cons (o_fld rfl rfl .no rfl fld46_3 (by decide) rfl rfl) <|
              .cons (o_ld rfl rfl .no rfl ta9 rfl rfl) <|
              .cons (o_lenS rfl rfl .no rfl un9) <|
              .cons (o_min rfl rfl .no rfl rfl) <|
              .cons (o_slS rfl rfl .no rfl un9 .no (.val rfl hx298g.2.1) hx298g.2.2.1 hx298g.2.2.2) <|
              .cons (o_callX (fun n => bif Nat.beq n 0 then 0 else 1) rfl rfl .no Try.func11 rfl rfl (view_View_Put_r_ok hx301) (.cons rfl (.p rfl) (.cons rfl .d (.cons rfl .d .nil))) (callIn2 rfl ⟨(by simp [AV.live, lk, Nat.beq]), trivial, trivial, trivial⟩ (by decide) rfl (by simp [oviewViewR0, OB.live, OD.live, OD.lives, AV.live, lk, Nat.beq]) rfl (OD.dat_live (oviewView_dat _)) (by simp)) (.inl rfl)) <|
              .nil rfl
            ) (by kernel_rfl) ?_
            exact ⟨(x300.2.1, x300.2.2), (Option.some.inj h302).symm, .w (weak_of ⟨⟨_, rfl, .ptro rfl rfl⟩, ⟨_, rfl, .d rfl⟩, ⟨_, rfl, .d rfl⟩, ⟨_, rfl, .d rfl⟩, trivial⟩ ⟨.own rfl (.st (.cons (.av (.ifc (.ptro rfl rfl))) (.cons (.map rfl) (.cons (.arr rfl) (.cons (.arr rfl) .nil))))), .own rfl (.of_eq rfl (oviewView_dat _)), trivial⟩ (dropK rfl))⟩
          · refine cw_condF rfl hc294 ?_
            obtain ⟨x303, hx304, h305⟩ := bind_some (x := view_View_Delete_r v257.2.1 x291.2.2.1 v257.2.2) h296
            refine cw_region (
              .cons (o_mv rfl rfl .no rfl) <|
              .cons (o_mv rfl rfl .no rfl) <|
              .cons (o_mv rfl rfl .no rfl) <|
              .cons (o_ixM (enc := ewainscotlaw12Op) (xs := a1) rfl rfl .no rfl rfl sl44 sz46 hx292g.1 hx292g.2) <|
              .cons (o_fld rfl rfl .no rfl fld46_2 (by decide) rfl rfl) <|
              .cons (o_ld rfl rfl .no rfl ta24 rfl rfl) <|
              .cons (o_callX (fun n => bif Nat.beq n 0 then 0 else 1) rfl rfl .no Try.func20 rfl rfl (view_View_Delete_r_ok hx304) (.cons rfl (.p rfl) (.cons rfl .d .nil)) (callIn2 rfl ⟨(by simp [AV.live, lk, Nat.beq]), trivial, trivial⟩ (by decide) rfl (by simp [oviewViewR0, OB.live, OD.live, OD.lives, AV.live, lk, Nat.beq]) rfl (OD.dat_live (oviewView_dat _)) (by simp)) (.inl rfl)) <|
              .nil rfl
            ) ?_
            exact ⟨(x303.2.1, x303.2.2), (Option.some.inj h305).symm, .w (weak_of ⟨⟨_, rfl, .ptro rfl rfl⟩, ⟨_, rfl, .d rfl⟩, ⟨_, rfl, .d rfl⟩, ⟨_, rfl, .d rfl⟩, trivial⟩ ⟨.own rfl (.st (.cons (.av (.ifc (.ptro rfl rfl))) (.cons (.map rfl) (.cons (.arr rfl) (.cons (.arr rfl) .nil))))), .own rfl (.of_eq rfl (oviewView_dat _)), trivial⟩ (dropK rfl))⟩
      · refine cw_condF rfl hc270 ?_
        refine cw_exit ?_
        exact ⟨(v257.2.1, v257.2.2), (hx260 _ (Option.some.inj h272).symm).symm, .w (weak_of trivial ⟨.own rfl (.st (.cons (.av (.ifc (.ptro rfl rfl))) (.cons (.map rfl) (.cons (.arr rfl) (.cons (.arr rfl) .nil))))), .own rfl (.of_eq rfl (oviewView_dat _)), trivial⟩ (dropK rfl))⟩
    · skip
      rcases cond_some hj265 with ⟨hc267, h268⟩ | ⟨hc267, h269⟩
      · skip
        refine cw_region (
          .cons (o_mv rfl rfl .no rfl) <|
          .cons (o_mv rfl rfl .no rfl) <|
          .cons (o_lenM (enc := ewainscotlaw12Op) (xs := a1) rfl rfl .no rfl sl44) <|
          .cons (o_bin rfl rfl .no rfl rfl (b_lss _ _) rfl) <|
          .cons (o_mv rfl rfl .no rfl) <|
          .cons (o_mv rfl rfl (.yes rfl rfl hc267) rfl) <|
          .cons (o_mv rfl rfl (.yes rfl rfl hc267) rfl) <|
          .cons (o_bin rfl rfl (.yes rfl rfl hc267) rfl rfl (b_lss _ _) rfl) <|
          .cons (o_pickT rfl rfl .no rfl hc267 rfl) <|
          .nil rfl
        ) ?_
        exact ⟨(decide (v257.1 < a2)), (Option.some.inj h268).symm, .w (weak_of ⟨⟨_, rfl, .ptro rfl rfl⟩, ⟨_, rfl, .d rfl⟩, ⟨_, rfl, .d rfl⟩, ⟨_, rfl, .d rfl⟩, ⟨_, rfl, .d rfl⟩, trivial⟩ ⟨.own rfl (.st (.cons (.av (.ifc (.ptro rfl rfl))) (.cons (.map rfl) (.cons (.arr rfl) (.cons (.arr rfl) .nil))))), .own rfl (.of_eq rfl (oviewView_dat _)), trivial⟩ (dropK rfl))⟩
      · skip
        refine cw_region (
          .cons (o_mv rfl rfl .no rfl) <|
          .cons (o_mv rfl rfl .no rfl) <|
          .cons (o_lenM (enc := ewainscotlaw12Op) (xs := a1) rfl rfl .no rfl sl44) <|
          .cons (o_bin rfl rfl .no rfl rfl (b_lss _ _) rfl) <|
          .cons (o_mv rfl rfl .no rfl) <|
          .cons (o_noT rfl rfl rfl rfl hc267) <|
          .cons (o_noT rfl rfl rfl rfl hc267) <|
          .cons (o_noT rfl rfl rfl rfl hc267) <|
          .cons (o_pickF rfl rfl .no rfl hc267 rfl) <|
          .nil rfl
        ) ?_
        exact ⟨false, (Option.some.inj h269).symm, .w (weak_of ⟨⟨_, rfl, .ptro rfl rfl⟩, ⟨_, rfl, .d rfl⟩, ⟨_, rfl, .d rfl⟩, ⟨_, rfl, .d rfl⟩, ⟨_, rfl, .d rfl⟩, trivial⟩ ⟨.own rfl (.st (.cons (.av (.ifc (.ptro rfl rfl))) (.cons (.map rfl) (.cons (.arr rfl) (.cons (.arr rfl) .nil))))), .own rfl (.of_eq rfl (oviewView_dat _)), trivial⟩ (dropK rfl))⟩

set_option maxRecDepth 100000 in
theorem view_View_read_r_ok {a0 : ((List ((List UInt8) × ((List UInt8) × ByteArray × Bool))) × (List ((List UInt8) × (List UInt8) × Bool)) × (List (List ((List UInt8) × ((List UInt8) × ByteArray × Bool)))))} {a1 : ((List UInt8) × (List UInt8) × Bool)} {b1 : ((List ((List UInt8) × ByteArray)) × (List ((List UInt8) × ((List UInt8) × ByteArray × Bool))) × (List ((List UInt8) × (List UInt8) × Bool)) × (List (List ((List UInt8) × ((List UInt8) × ByteArray × Bool)))))} {r : (((List ((List UInt8) × ((List UInt8) × ByteArray × Bool))) × (List ((List UInt8) × (List UInt8) × Bool)) × (List (List ((List UInt8) × ((List UInt8) × ByteArray × Bool))))) × ((List ((List UInt8) × ByteArray)) × (List ((List UInt8) × ((List UInt8) × ByteArray × Bool))) × (List ((List UInt8) × (List UInt8) × Bool)) × (List (List ((List UInt8) × ((List UInt8) × ByteArray × Bool))))))} (h : view_View_read_r a0 a1 b1 = some r) : FnOk Try.prog 27 [.ptr 0 0, .d (eapiSpan a1)] 2 (lk [(0, .own (oviewViewR0 1 a0)), (1, .own (oviewView b1))]) (fun rr oo => rr = .tup [] ∧ oo = lk [(0, .own (oviewViewR0 1 r.1)), (1, .own (oviewView r.2))]) := by
  refine fnOk_of Try.func27 rfl rfl (cw_post ?_)
  unfold view_View_read_r at h
  obtain ⟨o7, hj8, h9⟩ := bind_some h
  refine cw_tail (fun (z : ((List ((List UInt8) × ((List UInt8) × ByteArray × Bool))) × (List ((List UInt8) × (List UInt8) × Bool)) × (List (List ((List UInt8) × ((List UInt8) × ByteArray × Bool)))))) => St.of [] [(0, .own (oviewViewR0 1 z)), (1, .own (oviewView b1))]) (fun (z : ((List ((List UInt8) × ((List UInt8) × ByteArray × Bool))) × (List ((List UInt8) × (List UInt8) × Bool)) × (List (List ((List UInt8) × ((List UInt8) × ByteArray × Bool)))))) => o7 = z) ?_ ?_
  · intro v16 hv17; subst hv17
    have heq := ((Option.some.inj h9).symm).symm
    subst heq
    exact ⟨_, (show Leads _ _ (St.of [] [(0, .own (oviewViewR0 1 o7)), (1, .own (oviewView b1))]) from .w (weak_of trivial ⟨.own rfl (.st (.cons (.av (.ifc (.ptro rfl rfl))) (.cons (.map rfl) (.cons (.arr rfl) (.cons (.arr rfl) .nil))))), .own rfl (.of_eq rfl (oviewView_dat _)), trivial⟩ (dropK rfl))), .inl rfl, _, res0 rfl, rfl, rfl⟩
  · skip
    refine cw_seq (cw_region (
      .cons (o_box 2 rfl rfl .no rfl rfl rfl) <|
      .nil rfl
    ) ?_)
    refine cw_leads (leads_open (o := 0) (y := .st [.ifc 28 (.ptr 1 0), .map 3, .arr 4 0, .arr 5 0]) (news := [(3, .map 0 (mD eapiKey eapiChange a0.1)), (4, .arr 0 49 (a0.2.1.map eapiSpan)), (5, .arr 0 1 (a0.2.2.map eMapiKeyapiChange))]) rfl (.st (.cons (.av rfl) (.cons (.map rfl) (.cons (.arr rfl) (.cons (.arr rfl) .nil))))) rfl rfl ⟨rfl, rfl, rfl, trivial⟩) ?_
    refine cw_weak (weak_of (l := [(0, .ptr 0 0), (3, .ptr 2 0)]) (m := [(0, .box (.st [.ifc 28 (.ptr 1 0), .map 3, .arr 4 0, .arr 5 0])), (1, .own (oviewView b1)), (2, .box (.d (eapiSpan a1))), (3, .map 0 (mD eapiKey eapiChange a0.1)), (4, .arr 0 49 (a0.2.1.map eapiSpan)), (5, .arr 0 1 (a0.2.2.map eMapiKeyapiChange))]) ⟨⟨_, rfl, .ptr rfl rfl⟩, ⟨_, rfl, .ptr rfl rfl⟩, trivial⟩ ⟨.box rfl (.st (.cons (.ifc (.ptro rfl rfl)) (.cons (.map rfl rfl) (.cons (.arr rfl rfl) (.cons (.arr rfl rfl) .nil))))), .own rfl (.of_eq rfl (oviewView_dat _)), .box rfl (.d rfl), .map rfl rfl, .arr rfl rfl, .arr rfl rfl, trivial⟩ (dropK rfl)) ?_
    obtain ⟨x10, hx11, h12⟩ := bind_some hj8
    have hx11g := fits_some hx11
    obtain ⟨x13, hx14, h15⟩ := bind_some (x := span_Clean (a0.2.1 ++ [a1])) h12
    refine cw_region_any mixed (by kernel_rfl) (
      .cons (o_mv rfl rfl .no rfl) <|
      .cons (o_mv rfl rfl .no rfl) <|
      .cons (o_nilP rfl rfl .no rfl) <|
      .cons (o_fldP rfl rfl .no rfl fld67_2 (by decide)) <|
      .cons (o_ldP [2] rfl rfl .no rfl rfl rfl ta38 rfl rfl) <|
      .cons (o_ldP [] rfl rfl .no rfl rfl rfl ta26 rfl rfl) <|
      .cons (o_bsl (rows := ([a1] : List ((List UInt8) × (List UInt8) × Bool)).map eapiSpan) rfl rfl .no (.cons rfl .nil) rfl sl38 sz26 ze26 rfl (map_sz siapiSpan) (by decide)) <|
      .cons (o_appM (enc := eapiSpan) (xs := a0.2.1) (ys := [a1]) rfl rfl .no rfl rfl rfl siapiSpan sl38 sl38 sz26 by26 ze26 rfl (by decide) hx11g) <|
      .cons (o_callO 6 rfl rfl .no Try.func38 rfl rfl (span_Clean_ok hx14) (.cons rfl (.arrM rfl) .nil) ⟨trivial, trivial⟩ rfl (.inr ⟨trivial, (flat_rows fun _ => (flapiSpan _))⟩)) <|
      .cons (o_nilP rfl rfl .no rfl) <|
      .cons (o_fldP rfl rfl .no rfl fld67_2 (by decide)) <|
      .cons (o_st [2] rfl .no rfl rfl rfl rfl rfl sz38 rfl rfl) <|
      .nil rfl
    ) (by kernel_rfl) ?_
    exact ⟨(a0.1, x13, a0.2.2), (Option.some.inj h15).symm, .trans (leads_pack (o := 0) (y := .st [.ifc 28 (.ptr 1 0), .map 3, .arr 6 0, .arr 5 0]) (x := oviewViewR0 1 (a0.1, x13, a0.2.2)) (l := []) (m := [(0, .own (oviewViewR0 1 (a0.1, x13, a0.2.2))), (1, .own (oviewView b1))]) rfl (.st (.cons (.av rfl) (.cons (.map rfl) (.cons (.arr rfl) (.cons (.arr rfl) .nil))))) rfl rfl trivial ⟨.inl rfl, (.inr ⟨rfl, (OD.dat_live (oviewView_dat _))⟩), trivial⟩ rfl (by simp [oviewViewR0, OB.live, OD.live, OD.lives, AV.live, lk, Nat.beq]) ⟨rfl, rfl, rfl, trivial⟩ (dropK rfl)) (.w (weak_of trivial ⟨.own rfl (.st (.cons (.av (.ifc (.ptro rfl rfl))) (.cons (.map rfl) (.cons (.arr rfl) (.cons (.arr rfl) .nil))))), .own rfl (.of_eq rfl (oviewView_dat _)), trivial⟩ (dropK rfl)))⟩

set_option maxRecDepth 100000 in
theorem view_View_Scan_r_ok {a0 : ((List ((List UInt8) × ((List UInt8) × ByteArray × Bool))) × (List ((List UInt8) × (List UInt8) × Bool)) × (List (List ((List UInt8) × ((List UInt8) × ByteArray × Bool)))))} {a1 : ((List UInt8) × (List UInt8) × Bool)} {b1 : ((List ((List UInt8) × ByteArray)) × (List ((List UInt8) × ((List UInt8) × ByteArray × Bool))) × (List ((List UInt8) × (List UInt8) × Bool)) × (List (List ((List UInt8) × ((List UInt8) × ByteArray × Bool)))))} {r : ((List ((List UInt8) × ByteArray)) × Int × ((List ((List UInt8) × ((List UInt8) × ByteArray × Bool))) × (List ((List UInt8) × (List UInt8) × Bool)) × (List (List ((List UInt8) × ((List UInt8) × ByteArray × Bool))))) × ((List ((List UInt8) × ByteArray)) × (List ((List UInt8) × ((List UInt8) × ByteArray × Bool))) × (List ((List UInt8) × (List UInt8) × Bool)) × (List (List ((List UInt8) × ((List UInt8) × ByteArray × Bool))))))} (h : view_View_Scan_r a0 a1 b1 = some r) : FnOk Try.prog 15 [.ptr 0 0, .d (eapiSpan a1)] 2 (lk [(0, .own (oviewViewR0 1 a0)), (1, .own (oviewView b1))]) (fun rr oo => rr = .tup [.d (eSapiPair r.1), .d (eapiErrno r.2.1)] ∧ oo = lk [(0, .own (oviewViewR0 1 r.2.2.1)), (1, .own (oviewView r.2.2.2))]) := by
  refine fnOk_of Try.func15 rfl rfl (cw_post ?_)
  unfold view_View_Scan_r at h
  refine cw_seq (cw_region (
    .cons (o_box 2 rfl rfl .no rfl rfl rfl) <|
    .cons (o_as rfl rfl .no rfl) <|
    .cons (o_as rfl rfl .no rfl) <|
    .nil rfl
  ) ?_)
  obtain ⟨x1, hx2, h3⟩ := bind_some (x := view_View_read_r a0 a1 b1) h
  refine cw_seq (cw_region (
    .cons (o_mv rfl rfl .no rfl) <|
    .cons (o_ldP [] rfl rfl .no rfl rfl rfl ta26 rfl rfl) <|
    .cons (o_callX (fun n => bif Nat.beq n 0 then 0 else 1) rfl rfl .no Try.func27 rfl rfl (view_View_read_r_ok hx2) (.cons rfl (.p rfl) (.cons rfl .d .nil)) (callIn2 rfl ⟨(by simp [AV.live, lk, Nat.beq]), trivial, trivial⟩ (by decide) rfl (by simp [oviewViewR0, OB.live, OD.live, OD.lives, AV.live, lk, Nat.beq]) rfl (OD.dat_live (oviewView_dat _)) (by simp)) (.inl rfl)) <|
    .nil rfl
  ) ?_)
  refine cw_leads (leads_open (o := 0) (y := .st [.ifc 28 (.ptr 1 0), .map 3, .arr 4 0, .arr 5 0]) (news := [(3, .map 0 (mD eapiKey eapiChange x1.1.1)), (4, .arr 0 49 (x1.1.2.1.map eapiSpan)), (5, .arr 0 1 (x1.1.2.2.map eMapiKeyapiChange))]) rfl (.st (.cons (.av rfl) (.cons (.map rfl) (.cons (.arr rfl) (.cons (.arr rfl) .nil))))) rfl rfl ⟨rfl, rfl, rfl, trivial⟩) ?_
  refine cw_weak (weak_of (l := [(0, .ptr 0 0), (3, .ptr 2 0)]) (m := [(0, .box (.st [.ifc 28 (.ptr 1 0), .map 3, .arr 4 0, .arr 5 0])), (1, .own (oviewView x1.2)), (2, .box (.d (eapiSpan a1))), (3, .map 0 (mD eapiKey eapiChange x1.1.1)), (4, .arr 0 49 (x1.1.2.1.map eapiSpan)), (5, .arr 0 1 (x1.1.2.2.map eMapiKeyapiChange))]) ⟨⟨_, rfl, .ptr rfl rfl⟩, ⟨_, rfl, .ptr rfl rfl⟩, trivial⟩ ⟨.box rfl (.st (.cons (.ifc (.ptro rfl rfl)) (.cons (.map rfl rfl) (.cons (.arr rfl rfl) (.cons (.arr rfl rfl) .nil))))), .own rfl (.of_eq rfl (oviewView_dat _)), .box rfl (.d rfl), .map rfl rfl, .arr rfl rfl, .arr rfl rfl, trivial⟩ (dropK rfl)) ?_
  obtain ⟨x4, hx5, h6⟩ := bind_some (x := view_View_Scan x1.2 a1) h3
  refine cw_seq (cw_region_any mixed (by kernel_rfl) (
    .cons (o_mv rfl rfl .no rfl) <|
    .cons (o_nilP rfl rfl .no rfl) <|
    .cons (o_fldP rfl rfl .no rfl fld67_0 (by decide)) <|
    .cons (o_ldP [0] rfl rfl .no rfl rfl rfl ta63 rfl rfl) <|
    .cons (o_ldP [] rfl rfl .no rfl rfl rfl ta26 rfl rfl) <|
    .cons (o_inv (fun _ => 1) rfl rfl .no rfl Try.func15 rfl rfl rfl hm28_Scan (view_View_Scan_ok hx5) (.cons rfl (.p rfl) (.cons rfl .d .nil)) (by decide) (callIn1 rfl ⟨(by simp [AV.live, lk, Nat.beq]), trivial, trivial⟩ rfl (OD.dat_live (oviewView_dat _)) (by simp)) (.inl rfl)) <|
    .cons (o_mv rfl rfl .no rfl) <|
    .cons (o_ext rfl rfl .no rfl rfl) <|
    .cons (o_ext rfl rfl .no rfl rfl) <|
    .cons (o_as rfl rfl .no rfl) <|
    .cons (o_as rfl rfl .no rfl) <|
    .nil rfl
  ) (by kernel_rfl) ?_)
  refine cw_seq ?_
  refine cw_seq (cw_region (
    .cons (o_mv rfl rfl .no rfl) <|
    .cons (o_bin rfl rfl .no rfl rfl (b_neq _ _) rfl) <|
    .nil rfl
  ) ?_)
  rcases cond_some h6 with ⟨hc7, h8⟩ | ⟨hc7, h9⟩
  · refine cw_condT rfl hc7 ?_
    refine cw_seq (cw_region (
      .cons (o_mv rfl rfl .no rfl) <|
      .cons (o_as rfl rfl .no rfl) <|
      .cons (o_as rfl rfl .no rfl) <|
      .nil rfl
    ) ?_)
    have heq := ((Option.some.inj h8).symm).symm
    subst heq
    exact cw_ret ⟨_, (show Leads _ _ (St.of [(4, .d (eSapiPair ([]))), (5, .d (eapiErrno x4.2.1))] [(0, .own (oviewViewR0 1 (x1.1.1, x1.1.2.1, x1.1.2.2))), (1, .own (oviewView x4.2.2))]) from .trans (leads_pack (o := 0) (y := .st [.ifc 28 (.ptr 1 0), .map 3, .arr 4 0, .arr 5 0]) (x := oviewViewR0 1 (x1.1.1, x1.1.2.1, x1.1.2.2)) (l := [(4, .d (.v (.slice none 0 0))), (5, .d (eapiErrno x4.2.1))]) (m := [(0, .own (oviewViewR0 1 (x1.1.1, x1.1.2.1, x1.1.2.2))), (1, .own (oviewView x4.2.2))]) rfl (.st (.cons (.av rfl) (.cons (.map rfl) (.cons (.arr rfl) (.cons (.arr rfl) .nil))))) rfl rfl ⟨⟨rfl, trivial⟩, ⟨rfl, trivial⟩, trivial⟩ ⟨.inl rfl, (.inr ⟨rfl, (OD.dat_live (oviewView_dat _))⟩), trivial⟩ rfl (by simp [oviewViewR0, OB.live, OD.live, OD.lives, AV.live, lk, Nat.beq]) ⟨rfl, rfl, rfl, trivial⟩ (dropK rfl)) (.w (weak_of ⟨⟨_, rfl, .nil0⟩, ⟨_, rfl, .d rfl⟩, trivial⟩ ⟨.own rfl (.st (.cons (.av (.ifc (.ptro rfl rfl))) (.cons (.map rfl) (.cons (.arr rfl) (.cons (.arr rfl) .nil))))), .own rfl (.of_eq rfl (oviewView_dat _)), trivial⟩ (dropK rfl)))), .inr rfl, _, res2 rfl rfl rfl, rfl, rfl⟩
  · refine cw_condF rfl hc7 ?_
    refine cw_skip ?_
    refine cw_seq (cw_region (
      .cons (o_as rfl rfl .no rfl) <|
      .nil rfl
    ) ?_)
    refine cw_seq ?_
    refine cw_seq (cw_region (
      .cons (o_mv rfl rfl .no rfl) <|
      .cons (o_nilP rfl rfl .no rfl) <|
      .cons (o_fldP rfl rfl .no rfl fld67_1 (by decide)) <|
      .cons (o_ldP [1] rfl rfl .no rfl rfl rfl ta64 rfl rfl) <|
      .cons (o_range 6 rfl rfl .no rfl rfl mp64 rfl) <|
      .nil rfl
    ) ?_)
    have ho38 := forOrd_some h9
    refine cw_mapRange (V := (List ((List UInt8) × ByteArray × Bool))) (ek := eapiKey) (ev := eapiChange) (M := x1.1.1) (fun x34 hl42 => bind_ex (ho38 x34 hl42)) (fun (z : (List ((List UInt8) × ByteArray × Bool))) (l : List ((List UInt8) × ((List UInt8) × ByteArray × Bool))) => St.of [(3, .ptr 2 0), (6, .d (eSapiPair x4.1)), (8, .arr 9 0), (30, .it 6)] [(0, .box (.st [.ifc 28 (.ptr 1 0), .map 3, .arr 4 0, .arr 5 0])), (1, .own (oviewView x4.2.2)), (2, .box (.d (eapiSpan a1))), (3, .map 0 (mD eapiKey eapiChange x1.1.1)), (4, .arr 0 49 (x1.1.2.1.map eapiSpan)), (5, .arr 0 1 (x1.1.2.2.map eMapiKeyapiChange)), (6, .iter 3 0 (mD eapiKey eapiChange l) none), (9, .arr 0 26 (z.map eapiChange))]) (fun (z : (List ((List UInt8) × ByteArray × Bool))) => St.of [(6, .d (eSapiPair x4.1)), (8, .arr 9 0)] [(0, .box (.st [.ifc 28 (.ptr 1 0), .map 3, .arr 4 0, .arr 5 0])), (1, .own (oviewView x4.2.2)), (3, .map 0 (mD eapiKey eapiChange x1.1.1)), (4, .arr 0 49 (x1.1.2.1.map eapiSpan)), (5, .arr 0 1 (x1.1.2.2.map eMapiKeyapiChange)), (9, .arr 0 26 (z.map eapiChange))]) rfl rfl (.w (weak_of ⟨⟨_, rfl, .ptr rfl rfl⟩, ⟨_, rfl, .d rfl⟩, ⟨_, rfl, .nila rfl rfl⟩, ⟨_, rfl, .it rfl rfl⟩, trivial⟩ ⟨.box rfl (.st (.cons (.ifc (.ptro rfl rfl)) (.cons (.map rfl rfl) (.cons (.arr rfl rfl) (.cons (.arr rfl rfl) .nil))))), .own rfl (.of_eq rfl (oviewView_dat _)), .box rfl (.d rfl), .map rfl rfl, .arr rfl rfl, .arr rfl rfl, .iter rfl rfl rfl rfl rfl (.inl rfl), .nil rfl, trivial⟩ (dropK rfl))) (fun _ _ => ⟨rfl, rfl, rfl⟩) (fun z => .w (weak_of ⟨⟨_, rfl, .d rfl⟩, ⟨_, rfl, .arr rfl rfl⟩, trivial⟩ ⟨.box rfl (.st (.cons (.ifc (.ptro rfl rfl)) (.cons (.map rfl rfl) (.cons (.arr rfl rfl) (.cons (.arr rfl rfl) .nil))))), .own rfl (.of_eq rfl (oviewView_dat _)), .map rfl rfl, .arr rfl rfl, .arr rfl rfl, .arr rfl rfl, trivial⟩ (dropK rfl))) ?_ ?_
    · intro v39 h40
      refine cw_weak (weak_of (l := [(6, .d (eSapiPair x4.1)), (8, .d (eSapiChange v39))]) (m := [(0, .box (.st [.ifc 28 (.ptr 1 0), .map 3, .arr 4 0, .arr 5 0])), (1, .own (oviewView x4.2.2)), (3, .map 0 (mD eapiKey eapiChange x1.1.1)), (4, .arr 0 49 (x1.1.2.1.map eapiSpan)), (5, .arr 0 1 (x1.1.2.2.map eMapiKeyapiChange))]) ⟨⟨_, rfl, .d rfl⟩, ⟨_, rfl, .frz rfl rfl rfl⟩, trivial⟩ ⟨.box rfl (.st (.cons (.ifc (.ptro rfl rfl)) (.cons (.map rfl rfl) (.cons (.arr rfl rfl) (.cons (.arr rfl rfl) .nil))))), .own rfl (.of_eq rfl (oviewView_dat _)), .map rfl rfl, .arr rfl rfl, .arr rfl rfl, trivial⟩ (dropK rfl)) ?_
      obtain ⟨x55, hx56, h57⟩ := bind_some (x := delta_Apply x4.1 v39) h40
      refine cw_seq (cw_region (
        .cons (o_mv rfl rfl .no rfl) <|
        .cons (o_mv rfl rfl .no rfl) <|
        .cons (o_call rfl rfl .no Try.func18 rfl rfl (delta_Apply_ok hx56) (.cons rfl .d (.cons rfl .d .nil)) ⟨trivial, trivial, trivial⟩ (.inl rfl)) <|
        .cons (o_as rfl rfl .no rfl) <|
        .cons (o_as rfl rfl .no rfl) <|
        .nil rfl
      ) ?_)
      have heq := ((Option.some.inj h57).symm).symm
      subst heq
      exact cw_ret ⟨_, (show Leads _ _ (St.of [(4, .d (eSapiPair x55)), (5, .d (eapiErrno 0))] [(0, .own (oviewViewR0 1 (x1.1.1, x1.1.2.1, x1.1.2.2))), (1, .own (oviewView x4.2.2))]) from .trans (leads_pack (o := 0) (y := .st [.ifc 28 (.ptr 1 0), .map 3, .arr 4 0, .arr 5 0]) (x := oviewViewR0 1 (x1.1.1, x1.1.2.1, x1.1.2.2)) (l := [(4, .d (eSapiPair x55)), (5, .d (eint 0))]) (m := [(0, .own (oviewViewR0 1 (x1.1.1, x1.1.2.1, x1.1.2.2))), (1, .own (oviewView x4.2.2))]) rfl (.st (.cons (.av rfl) (.cons (.map rfl) (.cons (.arr rfl) (.cons (.arr rfl) .nil))))) rfl rfl ⟨⟨rfl, trivial⟩, ⟨rfl, trivial⟩, trivial⟩ ⟨.inl rfl, (.inr ⟨rfl, (OD.dat_live (oviewView_dat _))⟩), trivial⟩ rfl (by simp [oviewViewR0, OB.live, OD.live, OD.lives, AV.live, lk, Nat.beq]) ⟨rfl, rfl, rfl, trivial⟩ (dropK rfl)) (.w (weak_of ⟨⟨_, rfl, .d rfl⟩, ⟨_, rfl, .d rfl⟩, trivial⟩ ⟨.own rfl (.st (.cons (.av (.ifc (.ptro rfl rfl))) (.cons (.map rfl) (.cons (.arr rfl) (.cons (.arr rfl) .nil))))), .own rfl (.of_eq rfl (oviewView_dat _)), trivial⟩ (dropK rfl)))), .inr rfl, _, res2 rfl rfl rfl, rfl, rfl⟩
    · intro Q41 v32 x33 x34 x35 v36 hb37
      refine cw_block ?_
      refine cw_seq (cw_region (
        .cons (o_entry rfl rfl .no rfl rfl rfl) <|
        .cons (o_ext rfl rfl .no rfl rfl) <|
        .cons (o_ext rfl rfl .no rfl rfl) <|
        .cons (o_alloc 7 rfl rfl .no ze24 rfl) <|
        .cons (o_alloc 8 rfl rfl .no ze71 rfl) <|
        .cons (o_st [] rfl .no rfl rfl rfl rfl rfl sz24 rfl rfl) <|
        .cons (o_st [] rfl .no rfl rfl rfl rfl rfl sz71 rfl rfl) <|
        .nil rfl
      ) ?_)
      obtain ⟨x43, hx44, h45⟩ := bind_some (x := key_In a1 x33.1) hb37
      refine cw_seq (cw_region (
        .cons (o_ldP [] rfl rfl .no rfl rfl rfl ta26 rfl rfl) <|
        .cons (o_ldP [] rfl rfl .no rfl rfl rfl ta24 rfl rfl) <|
        .cons (o_call rfl rfl .no Try.func30 rfl rfl (key_In_ok hx44) (.cons rfl .d (.cons rfl .d .nil)) ⟨trivial, trivial, trivial⟩ (.inl rfl)) <|
        .nil rfl
      ) ?_)
      rcases cond_some h45 with ⟨hc46, h47⟩ | ⟨hc46, h48⟩
      · refine cw_condT rfl hc46 ?_
        obtain ⟨x49, hx50, h51⟩ := bind_some h47
        have hx50g := fits_some hx50
        refine cw_region (
          .cons (o_mv rfl rfl .no rfl) <|
          .cons (o_ldP [] rfl rfl .no rfl rfl rfl ta71 rfl rfl) <|
          .cons (o_bsl (rows := ([x33.2] : List ((List UInt8) × ByteArray × Bool)).map eapiChange) rfl rfl .no (.cons rfl .nil) rfl sl49 sz71 ze71 rfl (map_sz siapiChange) (by decide)) <|
          .cons (o_appM (enc := eapiChange) (xs := v32) (ys := [x33.2]) rfl rfl .no rfl rfl rfl siapiChange sl49 sl49 sz71 by71 ze71 rfl (by decide) hx50g) <|
          .cons (o_as rfl rfl .no rfl) <|
          .nil rfl
        ) ?_
        have heq := ((Option.some.inj h51).symm).symm
        subst heq
        exact .w (weak_of ⟨⟨_, rfl, .ptr rfl rfl⟩, ⟨_, rfl, .d rfl⟩, ⟨_, rfl, .arr rfl rfl⟩, ⟨_, rfl, .it rfl rfl⟩, trivial⟩ ⟨.box rfl (.st (.cons (.ifc (.ptro rfl rfl)) (.cons (.map rfl rfl) (.cons (.arr rfl rfl) (.cons (.arr rfl rfl) .nil))))), .own rfl (.of_eq rfl (oviewView_dat _)), .box rfl (.d rfl), .map rfl rfl, .arr rfl rfl, .arr rfl rfl, .iter rfl rfl rfl rfl rfl (.inl rfl), .arr0 rfl rfl rfl, trivial⟩ (dropK rfl))
      · refine cw_condF rfl hc46 ?_
        refine cw_skip ?_
        have heq := ((Option.some.inj h48).symm).symm
        subst heq
        exact .w (weak_of ⟨⟨_, rfl, .ptr rfl rfl⟩, ⟨_, rfl, .d rfl⟩, ⟨_, rfl, .arr rfl rfl⟩, ⟨_, rfl, .it rfl rfl⟩, trivial⟩ ⟨.box rfl (.st (.cons (.ifc (.ptro rfl rfl)) (.cons (.map rfl rfl) (.cons (.arr rfl rfl) (.cons (.arr rfl rfl) .nil))))), .own rfl (.of_eq rfl (oviewView_dat _)), .box rfl (.d rfl), .map rfl rfl, .arr rfl rfl, .arr rfl rfl, .iter rfl rfl rfl rfl rfl (.inl rfl), .arr rfl rfl, trivial⟩ (dropK rfl))

set_option maxRecDepth 100000 in
theorem law12_ViewOver_ok {a0 : List ((List UInt8) × ByteArray)} {a1 : List (Int × Int × (List UInt8) × ByteArray × ((List UInt8) × (List UInt8) × Bool))} {a2 : List (Int × Int × (List UInt8) × ByteArray × ((List UInt8) × (List UInt8) × Bool))} {r : Bool} (h : law12_ViewOver a0 a1 a2 = some r) : FnOk Try.prog 6 [.d (eSapiPair a0), .d (eSwainscotlaw12Op a1), .d (eSwainscotlaw12Op a2)] 0 (lk []) (fun rr oo => rr = .d (ebool r) ∧ oo = lk []) := by
  refine fnOk_of Try.func6 rfl rfl (cw_post ?_)
  unfold law12_ViewOver at h
  refine cw_seq (cw_region (
    .cons (o_as rfl rfl .no rfl) <|
    .nil rfl
  ) ?_)
  obtain ⟨x1, hx2, h3⟩ := bind_some (x := law12_shown) h
  refine cw_seq (cw_region (
    .cons (o_call rfl rfl .no Try.func7 rfl rfl (law12_shown_ok hx2) .nil trivial (.inl rfl)) <|
    .cons (o_as rfl rfl .no rfl) <|
    .nil rfl
  ) ?_)
  obtain ⟨x4, hx5, h6⟩ := bind_some (x := law12_cut a0) h3
  refine cw_seq (cw_region (
    .cons (o_mv rfl rfl .no rfl) <|
    .cons (o_call rfl rfl .no Try.func10 rfl rfl (law12_cut_ok hx5) (.cons rfl .d .nil) ⟨trivial, trivial⟩ (.inl rfl)) <|
    .cons (o_as rfl rfl .no rfl) <|
    .nil rfl
  ) ?_)
  obtain ⟨x7, hx8, h9⟩ := bind_some (x := view_NewPlain x4) h6
  obtain ⟨x10, hx11, h12⟩ := bind_some (x := view_New x7) h9
  refine cw_seq (cw_region (
    .cons (o_mv rfl rfl .no rfl) <|
    .cons (o_call rfl rfl .no Try.func9 rfl rfl (view_NewPlain_ok hx8) (.cons rfl .d .nil) ⟨trivial, trivial⟩ (.inl rfl)) <|
    .cons (o_mkif rfl rfl .no rfl ifB30) <|
    .cons (o_callO 0 rfl rfl .no Try.func8 rfl rfl (view_New_ok hx11) (.cons rfl .i .nil) ⟨(by simp [AV.live]), trivial⟩ rfl (.inl rfl)) <|
    .cons (o_as rfl rfl .no rfl) <|
    .nil rfl
  ) ?_)
  refine cw_seq (cw_region (
    .cons (o_mv rfl rfl .no rfl) <|
    .cons (o_call rfl rfl .no Try.func9 rfl rfl (view_NewPlain_ok hx8) (.cons rfl .d .nil) ⟨trivial, trivial⟩ (.inl rfl)) <|
    .cons (o_mkif rfl rfl .no rfl ifB30) <|
    .cons (o_callO 1 rfl rfl .no Try.func8 rfl rfl (view_New_ok hx11) (.cons rfl .i .nil) ⟨(by simp [AV.live]), trivial⟩ rfl (.inl rfl)) <|
    .cons (o_as rfl rfl .no rfl) <|
    .nil rfl
  ) ?_)
  refine cw_seq ?_
  obtain ⟨o16, hj17, h18⟩ := bind_some h12
  refine cw_join (fun (z : Bool) => St.of [(1, .d (eSwainscotlaw12Op a1)), (2, .d (eSwainscotlaw12Op a2)), (8, .ptr 0 0), (9, .ptr 1 0), (36, .d (ebool z))] [(0, .own (oviewView x10)), (1, .own (oviewView x10))]) (fun (z : Bool) => o16 = z) ?_ ?_
  · intro v87 hv88; subst hv88
    rcases cond_some h18 with ⟨hc22, h23⟩ | ⟨hc22, h24⟩
    · refine cw_condT rfl hc22 ?_
      refine cw_seq (cw_region (
        .cons (o_as rfl rfl .no rfl) <|
        .nil rfl
      ) ?_)
      have heq := ((Option.some.inj h23).symm).symm
      subst heq
      exact cw_ret ⟨_, (show Leads _ _ (St.of [(6, .d (ebool false))] []) from .w (weak_of ⟨⟨_, rfl, .d rfl⟩, trivial⟩ trivial drop0)), .inr rfl, _, res1 rfl rfl, rfl, rfl⟩
    · refine cw_condF rfl hc22 ?_
      refine cw_skip ?_
      obtain ⟨x25, hx26, h27⟩ := bind_some (x := law12_does x10 a1 30) h24
      refine cw_seq (cw_region (
        .cons (o_mv rfl rfl .no rfl) <|
        .cons (o_mv rfl rfl .no rfl) <|
        .cons (o_callX (fun _ => 0) rfl rfl .no Try.func21 rfl rfl (law12_does_ok hx26) (.cons rfl (.p rfl) (.cons rfl .d (.cons rfl .d .nil))) (callIn1 rfl ⟨(by simp [AV.live, lk, Nat.beq]), trivial, trivial, trivial⟩ rfl (OD.dat_live (oviewView_dat _)) (by simp)) (.inl rfl)) <|
        .nil rfl
      ) ?_)
      refine cw_seq (cw_region (
        .cons (o_mv rfl rfl .no rfl) <|
        .cons (o_mv rfl rfl .no rfl) <|
        .cons (o_callX (fun _ => 1) rfl rfl .no Try.func21 rfl rfl (law12_does_ok hx26) (.cons rfl (.p rfl) (.cons rfl .d (.cons rfl .d .nil))) (callIn1 rfl ⟨(by simp [AV.live, lk, Nat.beq]), trivial, trivial, trivial⟩ rfl (OD.dat_live (oviewView_dat _)) (by simp)) (.inl rfl)) <|
        .nil rfl
      ) ?_)
      obtain ⟨x28, hx29, h30⟩ := bind_some (x := view_View_Changes x25) h27
      refine cw_seq (cw_region (
        .cons (o_mv rfl rfl .no rfl) <|
        .cons (o_callX (fun _ => 0) rfl rfl .no Try.func19 rfl rfl (view_View_Changes_ok hx29) (.cons rfl (.p rfl) .nil) (callIn1 rfl ⟨(by simp [AV.live, lk, Nat.beq]), trivial⟩ rfl (OD.dat_live (oviewView_dat _)) (by simp)) (.inl rfl)) <|
        .cons (o_as rfl rfl .no rfl) <|
        .nil rfl
      ) ?_)
      obtain ⟨x31, hx32, h33⟩ := bind_some (x := view_New_o x28.2) h30
      refine cw_seq (cw_region (
        .cons (o_mv rfl rfl .no rfl) <|
        .cons (o_mkif rfl rfl .no rfl ifB28) <|
        .cons (o_callX (fun n => bif Nat.beq n 0 then 0 else 2) rfl rfl .no Try.func8 rfl rfl (view_New_o_ok hx32) (.cons rfl (.ip rfl) .nil) (callIn1N rfl ⟨(by simp [AV.live, lk, Nat.beq]), trivial⟩ (by decide) rfl (OD.dat_live (oviewView_dat _)) rfl (by simp)) (.inl rfl)) <|
        .cons (o_as rfl rfl .no rfl) <|
        .nil rfl
      ) ?_)
      refine cw_seq ?_
      refine cw_seq (cw_region (
        .cons (o_mv rfl rfl .no rfl) <|
        .cons (o_pnilP rfl rfl .no rfl up28) <|
        .nil rfl
      ) ?_)
      refine cw_condF rfl rfl ?_
      refine cw_skip ?_
      obtain ⟨x34, hx35, h36⟩ := bind_some (x := law12_does_r x31.2 a2 30 x31.1) h33
      refine cw_seq (cw_region (
        .cons (o_mv rfl rfl .no rfl) <|
        .cons (o_mv rfl rfl .no rfl) <|
        .cons (o_callX (fun n => bif Nat.beq n 0 then 2 else 0) rfl rfl .no Try.func21 rfl rfl (law12_does_r_ok hx35) (.cons rfl (.p rfl) (.cons rfl .d (.cons rfl .d .nil))) (callIn2 rfl ⟨(by simp [AV.live, lk, Nat.beq]), trivial, trivial, trivial⟩ (by decide) rfl (by simp [oviewViewR0, OB.live, OD.live, OD.lives, AV.live, lk, Nat.beq]) rfl (OD.dat_live (oviewView_dat _)) (by simp)) (.inl rfl)) <|
        .nil rfl
      ) ?_)
      obtain ⟨x37, hx38, h39⟩ := bind_some (x := law12_does x25 a2 30) h36
      refine cw_seq (cw_region (
        .cons (o_mv rfl rfl .no rfl) <|
        .cons (o_mv rfl rfl .no rfl) <|
        .cons (o_callX (fun _ => 1) rfl rfl .no Try.func21 rfl rfl (law12_does_ok hx38) (.cons rfl (.p rfl) (.cons rfl .d (.cons rfl .d .nil))) (callIn1 rfl ⟨(by simp [AV.live, lk, Nat.beq]), trivial, trivial, trivial⟩ rfl (OD.dat_live (oviewView_dat _)) (by simp)) (.inl rfl)) <|
        .nil rfl
      ) ?_)
      obtain ⟨x40, hx41, h42⟩ := bind_some (x := view_View_Scan_r x34.1 ((List.replicate 24 0), (List.replicate 24 0), true) x34.2) h39
      refine cw_seq (cw_region (
        .cons (o_mv rfl rfl .no rfl) <|
        .cons (o_bld (ds := [eapiKey (List.replicate 24 0), eapiKey (List.replicate 24 0), ebool true]) rfl rfl .no zs26 rfl pl26 (.cons rfl rfl rfl rfl rfl rfl rfl .nil)) <|
        .cons (o_callX (fun n => bif Nat.beq n 0 then 2 else 0) rfl rfl .no Try.func15 rfl rfl (view_View_Scan_r_ok hx41) (.cons rfl (.p rfl) (.cons rfl .d .nil)) (callIn2 rfl ⟨(by simp [AV.live, lk, Nat.beq]), trivial, trivial⟩ (by decide) rfl (by simp [oviewViewR0, OB.live, OD.live, OD.lives, AV.live, lk, Nat.beq]) rfl (OD.dat_live (oviewView_dat _)) (by simp)) (.inl rfl)) <|
        .cons (o_mv rfl rfl .no rfl) <|
        .cons (o_ext rfl rfl .no rfl rfl) <|
        .cons (o_ext rfl rfl .no rfl rfl) <|
        .cons (o_as rfl rfl .no rfl) <|
        .cons (o_as rfl rfl .no rfl) <|
        .nil rfl
      ) ?_)
      obtain ⟨x43, hx44, h45⟩ := bind_some (x := view_View_Scan x37 ((List.replicate 24 0), (List.replicate 24 0), true)) h42
      refine cw_seq (cw_region (
        .cons (o_mv rfl rfl .no rfl) <|
        .cons (o_bld (ds := [eapiKey (List.replicate 24 0), eapiKey (List.replicate 24 0), ebool true]) rfl rfl .no zs26 rfl pl26 (.cons rfl rfl rfl rfl rfl rfl rfl .nil)) <|
        .cons (o_callX (fun _ => 1) rfl rfl .no Try.func15 rfl rfl (view_View_Scan_ok hx44) (.cons rfl (.p rfl) (.cons rfl .d .nil)) (callIn1 rfl ⟨(by simp [AV.live, lk, Nat.beq]), trivial, trivial⟩ rfl (OD.dat_live (oviewView_dat _)) (by simp)) (.inl rfl)) <|
        .cons (o_mv rfl rfl .no rfl) <|
        .cons (o_ext rfl rfl .no rfl rfl) <|
        .cons (o_ext rfl rfl .no rfl rfl) <|
        .cons (o_as rfl rfl .no rfl) <|
        .cons (o_as rfl rfl .no rfl) <|
        .nil rfl
      ) ?_)
      obtain ⟨o64, hj65, h66⟩ := bind_some h45
      refine cw_join (fun (z : Bool) => St.of [(6, .d (ebool z))] []) (fun (z : Bool) => o64 = z) ?_ ?_
      · intro v85 hv86; subst hv86
        have heq := ((Option.some.inj h66).symm).symm
        subst heq
        exact cw_ret ⟨_, (show Leads _ _ (St.of [(6, .d (ebool o64))] []) from .w (weak_of ⟨⟨_, rfl, .d rfl⟩, trivial⟩ trivial drop0)), .inr rfl, _, res1 rfl rfl, rfl, rfl⟩
      · skip
        rcases cond_some hj65 with ⟨hc67, h68⟩ | ⟨hc67, h69⟩
        · skip
          rcases cond_some h68 with ⟨hc70, h71⟩ | ⟨hc70, h72⟩
          · skip
            obtain ⟨x73, hx74, h75⟩ := bind_some (x := ref09_Same x40.1 x43.1) h71
            rcases cond_some h75 with ⟨hc76, h77⟩ | ⟨hc76, h78⟩
            · skip
              obtain ⟨x79, hx80, h81⟩ := bind_some (x := view_View_Changes x40.2.2.2) h77
              obtain ⟨x82, hx83, h84⟩ := bind_some (x := ref09_SameChanges x79.1 x28.1) h81
              refine cw_region (
                .cons (o_mv rfl rfl .no rfl) <|
                .cons (o_bin rfl rfl .no rfl rfl (b_eql _ _) rfl) <|
                .cons (o_mv rfl rfl .no rfl) <|
                .cons (o_mv rfl rfl (.yes rfl rfl hc67) rfl) <|
                .cons (o_bin rfl rfl (.yes rfl rfl hc67) rfl rfl (b_eql _ _) rfl) <|
                .cons (o_pickT rfl rfl .no rfl hc67 rfl) <|
                .cons (o_mv rfl rfl .no rfl) <|
                .cons (o_mv rfl rfl (.yes rfl rfl hc70) rfl) <|
                .cons (o_mv rfl rfl (.yes rfl rfl hc70) rfl) <|
                .cons (o_call rfl rfl (.yes rfl rfl hc70) Try.func17 rfl rfl (ref09_Same_ok hx74) (.cons rfl .d (.cons rfl .d .nil)) ⟨trivial, trivial, trivial⟩ (.inl rfl)) <|
                .cons (o_pickT rfl rfl .no rfl hc70 rfl) <|
                .cons (o_mv rfl rfl .no rfl) <|
                .cons (o_mv rfl rfl (.yes rfl rfl hc76) rfl) <|
                .cons (o_callX (fun _ => 0) rfl rfl (.yes rfl rfl hc76) Try.func19 rfl rfl (view_View_Changes_ok hx80) (.cons rfl (.p rfl) .nil) (callIn1 rfl ⟨(by simp [AV.live, lk, Nat.beq]), trivial⟩ rfl (OD.dat_live (oviewView_dat _)) (by simp)) (.inl rfl)) <|
                .cons (o_mv rfl rfl (.yes rfl rfl hc76) rfl) <|
                .cons (o_call rfl rfl (.yes rfl rfl hc76) Try.func24 rfl rfl (ref09_SameChanges_ok hx83) (.cons rfl .d (.cons rfl .d .nil)) ⟨trivial, trivial, trivial⟩ (.inl rfl)) <|
                .cons (o_pickT rfl rfl .no rfl hc76 rfl) <|
                .cons (o_as rfl rfl .no rfl) <|
                .nil rfl
              ) ?_
              exact ⟨x82, (Option.some.inj h84).symm, .w (weak_of ⟨⟨_, rfl, .d rfl⟩, trivial⟩ trivial drop0)⟩
            · skip
              refine cw_region (
                .cons (o_mv rfl rfl .no rfl) <|
                .cons (o_bin rfl rfl .no rfl rfl (b_eql _ _) rfl) <|
                .cons (o_mv rfl rfl .no rfl) <|
                .cons (o_mv rfl rfl (.yes rfl rfl hc67) rfl) <|
                .cons (o_bin rfl rfl (.yes rfl rfl hc67) rfl rfl (b_eql _ _) rfl) <|
                .cons (o_pickT rfl rfl .no rfl hc67 rfl) <|
                .cons (o_mv rfl rfl .no rfl) <|
                .cons (o_mv rfl rfl (.yes rfl rfl hc70) rfl) <|
                .cons (o_mv rfl rfl (.yes rfl rfl hc70) rfl) <|
                .cons (o_call rfl rfl (.yes rfl rfl hc70) Try.func17 rfl rfl (ref09_Same_ok hx74) (.cons rfl .d (.cons rfl .d .nil)) ⟨trivial, trivial, trivial⟩ (.inl rfl)) <|
                .cons (o_pickT rfl rfl .no rfl hc70 rfl) <|
                .cons (o_mv rfl rfl .no rfl) <|
                .cons (o_noT rfl rfl rfl rfl hc76) <|
                .cons (o_noT rfl rfl rfl rfl hc76) <|
                .cons (o_noT rfl rfl rfl rfl hc76) <|
                .cons (o_noT rfl rfl rfl rfl hc76) <|
                .cons (o_pickF rfl rfl .no rfl hc76 rfl) <|
                .cons (o_as rfl rfl .no rfl) <|
                .nil rfl
              ) ?_
              exact ⟨false, (Option.some.inj h78).symm, .w (weak_of ⟨⟨_, rfl, .d rfl⟩, trivial⟩ trivial drop0)⟩
          · skip
            refine cw_region (
              .cons (o_mv rfl rfl .no rfl) <|
              .cons (o_bin rfl rfl .no rfl rfl (b_eql _ _) rfl) <|
              .cons (o_mv rfl rfl .no rfl) <|
              .cons (o_mv rfl rfl (.yes rfl rfl hc67) rfl) <|
              .cons (o_bin rfl rfl (.yes rfl rfl hc67) rfl rfl (b_eql _ _) rfl) <|
              .cons (o_pickT rfl rfl .no rfl hc67 rfl) <|
              .cons (o_mv rfl rfl .no rfl) <|
              .cons (o_noT rfl rfl rfl rfl hc70) <|
              .cons (o_noT rfl rfl rfl rfl hc70) <|
              .cons (o_noT rfl rfl rfl rfl hc70) <|
              .cons (o_pickF rfl rfl .no rfl hc70 rfl) <|
              .cons (o_mv rfl rfl .no rfl) <|
              .cons (o_noT rfl rfl rfl rfl rfl) <|
              .cons (o_noT rfl rfl rfl rfl rfl) <|
              .cons (o_noT rfl rfl rfl rfl rfl) <|
              .cons (o_noT rfl rfl rfl rfl rfl) <|
              .cons (o_pickF rfl rfl .no rfl rfl rfl) <|
              .cons (o_as rfl rfl .no rfl) <|
              .nil rfl
            ) ?_
            exact ⟨false, (Option.some.inj h72).symm, .w (weak_of ⟨⟨_, rfl, .d rfl⟩, trivial⟩ trivial drop0)⟩
        · skip
          refine cw_region (
            .cons (o_mv rfl rfl .no rfl) <|
            .cons (o_bin rfl rfl .no rfl rfl (b_eql _ _) rfl) <|
            .cons (o_mv rfl rfl .no rfl) <|
            .cons (o_noT rfl rfl rfl rfl hc67) <|
            .cons (o_noT rfl rfl rfl rfl hc67) <|
            .cons (o_pickF rfl rfl .no rfl hc67 rfl) <|
            .cons (o_mv rfl rfl .no rfl) <|
            .cons (o_noT rfl rfl rfl rfl rfl) <|
            .cons (o_noT rfl rfl rfl rfl rfl) <|
            .cons (o_noT rfl rfl rfl rfl rfl) <|
            .cons (o_pickF rfl rfl .no rfl rfl rfl) <|
            .cons (o_mv rfl rfl .no rfl) <|
            .cons (o_noT rfl rfl rfl rfl rfl) <|
            .cons (o_noT rfl rfl rfl rfl rfl) <|
            .cons (o_noT rfl rfl rfl rfl rfl) <|
            .cons (o_noT rfl rfl rfl rfl rfl) <|
            .cons (o_pickF rfl rfl .no rfl rfl rfl) <|
            .cons (o_as rfl rfl .no rfl) <|
            .nil rfl
          ) ?_
          exact ⟨false, (Option.some.inj h69).symm, .w (weak_of ⟨⟨_, rfl, .d rfl⟩, trivial⟩ trivial drop0)⟩
  · skip
    rcases cond_some hj17 with ⟨hc19, h20⟩ | ⟨hc19, h21⟩
    · skip
      refine cw_region (
        .cons (o_mv rfl rfl .no rfl) <|
        .cons (o_not rfl rfl .no rfl) <|
        .cons (o_mv rfl rfl .no rfl) <|
        .cons (o_noT rfl rfl rfl rfl hc19) <|
        .cons (o_noT rfl rfl rfl rfl hc19) <|
        .cons (o_pickT rfl rfl .no rfl hc19 rfl) <|
        .cons (o_mv rfl rfl .no rfl) <|
        .cons (o_noT rfl rfl rfl rfl rfl) <|
        .cons (o_noT rfl rfl rfl rfl rfl) <|
        .cons (o_pickT rfl rfl .no rfl rfl rfl) <|
        .nil rfl
      ) ?_
      exact ⟨true, (Option.some.inj h20).symm, .w (weak_of ⟨⟨_, rfl, .d rfl⟩, ⟨_, rfl, .d rfl⟩, ⟨_, rfl, .ptro rfl rfl⟩, ⟨_, rfl, .ptro rfl rfl⟩, ⟨_, rfl, .d rfl⟩, trivial⟩ ⟨.own rfl (.of_eq rfl (oviewView_dat _)), .own rfl (.of_eq rfl (oviewView_dat _)), trivial⟩ drop0)⟩
    · skip
      refine cw_region (
        .cons (o_mv rfl rfl .no rfl) <|
        .cons (o_not rfl rfl .no rfl) <|
        .cons (o_mv rfl rfl .no rfl) <|
        .cons (o_mv rfl rfl (.yes rfl rfl hc19) rfl) <|
        .cons (o_pnilP rfl rfl (.yes rfl rfl hc19) rfl up28) <|
        .cons (o_pickF rfl rfl .no rfl hc19 rfl) <|
        .cons (o_mv rfl rfl .no rfl) <|
        .cons (o_mv rfl rfl (.yes rfl rfl rfl) rfl) <|
        .cons (o_pnilP rfl rfl (.yes rfl rfl rfl) rfl up28) <|
        .cons (o_pickF rfl rfl .no rfl rfl rfl) <|
        .nil rfl
      ) ?_
      exact ⟨false, (Option.some.inj h21).symm, .w (weak_of ⟨⟨_, rfl, .d rfl⟩, ⟨_, rfl, .d rfl⟩, ⟨_, rfl, .ptro rfl rfl⟩, ⟨_, rfl, .ptro rfl rfl⟩, ⟨_, rfl, .d rfl⟩, trivial⟩ ⟨.own rfl (.of_eq rfl (oviewView_dat _)), .own rfl (.of_eq rfl (oviewView_dat _)), trivial⟩ drop0)⟩

end
end Go.Val

