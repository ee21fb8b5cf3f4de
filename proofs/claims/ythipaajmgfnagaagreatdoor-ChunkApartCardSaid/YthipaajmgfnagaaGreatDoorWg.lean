/- Walks of the program's functions, printed. -/
import Derived.Test.YthipaajmgfnagaaGreatDoorWf
import Derived.Test.YthipaajmgfnagaaGreatDoorHe2
set_option linter.unusedSectionVars false
set_option linter.unusedVariables false
set_option linter.unusedSimpArgs false
namespace Go.Val
open Go.RowKit Go.Proofs

section
variable [NoDrw]

noncomputable def view_Plain_Scan (a0 : (List ((List UInt8) × ByteArray))) (a1 : ((List UInt8) × (List UInt8) × Bool)) : Option ((List ((List UInt8) × ByteArray)) × Int) :=
 (view_place a0 a1.1).bind fun x1 =>
 (((
  cond (!a1.2.2) (
   (view_place a0 a1.2.1).bind fun x16 =>
   some x16.1
  ) (
   some (a0.length : Int)
  )
 ) : Option Int)).bind fun o10 =>
 (cutB x1.1 (max x1.1 o10) a0.length).bind fun _ =>
 (slices_Clone203 (piece a0 x1.1 (max x1.1 o10))).bind fun x22 =>
 some (x22, 0)

noncomputable def view_NewPlain (a0 : List ((List UInt8) × ByteArray)) : Option (List ((List UInt8) × ByteArray)) :=
 (delta_Map a0).bind fun x1 =>
 some x1

noncomputable def view_NewPlain_a (a0 : List ((List UInt8) × ByteArray)) : Option ((List ((List UInt8) × ByteArray)) × (List ((List UInt8) × ByteArray))) :=
 (delta_Map_a a0).bind fun x1 =>
 some (x1.1, x1.2)

noncomputable def view_View_Reads (a0 : VwT) : Option ((List ((List UInt8) × (List UInt8) × Bool)) × VwT) :=
 (slices_Clone55 a0.2.2.1).bind fun x1 =>
 some (x1, (a0.1, a0.2.1, a0.2.2.1, a0.2.2.2))

noncomputable def view_View_Get (a0 : VwT) (a1 : List UInt8) : Option (ByteArray × Bool × Int × VwT) :=
 cond ((mget a0.2.1 a1).isSome) (
  some (((mget a0.2.1 a1).getD ((List.replicate 24 0), (ByteArray.mk #[]), false)).2.1, (!((mget a0.2.1 a1).getD ((List.replicate 24 0), (ByteArray.mk #[]), false)).2.2), 0, (a0.1, a0.2.1, a0.2.2.1, a0.2.2.2))
 ) (
  (key_One a1).bind fun x7 =>
  (view_View_read (a0.1, a0.2.1, a0.2.2.1, a0.2.2.2) x7).bind fun x10 =>
  (view_Plain_Get x10.1 a1).bind fun x13 =>
  cond (decide (x13.2.2 ≠ 0)) (
   some ((ByteArray.mk #[]), false, x13.2.2, (x10.1, x10.2.1, x10.2.2.1, x10.2.2.2))
  ) (
   some (x13.1, x13.2.1, 0, (x10.1, x10.2.1, x10.2.2.1, x10.2.2.2))
  )
 )

noncomputable def view_View_Changes (a0 : VwT) : Option ((List ((List UInt8) × ByteArray × Bool)) × VwT) :=
 (fits a0.2.1.length 48).bind fun _ =>
 forOrd a0.2.1 (fun x4 => (
 (delta_Join ([(x4.map fun p => p.2)])).bind fun x8 =>
 some (x8, (a0.1, a0.2.1, a0.2.2.1, a0.2.2.2))
 ))

noncomputable def view_View_Scan (a0 : VwT) (a1 : ((List UInt8) × (List UInt8) × Bool)) : Option ((List ((List UInt8) × ByteArray)) × Int × VwT) :=
 (view_View_read a0 a1).bind fun x1 =>
 (view_Plain_Scan x1.1 a1).bind fun x4 =>
 cond (decide (x4.2 ≠ 0)) (
  some ([], x4.2, (x1.1, x1.2.1, x1.2.2.1, x1.2.2.2))
 ) (
  forOrd x1.2.1 (fun x34 => (List.foldlM (m := Option) (fun (v32 : (List ((List UInt8) × ByteArray × Bool))) (x33 : ((List UInt8) × ((List UInt8) × ByteArray × Bool))) => ((
   (key_In a1 x33.1).bind fun x43 =>
   cond x43 (
    (fits (v32.length + ([x33.2]).length) 48).bind fun _ =>
    some (v32 ++ [x33.2])
   ) (
    some v32
   )
  ) : Option (List ((List UInt8) × ByteArray × Bool)))) ([]) x34).bind fun (v39 : (List ((List UInt8) × ByteArray × Bool))) =>
   (delta_Apply x4.1 v39).bind fun x52 =>
   some (x52, 0, (x1.1, x1.2.1, x1.2.2.1, x1.2.2.2))
  )
 )

noncomputable def view_New (a0 : (List ((List UInt8) × ByteArray))) : Option VwT :=
 (((
  some ()
 ) : Option Unit)).bind fun o1 =>
 some (a0, [], [], [])

noncomputable def view_New_n : Option VwT :=
 (((
  (view_NewPlain ([])).bind fun x7 =>
  some x7
 ) : Option (List ((List UInt8) × ByteArray)))).bind fun o4 =>
 some (o4, [], [], [])

set_option maxRecDepth 100000 in
theorem view_Plain_Scan_ok {a0 : (List ((List UInt8) × ByteArray))} {a1 : ((List UInt8) × (List UInt8) × Bool)} {r : ((List ((List UInt8) × ByteArray)) × Int)} (h : view_Plain_Scan a0 a1 = some r) : FnOk Tryz.prog 201 [.d (ePviewPlain a0), .d (eapiSpan a1)] 0 (lk []) (fun rr oo => rr = .tup [.d (eSapiPair r.1), .d (eapiErrno r.2)] ∧ oo = lk []) := by
  refine fnOk_of Tryz.func201 rfl rfl (cw_post ?_)
  unfold view_Plain_Scan at h
  refine cw_seq (cw_region (
    .cons (o_box 0 rfl rfl .no rfl rfl rfl) <|
    .cons (o_as rfl rfl .no rfl) <|
    .cons (o_as rfl rfl .no rfl) <|
    .nil rfl
  ) ?_)
  obtain ⟨x1, hx2, h3⟩ := bind_some (x := view_place a0 a1.1) h
  refine cw_seq (cw_region_any mixed (by kernel_rfl) (
    .cons (o_mv rfl rfl .no rfl) <|
    .cons (o_nilA rfl rfl .no rfl) <|
    .cons (o_fld rfl rfl .no rfl fld113_0 (by decide) rfl rfl) <|
    .cons (o_ld rfl rfl .no rfl ta35 rfl rfl) <|
    .cons (o_fldP rfl rfl .no rfl fld41_0 (by decide)) <|
    .cons (o_ldP [0] rfl rfl .no rfl rfl rfl ta39 rfl rfl) <|
    .cons (o_call rfl rfl .no Tryz.func202 rfl rfl (view_place_ok hx2) (.cons rfl .d (.cons rfl .d .nil)) ⟨trivial, trivial, trivial⟩ (.inl rfl)) <|
    .cons (o_mv rfl rfl .no rfl) <|
    .cons (o_ext rfl rfl .no rfl rfl) <|
    .cons (o_ext rfl rfl .no rfl rfl) <|
    .cons (o_as rfl rfl .no rfl) <|
    .cons (o_as rfl rfl .no rfl) <|
    .nil rfl
  ) (by kernel_rfl) ?_)
  refine cw_seq (cw_region (
    .cons (o_mv rfl rfl .no rfl) <|
    .cons (o_nilA rfl rfl .no rfl) <|
    .cons (o_fld rfl rfl .no rfl fld113_0 (by decide) rfl rfl) <|
    .cons (o_ld rfl rfl .no rfl ta35 rfl rfl) <|
    .cons (o_lenM (enc := eapiPair) (xs := a0) rfl rfl .no rfl sl35) <|
    .cons (o_as rfl rfl .no rfl) <|
    .nil rfl
  ) ?_)
  obtain ⟨o10, hj11, h12⟩ := bind_some h3
  refine cw_join (fun (z : Int) => St.of [(0, .d (.at (eviewPlain a0))), (6, .d (eint x1.1)), (8, .d (eint z))] []) (fun (z : Int) => o10 = z) ?_ ?_
  · intro v25 hv26; subst hv26
    obtain ⟨x19, hx20, h21⟩ := bind_some h12
    have hx20g := cutB_some hx20
    obtain ⟨x22, hx23, h24⟩ := bind_some (x := slices_Clone203 (piece a0 x1.1 (max x1.1 o10))) h21
    refine cw_seq (cw_region (
      .cons (o_mv rfl rfl .no rfl) <|
      .cons (o_nilA rfl rfl .no rfl) <|
      .cons (o_fld rfl rfl .no rfl fld113_0 (by decide) rfl rfl) <|
      .cons (o_ld rfl rfl .no rfl ta35 rfl rfl) <|
      .cons (o_mv rfl rfl .no rfl) <|
      .cons (o_mv rfl rfl .no rfl) <|
      .cons (o_mv rfl rfl .no rfl) <|
      .cons (o_max rfl rfl .no rfl rfl) <|
      .cons (o_slM (enc := eapiPair) (xs := a0) rfl rfl .no rfl sl35 sz47 (.val rfl hx20g.1) (.val rfl hx20g.2.1) hx20g.2.2.1 hx20g.2.2.2) <|
      .cons (o_callO 1 rfl rfl .no Tryz.func203 rfl rfl (slices_Clone203_ok hx23) (.cons rfl .d .nil) ⟨trivial, trivial⟩ rfl (.inl rfl)) <|
      .cons (o_as rfl rfl .no rfl) <|
      .cons (o_as rfl rfl .no rfl) <|
      .nil rfl
    ) ?_)
    have heq := ((Option.some.inj h24).symm).symm
    subst heq
    exact cw_ret ⟨_, (show Leads _ _ (St.of [(4, .d (eSapiPair x22)), (5, .d (eapiErrno 0))] []) from .w (weak_of ⟨⟨_, rfl, .frz rfl rfl rfl⟩, ⟨_, rfl, .d rfl⟩, trivial⟩ trivial drop0)), .inr rfl, _, res2 rfl rfl rfl, rfl, rfl⟩
  · skip
    refine cw_seq (cw_region (
      .cons (o_fldP rfl rfl .no rfl fld41_2 (by decide)) <|
      .cons (o_ldP [2] rfl rfl .no rfl rfl rfl ta4 rfl rfl) <|
      .cons (o_not rfl rfl .no rfl) <|
      .nil rfl
    ) ?_)
    rcases cond_some hj11 with ⟨hc13, h14⟩ | ⟨hc13, h15⟩
    · refine cw_condT rfl hc13 ?_
      obtain ⟨x16, hx17, h18⟩ := bind_some (x := view_place a0 a1.2.1) h14
      refine cw_region_any mixed (by kernel_rfl) (
        .cons (o_mv rfl rfl .no rfl) <|
        .cons (o_nilA rfl rfl .no rfl) <|
        .cons (o_fld rfl rfl .no rfl fld113_0 (by decide) rfl rfl) <|
        .cons (o_ld rfl rfl .no rfl ta35 rfl rfl) <|
        .cons (o_fldP rfl rfl .no rfl fld41_1 (by decide)) <|
        .cons (o_ldP [1] rfl rfl .no rfl rfl rfl ta39 rfl rfl) <|
        .cons (o_call rfl rfl .no Tryz.func202 rfl rfl (view_place_ok hx17) (.cons rfl .d (.cons rfl .d .nil)) ⟨trivial, trivial, trivial⟩ (.inl rfl)) <|
        .cons (o_mv rfl rfl .no rfl) <|
        .cons (o_ext rfl rfl .no rfl rfl) <|
        .cons (o_ext rfl rfl .no rfl rfl) <|
        .cons (o_as rfl rfl .no rfl) <|
        .nil rfl
      ) (by kernel_rfl) ?_
      exact ⟨x16.1, (Option.some.inj h18).symm, .w (weak_of ⟨⟨_, rfl, .d rfl⟩, ⟨_, rfl, .d rfl⟩, ⟨_, rfl, .d rfl⟩, trivial⟩ trivial drop0)⟩
    · refine cw_condF rfl hc13 ?_
      refine cw_skip ?_
      exact ⟨(a0.length : Int), (Option.some.inj h15).symm, .w (weak_of ⟨⟨_, rfl, .d rfl⟩, ⟨_, rfl, .d rfl⟩, ⟨_, rfl, .d rfl⟩, trivial⟩ trivial drop0)⟩

set_option maxRecDepth 100000 in
theorem view_NewPlain_ok {a0 : List ((List UInt8) × ByteArray)} {r : (List ((List UInt8) × ByteArray))} (h : view_NewPlain a0 = some r) : FnOk Tryz.prog 27 [.d (eSapiPair a0)] 0 (lk []) (fun rr oo => rr = .d (ePviewPlain r) ∧ oo = lk []) := by
  refine fnOk_of Tryz.func27 rfl rfl (cw_post ?_)
  unfold view_NewPlain at h
  refine cw_seq (cw_region (
    .cons (o_as rfl rfl .no rfl) <|
    .nil rfl
  ) ?_)
  obtain ⟨x1, hx2, h3⟩ := bind_some (x := delta_Map a0) h
  refine cw_seq (cw_region (
    .cons (o_mv rfl rfl .no rfl) <|
    .cons (o_call rfl rfl .no Tryz.func60 rfl rfl (delta_Map_ok hx2) (.cons rfl .d .nil) ⟨trivial, trivial⟩ (.inl rfl)) <|
    .cons (o_bld (ds := [eSapiPair x1]) rfl rfl .no zs113 rfl pl113 (.cons rfl rfl rfl rfl rfl rfl rfl .nil)) <|
    .cons (o_box 0 rfl rfl .no rfl rfl rfl) <|
    .cons (o_as rfl rfl .no rfl) <|
    .nil rfl
  ) ?_)
  have heq := ((Option.some.inj h3).symm).symm
  subst heq
  exact cw_ret ⟨_, (show Leads _ _ (St.of [(2, .d (.at (eviewPlain x1)))] []) from .w (weak_of ⟨⟨_, rfl, .pin rfl rfl⟩, trivial⟩ trivial drop0)), .inr rfl, _, res1 rfl rfl, rfl, rfl⟩

set_option maxRecDepth 100000 in
theorem view_NewPlain_a_ok {a0 : List ((List UInt8) × ByteArray)} {r : ((List ((List UInt8) × ByteArray)) × (List ((List UInt8) × ByteArray)))} (h : view_NewPlain_a a0 = some r) (u0 : Nat) : FnOk Tryz.prog 27 [.arr 0 u0] 1 (lk [(0, .arr u0 25 (List.map eapiPair a0))]) (fun rr oo => rr = .d (ePviewPlain r.1) ∧ oo = lk [(0, .arr u0 25 (r.2.map eapiPair))]) := by
  refine fnOk_of Tryz.func27 rfl rfl (cw_post ?_)
  unfold view_NewPlain_a at h
  refine cw_seq (cw_region (
    .cons (o_as rfl rfl .no rfl) <|
    .nil rfl
  ) ?_)
  obtain ⟨x1, hx2, h3⟩ := bind_some (x := delta_Map_a a0) h
  refine cw_seq (cw_region (
    .cons (o_mv rfl rfl .no rfl) <|
    .cons (o_callX (fun _ => 0) rfl rfl .no Tryz.func60 rfl rfl (delta_Map_a_ok hx2 u0) (.cons rfl (.a rfl) .nil) (callIn1 rfl ⟨(by simp [AV.live, lk, Nat.beq]), trivial⟩ rfl trivial (by simp)) (.inl rfl)) <|
    .cons (o_bld (ds := [eSapiPair x1.1]) rfl rfl .no zs113 rfl pl113 (.cons rfl rfl rfl rfl rfl rfl rfl .nil)) <|
    .cons (o_box 1 rfl rfl .no rfl rfl rfl) <|
    .cons (o_as rfl rfl .no rfl) <|
    .nil rfl
  ) ?_)
  have heq := ((Option.some.inj h3).symm).symm
  subst heq
  exact cw_ret ⟨_, (show Leads _ _ (St.of [(2, .d (.at (eviewPlain x1.1)))] [(0, .arr u0 25 (x1.2.map eapiPair))]) from .w (weak_of ⟨⟨_, rfl, .pin rfl rfl⟩, trivial⟩ ⟨.arr rfl rfl, trivial⟩ (dropK rfl))), .inr rfl, _, res1 rfl rfl, rfl, rfl⟩

set_option maxRecDepth 100000 in
theorem view_View_Reads_ok {a0 : VwT} {r : ((List ((List UInt8) × (List UInt8) × Bool)) × VwT)} (h : view_View_Reads a0 = some r) : FnOk Tryz.prog 24 [.ptr 0 0] 1 (lk [(0, .own (oviewView a0))]) (fun rr oo => rr = .arr 1 0 ∧ oo = lk [(0, .own (oviewView r.2)), (1, .arr 0 49 (r.1.map eapiSpan))]) := by
  refine fnOk_of Tryz.func24 rfl rfl (cw_post ?_)
  unfold view_View_Reads at h
  refine cw_seq (cw_region (
    .cons (o_as rfl rfl .no rfl) <|
    .nil rfl
  ) ?_)
  refine cw_leads (leads_open (o := 0) (y := .st [.ifc 71 (.d (.at (eviewPlain a0.1))), .map 4, .arr 2 0, .arr 3 0]) (news := [(4, .map 0 (mD eapiKey eapiChange a0.2.1)), (2, .arr 0 49 (a0.2.2.1.map eapiSpan)), (3, .arr 0 1 (a0.2.2.2.map eMapiKeyapiChange))]) rfl (.st (.cons (.av rfl) (.cons (.map rfl) (.cons (.arr rfl) (.cons (.arr rfl) .nil))))) rfl rfl ⟨rfl, rfl, rfl, trivial⟩) ?_
  refine cw_weak (weak_of (l := [(0, .ptr 0 0)]) (m := [(0, .box (.st [.ifc 71 (.d (.at (eviewPlain a0.1))), .map 4, .arr 2 0, .arr 3 0])), (2, .arr 0 49 (a0.2.2.1.map eapiSpan)), (3, .arr 0 1 (a0.2.2.2.map eMapiKeyapiChange)), (4, .map 0 (mD eapiKey eapiChange a0.2.1))]) ⟨⟨_, rfl, .ptr rfl rfl⟩, trivial⟩ ⟨.box rfl (.st (.cons (.ifc (.d rfl)) (.cons (.map rfl rfl) (.cons (.arr rfl rfl) (.cons (.arr rfl rfl) .nil))))), .arr rfl rfl, .arr rfl rfl, .map rfl rfl, trivial⟩ (dropK rfl)) ?_
  obtain ⟨x1, hx2, h3⟩ := bind_some (x := slices_Clone55 a0.2.2.1) h
  refine cw_seq (cw_region (
    .cons (o_mv rfl rfl .no rfl) <|
    .cons (o_nilP rfl rfl .no rfl) <|
    .cons (o_fldP rfl rfl .no rfl fld76_2 (by decide)) <|
    .cons (o_ldP [2] rfl rfl .no rfl rfl rfl ta59 rfl rfl) <|
    .cons (o_callO 1 rfl rfl .no Tryz.func55 rfl rfl (slices_Clone55_ok hx2) (.cons rfl (.arrM rfl) .nil) ⟨trivial, trivial⟩ rfl (.inr ⟨trivial, (flat_rows fun _ => (flapiSpan _))⟩)) <|
    .cons (o_as rfl rfl .no rfl) <|
    .nil rfl
  ) ?_)
  have heq := ((Option.some.inj h3).symm).symm
  subst heq
  exact cw_ret ⟨_, (show Leads _ _ (St.of [(2, .arr 1 0)] [(0, .own (oviewView (a0.1, a0.2.1, a0.2.2.1, a0.2.2.2))), (1, .arr 0 49 (x1.map eapiSpan))]) from .trans (leads_pack (o := 0) (y := .st [.ifc 71 (.d (.at (eviewPlain a0.1))), .map 4, .arr 2 0, .arr 3 0]) (x := oviewView (a0.1, a0.2.1, a0.2.2.1, a0.2.2.2)) (l := [(2, .arr 1 0)]) (m := [(0, .own (oviewView (a0.1, a0.2.1, a0.2.2.1, a0.2.2.2))), (1, .arr 0 49 (x1.map eapiSpan))]) rfl (.st (.cons (.av rfl) (.cons (.map rfl) (.cons (.arr rfl) (.cons (.arr rfl) .nil))))) rfl rfl ⟨⟨rfl, (by simp [AV.live, AV.lives, lk, Nat.beq])⟩, trivial⟩ ⟨.inl rfl, (.inr ⟨rfl, trivial⟩), trivial⟩ rfl (OD.dat_live (oviewView_dat _)) ⟨rfl, rfl, rfl, trivial⟩ (dropK rfl)) (.w (weak_of ⟨⟨_, rfl, .arr rfl rfl⟩, trivial⟩ ⟨.own rfl (.of_eq rfl (oviewView_dat _)), .arr rfl rfl, trivial⟩ (dropK rfl)))), .inr rfl, _, res1 rfl rfl, rfl, rfl⟩

set_option maxRecDepth 100000 in
theorem view_View_Get_ok {a0 : VwT} {a1 : List UInt8} {r : (ByteArray × Bool × Int × VwT)} (h : view_View_Get a0 a1 = some r) : FnOk Tryz.prog 33 [.ptr 0 0, .d (eapiKey a1)] 1 (lk [(0, .own (oviewView a0))]) (fun rr oo => rr = .tup [.d (estring r.1), .d (ebool r.2.1), .d (eapiErrno r.2.2.1)] ∧ oo = lk [(0, .own (oviewView r.2.2.2))]) := by
  refine fnOk_of Tryz.func33 rfl rfl (cw_post ?_)
  unfold view_View_Get at h
  refine cw_seq (cw_region (
    .cons (o_box 1 rfl rfl .no rfl rfl rfl) <|
    .cons (o_as rfl rfl .no rfl) <|
    .cons (o_as rfl rfl .no rfl) <|
    .cons (o_as rfl rfl .no rfl) <|
    .nil rfl
  ) ?_)
  refine cw_seq ?_
  refine cw_leads (leads_open (o := 0) (y := .st [.ifc 71 (.d (.at (eviewPlain a0.1))), .map 2, .arr 3 0, .arr 4 0]) (news := [(2, .map 0 (mD eapiKey eapiChange a0.2.1)), (3, .arr 0 49 (a0.2.2.1.map eapiSpan)), (4, .arr 0 1 (a0.2.2.2.map eMapiKeyapiChange))]) rfl (.st (.cons (.av rfl) (.cons (.map rfl) (.cons (.arr rfl) (.cons (.arr rfl) .nil))))) rfl rfl ⟨rfl, rfl, rfl, trivial⟩) ?_
  refine cw_weak (weak_of (l := [(0, .ptr 0 0), (3, .ptr 1 0)]) (m := [(0, .box (.st [.ifc 71 (.d (.at (eviewPlain a0.1))), .map 2, .arr 3 0, .arr 4 0])), (1, .box (.d (eapiKey a1))), (2, .map 0 (mD eapiKey eapiChange a0.2.1)), (3, .arr 0 49 (a0.2.2.1.map eapiSpan)), (4, .arr 0 1 (a0.2.2.2.map eMapiKeyapiChange))]) ⟨⟨_, rfl, .ptr rfl rfl⟩, ⟨_, rfl, .ptr rfl rfl⟩, trivial⟩ ⟨.box rfl (.st (.cons (.ifc (.d rfl)) (.cons (.map rfl rfl) (.cons (.arr rfl rfl) (.cons (.arr rfl rfl) .nil))))), .box rfl (.d rfl), .map rfl rfl, .arr rfl rfl, .arr rfl rfl, trivial⟩ (dropK rfl)) ?_
  refine cw_seq (cw_region_any mixed (by kernel_rfl) (
    .cons (o_mv rfl rfl .no rfl) <|
    .cons (o_nilP rfl rfl .no rfl) <|
    .cons (o_fldP rfl rfl .no rfl fld76_1 (by decide)) <|
    .cons (o_ldP [1] rfl rfl .no rfl rfl rfl ta73 rfl rfl) <|
    .cons (o_ldP [] rfl rfl .no rfl rfl rfl ta39 rfl rfl) <|
    .cons (o_mapget (ek := eapiKey) (ev := eapiChange) (m := a0.2.1) a1 ((List.replicate 24 0), (ByteArray.mk #[]), false) rfl rfl .no rfl rfl rfl mp73 kl39 ze88 rfl rfl) <|
    .cons (o_mv rfl rfl .no rfl) <|
    .cons (o_ext rfl rfl .no rfl rfl) <|
    .cons (o_ext rfl rfl .no rfl rfl) <|
    .cons (o_alloc 5 rfl rfl .no ze88 rfl) <|
    .cons (o_st [] rfl .no rfl rfl rfl rfl rfl sz88 rfl rfl) <|
    .cons (o_as rfl rfl .no rfl) <|
    .nil rfl
  ) (by kernel_rfl) ?_)
  refine cw_seq (cw_region (
    .cons (o_mv rfl rfl .no rfl) <|
    .nil rfl
  ) ?_)
  rcases cond_some h with ⟨hc1, h2⟩ | ⟨hc1, h3⟩
  · refine cw_condT rfl hc1 ?_
    refine cw_seq (cw_region_any mixed (by kernel_rfl) (
      .cons (o_fldP rfl rfl .no rfl fld88_1 (by decide)) <|
      .cons (o_ldP [1] rfl rfl .no rfl rfl rfl ta9 rfl rfl) <|
      .cons (o_fldP rfl rfl .no rfl fld88_2 (by decide)) <|
      .cons (o_ldP [2] rfl rfl .no rfl rfl rfl ta4 rfl rfl) <|
      .cons (o_not rfl rfl .no rfl) <|
      .cons (o_as rfl rfl .no rfl) <|
      .cons (o_as rfl rfl .no rfl) <|
      .cons (o_as rfl rfl .no rfl) <|
      .nil rfl
    ) (by kernel_rfl) ?_)
    have heq := ((Option.some.inj h2).symm).symm
    subst heq
    exact cw_ret ⟨_, (show Leads _ _ (St.of [(4, .d (estring ((mget a0.2.1 a1).getD ((List.replicate 24 0), (ByteArray.mk #[]), false)).2.1)), (5, .d (ebool (!((mget a0.2.1 a1).getD ((List.replicate 24 0), (ByteArray.mk #[]), false)).2.2))), (6, .d (eapiErrno 0))] [(0, .own (oviewView (a0.1, a0.2.1, a0.2.2.1, a0.2.2.2)))]) from .trans (leads_pack (o := 0) (y := .st [.ifc 71 (.d (.at (eviewPlain a0.1))), .map 2, .arr 3 0, .arr 4 0]) (x := oviewView (a0.1, a0.2.1, a0.2.2.1, a0.2.2.2)) (l := [(4, .d (estring ((mget a0.2.1 a1).getD ((List.replicate 24 0), (ByteArray.mk #[]), false)).2.1)), (5, .d (ebool (!((mget a0.2.1 a1).getD ((List.replicate 24 0), (ByteArray.mk #[]), false)).2.2))), (6, .d (eint 0))]) (m := [(0, .own (oviewView (a0.1, a0.2.1, a0.2.2.1, a0.2.2.2)))]) rfl (.st (.cons (.av rfl) (.cons (.map rfl) (.cons (.arr rfl) (.cons (.arr rfl) .nil))))) rfl rfl ⟨⟨rfl, trivial⟩, ⟨rfl, trivial⟩, ⟨rfl, trivial⟩, trivial⟩ ⟨.inl rfl, trivial⟩ rfl (OD.dat_live (oviewView_dat _)) ⟨rfl, rfl, rfl, trivial⟩ (dropK rfl)) (.w (weak_of ⟨⟨_, rfl, .d rfl⟩, ⟨_, rfl, .d rfl⟩, ⟨_, rfl, .d rfl⟩, trivial⟩ ⟨.own rfl (.of_eq rfl (oviewView_dat _)), trivial⟩ (dropK rfl)))), .inr rfl, _, res3 rfl rfl rfl rfl, rfl, rfl⟩
  · refine cw_condF rfl hc1 ?_
    refine cw_skip ?_
    refine cw_leads (leads_pack (o := 0) (y := .st [.ifc 71 (.d (.at (eviewPlain a0.1))), .map 2, .arr 3 0, .arr 4 0]) (x := oviewView (a0.1, a0.2.1, a0.2.2.1, a0.2.2.2)) (l := [(0, .ptr 0 0), (3, .ptr 1 0)]) (m := [(0, .own (oviewView (a0.1, a0.2.1, a0.2.2.1, a0.2.2.2))), (1, .box (.d (eapiKey a1)))]) rfl (.st (.cons (.av rfl) (.cons (.map rfl) (.cons (.arr rfl) (.cons (.arr rfl) .nil))))) rfl rfl ⟨⟨rfl, (by simp [AV.live, AV.lives, lk, Nat.beq])⟩, ⟨rfl, (by simp [AV.live, AV.lives, lk, Nat.beq])⟩, trivial⟩ ⟨.inl rfl, (.inr ⟨rfl, trivial⟩), trivial⟩ rfl (OD.dat_live (oviewView_dat _)) ⟨rfl, rfl, rfl, trivial⟩ (dropK rfl)) ?_
    obtain ⟨x7, hx8, h9⟩ := bind_some (x := key_One a1) h3
    obtain ⟨x10, hx11, h12⟩ := bind_some (x := view_View_read (a0.1, a0.2.1, a0.2.2.1, a0.2.2.2) x7) h9
    refine cw_seq (cw_region (
      .cons (o_mv rfl rfl .no rfl) <|
      .cons (o_ldP [] rfl rfl .no rfl rfl rfl ta39 rfl rfl) <|
      .cons (o_call rfl rfl .no Tryz.func65 rfl rfl (key_One_ok hx8) (.cons rfl .d .nil) ⟨trivial, trivial⟩ (.inl rfl)) <|
      .cons (o_callX (fun _ => 0) rfl rfl .no Tryz.func35 rfl rfl (view_View_read_ok hx11) (.cons rfl (.p rfl) (.cons rfl .d .nil)) (callIn1 rfl ⟨(by simp [AV.live, lk, Nat.beq]), trivial, trivial⟩ rfl (OD.dat_live (oviewView_dat _)) (by simp)) (.inl rfl)) <|
      .nil rfl
    ) ?_)
    refine cw_leads (leads_open (o := 0) (y := .st [.ifc 71 (.d (.at (eviewPlain x10.1))), .map 6, .arr 7 0, .arr 8 0]) (news := [(6, .map 0 (mD eapiKey eapiChange x10.2.1)), (7, .arr 0 49 (x10.2.2.1.map eapiSpan)), (8, .arr 0 1 (x10.2.2.2.map eMapiKeyapiChange))]) rfl (.st (.cons (.av rfl) (.cons (.map rfl) (.cons (.arr rfl) (.cons (.arr rfl) .nil))))) rfl rfl ⟨rfl, rfl, rfl, trivial⟩) ?_
    refine cw_weak (weak_of (l := [(0, .ptr 0 0), (3, .ptr 1 0)]) (m := [(0, .box (.st [.ifc 71 (.d (.at (eviewPlain x10.1))), .map 6, .arr 7 0, .arr 8 0])), (1, .box (.d (eapiKey a1))), (6, .map 0 (mD eapiKey eapiChange x10.2.1)), (7, .arr 0 49 (x10.2.2.1.map eapiSpan)), (8, .arr 0 1 (x10.2.2.2.map eMapiKeyapiChange))]) ⟨⟨_, rfl, .ptr rfl rfl⟩, ⟨_, rfl, .ptr rfl rfl⟩, trivial⟩ ⟨.box rfl (.st (.cons (.ifc (.d rfl)) (.cons (.map rfl rfl) (.cons (.arr rfl rfl) (.cons (.arr rfl rfl) .nil))))), .box rfl (.d rfl), .map rfl rfl, .arr rfl rfl, .arr rfl rfl, trivial⟩ (dropK rfl)) ?_
    obtain ⟨x13, hx14, h15⟩ := bind_some (x := view_Plain_Get x10.1 a1) h12
    refine cw_seq (cw_region_any mixed (by kernel_rfl) (
      .cons (o_mv rfl rfl .no rfl) <|
      .cons (o_nilP rfl rfl .no rfl) <|
      .cons (o_fldP rfl rfl .no rfl fld76_0 (by decide)) <|
      .cons (o_ldP [0] rfl rfl .no rfl rfl rfl ta70 rfl rfl) <|
      .cons (o_ldP [] rfl rfl .no rfl rfl rfl ta39 rfl rfl) <|
      .cons (o_inv (fun o => o) rfl rfl .no rfl Tryz.func199 rfl rfl rfl hm71_Get (view_Plain_Get_ok hx14) (.cons rfl .d (.cons rfl .d .nil)) (by decide) (callIn0 ⟨trivial, trivial, trivial⟩) (.inl rfl)) <|
      .cons (o_mv rfl rfl .no rfl) <|
      .cons (o_ext rfl rfl .no rfl rfl) <|
      .cons (o_ext rfl rfl .no rfl rfl) <|
      .cons (o_ext rfl rfl .no rfl rfl) <|
      .cons (o_as rfl rfl .no rfl) <|
      .cons (o_as rfl rfl .no rfl) <|
      .cons (o_as rfl rfl .no rfl) <|
      .nil rfl
    ) (by kernel_rfl) ?_)
    refine cw_seq ?_
    refine cw_seq (cw_region (
      .cons (o_mv rfl rfl .no rfl) <|
      .cons (o_bin rfl rfl .no rfl rfl (b_neq _ _) rfl) <|
      .nil rfl
    ) ?_)
    rcases cond_some h15 with ⟨hc16, h17⟩ | ⟨hc16, h18⟩
    · refine cw_condT rfl hc16 ?_
      refine cw_seq (cw_region (
        .cons (o_mv rfl rfl .no rfl) <|
        .cons (o_as rfl rfl .no rfl) <|
        .cons (o_as rfl rfl .no rfl) <|
        .cons (o_as rfl rfl .no rfl) <|
        .nil rfl
      ) ?_)
      have heq := ((Option.some.inj h17).symm).symm
      subst heq
      exact cw_ret ⟨_, (show Leads _ _ (St.of [(4, .d (estring (ByteArray.mk #[]))), (5, .d (ebool false)), (6, .d (eapiErrno x13.2.2))] [(0, .own (oviewView (x10.1, x10.2.1, x10.2.2.1, x10.2.2.2)))]) from .trans (leads_pack (o := 0) (y := .st [.ifc 71 (.d (.at (eviewPlain x10.1))), .map 6, .arr 7 0, .arr 8 0]) (x := oviewView (x10.1, x10.2.1, x10.2.2.1, x10.2.2.2)) (l := [(4, .d (estring (ByteArray.mk #[]))), (5, .d (ebool false)), (6, .d (eapiErrno x13.2.2))]) (m := [(0, .own (oviewView (x10.1, x10.2.1, x10.2.2.1, x10.2.2.2)))]) rfl (.st (.cons (.av rfl) (.cons (.map rfl) (.cons (.arr rfl) (.cons (.arr rfl) .nil))))) rfl rfl ⟨⟨rfl, trivial⟩, ⟨rfl, trivial⟩, ⟨rfl, trivial⟩, trivial⟩ ⟨.inl rfl, trivial⟩ rfl (OD.dat_live (oviewView_dat _)) ⟨rfl, rfl, rfl, trivial⟩ (dropK rfl)) (.w (weak_of ⟨⟨_, rfl, .d rfl⟩, ⟨_, rfl, .d rfl⟩, ⟨_, rfl, .d rfl⟩, trivial⟩ ⟨.own rfl (.of_eq rfl (oviewView_dat _)), trivial⟩ (dropK rfl)))), .inr rfl, _, res3 rfl rfl rfl rfl, rfl, rfl⟩
    · refine cw_condF rfl hc16 ?_
      refine cw_skip ?_
      refine cw_seq (cw_region (
        .cons (o_mv rfl rfl .no rfl) <|
        .cons (o_mv rfl rfl .no rfl) <|
        .cons (o_as rfl rfl .no rfl) <|
        .cons (o_as rfl rfl .no rfl) <|
        .cons (o_as rfl rfl .no rfl) <|
        .nil rfl
      ) ?_)
      have heq := ((Option.some.inj h18).symm).symm
      subst heq
      exact cw_ret ⟨_, (show Leads _ _ (St.of [(4, .d (estring x13.1)), (5, .d (ebool x13.2.1)), (6, .d (eapiErrno 0))] [(0, .own (oviewView (x10.1, x10.2.1, x10.2.2.1, x10.2.2.2)))]) from .trans (leads_pack (o := 0) (y := .st [.ifc 71 (.d (.at (eviewPlain x10.1))), .map 6, .arr 7 0, .arr 8 0]) (x := oviewView (x10.1, x10.2.1, x10.2.2.1, x10.2.2.2)) (l := [(4, .d (estring x13.1)), (5, .d (ebool x13.2.1)), (6, .d (eint 0))]) (m := [(0, .own (oviewView (x10.1, x10.2.1, x10.2.2.1, x10.2.2.2)))]) rfl (.st (.cons (.av rfl) (.cons (.map rfl) (.cons (.arr rfl) (.cons (.arr rfl) .nil))))) rfl rfl ⟨⟨rfl, trivial⟩, ⟨rfl, trivial⟩, ⟨rfl, trivial⟩, trivial⟩ ⟨.inl rfl, trivial⟩ rfl (OD.dat_live (oviewView_dat _)) ⟨rfl, rfl, rfl, trivial⟩ (dropK rfl)) (.w (weak_of ⟨⟨_, rfl, .d rfl⟩, ⟨_, rfl, .d rfl⟩, ⟨_, rfl, .d rfl⟩, trivial⟩ ⟨.own rfl (.of_eq rfl (oviewView_dat _)), trivial⟩ (dropK rfl)))), .inr rfl, _, res3 rfl rfl rfl rfl, rfl, rfl⟩

set_option maxHeartbeats 4000000 in
set_option maxRecDepth 100000 in
theorem view_View_Changes_ok {a0 : VwT} {r : ((List ((List UInt8) × ByteArray × Bool)) × VwT)} (h : view_View_Changes a0 = some r) : FnOk Tryz.prog 17 [.ptr 0 0] 1 (lk [(0, .own (oviewView a0))]) (fun rr oo => rr = .arr 1 0 ∧ oo = lk [(0, .own (oviewView r.2)), (1, .arr 0 26 (r.1.map eapiChange))]) := by
  refine fnOk_of Tryz.func17 rfl rfl (cw_post ?_)
  unfold view_View_Changes at h
  refine cw_seq (cw_region (
    .cons (o_as rfl rfl .no rfl) <|
    .nil rfl
  ) ?_)
  refine cw_leads (leads_open (o := 0) (y := .st [.ifc 71 (.d (.at (eviewPlain a0.1))), .map 5, .arr 2 0, .arr 3 0]) (news := [(5, .map 0 (mD eapiKey eapiChange a0.2.1)), (2, .arr 0 49 (a0.2.2.1.map eapiSpan)), (3, .arr 0 1 (a0.2.2.2.map eMapiKeyapiChange))]) rfl (.st (.cons (.av rfl) (.cons (.map rfl) (.cons (.arr rfl) (.cons (.arr rfl) .nil))))) rfl rfl ⟨rfl, rfl, rfl, trivial⟩) ?_
  refine cw_weak (weak_of (l := [(0, .ptr 0 0)]) (m := [(0, .box (.st [.ifc 71 (.d (.at (eviewPlain a0.1))), .map 5, .arr 2 0, .arr 3 0])), (2, .arr 0 49 (a0.2.2.1.map eapiSpan)), (3, .arr 0 1 (a0.2.2.2.map eMapiKeyapiChange)), (5, .map 0 (mD eapiKey eapiChange a0.2.1))]) ⟨⟨_, rfl, .ptr rfl rfl⟩, trivial⟩ ⟨.box rfl (.st (.cons (.ifc (.d rfl)) (.cons (.map rfl rfl) (.cons (.arr rfl rfl) (.cons (.arr rfl rfl) .nil))))), .arr rfl rfl, .arr rfl rfl, .map rfl rfl, trivial⟩ (dropK rfl)) ?_
  obtain ⟨x1, hx2, h3⟩ := bind_some h
  have hx2g := fits_some hx2
  have ho6 := forOrd_some h3
  refine cw_seq (cw_regionA (
    .cons (o_mv rfl rfl .no rfl) <|
    .cons (o_nilP rfl rfl .no rfl) <|
    .cons (o_fldP rfl rfl .no rfl fld76_1 (by decide)) <|
    .cons (o_ldP [1] rfl rfl .no rfl rfl rfl ta73 rfl rfl) <|
    .cons (o_callX (fun n => bif Nat.beq n 0 then 5 else 4) rfl rfl .no Tryz.func43 rfl rfl (values43_ok (ek := eapiKey) (ev := eapiChange) (m := a0.2.1) 0) (.cons rfl (.m rfl) .nil) (callIn1N rfl ⟨(by simp [AV.live, lk]), trivial⟩ (by decide) rfl trivial rfl (by simp)) (.inl rfl)) <|
    .any (a_callX (fun n => bif Nat.beq n 0 then 5 else 4) rfl rfl Tryz.func42 rfl rfl (collect42_ok (ek := eapiKey) (m := a0.2.1) 0 hx2g) (.cons rfl (.f1 rfl) .nil) (callIn2 rfl ⟨(by simp [AV.live, AV.lives, lk, Nat.beq]), trivial⟩ (by decide) rfl trivial rfl (by simp [OB.live, AV.live, lk, Nat.beq]) (by simp)) (fun _ => (callIn2 rfl ⟨(by simp [AV.live, AV.lives, lk, Nat.beq]), trivial⟩ (by decide) rfl trivial rfl (by simp [OB.live, AV.live, lk, Nat.beq]) (by simp))) (.inl rfl)) fun s' hs => ?_))
  obtain ⟨x4, hl5, rfl⟩ := hs
  have h7 := ho6 x4 hl5
  obtain ⟨x8, hx9, h10⟩ := bind_some (x := delta_Join ([(x4.map fun p => p.2)])) h7
  refine (
    .cons (o_bsl (rows := ([(x4.map fun p => p.2)] : List (List ((List UInt8) × ByteArray × Bool))).map eSapiChange) rfl rfl .no (.cons rfl .nil) rfl sl60 sz49 ze49 rfl (map_sz siSapiChange) (by decide)) <|
    .cons (o_callO 1 rfl rfl .no Tryz.func41 rfl rfl (delta_Join_ok hx9) (.cons rfl .d .nil) ⟨trivial, trivial⟩ rfl (.inl rfl)) <|
    .cons (o_as rfl rfl .no rfl) <|
    .nil rfl ?_)
  have heq := ((Option.some.inj h10).symm).symm
  subst heq
  exact cw_ret ⟨_, (show Leads _ _ (St.of [(2, .arr 1 0)] [(0, .own (oviewView (a0.1, a0.2.1, a0.2.2.1, a0.2.2.2))), (1, .arr 0 26 (x8.map eapiChange))]) from .trans (leads_pack (o := 0) (y := .st [.ifc 71 (.d (.at (eviewPlain a0.1))), .map 5, .arr 2 0, .arr 3 0]) (x := oviewView (a0.1, a0.2.1, a0.2.2.1, a0.2.2.2)) (l := [(2, .arr 1 0)]) (m := [(0, .own (oviewView (a0.1, a0.2.1, a0.2.2.1, a0.2.2.2))), (1, .arr 0 26 (x8.map eapiChange))]) rfl (.st (.cons (.av rfl) (.cons (.map rfl) (.cons (.arr rfl) (.cons (.arr rfl) .nil))))) rfl rfl ⟨⟨rfl, (by simp [AV.live, AV.lives, lk, Nat.beq])⟩, trivial⟩ ⟨.inl rfl, (.inr ⟨rfl, trivial⟩), trivial⟩ rfl (OD.dat_live (oviewView_dat _)) ⟨rfl, rfl, rfl, trivial⟩ (dropK rfl)) (.w (weak_of ⟨⟨_, rfl, .arr rfl rfl⟩, trivial⟩ ⟨.own rfl (.of_eq rfl (oviewView_dat _)), .arr rfl rfl, trivial⟩ (dropK rfl)))), .inr rfl, _, res1 rfl rfl, rfl, rfl⟩

set_option maxRecDepth 100000 in
theorem view_View_Scan_ok {a0 : VwT} {a1 : ((List UInt8) × (List UInt8) × Bool)} {r : ((List ((List UInt8) × ByteArray)) × Int × VwT)} (h : view_View_Scan a0 a1 = some r) : FnOk Tryz.prog 15 [.ptr 0 0, .d (eapiSpan a1)] 1 (lk [(0, .own (oviewView a0))]) (fun rr oo => rr = .tup [.arr 1 0, .d (eapiErrno r.2.1)] ∧ oo = lk [(0, .own (oviewView r.2.2)), (1, .arr 0 25 (r.1.map eapiPair))]) := by
  refine fnOk_of Tryz.func15 rfl rfl (cw_post ?_)
  unfold view_View_Scan at h
  refine cw_seq (cw_region (
    .cons (o_box 9 rfl rfl .no rfl rfl rfl) <|
    .cons (o_as rfl rfl .no rfl) <|
    .cons (o_as rfl rfl .no rfl) <|
    .nil rfl
  ) ?_)
  obtain ⟨x1, hx2, h3⟩ := bind_some (x := view_View_read a0 a1) h
  refine cw_seq (cw_region (
    .cons (o_mv rfl rfl .no rfl) <|
    .cons (o_ldP [] rfl rfl .no rfl rfl rfl ta41 rfl rfl) <|
    .cons (o_callX (fun _ => 0) rfl rfl .no Tryz.func35 rfl rfl (view_View_read_ok hx2) (.cons rfl (.p rfl) (.cons rfl .d .nil)) (callIn1 rfl ⟨(by simp [AV.live, lk, Nat.beq]), trivial, trivial⟩ rfl (OD.dat_live (oviewView_dat _)) (by simp)) (.inl rfl)) <|
    .nil rfl
  ) ?_)
  refine cw_leads (leads_open (o := 0) (y := .st [.ifc 71 (.d (.at (eviewPlain x1.1))), .map 2, .arr 3 0, .arr 4 0]) (news := [(2, .map 0 (mD eapiKey eapiChange x1.2.1)), (3, .arr 0 49 (x1.2.2.1.map eapiSpan)), (4, .arr 0 1 (x1.2.2.2.map eMapiKeyapiChange))]) rfl (.st (.cons (.av rfl) (.cons (.map rfl) (.cons (.arr rfl) (.cons (.arr rfl) .nil))))) rfl rfl ⟨rfl, rfl, rfl, trivial⟩) ?_
  refine cw_weak (weak_of (l := [(0, .ptr 0 0), (3, .ptr 9 0)]) (m := [(0, .box (.st [.ifc 71 (.d (.at (eviewPlain x1.1))), .map 2, .arr 3 0, .arr 4 0])), (2, .map 0 (mD eapiKey eapiChange x1.2.1)), (3, .arr 0 49 (x1.2.2.1.map eapiSpan)), (4, .arr 0 1 (x1.2.2.2.map eMapiKeyapiChange)), (9, .box (.d (eapiSpan a1)))]) ⟨⟨_, rfl, .ptr rfl rfl⟩, ⟨_, rfl, .ptr rfl rfl⟩, trivial⟩ ⟨.box rfl (.st (.cons (.ifc (.d rfl)) (.cons (.map rfl rfl) (.cons (.arr rfl rfl) (.cons (.arr rfl rfl) .nil))))), .map rfl rfl, .arr rfl rfl, .arr rfl rfl, .box rfl (.d rfl), trivial⟩ (dropK rfl)) ?_
  obtain ⟨x4, hx5, h6⟩ := bind_some (x := view_Plain_Scan x1.1 a1) h3
  refine cw_seq (cw_region_any mixed (by kernel_rfl) (
    .cons (o_mv rfl rfl .no rfl) <|
    .cons (o_nilP rfl rfl .no rfl) <|
    .cons (o_fldP rfl rfl .no rfl fld76_0 (by decide)) <|
    .cons (o_ldP [0] rfl rfl .no rfl rfl rfl ta70 rfl rfl) <|
    .cons (o_ldP [] rfl rfl .no rfl rfl rfl ta41 rfl rfl) <|
    .cons (o_inv (fun o => o) rfl rfl .no rfl Tryz.func201 rfl rfl rfl hm71_Scan (view_Plain_Scan_ok hx5) (.cons rfl .d (.cons rfl .d .nil)) (by decide) (callIn0 ⟨trivial, trivial, trivial⟩) (.inl rfl)) <|
    .cons (o_mv rfl rfl .no rfl) <|
    .cons (o_ext rfl rfl .no rfl rfl) <|
    .cons (o_ext rfl rfl .no rfl rfl) <|
    .cons (o_as rfl rfl .no rfl) <|
    .cons (o_as rfl rfl .no rfl) <|
    .nil rfl
  ) (by kernel_rfl) ?_)
  refine cw_seq ?_
  refine cw_seq (cw_region (
    .cons (o_mv rfl rfl .no rfl) <|
    .cons (o_bin rfl rfl .no rfl rfl (b_neq _ _) rfl) <|
    .nil rfl
  ) ?_)
  rcases cond_some h6 with ⟨hc7, h8⟩ | ⟨hc7, h9⟩
  · refine cw_condT rfl hc7 ?_
    refine cw_seq (cw_region (
      .cons (o_mv rfl rfl .no rfl) <|
      .cons (o_as rfl rfl .no rfl) <|
      .cons (o_as rfl rfl .no rfl) <|
      .nil rfl
    ) ?_)
    have heq := ((Option.some.inj h8).symm).symm
    subst heq
    exact cw_ret ⟨_, (show Leads _ _ (St.of [(4, .arr 1 0), (5, .d (eapiErrno x4.2))] [(0, .own (oviewView (x1.1, x1.2.1, x1.2.2.1, x1.2.2.2))), (1, .arr 0 25 (([]).map eapiPair))]) from .trans (leads_pack (o := 0) (y := .st [.ifc 71 (.d (.at (eviewPlain x1.1))), .map 2, .arr 3 0, .arr 4 0]) (x := oviewView (x1.1, x1.2.1, x1.2.2.1, x1.2.2.2)) (l := [(4, .d (.v (.slice none 0 0))), (5, .d (eapiErrno x4.2))]) (m := [(0, .own (oviewView (x1.1, x1.2.1, x1.2.2.1, x1.2.2.2)))]) rfl (.st (.cons (.av rfl) (.cons (.map rfl) (.cons (.arr rfl) (.cons (.arr rfl) .nil))))) rfl rfl ⟨⟨rfl, trivial⟩, ⟨rfl, trivial⟩, trivial⟩ ⟨.inl rfl, trivial⟩ rfl (OD.dat_live (oviewView_dat _)) ⟨rfl, rfl, rfl, trivial⟩ (dropK rfl)) (.w (weak_of ⟨⟨_, rfl, .nila rfl rfl⟩, ⟨_, rfl, .d rfl⟩, trivial⟩ ⟨.own rfl (.of_eq rfl (oviewView_dat _)), .nil rfl, trivial⟩ (dropK rfl)))), .inr rfl, _, res2 rfl rfl rfl, rfl, rfl⟩
  · refine cw_condF rfl hc7 ?_
    refine cw_skip ?_
    refine cw_seq (cw_region (
      .cons (o_as rfl rfl .no rfl) <|
      .nil rfl
    ) ?_)
    refine cw_seq ?_
    refine cw_seq (cw_region (
      .cons (o_mv rfl rfl .no rfl) <|
      .cons (o_nilP rfl rfl .no rfl) <|
      .cons (o_fldP rfl rfl .no rfl fld76_1 (by decide)) <|
      .cons (o_ldP [1] rfl rfl .no rfl rfl rfl ta73 rfl rfl) <|
      .cons (o_range 5 rfl rfl .no rfl rfl mp73 rfl) <|
      .nil rfl
    ) ?_)
    have ho38 := forOrd_some h9
    refine cw_mapRange (V := (List ((List UInt8) × ByteArray × Bool))) (ek := eapiKey) (ev := eapiChange) (M := x1.2.1) (fun x34 hl42 => bind_ex (ho38 x34 hl42)) (fun (z : (List ((List UInt8) × ByteArray × Bool))) (l : List ((List UInt8) × ((List UInt8) × ByteArray × Bool))) => St.of [(3, .ptr 9 0), (6, .d (eSapiPair x4.1)), (8, .arr 8 0), (30, .it 5)] [(0, .box (.st [.ifc 71 (.d (.at (eviewPlain x1.1))), .map 2, .arr 3 0, .arr 4 0])), (2, .map 0 (mD eapiKey eapiChange x1.2.1)), (3, .arr 0 49 (x1.2.2.1.map eapiSpan)), (4, .arr 0 1 (x1.2.2.2.map eMapiKeyapiChange)), (5, .iter 2 0 (mD eapiKey eapiChange l) none), (8, .arr 0 26 (z.map eapiChange)), (9, .box (.d (eapiSpan a1)))]) (fun (z : (List ((List UInt8) × ByteArray × Bool))) => St.of [(6, .d (eSapiPair x4.1)), (8, .arr 8 0)] [(0, .box (.st [.ifc 71 (.d (.at (eviewPlain x1.1))), .map 2, .arr 3 0, .arr 4 0])), (2, .map 0 (mD eapiKey eapiChange x1.2.1)), (3, .arr 0 49 (x1.2.2.1.map eapiSpan)), (4, .arr 0 1 (x1.2.2.2.map eMapiKeyapiChange)), (8, .arr 0 26 (z.map eapiChange))]) rfl rfl (.w (weak_of ⟨⟨_, rfl, .ptr rfl rfl⟩, ⟨_, rfl, .d rfl⟩, ⟨_, rfl, .nila rfl rfl⟩, ⟨_, rfl, .it rfl rfl⟩, trivial⟩ ⟨.box rfl (.st (.cons (.ifc (.d rfl)) (.cons (.map rfl rfl) (.cons (.arr rfl rfl) (.cons (.arr rfl rfl) .nil))))), .map rfl rfl, .arr rfl rfl, .arr rfl rfl, .iter rfl rfl rfl rfl rfl (.inl rfl), .nil rfl, .box rfl (.d rfl), trivial⟩ (dropK rfl))) (fun _ _ => ⟨rfl, rfl, rfl⟩) (fun z => .w (weak_of ⟨⟨_, rfl, .d rfl⟩, ⟨_, rfl, .arr rfl rfl⟩, trivial⟩ ⟨.box rfl (.st (.cons (.ifc (.d rfl)) (.cons (.map rfl rfl) (.cons (.arr rfl rfl) (.cons (.arr rfl rfl) .nil))))), .map rfl rfl, .arr rfl rfl, .arr rfl rfl, .arr rfl rfl, trivial⟩ (dropK rfl))) ?_ ?_
    · intro v39 h40
      obtain ⟨x52, hx53, h54⟩ := bind_some (x := delta_Apply x4.1 v39) h40
      refine cw_seq (cw_region (
        .cons (o_mv rfl rfl .no rfl) <|
        .cons (o_mv rfl rfl .no rfl) <|
        .cons (o_callO 1 rfl rfl .no Tryz.func37 rfl rfl (delta_Apply_ok hx53) (.cons rfl .d (.cons rfl (.arrM rfl) .nil)) ⟨trivial, trivial, trivial⟩ rfl (.inr ⟨trivial, (flat_rows fun _ => (flapiPair _))⟩)) <|
        .cons (o_as rfl rfl .no rfl) <|
        .cons (o_as rfl rfl .no rfl) <|
        .nil rfl
      ) ?_)
      have heq := ((Option.some.inj h54).symm).symm
      subst heq
      exact cw_ret ⟨_, (show Leads _ _ (St.of [(4, .arr 1 0), (5, .d (eapiErrno 0))] [(0, .own (oviewView (x1.1, x1.2.1, x1.2.2.1, x1.2.2.2))), (1, .arr 0 25 (x52.map eapiPair))]) from .trans (leads_pack (o := 0) (y := .st [.ifc 71 (.d (.at (eviewPlain x1.1))), .map 2, .arr 3 0, .arr 4 0]) (x := oviewView (x1.1, x1.2.1, x1.2.2.1, x1.2.2.2)) (l := [(4, .arr 1 0), (5, .d (eint 0))]) (m := [(0, .own (oviewView (x1.1, x1.2.1, x1.2.2.1, x1.2.2.2))), (1, .arr 0 25 (x52.map eapiPair))]) rfl (.st (.cons (.av rfl) (.cons (.map rfl) (.cons (.arr rfl) (.cons (.arr rfl) .nil))))) rfl rfl ⟨⟨rfl, (by simp [AV.live, AV.lives, lk, Nat.beq])⟩, ⟨rfl, trivial⟩, trivial⟩ ⟨.inl rfl, (.inr ⟨rfl, trivial⟩), trivial⟩ rfl (OD.dat_live (oviewView_dat _)) ⟨rfl, rfl, rfl, trivial⟩ (dropK rfl)) (.w (weak_of ⟨⟨_, rfl, .arr rfl rfl⟩, ⟨_, rfl, .d rfl⟩, trivial⟩ ⟨.own rfl (.of_eq rfl (oviewView_dat _)), .arr rfl rfl, trivial⟩ (dropK rfl)))), .inr rfl, _, res2 rfl rfl rfl, rfl, rfl⟩
    · intro Q41 v32 x33 x34 x35 v36 hb37
      refine cw_block ?_
      refine cw_seq (cw_region (
        .cons (o_entry rfl rfl .no rfl rfl rfl) <|
        .cons (o_ext rfl rfl .no rfl rfl) <|
        .cons (o_ext rfl rfl .no rfl rfl) <|
        .cons (o_alloc 6 rfl rfl .no ze39 rfl) <|
        .cons (o_alloc 7 rfl rfl .no ze88 rfl) <|
        .cons (o_st [] rfl .no rfl rfl rfl rfl rfl sz39 rfl rfl) <|
        .cons (o_st [] rfl .no rfl rfl rfl rfl rfl sz88 rfl rfl) <|
        .nil rfl
      ) ?_)
      obtain ⟨x43, hx44, h45⟩ := bind_some (x := key_In a1 x33.1) hb37
      refine cw_seq (cw_region (
        .cons (o_ldP [] rfl rfl .no rfl rfl rfl ta41 rfl rfl) <|
        .cons (o_ldP [] rfl rfl .no rfl rfl rfl ta39 rfl rfl) <|
        .cons (o_call rfl rfl .no Tryz.func36 rfl rfl (key_In_ok hx44) (.cons rfl .d (.cons rfl .d .nil)) ⟨trivial, trivial, trivial⟩ (.inl rfl)) <|
        .nil rfl
      ) ?_)
      rcases cond_some h45 with ⟨hc46, h47⟩ | ⟨hc46, h48⟩
      · refine cw_condT rfl hc46 ?_
        obtain ⟨x49, hx50, h51⟩ := bind_some h47
        have hx50g := fits_some hx50
        refine cw_region (
          .cons (o_mv rfl rfl .no rfl) <|
          .cons (o_ldP [] rfl rfl .no rfl rfl rfl ta88 rfl rfl) <|
          .cons (o_bsl (rows := ([x33.2] : List ((List UInt8) × ByteArray × Bool)).map eapiChange) rfl rfl .no (.cons rfl .nil) rfl sl49 sz88 ze88 rfl (map_sz siapiChange) (by decide)) <|
          .cons (o_appM (enc := eapiChange) (xs := v32) (ys := [x33.2]) rfl rfl .no rfl rfl rfl siapiChange sl49 sl49 sz88 by88 ze88 rfl (by decide) hx50g) <|
          .cons (o_as rfl rfl .no rfl) <|
          .nil rfl
        ) ?_
        have heq := ((Option.some.inj h51).symm).symm
        subst heq
        exact .w (weak_of ⟨⟨_, rfl, .ptr rfl rfl⟩, ⟨_, rfl, .d rfl⟩, ⟨_, rfl, .arr rfl rfl⟩, ⟨_, rfl, .it rfl rfl⟩, trivial⟩ ⟨.box rfl (.st (.cons (.ifc (.d rfl)) (.cons (.map rfl rfl) (.cons (.arr rfl rfl) (.cons (.arr rfl rfl) .nil))))), .map rfl rfl, .arr rfl rfl, .arr rfl rfl, .iter rfl rfl rfl rfl rfl (.inl rfl), .arr0 rfl rfl rfl, .box rfl (.d rfl), trivial⟩ (dropK rfl))
      · refine cw_condF rfl hc46 ?_
        refine cw_skip ?_
        have heq := ((Option.some.inj h48).symm).symm
        subst heq
        exact .w (weak_of ⟨⟨_, rfl, .ptr rfl rfl⟩, ⟨_, rfl, .d rfl⟩, ⟨_, rfl, .arr rfl rfl⟩, ⟨_, rfl, .it rfl rfl⟩, trivial⟩ ⟨.box rfl (.st (.cons (.ifc (.d rfl)) (.cons (.map rfl rfl) (.cons (.arr rfl rfl) (.cons (.arr rfl rfl) .nil))))), .map rfl rfl, .arr rfl rfl, .arr rfl rfl, .iter rfl rfl rfl rfl rfl (.inl rfl), .arr rfl rfl, .box rfl (.d rfl), trivial⟩ (dropK rfl))

set_option maxRecDepth 100000 in
theorem view_New_ok {a0 : (List ((List UInt8) × ByteArray))} {r : VwT} (h : view_New a0 = some r) : FnOk Tryz.prog 11 [.ifc 71 (.d (.at (eviewPlain a0)))] 0 (lk []) (fun rr oo => rr = .ptr 0 0 ∧ oo = lk [(0, .own (oviewView r))]) := by
  refine fnOk_of Tryz.func11 rfl rfl (cw_post ?_)
  unfold view_New at h
  refine cw_seq (cw_region (
    .cons (o_as rfl rfl .no rfl) <|
    .nil rfl
  ) ?_)
  obtain ⟨o1, hj2, h3⟩ := bind_some h
  refine cw_join (fun (z : Unit) => St.of [(0, .ifc 71 (.d (.at (eviewPlain a0))))] []) (fun (z : Unit) => o1 = z) ?_ ?_
  · intro v4 hv5; subst hv5
    refine cw_seq (cw_region (
      .cons (o_mv rfl rfl .no rfl) <|
      .cons (o_mkmap eapiKey eapiChange 1 rfl rfl .no rfl) <|
      .cons (o_bldA rfl rfl .no zo76 rfl pl76 (.cons rfl rfl rfl rfl rfl rfl rfl (.cons rfl rfl rfl rfl rfl rfl rfl .nil))) <|
      .cons (o_box 0 rfl rfl .no rfl rfl rfl) <|
      .cons (o_as rfl rfl .no rfl) <|
      .nil rfl
    ) ?_)
    have heq := ((Option.some.inj h3).symm).symm
    subst heq
    exact cw_ret ⟨_, (show Leads _ _ (St.of [(2, .ptr 0 0)] [(0, .own (oviewView (a0, [], [], [])))]) from .trans (leads_pack (o := 0) (y := .st [.ifc 71 (.d (.at (eviewPlain a0))), .map 1, .d (.v (.slice none 0 0)), .d (.v (.slice none 0 0))]) (x := oviewView (a0, [], [], [])) (l := [(2, .ptr 0 0)]) (m := [(0, .own (oviewView (a0, [], [], [])))]) rfl (.st (.cons (.av rfl) (.cons (.map rfl) (.cons (.nil rfl) (.cons (.nil rfl) .nil))))) rfl rfl ⟨⟨rfl, (by simp [AV.live, AV.lives, lk, Nat.beq])⟩, trivial⟩ ⟨.inl rfl, trivial⟩ rfl (OD.dat_live (oviewView_dat _)) ⟨rfl, trivial⟩ drop0) (.w (weak_of ⟨⟨_, rfl, .ptro rfl rfl⟩, trivial⟩ ⟨.own rfl (.of_eq rfl (oviewView_dat _)), trivial⟩ drop0))), .inr rfl, _, res1 rfl rfl, rfl, rfl⟩
  · skip
    refine cw_seq (cw_region (
      .cons (o_mv rfl rfl .no rfl) <|
      .cons (o_ifnil rfl rfl .no rfl ifcB70) <|
      .nil rfl
    ) ?_)
    refine cw_condF rfl rfl ?_
    refine cw_skip ?_
    exact ⟨(), (Option.some.inj hj2).symm, .w (weak_of ⟨⟨_, rfl, .ifc (.d rfl)⟩, trivial⟩ trivial drop0)⟩

set_option maxRecDepth 100000 in
theorem view_New_n_ok {r : VwT} (h : view_New_n = some r) : FnOk Tryz.prog 11 [.d (.v .nilIface)] 0 (lk []) (fun rr oo => rr = .ptr 0 0 ∧ oo = lk [(0, .own (oviewView r))]) := by
  refine fnOk_of Tryz.func11 rfl rfl (cw_post ?_)
  unfold view_New_n at h
  refine cw_seq (cw_region (
    .cons (o_as rfl rfl .no rfl) <|
    .nil rfl
  ) ?_)
  obtain ⟨o4, hj5, h6⟩ := bind_some h
  refine cw_join (fun (z : (List ((List UInt8) × ByteArray))) => St.of [(0, .ifc 71 (.d (.at (eviewPlain z))))] []) (fun (z : (List ((List UInt8) × ByteArray))) => o4 = z) ?_ ?_
  · intro v10 hv11; subst hv11
    refine cw_seq (cw_region (
      .cons (o_mv rfl rfl .no rfl) <|
      .cons (o_mkmap eapiKey eapiChange 1 rfl rfl .no rfl) <|
      .cons (o_bldA rfl rfl .no zo76 rfl pl76 (.cons rfl rfl rfl rfl rfl rfl rfl (.cons rfl rfl rfl rfl rfl rfl rfl .nil))) <|
      .cons (o_box 0 rfl rfl .no rfl rfl rfl) <|
      .cons (o_as rfl rfl .no rfl) <|
      .nil rfl
    ) ?_)
    have heq := ((Option.some.inj h6).symm).symm
    subst heq
    exact cw_ret ⟨_, (show Leads _ _ (St.of [(2, .ptr 0 0)] [(0, .own (oviewView (o4, [], [], [])))]) from .trans (leads_pack (o := 0) (y := .st [.ifc 71 (.d (.at (eviewPlain o4))), .map 1, .d (.v (.slice none 0 0)), .d (.v (.slice none 0 0))]) (x := oviewView (o4, [], [], [])) (l := [(2, .ptr 0 0)]) (m := [(0, .own (oviewView (o4, [], [], [])))]) rfl (.st (.cons (.av rfl) (.cons (.map rfl) (.cons (.nil rfl) (.cons (.nil rfl) .nil))))) rfl rfl ⟨⟨rfl, (by simp [AV.live, AV.lives, lk, Nat.beq])⟩, trivial⟩ ⟨.inl rfl, trivial⟩ rfl (OD.dat_live (oviewView_dat _)) ⟨rfl, trivial⟩ drop0) (.w (weak_of ⟨⟨_, rfl, .ptro rfl rfl⟩, trivial⟩ ⟨.own rfl (.of_eq rfl (oviewView_dat _)), trivial⟩ drop0))), .inr rfl, _, res1 rfl rfl, rfl, rfl⟩
  · skip
    refine cw_seq (cw_region (
      .cons (o_mv rfl rfl .no rfl) <|
      .cons (o_ifnilT rfl rfl .no rfl ifcB70) <|
      .nil rfl
    ) ?_)
    refine cw_condT rfl rfl ?_
    obtain ⟨x7, hx8, h9⟩ := bind_some (x := view_NewPlain ([])) hj5
    refine cw_region (
      .cons (o_call rfl rfl .no Tryz.func27 rfl rfl (view_NewPlain_ok hx8) (.cons rfl .nil .nil) ⟨trivial, trivial⟩ (.inl rfl)) <|
      .cons (o_mkif rfl rfl .no rfl ifB71) <|
      .cons (o_as rfl rfl .no rfl) <|
      .nil rfl
    ) ?_
    exact ⟨x7, (Option.some.inj h9).symm, .w (weak_of ⟨⟨_, rfl, .ifc (.d rfl)⟩, trivial⟩ trivial drop0)⟩

end
end Go.Val

