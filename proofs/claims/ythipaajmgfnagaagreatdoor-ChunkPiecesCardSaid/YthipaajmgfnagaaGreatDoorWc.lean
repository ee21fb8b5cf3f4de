/- Walks of the program's functions, printed. -/
import Derived.Test.YthipaajmgfnagaaGreatDoorWb
set_option linter.unusedSectionVars false
set_option linter.unusedVariables false
set_option linter.unusedSimpArgs false
namespace Go.Val
open Go.RowKit Go.Proofs

section
variable [Drw]

noncomputable def view_View_Put (a0 : VwT) (a1 : List UInt8) (a2 : ByteArray) : Option (Int × VwT) :=
 (((
  cond (decide (a2 = (ByteArray.mk #[]))) (
   some true
  ) (
   some (decide ((a2.size : Int) > 40))
  )
 ) : Option Bool)).bind fun o4 =>
 cond o4 (
  some (1, a0)
 ) (
  some (0, (a0.1, (mset a0.2.1 a1 (a1, a2, false)), a0.2.2.1, a0.2.2.2))
 )

noncomputable def view_View_Delete (a0 : VwT) (a1 : List UInt8) : Option (Int × VwT) :=
 some (0, (a0.1, (mset a0.2.1 a1 (a1, (ByteArray.mk #[]), true)), a0.2.2.1, a0.2.2.2))

def slices_Clone55 (a0 : List ((List UInt8) × (List UInt8) × Bool)) : Option (List ((List UInt8) × (List UInt8) × Bool)) :=
  (fits (([] : List ((List UInt8) × (List UInt8) × Bool)).length + a0.length) 49).bind fun _ =>
  some a0

def slices_Clone203 (a0 : List ((List UInt8) × ByteArray)) : Option (List ((List UInt8) × ByteArray)) :=
  (fits (([] : List ((List UInt8) × ByteArray)).length + a0.length) 40).bind fun _ =>
  some a0

set_option maxRecDepth 100000 in
theorem view_View_Put_ok {a0 : VwT} {a1 : List UInt8} {a2 : ByteArray} {r : (Int × VwT)} (h : view_View_Put a0 a1 a2 = some r) : FnOk Tryz.prog 63 [.ptr 0 0, .d (eapiKey a1), .d (estring a2)] 1 (lk [(0, .own (oviewView a0))]) (fun rr oo => rr = .d (eapiErrno r.1) ∧ oo = lk [(0, .own (oviewView r.2))]) := by
  refine fnOk_of Tryz.func63 rfl rfl (cw_post ?_)
  unfold view_View_Put at h
  refine cw_seq (cw_region (
    .cons (o_box 1 rfl rfl .no rfl rfl rfl) <|
    .cons (o_as rfl rfl .no rfl) <|
    .nil rfl
  ) ?_)
  refine cw_seq ?_
  obtain ⟨o4, hj5, h6⟩ := bind_some h
  refine cw_join (fun (z : Bool) => St.of [(0, .ptr 0 0), (2, .d (estring a2)), (4, .ptr 1 0), (13, .d (ebool z))] [(0, .own (oviewView a0)), (1, .box (.d (eapiKey a1)))]) (fun (z : Bool) => o4 = z) ?_ ?_
  · intro v13 hv14; subst hv14
    rcases cond_some h6 with ⟨hc10, h11⟩ | ⟨hc10, h12⟩
    · refine cw_condT rfl hc10 ?_
      refine cw_seq (cw_region (
        .cons (o_as rfl rfl .no rfl) <|
        .nil rfl
      ) ?_)
      have heq := ((Option.some.inj h11).symm).symm
      subst heq
      exact cw_ret ⟨_, (show Leads _ _ (St.of [(6, .d (eapiErrno 1))] [(0, .own (oviewView a0))]) from .w (weak_of ⟨⟨_, rfl, .d rfl⟩, trivial⟩ ⟨.own rfl (.of_eq rfl (oviewView_dat _)), trivial⟩ (dropK rfl))), .inr rfl, _, res1 rfl rfl, rfl, rfl⟩
    · refine cw_condF rfl hc10 ?_
      refine cw_skip ?_
      refine cw_leads (leads_open (o := 0) (y := .st [.ifc 71 (.d (.at (eviewPlain a0.1))), .map 2, .arr 3 0, .arr 4 0]) (news := [(2, .map 0 (mD eapiKey eapiChange a0.2.1)), (3, .arr 0 49 (a0.2.2.1.map eapiSpan)), (4, .arr 0 1 (a0.2.2.2.map eMapiKeyapiChange))]) rfl (.st (.cons (.av rfl) (.cons (.map rfl) (.cons (.arr rfl) (.cons (.arr rfl) .nil))))) rfl rfl ⟨rfl, rfl, rfl, trivial⟩) ?_
      refine cw_weak (weak_of (l := [(0, .ptr 0 0), (2, .d (estring a2)), (4, .ptr 1 0)]) (m := [(0, .box (.st [.ifc 71 (.d (.at (eviewPlain a0.1))), .map 2, .arr 3 0, .arr 4 0])), (1, .box (.d (eapiKey a1))), (2, .map 0 (mD eapiKey eapiChange a0.2.1)), (3, .arr 0 49 (a0.2.2.1.map eapiSpan)), (4, .arr 0 1 (a0.2.2.2.map eMapiKeyapiChange))]) ⟨⟨_, rfl, .ptr rfl rfl⟩, ⟨_, rfl, .d rfl⟩, ⟨_, rfl, .ptr rfl rfl⟩, trivial⟩ ⟨.box rfl (.st (.cons (.ifc (.d rfl)) (.cons (.map rfl rfl) (.cons (.arr rfl rfl) (.cons (.arr rfl rfl) .nil))))), .box rfl (.d rfl), .map rfl rfl, .arr rfl rfl, .arr rfl rfl, trivial⟩ (dropK rfl)) ?_
      refine cw_seq (cw_region_any mixed (by kernel_rfl) (
        .cons (o_mv rfl rfl .no rfl) <|
        .cons (o_nilP rfl rfl .no rfl) <|
        .cons (o_fldP rfl rfl .no rfl fld76_1 (by decide)) <|
        .cons (o_ldP [1] rfl rfl .no rfl rfl rfl ta73 rfl rfl) <|
        .cons (o_ldP [] rfl rfl .no rfl rfl rfl ta39 rfl rfl) <|
        .cons (o_ldP [] rfl rfl .no rfl rfl rfl ta39 rfl rfl) <|
        .cons (o_mv rfl rfl .no rfl) <|
        .cons (o_bld (ds := [eapiKey a1, estring a2, ebool false]) rfl rfl .no zs88 rfl pl88 (.cons rfl rfl rfl rfl rfl rfl rfl (.cons rfl rfl rfl rfl rfl rfl rfl .nil))) <|
        .cons (o_mapset (ek := eapiKey) (ev := eapiChange) (m := a0.2.1) a1 (a1, a2, false) rfl .no rfl rfl rfl rfl mp73 kl39 rfl) <|
        .nil rfl
      ) (by kernel_rfl) ?_)
      refine cw_seq (cw_region (
        .cons (o_as rfl rfl .no rfl) <|
        .nil rfl
      ) ?_)
      have heq := ((Option.some.inj h12).symm).symm
      subst heq
      exact cw_ret ⟨_, (show Leads _ _ (St.of [(6, .d (eapiErrno 0))] [(0, .own (oviewView (a0.1, (mset a0.2.1 a1 (a1, a2, false)), a0.2.2.1, a0.2.2.2)))]) from .trans (leads_pack (o := 0) (y := .st [.ifc 71 (.d (.at (eviewPlain a0.1))), .map 2, .arr 3 0, .arr 4 0]) (x := oviewView (a0.1, (mset a0.2.1 a1 (a1, a2, false)), a0.2.2.1, a0.2.2.2)) (l := [(6, .d (eint 0))]) (m := [(0, .own (oviewView (a0.1, (mset a0.2.1 a1 (a1, a2, false)), a0.2.2.1, a0.2.2.2)))]) rfl (.st (.cons (.av rfl) (.cons (.map rfl) (.cons (.arr rfl) (.cons (.arr rfl) .nil))))) rfl rfl ⟨⟨rfl, trivial⟩, trivial⟩ ⟨.inl rfl, trivial⟩ rfl (OD.dat_live (oviewView_dat _)) ⟨rfl, rfl, rfl, trivial⟩ (dropK rfl)) (.w (weak_of ⟨⟨_, rfl, .d rfl⟩, trivial⟩ ⟨.own rfl (.of_eq rfl (oviewView_dat _)), trivial⟩ (dropK rfl)))), .inr rfl, _, res1 rfl rfl, rfl, rfl⟩
  · skip
    rcases cond_some hj5 with ⟨hc7, h8⟩ | ⟨hc7, h9⟩
    · skip
      refine cw_region (
        .cons (o_mv rfl rfl .no rfl) <|
        .cons (o_bin rfl rfl .no rfl rfl (s_eql _ _) rfl) <|
        .cons (o_mv rfl rfl .no rfl) <|
        .cons (o_noT rfl rfl rfl rfl hc7) <|
        .cons (o_noT rfl rfl rfl rfl hc7) <|
        .cons (o_noT rfl rfl rfl rfl hc7) <|
        .cons (o_pickT rfl rfl .no rfl hc7 rfl) <|
        .nil rfl
      ) ?_
      exact ⟨true, (Option.some.inj h8).symm, .w (weak_of ⟨⟨_, rfl, .ptro rfl rfl⟩, ⟨_, rfl, .d rfl⟩, ⟨_, rfl, .ptr rfl rfl⟩, ⟨_, rfl, .d rfl⟩, trivial⟩ ⟨.own rfl (.of_eq rfl (oviewView_dat _)), .box rfl (.d rfl), trivial⟩ (dropK rfl))⟩
    · skip
      refine cw_region (
        .cons (o_mv rfl rfl .no rfl) <|
        .cons (o_bin rfl rfl .no rfl rfl (s_eql _ _) rfl) <|
        .cons (o_mv rfl rfl .no rfl) <|
        .cons (o_mv rfl rfl (.yes rfl rfl hc7) rfl) <|
        .cons (o_lenS rfl rfl (.yes rfl rfl hc7) rfl un9) <|
        .cons (o_bin rfl rfl (.yes rfl rfl hc7) rfl rfl (b_gtr _ _) rfl) <|
        .cons (o_pickF rfl rfl .no rfl hc7 rfl) <|
        .nil rfl
      ) ?_
      exact ⟨(decide ((a2.size : Int) > 40)), (Option.some.inj h9).symm, .w (weak_of ⟨⟨_, rfl, .ptro rfl rfl⟩, ⟨_, rfl, .d rfl⟩, ⟨_, rfl, .ptr rfl rfl⟩, ⟨_, rfl, .d rfl⟩, trivial⟩ ⟨.own rfl (.of_eq rfl (oviewView_dat _)), .box rfl (.d rfl), trivial⟩ (dropK rfl))⟩

set_option maxRecDepth 100000 in
theorem view_View_Delete_ok {a0 : VwT} {a1 : List UInt8} {r : (Int × VwT)} (h : view_View_Delete a0 a1 = some r) : FnOk Tryz.prog 62 [.ptr 0 0, .d (eapiKey a1)] 1 (lk [(0, .own (oviewView a0))]) (fun rr oo => rr = .d (eapiErrno r.1) ∧ oo = lk [(0, .own (oviewView r.2))]) := by
  refine fnOk_of Tryz.func62 rfl rfl (cw_post ?_)
  unfold view_View_Delete at h
  refine cw_seq (cw_region (
    .cons (o_box 1 rfl rfl .no rfl rfl rfl) <|
    .cons (o_as rfl rfl .no rfl) <|
    .nil rfl
  ) ?_)
  refine cw_leads (leads_open (o := 0) (y := .st [.ifc 71 (.d (.at (eviewPlain a0.1))), .map 2, .arr 3 0, .arr 4 0]) (news := [(2, .map 0 (mD eapiKey eapiChange a0.2.1)), (3, .arr 0 49 (a0.2.2.1.map eapiSpan)), (4, .arr 0 1 (a0.2.2.2.map eMapiKeyapiChange))]) rfl (.st (.cons (.av rfl) (.cons (.map rfl) (.cons (.arr rfl) (.cons (.arr rfl) .nil))))) rfl rfl ⟨rfl, rfl, rfl, trivial⟩) ?_
  refine cw_weak (weak_of (l := [(0, .ptr 0 0), (3, .ptr 1 0)]) (m := [(0, .box (.st [.ifc 71 (.d (.at (eviewPlain a0.1))), .map 2, .arr 3 0, .arr 4 0])), (1, .box (.d (eapiKey a1))), (2, .map 0 (mD eapiKey eapiChange a0.2.1)), (3, .arr 0 49 (a0.2.2.1.map eapiSpan)), (4, .arr 0 1 (a0.2.2.2.map eMapiKeyapiChange))]) ⟨⟨_, rfl, .ptr rfl rfl⟩, ⟨_, rfl, .ptr rfl rfl⟩, trivial⟩ ⟨.box rfl (.st (.cons (.ifc (.d rfl)) (.cons (.map rfl rfl) (.cons (.arr rfl rfl) (.cons (.arr rfl rfl) .nil))))), .box rfl (.d rfl), .map rfl rfl, .arr rfl rfl, .arr rfl rfl, trivial⟩ (dropK rfl)) ?_
  refine cw_seq (cw_region_any mixed (by kernel_rfl) (
    .cons (o_mv rfl rfl .no rfl) <|
    .cons (o_nilP rfl rfl .no rfl) <|
    .cons (o_fldP rfl rfl .no rfl fld76_1 (by decide)) <|
    .cons (o_ldP [1] rfl rfl .no rfl rfl rfl ta73 rfl rfl) <|
    .cons (o_ldP [] rfl rfl .no rfl rfl rfl ta39 rfl rfl) <|
    .cons (o_ldP [] rfl rfl .no rfl rfl rfl ta39 rfl rfl) <|
    .cons (o_bld (ds := [eapiKey a1, estring (ByteArray.mk #[]), ebool true]) rfl rfl .no zs88 rfl pl88 (.cons rfl rfl rfl rfl rfl rfl rfl (.cons rfl rfl rfl rfl rfl rfl rfl .nil))) <|
    .cons (o_mapset (ek := eapiKey) (ev := eapiChange) (m := a0.2.1) a1 (a1, (ByteArray.mk #[]), true) rfl .no rfl rfl rfl rfl mp73 kl39 rfl) <|
    .nil rfl
  ) (by kernel_rfl) ?_)
  refine cw_seq (cw_region (
    .cons (o_as rfl rfl .no rfl) <|
    .nil rfl
  ) ?_)
  have heq := ((Option.some.inj h).symm).symm
  subst heq
  exact cw_ret ⟨_, (show Leads _ _ (St.of [(4, .d (eapiErrno 0))] [(0, .own (oviewView (a0.1, (mset a0.2.1 a1 (a1, (ByteArray.mk #[]), true)), a0.2.2.1, a0.2.2.2)))]) from .trans (leads_pack (o := 0) (y := .st [.ifc 71 (.d (.at (eviewPlain a0.1))), .map 2, .arr 3 0, .arr 4 0]) (x := oviewView (a0.1, (mset a0.2.1 a1 (a1, (ByteArray.mk #[]), true)), a0.2.2.1, a0.2.2.2)) (l := [(4, .d (eint 0))]) (m := [(0, .own (oviewView (a0.1, (mset a0.2.1 a1 (a1, (ByteArray.mk #[]), true)), a0.2.2.1, a0.2.2.2)))]) rfl (.st (.cons (.av rfl) (.cons (.map rfl) (.cons (.arr rfl) (.cons (.arr rfl) .nil))))) rfl rfl ⟨⟨rfl, trivial⟩, trivial⟩ ⟨.inl rfl, trivial⟩ rfl (OD.dat_live (oviewView_dat _)) ⟨rfl, rfl, rfl, trivial⟩ (dropK rfl)) (.w (weak_of ⟨⟨_, rfl, .d rfl⟩, trivial⟩ ⟨.own rfl (.of_eq rfl (oviewView_dat _)), trivial⟩ (dropK rfl)))), .inr rfl, _, res1 rfl rfl, rfl, rfl⟩

set_option maxRecDepth 100000 in
theorem slices_Clone55_ok {a0 : List ((List UInt8) × (List UInt8) × Bool)} {r : List ((List UInt8) × (List UInt8) × Bool)} (h : slices_Clone55 a0 = some r) : FnOk Tryz.prog 55 [.d (eSapiSpan a0)] 0 (lk []) (fun rr oo => rr = .arr 0 0 ∧ oo = lk [(0, .arr 0 49 (List.map eapiSpan r))]) := by
  refine fnOk_of Tryz.func55 rfl rfl (cw_post ?_)
  unfold slices_Clone55 at h
  obtain ⟨x1, hx2, h3⟩ := bind_some h
  have hx2g := fits_some hx2
  have heq := Option.some.inj h3
  subst heq
  refine cw_seq (cw_region (
    .cons (o_as rfl rfl .no rfl) <|
    .nil rfl
  ) ?_)
  refine cw_seq (cw_seq (cw_regionA (.cons (o_mv rfl rfl .no rfl) <| .any (a_nilq rfl rfl rfl sl59) fun s' hs => .nil rfl ?_)))
  obtain ⟨b, hb, rfl⟩ := hs
  cases b with
  | true =>
    have hz : a0 = [] := List.map_eq_nil_iff.1 (hb rfl)
    subst hz
    refine cw_condT rfl rfl (cw_seq (cw_region (
      .cons (o_as rfl rfl .no rfl) <|
      .nil rfl
    ) ?_))
    exact cw_ret ⟨_, (show Leads _ _ (St.of [(2, .arr 0 0)] [(0, .arr 0 49 (List.map eapiSpan []))]) from .w (weak_of ⟨⟨_, rfl, .nila rfl rfl⟩, trivial⟩ ⟨.nil rfl, trivial⟩ drop0)), .inr rfl, _, res1 rfl rfl, rfl, rfl⟩
  | false =>
    refine cw_condF rfl rfl (cw_skip ?_)
    refine cw_seq (cw_region (
      .cons (o_bslO (rows := ([] : List ((List UInt8) × (List UInt8) × Bool)).map eapiSpan) 0 rfl rfl .no .nil rfl sl59 sz41 ze41 rfl (map_sz siapiSpan) (by decide) rfl) <|
      .cons (o_mv rfl rfl .no rfl) <|
      .cons (o_appM (enc := eapiSpan) (xs := ([] : List ((List UInt8) × (List UInt8) × Bool))) (ys := a0) rfl rfl .no rfl rfl rfl siapiSpan sl59 sl59 sz41 by41 ze41 rfl (by decide) hx2g) <|
      .cons (o_as rfl rfl .no rfl) <|
      .nil rfl
    ) ?_)
    exact cw_ret ⟨_, (show Leads _ _ (St.of [(2, .arr 0 0)] [(0, .arr 0 49 (List.map eapiSpan a0))]) from .w (weak_of ⟨⟨_, rfl, .arr rfl rfl⟩, trivial⟩ ⟨.arr0 rfl rfl rfl, trivial⟩ drop0)), .inr rfl, _, res1 rfl rfl, rfl, rfl⟩

set_option maxRecDepth 100000 in
theorem slices_Clone203_ok {a0 : List ((List UInt8) × ByteArray)} {r : List ((List UInt8) × ByteArray)} (h : slices_Clone203 a0 = some r) : FnOk Tryz.prog 203 [.d (eSapiPair a0)] 0 (lk []) (fun rr oo => rr = .arr 0 0 ∧ oo = lk [(0, .arr 0 25 (List.map eapiPair r))]) := by
  refine fnOk_of Tryz.func203 rfl rfl (cw_post ?_)
  unfold slices_Clone203 at h
  obtain ⟨x4, hx5, h6⟩ := bind_some h
  have hx5g := fits_some hx5
  have heq := Option.some.inj h6
  subst heq
  refine cw_seq (cw_region (
    .cons (o_as rfl rfl .no rfl) <|
    .nil rfl
  ) ?_)
  refine cw_seq (cw_seq (cw_regionA (.cons (o_mv rfl rfl .no rfl) <| .any (a_nilq rfl rfl rfl sl35) fun s' hs => .nil rfl ?_)))
  obtain ⟨b, hb, rfl⟩ := hs
  cases b with
  | true =>
    have hz : a0 = [] := List.map_eq_nil_iff.1 (hb rfl)
    subst hz
    refine cw_condT rfl rfl (cw_seq (cw_region (
      .cons (o_as rfl rfl .no rfl) <|
      .nil rfl
    ) ?_))
    exact cw_ret ⟨_, (show Leads _ _ (St.of [(2, .arr 0 0)] [(0, .arr 0 25 (List.map eapiPair []))]) from .w (weak_of ⟨⟨_, rfl, .nila rfl rfl⟩, trivial⟩ ⟨.nil rfl, trivial⟩ drop0)), .inr rfl, _, res1 rfl rfl, rfl, rfl⟩
  | false =>
    refine cw_condF rfl rfl (cw_skip ?_)
    refine cw_seq (cw_region (
      .cons (o_bslO (rows := ([] : List ((List UInt8) × ByteArray)).map eapiPair) 0 rfl rfl .no .nil rfl sl35 sz47 ze47 rfl (map_sz siapiPair) (by decide) rfl) <|
      .cons (o_mv rfl rfl .no rfl) <|
      .cons (o_appM (enc := eapiPair) (xs := ([] : List ((List UInt8) × ByteArray))) (ys := a0) rfl rfl .no rfl rfl rfl siapiPair sl35 sl35 sz47 by47 ze47 rfl (by decide) hx5g) <|
      .cons (o_as rfl rfl .no rfl) <|
      .nil rfl
    ) ?_)
    exact cw_ret ⟨_, (show Leads _ _ (St.of [(2, .arr 0 0)] [(0, .arr 0 25 (List.map eapiPair a0))]) from .w (weak_of ⟨⟨_, rfl, .arr rfl rfl⟩, trivial⟩ ⟨.arr0 rfl rfl rfl, trivial⟩ drop0)), .inr rfl, _, res1 rfl rfl, rfl, rfl⟩

end
end Go.Val

