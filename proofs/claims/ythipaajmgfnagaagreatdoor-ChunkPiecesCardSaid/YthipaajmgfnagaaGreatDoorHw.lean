/- chunk.Write: its walk, around the loop over its pieces. -/
import Derived.Test.YthipaajmgfnagaaGreatDoorWi
import Derived.Test.YthipaajmgfnagaaGreatDoorXq
set_option linter.unusedSectionVars false
set_option linter.unusedVariables false
set_option linter.unusedSimpArgs false
namespace Go.Val
open Go.RowKit Go.Proofs

section
variable [Drw] {P : Program} {N : Nat × Nat} {ops : Array Oper} {i : Nat} {s : St} {d : Nat} {ty : TypeId} {pos : String} {af : Array Edge} {g : Option (Nat × Bool)} {gs : List Nat}
theorem o_fn2 {f : FuncId} {x x' : Operand} {y y' : AV} (ho : ops[i]? = some ⟨some d, .makeFunc (.func f) #[] #[x, x'], ty, pos, af, g⟩) (hd : Nat.ble (d + 1) N.1 = true) (hg : G ops s g gs) (hx : s.val x = some y) (hx' : s.val x' = some y') :
    Valid P N ops i ⟨gs ++ (opTmps x ++ opTmps x'), [], some (d, some (.fn f [] [y, y'])), []⟩ s :=
  valid_pure ho hd hg fun s' hs cx a E hR => by
    obtain ⟨c, h1, h2⟩ := hR.val ((val_agree (mem_app hs).1).trans hx)
    obtain ⟨c', h1', h2'⟩ := hR.val ((val_agree (mem_app hs).2).trans hx')
    refine ⟨.func (.func f) #[] #[a.eval x, a.eval x'], ?_, _, .fn (xs := []) (ys := [a.eval x, a.eval x']) .nil (by rw [h2, h2']; exact .cons h1 (.cons h1' .nil)), rfl⟩
    simp [execOp, Instr.makeFunc]
end

section
variable [NoDrw]

abbrev CVT : Type := (List ((List UInt8) × ByteArray)) × (List ((List UInt8) × ((List UInt8) × ByteArray × Bool))) × (List ((List UInt8) × (List UInt8) × Bool)) × (List (List ((List UInt8) × ((List UInt8) × ByteArray × Bool))))

def pieceOf (o n : Int) : Int × Int × Int := ((IntKind.wrap .i64 (Int.tdiv o 32)), (Int.tmod o 32), (min n (IntKind.wrap .i64 (32 - (Int.tmod o 32)))))

noncomputable def chunk_Write_loop (a1 : Int) (v : (CVT × ByteArray) × Int × Int) : Option (((CVT × ByteArray) × Int × Int) ⊕ ((CVT × ByteArray) × Int × Int)) :=
  cond (decide (v.2.2 > 0)) (
    (chunk_Write_body a1 v.1.1 v.1.2 (pieceOf v.2.1 v.2.2)).bind fun x => some (.inl (x, IntKind.wrap .i64 (v.2.1 + (pieceOf v.2.1 v.2.2).2.2), IntKind.wrap .i64 (v.2.2 - (pieceOf v.2.1 v.2.2).2.2)))
  ) (some (.inr v))

noncomputable def chunk_Write (a0 : CVT) (a1 a2 : Int) (a3 : ByteArray) : Option (Int × CVT) :=
  (chunk_may a1 a2 (a3.size : Int)).bind fun x =>
  cond (!x) (some (1, a0)) (
    (whileO (V := (CVT × ByteArray) × Int × Int) (O := (CVT × ByteArray) × Int × Int) (chunk_Write_loop a1) ((a0, a3), a2, (a3.size : Int))).bind fun o => some (0, o.1.1))

def wrObj (a1 : Int) (v : (CVT × ByteArray) × Int × Int) : List (Nat × OB) :=
  [(0, .own (oviewView v.1.1)), (1, .box (.ptr 0 0)), (2, .box (.d (eint a1))), (3, .box (.d (estring v.1.2))), (4, .box (.d (eapiErrno 0))), (5, .box (.d (eint v.2.1))), (6, .box (.d (eint v.2.2)))]
def wrSt (a1 : Int) (l : Nat) (v : (CVT × ByteArray) × Int × Int) : St :=
  St.of [(0, .d (.v (.func (.yield l) #[] #[]))), (1, .ptr 6 0), (2, .ptr 5 0)] [(0, .own (oviewView v.1.1)), (1, .box (.ptr 0 0)), (2, .box (.d (eint a1))), (3, .box (.d (estring v.1.2))), (4, .box (.d (eapiErrno 0))), (5, .box (.d (eint v.2.1))), (6, .box (.d (eint v.2.2)))]
def wrσ (n : Nat) : Nat := bif Nat.beq n 5 then 8 else n

set_option maxRecDepth 100000 in
theorem pieces_it {a1 : Int} {v0 r : (CVT × ByteArray) × Int × Int} (hw : whileO (chunk_Write_loop a1) v0 = some r) (l : Nat) (rec : Loop) (E0 : Env) (vals : List Value) (hE : E0.obj = lk (wrObj a1 v0)) (hok : EnvOk E0)
    (hl : E0.w.heap[l]? = some (.loop rec)) (hJ : ¬ E0.J l) (hh : ∀ c, E0.obj c ≠ none → ¬ E0.has c l) (has : rec.assign = chunk_Write_as) (hbo : rec.body = chunk_Write_bo) (hpar : rec.params = #[27]) (htm : rec.tmps.size = 81)
    (hst : rec.state = .ready) (hpend : rec.pending = none) (hsl : ∀ t x, lk chunk_Write_sO t = some x → VR E0 (x.ren wrσ) (rec.tmps.getD t undef)) (hv : VRs E0 [.ptr 6 0, .ptr 5 0] vals) :
    Calls Tryz.prog 64 (#[.func (.yield l) #[] #[]] ++ vals.toArray) E0.w (Ret E0 (fun _ oo => oo = lk (wrObj a1 r))) := by
  have hvals : (#[.func (.yield l) #[] #[]] ++ vals.toArray : Array Value) = (Value.func (.yield l) #[] #[] :: vals).toArray := by simp
  rw [hvals]
  cases hv with
  | @cons _ _ _ v1 hv1 hs1 =>
  cases hs1 with
  | @cons _ _ _ v2 hv2 hs2 =>
  cases hs2
  refine calls_of_cx (nt := 29) (k := 7) (s := wrSt a1 l v0) Tryz.func64 rfl rfl (by simp) hE hok (lk_lt rfl) ?_ ?_
  · intro t x ht
    have hm := lk_mem (l := [(0, AV.d (.v (.func (.yield l) #[] #[]))), (1, .ptr 6 0), (2, .ptr 5 0)]) ht
    simp only [List.mem_cons, List.not_mem_nil, or_false, Prod.mk.injEq] at hm
    rcases hm with ⟨rfl, rfl⟩ | ⟨rfl, rfl⟩ | ⟨rfl, rfl⟩
    · exact ⟨_, rfl, .of_sc rfl⟩
    · exact ⟨_, rfl, _, hv1, rfl⟩
    · exact ⟨_, rfl, _, hv2, rfl⟩
  refine cx_block (cx_while (N := (29, 7)) rfl (wrSt a1 l) hw (fun _ _ _ _ h => h) ?_)
  intro v x hb hx
  unfold chunk_Write_loop at hb
  refine cx_seq (cx_seq (cx_region (N := (29, 7)) rfl (
    .cons (o_ldP [] rfl rfl .no rfl rfl rfl ta3 rfl rfl) <|
    .cons (o_bin rfl rfl .no rfl rfl (b_gtr _ _) rfl) <|
    .nil rfl) ?_))
  rcases cond_some hb with ⟨hc, h2⟩ | ⟨hc, h2⟩
  · refine cx_condT rfl hc (cx_skip ?_)
    obtain ⟨x1, hx1, h3⟩ := bind_some h2
    have heq := (Option.some.inj h3).symm
    subst heq
    refine cx_block (cx_seq (cx_region (N := (29, 7)) rfl (
      .cons (o_ldP [] rfl rfl .no rfl rfl rfl ta3 rfl rfl) <|
      .cons (o_bin rfl rfl .no rfl rfl (b_quo _ _ (by decide)) rfl) <|
      .cons (o_ldP [] rfl rfl .no rfl rfl rfl ta3 rfl rfl) <|
      .cons (o_bin rfl rfl .no rfl rfl (b_rem _ _ (by decide)) rfl) <|
      .cons (o_ldP [] rfl rfl .no rfl rfl rfl ta3 rfl rfl) <|
      .cons (o_ldP [] rfl rfl .no rfl rfl rfl ta3 rfl rfl) <|
      .cons (o_bin rfl rfl .no rfl rfl (b_rem _ _ (by decide)) rfl) <|
      .cons (o_bin rfl rfl .no rfl rfl (b_sub _ _) rfl) <|
      .cons (o_min rfl rfl .no rfl rfl) <|
      .cons (o_bld (ds := [eint (IntKind.wrap .i64 (Int.tdiv v.2.1 32)), eint (Int.tmod v.2.1 32), eint (min v.2.2 (IntKind.wrap .i64 (32 - (Int.tmod v.2.1 32))))]) rfl rfl .no zs83 rfl pl83 (.cons rfl rfl rfl rfl rfl rfl rfl (.cons rfl rfl rfl rfl rfl rfl rfl (.cons rfl rfl rfl rfl rfl rfl rfl .nil)))) <|
      .cons (o_alloc 7 rfl rfl .no ze83 rfl) <|
      .cons (o_st [] rfl .no rfl rfl rfl rfl rfl sz83 rfl rfl) <|
      .nil rfl) ?_))
    refine cx_seq (cx_seq (cx_yield (σ := wrσ) (sO := chunk_Write_sO) (mi := chunk_Write_mi a1 v.1.1 v.1.2) (mo := [(0, .own (oviewView x1.1)), (1, .box (.ptr 0 0)), (2, .box (.d (eint a1))), (3, .box (.d (estring x1.2))), (4, .box (.d (eapiErrno 0))), (5, .box (.d (echunkpiece (pieceOf v.2.1 v.2.2))))]) (pd := echunkpiece (pieceOf v.2.1 v.2.2))
      hl hJ hh has hbo hpar htm hst hpend (by decide) hsl ?live ⟨_, 6, ?lt, chunk_Write_asg, chunk_Write_rnd hx1⟩ (by kernel_rfl) (by decide) (o_mv rfl rfl .no rfl) (o_ldP [] rfl rfl .no rfl rfl rfl ta83 rfl rfl) rfl rfl ?call (o_not rfl rfl .no rfl) ?_))
    case live =>
      intro t x ht
      have hm := lk_mem ht
      simp only [chunk_Write_sO, List.mem_cons, List.not_mem_nil, or_false, Prod.mk.injEq] at hm
      rcases hm with ⟨rfl, rfl⟩ | ⟨rfl, rfl⟩ | ⟨rfl, rfl⟩ | ⟨rfl, rfl⟩ <;> simp [AV.live, chunk_Write_mi, lk, Nat.beq]
    case lt => exact lk_lt (m := [(0, OB.own (oviewView v.1.1)), (1, .box (.ptr 0 0)), (2, .box (.d (eint a1))), (3, .box (.d (estring v.1.2))), (4, .box (.d (eapiErrno 0))), (5, .box (.d (echunkpiece (pieceOf v.2.1 v.2.2))))]) rfl
    case call =>
      exact callInG [5] rfl trivial ⟨⟨rfl, OD.dat_live (oviewView_dat _)⟩, ⟨rfl, by simp [OB.live, AV.live, chunk_Write_mi, lk, Nat.beq]⟩, ⟨rfl, trivial⟩, ⟨rfl, trivial⟩, ⟨rfl, trivial⟩, trivial⟩ rfl rfl rfl ⟨rfl, trivial⟩ rfl
    refine cx_condF rfl rfl (cx_skip ?_)
    refine cx_region_any (N := (29, 7)) rfl mixed (by kernel_rfl) (
      .cons (o_ldP [] rfl rfl .no rfl rfl rfl ta3 rfl rfl) <|
      .cons (o_fldP rfl rfl .no rfl fld83_2 (by decide)) <|
      .cons (o_ldP [2] rfl rfl .no rfl rfl rfl ta3 rfl rfl) <|
      .cons (o_bin rfl rfl .no rfl rfl (b_add _ _) rfl) <|
      .cons (o_ldP [] rfl rfl .no rfl rfl rfl ta3 rfl rfl) <|
      .cons (o_fldP rfl rfl .no rfl fld83_2 (by decide)) <|
      .cons (o_ldP [2] rfl rfl .no rfl rfl rfl ta3 rfl rfl) <|
      .cons (o_bin rfl rfl .no rfl rfl (b_sub _ _) rfl) <|
      .cons (o_st [] rfl .no rfl rfl rfl rfl rfl sz3 rfl rfl) <|
      .cons (o_st [] rfl .no rfl rfl rfl rfl rfl sz3 rfl rfl) <|
      .nil rfl) (by kernel_rfl) ?_
    exact ⟨_, rfl, (show Leads _ _ (St.of [(0, .d (.v (.func (.yield l) #[] #[]))), (1, .ptr 6 0), (2, .ptr 5 0)] [(0, .own (oviewView x1.1)), (1, .box (.ptr 0 0)), (2, .box (.d (eint a1))), (3, .box (.d (estring x1.2))), (4, .box (.d (eapiErrno 0))), (5, .box (.d (eint (IntKind.wrap .i64 (v.2.1 + (pieceOf v.2.1 v.2.2).2.2))))), (6, .box (.d (eint (IntKind.wrap .i64 (v.2.2 - (pieceOf v.2.1 v.2.2).2.2)))))]) from .w (weak_of ⟨⟨_, rfl, .d rfl⟩, ⟨_, rfl, .ptr rfl rfl⟩, ⟨_, rfl, .ptr rfl rfl⟩, trivial⟩ ⟨.own rfl (.of_eq rfl (oviewView_dat _)), .box rfl (.ptro rfl rfl), .box rfl (.d rfl), .box rfl (.d rfl), .box rfl (.d rfl), .box rfl (.d rfl), .box rfl (.d rfl), trivial⟩ (dropK rfl)))⟩
  · have heq := (Option.some.inj h2).symm
    subst heq
    have hr := hx v rfl
    subst hr
    exact cx_condF rfl hc (cx_exit ⟨.inl rfl, _, res0 rfl, rfl⟩)

set_option maxRecDepth 100000 in
theorem chunk_pieces_ok {a n : Int} : FnOk Tryz.prog 32 [.d (eint a), .d (eint n)] 0 (lk []) (fun rr oo => rr = .fn 64 [] [.ptr 1 0, .ptr 0 0] ∧ oo = lk [(0, .box (.d (eint a))), (1, .box (.d (eint n)))]) := by
  refine fnOk_of Tryz.func32 rfl rfl ?_
  refine cw_seq (cw_region (.cons (o_box 0 rfl rfl .no rfl rfl rfl) <| .cons (o_box 1 rfl rfl .no rfl rfl rfl) <| .cons (o_as rfl rfl .no rfl) <| .nil rfl) ?_)
  refine cw_seq (cw_region (.cons (o_fn2 rfl rfl .no rfl rfl) <| .cons (o_as rfl rfl .no rfl) <| .nil rfl) ?_)
  exact cw_weak (weak_of (l := [(4, .fn 64 [] [.ptr 1 0, .ptr 0 0])]) (m := [(0, .box (.d (eint a))), (1, .box (.d (eint n)))]) ⟨⟨_, rfl, .fn .nil (.cons (.ptr rfl rfl) (.cons (.ptr rfl rfl) .nil))⟩, trivial⟩ ⟨.box rfl (.d rfl), .box rfl (.d rfl), trivial⟩ drop0) (cw_ret ⟨.inr rfl, _, res1 rfl rfl, rfl, rfl⟩)

set_option maxRecDepth 100000 in
set_option maxHeartbeats 1000000 in
theorem chunk_Write_ok {a0 : CVT} {a1 a2 : Int} {a3 : ByteArray} {r : Int × CVT} (h : chunk_Write a0 a1 a2 a3 = some r) : FnOk Tryz.prog 13 [.ptr 0 0, .d (eint a1), .d (eint a2), .d (estring a3)] 1 (lk [(0, .own (oviewView a0))])
    (fun rr oo => rr = .d (eapiErrno r.1) ∧ oo = lk [(0, .own (oviewView r.2)), (4, .box (.d (eapiErrno r.1)))]) := by
  unfold chunk_Write at h
  obtain ⟨x, hx, h2⟩ := bind_some h
  rcases cond_some h2 with ⟨hc, h3⟩ | ⟨hc, h3⟩
  · have heq := (Option.some.inj h3).symm
    subst heq
    refine fnOk_of Tryz.func13 rfl rfl (cw_post ?_)
    refine cw_seq (cw_region (
      .cons (o_box 1 rfl rfl .no rfl rfl rfl) <|
      .cons (o_box 2 rfl rfl .no rfl rfl rfl) <|
      .cons (o_box 3 rfl rfl .no rfl rfl rfl) <|
      .cons (o_alloc 4 rfl rfl .no ze29 rfl) <|
      .nil rfl) ?_)
    refine cw_seq (cw_seq (cw_region (
      .cons (o_ldP [] rfl rfl .no rfl rfl rfl ta3 rfl rfl) <|
      .cons (o_mv rfl rfl .no rfl) <|
      .cons (o_ldP [] rfl rfl .no rfl rfl rfl ta9 rfl rfl) <|
      .cons (o_lenS rfl rfl .no rfl un9) <|
      .cons (o_call rfl rfl .no Tryz.func28 rfl rfl (chunk_may_ok hx) (.cons rfl .d (.cons rfl .d (.cons rfl .d .nil))) ⟨trivial, trivial, trivial, trivial⟩ (.inl rfl)) <|
      .cons (o_not rfl rfl .no rfl) <|
      .nil rfl) ?_))
    refine cw_condT rfl hc (cw_seq (cw_region (
      .cons (o_st [] rfl .no rfl rfl rfl rfl rfl sz29 rfl rfl) <|
      .nil rfl) ?_))
    exact cw_ret ⟨_, (show Leads _ _ (St.of [(8, .ptr 4 0)] [(0, .own (oviewView a0)), (4, .box (.d (eapiErrno 1)))]) from .w (weak_of ⟨⟨_, rfl, .ptr rfl rfl⟩, trivial⟩ ⟨.own rfl (.of_eq rfl (oviewView_dat _)), .box rfl (.d rfl), trivial⟩ (dropK rfl))), .inr rfl, _, resC rfl rfl rfl ta29 rfl rfl, rfl, rfl⟩
  · obtain ⟨o, ho, h4⟩ := bind_some h3
    have heq := (Option.some.inj h4).symm
    subst heq
    refine fnOk_rf (nt := 81) (m4 := wrObj a1 o) (s1 := St.of [(2, .d (eint a2)), (4, .ptr 1 0), (5, .ptr 2 0), (7, .ptr 3 0), (8, .ptr 4 0)] (chunk_Write_mi a1 a0 a3)) (s2 := St.of [(2, .d (eint a2)), (4, .ptr 1 0), (5, .ptr 2 0), (7, .ptr 3 0), (8, .ptr 4 0)] (chunk_Write_mi a1 a0 a3))
      (s3 := St.of [(4, .ptr 1 0), (5, .ptr 2 0), (7, .ptr 3 0), (8, .ptr 4 0), (26, .fn 64 [] [.ptr 6 0, .ptr 5 0])] (wrObj a1 ((a0, a3), a2, (a3.size : Int)))) Tryz.func13 rfl rfl rfl ?_ ?_ ?_ rfl (enters_of Tryz.func64 (by kernel_rfl) rfl) ?_ ?_
    · refine cw_post (cw_region (
        .cons (o_box 1 rfl rfl .no rfl rfl rfl) <|
        .cons (o_box 2 rfl rfl .no rfl rfl rfl) <|
        .cons (o_box 3 rfl rfl .no rfl rfl rfl) <|
        .cons (o_alloc 4 rfl rfl .no ze29 rfl) <|
        .nil rfl) ?_)
      exact ⟨_, (show Leads _ _ (St.of [(2, .d (eint a2)), (4, .ptr 1 0), (5, .ptr 2 0), (7, .ptr 3 0), (8, .ptr 4 0)] [(0, .own (oviewView a0)), (1, .box (.ptr 0 0)), (2, .box (.d (eint a1))), (3, .box (.d (estring a3))), (4, .box (.d (eapiErrno 0)))]) from .w (weak_of ⟨⟨_, rfl, .d rfl⟩, ⟨_, rfl, .ptr rfl rfl⟩, ⟨_, rfl, .ptr rfl rfl⟩, ⟨_, rfl, .ptr rfl rfl⟩, ⟨_, rfl, .ptr rfl rfl⟩, trivial⟩ ⟨.own rfl (.of_eq rfl (oviewView_dat _)), .box rfl (.ptro rfl rfl), .box rfl (.d rfl), .box rfl (.d rfl), .box rfl (.d rfl), trivial⟩ (dropK rfl))), rfl, rfl⟩
    · refine cw_post (cw_seq (cw_region (
        .cons (o_ldP [] rfl rfl .no rfl rfl rfl ta3 rfl rfl) <|
        .cons (o_mv rfl rfl .no rfl) <|
        .cons (o_ldP [] rfl rfl .no rfl rfl rfl ta9 rfl rfl) <|
        .cons (o_lenS rfl rfl .no rfl un9) <|
        .cons (o_call rfl rfl .no Tryz.func28 rfl rfl (chunk_may_ok hx) (.cons rfl .d (.cons rfl .d (.cons rfl .d .nil))) ⟨trivial, trivial, trivial, trivial⟩ (.inl rfl)) <|
        .cons (o_not rfl rfl .no rfl) <|
        .nil rfl) ?_))
      refine cw_condF rfl hc (cw_skip ?_)
      exact ⟨_, (show Leads _ _ (St.of [(2, .d (eint a2)), (4, .ptr 1 0), (5, .ptr 2 0), (7, .ptr 3 0), (8, .ptr 4 0)] [(0, .own (oviewView a0)), (1, .box (.ptr 0 0)), (2, .box (.d (eint a1))), (3, .box (.d (estring a3))), (4, .box (.d (eapiErrno 0)))]) from .w (weak_of ⟨⟨_, rfl, .d rfl⟩, ⟨_, rfl, .ptr rfl rfl⟩, ⟨_, rfl, .ptr rfl rfl⟩, ⟨_, rfl, .ptr rfl rfl⟩, ⟨_, rfl, .ptr rfl rfl⟩, trivial⟩ ⟨.own rfl (.of_eq rfl (oviewView_dat _)), .box rfl (.ptro rfl rfl), .box rfl (.d rfl), .box rfl (.d rfl), .box rfl (.d rfl), trivial⟩ (dropK rfl))), rfl, rfl⟩
    · refine cw_post (cw_region (
        .cons (o_mv rfl rfl .no rfl) <|
        .cons (o_ldP [] rfl rfl .no rfl rfl rfl ta9 rfl rfl) <|
        .cons (o_lenS rfl rfl .no rfl un9) <|
        .cons (o_callX (fun n => bif Nat.beq n 0 then 5 else 6) rfl rfl .no Tryz.func32 rfl rfl chunk_pieces_ok (.cons rfl .d (.cons rfl .d .nil)) (callInG [0, 1] rfl ⟨trivial, trivial, trivial⟩ trivial rfl rfl rfl ⟨rfl, rfl, trivial⟩ rfl) (.inl rfl)) <|
        .nil rfl) ?_)
      exact ⟨_, (show Leads _ _ (St.of [(4, .ptr 1 0), (5, .ptr 2 0), (7, .ptr 3 0), (8, .ptr 4 0), (26, .fn 64 [] [.ptr 6 0, .ptr 5 0])] [(0, .own (oviewView a0)), (1, .box (.ptr 0 0)), (2, .box (.d (eint a1))), (3, .box (.d (estring a3))), (4, .box (.d (eapiErrno 0))), (5, .box (.d (eint a2))), (6, .box (.d (eint (a3.size : Int))))]) from .w (weak_of ⟨⟨_, rfl, .ptr rfl rfl⟩, ⟨_, rfl, .ptr rfl rfl⟩, ⟨_, rfl, .ptr rfl rfl⟩, ⟨_, rfl, .ptr rfl rfl⟩, ⟨_, rfl, .fn .nil (.cons (.ptr rfl rfl) (.cons (.ptr rfl rfl) .nil))⟩, trivial⟩ ⟨.own rfl (.of_eq rfl (oviewView_dat _)), .box rfl (.ptro rfl rfl), .box rfl (.d rfl), .box rfl (.d rfl), .box rfl (.d rfl), .box rfl (.d rfl), .box rfl (.d rfl), trivial⟩ (dropK rfl))), rfl, rfl⟩
    · intro l rec E0 vals e1 e2 e3 e4 e5 e6 e7 e8 e9 e10 e11 e12 e13
      refine pieces_it ho l rec E0 vals e1 e2 e3 e4 e5 e6 e7 e8 e9 e10 e11 (fun t x ht => ?_) e13
      have hm := lk_mem ht
      simp only [chunk_Write_sO, List.mem_cons, List.not_mem_nil, or_false, Prod.mk.injEq] at hm
      rcases hm with ⟨rfl, rfl⟩ | ⟨rfl, rfl⟩ | ⟨rfl, rfl⟩ | ⟨rfl, rfl⟩ <;> exact e12 _ _ rfl
    · intro ds
      refine cr_seq (cr_region (
        .cons (o_st [] rfl .no rfl rfl rfl rfl rfl sz29 rfl rfl) <|
        .nil rfl) ?_)
      refine cr_leads (show Leads _ _ (St.of [(8, .ptr 4 0)] [(0, .own (oviewView o.1.1)), (4, .box (.d (eapiErrno 0)))]) from .w (weak_of ⟨⟨_, rfl, .ptr rfl rfl⟩, trivial⟩ ⟨.own rfl (.of_eq rfl (oviewView_dat _)), .box rfl (.d rfl), trivial⟩ (dropK rfl))) ?_
      exact cr_ret ⟨.inr rfl, ⟨5, lk_lt rfl⟩, _, resC rfl rfl rfl ta29 rfl rfl, rfl, rfl⟩
end
end Go.Val

