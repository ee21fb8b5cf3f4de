/- A loop over an iterator: stretches of a run, a round as a call, yield in the iterator. -/
import Derived.Test.YthipaajmgfnagaaGreatDoorXs
import Derived.Test.YthipaajmgfnagaaGreatDoorXq
import Derived.Test.YthipaajmgfnagaaGreatDoorLb
import Derived.LoopNIn
set_option linter.unusedSectionVars false
set_option linter.unusedVariables false
set_option linter.unusedSimpArgs false
namespace Go.Val
open Go.RowKit
variable [Drw]

/-! ### Stretches of a run -/
structure SegX (L : Nat → Prop) (E E' : Env) : Prop where
  ok : EnvOk E'
  own : ∀ o b, E'.obj o ≠ none → E'.has o b → E.w.heap.size ≤ b ∨ E.T b
  keeps : Keeps ⟨(0, 0), E, fun b => E.T b ∨ L b, E.J⟩ E'.w
  jsub : ∀ b, E'.J b → E.J b ∨ E.w.heap.size ≤ b ∨ E.T b
  jsup : ∀ b, b < E.w.heap.size → E.J b → E'.J b
  hist : ∀ o ob, E.obj o = some ob → ∃ ob', E'.obj o = some ob' ∧ OExt E E' o ob ob'

theorem SegX.ltsz {L : Nat → Prop} {E E' : Env} (h : SegX L E E') : E.w.heap.size ≤ E'.w.heap.size := h.keeps.size

theorem SegX.trans {L : Nat → Prop} {E E' E'' : Env} (h : SegX L E E') (k : SegX L E' E'') : SegX L E E'' := by
  have ho : ∀ b, E'.w.heap.size ≤ b ∨ E'.T b → E.w.heap.size ≤ b ∨ E.T b := by
    rintro b (q | ⟨o, q1, q2⟩)
    · exact .inl (Nat.le_trans h.ltsz q)
    · exact h.own o b q1 q2
  refine ⟨k.ok, fun o b q1 q2 => ho b (k.own o b q1 q2), ?_, fun b q => ?_, fun b q0 q => k.jsup b (Nat.lt_of_lt_of_le q0 h.ltsz) (h.jsup b q0 q), fun o ob q => ?_⟩
  · refine ⟨k.keeps.os.trans h.keeps.os, k.keeps.tape.trans h.keeps.tape, k.keeps.output.trans h.keeps.output, Nat.le_trans h.keeps.size k.keeps.size, fun b q1 q2 => ?_, fun d => Nat.le_trans (h.keeps.drawn d) (k.keeps.drawn d)⟩
    refine (k.keeps.block b (Nat.lt_of_lt_of_le q1 h.ltsz) ?_).trans (h.keeps.block b q1 q2)
    rintro (q | q)
    · rcases ho b (.inr q) with q3 | q3
      · have : b < E.w.heap.size := q1
        omega
      · exact q2 (.inl q3)
    · exact q2 (.inr q)
  · rcases k.jsub b q with q | q
    · exact h.jsub b q
    · exact .inr (ho b q)
  · obtain ⟨ob', q1, q2⟩ := h.hist o ob q
    obtain ⟨ob'', q3, q4⟩ := k.hist o ob' q1
    exact ⟨ob'', q3, q2.trans q4⟩

theorem SegX.ext {L : Nat → Prop} {E E' : Env} (h : SegX L E E') (hL : ∀ b, L b → ¬ E.J b) : Ext E E' := by
  have hT : ∀ b, E.I b → ¬ E.T b := by
    rintro b q ⟨o, q1, q2⟩
    obtain ⟨ob, q1⟩ := Option.ne_none_iff_exists'.1 q1
    exact q.2 o ob q1 q2
  refine ⟨h.ltsz, fun b q1 q2 => ⟨⟨h.jsup b q2 q1.1, fun o ob q3 q4 => ?_⟩, h.keeps.block b q2 ?_⟩, h.hist⟩
  · rcases h.own o b (by rw [q3]; simp) q4 with q | q
    · omega
    · exact hT b q1 q
  · rintro (q | q)
    · exact hT b q1 q
    · exact hL b q q1.1

/-- The blocks that one may write: those that were free to be named, the new ones, those of the objects. -/
def Env.J' (E : Env) (b : Nat) : Prop := E.J b ∨ E.w.heap.size ≤ b ∨ E.T b
def Env.cx (E : Env) (nk : Nat × Nat) : Cx := ⟨nk, E, E.T, E.J'⟩

theorem SegX.of_r0 {L : Nat → Prop} {nk : Nat × Nat} {E E' : Env} {s : St} {a : Act} (h : R0 (E.cx nk) s a E') : SegX L E E' := by
  have hm : E'.J = E.J' := h.may
  refine ⟨⟨fun o ob ho => h.objs o ob (by rw [← h.obj]; exact ho), fun o o' b q1 q2 e1 e2 => h.inj o o' b (by rw [← h.obj]; exact q1) (by rw [← h.obj]; exact q2) e1 e2⟩, fun o b q1 q2 => h.own o b (by rw [← h.obj]; exact q1) q2,
    ⟨h.keeps.os, h.keeps.tape, h.keeps.output, h.keeps.size, fun b q1 q2 => h.keeps.block b q1 (fun q => q2 (.inl q)), h.keeps.drawn⟩, fun b q => by rw [hm] at q; exact q, fun b _ q => by rw [hm]; exact .inl q, h.hist⟩

theorem SegX.close {l : Nat} {E E' : Env} (h : SegX (· = l) E E') (hl : E'.w.heap[l]? = E.w.heap[l]?) : SegX (fun _ => False) E E' :=
  ⟨h.ok, h.own, ⟨h.keeps.os, h.keeps.tape, h.keeps.output, h.keeps.size, fun b q1 q2 => by
    by_cases e : b = l
    · subst e; exact hl
    · exact h.keeps.block b q1 (fun q => q.elim (fun q => q2 (.inl q)) (fun q => e q)), h.keeps.drawn⟩, h.jsub, h.jsup, h.hist⟩

theorem SegX.ret {E E' : Env} {Post : AV → (Nat → Option OB) → Prop} {res : AV} {v : Value} (h : SegX (fun _ => False) E E') (hp : Post res E'.obj) (hv : VR E' res v) : Ret E Post (.returned v) E'.w :=
  ⟨v, res, E', rfl, rfl, hp, hv, h.ok, h.own, ⟨h.keeps.os, h.keeps.tape, h.keeps.output, h.keeps.size, fun b q1 q2 => h.keeps.block b q1 (fun q => q.elim q2 id), h.keeps.drawn⟩, h.jsub, h.hist⟩

/-- A run begins. -/
theorem r0_start {nk : Nat × Nat} {E : Env} {s : St} {a : Act} (hE : E.obj = s.obj) (hok : EnvOk E) (hk : ∀ o, s.obj o ≠ none → o < nk.2) (hd : a.defers = []) (hsz : a.tmps.size = nk.1)
    (hsl : ∀ t x, s.slot t = some x → VR E x (a.tmps.getD t undef)) : R0 (E.cx nk) s a { E with J := E.J' } := by
  let E0 : Env := { E with J := E.J' }
  have ext : Ext E E0 := by
    refine ⟨Nat.le_refl _, fun b hb _ => ⟨⟨.inl hb.1, hb.2⟩, rfl⟩, fun o ob ho => ⟨ob, ho, ?_⟩⟩
    cases ob <;> simp [OExt, E0]
  refine ⟨hE, rfl, fun b hb => .inr hb, fun o ho => hk o (by rw [← hE]; exact ho), ext.live, hd, hsz, fun t x ht => (hsl t x ht).ext ext, fun o ob ho => ?_, fun o o' b h1 h2 e1 e2 => hok.2 o o' b (by rw [hE]; exact h1) (by rw [hE]; exact h2) e1 e2,
    fun o b h1 e1 => .inr ⟨o, by rw [hE]; exact h1, e1⟩, ⟨rfl, rfl, rfl, Nat.le_refl _, fun _ _ _ => rfl, fun _ => Nat.le_refl _⟩⟩
  have := hok.1 o ob (by rw [hE]; exact ho)
  exact this.ext ext (by rw [hE]; exact ho) rfl rfl rfl rfl (fun _ _ => rfl) (fun m ver l cu e => ⟨rfl, fun es hes => ⟨hes, rfl, rfl⟩, fun h => h⟩)

theorem r_start {nk : Nat × Nat} {E : Env} {s : St} {a : Act} (hE : E.obj = s.obj) (hok : EnvOk E) (hk : ∀ o, s.obj o ≠ none → o < nk.2) (hd : a.defers = []) (hsz : a.tmps.size = nk.1)
    (hsl : ∀ t x, s.slot t = some x → VR E x (a.tmps.getD t undef)) : R (E.cx nk) s a E.w := ⟨{ E with J := E.J' }, rfl, r0_start hE hok hk hd hsz hsl⟩

/-- The environment in another world that differs at blocks of no object. -/
theorem envOk_world {E : Env} {w : World} (hok : EnvOk E) (he : Ext E { E with w := w }) (hb : ∀ o ob b, E.obj o = some ob → E.has o b → w.heap[b]? = E.w.heap[b]?) : EnvOk { E with w := w } :=
  ⟨fun o ob ho => (hok.1 o ob ho).ext he ho rfl rfl rfl rfl (fun b q => hb o ob b ho q) (fun m ver l cu e => ⟨rfl, fun es hes => ⟨hes, rfl, rfl⟩, fun h => h⟩), hok.2⟩

def Env.putL (E : Env) (l : Nat) (x : Obj) : Env := { E with w := E.w.putObj l x }

theorem SegX.putL {E : Env} {l : Nat} {x o : Obj} (hok : EnvOk E) (hl : E.w.heap[l]? = some o) (hh : ∀ c, E.obj c ≠ none → ¬ E.has c l) (hJ : ¬ E.J l) : SegX (· = l) E (E.putL l x) := by
  have same : ∀ b, b ≠ l → (E.w.putObj l x).heap[b]? = E.w.heap[b]? := fun b e => World.putObj_heap_other e
  have he : Ext E (E.putL l x) := by
    refine ⟨by simp [Env.putL], fun b q1 _ => ⟨q1, same b (fun e => by subst e; exact hJ q1.1)⟩, fun o ob ho => ⟨ob, ho, ?_⟩⟩
    cases ob <;> simp [OExt, Env.putL]
  refine ⟨envOk_world hok he (fun o ob b q1 q2 => same b (fun e => by subst e; exact hh o (by rw [q1]; simp) q2)), fun o b q1 q2 => .inr ⟨o, q1, q2⟩, ⟨rfl, rfl, rfl, by simp [Env.putL, Cx.w0], fun b _ q => same b (fun e => q (.inr e)), fun _ => Nat.le_refl _⟩, fun b q => .inl q, fun b _ q => q, he.live⟩

theorem SegX.notJ {L : Nat → Prop} {E E' : Env} (h : SegX L E E') {l : Nat} (hlt : l < E.w.heap.size) (hT : ¬ E.T l) (hJ : ¬ E.J l) : ¬ E'.J l ∧ (∀ c, E'.obj c ≠ none → ¬ E'.has c l) := by
  refine ⟨fun q => ?_, fun c q1 q2 => ?_⟩
  · rcases h.jsub l q with q | q | q
    · exact hJ q
    · omega
    · exact hT q
  · rcases h.own c l q1 q2 with q | q
    · omega
    · exact hT q

/-! ### A round -/
/-- From these objects, with pd at the loop's left side, the assignment and the body lead to those. -/
def Round (l : Nat) (P : Program) (nt k : Nat) (sO : List (Nat × AV)) (p : Nat) (as bo : Code) (mi mo : List (Nat × OB)) (pd : AV) : Prop :=
  ∃ (sA : St) (k' : Nat), (∀ o, sA.obj o ≠ none → o < k') ∧ CWr (some l) [] P (nt, k) as (fun e s' => e = .normal ∧ s' = sA) ⟨upd (lk sO) p (some pd), lk mi⟩ ∧
    CWr (some l) [] P (nt, k') bo (fun e s' => e = .normal ∧ s'.obj = lk mo) sA

theorem round_ok {l m nt k p : Nat} {P : Program} {sO : List (Nat × AV)} {as bo : Code} {mi mo : List (Nat × OB)} {pd : AV} {pv : Value} {rec : Loop} {E : Env} (hE : E.obj = lk mi) (hok : EnvOk E) (hl : E.w.heap[l]? = some (.loop rec)) (hJ : ¬ E.J l)
    (hh : ∀ c, E.obj c ≠ none → ¬ E.has c l) (has : rec.assign = as) (hbo : rec.body = bo) (hpar : rec.params = #[p]) (htm : rec.tmps.size = nt) (hst : rec.state = .ready) (hpend : rec.pending = none) (hp : p < nt)
    (hsl : ∀ t x, lk sO t = some x → VR E x (rec.tmps.getD t undef)) (hpv : VR E pd pv) (hk : ∀ o, lk mi o ≠ none → o < k) (hR : Round l P nt k sO p as bo mi mo pd) :
    YieldAt Fence.wide m P l #[pv] E.w (Ret E (fun rr oo => rr = .d (.v (.bool true)) ∧ oo = lk mo)) := by
  subst has
  subst hbo
  obtain ⟨sA, k', hk', hA, hB⟩ := hR
  have hlt : l < E.w.heap.size := (Array.getElem?_eq_some_iff.1 hl).1
  have hT : ¬ E.T l := by rintro ⟨o, q1, q2⟩; exact hh o q1 q2
  refine ⟨rec.fn, _, rec.assign, rec.body, run_yield hl (by rw [hpar]; rfl), roundIn_of_wpIn trivial ?_⟩
  have e0 : ({ tmps := (rec.params.zip #[pv]).foldl (fun tmps (t, a) => tmps.setIfInBounds t a) rec.tmps, defers := [] } : Act) = Act.mark (({ tmps := rec.tmps, defers := [] } : Act).put (some p) pv) [] := by rw [hpar]; simp [Act.put, Act.mark]
  rw [e0]
  have h0 : R (E.cx (nt, k)) ⟨upd (lk sO) p (some pd), lk mi⟩ (({ tmps := rec.tmps, defers := [] } : Act).put (some p) pv) E.w := by
    refine r_start hE hok hk rfl (by simp [Act.put, htm]) (fun t x ht => ?_)
    rw [getD_put _ _ _ _ (by show p < rec.tmps.size; rw [htm]; exact hp)]
    simp only [upd_eq] at ht
    split at ht
    · cases ht; rw [if_pos (by assumption)]; exact hpv
    · rw [if_neg (by assumption)]; exact hsl t x ht
  refine wpIn_mono (hA _ rfl m _ _ h0) ?_
  rintro e a' w' ⟨s', a1, rfl, ⟨rfl, rfl⟩, Ea, rfl, hRa⟩
  have sa : ∀ {L : Nat → Prop}, SegX L E Ea := .of_r0 hRa
  obtain ⟨hJa, hha⟩ := (sa (L := fun _ => False)).notJ hlt hT hJ
  have hla : Ea.w.heap[l]? = some (.loop rec) := ((sa (L := fun _ => False)).keeps.block l hlt (fun q => q.elim hT id)).trans hl
  have hlta : l < Ea.w.heap.size := (Array.getElem?_eq_some_iff.1 hla).1
  refine ⟨_, run_beginRound hla hst, ?_⟩
  have sb : SegX (· = l) Ea (Ea.putL l (.loop { rec with state := .busy })) := .putL (sa (L := fun _ => False)).ok hla hha hJa
  have eb := sb.ext (fun b q => by subst q; exact hJa)
  have hobj : (Ea.putL l (.loop { rec with state := .busy })).obj = s'.obj := hRa.obj
  have h1 : R ((Ea.putL l (.loop { rec with state := .busy })).cx (nt, k')) s' a1 (Ea.putL l (.loop { rec with state := .busy })).w := r_start hobj sb.ok hk' hRa.defers hRa.size (fun t x ht => (hRa.slots t x ht).ext eb)
  have hlb : (Ea.putL l (.loop { rec with state := .busy })).w.heap[l]? = some (.loop { rec with state := .busy }) := World.putObj_heap_same hlta
  have hltb := (Array.getElem?_eq_some_iff.1 hlb).1
  have hTb : ¬ (Ea.putL l (.loop { rec with state := .busy })).T l := by rintro ⟨o, q1, q2⟩; exact hha o q1 q2
  refine wpIn_mono (hB _ rfl m _ _ h1) ?_
  rintro e a'' w'' ⟨s'', a2, rfl, ⟨rfl, hmo⟩, Ec, rfl, hRc⟩
  have sc : ∀ {L : Nat → Prop}, SegX L (Ea.putL l (.loop { rec with state := .busy })) Ec := .of_r0 hRc
  obtain ⟨hJc, hhc⟩ := (sc (L := fun _ => False)).notJ hltb hTb hJa
  have hlc : Ec.w.heap[l]? = some (.loop { rec with state := .busy }) := ((sc (L := fun _ => False)).keeps.block l hltb (fun q => q.elim hTb id)).trans hlb
  have hltc := (Array.getElem?_eq_some_iff.1 hlc).1
  refine ⟨_, _, run_endRound none hlc, ?_⟩
  have hrec : ({ ({ rec with state := .busy } : Loop) with state := if (none : Option Code).isNone then .ready else .done, pending := none } : Loop) = rec := by
    cases rec; simp_all
  rw [hrec]
  have sd : SegX (· = l) Ec (Ec.putL l (.loop rec)) := .putL (sc (L := fun _ => False)).ok hlc hhc hJc
  have tot : SegX (· = l) E (Ec.putL l (.loop rec)) := ((sa.trans sb).trans sc).trans sd
  have hle : (Ec.putL l (.loop rec)).w.heap[l]? = E.w.heap[l]? := by rw [hl]; exact World.putObj_heap_same hltc
  exact (tot.close hle).ret ⟨rfl, by show Ec.obj = lk mo; rw [hRc.obj]; exact hmo⟩ (.of_sc rfl)

/-! ### Yield in the iterator -/
theorem yield_after {l m nt k p : Nat} {P : Program} {sO : List (Nat × AV)} {as bo : Code} {mi mo : List (Nat × OB)} {pd : D} {pv : Value} {rec : Loop} {E0 E : Env} {nk : Nat × Nat} {s : St} {a : Act} {σ : Nat → Nat}
    (hR : R0 (E0.cx nk) s a E) (hl : E0.w.heap[l]? = some (.loop rec)) (hJ : ¬ E0.J l) (hh : ∀ c, E0.obj c ≠ none → ¬ E0.has c l)
    (has : rec.assign = as) (hbo : rec.body = bo) (hpar : rec.params = #[p]) (htm : rec.tmps.size = nt) (hst : rec.state = .ready) (hpend : rec.pending = none) (hp : p < nt)
    (hsl : ∀ t x, lk sO t = some x → VR E0 (x.ren σ) (rec.tmps.getD t undef)) (hlv : ∀ t x, lk sO t = some x → x.live (lk mi)) (hpv : VR E (.d pd) pv) (hC : CallIn s σ k mi mo [] []) (hRd : Round l P nt k sO p as bo mi mo (.d pd)) :
    YieldAt Fence.wide m P l #[pv] E.w (fun e w' => e = .returned (.bool true) ∧ ∃ E2, E2.w = w' ∧ R0 (E0.cx nk) { s with obj := setAll s.obj (mo.map fun p => (σ p.1, p.2.ren σ)) } a E2) := by
  have hlt : l < E0.w.heap.size := (Array.getElem?_eq_some_iff.1 hl).1
  have hT : ¬ E0.T l := by rintro ⟨o, q1, q2⟩; exact hh o q1 q2
  have sg : SegX (fun _ => False) E0 E := .of_r0 hR
  obtain ⟨hJE, hhE⟩ := sg.notJ hlt hT hJ
  have ext := sg.ext (fun _ q => q.elim)
  have hlE : E.w.heap[l]? = some (.loop rec) := (sg.keeps.block l hlt (fun q => q.elim hT id)).trans hl
  let Ec : Env := { obj := lk mi, β := fun o => E.β (σ o), γ := fun o => E.γ (σ o), δ := fun o => E.δ (σ o), φ := fun o => E.φ (σ o), J := fun bb => false = true ∨ E.I bb, w := E.w }
  have hEo : ∀ o ob, Ec.obj o = some ob → E.obj (σ o) = some (ob.ren σ) := fun o ob h => by rw [hR.obj]; exact (hC.objs _ (lk_mem h)).1
  have hS : Sub E Ec σ := ⟨rfl, hEo, fun _ => rfl, fun _ => rfl, fun _ => rfl, fun _ => rfl, fun bb hb => ⟨.inr hb, fun o ob h e => hb.2 (σ o) _ (hEo o ob h) (by
    rcases e with e | ⟨e, x, hx⟩
    · exact .inl e
    · exact .inr ⟨e, _, hEo _ _ hx⟩)⟩⟩
  have inj0 : ∀ m m', lk mi m ≠ none → lk mi m' ≠ none → σ m = σ m' → m = m' := by
    intro m m' h1 h2 e
    obtain ⟨x1, h1⟩ := Option.ne_none_iff_exists'.1 h1
    obtain ⟨x2, h2⟩ := Option.ne_none_iff_exists'.1 h2
    exact hC.inj _ (lk_mem h1) _ (lk_mem h2) e
  have hok : EnvOk Ec := by
    refine ⟨fun o ob h => ?_, fun o o' bb h1 h2 e1 e2 => ?_⟩
    · obtain ⟨q1, q2⟩ := hC.objs _ (lk_mem h)
      exact OR.unren hS q2 inj0 (hR.objs _ _ q1)
    · obtain ⟨x1, h1'⟩ := Option.ne_none_iff_exists'.1 h1
      obtain ⟨x2, h2'⟩ := Option.ne_none_iff_exists'.1 h2
      refine inj0 o o' h1 h2 (hR.inj _ _ bb ?_ ?_ (hS.has e1) (hS.has e2))
      · rw [(hC.objs _ (lk_mem h1')).1]; simp
      · rw [(hC.objs _ (lk_mem h2')).1]; simp
  have unv : ∀ {x : AV} {v : Value}, x.live (lk mi) → VR E (x.ren σ) v → VR Ec x v := by
    rintro x v hx ⟨cs, q1, q2⟩
    exact ⟨cs, CR.unren hS x hx q1, by rw [← ren_isAgg σ]; exact q2⟩
  have hy := round_ok (m := m) (E := Ec) (k := k) rfl hok hlE (fun q => by rcases q with q | q; cases q; exact hJE q.1) (fun c q1 q2 => by
      obtain ⟨x, hx⟩ := Option.ne_none_iff_exists'.1 q1
      exact hhE (σ c) (by rw [hEo _ _ hx]; simp) (hS.has q2)) has hbo hpar htm hst hpend hp
    (fun t x ht => unv (hlv t x ht) ((hsl t x ht).ext ext)) (unv (x := .d pd) trivial hpv) (fun o ho => by
      obtain ⟨x, hx⟩ := Option.ne_none_iff_exists'.1 ho
      exact hC.lt _ (lk_mem hx)) hRd
  obtain ⟨fn, tmps, as', bo', q1, q2⟩ := hy
  refine ⟨fn, tmps, as', bo', q1, q2.mono ?_⟩
  rintro e w' ⟨v, res, E', rfl, rfl, ⟨rfl, hpost⟩, hv, hok', hown, hkeep, hJ', hlive⟩
  obtain ⟨E2, r1, r2, r3⟩ := after_call (b := false) hR hC hS rfl (fun bb h => h) hpost hv hok' hown hkeep hJ' hlive (.inl rfl)
  have hvv : v = .bool true := r2.sc
  exact ⟨by rw [hvv], E2, r1, r3⟩

section
variable {P : Program} {cx : Cx} {N : Nat × Nat} {r : Option Nat} {ds : List Deferred}

/-- A loop as its rounds. -/
theorem cx_while {V O : Type} {c : Code} {Q : Exit → St → Prop} {s : St} {body : V → Option (V ⊕ O)} {v : V} {o : O} (hn : cx.nk = N) (st : V → St) (hw : whileO body v = some o) (h0 : Leads N s (st v))
    (round : ∀ v x, body v = some x → (∀ o', x = .inr o' → o' = o) → CWx r ds P cx c (thenS (fun s' => ∃ v', x = .inl v' ∧ Leads N s' (st v')) Q) (st v)) : CWx r ds P cx (.loop c) Q s := by
  obtain ⟨m, hm⟩ := whileO_some hw
  refine cx_leads hn h0 ?_
  intro n a w hR
  refine wpIn_loop_rounds m ?_
  clear h0 hw
  induction m generalizing v a w with
  | zero => cases hm
  | succ m ih =>
    simp only [iter] at hm
    obtain ⟨x, h1, h2⟩ := bind_some hm
    rw [roundsIn_succ]
    have hr := round v x h1 (fun o' e => by subst e; simpa using h2)
    refine wpIn_mono (hr n a w hR) ?_
    rintro e a' w' ⟨s', a0, rfl, hq, hR'⟩
    cases e with
    | normal =>
      obtain ⟨v', rfl, hwk⟩ := hq
      exact ih (v := v') h2 a0 w' (hwk cx a0 w' hn hR')
    | exit id => exact ⟨s', a0, rfl, hq, hR'⟩
    | goto l => exact ⟨s', a0, rfl, hq, hR'⟩
    | ret => exact ⟨s', a0, rfl, hq, hR'⟩
    | panic ch => exact ⟨s', a0, rfl, hq, hR'⟩
    | outgrown => exact ⟨s', a0, rfl, hq, hR'⟩

/-- The region that calls yield: its third operation of four. -/
theorem cx_yield {id l nt k p t17 t18 dd : Nat} {o0 o1 o3 : Oper} {T ty : TypeId} {pos : String} {af : Array Edge} {sO : List (Nat × AV)} {as bo : Code} {mi mo : List (Nat × OB)} {pd : D} {rec : Loop} {E0 : Env} {nk : Nat × Nat} {s : St} {σ : Nat → Nat} {Q : Exit → St → Prop} {r0 r1 r3 : SR}
    (hl : E0.w.heap[l]? = some (.loop rec)) (hJ : ¬ E0.J l) (hh : ∀ c, E0.obj c ≠ none → ¬ E0.has c l)
    (has : rec.assign = as) (hbo : rec.body = bo) (hpar : rec.params = #[p]) (htm : rec.tmps.size = nt) (hst : rec.state = .ready) (hpend : rec.pending = none) (hp : p < nt)
    (hsl : ∀ t x, lk sO t = some x → VR E0 (x.ren σ) (rec.tmps.getD t undef)) (hlv : ∀ t x, lk sO t = some x → x.live (lk mi)) (hRd : Round l P nt k sO p as bo mi mo (.d pd))
    (hd : noDefer #[o0, o1, ⟨some dd, .call ⟨.value (.tmp t17), #[.tmp t18], #[T]⟩, ty, pos, af, none⟩, o3] = true) (hdd : dd < nk.1)
    (v0 : Valid P nk #[o0, o1, ⟨some dd, .call ⟨.value (.tmp t17), #[.tmp t18], #[T]⟩, ty, pos, af, none⟩, o3] 0 r0 s)
    (v1 : Valid P nk #[o0, o1, ⟨some dd, .call ⟨.value (.tmp t17), #[.tmp t18], #[T]⟩, ty, pos, af, none⟩, o3] 1 r1 (r0.apply s))
    (h17 : (r1.apply (r0.apply s)).slot t17 = some (.d (.v (.func (.yield l) #[] #[])))) (h18 : (r1.apply (r0.apply s)).slot t18 = some (.d pd)) (hC : CallIn (r1.apply (r0.apply s)) σ k mi mo [] [])
    (v3 : Valid P nk #[o0, o1, ⟨some dd, .call ⟨.value (.tmp t17), #[.tmp t18], #[T]⟩, ty, pos, af, none⟩, o3] 3 r3 (St.put { (r1.apply (r0.apply s)) with obj := setAll (r1.apply (r0.apply s)).obj (mo.map fun p => (σ p.1, p.2.ren σ)) } dd (.d (.v (.bool true)))))
    (hQ : Q .normal (r3.apply (St.put { (r1.apply (r0.apply s)) with obj := setAll (r1.apply (r0.apply s)).obj (mo.map fun p => (σ p.1, p.2.ren σ)) } dd (.d (.v (.bool true)))))) :
    CWx none [] P (E0.cx nk) (.region id #[o0, o1, ⟨some dd, .call ⟨.value (.tmp t17), #[.tmp t18], #[T]⟩, ty, pos, af, none⟩, o3] false) Q s := by
  intro n a w hR
  refine wpIn_region ?_
  show wpOpsIn (FR none) n P _ _ [0, 1, 2, 3] _ _
  rw [wpOpsIn_cons]
  refine wpOpIn_of_valid hd rfl v0 hR (fun a w hR => ?_)
  rw [wpOpsIn_cons]
  refine wpOpIn_of_valid hd rfl v1 hR (fun a w hR => ?_)
  obtain ⟨E, rfl, hR⟩ := hR
  have e17 : a.eval (.tmp t17) = .func (.yield l) #[] #[] := by
    have := (hR.slots _ _ h17).sc
    exact this
  have hpv : VR E (.d pd) (a.eval (.tmp t18)) := hR.slots _ _ h18
  obtain ⟨fn, tmps, as', bo', y1, y2⟩ := yield_after (m := n - 1) hR hl hJ hh has hbo hpar htm hst hpend hp hsl hlv hpv hC hRd
  refine in_round (o := ⟨some dd, .call ⟨.value (.tmp t17), #[.tmp t18], #[T]⟩, ty, pos, af, none⟩) (w' := E.w) rfl rfl (by intro c h; cases h) (fun _ => trivial) rfl (l := l) (fn := fn) (tmps := tmps) (assign := as') (body := bo') ?_ (RoundIn.mono (show RoundIn (FR none) (n - 1) P l fn tmps as' bo' E.w _ from y2) ?_)
  · simp only [execOp, resolve, eval_mark, e17, Deferred.ofValue, Sem.run_bind, Sem.run_pure, Result.andThen, invoke, List.map_toArray, List.map_cons, List.map_nil]
    exact y1
  rintro e w' ⟨rfl, E2, rfl, hR2⟩
  refine ⟨_, rfl, ?_⟩
  rw [mark_put, wpOpsIn_cons]
  refine wpOpIn_of_valid hd rfl v3 ⟨E2, rfl, hR2.put (.of_sc rfl) hdd⟩ (fun a w hR => ?_)
  exact ⟨_, a, rfl, hQ, hR⟩
end

end Go.Val

