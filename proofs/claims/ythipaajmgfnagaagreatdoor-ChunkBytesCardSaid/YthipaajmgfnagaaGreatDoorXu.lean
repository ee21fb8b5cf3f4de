/- A function whose body is a loop over an iterator, between what comes ahead and what comes behind. -/
import Derived.Test.YthipaajmgfnagaaGreatDoorXt
import Derived.RangeFuncLeaves
set_option linter.unusedSectionVars false
set_option linter.unusedVariables false
set_option linter.unusedSimpArgs false
namespace Go.Val
open Go.RowKit
variable [Drw]

theorem SegX.mono {L L' : Nat → Prop} {E E' : Env} (h : SegX L E E') (hl : ∀ b, L b → L' b) : SegX L' E E' :=
  ⟨h.ok, h.own, ⟨h.keeps.os, h.keeps.tape, h.keeps.output, h.keeps.size, fun b q1 q2 => h.keeps.block b q1 (fun q => q2 (q.imp id (hl b))), h.keeps.drawn⟩, h.jsub, h.jsup, h.hist⟩

theorem SegX.retNew {L : Nat → Prop} {E E' : Env} {Post : AV → (Nat → Option OB) → Prop} {res : AV} {v : Value} (h : SegX L E E') (hL : ∀ b, L b → E.w.heap.size ≤ b) (hp : Post res E'.obj) (hv : VR E' res v) : Ret E Post (.returned v) E'.w :=
  ⟨v, res, E', rfl, rfl, hp, hv, h.ok, h.own, ⟨h.keeps.os, h.keeps.tape, h.keeps.output, h.keeps.size, fun b q1 q2 => h.keeps.block b q1 (by
    rintro (q | q)
    · exact q2 q
    · have := hL b q
      have q1 : b < E.w.heap.size := q1
      omega), h.keeps.drawn⟩, h.jsub, h.hist⟩

theorem SegX.of_ret {E : Env} {Post : AV → (Nat → Option OB) → Prop} {e : Ending} {w' : World} (h : Ret E Post e w') : ∃ v res E', e = .returned v ∧ E'.w = w' ∧ Post res E'.obj ∧ VR E' res v ∧ SegX (fun _ => False) E E' := by
  obtain ⟨v, res, E1, rfl, rfl, hp, hv, hok, hown, hkeep, hJ, hlive⟩ := h
  let E' : Env := { E1 with J := fun b => E1.J b ∨ E.J b }
  have ext : Ext E1 E' := by
    refine ⟨Nat.le_refl _, fun b hb _ => ⟨⟨.inl hb.1, hb.2⟩, rfl⟩, fun o ob ho => ⟨ob, ho, ?_⟩⟩
    cases ob <;> simp [OExt, E']
  refine ⟨v, res, E', rfl, rfl, hp, hv.ext ext, ⟨?_, hown, ⟨hkeep.os, hkeep.tape, hkeep.output, hkeep.size, fun b q1 q2 => hkeep.block b q1 (fun q => q2 (.inl q)), hkeep.drawn⟩, fun b q => ?_, fun b _ q => .inr q, fun o ob q => ?_⟩⟩
  · exact ⟨fun o ob ho => (hok.1 o ob ho).ext ext ho rfl rfl rfl rfl (fun _ _ => rfl) (fun m ver l cu e => ⟨rfl, fun es hes => ⟨hes, rfl, rfl⟩, fun h => h⟩), hok.2⟩
  · rcases q with q | q
    · exact hJ b q
    · exact .inl q
  · obtain ⟨ob', q1, q2⟩ := hlive o ob q
    refine ⟨ob', q1, ?_⟩
    cases ob <;> cases ob' <;> simp only [OExt] at q2 ⊢ <;> exact q2

/-- Two new blocks that nobody may name. -/
theorem SegX.two {E : Env} (hok : EnvOk E) (x y : Obj) (E2 : Env) (h2 : E2 = { E with w := (E.w.alloc x).alloc y, J := fun b => E.J b ∧ b < E.w.heap.size }) {L : Nat → Prop} : SegX L E E2 ∧ Ext E E2 := by
  subst h2
  have same : ∀ b, b < E.w.heap.size → ((E.w.alloc x).alloc y).heap[b]? = E.w.heap[b]? := fun b hb => (Below.heap_alloc _ _ _ (by simp; omega)).trans (Below.heap_alloc _ _ _ hb)
  have he : Ext E { E with w := (E.w.alloc x).alloc y, J := fun b => E.J b ∧ b < E.w.heap.size } := by
    refine ⟨by simp; omega, fun b q1 q2 => ⟨⟨⟨q1.1, q2⟩, q1.2⟩, same b q2⟩, fun o ob ho => ⟨ob, ho, ?_⟩⟩
    cases ob <;> simp [OExt]
  refine ⟨⟨⟨fun o ob ho => (hok.1 o ob ho).ext he ho rfl rfl rfl rfl (fun b q => same b ((hok.1 o ob ho).lth ho q)) (fun m ver l cu e => ⟨rfl, fun es hes => ⟨hes, rfl, rfl⟩, fun h => h⟩), hok.2⟩, fun o b q1 q2 => .inr ⟨o, q1, q2⟩,
    ⟨rfl, rfl, rfl, by simp [Cx.w0]; omega, fun b q _ => same b q, fun _ => Nat.le_refl _⟩, fun b q => .inl q.1, fun b q0 q => ⟨q, q0⟩, he.live⟩, he⟩

/-- A stretch in which only the objects below k are to live on. -/
structure SegK (k : Nat) (L : Nat → Prop) (E E' : Env) : Prop where
  ok : EnvOk E'
  own : ∀ o b, E'.obj o ≠ none → E'.has o b → E.w.heap.size ≤ b ∨ E.T b
  keeps : Keeps ⟨(0, 0), E, fun b => E.T b ∨ L b, E.J⟩ E'.w
  jsub : ∀ b, E'.J b → E.J b ∨ E.w.heap.size ≤ b ∨ E.T b
  hist : ∀ o ob, o < k → E.obj o = some ob → ∃ ob', E'.obj o = some ob' ∧ OExt E E' o ob ob'

theorem SegX.toK {k : Nat} {L : Nat → Prop} {E E' : Env} (h : SegX L E E') : SegK k L E E' := ⟨h.ok, h.own, h.keeps, h.jsub, fun o ob _ => h.hist o ob⟩

theorem SegK.trans {k : Nat} {L : Nat → Prop} {E E' E'' : Env} (h : SegK k L E E') (g : SegK k L E' E'') : SegK k L E E'' := by
  have ho : ∀ b, E'.w.heap.size ≤ b ∨ E'.T b → E.w.heap.size ≤ b ∨ E.T b := by
    rintro b (q | ⟨o, q1, q2⟩)
    · exact .inl (Nat.le_trans h.keeps.size q)
    · exact h.own o b q1 q2
  refine ⟨g.ok, fun o b q1 q2 => ho b (g.own o b q1 q2), ?_, fun b q => ?_, fun o ob q0 q => ?_⟩
  · refine ⟨g.keeps.os.trans h.keeps.os, g.keeps.tape.trans h.keeps.tape, g.keeps.output.trans h.keeps.output, Nat.le_trans h.keeps.size g.keeps.size, fun b q1 q2 => ?_, fun d => Nat.le_trans (h.keeps.drawn d) (g.keeps.drawn d)⟩
    refine (g.keeps.block b (Nat.lt_of_lt_of_le q1 h.keeps.size) ?_).trans (h.keeps.block b q1 q2)
    rintro (q | q)
    · rcases ho b (.inr q) with q3 | q3
      · have : b < E.w.heap.size := q1
        omega
      · exact q2 (.inl q3)
    · exact q2 (.inr q)
  · rcases g.jsub b q with q | q
    · exact h.jsub b q
    · exact .inr (ho b q)
  · obtain ⟨ob', q1, q2⟩ := h.hist o ob q0 q
    obtain ⟨ob'', q3, q4⟩ := g.hist o ob' q0 q1
    exact ⟨ob'', q3, q2.trans q4⟩

theorem SegK.retNew {k : Nat} {L : Nat → Prop} {E E' : Env} {Post : AV → (Nat → Option OB) → Prop} {res : AV} {v : Value} (h : SegK k L E E') (hk : ∀ o, E.obj o ≠ none → o < k) (hL : ∀ b, L b → E.w.heap.size ≤ b) (hp : Post res E'.obj) (hv : VR E' res v) : Ret E Post (.returned v) E'.w :=
  ⟨v, res, E', rfl, rfl, hp, hv, h.ok, h.own, ⟨h.keeps.os, h.keeps.tape, h.keeps.output, h.keeps.size, fun b q1 q2 => h.keeps.block b q1 (by
    rintro (q | q)
    · exact q2 q
    · have := hL b q
      have q1 : b < E.w.heap.size := q1
      omega), h.keeps.drawn⟩, h.jsub, fun o ob q => h.hist o ob (hk o (by rw [q]; simp)) q⟩

/-- A run in which only the objects below k are to live on. -/
def Env.cxK (E : Env) (nk : Nat × Nat) : Cx := ⟨nk, { E with obj := fun o => bif Nat.blt o nk.2 then E.obj o else none }, E.T, E.J'⟩

theorem r0_startK {nk : Nat × Nat} {E : Env} {s : St} {a : Act} (hE : E.obj = s.obj) (hok : EnvOk E) (hd : a.defers = []) (hsz : a.tmps.size = nk.1)
    (hsl : ∀ t x, s.slot t = some x → VR E x (a.tmps.getD t undef)) : R0 (E.cxK nk) s a { E with J := E.J' } := by
  obtain ⟨kb, hkb⟩ : ∃ kb : Nat, True := ⟨0, trivial⟩
  let E0 : Env := { E with J := E.J' }
  have ext : Ext E E0 := by
    refine ⟨Nat.le_refl _, fun b hb _ => ⟨⟨.inl hb.1, hb.2⟩, rfl⟩, fun o ob ho => ⟨ob, ho, ?_⟩⟩
    cases ob <;> simp [OExt, E0]
  refine ⟨hE, rfl, fun b hb => .inr hb, fun o ho => ?_, fun o ob ho => ?_, hd, hsz, fun t x ht => (hsl t x ht).ext ext, fun o ob ho => ?_, fun o o' b h1 h2 e1 e2 => hok.2 o o' b (by rw [hE]; exact h1) (by rw [hE]; exact h2) e1 e2,
    fun o b h1 e1 => .inr ⟨o, by rw [hE]; exact h1, e1⟩, ⟨rfl, rfl, rfl, Nat.le_refl _, fun _ _ _ => rfl, fun _ => Nat.le_refl _⟩⟩
  · simp only [Env.cxK] at ho ⊢
    cases hq : Nat.blt o nk.2 with
    | true => exact Nat.le_of_ble_eq_true hq
    | false => rw [hq] at ho; exact absurd rfl ho
  · simp only [Env.cxK] at ho
    cases hq : Nat.blt o nk.2 with
    | true =>
      rw [hq] at ho
      refine ⟨ob, ho, ?_⟩
      cases ob <;> simp [OExt, Env.cxK]
    | false => rw [hq] at ho; cases ho
  have := hok.1 o ob (by rw [hE]; exact ho)
  exact this.ext ext (by rw [hE]; exact ho) rfl rfl rfl rfl (fun _ _ => rfl) (fun m ver l cu e => ⟨rfl, fun es hes => ⟨hes, rfl, rfl⟩, fun h => h⟩)

theorem SegK.of_r0 {L : Nat → Prop} {nk : Nat × Nat} {E E' : Env} {s : St} {a : Act} (h : R0 (E.cxK nk) s a E') : SegK nk.2 L E E' := by
  have hm : E'.J = E.J' := h.may
  refine ⟨⟨fun o ob ho => h.objs o ob (by rw [← h.obj]; exact ho), fun o o' b q1 q2 e1 e2 => h.inj o o' b (by rw [← h.obj]; exact q1) (by rw [← h.obj]; exact q2) e1 e2⟩, fun o b q1 q2 => h.own o b (by rw [← h.obj]; exact q1) q2,
    ⟨h.keeps.os, h.keeps.tape, h.keeps.output, h.keeps.size, fun b q1 q2 => h.keeps.block b q1 (fun q => q2 (.inl q)), h.keeps.drawn⟩, fun b q => by rw [hm] at q; exact q, fun o ob q0 q => ?_⟩
  have hb : Nat.blt o nk.2 = true := Nat.ble_eq_true_of_le q0
  obtain ⟨ob', q1, q2⟩ := h.hist o ob (by simp only [Env.cxK, hb, cond_true]; exact q)
  refine ⟨ob', q1, ?_⟩
  cases ob <;> cases ob' <;> simp only [OExt] at q2 ⊢ <;> exact q2

theorem SegK.notJ {k : Nat} {L : Nat → Prop} {E E' : Env} (h : SegK k L E E') {l : Nat} (hlt : l < E.w.heap.size) (hT : ¬ E.T l) (hJ : ¬ E.J l) : ¬ E'.J l ∧ (∀ c, E'.obj c ≠ none → ¬ E'.has c l) := by
  refine ⟨fun q => ?_, fun c q1 q2 => ?_⟩
  · rcases h.jsub l q with q | q | q
    · exact hJ q
    · omega
    · exact hT q
  · rcases h.own c l q1 q2 with q | q
    · omega
    · exact hT q

theorem lk_lt {α : Type} {m : List (Nat × α)} {k : Nat} (h : m.all (fun p => Nat.ble (p.1 + 1) k) = true) : ∀ o, lk m o ≠ none → o < k := by
  intro o ho
  obtain ⟨x, hx⟩ := Option.ne_none_iff_exists'.1 ho
  exact Nat.le_of_ble_eq_true (List.all_eq_true.1 h _ (lk_mem hx))

/-- A call out of the body's run in an environment that is known. -/
theorem calls_of_cx {P : Program} {f nt k : Nat} {fn : Func} {c : Code} {E : Env} {s : St} {vals : List Value} {Post : AV → (Nat → Option OB) → Prop} (hf : P.funcs[f]? = some fn) (hb : fn.body = some c) (hn : fn.ntmps = nt) (hlen : vals.length ≤ nt)
    (hE : E.obj = s.obj) (hok : EnvOk E) (hk : ∀ o, s.obj o ≠ none → o < k) (hvals : ∀ t x, s.slot t = some x → ∃ v, vals[t]? = some v ∧ VR E x v)
    (h : CWx none [] P (E.cx (nt, k)) c (fun e s' => (e = .normal ∨ e = .ret) ∧ ∃ res, ResOk P fn s' res ∧ Post res s'.obj) s) : Calls P f vals.toArray E.w (Ret E Post) := by
  refine calls_of_wp hf hb ?_
  have hR : R (E.cx (nt, k)) s { tmps := vals.toArray ++ Array.replicate (fn.ntmps - vals.toArray.size) undef, defers := [] } E.w := by
    refine r_start hE hok hk rfl (by rw [hn]; simp; omega) (fun t x ht => ?_)
    obtain ⟨v, h1, h2⟩ := hvals t x ht
    have hlt := (List.getElem?_eq_some_iff.1 h1).1
    have : (vals.toArray ++ Array.replicate (fn.ntmps - vals.toArray.size) undef).getD t undef = v := by
      rw [Array.getD_eq_getD_getElem?, Array.getElem?_append_left (by simpa using hlt)]
      simp [h1]
    simp only [this]
    exact h2
  refine (wpIn_wide (n := 0)).1 (wpIn_mono (h 0 _ _ hR) ?_)
  rintro e a w' ⟨s', a0, rfl, ⟨he, res, hres, hpost⟩, E', rfl, hR'⟩
  obtain ⟨v, h1, h2⟩ := hres _ _ _ hR'
  have fin : Ret E Post (.returned v) E'.w := (SegX.of_r0 hR').ret (by rw [hR'.obj]; exact hpost) h2
  rcases he with rfl | rfl
  · exact ⟨rfl, v, h1, fin⟩
  · exact ⟨rfl, v, h1, fin⟩

theorem fnOk_rf {P : Program} {f gf nt k g p b0 : Nat} {fn : Func} {A0 A1 A3 as bo B : Code} {args caps : List AV} {oin : Nat → Option OB} {Post : AV → (Nat → Option OB) → Prop} {s1 s2 s3 : St} {m4 : List (Nat × OB)}
    (hf : P.funcs[f]? = some fn) (hb : fn.body = some (.seq A0 (.seq A1 (.seq (.seq A3 (.block b0 (.rangeFunc (.tmp g) #[p] as bo))) B)))) (hn : fn.ntmps = nt) (hn' : Nat.ble args.length nt = true)
    (h0 : CWp P (nt, k) A0 (fun e s' => e = .normal ∧ s' = s1) ⟨fun t => args[t]?, oin⟩) (h1 : CWp P (nt, k) A1 (fun e s' => e = .normal ∧ s' = s2) s1) (h3 : CWp P (nt, k) A3 (fun e s' => e = .normal ∧ s' = s3) s2)
    (hg : s3.slot g = some (.fn gf [] caps)) (eg : ∀ args w, (callFunc gf args).run P w = .ok (.enter gf args) w)
    (hit : ∀ (l : Nat) (rec : Loop) (E0 : Env) (vals : List Value), E0.obj = s3.obj → EnvOk E0 → E0.w.heap[l]? = some (.loop rec) → ¬ E0.J l → (∀ c, E0.obj c ≠ none → ¬ E0.has c l) → rec.assign = as → rec.body = bo → rec.params = #[p] →
      rec.tmps.size = nt → rec.state = .ready → rec.pending = none → (∀ t x, s3.slot t = some x → VR E0 x (rec.tmps.getD t undef)) → VRs E0 caps vals →
      Calls P gf (#[.func (.yield l) #[] #[]] ++ vals.toArray) E0.w (Ret E0 (fun _ oo => oo = lk m4)))
    (hB : ∀ ds, CWr none ds P (nt, k) B (fun e s' => (e = .normal ∨ e = .ret) ∧ (∃ k5, ∀ o, s'.obj o ≠ none → o < k5) ∧ ∃ res, ResOk P fn s' res ∧ Post res s'.obj) ⟨s3.slot, lk m4⟩) : FnOk P f args k oin Post := by
  intro hk E vals hE hok hargs
  obtain ⟨hl, hget⟩ := hargs.get
  have hn'' := Nat.le_of_ble_eq_true hn'
  refine (callsIn_wide (n := 0)).1 (callsIn_of_wp_marks hf hb trivial ?_ rfl)
  have hR : R (E.cx (nt, k)) ⟨fun t => args[t]?, oin⟩ { tmps := vals.toArray ++ Array.replicate (fn.ntmps - vals.toArray.size) undef, defers := [] } E.w := by
    refine r_start hE hok (fun o ho => hk o ho) rfl (by rw [hn]; simp; omega) (fun t x ht => ?_)
    obtain ⟨v, h1, h2⟩ := hget t x ht
    have hlt := (List.getElem?_eq_some_iff.1 h1).1
    have : (vals.toArray ++ Array.replicate (fn.ntmps - vals.toArray.size) undef).getD t undef = v := by
      rw [Array.getD_eq_getD_getElem?, Array.getElem?_append_left (by simpa using hlt)]
      simp [h1]
    simp only [this]
    exact h2
  refine wpIn_seq (wpIn_mono (wpIn_wide.2 (h0 _ _ _ rfl hR)) ?_)
  rintro e a w ⟨s', ⟨rfl, rfl⟩, hR⟩
  refine wpIn_seq (wpIn_mono (wpIn_wide.2 (h1 _ _ _ rfl hR)) ?_)
  rintro e a w ⟨s'', ⟨rfl, rfl⟩, hR⟩
  refine wpIn_seq (wpIn_seq (wpIn_mono (wpIn_wide.2 (h3 _ _ _ rfl hR)) ?_))
  rintro e a1 w ⟨s3', ⟨rfl, rfl⟩, E1, rfl, hR1⟩
  refine wpIn_block (wpIn_rangeFunc ?_)
  intro fnid _
  have sg1 : ∀ {L : Nat → Prop}, SegX L E E1 := .of_r0 hR1
  obtain ⟨rec, hrec⟩ : ∃ rec : Loop, rec = { state := .ready, pending := none, fn := fnid, tmps := a1.tmps, params := #[p], assign := as, body := bo, defers := E1.w.heap.size } := ⟨_, rfl⟩
  obtain ⟨E2, hE2⟩ : ∃ E2 : Env, E2 = { E1 with w := (E1.w.alloc (.deferred (some []))).alloc (.loop rec), J := fun b => E1.J b ∧ b < E1.w.heap.size } := ⟨_, rfl⟩
  have sg2 : ∀ {L : Nat → Prop}, SegX L E1 E2 := (SegX.two (sg1 (L := fun _ => False)).ok _ _ E2 hE2).1
  have ext2 : Ext E1 E2 := (SegX.two (L := fun _ => False) (sg1 (L := fun _ => False)).ok _ _ E2 hE2).2
  have hl2 : E2.w.heap[E1.w.heap.size + 1]? = some (.loop rec) := by
    rw [hE2]
    have := alloc_new (E1.w.alloc (.deferred (some []))) (.loop rec)
    simpa using this
  have hD2 : E2.w.heap[E1.w.heap.size]? = some (.deferred (some [])) := by
    rw [hE2]; exact (Below.heap_alloc _ _ _ (by simp)).trans (alloc_new _ _)
  have hJ2 : ∀ b, E1.w.heap.size ≤ b → ¬ E2.J b := fun b hb q => by rw [hE2] at q; have := q.2; omega
  have hh2 : ∀ b, E1.w.heap.size ≤ b → ∀ c, E2.obj c ≠ none → ¬ E2.has c b := by
    intro b hb c q1 q2
    rw [hE2] at q1 q2
    obtain ⟨x, hx⟩ := Option.ne_none_iff_exists'.1 q1
    have := ((sg1 (L := fun _ => False)).ok.1 c x hx).lth hx q2
    omega
  have hval : VR E1 (.fn gf [] caps) (a1.eval (.tmp g)) := hR1.slots _ _ hg
  obtain ⟨cs, hv1, hv2⟩ := hval
  cases hv1 with
  | @fn _ _ _ xs ys hxs hys =>
  cases hxs
  have e6 : a1.eval (.tmp g) = .func (.func gf) #[] ys.toArray := hv2
  refine ⟨E1.w.heap.size + 1, [{ target := .collected E1.w.heap.size, args := #[] }], E2.w, { target := .fn (.func gf) ys.toArray, args := #[.func (.yield (E1.w.heap.size + 1)) #[] #[]] }, E2.w, gf,
    #[.func (.yield (E1.w.heap.size + 1)) #[] #[]] ++ ys.toArray, E2.w, ?_, ?_, fun _ _ => trivial, ?_, fun h => (by cases h), ?_⟩
  · rw [hE2, hrec]; exact run_enterLoop_outer _ _ _ _ _
  · simp only [resolve, rangeCall, e6]
    simp [go_sem]
  · simp [invoke, go_sem, eg]
  have hcall := hit (E1.w.heap.size + 1) rec E2 ys (by rw [hE2]; exact hR1.obj) (sg2 (L := fun _ => False)).ok hl2 (hJ2 _ (by omega)) (hh2 _ (by omega)) (by rw [hrec]) (by rw [hrec]) (by rw [hrec]) (by rw [hrec]; exact hR1.size) (by rw [hrec]) (by rw [hrec])
    (fun t x ht => by rw [hrec]; exact (hR1.slots t x ht).ext ext2) (VRs.ext ext2 hys)
  have hcall2 : CallsIn Fence.wide (0 - 1) P gf (#[.func (.yield (E1.w.heap.size + 1)) #[] #[]] ++ ys.toArray) E2.w _ := callsIn_wide.2 hcall
  refine hcall2.mono ?_
  intro e W2 hret
  obtain ⟨v0, res0, E3, rfl, rfl, hm4, _, sg3⟩ := SegX.of_ret hret
  have ext3 := sg3.ext (fun _ q => q.elim)
  have hlt2 : E1.w.heap.size + 1 < E2.w.heap.size := (Array.getElem?_eq_some_iff.1 hl2).1
  have hT2 : ∀ b, E1.w.heap.size ≤ b → ¬ E2.T b := fun b hb ⟨o, q1, q2⟩ => hh2 b hb o q1 q2
  have hl3 : E3.w.heap[E1.w.heap.size + 1]? = some (.loop rec) := (sg3.keeps.block _ hlt2 (fun q => q.elim (hT2 _ (by omega)) id)).trans hl2
  have hD3 : E3.w.heap[E1.w.heap.size]? = some (.deferred (some [])) := (sg3.keeps.block _ (by show E1.w.heap.size < E2.w.heap.size; omega) (fun q => q.elim (hT2 _ (by omega)) id)).trans hD2
  obtain ⟨hJl3, hhl3⟩ := sg3.notJ hlt2 (hT2 _ (by omega)) (hJ2 _ (by omega))
  obtain ⟨hJD3, hhD3⟩ := sg3.notJ (l := E1.w.heap.size) (by omega) (hT2 _ (by omega)) (hJ2 _ (by omega))
  have hpen : rec.pending = none := by rw [hrec]
  have hend : (Instr.endLoop (E1.w.heap.size + 1)).run P E3.w = .ok none (E3.w.putObj (E1.w.heap.size + 1) (.loop { rec with state := .exhausted })) := (run_endLoop (P := P) hl3 (by rw [hrec]; simp)).trans (by rw [hpen])
  refine ⟨none, _, hend, ?_⟩
  obtain ⟨E4, hE4⟩ : ∃ E4, E4 = E3.putL (E1.w.heap.size + 1) (.loop { rec with state := .exhausted }) := ⟨_, rfl⟩
  have hw4 : E3.w.putObj (E1.w.heap.size + 1) (.loop { rec with state := .exhausted }) = E4.w := by rw [hE4]; rfl
  rw [hw4]
  have sg4 : SegX (· = E1.w.heap.size + 1) E3 E4 := by rw [hE4]; exact .putL sg3.ok hl3 hhl3 hJl3
  have ext4 := sg4.ext (fun b q => by subst q; exact hJl3)
  have hD4 : E4.w.heap[E1.w.heap.size]? = some (.deferred (some [])) := by rw [hE4]; exact (World.putObj_heap_other (by omega)).trans hD3
  have hJD4 : ¬ E4.J E1.w.heap.size := by rw [hE4]; exact hJD3
  have hhD4 : ∀ c, E4.obj c ≠ none → ¬ E4.has c E1.w.heap.size := by rw [hE4]; exact hhD3
  have hR4 : R (E4.cxK (nt, k)) ⟨s3'.slot, lk m4⟩ a1 E4.w := ⟨{ E4 with J := E4.J' }, rfl, r0_startK (by rw [hE4]; exact hm4) sg4.ok hR1.defers hR1.size (fun t x ht => (((hR1.slots t x ht).ext ext2).ext ext3).ext ext4)⟩
  have hmark : ({ a1 with defers := [{ target := .collected E1.w.heap.size, args := #[] }] ++ a1.defers } : Act) = Act.mark a1 [{ target := .collected E1.w.heap.size, args := #[] }] := by
    rw [hR1.defers]; rfl
  rw [hmark]
  show B.wpIn (FR none) _ _ _ _ _
  refine wpIn_mono (hB [{ target := .collected E1.w.heap.size, args := #[] }] _ rfl _ _ _ hR4) ?_
  rintro e a5 w5 ⟨s5, a0, rfl, ⟨he, ⟨k5, hk5⟩, res, hres, hpost⟩, E5, rfl, hR5⟩
  have sg5 : ∀ {L : Nat → Prop}, SegK k L E4 E5 := .of_r0 hR5
  have hltD4 : E1.w.heap.size < E4.w.heap.size := (Array.getElem?_eq_some_iff.1 hD4).1
  have hTD4 : ¬ E4.T E1.w.heap.size := fun ⟨o, q1, q2⟩ => hhD4 o q1 q2
  have hD5 : E5.w.heap[E1.w.heap.size]? = some (.deferred (some [])) := ((sg5 (L := fun _ => False)).keeps.block _ hltD4 (fun q => q.elim hTD4 id)).trans hD4
  obtain ⟨hJD5, hhD5⟩ := (sg5 (L := fun _ => False)).notJ hltD4 hTD4 hJD4
  obtain ⟨E6, hE6⟩ : ∃ E6, E6 = E5.putL E1.w.heap.size (.deferred none) := ⟨_, rfl⟩
  have sg6 : SegX (· = E1.w.heap.size) E5 E6 := by rw [hE6]; exact .putL (sg5 (L := fun _ => False)).ok hD5 hhD5 hJD5
  have ext6 := sg6.ext (fun b q => by subst q; exact hJD5)
  have hR6 : R0 (E6.cx (nt, k5)) s5 a0 { E6 with J := E6.J' } := r0_start (by rw [hE6]; exact hR5.obj) sg6.ok hk5 hR5.defers hR5.size (fun t x ht => (hR5.slots t x ht).ext ext6)
  obtain ⟨v, hv1, hv2⟩ := hres _ _ _ hR6
  have sg7 : ∀ {L : Nat → Prop}, SegX L E6 { E6 with J := E6.J' } := .of_r0 hR6
  have tot4 : SegX (fun b => b = E1.w.heap.size + 1 ∨ b = E1.w.heap.size) E E4 := ((sg1.trans sg2).trans (sg3.mono (fun _ q => q.elim))).trans (sg4.mono (fun _ q => .inl q))
  have tot : SegK k (fun b => b = E1.w.heap.size + 1 ∨ b = E1.w.heap.size) E { E6 with J := E6.J' } :=
    ((tot4.toK.trans sg5).trans (sg6.mono (fun _ q => .inr q)).toK).trans sg7.toK
  have hfin : Ret E Post (.returned v) E6.w := tot.retNew (fun o ho => hk o (by rw [← hE]; exact ho)) (fun b q => by
    have := (sg1 (L := fun _ => False)).ltsz
    rcases q with q | q <;> omega) (by show Post res E6.obj; rw [hE6]; show Post res E5.obj; rw [hR5.obj]; exact hpost) hv2
  have hleave : LeavesInM Fence.wide 0 P fn a0.tmps (Ret E Post) [{ target := .collected E1.w.heap.size, args := #[] }] .returning E5.w := by
    refine ⟨by simp, .inl ⟨_, _, rfl, run_takeDeferred hD5, ?_⟩⟩
    have hw6 : E5.w.putObj E1.w.heap.size (.deferred none) = E6.w := by rw [hE6]; rfl
    rw [hw6]
    exact ⟨v, hv1, hfin⟩
  rcases he with rfl | rfl
  · exact hleave
  · exact hleave

end Go.Val

