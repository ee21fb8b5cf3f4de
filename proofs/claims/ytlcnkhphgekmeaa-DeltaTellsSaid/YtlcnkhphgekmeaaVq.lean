/- The single operations once more, for rows and maps that are some list's images; calls that are handed objects. -/
import Derived.Test.YtlcnkhphgekmeaaVp
set_option linter.unusedSectionVars false
set_option linter.unusedVariables false
set_option linter.unusedSimpArgs false
namespace Go.Val
open Go.RowKit
variable [Drw]

theorem Hand.d {s : St} {oin : Nat → Option OB} {σ : Nat → Nat} {x : D} : Hand s oin σ (.d x) (.d x) false [] := .same (y := .d x)
theorem Hand.m {s : St} {oin : Nat → Option OB} {σ : Nat → Nat} {o k : Nat} (h : σ o = k) : Hand s oin σ (.map k) (.map o) false [] := by subst h; exact .same (y := .map o)
theorem Hand.p {s : St} {oin : Nat → Option OB} {σ : Nat → Nat} {o n k : Nat} (h : σ o = k) : Hand s oin σ (.ptr k n) (.ptr o n) false [] := by subst h; exact .same (y := .ptr o n)
theorem Hand.f0 {s : St} {oin : Nat → Option OB} {σ : Nat → Nat} {f : Nat} : Hand s oin σ (.fn f [] []) (.fn f [] []) false [] := .same (y := .fn f [] [])
theorem Hand.f1 {s : St} {oin : Nat → Option OB} {σ : Nat → Nat} {f o n k : Nat} (h : σ o = k) : Hand s oin σ (.fn f [] [.ptr k n]) (.fn f [] [.ptr o n]) false [] := by subst h; exact .same (y := .fn f [] [.ptr o n])
theorem Hand.arrM {s : St} {oin : Nat → Option OB} {σ : Nat → Nat} {o c es : Nat} {α : Type} {enc : α → D} {xs : List α} (h : s.obj o = some (.arr c es (xs.map enc))) : Hand s oin σ (.arr o c) (.d (.sl es (xs.map enc))) true [o] := .arr h

theorem Zero.of {P : Program} {T : TypeId} {z : D} (cs : List Value) (hd : ∀ (I : Nat → Prop) (w : World), DR I w z cs) (hz : (P.info? T).bind (·.zero) = some (mkV z.isAgg cs)) : Zero P T z := fun I w => ⟨cs, hd I w, hz⟩

section
variable {P : Program} {N : Nat × Nat} {ops : Array Oper} {i : Nat} {s : St} {d : Nat} {ty : TypeId} {pos : String} {af : Array Edge} {g : Option (Nat × Bool)} {gs : List Nat} {α : Type} {enc : α → D} {xs ys : List α}

theorem o_lenM {T e : TypeId} {x : Operand} {es : Nat} (ho : ops[i]? = some ⟨some d, .call ⟨.builtin .len, #[x], #[T]⟩, ty, pos, af, g⟩) (hd : Nat.ble (d + 1) N.1 = true) (hg : G ops s g gs)
    (hx : s.val x = some (.d (.sl es (xs.map enc)))) (hT : slB P T = some e) : Valid P N ops i ⟨gs ++ opTmps x, [], some (d, some (.d (.v (.int .i64 xs.length)))), []⟩ s := by
  have := o_len ho hd hg hx (slB_under hT)
  rwa [List.length_map] at this

theorem o_lenAM {T e : TypeId} {x : Operand} {o c es : Nat} (ho : ops[i]? = some ⟨some d, .call ⟨.builtin .len, #[x], #[T]⟩, ty, pos, af, g⟩) (hd : Nat.ble (d + 1) N.1 = true) (hg : G ops s g gs)
    (hx : s.val x = some (.arr o c)) (hob : s.obj o = some (.arr c es (xs.map enc))) (hT : slB P T = some e) :
    Valid P N ops i ⟨gs ++ opTmps x, [o], some (d, some (.d (.v (.int .i64 xs.length)))), []⟩ s := by
  have := o_lenA ho hd hg hx hob (slB_under hT)
  rwa [List.length_map] at this

theorem o_ixM {T e es : Nat} {x z : Operand} {k : IntKind} {n : Int} {r : α} (ho : ops[i]? = some ⟨some d, .indexAddr T x z, ty, pos, af, g⟩) (hd : Nat.ble (d + 1) N.1 = true) (hg : G ops s g gs)
    (hx : s.val x = some (.d (.sl es (xs.map enc)))) (hz : s.val z = some (.d (.v (.int k n)))) (hT : slB P T = some e) (he : szB P e = some es) (h0 : 0 ≤ n) (hr : xs[n.toNat]? = some r) :
    Valid P N ops i ⟨gs ++ (opTmps x ++ opTmps z), [], some (d, some (.d (.at (enc r)))), []⟩ s :=
  o_ix ho hd hg hx hz hT he h0 (map_get hr)

theorem o_ixAM {T e es : Nat} {x z : Operand} {o c : Nat} {k : IntKind} {n : Int} {r : α} (ho : ops[i]? = some ⟨some d, .indexAddr T x z, ty, pos, af, g⟩) (hd : Nat.ble (d + 1) N.1 = true) (hg : G ops s g gs)
    (hx : s.val x = some (.arr o c)) (hob : s.obj o = some (.arr c es (xs.map enc))) (hz : s.val z = some (.d (.v (.int k n)))) (hT : slB P T = some e) (he : szB P e = some es) (h0 : 0 ≤ n) (hr : xs[n.toNat]? = some r) :
    Valid P N ops i ⟨gs ++ (opTmps x ++ opTmps z), [o], some (d, some (.pel o c n.toNat 0)), []⟩ s := by
  refine o_ixA ho hd hg hx hob hz hT he h0 ?_
  have := (List.getElem?_eq_some_iff.1 hr).1
  rw [List.length_map]
  omega

theorem o_ldEM {T : TypeId} {x : Operand} {o c k m es : Nat} {r : α} {y : AV} {b : Bool} {n : Nat} (p : List Nat) (ho : ops[i]? = some ⟨some d, .load T x, ty, pos, af, g⟩) (hd : Nat.ble (d + 1) N.1 = true) (hg : G ops s g gs)
    (hx : s.val x = some (.pel o c k m)) (hob : s.obj o = some (.arr c es (xs.map enc))) (hr : xs[k]? = some r) (hp : AV.get p (.d (enc r)) = some (y, m)) (hT : TA P T b n) (hb : y.isAgg = b) (hn : y.size = n) :
    Valid P N ops i ⟨gs ++ opTmps x, [o], some (d, some y), []⟩ s :=
  o_ldE p ho hd hg hx hob (map_get hr) hp hT hb hn

theorem o_slM {T e es : Nat} {x : Operand} {lo hi : Option Operand} {lv hv : Nat} (ho : ops[i]? = some ⟨some d, .slice T x lo hi none, ty, pos, af, g⟩) (hd : Nat.ble (d + 1) N.1 = true) (hg : G ops s g gs)
    (hx : s.val x = some (.d (.sl es (xs.map enc)))) (hT : slB P T = some e) (hS : szB P e = some es) (hl : Bd s 0 lo lv) (hh : Bd s xs.length hi hv) (h1 : lv ≤ hv) (h2 : hv ≤ xs.length) :
    Valid P N ops i ⟨gs ++ (opTmps x ++ (bdT lo ++ bdT hi)), [], some (d, some (.d (.sl es (((xs.take hv).drop lv).map enc)))), []⟩ s :=
  o_sl ho hd hg hx hT hS hl (by rw [List.length_map]; exact hh) h1 (by rw [List.length_map]; exact h2) (map_cut lv hv)

theorem o_appM {T tx e es bs : Nat} {x y : Operand} {o c : Nat} {z : D} (ho : ops[i]? = some ⟨some d, .call ⟨.builtin .append, #[x, y], #[T, tx]⟩, ty, pos, af, g⟩) (hd : Nat.ble (d + 1) N.1 = true) (hg : G ops s g gs)
    (hx : s.val x = some (.arr o c)) (hob : s.obj o = some (.arr c es (xs.map enc))) (hy : s.val y = some (.d (.sl es (ys.map enc)))) (hsz : ∀ r, (enc r).size = es)
    (hT : slB P T = some e) (hT' : slB P tx = some e) (hS : szB P e = some es) (hB : bytesB P e = some bs) (hZ : Zero P e z) (hzs : z.size = es) (hb0 : 1 ≤ bs) (hfit : (xs.length + ys.length) * bs ≤ 140737488355328) :
    Valid P N ops i ⟨gs ++ (opTmps x ++ opTmps y), [o], some (d, some (.arr o (c + 1))), [(o, .arr (c + 1) es ((xs ++ ys).map enc))]⟩ s := by
  have h1 : (xs.length + ys.length) * 1 ≤ (xs.length + ys.length) * bs := Nat.mul_le_mul_left _ hb0
  exact o_app ho hd hg hx hob hy (.sl hT') (map_sz hsz) hT hS hB hZ hzs (by rw [List.length_map, List.length_map]; exact hfit) (by rw [List.length_map, List.length_map]; omega) map_app

theorem o_min {T T' : TypeId} {x y : Operand} {k : IntKind} {m n : Int} (ho : ops[i]? = some ⟨some d, .call ⟨.builtin .min, #[x, y], #[T, T']⟩, ty, pos, af, g⟩) (hd : Nat.ble (d + 1) N.1 = true) (hg : G ops s g gs)
    (hx : s.val x = some (.d (.v (.int k m)))) (hy : s.val y = some (.d (.v (.int k n)))) :
    Valid P N ops i ⟨gs ++ (opTmps x ++ opTmps y), [], some (d, some (.d (.v (.int k (min m n))))), []⟩ s :=
  valid_pure ho hd hg fun s' hs cx a E hR => by
    obtain ⟨h1, h2⟩ := mem_app hs
    have e1 := (hR.val ((val_agree h1).trans hx)).sc
    have e2 := (hR.val ((val_agree h2).trans hy)).sc
    refine ⟨.int k (min m n), ?_, .of_sc (E := E) rfl⟩
    simp [execOp, resolve, invoke, builtin, e1, e2, Builtin.min_, Builtin.min2]
    omega

/-! ### Calls that are handed objects -/
variable {f : FuncId} {fn : Func} {as : List Operand} {ats : Array TypeId} {b : Bool} {vs : List AV} {l : List Nat} {res : AV}

theorem callIn1 {σ : Nat → Nat} {k : Nat} {x x' : OB} (hk : Nat.ble 1 k = true) (hl : AV.lives (lk [(0, x)]) vs) (ho : s.obj (σ 0) = some (x.ren σ)) (hx : x.live (lk [(0, x)])) (hp : ∀ c ∈ l, c ≠ σ 0) : CallIn s σ k [(0, x)] [(0, x')] vs l :=
  ⟨fun p hp => by simp at hp; subst hp; exact Nat.le_of_ble_eq_true hk, hl, by simpa using ⟨ho, hx⟩, by simp, fun c hc p hp' => by simp at hp'; subst hp'; exact fun e => hp c hc e.symm, by simp, by simp, by simp, fun p hp' hn => by simp at hp'; subst hp'; simp [lk] at hn⟩

theorem callIn2 {σ : Nat → Nat} {k : Nat} {x x' y y' : OB} (hk : Nat.ble 2 k = true) (hl : AV.lives (lk [(0, x), (1, y)]) vs) (hne : σ 0 ≠ σ 1) (ho : s.obj (σ 0) = some (x.ren σ)) (hx : x.live (lk [(0, x), (1, y)])) (ho' : s.obj (σ 1) = some (y.ren σ)) (hy : y.live (lk [(0, x), (1, y)]))
    (hp : ∀ c ∈ l, c ≠ σ 0 ∧ c ≠ σ 1) : CallIn s σ k [(0, x), (1, y)] [(0, x'), (1, y')] vs l := by
  have := Nat.le_of_ble_eq_true hk
  refine ⟨?_, hl, ?_, ?_, ?_, by simp, by simpa using hne, by simp, ?_⟩
  · intro p hp'; simp at hp'; rcases hp' with rfl | rfl <;> simp <;> omega
  · intro p hp'; simp at hp'; rcases hp' with rfl | rfl
    · exact ⟨ho, hx⟩
    · exact ⟨ho', hy⟩
  · intro p hp' q hq' e; simp at hp' hq'
    rcases hp' with rfl | rfl <;> rcases hq' with rfl | rfl <;> first | rfl | exact absurd e hne | exact absurd e.symm hne
  · intro c hc p hp'; simp at hp'
    rcases hp' with rfl | rfl
    · exact fun e => (hp c hc).1 e.symm
    · exact fun e => (hp c hc).2 e.symm
  · intro p hp' hn; simp at hp'; rcases hp' with rfl | rfl <;> cases hn

/-- One object comes in, and with it goes a new one. -/
theorem callIn1N {σ : Nat → Nat} {k : Nat} {x x' y' : OB} (hk : Nat.ble 1 k = true) (hl : AV.lives (lk [(0, x)]) vs) (hne : σ 0 ≠ σ 1) (ho : s.obj (σ 0) = some (x.ren σ)) (hx : x.live (lk [(0, x)])) (hn : s.obj (σ 1) = none) (hp : ∀ c ∈ l, c ≠ σ 0) :
    CallIn s σ k [(0, x)] [(0, x'), (1, y')] vs l :=
  ⟨fun p hp => by simp at hp; subst hp; exact Nat.le_of_ble_eq_true hk, hl, by simpa using ⟨ho, hx⟩, by simp, fun c hc p hp' => by simp at hp'; subst hp'; exact fun e => hp c hc e.symm, by simp, by simpa using hne, by simp, fun p hp' hn' => by
    simp at hp'
    rcases hp' with rfl | rfl
    · simp [lk] at hn'
    · exact hn⟩

/-- A call, some objects in, some objects out, one value. -/
theorem o_callX {k : Nat} {mi mo : List (Nat × OB)} (σ : Nat → Nat) (ho : ops[i]? = some ⟨some d, .call ⟨.value (.func f), as.toArray, ats⟩, ty, pos, af, g⟩) (hd : Nat.ble (d + 1) N.1 = true) (hg : G ops s g gs)
    (hf : P.funcs[f]? = some fn) (hnm : (fn.name == "runtime.NumGoroutine") = false) (hbd : fn.body.isNone = false) (hF : FnOk P f vs k (lk mi) (fun r oo => r = res ∧ oo = lk mo))
    (hh : Hands s (lk mi) σ as vs b l) (hC : CallIn s σ k mi mo vs l) (hflat : b = false ∨ (res.flat ∧ ∀ p ∈ mo, p.2.flat)) :
    Valid P N ops i ⟨gs ++ ([] ++ tmpsOf as), l ++ mo.map (fun p => σ p.1), some (d, some (res.ren σ)), mo.map fun p => (σ p.1, p.2.ren σ)⟩ s := by
  refine valid_call (dd := some d) σ ho (fun _ e => by cases e; exact Nat.le_of_ble_eq_true hd) hg hf hnm hbd as (fun s' cx a E _ _ => ?_) hF hh hC hflat
  have := hos_func (P := P) (dd := some d) (as := as.toArray) (ats := ats) (ty := ty) (pos := pos) (af := af) (g := g) hf hnm hbd a E.w
  simpa using this

/-- The same, no value. -/
theorem o_callY {k : Nat} {mi mo : List (Nat × OB)} (σ : Nat → Nat) (ho : ops[i]? = some ⟨none, .call ⟨.value (.func f), as.toArray, ats⟩, ty, pos, af, g⟩) (hg : G ops s g gs)
    (hf : P.funcs[f]? = some fn) (hnm : (fn.name == "runtime.NumGoroutine") = false) (hbd : fn.body.isNone = false) (hF : FnOk P f vs k (lk mi) (fun r oo => r = res ∧ oo = lk mo))
    (hh : Hands s (lk mi) σ as vs b l) (hC : CallIn s σ k mi mo vs l) (hflat : b = false ∨ (res.flat ∧ ∀ p ∈ mo, p.2.flat)) :
    Valid P N ops i ⟨gs ++ ([] ++ tmpsOf as), l ++ mo.map (fun p => σ p.1), none, mo.map fun p => (σ p.1, p.2.ren σ)⟩ s := by
  refine valid_call (dd := none) σ ho (fun _ e => by cases e) hg hf hnm hbd as (fun s' cx a E _ _ => ?_) hF hh hC hflat
  have := hos_func (P := P) (dd := none) (as := as.toArray) (ats := ats) (ty := ty) (pos := pos) (af := af) (g := g) hf hnm hbd a E.w
  simpa using this

end

/-! ### What a printed proof leans on -/
section
variable {P : Program} {N : Nat × Nat}

/-- Ways that meet again, at the end. -/
theorem cw_tail {ι : Type} {x : Code} {Q : Exit → St → Prop} {s : St} (st : ι → St) (φ : ι → Prop) (hy : ∀ v, φ v → Q .normal (st v))
    (hx : CWp P N x (thenS (fun s' => ∃ v, φ v ∧ Weak N s' (st v)) Q) s) : CWp P N x Q s := by
  intro cx a w hn hR
  refine wp_mono (hx cx a w hn hR) ?_
  rintro e a' w' ⟨s', hq, hR'⟩
  cases e with
  | normal =>
    obtain ⟨v, h1, h2⟩ := hq
    exact ⟨st v, hy v h1, hR'.weak (by rw [hn]; exact h2)⟩
  | exit id => exact ⟨s', hq, hR'⟩
  | goto l => exact ⟨s', hq, hR'⟩
  | ret => exact ⟨s', hq, hR'⟩
  | panic ch => exact ⟨s', hq, hR'⟩
  | outgrown => exact ⟨s', hq, hR'⟩

theorem dropK {s : St} {m : List (Nat × OB)} {N : Nat × Nat} (h : (List.range N.2).all (fun o => (lk m o).isSome) = true) : ∀ o, o < N.2 → s.obj o ≠ none → lk m o ≠ none := by
  intro o ho _ e
  have := List.all_eq_true.1 h o (List.mem_range.2 ho)
  rw [e] at this
  cases this

def itOf : OB → Option Nat
  | .iter m _ _ _ => some m
  | _ => none

theorem noIter {m : List (Nat × OB)} {o : Nat} (h : m.all (fun p => match itOf p.2 with | some k => !(Nat.beq k o) | none => true) = true) : ∀ k m' u l cu, lk m k = some (.iter m' u l cu) → m' ≠ o := by
  intro k m' u l cu hk e
  have := List.all_eq_true.1 h _ (lk_some hk)
  subst e
  simp [itOf] at this

/-- An element, where there is one. -/
def gx {α : Type} (xs : List α) (i : Int) : Option α := cond (decide (0 ≤ i)) xs[i.toNat]? none
theorem gx_some {α : Type} {xs : List α} {i : Int} {x : α} (h : gx xs i = some x) : 0 ≤ i ∧ xs[i.toNat]? = some x := by
  unfold gx at h
  rcases cond_some h with ⟨h1, h2⟩ | ⟨_, h2⟩
  · exact ⟨of_decide_eq_true h1, h2⟩
  · cases h2

/-- A row that may be so long. -/
def fits (n bs : Nat) : Option Unit := ck (decide (n * bs ≤ 140737488355328))
theorem fits_some {n bs : Nat} {u : Unit} (h : fits n bs = some u) : n * bs ≤ 140737488355328 := ck_dec h

/-- The bounds of a piece. -/
def cutB (lo hi : Int) (n : Nat) : Option Unit := ck (decide (0 ≤ lo ∧ lo ≤ hi ∧ hi ≤ n))
theorem cutB_some {lo hi : Int} {n : Nat} {u : Unit} (h : cutB lo hi n = some u) : 0 ≤ lo ∧ 0 ≤ hi ∧ lo.toNat ≤ hi.toNat ∧ hi.toNat ≤ n := by
  have := ck_dec h
  omega

def piece {α : Type} (xs : List α) (lo hi : Int) : List α := (xs.take hi.toNat).drop lo.toNat

def bytesS (l : List UInt8) : ByteArray := ⟨l.toArray⟩
end
end Go.Val
