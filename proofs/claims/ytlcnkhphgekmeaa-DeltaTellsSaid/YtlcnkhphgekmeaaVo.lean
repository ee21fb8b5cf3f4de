/- Loops and joins over functions of values; what comes of two scalars; results. -/
import Derived.Test.YtlcnkhphgekmeaaVn
import Derived.KernelRfl
set_option linter.unusedSectionVars false
set_option linter.unusedVariables false
set_option linter.unusedSimpArgs false
namespace Go.Val
open Go.RowKit
variable [Drw]

/-- A check. -/
def ck (b : Bool) : Option Unit := cond b (some ()) none
theorem ck_true {b : Bool} {u : Unit} (h : ck b = some u) : b = true := by cases b <;> simp_all [ck]
theorem ck_dec {p : Prop} [Decidable p] {u : Unit} (h : ck (decide p) = some u) : p := by simpa using ck_true h
theorem ck_of {p : Prop} [Decidable p] (h : p) : ck (decide p) = some () := by simp [ck, h]
theorem bind_some {α β : Type} {x : Option α} {f : α → Option β} {r : β} (h : x.bind f = some r) : ∃ a, x = some a ∧ f a = some r := Option.bind_eq_some_iff.1 h
theorem cond_some {α : Type} {b : Bool} {x y : Option α} {r : α} (h : cond b x y = some r) : (b = true ∧ x = some r) ∨ (b = false ∧ y = some r) := by cases b <;> simp_all

/-- Rounds: at most n. -/
def iter {V O : Type} (body : V → Option (V ⊕ O)) : Nat → V → Option O
  | 0, _ => none
  | n + 1, v => (body v).bind fun o => match o with
    | .inl v' => iter body n v'
    | .inr o => some o

theorem iter_mono {V O : Type} {body : V → Option (V ⊕ O)} {o : O} : ∀ (n m : Nat) (v : V), n ≤ m → iter body n v = some o → iter body m v = some o
  | 0, _, _, _, h => by cases h
  | n + 1, 0, _, hm, _ => by omega
  | n + 1, m + 1, v, hm, h => by
    simp only [iter] at h ⊢
    obtain ⟨x, h1, h2⟩ := bind_some h
    rw [h1]
    cases x with
    | inl v' => exact iter_mono n m v' (by omega) h2
    | inr o' => exact h2

/-- Rounds, as many as there are. -/
noncomputable def whileO {V O : Type} (body : V → Option (V ⊕ O)) (v : V) : Option O :=
  open Classical in if h : ∃ n o, iter body n v = some o then some h.choose_spec.choose else none

theorem whileO_of {V O : Type} {body : V → Option (V ⊕ O)} {v : V} {n : Nat} {o : O} (h : iter body n v = some o) : whileO body v = some o := by
  have hx : ∃ n o, iter body n v = some o := ⟨n, o, h⟩
  unfold whileO
  rw [dif_pos hx]
  have h1 := hx.choose_spec.choose_spec
  have h2 := iter_mono n (max n hx.choose) v (Nat.le_max_left _ _) h
  have h3 := iter_mono hx.choose (max n hx.choose) v (Nat.le_max_right _ _) h1
  rw [h2] at h3
  exact h3.symm

theorem whileO_some {V O : Type} {body : V → Option (V ⊕ O)} {v : V} {o : O} (h : whileO body v = some o) : ∃ n, iter body n v = some o := by
  unfold whileO at h
  split at h
  · rename_i hx
    have h1 := hx.choose_spec.choose_spec
    cases h
    exact ⟨_, h1⟩
  · cases h

/-- One round more. -/
theorem whileO_eq {V O : Type} (body : V → Option (V ⊕ O)) (v : V) : whileO body v = (body v).bind fun o => match o with
    | .inl v' => whileO body v'
    | .inr o => some o := by
  cases hb : body v with
  | none =>
    cases hw : whileO body v with
    | none => rfl
    | some o =>
      obtain ⟨n, h⟩ := whileO_some hw
      cases n with
      | zero => cases h
      | succ n => simp [iter, hb] at h
  | some x =>
    simp only [Option.bind_some]
    cases x with
    | inr o => exact whileO_of (n := 1) (by simp [iter, hb])
    | inl v' =>
      simp only
      cases hw : whileO body v' with
      | some o =>
        obtain ⟨n, h⟩ := whileO_some hw
        exact whileO_of (n := n + 1) (by simp [iter, hb, h])
      | none =>
        cases hw' : whileO body v with
        | none => rfl
        | some o =>
          obtain ⟨n, h⟩ := whileO_some hw'
          cases n with
          | zero => cases h
          | succ n =>
            simp [iter, hb] at h
            rw [whileO_of h] at hw
            cases hw

section
variable {P : Program} {N : Nat × Nat}

theorem cw_condT {c : Operand} {x y : Code} {Q : Exit → St → Prop} {s : St} {b : Bool} (hc : s.val c = some (.d (.v (.bool b)))) (hb : b = true) (h : CWp P N x Q s) : CWp P N (.cond c x y) Q s :=
  cw_cond hc (fun _ => h) (fun e => by rw [hb] at e; cases e)
theorem cw_condF {c : Operand} {x y : Code} {Q : Exit → St → Prop} {s : St} {b : Bool} (hc : s.val c = some (.d (.v (.bool b)))) (hb : b = false) (h : CWp P N y Q s) : CWp P N (.cond c x y) Q s :=
  cw_cond hc (fun e => by rw [hb] at e; cases e) (fun _ => h)

/-- Ways that meet again. -/
theorem cw_join {ι : Type} {x y : Code} {Q : Exit → St → Prop} {s : St} (st : ι → St) (φ : ι → Prop) (hy : ∀ v, φ v → CWp P N y Q (st v))
    (hx : CWp P N x (thenS (fun s' => ∃ v, φ v ∧ Weak N s' (st v)) Q) s) : CWp P N (.seq x y) Q s :=
  cw_seq (cw_mono hx fun e s' h => by
    cases e with
    | normal => obtain ⟨v, h1, h2⟩ := h; exact cw_weak h2 (hy v h1)
    | _ => exact h)

/-- A loop as its rounds. -/
theorem cw_while {V O : Type} {c : Code} {Q : Exit → St → Prop} {s : St} {body : V → Option (V ⊕ O)} {v : V} {o : O} (st : V → St) (hw : whileO body v = some o) (h0 : Weak N s (st v))
    (round : ∀ v x, body v = some x → (∀ o', x = .inr o' → o' = o) → CWp P N c (thenS (fun s' => ∃ v', x = .inl v' ∧ Weak N s' (st v')) Q) (st v)) : CWp P N (.loop c) Q s := by
  obtain ⟨n, hn⟩ := whileO_some hw
  refine cw_weak h0 ?_
  refine cw_loop (I := fun n s => ∃ v, s = st v ∧ iter body n v = some o) (n := n) ⟨v, rfl, hn⟩ ?_
  rintro n s ⟨v, rfl, hv⟩
  cases n with
  | zero => cases hv
  | succ n =>
    simp only [iter] at hv
    obtain ⟨x, h1, h2⟩ := bind_some hv
    have hr := round v x h1 (fun o' e => by subst e; simpa using h2)
    intro cx a w hcx hR
    refine wp_mono (hr cx a w hcx hR) ?_
    rintro e a' w' ⟨s', hq, hR'⟩
    cases e with
    | normal =>
      obtain ⟨v', rfl, hwk⟩ := hq
      exact ⟨st v', ⟨n, Nat.lt_succ_self _, v', rfl, h2⟩, hR'.weak (by rw [hcx]; exact hwk)⟩
    | exit id => exact ⟨s', hq, hR'⟩
    | goto l => exact ⟨s', hq, hR'⟩
    | ret => exact ⟨s', hq, hR'⟩
    | panic ch => exact ⟨s', hq, hR'⟩
    | outgrown => exact ⟨s', hq, hR'⟩

/-! ### Two scalars -/
section
variable {op : BinOp} {T : TypeId} {x y : Operand} {k : IntKind}
theorem b_add (a b : Int) : ∀ w, (eqGuard .add T x y (.int k a) (.int k b) >>= fun _ => binOp .add T (.int k a) (.int k b) : Sem Value).run P w = .ok (.int k (k.wrap (a + b))) w := fun w => by simp [eqGuard, binOp, Op.intArith, Result.andThen]
theorem b_sub (a b : Int) : ∀ w, (eqGuard .sub T x y (.int k a) (.int k b) >>= fun _ => binOp .sub T (.int k a) (.int k b) : Sem Value).run P w = .ok (.int k (k.wrap (a - b))) w := fun w => by simp [eqGuard, binOp, Op.intArith, Result.andThen]
theorem b_mul (a b : Int) : ∀ w, (eqGuard .mul T x y (.int k a) (.int k b) >>= fun _ => binOp .mul T (.int k a) (.int k b) : Sem Value).run P w = .ok (.int k (k.wrap (a * b))) w := fun w => by simp [eqGuard, binOp, Op.intArith, Result.andThen]
theorem b_quo (a b : Int) (h : b ≠ 0) : ∀ w, (eqGuard .quo T x y (.int k a) (.int k b) >>= fun _ => binOp .quo T (.int k a) (.int k b) : Sem Value).run P w = .ok (.int k (k.wrap (a.tdiv b))) w := fun w => by simp [eqGuard, binOp, Op.intDiv, Result.andThen, h]
theorem b_rem (a b : Int) (h : b ≠ 0) : ∀ w, (eqGuard .rem T x y (.int k a) (.int k b) >>= fun _ => binOp .rem T (.int k a) (.int k b) : Sem Value).run P w = .ok (.int k (a.tmod b)) w := fun w => by simp [eqGuard, binOp, Op.intDiv, Result.andThen, h]
theorem b_lss (a b : Int) : ∀ w, (eqGuard .lss T x y (.int k a) (.int k b) >>= fun _ => binOp .lss T (.int k a) (.int k b) : Sem Value).run P w = .ok (.bool (decide (a < b))) w := fun w => by simp [eqGuard, binOp, Op.intCmp, Result.andThen]
theorem b_leq (a b : Int) : ∀ w, (eqGuard .leq T x y (.int k a) (.int k b) >>= fun _ => binOp .leq T (.int k a) (.int k b) : Sem Value).run P w = .ok (.bool (decide (a ≤ b))) w := fun w => by simp [eqGuard, binOp, Op.intCmp, Result.andThen]
theorem b_gtr (a b : Int) : ∀ w, (eqGuard .gtr T x y (.int k a) (.int k b) >>= fun _ => binOp .gtr T (.int k a) (.int k b) : Sem Value).run P w = .ok (.bool (decide (a > b))) w := fun w => by simp [eqGuard, binOp, Op.intCmp, Result.andThen]
theorem b_geq (a b : Int) : ∀ w, (eqGuard .geq T x y (.int k a) (.int k b) >>= fun _ => binOp .geq T (.int k a) (.int k b) : Sem Value).run P w = .ok (.bool (decide (a ≥ b))) w := fun w => by simp [eqGuard, binOp, Op.intCmp, Result.andThen]
theorem b_eql (a b : Int) : ∀ w, (eqGuard .eql T x y (.int k a) (.int k b) >>= fun _ => binOp .eql T (.int k a) (.int k b) : Sem Value).run P w = .ok (.bool (decide (a = b))) w := fun w => by
  have : (a == b) = decide (a = b) := rfl
  simp [eqGuard, binOp, Op.intCmp, Result.andThen, this]
theorem b_neq (a b : Int) : ∀ w, (eqGuard .neq T x y (.int k a) (.int k b) >>= fun _ => binOp .neq T (.int k a) (.int k b) : Sem Value).run P w = .ok (.bool (decide (a ≠ b))) w := fun w => by
  have : (a != b) = decide (a ≠ b) := by rw [Bool.eq_iff_iff]; simp
  simp [eqGuard, binOp, Op.intCmp, Result.andThen, this]
theorem s_eql (a b : ByteArray) : ∀ w, (eqGuard .eql T x y (.string a) (.string b) >>= fun _ => binOp .eql T (.string a) (.string b) : Sem Value).run P w = .ok (.bool (decide (a = b))) w := fun w => by
  simp [eqGuard, binOp, Op.stringOp, toList_beq]
theorem s_neq (a b : ByteArray) : ∀ w, (eqGuard .neq T x y (.string a) (.string b) >>= fun _ => binOp .neq T (.string a) (.string b) : Sem Value).run P w = .ok (.bool (decide (a ≠ b))) w := fun w => by
  simp [eqGuard, binOp, Op.stringOp, toList_beq]
theorem s_lss (a b : ByteArray) : ∀ w, (eqGuard .lss T x y (.string a) (.string b) >>= fun _ => binOp .lss T (.string a) (.string b) : Sem Value).run P w = .ok (.bool (Op.bytesLess a.data.toList b.data.toList)) w := fun w => by
  simp [eqGuard, binOp, Op.stringOp, ByteArray.toList_eq]
theorem s_add (a b : ByteArray) (h : a.size + b.size ≤ 9223372036854775807) : ∀ w, (eqGuard .add T x y (.string a) (.string b) >>= fun _ => binOp .add T (.string a) (.string b) : Sem Value).run P w = .ok (.string (a ++ b)) w := fun w => by
  have h' : ¬ (((a.size + b.size : Nat) : Int) > IntKind.i64.max) := by
    have : IntKind.i64.max = 9223372036854775807 := by decide
    omega
  simp only [eqGuard, binOp, Op.stringOp, Sem.run_bind, h', if_false]
  rfl
theorem t_eql (a b : Bool) (hT : P.underlying T = some .bool) : ∀ w, (eqGuard .eql T x y (.bool a) (.bool b) >>= fun _ => binOp .eql T (.bool a) (.bool b) : Sem Value).run P w = .ok (.bool (a == b)) w := fun w => by
  have h1 : (Op.equal T (.bool a) (.bool b)).run P w = .ok (a == b) w := by
    exact run_eqD (P := P) (w := w) (I := fun _ => True) (n := 10000) (.bool (n := 9999) hT) (.v (x := .bool a) rfl) (.v (x := .bool b) rfl)
  simp [eqGuard, binOp, h1, Result.andThen]
theorem t_neq (a b : Bool) (hT : P.underlying T = some .bool) : ∀ w, (eqGuard .neq T x y (.bool a) (.bool b) >>= fun _ => binOp .neq T (.bool a) (.bool b) : Sem Value).run P w = .ok (.bool (!(a == b))) w := fun w => by
  have h1 : (Op.equal T (.bool a) (.bool b)).run P w = .ok (a == b) w := by
    exact run_eqD (P := P) (w := w) (I := fun _ => True) (n := 10000) (.bool (n := 9999) hT) (.v (x := .bool a) rfl) (.v (x := .bool b) rfl)
  simp [eqGuard, binOp, h1, Result.andThen]
end
end

/-! ### Results -/
section
variable {P : Program} {fn : Func} {s : St}
theorem res0 (h : fn.results = #[]) : ResOk P fn s (.tup []) := by
  intro cx a E hR
  exact ⟨.tuple #[], by simp [results, h], _, .tup .nil, rfl⟩
theorem res1 {t : Nat} {x : AV} (h : fn.results = #[.tmp t]) (hx : s.slot t = some x) : ResOk P fn s x := by
  intro cx a E hR
  exact ⟨_, by simp [results, h], hR.slots t x hx⟩
theorem res2 {t u : Nat} {x y : AV} (h : fn.results = #[.tmp t, .tmp u]) (hx : s.slot t = some x) (hy : s.slot u = some y) : ResOk P fn s (.tup [x, y]) := by
  intro cx a E hR
  obtain ⟨c1, k1, e1⟩ := hR.slots t x hx
  obtain ⟨c2, k2, e2⟩ := hR.slots u y hy
  exact ⟨.tuple #[a.tmps.getD t undef, a.tmps.getD u undef], by simp [results, h], _, .tup (.cons k1 (.cons k2 .nil)), by rw [e1, e2]; rfl⟩
theorem res3 {t u v : Nat} {x y z : AV} (h : fn.results = #[.tmp t, .tmp u, .tmp v]) (hx : s.slot t = some x) (hy : s.slot u = some y) (hz : s.slot v = some z) : ResOk P fn s (.tup [x, y, z]) := by
  intro cx a E hR
  obtain ⟨c1, k1, e1⟩ := hR.slots t x hx
  obtain ⟨c2, k2, e2⟩ := hR.slots u y hy
  obtain ⟨c3, k3, e3⟩ := hR.slots v z hz
  exact ⟨.tuple #[a.tmps.getD t undef, a.tmps.getD u undef, a.tmps.getD v undef], by simp [results, h], _, .tup (.cons k1 (.cons k2 (.cons k3 .nil))), by rw [e1, e2, e3]; rfl⟩
/-- A result that lies in a variable. -/
theorem resC {t o T n : Nat} {x : AV} {b : Bool} (h : fn.results = #[.cell t T]) (hx : s.slot t = some (.ptr o 0)) (hob : s.obj o = some (.box x)) (hT : TA P T b n) (hb : x.isAgg = b) (hn : x.size = n) : ResOk P fn s x := by
  intro cx a E hR
  subst hb; subst hn
  obtain ⟨cs, h1, h2⟩ := hR.slots t _ hx
  cases h1 with
  | ptr k1 k2 =>
    obtain ⟨b', zs, e, q1, q2, q3, q4⟩ := hR.objs _ _ hob
    rw [k2] at q1; cases q1
    have hall : CellsAt E.w _ 0 zs := cells_at_block (sp := []) (by rw [List.append_nil]; exact q4)
    have hl := run_loadVar_at (P := P) (w := E.w) (by rw [q2.len]; exact hT) hall (fun ha => one_cell q2 ha)
    refine ⟨_, ?_, _, q2, rfl⟩
    have e1 : a.tmps.getD t undef = .pointer (some ⟨_, 0, none⟩) := h2
    simp only [results, h, List.mapM_toArray, List.mapM_cons, List.mapM_nil, Sem.run_bind, Sem.run_map, e1, asAddr, Sem.run_pure, Result.andThen, hl]
    rfl
end

/-! ### Rows of typed elements -/
theorem map_get {α : Type} {xs : List α} {f : α → D} {n : Nat} {x : α} (h : xs[n]? = some x) : (xs.map f)[n]? = some (f x) := by simp [h]
theorem map_len {α : Type} {xs : List α} {f : α → D} : (xs.map f).length = xs.length := List.length_map _
theorem map_cut {α : Type} {xs : List α} {f : α → D} (a b : Nat) : ((xs.map f).take b).drop a = ((xs.take b).drop a).map f := by simp
theorem map_app {α : Type} {xs ys : List α} {f : α → D} : xs.map f ++ ys.map f = (xs ++ ys).map f := by simp
theorem map_sz {α : Type} {xs : List α} {f : α → D} {n : Nat} (h : ∀ x, (f x).size = n) : ∀ r ∈ xs.map f, r.size = n := by
  intro r hr
  obtain ⟨x, _, rfl⟩ := List.mem_map.1 hr
  exact h x
theorem map_flat {α : Type} {xs : List α} {f : α → D} (h : ∀ x, DFlat (f x)) : ∀ r ∈ xs.map f, DFlat r := by
  intro r hr
  obtain ⟨x, _, rfl⟩ := List.mem_map.1 hr
  exact h x

end Go.Val
