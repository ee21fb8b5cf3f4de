/- Equality of data; keys of maps. -/
import Derived.Test.YtlcnkhphgekmeaaVg
import Derived.Laws.Strings
set_option linter.unusedSectionVars false
set_option linter.unusedVariables false
set_option linter.unusedSimpArgs false
namespace Go.Val
open Go.RowKit
variable [Drw]

section
variable {P : Program} {w : World}

theorem run_all {α : Type} (body : α → (Option Bool × Unit) → Sem (ForInStep (Option Bool × Unit))) (g : α → Bool) : ∀ (l : List α),
    (∀ x ∈ l, (body x (none, ())).run P w = .ok (if g x then .yield (none, ()) else .done (some false, ())) w) →
    (forIn l (none, ()) body).run P w = .ok (if l.all g then (none, ()) else (some false, ())) w
  | [], _ => rfl
  | x :: l, h => by
    rw [List.forIn_cons, Sem.run_bind, h x (by simp)]
    cases hg : g x with
    | true =>
      simp only [if_true, Result.andThen, List.all_cons, hg, Bool.true_and]
      exact run_all body g l (fun y hy => h y (by simp [hy]))
    | false => simp [Result.andThen, hg]

theorem run_each {α : Type} (body : α → PUnit → Sem (ForInStep PUnit)) : ∀ (l : List α),
    (∀ x ∈ l, (body x ⟨⟩).run P w = .ok (.yield ⟨⟩) w) → (forIn l PUnit.unit body).run P w = .ok PUnit.unit w
  | [], _ => rfl
  | x :: l, h => by
    rw [List.forIn_cons, Sem.run_bind, h x (by simp)]
    simp only [Result.andThen]
    exact run_each body l (fun y hy => h y (by simp [hy]))

theorem run_part_one {e : TypeId} (hA : aggB P e = some false) {cs : Array Value} {i : Nat} {v : Value} (h : cs[i]? = some v) : (part e cs i).run P w = .ok v w := by
  simp [part, run_isAgg_of hA, Result.andThen, h]

theorem run_part_agg {e n : TypeId} (hA : TA P e true n) {cs : Array Value} {i : Nat} : (part e cs i).run P w = .ok (.agg (cs.extract i (i + n))) w := by
  simp [part, run_isAgg_of hA.1, run_sizeOf_of hA.2, Result.andThen]

/-- The fields of a struct none of which is blank: where each begins, its type. -/
def fldsB (P : Program) (T : TypeId) : Option (List (Nat × TypeId)) := match P.underlying T with
  | some (.struct fs) => if fs.toList.all (fun f => f.name != "_") && !P.stoodInHeld T then some (fs.toList.map fun f => (f.offset, f.type)) else none
  | _ => none

theorem bytes_beq (a b : ByteArray) : (a == b) = decide (a = b) := by
  rw [Bool.eq_iff_iff]
  show (a.data == b.data) = true ↔ _
  simp only [beq_iff_eq, decide_eq_true_eq]
  constructor
  · intro h; cases a; cases b; simp_all
  · rintro rfl; rfl

theorem toList_beq (a b : ByteArray) : (a.toList == b.toList) = decide (a = b) := by
  rw [Bool.eq_iff_iff, ByteArray.toList_eq, ByteArray.toList_eq]
  simp only [beq_iff_eq, decide_eq_true_eq]
  constructor
  · intro h; cases a; cases b; simp_all
  · rintro rfl; rfl

def kindB (P : Program) (T : TypeId) : Option TypeDesc := P.underlying T

mutual
/-- Two data of a type, and whether they are the same. -/
inductive EqD (P : Program) : Nat → TypeId → D → D → Bool → Prop
  | bool {n : Nat} {T : TypeId} {a b : Bool} (h : P.underlying T = some .bool) : EqD P (n + 1) T (.v (.bool a)) (.v (.bool b)) (a == b)
  | int {n : Nat} {T : TypeId} {k : IntKind} {a b : Int} (h : P.underlying T = some (.int k)) : EqD P (n + 1) T (.v (.int k a)) (.v (.int k b)) (a == b)
  | str {n : Nat} {T : TypeId} {a b : ByteArray} (h : P.underlying T = some .string) : EqD P (n + 1) T (.v (.string a)) (.v (.string b)) (decide (a = b))
  | bs {n m : Nat} {T e : TypeId} {a b : List UInt8} (h : arB P T = some (m, e)) (he : P.underlying e = some (.int .u8)) (hs : szB P e = some 1) : EqD P (n + 2) T (.bs m a) (.bs m b) (decide (a = b))
  | st {n : Nat} {T : TypeId} {fs : List (Nat × TypeId)} {ps qs : List D} {r : Bool} (h : fldsB P T = some fs) (hf : EqF P n 0 fs ps qs r) : EqD P (n + 1) T (.st ps) (.st qs) r
inductive EqF (P : Program) : Nat → Nat → List (Nat × TypeId) → List D → List D → Bool → Prop
  | nil {n off : Nat} : EqF P n off [] [] [] true
  | cons {n off sz : Nat} {T : TypeId} {fs : List (Nat × TypeId)} {p q : D} {ps qs : List D} {r r' : Bool} {b : Bool} (hT : TA P T b sz) (hp : p.isAgg = b) (hq : q.isAgg = b) (hp' : p.size = sz) (hq' : q.size = sz)
      (h : EqD P n T p q r) (hs : EqF P n (off + sz) fs ps qs r') : EqF P n off ((off, T) :: fs) (p :: ps) (q :: qs) (r && r')
end

theorem all_eq_bytes : ∀ (a b : List UInt8), a.length = b.length → (List.range a.length).all (fun i => decide (a[i]? = b[i]?)) = decide (a = b)
  | a, b, h => by
    rw [Bool.eq_iff_iff]
    simp only [List.all_eq_true, List.mem_range, decide_eq_true_eq]
    constructor
    · intro hall
      apply List.ext_getElem?
      intro i
      by_cases hi : i < a.length
      · exact hall i hi
      · rw [List.getElem?_eq_none (by omega), List.getElem?_eq_none (by omega)]
    · rintro rfl i _; rfl

theorem u8v_inj {a b : UInt8} (h : a.toNat = b.toNat) : a = b := UInt8.toNat_inj.1 h

mutual
theorem run_eqD {I : Nat → Prop} : ∀ {n : Nat} {T : TypeId} {x y : D} {r : Bool} {cx cy : List Value}, EqD P n T x y r → DR I w x cx → DR I w y cy →
    (Op.equalIn n T (mkV x.isAgg cx) (mkV y.isAgg cy)).run P w = .ok r w
  | _, _, _, _, _, _, _, .bool h, .v _, .v _ => by
    simp only [mkV, D.isAgg, Bool.false_eq_true, if_false, List.headD_cons, Op.equalIn, Sem.run_bind, run_underlying h, Result.andThen, Sem.run_pure]
  | _, _, _, _, _, _, _, .int h, .v _, .v _ => by
    simp only [mkV, D.isAgg, Bool.false_eq_true, if_false, List.headD_cons, Op.equalIn, Sem.run_bind, run_underlying h, Result.andThen, Sem.run_pure, if_true]
  | _, _, _, _, _, _, _, .str (a := a) (b := b) h, .v _, .v _ => by
    rw [← bytes_beq]
    simp only [mkV, D.isAgg, Bool.false_eq_true, if_false, List.headD_cons, Op.equalIn, Sem.run_bind, run_underlying h, Result.andThen, Sem.run_pure]
  | _, _, _, _, _, _, _, .bs (n := n) (a := a) (b := b) h he hs, .bs ha, .bs hb => by
    have hu := arB_under h
    simp only [mkV, D.isAgg, if_true]
    unfold Op.equalIn
    simp only [Sem.run_bind, run_underlying hu, Result.andThen, run_sizeOf_of hs, Nat.mul_one]
    rw [Std.Legacy.Range.forIn_eq_forIn_range']
    have hA : aggB P _ = some false := show aggB P _ = _ by unfold aggB; rw [he]; rfl
    rw [run_all _ (fun i => decide (a[i]? = b[i]?))]
    · have e1 : (List.range' (0 : Nat) a.length 1) = List.range a.length := by rw [List.range_eq_range']
      simp only [Std.Legacy.Range.size, Nat.sub_zero, Nat.add_sub_cancel, Nat.div_one]
      rw [← ha, e1, all_eq_bytes a b (ha.trans hb.symm)]
      by_cases hab : a = b
      · simp [hab]
      · simp [hab]
    · intro i hi
      have hi' : i < a.length := by
        simp [Std.Legacy.Range.size] at hi
        omega
      have hi'' : i < b.length := by omega
      simp only [Sem.run_bind]
      rw [run_part_one hA (v := u8v a[i]) (by simp [hi'])]
      simp only [Result.andThen]
      rw [run_part_one hA (v := u8v b[i]) (by simp [hi''])]
      simp only [Result.andThen, u8v, Op.equalIn, Sem.run_bind, run_underlying he, Sem.run_pure, if_true]
      have : ((a[i].toNat : Int) == (b[i].toNat : Int)) = decide (a[i]? = b[i]?) := by
        rw [Bool.eq_iff_iff]
        simp only [beq_iff_eq, decide_eq_true_eq, List.getElem?_eq_getElem hi', List.getElem?_eq_getElem hi'', Option.some.injEq]
        constructor
        · intro h; exact u8v_inj (by omega)
        · intro h; rw [h]
      rw [this]
      cases decide (a[i]? = b[i]?) <;> rfl
  | _, _, _, _, _, _, _, .st (T := T) (fs := fs) (r := r) h hf, .st hx, .st hy => by
    unfold fldsB at h
    cases hu : P.underlying T with
    | none => simp [hu] at h
    | some d =>
      cases d <;> simp only [hu] at h <;> try (cases h; done)
      rename_i F
      split at h
      · rename_i hc
        simp only [Bool.and_eq_true, List.all_eq_true, Bool.not_eq_true'] at hc
        simp only [Option.some.injEq] at h
        simp only [mkV, D.isAgg, if_true]
        unfold Op.equalIn
        simp only [Sem.run_bind, run_underlying hu, Result.andThen, run_program, hc.2, Bool.false_eq_true, if_false, Sem.run_pure]
        rw [← Array.forIn_toList]
        have key := run_eqF (L := F.toList) (pre := []) (pre' := []) (fun f hf' => hc.1 f hf') (by rw [h]; exact hf) hx hy rfl rfl
        simp only [List.nil_append] at key
        rw [key]
        cases r <;> rfl
      · cases h
theorem run_eqF {I : Nat → Prop} : ∀ {n off : Nat} {L : List Field} {ps qs : List D} {r : Bool} {pre pre' cx cy : List Value}, (∀ f ∈ L, (f.name != "_") = true) → EqF P n off (L.map fun f => (f.offset, f.type)) ps qs r →
    DRs I w ps cx → DRs I w qs cy → pre.length = off → pre'.length = off →
    (forIn L ((none : Option Bool), ()) (fun (f : Field) (_ : Option Bool × Unit) => do
      if f.name ≠ "_" then do
        let a ← part f.type (pre ++ cx).toArray f.offset
        let b ← part f.type (pre' ++ cy).toArray f.offset
        let c ← Op.equalIn n f.type a b
        if (!c) = true then pure (ForInStep.done (some false, ())) else pure (ForInStep.yield (none, ()))
      else pure (ForInStep.yield (none, ())))).run P w = .ok (if r then (none, ()) else (some false, ())) w
  | _, _, [], _, _, _, _, _, _, _, _, hf, _, _, _, _ => by cases hf; rfl
  | n, off, f :: L, _, _, _, pre, pre', _, _, hn, hf, hx, hy, hp, hp' => by
    simp only [List.map_cons] at hf
    generalize ho : f.offset = fo at hf
    cases hf with
    | cons hT k1 k2 k3 k4 h hs =>
      rename_i sz p q ps qs r r' b
      cases hx with
      | cons hx hxs =>
        cases hy with
        | cons hy hys =>
          rename_i c1 c1' c2 c2'
          have l1 : c1.length = sz := hx.len.trans k3
          have l2 : c2.length = sz := hy.len.trans k4
          have hname := hn f (by simp)
          have hname' : f.name ≠ "_" := by simpa using hname
          have hpart : ∀ (a c z : List Value) (x : D), a.length = off → c.length = sz → DR I w x c → x.isAgg = b → x.size = sz → (part f.type (a ++ (c ++ z)).toArray off).run P w = .ok (mkV x.isAgg c) w := by
            intro a c z x ha hc hx hb hsz
            cases b with
            | true =>
              rw [run_part_agg hT, hb]
              simp only [mkV, if_true]
              congr 2
              apply Array.ext'
              simp [Array.toList_extract, List.extract, ← ha, hc]
            | false =>
              have h1 : c.length = 1 := one_cell (E := ⟨fun _ => none, fun _ => none, fun _ => 0, fun _ => [], fun _ => True, w⟩) (.d (hx.mono (Nat.le_refl _) (fun _ _ _ => ⟨⟨trivial, fun _ _ h => by cases h⟩, rfl⟩))) hb
              match c, h1 with
              | [v], _ =>
                rw [run_part_one hT.1 (v := v) (by simp [← ha]), hb]
                rfl
          rw [List.forIn_cons]
          simp only [hname', ne_eq, not_false_eq_true, if_true, Sem.run_bind]
          rw [ho, hpart pre c1 c1' _ hp l1 hx k1 k3]
          simp only [Result.andThen]
          rw [hpart pre' c2 c2' _ hp' l2 hy k2 k4]
          simp only [Result.andThen]
          rw [run_eqD h hx hy]
          simp only [Result.andThen]
          cases r with
          | false => simp [Sem.run_pure, Result.andThen]
          | true =>
            simp only [Bool.not_true, Bool.false_eq_true, if_false, Sem.run_pure, Result.andThen, Bool.true_and]
            have := run_eqF (L := L) (pre := pre ++ c1) (pre' := pre' ++ c2) (fun g hg => hn g (by simp [hg])) hs hxs hys (by simp [hp, l1]) (by simp [hp', l2])
            simp only [List.append_assoc] at this
            exact this
end

end
end Go.Val
