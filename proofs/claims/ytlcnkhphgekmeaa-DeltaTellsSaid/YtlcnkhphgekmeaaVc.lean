/- New objects, objects that turn, and the weakening of a state. -/
import Derived.Test.YtlcnkhphgekmeaaVb
set_option linter.unusedSectionVars false
set_option linter.unusedVariables false
set_option linter.unusedSimpArgs false
namespace Go.Val
open Go.RowKit
variable [Drw]

theorem upd_same {α : Type} (f : Nat → Option α) (d : Nat) (x : Option α) : upd f d x d = x := by simp [upd_eq]
theorem upd_ne {α : Type} (f : Nat → Option α) {d t : Nat} (x : Option α) (h : t ≠ d) : upd f d x t = f t := by simp [upd_eq, h]

/-- The environment with a new object o at block b (or at none). -/
def Env.new (E : Env) (o : Nat) (ob : OB) (b : Option Nat) (cap : Nat) (births : List Nat) (w : World) : Env :=
  { obj := upd E.obj o (some ob), β := fun t => if t = o then b else E.β t, γ := fun t => if t = o then cap else E.γ t, δ := fun t => if t = o then births else E.δ t, J := E.J, w := w }

theorem ext_new {E : Env} {o : Nat} {ob : OB} {b : Option Nat} {cap : Nat} {births : List Nat} {w : World} (ho : E.obj o = none) (hz : E.w.heap.size ≤ w.heap.size)
    (hb : ∀ k, b = some k → E.w.heap.size ≤ k) (hh : ∀ k, k < E.w.heap.size → w.heap[k]? = E.w.heap[k]?) : Ext E (E.new o ob b cap births w) := by
  refine ⟨hz, fun k hk hlt => ⟨⟨hk.1, fun o' ob' h' e => ?_⟩, hh k hlt⟩, fun o' ob' h' => ?_⟩
  · simp only [Env.new, upd_eq] at h' e
    by_cases h : o' = o
    · simp only [h, if_true] at e
      have := hb k e; omega
    · simp only [h, if_false] at h' e
      exact hk.2 _ _ h' e
  · have hne : o' ≠ o := fun e => by subst e; rw [ho] at h'; cases h'
    refine ⟨ob', by simp only [Env.new]; rw [upd_ne _ _ hne]; exact h', ?_⟩
    cases ob' <;> simp [OExt, Env.new, hne]

theorem R0.new {cx : Cx} {s : St} {a : Act} {E : Env} (h : R0 cx s a E) {o : Nat} {ob : OB} {b : Option Nat} {cap : Nat} {births : List Nat} {w : World}
    (ho : s.obj o = none) (hz : E.w.heap.size ≤ w.heap.size) (hb : ∀ k, b = some k → E.w.heap.size ≤ k) (hh : ∀ k, k < E.w.heap.size → w.heap[k]? = E.w.heap[k]?)
    (hk : Keeps cx w) (hor : OR (E.new o ob b cap births w) o ob) : R0 cx (s.set o ob) a (E.new o ob b cap births w) := by
  have ho' : E.obj o = none := by rw [h.obj]; exact ho
  have he := ext_new (ob := ob) (cap := cap) (births := births) ho' hz hb hh
  have lt : ∀ o' k, s.obj o' ≠ none → E.β o' = some k → k < E.w.heap.size := by
    intro o' k h1 h2
    obtain ⟨x, hx⟩ := Option.ne_none_iff_exists'.1 h1
    exact (h.objs _ _ hx).lt h2
  refine h.trans he rfl rfl (by simp [Env.new, St.set, h.obj]) (fun o' ob' h' => ?_) (fun o1 o2 k h1 h2 e1 e2 => ?_) (fun o1 k h1 e1 => ?_) hk
  · simp only [St.set, upd_eq] at h'
    by_cases hne : o' = o
    · simp only [hne, if_true, Option.some.injEq] at h'; subst hne; subst h'; exact hor
    · simp only [hne, if_false] at h'
      refine (h.objs _ _ h').ext he (by simp [Env.new, hne]) (by simp [Env.new, hne]) (by simp [Env.new, hne]) (fun k hk' => hh k ((h.objs _ _ h').lt hk')) (fun m ver l cu e => ?_)
      by_cases hm : m = o
      · -- a walk over what was no object: it does not know of it
        subst hm
        have := h.objs _ _ h'
        subst e
        obtain ⟨b1, since, seen, last, q1, q2, q3, c5, e5, q5, q6⟩ := this
        rw [ho'] at q5
        cases q5
      · refine ⟨by simp [Env.new, hm], fun es hes => ?_, fun ⟨cur, es, q, q'⟩ => ⟨cur, es, by simp only [Env.new, upd_eq, hm, if_false]; exact q, q'⟩⟩
        simp only [Env.new, upd_eq, hm, if_false] at hes ⊢; exact ⟨hes, trivial, trivial⟩
  · simp only [St.set, upd_eq] at h1 h2
    simp only [Env.new] at e1 e2
    by_cases q1 : o1 = o <;> by_cases q2 : o2 = o
    · rw [q1, q2]
    · simp only [q1, if_true] at e1; simp only [q2, if_false] at h2 e2
      have := hb _ e1; have := lt _ _ h2 e2; omega
    · simp only [q2, if_true] at e2; simp only [q1, if_false] at h1 e1
      have := hb _ e2; have := lt _ _ h1 e1; omega
    · simp only [q1, q2, if_false] at h1 h2 e1 e2
      exact h.inj _ _ _ h1 h2 e1 e2
  · simp only [St.set, upd_eq] at h1
    simp only [Env.new] at e1
    by_cases q1 : o1 = o
    · simp only [q1, if_true] at e1; exact .inl (by have := hb _ e1; have := h.keeps.size; omega)
    · simp only [q1, if_false] at h1 e1; exact h.own _ _ h1 e1

/-- The environment in which object o has turned. -/
def Env.turn (E : Env) (o : Nat) (ob : OB) (b : Option Nat) (cap : Nat) (births : List Nat) (w : World) : Env := E.new o ob b cap births w

theorem R0.turn {cx : Cx} {s : St} {a : Act} {E : Env} (h : R0 cx s a E) {o : Nat} {ob ob' : OB} {b : Option Nat} {cap : Nat} {births : List Nat} {w : World}
    (ho : s.obj o = some ob) (hz : E.w.heap.size ≤ w.heap.size) (hb : ∀ k, b = some k → E.β o = some k ∨ E.w.heap.size ≤ k)
    (hh : ∀ k, k < E.w.heap.size → E.β o ≠ some k → w.heap[k]? = E.w.heap[k]?) (hos : w.os = E.w.os) (htape : w.tape = E.w.tape) (hout : w.output = E.w.output)
    (hx : OExt E (E.turn o ob' b cap births w) o ob ob') (hor : Ext E (E.turn o ob' b cap births w) → OR (E.turn o ob' b cap births w) o ob')
    (hmap : ∀ v es, ob = .map v es → ∃ es', ob' = .map (v + 1) es') (hdr : E.w.drawn ≤ w.drawn := by first | exact Nat.le_refl _ | exact Nat.le_succ _) : R0 cx (s.set o ob') a (E.turn o ob' b cap births w) := by
  have ho' : E.obj o = some ob := by rw [h.obj]; exact ho
  have ne : s.obj o ≠ none := by rw [ho]; simp
  have hblk : ∀ o' k, o' ≠ o → s.obj o' ≠ none → E.β o' = some k → w.heap[k]? = E.w.heap[k]? := by
    intro o' k hne h1 h2
    obtain ⟨x, hx⟩ := Option.ne_none_iff_exists'.1 h1
    exact hh k ((h.objs _ _ hx).lt h2) (fun e => hne (h.inj _ _ _ h1 ne h2 e))
  have lt : ∀ o' k, s.obj o' ≠ none → E.β o' = some k → k < E.w.heap.size := by
    intro o' k h1 h2
    obtain ⟨x, hx⟩ := Option.ne_none_iff_exists'.1 h1
    exact (h.objs _ _ hx).lt h2
  have he : Ext E (E.turn o ob' b cap births w) := by
    refine ⟨hz, fun k hk hlt => ⟨⟨hk.1, fun o' x h' e => ?_⟩, hh k hlt (hk.2 _ _ ho')⟩, fun o' x h' => ?_⟩
    · simp only [Env.turn, Env.new, upd_eq] at h' e
      by_cases q : o' = o
      · simp only [q, if_true] at e
        rcases hb k e with e1 | e1
        · exact hk.2 _ _ ho' e1
        · omega
      · simp only [q, if_false] at h' e
        exact hk.2 _ _ h' e
    · by_cases q : o' = o
      · subst q; rw [ho'] at h'; cases h'
        exact ⟨ob', by simp [Env.turn, Env.new, upd_eq], hx⟩
      · refine ⟨x, by simp only [Env.turn, Env.new]; rw [upd_ne _ _ q]; exact h', ?_⟩
        cases x <;> simp [OExt, Env.turn, Env.new, q]
  refine h.trans he rfl rfl (by simp [Env.turn, Env.new, St.set, h.obj]) (fun o' x h' => ?_) (fun o1 o2 k h1 h2 e1 e2 => ?_) (fun o1 k h1 e1 => ?_) ?_
  · simp only [St.set, upd_eq] at h'
    by_cases hne : o' = o
    · simp only [hne, if_true, Option.some.injEq] at h'; subst hne; subst h'; exact hor he
    · simp only [hne, if_false] at h'
      refine (h.objs _ _ h').ext he (by simp [Env.turn, Env.new, hne]) (by simp [Env.turn, Env.new, hne]) (by simp [Env.turn, Env.new, hne])
        (fun k hk' => hblk _ _ hne (by rw [h']; simp) hk') (fun m ver l cu e => ?_)
      by_cases hm : m = o
      · subst hm
        subst e
        obtain ⟨b1, since, seen, last, q1, q2, q3, c5, e5, q5, q6⟩ := h.objs _ _ h'
        rw [ho'] at q5
        cases q5
        obtain ⟨es', he'⟩ := hmap _ _ rfl
        subst he'
        refine ⟨?_, fun es hes => ?_, fun _ => ⟨c5 + 1, es', by simp [Env.turn, Env.new, upd_eq], by omega⟩⟩
        · simp only [OExt] at hx; exact hx.1
        · simp only [Env.turn, Env.new, upd_eq, if_true, Option.some.injEq, OB.map.injEq] at hes
          omega
      · refine ⟨by simp [Env.turn, Env.new, hm], fun es hes => ?_, fun ⟨cur, es, q, q'⟩ => ⟨cur, es, by simp only [Env.turn, Env.new, upd_eq, hm, if_false]; exact q, q'⟩⟩
        simp only [Env.turn, Env.new, upd_eq, hm, if_false] at hes ⊢; exact ⟨hes, trivial, trivial⟩
  · simp only [St.set, upd_eq] at h1 h2
    simp only [Env.turn, Env.new] at e1 e2
    by_cases q1 : o1 = o <;> by_cases q2 : o2 = o
    · rw [q1, q2]
    · simp only [q1, if_true] at e1; simp only [q2, if_false] at h2 e2
      rcases hb _ e1 with e3 | e3
      · rw [q1]; exact (h.inj _ _ _ h2 ne e2 e3).symm
      · have := lt _ _ h2 e2; omega
    · simp only [q2, if_true] at e2; simp only [q1, if_false] at h1 e1
      rcases hb _ e2 with e3 | e3
      · rw [q2]; exact h.inj _ _ _ h1 ne e1 e3
      · have := lt _ _ h1 e1; omega
    · simp only [q1, q2, if_false] at h1 h2 e1 e2
      exact h.inj _ _ _ h1 h2 e1 e2
  · simp only [St.set, upd_eq] at h1
    simp only [Env.turn, Env.new] at e1
    by_cases q1 : o1 = o
    · simp only [q1, if_true] at e1
      rcases hb _ e1 with e3 | e3
      · exact h.own _ _ ne e3
      · exact .inl (by have := h.keeps.size; omega)
    · simp only [q1, if_false] at h1 e1; exact h.own _ _ h1 e1
  · refine ⟨hos.trans h.keeps.os, htape.trans h.keeps.tape, hout.trans h.keeps.output, Nat.le_trans h.keeps.size hz, fun k hk hT => ?_, fun d => Nat.le_trans (h.keeps.drawn d) hdr⟩
    rw [← h.keeps.block k hk hT]
    refine hh k (by have := h.keeps.size; omega) (fun e => ?_)
    rcases h.own _ _ ne e with e3 | e3
    · omega
    · exact hT e3

end Go.Val
