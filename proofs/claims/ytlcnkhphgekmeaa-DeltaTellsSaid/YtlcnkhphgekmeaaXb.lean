/- slices.Grow of nil, as a contract over values. -/
import Derived.Test.YtlcnkhphgekmeaaXa
set_option linter.unusedSectionVars false
set_option linter.unusedVariables false
set_option linter.unusedSimpArgs false
namespace Go.Val
open Go.RowKit
variable [NoDrw]

theorem grow_fn {P : Program} {f : FuncId} {k bs : Nat} {kt : TypeId} {n : Int} (hn : 0 ≤ n ∧ n.toNat * bs ≤ 140737488355328)
    (H : ∀ (n : Nat) (w : World), n * bs ≤ 140737488355328 → Calls P f #[.slice none 0 0, .int .i64 n] w fun e w' => (e = .returned (.slice none 0 0) ∧ w' = w) ∨
      ∃ (G : Nat) (cs : Array Value), e = .returned (.slice (some ⟨w.heap.size, 0, none⟩) 0 G) ∧ w' = w.drew.alloc (.cells cs kt) ∧ cs.size = G * k) :
    FnOk P f [.d (.v (.slice none 0 0)), .d (.v (.int .i64 n))] 0 (lk []) (fun rr oo => rr = .arr 0 0 ∧ oo = lk [(0, .arr 0 k [])]) := by
  intro hk E vals hE hok hargs
  have ho1 : ∀ o, E.obj o = none := fun o => by rw [hE]; rfl
  obtain ⟨m, hm⟩ : ∃ m : Nat, n = m := ⟨n.toNat, by omega⟩
  subst hm
  have hvals : vals.toArray = #[.slice none 0 0, .int .i64 m] := by
    cases hargs with
    | cons h1 h2 =>
      cases h2 with
      | cons h3 h4 =>
        cases h4
        cases h1 with
        | d h1 =>
          cases h1
          cases h3 with
          | d h3 => cases h3; rfl
  rw [hvals]
  refine (H m E.w (by simpa using hn.2)).mono ?_
  have fin : ∀ (w' : World) (b : Option Nat) (G : Nat), E.w.heap.size ≤ w'.heap.size → (∀ j, j < E.w.heap.size → w'.heap[j]? = E.w.heap[j]?) → w'.os = E.w.os → w'.tape = E.w.tape → w'.output = E.w.output →
      ((b = none ∧ G = 0) ∨ ∃ (cs : Array Value), b = some E.w.heap.size ∧ w'.heap[E.w.heap.size]? = some (.cells cs kt (0, 0)) ∧ cs.size = G * k) →
      Ret E (fun rr oo => rr = .arr 0 0 ∧ oo = lk [(0, .arr 0 k [])]) (.returned (sliceV b 0 G)) w' := by
    intro w' b G hz hh hos ht hou hb
    let E' : Env := { obj := lk [(0, .arr 0 k [])], β := fun o => if o = 0 then b else none, γ := fun _ => G, δ := fun _ => [], J := fun j => E.J j ∨ E.w.heap.size ≤ j, w := w' }
    have hbb : ∀ o j, E'.β o = some j → j = E.w.heap.size ∧ o = 0 := by
      intro o j h
      simp only [E'] at h
      by_cases h0 : o = 0
      · rw [if_pos h0] at h
        rcases hb with ⟨h1, _⟩ | ⟨cs, h1, _⟩
        · rw [h1] at h; cases h
        · rw [h1] at h; cases h; exact ⟨rfl, h0⟩
      · rw [if_neg h0] at h; cases h
    have hob : ∀ o ob, E'.obj o = some ob → o = 0 ∧ ob = .arr 0 k [] := by
      intro o ob h
      have := lk_mem h
      simp at this
      exact this
    refine ⟨_, .arr 0 0, E', rfl, rfl, ⟨rfl, rfl⟩, ⟨[sliceV b 0 G], .arr (cur := 0) (es := k) (rows := []) rfl (Nat.le_refl _) (fun _ => rfl) ?_, rfl⟩, ⟨?_, ?_⟩, ?_, ⟨hos, ht, hou, hz, fun j hj _ => hh j hj, fun h => absurd h NoDrw.no⟩, ?_, ?_⟩
    · cases b <;> rfl
    · intro o ob ho
      obtain ⟨rfl, rfl⟩ := hob o ob ho
      rcases hb with ⟨h1, h2⟩ | ⟨cs, h1, h2, h3⟩
      · exact .inl ⟨h1, rfl, h2⟩
      · exact .inr ⟨_, [], cs.toList, kt, h1, .nil, by simp, by simpa using h2, by simpa using h3, by simp⟩
    · intro o o' j _ _ h3 h4
      rw [(hbb o j h3).2, (hbb o' j h4).2]
    · intro o j _ h
      exact .inl (by rw [(hbb o j h).1]; exact Nat.le_refl _)
    · rintro j (h | h)
      · exact .inl h
      · exact .inr (.inl h)
    · intro o ob h
      rw [ho1 o] at h; cases h
  rintro e w' (⟨rfl, rfl⟩ | ⟨G, cs, rfl, rfl, hcs⟩)
  · exact fin E.w none 0 (Nat.le_refl _) (fun _ _ => rfl) rfl rfl rfl (.inl ⟨rfl, rfl⟩)
  · exact fin _ (some E.w.heap.size) G (by simp) (fun j hj => Below.heap_alloc E.w.drew _ _ hj) rfl rfl rfl (.inr ⟨cs, rfl, alloc_new E.w.drew _, hcs⟩)

end Go.Val
