/- The sort's contract over a row of one's own, from the shelf's form of it. -/
import Derived.Test.YtlcnkhphgekmeaaVx
import Derived.Test.YtlcnkhphgekmeaaPc
set_option linter.unusedSectionVars false
set_option linter.unusedVariables false
set_option linter.unusedSimpArgs false
namespace Go.Val
open Go.RowKit Go.Sort
variable [Drw]

theorem get_bang {l : List Value} {j : Nat} (h : j < l.length) : l[j]? = some (l.toArray[j]!) := by
  simp [h]

theorem sort_row {P : Program} {n : Nat} {g2 : FuncId} {α : Type} {enc : α → List Value} {k : Nat} {kt : TypeId} {S : List α → Prop} {srt : List α → List α} {cv : Value} {w : World} {N : Nat}
    (hk : ∀ x, (enc x).length = k) (hsl : ∀ ss, (srt ss).length = ss.length) (hSN : ∀ ss, S ss → ss.length ≤ N)
    (hnone : ∀ W, Calls P g2 #[.slice none 0 0, cv] W fun e w' => e = .returned (.tuple #[]) ∧ w' = W)
    (htot : ∀ (W : World) (g cap : Nat) (ss : List α), S ss → Holds id W g 0 (ss.flatMap enc).toArray → g < W.heap.size → Calls P g2 #[.slice (some ⟨g, 0, none⟩) ss.length cap, cv] W fun e w' =>
      e = .returned (.tuple #[]) ∧ ∃ q os, w' = grow (putRow id (Sort.ahead W q) g 0 ((srt ss).flatMap enc).toArray) os) :
    ∀ (W : World) (v : Value) (ss : List α), S ss → RowAt w.heap.size k kt v (ss.flatMap enc) ss.length W → w.heap.size ≤ W.heap.size → CallsIn Fence.wide (n - 1) P g2 #[v, cv] W fun e w' =>
      (∃ u, e = .returned u) ∧ RowAt w.heap.size k kt v ((srt ss).flatMap enc) ss.length w' ∧ Below w.heap.size W w' := by
  intro W v ss hS hrow hle
  refine callsIn_wide.2 ?_
  rcases hrow with ⟨rfl, h0, h1⟩ | ⟨g, cap, sp, rfl, hg, hb, hl, hcap, hm⟩
  · have hss : ss = [] := List.eq_nil_of_length_eq_zero h0
    have hsr : srt ss = [] := List.eq_nil_of_length_eq_zero (by rw [hsl]; exact h0)
    refine (hnone W).mono ?_
    rintro e w' ⟨rfl, rfl⟩
    exact ⟨⟨_, rfl⟩, .inl ⟨rfl, h0, by rw [hsr]; rfl⟩, Below.refl _ _⟩
  · have hgs : g < W.heap.size := (Array.getElem?_eq_some_iff.1 hb).1
    refine (htot W g cap ss hS ?_ hgs).mono ?_
    · intro j hj
      have hj' : j < (ss.flatMap enc).length := by simpa using hj
      constructor
      · have hc : (ss.flatMap enc ++ sp).toArray[0 + j]? = some ((ss.flatMap enc).toArray[j]!) := by
          rw [Nat.zero_add, List.getElem?_toArray, List.getElem?_append_left hj', get_bang hj']
        have : W.cell? ⟨g, 0 + j, none⟩ = (ss.flatMap enc ++ sp).toArray[0 + j]? := by
          simp [World.cell?, hb]
        rw [this, hc]; rfl
      · simp [World.frozen?, hb]
    · rintro e w' ⟨rfl, q, os, rfl⟩
      have hF : ((srt ss).flatMap enc).toArray.size = (ss.flatMap enc).length := by
        rw [List.size_toArray, flat_len hk, flat_len hk, hsl]
      have hb' : (Sort.ahead W q).heap[g]? = some (.cells (ss.flatMap enc ++ sp).toArray kt (0, 0)) := hb
      have hs1 : (putRow id (Sort.ahead W q) g 0 ((srt ss).flatMap enc).toArray).heap.size = W.heap.size := by
        simp [putRow, mapBlock, Sort.ahead]
      refine ⟨⟨_, rfl⟩, .inr ⟨g, cap, sp, rfl, hg, ?_, ?_, ?_, hm⟩, ⟨rfl, rfl, rfl, ?_, ?_⟩⟩
      · rw [heap_grow_old _ _ (by rw [hs1]; exact hgs), putRow_block hF hb']
      · rw [flat_len hk, hsl]
      · rw [List.length_append] at hcap ⊢
        rw [flat_len hk, hsl]
        rw [flat_len hk] at hcap
        exact hcap
      · rw [size_grow, hs1]; omega
      · intro j hj
        rw [heap_grow_old _ _ (by rw [hs1]; omega), putRow_other (by omega)]
        rfl

end Go.Val
