/- Rows of elements of k cells, laid flat: plain facts. -/
import Derived.Test.YtlcnkhphgekmeaaPa
set_option linter.unusedSectionVars false
set_option linter.unusedVariables false
set_option linter.unusedSimpArgs false
namespace Go.Val

theorem flat_len {α β : Type} {enc : α → List β} {k : Nat} (hk : ∀ x, (enc x).length = k) : ∀ l : List α, (l.flatMap enc).length = l.length * k
  | [] => by simp
  | x :: l => by rw [List.flatMap_cons, List.length_append, hk, flat_len hk l, List.length_cons, Nat.succ_mul]; omega

theorem flat_get {α β : Type} {enc : α → List β} {k : Nat} (hk : ∀ x, (enc x).length = k) (h0 : 0 < k) : ∀ (l : List α) (t : Nat), (l.flatMap enc)[t]? = (l[t / k]?).bind fun x => (enc x)[t % k]?
  | [], t => by simp
  | x :: l, t => by
    rw [List.flatMap_cons]
    by_cases ht : t < k
    · rw [List.getElem?_append_left (by rw [hk]; exact ht), Nat.div_eq_of_lt ht, Nat.mod_eq_of_lt ht]
      rfl
    · have h1 : k ≤ t := Nat.le_of_not_lt ht
      rw [List.getElem?_append_right (by rw [hk]; exact h1), hk, flat_get hk h0 l (t - k)]
      have h2 : t / k = (t - k) / k + 1 := by
        rw [← Nat.add_div_right _ h0, Nat.sub_add_cancel h1]
      have h3 : t % k = (t - k) % k := by
        rw [← Nat.add_mod_right (t - k) k, Nat.sub_add_cancel h1]
      rw [h2, h3, List.getElem?_cons_succ]

end Go.Val
