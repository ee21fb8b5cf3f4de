/- What the sort's world holds. -/
import Derived.Test.YtlcnkhphgekmeaaPb
import Derived.Sort.Row
import Derived.Sort.Grow
set_option linter.unusedSectionVars false
set_option linter.unusedVariables false
set_option linter.unusedSimpArgs false
namespace Go.Val
open Go.Sort

theorem putCells_front {F : Array Value} {cs sp : List Value} (h : F.size = cs.length) : putCells id 0 F (cs ++ sp).toArray = (F.toList ++ sp).toArray := by
  apply Array.ext'
  apply List.ext_getElem?
  intro i
  simp only [putCells, Array.toList_mapIdx, List.getElem?_mapIdx, Nat.zero_le, true_and, Nat.zero_add, Nat.sub_zero, id]
  by_cases hi : i < F.size
  · rw [List.getElem?_append_left (by rw [← h]; exact hi), List.getElem?_append_left (by simpa using hi)]
    rw [List.getElem?_eq_getElem (by rw [← h]; exact hi)]
    simp [hi]
  · rw [List.getElem?_append_right (by omega), List.getElem?_append_right (by simpa using Nat.le_of_not_lt hi)]
    have e1 : ({ toList := cs } : Array Value).size = F.size := h.symm
    simp only [hi, if_false]
    rw [Array.length_toList]
    first
      | (rw [e1]; cases sp[i - F.size]? <;> rfl)
      | (rw [← h]; cases sp[i - F.size]? <;> rfl)

theorem putRow_block {w : World} {g : Nat} {F : Array Value} {cs sp : List Value} {e : TypeId} (h : F.size = cs.length) (hb : w.heap[g]? = some (.cells (cs ++ sp).toArray e (0, 0))) : (putRow id w g 0 F).heap[g]? = some (.cells (F.toList ++ sp).toArray e (0, 0)) := by
  unfold putRow mapBlock
  simp only [Array.getElem?_modify, if_true, hb, Option.map_some, onCells, putCells_front h]

theorem putRow_other {w : World} {g k : Nat} {F : Array Value} (hk : k ≠ g) : (putRow id w g 0 F).heap[k]? = w.heap[k]? := by
  unfold putRow mapBlock
  simp only [Array.getElem?_modify, Ne.symm hk, if_false]

end Go.Val
