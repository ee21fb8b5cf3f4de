/- slices.Grow of rows of pairs and of parts,by the shelf's contracts. -/
import Derived.Shelf.Spec.SlicesGrow
import Derived.Test.YtfbnhflapgddbaaSj
import Derived.Test.YtfbnhflapgddbaaSk
import Derived.Test.YtfbnhflapgddbaaLc
import Derived.Test.YtfbnhflapgddbaaWa
set_option linter.all false
namespace Go.Val
open Go.RowKit Go.Proofs
section
variable [NoDrw]
def zero52 : List Value := List.replicate 24 (.int .u8 0) ++ [.string (ByteArray.mk #[])]
theorem grow98_ok {n : Int} (hn : 0 ≤ n ∧ n.toNat * 40 ≤ 140737488355328) : FnOk Try.prog 98 [.d (.v (.slice none 0 0)),.d (.v (.int .i64 n))] 0 (lk []) (fun rr oo => rr = .arr 0 0 ∧ oo = lk [(0,.arr 0 25 [])]) := by
 refine grow_fn (kt := 52) hn fun m w hm => ?_
 by_cases h0 : m = 0
 ·subst h0
  have h := Any8.slices_Grow_room Try.grow98 none 0 0 0 w (by omega) (by omega) (by omega) (by omega)
  change Calls Try.prog 98 _ _ _ at h
  exact h.mono fun e w' h => .inl h
 ·have hi : Try.prog.info? 52 = some Try.t52 := by kernel_rfl
  have hz : Try.t52.zero = some (.agg zero52.toArray) := by kernel_rfl
  have hs : Try.t52.size = 25 := by kernel_rfl
  have hb : Try.t52.bytes = 40 := by kernel_rfl
  have h := Any8.slices_Grow_grow Try.grow98 Try.t52 (.agg zero52.toArray) hi hz (by omega) none 0 0 m [] w (by omega) (by omega) (by rw [hb]; omega) (by omega) (by simp) (fun _ => rfl) (fun a h => by cases h)
  change Calls Try.prog 98 _ _ _ at h
  refine h.mono ?_
  rintro e w' ⟨rfl,rfl⟩
  refine .inr ⟨_,_,rfl,rfl,?_⟩
  have hge := grownCap_ge w (0 + m) 0 52
  have h26 : (Value.agg zero52.toArray).cells.size = 25 := by rfl
  have hc : ∀ q,(Builtin.zeroCells (Value.agg zero52.toArray).cells q).size = q * 25 := fun q => by
   unfold Builtin.zeroCells
   rw [Array.size_map,Array.size_range,h26]
  change Array.size _ = grownCap w (0 + m) 0 52 * 25
  simp only [Array.size_append,hc]
  have e71 : (Try.grow98_ren.t 25) = 52 := rfl
  rw [e71]
  simp only [Nat.zero_add] at hge ⊢
  simp
  omega
def zero101 : List Value := List.replicate 24 (.int .u8 0) ++ [.int .i64 0,.pointer none]
theorem grow99_ok {n : Int} (hn : 0 ≤ n ∧ n.toNat * 40 ≤ 140737488355328) : FnOk Try.prog 99 [.d (.v (.slice none 0 0)),.d (.v (.int .i64 n))] 0 (lk []) (fun rr oo => rr = .arr 0 0 ∧ oo = lk [(0,.arr 0 26 [])]) := by
 refine grow_fn (kt := 101) hn fun m w hm => ?_
 by_cases h0 : m = 0
 ·subst h0
  have h := Any8.slices_Grow_room Try.grow99 none 0 0 0 w (by omega) (by omega) (by omega) (by omega)
  change Calls Try.prog 99 _ _ _ at h
  exact h.mono fun e w' h => .inl h
 ·have hi : Try.prog.info? 101 = some Try.t101 := by kernel_rfl
  have hz : Try.t101.zero = some (.agg zero101.toArray) := by kernel_rfl
  have hs : Try.t101.size = 26 := by kernel_rfl
  have hb : Try.t101.bytes = 40 := by kernel_rfl
  have h := Any8.slices_Grow_grow Try.grow99 Try.t101 (.agg zero101.toArray) hi hz (by omega) none 0 0 m [] w (by omega) (by omega) (by rw [hb]; omega) (by omega) (by simp) (fun _ => rfl) (fun a h => by cases h)
  change Calls Try.prog 99 _ _ _ at h
  refine h.mono ?_
  rintro e w' ⟨rfl,rfl⟩
  refine .inr ⟨_,_,rfl,rfl,?_⟩
  have hge := grownCap_ge w (0 + m) 0 101
  have h26 : (Value.agg zero101.toArray).cells.size = 26 := by rfl
  have hc : ∀ q,(Builtin.zeroCells (Value.agg zero101.toArray).cells q).size = q * 26 := fun q => by
   unfold Builtin.zeroCells
   rw [Array.size_map,Array.size_range,h26]
  change Array.size _ = grownCap w (0 + m) 0 101 * 26
  simp only [Array.size_append,hc]
  have e71 : (Try.grow99_ren.t 25) = 101 := rfl
  rw [e71]
  simp only [Nat.zero_add] at hge ⊢
  simp
  omega
end
end Go.Val
