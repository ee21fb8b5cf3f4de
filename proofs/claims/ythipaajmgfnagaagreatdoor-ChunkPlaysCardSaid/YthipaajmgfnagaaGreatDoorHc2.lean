/- maps.Clone and slices.Grow,by the shelf's contracts. -/
import Derived.Shelf.Spec.SlicesGrow
import Derived.Test.YthipaajmgfnagaaGreatDoorSj
import Derived.Test.YthipaajmgfnagaaGreatDoorLc
import Derived.Test.YthipaajmgfnagaaGreatDoorHb
set_option linter.unusedSectionVars false
set_option linter.unusedVariables false
set_option linter.unusedSimpArgs false
namespace Go.Val
open Go.RowKit Go.Proofs
section
variable [NoDrw]
def zero71 : List Value := List.replicate 24 (.int .u8 0) ++ [.string (ByteArray.mk #[]),.bool false]
theorem grow112_ok {n : Int} (hn : 0 ≤ n ∧ n.toNat * 48 ≤ 140737488355328) : FnOk Tryz.prog 112 [.d (.v (.slice none 0 0)),.d (.v (.int .i64 n))] 0 (lk []) (fun rr oo => rr = .arr 0 0 ∧ oo = lk [(0,.arr 0 26 [])]) := by
 refine grow_fn (kt := 88) hn fun m w hm => ?_
 by_cases h0 : m = 0
 ·subst h0
  have h := Any8.slices_Grow_room Tryz.grow112 none 0 0 0 w (by omega) (by omega) (by omega) (by omega)
  change Calls Tryz.prog 112 _ _ _ at h
  exact h.mono fun e w' h => .inl h
 ·have hi : Tryz.prog.info? 88 = some Tryz.t88 := by kernel_rfl
  have hz : Tryz.t88.zero = some (.agg zero71.toArray) := by kernel_rfl
  have hs : Tryz.t88.size = 26 := by kernel_rfl
  have hb : Tryz.t88.bytes = 48 := by kernel_rfl
  have h := Any8.slices_Grow_grow Tryz.grow112 Tryz.t88 (.agg zero71.toArray) hi hz (by omega) none 0 0 m [] w (by omega) (by omega) (by rw [hb]; omega) (by omega) (by simp) (fun _ => rfl) (fun a h => by cases h)
  change Calls Tryz.prog 112 _ _ _ at h
  refine h.mono ?_
  rintro e w' ⟨rfl,rfl⟩
  refine .inr ⟨_,_,rfl,rfl,?_⟩
  have hge := grownCap_ge w (0 + m) 0 88
  have h26 : (Value.agg zero71.toArray).cells.size = 26 := by rfl
  have hc : ∀ q,(Builtin.zeroCells (Value.agg zero71.toArray).cells q).size = q * 26 := fun q => by
   unfold Builtin.zeroCells
   rw [Array.size_map,Array.size_range,h26]
  change Array.size _ = grownCap w (0 + m) 0 88 * 26
  simp only [Array.size_append,hc]
  have e71 : (Tryz.grow112_ren.t 25) = 88 := rfl
  rw [e71]
  simp only [Nat.zero_add] at hge ⊢
  simp
  omega
end
end Go.Val
