/- maps.Clone and slices.Grow, by the shelf's contracts. -/
import Derived.Shelf.SlMaps.Clone
import Derived.Shelf.Spec.SlicesGrow
import Derived.Test.YtlcnkhphgekmeaaSi
import Derived.Test.YtlcnkhphgekmeaaSj
import Derived.Test.YtlcnkhphgekmeaaXb
import Derived.Test.YtlcnkhphgekmeaaHb
set_option linter.unusedSectionVars false
set_option linter.unusedVariables false
set_option linter.unusedSimpArgs false
namespace Go.Val
open Go.RowKit Go.Proofs

section
variable [NoDrw]
theorem clone34_ok {κ β : Type} {ek : κ → D} {ev : β → D} {m : List (κ × β)} (u : Nat) : FnOk Try.prog 34 [.map 0] 1 (lk [(0, .map u (mD ek ev m))]) (fun rr oo => rr = .map 1 ∧ oo = lk [(0, .map u (mD ek ev m)), (1, .map 0 (mD ek ev m))]) := by
  refine clone_fn u fun b es clock w hb => ?_
  have h := AnyW.maps_Clone Try.clone34 b es clock w hb
  change Calls Try.prog 34 _ _ _ at h
  exact h

def zero38 : List Value := List.replicate 24 (.int .u8 0) ++ [.string (ByteArray.mk #[]), .bool false]

theorem grow45_ok {n : Int} (hn : 0 ≤ n ∧ n.toNat * 48 ≤ 140737488355328) : FnOk Try.prog 45 [.d (.v (.slice none 0 0)), .d (.v (.int .i64 n))] 0 (lk []) (fun rr oo => rr = .arr 0 0 ∧ oo = lk [(0, .arr 0 26 [])]) := by
  refine grow_fn (kt := 38) hn fun m w hm => ?_
  by_cases h0 : m = 0
  · subst h0
    have h := Any8.slices_Grow_room Try.grow45 none 0 0 0 w (by omega) (by omega) (by omega) (by omega)
    change Calls Try.prog 45 _ _ _ at h
    exact h.mono fun e w' h => .inl h
  · have hi : Try.prog.info? 38 = some Try.t38 := by kernel_rfl
    have hz : Try.t38.zero = some (.agg zero38.toArray) := by kernel_rfl
    have hs : Try.t38.size = 26 := by kernel_rfl
    have hb : Try.t38.bytes = 48 := by kernel_rfl
    have h := Any8.slices_Grow_grow Try.grow45 Try.t38 (.agg zero38.toArray) hi hz (by omega) none 0 0 m [] w (by omega) (by omega) (by rw [hb]; omega) (by omega) (by simp) (fun _ => rfl) (fun a h => by cases h)
    change Calls Try.prog 45 _ _ _ at h
    refine h.mono ?_
    rintro e w' ⟨rfl, rfl⟩
    refine .inr ⟨_, _, rfl, rfl, ?_⟩
    have hge := grownCap_ge w (0 + m) 0 38
    have h26 : (Value.agg zero38.toArray).cells.size = 26 := by rfl
    have hc : ∀ q, (Builtin.zeroCells (Value.agg zero38.toArray).cells q).size = q * 26 := fun q => by
      unfold Builtin.zeroCells
      rw [Array.size_map, Array.size_range, h26]
    change Array.size _ = grownCap w (0 + m) 0 38 * 26
    simp only [Array.size_append, hc]
    have e38 : (Try.grow45_ren.t 25) = 38 := rfl
    rw [e38]
    simp only [Nat.zero_add] at hge ⊢
    simp
    omega
end
end Go.Val
