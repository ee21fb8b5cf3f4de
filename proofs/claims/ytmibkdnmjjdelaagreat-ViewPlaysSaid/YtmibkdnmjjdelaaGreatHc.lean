/- maps.Clone and slices.Grow, by the shelf's contracts. -/
import Derived.Shelf.SlMaps.Clone
import Derived.Shelf.Spec.SlicesGrow
import Derived.Test.YtmibkdnmjjdelaaGreatSi
import Derived.Test.YtmibkdnmjjdelaaGreatSj
import Derived.Test.YtmibkdnmjjdelaaGreatLc
import Derived.Test.YtmibkdnmjjdelaaGreatHb
set_option linter.unusedSectionVars false
set_option linter.unusedVariables false
set_option linter.unusedSimpArgs false
namespace Go.Val
open Go.RowKit Go.Proofs

section
variable [NoDrw]
theorem clone35_ok {κ β : Type} {ek : κ → D} {ev : β → D} {m : List (κ × β)} (u : Nat) : FnOk Tryz.prog 35 [.map 0] 1 (lk [(0, .map u (mD ek ev m))]) (fun rr oo => rr = .map 1 ∧ oo = lk [(0, .map u (mD ek ev m)), (1, .map 0 (mD ek ev m))]) := by
  refine clone_fn u fun b es clock w hb => ?_
  have h := AnyW.maps_Clone Tryz.clone35 b es clock w hb
  change Calls Tryz.prog 35 _ _ _ at h
  exact h

def zero71 : List Value := List.replicate 24 (.int .u8 0) ++ [.string (ByteArray.mk #[]), .bool false]

theorem grow69_ok {n : Int} (hn : 0 ≤ n ∧ n.toNat * 48 ≤ 140737488355328) : FnOk Tryz.prog 69 [.d (.v (.slice none 0 0)), .d (.v (.int .i64 n))] 0 (lk []) (fun rr oo => rr = .arr 0 0 ∧ oo = lk [(0, .arr 0 26 [])]) := by
  refine grow_fn (kt := 52) hn fun m w hm => ?_
  by_cases h0 : m = 0
  · subst h0
    have h := Any8.slices_Grow_room Tryz.grow69 none 0 0 0 w (by omega) (by omega) (by omega) (by omega)
    change Calls Tryz.prog 69 _ _ _ at h
    exact h.mono fun e w' h => .inl h
  · have hi : Tryz.prog.info? 52 = some Tryz.t52 := by kernel_rfl
    have hz : Tryz.t52.zero = some (.agg zero71.toArray) := by kernel_rfl
    have hs : Tryz.t52.size = 26 := by kernel_rfl
    have hb : Tryz.t52.bytes = 48 := by kernel_rfl
    have h := Any8.slices_Grow_grow Tryz.grow69 Tryz.t52 (.agg zero71.toArray) hi hz (by omega) none 0 0 m [] w (by omega) (by omega) (by rw [hb]; omega) (by omega) (by simp) (fun _ => rfl) (fun a h => by cases h)
    change Calls Tryz.prog 69 _ _ _ at h
    refine h.mono ?_
    rintro e w' ⟨rfl, rfl⟩
    refine .inr ⟨_, _, rfl, rfl, ?_⟩
    have hge := grownCap_ge w (0 + m) 0 52
    have h26 : (Value.agg zero71.toArray).cells.size = 26 := by rfl
    have hc : ∀ q, (Builtin.zeroCells (Value.agg zero71.toArray).cells q).size = q * 26 := fun q => by
      unfold Builtin.zeroCells
      rw [Array.size_map, Array.size_range, h26]
    change Array.size _ = grownCap w (0 + m) 0 52 * 26
    simp only [Array.size_append, hc]
    have e71 : (Tryz.grow69_ren.t 25) = 52 := rfl
    rw [e71]
    simp only [Nat.zero_add] at hge ⊢
    simp
    omega
end
end Go.Val

