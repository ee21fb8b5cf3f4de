/- What a call needs of the objects that come in and go out, however many. -/
import Derived.Test.YthipaajmgfnagaaGreatDoorLc
set_option linter.unusedSectionVars false
set_option linter.unusedVariables false
set_option linter.unusedSimpArgs false
namespace Go.Val
open Go.RowKit
variable [Drw]

def ciO (s : St) (σ : Nat → Nat) (f : Nat → Option OB) : List (Nat × OB) → Prop
  | [] => True
  | (o, x) :: l => (s.obj (σ o) = some (x.ren σ) ∧ x.live f) ∧ ciO s σ f l
theorem ciO_mem {s : St} {σ : Nat → Nat} {f : Nat → Option OB} : ∀ {l : List (Nat × OB)}, ciO s σ f l → ∀ {o x}, (o, x) ∈ l → s.obj (σ o) = some (x.ren σ) ∧ x.live f
  | (t', x') :: l, h, t, x, hm => by
    rcases List.mem_cons.1 hm with e | hm
    · cases e; exact h.1
    · exact ciO_mem h.2 hm
theorem lk_none_not {α : Type} : ∀ {l : List (Nat × α)} {t : Nat}, lk l t = none → ∀ x, (t, x) ∉ l
  | (d, y) :: l, t, h, x, hm => by
    simp only [lk] at h
    cases hb : Nat.beq t d with
    | true => rw [hb] at h; cases h
    | false =>
      rw [hb] at h
      rcases List.mem_cons.1 hm with e | hm
      · cases e
        simp at hb
      · exact lk_none_not h x hm

/-- ns: the numbers that are new. -/
theorem callInG {s : St} {σ : Nat → Nat} {k : Nat} {mi mo : List (Nat × OB)} {ys : List AV} {l : List Nat} (ns : List Nat) (hk : mi.all (fun p => Nat.ble (p.1 + 1) k) = true) (hl : AV.lives (lk mi) ys) (ho : ciO s σ (lk mi) mi)
    (h1 : nodupB (mo.map (·.1)) = true) (h2 : nodupB (mo.map fun p => σ p.1) = true) (h3 : mo.map (·.1) = mi.map (·.1) ++ ns) (h4 : noneAll s.obj (ns.map σ)) (h5 : l.all (fun c => mi.all fun p => !Nat.beq (σ p.1) c) = true) : CallIn s σ k mi mo ys l := by
  have n1 := nodupB_nodup h1
  have n2 := nodupB_nodup h2
  have key : ∀ p ∈ mi, ∃ x, (p.1, x) ∈ mo := by
    intro p hp
    have : p.1 ∈ mo.map (·.1) := by rw [h3]; exact List.mem_append.2 (.inl (List.mem_map.2 ⟨p, hp, rfl⟩))
    obtain ⟨q, hq, e⟩ := List.mem_map.1 this
    exact ⟨q.2, by rw [← e]; exact hq⟩
  refine ⟨fun p hp => Nat.le_of_ble_eq_true (List.all_eq_true.1 hk p hp), hl, fun p hp => ciO_mem ho hp, fun p hp q hq e => ?_, fun c hc p hp e => ?_, n1, n2, key, fun p hp hn => ?_⟩
  · obtain ⟨x, hx⟩ := key p hp
    obtain ⟨y, hy⟩ := key q hq
    have e2 : ((p.1, x) : Nat × OB) = (q.1, y) := map_inj_mem (g := fun p : Nat × OB => σ p.1) n2 hx hy e
    exact (Prod.mk.inj e2).1
  · have := List.all_eq_true.1 (List.all_eq_true.1 h5 c hc) p hp
    rw [e] at this
    simp at this
  · have hm : p.1 ∈ mo.map (·.1) := List.mem_map.2 ⟨p, hp, rfl⟩
    rw [h3] at hm
    rcases List.mem_append.1 hm with hm | hm
    · obtain ⟨q, hq, e⟩ := List.mem_map.1 hm
      exact absurd (by rw [← e]; exact hq) (lk_none_not hn q.2)
    · exact noneAll_mem h4 _ (List.mem_map.2 ⟨_, hm, rfl⟩)

end Go.Val

