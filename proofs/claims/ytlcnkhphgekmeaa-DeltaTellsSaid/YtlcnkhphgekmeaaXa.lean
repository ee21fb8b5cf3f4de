/- maps.Clone, as a contract over values. -/
import Derived.Test.YtlcnkhphgekmeaaVz
set_option linter.unusedSectionVars false
set_option linter.unusedVariables false
set_option linter.unusedSimpArgs false
namespace Go.Val
open Go.RowKit
variable [NoDrw]

theorem clone_fn {P : Program} {f : FuncId} {κ β : Type} {ek : κ → D} {ev : β → D} {m : List (κ × β)} (u : Nat)
    (H : ∀ (b : Nat) (es : Array MapEntry) (clock : Nat) (w : World), w.heap[b]? = some (.map es clock) → Calls P f #[.map (some b)] w fun e w' => e = .returned (.map (some w.heap.size)) ∧ w' = w.alloc (.map es clock)) :
    FnOk P f [.map 0] 1 (lk [(0, .map u (mD ek ev m))]) (fun rr oo => rr = .map 1 ∧ oo = lk [(0, .map u (mD ek ev m)), (1, .map 0 (mD ek ev m))]) := by
  intro hk E vals hE hok hargs
  have ho0 : E.obj 0 = some (.map u (mD ek ev m)) := by rw [hE]; rfl
  have ho1 : ∀ o ob, E.obj o = some ob → o = 0 := by
    intro o ob h
    have := hk o (by rw [← hE, h]; simp)
    omega
  obtain ⟨b, ents, clock, hb, hbl, hsize, hent, hδ, hnd, hclk, hγ⟩ := hok.1 0 _ ho0
  have hvals : vals.toArray = #[.map (some b)] := by
    cases hargs with
    | cons h1 h2 =>
      cases h2
      cases h1 with
      | map q1 q2 => rw [hb] at q2; cases q2; rfl
  have hlt : b < E.w.heap.size := (Array.getElem?_eq_some_iff.1 hbl).1
  rw [hvals]
  refine (H b ents clock E.w hbl).mono ?_
  rintro e w' ⟨rfl, rfl⟩
  let E' : Env := { obj := upd E.obj 1 (some (.map 0 (mD ek ev m))), β := upd E.β 1 (some E.w.heap.size), γ := fun o => if o = 1 then clock else E.γ o, δ := fun o => if o = 1 then E.δ 0 else E.δ o, J := fun j => E.J j ∨ E.w.heap.size ≤ j, w := E.w.alloc (.map ents clock) }
  have e1o : ∀ o, o ≠ 1 → E'.obj o = E.obj o := fun o h => by simp [E', upd_eq, h]
  have e1b : ∀ o, o ≠ 1 → E'.β o = E.β o := fun o h => by simp [E', upd_eq, h]
  have hext : Ext E E' := by
    refine ⟨by simp [E'], fun j hj hlt => ⟨⟨.inl hj.1, fun o ob ho hbb => ?_⟩, Below.heap_alloc _ _ _ hlt⟩, fun o ob ho => ⟨ob, ?_, ?_⟩⟩
    · by_cases h1 : o = 1
      · subst h1
        simp [E', upd_eq] at hbb
        omega
      · rw [e1o o h1] at ho
        rw [e1b o h1] at hbb
        exact hj.2 o ob ho hbb
    · rw [e1o o (by rw [ho1 o ob ho]; omega)]; exact ho
    · have := ho1 o ob ho
      subst this
      have hob : ob = .map u (mD ek ev m) := by rw [ho0] at ho; cases ho; rfl
      subst hob
      simp only [OExt, E', upd_eq]
      simp
  have hobj : E'.obj = lk [(0, .map u (mD ek ev m)), (1, .map 0 (mD ek ev m))] := by
    funext o
    by_cases h1 : o = 1
    · subst h1; show upd E.obj 1 _ 1 = _; rw [upd_eq]; rfl
    · rw [e1o o h1, hE]
      simp only [lk]
      cases h0 : Nat.beq o 0 with
      | true => simp
      | false =>
        have : Nat.beq o 1 = false := by
          cases hb : Nat.beq o 1 with
          | false => rfl
          | true => exact absurd (Nat.eq_of_beq_eq_true hb) h1
        simp [this]
  refine ⟨.map (some E.w.heap.size), .map 1, E', rfl, rfl, ⟨rfl, hobj⟩, ⟨[.map (some E.w.heap.size)], .map (ver := 0) (es := mD ek ev m) (by rw [hobj]; rfl) (by simp [E', upd_eq]), rfl⟩, ⟨?_, ?_⟩, ?_, ⟨rfl, rfl, rfl, by simp [Cx.w0], fun j hj _ => Below.heap_alloc _ _ _ hj, fun h => absurd h NoDrw.no⟩, ?_, hext.live⟩
  · intro o ob ho
    by_cases h1 : o = 1
    · subst h1
      have hob : ob = .map 0 (mD ek ev m) := by rw [hobj] at ho; cases ho; rfl
      subst hob
      refine ⟨E.w.heap.size, ents, clock, by simp [E', upd_eq], alloc_new _ _, hsize, fun i k x ent h1 h2 => ?_, by simpa [E'] using hδ, by simpa [E'] using hnd, by simpa [E'] using hclk, by simp [E']⟩
      obtain ⟨ck, cx, q1, q2, q3, q4⟩ := hent i k x ent h1 h2
      exact ⟨ck, cx, q1.mono hext.hz hext.imm, q2.mono hext.hz hext.imm, q3, q4⟩
    · rw [e1o o h1] at ho
      have h0 := ho1 o ob ho
      subst h0
      have := hok.1 0 ob ho
      have hob : ob = .map u (mD ek ev m) := by rw [ho0] at ho; cases ho; rfl
      subst hob
      exact this.ext hext (by simp [E', upd_eq]) (by simp [E']) (by simp [E']) (fun bb hbb => Below.heap_alloc _ _ _ (this.lt hbb)) (fun mm ver l cu h => by cases h)
  · intro o o' bb h1 h2 h3 h4
    have key : ∀ o, E'.obj o ≠ none → o ≠ 1 → ∃ ob, E.obj o = some ob := by
      intro o h hn
      rw [e1o o hn] at h
      cases hq : E.obj o with
      | none => exact absurd hq h
      | some ob => exact ⟨ob, rfl⟩
    by_cases p : o = 1 <;> by_cases p' : o' = 1
    · rw [p, p']
    · subst p
      obtain ⟨ob, q⟩ := key o' h2 p'
      have := (hok.1 o' ob q).lt (by rw [← e1b o' p']; exact h4)
      simp [E', upd_eq] at h3
      omega
    · subst p'
      obtain ⟨ob, q⟩ := key o h1 p
      have := (hok.1 o ob q).lt (by rw [← e1b o p]; exact h3)
      simp [E', upd_eq] at h4
      omega
    · obtain ⟨ob, q⟩ := key o h1 p
      obtain ⟨ob', q'⟩ := key o' h2 p'
      rw [ho1 o ob q, ho1 o' ob' q']
  · intro o bb h1 h2
    by_cases p : o = 1
    · subst p
      simp [E', upd_eq] at h2
      exact .inl (by omega)
    · rw [e1o o p] at h1
      rw [e1b o p] at h2
      exact .inr ⟨o, h1, h2⟩
  · rintro bb (h | h)
    · exact .inl h
    · exact .inr (.inl h)

end Go.Val
