/- Sorted keys of a map, as a contract over values. -/
import Derived.Test.YtlcnkhphgekmeaaVy
import Derived.Test.YtlcnkhphgekmeaaPd
set_option linter.unusedSectionVars false
set_option linter.unusedVariables false
set_option linter.unusedSimpArgs false
namespace Go.Val
open Go.RowKit

class NoDrw extends Drw where
  no : ¬ dm
variable [NoDrw]

theorem drs_keys {I : Nat → Prop} {w : World} : ∀ ss : List K24, DRs I w (ss.map fun x => D.bs 24 x.1) (ss.flatMap enc24)
  | [] => .nil
  | x :: ss => by
    rw [List.map_cons, List.flatMap_cons]
    exact .cons (.bs x.2) (drs_keys ss)

def unB : Value → UInt8
  | .int _ x => x.toNat.toUInt8
  | _ => 0
def unK : Value → List UInt8
  | .agg a => a.toList.map unB
  | _ => []
theorem unK_eq (l : List UInt8) : unK (.agg (l.map u8v).toArray) = l := by
  simp only [unK, List.map_map]
  have : unB ∘ u8v = id := by
    funext b
    simp [unB, u8v, Nat.toUInt8]
  rw [this, List.map_id]

theorem sorted_fn {P : Program} {f fi kf : FuncId} {kt : TypeId} {β : Type} {ev : β → D} {m : List (List UInt8 × β)} (u : Nat) (hsz : m.length * 24 ≤ 140737488355328)
    (H : ∀ (Bm b clock : Nat) (es : Array MapEntry) (w : World), Bm < w.heap.size → CellsAt w Bm 0 [.map (some b)] → w.heap[b]? = some (.map es clock) → (es.toList.map (·.born)).Nodup → (∀ e ∈ es.toList, e.born < clock) →
      (∀ e ∈ es.toList, ∃ x : K24, Value.agg (enc24 x).toArray = e.key) → es.size * 24 ≤ 140737488355328 →
      Calls P f #[.func (.func fi) #[] #[.pointer (some ⟨Bm, 0, none⟩)], .func (.func kf) #[] #[]] w fun e w' => ∃ v ss, e = .returned v ∧ (ss.map fun x => Value.agg (enc24 x).toArray).Perm (es.toList.map (·.key)) ∧
        RowAt w.heap.size 24 kt v ((srt24 ss).flatMap enc24) ss.length w' ∧ Below w.heap.size w w') :
    FnOk P f [.fn fi [] [.ptr 1 0], .fn kf [] []] 2 (lk [(0, .map u (mD (.bs 24) ev m)), (1, .box (.map 0))])
      (fun rr oo => rr = .d (.sl 24 ((sortKeys (m.map (·.1))).map (.bs 24))) ∧ oo = lk [(0, .map u (mD (.bs 24) ev m)), (1, .box (.map 0))]) := by
  intro hk E vals hE hok hargs
  have ho0 : E.obj 0 = some (.map u (mD (.bs 24) ev m)) := by rw [hE]; rfl
  have ho1 : E.obj 1 = some (.box (.map 0)) := by rw [hE]; rfl
  obtain ⟨b, ents, clock, hb, hbl, hsize, hent, hδ, hnd, hclk, hγ⟩ := hok.1 0 _ ho0
  obtain ⟨Bm, cs1, e1, hBm, hcr, hones, hbox⟩ := hok.1 1 _ ho1
  have hvals : vals.toArray = #[.func (.func fi) #[] #[.pointer (some ⟨Bm, 0, none⟩)], .func (.func kf) #[] #[]] := by
    cases hargs with
    | cons h1 h2 =>
      cases h2 with
      | cons h3 h4 =>
        cases h4
        cases h1 with
        | fn a1 a2 =>
          cases h3 with
          | fn b1 b2 =>
            cases a1; cases b1; cases b2
            cases a2 with
            | cons p1 p2 =>
              cases p2
              cases p1 with
              | ptr q1 q2 =>
                rw [hBm] at q2; cases q2
                rfl
  have hcs1 : cs1 = [.map (some b)] := by
    cases hcr with
    | map q1 q2 => rw [hb] at q2; cases q2; rfl
  subst hcs1
  have hBlt : Bm < E.w.heap.size := (Array.getElem?_eq_some_iff.1 hbox).1
  have hcell : CellsAt E.w Bm 0 [.map (some b)] := by
    intro i v hi
    have : i = 0 ∧ v = .map (some b) := by
      cases i with
      | zero => simp at hi; exact ⟨rfl, hi.symm⟩
      | succ i => simp at hi
    obtain ⟨rfl, rfl⟩ := this
    simp [World.cell?, hbox]
  have hlen : ents.size = m.length := by rw [hsize]; simp [mD]
  have hkeys : ents.toList.map (·.key) = m.map fun p => Value.agg (p.1.map u8v).toArray := by
    apply List.ext_getElem?
    intro i
    rw [List.getElem?_map, List.getElem?_map]
    by_cases hi : i < m.length
    · have h1 : (mD (.bs 24) ev m)[i]? = some (.bs 24 m[i].1, ev m[i].2) := by simp [mD, hi]
      have hi' : i < ents.size := by omega
      have h2 : ents[i]? = some ents[i] := Array.getElem?_eq_getElem hi'
      obtain ⟨ck, cx, k1, k2, k3, k4⟩ := hent i _ _ _ h1 h2
      rw [Array.getElem?_toList, h2, List.getElem?_eq_getElem hi]
      cases k1 with
      | bs hl => simp only [Option.map_some]; rw [k3]; rfl
    · rw [Array.getElem?_toList, Array.getElem?_eq_none (by omega), List.getElem?_eq_none (l := m) (Nat.le_of_not_lt hi)]
      rfl
  have h24 : ∀ p ∈ m, p.1.length = 24 := by
    intro p hp
    obtain ⟨i, hi, rfl⟩ := List.getElem_of_mem hp
    have h1 : (mD (.bs 24) ev m)[i]? = some (.bs 24 m[i].1, ev m[i].2) := by simp [mD, hi]
    have h2 : ents[i]? = some ents[i] := Array.getElem?_eq_getElem (by omega)
    obtain ⟨ck, cx, k1, k2, k3, k4⟩ := hent i _ _ _ h1 h2
    cases k1 with
    | bs hl => exact hl
  have hkey : ∀ e ∈ ents.toList, ∃ x : K24, Value.agg (enc24 x).toArray = e.key := by
    intro e he
    have : e.key ∈ ents.toList.map (·.key) := List.mem_map.2 ⟨e, he, rfl⟩
    rw [hkeys] at this
    obtain ⟨p, hp, hpe⟩ := List.mem_map.1 this
    exact ⟨⟨p.1, h24 p hp⟩, hpe⟩
  rw [hvals]
  refine (H Bm b clock ents E.w hBlt hcell hbl (by rw [← hδ]; exact hnd) (fun e he => hclk _ (by rw [hδ]; exact List.mem_map.2 ⟨e, he, rfl⟩)) hkey (by rw [hlen]; exact hsz)).mono ?_
  rintro e w' ⟨v, ss, rfl, hperm, hrow, hbe⟩
  have hss : (ss.map (·.1)).Perm (m.map (·.1)) := by
    rw [hkeys] at hperm
    have := hperm.map unK
    rw [List.map_map, List.map_map] at this
    have e1 : (unK ∘ fun x : K24 => Value.agg (enc24 x).toArray) = (·.1) := by
      funext x
      exact unK_eq x.1
    have e2 : (unK ∘ fun p : List UInt8 × β => Value.agg (p.1.map u8v).toArray) = (·.1) := by
      funext p
      exact unK_eq p.1
    rw [e1, e2] at this
    exact this
  have hres : (sortKeys (m.map (·.1))).map (.bs 24) = (srt24 ss).map fun x => D.bs 24 x.1 := by
    rw [← sortKeys_congr hss, ← srt24_val, List.map_map]
    rfl
  have hblk : ∀ o bb, E.obj o ≠ none → E.β o = some bb → bb < E.w.heap.size := by
    intro o bb h1 h2
    cases hob : E.obj o with
    | none => exact absurd hob h1
    | some ob => exact (hok.1 o ob hob).lt h2
  let E' : Env := { E with w := w', J := fun j => E.J j ∨ E.w.heap.size ≤ j }
  have hext : Ext E E' := by
    refine ⟨hbe.size, fun j hj hlt => ⟨⟨.inl hj.1, hj.2⟩, hbe.block j hlt⟩, fun o ob ho => ⟨ob, ho, ?_⟩⟩
    cases ob <;> simp [OExt, E']
  refine ⟨v, _, E', rfl, rfl, ⟨rfl, hE⟩, ⟨[v], .d ?_, rfl⟩, ⟨?_, hok.2⟩, fun o bb h1 h2 => .inr ⟨o, h1, h2⟩, ⟨hbe.os, hbe.tape, hbe.output, hbe.size, fun j hj _ => hbe.block j hj, fun h => absurd h NoDrw.no⟩, ?_, hext.live⟩
  · rw [hres]
    rcases hrow with ⟨rfl, h0, h1⟩ | ⟨g, cap, sp, rfl, hg, hgb, hl, hcap, hm⟩
    · have hs0 : srt24 ss = [] := List.eq_nil_of_length_eq_zero (by rw [srt24_len]; exact h0)
      rw [hs0]
      exact .sl0
    · have hgs : g < w'.heap.size := (Array.getElem?_eq_some_iff.1 hgb).1
      have hlen' : ((srt24 ss).map fun x => D.bs 24 x.1).length = ss.length := by rw [List.length_map, srt24_len]
      rw [← hlen']
      refine .sl (cs := (srt24 ss).flatMap enc24) ⟨.inr hg, ?_⟩ hgs (drs_keys _) ?_ ?_ (by rw [hlen']; exact hm)
      · intro o ob ho hbb
        have := hblk o g (by rw [show E.obj o = some ob from ho]; simp) hbb
        omega
      · intro r hr
        obtain ⟨x, _, rfl⟩ := List.mem_map.1 hr
        rfl
      · intro i x hi
        have hlt := (List.getElem?_eq_some_iff.1 hi).1
        show w'.cell? _ = _
        simp only [World.cell?, hgb, Nat.zero_add]
        simp only [Option.isSome_none, Bool.false_eq_true, if_false]
        rw [List.getElem?_toArray, List.getElem?_append_left hlt, hi]
  · intro o ob ho
    have := hok.1 o ob ho
    exact this.ext hext rfl rfl rfl (fun bb hbb => hbe.block bb (this.lt hbb)) (fun mm ver l cu _ => ⟨rfl, fun es hes => ⟨hes, rfl, rfl⟩, fun h => h⟩)
  · rintro bb (h | h)
    · exact .inl h
    · exact .inr (.inl h)

end Go.Val
