/- What the twins are: maps, deltas. -/
import Derived.Test.YthipaajmgfnagaaGreatDoorLd
import Derived.Test.YthipaajmgfnagaaGreatDoorWj
set_option linter.unusedSectionVars false
set_option linter.unusedVariables false
set_option linter.unusedSimpArgs false
namespace Go.Val
open Go.Lib

theorem ilt {i n : Nat} (h : i < n) : decide ((i : Int) < (n : Int)) = true := by simp; exact h
theorem ige {n : Nat} : decide ((n : Int) < (n : Int)) = false := by simp
theorem foldl_snoc {α β : Type} (g : α → β) (xs : List α) : ∀ s : List β, xs.foldl (fun s x => s ++ [g x]) s = s ++ xs.map g := by
  induction xs with
  | nil => intro s; simp
  | cons x xs ih => intro s; rw [List.foldl_cons, ih]; simp
theorem bind_id {α : Type} {x : Option α} {a : α} (h : x = some a) : x.bind (fun o => some o) = some a := by rw [h]; rfl

theorem values_eq (l : List Pr) (hl : l.length ≤ 1000000) : delta_values l = some (valuesP l) := by
  unfold delta_values
  refine bind_id (whileO_for l (fun i s => ((i : Int), s)) (fun m p => mset m p.1 p.2) (fun _ _ => True) id [] trivial (fun i hi s _ => ⟨?_, trivial⟩) (fun s _ => ?_))
  · simp only [ilt hi, cond_true, gx_nat hi, Option.bind_some, wrap_succ (show i < 9223372036854775807 by omega)]
  · simp only [ige, cond_false, id]

theorem pairs_eq (m : List Pr) (hl : m.length ≤ 1000000) : delta_pairs m = some (canon mt m, m) := by
  unfold delta_pairs
  have hk : (sortKeys (m.map fun p => p.1)).length = m.length := by rw [sortKeys_len, List.length_map]
  have h := whileO_for (body := fun v63 : Int × List Pr =>
      cond (decide (v63.1 < ((sortKeys (m.map fun p => p.1)).length : Int))) (
        (gx (sortKeys (m.map fun p => p.1)) v63.1).bind fun x70 =>
        (fits (v63.2.length + ([(x70, ((mget m x70).getD (ByteArray.mk #[])))]).length) 40).bind fun _ =>
        some (.inl ((IntKind.wrap .i64 (v63.1 + 1)), (v63.2 ++ [(x70, ((mget m x70).getD (ByteArray.mk #[])))])))
      ) (
        some (.inr v63.2)
      )) (sortKeys (m.map fun p => p.1)) (fun i s => ((i : Int), s)) (fun s k => s ++ [(k, (mget m k).getD mt)]) (fun i s => s.length = i) id [] rfl (fun i hi s hs => ⟨?_, ?_⟩) (fun s _ => ?_)
  · rw [bind_of (fits_of (by omega))]
    refine (bind_of h).trans ?_
    rw [foldl_snoc]
    rfl
  · simp only [ilt hi, cond_true, gx_nat hi, Option.bind_some]
    rw [bind_of (fits_of (by simp only [hs, List.length_cons, List.length_nil]; omega)), wrap_succ (show i < 9223372036854775807 by omega)]
    rfl
  · simp [hs]
  · simp only [ige, cond_false, id]

theorem rising_eq (m : List (List UInt8 × Cg)) (hl : m.length ≤ 1000000) : delta_rising m = some ((sortKeys (m.map (·.1))).map (fun k => (mget m k).getD ((List.replicate 24 0), mt, false)), m) := by
  unfold delta_rising
  have hk : (sortKeys (m.map fun p => p.1)).length = m.length := by rw [sortKeys_len, List.length_map]
  have h := whileO_for (body := fun v63 : Int × List Cg =>
      cond (decide (v63.1 < ((sortKeys (m.map fun p => p.1)).length : Int))) (
        (gx (sortKeys (m.map fun p => p.1)) v63.1).bind fun x70 =>
        (fits (v63.2.length + ([((mget m x70).getD ((List.replicate 24 0), (ByteArray.mk #[]), false))]).length) 48).bind fun _ =>
        some (.inl ((IntKind.wrap .i64 (v63.1 + 1)), (v63.2 ++ [((mget m x70).getD ((List.replicate 24 0), (ByteArray.mk #[]), false))])))
      ) (
        some (.inr v63.2)
      )) (sortKeys (m.map fun p => p.1)) (fun i s => ((i : Int), s)) (fun s k => s ++ [(mget m k).getD ((List.replicate 24 0), mt, false)]) (fun i s => s.length = i) id [] rfl (fun i hi s hs => ⟨?_, ?_⟩) (fun s _ => ?_)
  · rw [bind_of (fits_of (by omega))]
    refine (bind_of h).trans ?_
    rw [foldl_snoc]
    rfl
  · simp only [ilt hi, cond_true, gx_nat hi, Option.bind_some]
    rw [bind_of (fits_of (by simp only [hs, List.length_cons, List.length_nil]; omega)), wrap_succ (show i < 9223372036854775807 by omega)]
    rfl
  · simp [hs]
  · simp only [ige, cond_false, id]

theorem map_eq (l : List Pr) (hl : l.length ≤ 1000000) : delta_Map l = some (mapP l) := by
  unfold delta_Map
  have := valuesP_len l
  rw [bind_of (values_eq l hl), bind_of (pairs_eq _ (by omega))]
  rfl

theorem does_eq (m : List Pr) (c : Cg) : delta_does m c = some (doesP m c) := by
  unfold delta_does doesP
  obtain ⟨a, b, g⟩ := c
  cases g <;> rfl

theorem apply_eq (l : List Pr) (cs : List Cg) (hl : l.length ≤ 500000) (hc : cs.length ≤ 500000) : delta_Apply l cs = some (applyP l cs) := by
  unfold delta_Apply
  rw [bind_of (values_eq l (by omega))]
  have h := whileO_for (body := fun v60 : Int × List Pr =>
      cond (decide (v60.1 < (cs.length : Int))) (
        (gx cs v60.1).bind fun x67 =>
        (delta_does v60.2 x67).bind fun x70 =>
        some (.inl ((IntKind.wrap .i64 (v60.1 + 1)), x70))
      ) (
        some (.inr v60.2)
      )) cs (fun i s => ((i : Int), s)) doesP (fun _ _ => True) id (valuesP l) trivial (fun i hi s _ => ⟨?_, trivial⟩) (fun s _ => ?_)
  · refine (bind_of h).trans ?_
    have h1 := (foldl_doesP cs _ (valuesP_nodup l)).2.1
    have h2 := valuesP_len l
    rw [bind_of (pairs_eq _ (by simp only [id]; omega))]
    rfl
  · simp only [ilt hi, cond_true, gx_nat hi, Option.bind_some, does_eq, wrap_succ (show i < 9223372036854775807 by omega)]
  · simp only [ige, cond_false, id]

/-- A map of changes, each at its own key. -/
def OwnKey (m : List (List UInt8 × Cg)) : Prop := ∀ p ∈ m, p.2.1 = p.1
theorem own_get {m : List (List UInt8 × Cg)} (h : OwnKey m) {k : List UInt8} {c : Cg} (hg : mget m k = some c) : c.1 = k := h _ (mget_some_mem hg)
def riseP (m : List (List UInt8 × Cg)) : List Cg := (sortKeys (m.map (·.1))).map (fun k => (mget m k).getD ((List.replicate 24 0), mt, false))
theorem riseP_keys {m : List (List UInt8 × Cg)} (h : OwnKey m) : (riseP m).map (·.1) = sortKeys (m.map (·.1)) := by
  unfold riseP
  rw [List.map_map]
  refine (List.map_congr_left (g := id) fun k hk => ?_).trans (List.map_id _)
  have hk' : k ∈ m.map (·.1) := (sortKeys_perm _).mem_iff.1 hk
  obtain ⟨c, hc⟩ := Option.isSome_iff_exists.1 (mget_isSome.2 hk')
  simp only [Function.comp, hc, Option.getD_some, id]
  exact own_get h hc
theorem riseP_rising {m : List (List UInt8 × Cg)} (h : OwnKey m) (hn : (m.map (·.1)).Nodup) : Rising (riseP m) := by
  unfold Rising
  rw [riseP_keys h]
  exact sortKeys_asc hn
theorem mget_riseP {m : List (List UInt8 × Cg)} (h : OwnKey m) (hn : (m.map (·.1)).Nodup) (k : List UInt8) : mget (riseP m) k = (mget m k).map (·.2) := by
  have hm : k ∈ sortKeys (m.map (·.1)) ↔ k ∈ m.map (·.1) := (sortKeys_perm _).mem_iff
  cases hg : mget m k with
  | none =>
    have h1 := mget_none.1 hg
    have : mget (riseP m) k = none := by rw [mget_none, riseP_keys h, hm]; exact h1
    rw [this]; rfl
  | some c =>
    have hk : k ∈ m.map (·.1) := mget_isSome.1 (by rw [hg]; rfl)
    refine mget_of_mem (riseP_rising h hn).nodup ?_
    refine List.mem_map.2 ⟨k, hm.2 hk, ?_⟩
    rw [hg, ← own_get h hg]; rfl

theorem own_foldl {β : Type} (p : List UInt8 × β → Bool) (w : List UInt8 × β → Cg) (hw : ∀ x, (w x).1 = x.1) (l : List (List UInt8 × β)) : ∀ m : List (List UInt8 × Cg), OwnKey m → OwnKey (l.foldl (fun m x => if p x = true then mset m x.1 (w x) else m) m) := by
  induction l with
  | nil => exact fun m h => h
  | cons q l ih =>
    intro m h
    rw [List.foldl_cons]
    refine ih _ ?_
    split
    · intro r hr
      have hmem : r ∈ mset m q.1 (w q) → r = (q.1, w q) ∨ r ∈ m := by
        clear hr ih h
        induction m with
        | nil => intro h; simp [mset_nil] at h; exact .inl h
        | cons a m ihm =>
          intro h
          rw [mset_cons] at h
          split at h
          · rcases List.mem_cons.1 h with e | e
            · exact .inl e
            · exact .inr (List.mem_cons_of_mem _ e)
          · rcases List.mem_cons.1 h with e | e
            · exact .inr (by rw [e]; simp)
            · rcases ihm e with e' | e'
              · exact .inl e'
              · exact .inr (List.mem_cons_of_mem _ e')
      rcases hmem hr with e | e
      · rw [e]; exact hw q
      · exact h r e
    · exact h

end Go.Val

