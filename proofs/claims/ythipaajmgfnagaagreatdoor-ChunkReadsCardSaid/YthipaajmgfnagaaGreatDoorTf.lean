/- What the twins are: a view. -/
import Derived.Test.YthipaajmgfnagaaGreatDoorTe
set_option linter.unusedSectionVars false
set_option linter.unusedVariables false
set_option linter.unusedSimpArgs false
namespace Go.Val
open Go.Lib

abbrev VM := List (Ky × Cg)
abbrev VT := List Pr × VM × List Sp × List VM

/-- A map of changes, each under its own key. -/
structure MOk (n : Nat) (m : VM) : Prop where
  own : OwnKey m
  nd : (m.map (·.1)).Nodup
  len : m.length ≤ n
  k24 : ∀ p ∈ m, p.1.length = 24
  norm : ∀ p ∈ m, normC p.2 = p.2
theorem MOk.nil (n : Nat) : MOk n [] := ⟨fun p h => by simp at h, by simp, by simp, by simp, by simp⟩
theorem MOk.mono {n n' : Nat} {m : VM} (h : MOk n m) (hn : n ≤ n') : MOk n' m := ⟨h.own, h.nd, Nat.le_trans h.len hn, h.k24, h.norm⟩
theorem mem_mset {β : Type} {m : List (Ky × β)} {k : Ky} {v : β} {p : Ky × β} (h : p ∈ mset m k v) : p = (k, v) ∨ p ∈ m := by
  induction m with
  | nil => simp [mset_nil] at h; exact .inl h
  | cons a m ih =>
    rw [mset_cons] at h
    split at h
    · rcases List.mem_cons.1 h with e | e
      · exact .inl e
      · exact .inr (List.mem_cons_of_mem _ e)
    · rcases List.mem_cons.1 h with e | e
      · exact .inr (by rw [e]; simp)
      · rcases ih e with e' | e'
        · exact .inl e'
        · exact .inr (List.mem_cons_of_mem _ e')
theorem MOk.set {n : Nat} {m : VM} (h : MOk n m) {k : Ky} {c : Cg} (hc : c.1 = k) (hk : k.length = 24) (hn : normC c = c) : MOk (n + 1) (mset m k c) := by
  refine ⟨fun p hp => ?_, nodup_mset h.nd k c, ?_, fun p hp => ?_, fun p hp => ?_⟩
  · rcases mem_mset hp with e | e
    · rw [e]; exact hc
    · exact h.own p e
  · have := len_mset m k c
    have := h.len
    omega
  · rcases mem_mset hp with e | e
    · rw [e]; exact hk
    · exact h.k24 p e
  · rcases mem_mset hp with e | e
    · rw [e]; exact hn
    · exact h.norm p e

structure POk (n : Nat) (l : List Pr) : Prop where
  rise : Rising l
  len : l.length ≤ n
  k24 : ∀ p ∈ l, p.1.length = 24

structure VOk (n : Nat) (v : VT) : Prop where
  base : POk n v.1
  own : MOk n v.2.1
  rlen : v.2.2.1.length ≤ n
  rok : ∀ s ∈ v.2.2.1, spOk s
  mlen : v.2.2.2.length ≤ n
  mok : ∀ m ∈ v.2.2.2, MOk n m
theorem POk.mono {n n' : Nat} {l : List Pr} (h : POk n l) (hn : n ≤ n') : POk n' l := ⟨h.rise, Nat.le_trans h.len hn, h.k24⟩
theorem VOk.mono {n n' : Nat} {v : VT} (h : VOk n v) (hn : n ≤ n') : VOk n' v :=
  ⟨h.base.mono hn, h.own.mono hn, Nat.le_trans h.rlen hn, h.rok, Nat.le_trans h.mlen hn, fun m hm => (h.mok m hm).mono hn⟩

/-- What is changed, in whatever order. -/
def vals (m : VM) : List Cg := m.map fun p => p.2
theorem vals_keys {m : VM} (h : OwnKey m) : (vals m).map (·.1) = m.map (·.1) := by
  unfold vals
  rw [List.map_map]
  exact List.map_congr_left fun p hp => h p hp
theorem mget_vals {m : VM} (h : OwnKey m) (hn : (m.map (·.1)).Nodup) (k : Ky) : mget (vals m) k = (mget m k).map (·.2) := by
  cases hg : mget m k with
  | none =>
    rw [Option.map_none, mget_none, vals_keys h]
    exact mget_none.1 hg
  | some c =>
    refine mget_of_mem (by rw [vals_keys h]; exact hn) ?_
    refine List.mem_map.2 ⟨(k, c), mget_some_mem hg, ?_⟩
    have : c.1 = k := own_get h hg
    rw [← this]
def seen (v : VT) : Fn := updF (fn v.1) (vals v.2.1)

theorem mget_rev {β : Type} {l : List (Ky × β)} (hn : (l.map (·.1)).Nodup) (k : Ky) : mget l.reverse k = mget l k := mget_perm hn (List.reverse_perm l) k
theorem applyP_perm {l : List Pr} {cs ds : List Cg} (hn : (cs.map (·.1)).Nodup) (hp : ds.Perm cs) : applyP l ds = applyP l cs := by
  refine rising_ext (applyP_rising _ _) (applyP_rising _ _) fun k => ?_
  have hn' : (ds.map (·.1)).Nodup := (hp.map _).nodup_iff.2 hn
  rw [mget_applyP, mget_applyP, updF_nodup hn, updF_nodup hn', mget_perm hn hp]
theorem joinP_perm {cs ds : List Cg} (hn : (cs.map (·.1)).Nodup) (hp : ds.Perm cs) : joinP ds = joinP cs := by
  refine rising_ext (joinP_rising _) (joinP_rising _) fun k => ?_
  have hn' : (ds.map (·.1)).Nodup := (hp.map _).nodup_iff.2 hn
  rw [mget_joinP, mget_joinP, mget_rev hn, mget_rev hn', mget_perm hn hp]

theorem cleanP_ok {l : List Sp} (h : ∀ s ∈ l, spOk s) : ∀ s ∈ cleanP l, spOk s := (cleanP_spec h).1.len

theorem read_eq (v : VT) (s : Sp) (h : v.2.2.1.length ≤ 900000) : view_View_read v s = some (v.1, v.2.1, cleanP (v.2.2.1 ++ [s]), v.2.2.2) := by
  unfold view_View_read
  refine bind_id ?_
  have hf : fits (v.2.2.1.length + ([s]).length) 49 = some () := fits_of (by simp only [List.length_cons, List.length_nil]; omega)
  rw [bind_of hf, bind_of (clean_eq _ (by simp; omega))]
/-- A view that has read a span more. -/
def rdV (v : VT) (s : Sp) : VT := (v.1, v.2.1, cleanP (v.2.2.1 ++ [s]), v.2.2.2)
theorem VOk.rd {n : Nat} {v : VT} (h : VOk n v) {s : Sp} (hs : spOk s) : VOk (n + 1) (rdV v s) := by
  have hok : ∀ t ∈ v.2.2.1 ++ [s], spOk t := by
    intro t ht
    rcases List.mem_append.1 ht with ht | ht
    · exact h.rok t ht
    · rw [List.mem_singleton] at ht
      rw [ht]; exact hs
  have := (cleanP_spec hok).2.2
  have hr := h.rlen
  refine ⟨h.base.mono (by omega), h.own.mono (by omega), ?_, cleanP_ok hok, Nat.le_trans h.mlen (by omega), fun m hm => (h.mok m hm).mono (by omega)⟩
  simp only [rdV]
  simp at this
  omega

theorem newPlain_eq (l : List Pr) (hl : l.length ≤ 1000000) : view_NewPlain l = some (mapP l) := by
  unfold view_NewPlain
  rw [bind_of (map_eq l hl)]
/-- A value that may not be put. -/
def badV (x : ByteArray) : Bool := decide (x = ByteArray.mk #[]) || decide ((x.size : Int) > 40)
def setV (v : VT) (k : Ky) (c : Cg) : VT := (v.1, mset v.2.1 k c, v.2.2.1, v.2.2.2)
theorem put_eqV (v : VT) (k : Ky) (x : ByteArray) : view_View_Put v k x = some (if badV x = true then (1, v) else (0, setV v k (k, x, false))) := by
  unfold view_View_Put badV
  by_cases h : x = ByteArray.mk #[]
  · simp [h]
  · by_cases h2 : (x.size : Int) > 40 <;> simp [h, h2, setV]
theorem delete_eqV (v : VT) (k : Ky) : view_View_Delete v k = some (0, setV v k (k, mt, true)) := rfl
theorem VOk.set {n : Nat} {v : VT} (h : VOk n v) {k : Ky} {c : Cg} (hc : c.1 = k) (hk : k.length = 24) (hn : normC c = c) : VOk (n + 1) (setV v k c) :=
  ⟨h.base.mono (by omega), h.own.set hc hk hn, Nat.le_trans h.rlen (by omega), h.rok, Nat.le_trans h.mlen (by omega), fun m hm => (h.mok m hm).mono (by omega)⟩
theorem seen_set {n : Nat} {v : VT} (h : VOk n v) {k : Ky} {c : Cg} (hc : c.1 = k) : seen (setV v k c) = upd1 (seen v) c := by
  funext j
  unfold seen
  have ho : OwnKey (mset v.2.1 k c) := fun p hp => by
    rcases mem_mset hp with e | e
    · rw [e]; exact hc
    · exact h.own.own p e
  have hn : ((mset v.2.1 k c).map (·.1)).Nodup := nodup_mset h.own.nd k c
  rw [updF_nodup (by show ((vals (mset v.2.1 k c)).map (·.1)).Nodup; rw [vals_keys ho]; exact hn)]
  unfold upd1
  rw [updF_nodup (by rw [vals_keys h.own.own]; exact h.own.nd)]
  simp only [setV]
  rw [mget_vals ho hn, mget_vals h.own.own h.own.nd, mget_mset, hc]
  by_cases e : j = k
  · simp [e]
  · simp [e]

theorem get_own (v : VT) (k : Ky) {c : Cg} (h : mget v.2.1 k = some c) : view_View_Get v k = some (c.2.1, !c.2.2, 0, v) := by
  unfold view_View_Get
  rw [h]
  rfl
theorem get_base {n : Nat} {v : VT} (hv : VOk n v) (hn : n ≤ 900000) (k : Ky) {s : Sp} (hs : key_One k = some s) (h : mget v.2.1 k = none) : view_View_Get v k = some ((mget v.1 k).getD mt, (mget v.1 k).isSome, 0, rdV v s) := by
  unfold view_View_Get
  rw [h]
  simp only [Option.isSome_none, cond_false]
  rw [bind_of hs, bind_of (read_eq v s (by have := hv.rlen; omega))]
  simp only
  rw [bind_of (plainGet_eq _ hv.base.rise k (by have := hv.base.len; omega))]
  rfl

/-- What is scanned. -/
def scanP (v : VT) (s : Sp) : List Pr := applyP (v.1.filter fun p => inS s p.1) (vals (v.2.1.filter fun p => inS s p.1))

theorem fold_own (s : Sp) : ∀ (l : VM) (a : List Cg), a.length + l.length ≤ 1000000 → List.foldlM (m := Option) (fun (v32 : List Cg) (x33 : Ky × Cg) => (((key_In s x33.1).bind fun x43 =>
      cond x43 ((fits (v32.length + ([x33.2]).length) 48).bind fun _ => some (v32 ++ [x33.2])) (some v32)) : Option (List Cg))) a l = some (a ++ vals (l.filter fun p => inS s p.1))
  | [], a, _ => by simp [vals]
  | x :: l, a, h => by
    simp only [List.length_cons] at h
    rw [List.foldlM_cons, keyIn_eq]
    have hf : fits (a.length + ([x.2]).length) 48 = some () := fits_of (by simp only [List.length_cons, List.length_nil]; omega)
    cases hi : inS s x.1 with
    | true =>
      simp only [Option.bind_some, cond_true, hf]
      show List.foldlM _ (a ++ [x.2]) l = _
      rw [fold_own s l (a ++ [x.2]) (by simp; omega)]
      simp [vals, hi]
    | false =>
      simp only [Option.bind_some, cond_false]
      show List.foldlM _ a l = _
      rw [fold_own s l a (by omega)]
      simp [vals, hi]

theorem filter_own {n : Nat} {m : VM} (h : MOk n m) (p : Ky × Cg → Bool) : OwnKey (m.filter p) ∧ ((m.filter p).map (·.1)).Nodup :=
  ⟨fun q hq => h.own q (List.mem_filter.1 hq).1, (List.Sublist.map _ List.filter_sublist).nodup h.nd⟩

theorem scan_eq {n : Nat} {v : VT} (hv : VOk n v) (hn : n ≤ 400000) (s : Sp) : view_View_Scan v s = some (scanP v s, 0, rdV v s) := by
  unfold view_View_Scan
  rw [bind_of (read_eq v s (by have := hv.rlen; omega))]
  simp only
  rw [bind_of (plainScan_eq _ hv.base.rise s (by have := hv.base.len; omega))]
  have hd : decide ((0 : Int) ≠ 0) = false := by decide
  simp only [hd, cond_false]
  refine forOrd_eq fun l hl => ?_
  have hll := hl.length_eq
  have holen := hv.own.len
  rw [bind_of (fold_own s l [] (by simp; omega))]
  simp only [List.nil_append]
  have h1 := List.length_filter_le (fun p : Pr => inS s p.1) v.1
  have h2 := List.length_filter_le (fun p : Ky × Cg => inS s p.1) l
  have hbl := hv.base.len
  rw [bind_of (apply_eq _ _ (by omega) (by simp only [vals, List.length_map]; omega))]
  have hp : (vals (l.filter fun p => inS s p.1)).Perm (vals (v.2.1.filter fun p => inS s p.1)) := (hl.filter _).map _
  obtain ⟨q1, q2⟩ := filter_own hv.own (fun p => inS s p.1)
  rw [applyP_perm (by rw [vals_keys q1]; exact q2) hp]
  rfl

theorem changes_eqV {n : Nat} {v : VT} (hv : VOk n v) (hn : n ≤ 1000) : view_View_Changes v = some (joinP (vals v.2.1), v) := by
  unfold view_View_Changes
  have holen := hv.own.len
  rw [bind_of (fits_of (by omega))]
  refine forOrd_eq fun l hl => ?_
  have hll := hl.length_eq
  rw [bind_of (join1_eq _ (by simp; omega))]
  have hp : (vals l).Perm (vals v.2.1) := hl.map _
  have := joinP_perm (by rw [vals_keys hv.own.own]; exact hv.own.nd) hp
  unfold vals at this
  rw [this]
  rfl

/-- The span of all keys. -/
def allS : Sp := (List.replicate 24 0, List.replicate 24 0, true)
theorem mget_scan_all (v : VT) : mget (applyP v.1 (vals v.2.1)) = seen v := mget_applyP _ _

theorem reads_eq (v : VT) (h : v.2.2.1.length ≤ 1000000) : view_View_Reads v = some (v.2.2.1, v) := by
  unfold view_View_Reads slices_Clone55
  have hf : fits (([] : List Sp).length + v.2.2.1.length) 49 = some () := fits_of (by simp only [List.length_nil]; omega)
  rw [hf]
  rfl
/-! ### Cuts -/
def cutV (v : ByteArray) : ByteArray := v.extract 0 (min (v.size : Int) 40).toNat
def cutP (l : List Pr) : List Pr := (l.take 40).map fun p => (p.1, cutV p.2)
end Go.Val

