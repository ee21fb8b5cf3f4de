/- What must be in any case, is; how many changes; small things on numbers. -/
import Derived.Test.YthipaajmgfnagaaGreatDoorUg
set_option linter.unusedSectionVars false
set_option linter.unusedVariables false
set_option linter.unusedSimpArgs false
namespace Go.Val
open Go.Lib

theorem and_le {a : Int} {b : Nat} (hb : b < 9223372036854775808) : ∃ m : Nat, bitsAnd .i64 a (b : Int) = (m : Int) ∧ m ≤ b := by
  unfold bitsAnd
  rw [BitVec.toNat_and, BitVec.toNat_ofInt, BitVec.toNat_ofInt]
  have h64 : (2 : Nat) ^ IntKind.bits .i64 = 18446744073709551616 := by decide
  have e3 : ((b : Int) % ((2 ^ IntKind.bits .i64 : Nat) : Int)).toNat = b := by rw [h64]; omega
  rw [e3]
  have := @Nat.and_le_right ((a % ((2 ^ IntKind.bits .i64 : Nat) : Int)).toNat) b
  exact ⟨_, by rw [wrap_i64 (by omega)], this⟩
theorem and_le' {a : Int} {b : Nat} (hb : b < 9223372036854775808) : ∃ m : Nat, bitsAnd .i64 (b : Int) a = (m : Int) ∧ m ≤ b := by
  unfold bitsAnd
  rw [BitVec.toNat_and, BitVec.toNat_ofInt, BitVec.toNat_ofInt]
  have h64 : (2 : Nat) ^ IntKind.bits .i64 = 18446744073709551616 := by decide
  have e3 : ((b : Int) % ((2 ^ IntKind.bits .i64 : Nat) : Int)).toNat = b := by rw [h64]; omega
  rw [e3]
  have := @Nat.and_le_left b ((a % ((2 ^ IntKind.bits .i64 : Nat) : Int)).toNat)
  exact ⟨_, by rw [wrap_i64 (by omega)], this⟩

theorem joinP_mem {cs : List Cg} (k : Ky) : k ∈ (joinP cs).map (·.1) ↔ k ∈ cs.map (·.1) := by
  have h := mget_joinP cs k
  constructor
  · intro hk
    obtain ⟨c, hc⟩ := Option.isSome_iff_exists.1 (mget_isSome.2 hk)
    rw [hc] at h
    have : k ∈ cs.reverse.map (·.1) := by
      apply Classical.byContradiction
      intro hn
      rw [mget_none.2 hn] at h
      cases h
    simpa using this
  · intro hk
    apply Classical.byContradiction
    intro hn
    rw [mget_none.2 hn] at h
    have : mget cs.reverse k = none := by
      cases hg : mget cs.reverse k with
      | none => rfl
      | some c => rw [hg] at h; cases h
    have := mget_none.1 this
    exact this (by simpa using hk)
/-- As many changes as keys. -/
theorem changes_len {n : Nat} {v : VT} (hv : VOk n v) : (joinP (vals v.2.1)).length = (v.2.1.map (·.1)).length := by
  have hk := vals_keys hv.own.own
  have hp : ((joinP (vals v.2.1)).map (·.1)).Perm (v.2.1.map (·.1)) := by
    rw [List.perm_ext_iff_of_nodup (joinP_rising _).nodup hv.own.nd]
    intro k
    rw [joinP_mem, hk]
  have := hp.length_eq
  rwa [List.length_map] at this
/-- As many keys as chunks. -/
theorem keys_len {l : List Ky} (hn : l.Nodup) {i a b : Nat} (hi : 1 ≤ i ∧ i < 1073741824) (hb : b < 4294967296) (h : ∀ k, k ∈ l ↔ ∃ p, k = ckey i p ∧ a ≤ p ∧ p < b) : l.length = b - a := by
  have hr : ((List.range (b - a)).map fun t => ckey i (a + t)).Nodup := by
    unfold List.Nodup
    rw [List.pairwise_map]
    refine List.Pairwise.imp_of_mem ?_ (List.nodup_range (n := b - a))
    intro x y hx hy hne e
    have hx := List.mem_range.1 hx
    have hy := List.mem_range.1 hy
    have := (ckey_inj (i := i) (p := a + x) (j := i) (q := a + y) ⟨hi, by omega⟩ ⟨hi, by omega⟩ e).2
    omega
  have hp : l.Perm ((List.range (b - a)).map fun t => ckey i (a + t)) := by
    rw [List.perm_ext_iff_of_nodup hn hr]
    intro k
    rw [h, List.mem_map]
    constructor
    · rintro ⟨p, e, h1, h2⟩
      exact ⟨p - a, List.mem_range.2 (by omega), by rw [e]; congr 1; omega⟩
    · rintro ⟨t, ht, e⟩
      have ht := List.mem_range.1 ht
      exact ⟨a + t, e.symm, by omega, by omega⟩
  have := hp.length_eq
  rwa [List.length_map, List.length_range] at this

theorem new_n : view_New_n = some ([], [], [], []) := by
  unfold view_New_n
  have e : mapP ([] : List Pr) = [] := mapP_id List.Pairwise.nil
  rw [newPlain_eq [] (by decide), e]
  rfl
theorem VOk.cv_nd {n : Nat} {v : VT} (h : VOk n v) : (v.2.1.map (·.1)).Nodup := h.own.nd

theorem rng5 (G : Nat → Nat → By) (i off : Nat) : rng G i off 5 = [byt G i off, byt G i (off + 1), byt G i (off + 2), byt G i (off + 3), byt G i (off + 4)] := rfl
theorem byt_new (i x : Nat) : byt (fun _ _ => zs 32) i x = 0 := byt_zs rfl

theorem shown_eq : law13_shown = some true := by
  unfold law13_shown
  rw [bind_of new_n]
  obtain ⟨v1, G1, e1, w⟩ := write_eq (i := 1) (off := 31) (n := 0) (x := ByteArray.mk #[97, 98, 99]) (G := fun _ _ => zs 32) (by decide) CV.new (by decide) (by decide)
  have hb : bl (ByteArray.mk #[97, 98, 99]) = [97, 98, 99] := rfl
  rw [hb] at w
  have hp : pcs 31 ([97, 98, 99] : By).length = 2 := by decide
  rw [bind_of (show chunk_Write ([], [], [], []) 1 31 (ByteArray.mk #[97, 98, 99]) = some (0, v1) from e1)]
  have hcv := w.cv
  rw [hp] at hcv
  obtain ⟨v2, e2, c2, k2, _⟩ := cread_eq (i := 1) (off := 30) (m := 5) (by decide) hcv (by decide) (by decide)
  have hbyt := w.byt
  have r1 : rng G1 1 30 5 = [0, 97, 98, 99, 0] := by
    rw [rng5]
    simp only [hbyt, byt_new]
    rfl
  simp only
  rw [bind_of (show chunk_Read v1 1 30 5 = some (bm (rng G1 1 30 5), 0, v2) from e2), r1]
  simp only
  rw [bind_of (changes_eqV c2.ok (by decide))]
  have hlen : (joinP (vals v2.2.1)).length = 2 := by
    rw [changes_len c2.ok, k2]
    refine keys_len hcv.ok.own.nd (i := 1) (a := 0) (b := 2) (by decide) (by decide) fun k => ?_
    rw [w.keys]
    constructor
    · rintro (h | ⟨p, e, h1, h2, h3⟩)
      · simp at h
      · simp only [List.length_cons, List.length_nil] at h2
        exact ⟨p, e, by omega, by omega⟩
    · rintro ⟨p, e, h1, h2⟩
      exact .inr ⟨p, e, by simp, by simp only [List.length_cons, List.length_nil]; omega, by omega⟩
  simp only [hlen]
  obtain ⟨v3, G3, e3, w3⟩ := cut_eq (i := 1) (size := 32) (by decide) c2 (by decide) (by decide)
  rw [bind_of (show chunk_Cut v2 1 32 = some (0, v3) from e3)]
  simp only
  obtain ⟨v4, e4, c4, k4, _⟩ := cread_eq (i := 1) (off := 30) (m := 5) (by decide) w3.cv (by decide) (by decide)
  have hbyt3 : ∀ x, x < 100 → byt G3 1 x = if x < 32 then byt G1 1 x else 0 := fun x hx => w3.byt c2.len (by decide) (by omega)
  have r3 : rng G3 1 30 5 = [0, 97, 0, 0, 0] := by
    rw [rng5, hbyt3 _ (by decide), hbyt3 _ (by decide), hbyt3 _ (by decide), hbyt3 _ (by decide), hbyt3 _ (by decide)]
    simp only [hbyt, byt_new]
    rfl
  rw [bind_of (show chunk_Read v3 1 30 5 = some (bm (rng G3 1 30 5), 0, v4) from e4), r3]
  rfl
end Go.Val

