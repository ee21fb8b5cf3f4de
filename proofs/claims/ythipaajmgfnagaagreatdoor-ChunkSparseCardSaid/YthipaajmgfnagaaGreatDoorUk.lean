/- ChunkSparse: true of each argument. -/
import Derived.Test.YthipaajmgfnagaaGreatDoorWn
import Derived.Test.YthipaajmgfnagaaGreatDoorUh
set_option linter.unusedSectionVars false
set_option linter.unusedVariables false
set_option linter.unusedSimpArgs false
namespace Go.Val
open Go.Lib

theorem ex300 (a : ByteArray) : (a.extract 0 (min (a.size : Int) 300).toNat).size ≤ 300 := by
  rw [← bl_len, bl_extract, List.drop_zero, List.length_take]; omega
theorem rng_zs {G : Nat → Nat → By} {i off m : Nat} (h : ∀ x, x < m → byt G i (off + x) = 0) : rng G i off m = zs m :=
  (rng_of (by unfold zs; rw [List.length_replicate]) fun x hx => by rw [h x hx]; exact zs_get m x).symm
theorem scan_keys {n : Nat} {v : VT} (hv : VOk n v) (hb : v.1 = []) (s : Sp) : (scanP v s).length ≤ (v.2.1.map (·.1)).length := by
  rw [scanP_eq hv]
  have h1 := List.length_filter_le (fun p : Pr => inS s p.1) (applyP v.1 (vals v.2.1))
  have h2 := applyP_len v.1 (vals v.2.1)
  rw [hb] at h1 h2
  simp only [vals, List.length_map, List.length_nil] at h1 h2
  rw [hb, List.length_map]
  simp only [vals] at h1 ⊢
  omega
theorem scan_allE {n : Nat} {v : VT} (hv : VOk n v) (hn : n ≤ 400000) : view_View_Scan v ((List.replicate 24 0), (List.replicate 24 0), true) = some (scanP v allS, 0, rdV v allS) := scan_eq hv hn allS
theorem allS_ok : spOk allS := ⟨by simp [allS], by simp [allS]⟩

set_option maxRecDepth 100000 in
theorem chunkSparse_true (a0 : Int) (a1 : ByteArray) (a2 : Int) : law13_ChunkSparse a0 a1 a2 = some true := by
  unfold law13_ChunkSparse
  rw [bind_of shown_eq, bind_of new_n]
  simp only [Bool.not_true, cond_false, Option.bind_some]
  obtain ⟨o, h0, ho⟩ := and_le (a := a0) (b := 1048575) (by decide)
  obtain ⟨n, h2, hn⟩ := and_le (a := a2) (b := 127) (by decide)
  have h0' : bitsAnd .i64 a0 1048575 = (o : Int) := h0
  have h2' : bitsAnd .i64 a2 127 = (n : Int) := h2
  have t1 : Int.tmod (o : Int) 1048076 = ((o % 1048076 : Nat) : Int) := rfl
  simp only [h0', h2', t1]
  have hoff : o % 1048076 < 1048076 := Nat.mod_lt _ (by decide)
  generalize o % 1048076 = off at hoff
  rw [bind_of (cutB_of (by omega))]
  have hsz := ex300 a1
  generalize a1.extract 0 (min (a1.size : Int) 300).toNat = x at hsz
  have w2 : IntKind.wrap .i64 ((off : Int) - (n : Int)) = (off : Int) - (n : Int) := wrap_i64 (by omega)
  have w3 : max ((off : Int) - (n : Int)) 0 = ((off - n : Nat) : Int) := by omega
  have w4 : IntKind.wrap .i64 ((off : Int) - ((off - n : Nat) : Int)) = ((off - (off - n) : Nat) : Int) := by rw [wrap_i64 (by omega)]; omega
  have w5 : IntKind.wrap .i64 ((off : Int) + (x.size : Int)) = ((off + x.size : Nat) : Int) := by rw [wrap_i64 (by omega)]; omega
  simp only [w2, w3, w4, w5]
  obtain ⟨v1, G1, e1, w⟩ := write_eq (i := 5) (off := off) (x := x) (by decide) CV.new (by unfold pcs; split <;> omega) (by omega)
  have hlen : (bl x).length = x.size := rfl
  rw [bind_of (show chunk_Write ([], [], [], []) 5 (off : Int) x = _ from e1)]
  simp only
  have hcv := w.cv
  rw [hlen] at hcv
  have hpc : pcs off x.size ≤ 20 := by unfold pcs; split <;> omega
  have hcv := hcv.mono (m := 100) (by omega)
  rw [bind_of (scan_allE hcv.ok (by decide))]
  simp only
  have hmost : ∃ M : Int, ((cond (decide (x ≠ (ByteArray.mk #[]))) (some (IntKind.wrap .i64 ((IntKind.wrap .i64 ((IntKind.wrap .i64 (Int.tdiv (IntKind.wrap .i64 (((off + x.size : Nat) : Int) - 1)) 32)) - (IntKind.wrap .i64 (Int.tdiv (off : Int) 32)))) + 1))) (some 0) : Option Int)) = some M ∧ ((scanP v1 allS).length : Int) ≤ M := by
    have hsk := scan_keys hcv.ok hcv.base allS
    by_cases hx : x = ByteArray.mk #[]
    · rw [decide_eq_false (by simp [hx]), cond_false]
      refine ⟨0, rfl, ?_⟩
      have h0 : x.size = 0 := by rw [hx]; rfl
      have := keys_len hcv.ok.own.nd (i := 5) (a := 0) (b := 0) (by decide) (by decide) fun k => by
        rw [w.keys, hlen, h0]
        constructor
        · rintro (h | ⟨p, e, h1, h2, h3⟩)
          · simp at h
          · omega
        · rintro ⟨p, e, h1, h2⟩; omega
      omega
    · rw [decide_eq_true hx, cond_true]
      have hpos : 0 < x.size := by
        apply Nat.pos_of_ne_zero
        intro h0
        apply hx
        have : bl x = [] := List.eq_nil_of_length_eq_zero h0
        rw [← bm_bl x, this]; rfl
      have d1 : IntKind.wrap .i64 (((off + x.size : Nat) : Int) - 1) = ((off + x.size - 1 : Nat) : Int) := by rw [wrap_i64 (by omega)]; omega
      have d2 : Int.tdiv ((off + x.size - 1 : Nat) : Int) 32 = (((off + x.size - 1) / 32 : Nat) : Int) := rfl
      have d3 : Int.tdiv (off : Int) 32 = ((off / 32 : Nat) : Int) := rfl
      rw [d1, d2, d3, wrap_i64 (n := (((off + x.size - 1) / 32 : Nat) : Int)) (by omega), wrap_i64 (n := ((off / 32 : Nat) : Int)) (by omega), wrap_i64 (n := (((off + x.size - 1) / 32 : Nat) : Int) - ((off / 32 : Nat) : Int)) (by omega), wrap_i64 (by omega)]
      refine ⟨_, rfl, ?_⟩
      have := keys_len hcv.ok.own.nd (i := 5) (a := off / 32) (b := (off + x.size - 1) / 32 + 1) (by decide) (by omega) fun k => by
        rw [w.keys, hlen]
        constructor
        · rintro (h | ⟨p, e, h1, h2, h3⟩)
          · simp at h
          · exact ⟨p, e, by omega, by omega⟩
        · rintro ⟨p, e, h1, h2⟩
          exact .inr ⟨p, e, hpos, by omega, by omega⟩
      omega
  obtain ⟨M, hM, hle⟩ := hmost
  rw [bind_of hM]
  have hc2 := hcv.rd allS_ok
  obtain ⟨v3, e3, c3, k3, _⟩ := cread_eq (i := 5) (off := off - n) (m := off - (off - n)) (by decide) hc2 (by decide) (by omega)
  rw [bind_of (show chunk_Read (rdV v1 allS) 5 ((off - n : Nat) : Int) ((off - (off - n) : Nat) : Int) = _ from e3)]
  simp only
  obtain ⟨v4, e4, c4, k4, _⟩ := cread_eq (i := 5) (off := off + x.size) (m := n) (by decide) c3 (by decide) (by omega)
  rw [bind_of (show chunk_Read v3 5 ((off + x.size : Nat) : Int) (n : Int) = _ from e4)]
  simp only
  have r3 : rng G1 5 (off - n) (off - (off - n)) = zs (off - (off - n)) := rng_zs fun y hy => by
    rw [w.byt, if_neg (by omega)]; exact byt_new _ _
  have r4 : rng G1 5 (off + x.size) n = zs n := rng_zs fun y hy => by
    rw [w.byt, hlen, if_neg (by omega)]; exact byt_new _ _
  rw [r3, r4]
  have d0 : decide ((0 : Int) = 0) = true := rfl
  simp only [d0, cond_true, decide_eq_true hle, Int.toNat_natCast]
  rw [bind_of (ck_of (show 0 ≤ ((off - (off - n) : Nat) : Int) ∧ ((off - (off - n) : Nat) : Int) ≤ 140737488355328 by omega))]
  rw [bind_of (ck_of (show 0 ≤ (n : Int) ∧ (n : Int) ≤ 140737488355328 by omega))]
  have q1 : decide (bm (zs (off - (off - n))) = ByteArray.mk (List.replicate (off - (off - n)) (0 : UInt8)).toArray) = true := decide_eq_true rfl
  have q2 : decide (bm (zs n) = ByteArray.mk (List.replicate n (0 : UInt8)).toArray) = true := decide_eq_true rfl
  rw [q1, q2]
  rfl
end Go.Val

