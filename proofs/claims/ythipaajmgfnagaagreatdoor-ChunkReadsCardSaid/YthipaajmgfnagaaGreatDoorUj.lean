/- ChunkReads: true of each argument. -/
import Derived.Test.YthipaajmgfnagaaGreatDoorWo
import Derived.Test.YthipaajmgfnagaaGreatDoorUh
set_option linter.unusedSectionVars false
set_option linter.unusedVariables false
set_option linter.unusedSimpArgs false
namespace Go.Val
open Go.Lib

theorem ex_size' (a : ByteArray) (k : Nat) : (a.extract 0 (min (a.size : Int) (k : Int)).toNat).size ≤ k := by
  rw [← bl_len, bl_extract, List.drop_zero, List.length_take]; omega

set_option maxRecDepth 100000 in
theorem chunkReads_true (a0 a1 a2 : Int) (a3 : ByteArray) : law13_ChunkReads a0 a1 a2 a3 = some true := by
  unfold law13_ChunkReads
  rw [bind_of shown_eq, bind_of new_n]
  simp only [Bool.not_true, cond_false, Option.bind_some]
  obtain ⟨off, h0, hoff⟩ := and_le (a := a0) (b := 65535) (by decide)
  obtain ⟨m, h1, hm⟩ := and_le (a := a1) (b := 1023) (by decide)
  obtain ⟨pl, h2, hpl⟩ := and_le (a := a2) (b := 1023) (by decide)
  have h0' : bitsAnd .i64 a0 65535 = (off : Int) := h0
  have h1' : bitsAnd .i64 a1 1023 = (m : Int) := h1
  have h2' : bitsAnd .i64 a2 1023 = (pl : Int) := h2
  have w1 : IntKind.wrap .i64 (1 + (m : Int)) = ((m + 1 : Nat) : Int) := by rw [wrap_i64 (by omega)]; omega
  have w2 : IntKind.wrap .i64 ((off : Int) + ((m + 1 : Nat) : Int)) = ((off + (m + 1) : Nat) : Int) := by rw [wrap_i64 (by omega)]; omega
  have w3 : IntKind.wrap .i64 (32 * (pl : Int)) = ((32 * pl : Nat) : Int) := by rw [wrap_i64 (by omega)]; omega
  simp only [h0', h1', h2', w1, w2, w3]
  obtain ⟨v1, e1, c1, k1, q1⟩ := cread_eq (i := 5) (off := off) (m := m + 1) (by decide) CV.new (by decide) (by omega)
  rw [if_neg (by omega)] at q1
  rw [bind_of (show chunk_Read ([], [], [], []) 5 (off : Int) ((m + 1 : Nat) : Int) = _ from e1)]
  simp only
  have hs : spOk (readS 5 off (m + 1)) := ⟨rfl, rfl⟩
  have hr : v1.2.2.1 = cleanP [readS 5 off (m + 1)] := by rw [q1]; rfl
  have hrl : v1.2.2.1.length ≤ 1000000 := by have := c1.ok.rlen; omega
  have hhas : ∀ k, hasS v1.2.2.1 k = inS (readS 5 off (m + 1)) k := by
    intro k
    rw [hr, (cleanP_spec (l := [readS 5 off (m + 1)]) (fun s h => by rw [List.mem_singleton] at h; rw [h]; exact hs)).2.1]
    simp [hasS]
  have hloop := whileO_inv (body := fun (v193 : Int × VT) =>
        cond (decide (v193.1 < 2100)) (
          (key_Chunk 5 v193.1).bind fun x200 =>
          (view_View_Reads v193.2).bind fun x203 =>
          (ref08_Has x203.1 x200.1).bind fun x206 =>
          (((
            cond (!x200.2) (
              some true
            ) (
              cond (decide ((IntKind.wrap .i64 ((IntKind.wrap .i64 (32 * v193.1)) + 31)) ≥ (off : Int))) (
                some (!(x206 == (decide ((IntKind.wrap .i64 (32 * v193.1)) < ((off + (m + 1) : Nat) : Int)))))
              ) (
                some (!(x206 == false))
              )
            )
          ) : Option Bool)).bind fun o215 =>
          cond o215 (
            some (Sum.inr (Sum.inr false : Unit ⊕ Bool))
          ) (
            some (Sum.inl ((IntKind.wrap .i64 (v193.1 + 1)), x203.2))
          )
        ) (
          some (Sum.inr (Sum.inl ()))
        )) 2100 (fun j (_ : Unit) => ((j : Int), v1)) (fun _ _ => True) (fun _ => Sum.inl ()) () trivial (fun j hj _ _ => ⟨(), ?_, trivial⟩) (fun _ _ => rfl)
  · obtain ⟨_, _, hw⟩ := hloop
    simp only [Int.natCast_zero] at hw
    rw [bind_of hw]
    simp only [Sum.elim_inl]
    rw [bind_of (cutB_of (by omega))]
    have hsz := ex_size' a3 320
    have e320 : ((320 : Nat) : Int) = 320 := rfl
    rw [e320] at hsz
    generalize a3.extract 0 (min (a3.size : Int) 320).toNat = x at hsz
    have t1 : Int.tmod (x.size : Int) 32 = ((x.size % 32 : Nat) : Int) := rfl
    have t2 : IntKind.wrap .i64 (32 - ((x.size % 32 : Nat) : Int)) = ((32 - x.size % 32 : Nat) : Int) := by rw [wrap_i64 (by omega)]; omega
    have t3 : Int.tmod ((32 - x.size % 32 : Nat) : Int) 32 = (((32 - x.size % 32) % 32 : Nat) : Int) := rfl
    simp only [t1, t2, t3, Int.toNat_natCast]
    have hz : (ByteArray.mk (List.replicate ((32 - x.size % 32) % 32) (0 : UInt8)).toArray).size = (32 - x.size % 32) % 32 := by
      show (List.replicate ((32 - x.size % 32) % 32) (0 : UInt8)).length = _
      rw [List.length_replicate]
    rw [bind_of (ck_of (by omega)), bind_of (ck_of (by rw [hz]; omega))]
    have hxs : (x ++ ByteArray.mk (List.replicate ((32 - x.size % 32) % 32) (0 : UInt8)).toArray).size = x.size + (32 - x.size % 32) % 32 := by
      rw [ByteArray.size_append, hz]
    have hx32 : (x.size + (32 - x.size % 32) % 32) % 32 = 0 := by omega
    have hxl : x.size + (32 - x.size % 32) % 32 ≤ 351 := by omega
    generalize hX : x ++ ByteArray.mk (List.replicate ((32 - x.size % 32) % 32) (0 : UInt8)).toArray = X at hxs ⊢
    obtain ⟨v', G', e2, w⟩ := write_eq (i := 5) (off := 32 * pl) (x := X) (by decide) CV.new (by rw [hxs]; unfold pcs; split <;> omega) (by omega)
    rw [bind_of (show chunk_Write ([], [], [], []) 5 ((32 * pl : Nat) : Int) X = _ from e2)]
    simp only
    have hlen : (bl X).length = X.size := rfl
    have hrd : v'.2.2.1 = [] := w.reads (by omega) (by rw [hlen, hxs]; exact hx32)
    have hcl : 0 + 2 * pcs (32 * pl) (bl X).length ≤ 1000 := by rw [hlen, hxs]; unfold pcs; split <;> omega
    rw [bind_of (reads_eq v' (by rw [hrd]; simp))]
    simp only
    rw [bind_of (changes_eqV w.cv.ok hcl)]
    have hn : (joinP (vals v'.2.1)).length = X.size / 32 := by
      rw [changes_len w.cv.ok]
      have := keys_len w.cv.ok.own.nd (i := 5) (a := pl) (b := pl + X.size / 32) (by decide) (by omega) fun k => by
        rw [w.keys, hlen, hxs]
        constructor
        · rintro (h | ⟨p, e, h1, h2, h3⟩)
          · simp at h
          · exact ⟨p, e, by omega, by omega⟩
        · rintro ⟨p, e, h1, h2⟩
          exact .inr ⟨p, e, by omega, by omega, by omega⟩
      omega
    have t4 : Int.tdiv (X.size : Int) 32 = ((X.size / 32 : Nat) : Int) := rfl
    have t5 : IntKind.wrap .i64 ((X.size / 32 : Nat) : Int) = ((X.size / 32 : Nat) : Int) := wrap_i64 (by omega)
    simp only [t4, t5, hn, hrd, List.length_nil, Int.natCast_zero, decide_true, cond_true, Option.bind_some]
  · have hk : key_Chunk 5 (j : Int) = some (ckey 5 j, true) := chunk_eq (i := 5) (p := j) ⟨by decide, by omega⟩
    have hlt : decide ((j : Int) < 2100) = true := decide_eq_true (by omega)
    have u1 : IntKind.wrap .i64 (32 * (j : Int)) = ((32 * j : Nat) : Int) := by rw [wrap_i64 (by omega)]; omega
    have u2 : IntKind.wrap .i64 (((32 * j : Nat) : Int) + 31) = ((32 * j + 31 : Nat) : Int) := by rw [wrap_i64 (by omega)]; omega
    have hin : inS (readS 5 off (m + 1)) (ckey 5 j) = decide (off / 32 ≤ j ∧ j < (off + (m + 1) + 31) / 32) := by
      unfold readS
      rw [inS_chunks ⟨by decide, by omega⟩ ⟨by decide, by omega⟩ ⟨by decide, by omega⟩]
      simp
    simp only [hlt, cond_true, hk, Option.bind_some, reads_eq v1 hrl, has_eq _ _ hrl, hhas, hin, Bool.not_true, cond_false, u1, u2, wrap_succ (show j < 9223372036854775807 by omega)]
    by_cases hc : off ≤ 32 * j + 31
    · rw [decide_eq_true (show ((32 * j + 31 : Nat) : Int) ≥ (off : Int) by omega), cond_true, Option.bind_some]
      have : (decide (off / 32 ≤ j ∧ j < (off + (m + 1) + 31) / 32) == decide (((32 * j : Nat) : Int) < ((off + (m + 1) : Nat) : Int))) = true := by
        rw [beq_iff_eq, decide_eq_decide]; omega
      rw [this]; rfl
    · rw [decide_eq_false (show ¬ ((32 * j + 31 : Nat) : Int) ≥ (off : Int) by omega), cond_false, Option.bind_some, decide_eq_false (by omega)]
      rfl
end Go.Val

