/- What the twins are: chunks without noughts at their end, and with them. -/
import Derived.Test.YthipaajmgfnagaaGreatDoorUb
set_option linter.unusedSectionVars false
set_option linter.unusedVariables false
set_option linter.unusedSimpArgs false
namespace Go.Val
open Go.Lib

abbrev By := List UInt8
def zs (n : Nat) : By := List.replicate n 0
def tr (l : By) : By := trimRightB l 0
def pad (l : By) : By := l ++ zs (32 - l.length)
def bl (x : ByteArray) : By := x.data.toList
def bm (l : By) : ByteArray := ⟨l.toArray⟩
theorem bl_bm (l : By) : bl (bm l) = l := rfl
theorem bm_bl (x : ByteArray) : bm (bl x) = x := rfl
theorem bl_len (x : ByteArray) : (bl x).length = x.size := rfl
theorem bm_size (l : By) : (bm l).size = l.length := rfl
theorem bm_inj {a b : By} (h : bm a = bm b) : a = b := congrArg bl h
theorem bl_inj {x y : ByteArray} (h : bl x = bl y) : x = y := congrArg bm h
theorem mt_bm : mt = bm [] := rfl
theorem bl_extract (x : ByteArray) (a b : Nat) : bl (x.extract a b) = ((bl x).take b).drop a := by
  unfold bl
  rw [ByteArray.data_extract, Array.toList_extract]
  simp [List.extract_eq_take_drop, List.drop_take]
theorem bl_append (x y : ByteArray) : bl (x ++ y) = bl x ++ bl y := by
  unfold bl
  rw [ByteArray.data_append]
  simp

theorem mem_tw {p : UInt8 → Bool} {l : By} {x : UInt8} (h : x ∈ l.takeWhile p) : p x = true := by
  induction l with
  | nil => simp at h
  | cons a l ih =>
    rw [List.takeWhile_cons] at h
    split at h
    · rcases List.mem_cons.1 h with e | e
      · rw [e]; assumption
      · exact ih e
    · simp at h
theorem tr_split (l : By) : l = tr l ++ zs (l.length - (tr l).length) := by
  have h1 : l.reverse = l.reverse.takeWhile (· == 0) ++ l.reverse.dropWhile (· == 0) := List.takeWhile_append_dropWhile.symm
  have h2 : l = tr l ++ (l.reverse.takeWhile (· == 0)).reverse := by
    have := congrArg List.reverse h1
    rw [List.reverse_reverse, List.reverse_append] at this
    exact this
  have h3 : ∀ x ∈ (l.reverse.takeWhile (· == 0)).reverse, x = 0 := by
    intro x hx
    rw [List.mem_reverse] at hx
    have := mem_tw hx
    simpa using this
  have h4 := List.eq_replicate_of_mem h3
  have h5 : (l.reverse.takeWhile (· == 0)).reverse.length = l.length - (tr l).length := by
    have := congrArg List.length h2
    rw [List.length_append] at this
    omega
  rw [h5] at h4
  rw [h4] at h2
  exact h2
theorem tr_le (l : By) : (tr l).length ≤ l.length := by
  have := congrArg List.length (tr_split l)
  rw [List.length_append] at this
  omega
theorem tr_last (l : By) {x : UInt8} (h : (tr l).getLast? = some x) : x ≠ 0 := by
  unfold tr trimRightB at h
  rw [List.getLast?_reverse] at h
  have := List.head?_dropWhile_not (· == 0) l.reverse
  rw [h] at this
  simpa using this
theorem tr_noz {l : By} (h : ∀ x, l.getLast? = some x → x ≠ 0) : tr l = l := by
  unfold tr trimRightB
  cases hr : l.reverse with
  | nil =>
    have := congrArg List.reverse hr
    rw [List.reverse_reverse] at this
    rw [this]; rfl
  | cons y r =>
    have h1 : l.getLast? = some y := by rw [List.getLast?_eq_head?_reverse, hr]; rfl
    have h2 := h y h1
    rw [List.dropWhile_cons_of_neg (by simpa using h2), ← hr, List.reverse_reverse]
theorem tr_zs (l : By) (n : Nat) : tr (l ++ zs n) = tr l := by
  unfold tr trimRightB zs
  rw [List.reverse_append, List.reverse_replicate]
  congr 1
  induction n with
  | zero => simp
  | succ n ih => rw [List.replicate_succ, List.cons_append, List.dropWhile_cons_of_pos (by simp), ih]
theorem tr_idem (l : By) : tr (tr l) = tr l := tr_noz fun x hx => tr_last l hx
theorem tr_pad (l : By) : tr (pad l) = tr l := tr_zs l _
theorem pad_len {l : By} (h : l.length ≤ 32) : (pad l).length = 32 := by unfold pad zs; rw [List.length_append, List.length_replicate]; omega
theorem pad_tr {l : By} (h : l.length = 32) : pad (tr l) = l := by
  have := tr_split l
  rw [h] at this
  exact this.symm
theorem tr_nil {l : By} : tr l = [] ↔ l = zs l.length := by
  constructor
  · intro h
    have := tr_split l
    rw [h] at this
    simpa using this
  · intro h
    rw [h]
    have := tr_zs [] l.length
    simpa [tr, trimRightB] using this

theorem bmin (x : ByteArray) : cutB 0 (min (x.size : Int) 32) x.size = some () := cutB_of (by omega)
theorem tn_min (x : ByteArray) : (min (x.size : Int) 32).toNat = min x.size 32 := by omega
theorem bl_cut (x : ByteArray) : bl (x.extract 0 (min x.size 32)) = (bl x).take 32 := by
  rw [bl_extract, List.drop_zero]
  by_cases h : x.size ≤ 32
  · rw [Nat.min_eq_left h, List.take_of_length_le (by rw [bl_len]; omega), List.take_of_length_le (by rw [bl_len]; omega)]
  · rw [Nat.min_eq_right (by omega)]
theorem trim_eq (x : ByteArray) : inode_Trim x = some (bm (tr ((bl x).take 32))) := by
  unfold inode_Trim
  rw [bind_of (bmin x)]
  refine bind_id ?_
  unfold strTrimR
  have h1 : (x.extract 0 (min (x.size : Int) 32).toNat).size ≤ 9223372036854775807 := by
    rw [← bl_len, tn_min, bl_cut, List.length_take]; omega
  rw [decide_eq_true ⟨rfl, h1⟩, cond_true, tn_min]
  have := bl_cut x
  unfold bl at this
  rw [this]
  rfl
theorem full_eq (x : ByteArray) : inode_Full x = some (bm (pad ((bl x).take 32))) := by
  unfold inode_Full
  rw [bind_of (bmin x), tn_min]
  have hl : (x.extract 0 (min x.size 32)).size = ((bl x).take 32).length := by rw [← bl_cut]; rfl
  have h32 : ((bl x).take 32).length ≤ 32 := by rw [List.length_take]; omega
  rw [hl, wrap_i64 (by omega)]
  have hr : strRepeat (ByteArray.mk #[0]) (32 - (((bl x).take 32).length : Int)) = some (bm (zs (32 - ((bl x).take 32).length))) := by
    unfold strRepeat
    have e : (32 - (((bl x).take 32).length : Int)).toNat = 32 - ((bl x).take 32).length := by omega
    rw [e, decide_eq_true ⟨by omega, by show 1 * _ ≤ _; omega, by omega⟩, cond_true]
    congr 1
    have := repeatL_replicate 0 1 (32 - ((bl x).take 32).length)
    unfold bm zs
    congr 2
    rw [Nat.mul_one] at this
    exact this
  rw [bind_of hr, bind_of (ck_of (by rw [bm_size]; unfold zs; rw [List.length_replicate]; omega))]
  congr 1
  apply bl_inj
  rw [bl_append, bl_cut, bl_bm, bl_bm]
  rfl
end Go.Val

