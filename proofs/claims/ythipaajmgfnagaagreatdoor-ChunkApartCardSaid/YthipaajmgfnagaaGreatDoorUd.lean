/- A view whose pairs are chunks. -/
import Derived.Test.YthipaajmgfnagaaGreatDoorUc
set_option linter.unusedSectionVars false
set_option linter.unusedVariables false
set_option linter.unusedSimpArgs false
namespace Go.Val
open Go.Lib

theorem mget_filter {β : Type} (l : List (Ky × β)) (p : Ky → Bool) (k : Ky) : mget (l.filter fun q => p q.1) k = if p k = true then mget l k else none := by
  induction l with
  | nil => simp [mget_nil]
  | cons a l ih =>
    by_cases hp : p a.1 = true
    · rw [List.filter_cons_of_pos (p := fun q : Ky × β => p q.1) hp, mget_cons, mget_cons, ih]
      by_cases e : k = a.1
      · subst e; simp [hp]
      · simp [e]
    · rw [List.filter_cons_of_neg (p := fun q : Ky × β => p q.1) hp, ih, mget_cons]
      by_cases e : k = a.1
      · subst e; simp [hp]
      · simp [e]
theorem filter_rising {β : Type} {l : List (Ky × β)} (h : Rising l) (p : Ky × β → Bool) : Rising (l.filter p) := List.Pairwise.sublist (List.Sublist.map _ List.filter_sublist) h
/-- What is scanned is what is seen in the span. -/
theorem scanP_eq {n : Nat} {v : VT} (hv : VOk n v) (s : Sp) : scanP v s = (applyP v.1 (vals v.2.1)).filter fun p => inS s p.1 := by
  refine rising_ext (applyP_rising _ _) (filter_rising (applyP_rising _ _) _) fun k => ?_
  unfold scanP
  have hb := hv.base.rise
  have hbf := filter_rising hb (fun p => inS s p.1)
  obtain ⟨q1, q2⟩ := filter_own hv.own (fun p => inS s p.1)
  have hnv : ((vals (v.2.1.filter fun p => inS s p.1)).map (·.1)).Nodup := by rw [vals_keys q1]; exact q2
  have hnv0 : ((vals v.2.1).map (·.1)).Nodup := by rw [vals_keys hv.own.own]; exact hv.own.nd
  rw [mget_applyP, updF_nodup hnv, mget_vals q1 q2, mget_filter v.2.1 (inS s), fn_rising hbf, mget_filter (applyP v.1 (vals v.2.1)) (inS s), mget_applyP, updF_nodup hnv0, mget_vals hv.own.own hv.own.nd, fn_rising hb, mget_filter v.1 (inS s)]
  cases inS s k <;> simp
theorem scan_get {n : Nat} {v : VT} (hv : VOk n v) (s : Sp) (k : Ky) : mget (scanP v s) k = if inS s k = true then seen v k else none := by
  rw [scanP_eq hv, mget_filter _ (inS s), mget_scan_all]
theorem scan_rising {n : Nat} {v : VT} (hv : VOk n v) (s : Sp) : Rising (scanP v s) := applyP_rising _ _
theorem scan_len {n : Nat} {v : VT} (hv : VOk n v) (hb : v.1 = []) (s : Sp) : (scanP v s).length ≤ n := by
  rw [scanP_eq hv]
  have h1 := List.length_filter_le (fun p : Pr => inS s p.1) (applyP v.1 (vals v.2.1))
  have h2 := applyP_len v.1 (vals v.2.1)
  have h3 := hv.own.len
  rw [hb] at h1 h2
  simp only [vals, List.length_map, List.length_nil] at h1 h2
  rw [hb]
  simp only [vals] at h1 ⊢
  omega

def encO (b : By) : Option ByteArray := if tr b = [] then none else some (bm (tr b))
theorem enc_full {b : By} (h : b.length = 32) : pad ((bl ((encO b).getD mt)).take 32) = b := by
  unfold encO
  split
  · rename_i h0
    rw [Option.getD_none]
    have := tr_nil.1 h0
    rw [h] at this
    rw [this]; rfl
  · rw [Option.getD_some, bl_bm, List.take_of_length_le (by have := tr_le b; omega), pad_tr h]
theorem enc_zs : encO (zs 32) = none := if_pos (tr_nil.2 rfl)
theorem enc_none {b : By} (h : b.length = 32) (e : encO b = none) : b = zs 32 := by
  unfold encO at e
  split at e
  · rename_i h0
    have := tr_nil.1 h0
    rw [h] at this
    exact this
  · cases e
theorem enc_some {b : By} (h : b.length = 32) {x : ByteArray} (e : encO b = some x) : pad (bl x) = b ∧ tr (bl x) = bl x ∧ bl x ≠ [] ∧ x.size ≤ 32 := by
  unfold encO at e
  split at e
  · cases e
  · rename_i h0
    cases e
    have := tr_le b
    exact ⟨pad_tr h, tr_idem b, h0, by rw [bm_size]; omega⟩

structure CV (n : Nat) (v : VT) (G : Nat → Nat → By) : Prop where
  ok : VOk n v
  base : v.1 = []
  len : ∀ i p, (G i p).length = 32
  at_ : ∀ i p, okP i p → seen v (ckey i p) = encO (G i p)
  no : ∀ k, (∀ i p, okP i p → k ≠ ckey i p) → seen v k = none

theorem CV.mono {n m : Nat} {v : VT} {G : Nat → Nat → By} (h : CV n v G) (hn : n ≤ m) : CV m v G := ⟨h.ok.mono hn, h.base, h.len, h.at_, h.no⟩
theorem CV.rd {n : Nat} {v : VT} {G : Nat → Nat → By} (h : CV n v G) {s : Sp} (hs : spOk s) : CV (n + 1) (rdV v s) G := ⟨h.ok.rd hs, h.base, h.len, h.at_, h.no⟩
theorem CV.new : CV 0 ([], [], [], []) (fun _ _ => zs 32) := by
  have h0 : VOk 0 ([], [], [], []) := ⟨⟨List.Pairwise.nil, by simp, by simp⟩, MOk.nil 0, by simp, by simp, by simp, by simp⟩
  refine ⟨h0, rfl, fun _ _ => rfl, fun i p _ => ?_, fun k _ => rfl⟩
  rw [enc_zs]; rfl

def setG (G : Nat → Nat → By) (i p : Nat) (b : By) : Nat → Nat → By := fun j q => if j = i ∧ q = p then b else G j q
def chg (b : By) (i p : Nat) : Cg := if tr b = [] then (ckey i p, mt, true) else (ckey i p, bm (tr b), false)
theorem chg_key (b : By) (i p : Nat) : (chg b i p).1 = ckey i p := by unfold chg; split <;> rfl
theorem chg_norm (b : By) (i p : Nat) : normC (chg b i p) = chg b i p := by unfold chg normC; split <;> rfl
theorem chg_eff (b : By) (i p : Nat) : eff (chg b i p).2 = encO b := by unfold chg eff encO; split <;> rfl
theorem lay_eq (v : VT) {i p : Nat} (h : okP i p) (x : ByteArray) : chunk_lay v (i : Int) (p : Int) x = some (0, setV v (ckey i p) (chg ((bl x).take 32) i p)) := by
  unfold chunk_lay
  rw [bind_of (chunk_eq h), bind_of (trim_eq x)]
  unfold chg
  by_cases h0 : tr ((bl x).take 32) = []
  · rw [if_pos h0, decide_eq_true (by rw [h0]; rfl), cond_true, delete_eqV]
    rfl
  · have hne : bm (tr ((bl x).take 32)) ≠ ByteArray.mk #[] := fun e => h0 (bm_inj (b := []) e)
    rw [if_neg h0, decide_eq_false hne, cond_false, put_eqV]
    have hb : badV (bm (tr ((bl x).take 32))) = false := by
      unfold badV
      have h1 := tr_le ((bl x).take 32)
      rw [List.length_take] at h1
      rw [decide_eq_false hne, decide_eq_false (by rw [bm_size]; omega)]
      rfl
    rw [hb]
    rfl
theorem VOk.set' {n : Nat} {v : VT} (h : VOk n v) {k : Ky} {c : Cg} (hc : c.1 = k) (hk : k.length = 24) (hn : normC c = c) (hin : k ∈ v.2.1.map (·.1)) : VOk n (setV v k c) := by
  have h1 := h.set hc hk hn
  refine ⟨h.base, ⟨h1.own.own, h1.own.nd, ?_, h1.own.k24, h1.own.norm⟩, h.rlen, h.rok, h.mlen, h.mok⟩
  have := congrArg List.length (keys_mset v.2.1 k c)
  rw [if_pos hin, List.length_map, List.length_map] at this
  show (mset v.2.1 k c).length ≤ n
  rw [this]
  exact h.own.len
theorem CV.lay_ {n m : Nat} {v : VT} {G : Nat → Nat → By} (h : CV n v G) {i p : Nat} (hp : okP i p) {b : By} (hb : b.length ≤ 32) (hk : VOk m (setV v (ckey i p) (chg b i p))) : CV m (setV v (ckey i p) (chg b i p)) (setG G i p (pad b)) := by
  have hs := seen_set h.ok (chg_key b i p)
  refine ⟨hk, h.base, fun j q => ?_, fun j q hq => ?_, fun k hn => ?_⟩
  · unfold setG; split
    · exact pad_len hb
    · exact h.len j q
  · rw [hs]
    unfold upd1 setG
    rw [chg_key, chg_eff]
    by_cases e : j = i ∧ q = p
    · obtain ⟨rfl, rfl⟩ := e
      rw [if_pos rfl, if_pos ⟨rfl, rfl⟩]
      unfold encO; rw [tr_pad]
    · rw [if_neg e, if_neg (fun e' => e (ckey_inj hq hp e')), h.at_ j q hq]
  · rw [hs]
    unfold upd1
    rw [chg_key, if_neg (hn i p hp)]
    exact h.no k hn
theorem CV.lay {n : Nat} {v : VT} {G : Nat → Nat → By} (h : CV n v G) {i p : Nat} (hp : okP i p) {b : By} (hb : b.length ≤ 32) : CV (n + 1) (setV v (ckey i p) (chg b i p)) (setG G i p (pad b)) :=
  h.lay_ hp hb (h.ok.set (chg_key b i p) (ckey_len i p) (chg_norm b i p))
theorem CV.layIn {n : Nat} {v : VT} {G : Nat → Nat → By} (h : CV n v G) {i p : Nat} (hp : okP i p) {b : By} (hb : b.length ≤ 32) (hin : ckey i p ∈ v.2.1.map (·.1)) : CV n (setV v (ckey i p) (chg b i p)) (setG G i p (pad b)) :=
  h.lay_ hp hb (h.ok.set' (chg_key b i p) (ckey_len i p) (chg_norm b i p) hin)

theorem seen_own {n : Nat} {v : VT} (h : VOk n v) {k : Ky} {c : Cg} (hg : mget v.2.1 k = some c) : seen v k = eff c.2 := by
  unfold seen
  rw [updF_nodup (by rw [vals_keys h.own.own]; exact h.own.nd), mget_vals h.own.own h.own.nd, hg]
  rfl
theorem seen_base {n : Nat} {v : VT} (h : VOk n v) (hb : v.1 = []) {k : Ky} (hg : mget v.2.1 k = none) : seen v k = none := by
  unfold seen
  rw [updF_nodup (by rw [vals_keys h.own.own]; exact h.own.nd), mget_vals h.own.own h.own.nd, hg, hb]
  rfl
theorem CV.get {n : Nat} {v : VT} {G : Nat → Nat → By} (h : CV n v G) (hn : n ≤ 900000) {k : Ky} (hk : k.length = 24) : ∃ (is : Bool) (v1 : VT), view_View_Get v k = some ((seen v k).getD mt, is, 0, v1) ∧ CV (n + 1) v1 G ∧ v1.2.1 = v.2.1 := by
  cases hg : mget v.2.1 k with
  | some c =>
    refine ⟨!c.2.2, v, ?_, h.mono (by omega), rfl⟩
    rw [get_own v k hg, seen_own h.ok hg]
    have hc := h.ok.own.norm _ (mget_some_mem hg)
    unfold eff
    unfold normC at hc
    split
    · rename_i e
      rw [if_pos e] at hc
      have hc1 : c.2.1 = mt := (congrArg (fun q : Cg => q.2.1) hc).symm
      rw [hc1]; rfl
    · rfl
  | none =>
    obtain ⟨s, h1, h2⟩ := keyOne_ex k hk
    refine ⟨(mget v.1 k).isSome, rdV v s, ?_, h.rd (h2.ok hk), rfl⟩
    rw [get_base h.ok hn k h1 hg, seen_base h.ok h.base hg, h.base]
    rfl
/-- What is scanned lies among one's own. -/
theorem CV.scan_in {n : Nat} {v : VT} {G : Nat → Nat → By} (h : CV n v G) {k : Ky} {x : ByteArray} (hs : seen v k = some x) : k ∈ v.2.1.map (·.1) := by
  apply Classical.byContradiction
  intro hn
  have := seen_base h.ok h.base (mget_none.2 hn)
  rw [this] at hs; cases hs
end Go.Val

