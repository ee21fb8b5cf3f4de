/- ViewOver. -/
import Derived.Test.YtmibkdnmjjdelaaTi
import Derived.Test.YtmibkdnmjjdelaaWj
set_option linter.unusedSectionVars false
set_option linter.unusedVariables false
set_option linter.unusedSimpArgs false
namespace Go.Val
open Go.Lib

abbrev VR' := VM × List Sp × List VM

theorem put_eqR (B : List Pr) (u : VR') (k : Ky) (x : ByteArray) (b : VT) : view_View_Put_r u k x b = some (if badV x = true then (1, u, b) else (0, (setV (B, u) k (k, x, false)).2, b)) := by
  unfold view_View_Put_r badV
  by_cases h : x = ByteArray.mk #[]
  · simp [h]
  · by_cases h2 : (x.size : Int) > 40 <;> simp [h, h2, setV]

theorem does_eqR (B : List Pr) (u : VR') (ops : List OpT) (m : Nat) (hm : m ≤ 1000) (b : VT) : law12_does_r u ops (m : Int) b = some ((doesV (B, u) ops m).2, b) := by
  unfold law12_does_r
  have hw := whileO_for (V := Int × VR' × VT) (O := VR' × VT) (body := fun v257 =>
      (((
        cond (decide (v257.1 < (ops.length : Int))) (
          some (decide (v257.1 < (m : Int)))
        ) (
          some false
        )
      ) : Option Bool)).bind fun o264 =>
      cond o264 (
        (((
          (gx ops v257.1).bind fun x291 =>
          cond (decide (x291.1 = 1)) (
            (cutB 0 (min (x291.2.2.2.1.size : Int) 50) x291.2.2.2.1.size).bind fun _ =>
            (view_View_Put_r v257.2.1 x291.2.2.1 (x291.2.2.2.1.extract 0 (min (x291.2.2.2.1.size : Int) 50).toNat) v257.2.2).bind fun x300 =>
            some (x300.2.1, x300.2.2)
          ) (
            (view_View_Delete_r v257.2.1 x291.2.2.1 v257.2.2).bind fun x303 =>
            some (x303.2.1, x303.2.2)
          )
        ) : Option (VR' × VT))).bind fun o288 =>
        some (.inl ((IntKind.wrap .i64 (v257.1 + 1)), o288.1, o288.2))
      ) (
        some (.inr (v257.2.1, v257.2.2))
      )) (ops.take m) (fun i (s : VT) => ((i : Int), s.2, b)) stepV (fun _ _ => True) (fun s => (s.2, b)) (B, u) trivial (fun i hi s _ => ⟨by
    have h1 : i < ops.length := by simp at hi; omega
    have h2 : i < m := by simp at hi; omega
    have h3 : (ops.take m)[i] = ops[i] := by simp
    simp only [ilt h1, cond_true, ilt h2, Option.bind_some, gx_nat h1, wrap_succ (show i < 9223372036854775807 by omega), h3]
    unfold stepV
    by_cases h : ops[i].1 = 1
    · simp only [h, decide_true, cond_true, if_true]
      rw [bind_of (cutB_of (by omega)), bind_of (put_eqR s.1 s.2 _ _ _)]
      show (some _ : Option (VR' × VT)).bind _ = _
      by_cases hb : badV (cut50 ops[i].2.2.2.1) = true
      · have hb' : badV (ops[i].2.2.2.1.extract 0 (min (ops[i].2.2.2.1.size : Int) 50).toNat) = true := hb
        rw [if_pos hb, if_pos hb']
        rfl
      · have hb' : ¬ badV (ops[i].2.2.2.1.extract 0 (min (ops[i].2.2.2.1.size : Int) 50).toNat) = true := hb
        rw [if_neg hb, if_neg hb']
        rfl
    · simp only [h, decide_false, cond_false, if_false]
      rfl, trivial⟩) (fun s _ => by
    by_cases h : ops.length < m
    · have e : (ops.take m).length = ops.length := by simp; omega
      rw [e]
      simp only [ige, cond_false, Option.bind_some]
    · have e : (ops.take m).length = m := by simp; omega
      rw [e]
      by_cases h' : m < ops.length
      · simp only [ilt h', cond_true, Option.bind_some, ige, cond_false]
      · have : decide ((m : Int) < (ops.length : Int)) = false := decide_eq_false (by omega)
        simp only [this, cond_false, Option.bind_some])
  refine (bind_of hw).trans ?_
  rfl

theorem read_eqR (u : VR') (s : Sp) (b : VT) (h : u.2.1.length ≤ 900000) : view_View_read_r u s b = some ((u.1, cleanP (u.2.1 ++ [s]), u.2.2), b) := by
  unfold view_View_read_r
  have hf : fits (u.2.1.length + ([s]).length) 49 = some () := fits_of (by simp only [List.length_cons, List.length_nil]; omega)
  rw [bind_of hf, bind_of (clean_eq _ (by simp; omega))]
  rfl

theorem scan_eqR {n : Nat} {B : List Pr} {u : VR'} (hu : VOk n ((B, u) : VT)) {v : VT} (hv : VOk n v) (hn : n ≤ 100000) (s : Sp) :
    view_View_Scan_r u s v = some (applyP (scanP v s) (vals (u.1.filter fun p => inS s p.1)), 0, (u.1, cleanP (u.2.1 ++ [s]), u.2.2), rdV v s) := by
  unfold view_View_Scan_r
  have hrl : u.2.1.length ≤ n := hu.rlen
  rw [bind_of (read_eqR u s v (by omega))]
  simp only
  rw [bind_of (scan_eq hv (by omega) s)]
  have hd : decide ((0 : Int) ≠ 0) = false := by decide
  simp only [hd, cond_false]
  refine forOrd_eq fun l hl => ?_
  have hll := hl.length_eq
  have hown : MOk n u.1 := hu.own
  have holen := hown.len
  rw [bind_of (fold_own s l [] (by simp; omega))]
  simp only [List.nil_append]
  have h2 := List.length_filter_le (fun p : Ky × Cg => inS s p.1) l
  have hsl : (scanP v s).length ≤ 500000 := by
    have h1 := applyP_len (v.1.filter fun p => inS s p.1) (vals (v.2.1.filter fun p => inS s p.1))
    have h3 := List.length_filter_le (fun p : Pr => inS s p.1) v.1
    have h4 := List.length_filter_le (fun p : Ky × Cg => inS s p.1) v.2.1
    have h5 := hv.base.len
    have h6 := hv.own.len
    unfold scanP
    simp only [vals, List.length_map] at h1 ⊢
    omega
  rw [bind_of (apply_eq _ _ hsl (by simp only [vals, List.length_map]; omega))]
  have hp : (vals (l.filter fun p => inS s p.1)).Perm (vals (u.1.filter fun p => inS s p.1)) := (hl.filter _).map _
  obtain ⟨q1, q2⟩ := filter_own hown (fun p => inS s p.1)
  rw [applyP_perm (by rw [vals_keys q1]; exact q2) hp]

theorem foldV_seen : ∀ (l : List OpT) {n n' : Nat} {v w : VT}, VOk n v → VOk n' w → (∀ o ∈ l, o.2.2.1.length = 24) → seen v = seen w → seen (l.foldl stepV v) = seen (l.foldl stepV w)
  | [], _, _, _, _, _, _, _, h => h
  | o :: l, _, _, _, _, hv, hw, hk, h => by
    rw [List.foldl_cons, List.foldl_cons]
    exact foldV_seen l (stepV_ok hv (hk o (by simp))) (stepV_ok hw (hk o (by simp))) (fun q hq => hk q (by simp [hq])) (stepV_seen hv hw h o)

theorem viewOver_true (l : List Pr) (ops more : List OpT) (hl : ∀ p ∈ l, p.1.length = 24) (ho : ∀ o ∈ ops, o.2.2.1.length = 24) (hm : ∀ o ∈ more, o.2.2.1.length = 24) : law12_ViewOver l ops more = some true := by
  unfold law12_ViewOver
  rw [bind_of shown_eq, bind_of (cut_eq l), bind_of (newPlain_eq _ (by have := cutP_len l; omega)), bind_of (new_eq _)]
  simp only [Bool.not_true, cond_false, Option.bind_some]
  have h0 : VOk 40 ((mapP (cutP l), [], [], []) : VT) := newV_ok (cutP_len l) (cutP_k24 hl)
  obtain ⟨P, hP⟩ : ∃ P, P = mapP (cutP l) := ⟨_, rfl⟩
  rw [← hP] at h0 ⊢
  clear hP
  refine (bind_of (does_eqV _ ops 30 (by decide))).trans ?_
  obtain ⟨v, hv⟩ : ∃ v, v = doesV (P, [], [], []) ops 30 := ⟨_, rfl⟩
  have hok : VOk 70 v := by rw [hv]; exact doesV_ok h0 ho 30
  rw [← hv]
  clear hv h0
  rw [bind_of (changes_eqV hok (by decide))]
  have hnew : view_New_o v = some (v, ([], [], [])) := rfl
  simp only
  rw [bind_of hnew]
  simp only
  obtain ⟨M, hM⟩ : ∃ M, M = applyP v.1 (vals v.2.1) := ⟨_, rfl⟩
  have hMr : Rising M := by rw [hM]; exact applyP_rising _ _
  have hMl : M.length ≤ 140 := by
    have h1 := applyP_len v.1 (vals v.2.1)
    have h2 := hok.base.len
    have h3 := hok.own.len
    rw [hM]
    simp only [vals, List.length_map] at h1 ⊢
    omega
  have hM24 : ∀ p ∈ M, p.1.length = 24 := by rw [hM]; exact applyP_k24 hok.base.k24 (vals_k24 hok.own)
  have ht0 : VOk 140 ((M, [], [], []) : VT) := ⟨⟨hMr, hMl, hM24⟩, MOk.nil _, by simp, by simp, by simp, by simp⟩
  have hs0 : seen ((M, [], [], []) : VT) = seen v := by
    show updF (fn M) [] = seen v
    rw [updF_nil, fn_rising hMr, hM, mget_scan_all]
  refine (bind_of (does_eqR M ([], [], []) more 30 (by decide) v)).trans ?_
  refine (bind_of (does_eqV v more 30 (by decide))).trans ?_
  have htop : VOk 170 (doesV (M, [], [], []) more 30) := doesV_ok ht0 hm 30
  have hall : VOk 100 (doesV v more 30) := doesV_ok hok hm 30
  have hseen : seen (doesV (M, [], [], []) more 30) = seen (doesV v more 30) :=
    foldV_seen _ ht0 hok (fun o h => hm o (List.mem_of_mem_take h)) hs0
  have htop1 : (doesV (M, [], [], []) more 30).1 = M := (doesV_same (M, [], [], []) more 30).1
  obtain ⟨t, ht⟩ : ∃ t, t = doesV (M, [], [], []) more 30 := ⟨_, rfl⟩
  obtain ⟨w, hw⟩ : ∃ w, w = doesV v more 30 := ⟨_, rfl⟩
  rw [← ht] at htop hseen htop1 ⊢
  rw [← hw] at hall hseen ⊢
  clear ht hw
  obtain ⟨t1, u⟩ := t
  simp only at htop1
  subst htop1
  refine (bind_of (scan_eqR htop (hok.mono (by omega)) (by decide) allS)).trans ?_
  have hsa := scan_eq hall (by decide) allS
  rw [scan_all hall] at hsa
  refine (bind_of hsa).trans ?_
  refine bind_id ?_
  have hd : decide ((0 : Int) = 0) = true := by decide
  simp only [hd, cond_true]
  have e1 : applyP (scanP v allS) (vals (u.1.filter fun p => inS allS p.1)) = applyP w.1 (vals w.2.1) := by
    rw [scan_all hok, ← hM]
    have : u.1.filter (fun p => inS allS p.1) = u.1 := List.filter_eq_self.2 fun p hp => allS_in (htop.own.k24 p hp)
    rw [this]
    exact applyP_seen (v := (t1, u)) hseen
  have hlen : (applyP w.1 (vals w.2.1)).length ≤ 1000000 := by
    have h1 := applyP_len w.1 (vals w.2.1)
    have h2 := hall.base.len
    have h3 := hall.own.len
    simp only [vals, List.length_map] at h1 ⊢
    omega
  rw [e1, bind_of (same_eq _ _ hlen)]
  simp only [decide_true, cond_true]
  rw [bind_of (changes_eqV (hok.rd allS_ok) (by decide))]
  have hjl : (joinP (vals v.2.1)).length ≤ 1000000 := by
    have h1 := joinP_len (vals v.2.1)
    have h2 := hok.own.len
    simp only [vals, List.length_map] at h1 ⊢
    omega
  have e2 : vals (rdV v allS).2.1 = vals v.2.1 := rfl
  rw [e2]
  simp only
  rw [bind_of (sameChanges_eq _ _ hjl)]
  simp

end Go.Val

