/- What the twins are: the document's view; ViewPlays. -/
import Derived.Test.YtmibkdnmjjdelaaGreatTl
set_option linter.unusedSectionVars false
set_option linter.unusedVariables false
set_option linter.unusedSimpArgs false
namespace Go.Val
open Go.Lib

abbrev OpT := Int × Int × List UInt8 × ByteArray × (List UInt8 × List UInt8 × Bool)

def oneR (k : List UInt8) (v117 : Int × List UInt8) : Option ((Int × List UInt8) ⊕ (Unit ⊕ (List UInt8 × List UInt8 × Bool))) :=
      cond (decide (v117.1 ≥ 0)) (
        (ck (decide (0 ≤ v117.1 ∧ v117.1 < 24))).bind fun _ =>
        (gx v117.2 v117.1).bind fun x127 =>
        (ck (decide (v117.1.toNat < v117.2.length))).bind fun _ =>
        (ck (decide (0 ≤ (IntKind.wrap .u8 ((x127.toNat : Int) + 1)) ∧ (IntKind.wrap .u8 ((x127.toNat : Int) + 1)) < 256))).bind fun _ =>
        (gx (List.set v117.2 v117.1.toNat (UInt8.ofNat (IntKind.wrap .u8 ((x127.toNat : Int) + 1)).toNat)) v117.1).bind fun x136 =>
        cond (decide ((x136.toNat : Int) ≠ 0)) (
          some (.inr (.inr (k, (List.set v117.2 v117.1.toNat (UInt8.ofNat (IntKind.wrap .u8 ((x127.toNat : Int) + 1)).toNat)), false)))
        ) (
          some (.inl ((IntKind.wrap .i64 (v117.1 - 1)), (List.set v117.2 v117.1.toNat (UInt8.ofNat (IntKind.wrap .u8 ((x127.toNat : Int) + 1)).toNat))))
        )
      ) (
        some (.inr (.inl ()))
      )

theorem one_loopR (k : Ky) (hk : k.length = 24) : ∀ m : Nat, m ≤ 24 → k = k.take m ++ List.replicate (24 - m) 255 →
    ∃ o, whileO (oneR k) ((m : Int) - 1, k.take m ++ List.replicate (24 - m) 0) = some o ∧ (o = .inl () ∧ valK k + 1 = 256 ^ 24 ∨ ∃ s, o = .inr s ∧ OneS k s)
  | 0, _, h => by
    refine ⟨.inl (), ?_, .inl ⟨rfl, ?_⟩⟩
    · rw [whileO_eq]
      have : decide (((0 : Nat) : Int) - 1 ≥ 0) = false := by decide
      simp only [oneR, this, cond_false, Option.bind_some]
    · rw [h]
      simp only [List.take_zero, List.nil_append]
      exact valK_ff 24
  | n + 1, hm, h => by
    have hn : n < k.length := by omega
    obtain ⟨to, hto⟩ : ∃ to, to = k.take (n + 1) ++ List.replicate (24 - (n + 1)) (0 : UInt8) := ⟨_, rfl⟩
    have htl : to.length = 24 := by rw [hto]; simp; omega
    have hsplit : k.take (n + 1) = k.take n ++ [k[n]] := by rw [List.take_add_one]; simp [hn]
    have hset : ∀ y : UInt8, to.set n y = k.take n ++ y :: List.replicate (23 - n) 0 := by
      intro y
      rw [hto, hsplit]
      have hl : (k.take n).length = n := by simp; omega
      rw [List.append_assoc, List.set_append_right _ _ (by omega), hl]
      simp only [Nat.sub_self, List.singleton_append, List.set_cons_zero]
      rw [show 24 - (n + 1) = 23 - n by omega]
    have hget : to[n]? = some k[n] := by
      rw [hto, List.getElem?_append_left (by simp; omega), List.getElem?_take_of_lt (by omega), List.getElem?_eq_getElem hn]
    have hi : ((n + 1 : Nat) : Int) - 1 = (n : Int) := by omega
    rw [← hto, hi, whileO_eq]
    have hge : decide ((n : Int) ≥ 0) = true := by simp
    have hgx : gx to (n : Int) = some k[n] := by simp only [gx, Int.toNat_natCast, hget]; simp
    obtain ⟨y, hy⟩ : ∃ y, y = UInt8.ofNat ((k[n].toNat + 1) % 256) := ⟨_, rfl⟩
    have hyt : y.toNat = (k[n].toNat + 1) % 256 := by rw [hy]; exact u8_of _
    have hgx2 : gx (to.set n y) (n : Int) = some y := by
      simp only [gx, Int.toNat_natCast]
      rw [List.getElem?_set_self (by omega)]
      simp
    have hkn : k[n].toNat < 256 := k[n].toNat_lt
    have hb : oneR k ((n : Int), to) = cond (decide ((y.toNat : Int) ≠ 0)) (some (.inr (.inr (k, to.set n y, false)))) (some (.inl ((n : Int) - 1, to.set n y))) := by
      unfold oneR
      simp only [hge, cond_true]
      rw [bind_of (ck_of (by omega)), bind_of hgx, bind_of (ck_of (by simp only [Int.toNat_natCast]; omega))]
      simp only [wrap_u8, Int.toNat_natCast, ← hy]
      rw [bind_of (ck_of (by omega)), bind_of hgx2, wrap_pred (by omega)]
    rw [hb]
    by_cases h0 : y.toNat = 0
    · have hd : decide ((y.toNat : Int) ≠ 0) = false := by simp [h0]
      have hff : k[n] = 255 := by
        apply UInt8.toNat.inj
        show k[n].toNat = 255
        omega
      have hy0 : y = 0 := by
        apply UInt8.toNat.inj
        exact h0
      rw [hd, cond_false]
      have hto' : to.set n y = k.take n ++ List.replicate (24 - n) 0 := by
        rw [hset, hy0, show 24 - n = (23 - n) + 1 by omega, List.replicate_succ]
      rw [hto']
      refine one_loopR k hk n (by omega) ?_
      have : List.replicate (24 - n) (255 : UInt8) = k[n] :: List.replicate (24 - (n + 1)) 255 := by
        rw [hff, show 24 - n = (24 - (n + 1)) + 1 by omega, List.replicate_succ]
      rw [this]
      have h' := h
      rw [hsplit, List.append_assoc, List.singleton_append] at h'
      exact h'
    · have hd : decide ((y.toNat : Int) ≠ 0) = true := decide_eq_true (by omega)
      rw [hd, cond_true]
      refine ⟨_, rfl, .inr ⟨_, rfl, rfl, by simp only [List.length_set]; exact htl, .inl ⟨rfl, ?_⟩⟩⟩
      simp only
      rw [hset]
      have h' := h
      rw [hsplit, List.append_assoc, List.singleton_append] at h'
      have hv : valK k = valK (k.take n ++ k[n] :: List.replicate (24 - (n + 1)) 255) := congrArg valK h'
      rw [hv, valK_append, valK_append]
      simp only [valK, List.length_cons, List.length_replicate, valK_zero]
      have hf := valK_ff (24 - (n + 1))
      rw [show 24 - (n + 1) = 23 - n by omega] at hf ⊢
      have hyk : y.toNat = k[n].toNat + 1 := by omega
      rw [hyk, Nat.add_mul]
      omega

theorem refOne_ex (k : Ky) (hk : k.length = 24) : ∃ s, ref03_One k = some s ∧ OneS k s := by
  obtain ⟨o, h1, h2⟩ := one_loopR k hk 24 (Nat.le_refl _) (by
    have : k.take 24 = k := List.take_of_length_le (by omega)
    rw [this]
    simp)
  have e : (k.take 24 ++ List.replicate (24 - 24) (0 : UInt8)) = k := by
    rw [List.take_of_length_le (by omega)]
    simp
  rw [e] at h1
  unfold ref03_One
  rcases h2 with ⟨rfl, h3⟩ | ⟨s, rfl, h3⟩
  · exact ⟨_, (bind_of h1).trans rfl, rfl, by simp [zK], .inr ⟨rfl, rfl, h3⟩⟩
  · exact ⟨s, (bind_of h1).trans rfl, h3⟩

theorem foldl_keep {α : Type} (p : α → Bool) (l : List α) : ∀ s : List α, l.foldl (fun o x => if p x = true then o ++ [x] else o) s = s ++ l.filter p := by
  induction l with
  | nil => intro s; simp
  | cons x l ih =>
    intro s
    rw [List.foldl_cons, ih]
    cases h : p x <;> simp [h]

abbrev WT := List Pr × List Cg × List Sp × List (List Cg)
/-- The document's view of a view. -/
def refV (v : VT) : WT := (v.1, joinP (vals v.2.1), v.2.2.1, v.2.2.2.map fun m => joinP (vals m))

theorem sameS_eq (x y : List Sp) (hl : x.length ≤ 1000000) : ref08_Same x y = some (decide (x = y)) := by
  unfold ref08_Same
  by_cases h : x.length = y.length
  · have : decide ((x.length : Int) ≠ (y.length : Int)) = false := by simp [h]
    rw [this, cond_false]
    refine row_same x y h (fun i hx hy => ?_) ?_
    · simp only [ilt hx, cond_true, gx_nat hx, gx_nat hy, Option.bind_some, wrap_succ (show i < 9223372036854775807 by omega)]
      by_cases he : x[i] = y[i]
      · simp [he]
      · have : ¬ (x[i].1 = y[i].1 ∧ x[i].2.1 = y[i].2.1 ∧ x[i].2.2 = y[i].2.2) := fun ⟨a, b, c⟩ => he (Prod.ext a (Prod.ext b c))
        by_cases ha : x[i].1 = y[i].1
        · by_cases hb : x[i].2.1 = y[i].2.1
          · have hc : ¬ x[i].2.2 = y[i].2.2 := fun c => this ⟨ha, hb, c⟩
            have hd : (x[i].2.2 == y[i].2.2) = false := by simpa using hc
            simp [he, ha, hb, hd]
          · simp [he, ha, hb]
        · simp [he, ha]
    · simp only [ige, cond_false]
  · have h1 : decide ((x.length : Int) ≠ (y.length : Int)) = true := by simp; omega
    rw [h1, cond_true]
    have : ¬ x = y := fun e => h (by rw [e])
    simp [this]

theorem joinV_len {n : Nat} {m : VM} (h : MOk n m) : (joinP (vals m)).length ≤ n := by
  have h1 := joinP_len (vals m)
  have h2 := h.len
  simp only [vals, List.length_map] at h1 ⊢
  omega
/-- The changes of a map with one more. -/
theorem joinV_set {n : Nat} {m : VM} (h : MOk n m) {c : Cg} (hn : normC c = c) : joinP (joinP (vals m) ++ [c]) = joinP (vals (mset m c.1 c)) := by
  refine rising_ext (joinP_rising _) (joinP_rising _) fun k => ?_
  have ho : OwnKey (mset m c.1 c) := fun p hp => by
    rcases mem_mset hp with e | e
    · rw [e]
    · exact h.own p e
  have hnd : ((mset m c.1 c).map (·.1)).Nodup := nodup_mset h.nd c.1 c
  have hnv : ((vals (mset m c.1 c)).map (·.1)).Nodup := by rw [vals_keys ho]; exact hnd
  have hnv0 : ((vals m).map (·.1)).Nodup := by rw [vals_keys h.own]; exact h.nd
  have hce : normE c.2 = c.2 := by rw [← normC_val, hn]
  rw [mget_joinP, mget_joinP, List.reverse_append, List.reverse_singleton, List.singleton_append, mget_cons, mget_rev (joinP_rising _).nodup, mget_joinP, mget_rev hnv0, mget_rev hnv, mget_vals ho hnd, mget_vals h.own h.nd, mget_mset]
  by_cases e : k = c.1
  · simp [e]
  · simp only [e, if_false]
    cases mget m k with
    | none => rfl
    | some d => simp only [Option.map_some]; rw [normE_idem]

theorem refPut_eq {n : Nat} {v : VT} (hv : VOk n v) (hn : n ≤ 900) (k : Ky) (x : ByteArray) : ref12_View_Put (refV v) k x = some (if badV x = true then (1, refV v) else (0, refV (setV v k (k, x, false)))) := by
  unfold ref12_View_Put
  have hbad : ((cond (decide ((x.size : Int) < 1)) (some true) (some (decide ((x.size : Int) > 40)))) : Option Bool) = some (badV x) := by
    unfold badV
    by_cases h : x = ByteArray.mk #[]
    · subst h; rfl
    · have h0 : ¬ (x.size : Int) < 1 := by
        intro q
        have hz : x.data.size = 0 := by
          have : x.size = x.data.size := rfl
          omega
        exact h (by
          obtain ⟨d⟩ := x
          have : d = #[] := Array.eq_empty_of_size_eq_zero hz
          rw [this])
      simp [h, h0]
  rw [bind_of hbad]
  by_cases hb : badV x = true
  · simp [hb]
  · have hb' : badV x = false := by simpa using hb
    rw [hb']
    simp only [cond_false, Bool.false_eq_true, if_false]
    have hl := joinV_len hv.own
    rw [bind_of (refJoin2_eq (refV v).2.1 [(k, x, false)] (by show (joinP (vals v.2.1)).length ≤ 1000; omega) (by simp))]
    have := joinV_set hv.own (c := (k, x, false)) rfl
    show some ((0 : Int), _) = _
    simp only [refV, setV]
    rw [this]
theorem refDelete_eq {n : Nat} {v : VT} (hv : VOk n v) (hn : n ≤ 900) (k : Ky) : ref12_View_Delete (refV v) k = some (refV (setV v k (k, mt, true))) := by
  unfold ref12_View_Delete
  refine bind_id ?_
  have hl := joinV_len hv.own
  rw [bind_of (refJoin2_eq (refV v).2.1 [(k, (ByteArray.mk #[]), true)] (by show (joinP (vals v.2.1)).length ≤ 1000; omega) (by simp))]
  have := joinV_set hv.own (c := (k, mt, true)) rfl
  simp only [refV, setV]
  rw [← this]
  rfl

theorem refMapV_eq {n : Nat} {v : VT} (hv : VOk n v) (hn : n ≤ 900) (r : List Sp) : ref12_View_Map (v.1, joinP (vals v.2.1), r, v.2.2.2.map fun m => joinP (vals m)) = some (applyP v.1 (vals v.2.1), (v.1, joinP (vals v.2.1), r, v.2.2.2.map fun m => joinP (vals m))) := by
  unfold ref12_View_Map
  have hl := joinV_len hv.own
  have hb := hv.base.len
  rw [bind_of (refApply_eq v.1 (joinP (vals v.2.1)) (by omega) (by omega))]
  have : applyP v.1 (joinP (vals v.2.1)) = applyP v.1 (vals v.2.1) := rising_ext (applyP_rising _ _) (applyP_rising _ _) fun k => by rw [mget_applyP, mget_applyP, updF_joinP]
  rw [this]

theorem mget_filter {β : Type} (l : List (Ky × β)) (p : Ky → Bool) (k : Ky) : mget (l.filter fun q => p q.1) k = if p k = true then mget l k else none := by
  induction l with
  | nil => simp [mget_nil]
  | cons a l ih =>
    by_cases hp : p a.1 = true
    · rw [List.filter_cons_of_pos (p := fun q : Ky × β => p q.1) hp, mget_cons, mget_cons, ih]
      by_cases e : k = a.1
      · subst e; simp [hp]
      · simp [e]
    · rw [List.filter_cons_of_neg (p := fun q : Ky × β => p q.1) hp, ih, mget_cons]
      by_cases e : k = a.1
      · subst e; simp [hp]
      · simp [e]
theorem filter_rising {β : Type} {l : List (Ky × β)} (h : Rising l) (p : Ky × β → Bool) : Rising (l.filter p) := List.Pairwise.sublist (List.Sublist.map _ List.filter_sublist) h

theorem refIn12_eq (l : List Pr) (s : Sp) (hl : l.length ≤ 1000000) : ref12_In l s = some (l.filter fun p => inS s p.1) := by
  unfold ref12_In
  refine bind_id ((whileO_for l (fun i (o : List Pr) => ((i : Int), o)) (fun o p => if inS s p.1 = true then o ++ [p] else o) (fun i o => o.length ≤ i) id [] (by simp) (fun i hi o ho => ?_) (fun o _ => ?_)).trans ?_)
  · simp only [ilt hi, cond_true, gx_nat hi, Option.bind_some, refIn_eq, wrap_succ (show i < 9223372036854775807 by omega)]
    cases hq : inS s l[i].1 with
    | true =>
      have hf : fits (o.length + ([l[i]]).length) 40 = some () := fits_of (by simp only [List.length_cons, List.length_nil]; omega)
      simp only [cond_true, hf, Option.bind_some, if_true]
      exact ⟨trivial, by simp; omega⟩
    | false =>
      simp only [cond_false, Option.bind_some, Bool.false_eq_true, if_false]
      exact ⟨trivial, by omega⟩
  · simp only [ige, cond_false, id]
  · have := foldl_keep (fun p : Pr => inS s p.1) l []
    simp only [id]
    rw [this]
    simp

/-- What is scanned is what is seen in the span. -/
theorem scanP_eq {n : Nat} {v : VT} (hv : VOk n v) (s : Sp) : scanP v s = (applyP v.1 (vals v.2.1)).filter fun p => inS s p.1 := by
  refine rising_ext (applyP_rising _ _) (filter_rising (applyP_rising _ _) _) fun k => ?_
  unfold scanP
  have hb := hv.base.rise
  have hbf := filter_rising hb (fun p => inS s p.1)
  obtain ⟨q1, q2⟩ := filter_own hv.own (fun p => inS s p.1)
  have hnv : ((vals (v.2.1.filter fun p => inS s p.1)).map (·.1)).Nodup := by rw [vals_keys q1]; exact q2
  have hnv0 : ((vals v.2.1).map (·.1)).Nodup := by rw [vals_keys hv.own.own]; exact hv.own.nd
  rw [mget_applyP, updF_nodup hnv, mget_vals q1 q2, mget_filter v.2.1 (inS s), fn_rising hbf, mget_filter (applyP v.1 (vals v.2.1)) (inS s), mget_applyP, updF_nodup hnv0, mget_vals hv.own.own hv.own.nd, fn_rising hb, mget_filter v.1 (inS s)]
  cases inS s k <;> simp

theorem refScan_eq {n : Nat} {v : VT} (hv : VOk n v) (hn : n ≤ 900) {s : Sp} (hs : spOk s) : ref12_View_Scan (refV v) s = some (scanP v s, refV (rdV v s)) := by
  unfold ref12_View_Scan
  have hr := hv.rlen
  have e : (refV v).2.2.1 = v.2.2.1 := rfl
  rw [e, bind_of (fits_of (by simp; omega)), bind_of (fits_of (by simp; omega))]
  simp only [List.nil_append]
  have hok : ∀ t ∈ v.2.2.1 ++ [s], spOk t := by
    intro t ht
    rcases List.mem_append.1 ht with ht | ht
    · exact hv.rok t ht
    · rw [List.mem_singleton] at ht; rw [ht]; exact hs
  rw [bind_of (refClean_eq _ hok (by simp; omega))]
  refine (bind_of (refMapV_eq hv hn (cleanP (v.2.2.1 ++ [s])))).trans ?_
  simp only
  have hl := applyP_len v.1 (vals v.2.1)
  have hb := hv.base.len
  have ho := hv.own.len
  rw [bind_of (refIn12_eq _ s (by simp only [vals, List.length_map] at hl ⊢; omega)), ← scanP_eq hv s]
  rfl

theorem refOwn_eq (w : WT) (k : Ky) (hl : w.2.1.length ≤ 1000000) : ref12_View_own w k = some ((mget w.2.1 k).isSome, w) := by
  unfold ref12_View_own
  obtain ⟨w1, w2, w3, w4⟩ := w
  simp only at hl
  have hstep : ∀ i (hi : i < w2.length), w2[i].1 ≠ k → (fun v57 : Int × WT =>
      cond (decide (v57.1 < (v57.2.2.1.length : Int))) (
        (gx v57.2.2.1 v57.1).bind fun x64 =>
        cond (decide (x64.1 = k)) (
          some (.inr (.inr (true, (v57.2.1, v57.2.2.1, v57.2.2.2.1, v57.2.2.2.2))) : (Int × WT) ⊕ (WT ⊕ (Bool × WT)))
        ) (
          some (.inl ((IntKind.wrap .i64 (v57.1 + 1)), (v57.2.1, v57.2.2.1, v57.2.2.2.1, v57.2.2.2.2)))
        )
      ) (
        some (.inr (.inl (v57.2.1, v57.2.2.1, v57.2.2.2.1, v57.2.2.2.2)))
      )) ((i : Int), (w1, w2, w3, w4)) = some (.inl (((i + 1 : Nat) : Int), (w1, w2, w3, w4))) := by
    intro i hi hne
    have hd : decide (w2[i].1 = k) = false := decide_eq_false hne
    simp only [ilt hi, cond_true, gx_nat hi, Option.bind_some, hd, cond_false, wrap_succ (show i < 9223372036854775807 by omega)]
  obtain ⟨j, hj⟩ : ∃ j, j = w2.findIdx fun c => decide (c.1 = k) := ⟨_, rfl⟩
  have hjl : j ≤ w2.length := by rw [hj]; exact List.findIdx_le_length
  have hbef : ∀ i (hi : i < j) (hl' : i < w2.length), w2[i].1 ≠ k := by
    intro i hi hl' e
    have := List.not_of_lt_findIdx (p := fun c : Cg => decide (c.1 = k)) (xs := w2) (i := i) (by rw [← hj]; exact hi)
    simp [e] at this
  by_cases h : j < w2.length
  · have hk : w2[j].1 = k := by
      have := List.findIdx_getElem (p := fun c : Cg => decide (c.1 = k)) (xs := w2) (w := by rw [← hj]; exact h)
      simp only [← hj] at this
      simpa using this
    refine (bind_of (whileO_run (o := .inr (true, (w1, w2, w3, w4))) (fun i => ((i : Int), (w1, w2, w3, w4))) j (fun i hi => hstep i (by omega) (hbef i hi (by omega))) ?_)).trans ?_
    · have hd : decide (w2[j].1 = k) = true := decide_eq_true hk
      simp only [ilt h, cond_true, gx_nat h, Option.bind_some, hd]
    · have : (mget w2 k).isSome = true := mget_isSome.2 (List.mem_map.2 ⟨_, List.getElem_mem h, hk⟩)
      simp only [Sum.elim_inr, this]
  · have e : j = w2.length := by omega
    refine (bind_of (whileO_run (o := .inl (w1, w2, w3, w4)) (fun i => ((i : Int), (w1, w2, w3, w4))) w2.length (fun i hi => hstep i hi (hbef i (by omega) hi)) ?_)).trans ?_
    · simp only [ige, cond_false]
    · have : mget w2 k = none := by
        rw [mget_none]
        intro hm
        obtain ⟨c, hc, hck⟩ := List.mem_map.1 hm
        obtain ⟨i, hi, rfl⟩ := List.getElem_of_mem hc
        exact hbef i (by omega) hi hck
      simp only [Sum.elim_inl, this]
      rfl

theorem refGet_eq {n : Nat} {v : VT} (hv : VOk n v) (hn : n ≤ 900) {k : Ky} (hk : k.length = 24) : ∃ (x : ByteArray) (b : Bool) (v' : VT), VOk (n + 1) v' ∧ view_View_Get v k = some (x, b, 0, v') ∧ ref12_View_Get (refV v) k = some (x, b, refV v') := by
  have hl := joinV_len hv.own
  have hr := hv.rlen
  have hb := hv.base.len
  have ho := hv.own.len
  have hnv0 : ((vals v.2.1).map (·.1)).Nodup := by rw [vals_keys hv.own.own]; exact hv.own.nd
  have hmg : mget (joinP (vals v.2.1)) k = (mget v.2.1 k).map fun c => c.2 := by
    rw [mget_joinP, mget_rev hnv0, mget_vals hv.own.own hv.own.nd]
    cases hg : mget v.2.1 k with
    | none => rfl
    | some c =>
      simp only [Option.map_some]
      have := hv.own.norm (k, c) (mget_some_mem hg)
      simp only at this
      rw [← normC_val, this]
  have hown : ref12_View_own (refV v) k = some ((mget v.2.1 k).isSome, refV v) := by
    rw [refOwn_eq (refV v) k (by show (joinP (vals v.2.1)).length ≤ 1000000; omega)]
    show some ((mget (joinP (vals v.2.1)) k).isSome, _) = _
    rw [hmg]
    cases mget v.2.1 k <;> rfl
  have hal : (applyP v.1 (vals v.2.1)).length ≤ 1000000 := by
    have h1 := applyP_len v.1 (vals v.2.1)
    simp only [vals, List.length_map] at h1 ⊢
    omega
  have hget := get_eq (applyP_rising v.1 (vals v.2.1)) k hal
  rw [mget_applyP, updF_nodup hnv0, mget_vals hv.own.own hv.own.nd] at hget
  cases hg : mget v.2.1 k with
  | some c =>
    refine ⟨c.2.1, !c.2.2, v, hv.mono (by omega), get_own v k hg, ?_⟩
    unfold ref12_View_Get
    rw [bind_of hown, hg]
    simp only [Option.isSome_some, Bool.not_true, cond_false, Option.bind_some]
    refine (bind_of (refMapV_eq hv hn v.2.2.1)).trans ?_
    simp only
    rw [hg] at hget
    simp only [Option.map_some] at hget
    rw [bind_of hget]
    have hnorm := hv.own.norm (k, c) (mget_some_mem hg)
    simp only at hnorm
    obtain ⟨c1, c2, c3⟩ := c
    cases c3 with
    | false => rfl
    | true =>
      have : c2 = mt := by
        have := congrArg (fun q : Cg => q.2.1) hnorm
        simp [normC] at this
        exact this.symm
      subst this
      rfl
  | none =>
    obtain ⟨s, hs1, hs2⟩ := keyOne_ex k hk
    obtain ⟨s', hs3, hs4⟩ := refOne_ex k hk
    have e := hs4.unique hs2
    subst e
    have hok : ∀ t ∈ v.2.2.1 ++ [s'], spOk t := by
      intro t ht
      rcases List.mem_append.1 ht with ht | ht
      · exact hv.rok t ht
      · rw [List.mem_singleton] at ht; rw [ht]; exact hs2.ok hk
    refine ⟨(mget v.1 k).getD mt, (mget v.1 k).isSome, rdV v s', hv.rd (hs2.ok hk), get_base hv (by omega) k hs1 hg, ?_⟩
    unfold ref12_View_Get
    rw [bind_of hown, hg]
    simp only [Option.isSome_none, Bool.not_false, cond_true]
    have e1 : (refV v).2.2.1 = v.2.2.1 := rfl
    rw [e1]
    have hblk : ((fits (([] : List Sp).length + v.2.2.1.length) 49).bind fun _ =>
      (ref03_One k).bind fun x28 =>
      (fits ((([] : List Sp) ++ v.2.2.1).length + ([x28]).length) 49).bind fun _ =>
      (ref08_Clean ((([] : List Sp) ++ v.2.2.1) ++ [x28])).bind fun x34 =>
      some ((refV v).1, (refV v).2.1, x34, (refV v).2.2.2)) = some (refV (rdV v s')) := by
      rw [bind_of (fits_of (by simp; omega)), bind_of hs3, bind_of (fits_of (by simp; omega))]
      simp only [List.nil_append]
      rw [bind_of (refClean_eq _ hok (by simp; omega))]
      rfl
    rw [bind_of hblk]
    refine (bind_of (refMapV_eq hv hn (cleanP (v.2.2.1 ++ [s'])))).trans ?_
    simp only
    rw [hg] at hget
    simp only [Option.map_none] at hget
    rw [fn_rising hv.base.rise] at hget
    rw [bind_of hget]
    rfl

theorem refMark_eq {n : Nat} {v : VT} (hv : VOk n v) (hn : n ≤ 900) : ref12_View_Mark (refV v) = some ((v.2.2.2.length : Int), refV (v.1, v.2.1, v.2.2.1, v.2.2.2 ++ [v.2.1])) := by
  unfold ref12_View_Mark
  have hm := hv.mlen
  have e : (refV v).2.2.2 = v.2.2.2.map fun m => joinP (vals m) := rfl
  rw [e, bind_of (fits_of (by simp; omega)), bind_of (fits_of (by simp; omega))]
  have : IntKind.wrap .i64 ((((([] : List (List Cg)) ++ v.2.2.2.map fun m => joinP (vals m)) ++ [(refV v).2.1]).length : Int) - 1) = (v.2.2.2.length : Int) := by
    rw [wrap_i64 (by simp; omega)]
    simp
  rw [this]
  simp only [refV, List.nil_append, List.map_append, List.map_singleton]
theorem refBack_bad (w : WT) {n : Int} (h : n < 0 ∨ (w.2.2.2.length : Int) ≤ n) : ref12_View_Back w n = some (1, w) := by
  unfold ref12_View_Back
  by_cases h1 : n < 0
  · simp [h1]
  · have h2 : n ≥ (w.2.2.2.length : Int) := by omega
    simp [h1, h2]
theorem refBack_ok {v : VT} {i : Nat} (h : i < v.2.2.2.length) (hl : v.2.2.2.length ≤ 1000000) : ref12_View_Back (refV v) (i : Int) = some (0, refV (v.1, v.2.2.2[i], v.2.2.1, v.2.2.2.take (i + 1))) := by
  unfold ref12_View_Back
  have e : (refV v).2.2.2 = v.2.2.2.map fun m => joinP (vals m) := rfl
  have hlen : (v.2.2.2.map fun m => joinP (vals m)).length = v.2.2.2.length := List.length_map _
  have h1 : decide ((i : Int) < 0) = false := decide_eq_false (by omega)
  have h2 : decide ((i : Int) ≥ ((v.2.2.2.map fun m => joinP (vals m)).length : Int)) = false := decide_eq_false (by rw [hlen]; omega)
  rw [e]
  simp only [h1, h2, cond_false, Option.bind_some]
  rw [bind_of (gx_nat (by rw [hlen]; exact h)), wrap_succ (by omega), bind_of (cutB_of (by rw [hlen]; omega))]
  simp only [refV, piece, Int.toNat_natCast, List.getElem_map, List.map_take]
  rfl

/-- A step leaves both views alike. -/
theorem same_ok {n : Nat} {v : VT} (hv : VOk n v) (hn : n ≤ 800) (o : OpT) (hk : o.2.2.1.length = 24) (hs : spOk o.2.2.2.2) : ∃ v', VOk (n + 1) v' ∧ law12_same v (refV v) o = some (true, v', refV v') := by
  unfold law12_same
  rw [bind_of (cutB_of (by omega))]
  by_cases h1 : o.1 = 1
  · simp only [h1, decide_true, cond_true]
    rw [bind_of (put_eqV v _ _), bind_of (refPut_eq hv (by omega) _ _)]
    by_cases hb : badV (o.2.2.2.1.extract 0 (min (o.2.2.2.1.size : Int) 50).toNat) = true
    · rw [if_pos hb, if_pos hb]
      exact ⟨v, hv.mono (by omega), rfl⟩
    · rw [if_neg hb, if_neg hb]
      exact ⟨setV v o.2.2.1 (o.2.2.1, o.2.2.2.1.extract 0 (min (o.2.2.2.1.size : Int) 50).toNat, false), hv.set (k := o.2.2.1) (c := (o.2.2.1, o.2.2.2.1.extract 0 (min (o.2.2.2.1.size : Int) 50).toNat, false)) rfl hk rfl, rfl⟩
  · simp only [h1, decide_false, cond_false]
    by_cases h2 : o.1 = 2
    · simp only [h2, decide_true, cond_true]
      rw [bind_of (refDelete_eq hv (by omega) _), bind_of (delete_eqV v _)]
      exact ⟨setV v o.2.2.1 (o.2.2.1, mt, true), hv.set (k := o.2.2.1) (c := (o.2.2.1, mt, true)) rfl hk rfl, rfl⟩
    · simp only [h2, decide_false, cond_false]
      by_cases h3 : o.1 = 3
      · simp only [h3, decide_true, cond_true]
        rw [bind_of (scan_eq hv (by omega) _)]
        have hd : decide ((0 : Int) = 0) = true := by decide
        have hl : (scanP v o.2.2.2.2).length ≤ 1000000 := by
          rw [scanP_eq hv]
          have h5 := List.length_filter_le (fun p : Pr => inS o.2.2.2.2 p.1) (applyP v.1 (vals v.2.1))
          have h6 := applyP_len v.1 (vals v.2.1)
          have h7 := hv.base.len
          have h8 := hv.own.len
          simp only [vals, List.length_map] at h5 h6 ⊢
          omega
        simp only [hd, decide_true, cond_true]
        have hsame : ((ref12_View_Scan (refV v) o.2.2.2.2).bind fun x166 => (ref09_Same (scanP v o.2.2.2.2) x166.1).bind fun x169 => some (x169, x166.2)) = some (true, refV (rdV v o.2.2.2.2)) := by
          rw [bind_of (refScan_eq hv (by omega) hs), bind_of (same_eq _ _ hl)]
          simp
        rw [bind_of hsame]
        obtain ⟨_, _, hloop⟩ := whileO_inv (V := Int × List Pr) (O := Unit) (S := List Pr) (body := fun v213 =>
              cond (decide (v213.1 < (v213.2.length : Int))) (
                (gx v213.2 v213.1).bind fun x220 =>
                some (.inl ((IntKind.wrap .i64 (v213.1 + 1)), (List.set v213.2 v213.1.toNat (x220.1, (ByteArray.mk #[63])))))
              ) (
                some (.inr ())
              )) (scanP v o.2.2.2.2).length (fun i l => ((i : Int), l)) (fun _ l => l.length = (scanP v o.2.2.2.2).length) (fun _ => ()) (scanP v o.2.2.2.2) rfl (fun i hi l hJ => by
            have hi' : i < l.length := by omega
            simp only [ilt hi', cond_true, gx_nat hi', Option.bind_some, wrap_succ (show i < 9223372036854775807 by omega)]
            exact ⟨_, rfl, by simp [hJ]⟩) (fun l hJ => by
            simp only [← hJ, ige, cond_false])
        refine ⟨rdV v o.2.2.2.2, hv.rd hs, ?_⟩
        refine (congrArg (fun q => Option.bind q _) (bind_of hloop)).trans ?_
        rfl
      · simp only [h3, decide_false, cond_false]
        by_cases h4 : o.1 = 4
        · simp only [h4, decide_true, cond_true]
          have hm := hv.mlen
          rw [bind_of (mark_eq v (by omega)), bind_of (refMark_eq hv (by omega))]
          refine ⟨(v.1, v.2.1, v.2.2.1, v.2.2.2 ++ [v.2.1]), ⟨hv.base.mono (by omega), hv.own.mono (by omega), Nat.le_trans hv.rlen (by omega), hv.rok, by simp; exact hm, fun m hmm => ?_⟩, ?_⟩
          · rcases List.mem_append.1 hmm with q | q
            · exact (hv.mok m q).mono (by omega)
            · rw [List.mem_singleton] at q
              rw [q]; exact hv.own.mono (by omega)
          · simp
        · simp only [h4, decide_false, cond_false]
          by_cases h5 : o.1 = 5
          · simp only [h5, decide_true, cond_true]
            have hm := hv.mlen
            have hrl : (refV v).2.2.2.length = v.2.2.2.length := List.length_map _
            by_cases hb : o.2.1 < 0 ∨ (v.2.2.2.length : Int) ≤ o.2.1
            · rw [bind_of (back_bad v hb), bind_of (refBack_bad (refV v) (by rw [hrl]; exact hb))]
              exact ⟨v, hv.mono (by omega), rfl⟩
            · obtain ⟨i, hi⟩ : ∃ i : Nat, o.2.1 = (i : Int) := ⟨o.2.1.toNat, by omega⟩
              have hil : i < v.2.2.2.length := by omega
              rw [hi, bind_of (back_ok v hil (by omega)), bind_of (refBack_ok hil (by omega))]
              refine ⟨(v.1, v.2.2.2[i], v.2.2.1, v.2.2.2.take (i + 1)), ⟨hv.base.mono (by omega), (hv.mok _ (List.getElem_mem hil)).mono (by omega), Nat.le_trans hv.rlen (by omega), hv.rok, by simp; omega, fun m hmm => (hv.mok m (List.mem_of_mem_take hmm)).mono (by omega)⟩, ?_⟩
              simp
          · simp only [h5, decide_false, cond_false]
            obtain ⟨x, b, v', q1, q2, q3⟩ := refGet_eq hv (by omega) hk
            refine ⟨v', q1, ?_⟩
            simp only [Option.bind_some, Sum.elim_inl]
            rw [bind_of q2, bind_of q3]
            simp

theorem newPlainA_eq (l : List Pr) (hl : l.length ≤ 1000000) : view_NewPlain_a l = some (mapP l, l) := by
  unfold view_NewPlain_a delta_Map_a
  have h := map_eq l hl
  unfold delta_Map at h
  rw [Option.bind_eq_some_iff] at h
  obtain ⟨x, hx, h⟩ := h
  rw [bind_of hx]
  rw [Option.bind_eq_some_iff] at h
  obtain ⟨y, hy, h⟩ := h
  rw [bind_of hy]
  have e := Option.some.inj h
  show some (y.1, l) = _
  rw [e]
theorem refNewA_eq (l : List Pr) (hl : l.length ≤ 1000000) : ref12_New_a l = some ((mapP l, [], [], []), l) := by
  unfold ref12_New_a ref09_Map_a
  have h := refMap_eq l hl
  unfold ref09_Map at h
  rw [Option.bind_eq_some_iff] at h
  obtain ⟨x, hx, h⟩ := h
  rw [hx]
  have e := Option.some.inj h
  show some ((x, ([] : List Cg), ([] : List Sp), ([] : List (List Cg))), l) = _
  rw [e]

/-- A row that is written over, and not looked at again. -/
theorem over_eq {α : Type} {body : Int × List α → Option ((Int × List α) ⊕ Unit)} (l : List α) (hb1 : ∀ (i : Nat) (r : List α), r.length = l.length → i < l.length → ∃ r', r'.length = l.length ∧ body ((i : Int), r) = some (.inl (((i + 1 : Nat) : Int), r')))
    (hb2 : ∀ r : List α, r.length = l.length → body ((l.length : Int), r) = some (.inr ())) : whileO body (0, l) = some () := by
  obtain ⟨_, _, h⟩ := whileO_inv (body := body) l.length (fun i r => ((i : Int), r)) (fun _ r => r.length = l.length) (fun _ => ()) l rfl (fun i hi r hr => by
    obtain ⟨r', h1, h2⟩ := hb1 i r hr hi
    exact ⟨r', h2, h1⟩) (fun r hr => hb2 r hr)
  exact h

theorem viewPlays_true (l : List Pr) (ops : List OpT) (hl : ∀ p ∈ l, p.1.length = 24) (ho : ∀ o ∈ ops, o.2.2.1.length = 24 ∧ spOk o.2.2.2.2) : law12_ViewPlays l ops = some true := by
  unfold law12_ViewPlays
  have hcl := cutP_len l
  rw [bind_of shown_eq, bind_of (cut_eq l), bind_of (newPlainA_eq _ (by omega))]
  simp only [Bool.not_true, cond_false, Option.bind_some]
  have h0 : VOk 40 ((mapP (cutP l), [], [], []) : VT) := newV_ok hcl (cutP_k24 hl)
  rw [bind_of (over_eq (cutP l) (fun i r hr hi => by
    have hi' : i < r.length := by omega
    refine ⟨r.set i (r[i].1, ByteArray.mk #[63]), by simp [hr], ?_⟩
    simp only [ilt hi', cond_true, gx_nat hi', Option.bind_some, wrap_succ (show i < 9223372036854775807 by omega), Int.toNat_natCast]) (fun r hr => by
    simp only [← hr, ige, cond_false]))]
  rw [bind_of (new_eq _), bind_of (refNewA_eq _ (by omega))]
  have hlen : view_Plain_Len (mapP (cutP l)) = some ((mapP (cutP l)).length : Int) := rfl
  rw [bind_of hlen]
  have hd : decide (((mapP (cutP l)).length : Int) ≠ ((mapP (cutP l)).length : Int)) = false := by simp
  simp only [hd, cond_false]
  obtain ⟨P, hP⟩ : ∃ P, P = mapP (cutP l) := ⟨_, rfl⟩
  rw [← hP] at h0 ⊢
  clear hP
  obtain ⟨N, hN⟩ : ∃ N, N = min ops.length 60 := ⟨_, rfl⟩
  obtain ⟨v, hv, hw⟩ := whileO_inv (V := Int × VT × WT) (O := Unit ⊕ Bool) (S := VT) (body := fun v1789 =>
          (((
            cond (decide (v1789.1 < (ops.length : Int))) (
              some (decide (v1789.1 < 60))
            ) (
              some false
            )
          ) : Option Bool)).bind fun o1796 =>
          cond o1796 (
            (((
              (gx ops v1789.1).bind fun x1966 =>
              (law12_same v1789.2.1 v1789.2.2 x1966).bind fun x1969 =>
              (view_View_Reads x1969.2.1).bind fun x1972 =>
              (view_View_Changes x1972.2).bind fun x1975 =>
              (((
                (ref08_Same x1972.1 x1969.2.2.2.2.1).bind fun x1993 =>
                cond x1993 (
                  (ref09_SameChanges x1975.1 x1969.2.2.2.1).bind fun x1999 =>
                  some x1999
                ) (
                  some false
                )
              ) : Option Bool)).bind fun o1990 =>
              (((
                whileO (V := (Int × (List Sp))) (O := Unit) (fun v2043 =>
                  cond (decide (v2043.1 < (v2043.2.length : Int))) (
                    (gx v2043.2 v2043.1).bind fun x2050 =>
                    some (.inl ((IntKind.wrap .i64 (v2043.1 + 1)), (List.set v2043.2 v2043.1.toNat (x2050.1, x2050.2.1, (!x2050.2.2)))))
                  ) (
                    some (.inr ())
                  )
                ) (0, x1972.1)
              ) : Option Unit)).bind fun o2026 =>
              (((
                whileO (V := (Int × (List Cg))) (O := Unit) (fun v2094 =>
                  cond (decide (v2094.1 < (v2094.2.length : Int))) (
                    (gx v2094.2 v2094.1).bind fun x2101 =>
                    some (.inl ((IntKind.wrap .i64 (v2094.1 + 1)), (List.set v2094.2 v2094.1.toNat (x2101.1, x2101.2.1, (!x2101.2.2)))))
                  ) (
                    some (.inr ())
                  )
                ) (0, x1975.1)
              ) : Option Unit)).bind fun o2077 =>
              (((
                cond (!x1969.1) (
                  some true
                ) (
                  some (!o1990)
                )
              ) : Option Bool)).bind fun o2107 =>
              cond o2107 (
                some (.inr false)
              ) (
                some (.inl (x1975.2, (x1969.2.2.1, x1969.2.2.2.1, x1969.2.2.2.2.1, x1969.2.2.2.2.2)))
              )
            ) : Option ((VT × WT) ⊕ Bool))).bind fun o1963 =>
            Sum.elim (fun (v2126 : (VT × WT)) =>
              some (.inl ((IntKind.wrap .i64 (v1789.1 + 1)), v2126.1, v2126.2))
            ) (fun w2129 =>
              some (.inr (.inr w2129))
            ) o1963
          ) (
            some (.inr (.inl ()))
          )) N (fun i v => ((i : Int), v, refV v)) (fun i v => VOk (40 + i) v) (fun _ => .inl ()) (P, [], [], []) h0 (fun i hi v hv => by
        have hi1 : i < ops.length := by omega
        have hi2 : decide ((i : Int) < 60) = true := decide_eq_true (by omega)
        obtain ⟨hk, hs⟩ := ho _ (List.getElem_mem hi1)
        obtain ⟨v', q1, q2⟩ := same_ok hv (by omega) ops[i] hk hs
        have hr := q1.rlen
        have hjl := joinV_len q1.own
        simp only [ilt hi1, cond_true, hi2, Option.bind_some, gx_nat hi1]
        rw [bind_of q2]
        simp only
        rw [bind_of (reads_eq v' (by omega))]
        simp only
        rw [bind_of (changes_eqV q1 (by omega))]
        simp only
        have e1 : (refV v').2.2.1 = v'.2.2.1 := rfl
        have e2 : (refV v').2.1 = joinP (vals v'.2.1) := rfl
        rw [e1, e2, sameS_eq _ _ (by omega)]
        simp only [decide_true, Option.bind_some, cond_true]
        rw [sameChanges_eq _ _ (by omega)]
        simp only [decide_true, Option.bind_some]
        rw [bind_of (over_eq v'.2.2.1 (fun j r hr hj => by
          have hj' : j < r.length := by omega
          refine ⟨r.set j (r[j].1, r[j].2.1, !r[j].2.2), by simp [hr], ?_⟩
          simp only [ilt hj', cond_true, gx_nat hj', Option.bind_some, wrap_succ (show j < 9223372036854775807 by omega), Int.toNat_natCast]) (fun r hr => by
          simp only [← hr, ige, cond_false]))]
        rw [bind_of (over_eq (joinP (vals v'.2.1)) (fun j r hr hj => by
          have hj' : j < r.length := by omega
          refine ⟨r.set j (r[j].1, r[j].2.1, !r[j].2.2), by simp [hr], ?_⟩
          simp only [ilt hj', cond_true, gx_nat hj', Option.bind_some, wrap_succ (show j < 9223372036854775807 by omega), Int.toNat_natCast]) (fun r hr => by
          simp only [← hr, ige, cond_false]))]
        simp only [Bool.not_true, cond_false, Option.bind_some, Sum.elim_inl, wrap_succ (show i < 9223372036854775807 by omega)]
        exact ⟨v', rfl, q1⟩) (fun v _ => by
        by_cases h : ops.length < 60
        · have e : N = ops.length := by omega
          simp only [e, ige, cond_false, Option.bind_some]
        · have e : N = 60 := by omega
          simp only [e]
          by_cases h' : 60 < ops.length
          · simp only [ilt h', cond_true, Option.bind_some, show decide (((60 : Nat) : Int) < 60) = false from by decide, cond_false]
          · have : decide (((60 : Nat) : Int) < (ops.length : Int)) = false := by simp; omega
            simp only [this, cond_false, Option.bind_some])
  have e0 : refV (P, [], [], []) = (P, [], [], []) := by
    have : joinP (vals []) = [] := List.eq_nil_of_length_eq_zero (Nat.le_zero.1 (joinP_len []))
    simp only [refV, this, List.map_nil]
  rw [e0] at hw
  refine (bind_of hw).trans ?_
  rfl

end Go.Val

