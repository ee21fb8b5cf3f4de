/- What the twins are: the document's answer for spans. -/
import Derived.Test.YtmibkdnmjjdelaaGreatTk
set_option linter.unusedSectionVars false
set_option linter.unusedVariables false
set_option linter.unusedSimpArgs false
namespace Go.Val
open Go.Lib

def E25 : List UInt8 := List.replicate 25 255
def oB (d : Option Ky) : ByteArray := bytesS (d.getD E25)
def OVal (d : Option Ky) : Prop := ∀ k, d = some k → k.length = 24

set_option maxRecDepth 100000 in
theorem end_eq : ref08_End = some (oB none) := by
  unfold ref08_End
  exact bind_id (whileO_of (n := 27) (by rfl))

theorem to_eq (s : Sp) : ref08_to s = some (oB (toB s)) := by
  obtain ⟨a, b, e⟩ := s
  unfold ref08_to
  cases e with
  | true => exact bind_id end_eq
  | false => rfl

theorem lt_end : ∀ {n : Nat} {a : List UInt8}, a.length ≤ n → Lt a (List.replicate (n + 1) 255)
  | n, [], _ => by simp [Lt, compareBytes, List.replicate_succ]
  | 0, _ :: _, h => by simp at h
  | n + 1, x :: a, h => by
    have ih := lt_end (n := n) (a := a) (by simpa using h)
    rw [List.replicate_succ]
    unfold Lt at ih ⊢
    simp only [compareBytes]
    have hx : x.toNat < 256 := x.toNat_lt
    have h255 : (255 : UInt8).toNat = 255 := rfl
    by_cases h1 : x < 255
    · simp [h1]
    · have h2 : ¬ (255 : UInt8) < x := by
        intro q
        have := UInt8.lt_iff_toNat_lt.1 q
        omega
      simp only [h1, h2, if_false]
      exact ih
theorem lt_E25 {a : List UInt8} (h : a.length = 24) : Lt a E25 := lt_end (n := 24) (by omega)

theorem oB_less {x y : Option Ky} (hx : OVal x) (hy : OVal y) : Op.bytesLess (oB x).data.toList (oB y).data.toList = decide (oLt x y) := by
  have e : ∀ d : Option Ky, (oB d).data.toList = d.getD E25 := fun d => rfl
  rw [e, e, cb_less]
  cases x with
  | none =>
    cases y with
    | none =>
      rw [Bool.eq_iff_iff, decide_eq_true_eq, decide_eq_true_eq]
      exact ⟨fun h => lt_irrefl _ h, fun h => h.elim⟩
    | some b =>
      rw [Bool.eq_iff_iff, decide_eq_true_eq, decide_eq_true_eq]
      exact ⟨fun h => absurd h (le_of_lt (lt_E25 (hy b rfl))), fun h => h.elim⟩
  | some a =>
    cases y with
    | none =>
      rw [Bool.eq_iff_iff, decide_eq_true_eq, decide_eq_true_eq]
      exact ⟨fun _ => trivial, fun _ => lt_E25 (hx a rfl)⟩
    | some b => rfl
theorem oB_inj {x y : Option Ky} (hx : OVal x) (hy : OVal y) : oB x = oB y ↔ x = y := by
  refine ⟨fun h => ?_, fun h => by rw [h]⟩
  have e : ∀ d : Option Ky, (oB d).data.toList = d.getD E25 := fun d => rfl
  have h' : x.getD E25 = y.getD E25 := by rw [← e, ← e, h]
  have l25 : E25.length = 25 := by simp [E25]
  cases x with
  | none =>
    cases y with
    | none => rfl
    | some b =>
      have := congrArg List.length h'
      simp only [Option.getD_none, Option.getD_some] at this
      rw [l25, hy b rfl] at this
      omega
  | some a =>
    cases y with
    | none =>
      have := congrArg List.length h'
      simp only [Option.getD_none, Option.getD_some] at this
      rw [l25, hx a rfl] at this
      omega
    | some b => simpa using h'

theorem with8_eq {D : List (Option Ky)} {x : Option Ky} (hD : ∀ d ∈ D, OVal d) (hx : OVal x) (hl : D.length ≤ 1000000) : ref08_with (D.map oB) (oB x) = some ((insO D x).map oB) := by
  unfold ref08_with
  obtain ⟨k, hk⟩ : ∃ k, k = D.findIdx fun y => !decide (oLt y x) := ⟨_, rfl⟩
  have hkl : k ≤ D.length := by rw [hk]; exact List.findIdx_le_length
  have hlen : (D.map oB).length = D.length := List.length_map _
  have hget : ∀ i (hi : i < D.length), gx (D.map oB) (i : Int) = some (oB D[i]) := fun i hi => by rw [gx_nat (by rw [hlen]; exact hi)]; simp
  have hless : ∀ i (hi : i < D.length), Op.bytesLess (oB D[i]).data.toList (oB x).data.toList = decide (oLt D[i] x) := fun i hi => oB_less (hD _ (List.getElem_mem hi)) hx
  refine (bind_of (whileO_run (o := (k : Int)) (fun i => (i : Int)) k (fun i hi => ?_) ?_)).trans ?_
  · have hi' : i < D.length := by omega
    have hlt : decide (oLt D[i] x) = true := by
      have := List.not_of_lt_findIdx (p := fun y => !decide (oLt y x)) (xs := D) (i := i) (by rw [← hk]; exact hi)
      simpa using this
    simp only [hlen, ilt hi', cond_true, hget i hi', Option.bind_some, hless i hi', hlt, wrap_succ (show i < 9223372036854775807 by omega)]
  · by_cases h : k < D.length
    · have hlt : decide (oLt D[k] x) = false := by
        have := List.findIdx_getElem (p := fun y => !decide (oLt y x)) (xs := D) (w := by rw [← hk]; exact h)
        simp only [← hk] at this
        simpa using this
      simp only [hlen, ilt h, cond_true, hget k h, Option.bind_some, hless k h, hlt, cond_false]
    · have e : k = D.length := by omega
      simp only [hlen, e, ige, cond_false, Option.bind_some]
  · rw [insO_find D x, ← hk]
    by_cases h : k < D.length
    · rw [List.getElem?_eq_getElem h]
      simp only [hlen, ilt h, cond_true, hget k h, Option.bind_some]
      by_cases he : D[k] = x
      · have : decide (oB D[k] = oB x) = true := decide_eq_true (by rw [he])
        rw [this, cond_true, if_pos (by rw [he])]
      · have : decide (oB D[k] = oB x) = false := decide_eq_false fun q => he ((oB_inj (hD _ (List.getElem_mem h)) hx).1 q)
        rw [this, cond_false, if_neg (fun q => he (Option.some.inj q))]
        have hp0 : piece (D.map oB) 0 (k : Int) = (D.take k).map oB := by simp [piece]
        have hpE : piece (D.map oB) (k : Int) (D.length : Int) = (D.drop k).map oB := by
          unfold piece
          simp only [Int.toNat_natCast]
          rw [← hlen, List.take_length, List.map_drop]
        rw [bind_of (cutB_of (by omega)), bind_of (fits_of (by simp [piece]; omega)), bind_of (fits_of (by simp [piece]; omega)), bind_of (cutB_of (by omega)), bind_of (fits_of (by simp [piece]; omega)), hp0, hpE]
        simp
    · have e : k = D.length := by omega
      rw [e, List.getElem?_eq_none (Nat.le_refl _), if_neg (by simp)]
      simp only [hlen, ige, cond_false, Option.bind_some]
      have hp0 : piece (D.map oB) 0 (D.length : Int) = D.map oB := by
        unfold piece
        simp only [Int.toNat_natCast]
        rw [← hlen, List.take_length]
        simp
      have hpE : piece (D.map oB) (D.length : Int) (D.length : Int) = [] := by
        unfold piece
        simp only [Int.toNat_natCast]
        rw [← hlen, List.take_length, List.drop_length]
      rw [bind_of (cutB_of (by omega)), bind_of (fits_of (by rw [hp0]; simp; omega)), bind_of (fits_of (by rw [hp0]; simp; omega)), bind_of (cutB_of (by omega)), bind_of (fits_of (by rw [hp0, hpE]; simp; omega)), hp0, hpE]
      simp

theorem insO_val {D : List (Option Ky)} {x : Option Ky} (hD : ∀ d ∈ D, OVal d) (hx : OVal x) : ∀ d ∈ insO D x, OVal d := fun d hd => by
  rcases mem_insO.1 hd with e | e
  · rw [e]; exact hx
  · exact hD d e
theorem toB_val {s : Sp} (h : spOk s) : OVal (toB s) := fun k hk => toB_len h hk

theorem bounds8_eq (l : List Sp) (hl : ∀ s ∈ l, spOk s) (hlen : l.length ≤ 100000) : ref08_bounds l = some ((boundsO l).map oB) := by
  unfold ref08_bounds boundsO
  refine bind_id (whileO_for l (fun i (D : List (Option Ky)) => (D.map oB, (i : Int))) (fun D s => if full s = true then insO (insO D (some s.1)) (toB s) else D) (fun i D => (∀ d ∈ D, OVal d) ∧ D.length ≤ 2 * i) (fun D => D.map oB) [] ⟨by simp, by simp⟩ (fun i hi D hJ => ?_) (fun D _ => ?_))
  · obtain ⟨j1, j2⟩ := hJ
    have hs := hl l[i] (List.getElem_mem hi)
    have ha : OVal (some l[i].1) := fun k hk => by cases hk; exact hs.1
    have hb := toB_val hs
    have hless : Op.bytesLess (bytesS l[i].1).data.toList (oB (toB l[i])).data.toList = full l[i] := oB_less ha hb
    have q1 := insO_len D (some l[i].1)
    have q2 := insO_len (insO D (some l[i].1)) (toB l[i])
    simp only [ilt hi, cond_true, gx_nat hi, Option.bind_some, to_eq, hless, wrap_succ (show i < 9223372036854775807 by omega)]
    by_cases hf : full l[i] = true
    · rw [hf]
      have e1 : ref08_with (D.map oB) (bytesS l[i].1) = some ((insO D (some l[i].1)).map oB) := with8_eq (x := some l[i].1) j1 ha (by omega)
      have e2 : ref08_with ((insO D (some l[i].1)).map oB) (oB (toB l[i])) = some ((insO (insO D (some l[i].1)) (toB l[i])).map oB) := with8_eq (insO_val j1 ha) hb (by omega)
      simp only [cond_true, e1, e2, Option.bind_some, if_true]
      exact ⟨trivial, insO_val (insO_val j1 ha) hb, by omega⟩
    · have hf' : full l[i] = false := by simpa using hf
      rw [hf']
      simp only [cond_false, Option.bind_some, Bool.false_eq_true, if_false]
      exact ⟨trivial, j1, by omega⟩
  · simp only [ige, cond_false]

theorem cpB_same {a : List UInt8} (h : a.length = 24) : cpB (List.replicate 24 0) a = a := by
  unfold cpB
  rw [List.length_replicate, ← h, List.take_length, List.drop_eq_nil_of_le (by simp [h]), List.append_nil]
theorem of8_eq {a : Ky} {b : Option Ky} (ha : a.length = 24) (hb : OVal b) : ref08_of (bytesS a) (oB b) = some (mkS a b) := by
  unfold ref08_of
  refine bind_id ?_
  rw [bind_of end_eq]
  have e : ∀ l : List UInt8, (bytesS l).data.toList = l := fun l => rfl
  cases b with
  | none =>
    have : decide (oB none = oB none) = true := by simp
    rw [this, cond_true, e, cpB_same ha]
    rfl
  | some y =>
    have : decide (oB (some y) = oB none) = false := decide_eq_false fun q => by
      have := (oB_inj hb (fun k hk => by cases hk)).1 q
      cases this
    rw [this, cond_false, e, cpB_same ha]
    have e2 : (oB (some y)).data.toList = y := rfl
    rw [e2, cpB_same (hb y rfl)]
    rfl
theorem key8_eq {a : Ky} (ha : a.length = 24) : ref08_key (oB (some a)) = some a := by
  unfold ref08_key
  have e2 : (oB (some a)).data.toList = a := rfl
  rw [e2, cpB_same ha]

/-- Which pieces are meant. -/
def inL (l : List Sp) (D : List (Option Ky)) (i : Nat) : Bool := match D[i]? with
  | some (some a) => hasS l a
  | _ => false

theorem where8_eq {l : List Sp} {D : List (Option Ky)} (hasc : AscO D) (hD : ∀ d ∈ D, OVal d) (hlen : D.length ≤ 1000000) (h1 : 1 ≤ D.length) : ref08_where (D.map oB) ((List.range (D.length - 1)).map (inL l D)) = some (piecesO l D (D.length - 1)) := by
  unfold ref08_where
  have hmap : (D.map oB).length = D.length := List.length_map _
  have hget : ∀ i (hi : i < D.length), gx (D.map oB) (i : Int) = some (oB D[i]) := fun i hi => by rw [gx_nat (by rw [hmap]; exact hi)]; simp
  have h24 : ∀ x, some x ∈ D → x.length = 24 := fun x hx => hD _ hx x rfl
  refine bind_id (whileO_run (fun i => ((i : Int), piecesO l D i)) (D.length - 1) (fun i hi => ?_) ?_)
  · have hi1 : i + 1 < D.length := by omega
    obtain ⟨a, ha⟩ := asc_some hasc hi1
    have ga : D[i]? = some (some a) := by rw [List.getElem?_eq_getElem (by omega), ha]
    have gb : D[i + 1]? = some D[i + 1] := List.getElem?_eq_getElem hi1
    have ha24 : a.length = 24 := h24 a (List.mem_of_getElem? ga)
    have hbv : OVal D[i + 1] := hD _ (List.getElem_mem hi1)
    have hin : gx ((List.range (D.length - 1)).map (inL l D)) (i : Int) = some (hasS l a) := by
      rw [gx_nat (by simp; omega)]
      simp [inL, ga]
    have hpl := (pieces_spec (l := l) hasc h24 i (by omega)).2.1
    have hpc := (pieces_spec (l := l) hasc h24 i (by omega)).1
    have hstep : piecesO l D (i + 1) = wStep a D[i + 1] (hasS l a) (piecesO l D i) := by
      show (match D[i]?, D[i + 1]? with
        | some (some a), some b => wStep a b (hasS l a) (piecesO l D i)
        | _, _ => piecesO l D i) = _
      rw [ga, gb]
    have hw1 : IntKind.wrap .i64 ((i : Int) + 1) = ((i + 1 : Nat) : Int) := wrap_succ (by omega)
    have hcond : decide (((i + 1 : Nat) : Int) < ((D.map oB).length : Int)) = true := decide_eq_true (by rw [hmap]; omega)
    rw [hstep]
    simp only [hw1, hcond, cond_true, hin, Option.bind_some]
    cases hq : hasS l a with
    | false => simp [wStep]
    | true =>
      simp only [Bool.not_true, cond_false]
      have gi := hget i (by omega)
      rw [ha] at gi
      have gi1 := hget (i + 1) hi1
      obtain ⟨out, hout⟩ : ∃ out, out = piecesO l D i := ⟨_, rfl⟩
      rw [← hout] at hpl hpc ⊢
      unfold wStep
      simp only [if_true]
      rcases List.eq_nil_or_concat out with rfl | ⟨pre, t, rfl⟩
      · have h0 : decide ((([] : List Sp).length : Int) > 0) = false := by decide
        have hf : fits (([] : List Sp).length + ([mkS a D[i + 1]]).length) 49 = some () := fits_of (by simp)
        simp only [h0, cond_false, Option.bind_some, gi, gi1]
        rw [show oB (some a) = bytesS a from rfl, bind_of (of8_eq ha24 hbv)]
        simp only [List.getLast?_nil]
        rw [hf]
        rfl
      · have hln : (pre.concat t).length = pre.length + 1 := by simp
        have hpos : decide (((pre.length + 1 : Nat) : Int) > 0) = true := decide_eq_true (by omega)
        have hidx : IntKind.wrap .i64 (((pre.length + 1 : Nat) : Int) - 1) = (pre.length : Int) := by rw [wrap_i64 (by omega)]; omega
        have hgt : gx (pre.concat t) (pre.length : Int) = some t := by
          rw [gx_nat (by omega)]
          simp
        have htok := hpc.len t (by simp)
        have hl2 : (pre.concat t).getLast? = some t := by simp
        simp only [hpos, cond_true, hidx, hgt, Option.bind_some, to_eq, gi, gi1, hl2, hln, Nat.add_sub_cancel, Int.toNat_natCast]
        by_cases he : toB t = some a
        · have hd : decide (oB (toB t) = oB (some a)) = true := decide_eq_true (by rw [he])
          rw [hd, cond_true, bind_of (of8_eq htok.1 hbv), if_pos he]
          rfl
        · have hd : decide (oB (toB t) = oB (some a)) = false := decide_eq_false fun q => he ((oB_inj (toB_val htok) (fun k hk => by cases hk; exact ha24)).1 q)
          have hf : fits (pre.length + 1 + ([mkS a D[i + 1]]).length) 49 = some () := fits_of (by simp only [List.length_cons, List.length_nil]; omega)
          rw [hd, cond_false, show oB (some a) = bytesS a from rfl, bind_of (of8_eq ha24 hbv), hf, if_neg he]
          rfl
  · have hw1 : IntKind.wrap .i64 (((D.length - 1 : Nat) : Int) + 1) = (D.length : Int) := by rw [wrap_i64 (by omega)]; omega
    have hcond : decide ((D.length : Int) < ((D.map oB).length : Int)) = false := decide_eq_false (by rw [hmap]; omega)
    simp only [hw1, hcond, cond_false]

theorem refClean_eq (l : List Sp) (hl : ∀ s ∈ l, spOk s) (hlen : l.length ≤ 100000) : ref08_Clean l = some (cleanP l) := by
  unfold ref08_Clean
  rw [bind_of (bounds8_eq l hl hlen)]
  obtain ⟨hasc, hblen, hmem⟩ := boundsO_spec l
  rw [← pieces_clean hl]
  have hDv : ∀ d ∈ boundsO l, OVal d := by
    intro d hd k hk
    subst hk
    obtain ⟨s, hs, _, e | e⟩ := (hmem _).1 hd
    · cases e; exact (hl s hs).1
    · exact toB_len (hl s hs) e.symm
  obtain ⟨D, hD⟩ : ∃ D, D = boundsO l := ⟨_, rfl⟩
  rw [← hD] at hasc hblen hDv ⊢
  have hmap : (D.map oB).length = D.length := List.length_map _
  by_cases h0 : D.length = 0
  · have hn : D = [] := List.length_eq_zero_iff.1 h0
    subst hn
    refine (bind_of (whileO_run (o := ([] : List Bool)) (fun _ => ((0 : Int), ([] : List Bool))) 0 (fun i hi => by omega) ?_)).trans ?_
    · have : decide (IntKind.wrap .i64 ((0 : Int) + 1) < ((([] : List (Option Ky)).map oB).length : Int)) = false := by decide
      simp only [this, cond_false]
    · have : ref08_where (([] : List (Option Ky)).map oB) [] = some [] := by
        unfold ref08_where
        refine bind_id (whileO_run (o := ([] : List Sp)) (fun _ => ((0 : Int), ([] : List Sp))) 0 (fun i hi => by omega) ?_)
        have : decide (IntKind.wrap .i64 ((0 : Int) + 1) < ((([] : List (Option Ky)).map oB).length : Int)) = false := by decide
        simp only [this, cond_false]
      rw [bind_of this]
      rfl
  · refine (bind_of (whileO_run (o := (List.range (D.length - 1)).map (inL l D)) (fun i => ((i : Int), (List.range i).map (inL l D))) (D.length - 1) (fun i hi => ?_) ?_)).trans ?_
    · have hi1 : i + 1 < D.length := by omega
      obtain ⟨a, ha⟩ := asc_some hasc hi1
      have ga : D[i]? = some (some a) := by rw [List.getElem?_eq_getElem (by omega), ha]
      have ha24 : a.length = 24 := hDv _ (List.mem_of_getElem? ga) a rfl
      have gi : gx (D.map oB) (i : Int) = some (oB (some a)) := by rw [gx_nat (by rw [hmap]; omega)]; simp [ha]
      have hw1 : IntKind.wrap .i64 ((i : Int) + 1) = ((i + 1 : Nat) : Int) := wrap_succ (by omega)
      have hcond : decide (((i + 1 : Nat) : Int) < ((D.map oB).length : Int)) = true := decide_eq_true (by rw [hmap]; omega)
      simp only [hw1, hcond, cond_true, gi, Option.bind_some]
      rw [bind_of (key8_eq ha24), bind_of (has_eq l a (by omega)), bind_of (fits_of (by simp; omega)), List.range_succ, List.map_append]
      have : inL l D i = hasS l a := by simp [inL, ga]
      rw [List.map_singleton, this]
    · have hw1 : IntKind.wrap .i64 (((D.length - 1 : Nat) : Int) + 1) = (D.length : Int) := by rw [wrap_i64 (by omega)]; omega
      have hcond : decide ((D.length : Int) < ((D.map oB).length : Int)) = false := decide_eq_false (by rw [hmap]; omega)
      simp only [hw1, hcond, cond_false]
    · rw [bind_of (where8_eq hasc hDv (by omega) (by omega))]

end Go.Val

