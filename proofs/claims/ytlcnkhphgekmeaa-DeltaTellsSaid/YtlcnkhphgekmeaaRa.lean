/- What a reading of arguments says of their data. -/
import Derived.Test.YtlcnkhphgekmeaaQb
import Derived.ProofKit
set_option linter.unusedSectionVars false
set_option linter.unusedVariables false
set_option linter.unusedSimpArgs false
namespace Go.Val
open Go.RowKit

/-- What is read at a type is a datum. -/
structure Rd (P : Program) (t : TypeId) {κ : Type} (e : κ → D) : Prop where
  get : ∀ {H : Type} (enc : TypeId × Value → H) (W : World) (sp : Nat → Bool) (hd : Bool) (fuel : Nat) (cs : List Value) (x : DataW H × List MemPlace), DataW.trod enc P W 0 sp hd fuel t cs = some x → ∃ a : κ, DR (fun b => b < W.heap.size) W (e a) cs

theorem mapM_all {α β : Type} {f : α → Option β} : ∀ {l : List α} {ys : List β}, l.mapM f = some ys → ∀ x ∈ l, ∃ y, f x = some y
  | [], _, _, x, hx => by cases hx
  | a :: l, ys, h, x, hx => by
    rw [List.mapM_cons] at h
    simp only [Option.bind_eq_bind] at h
    obtain ⟨y, h1, h2⟩ := Option.bind_eq_some_iff.1 h
    obtain ⟨ys', h3, _⟩ := Option.bind_eq_some_iff.1 h2
    rcases List.mem_cons.1 hx with rfl | hx
    · exact ⟨y, h1⟩
    · exact mapM_all h3 x hx

theorem Rd.int {P : Program} {t : TypeId} {k : IntKind} (un : P.underlying t = some (.int k)) : Rd P t (fun n : Int => .v (.int k n)) := by
  refine ⟨?_⟩
  intro H enc W sp hd fuel cs x h
  cases fuel with
  | zero => simp [DataW.trod] at h
  | succ fuel =>
    match cs with
    | [] => simp [DataW.trod, un] at h
    | [c] =>
      cases c <;> simp [DataW.trod, un] at h
      obtain ⟨⟨rfl, _⟩, _⟩ := h
      exact ⟨_, .v rfl⟩
    | _ :: _ :: _ => simp [DataW.trod, un] at h

theorem Rd.bool {P : Program} {t : TypeId} (un : P.underlying t = some .bool) : Rd P t (fun b : Bool => .v (.bool b)) := by
  refine ⟨?_⟩
  intro H enc W sp hd fuel cs x h
  cases fuel with
  | zero => simp [DataW.trod] at h
  | succ fuel =>
    match cs with
    | [] => simp [DataW.trod, un] at h
    | [c] =>
      cases c <;> simp [DataW.trod, un] at h
      exact ⟨_, .v rfl⟩
    | _ :: _ :: _ => simp [DataW.trod, un] at h

theorem Rd.string {P : Program} {t : TypeId} (un : P.underlying t = some .string) : Rd P t (fun b : ByteArray => .v (.string b)) := by
  refine ⟨?_⟩
  intro H enc W sp hd fuel cs x h
  cases fuel with
  | zero => simp [DataW.trod] at h
  | succ fuel =>
    match cs with
    | [] => simp [DataW.trod, un] at h
    | [c] =>
      cases c <;> simp [DataW.trod, un] at h
      exact ⟨_, .v rfl⟩
    | _ :: _ :: _ => simp [DataW.trod, un] at h

theorem Rd.bytes {P : Program} {t e : TypeId} {n : Nat} (un : P.underlying t = some (.array n e)) (ue : P.underlying e = some (.int .u8)) (hc : P.cellsOf e = 1) (hn : P.cellsOf t = n) : Rd P t (fun l : List UInt8 => .bs n l) := by
  refine ⟨?_⟩
  intro H enc W sp hd fuel cs x h
  cases fuel with
  | zero => simp [DataW.trod] at h
  | succ fuel =>
    have hlen : cs.length = n := by
      simp only [DataW.trod, un, hn] at h
      split at h
      · rename_i q; exact q
      · cases h
    have hm : ∃ xs, ((List.range n).mapM fun i => DataW.trod enc P W 0 sp hd fuel e ((cs.drop (i * P.cellsOf e)).take (P.cellsOf e))) = some xs := by
      simp only [DataW.trod, un, hn, hlen, if_true] at h
      obtain ⟨xs, h1, _⟩ := Option.map_eq_some_iff.1 h
      exact ⟨xs, h1⟩
    obtain ⟨xs, hm⟩ := hm
    have key : ∀ c ∈ cs, ∃ b : UInt8, c = u8v b := by
      intro c hcm
      obtain ⟨i, hi, rfl⟩ := List.getElem_of_mem hcm
      obtain ⟨y, hy⟩ := mapM_all hm i (List.mem_range.2 (by omega))
      rw [hc, Nat.mul_one] at hy
      have ht : (cs.drop i).take 1 = [cs[i]] := by rw [List.drop_eq_getElem_cons hi]; rfl
      rw [ht] at hy
      cases fuel with
      | zero => simp [DataW.trod] at hy
      | succ fuel =>
        generalize cs[i] = c at hy
        cases c <;> simp [DataW.trod, ue] at hy
        rename_i k' m
        obtain ⟨⟨rfl, hw⟩, _⟩ := hy
        simp only [Lit.wf, Bool.and_eq_true, decide_eq_true_eq, IntKind.min, IntKind.max] at hw
        have h0 : 0 ≤ m ∧ m < 256 := by
          have := hw
          revert this
          simp [IntKind.signed, IntKind.bits]
          omega
        refine ⟨UInt8.ofNat m.toNat, ?_⟩
        have e8 : ((UInt8.ofNat m.toNat).toNat : Int) = m := by
          rw [UInt8.toNat_ofNat', Nat.mod_eq_of_lt (by omega)]
          omega
        simp only [u8v, e8]
    have hl : ∃ l : List UInt8, cs = l.map u8v := by
      clear hm h hlen
      induction cs with
      | nil => exact ⟨[], rfl⟩
      | cons c cs ih =>
        obtain ⟨b, rfl⟩ := key c (by simp)
        obtain ⟨l, rfl⟩ := ih (fun c' h' => key c' (by simp [h']))
        exact ⟨b :: l, rfl⟩
    obtain ⟨l, rfl⟩ := hl
    exact ⟨l, .bs (by simpa using hlen)⟩

/-- The fields of a struct from a place on. -/
structure RdL (P : Program) (T off : Nat) (fs : List Field) {σ : Type} (e : σ → List D) : Prop where
  get : ∀ {H : Type} (enc : TypeId × Value → H) (W : World) (sp : Nat → Bool) (hd : Bool) (fuel : Nat) (cs : List Value) (xs : List (DataW H × List MemPlace)), cs.length = T →
    (fs.mapM fun f => DataW.trod enc P W 0 sp hd fuel f.type ((cs.drop f.offset).take (P.cellsOf f.type))) = some xs → ∃ a : σ, DRs (fun b => b < W.heap.size) W (e a) (cs.drop off)

theorem RdL.nil {P : Program} {T : Nat} : RdL P T T [] (fun _ : Unit => []) := by
  refine ⟨?_⟩
  intro H enc W sp hd fuel cs xs hl _
  refine ⟨(), ?_⟩
  rw [List.drop_of_length_le (by omega)]
  exact .nil
theorem RdL.cons {P : Program} {T off n : Nat} {f : Field} {fs : List Field} {κ σ : Type} {e1 : κ → D} {e2 : σ → List D} (ho : f.offset = off) (hn : P.cellsOf f.type = n) (h1 : Rd P f.type e1) (h2 : RdL P T (off + n) fs e2) :
    RdL P T off (f :: fs) (fun p : κ × σ => e1 p.1 :: e2 p.2) := by
  refine ⟨?_⟩
  intro H enc W sp hd fuel cs xs hl h
  rw [List.mapM_cons] at h
  simp only [Option.bind_eq_bind] at h
  obtain ⟨y, k1, k2⟩ := Option.bind_eq_some_iff.1 h
  obtain ⟨ys, k3, _⟩ := Option.bind_eq_some_iff.1 k2
  rw [ho, hn] at k1
  obtain ⟨a, ha⟩ := h1.get enc W sp hd fuel _ _ k1
  obtain ⟨b, hb⟩ := h2.get enc W sp hd fuel cs ys hl k3
  refine ⟨(a, b), ?_⟩
  have : cs.drop off = (cs.drop off).take n ++ cs.drop (off + n) := by
    rw [← List.drop_drop, List.take_append_drop]
  rw [this]
  exact .cons ha hb
theorem Rd.struct {P : Program} {t : TypeId} {fs : Array Field} {T : Nat} {σ κ : Type} {es : σ → List D} {e : κ → D} (un : P.underlying t = some (.struct fs)) (hT : P.cellsOf t = T) (hL : RdL P T 0 fs.toList es) (φ : σ → κ) (hφ : ∀ a, e (φ a) = .st (es a)) : Rd P t e := by
  refine ⟨?_⟩
  intro H enc W sp hd fuel cs x h
  cases fuel with
  | zero => simp [DataW.trod] at h
  | succ fuel =>
    have hlen : cs.length = T := by
      simp only [DataW.trod, un, hT] at h
      split at h
      · rename_i q; exact q
      · cases h
    simp only [DataW.trod, un, hT, hlen, if_true] at h
    obtain ⟨xs, k1, _⟩ := Option.map_eq_some_iff.1 h
    obtain ⟨a, ha⟩ := hL.get enc W sp hd fuel cs xs hlen k1
    rw [List.drop_zero] at ha
    exact ⟨φ a, by rw [hφ]; exact .st ha⟩

theorem cellsAt_append {w : World} {b off : Nat} {cs cs' : List Value} (h : CellsAt w b off cs) (h' : CellsAt w b (off + cs.length) cs') : CellsAt w b off (cs ++ cs') := by
  intro i v hi
  by_cases hl : i < cs.length
  · rw [List.getElem?_append_left hl] at hi
    exact h i v hi
  · rw [List.getElem?_append_right (by omega)] at hi
    have := h' (i - cs.length) v hi
    rw [show off + cs.length + (i - cs.length) = off + i by omega] at this
    exact this
theorem cell_spot {w : World} {a : Addr} {v : Value} (h : w.cell? a = some v) : a.spot = none ∧ a.block < w.heap.size := by
  unfold World.cell? at h
  split at h
  · rename_i q
    split at h
    · cases h
    · rename_i hs
      exact ⟨by simpa using hs, (Array.getElem?_eq_some_iff.1 q).1⟩
  · cases h
theorem cells_spot {w : World} {a : Addr} {n : Nat} {cs : List Value} (h : w.cells? 0 a n = some cs) (hn : 0 < n) : a.spot = none ∧ a.block < w.heap.size := by
  unfold World.cells? at h
  rw [if_pos (by omega)] at h
  obtain ⟨y, hy⟩ := mapM_all h 0 (List.mem_range.2 hn)
  exact cell_spot hy
theorem mapM_get {α β : Type} {f : α → Option β} : ∀ {l : List α} {ys : List β}, l.mapM f = some ys → ys.length = l.length ∧ ∀ (i : Nat) (x : α), l[i]? = some x → f x = ys[i]?
  | [], ys, h => by
    simp at h
    subst h
    exact ⟨rfl, fun i x hx => by simp at hx⟩
  | a :: l, ys, h => by
    rw [List.mapM_cons] at h
    simp only [Option.bind_eq_bind] at h
    obtain ⟨y, h1, h2⟩ := Option.bind_eq_some_iff.1 h
    obtain ⟨ys', h3, h4⟩ := Option.bind_eq_some_iff.1 h2
    cases h4
    obtain ⟨k1, k2⟩ := mapM_get h3
    refine ⟨by simp [k1], fun i x hx => ?_⟩
    cases i with
    | zero => simp at hx; subst hx; simp [h1]
    | succ i => simp at hx; simp [k2 i x hx]
theorem cells_at {w : World} {a : Addr} {n : Nat} {cs : List Value} (h : w.cells? 0 a n = some cs) (hs : a.spot = none) : cs.length = n ∧ CellsAt w a.block a.off cs := by
  unfold World.cells? at h
  rw [if_pos (by omega)] at h
  obtain ⟨k1, k2⟩ := mapM_get h
  rw [List.length_range] at k1
  refine ⟨k1, fun i v hi => ?_⟩
  have hlt : i < n := by have := (List.getElem?_eq_some_iff.1 hi).1; omega
  have := k2 i i (by simp [hlt])
  rw [hi] at this
  rw [← this]
  congr 1
  obtain ⟨b, o, s⟩ := a
  simp only at hs
  subst hs
  exact (add_addr _ _ _).symm

theorem Rd.slice {P : Program} {t e : TypeId} {k : Nat} {κ : Type} {ee : κ → D} (un : P.underlying t = some (.slice e)) (hc : P.cellsOf e = k) (hk : 0 < k) (hz : ∀ a, (ee a).size = k) (hR : Rd P e ee) : Rd P t (fun xs : List κ => .sl k (xs.map ee)) := by
  refine ⟨?_⟩
  intro H enc W sp hd fuel cs x h
  cases fuel with
  | zero => simp [DataW.trod] at h
  | succ fuel =>
    match cs with
    | [] => simp [DataW.trod, un] at h
    | _ :: _ :: _ => simp [DataW.trod, un] at h
    | [c] =>
      cases c <;> try (simp [DataW.trod, un] at h; done)
      rename_i base len cap
      cases base with
      | none =>
        have : len = 0 := by
          cases len with
          | zero => rfl
          | succ n => simp [DataW.trod, un] at h
        subst this
        exact ⟨[], .sl0⟩
      | some a =>
        by_cases h0 : len = 0
        · subst h0; exact ⟨[], .sl0⟩
        · simp only [DataW.trod, un, hc] at h
          split at h
          · rename_i hcond
            obtain ⟨elems, k1, _⟩ := Option.bind_eq_some_iff.1 h
            have el : ∀ i, i < len → ∃ ci xi, W.cells? 0 (a.add (i * k)) k = some ci ∧ DR (fun b => b < W.heap.size) W (ee xi) ci := by
              intro i hi
              obtain ⟨y, hy⟩ := mapM_all k1 i (List.mem_range.2 hi)
              obtain ⟨ci, q1, q2⟩ := Option.bind_eq_some_iff.1 hy
              obtain ⟨xi, q3⟩ := hR.get enc W sp hd fuel ci y q2
              exact ⟨ci, xi, q1, q3⟩
            obtain ⟨c0, _, q0, _⟩ := el 0 (by omega)
            have q0' : W.cells? 0 a k = some c0 := by
              have e : a.add (0 * k) = a := by simp [Addr.add]
              rwa [e] at q0
            obtain ⟨hs, hb⟩ := cells_spot q0' hk
            have hadd : ∀ m, a.add m = ⟨a.block, a.off + m, none⟩ := by
              intro m
              obtain ⟨b, o, s⟩ := a
              simp only at hs
              subst hs
              exact add_addr _ _ _
            have rows : ∀ n, n ≤ len → ∃ (xs : List κ) (cs' : List Value), xs.length = n ∧ cs'.length = n * k ∧ DRs (fun b => b < W.heap.size) W (xs.map ee) cs' ∧ CellsAt W a.block a.off cs' := by
              intro n
              induction n with
              | zero => exact fun _ => ⟨[], [], rfl, by simp, .nil, fun i v hi => by simp at hi⟩
              | succ n ih =>
                intro hn
                obtain ⟨xs, cs', p1, p2, p3, p4⟩ := ih (by omega)
                obtain ⟨ci, xi, r1, r2⟩ := el n (by omega)
                rw [hadd] at r1
                obtain ⟨r3, r4⟩ := cells_at r1 rfl
                refine ⟨xs ++ [xi], cs' ++ ci, by simp [p1], by rw [List.length_append, p2, r3, Nat.succ_mul], ?_, cellsAt_append p4 ?_⟩
                · rw [List.map_append]
                  have : DRs (fun b => b < W.heap.size) W ([xi].map ee) ci := by
                    have := DRs.cons r2 .nil
                    rwa [List.append_nil] at this
                  exact p3.append this
                · rw [p2]; exact r4
            obtain ⟨xs, cs', p1, p2, p3, p4⟩ := rows len (Nat.le_refl _)
            refine ⟨xs, ?_⟩
            have ha : a = ⟨a.block, a.off, none⟩ := by
              obtain ⟨b, o, s⟩ := a
              simp only at hs
              subst hs
              rfl
            rw [ha, ← p1]
            have hl : xs.length = (xs.map ee).length := by simp
            rw [hl]
            exact .sl hb hb p3 (by intro r hr; obtain ⟨q, _, rfl⟩ := List.mem_map.1 hr; exact hz q) p4 (by rw [← hl, p1]; exact hcond.2.1)
          · cases h

end Go.Val
