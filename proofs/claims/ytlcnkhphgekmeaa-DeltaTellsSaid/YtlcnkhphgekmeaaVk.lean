/- Single operations, V: pieces, conversions, structs that are built, maps. -/
import Derived.Test.YtlcnkhphgekmeaaVj
import Derived.WideKeyRuns
set_option linter.unusedSectionVars false
set_option linter.unusedVariables false
set_option linter.unusedSimpArgs false
namespace Go.Val
open Go.RowKit
variable [Drw]

/-- A bound of a piece. -/
inductive Bd (s : St) (dflt : Nat) : Option Operand → Nat → Prop
  | no : Bd s dflt none dflt
  | val {o : Operand} {k : IntKind} {n : Int} (h : s.val o = some (.d (.v (.int k n)))) (h0 : 0 ≤ n) : Bd s dflt (some o) n.toNat

def bdT : Option Operand → List Nat
  | some o => opTmps o
  | none => []

theorem Bd.vals {s s' : St} {dflt v : Nat} {x : Option Operand} (h : Bd s dflt x v) (hs : ∀ t ∈ bdT x, s'.slot t = s.slot t) {cx : Cx} {a : Act} {E : Env} (hR : R0 cx s' a E) :
    (x.map a.eval = none ∧ v = dflt) ∨ ∃ k n, x.map a.eval = some (.int k n) ∧ 0 ≤ n ∧ n.toNat = v := by
  cases h with
  | no => exact .inl ⟨rfl, rfl⟩
  | val h h0 => exact .inr ⟨_, _, by rw [Option.map_some, (hR.val ((val_agree hs).trans h)).sc], h0, rfl⟩

theorem run_bounds {P : Program} {w : World} {b : Bool} {len cap lv hv : Nat} {low high : Option Value} (hl : (low = none ∧ lv = 0) ∨ ∃ k n, low = some (.int k n) ∧ 0 ≤ n ∧ n.toNat = lv)
    (hh : (high = none ∧ hv = len) ∨ ∃ k n, high = some (.int k n) ∧ 0 ≤ n ∧ n.toNat = hv) (h1 : lv ≤ hv) (h2 : hv ≤ cap) : (Instr.sliceBounds b len cap low high none).run P w = .ok (lv, hv, cap) w := by
  have sb : ∀ (k : IntKind) (n : Int) (y : Nat) (c : BoundsCode), 0 ≤ n → n.toNat ≤ y → (Instr.sliceBound (.int k n) y c).run P w = .ok n.toNat w := by
    intro k n y c h0 hy
    simp only [Instr.sliceBound, asIntOf, Sem.run_bind, Sem.run_pure, Result.andThen]
    rw [if_pos ⟨h0, by omega⟩]
    rfl
  unfold Instr.sliceBounds
  rcases hl with ⟨rfl, rfl⟩ | ⟨k, n, rfl, h0, rfl⟩ <;> rcases hh with ⟨rfl, rfl⟩ | ⟨k', n', rfl, h0', rfl⟩
  · simp [Result.andThen]
  · simp [Result.andThen, sb k' n' cap _ h0' h2]
  · simp [Result.andThen, sb k n _ _ h0 h1]
  · simp [Result.andThen, sb k n _ _ h0 h1, sb k' n' cap _ h0' h2]

def mpB (P : Program) (T : TypeId) : Option (TypeId × TypeId) := match P.underlying T with
  | some (.map k e) => some (k, e)
  | _ => none
theorem mpB_under {P : Program} {T k e : TypeId} (h : mpB P T = some (k, e)) : P.underlying T = some (.map k e) := by
  unfold mpB at h
  split at h <;> simp_all

/-- Of a map: what it has of a key; with a pair more; with one less. -/
def mget {κ β : Type} [DecidableEq κ] (m : List (κ × β)) (k : κ) : Option β := (m.find? fun p => decide (k = p.1)).map (·.2)
def mset {κ β : Type} [DecidableEq κ] (m : List (κ × β)) (k : κ) (v : β) : List (κ × β) := match m.findIdx? fun p => decide (k = p.1) with
  | some i => m.set i (k, v)
  | none => m ++ [(k, v)]
def mdel {κ β : Type} [DecidableEq κ] (m : List (κ × β)) (k : κ) : List (κ × β) := m.eraseP fun p => decide (k = p.1)

/-- What the model's maps ask of keys of a type. -/
structure KL (P : Program) (T : TypeId) {κ : Type} [DecidableEq κ] (ek : κ → D) : Prop where
  check : ∀ {I : Nat → Prop} {w : World} {k : κ} {c : List Value} (em : Bool), DR I w (ek k) c → (Instr.checkKey em 10000 T (mkV (ek k).isAgg c)).run P w = .ok () w
  find : ∀ {I : Nat → Prop} {w : World} {k : κ} {c : List Value} (ents : List MapEntry) (ks : List κ), DR I w (ek k) c → ents.length = ks.length →
    (∀ (i : Nat) e k', ents[i]? = some e → ks[i]? = some k' → ∃ c', DR I w (ek k') c' ∧ e.key = mkV (ek k').isAgg c') →
    (Instr.findKey T (mkV (ek k).isAgg c) ents).run P w = .ok ((ks.findIdx? fun k' => decide (k = k')).bind fun i => (ents[i]?).map fun e => (i, e.val)) w
  bits : ∀ {I : Nat → Prop} {w w' : World} {k : κ} {c c' : List Value}, DR I w (ek k) c → DR I w' (ek k) c' → Instr.sameBits 10000 (mkV (ek k).isAgg c) (mkV (ek k).isAgg c') = true

section
variable {P : Program}

theorem findAsking_of {T : TypeId} {κ : Type} [DecidableEq κ] {w : World} {v : Value} {k : κ} : ∀ (ents : List MapEntry) (ks : List κ) (j : Nat), ents.length = ks.length →
    (∀ (i : Nat) e k', ents[i]? = some e → ks[i]? = some k' → (Op.equal T v e.key).run P w = .ok (decide (k = k')) w) →
    (Instr.findAsking T v ents j).run P w = .ok ((ks.findIdx? fun k' => decide (k = k')).bind fun i => (ents[i]?).map fun e => (i + j, e.val)) w
  | [], [], j, _, _ => rfl
  | [], _ :: _, _, h, _ => by cases h
  | _ :: _, [], _, h, _ => by cases h
  | e :: ents, k' :: ks, j, hl, h => by
    have h0 := h 0 e k' rfl rfl
    unfold Instr.findAsking
    rw [Sem.run_bind, h0]
    simp only [Result.andThen]
    by_cases hk : k = k'
    · simp [hk, List.findIdx?_cons]
    · have ih := findAsking_of ents ks (j + 1) (by simpa using hl) (fun i e k' h1 h2 => h (i + 1) e k' (by simpa using h1) (by simpa using h2))
      simp only [hk, decide_false, Bool.false_eq_true, if_false, ih, List.findIdx?_cons]
      congr 1
      cases ks.findIdx? fun k' => decide (k = k') with
      | none => rfl
      | some i => simp [Nat.add_assoc, Nat.add_comm 1 j]

theorem sameBits_bytes (n : Nat) : ∀ (l : List UInt8), ((l.map u8v).zip (l.map u8v)).all (fun x => Instr.sameBits (n + 1) x.1 x.2) = true
  | [] => rfl
  | b :: l => by
    simp only [List.map_cons, List.zip_cons_cons, List.all_cons, sameBits_bytes n l, Bool.and_true]
    simp [u8v, Instr.sameBits]

theorem check_bytes {T e n : TypeId} (hT : arB P T = some (n, e)) (he : P.underlying e = some (.int .u8)) (hs : szB P e = some 1) (q : Nat) (em : Bool) {w : World} {k : List UInt8} (hk : k.length = n) :
    (Instr.checkKey em (q + 2) T (.agg (k.map u8v).toArray)).run P w = .ok () w := by
  have hA : aggB P e = some false := by unfold aggB; rw [he]; rfl
  unfold Instr.checkKey
  simp only [Sem.run_bind, run_underlying (arB_under hT), Result.andThen]
  rw [Std.Legacy.Range.forIn_eq_forIn_range']
  rw [run_each (P := P) (w := w) _ _ (fun i hi => ?_)]
  · rfl
  have hi' : i < k.length := by
    simp [Std.Legacy.Range.size] at hi
    omega
  simp only [Sem.run_bind, run_sizeOf_of hs, Result.andThen, Nat.mul_one]
  rw [run_part_one hA (v := u8v k[i]) (by simp [hi'])]
  simp only [Result.andThen, u8v, Instr.checkKey, Sem.run_bind, run_underlying he, Sem.run_pure]

/-- Keys that are arrays of bytes. -/
theorem KL.bytes {T e n : TypeId} (hT : arB P T = some (n, e)) (he : P.underlying e = some (.int .u8)) (hs : szB P e = some 1) : KL P T (fun k : List UInt8 => .bs n k) := by
  refine ⟨fun {I w k c} em hc => ?_, fun {I w k c} ents ks hc hl hk => ?_, fun {I w w' k c c'} hc hc' => ?_⟩
  · cases hc with
    | bs hc =>
      exact check_bytes hT he hs 9998 em hc
  · rw [run_findKey_eq w (by rw [arB_under hT])]
    have := findAsking_of (P := P) (T := T) (w := w) (v := mkV (D.bs n k).isAgg c) (k := k) ents ks 0 hl (fun i e' k' h1 h2 => by
      obtain ⟨c', q1, q2⟩ := hk i e' k' h1 h2
      rw [q2]
      exact run_eqD (.bs hT he hs) hc q1)
    simpa using this
  · cases hc with
    | bs _ => cases hc' with
      | bs _ =>
        simp only [mkV, D.isAgg, if_true, Instr.sameBits]
        simp only [List.size_toArray, beq_self_eq_true, Bool.true_and]
        exact sameBits_bytes 9998 k

/-- Keys that are whole numbers. -/
theorem KL.int {T : TypeId} {q : IntKind} (hT : P.underlying T = some (.int q)) : KL P T (fun k : Int => .v (.int q k)) := by
  refine ⟨fun {I w k c} em hc => ?_, fun {I w k c} ents ks hc hl hk => ?_, fun {I w w' k c c'} hc hc' => ?_⟩
  · cases hc with
    | v _ =>
      simp only [mkV, D.isAgg, Bool.false_eq_true, if_false, List.headD_cons]
      unfold Instr.checkKey
      simp only [Sem.run_bind, run_underlying hT, Result.andThen, Sem.run_pure]
  · cases hc with
    | v _ =>
      simp only [mkV, D.isAgg, Bool.false_eq_true, if_false, List.headD_cons]
      have now : ∀ (ents : List MapEntry) (ks : List Int) (j : Nat), ents.length = ks.length → (∀ (i : Nat) e k', ents[i]? = some e → ks[i]? = some k' → e.key = .int q k') →
          Instr.findNow (.int q) (.int q k) ents j = some ((ks.findIdx? fun k' => decide (k = k')).bind fun i => (ents[i]?).map fun e => (i + j, e.val)) := by
        intro ents
        induction ents with
        | nil => intro ks j hl _; cases ks with
          | nil => rfl
          | cons => cases hl
        | cons e ents ih =>
          intro ks j hl h
          cases ks with
          | nil => cases hl
          | cons k' ks =>
            have h0 := h 0 e k' rfl rfl
            simp only [Instr.findNow, h0, Instr.sameNow, if_true]
            by_cases hkk : k = k'
            · simp [hkk, List.findIdx?_cons]
            · have := ih ks (j + 1) (by simpa using hl) (fun i e k' h1 h2 => h (i + 1) e k' (by simpa using h1) (by simpa using h2))
              have hb : (k == k') = false := by simpa using hkk
              simp only [hb, this, List.findIdx?_cons, hkk, decide_false, Bool.false_eq_true, if_false]
              congr 1
              cases ks.findIdx? fun k' => decide (k = k') with
              | none => rfl
              | some i => simp [Nat.add_assoc, Nat.add_comm 1 j]
      have := now ents ks 0 hl (fun i e k' h1 h2 => by
        obtain ⟨c', q1, q2⟩ := hk i e k' h1 h2
        cases q1 with
        | v _ => exact q2)
      unfold Instr.findKey
      simp only [Sem.run_bind, run_underlying hT, Result.andThen, this, Sem.run_pure]
      simp
  · cases hc with
    | v _ => cases hc' with
      | v _ => simp [mkV, D.isAgg, Instr.sameBits]

end

section
variable {P : Program} {N : Nat × Nat} {ops : Array Oper} {i : Nat} {s : St} {d : Nat} {ty : TypeId} {pos : String} {af : Array Edge} {g : Option (Nat × Bool)} {gs : List Nat}

theorem mem_app3 {p q r : List Nat} {f g : Nat → Option AV} (h : ∀ t ∈ p ++ (q ++ r), f t = g t) : (∀ t ∈ p, f t = g t) ∧ (∀ t ∈ q, f t = g t) ∧ (∀ t ∈ r, f t = g t) :=
  ⟨(mem_app h).1, (mem_app (mem_app h).2).1, (mem_app (mem_app h).2).2⟩

/-- A piece of a text. -/
theorem o_slS {T : TypeId} {x : Operand} {lo hi : Option Operand} {b : ByteArray} {lv hv : Nat} (ho : ops[i]? = some ⟨some d, .slice T x lo hi none, ty, pos, af, g⟩) (hd : Nat.ble (d + 1) N.1 = true) (hg : G ops s g gs)
    (hx : s.val x = some (.d (.v (.string b)))) (hT : P.underlying T = some .string) (hl : Bd s 0 lo lv) (hh : Bd s b.size hi hv) (h1 : lv ≤ hv) (h2 : hv ≤ b.size) :
    Valid P N ops i ⟨gs ++ (opTmps x ++ (bdT lo ++ bdT hi)), [], some (d, some (.d (.v (.string (b.extract lv hv))))), []⟩ s :=
  valid_pure ho hd hg fun s' hs cx a E hR => by
    obtain ⟨m1, m2, m3⟩ := mem_app3 hs
    have e1 := (hR.val ((val_agree m1).trans hx)).sc
    refine ⟨_, ?_, .of_sc rfl⟩
    have hb := run_bounds (P := P) (w := E.w) (b := false) (len := b.size) (cap := b.size) (hl.vals m2 hR) (hh.vals m3 hR) h1 h2
    simp only [execOp, Option.map_none]
    rw [e1]
    simp only [Instr.sliceAt, Instr.slice, Sem.run_bind, run_underlying hT, Result.andThen, Option.isSome_none, Bool.false_eq_true, if_false, Sem.run_pure, hb]

/-- A piece of a row that never turns. -/
theorem o_sl {T e es : Nat} {x : Operand} {lo hi : Option Operand} {rows rows' : List D} {lv hv : Nat} (ho : ops[i]? = some ⟨some d, .slice T x lo hi none, ty, pos, af, g⟩) (hd : Nat.ble (d + 1) N.1 = true) (hg : G ops s g gs)
    (hx : s.val x = some (.d (.sl es rows))) (hT : slB P T = some e) (hS : szB P e = some es) (hl : Bd s 0 lo lv) (hh : Bd s rows.length hi hv) (h1 : lv ≤ hv) (h2 : hv ≤ rows.length) (hr : (rows.take hv).drop lv = rows') :
    Valid P N ops i ⟨gs ++ (opTmps x ++ (bdT lo ++ bdT hi)), [], some (d, some (.d (.sl es rows'))), []⟩ s :=
  valid_pure ho hd hg fun s' hs cx a E hR => by
    subst hr
    obtain ⟨m1, m2, m3⟩ := mem_app3 hs
    obtain ⟨cs, k1, k2⟩ := hR.val ((val_agree m1).trans hx)
    have hl' := hl.vals m2 hR
    have hh' := hh.vals m3 hR
    have run_of : ∀ (ad : Option Addr) (cap : Nat), a.eval x = .slice ad rows.length cap → rows.length ≤ cap → (execOp a.eval ⟨some d, .slice T x lo hi none, ty, pos, af, g⟩).run P E.w =
        .ok (.value (.slice (if cap = lv then ad else ad.map (·.add (lv * es))) (hv - lv) (cap - lv))) E.w := by
      intro ad cap e1 hcap
      have hb := run_bounds (P := P) (w := E.w) (b := true) (len := rows.length) (cap := cap) hl' hh' h1 (by omega)
      simp only [execOp, Option.map_none]
      rw [e1]
      simp only [Instr.sliceAt, Instr.slice, Sem.run_bind, run_underlying (slB_under hT), Result.andThen, hb, run_sizeOf_of hS, Sem.run_pure]
    cases k1 with
    | d k1 =>
      cases k1 with
      | sl0 =>
        rename_i ad cap
        simp at h2
        refine ⟨_, run_of ad cap k2 (Nat.zero_le _), [.slice (if cap = lv then ad else ad.map (·.add (lv * es))) (hv - lv) (cap - lv)], .d ?_, rfl⟩
        · have e1 : hv - lv = 0 := by omega
          rw [e1]
          simp only [List.take_nil, List.drop_nil]
          exact .sl0
      | sl q1 q2 q3 q4 q5 q6 =>
        rename_i b off cap cs
        refine ⟨_, run_of _ cap k2 q6, [.slice (if cap = lv then some ⟨b, off, none⟩ else (some (⟨b, off, none⟩ : Addr)).map (·.add (lv * es))) (hv - lv) (cap - lv)], .d ?_, rfl⟩
        have hlen : ((rows.take hv).drop lv).length = hv - lv := by simp; omega
        by_cases hc : cap = lv
        · have : hv - lv = 0 := by omega
          rw [this] at hlen ⊢
          rw [List.eq_nil_of_length_eq_zero hlen]
          exact .sl0
        · rw [if_neg hc, Option.map_some, add_addr]
          have hsplit : rows = rows.take lv ++ ((rows.take hv).drop lv ++ rows.drop hv) := by
            have : (rows.take hv).take lv = rows.take lv := by rw [List.take_take]; congr 1; omega
            rw [← List.append_assoc, ← this, List.take_append_drop, List.take_append_drop]
          rw [hsplit] at q3
          obtain ⟨c1, c2, rfl, t1, t2⟩ := DRs.split _ q3
          obtain ⟨c3, c4, rfl, t3, t4⟩ := DRs.split _ t2
          have l1 : c1.length = lv * es := by
            rw [t1.len, sizes_same (fun r hr => q4 r (List.mem_of_mem_take hr)), List.length_take, Nat.min_eq_left (by omega)]
          have h6 := q5.right.left
          rw [l1] at h6
          rw [← hlen]
          exact .sl q1 q2 t3 (fun r hr => q4 r (List.mem_of_mem_take (List.mem_of_mem_drop hr))) h6 (by rw [hlen]; omega)

/-- An array in a variable, as a slice. -/
theorem o_slP {T e n es : Nat} {x : Operand} {lo hi : Option Operand} {o m lv hv : Nat} (ho : ops[i]? = some ⟨some d, .slice T x lo hi none, ty, pos, af, g⟩) (hd : Nat.ble (d + 1) N.1 = true) (hg : G ops s g gs)
    (hx : s.val x = some (.ptr o m)) (hT : arB P T = some (n, e)) (hS : szB P e = some es) (hl : Bd s 0 lo lv) (hh : Bd s n hi hv) (h1 : lv ≤ hv) (h2 : hv ≤ n) (h3 : lv < n) :
    Valid P N ops i ⟨gs ++ (opTmps x ++ (bdT lo ++ bdT hi)), [], some (d, some (.bsl o (m + lv * es) (hv - lv) (n - lv))), []⟩ s :=
  valid_pure ho hd hg fun s' hs cx a E hR => by
    obtain ⟨m1, m2, m3⟩ := mem_app3 hs
    obtain ⟨cs, k1, k2⟩ := hR.val ((val_agree m1).trans hx)
    have hb := run_bounds (P := P) (w := E.w) (b := false) (len := n) (cap := n) (hl.vals m2 hR) (hh.vals m3 hR) h1 h2
    cases k1 with
    | ptr q1 q2 =>
      rename_i b z
      have e1 : a.eval x = .pointer (some ⟨b, m, none⟩) := k2
      refine ⟨_, ?_, _, .bsl q1 q2, rfl⟩
      simp only [execOp, Option.map_none]
      rw [e1]
      simp only [Instr.sliceAt, Sem.run_bind, run_underlying (arB_under hT), Result.andThen, Instr.sureAddr, Sem.run_pure, hb, run_sizeOf_of hS]
      rw [if_neg (by omega), add_addr]
      rfl

/-- Bytes of a variable, as a text. -/
theorem o_cvB {S T e : Nat} {x : Operand} {o m cap n : Nat} {l : List UInt8} {z : AV} (p : List Nat) (ho : ops[i]? = some ⟨some d, .convert S T x, ty, pos, af, g⟩) (hd : Nat.ble (d + 1) N.1 = true) (hg : G ops s g gs)
    (hx : s.val x = some (.bsl o m n cap)) (hob : s.obj o = some (.box z)) (hp : AV.get p z = some (.d (.bs n l), m)) (hS : slB P S = some e) (he : P.underlying e = some (.int .u8)) (hT : P.underlying T = some .string) :
    Valid P N ops i ⟨gs ++ opTmps x, [o], some (d, some (.d (.v (.string ⟨l.toArray⟩)))), []⟩ s :=
  valid_core ho rfl hd hg fun s' hs ho' cx a E _ hR => by
    have hob' : s'.obj o = some (.box z) := (ho' o (by simp)).trans hob
    obtain ⟨cs, k1, k2⟩ := hR.val ((val_agree hs).trans hx)
    cases k1 with
    | bsl q1 q2 =>
      rename_i b zz
      obtain ⟨b', zs, e', r1, r2, r3, r4⟩ := hR.objs _ _ hob'
      rw [q2] at r1; cases r1
      obtain ⟨c1, c2, c3, rfl, t2, t3⟩ := get_cr p r2 hp
      have hall : CellsAt E.w _ 0 (c1 ++ (c2 ++ c3)) := cells_at_block (sp := []) (by rw [List.append_nil]; exact r4)
      have h6 := hall.right.left
      rw [t2, Nat.zero_add] at h6
      cases t3 with
      | d t3 =>
        cases t3 with
        | bs hl =>
          have e1 : a.eval x = .slice (some ⟨b, m, none⟩) l.length cap := by rw [hl]; exact k2
          refine ⟨_, E, ?_, .of_sc rfl, r0_same hR⟩
          simp only [execOp]
          rw [e1, Sem.run_bind, run_convert_bytes_back E.w S T e ⟨b, m, none⟩ cap l (slB_under hS) he hT (fun j hj => by rw [add_addr]; exact h6 j _ (by simp [hj]; rfl))]
          rfl

end
end Go.Val
