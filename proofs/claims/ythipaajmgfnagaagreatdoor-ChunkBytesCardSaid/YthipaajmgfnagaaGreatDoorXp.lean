/- Bytes: of a variable's array, of an array in a row, of data; as texts; copied out of texts. -/
import Derived.Test.YthipaajmgfnagaaGreatDoorLc
import Derived.Test.YthipaajmgfnagaaGreatDoorLb
set_option linter.unusedSectionVars false
set_option linter.unusedVariables false
set_option linter.unusedSimpArgs false
namespace Go.Val
open Go.RowKit
variable [Drw]

theorem flat_mD {u : Nat} {κ β : Type} {ek : κ → D} {ev : β → D} {m : List (κ × β)} (hk : ∀ x, DFlat (ek x)) (hv : ∀ x, DFlat (ev x)) : OB.flat (.map u (mD ek ev m)) := by
  intro p hp
  obtain ⟨q, _, rfl⟩ := List.mem_map.1 hp
  exact ⟨hk q.1, hv q.2⟩

section
variable {P : Program} {N : Nat × Nat} {ops : Array Oper} {i : Nat} {s : St} {d : Nat} {ty : TypeId} {pos : String} {af : Array Edge} {g : Option (Nat × Bool)} {gs : List Nat}

theorem drs_u8 {I : Nat → Prop} {w : World} : ∀ l : List UInt8, DRs I w (l.map fun b => D.v (u8v b)) (l.map u8v)
  | [] => .nil
  | y :: l => DRs.cons (cs := [u8v y]) (.v rfl) (drs_u8 l)

/-- Data that are bytes, as a text. -/
theorem o_cvD {S T e : Nat} {x : Operand} {l : List UInt8} (ho : ops[i]? = some ⟨some d, .convert S T x, ty, pos, af, g⟩) (hd : Nat.ble (d + 1) N.1 = true) (hg : G ops s g gs)
    (hx : s.val x = some (.d (bytesD l))) (hS : slB P S = some e) (he : P.underlying e = some (.int .u8)) (hT : P.underlying T = some .string) :
    Valid P N ops i ⟨gs ++ opTmps x, [], some (d, some (.d (.v (.string ⟨l.toArray⟩)))), []⟩ s :=
  valid_pure ho hd hg fun s' hs cx a E hR => by
    obtain ⟨cs, k1, k2⟩ := hR.val ((val_agree hs).trans hx)
    refine ⟨.string ⟨l.toArray⟩, ?_, .of_sc (E := E) rfl⟩
    cases k1 with
    | d k1 =>
      unfold bytesD at k1
      generalize hr : l.map (fun b => D.v (u8v b)) = rows at k1
      cases k1 with
      | sl0 =>
        have : l = [] := by simpa using hr
        subst this
        rename_i ad cap
        have e1 : a.eval x = .slice ad 0 cap := k2
        simp only [execOp]
        rw [e1, Sem.run_bind, run_convert_bytes_string E.w S T e ad 0 cap (slB_under hS) he hT]
        cases ad with
        | none => rfl
        | some ad =>
          have hl := run_loadCells_list (P := P) E.w ad [] (by simp)
          rw [run_bytesToString (P := P) E.w ad 0 cap [] (by simpa using hl)]
          rfl
      | sl hI hb h1 hs' hc hcap =>
        subst hr
        have hcs := drs_bytes_eq h1
        subst hcs
        rename_i b off cap
        have e1 : a.eval x = .slice (some ⟨b, off, none⟩) l.length cap := by
          have := k2
          simp only [List.length_map] at this
          exact this
        simp only [execOp]
        rw [e1, Sem.run_bind, run_convert_bytes_back E.w S T e ⟨b, off, none⟩ cap l (slB_under hS) he hT (fun j hj => by rw [add_addr]; exact hc j _ (by simp [hj]; rfl))]
        rfl

/-- A text's bytes over those of an array. -/
def cpB (l b : List UInt8) : List UInt8 := b.take l.length ++ l.drop b.length
theorem cpB_len (l b : List UInt8) : (cpB l b).length = l.length := by
  simp only [cpB, List.length_append, List.length_take, List.length_drop]
  omega

theorem run_copy_str {w : World} {dT sT ty elem : TypeId} {g o dLen dCap : Nat} {t : ByteArray} {cur : Array Value} {et : TypeId} (hu : slB P dT = some elem) (hs : szB P elem = some 1) (hg : w.heap[g]? = some (.cells cur et (0, 0))) (hfit : o + dLen ≤ cur.size) :
    (Builtin.copy_ #[dT, sT] ty #[.slice (some ⟨g, o, none⟩) dLen dCap, .string t]).run P w =
      .ok (goInt (Nat.min t.size dLen)) (w.setRow g (cur.toList.take o ++ (t.data.toList.take (Nat.min t.size dLen)).map u8v ++ cur.toList.drop (o + Nat.min t.size dLen)).toArray) := by
  have hsz : t.data.toList.length = t.size := rfl
  have hlen : ((t.data.toList.take (Nat.min t.size dLen)).map u8v).length = Nat.min t.size dLen := by
    rw [List.length_map, List.length_take, hsz]
    exact Nat.min_eq_left (Nat.min_le_left _ _)
  have hle : Nat.min t.size dLen ≤ dLen := Nat.min_le_right _ _
  have hst := run_storeCells_at P g o et ((t.data.toList.take (Nat.min t.size dLen)).map u8v) 0 cur w hg (by rw [hlen]; simp; omega) (fun v hv => by obtain ⟨b, _, rfl⟩ := List.mem_map.1 hv; rfl)
  rw [hlen] at hst
  simp only [Nat.add_zero] at hst
  have htk : List.take (Nat.min t.size dLen) (List.map (fun b : UInt8 => Value.int IntKind.u8 (b.toNat : Int)) t.data.toList) = (t.data.toList.take (Nat.min t.size dLen)).map u8v := by
    rw [← List.map_take]
    rfl
  simp only [Builtin.copy_, Sem.run_bind]
  simp [run_underlying (slB_under hu), Builtin.lenOf, Builtin.firstCells, run_sizeOf_of hs, Result.andThen]
  rw [htk, hst]
  simp [Result.andThen]

end
end Go.Val

