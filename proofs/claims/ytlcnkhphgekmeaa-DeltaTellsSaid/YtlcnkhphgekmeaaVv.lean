/- bytes.Compare's entry. -/
import Derived.Test.YtlcnkhphgekmeaaVu
import Derived.Lib.Bytealg
set_option linter.unusedSectionVars false
set_option linter.unusedVariables false
set_option linter.unusedSimpArgs false
namespace Go.Val
open Go.RowKit
variable [Drw]

def bytesD (l : List UInt8) : D := .sl 1 (l.map fun b => .v (u8v b))

theorem run_loadBytes {P : Program} {w : World} {b : Nat} : ∀ (l : List UInt8) (off : Nat) (acc : List UInt8), CellsAt w b off (l.map u8v) → (Extern.Bytes.loadBytes ⟨b, off, none⟩ l.length ⟨acc.toArray⟩).run P w = .ok ⟨(acc ++ l).toArray⟩ w
  | [], off, acc, _ => by simp [Extern.Bytes.loadBytes, Sem.run_pure]
  | x :: l, off, acc, h => by
    have hc := h 0 (u8v x) (by simp)
    have hl : (load ⟨b, off, none⟩).run P w = .ok (u8v x) w := by
      rw [Nat.add_zero] at hc
      rw [run_load, hc]
    have ht : CellsAt w b (off + 1) (l.map u8v) := fun i v hi => by
      have := h (i + 1) v (by simpa using hi)
      rw [show off + 1 + i = off + (i + 1) from by omega]
      exact this
    have ih := run_loadBytes (P := P) l (off + 1) (acc ++ [x]) ht
    simp only [List.length_cons, Extern.Bytes.loadBytes, Sem.run_bind, hl, Result.andThen, u8v]
    have e1 : (⟨b, off, none⟩ : Addr).add 1 = ⟨b, off + 1, none⟩ := rfl
    have e2 : (ByteArray.mk acc.toArray).push (Int.toNat (x.toNat : Int)).toUInt8 = ByteArray.mk (acc ++ [x]).toArray := by
      simp [ByteArray.push, Nat.toUInt8]
    rw [e1, e2, ih]
    simp

theorem drs_bytes_eq {I : Nat → Prop} {w : World} : ∀ {l : List UInt8} {cs : List Value}, DRs I w (l.map fun b => D.v (u8v b)) cs → cs = l.map u8v
  | [], _, .nil => rfl
  | _ :: _, _, .cons (.v _) hs => by rw [drs_bytes_eq hs]; rfl

theorem run_bytesOf {P : Program} {I : Nat → Prop} {w : World} {l : List UInt8} {cs : List Value} (h : DR I w (bytesD l) cs) : (Extern.Bytes.bytesOf (mkV false cs)).run P w = .ok ⟨l.toArray⟩ w := by
  unfold bytesD at h
  generalize hr : l.map (fun b => D.v (u8v b)) = rows at h
  cases h with
  | sl0 =>
    have : l = [] := by simpa using hr
    subst this
    rename_i a cap
    cases a with
    | none => rfl
    | some a => rfl
  | sl hI hb h1 hs hc hcap =>
    subst hr
    have hcs := drs_bytes_eq h1
    subst hcs
    have := run_loadBytes (P := P) l _ [] hc
    rw [List.nil_append] at this
    show (Extern.Bytes.loadBytes _ (l.map fun b => D.v (u8v b)).length (ByteArray.mk #[])).run P w = _
    rw [List.length_map]
    exact this

section
variable {P : Program} {N : Nat × Nat} {ops : Array Oper} {i : Nat} {s : St} {d : Nat} {ty : TypeId} {pos : String} {af : Array Edge} {g : Option (Nat × Bool)} {gs : List Nat}

/-- bytealg.Compare. -/
theorem o_bcmp {f : FuncId} {x y : Operand} {ats : Array TypeId} {a b : List UInt8} (ho : ops[i]? = some ⟨some d, .call ⟨.value (.func f), #[x, y], ats⟩, ty, pos, af, g⟩) (hd : Nat.ble (d + 1) N.1 = true) (hg : G ops s g gs)
    (hcf : ∀ args w v, (Extern.BytealgCompare.compare args).run P w = .ok v w → (callFunc f args).run P w = .ok (.value v) w)
    (hx : s.val x = some (.d (bytesD a))) (hy : s.val y = some (.d (bytesD b))) :
    Valid P N ops i ⟨gs ++ (opTmps x ++ opTmps y), [], some (d, some (.d (.v (.int .i64 (Lib.compareBytes a b))))), []⟩ s :=
  valid_pure ho hd hg fun s' hs cx ac E hR => by
    obtain ⟨h1, h2⟩ := mem_app hs
    obtain ⟨c1, k1, e1⟩ := hR.val ((val_agree h1).trans hx)
    obtain ⟨c2, k2, e2⟩ := hR.val ((val_agree h2).trans hy)
    cases k1 with
    | d k1 => cases k2 with
      | d k2 =>
        have r1 := run_bytesOf (P := P) k1
        have r2 := run_bytesOf (P := P) k2
        have hc : (Extern.BytealgCompare.compare #[ac.eval x, ac.eval y]).run P E.w = .ok (.int .i64 (Lib.compareBytes a b)) E.w := by
          change Sem.run P (do pure (goInt (Extern.BytealgCompare.cmp (← Extern.Bytes.bytesOf (ac.eval x)) (← Extern.Bytes.bytesOf (ac.eval y))))) E.w = _
          rw [e1, e2]
          have r1' : (Extern.Bytes.bytesOf (mkV (AV.d (bytesD a)).isAgg c1)).run P E.w = .ok ⟨a.toArray⟩ E.w := r1
          have r2' : (Extern.Bytes.bytesOf (mkV (AV.d (bytesD b)).isAgg c2)).run P E.w = .ok ⟨b.toArray⟩ E.w := r2
          simp only [Sem.run_bind, r1', r2', Sem.run_pure, Result.andThen]
          rw [Lib.cmp_eq]
          rfl
        refine ⟨.int .i64 (Lib.compareBytes a b), ?_, .of_sc rfl⟩
        have := hcf _ _ _ hc
        have ef : ac.eval (.func f) = .func (.func f) #[] #[] := rfl
        simp only [execOp, resolve, ef, Deferred.ofValue, Sem.run_bind, Sem.run_pure, Result.andThen, invoke, List.map_toArray, List.map_cons, List.map_nil]
        simpa using this
end

theorem callFunc_ext {P : Program} {f : FuncId} {fn : Func} {e : Array Value → Sem Value} (hf : P.funcs[f]? = some fn) (h1 : (fn.name == "runtime.NumGoroutine") = false) (h2 : fn.body.isNone = true) (h3 : Extern.findNext fn = none) (h4 : Extern.find fn = some e) :
    ∀ args w v, (e args).run P w = .ok v w → (callFunc f args).run P w = .ok (.value v) w := by
  intro args w v h
  simp only [callFunc, Sem.run_bind, run_program, Result.andThen, hf, h1, h2, h3, h4, Bool.false_eq_true, if_false, if_true]
  simp [h, Result.andThen]


section
variable {P : Program} {N : Nat × Nat} {ops : Array Oper} {i : Nat} {s : St} {d : Nat} {ty : TypeId} {pos : String} {af : Array Edge} {g : Option (Nat × Bool)} {gs : List Nat}
/-- A function that has taken one value. -/
theorem o_fn1 {f : FuncId} {x : Operand} {y : AV} (ho : ops[i]? = some ⟨some d, .makeFunc (.func f) #[] #[x], ty, pos, af, g⟩) (hd : Nat.ble (d + 1) N.1 = true) (hg : G ops s g gs) (hx : s.val x = some y) :
    Valid P N ops i ⟨gs ++ opTmps x, [], some (d, some (.fn f [] [y])), []⟩ s :=
  valid_pure ho hd hg fun s' hs cx a E hR => by
    obtain ⟨c, h1, h2⟩ := hR.val ((val_agree hs).trans hx)
    refine ⟨.func (.func f) #[] #[a.eval x], ?_, _, .fn (xs := []) (ys := [a.eval x]) .nil (by rw [h2]; exact .cons h1 .nil), rfl⟩
    simp [execOp, Instr.makeFunc]
end

end Go.Val
