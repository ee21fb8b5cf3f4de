/- Interfaces: a variable of one's own behind one; nil. -/
import Derived.Test.YtmibkdnmjjdelaaLc
set_option linter.unusedSectionVars false
set_option linter.unusedVariables false
set_option linter.unusedSimpArgs false
namespace Go.Val
open Go.RowKit
variable [Drw]

theorem Hand.ip {s : St} {oin : Nat → Option OB} {σ : Nat → Nat} {t o n k : Nat} (h : σ o = k) : Hand s oin σ (.ifc t (.ptr k n)) (.ifc t (.ptr o n)) false [] := by subst h; exact .same (y := .ifc t (.ptr o n))

section
variable {P : Program} {N : Nat × Nat} {ops : Array Oper} {i : Nat} {s : St} {d : Nat} {ty : TypeId} {pos : String} {af : Array Edge} {g : Option (Nat × Bool)} {gs : List Nat}

theorem eqIn_nilnil {T : TypeId} {ms : Array (String × TypeId)} (hT : P.underlying T = some (.interface ms)) (dd : Nat) (w : World) : (Op.equalIn (dd + 1) T .nilIface .nilIface).run P w = .ok true w := by
  simp [Op.equalIn, run_underlying hT, Result.andThen]

/-- An interface that is nil, against nil. -/
theorem o_ifnilT {T T' : TypeId} {x : Operand} (ho : ops[i]? = some ⟨some d, .binOp .eql T x (.const .nilIface) T', ty, pos, af, g⟩) (hd : Nat.ble (d + 1) N.1 = true) (hg : G ops s g gs)
    (hx : s.val x = some (.d (.v .nilIface))) (hT : ifcB P T = true) :
    Valid P N ops i ⟨gs ++ opTmps x, [], some (d, some (.d (.v (.bool true)))), []⟩ s :=
  valid_pure ho hd hg fun s' hs cx a E hR => by
    unfold ifcB at hT
    split at hT
    · rename_i ms hT'
      have e : a.eval x = .nilIface := by
        obtain ⟨cs, h1, h2⟩ := hR.val ((val_agree hs).trans hx)
        cases h1 with
        | d h1 => cases h1 with
          | v _ => exact h2
      refine ⟨.bool true, ?_, .of_sc (E := E) rfl⟩
      have hq : ∀ w, (Op.equalIn Op.maxDepth T .nilIface .nilIface).run P w = .ok true w := fun w => eqIn_nilnil hT' 9999 w
      simp only [execOp, e]
      simp [eqGuard, binOp, Op.equal, hq, Act.eval, Result.andThen]
    · cases hT
end

end Go.Val

