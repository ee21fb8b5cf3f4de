/- Walks of the program's functions,printed. -/
import Derived.Test.YtfbnhflapgddbaaLe
import Derived.Test.YtfbnhflapgddbaaLc
import Derived.Test.YtfbnhflapgddbaaProg
import Derived.KernelRfl
set_option linter.unusedSectionVars false
set_option linter.unusedVariables false
set_option linter.unusedSimpArgs false
set_option maxRecDepth 100000
namespace Go.Val
abbrev B8 : Type := List UInt8
abbrev VwT : Type := ((List (B8 × ByteArray)) × (List (B8 × (B8 × ByteArray × Bool))) × (List (B8 × B8 × Bool)) × (List (List (B8 × (B8 × ByteArray × Bool)))))
abbrev WwT : Type := ((List (B8 × ByteArray)) × (List (B8 × ByteArray × Bool)) × (List (B8 × B8 × Bool)) × (List (List (B8 × ByteArray × Bool))))
open Go.RowKit Go.Proofs
abbrev ttN := (Int × (List (B8 × ByteArray)) × (List (B8 × Int)))
abbrev ttM := ((Int × (List (Int × Int)) × Int) × (List (Int × ttN)))
abbrev ttP := (B8 × Int × (Option Fr))
abbrev ttS := (B8 × B8 × Bool)
abbrev ttC := (B8 × ByteArray × Bool)
abbrev ttR := (B8 × ByteArray)
abbrev ttK := (B8 × Int)
def eK : B8 → D := fun l => .bs 24 l
def eint : Int → D := fun n => .v (.int .i64 n)
def qY : (Option Fr) → D := eFo
def qf : ttP → D := fun p => .st [eK p.1,eint p.2.1,qY p.2.2]
def qk : (List ttP) → D := fun xs => .sl 26 (xs.map qf)
def qU : Bool → D := fun b => .v (.bool b)
def eSp : ttS → D := fun p => .st [eK p.1,eK p.2.1,qU p.2.2]
def ql : (Int × (List (Int × Int)) × Int) → OD := fun p => .st [.av (.d (eint p.1)),.map (mD eint eint p.2.1),.av (.d (eint p.2.2))]
def eStr : ByteArray → D := fun b => .v (.string b)
def ePr : ttR → D := fun p => .st [eK p.1,eStr p.2]
def eSP_ : (List ttR) → D := fun xs => .sl 25 (xs.map ePr)
def qP : ttK → D := fun p => .st [eK p.1,eint p.2]
def qv0 : (List ttK) → D := fun xs => .sl 25 (xs.map qP)
def eCg : ttC → D := fun p => .st [eK p.1,eStr p.2.1,qU p.2.2]
def eSC : (List ttC) → D := fun xs => .sl 26 (xs.map eCg)
def qm : ttN → D := fun p => .st [eint p.1,eSP_ p.2.1,qv0 p.2.2]
def qc : ttM → OD := fun p => .st [.box (ql p.1),.map (mD eint qm p.2)]
def eErr : Int → D := fun n => .v (.int .i64 n)
def qp : (Int × ttN) → D := fun p => .st [eint p.1,qm p.2]
def qp4 : (List (Int × ttN)) → D := fun xs => .sl 4 (xs.map qp)
def qN : (List (Int × ttN)) → D := fun p => .st [qp4 p]
def q70 : (B8 × Bool) → D := fun p => .st [eK p.1,qU p.2]
def qe2 : (List (List ttR)) → D := fun xs => .sl 1 (xs.map eSP_)
def qB1 : (List (List ttP)) → D := fun xs => .sl 1 (xs.map qk)
def qW : (Int × (List ttR) × (List ttP)) → D := fun p => .st [eint p.1,eSP_ p.2.1,qk p.2.2]
def qd (k0 : Nat) : (List Int) → OD := fun p => .st [.av (.ifc 24 (.ptr k0 0)),.arr 1 (List.map eint p)]
def qC2 : (Int × (List ttR) × (List ttP)) → OD := fun p => .st [.av (.d (eint p.1)),.av (.d (eSP_ p.2.1)),.arr 26 (List.map qf p.2.2)]
def q12 : ((Option Fr) × (Option Fr)) → D := fun p => .st [qY p.1,qY p.2]
def qh4 : ttN → OD := fun p => .st [.av (.d (eint p.1)),.av (.d (eSP_ p.2.1)),.arr 25 (List.map qP p.2.2)]
def qt : (List (Int × ttN)) → OD := fun p => .st [.arr 4 (List.map qp p)]
section
variable [Drw]
theorem mixed : Try.prog.follows .mixedOrders = true := by kernel_rfl
theorem cf81 : ∀ args w v,(Extern.BytealgCompare.compare args).run Try.prog w = .ok v w → (callFunc 81 args).run Try.prog w = .ok (.value v) w := callFunc_ext Try.func81 rfl rfl (by kernel_rfl) (by kernel_rfl)
theorem ar31 : arB Try.prog 31 = some (24,5) := by kernel_rfl
theorem sz5 : szB Try.prog 5 = some 1 := by kernel_rfl
theorem ta31 : TA Try.prog 31 true 24 := ⟨by kernel_rfl,by kernel_rfl⟩
theorem fld38_0 : fldB Try.prog 38 0 = some (0,24) := by kernel_rfl
theorem fld38_2 : fldB Try.prog 38 2 = some (48,1) := by kernel_rfl
theorem ta4 : TA Try.prog 4 false 1 := ⟨by kernel_rfl,by kernel_rfl⟩
theorem fld38_1 : fldB Try.prog 38 1 = some (24,24) := by kernel_rfl
theorem qe : ∀ p,(ql p).dat := fun _ => ⟨trivial,trivial,trivial,trivial⟩
theorem zo126 : Zero Try.prog 126 (.st [eint 0,.v (.map none),eint 0]) := Zero.of _ (fun _ _ => .st (.cons (.v rfl) (.cons (.v rfl) (.cons (.v rfl) (.nil))))) (by kernel_rfl)
theorem pl126 : qc2 Try.prog 126 = some [(0,1),(1,1),(2,1)] := by kernel_rfl
theorem qF3 : fldB Try.prog 126 2 = some (2,1) := by kernel_rfl
theorem ta3 : TA Try.prog 3 false 1 := ⟨by kernel_rfl,by kernel_rfl⟩
theorem fld126_0 : fldB Try.prog 126 0 = some (0,1) := by kernel_rfl
theorem qo3 : fldB Try.prog 126 1 = some (1,1) := by kernel_rfl
theorem ta124 : TA Try.prog 124 false 1 := ⟨by kernel_rfl,by kernel_rfl⟩
theorem mp124 : mpB Try.prog 124 = some (3,3) := by kernel_rfl
theorem un3 : Try.prog.underlying 3 = some (.int .i64) := by kernel_rfl
theorem kl3 : KL Try.prog 3 eint := KL.int un3
theorem ze3 : Zero Try.prog 3 (eint 0) := Zero.of _ (fun _ _ => .v rfl) (by kernel_rfl)
theorem sz3 : szB Try.prog 3 = some 1 := by kernel_rfl
theorem sl34 : slB Try.prog 34 = some 52 := by kernel_rfl
theorem sz52 : szB Try.prog 52 = some 25 := by kernel_rfl
theorem ze52 : Zero Try.prog 52 (ePr ((List.replicate 24 0),(ByteArray.mk #[]))) := Zero.of _ (fun _ _ => .st (.cons (.bs rfl) (.cons (.v rfl) (.nil)))) (by kernel_rfl)
theorem q72 : ∀ x,(ePr x).size = 25 := fun _ => rfl
theorem by52 : qi5 Try.prog 52 = some 40 := by kernel_rfl
theorem sl44 : slB Try.prog 44 = some 69 := by kernel_rfl
theorem sz69 : szB Try.prog 69 = some 25 := by kernel_rfl
theorem ze69 : Zero Try.prog 69 (qP ((List.replicate 24 0),0)) := Zero.of _ (fun _ _ => .st (.cons (.bs rfl) (.cons (.v rfl) (.nil)))) (by kernel_rfl)
theorem siapiKid : ∀ x,(qP x).size = 25 := fun _ => rfl
theorem by69 : qi5 Try.prog 69 = some 32 := by kernel_rfl
theorem sl22 : slB Try.prog 22 = some 33 := by kernel_rfl
theorem sz33 : szB Try.prog 33 = some 26 := by kernel_rfl
theorem ze33 : Zero Try.prog 33 (eCg ((List.replicate 24 0),(ByteArray.mk #[]),false)) := Zero.of _ (fun _ _ => .st (.cons (.bs rfl) (.cons (.v rfl) (.cons (.v rfl) (.nil))))) (by kernel_rfl)
theorem qb0 : ∀ x,(eCg x).size = 26 := fun _ => rfl
theorem by33 : qi5 Try.prog 33 = some 48 := by kernel_rfl
theorem ze46 : Zero Try.prog 46 (qm (0,[],[])) := Zero.of _ (fun _ _ => .st (.cons (.v rfl) (.cons ((.sl0 (a := none) (cap := 0))) (.cons ((.sl0 (a := none) (cap := 0))) (.nil))))) (by kernel_rfl)
theorem qE0 : fldB Try.prog 46 0 = some (0,1) := by kernel_rfl
theorem qr1 : fldB Try.prog 46 1 = some (1,1) := by kernel_rfl
theorem ta34 : TA Try.prog 34 false 1 := ⟨by kernel_rfl,by kernel_rfl⟩
theorem qo0 : fldB Try.prog 46 2 = some (2,1) := by kernel_rfl
theorem ta44 : TA Try.prog 44 false 1 := ⟨by kernel_rfl,by kernel_rfl⟩
theorem zs46 : Zero Try.prog 46 (.st [eint 0,eSP_ ([]),qv0 ([])]) := ze46
theorem pl46 : qc2 Try.prog 46 = some [(0,1),(1,1),(2,1)] := by kernel_rfl
theorem sz46 : szB Try.prog 46 = some 3 := by kernel_rfl
theorem ta46 : TA Try.prog 46 true 3 := ⟨by kernel_rfl,by kernel_rfl⟩
theorem q9 : ∀ p,(qc p).dat := fun _ => ⟨qe _,trivial,trivial⟩
theorem fld88_0 : fldB Try.prog 88 0 = some (0,1) := by kernel_rfl
theorem ta84 : TA Try.prog 84 false 1 := ⟨by kernel_rfl,by kernel_rfl⟩
theorem zo88 : Zero Try.prog 88 (.st [.v (.pointer none),.v (.map none)]) := Zero.of _ (fun _ _ => .st (.cons (.v rfl) (.cons (.v rfl) (.nil)))) (by kernel_rfl)
theorem pl88 : qc2 Try.prog 88 = some [(0,1),(1,1)] := by kernel_rfl
theorem fld88_1 : fldB Try.prog 88 1 = some (1,1) := by kernel_rfl
theorem ta86 : TA Try.prog 86 false 1 := ⟨by kernel_rfl,by kernel_rfl⟩
theorem mp86 : mpB Try.prog 86 = some (3,46) := by kernel_rfl
theorem fld52_1 : fldB Try.prog 52 1 = some (24,1) := by kernel_rfl
theorem ta9 : TA Try.prog 9 false 1 := ⟨by kernel_rfl,by kernel_rfl⟩
theorem un9 : Try.prog.underlying 9 = some .string := by kernel_rfl
theorem ta52 : TA Try.prog 52 true 25 := ⟨by kernel_rfl,by kernel_rfl⟩
theorem ze31 : Zero Try.prog 31 (eK (List.replicate 24 0)) := Zero.of _ (fun _ _ => .bs rfl) (by kernel_rfl)
theorem qD4 : fldB Try.prog 52 0 = some (0,24) := by kernel_rfl
theorem sz31 : szB Try.prog 31 = some 24 := by kernel_rfl
theorem qN2 : fldB Try.prog 69 0 = some (0,24) := by kernel_rfl
theorem ta69 : TA Try.prog 69 true 25 := ⟨by kernel_rfl,by kernel_rfl⟩
theorem qM2 : fldB Try.prog 69 1 = some (24,1) := by kernel_rfl
theorem mp159 : mpB Try.prog 159 = some (3,4) := by kernel_rfl
theorem ze4 : Zero Try.prog 4 (qU false) := Zero.of _ (fun _ _ => .v rfl) (by kernel_rfl)
theorem q84 : fldB Try.prog 64 0 = some (0,1) := by kernel_rfl
theorem ta62 : TA Try.prog 62 false 1 := ⟨by kernel_rfl,by kernel_rfl⟩
theorem sl62 : slB Try.prog 62 = some 66 := by kernel_rfl
theorem sz66 : szB Try.prog 66 = some 4 := by kernel_rfl
theorem fld66_0 : fldB Try.prog 66 0 = some (0,1) := by kernel_rfl
theorem fld66_1 : fldB Try.prog 66 1 = some (1,3) := by kernel_rfl
theorem fld115_1 : fldB Try.prog 115 1 = some (24,1) := by kernel_rfl
theorem fld115_0 : fldB Try.prog 115 0 = some (0,24) := by kernel_rfl
theorem hm64_Get : ∀ (v : Value) w,Sem.run Try.prog (Go.method (Try.prog.types.size + Made.depth) 64 v "Get") w = Result.ok (134,v) w := fun _ _ => by kernel_rfl
theorem ta115 : TA Try.prog 115 true 25 := ⟨by kernel_rfl,by kernel_rfl⟩
theorem ze115 : Zero Try.prog 115 (q70 ((List.replicate 24 0),false)) := Zero.of _ (fun _ _ => .st (.cons (.bs rfl) (.cons (.v rfl) (.nil)))) (by kernel_rfl)
theorem sz115 : szB Try.prog 115 = some 25 := by kernel_rfl
theorem zs115 : Zero Try.prog 115 (.st [eK (List.replicate 24 0),qU false]) := ze115
theorem pl115 : qc2 Try.prog 115 = some [(0,24),(24,1)] := by kernel_rfl
theorem un5 : Try.prog.underlying 5 = some (.int .u8) := by kernel_rfl
theorem eg31 : Program.eqGuardType Try.prog (Program.depth Try.prog) 31 = false := by kernel_rfl
theorem qr4 : ∀ (v : Addr) w,Sem.run Try.prog (Go.method (Try.prog.types.size + Made.depth) 24 (.pointer (some v)) "Get") w = Result.ok (23,Value.pointer (some v)) w := fun _ _ => by kernel_rfl
theorem ta33 : TA Try.prog 33 true 26 := ⟨by kernel_rfl,by kernel_rfl⟩
theorem fld33_1 : fldB Try.prog 33 1 = some (24,1) := by kernel_rfl
theorem sz9 : szB Try.prog 9 = some 1 := by kernel_rfl
theorem ze38 : Zero Try.prog 38 (eSp ((List.replicate 24 0),(List.replicate 24 0),false)) := Zero.of _ (fun _ _ => .st (.cons (.bs rfl) (.cons (.bs rfl) (.cons (.v rfl) (.nil))))) (by kernel_rfl)
theorem zs38 : Zero Try.prog 38 (.st [eK (List.replicate 24 0),eK (List.replicate 24 0),qU false]) := ze38
theorem pl38 : qc2 Try.prog 38 = some [(0,24),(24,24),(48,1)] := by kernel_rfl
theorem sz38 : szB Try.prog 38 = some 49 := by kernel_rfl
theorem ta38 : TA Try.prog 38 true 49 := ⟨by kernel_rfl,by kernel_rfl⟩
theorem un82 : Try.prog.underlying 82 = some (.int .u64) := by kernel_rfl
theorem hm24_Inc : ∀ (v : Addr) w,Sem.run Try.prog (Go.method (Try.prog.types.size + Made.depth) 24 (.pointer (some v)) "Inc") w = Result.ok (119,Value.pointer (some v)) w := fun _ _ => by kernel_rfl
theorem hm24_Dec : ∀ (v : Addr) w,Sem.run Try.prog (Go.method (Try.prog.types.size + Made.depth) 24 (.pointer (some v)) "Dec") w = Result.ok (118,Value.pointer (some v)) w := fun _ _ => by kernel_rfl
theorem fld33_2 : fldB Try.prog 33 2 = some (25,1) := by kernel_rfl
theorem qf5 : fldB Try.prog 33 0 = some (0,24) := by kernel_rfl
theorem zs52 : Zero Try.prog 52 (.st [eK (List.replicate 24 0),eStr (ByteArray.mk #[])]) := ze52
theorem pl52 : qc2 Try.prog 52 = some [(0,24),(24,1)] := by kernel_rfl
theorem sl129 : slB Try.prog 129 = some 34 := by kernel_rfl
theorem sz34 : szB Try.prog 34 = some 1 := by kernel_rfl
theorem ze34 : Zero Try.prog 34 (eSP_ ([])) := Zero.of _ (fun _ _ => (.sl0 (a := none) (cap := 0))) (by kernel_rfl)
theorem siSapiPair : ∀ x,(eSP_ x).size = 1 := fun _ => rfl
theorem by34 : qi5 Try.prog 34 = some 24 := by kernel_rfl
theorem sl95 : slB Try.prog 95 = some 101 := by kernel_rfl
theorem qj2 : szB Try.prog 101 = some 26 := by kernel_rfl
theorem sl155 : slB Try.prog 155 = some 95 := by kernel_rfl
theorem sz95 : szB Try.prog 95 = some 1 := by kernel_rfl
theorem ze95 : Zero Try.prog 95 (qk ([])) := Zero.of _ (fun _ _ => (.sl0 (a := none) (cap := 0))) (by kernel_rfl)
theorem qU4 : ∀ x,(qk x).size = 1 := fun _ => rfl
theorem by95 : qi5 Try.prog 95 = some 24 := by kernel_rfl
theorem qj5 : Zero Try.prog 101 (qf ((List.replicate 24 0),0,(none : Option Fr))) := Zero.of _ (fun _ _ => .st (.cons (.bs rfl) (.cons (.v rfl) (.cons (.v rfl) (.nil))))) (by kernel_rfl)
theorem qE : ∀ x,(qY x).size = 1 := eFo_size
theorem zs101 : Zero Try.prog 101 (.st [eK (List.replicate 24 0),eint 0,qY (none : Option Fr)]) := qj5
theorem pl101 : qc2 Try.prog 101 = some [(0,24),(24,1),(25,1)] := by kernel_rfl
theorem qq : ∀ x,(qf x).size = 26 := by intro x; rcases x with ⟨_,_,(_ | _)⟩ <;> rfl
theorem qf4 : fldB Try.prog 132 1 = some (1,1) := by kernel_rfl
theorem fld101_0 : fldB Try.prog 101 0 = some (0,24) := by kernel_rfl
theorem q42 : fldB Try.prog 132 2 = some (2,1) := by kernel_rfl
theorem ta95 : TA Try.prog 95 false 1 := ⟨by kernel_rfl,by kernel_rfl⟩
theorem qA5 : TA Try.prog 101 true 26 := ⟨by kernel_rfl,by kernel_rfl⟩
theorem qb5 : fldB Try.prog 132 0 = some (0,1) := by kernel_rfl
theorem ze132 : Zero Try.prog 132 (qW (0,[],[])) := Zero.of _ (fun _ _ => .st (.cons (.v rfl) (.cons ((.sl0 (a := none) (cap := 0))) (.cons ((.sl0 (a := none) (cap := 0))) (.nil))))) (by kernel_rfl)
theorem zs132 : Zero Try.prog 132 (.st [eint 0,eSP_ ([]),qk ([])]) := ze132
theorem pl132 : qc2 Try.prog 132 = some [(0,1),(1,1),(2,1)] := by kernel_rfl
theorem by101 : qi5 Try.prog 101 = some 40 := by kernel_rfl
theorem qQ1 : fldB Try.prog 101 2 = some (25,1) := by kernel_rfl
theorem qX : ∀ x,(qY x).isAgg = false := eFo_agg
theorem ta99 : TA Try.prog 99 false 1 := ⟨by kernel_rfl,by kernel_rfl⟩
theorem up99 : Try.prog.underlying 99 = some (.pointer 132) := by kernel_rfl
theorem fld93_0 : fldB Try.prog 93 0 = some (0,1) := by kernel_rfl
theorem ta90 : TA Try.prog 90 false 1 := ⟨by kernel_rfl,by kernel_rfl⟩
theorem zo132 : Zero Try.prog 132 (.st [eint 0,eSP_ ([]),.v (.slice none 0 0)]) := Zero.of _ (fun _ _ => .st (.cons (.v rfl) (.cons ((.sl0 (a := none) (cap := 0))) (.cons (.v rfl) (.nil))))) (by kernel_rfl)
theorem qP1 : ∀ p,(qC2 p).dat := fun _ => ⟨trivial,trivial,trivial,trivial⟩
theorem ze166 : Zero Try.prog 166 (q12 ((none : Option Fr),(none : Option Fr))) := Zero.of _ (fun _ _ => .st (.cons (.v rfl) (.cons (.v rfl) (.nil)))) (by kernel_rfl)
theorem ar166 : arB Try.prog 166 = some (2,99) := by kernel_rfl
theorem sz99 : szB Try.prog 99 = some 1 := by kernel_rfl
theorem fld101_1 : fldB Try.prog 101 1 = some (24,1) := by kernel_rfl
theorem gt166_1 : ∀ x,AV.get [1] (.d (q12 x)) = some (.d (qY x.2),1) := by intro x; rcases x with ⟨(_ | _),(_ | _)⟩ <;> rfl
theorem fld93_1 : fldB Try.prog 93 1 = some (1,1) := by kernel_rfl
theorem ta59 : TA Try.prog 59 false 1 := ⟨by kernel_rfl,by kernel_rfl⟩
theorem sl59 : slB Try.prog 59 = some 3 := by kernel_rfl
theorem siint : ∀ x,(eint x).size = 1 := fun _ => rfl
theorem by3 : qi5 Try.prog 3 = some 8 := by kernel_rfl
theorem sz59 : szB Try.prog 59 = some 1 := by kernel_rfl
theorem zo46 : Zero Try.prog 46 (.st [eint 0,eSP_ ([]),.v (.slice none 0 0)]) := Zero.of _ (fun _ _ => .st (.cons (.v rfl) (.cons ((.sl0 (a := none) (cap := 0))) (.cons (.v rfl) (.nil))))) (by kernel_rfl)
theorem zs69 : Zero Try.prog 69 (.st [eK (List.replicate 24 0),eint 0]) := ze69
theorem pl69 : qc2 Try.prog 69 = some [(0,24),(24,1)] := by kernel_rfl
theorem sz44 : szB Try.prog 44 = some 1 := by kernel_rfl
theorem qA2 : ∀ p,(qh4 p).dat := fun _ => ⟨trivial,trivial,trivial,trivial⟩
theorem hm24_Put : ∀ (v : Addr) w,Sem.run Try.prog (Go.method (Try.prog.types.size + Made.depth) 24 (.pointer (some v)) "Put") w = Result.ok (120,Value.pointer (some v)) w := fun _ _ => by kernel_rfl
theorem zo93 : Zero Try.prog 93 (.st [.v .nilIface,.v (.slice none 0 0)]) := Zero.of _ (fun _ _ => .st (.cons (.v rfl) (.cons (.v rfl) (.nil)))) (by kernel_rfl)
theorem pl93 : qc2 Try.prog 93 = some [(0,1),(1,1)] := by kernel_rfl
theorem up24 : Try.prog.underlying 24 = some (.pointer 88) := by kernel_rfl
theorem ifB24 : ifB Try.prog 24 = false := by kernel_rfl
theorem zs33 : Zero Try.prog 33 (.st [eK (List.replicate 24 0),eStr (ByteArray.mk #[]),qU false]) := ze33
theorem pl33 : qc2 Try.prog 33 = some [(0,24),(24,1),(25,1)] := by kernel_rfl
theorem zo64 : Zero Try.prog 64 (.st [.v (.slice none 0 0)]) := Zero.of _ (fun _ _ => .st (.cons (.v rfl) (.nil))) (by kernel_rfl)
theorem pl64 : qc2 Try.prog 64 = some [(0,1)] := by kernel_rfl
theorem ze64 : Zero Try.prog 64 (qN ([])) := Zero.of _ (fun _ _ => .st (.cons ((.sl0 (a := none) (cap := 0))) (.nil))) (by kernel_rfl)
theorem sz64 : szB Try.prog 64 = some 1 := by kernel_rfl
theorem qo : ∀ p,(qt p).dat := fun _ => ⟨trivial,trivial⟩
theorem ze66 : Zero Try.prog 66 (qp (0,(0,[],[]))) := Zero.of _ (fun _ _ => .st (.cons (.v rfl) (.cons (.st (.cons (.v rfl) (.cons ((.sl0 (a := none) (cap := 0))) (.cons ((.sl0 (a := none) (cap := 0))) (.nil))))) (.nil)))) (by kernel_rfl)
theorem zs66 : Zero Try.prog 66 (.st [eint 0,qm (0,[],[])]) := ze66
theorem pl66 : qc2 Try.prog 66 = some [(0,1),(1,3)] := by kernel_rfl
theorem qx1 : ∀ x,(qp x).size = 4 := fun _ => rfl
theorem by66 : qi5 Try.prog 66 = some 64 := by kernel_rfl
theorem sz62 : szB Try.prog 62 = some 1 := by kernel_rfl
theorem ta64 : TA Try.prog 64 true 1 := ⟨by kernel_rfl,by kernel_rfl⟩
theorem ifB64 : ifB Try.prog 64 = false := by kernel_rfl
end
section
variable [NoDrw]
noncomputable def qT (a0 : List UInt8) (a1 : List UInt8) : Option Int := some (Lib.compareBytes a0 a1)
noncomputable def qu (a0 : List UInt8) (a1 : List UInt8) : Option Int := (qT a0 a1).bind fun x0 => some x0
noncomputable def qe5 (a0 : ttS) (a1 : List UInt8) : Option Bool := ((((qu a1 a0.1).bind fun x0 => cond (decide (x0 ≥ 0)) (cond a0.2.2 (some true) ((qu a1 a0.2.1).bind fun x1 => some (decide (x1 < 0)))) (some false)) : Option Bool)).bind fun o0 => some o0
noncomputable def refs_New (a0 : Int) : Option (Int × (List (Int × Int)) × Int) := some ((min (max a0 2) 4294967296),[],2)
noncomputable def qp1 (a0 : (Int × (List (Int × Int)) × Int)) : Option (Int × Bool × (Int × (List (Int × Int)) × Int)) := (((qJ (V := (Int × (List (Int × Int)) × Int)) (O := ((Int × (List (Int × Int)) × Int) ⊕ (Int × Bool × (Int × (List (Int × Int)) × Int)))) (fun v0 => cond (decide (v0.2.2 < v0.1)) (cond (decide (((mget v0.2.1 v0.2.2).getD 0) = 0)) (
     some (.inr (.inr (v0.2.2,true,(v0.1,(mset v0.2.1 v0.2.2 1),(IntKind.wrap .i64 (v0.2.2 + 1))))))) (some (.inl (v0.1,v0.2.1,(IntKind.wrap .i64 (v0.2.2 + 1)))))) (some (.inr (.inl (v0.1,v0.2.1,v0.2.2))))) a0) : Option ((Int × (List (Int × Int)) × Int) ⊕ (Int × Bool × (Int × (List (Int × Int)) × Int))))).bind fun o0 => Sum.elim (fun (v1 : (Int × (List (Int × Int)) × Int)) =>
  some (0,false,v1)) (fun w0 => some w0) o0
noncomputable def qM0 (a0 : (Int × (List (Int × Int)) × Int)) (a1 : Int) : Option (Int × (Int × (List (Int × Int)) × Int)) := some (((mget a0.2.1 a1).getD 0),(a0.1,a0.2.1,a0.2.2))
noncomputable def qX1 (a0 : (Int × (List (Int × Int)) × Int)) : Option (Int × (Int × (List (Int × Int)) × Int)) := some ((IntKind.wrap .i64 ((IntKind.wrap .i64 (a0.1 - 2)) - (a0.2.1.length : Int))),(a0.1,a0.2.1,a0.2.2))
def qM1 (a0 : List ttR) : Option (List ttR) := (fits (([] : List ttR).length + a0.length) 40).bind fun _ => some a0
def qN1 (a0 : List ttK) : Option (List ttK) := (fits (([] : List ttK).length + a0.length) 32).bind fun _ => some a0
def qT1 (a0 : List ttC) : Option (List ttC) := (fits (([] : List ttC).length + a0.length) 48).bind fun _ => some a0
noncomputable def qn3 (a0 : ttN) : Option ttN := (qM1 a0.2.1).bind fun x0 => (qN1 a0.2.2).bind fun x1 => some (a0.1,x0,x1)
noncomputable def qJ0 (a0 : ttM) (a1 : Int) : Option (Int × ttM) := (qM0 a0.1 a1).bind fun x0 => some (x0.1,(x0.2,a0.2))
noncomputable def qU0 (a0 : ttM) : Option (Int × ttM) := (qX1 a0.1).bind fun x0 => some (x0.1,(x0.2,a0.2))
noncomputable def qK0 (a0 : Int) : Option ttM := (refs_New (IntKind.wrap .i64 (2 + (min (max a0 0) 1048576)))).bind fun x0 => some (x0,[])
noncomputable def qx (a0 : ttM) (a1 : Int) : Option (ttN × Int × ttM) := (qM0 a0.1 a1).bind fun x0 => cond (decide (x0.1 = 0)) (some ((0,[],[]),12,(x0.2,a0.2))) ((qn3 ((mget a0.2 a1).getD (0,[],[]))).bind fun x1 => some (x1,0,(x0.2,a0.2)))
theorem qy2 {a0 : List UInt8} {a1 : List UInt8} {r : Int} (h : qT a0 a1 = some r) : FnOk Try.prog 65 [.d (bytesD a0),.d (bytesD a1)] 0 (lk []) (fun rr oo => rr = .d (eint r) ∧ oo = lk []) := by
 refine fnO Try.func65 rfl rfl (cwP ?_)
 unfold qT at h
 refine cwS (cwR (
  .c (uA rfl)<|.nil rfl) ?_)
 refine cwS (cwR (
  .c (uM rfl)<|
  .c (uM rfl)<|
  .c (o_bcmp (a := a0) (b := a1) rfl rfl .no cf81 rfl rfl)<|
  .c (uA rfl)<|.nil rfl) ?_)
 have heq := ((sJ h)).symm
 subst heq
 exact qw ⟨_,(show Leads _ _ (St.of [(4,.d (eint (Lib.compareBytes a0 a1)))] []) from .w (wkF ⟨wD rfl,trivial⟩ trivial qG)),.inr rfl,_,res1 rfl rfl,rfl,rfl⟩
theorem q90 {a0 : List UInt8} {a1 : List UInt8} {r : Int} (h : qu a0 a1 = some r) : FnOk Try.prog 43 [.d (eK a0),.d (eK a1)] 0 (lk []) (fun rr oo => rr = .d (eint r) ∧ oo = lk []) := by
 refine fnO Try.func43 rfl rfl (cwP ?_)
 unfold qu at h
 refine cwS (cwR (
  .c (uX 0 rfl)<|
  .c (uX 1 rfl)<|
  .c (uA rfl)<|.nil rfl) ?_)
 have ⟨x0,hx0,h0⟩ := bdS (x := qT a0 a1) h
 refine cwS (cwRA mixed (by kernel_rfl) (
  .c (o_slP rfl rfl .no rfl ar31 sz5 .no .no (by decide) (by decide) (by decide))<|
  .c (o_slP rfl rfl .no rfl ar31 sz5 .no .no (by decide) (by decide) (by decide))<|
  .c (qe0 rfl rfl .no Try.func65 rfl rfl (qy2 hx0) (.cons rfl (.bsl [] rfl rfl rfl) (.cons rfl (.bsl [] rfl rfl rfl) .nil)) ⟨trivial,trivial,trivial⟩ (.inr (DFlat.v _)))<|
  .c (uA rfl)<|.nil rfl) (by kernel_rfl) ?_)
 have heq := ((sJ h0)).symm
 subst heq
 exact qw ⟨_,(show Leads _ _ (St.of [(4,.d (eint x0))] []) from .w (wkF ⟨wD rfl,trivial⟩ trivial qG)),.inr rfl,_,res1 rfl rfl,rfl,rfl⟩
theorem tree_in_ok {a0 : ttS} {a1 : List UInt8} {r : Bool} (h : qe5 a0 a1 = some r) : FnOk Try.prog 42 [.d (eSp a0),.d (eK a1)] 0 (lk []) (fun rr oo => rr = .d (qU r) ∧ oo = lk []) := by
 refine fnO Try.func42 rfl rfl (cwP ?_)
 unfold qe5 at h
 refine cwS (cwR (
  .c (uX 0 rfl)<|
  .c (uX 1 rfl)<|
  .c (uA rfl)<|.nil rfl) ?_)
 have ⟨o0,hj0,h0⟩ := bdS h
 refine cwJ (fun (z : Bool) => St.of [(4,.d (qU z))] []) (fun (z : Bool) => o0 = z) ?_ ?_
 ·intro v0 hv0; subst hv0
  have heq := ((sJ h0)).symm
  subst heq
  exact qw ⟨_,(show Leads _ _ (St.of [(4,.d (qU o0))] []) from .w (wkF ⟨wD rfl,trivial⟩ trivial qG)),.inr rfl,_,res1 rfl rfl,rfl,rfl⟩
 have ⟨x0,hx0,h1⟩ := bdS (x := qu a1 a0.1) hj0
 rcases cdS h1 with ⟨hc0,h2⟩ | ⟨hc0,h3⟩
 ·skip
  rcases cdS h2 with ⟨hc1,h4⟩ | ⟨hc1,h5⟩
  ·skip
   refine cwR (
    .c (uL [] rfl ta31 rfl)<|
    .c (uF rfl fld38_0 rfl)<|
    .c (uL [0] rfl ta31 rfl)<|
    .c (qe0 rfl rfl .no Try.func43 rfl rfl (q90 hx0) (.cons rfl .d (.cons rfl .d .nil)) ⟨trivial,trivial,trivial⟩ (.inl rfl))<|
    .c (uB rfl (b_geq _ _) rfl)<|
    .c (uM rfl)<|
    .c (qn rfl rfl (.yes rfl rfl hc0) rfl fld38_2 (by decide))<|
    .c (qA [2] rfl rfl (.yes rfl rfl hc0) rfl rfl rfl ta4 rfl rfl)<|
    .c (o_mv rfl rfl (.yes rfl rfl hc0) rfl)<|
    .c (uN rfl rfl hc1)<|
    .c (uN rfl rfl hc1)<|
    .c (uN rfl rfl hc1)<|
    .c (uN rfl rfl hc1)<|
    .c (uN rfl rfl hc1)<|
    .c (qi rfl rfl (.yes rfl rfl hc0) rfl hc1 rfl)<|
    .c (uPT rfl hc0)<|
    .c (uA rfl)<|.nil rfl
   ) ?_
   exact ⟨true,(sJ h4),.w (wkF ⟨wD rfl,trivial⟩ trivial qG)⟩
  have ⟨x1,hx1,h6⟩ := bdS (x := qu a1 a0.2.1) h5
  refine cwR (
   .c (uL [] rfl ta31 rfl)<|
   .c (uF rfl fld38_0 rfl)<|
   .c (uL [0] rfl ta31 rfl)<|
   .c (qe0 rfl rfl .no Try.func43 rfl rfl (q90 hx0) (.cons rfl .d (.cons rfl .d .nil)) ⟨trivial,trivial,trivial⟩ (.inl rfl))<|
   .c (uB rfl (b_geq _ _) rfl)<|
   .c (uM rfl)<|
   .c (qn rfl rfl (.yes rfl rfl hc0) rfl fld38_2 (by decide))<|
   .c (qA [2] rfl rfl (.yes rfl rfl hc0) rfl rfl rfl ta4 rfl rfl)<|
   .c (o_mv rfl rfl (.yes rfl rfl hc0) rfl)<|
   .c (qA [] rfl rfl (.yes rfl rfl hc1) rfl rfl rfl ta31 rfl rfl)<|
   .c (qn rfl rfl (.yes rfl rfl hc1) rfl fld38_1 (by decide))<|
   .c (qA [1] rfl rfl (.yes rfl rfl hc1) rfl rfl rfl ta31 rfl rfl)<|
   .c (qe0 rfl rfl (.yes rfl rfl hc1) Try.func43 rfl rfl (q90 hx1) (.cons rfl .d (.cons rfl .d .nil)) ⟨trivial,trivial,trivial⟩ (.inl rfl))<|
   .c (qj rfl rfl (.yes rfl rfl hc1) rfl rfl (qG0 _ _) rfl)<|
   .c (qg rfl rfl (.yes rfl rfl hc0) rfl hc1 rfl)<|
   .c (uPT rfl hc0)<|
   .c (uA rfl)<|.nil rfl
  ) ?_
  exact ⟨(decide (x1 < 0)),(sJ h6),.w (wkF ⟨wD rfl,trivial⟩ trivial qG)⟩
 refine cwR (
  .c (uL [] rfl ta31 rfl)<|
  .c (uF rfl fld38_0 rfl)<|
  .c (uL [0] rfl ta31 rfl)<|
  .c (qe0 rfl rfl .no Try.func43 rfl rfl (q90 hx0) (.cons rfl .d (.cons rfl .d .nil)) ⟨trivial,trivial,trivial⟩ (.inl rfl))<|
  .c (uB rfl (b_geq _ _) rfl)<|
  .c (uM rfl)<|
  .c (uN rfl rfl hc0)<|
  .c (uN rfl rfl hc0)<|
  .c (uN rfl rfl hc0)<|
  .c (qk5 rfl rfl rfl rfl)<|
  .c (qk5 rfl rfl rfl rfl)<|
  .c (qk5 rfl rfl rfl rfl)<|
  .c (qk5 rfl rfl rfl rfl)<|
  .c (qk5 rfl rfl rfl rfl)<|
  .c (uN rfl rfl hc0)<|
  .c (uPF rfl hc0)<|
  .c (uA rfl)<|.nil rfl
 ) ?_
 exact ⟨false,(sJ h3),.w (wkF ⟨wD rfl,trivial⟩ trivial qG)⟩
theorem refs_New_ok {a0 : Int} {r : (Int × (List (Int × Int)) × Int)} (h : refs_New a0 = some r) : FnOk Try.prog 34 [.d (eint a0)] 0 (lk []) (fun rr oo => rr = .ptr 0 0 ∧ oo = lk [(0,.own (ql r))]) := by
 refine fnO Try.func34 rfl rfl (cwP ?_)
 unfold refs_New at h
 refine cwS (cwR (
  .c (uA rfl)<|.nil rfl) ?_)
 refine cwS (cwR (
  .c (uM rfl)<|
  .c (o_max rfl rfl .no rfl rfl)<|
  .c (o_min rfl rfl .no rfl rfl)<|
  .c (o_mkmap eint eint 1 rfl rfl .no rfl)<|
  .c (o_bldA rfl rfl .no zo126 rfl pl126 (.cons rfl rfl rfl rfl rfl rfl rfl (.cons rfl rfl rfl rfl rfl rfl rfl (.cons rfl rfl rfl rfl rfl rfl rfl .nil))))<|
  .c (uX 0 rfl)<|
  .c (uA rfl)<|.nil rfl) ?_)
 have heq := ((sJ h)).symm
 subst heq
 exact qw ⟨_,(show Leads _ _ (St.of [(2,.ptr 0 0)] [(0,.own (ql ((min (max a0 2) 4294967296),[],2)))]) from .trans (lPk (o := 0) (y := .st [.d (eint (min (max a0 2) 4294967296)),.map 1,.d (eint 2)]) (x := ql ((min (max a0 2) 4294967296),[],2)) (l := [(2,.ptr 0 0)]) (m := [(0,.own (ql ((min (max a0 2) 4294967296),[],2)))]) rfl (.st (.cons (.av rfl) (.cons (.map rfl) (.cons (.av rfl) .nil)))) rfl rfl ⟨⟨rfl,(by simp [AV.live,AV.lives,lk,Nat.beq])⟩,trivial⟩ ⟨.inl rfl,trivial⟩ rfl (OD.dat_live (qe _)) ⟨rfl,trivial⟩ qG) (.w (wkF ⟨⟨_,rfl,.ptro rfl rfl⟩,trivial⟩ ⟨.own rfl (.of_eq rfl (qe _)),trivial⟩ qG))),.inr rfl,_,res1 rfl rfl,rfl,rfl⟩
theorem refs_Refs_Take_ok {a0 : (Int × (List (Int × Int)) × Int)} {r : (Int × Bool × (Int × (List (Int × Int)) × Int))} (h : qp1 a0 = some r) : FnOk Try.prog 123 [.ptr 0 0] 1 (lk [(0,.own (ql a0))]) (fun rr oo => rr = .tup [.d (eint r.1),.d (qU r.2.1)] ∧ oo = lk [(0,.own (ql r.2.2))]) := by
 refine fnO Try.func123 rfl rfl (cwP ?_)
 unfold qp1 at h
 refine cwS (cwR (
  .c (uA rfl)<|
  .c (uA rfl)<|.nil rfl) ?_)
 have ⟨o0,hj0,h0⟩ := bdS h
 refine cwJ (fun (z : (Int × (List (Int × Int)) × Int)) => St.of [] [(0,.own (ql z))]) (fun (z : (Int × (List (Int × Int)) × Int)) => o0 = (.inl z)) ?_ ?_
 ·intro v0 hv0; subst hv0
  simp only [Sum.elim_inl] at h0
  refine cwS (cwR (
   .c (uA rfl)<|
   .c (uA rfl)<|.nil rfl) ?_)
  have heq := ((sJ h0)).symm
  subst heq
  exact qw ⟨_,(show Leads _ _ (St.of [(2,.d (eint 0)),(3,.d (qU false))] [(0,.own (ql v0))]) from .w (wkF ⟨wD rfl,wD rfl,trivial⟩ ⟨.own rfl (.of_eq rfl (qe _)),trivial⟩ (qv rfl))),.inr rfl,_,res2 rfl rfl rfl,rfl,rfl⟩
 refine cwB ?_
 refine qM (V := (Int × (List (Int × Int)) × Int)) (O := ((Int × (List (Int × Int)) × Int) ⊕ (Int × Bool × (Int × (List (Int × Int)) × Int)))) (fun (z : (Int × (List (Int × Int)) × Int)) => St.of [(0,.ptr 0 0)] [(0,.own (ql z))]) hj0 (.w (wkF ⟨⟨_,rfl,.ptro rfl rfl⟩,trivial⟩ ⟨.own rfl (.of_eq rfl (qe _)),trivial⟩ (qv rfl))) ?_
 intro v1 x0 hb0 hx0
 refine cwS ?_
 refine cwL (lOp (o := 0) (y := .st [.d (eint v1.1),.map 1,.d (eint v1.2.2)]) (news := [(1,.map 0 (mD eint eint v1.2.1))]) rfl (.st (.cons (.av rfl) (.cons (.map rfl) (.cons (.av rfl) .nil)))) rfl rfl ⟨rfl,trivial⟩) ?_
 refine cwW (wkF (l := [(0,.ptr 0 0)]) (m := [(0,.box (.st [.d (eint v1.1),.map 1,.d (eint v1.2.2)])),(1,.map 0 (mD eint eint v1.2.1))]) ⟨⟨_,rfl,.ptr rfl rfl⟩,trivial⟩ ⟨.box rfl (.st (.cons (.d rfl) (.cons (.map rfl rfl) (.cons (.d rfl) .nil)))),.map rfl rfl,trivial⟩ (qv rfl)) ?_
 refine cwS (cwRA mixed (by kernel_rfl) (
  .c (uM rfl)<|
  .c (uP rfl)<|
  .c (uF rfl qF3 rfl)<|
  .c (uL [2] rfl ta3 rfl)<|
  .c (uM rfl)<|
  .c (uP rfl)<|
  .c (uF rfl fld126_0 rfl)<|
  .c (uL [0] rfl ta3 rfl)<|
  .c (uB rfl (qG0 _ _) rfl)<|.nil rfl) (by kernel_rfl) ?_)
 rcases cdS hb0 with ⟨hc0,h1⟩ | ⟨hc0,h2⟩
 ·refine cwT rfl hc0 ?_
  refine cwK ?_
  refine cwS ?_
  refine cwB ?_
  refine cwS (cwR (
   .c (uM rfl)<|
   .c (uP rfl)<|
   .c (uF rfl qF3 rfl)<|
   .c (uL [2] rfl ta3 rfl)<|
   .c (uA rfl)<|.nil rfl) ?_)
  refine cwS (cwR (
   .c (uM rfl)<|
   .c (uP rfl)<|
   .c (uF rfl qo3 rfl)<|
   .c (uL [1] rfl ta124 rfl)<|
   .c (uM rfl)<|
   .c (q75 (ek := eint) (ev := eint) (m := v1.2.1) v1.2.2 0 rfl rfl .no rfl rfl rfl mp124 kl3 ze3 rfl rfl)<|
   .c (uB rfl (qd0 _ _) rfl)<|.nil rfl) ?_)
  rcases cdS h1 with ⟨hc1,h3⟩ | ⟨hc1,h4⟩
  ·refine cwT rfl hc1 ?_
   refine cwS (cwR (
    .c (uM rfl)<|
    .c (uP rfl)<|
    .c (uF rfl qo3 rfl)<|
    .c (uL [1] rfl ta124 rfl)<|
    .c (uM rfl)<|
    .c (o_mapset (ek := eint) (ev := eint) (m := v1.2.1) v1.2.2 1 rfl .no rfl rfl rfl rfl mp124 kl3 rfl)<|.nil rfl) ?_)
   refine cwS (cwR (
    .c (uM rfl)<|
    .c (uP rfl)<|
    .c (uF rfl qF3 rfl)<|
    .c (uL [2] rfl ta3 rfl)<|
    .c (uB rfl (qN0 _ _) rfl)<|
    .c (uP rfl)<|
    .c (uF rfl qF3 rfl)<|
    .c (uS [2] rfl sz3 rfl)<|.nil rfl) ?_)
   refine cwS (cwR (
    .c (uM rfl)<|
    .c (uA rfl)<|
    .c (uA rfl)<|.nil rfl) ?_)
   have he0 := ((hx0 _ (sJ h3)).symm).symm
   subst he0
   have heq := ((sJ h0)).symm
   subst heq
   exact qw ⟨_,(show Leads _ _ (St.of [(2,.d (eint v1.2.2)),(3,.d (qU true))] [(0,.own (ql (v1.1,(mset v1.2.1 v1.2.2 1),(IntKind.wrap .i64 (v1.2.2 + 1)))))]) from .trans (lPk (o := 0) (y := .st [.d (eint v1.1),.map 1,.d (eint (IntKind.wrap .i64 (v1.2.2 + 1)))]) (x := ql (v1.1,(mset v1.2.1 v1.2.2 1),(IntKind.wrap .i64 (v1.2.2 + 1)))) (l := [(2,.d (eint v1.2.2)),(3,.d (qU true))]) (m := [(0,.own (ql (v1.1,(mset v1.2.1 v1.2.2 1),(IntKind.wrap .i64 (v1.2.2 + 1)))))]) rfl (.st (.cons (.av rfl) (.cons (.map rfl) (.cons (.av rfl) .nil)))) rfl rfl ⟨⟨rfl,trivial⟩,⟨rfl,trivial⟩,trivial⟩ ⟨.inl rfl,trivial⟩ rfl (OD.dat_live (qe _)) ⟨rfl,trivial⟩ (qv rfl)) (.w (wkF ⟨wD rfl,wD rfl,trivial⟩ ⟨.own rfl (.of_eq rfl (qe _)),trivial⟩ (qv rfl)))),.inr rfl,_,res2 rfl rfl rfl,rfl,rfl⟩
  refine cwF rfl hc1 ?_
  refine cwK ?_
  refine cwR (
   .c (uM rfl)<|
   .c (uP rfl)<|
   .c (uF rfl qF3 rfl)<|
   .c (uL [2] rfl ta3 rfl)<|
   .c (uB rfl (qN0 _ _) rfl)<|
   .c (uP rfl)<|
   .c (uF rfl qF3 rfl)<|
   .c (uS [2] rfl sz3 rfl)<|.nil rfl
  ) ?_
  exact ⟨(v1.1,v1.2.1,(IntKind.wrap .i64 (v1.2.2 + 1))),(sJ h4),.trans (lPk (o := 0) (y := .st [.d (eint v1.1),.map 1,.d (eint (IntKind.wrap .i64 (v1.2.2 + 1)))]) (x := ql (v1.1,v1.2.1,(IntKind.wrap .i64 (v1.2.2 + 1)))) (l := [(0,.ptr 0 0)]) (m := [(0,.own (ql (v1.1,v1.2.1,(IntKind.wrap .i64 (v1.2.2 + 1)))))]) rfl (.st (.cons (.av rfl) (.cons (.map rfl) (.cons (.av rfl) .nil)))) rfl rfl ⟨⟨rfl,(by simp [AV.live,AV.lives,lk,Nat.beq])⟩,trivial⟩ ⟨.inl rfl,trivial⟩ rfl (OD.dat_live (qe _)) ⟨rfl,trivial⟩ (qv rfl)) (.w (wkF ⟨⟨_,rfl,.ptro rfl rfl⟩,trivial⟩ ⟨.own rfl (.of_eq rfl (qe _)),trivial⟩ (qv rfl)))⟩
 refine cwF rfl hc0 ?_
 refine q10 ?_
 exact ⟨(v1.1,v1.2.1,v1.2.2),(hx0 _ (sJ h2)).symm,.trans (lPk (o := 0) (y := .st [.d (eint v1.1),.map 1,.d (eint v1.2.2)]) (x := ql (v1.1,v1.2.1,v1.2.2)) (l := []) (m := [(0,.own (ql (v1.1,v1.2.1,v1.2.2)))]) rfl (.st (.cons (.av rfl) (.cons (.map rfl) (.cons (.av rfl) .nil)))) rfl rfl trivial ⟨.inl rfl,trivial⟩ rfl (OD.dat_live (qe _)) ⟨rfl,trivial⟩ (qv rfl)) (.w (wkF trivial ⟨.own rfl (.of_eq rfl (qe _)),trivial⟩ (qv rfl)))⟩
theorem qX2 {a0 : (Int × (List (Int × Int)) × Int)} {a1 : Int} {r : (Int × (Int × (List (Int × Int)) × Int))} (h : qM0 a0 a1 = some r) : FnOk Try.prog 46 [.ptr 0 0,.d (eint a1)] 1 (lk [(0,.own (ql a0))]) (fun rr oo => rr = .d (eint r.1) ∧ oo = lk [(0,.own (ql r.2))]) := by
 refine fnO Try.func46 rfl rfl (cwP ?_)
 unfold qM0 at h
 refine cwS (cwR (
  .c (uA rfl)<|.nil rfl) ?_)
 refine cwL (lOp (o := 0) (y := .st [.d (eint a0.1),.map 1,.d (eint a0.2.2)]) (news := [(1,.map 0 (mD eint eint a0.2.1))]) rfl (.st (.cons (.av rfl) (.cons (.map rfl) (.cons (.av rfl) .nil)))) rfl rfl ⟨rfl,trivial⟩) ?_
 refine cwW (wkF (l := [(0,.ptr 0 0),(1,.d (eint a1))]) (m := [(0,.box (.st [.d (eint a0.1),.map 1,.d (eint a0.2.2)])),(1,.map 0 (mD eint eint a0.2.1))]) ⟨⟨_,rfl,.ptr rfl rfl⟩,wD rfl,trivial⟩ ⟨.box rfl (.st (.cons (.d rfl) (.cons (.map rfl rfl) (.cons (.d rfl) .nil)))),.map rfl rfl,trivial⟩ (qv rfl)) ?_
 refine cwS (cwR (
  .c (uM rfl)<|
  .c (uP rfl)<|
  .c (uF rfl qo3 rfl)<|
  .c (uL [1] rfl ta124 rfl)<|
  .c (uM rfl)<|
  .c (q75 (ek := eint) (ev := eint) (m := a0.2.1) a1 0 rfl rfl .no rfl rfl rfl mp124 kl3 ze3 rfl rfl)<|
  .c (uA rfl)<|.nil rfl) ?_)
 have heq := ((sJ h)).symm
 subst heq
 exact qw ⟨_,(show Leads _ _ (St.of [(4,.d (eint ((mget a0.2.1 a1).getD 0)))] [(0,.own (ql (a0.1,a0.2.1,a0.2.2)))]) from .trans (lPk (o := 0) (y := .st [.d (eint a0.1),.map 1,.d (eint a0.2.2)]) (x := ql (a0.1,a0.2.1,a0.2.2)) (l := [(4,.d (eint ((mget a0.2.1 a1).getD 0)))]) (m := [(0,.own (ql (a0.1,a0.2.1,a0.2.2)))]) rfl (.st (.cons (.av rfl) (.cons (.map rfl) (.cons (.av rfl) .nil)))) rfl rfl ⟨⟨rfl,trivial⟩,trivial⟩ ⟨.inl rfl,trivial⟩ rfl (OD.dat_live (qe _)) ⟨rfl,trivial⟩ (qv rfl)) (.w (wkF ⟨wD rfl,trivial⟩ ⟨.own rfl (.of_eq rfl (qe _)),trivial⟩ (qv rfl)))),.inr rfl,_,res1 rfl rfl,rfl,rfl⟩
theorem refs_Refs_Free_ok {a0 : (Int × (List (Int × Int)) × Int)} {r : (Int × (Int × (List (Int × Int)) × Int))} (h : qX1 a0 = some r) : FnOk Try.prog 49 [.ptr 0 0] 1 (lk [(0,.own (ql a0))]) (fun rr oo => rr = .d (eint r.1) ∧ oo = lk [(0,.own (ql r.2))]) := by
 refine fnO Try.func49 rfl rfl (cwP ?_)
 unfold qX1 at h
 refine cwS (cwR (
  .c (uA rfl)<|.nil rfl) ?_)
 refine cwL (lOp (o := 0) (y := .st [.d (eint a0.1),.map 1,.d (eint a0.2.2)]) (news := [(1,.map 0 (mD eint eint a0.2.1))]) rfl (.st (.cons (.av rfl) (.cons (.map rfl) (.cons (.av rfl) .nil)))) rfl rfl ⟨rfl,trivial⟩) ?_
 refine cwW (wkF (l := [(0,.ptr 0 0)]) (m := [(0,.box (.st [.d (eint a0.1),.map 1,.d (eint a0.2.2)])),(1,.map 0 (mD eint eint a0.2.1))]) ⟨⟨_,rfl,.ptr rfl rfl⟩,trivial⟩ ⟨.box rfl (.st (.cons (.d rfl) (.cons (.map rfl rfl) (.cons (.d rfl) .nil)))),.map rfl rfl,trivial⟩ (qv rfl)) ?_
 refine cwS (cwRA mixed (by kernel_rfl) (
  .c (uM rfl)<|
  .c (uP rfl)<|
  .c (uF rfl fld126_0 rfl)<|
  .c (uL [0] rfl ta3 rfl)<|
  .c (uB rfl (qW2 _ _) rfl)<|
  .c (uM rfl)<|
  .c (uP rfl)<|
  .c (uF rfl qo3 rfl)<|
  .c (uL [1] rfl ta124 rfl)<|
  .c (o_maplen (ek := eint) (ev := eint) (m := a0.2.1) rfl rfl .no rfl rfl mp124)<|
  .c (uB rfl (qW2 _ _) rfl)<|
  .c (uA rfl)<|.nil rfl) (by kernel_rfl) ?_)
 have heq := ((sJ h)).symm
 subst heq
 exact qw ⟨_,(show Leads _ _ (St.of [(2,.d (eint (IntKind.wrap .i64 ((IntKind.wrap .i64 (a0.1 - 2)) - (a0.2.1.length : Int)))))] [(0,.own (ql (a0.1,a0.2.1,a0.2.2)))]) from .trans (lPk (o := 0) (y := .st [.d (eint a0.1),.map 1,.d (eint a0.2.2)]) (x := ql (a0.1,a0.2.1,a0.2.2)) (l := [(2,.d (eint (IntKind.wrap .i64 ((IntKind.wrap .i64 (a0.1 - 2)) - (a0.2.1.length : Int)))))]) (m := [(0,.own (ql (a0.1,a0.2.1,a0.2.2)))]) rfl (.st (.cons (.av rfl) (.cons (.map rfl) (.cons (.av rfl) .nil)))) rfl rfl ⟨⟨rfl,trivial⟩,trivial⟩ ⟨.inl rfl,trivial⟩ rfl (OD.dat_live (qe _)) ⟨rfl,trivial⟩ (qv rfl)) (.w (wkF ⟨wD rfl,trivial⟩ ⟨.own rfl (.of_eq rfl (qe _)),trivial⟩ (qv rfl)))),.inr rfl,_,res1 rfl rfl,rfl,rfl⟩
theorem slices_Clone69_ok {a0 : List ttR} {r : List ttR} (h : qM1 a0 = some r) : FnOk Try.prog 69 [.d (eSP_ a0)] 0 (lk []) (fun rr oo => rr = .d (eSP_ r) ∧ oo = lk []) := by
 refine fnO Try.func69 rfl rfl (cwP ?_)
 unfold qM1 at h
 have ⟨x0,hx0,h0⟩ := bdS h
 have hx0g := qj0 hx0
 have heq := Option.some.inj h0
 subst heq
 refine cwS (cwR (
  .c (uA rfl)<|.nil rfl) ?_)
 refine cwS (cwS (qM3 (.cons (uM rfl) <| .any (a_nilq rfl rfl rfl sl34) fun s' hs => .nil rfl ?_)))
 obtain ⟨b,hb,rfl⟩ := hs
 cases b with
 | true =>
  have hz : a0 = [] := List.map_eq_nil_iff.1 (hb rfl)
  subst hz
  refine cwT rfl rfl (cwS (cwR (
   .c (uA rfl)<|.nil rfl) ?_))
  exact qw ⟨_,(show Leads _ _ (St.of [(2,.d (eSP_ []))] []) from .w (wkF ⟨⟨_,rfl,.nil0⟩,trivial⟩ trivial qG)),.inr rfl,_,res1 rfl rfl,rfl,rfl⟩
 | false =>
  refine cwF rfl rfl (cwK ?_)
  refine cwS (cwR (
   .c (o_bslO (rows := ([] : List ttR).map ePr) 0 rfl rfl .no .nil rfl sl34 sz52 ze52 rfl (qL1 q72) (by decide) rfl)<|
   .c (uM rfl)<|
   .c (qo2 (enc := ePr) (xs := ([] : List ttR)) (ys := a0) rfl rfl .no rfl rfl rfl q72 sl34 sl34 sz52 by52 ze52 rfl (by decide) hx0g)<|
   .c (uA rfl)<|.nil rfl) ?_)
  exact qw ⟨_,(show Leads _ _ (St.of [(2,.d (eSP_ a0))] []) from .w (wkF ⟨⟨_,rfl,.frz rfl rfl rfl⟩,trivial⟩ trivial qG)),.inr rfl,_,res1 rfl rfl,rfl,rfl⟩
theorem slices_Clone70_ok {a0 : List ttK} {r : List ttK} (h : qN1 a0 = some r) : FnOk Try.prog 70 [.d (qv0 a0)] 0 (lk []) (fun rr oo => rr = .d (qv0 r) ∧ oo = lk []) := by
 refine fnO Try.func70 rfl rfl (cwP ?_)
 unfold qN1 at h
 have ⟨x0,hx0,h0⟩ := bdS h
 have hx0g := qj0 hx0
 have heq := Option.some.inj h0
 subst heq
 refine cwS (cwR (
  .c (uA rfl)<|.nil rfl) ?_)
 refine cwS (cwS (qM3 (.cons (uM rfl) <| .any (a_nilq rfl rfl rfl sl44) fun s' hs => .nil rfl ?_)))
 obtain ⟨b,hb,rfl⟩ := hs
 cases b with
 | true =>
  have hz : a0 = [] := List.map_eq_nil_iff.1 (hb rfl)
  subst hz
  refine cwT rfl rfl (cwS (cwR (
   .c (uA rfl)<|.nil rfl) ?_))
  exact qw ⟨_,(show Leads _ _ (St.of [(2,.d (qv0 []))] []) from .w (wkF ⟨⟨_,rfl,.nil0⟩,trivial⟩ trivial qG)),.inr rfl,_,res1 rfl rfl,rfl,rfl⟩
 | false =>
  refine cwF rfl rfl (cwK ?_)
  refine cwS (cwR (
   .c (o_bslO (rows := ([] : List ttK).map qP) 0 rfl rfl .no .nil rfl sl44 sz69 ze69 rfl (qL1 siapiKid) (by decide) rfl)<|
   .c (uM rfl)<|
   .c (qo2 (enc := qP) (xs := ([] : List ttK)) (ys := a0) rfl rfl .no rfl rfl rfl siapiKid sl44 sl44 sz69 by69 ze69 rfl (by decide) hx0g)<|
   .c (uA rfl)<|.nil rfl) ?_)
  exact qw ⟨_,(show Leads _ _ (St.of [(2,.d (qv0 a0))] []) from .w (wkF ⟨⟨_,rfl,.frz rfl rfl rfl⟩,trivial⟩ trivial qG)),.inr rfl,_,res1 rfl rfl,rfl,rfl⟩
theorem slices_Clone54_ok {a0 : List ttC} {r : List ttC} (h : qT1 a0 = some r) : FnOk Try.prog 54 [.d (eSC a0)] 0 (lk []) (fun rr oo => rr = .arr 0 0 ∧ oo = lk [(0,.arr 0 26 (List.map eCg r))]) := by
 refine fnO Try.func54 rfl rfl (cwP ?_)
 unfold qT1 at h
 have ⟨x0,hx0,h0⟩ := bdS h
 have hx0g := qj0 hx0
 have heq := Option.some.inj h0
 subst heq
 refine cwS (cwR (
  .c (uA rfl)<|.nil rfl) ?_)
 refine cwS (cwS (qM3 (.cons (uM rfl) <| .any (a_nilq rfl rfl rfl sl22) fun s' hs => .nil rfl ?_)))
 obtain ⟨b,hb,rfl⟩ := hs
 cases b with
 | true =>
  have hz : a0 = [] := List.map_eq_nil_iff.1 (hb rfl)
  subst hz
  refine cwT rfl rfl (cwS (cwR (
   .c (uA rfl)<|.nil rfl) ?_))
  exact qw ⟨_,(show Leads _ _ (St.of [(2,.arr 0 0)] [(0,.arr 0 26 (List.map eCg []))]) from .w (wkF ⟨⟨_,rfl,.nila rfl rfl⟩,trivial⟩ ⟨.nil rfl,trivial⟩ qG)),.inr rfl,_,res1 rfl rfl,rfl,rfl⟩
 | false =>
  refine cwF rfl rfl (cwK ?_)
  refine cwS (cwR (
   .c (o_bslO (rows := ([] : List ttC).map eCg) 0 rfl rfl .no .nil rfl sl22 sz33 ze33 rfl (qL1 qb0) (by decide) rfl)<|
   .c (uM rfl)<|
   .c (qo2 (enc := eCg) (xs := ([] : List ttC)) (ys := a0) rfl rfl .no rfl rfl rfl qb0 sl22 sl22 sz33 by33 ze33 rfl (by decide) hx0g)<|
   .c (uA rfl)<|.nil rfl) ?_)
  exact qw ⟨_,(show Leads _ _ (St.of [(2,.arr 0 0)] [(0,.arr 0 26 (List.map eCg a0))]) from .w (wkF ⟨⟨_,rfl,.arr rfl rfl⟩,trivial⟩ ⟨.arr0 rfl rfl rfl,trivial⟩ qG)),.inr rfl,_,res1 rfl rfl,rfl,rfl⟩
theorem tree_own_okc {a0 : ttN} {r : ttN} (h : qn3 a0 = some r) : FnOk Try.prog 47 [.d (qm a0)] 0 (lk []) (fun rr oo => rr = .d (qm r) ∧ oo = lk [(1,.box (.d (qm r)))]) := by
 refine fnO Try.func47 rfl rfl (cwP ?_)
 unfold qn3 at h
 refine cwS (cwR (
  .c (uX 0 rfl)<|
  .c (q50 1 rfl rfl .no ze46 rfl)<|.nil rfl) ?_)
 have ⟨x0,hx0,h0⟩ := bdS (x := qM1 a0.2.1) h
 have ⟨x1,hx1,h1⟩ := bdS (x := qN1 a0.2.2) h0
 refine cwS (cwRA mixed (by kernel_rfl) (
  .c (uF rfl qE0 rfl)<|
  .c (uL [0] rfl ta3 rfl)<|
  .c (uF rfl qr1 rfl)<|
  .c (uL [1] rfl ta34 rfl)<|
  .c (qe0 rfl rfl .no Try.func69 rfl rfl (slices_Clone69_ok hx0) (.cons rfl .d .nil) ⟨trivial,trivial⟩ (.inl rfl))<|
  .c (uF rfl qo0 rfl)<|
  .c (uL [2] rfl ta44 rfl)<|
  .c (qe0 rfl rfl .no Try.func70 rfl rfl (slices_Clone70_ok hx1) (.cons rfl .d .nil) ⟨trivial,trivial⟩ (.inl rfl))<|
  .c (qz5 (ds := [eint a0.1,eSP_ x0,qv0 x1]) rfl rfl .no zs46 rfl pl46 (.cons rfl rfl rfl rfl rfl rfl rfl (.cons rfl rfl rfl rfl rfl rfl rfl (.cons rfl rfl rfl rfl rfl rfl rfl .nil))))<|
  .c (uS [] rfl sz46 rfl)<|.nil rfl) (by kernel_rfl) ?_)
 have heq := ((sJ h1)).symm
 subst heq
 exact qw ⟨_,(show Leads _ _ (St.of [(2,.ptr 1 0)] [(1,.box (.d (qm (a0.1,x0,x1))))]) from .w (wkF ⟨⟨_,rfl,.ptr rfl rfl⟩,trivial⟩ ⟨.box rfl (.d rfl),trivial⟩ qG)),.inr rfl,_,resC rfl rfl rfl ta46 rfl rfl,rfl,rfl⟩
theorem tree_own_ok {a0 : ttN} {r : ttN} (h : qn3 a0 = some r) : FnOk Try.prog 47 [.d (qm a0)] 0 (lk []) (fun rr oo => rr = .d (qm r) ∧ oo = lk []) := qt2 (tree_own_okc h)
theorem qD0 {a0 : ttM} {a1 : Int} {r : (Int × ttM)} (h : qJ0 a0 a1 = some r) : FnOk Try.prog 32 [.ptr 0 0,.d (eint a1)] 1 (lk [(0,.own (qc a0))]) (fun rr oo => rr = .d (eint r.1) ∧ oo = lk [(0,.own (qc r.2))]) := by
 refine fnO Try.func32 rfl rfl (cwP ?_)
 unfold qJ0 at h
 refine cwS (cwR (
  .c (uA rfl)<|.nil rfl) ?_)
 refine cwL (lOp (o := 0) (y := .st [.ptr 1 0,.map 2]) (news := [(1,.own (ql a0.1)),(2,.map 0 (mD eint qm a0.2))]) rfl (.st (.cons (.box rfl) (.cons (.map rfl) .nil))) rfl rfl ⟨rfl,rfl,trivial⟩) ?_
 refine cwW (wkF (l := [(0,.ptr 0 0),(1,.d (eint a1))]) (m := [(0,.box (.st [.ptr 1 0,.map 2])),(1,.own (ql a0.1)),(2,.map 0 (mD eint qm a0.2))]) ⟨⟨_,rfl,.ptr rfl rfl⟩,wD rfl,trivial⟩ ⟨.box rfl (.st (.cons (.ptro rfl rfl) (.cons (.map rfl rfl) .nil))),.own rfl (.of_eq rfl (qe _)),.map rfl rfl,trivial⟩ (qv rfl)) ?_
 have ⟨x0,hx0,h0⟩ := bdS (x := qM0 a0.1 a1) h
 refine cwS (cwR (
  .c (uM rfl)<|
  .c (uP rfl)<|
  .c (uF rfl fld88_0 rfl)<|
  .c (uL [0] rfl ta84 rfl)<|
  .c (uM rfl)<|
  .c (qQ (fun _ => 1) rfl rfl .no Try.func46 rfl rfl (qX2 hx0) (.cons rfl (.p rfl) (.cons rfl .d .nil)) (q40 rfl ⟨(by simp [AV.live,lk,Nat.beq]),trivial,trivial⟩ rfl (OD.dat_live (qe _)) (by simp)) (.inl rfl))<|
  .c (uA rfl)<|.nil rfl) ?_)
 have heq := ((sJ h0)).symm
 subst heq
 exact qw ⟨_,(show Leads _ _ (St.of [(4,.d (eint x0.1))] [(0,.own (qc (x0.2,a0.2)))]) from .trans (lPk (o := 0) (y := .st [.ptr 1 0,.map 2]) (x := qc (x0.2,a0.2)) (l := [(4,.d (eint x0.1))]) (m := [(0,.own (qc (x0.2,a0.2)))]) rfl (.st (.cons (.box rfl) (.cons (.map rfl) .nil))) rfl rfl ⟨⟨rfl,trivial⟩,trivial⟩ ⟨.inl rfl,trivial⟩ rfl (OD.dat_live (q9 _)) ⟨rfl,rfl,trivial⟩ (qv rfl)) (.w (wkF ⟨wD rfl,trivial⟩ ⟨.own rfl (.of_eq rfl (q9 _)),trivial⟩ (qv rfl)))),.inr rfl,_,res1 rfl rfl,rfl,rfl⟩
theorem qJ2 {a0 : ttM} {r : (Int × ttM)} (h : qU0 a0 = some r) : FnOk Try.prog 25 [.ptr 0 0] 1 (lk [(0,.own (qc a0))]) (fun rr oo => rr = .d (eint r.1) ∧ oo = lk [(0,.own (qc r.2))]) := by
 refine fnO Try.func25 rfl rfl (cwP ?_)
 unfold qU0 at h
 refine cwS (cwR (
  .c (uA rfl)<|.nil rfl) ?_)
 refine cwL (lOp (o := 0) (y := .st [.ptr 1 0,.map 2]) (news := [(1,.own (ql a0.1)),(2,.map 0 (mD eint qm a0.2))]) rfl (.st (.cons (.box rfl) (.cons (.map rfl) .nil))) rfl rfl ⟨rfl,rfl,trivial⟩) ?_
 refine cwW (wkF (l := [(0,.ptr 0 0)]) (m := [(0,.box (.st [.ptr 1 0,.map 2])),(1,.own (ql a0.1)),(2,.map 0 (mD eint qm a0.2))]) ⟨⟨_,rfl,.ptr rfl rfl⟩,trivial⟩ ⟨.box rfl (.st (.cons (.ptro rfl rfl) (.cons (.map rfl rfl) .nil))),.own rfl (.of_eq rfl (qe _)),.map rfl rfl,trivial⟩ (qv rfl)) ?_
 have ⟨x0,hx0,h0⟩ := bdS (x := qX1 a0.1) h
 refine cwS (cwR (
  .c (uM rfl)<|
  .c (uP rfl)<|
  .c (uF rfl fld88_0 rfl)<|
  .c (uL [0] rfl ta84 rfl)<|
  .c (qQ (fun _ => 1) rfl rfl .no Try.func49 rfl rfl (refs_Refs_Free_ok hx0) (.cons rfl (.p rfl) .nil) (q40 rfl ⟨(by simp [AV.live,lk,Nat.beq]),trivial⟩ rfl (OD.dat_live (qe _)) (by simp)) (.inl rfl))<|
  .c (uA rfl)<|.nil rfl) ?_)
 have heq := ((sJ h0)).symm
 subst heq
 exact qw ⟨_,(show Leads _ _ (St.of [(2,.d (eint x0.1))] [(0,.own (qc (x0.2,a0.2)))]) from .trans (lPk (o := 0) (y := .st [.ptr 1 0,.map 2]) (x := qc (x0.2,a0.2)) (l := [(2,.d (eint x0.1))]) (m := [(0,.own (qc (x0.2,a0.2)))]) rfl (.st (.cons (.box rfl) (.cons (.map rfl) .nil))) rfl rfl ⟨⟨rfl,trivial⟩,trivial⟩ ⟨.inl rfl,trivial⟩ rfl (OD.dat_live (q9 _)) ⟨rfl,rfl,trivial⟩ (qv rfl)) (.w (wkF ⟨wD rfl,trivial⟩ ⟨.own rfl (.of_eq rfl (q9 _)),trivial⟩ (qv rfl)))),.inr rfl,_,res1 rfl rfl,rfl,rfl⟩
theorem qx3 {a0 : Int} {r : ttM} (h : qK0 a0 = some r) : FnOk Try.prog 14 [.d (eint a0)] 0 (lk []) (fun rr oo => rr = .ptr 0 0 ∧ oo = lk [(0,.own (qc r))]) := by
 refine fnO Try.func14 rfl rfl (cwP ?_)
 unfold qK0 at h
 refine cwS (cwR (
  .c (uA rfl)<|.nil rfl) ?_)
 have ⟨x0,hx0,h0⟩ := bdS (x := refs_New (IntKind.wrap .i64 (2 + (min (max a0 0) 1048576)))) h
 refine cwS (cwR (
  .c (uM rfl)<|
  .c (o_max rfl rfl .no rfl rfl)<|
  .c (o_min rfl rfl .no rfl rfl)<|
  .c (uB rfl (qN0 _ _) rfl)<|
  .c (qr5 2 rfl rfl .no Try.func34 rfl rfl (refs_New_ok hx0) (.cons rfl .d .nil) ⟨trivial,trivial⟩ rfl (.inl rfl))<|
  .c (o_mkmap eint qm 1 rfl rfl .no rfl)<|
  .c (o_bldA rfl rfl .no zo88 rfl pl88 (.cons rfl rfl rfl rfl rfl rfl rfl (.cons rfl rfl rfl rfl rfl rfl rfl .nil)))<|
  .c (uX 0 rfl)<|
  .c (uA rfl)<|.nil rfl) ?_)
 have heq := ((sJ h0)).symm
 subst heq
 exact qw ⟨_,(show Leads _ _ (St.of [(2,.ptr 0 0)] [(0,.own (qc (x0,[])))]) from .trans (lPk (o := 0) (y := .st [.ptr 2 0,.map 1]) (x := qc (x0,[])) (l := [(2,.ptr 0 0)]) (m := [(0,.own (qc (x0,[])))]) rfl (.st (.cons (.box rfl) (.cons (.map rfl) .nil))) rfl rfl ⟨⟨rfl,(by simp [AV.live,AV.lives,lk,Nat.beq])⟩,trivial⟩ ⟨.inl rfl,trivial⟩ rfl (OD.dat_live (q9 _)) ⟨rfl,rfl,trivial⟩ qG) (.w (wkF ⟨⟨_,rfl,.ptro rfl rfl⟩,trivial⟩ ⟨.own rfl (.of_eq rfl (q9 _)),trivial⟩ qG))),.inr rfl,_,res1 rfl rfl,rfl,rfl⟩
theorem qh0 {a0 : ttM} {a1 : Int} {r : (ttN × Int × ttM)} (h : qx a0 a1 = some r) : FnOk Try.prog 23 [.ptr 0 0,.d (eint a1)] 1 (lk [(0,.own (qc a0))]) (fun rr oo => rr = .tup [.d (qm r.1),.d (eErr r.2.1)] ∧ oo = lk [(0,.own (qc r.2.2)),(1,.box (.d (qm r.1)))]) := by
 refine fnO Try.func23 rfl rfl (cwP ?_)
 unfold qx at h
 refine cwS (cwR (
  .c (q50 1 rfl rfl .no ze46 rfl)<|
  .c (uA rfl)<|.nil rfl) ?_)
 refine cwS ?_
 refine cwL (lOp (o := 0) (y := .st [.ptr 2 0,.map 3]) (news := [(2,.own (ql a0.1)),(3,.map 0 (mD eint qm a0.2))]) rfl (.st (.cons (.box rfl) (.cons (.map rfl) .nil))) rfl rfl ⟨rfl,rfl,trivial⟩) ?_
 refine cwW (wkF (l := [(0,.ptr 0 0),(1,.d (eint a1)),(4,.ptr 1 0)]) (m := [(0,.box (.st [.ptr 2 0,.map 3])),(1,.box (.d (qm (0,[],[])))),(2,.own (ql a0.1)),(3,.map 0 (mD eint qm a0.2))]) ⟨⟨_,rfl,.ptr rfl rfl⟩,wD rfl,⟨_,rfl,.ptr rfl rfl⟩,trivial⟩ ⟨.box rfl (.st (.cons (.ptro rfl rfl) (.cons (.map rfl rfl) .nil))),.box rfl (.d rfl),.own rfl (.of_eq rfl (qe _)),.map rfl rfl,trivial⟩ (qv rfl)) ?_
 have ⟨x0,hx0,h0⟩ := bdS (x := qM0 a0.1 a1) h
 refine cwS (cwR (
  .c (uM rfl)<|
  .c (uP rfl)<|
  .c (uF rfl fld88_0 rfl)<|
  .c (uL [0] rfl ta84 rfl)<|
  .c (uM rfl)<|
  .c (qQ (fun _ => 2) rfl rfl .no Try.func46 rfl rfl (qX2 hx0) (.cons rfl (.p rfl) (.cons rfl .d .nil)) (q40 rfl ⟨(by simp [AV.live,lk,Nat.beq]),trivial,trivial⟩ rfl (OD.dat_live (qe _)) (by simp)) (.inl rfl))<|
  .c (uB rfl (qd0 _ _) rfl)<|.nil rfl) ?_)
 rcases cdS h0 with ⟨hc0,h1⟩ | ⟨hc0,h2⟩
 ·refine cwT rfl hc0 ?_
  refine cwS (cwR (
   .c (qz5 (ds := [eint 0,eSP_ ([]),qv0 ([])]) rfl rfl .no zs46 rfl pl46 .nil)<|
   .c (uS [] rfl sz46 rfl)<|
   .c (uA rfl)<|.nil rfl) ?_)
  have heq := ((sJ h1)).symm
  subst heq
  exact qw ⟨_,(show Leads _ _ (St.of [(4,.ptr 1 0),(5,.d (eErr 12))] [(0,.own (qc (x0.2,a0.2))),(1,.box (.d (qm (0,[],[]))))]) from .trans (lPk (o := 0) (y := .st [.ptr 2 0,.map 3]) (x := qc (x0.2,a0.2)) (l := [(4,.ptr 1 0),(5,.d (eint 12))]) (m := [(0,.own (qc (x0.2,a0.2))),(1,.box (.d (qm (0,[],[]))))]) rfl (.st (.cons (.box rfl) (.cons (.map rfl) .nil))) rfl rfl ⟨⟨rfl,(by simp [AV.live,AV.lives,lk,Nat.beq])⟩,⟨rfl,trivial⟩,trivial⟩ ⟨.inl rfl,(.inr ⟨rfl,trivial⟩),trivial⟩ rfl (OD.dat_live (q9 _)) ⟨rfl,rfl,trivial⟩ (qv rfl)) (.w (wkF ⟨⟨_,rfl,.ptr rfl rfl⟩,wD rfl,trivial⟩ ⟨.own rfl (.of_eq rfl (q9 _)),.box rfl (.d rfl),trivial⟩ (qv rfl)))),.inr rfl,_,resCT rfl rfl rfl ta46 rfl rfl rfl,rfl,rfl⟩
 refine cwF rfl hc0 ?_
 refine cwK ?_
 have ⟨x1,hx1,h3⟩ := bdS (x := qn3 ((mget a0.2 a1).getD (0,[],[]))) h2
 refine cwS (cwR (
  .c (uM rfl)<|
  .c (uP rfl)<|
  .c (uF rfl fld88_1 rfl)<|
  .c (uL [1] rfl ta86 rfl)<|
  .c (uM rfl)<|
  .c (q75 (ek := eint) (ev := qm) (m := a0.2) a1 (0,[],[]) rfl rfl .no rfl rfl rfl mp86 kl3 ze46 rfl rfl)<|
  .c (qe0 rfl rfl .no Try.func47 rfl rfl (tree_own_ok hx1) (.cons rfl .d .nil) ⟨trivial,trivial⟩ (.inl rfl))<|
  .c (uS [] rfl sz46 rfl)<|
  .c (uA rfl)<|.nil rfl) ?_)
 have heq := ((sJ h3)).symm
 subst heq
 exact qw ⟨_,(show Leads _ _ (St.of [(4,.ptr 1 0),(5,.d (eErr 0))] [(0,.own (qc (x0.2,a0.2))),(1,.box (.d (qm x1)))]) from .trans (lPk (o := 0) (y := .st [.ptr 2 0,.map 3]) (x := qc (x0.2,a0.2)) (l := [(4,.ptr 1 0),(5,.d (eint 0))]) (m := [(0,.own (qc (x0.2,a0.2))),(1,.box (.d (qm x1)))]) rfl (.st (.cons (.box rfl) (.cons (.map rfl) .nil))) rfl rfl ⟨⟨rfl,(by simp [AV.live,AV.lives,lk,Nat.beq])⟩,⟨rfl,trivial⟩,trivial⟩ ⟨.inl rfl,(.inr ⟨rfl,trivial⟩),trivial⟩ rfl (OD.dat_live (q9 _)) ⟨rfl,rfl,trivial⟩ (qv rfl)) (.w (wkF ⟨⟨_,rfl,.ptr rfl rfl⟩,wD rfl,trivial⟩ ⟨.own rfl (.of_eq rfl (q9 _)),.box rfl (.d rfl),trivial⟩ (qv rfl)))),.inr rfl,_,resCT rfl rfl rfl ta46 rfl rfl rfl,rfl,rfl⟩
end
end Go.Val
