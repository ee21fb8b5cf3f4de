/- Walks of the program's functions,printed. -/
import Derived.Test.YtfbnhflapgddbaaLe
import Derived.Test.YtfbnhflapgddbaaLc
import Derived.Test.YtfbnhflapgddbaaProg
import Derived.KernelRfl
set_option linter.all false
set_option maxRecDepth 100000
namespace Go.Val
abbrev FO [Drw] (f : FuncId) (a : List AV) (k : Nat) (l : List (Nat × OB)) (x : AV) (m : List (Nat × OB)) : Prop := FnOk Go.Proofs.Try.prog f a k (lk l) (fun rr oo => rr = x ∧ oo = lk m)
abbrev B8 : Type := List UInt8
abbrev VwT : Type := ((List (B8 × ByteArray)) × (List (B8 × (B8 × ByteArray × Bool))) × (List (B8 × B8 × Bool)) × (List (List (B8 × (B8 × ByteArray × Bool)))))
abbrev WwT : Type := ((List (B8 × ByteArray)) × (List (B8 × ByteArray × Bool)) × (List (B8 × B8 × Bool)) × (List (List (B8 × ByteArray × Bool))))
open Go.RowKit Go.Proofs
abbrev ttN := (Int × (List (B8 × ByteArray)) × (List (B8 × Int)))
abbrev ttM := ((Int × (List (Int × Int)) × Int) × (List (Int × ttN)))
abbrev ttP := (B8 × Int × (Option Fr))
abbrev ttS := (B8 × B8 × Bool)
abbrev ttC := (B8 × ByteArray × Bool)
abbrev ttR := (B8 × ByteArray)
abbrev ttK := (B8 × Int)
def eK : B8 → D := fun l => .bs 24 l
def eint : Int → D := fun n => .v (.int .i64 n)
def qJ : (Option Fr) → D := eFo
def qh : ttP → D := fun p => .st [eK p.1,eint p.2.1,qJ p.2.2]
def qi : (List ttP) → D := fun xs => .sl 26 (xs.map qh)
def qW : Bool → D := fun b => .v (.bool b)
def eSp : ttS → D := fun p => .st [eK p.1,eK p.2.1,qW p.2.2]
def qp : (Int × (List (Int × Int)) × Int) → OD := fun p => .st [.av (.d (eint p.1)),.map (mD eint eint p.2.1),.av (.d (eint p.2.2))]
def eStr : ByteArray → D := fun b => .v (.string b)
def ePr : ttR → D := fun p => .st [eK p.1,eStr p.2]
def eSP_ : (List ttR) → D := fun xs => .sl 25 (xs.map ePr)
def q50 : ttK → D := fun p => .st [eK p.1,eint p.2]
def qH0 : (List ttK) → D := fun xs => .sl 25 (xs.map q50)
def eCg : ttC → D := fun p => .st [eK p.1,eStr p.2.1,qW p.2.2]
def eSC : (List ttC) → D := fun xs => .sl 26 (xs.map eCg)
def qw : ttN → D := fun p => .st [eint p.1,eSP_ p.2.1,qH0 p.2.2]
def qe : ttM → OD := fun p => .st [.box (qp p.1),.map (mD eint qw p.2)]
def eErr : Int → D := fun n => .v (.int .i64 n)
def qC1 : (B8 × Bool) → D := fun p => .st [eK p.1,qW p.2]
def qO2 : (List (List ttR)) → D := fun xs => .sl 1 (xs.map eSP_)
def qd2 : (List (List ttP)) → D := fun xs => .sl 1 (xs.map qi)
def qE : (Int × (List ttR) × (List ttP)) → D := fun p => .st [eint p.1,eSP_ p.2.1,qi p.2.2]
def qg (k0 : Nat) : (List Int) → OD := fun p => .st [.av (.ifc 24 (.ptr k0 0)),.arr 1 (List.map eint p)]
def qn1 : (Int × (List ttR) × (List ttP)) → OD := fun p => .st [.av (.d (eint p.1)),.av (.d (eSP_ p.2.1)),.arr 26 (List.map qh p.2.2)]
def qi1 : ((Option Fr) × (Option Fr)) → D := fun p => .st [qJ p.1,qJ p.2]
def qE2 : ttN → OD := fun p => .st [.av (.d (eint p.1)),.av (.d (eSP_ p.2.1)),.arr 25 (List.map q50 p.2.2)]
def qb6 : (List Int) → D := fun xs => .sl 1 (xs.map eint)
def qd (k0 : Nat) : (Int × Int) → OD := fun p => .st [.av (.ptr k0 0),.av (.d (eint p.1)),.av (.d (eint p.2))]
def qf (k0 : Nat) : (List Int) → OD := fun p => .st [.av (.ifc 55 (.ptr k0 0)),.arr 1 (List.map eint p)]
section
variable [Drw]
theorem mixed : Try.prog.follows .mixedOrders = true := by kernel_rfl
theorem cf81 : ∀ args w v,(Extern.BytealgCompare.compare args).run Try.prog w = .ok v w → (callFunc 81 args).run Try.prog w = .ok (.value v) w := callFunc_ext Try.func81 rfl rfl (by kernel_rfl) (by kernel_rfl)
theorem ar31 : arB Try.prog 31 = some (24,5) := by kernel_rfl
theorem sz5 : szB Try.prog 5 = some 1 := by kernel_rfl
theorem ta31 : TA Try.prog 31 true 24 := ⟨by kernel_rfl,by kernel_rfl⟩
theorem fld38_0 : fldB Try.prog 38 0 = some (0,24) := by kernel_rfl
theorem fld38_2 : fldB Try.prog 38 2 = some (48,1) := by kernel_rfl
theorem ta4 : TA Try.prog 4 false 1 := ⟨by kernel_rfl,by kernel_rfl⟩
theorem fld38_1 : fldB Try.prog 38 1 = some (24,24) := by kernel_rfl
theorem ql : ∀ p,(qp p).dat := fun _ => ⟨tV,tV,tV,tV⟩
theorem zo126 : Zero Try.prog 126 (.st [eint 0,.v (.map none),eint 0]) := Zero.of _ (fun _ _ => .st (.cons (.v rfl) (.cons (.v rfl) (.cons (.v rfl) (.nil))))) (by kernel_rfl)
theorem pl126 : q13 Try.prog 126 = some [(0,1),(1,1),(2,1)] := by kernel_rfl
theorem qq4 : fldB Try.prog 126 2 = some (2,1) := by kernel_rfl
theorem ta3 : TA Try.prog 3 false 1 := ⟨by kernel_rfl,by kernel_rfl⟩
theorem fld126_0 : fldB Try.prog 126 0 = some (0,1) := by kernel_rfl
theorem qX3 : fldB Try.prog 126 1 = some (1,1) := by kernel_rfl
theorem ta124 : TA Try.prog 124 false 1 := ⟨by kernel_rfl,by kernel_rfl⟩
theorem mp124 : mpB Try.prog 124 = some (3,3) := by kernel_rfl
theorem un3 : Try.prog.underlying 3 = some (.int .i64) := by kernel_rfl
theorem kl3 : KL Try.prog 3 eint := KL.int un3
theorem ze3 : Zero Try.prog 3 (eint 0) := Zero.of _ (fun _ _ => .v rfl) (by kernel_rfl)
theorem sz3 : szB Try.prog 3 = some 1 := by kernel_rfl
theorem sl34 : slB Try.prog 34 = some 52 := by kernel_rfl
theorem sz52 : szB Try.prog 52 = some 25 := by kernel_rfl
theorem ze52 : Zero Try.prog 52 (ePr ((List.replicate 24 0),(ByteArray.mk #[]))) := Zero.of _ (fun _ _ => .st (.cons (.bs rfl) (.cons (.v rfl) (.nil)))) (by kernel_rfl)
theorem qN0 : ∀ x,(ePr x).size = 25 := fun _ => rfl
theorem by52 : qw5 Try.prog 52 = some 40 := by kernel_rfl
theorem sl44 : slB Try.prog 44 = some 69 := by kernel_rfl
theorem sz69 : szB Try.prog 69 = some 25 := by kernel_rfl
theorem ze69 : Zero Try.prog 69 (q50 ((List.replicate 24 0),0)) := Zero.of _ (fun _ _ => .st (.cons (.bs rfl) (.cons (.v rfl) (.nil)))) (by kernel_rfl)
theorem qK5 : ∀ x,(q50 x).size = 25 := fun _ => rfl
theorem by69 : qw5 Try.prog 69 = some 32 := by kernel_rfl
theorem sl22 : slB Try.prog 22 = some 33 := by kernel_rfl
theorem sz33 : szB Try.prog 33 = some 26 := by kernel_rfl
theorem ze33 : Zero Try.prog 33 (eCg ((List.replicate 24 0),(ByteArray.mk #[]),false)) := Zero.of _ (fun _ _ => .st (.cons (.bs rfl) (.cons (.v rfl) (.cons (.v rfl) (.nil))))) (by kernel_rfl)
theorem qn0 : ∀ x,(eCg x).size = 26 := fun _ => rfl
theorem by33 : qw5 Try.prog 33 = some 48 := by kernel_rfl
theorem ze46 : Zero Try.prog 46 (qw (0,[],[])) := Zero.of _ (fun _ _ => .st (.cons (.v rfl) (.cons ((.sl0 (a := none) (cap := 0))) (.cons ((.sl0 (a := none) (cap := 0))) (.nil))))) (by kernel_rfl)
theorem qG1 : fldB Try.prog 46 0 = some (0,1) := by kernel_rfl
theorem qy3 : fldB Try.prog 46 1 = some (1,1) := by kernel_rfl
theorem ta34 : TA Try.prog 34 false 1 := ⟨by kernel_rfl,by kernel_rfl⟩
theorem q31 : fldB Try.prog 46 2 = some (2,1) := by kernel_rfl
theorem ta44 : TA Try.prog 44 false 1 := ⟨by kernel_rfl,by kernel_rfl⟩
theorem zs46 : Zero Try.prog 46 (.st [eint 0,eSP_ ([]),qH0 ([])]) := ze46
theorem pl46 : q13 Try.prog 46 = some [(0,1),(1,1),(2,1)] := by kernel_rfl
theorem sz46 : szB Try.prog 46 = some 3 := by kernel_rfl
theorem ta46 : TA Try.prog 46 true 3 := ⟨by kernel_rfl,by kernel_rfl⟩
theorem qc : ∀ p,(qe p).dat := fun _ => ⟨ql _,tV,tV⟩
theorem oM {N : Nat × Nat} {s s' : St} {o : Nat} {a} (h : s.obj o = some (.own (qe a))) : OConv N s s' o (.own (qe a)) := .own h (.of_eq rfl (qc _))
theorem fld88_0 : fldB Try.prog 88 0 = some (0,1) := by kernel_rfl
theorem ta84 : TA Try.prog 84 false 1 := ⟨by kernel_rfl,by kernel_rfl⟩
theorem zo88 : Zero Try.prog 88 (.st [.v (.pointer none),.v (.map none)]) := Zero.of _ (fun _ _ => .st (.cons (.v rfl) (.cons (.v rfl) (.nil)))) (by kernel_rfl)
theorem pl88 : q13 Try.prog 88 = some [(0,1),(1,1)] := by kernel_rfl
theorem fld88_1 : fldB Try.prog 88 1 = some (1,1) := by kernel_rfl
theorem ta86 : TA Try.prog 86 false 1 := ⟨by kernel_rfl,by kernel_rfl⟩
theorem mp86 : mpB Try.prog 86 = some (3,46) := by kernel_rfl
theorem fld52_1 : fldB Try.prog 52 1 = some (24,1) := by kernel_rfl
theorem ta9 : TA Try.prog 9 false 1 := ⟨by kernel_rfl,by kernel_rfl⟩
theorem un9 : Try.prog.underlying 9 = some .string := by kernel_rfl
theorem ta52 : TA Try.prog 52 true 25 := ⟨by kernel_rfl,by kernel_rfl⟩
theorem ze31 : Zero Try.prog 31 (eK (List.replicate 24 0)) := Zero.of _ (fun _ _ => .bs rfl) (by kernel_rfl)
theorem qr3 : fldB Try.prog 52 0 = some (0,24) := by kernel_rfl
theorem sz31 : szB Try.prog 31 = some 24 := by kernel_rfl
theorem qE4 : fldB Try.prog 69 0 = some (0,24) := by kernel_rfl
theorem ta69 : TA Try.prog 69 true 25 := ⟨by kernel_rfl,by kernel_rfl⟩
theorem qw3 : fldB Try.prog 69 1 = some (24,1) := by kernel_rfl
theorem mp159 : mpB Try.prog 159 = some (3,4) := by kernel_rfl
theorem ze4 : Zero Try.prog 4 (qW false) := Zero.of _ (fun _ _ => .v rfl) (by kernel_rfl)
theorem fld115_1 : fldB Try.prog 115 1 = some (24,1) := by kernel_rfl
theorem fld115_0 : fldB Try.prog 115 0 = some (0,24) := by kernel_rfl
theorem ta115 : TA Try.prog 115 true 25 := ⟨by kernel_rfl,by kernel_rfl⟩
theorem ze115 : Zero Try.prog 115 (qC1 ((List.replicate 24 0),false)) := Zero.of _ (fun _ _ => .st (.cons (.bs rfl) (.cons (.v rfl) (.nil)))) (by kernel_rfl)
theorem sz115 : szB Try.prog 115 = some 25 := by kernel_rfl
theorem zs115 : Zero Try.prog 115 (.st [eK (List.replicate 24 0),qW false]) := ze115
theorem pl115 : q13 Try.prog 115 = some [(0,24),(24,1)] := by kernel_rfl
theorem un5 : Try.prog.underlying 5 = some (.int .u8) := by kernel_rfl
theorem eg31 : Program.eqGuardType Try.prog (Program.depth Try.prog) 31 = false := by kernel_rfl
theorem q05 : ∀ (v : Addr) w,Sem.run Try.prog (Go.method (Try.prog.types.size + Made.depth) 24 (.pointer (some v)) "Get") w = Result.ok (23,Value.pointer (some v)) w := fun _ _ => by kernel_rfl
theorem ta5 : TA Try.prog 5 false 1 := ⟨by kernel_rfl,by kernel_rfl⟩
theorem ta33 : TA Try.prog 33 true 26 := ⟨by kernel_rfl,by kernel_rfl⟩
theorem q16 : fldB Try.prog 33 1 = some (24,1) := by kernel_rfl
theorem sz9 : szB Try.prog 9 = some 1 := by kernel_rfl
theorem ze38 : Zero Try.prog 38 (eSp ((List.replicate 24 0),(List.replicate 24 0),false)) := Zero.of _ (fun _ _ => .st (.cons (.bs rfl) (.cons (.bs rfl) (.cons (.v rfl) (.nil))))) (by kernel_rfl)
theorem zs38 : Zero Try.prog 38 (.st [eK (List.replicate 24 0),eK (List.replicate 24 0),qW false]) := ze38
theorem pl38 : q13 Try.prog 38 = some [(0,24),(24,24),(48,1)] := by kernel_rfl
theorem sz38 : szB Try.prog 38 = some 49 := by kernel_rfl
theorem ta38 : TA Try.prog 38 true 49 := ⟨by kernel_rfl,by kernel_rfl⟩
theorem flds52 : fldsB Try.prog 52 = some [(0,31),(24,9)] := by kernel_rfl
theorem eg52 : Program.eqGuardType Try.prog (Program.depth Try.prog) 52 = false := by kernel_rfl
theorem un82 : Try.prog.underlying 82 = some (.int .u64) := by kernel_rfl
theorem hm24_Inc : ∀ (v : Addr) w,Sem.run Try.prog (Go.method (Try.prog.types.size + Made.depth) 24 (.pointer (some v)) "Inc") w = Result.ok (119,Value.pointer (some v)) w := fun _ _ => by kernel_rfl
theorem hm24_Dec : ∀ (v : Addr) w,Sem.run Try.prog (Go.method (Try.prog.types.size + Made.depth) 24 (.pointer (some v)) "Dec") w = Result.ok (118,Value.pointer (some v)) w := fun _ _ => by kernel_rfl
theorem fld33_2 : fldB Try.prog 33 2 = some (25,1) := by kernel_rfl
theorem qQ4 : fldB Try.prog 33 0 = some (0,24) := by kernel_rfl
theorem zs52 : Zero Try.prog 52 (.st [eK (List.replicate 24 0),eStr (ByteArray.mk #[])]) := ze52
theorem pl52 : q13 Try.prog 52 = some [(0,24),(24,1)] := by kernel_rfl
theorem sl129 : slB Try.prog 129 = some 34 := by kernel_rfl
theorem sz34 : szB Try.prog 34 = some 1 := by kernel_rfl
theorem ze34 : Zero Try.prog 34 (eSP_ ([])) := Zero.of _ (fun _ _ => (.sl0 (a := none) (cap := 0))) (by kernel_rfl)
theorem qn5 : ∀ x,(eSP_ x).size = 1 := fun _ => rfl
theorem by34 : qw5 Try.prog 34 = some 24 := by kernel_rfl
theorem sl95 : slB Try.prog 95 = some 101 := by kernel_rfl
theorem qH1 : szB Try.prog 101 = some 26 := by kernel_rfl
theorem sl155 : slB Try.prog 155 = some 95 := by kernel_rfl
theorem sz95 : szB Try.prog 95 = some 1 := by kernel_rfl
theorem ze95 : Zero Try.prog 95 (qi ([])) := Zero.of _ (fun _ _ => (.sl0 (a := none) (cap := 0))) (by kernel_rfl)
theorem qI4 : ∀ x,(qi x).size = 1 := fun _ => rfl
theorem by95 : qw5 Try.prog 95 = some 24 := by kernel_rfl
theorem qj4 : Zero Try.prog 101 (qh ((List.replicate 24 0),0,(none : Option Fr))) := Zero.of _ (fun _ _ => .st (.cons (.bs rfl) (.cons (.v rfl) (.cons (.v rfl) (.nil))))) (by kernel_rfl)
theorem qt : ∀ x,(qJ x).size = 1 := eFo_size
theorem zs101 : Zero Try.prog 101 (.st [eK (List.replicate 24 0),eint 0,qJ (none : Option Fr)]) := qj4
theorem pl101 : q13 Try.prog 101 = some [(0,24),(24,1),(25,1)] := by kernel_rfl
theorem qo : ∀ x,(qh x).size = 26 := by intro x; rcases x with ⟨_,_,(_ | _)⟩ <;> rfl
theorem qs3 : fldB Try.prog 132 1 = some (1,1) := by kernel_rfl
theorem qV4 : fldB Try.prog 101 0 = some (0,24) := by kernel_rfl
theorem qj1 : fldB Try.prog 132 2 = some (2,1) := by kernel_rfl
theorem ta95 : TA Try.prog 95 false 1 := ⟨by kernel_rfl,by kernel_rfl⟩
theorem qD5 : TA Try.prog 101 true 26 := ⟨by kernel_rfl,by kernel_rfl⟩
theorem qi3 : fldB Try.prog 132 0 = some (0,1) := by kernel_rfl
theorem ze132 : Zero Try.prog 132 (qE (0,[],[])) := Zero.of _ (fun _ _ => .st (.cons (.v rfl) (.cons ((.sl0 (a := none) (cap := 0))) (.cons ((.sl0 (a := none) (cap := 0))) (.nil))))) (by kernel_rfl)
theorem zs132 : Zero Try.prog 132 (.st [eint 0,eSP_ ([]),qi ([])]) := ze132
theorem pl132 : q13 Try.prog 132 = some [(0,1),(1,1),(2,1)] := by kernel_rfl
theorem by101 : qw5 Try.prog 101 = some 40 := by kernel_rfl
theorem qU0 : fldB Try.prog 101 2 = some (25,1) := by kernel_rfl
theorem qA : ∀ x,(qJ x).isAgg = false := eFo_agg
theorem ta99 : TA Try.prog 99 false 1 := ⟨by kernel_rfl,by kernel_rfl⟩
theorem up99 : Try.prog.underlying 99 = some (.pointer 132) := by kernel_rfl
theorem fld93_0 : fldB Try.prog 93 0 = some (0,1) := by kernel_rfl
theorem ta90 : TA Try.prog 90 false 1 := ⟨by kernel_rfl,by kernel_rfl⟩
theorem zo132 : Zero Try.prog 132 (.st [eint 0,eSP_ ([]),.v (.slice none 0 0)]) := Zero.of _ (fun _ _ => .st (.cons (.v rfl) (.cons ((.sl0 (a := none) (cap := 0))) (.cons (.v rfl) (.nil))))) (by kernel_rfl)
theorem qJ0 : ∀ p,(qn1 p).dat := fun _ => ⟨tV,tV,tV,tV⟩
theorem ze166 : Zero Try.prog 166 (qi1 ((none : Option Fr),(none : Option Fr))) := Zero.of _ (fun _ _ => .st (.cons (.v rfl) (.cons (.v rfl) (.nil)))) (by kernel_rfl)
theorem q86 : arB Try.prog 166 = some (2,99) := by kernel_rfl
theorem sz99 : szB Try.prog 99 = some 1 := by kernel_rfl
theorem qC3 : fldB Try.prog 101 1 = some (24,1) := by kernel_rfl
theorem qU5 : ∀ x,AV.get [1] (.d (qi1 x)) = some (.d (qJ x.2),1) := by intro x; rcases x with ⟨(_ | _),(_ | _)⟩ <;> rfl
theorem qy5 : fldB Try.prog 93 1 = some (1,1) := by kernel_rfl
theorem ta59 : TA Try.prog 59 false 1 := ⟨by kernel_rfl,by kernel_rfl⟩
theorem sl59 : slB Try.prog 59 = some 3 := by kernel_rfl
theorem qg6 : ∀ x,(eint x).size = 1 := fun _ => rfl
theorem by3 : qw5 Try.prog 3 = some 8 := by kernel_rfl
theorem sz59 : szB Try.prog 59 = some 1 := by kernel_rfl
theorem zo46 : Zero Try.prog 46 (.st [eint 0,eSP_ ([]),.v (.slice none 0 0)]) := Zero.of _ (fun _ _ => .st (.cons (.v rfl) (.cons ((.sl0 (a := none) (cap := 0))) (.cons (.v rfl) (.nil))))) (by kernel_rfl)
theorem zs69 : Zero Try.prog 69 (.st [eK (List.replicate 24 0),eint 0]) := ze69
theorem pl69 : q13 Try.prog 69 = some [(0,24),(24,1)] := by kernel_rfl
theorem sz44 : szB Try.prog 44 = some 1 := by kernel_rfl
theorem qg1 : ∀ p,(qE2 p).dat := fun _ => ⟨tV,tV,tV,tV⟩
theorem hm24_Put : ∀ (v : Addr) w,Sem.run Try.prog (Go.method (Try.prog.types.size + Made.depth) 24 (.pointer (some v)) "Put") w = Result.ok (120,Value.pointer (some v)) w := fun _ _ => by kernel_rfl
theorem zo93 : Zero Try.prog 93 (.st [.v .nilIface,.v (.slice none 0 0)]) := Zero.of _ (fun _ _ => .st (.cons (.v rfl) (.cons (.v rfl) (.nil)))) (by kernel_rfl)
theorem pl93 : q13 Try.prog 93 = some [(0,1),(1,1)] := by kernel_rfl
theorem up24 : Try.prog.underlying 24 = some (.pointer 88) := by kernel_rfl
theorem qi6 : ifB Try.prog 24 = false := by kernel_rfl
theorem zs33 : Zero Try.prog 33 (.st [eK (List.replicate 24 0),eStr (ByteArray.mk #[]),qW false]) := ze33
theorem pl33 : q13 Try.prog 33 = some [(0,24),(24,1),(25,1)] := by kernel_rfl
theorem fld57_2 : fldB Try.prog 57 2 = some (2,1) := by kernel_rfl
theorem fld57_1 : fldB Try.prog 57 1 = some (1,1) := by kernel_rfl
theorem fld57_0 : fldB Try.prog 57 0 = some (0,1) := by kernel_rfl
theorem ta24 : TA Try.prog 24 false 1 := ⟨by kernel_rfl,by kernel_rfl⟩
theorem hm55_Get : ∀ (v : Addr) w,Sem.run Try.prog (Go.method (Try.prog.types.size + Made.depth) 55 (.pointer (some v)) "Get") w = Result.ok (129,Value.pointer (some v)) w := fun _ _ => by kernel_rfl
theorem hm55_Inc : ∀ (v : Addr) w,Sem.run Try.prog (Go.method (Try.prog.types.size + Made.depth) 55 (.pointer (some v)) "Inc") w = Result.ok (130,Value.pointer (some v)) w := fun _ _ => by kernel_rfl
theorem hm55_Put : ∀ (v : Addr) w,Sem.run Try.prog (Go.method (Try.prog.types.size + Made.depth) 55 (.pointer (some v)) "Put") w = Result.ok (131,Value.pointer (some v)) w := fun _ _ => by kernel_rfl
theorem zo57 : Zero Try.prog 57 (.st [.v (.pointer none),eint 0,eint 0]) := Zero.of _ (fun _ _ => .st (.cons (.v rfl) (.cons (.v rfl) (.cons (.v rfl) (.nil))))) (by kernel_rfl)
theorem pl57 : q13 Try.prog 57 = some [(0,1),(1,1),(2,1)] := by kernel_rfl
theorem ifB55 : ifB Try.prog 55 = false := by kernel_rfl
end
section
variable [NoDrw]
noncomputable def q60 (a0 : List UInt8) (a1 : List UInt8) : Option Int := some (Lib.compareBytes a0 a1)
noncomputable def qD (a0 : List UInt8) (a1 : List UInt8) : Option Int := (q60 a0 a1).bind fun x0 => some x0
noncomputable def qT5 (a0 : ttS) (a1 : List UInt8) : Option Bool := ((((qD a1 a0.1).bind fun x0 => cond (decide (x0 ≥ 0)) (cond a0.2.2 (some true) ((qD a1 a0.2.1).bind fun x1 => some (decide (x1 < 0)))) (some false)) : Option Bool)).bind fun o0 => some o0
noncomputable def refs_New (a0 : Int) : Option (Int × (List (Int × Int)) × Int) := some ((min (max a0 2) 4294967296),[],2)
noncomputable def qe1 (a0 : (Int × (List (Int × Int)) × Int)) : Option (Int × Bool × (Int × (List (Int × Int)) × Int)) := (((qN (V := (Int × (List (Int × Int)) × Int)) (O := ((Int × (List (Int × Int)) × Int) ⊕ (Int × Bool × (Int × (List (Int × Int)) × Int)))) (fun v0 => cond (decide (v0.2.2 < v0.1)) (cond (decide (((mget v0.2.1 v0.2.2).getD 0) = 0)) (
     some (.inr (.inr (v0.2.2,true,(v0.1,(mset v0.2.1 v0.2.2 1),(IntKind.wrap .i64 (v0.2.2 + 1))))))) (some (.inl (v0.1,v0.2.1,(IntKind.wrap .i64 (v0.2.2 + 1)))))) (some (.inr (.inl (v0.1,v0.2.1,v0.2.2))))) a0) : Option ((Int × (List (Int × Int)) × Int) ⊕ (Int × Bool × (Int × (List (Int × Int)) × Int))))).bind fun o0 => Sum.elim (fun (v1 : (Int × (List (Int × Int)) × Int)) =>
  some (0,false,v1)) (fun w0 => some w0) o0
noncomputable def qk1 (a0 : (Int × (List (Int × Int)) × Int)) (a1 : Int) : Option (Int × (Int × (List (Int × Int)) × Int)) := some (((mget a0.2.1 a1).getD 0),(a0.1,a0.2.1,a0.2.2))
noncomputable def qp2 (a0 : (Int × (List (Int × Int)) × Int)) : Option (Int × (Int × (List (Int × Int)) × Int)) := some ((IntKind.wrap .i64 ((IntKind.wrap .i64 (a0.1 - 2)) - (a0.2.1.length : Int))),(a0.1,a0.2.1,a0.2.2))
def qY1 (a0 : List ttR) : Option (List ttR) := (fits (([] : List ttR).length + a0.length) 40).bind fun _ => some a0
def qS1 (a0 : List ttK) : Option (List ttK) := (fits (([] : List ttK).length + a0.length) 32).bind fun _ => some a0
def qh2 (a0 : List ttC) : Option (List ttC) := (fits (([] : List ttC).length + a0.length) 48).bind fun _ => some a0
noncomputable def qj3 (a0 : ttN) : Option ttN := (qY1 a0.2.1).bind fun x0 => (qS1 a0.2.2).bind fun x1 => some (a0.1,x0,x1)
noncomputable def qr0 (a0 : ttM) (a1 : Int) : Option (Int × ttM) := (qk1 a0.1 a1).bind fun x0 => some (x0.1,(x0.2,a0.2))
noncomputable def qL0 (a0 : ttM) : Option (Int × ttM) := (qp2 a0.1).bind fun x0 => some (x0.1,(x0.2,a0.2))
noncomputable def qd1 (a0 : Int) : Option ttM := (refs_New (IntKind.wrap .i64 (2 + (min (max a0 0) 1048576)))).bind fun x0 => some (x0,[])
noncomputable def qx (a0 : ttM) (a1 : Int) : Option (ttN × Int × ttM) := (qk1 a0.1 a1).bind fun x0 => cond (decide (x0.1 = 0)) (some ((0,[],[]),12,(x0.2,a0.2))) ((qj3 ((mget a0.2 a1).getD (0,[],[]))).bind fun x1 => some (x1,0,(x0.2,a0.2)))
theorem qk3 {a0} {a1} {r} (h : q60 a0 a1 = some r) : FO 65 [.d (bytesD a0),.d (bytesD a1)] 0 [] (.d (eint r)) [] := by
 refine fnO Try.func65 rfl rfl (cwP ?_)
 unfold q60 at h
 refine cSR (.A rfl<|.nil rfl) ?_
 refine cSR (.M rfl<|.M rfl<|.c (o_bcmp (a := a0) (b := a1) rfl rfl .no cf81 rfl rfl)<|.A rfl<|.nil rfl) ?_
 obtain rfl := zQ h
 exact rt1 rfl rfl rfl
theorem qp0 {a0} {a1} {r} (h : qD a0 a1 = some r) : FO 43 [.d (eK a0),.d (eK a1)] 0 [] (.d (eint r)) [] := by
 refine fnO Try.func43 rfl rfl (cwP ?_)
 unfold qD at h
 refine cSR (.X 0 rfl<|.X 1 rfl<|.A rfl<|.nil rfl) ?_
 have ⟨x0,hx0,h0⟩ := bdS h
 refine cwS (cwRA mixed (by kernel_rfl) (.c (o_slP rfl rfl .no rfl ar31 sz5 .no .no (by decide) (by decide) (by decide))<|.c (o_slP rfl rfl .no rfl ar31 sz5 .no .no (by decide) (by decide) (by decide))<|.c (qc0 rfl rfl .no Try.func65 rfl rfl (qk3 hx0) (.cons rfl (.bsl [] rfl rfl rfl) (.cons rfl (.bsl [] rfl rfl rfl) .nil)) ⟨tV,tV,tV⟩ (.inr (DFlat.v _)))<|.A rfl<|.nil rfl) (by kernel_rfl) ?_)
 obtain rfl := zQ h0
 exact rt1 rfl rfl rfl
theorem tree_in_ok {a0} {a1} {r} (h : qT5 a0 a1 = some r) : FnOk Try.prog 42 [.d (eSp a0),.d (eK a1)] 0 (lk []) (fun rr oo => rr = .d (qW r) ∧ oo = lk []) := by
 refine fnO Try.func42 rfl rfl (cwP ?_)
 unfold qT5 at h
 refine cSR (.X 0 rfl<|.X 1 rfl<|.A rfl<|.nil rfl) ?_
 have ⟨o0,hj0,h0⟩ := bdS h
 refine cwJ (fun (z : Bool) => St.of [(4,.d (qW z))] []) (fun z => o0 = z) ?_ ?_
 ·intro v0 hv0; subst hv0
  obtain rfl := zQ h0
  exact rt1 rfl rfl rfl
 have ⟨x0,hx0,h1⟩ := bdS hj0
 rcases cdS h1 with ⟨hc0,h2⟩ | ⟨hc0,h3⟩
 ·skip
  rcases cdS h2 with ⟨hc1,h4⟩ | ⟨hc1,h5⟩
  ·skip
   refine cwR (.L [] rfl ta31 rfl<|.F rfl fld38_0 rfl<|.L [0] rfl ta31 rfl<|.c (qc0 rfl rfl .no Try.func43 rfl rfl (qp0 hx0) (.cons rfl .d (.cons rfl .d .nil)) ⟨tV,tV,tV⟩ (.inl rfl))<|.B rfl (qf6 _ _) rfl<|.M rfl<|.c (qu rfl rfl (.yes rfl rfl hc0) rfl fld38_2 (by decide))<|.c (qC [2] rfl rfl (.yes rfl rfl hc0) rfl rfl rfl ta4 rfl rfl)<|.c (o_mv rfl rfl (.yes rfl rfl hc0) rfl)<|.G rfl rfl hc1<|.G rfl rfl hc1<|.G rfl rfl hc1<|.G rfl rfl hc1<|.G rfl rfl hc1<|.c (qm rfl rfl (.yes rfl rfl hc0) rfl hc1 rfl)<|.I rfl hc0<|.A rfl<|.nil rfl) ?_
   exact ⟨true,(sJ h4),wA1 rfl⟩
  have ⟨x1,hx1,h6⟩ := bdS h5
  refine cwR (.L [] rfl ta31 rfl<|.F rfl fld38_0 rfl<|.L [0] rfl ta31 rfl<|.c (qc0 rfl rfl .no Try.func43 rfl rfl (qp0 hx0) (.cons rfl .d (.cons rfl .d .nil)) ⟨tV,tV,tV⟩ (.inl rfl))<|.B rfl (qf6 _ _) rfl<|.M rfl<|.c (qu rfl rfl (.yes rfl rfl hc0) rfl fld38_2 (by decide))<|.c (qC [2] rfl rfl (.yes rfl rfl hc0) rfl rfl rfl ta4 rfl rfl)<|.c (o_mv rfl rfl (.yes rfl rfl hc0) rfl)<|.c (qC [] rfl rfl (.yes rfl rfl hc1) rfl rfl rfl ta31 rfl rfl)<|.c (qu rfl rfl (.yes rfl rfl hc1) rfl fld38_1 (by decide))<|.c (qC [1] rfl rfl (.yes rfl rfl hc1) rfl rfl rfl ta31 rfl rfl)<|.c (qc0 rfl rfl (.yes rfl rfl hc1) Try.func43 rfl rfl (qp0 hx1) (.cons rfl .d (.cons rfl .d .nil)) ⟨tV,tV,tV⟩ (.inl rfl))<|.c (qn rfl rfl (.yes rfl rfl hc1) rfl rfl (qO0 _ _) rfl)<|.c (qk rfl rfl (.yes rfl rfl hc0) rfl hc1 rfl)<|.I rfl hc0<|.A rfl<|.nil rfl) ?_
  exact ⟨(decide (x1 < 0)),(sJ h6),wA1 rfl⟩
 refine cwR (.L [] rfl ta31 rfl<|.F rfl fld38_0 rfl<|.L [0] rfl ta31 rfl<|.c (qc0 rfl rfl .no Try.func43 rfl rfl (qp0 hx0) (.cons rfl .d (.cons rfl .d .nil)) ⟨tV,tV,tV⟩ (.inl rfl))<|.B rfl (qf6 _ _) rfl<|.M rfl<|.G rfl rfl hc0<|.G rfl rfl hc0<|.G rfl rfl hc0<|.c (q45 rfl rfl rfl rfl)<|.c (q45 rfl rfl rfl rfl)<|.c (q45 rfl rfl rfl rfl)<|.c (q45 rfl rfl rfl rfl)<|.c (q45 rfl rfl rfl rfl)<|.G rfl rfl hc0<|.J rfl hc0<|.A rfl<|.nil rfl) ?_
 exact ⟨false,(sJ h3),wA1 rfl⟩
theorem refs_New_ok {a0} {r} (h : refs_New a0 = some r) : FO 34 [.d (eint a0)] 0 [] (.ptr 0 0) [(0,.own (qp r))] := by
 refine fnO Try.func34 rfl rfl (cwP ?_)
 unfold refs_New at h
 refine cSR (.A rfl<|.nil rfl) ?_
 refine cSR (.M rfl<|.c (o_max rfl rfl .no rfl rfl)<|.c (o_min rfl rfl .no rfl rfl)<|.c (o_mkmap eint eint 1 rfl rfl .no rfl)<|.c (o_bldA rfl rfl .no zo126 rfl pl126 (.cons rfl rfl rfl rfl rfl rfl rfl (.cons rfl rfl rfl rfl rfl rfl rfl (.cons rfl rfl rfl rfl rfl rfl rfl .nil))))<|.X 0 rfl<|.A rfl<|.nil rfl) ?_
 obtain rfl := zQ h
 exact qv ⟨_,(show Leads _ _ (St.of [(2,.ptr 0 0)] [(0,.own (qp ((min (max a0 2) 4294967296),[],2)))]) from .trans (lPk (o := 0) (y := .st [.d (eint (min (max a0 2) 4294967296)),.map 1,.d (eint 2)]) (x := qp ((min (max a0 2) 4294967296),[],2)) (l := [(2,.ptr 0 0)]) (m := [(0,.own (qp ((min (max a0 2) 4294967296),[],2)))]) rfl (.st (.cons (.av rfl) (.cons (.map rfl) (.cons (.av rfl) .nil)))) rfl rfl ⟨⟨rfl,(by simp [AV.live,AV.lives,lk,Nat.beq])⟩,tV⟩ ⟨.inl rfl,tV⟩ rfl (OD.dat_live (ql _)) ⟨rfl,tV⟩ qM) (wA1 rfl)),.inr rfl,_,res1 rfl rfl,rfl,rfl⟩
theorem refs_Refs_Take_ok {a0} {r} (h : qe1 a0 = some r) : FnOk Try.prog 123 [.ptr 0 0] 1 (lk [(0,.own (qp a0))]) (fun rr oo => rr = .tup [.d (eint r.1),.d (qW r.2.1)] ∧ oo = lk [(0,.own (qp r.2.2))]) := by
 refine fnO Try.func123 rfl rfl (cwP ?_)
 unfold qe1 at h
 refine cSR (.A rfl<|.A rfl<|.nil rfl) ?_
 have ⟨o0,hj0,h0⟩ := bdS h
 refine cwJ (fun (z : (Int × (List (Int × Int)) × Int)) => St.of [] [(0,.own (qp z))]) (fun z => o0 = (.inl z)) ?_ ?_
 ·intro v0 hv0; subst hv0
  simp only [zN] at h0
  refine cSR (.A rfl<|.A rfl<|.nil rfl) ?_
  obtain rfl := zQ h0
  exact rt2 rfl rfl rfl rfl
 refine cwB (qK (fun (z : (Int × (List (Int × Int)) × Int)) => St.of [(0,.ptr 0 0)] [(0,.own (qp z))]) hj0 (wA1 rfl) ?_)
 intro v1 x0 hb0 hx0
 refine cwS (cwL (lOp (o := 0) (y := .st [.d (eint v1.1),.map 1,.d (eint v1.2.2)]) (news := [(1,.map 0 (mD eint eint v1.2.1))]) rfl (.st (.cons (.av rfl) (.cons (.map rfl) (.cons (.av rfl) .nil)))) rfl rfl ⟨rfl,tV⟩) ?_)
 refine cwW (wA0 (l := [(0,.ptr 0 0)]) (m := [(0,.box (.st [.d (eint v1.1),.map 1,.d (eint v1.2.2)])),(1,.map 0 (mD eint eint v1.2.1))]) rfl) ?_
 refine cwS (cwRA mixed (by kernel_rfl) (.M rfl<|.K rfl<|.F rfl qq4 rfl<|.L [2] rfl ta3 rfl<|.M rfl<|.K rfl<|.F rfl fld126_0 rfl<|.L [0] rfl ta3 rfl<|.B rfl (qO0 _ _) rfl<|.nil rfl) (by kernel_rfl) ?_)
 refine cwC hb0 rfl ?_ ?_
 ·intro hc0 h1
  refine cwK (cwS ?_)
  refine cwB (cSR (.M rfl<|.K rfl<|.F rfl qq4 rfl<|.L [2] rfl ta3 rfl<|.A rfl<|.nil rfl) ?_)
  refine cSR (.M rfl<|.K rfl<|.F rfl qX3 rfl<|.L [1] rfl ta124 rfl<|.M rfl<|.c (qL5 (ek := eint) (ev := eint) (m := v1.2.1) v1.2.2 0 rfl rfl .no rfl rfl rfl mp124 kl3 ze3 rfl rfl)<|.B rfl (qh0 _ _) rfl<|.nil rfl) ?_
  refine cwC h1 rfl ?_ ?_
  ·intro hc1 h3
   refine cSR (.M rfl<|.K rfl<|.F rfl qX3 rfl<|.L [1] rfl ta124 rfl<|.M rfl<|.c (o_mapset (ek := eint) (ev := eint) (m := v1.2.1) v1.2.2 1 rfl .no rfl rfl rfl rfl mp124 kl3 rfl)<|.nil rfl) ?_
   refine cSR (.M rfl<|.K rfl<|.F rfl qq4 rfl<|.L [2] rfl ta3 rfl<|.B rfl (qR0 _ _) rfl<|.K rfl<|.F rfl qq4 rfl<|.S [2] rfl sz3 rfl<|.nil rfl) ?_
   refine cSR (.M rfl<|.A rfl<|.A rfl<|.nil rfl) ?_
   have he0 := ((hx0 _ (sJ h3)).symm).symm
   subst he0
   obtain rfl := zQ h0
   exact qv ⟨_,(show Leads _ _ (St.of [(2,.d (eint v1.2.2)),(3,.d (qW true))] [(0,.own (qp (v1.1,(mset v1.2.1 v1.2.2 1),(IntKind.wrap .i64 (v1.2.2 + 1)))))]) from .trans (lPk (o := 0) (y := .st [.d (eint v1.1),.map 1,.d (eint (IntKind.wrap .i64 (v1.2.2 + 1)))]) (x := qp (v1.1,(mset v1.2.1 v1.2.2 1),(IntKind.wrap .i64 (v1.2.2 + 1)))) (l := [(2,.d (eint v1.2.2)),(3,.d (qW true))]) (m := [(0,.own (qp (v1.1,(mset v1.2.1 v1.2.2 1),(IntKind.wrap .i64 (v1.2.2 + 1)))))]) rfl (.st (.cons (.av rfl) (.cons (.map rfl) (.cons (.av rfl) .nil)))) rfl rfl ⟨⟨rfl,tV⟩,⟨rfl,tV⟩,tV⟩ ⟨.inl rfl,tV⟩ rfl (OD.dat_live (ql _)) ⟨rfl,tV⟩ (qq rfl)) (wA1 rfl)),.inr rfl,_,res2 rfl rfl rfl,rfl,rfl⟩
  intro hc1 h4
  refine cwK (cwR (.M rfl<|.K rfl<|.F rfl qq4 rfl<|.L [2] rfl ta3 rfl<|.B rfl (qR0 _ _) rfl<|.K rfl<|.F rfl qq4 rfl<|.S [2] rfl sz3 rfl<|.nil rfl) ?_)
  exact ⟨(v1.1,v1.2.1,(IntKind.wrap .i64 (v1.2.2 + 1))),(sJ h4),.trans (lPk (o := 0) (y := .st [.d (eint v1.1),.map 1,.d (eint (IntKind.wrap .i64 (v1.2.2 + 1)))]) (x := qp (v1.1,v1.2.1,(IntKind.wrap .i64 (v1.2.2 + 1)))) (l := [(0,.ptr 0 0)]) (m := [(0,.own (qp (v1.1,v1.2.1,(IntKind.wrap .i64 (v1.2.2 + 1)))))]) rfl (.st (.cons (.av rfl) (.cons (.map rfl) (.cons (.av rfl) .nil)))) rfl rfl ⟨⟨rfl,(by simp [AV.live,AV.lives,lk,Nat.beq])⟩,tV⟩ ⟨.inl rfl,tV⟩ rfl (OD.dat_live (ql _)) ⟨rfl,tV⟩ (qq rfl)) (wA1 rfl)⟩
 intro hc0 h2
 refine qR ?_
 exact ⟨(v1.1,v1.2.1,v1.2.2),(hx0 _ (sJ h2)).symm,.trans (lPk (o := 0) (y := .st [.d (eint v1.1),.map 1,.d (eint v1.2.2)]) (x := qp (v1.1,v1.2.1,v1.2.2)) (l := []) (m := [(0,.own (qp (v1.1,v1.2.1,v1.2.2)))]) rfl (.st (.cons (.av rfl) (.cons (.map rfl) (.cons (.av rfl) .nil)))) rfl rfl trivial ⟨.inl rfl,tV⟩ rfl (OD.dat_live (ql _)) ⟨rfl,tV⟩ (qq rfl)) (wA1 rfl)⟩
theorem qL3 {a0} {a1} {r} (h : qk1 a0 a1 = some r) : FO 46 [.ptr 0 0,.d (eint a1)] 1 [(0,.own (qp a0))] (.d (eint r.1)) [(0,.own (qp r.2))] := by
 refine fnO Try.func46 rfl rfl (cwP ?_)
 unfold qk1 at h
 refine cSR (.A rfl<|.nil rfl) ?_
 refine cwL (lOp (o := 0) (y := .st [.d (eint a0.1),.map 1,.d (eint a0.2.2)]) (news := [(1,.map 0 (mD eint eint a0.2.1))]) rfl (.st (.cons (.av rfl) (.cons (.map rfl) (.cons (.av rfl) .nil)))) rfl rfl ⟨rfl,tV⟩) ?_
 refine cwW (wA0 (l := [(0,.ptr 0 0),(1,.d (eint a1))]) (m := [(0,.box (.st [.d (eint a0.1),.map 1,.d (eint a0.2.2)])),(1,.map 0 (mD eint eint a0.2.1))]) rfl) ?_
 refine cSR (.M rfl<|.K rfl<|.F rfl qX3 rfl<|.L [1] rfl ta124 rfl<|.M rfl<|.c (qL5 (ek := eint) (ev := eint) (m := a0.2.1) a1 0 rfl rfl .no rfl rfl rfl mp124 kl3 ze3 rfl rfl)<|.A rfl<|.nil rfl) ?_
 obtain rfl := zQ h
 exact qv ⟨_,(show Leads _ _ (St.of [(4,.d (eint ((mget a0.2.1 a1).getD 0)))] [(0,.own (qp (a0.1,a0.2.1,a0.2.2)))]) from .trans (lPk (o := 0) (y := .st [.d (eint a0.1),.map 1,.d (eint a0.2.2)]) (x := qp (a0.1,a0.2.1,a0.2.2)) (l := [(4,.d (eint ((mget a0.2.1 a1).getD 0)))]) (m := [(0,.own (qp (a0.1,a0.2.1,a0.2.2)))]) rfl (.st (.cons (.av rfl) (.cons (.map rfl) (.cons (.av rfl) .nil)))) rfl rfl ⟨⟨rfl,tV⟩,tV⟩ ⟨.inl rfl,tV⟩ rfl (OD.dat_live (ql _)) ⟨rfl,tV⟩ (qq rfl)) (wA1 rfl)),.inr rfl,_,res1 rfl rfl,rfl,rfl⟩
theorem refs_Refs_Free_ok {a0} {r} (h : qp2 a0 = some r) : FO 49 [.ptr 0 0] 1 [(0,.own (qp a0))] (.d (eint r.1)) [(0,.own (qp r.2))] := by
 refine fnO Try.func49 rfl rfl (cwP ?_)
 unfold qp2 at h
 refine cSR (.A rfl<|.nil rfl) ?_
 refine cwL (lOp (o := 0) (y := .st [.d (eint a0.1),.map 1,.d (eint a0.2.2)]) (news := [(1,.map 0 (mD eint eint a0.2.1))]) rfl (.st (.cons (.av rfl) (.cons (.map rfl) (.cons (.av rfl) .nil)))) rfl rfl ⟨rfl,tV⟩) ?_
 refine cwW (wA0 (l := [(0,.ptr 0 0)]) (m := [(0,.box (.st [.d (eint a0.1),.map 1,.d (eint a0.2.2)])),(1,.map 0 (mD eint eint a0.2.1))]) rfl) ?_
 refine cwS (cwRA mixed (by kernel_rfl) (.M rfl<|.K rfl<|.F rfl fld126_0 rfl<|.L [0] rfl ta3 rfl<|.B rfl (qS3 _ _) rfl<|.M rfl<|.K rfl<|.F rfl qX3 rfl<|.L [1] rfl ta124 rfl<|.c (o_maplen (ek := eint) (ev := eint) (m := a0.2.1) rfl rfl .no rfl rfl mp124)<|.B rfl (qS3 _ _) rfl<|.A rfl<|.nil rfl) (by kernel_rfl) ?_)
 obtain rfl := zQ h
 exact qv ⟨_,(show Leads _ _ (St.of [(2,.d (eint (IntKind.wrap .i64 ((IntKind.wrap .i64 (a0.1 - 2)) - (a0.2.1.length : Int)))))] [(0,.own (qp (a0.1,a0.2.1,a0.2.2)))]) from .trans (lPk (o := 0) (y := .st [.d (eint a0.1),.map 1,.d (eint a0.2.2)]) (x := qp (a0.1,a0.2.1,a0.2.2)) (l := [(2,.d (eint (IntKind.wrap .i64 ((IntKind.wrap .i64 (a0.1 - 2)) - (a0.2.1.length : Int)))))]) (m := [(0,.own (qp (a0.1,a0.2.1,a0.2.2)))]) rfl (.st (.cons (.av rfl) (.cons (.map rfl) (.cons (.av rfl) .nil)))) rfl rfl ⟨⟨rfl,tV⟩,tV⟩ ⟨.inl rfl,tV⟩ rfl (OD.dat_live (ql _)) ⟨rfl,tV⟩ (qq rfl)) (wA1 rfl)),.inr rfl,_,res1 rfl rfl,rfl,rfl⟩
theorem slices_Clone69_ok {a0} {r} (h : qY1 a0 = some r) : FO 69 [.d (eSP_ a0)] 0 [] (.d (eSP_ r)) [] := by
 refine fnO Try.func69 rfl rfl (cwP ?_)
 unfold qY1 at h
 have ⟨x0,hx0,h0⟩ := bdS h
 have hx0g := qV hx0
 have heq := zQ h0
 subst heq
 refine cSR (.A rfl<|.nil rfl) ?_
 refine cwS (cwS (qN3 (.cons (uM rfl) <| .any (a_nilq rfl rfl rfl sl34) fun s' hs => .nil rfl ?_)))
 obtain ⟨b,hb,rfl⟩ := hs
 cases b with
 | true =>
  have hz : a0 = [] := List.map_eq_nil_iff.1 (hb rfl)
  subst hz
  refine cwT rfl rfl (cwS (cwR (.A rfl<|.nil rfl) ?_))
  exact qv ⟨_,(show Leads _ _ (St.of [(2,.d (eSP_ []))] []) from .w (wkF ⟨⟨_,rfl,.nil0⟩,tV⟩ trivial qM)),.inr rfl,_,res1 rfl rfl,rfl,rfl⟩
 | false =>
  refine cwF rfl rfl (cwK ?_)
  refine cSR (.c (o_bslO (rows := ([] : List ttR).map ePr) 0 rfl rfl .no .nil rfl sl34 sz52 ze52 rfl (q51 qN0) (by decide) rfl)<|.M rfl<|.c (q02 (enc := ePr) (xs := ([] : List ttR)) (ys := a0) rfl rfl .no rfl rfl rfl qN0 sl34 sl34 sz52 by52 ze52 rfl (by decide) hx0g)<|.A rfl<|.nil rfl) ?_
  exact rt1 rfl rfl rfl
theorem slices_Clone70_ok {a0} {r} (h : qS1 a0 = some r) : FO 70 [.d (qH0 a0)] 0 [] (.d (qH0 r)) [] := by
 refine fnO Try.func70 rfl rfl (cwP ?_)
 unfold qS1 at h
 have ⟨x0,hx0,h0⟩ := bdS h
 have hx0g := qV hx0
 have heq := zQ h0
 subst heq
 refine cSR (.A rfl<|.nil rfl) ?_
 refine cwS (cwS (qN3 (.cons (uM rfl) <| .any (a_nilq rfl rfl rfl sl44) fun s' hs => .nil rfl ?_)))
 obtain ⟨b,hb,rfl⟩ := hs
 cases b with
 | true =>
  have hz : a0 = [] := List.map_eq_nil_iff.1 (hb rfl)
  subst hz
  refine cwT rfl rfl (cwS (cwR (.A rfl<|.nil rfl) ?_))
  exact qv ⟨_,(show Leads _ _ (St.of [(2,.d (qH0 []))] []) from .w (wkF ⟨⟨_,rfl,.nil0⟩,tV⟩ trivial qM)),.inr rfl,_,res1 rfl rfl,rfl,rfl⟩
 | false =>
  refine cwF rfl rfl (cwK ?_)
  refine cSR (.c (o_bslO (rows := ([] : List ttK).map q50) 0 rfl rfl .no .nil rfl sl44 sz69 ze69 rfl (q51 qK5) (by decide) rfl)<|.M rfl<|.c (q02 (enc := q50) (xs := ([] : List ttK)) (ys := a0) rfl rfl .no rfl rfl rfl qK5 sl44 sl44 sz69 by69 ze69 rfl (by decide) hx0g)<|.A rfl<|.nil rfl) ?_
  exact rt1 rfl rfl rfl
theorem slices_Clone54_ok {a0} {r} (h : qh2 a0 = some r) : FnOk Try.prog 54 [.d (eSC a0)] 0 (lk []) (fun rr oo => rr = .arr 0 0 ∧ oo = lk [(0,.arr 0 26 (List.map eCg r))]) := by
 refine fnO Try.func54 rfl rfl (cwP ?_)
 unfold qh2 at h
 have ⟨x0,hx0,h0⟩ := bdS h
 have hx0g := qV hx0
 have heq := zQ h0
 subst heq
 refine cSR (.A rfl<|.nil rfl) ?_
 refine cwS (cwS (qN3 (.cons (uM rfl) <| .any (a_nilq rfl rfl rfl sl22) fun s' hs => .nil rfl ?_)))
 obtain ⟨b,hb,rfl⟩ := hs
 cases b with
 | true =>
  have hz : a0 = [] := List.map_eq_nil_iff.1 (hb rfl)
  subst hz
  refine cwT rfl rfl (cwS (cwR (.A rfl<|.nil rfl) ?_))
  exact qv ⟨_,(show Leads _ _ (St.of [(2,.arr 0 0)] [(0,.arr 0 26 (List.map eCg []))]) from .w (wkF ⟨⟨_,rfl,.nila rfl rfl⟩,tV⟩ ⟨.nil rfl,tV⟩ qM)),.inr rfl,_,res1 rfl rfl,rfl,rfl⟩
 | false =>
  refine cwF rfl rfl (cwK ?_)
  refine cSR (.c (o_bslO (rows := ([] : List ttC).map eCg) 0 rfl rfl .no .nil rfl sl22 sz33 ze33 rfl (q51 qn0) (by decide) rfl)<|.M rfl<|.c (q02 (enc := eCg) (xs := ([] : List ttC)) (ys := a0) rfl rfl .no rfl rfl rfl qn0 sl22 sl22 sz33 by33 ze33 rfl (by decide) hx0g)<|.A rfl<|.nil rfl) ?_
  exact rt1 rfl rfl rfl
theorem tree_own_okc {a0} {r} (h : qj3 a0 = some r) : FO 47 [.d (qw a0)] 0 [] (.d (qw r)) [(1,.box (.d (qw r)))] := by
 refine fnO Try.func47 rfl rfl (cwP ?_)
 unfold qj3 at h
 refine cSR (.X 0 rfl<|.c (qb0 1 rfl rfl .no ze46 rfl)<|.nil rfl) ?_
 have ⟨x0,hx0,h0⟩ := bdS h
 have ⟨x1,hx1,h1⟩ := bdS h0
 refine cwS (cwRA mixed (by kernel_rfl) (.F rfl qG1 rfl<|.L [0] rfl ta3 rfl<|.F rfl qy3 rfl<|.L [1] rfl ta34 rfl<|.c (qc0 rfl rfl .no Try.func69 rfl rfl (slices_Clone69_ok hx0) (.cons rfl .d .nil) ⟨tV,tV⟩ (.inl rfl))<|.F rfl q31 rfl<|.L [2] rfl ta44 rfl<|.c (qc0 rfl rfl .no Try.func70 rfl rfl (slices_Clone70_ok hx1) (.cons rfl .d .nil) ⟨tV,tV⟩ (.inl rfl))<|.c (qa6 (ds := [eint a0.1,eSP_ x0,qH0 x1]) rfl rfl .no zs46 rfl pl46 (.cons rfl rfl rfl rfl rfl rfl rfl (.cons rfl rfl rfl rfl rfl rfl rfl (.cons rfl rfl rfl rfl rfl rfl rfl .nil))))<|.S [] rfl sz46 rfl<|.nil rfl) (by kernel_rfl) ?_)
 obtain rfl := zQ h1
 exact qv ⟨_,(wA2 [(2,.ptr 1 0)] [(1,.box (.d (qw (a0.1,x0,x1))))] rfl),.inr rfl,_,resC rfl rfl rfl ta46 rfl rfl,rfl,rfl⟩
theorem tree_own_ok {a0} {r} (h : qj3 a0 = some r) : FO 47 [.d (qw a0)] 0 [] (.d (qw r)) [] := q93 (tree_own_okc h)
theorem qI0 {a0} {a1} {r} (h : qr0 a0 a1 = some r) : FO 32 [.ptr 0 0,.d (eint a1)] 1 [(0,.own (qe a0))] (.d (eint r.1)) [(0,.own (qe r.2))] := by
 refine fnO Try.func32 rfl rfl (cwP ?_)
 unfold qr0 at h
 refine cSR (.A rfl<|.nil rfl) ?_
 refine cwL (lOp (o := 0) (y := .st [.ptr 1 0,.map 2]) (news := [(1,.own (qp a0.1)),(2,.map 0 (mD eint qw a0.2))]) rfl (.st (.cons (.box rfl) (.cons (.map rfl) .nil))) rfl rfl ⟨rfl,rfl,tV⟩) ?_
 refine cwW (wA0 (l := [(0,.ptr 0 0),(1,.d (eint a1))]) (m := [(0,.box (.st [.ptr 1 0,.map 2])),(1,.own (qp a0.1)),(2,.map 0 (mD eint qw a0.2))]) rfl) ?_
 have ⟨x0,hx0,h0⟩ := bdS h
 refine cSR (.M rfl<|.K rfl<|.F rfl fld88_0 rfl<|.L [0] rfl ta84 rfl<|.M rfl<|.c (qG (fun _ => 1) rfl rfl .no Try.func46 rfl rfl (qL3 hx0) (.cons rfl (.p rfl) (.cons rfl .d .nil)) (q20 rfl ⟨(by simp [AV.live,lk,Nat.beq]),tV,tV⟩ rfl (OD.dat_live (ql _)) (by simp)) (.inl rfl))<|.A rfl<|.nil rfl) ?_
 obtain rfl := zQ h0
 exact qv ⟨_,(show Leads _ _ (St.of [(4,.d (eint x0.1))] [(0,.own (qe (x0.2,a0.2)))]) from .trans (lPk (o := 0) (y := .st [.ptr 1 0,.map 2]) (x := qe (x0.2,a0.2)) (l := [(4,.d (eint x0.1))]) (m := [(0,.own (qe (x0.2,a0.2)))]) rfl (.st (.cons (.box rfl) (.cons (.map rfl) .nil))) rfl rfl ⟨⟨rfl,tV⟩,tV⟩ ⟨.inl rfl,tV⟩ rfl (OD.dat_live (qc _)) ⟨rfl,rfl,tV⟩ (qq rfl)) (wA1 rfl)),.inr rfl,_,res1 rfl rfl,rfl,rfl⟩
theorem qi2 {a0} {r} (h : qL0 a0 = some r) : FO 25 [.ptr 0 0] 1 [(0,.own (qe a0))] (.d (eint r.1)) [(0,.own (qe r.2))] := by
 refine fnO Try.func25 rfl rfl (cwP ?_)
 unfold qL0 at h
 refine cSR (.A rfl<|.nil rfl) ?_
 refine cwL (lOp (o := 0) (y := .st [.ptr 1 0,.map 2]) (news := [(1,.own (qp a0.1)),(2,.map 0 (mD eint qw a0.2))]) rfl (.st (.cons (.box rfl) (.cons (.map rfl) .nil))) rfl rfl ⟨rfl,rfl,tV⟩) ?_
 refine cwW (wA0 (l := [(0,.ptr 0 0)]) (m := [(0,.box (.st [.ptr 1 0,.map 2])),(1,.own (qp a0.1)),(2,.map 0 (mD eint qw a0.2))]) rfl) ?_
 have ⟨x0,hx0,h0⟩ := bdS h
 refine cSR (.M rfl<|.K rfl<|.F rfl fld88_0 rfl<|.L [0] rfl ta84 rfl<|.c (qG (fun _ => 1) rfl rfl .no Try.func49 rfl rfl (refs_Refs_Free_ok hx0) (.cons rfl (.p rfl) .nil) (q20 rfl ⟨(by simp [AV.live,lk,Nat.beq]),tV⟩ rfl (OD.dat_live (ql _)) (by simp)) (.inl rfl))<|.A rfl<|.nil rfl) ?_
 obtain rfl := zQ h0
 exact qv ⟨_,(show Leads _ _ (St.of [(2,.d (eint x0.1))] [(0,.own (qe (x0.2,a0.2)))]) from .trans (lPk (o := 0) (y := .st [.ptr 1 0,.map 2]) (x := qe (x0.2,a0.2)) (l := [(2,.d (eint x0.1))]) (m := [(0,.own (qe (x0.2,a0.2)))]) rfl (.st (.cons (.box rfl) (.cons (.map rfl) .nil))) rfl rfl ⟨⟨rfl,tV⟩,tV⟩ ⟨.inl rfl,tV⟩ rfl (OD.dat_live (qc _)) ⟨rfl,rfl,tV⟩ (qq rfl)) (wA1 rfl)),.inr rfl,_,res1 rfl rfl,rfl,rfl⟩
theorem qb4 {a0} {r} (h : qd1 a0 = some r) : FO 14 [.d (eint a0)] 0 [] (.ptr 0 0) [(0,.own (qe r))] := by
 refine fnO Try.func14 rfl rfl (cwP ?_)
 unfold qd1 at h
 refine cSR (.A rfl<|.nil rfl) ?_
 have ⟨x0,hx0,h0⟩ := bdS (x := refs_New (IntKind.wrap .i64 (2 + (min (max a0 0) 1048576)))) h
 refine cSR (.M rfl<|.c (o_max rfl rfl .no rfl rfl)<|.c (o_min rfl rfl .no rfl rfl)<|.B rfl (qR0 _ _) rfl<|.c (qW5 2 rfl rfl .no Try.func34 rfl rfl (refs_New_ok hx0) (.cons rfl .d .nil) ⟨tV,tV⟩ rfl (.inl rfl))<|.c (o_mkmap eint qw 1 rfl rfl .no rfl)<|.c (o_bldA rfl rfl .no zo88 rfl pl88 (.cons rfl rfl rfl rfl rfl rfl rfl (.cons rfl rfl rfl rfl rfl rfl rfl .nil)))<|.X 0 rfl<|.A rfl<|.nil rfl) ?_
 obtain rfl := zQ h0
 exact qv ⟨_,(show Leads _ _ (St.of [(2,.ptr 0 0)] [(0,.own (qe (x0,[])))]) from .trans (lPk (o := 0) (y := .st [.ptr 2 0,.map 1]) (x := qe (x0,[])) (l := [(2,.ptr 0 0)]) (m := [(0,.own (qe (x0,[])))]) rfl (.st (.cons (.box rfl) (.cons (.map rfl) .nil))) rfl rfl ⟨⟨rfl,(by simp [AV.live,AV.lives,lk,Nat.beq])⟩,tV⟩ ⟨.inl rfl,tV⟩ rfl (OD.dat_live (qc _)) ⟨rfl,rfl,tV⟩ qM) (wA1 rfl)),.inr rfl,_,res1 rfl rfl,rfl,rfl⟩
theorem qk0 {a0} {a1} {r} (h : qx a0 a1 = some r) : FnOk Try.prog 23 [.ptr 0 0,.d (eint a1)] 1 (lk [(0,.own (qe a0))]) (fun rr oo => rr = .tup [.d (qw r.1),.d (eErr r.2.1)] ∧ oo = lk [(0,.own (qe r.2.2)),(1,.box (.d (qw r.1)))]) := by
 refine fnO Try.func23 rfl rfl (cwP ?_)
 unfold qx at h
 refine cSR (.c (qb0 1 rfl rfl .no ze46 rfl)<|.A rfl<|.nil rfl) ?_
 refine cwS (cwL (lOp (o := 0) (y := .st [.ptr 2 0,.map 3]) (news := [(2,.own (qp a0.1)),(3,.map 0 (mD eint qw a0.2))]) rfl (.st (.cons (.box rfl) (.cons (.map rfl) .nil))) rfl rfl ⟨rfl,rfl,tV⟩) ?_)
 refine cwW (wA0 (l := [(0,.ptr 0 0),(1,.d (eint a1)),(4,.ptr 1 0)]) (m := [(0,.box (.st [.ptr 2 0,.map 3])),(1,.box (.d (qw (0,[],[])))),(2,.own (qp a0.1)),(3,.map 0 (mD eint qw a0.2))]) rfl) ?_
 have ⟨x0,hx0,h0⟩ := bdS h
 refine cSR (.M rfl<|.K rfl<|.F rfl fld88_0 rfl<|.L [0] rfl ta84 rfl<|.M rfl<|.c (qG (fun _ => 2) rfl rfl .no Try.func46 rfl rfl (qL3 hx0) (.cons rfl (.p rfl) (.cons rfl .d .nil)) (q20 rfl ⟨(by simp [AV.live,lk,Nat.beq]),tV,tV⟩ rfl (OD.dat_live (ql _)) (by simp)) (.inl rfl))<|.B rfl (qh0 _ _) rfl<|.nil rfl) ?_
 refine cwC h0 rfl ?_ ?_
 ·intro hc0 h1
  refine cSR (.c (qa6 (ds := [eint 0,eSP_ ([]),qH0 ([])]) rfl rfl .no zs46 rfl pl46 .nil)<|.S [] rfl sz46 rfl<|.A rfl<|.nil rfl) ?_
  obtain rfl := zQ h1
  exact qv ⟨_,(show Leads _ _ (St.of [(4,.ptr 1 0),(5,.d (eErr 12))] [(0,.own (qe (x0.2,a0.2))),(1,.box (.d (qw (0,[],[]))))]) from .trans (lPk (o := 0) (y := .st [.ptr 2 0,.map 3]) (x := qe (x0.2,a0.2)) (l := [(4,.ptr 1 0),(5,.d (eint 12))]) (m := [(0,.own (qe (x0.2,a0.2))),(1,.box (.d (qw (0,[],[]))))]) rfl (.st (.cons (.box rfl) (.cons (.map rfl) .nil))) rfl rfl ⟨⟨rfl,(by simp [AV.live,AV.lives,lk,Nat.beq])⟩,⟨rfl,tV⟩,tV⟩ ⟨.inl rfl,(.inr ⟨rfl,tV⟩),tV⟩ rfl (OD.dat_live (qc _)) ⟨rfl,rfl,tV⟩ (qq rfl)) (wA1 rfl)),.inr rfl,_,resCT rfl rfl rfl ta46 rfl rfl rfl,rfl,rfl⟩
 intro hc0 h2
 refine cwK ?_
 have ⟨x1,hx1,h3⟩ := bdS h2
 refine cSR (.M rfl<|.K rfl<|.F rfl fld88_1 rfl<|.L [1] rfl ta86 rfl<|.M rfl<|.c (qL5 (ek := eint) (ev := qw) (m := a0.2) a1 (0,[],[]) rfl rfl .no rfl rfl rfl mp86 kl3 ze46 rfl rfl)<|.c (qc0 rfl rfl .no Try.func47 rfl rfl (tree_own_ok hx1) (.cons rfl .d .nil) ⟨tV,tV⟩ (.inl rfl))<|.S [] rfl sz46 rfl<|.A rfl<|.nil rfl) ?_
 obtain rfl := zQ h3
 exact qv ⟨_,(show Leads _ _ (St.of [(4,.ptr 1 0),(5,.d (eErr 0))] [(0,.own (qe (x0.2,a0.2))),(1,.box (.d (qw x1)))]) from .trans (lPk (o := 0) (y := .st [.ptr 2 0,.map 3]) (x := qe (x0.2,a0.2)) (l := [(4,.ptr 1 0),(5,.d (eint 0))]) (m := [(0,.own (qe (x0.2,a0.2))),(1,.box (.d (qw x1)))]) rfl (.st (.cons (.box rfl) (.cons (.map rfl) .nil))) rfl rfl ⟨⟨rfl,(by simp [AV.live,AV.lives,lk,Nat.beq])⟩,⟨rfl,tV⟩,tV⟩ ⟨.inl rfl,(.inr ⟨rfl,tV⟩),tV⟩ rfl (OD.dat_live (qc _)) ⟨rfl,rfl,tV⟩ (qq rfl)) (wA1 rfl)),.inr rfl,_,resCT rfl rfl rfl ta46 rfl rfl rfl,rfl,rfl⟩
end
end Go.Val
