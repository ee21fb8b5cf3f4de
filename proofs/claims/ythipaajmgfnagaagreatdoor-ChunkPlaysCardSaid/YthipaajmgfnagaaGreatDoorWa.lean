/- Walks of the program's functions,printed. -/
import Derived.Test.YthipaajmgfnagaaGreatDoorX1
import Derived.Test.YthipaajmgfnagaaGreatDoorLc
import Derived.Test.YthipaajmgfnagaaGreatDoorProg
import Derived.KernelRfl
set_option linter.unusedSectionVars false
set_option linter.unusedVariables false
set_option linter.unusedSimpArgs false
set_option maxRecDepth 100000
namespace Go.Val
abbrev B8 : Type := List UInt8
abbrev VwT : Type := ((List (B8 × ByteArray)) × (List (B8 × (B8 × ByteArray × Bool))) × (List (B8 × B8 × Bool)) × (List (List (B8 × (B8 × ByteArray × Bool)))))
abbrev WwT : Type := ((List (B8 × ByteArray)) × (List (B8 × ByteArray × Bool)) × (List (B8 × B8 × Bool)) × (List (List (B8 × ByteArray × Bool))))
open Go.RowKit Go.Proofs
def eStr : ByteArray → D := fun b => .v (.string b)
def eint : Int → D := fun n => .v (.int .i64 n)
def eK : B8 → D := fun l => .bs 24 l
def ePr : (B8 × ByteArray) → D := fun p => .st [eK p.1,eStr p.2]
def eSP_ : (List (B8 × ByteArray)) → D := fun xs => .sl 25 (xs.map ePr)
def qz : Bool → D := fun b => .v (.bool b)
def ePl : (List (B8 × ByteArray)) → D := fun p => .st [eSP_ p]
def qE4 : (List (B8 × ByteArray)) → D := fun x => .at (ePl x)
def eErr : Int → D := fun n => .v (.int .i64 n)
def eSp : (B8 × B8 × Bool) → D := fun p => .st [eK p.1,eK p.2.1,qz p.2.2]
def qB : (B8 × Bool) → D := fun p => .st [eK p.1,qz p.2]
def eSS : (List (B8 × B8 × Bool)) → D := fun xs => .sl 49 (xs.map eSp)
def eCg : (B8 × ByteArray × Bool) → D := fun p => .st [eK p.1,eStr p.2.1,qz p.2.2]
def eMKC : (List (B8 × (B8 × ByteArray × Bool))) → D := fun m => .mp (m.map fun p => eK p.1) (m.map fun p => eCg p.2)
def oVV : VwT → OD := fun p => .st [.av (.ifc 71 (.d (.at (ePl p.1)))),.map (mD eK eCg p.2.1),.arr 49 (List.map eSp p.2.2.1),.arr 1 (List.map eMKC p.2.2.2)]
def eSapiKey : (List B8) → D := fun xs => .sl 24 (xs.map eK)
def eSC : (List (B8 × ByteArray × Bool)) → D := fun xs => .sl 26 (xs.map eCg)
def eSSC : (List (List (B8 × ByteArray × Bool))) → D := fun xs => .sl 1 (xs.map eSC)
def qf1 : (Int × Int × ByteArray × Int) → D := fun p => .st [eint p.1,eint p.2.1,eStr p.2.2.1,eint p.2.2.2]
def qr0 : (Int × Int × Int) → D := fun p => .st [eint p.1,eint p.2.1,eint p.2.2]
def qT : (Int × Int × Int × Int × ByteArray) → D := fun p => .st [eint p.1,eint p.2.1,eint p.2.2.1,eint p.2.2.2.1,eStr p.2.2.2.2]
def qk : (List (Int × Int × Int × Int × ByteArray)) → D := fun xs => .sl 5 (xs.map qT)
def qz0 : (List ByteArray) → D := fun xs => .sl 1 (xs.map eStr)
def eSbool : (List Bool) → D := fun xs => .sl 1 (xs.map qz)
def oRV : WwT → OD := fun p => .st [.av (.d (eSP_ p.1)),.av (.d (eSC p.2.1)),.av (.d (eSS p.2.2.1)),.av (.d (eSSC p.2.2.2))]
def qo : (Int × Int × ByteArray × Int) → D := fun p => .st [eint p.1,eint p.2.1,eStr p.2.2.1,eint p.2.2.2]
section
variable [Drw]
theorem mixed : Tryz.prog.follows .mixedOrders = true := by kernel_rfl
theorem cf107 : ∀ args w v,(Extern.BytealgCompare.compare args).run Tryz.prog w = .ok v w → (callFunc 107 args).run Tryz.prog w = .ok (.value v) w := callFunc_ext Tryz.func107 rfl rfl (by kernel_rfl) (by kernel_rfl)
theorem ar39 : arB Tryz.prog 39 = some (24,5) := by kernel_rfl
theorem sz5 : szB Tryz.prog 5 = some 1 := by kernel_rfl
theorem qK3 : fldB Tryz.prog 47 0 = some (0,24) := by kernel_rfl
theorem sl35 : slB Tryz.prog 35 = some 47 := by kernel_rfl
theorem un3 : Tryz.prog.underlying 3 = some (.int .i64) := by kernel_rfl
theorem un126 : Tryz.prog.underlying 126 = some (.int .u64) := by kernel_rfl
theorem sz47 : szB Tryz.prog 47 = some 25 := by kernel_rfl
theorem ta47 : TA Tryz.prog 47 true 25 := ⟨by kernel_rfl,by kernel_rfl⟩
theorem ta39 : TA Tryz.prog 39 true 24 := ⟨by kernel_rfl,by kernel_rfl⟩
theorem qG4 : fldB Tryz.prog 113 0 = some (0,1) := by kernel_rfl
theorem ta35 : TA Tryz.prog 35 false 1 := ⟨by kernel_rfl,by kernel_rfl⟩
theorem qm3 : fldB Tryz.prog 47 1 = some (24,1) := by kernel_rfl
theorem ta9 : TA Tryz.prog 9 false 1 := ⟨by kernel_rfl,by kernel_rfl⟩
theorem qq2 : fldB Tryz.prog 41 0 = some (0,24) := by kernel_rfl
theorem qO4 : fldB Tryz.prog 41 2 = some (48,1) := by kernel_rfl
theorem ta4 : TA Tryz.prog 4 false 1 := ⟨by kernel_rfl,by kernel_rfl⟩
theorem qm4 : fldB Tryz.prog 41 1 = some (24,24) := by kernel_rfl
theorem ze159 : Zero Tryz.prog 159 (qB ((List.replicate 24 0),false)) := Zero.of _ (fun _ _ => .st (.cons (.bs rfl) (.cons (.v rfl) (.nil)))) (by kernel_rfl)
theorem zs159 : Zero Tryz.prog 159 (.st [eK (List.replicate 24 0),qz false]) := ze159
theorem pl159 : qx2 Tryz.prog 159 = some [(0,24),(24,1)] := by kernel_rfl
theorem sz159 : szB Tryz.prog 159 = some 25 := by kernel_rfl
theorem qh5 : TA Tryz.prog 159 true 25 := ⟨by kernel_rfl,by kernel_rfl⟩
theorem qH4 : fldB Tryz.prog 159 1 = some (24,1) := by kernel_rfl
theorem fld159_0 : fldB Tryz.prog 159 0 = some (0,24) := by kernel_rfl
theorem ze41 : Zero Tryz.prog 41 (eSp ((List.replicate 24 0),(List.replicate 24 0),false)) := Zero.of _ (fun _ _ => .st (.cons (.bs rfl) (.cons (.bs rfl) (.cons (.v rfl) (.nil))))) (by kernel_rfl)
theorem zs41 : Zero Tryz.prog 41 (.st [eK (List.replicate 24 0),eK (List.replicate 24 0),qz false]) := ze41
theorem pl41 : qx2 Tryz.prog 41 = some [(0,24),(24,24),(48,1)] := by kernel_rfl
theorem sz41 : szB Tryz.prog 41 = some 49 := by kernel_rfl
theorem ta41 : TA Tryz.prog 41 true 49 := ⟨by kernel_rfl,by kernel_rfl⟩
theorem sl59 : slB Tryz.prog 59 = some 41 := by kernel_rfl
theorem ta5 : TA Tryz.prog 5 false 1 := ⟨by kernel_rfl,by kernel_rfl⟩
theorem sl26 : slB Tryz.prog 26 = some 5 := by kernel_rfl
theorem un5 : Tryz.prog.underlying 5 = some (.int .u8) := by kernel_rfl
theorem un9 : Tryz.prog.underlying 9 = some .string := by kernel_rfl
theorem oVV_d : ∀ p,(oVV p).dat := fun _ => ⟨trivial,trivial,trivial,trivial,trivial⟩
theorem fld76_1 : fldB Tryz.prog 76 1 = some (1,1) := by kernel_rfl
theorem ta73 : TA Tryz.prog 73 false 1 := ⟨by kernel_rfl,by kernel_rfl⟩
theorem ze88 : Zero Tryz.prog 88 (eCg ((List.replicate 24 0),(ByteArray.mk #[]),false)) := Zero.of _ (fun _ _ => .st (.cons (.bs rfl) (.cons (.v rfl) (.cons (.v rfl) (.nil))))) (by kernel_rfl)
theorem zs88 : Zero Tryz.prog 88 (.st [eK (List.replicate 24 0),eStr (ByteArray.mk #[]),qz false]) := ze88
theorem pl88 : qx2 Tryz.prog 88 = some [(0,24),(24,1),(25,1)] := by kernel_rfl
theorem mp73 : mpB Tryz.prog 73 = some (39,88) := by kernel_rfl
theorem kl39 : KL Tryz.prog 39 eK := KL.bytes ar39 un5 sz5
theorem q00 : ∀ x,(eSp x).size = 49 := fun _ => rfl
theorem by41 : q84 Tryz.prog 41 = some 49 := by kernel_rfl
theorem ze47 : Zero Tryz.prog 47 (ePr ((List.replicate 24 0),(ByteArray.mk #[]))) := Zero.of _ (fun _ _ => .st (.cons (.bs rfl) (.cons (.v rfl) (.nil)))) (by kernel_rfl)
theorem qE0 : ∀ x,(ePr x).size = 25 := fun _ => rfl
theorem by47 : q84 Tryz.prog 47 = some 40 := by kernel_rfl
theorem fld76_2 : fldB Tryz.prog 76 2 = some (2,1) := by kernel_rfl
theorem ta59 : TA Tryz.prog 59 false 1 := ⟨by kernel_rfl,by kernel_rfl⟩
theorem qs4 : ∀ p,DFlat (eSp p) := fun p => DFlat.st (by intro q hq; simp only [List.mem_cons,List.not_mem_nil,or_false] at hq; rcases hq with rfl | rfl | rfl <;> first | exact (DFlat.bs _ _) | exact (DFlat.bs _ _) | exact (DFlat.v _))
theorem sz59 : szB Tryz.prog 59 = some 1 := by kernel_rfl
theorem mp122 : mpB Tryz.prog 122 = some (39,9) := by kernel_rfl
theorem fld88_2 : fldB Tryz.prog 88 2 = some (25,1) := by kernel_rfl
theorem qF3 : fldB Tryz.prog 88 0 = some (0,24) := by kernel_rfl
theorem fld88_1 : fldB Tryz.prog 88 1 = some (24,1) := by kernel_rfl
theorem sl167 : slB Tryz.prog 167 = some 39 := by kernel_rfl
theorem sz39 : szB Tryz.prog 39 = some 24 := by kernel_rfl
theorem ze39 : Zero Tryz.prog 39 (eK (List.replicate 24 0)) := Zero.of _ (fun _ _ => .bs rfl) (by kernel_rfl)
theorem ze9 : Zero Tryz.prog 9 (eStr (ByteArray.mk #[])) := Zero.of _ (fun _ _ => .v rfl) (by kernel_rfl)
theorem zs47 : Zero Tryz.prog 47 (.st [eK (List.replicate 24 0),eStr (ByteArray.mk #[])]) := ze47
theorem pl47 : qx2 Tryz.prog 47 = some [(0,24),(24,1)] := by kernel_rfl
theorem sl49 : slB Tryz.prog 49 = some 88 := by kernel_rfl
theorem sz88 : szB Tryz.prog 88 = some 26 := by kernel_rfl
theorem q70 : ∀ x,(eCg x).size = 26 := fun _ => rfl
theorem by88 : q84 Tryz.prog 88 = some 48 := by kernel_rfl
theorem ta88 : TA Tryz.prog 88 true 26 := ⟨by kernel_rfl,by kernel_rfl⟩
theorem sl60 : slB Tryz.prog 60 = some 49 := by kernel_rfl
theorem sz49 : szB Tryz.prog 49 = some 1 := by kernel_rfl
theorem ta49 : TA Tryz.prog 49 false 1 := ⟨by kernel_rfl,by kernel_rfl⟩
theorem sz9 : szB Tryz.prog 9 = some 1 := by kernel_rfl
theorem ze113 : Zero Tryz.prog 113 (ePl ([])) := Zero.of _ (fun _ _ => .st (.cons ((.sl0 (a := none) (cap := 0))) (.nil))) (by kernel_rfl)
theorem zs113 : Zero Tryz.prog 113 (.st [eSP_ ([])]) := ze113
theorem pl113 : qx2 Tryz.prog 113 = some [(0,1)] := by kernel_rfl
theorem fld76_0 : fldB Tryz.prog 76 0 = some (0,1) := by kernel_rfl
theorem ta70 : TA Tryz.prog 70 false 1 := ⟨by kernel_rfl,by kernel_rfl⟩
theorem hm71_Get : ∀ (v : Addr) w,Sem.run Tryz.prog (Go.method (Tryz.prog.types.size + Made.depth) 71 (.pointer (some v)) "Get") w = Result.ok (199,Value.pointer (some v)) w := fun _ _ => by kernel_rfl
theorem ze49 : Zero Tryz.prog 49 (eSC ([])) := Zero.of _ (fun _ _ => (.sl0 (a := none) (cap := 0))) (by kernel_rfl)
theorem qL3 : ∀ x,(eSC x).size = 1 := fun _ => rfl
theorem hm71_Scan : ∀ (v : Addr) w,Sem.run Tryz.prog (Go.method (Tryz.prog.types.size + Made.depth) 71 (.pointer (some v)) "Scan") w = Result.ok (201,Value.pointer (some v)) w := fun _ _ => by kernel_rfl
theorem flapiPair : ∀ p,DFlat (ePr p) := fun p => DFlat.st (by intro q hq; simp only [List.mem_cons,List.not_mem_nil,or_false] at hq; rcases hq with rfl | rfl <;> first | exact (DFlat.bs _ _) | exact (DFlat.v _))
theorem ifcB70 : ifcB Tryz.prog 70 = true := by kernel_rfl
theorem zo76 : Zero Tryz.prog 76 (.st [.v .nilIface,.v (.map none),.v (.slice none 0 0),.v (.slice none 0 0)]) := Zero.of _ (fun _ _ => .st (.cons (.v rfl) (.cons (.v rfl) (.cons (.v rfl) (.cons (.v rfl) (.nil)))))) (by kernel_rfl)
theorem pl76 : qx2 Tryz.prog 76 = some [(0,1),(1,1),(2,1),(3,1)] := by kernel_rfl
theorem ifB71 : ifB Tryz.prog 71 = false := by kernel_rfl
theorem ze43 : Zero Tryz.prog 43 (qf1 (0,0,(ByteArray.mk #[]),0)) := Zero.of _ (fun _ _ => .st (.cons (.v rfl) (.cons (.v rfl) (.cons (.v rfl) (.cons (.v rfl) (.nil)))))) (by kernel_rfl)
theorem zs43 : Zero Tryz.prog 43 (.st [eint 0,eint 0,eStr (ByteArray.mk #[]),eint 0]) := ze43
theorem pl43 : qx2 Tryz.prog 43 = some [(0,1),(1,1),(2,1),(3,1)] := by kernel_rfl
theorem sz43 : szB Tryz.prog 43 = some 4 := by kernel_rfl
theorem fld43_1 : fldB Tryz.prog 43 1 = some (1,1) := by kernel_rfl
theorem ta3 : TA Tryz.prog 3 false 1 := ⟨by kernel_rfl,by kernel_rfl⟩
theorem fld43_0 : fldB Tryz.prog 43 0 = some (0,1) := by kernel_rfl
theorem qS4 : fldB Tryz.prog 43 3 = some (3,1) := by kernel_rfl
theorem sz3 : szB Tryz.prog 3 = some 1 := by kernel_rfl
theorem eg39 : Program.eqGuardType Tryz.prog (Program.depth Tryz.prog) 39 = false := by kernel_rfl
theorem ta43 : TA Tryz.prog 43 true 4 := ⟨by kernel_rfl,by kernel_rfl⟩
theorem by5 : q84 Tryz.prog 5 = some 1 := by kernel_rfl
theorem zb5 : (Tryz.prog.info? 5).bind (·.zero) = some (.int .u8 0) := by kernel_rfl
theorem ze83 : Zero Tryz.prog 83 (qr0 (0,0,0)) := Zero.of _ (fun _ _ => .st (.cons (.v rfl) (.cons (.v rfl) (.cons (.v rfl) (.nil))))) (by kernel_rfl)
theorem sz83 : szB Tryz.prog 83 = some 3 := by kernel_rfl
theorem fld83_2 : fldB Tryz.prog 83 2 = some (2,1) := by kernel_rfl
theorem fld83_0 : fldB Tryz.prog 83 0 = some (0,1) := by kernel_rfl
theorem ta24 : TA Tryz.prog 24 false 1 := ⟨by kernel_rfl,by kernel_rfl⟩
theorem sz29 : szB Tryz.prog 29 = some 1 := by kernel_rfl
theorem fld83_1 : fldB Tryz.prog 83 1 = some (1,1) := by kernel_rfl
theorem zs83 : Zero Tryz.prog 83 (.st [eint 0,eint 0,eint 0]) := ze83
theorem pl83 : qx2 Tryz.prog 83 = some [(0,1),(1,1),(2,1)] := by kernel_rfl
theorem ta29 : TA Tryz.prog 29 false 1 := ⟨by kernel_rfl,by kernel_rfl⟩
theorem ze29 : Zero Tryz.prog 29 (eErr 0) := Zero.of _ (fun _ _ => .v rfl) (by kernel_rfl)
theorem ta83 : TA Tryz.prog 83 true 3 := ⟨by kernel_rfl,by kernel_rfl⟩
theorem up24 : Tryz.prog.underlying 24 = some (.pointer 76) := by kernel_rfl
theorem un4 : Tryz.prog.underlying 4 = some .bool := by kernel_rfl
theorem sl22 : slB Tryz.prog 22 = some 28 := by kernel_rfl
theorem sz28 : szB Tryz.prog 28 = some 5 := by kernel_rfl
theorem fld28_2 : fldB Tryz.prog 28 2 = some (2,1) := by kernel_rfl
theorem fld28_4 : fldB Tryz.prog 28 4 = some (4,1) := by kernel_rfl
theorem fld28_1 : fldB Tryz.prog 28 1 = some (1,1) := by kernel_rfl
theorem fld28_0 : fldB Tryz.prog 28 0 = some (0,1) := by kernel_rfl
theorem flds88 : fldsB Tryz.prog 88 = some [(0,39),(24,9),(25,4)] := by kernel_rfl
theorem eg88 : Program.eqGuardType Tryz.prog (Program.depth Tryz.prog) 88 = false := by kernel_rfl
theorem flds41 : fldsB Tryz.prog 41 = some [(0,39),(24,39),(48,4)] := by kernel_rfl
theorem eg41 : Program.eqGuardType Tryz.prog (Program.depth Tryz.prog) 41 = false := by kernel_rfl
theorem sz4 : szB Tryz.prog 4 = some 1 := by kernel_rfl
theorem qX4 : slB Tryz.prog 178 = some 9 := by kernel_rfl
theorem sistring : ∀ x,(eStr x).size = 1 := fun _ => rfl
theorem by9 : q84 Tryz.prog 9 = some 16 := by kernel_rfl
theorem sl180 : slB Tryz.prog 180 = some 4 := by kernel_rfl
theorem ze4 : Zero Tryz.prog 4 (qz false) := Zero.of _ (fun _ _ => .v rfl) (by kernel_rfl)
theorem sibool : ∀ x,(qz x).size = 1 := fun _ => rfl
theorem by4 : q84 Tryz.prog 4 = some 1 := by kernel_rfl
theorem oRV_d : ∀ p,(oRV p).dat := fun _ => ⟨trivial,trivial,trivial,trivial,trivial⟩
theorem zo62 : Zero Tryz.prog 62 (.st [eSP_ ([]),eSC ([]),eSS ([]),eSSC ([])]) := Zero.of _ (fun _ _ => .st (.cons ((.sl0 (a := none) (cap := 0))) (.cons ((.sl0 (a := none) (cap := 0))) (.cons ((.sl0 (a := none) (cap := 0))) (.cons ((.sl0 (a := none) (cap := 0))) (.nil)))))) (by kernel_rfl)
theorem pl62 : qx2 Tryz.prog 62 = some [(0,1),(1,1),(2,1),(3,1)] := by kernel_rfl
theorem fld62_0 : fldB Tryz.prog 62 0 = some (0,1) := by kernel_rfl
theorem qu4 : fldB Tryz.prog 62 1 = some (1,1) := by kernel_rfl
theorem fld62_2 : fldB Tryz.prog 62 2 = some (2,1) := by kernel_rfl
theorem ze104 : Zero Tryz.prog 104 (qo (0,0,(ByteArray.mk #[]),0)) := Zero.of _ (fun _ _ => .st (.cons (.v rfl) (.cons (.v rfl) (.cons (.v rfl) (.cons (.v rfl) (.nil)))))) (by kernel_rfl)
theorem zs104 : Zero Tryz.prog 104 (.st [eint 0,eint 0,eStr (ByteArray.mk #[]),eint 0]) := ze104
theorem pl104 : qx2 Tryz.prog 104 = some [(0,1),(1,1),(2,1),(3,1)] := by kernel_rfl
theorem sz104 : szB Tryz.prog 104 = some 4 := by kernel_rfl
theorem fld104_1 : fldB Tryz.prog 104 1 = some (1,1) := by kernel_rfl
theorem fld104_3 : fldB Tryz.prog 104 3 = some (3,1) := by kernel_rfl
theorem ta104 : TA Tryz.prog 104 true 4 := ⟨by kernel_rfl,by kernel_rfl⟩
theorem ta28 : TA Tryz.prog 28 true 5 := ⟨by kernel_rfl,by kernel_rfl⟩
theorem ze28 : Zero Tryz.prog 28 (qT (0,0,0,0,(ByteArray.mk #[]))) := Zero.of _ (fun _ _ => .st (.cons (.v rfl) (.cons (.v rfl) (.cons (.v rfl) (.cons (.v rfl) (.cons (.v rfl) (.nil))))))) (by kernel_rfl)
theorem fld28_3 : fldB Tryz.prog 28 3 = some (3,1) := by kernel_rfl
end
section
variable [Drw]
noncomputable def qw (a0 : List UInt8) (a1 : List UInt8) : Option Int := some (Lib.compareBytes a0 a1)
noncomputable def delta_compare (a0 : List UInt8) (a1 : List UInt8) : Option Int := (qw a0 a1).bind fun x0 => some x0
noncomputable def qS0 (a0 : (B8 × ByteArray)) (a1 : List UInt8) : Option Int := (qw a0.1 a1).bind fun x0 => some x0
theorem qR {a0 : List UInt8} {a1 : List UInt8} {r : Int} (h : qw a0 a1 = some r) : FnOk Tryz.prog 68 [.d (qS3 a0),.d (qS3 a1)] 0 (lk []) (fun rr oo => rr = .d (eint r) ∧ oo = lk []) := by
 refine fnO Tryz.func68 rfl rfl (cwP ?_)
 unfold qw at h
 refine cwS (cwR (
  .c (uA rfl)<|.nil rfl) ?_)
 refine cwS (cwR (
  .c (uM rfl)<|
  .c (uM rfl)<|
  .c (o_bcmp (a := a0) (b := a1) rfl rfl .no cf107 rfl rfl)<|
  .c (uA rfl)<|.nil rfl) ?_)
 have heq := ((sJ h)).symm
 subst heq
 exact qe ⟨_,(show Leads _ _ (St.of [(4,.d (eint (Lib.compareBytes a0 a1)))] []) from .w (wkF ⟨wD rfl,trivial⟩ trivial qd)),.inr rfl,_,res1 rfl rfl,rfl,rfl⟩
theorem delta_compare_ok {a0 : List UInt8} {a1 : List UInt8} {r : Int} (h : delta_compare a0 a1 = some r) : FnOk Tryz.prog 110 [.d (eK a0),.d (eK a1)] 0 (lk []) (fun rr oo => rr = .d (eint r) ∧ oo = lk []) := by
 refine fnO Tryz.func110 rfl rfl (cwP ?_)
 unfold delta_compare at h
 refine cwS (cwR (
  .c (uX 0 rfl)<|
  .c (uX 1 rfl)<|
  .c (uA rfl)<|.nil rfl) ?_)
 have ⟨x0,hx0,h0⟩ := bdS (x := qw a0 a1) h
 refine cwS (cwRA mixed (by kernel_rfl) (
  .c (qR3 rfl rfl .no rfl ar39 sz5 .no .no (by decide) (by decide) (by decide))<|
  .c (qR3 rfl rfl .no rfl ar39 sz5 .no .no (by decide) (by decide) (by decide))<|
  .c (qj rfl rfl .no Tryz.func68 rfl rfl (qR hx0) (.cons rfl (.bsl [] rfl rfl rfl) (.cons rfl (.bsl [] rfl rfl rfl) .nil)) ⟨trivial,trivial,trivial⟩ (.inr (DFlat.v _)))<|
  .c (uA rfl)<|.nil rfl) (by kernel_rfl) ?_)
 have heq := ((sJ h0)).symm
 subst heq
 exact qe ⟨_,(show Leads _ _ (St.of [(4,.d (eint x0))] []) from .w (wkF ⟨wD rfl,trivial⟩ trivial qd)),.inr rfl,_,res1 rfl rfl,rfl,rfl⟩
theorem qH3 {a0 : (B8 × ByteArray)} {a1 : List UInt8} {r : Int} (h : qS0 a0 a1 = some r) : FnOk Tryz.prog 205 [.d (ePr a0),.d (eK a1)] 0 (lk []) (fun rr oo => rr = .d (eint r) ∧ oo = lk []) := by
 refine fnO Tryz.func205 rfl rfl (cwP ?_)
 unfold qS0 at h
 refine cwS (cwR (
  .c (uX 0 rfl)<|
  .c (uX 1 rfl)<|
  .c (uA rfl)<|.nil rfl) ?_)
 have ⟨x0,hx0,h0⟩ := bdS (x := qw a0.1 a1) h
 refine cwS (cwRA mixed (by kernel_rfl) (
  .c (uF rfl qK3 rfl)<|
  .c (qR3 rfl rfl .no rfl ar39 sz5 .no .no (by decide) (by decide) (by decide))<|
  .c (qR3 rfl rfl .no rfl ar39 sz5 .no .no (by decide) (by decide) (by decide))<|
  .c (qj rfl rfl .no Tryz.func68 rfl rfl (qR hx0) (.cons rfl (.bsl [0] rfl rfl rfl) (.cons rfl (.bsl [] rfl rfl rfl) .nil)) ⟨trivial,trivial,trivial⟩ (.inr (DFlat.v _)))<|
  .c (uA rfl)<|.nil rfl) (by kernel_rfl) ?_)
 have heq := ((sJ h0)).symm
 subst heq
 exact qe ⟨_,(show Leads _ _ (St.of [(4,.d (eint x0))] []) from .w (wkF ⟨wD rfl,trivial⟩ trivial qd)),.inr rfl,_,res1 rfl rfl,rfl,rfl⟩
end
end Go.Val
