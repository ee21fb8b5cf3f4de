/- Walks of the program's functions, printed. -/
import Derived.Test.YthipaajmgfnagaaGreatDoorLc
import Derived.Test.YthipaajmgfnagaaGreatDoorProg
import Derived.KernelRfl
set_option linter.unusedSectionVars false
set_option linter.unusedVariables false
set_option linter.unusedSimpArgs false
namespace Go.Val
abbrev VwT : Type := ((List ((List UInt8) × ByteArray)) × (List ((List UInt8) × ((List UInt8) × ByteArray × Bool))) × (List ((List UInt8) × (List UInt8) × Bool)) × (List (List ((List UInt8) × ((List UInt8) × ByteArray × Bool)))))
open Go.RowKit Go.Proofs

def estring : ByteArray → D := fun b => .v (.string b)
def eint : Int → D := fun n => .v (.int .i64 n)
def eapiKey : (List UInt8) → D := fun l => .bs 24 l
def eapiPair : ((List UInt8) × ByteArray) → D := fun p => .st [eapiKey p.1, estring p.2]
def eSapiPair : (List ((List UInt8) × ByteArray)) → D := fun xs => .sl 25 (xs.map eapiPair)
def ebool : Bool → D := fun b => .v (.bool b)
def eviewPlain : (List ((List UInt8) × ByteArray)) → D := fun p => .st [eSapiPair p]
def ePviewPlain : (List ((List UInt8) × ByteArray)) → D := fun x => .at (eviewPlain x)
def eapiErrno : Int → D := fun n => .v (.int .i64 n)
def eapiSpan : ((List UInt8) × (List UInt8) × Bool) → D := fun p => .st [eapiKey p.1, eapiKey p.2.1, ebool p.2.2]
def espanbound : ((List UInt8) × Bool) → D := fun p => .st [eapiKey p.1, ebool p.2]
def eSapiSpan : (List ((List UInt8) × (List UInt8) × Bool)) → D := fun xs => .sl 49 (xs.map eapiSpan)
def eapiChange : ((List UInt8) × ByteArray × Bool) → D := fun p => .st [eapiKey p.1, estring p.2.1, ebool p.2.2]
def eMapiKeyapiChange : (List ((List UInt8) × ((List UInt8) × ByteArray × Bool))) → D := fun m => .mp (m.map fun p => eapiKey p.1) (m.map fun p => eapiChange p.2)
def oviewView : VwT → OD := fun p => .st [.av (.ifc 71 (.d (.at (eviewPlain p.1)))), .map (mD eapiKey eapiChange p.2.1), .arr 49 (List.map eapiSpan p.2.2.1), .arr 1 (List.map eMapiKeyapiChange p.2.2.2)]
def eSapiKey : (List (List UInt8)) → D := fun xs => .sl 24 (xs.map eapiKey)
def eSapiChange : (List ((List UInt8) × ByteArray × Bool)) → D := fun xs => .sl 26 (xs.map eapiChange)
def eSSapiChange : (List (List ((List UInt8) × ByteArray × Bool))) → D := fun xs => .sl 1 (xs.map eSapiChange)
def ekeyParts : (Int × Int × ByteArray × Int) → D := fun p => .st [eint p.1, eint p.2.1, estring p.2.2.1, eint p.2.2.2]
def echunkpiece : (Int × Int × Int) → D := fun p => .st [eint p.1, eint p.2.1, eint p.2.2]
def ewainscotlaw13Op : (Int × Int × Int × Int × ByteArray) → D := fun p => .st [eint p.1, eint p.2.1, eint p.2.2.1, eint p.2.2.2.1, estring p.2.2.2.2]
def eSwainscotlaw13Op : (List (Int × Int × Int × Int × ByteArray)) → D := fun xs => .sl 5 (xs.map ewainscotlaw13Op)
def eSstring : (List ByteArray) → D := fun xs => .sl 1 (xs.map estring)
def eSbool : (List Bool) → D := fun xs => .sl 1 (xs.map ebool)
def owainscotref12View : ((List ((List UInt8) × ByteArray)) × (List ((List UInt8) × ByteArray × Bool)) × (List ((List UInt8) × (List UInt8) × Bool)) × (List (List ((List UInt8) × ByteArray × Bool)))) → OD := fun p => .st [.av (.d (eSapiPair p.1)), .av (.d (eSapiChange p.2.1)), .av (.d (eSapiSpan p.2.2.1)), .av (.d (eSSapiChange p.2.2.2))]
def ewainscotref03Parts : (Int × Int × ByteArray × Int) → D := fun p => .st [eint p.1, eint p.2.1, estring p.2.2.1, eint p.2.2.2]

section
variable [Drw]

theorem mixed : Tryz.prog.follows .mixedOrders = true := by kernel_rfl
theorem cf107 : ∀ args w v, (Extern.BytealgCompare.compare args).run Tryz.prog w = .ok v w → (callFunc 107 args).run Tryz.prog w = .ok (.value v) w := callFunc_ext Tryz.func107 rfl rfl (by kernel_rfl) (by kernel_rfl)
theorem ar39 : arB Tryz.prog 39 = some (24, 5) := by kernel_rfl
theorem sz5 : szB Tryz.prog 5 = some 1 := by kernel_rfl
theorem fld47_0 : fldB Tryz.prog 47 0 = some (0, 24) := by kernel_rfl
theorem sl35 : slB Tryz.prog 35 = some 47 := by kernel_rfl
theorem un3 : Tryz.prog.underlying 3 = some (.int .i64) := by kernel_rfl
theorem un126 : Tryz.prog.underlying 126 = some (.int .u64) := by kernel_rfl
theorem sz47 : szB Tryz.prog 47 = some 25 := by kernel_rfl
theorem ta47 : TA Tryz.prog 47 true 25 := ⟨by kernel_rfl, by kernel_rfl⟩
theorem ta39 : TA Tryz.prog 39 true 24 := ⟨by kernel_rfl, by kernel_rfl⟩
theorem fld113_0 : fldB Tryz.prog 113 0 = some (0, 1) := by kernel_rfl
theorem ta35 : TA Tryz.prog 35 false 1 := ⟨by kernel_rfl, by kernel_rfl⟩
theorem fld47_1 : fldB Tryz.prog 47 1 = some (24, 1) := by kernel_rfl
theorem ta9 : TA Tryz.prog 9 false 1 := ⟨by kernel_rfl, by kernel_rfl⟩
theorem fld41_0 : fldB Tryz.prog 41 0 = some (0, 24) := by kernel_rfl
theorem fld41_2 : fldB Tryz.prog 41 2 = some (48, 1) := by kernel_rfl
theorem ta4 : TA Tryz.prog 4 false 1 := ⟨by kernel_rfl, by kernel_rfl⟩
theorem fld41_1 : fldB Tryz.prog 41 1 = some (24, 24) := by kernel_rfl
theorem ze159 : Zero Tryz.prog 159 (espanbound ((List.replicate 24 0), false)) := Zero.of _ (fun _ _ => .st (.cons (.bs rfl) (.cons (.v rfl) (.nil)))) (by kernel_rfl)
theorem zs159 : Zero Tryz.prog 159 (.st [eapiKey (List.replicate 24 0), ebool false]) := ze159
theorem pl159 : placesB Tryz.prog 159 = some [(0, 24), (24, 1)] := by kernel_rfl
theorem sz159 : szB Tryz.prog 159 = some 25 := by kernel_rfl
theorem ta159 : TA Tryz.prog 159 true 25 := ⟨by kernel_rfl, by kernel_rfl⟩
theorem fld159_1 : fldB Tryz.prog 159 1 = some (24, 1) := by kernel_rfl
theorem fld159_0 : fldB Tryz.prog 159 0 = some (0, 24) := by kernel_rfl
theorem ze41 : Zero Tryz.prog 41 (eapiSpan ((List.replicate 24 0), (List.replicate 24 0), false)) := Zero.of _ (fun _ _ => .st (.cons (.bs rfl) (.cons (.bs rfl) (.cons (.v rfl) (.nil))))) (by kernel_rfl)
theorem zs41 : Zero Tryz.prog 41 (.st [eapiKey (List.replicate 24 0), eapiKey (List.replicate 24 0), ebool false]) := ze41
theorem pl41 : placesB Tryz.prog 41 = some [(0, 24), (24, 24), (48, 1)] := by kernel_rfl
theorem sz41 : szB Tryz.prog 41 = some 49 := by kernel_rfl
theorem ta41 : TA Tryz.prog 41 true 49 := ⟨by kernel_rfl, by kernel_rfl⟩
theorem sl59 : slB Tryz.prog 59 = some 41 := by kernel_rfl
theorem ta5 : TA Tryz.prog 5 false 1 := ⟨by kernel_rfl, by kernel_rfl⟩
theorem sl26 : slB Tryz.prog 26 = some 5 := by kernel_rfl
theorem un5 : Tryz.prog.underlying 5 = some (.int .u8) := by kernel_rfl
theorem un9 : Tryz.prog.underlying 9 = some .string := by kernel_rfl
theorem oviewView_dat : ∀ p, (oviewView p).dat := fun _ => ⟨trivial, trivial, trivial, trivial, trivial⟩
theorem fld76_1 : fldB Tryz.prog 76 1 = some (1, 1) := by kernel_rfl
theorem ta73 : TA Tryz.prog 73 false 1 := ⟨by kernel_rfl, by kernel_rfl⟩
theorem ze88 : Zero Tryz.prog 88 (eapiChange ((List.replicate 24 0), (ByteArray.mk #[]), false)) := Zero.of _ (fun _ _ => .st (.cons (.bs rfl) (.cons (.v rfl) (.cons (.v rfl) (.nil))))) (by kernel_rfl)
theorem zs88 : Zero Tryz.prog 88 (.st [eapiKey (List.replicate 24 0), estring (ByteArray.mk #[]), ebool false]) := ze88
theorem pl88 : placesB Tryz.prog 88 = some [(0, 24), (24, 1), (25, 1)] := by kernel_rfl
theorem mp73 : mpB Tryz.prog 73 = some (39, 88) := by kernel_rfl
theorem kl39 : KL Tryz.prog 39 eapiKey := KL.bytes ar39 un5 sz5
theorem siapiSpan : ∀ x, (eapiSpan x).size = 49 := fun _ => rfl
theorem by41 : bytesB Tryz.prog 41 = some 49 := by kernel_rfl
theorem ze47 : Zero Tryz.prog 47 (eapiPair ((List.replicate 24 0), (ByteArray.mk #[]))) := Zero.of _ (fun _ _ => .st (.cons (.bs rfl) (.cons (.v rfl) (.nil)))) (by kernel_rfl)
theorem siapiPair : ∀ x, (eapiPair x).size = 25 := fun _ => rfl
theorem by47 : bytesB Tryz.prog 47 = some 40 := by kernel_rfl
theorem fld76_2 : fldB Tryz.prog 76 2 = some (2, 1) := by kernel_rfl
theorem ta59 : TA Tryz.prog 59 false 1 := ⟨by kernel_rfl, by kernel_rfl⟩
theorem flapiSpan : ∀ p, DFlat (eapiSpan p) := fun p => DFlat.st (by intro q hq; simp only [List.mem_cons, List.not_mem_nil, or_false] at hq; rcases hq with rfl | rfl | rfl <;> first | exact (DFlat.bs _ _) | exact (DFlat.bs _ _) | exact (DFlat.v _))
theorem sz59 : szB Tryz.prog 59 = some 1 := by kernel_rfl
theorem mp122 : mpB Tryz.prog 122 = some (39, 9) := by kernel_rfl
theorem fld88_2 : fldB Tryz.prog 88 2 = some (25, 1) := by kernel_rfl
theorem fld88_0 : fldB Tryz.prog 88 0 = some (0, 24) := by kernel_rfl
theorem fld88_1 : fldB Tryz.prog 88 1 = some (24, 1) := by kernel_rfl
theorem sl167 : slB Tryz.prog 167 = some 39 := by kernel_rfl
theorem sz39 : szB Tryz.prog 39 = some 24 := by kernel_rfl
theorem ze39 : Zero Tryz.prog 39 (eapiKey (List.replicate 24 0)) := Zero.of _ (fun _ _ => .bs rfl) (by kernel_rfl)
theorem ze9 : Zero Tryz.prog 9 (estring (ByteArray.mk #[])) := Zero.of _ (fun _ _ => .v rfl) (by kernel_rfl)
theorem zs47 : Zero Tryz.prog 47 (.st [eapiKey (List.replicate 24 0), estring (ByteArray.mk #[])]) := ze47
theorem pl47 : placesB Tryz.prog 47 = some [(0, 24), (24, 1)] := by kernel_rfl
theorem sl49 : slB Tryz.prog 49 = some 88 := by kernel_rfl
theorem sz88 : szB Tryz.prog 88 = some 26 := by kernel_rfl
theorem siapiChange : ∀ x, (eapiChange x).size = 26 := fun _ => rfl
theorem by88 : bytesB Tryz.prog 88 = some 48 := by kernel_rfl
theorem ta88 : TA Tryz.prog 88 true 26 := ⟨by kernel_rfl, by kernel_rfl⟩
theorem sl60 : slB Tryz.prog 60 = some 49 := by kernel_rfl
theorem sz49 : szB Tryz.prog 49 = some 1 := by kernel_rfl
theorem ta49 : TA Tryz.prog 49 false 1 := ⟨by kernel_rfl, by kernel_rfl⟩
theorem sz9 : szB Tryz.prog 9 = some 1 := by kernel_rfl
theorem ze113 : Zero Tryz.prog 113 (eviewPlain ([])) := Zero.of _ (fun _ _ => .st (.cons ((.sl0 (a := none) (cap := 0))) (.nil))) (by kernel_rfl)
theorem zs113 : Zero Tryz.prog 113 (.st [eSapiPair ([])]) := ze113
theorem pl113 : placesB Tryz.prog 113 = some [(0, 1)] := by kernel_rfl
theorem fld76_0 : fldB Tryz.prog 76 0 = some (0, 1) := by kernel_rfl
theorem ta70 : TA Tryz.prog 70 false 1 := ⟨by kernel_rfl, by kernel_rfl⟩
theorem hm71_Get : ∀ (v : Addr) w, Sem.run Tryz.prog (Go.method (Tryz.prog.types.size + Made.depth) 71 (.pointer (some v)) "Get") w = Result.ok (199, Value.pointer (some v)) w := fun _ _ => by kernel_rfl
theorem ze49 : Zero Tryz.prog 49 (eSapiChange ([])) := Zero.of _ (fun _ _ => (.sl0 (a := none) (cap := 0))) (by kernel_rfl)
theorem siSapiChange : ∀ x, (eSapiChange x).size = 1 := fun _ => rfl
theorem hm71_Scan : ∀ (v : Addr) w, Sem.run Tryz.prog (Go.method (Tryz.prog.types.size + Made.depth) 71 (.pointer (some v)) "Scan") w = Result.ok (201, Value.pointer (some v)) w := fun _ _ => by kernel_rfl
theorem flapiPair : ∀ p, DFlat (eapiPair p) := fun p => DFlat.st (by intro q hq; simp only [List.mem_cons, List.not_mem_nil, or_false] at hq; rcases hq with rfl | rfl <;> first | exact (DFlat.bs _ _) | exact (DFlat.v _))
theorem ifcB70 : ifcB Tryz.prog 70 = true := by kernel_rfl
theorem zo76 : Zero Tryz.prog 76 (.st [.v .nilIface, .v (.map none), .v (.slice none 0 0), .v (.slice none 0 0)]) := Zero.of _ (fun _ _ => .st (.cons (.v rfl) (.cons (.v rfl) (.cons (.v rfl) (.cons (.v rfl) (.nil)))))) (by kernel_rfl)
theorem pl76 : placesB Tryz.prog 76 = some [(0, 1), (1, 1), (2, 1), (3, 1)] := by kernel_rfl
theorem ifB71 : ifB Tryz.prog 71 = false := by kernel_rfl
theorem ze43 : Zero Tryz.prog 43 (ekeyParts (0, 0, (ByteArray.mk #[]), 0)) := Zero.of _ (fun _ _ => .st (.cons (.v rfl) (.cons (.v rfl) (.cons (.v rfl) (.cons (.v rfl) (.nil)))))) (by kernel_rfl)
theorem zs43 : Zero Tryz.prog 43 (.st [eint 0, eint 0, estring (ByteArray.mk #[]), eint 0]) := ze43
theorem pl43 : placesB Tryz.prog 43 = some [(0, 1), (1, 1), (2, 1), (3, 1)] := by kernel_rfl
theorem sz43 : szB Tryz.prog 43 = some 4 := by kernel_rfl
theorem fld43_1 : fldB Tryz.prog 43 1 = some (1, 1) := by kernel_rfl
theorem ta3 : TA Tryz.prog 3 false 1 := ⟨by kernel_rfl, by kernel_rfl⟩
theorem fld43_0 : fldB Tryz.prog 43 0 = some (0, 1) := by kernel_rfl
theorem fld43_3 : fldB Tryz.prog 43 3 = some (3, 1) := by kernel_rfl
theorem sz3 : szB Tryz.prog 3 = some 1 := by kernel_rfl
theorem eg39 : Program.eqGuardType Tryz.prog (Program.depth Tryz.prog) 39 = false := by kernel_rfl
theorem ta43 : TA Tryz.prog 43 true 4 := ⟨by kernel_rfl, by kernel_rfl⟩
theorem by5 : bytesB Tryz.prog 5 = some 1 := by kernel_rfl
theorem zb5 : (Tryz.prog.info? 5).bind (·.zero) = some (.int .u8 0) := by kernel_rfl
theorem ze83 : Zero Tryz.prog 83 (echunkpiece (0, 0, 0)) := Zero.of _ (fun _ _ => .st (.cons (.v rfl) (.cons (.v rfl) (.cons (.v rfl) (.nil))))) (by kernel_rfl)
theorem sz83 : szB Tryz.prog 83 = some 3 := by kernel_rfl
theorem fld83_2 : fldB Tryz.prog 83 2 = some (2, 1) := by kernel_rfl
theorem fld83_0 : fldB Tryz.prog 83 0 = some (0, 1) := by kernel_rfl
theorem ta24 : TA Tryz.prog 24 false 1 := ⟨by kernel_rfl, by kernel_rfl⟩
theorem sz29 : szB Tryz.prog 29 = some 1 := by kernel_rfl
theorem fld83_1 : fldB Tryz.prog 83 1 = some (1, 1) := by kernel_rfl
theorem zs83 : Zero Tryz.prog 83 (.st [eint 0, eint 0, eint 0]) := ze83
theorem pl83 : placesB Tryz.prog 83 = some [(0, 1), (1, 1), (2, 1)] := by kernel_rfl
theorem ta29 : TA Tryz.prog 29 false 1 := ⟨by kernel_rfl, by kernel_rfl⟩
theorem ze29 : Zero Tryz.prog 29 (eapiErrno 0) := Zero.of _ (fun _ _ => .v rfl) (by kernel_rfl)
theorem ta83 : TA Tryz.prog 83 true 3 := ⟨by kernel_rfl, by kernel_rfl⟩
theorem up24 : Tryz.prog.underlying 24 = some (.pointer 76) := by kernel_rfl
theorem un4 : Tryz.prog.underlying 4 = some .bool := by kernel_rfl
theorem sl22 : slB Tryz.prog 22 = some 28 := by kernel_rfl
theorem sz28 : szB Tryz.prog 28 = some 5 := by kernel_rfl
theorem fld28_2 : fldB Tryz.prog 28 2 = some (2, 1) := by kernel_rfl
theorem fld28_4 : fldB Tryz.prog 28 4 = some (4, 1) := by kernel_rfl
theorem fld28_1 : fldB Tryz.prog 28 1 = some (1, 1) := by kernel_rfl
theorem flds47 : fldsB Tryz.prog 47 = some [(0, 39), (24, 9)] := by kernel_rfl
theorem eg47 : Program.eqGuardType Tryz.prog (Program.depth Tryz.prog) 47 = false := by kernel_rfl
theorem fld28_0 : fldB Tryz.prog 28 0 = some (0, 1) := by kernel_rfl
theorem flds88 : fldsB Tryz.prog 88 = some [(0, 39), (24, 9), (25, 4)] := by kernel_rfl
theorem eg88 : Program.eqGuardType Tryz.prog (Program.depth Tryz.prog) 88 = false := by kernel_rfl
theorem flds41 : fldsB Tryz.prog 41 = some [(0, 39), (24, 39), (48, 4)] := by kernel_rfl
theorem eg41 : Program.eqGuardType Tryz.prog (Program.depth Tryz.prog) 41 = false := by kernel_rfl
theorem sz4 : szB Tryz.prog 4 = some 1 := by kernel_rfl
theorem sl178 : slB Tryz.prog 178 = some 9 := by kernel_rfl
theorem sistring : ∀ x, (estring x).size = 1 := fun _ => rfl
theorem by9 : bytesB Tryz.prog 9 = some 16 := by kernel_rfl
theorem sl180 : slB Tryz.prog 180 = some 4 := by kernel_rfl
theorem ze4 : Zero Tryz.prog 4 (ebool false) := Zero.of _ (fun _ _ => .v rfl) (by kernel_rfl)
theorem sibool : ∀ x, (ebool x).size = 1 := fun _ => rfl
theorem by4 : bytesB Tryz.prog 4 = some 1 := by kernel_rfl
theorem owainscotref12View_dat : ∀ p, (owainscotref12View p).dat := fun _ => ⟨trivial, trivial, trivial, trivial, trivial⟩
theorem zo62 : Zero Tryz.prog 62 (.st [eSapiPair ([]), eSapiChange ([]), eSapiSpan ([]), eSSapiChange ([])]) := Zero.of _ (fun _ _ => .st (.cons ((.sl0 (a := none) (cap := 0))) (.cons ((.sl0 (a := none) (cap := 0))) (.cons ((.sl0 (a := none) (cap := 0))) (.cons ((.sl0 (a := none) (cap := 0))) (.nil)))))) (by kernel_rfl)
theorem pl62 : placesB Tryz.prog 62 = some [(0, 1), (1, 1), (2, 1), (3, 1)] := by kernel_rfl
theorem fld62_0 : fldB Tryz.prog 62 0 = some (0, 1) := by kernel_rfl
theorem fld62_1 : fldB Tryz.prog 62 1 = some (1, 1) := by kernel_rfl
theorem fld62_2 : fldB Tryz.prog 62 2 = some (2, 1) := by kernel_rfl
theorem ze104 : Zero Tryz.prog 104 (ewainscotref03Parts (0, 0, (ByteArray.mk #[]), 0)) := Zero.of _ (fun _ _ => .st (.cons (.v rfl) (.cons (.v rfl) (.cons (.v rfl) (.cons (.v rfl) (.nil)))))) (by kernel_rfl)
theorem zs104 : Zero Tryz.prog 104 (.st [eint 0, eint 0, estring (ByteArray.mk #[]), eint 0]) := ze104
theorem pl104 : placesB Tryz.prog 104 = some [(0, 1), (1, 1), (2, 1), (3, 1)] := by kernel_rfl
theorem sz104 : szB Tryz.prog 104 = some 4 := by kernel_rfl
theorem fld104_1 : fldB Tryz.prog 104 1 = some (1, 1) := by kernel_rfl
theorem fld104_3 : fldB Tryz.prog 104 3 = some (3, 1) := by kernel_rfl
theorem ta104 : TA Tryz.prog 104 true 4 := ⟨by kernel_rfl, by kernel_rfl⟩
theorem ta28 : TA Tryz.prog 28 true 5 := ⟨by kernel_rfl, by kernel_rfl⟩
theorem ze28 : Zero Tryz.prog 28 (ewainscotlaw13Op (0, 0, 0, 0, (ByteArray.mk #[]))) := Zero.of _ (fun _ _ => .st (.cons (.v rfl) (.cons (.v rfl) (.cons (.v rfl) (.cons (.v rfl) (.cons (.v rfl) (.nil))))))) (by kernel_rfl)
theorem fld28_3 : fldB Tryz.prog 28 3 = some (3, 1) := by kernel_rfl
end

section
variable [Drw]

noncomputable def bytes_Compare (a0 : List UInt8) (a1 : List UInt8) : Option Int :=
 some (Lib.compareBytes a0 a1)

noncomputable def delta_compare (a0 : List UInt8) (a1 : List UInt8) : Option Int :=
 (bytes_Compare a0 a1).bind fun x1 =>
 some x1

noncomputable def view_place_1 (a0 : ((List UInt8) × ByteArray)) (a1 : List UInt8) : Option Int :=
 (bytes_Compare a0.1 a1).bind fun x1 =>
 some x1

set_option maxRecDepth 100000 in
theorem bytes_Compare_ok {a0 : List UInt8} {a1 : List UInt8} {r : Int} (h : bytes_Compare a0 a1 = some r) : FnOk Tryz.prog 68 [.d (bytesD a0), .d (bytesD a1)] 0 (lk []) (fun rr oo => rr = .d (eint r) ∧ oo = lk []) := by
  refine fnOk_of Tryz.func68 rfl rfl (cw_post ?_)
  unfold bytes_Compare at h
  refine cw_seq (cw_region (
    .cons (o_as rfl rfl .no rfl) <|
    .nil rfl
  ) ?_)
  refine cw_seq (cw_region (
    .cons (o_mv rfl rfl .no rfl) <|
    .cons (o_mv rfl rfl .no rfl) <|
    .cons (o_bcmp (a := a0) (b := a1) rfl rfl .no cf107 rfl rfl) <|
    .cons (o_as rfl rfl .no rfl) <|
    .nil rfl
  ) ?_)
  have heq := ((Option.some.inj h).symm).symm
  subst heq
  exact cw_ret ⟨_, (show Leads _ _ (St.of [(4, .d (eint (Lib.compareBytes a0 a1)))] []) from .w (weak_of ⟨⟨_, rfl, .d rfl⟩, trivial⟩ trivial drop0)), .inr rfl, _, res1 rfl rfl, rfl, rfl⟩

set_option maxRecDepth 100000 in
theorem delta_compare_ok {a0 : List UInt8} {a1 : List UInt8} {r : Int} (h : delta_compare a0 a1 = some r) : FnOk Tryz.prog 110 [.d (eapiKey a0), .d (eapiKey a1)] 0 (lk []) (fun rr oo => rr = .d (eint r) ∧ oo = lk []) := by
  refine fnOk_of Tryz.func110 rfl rfl (cw_post ?_)
  unfold delta_compare at h
  refine cw_seq (cw_region (
    .cons (o_box 0 rfl rfl .no rfl rfl rfl) <|
    .cons (o_box 1 rfl rfl .no rfl rfl rfl) <|
    .cons (o_as rfl rfl .no rfl) <|
    .nil rfl
  ) ?_)
  obtain ⟨x1, hx2, h3⟩ := bind_some (x := bytes_Compare a0 a1) h
  refine cw_seq (cw_region_any mixed (by kernel_rfl) (
    .cons (o_slP rfl rfl .no rfl ar39 sz5 .no .no (by decide) (by decide) (by decide)) <|
    .cons (o_slP rfl rfl .no rfl ar39 sz5 .no .no (by decide) (by decide) (by decide)) <|
    .cons (o_call rfl rfl .no Tryz.func68 rfl rfl (bytes_Compare_ok hx2) (.cons rfl (.bsl [] rfl rfl rfl) (.cons rfl (.bsl [] rfl rfl rfl) .nil)) ⟨trivial, trivial, trivial⟩ (.inr (DFlat.v _))) <|
    .cons (o_as rfl rfl .no rfl) <|
    .nil rfl
  ) (by kernel_rfl) ?_)
  have heq := ((Option.some.inj h3).symm).symm
  subst heq
  exact cw_ret ⟨_, (show Leads _ _ (St.of [(4, .d (eint x1))] []) from .w (weak_of ⟨⟨_, rfl, .d rfl⟩, trivial⟩ trivial drop0)), .inr rfl, _, res1 rfl rfl, rfl, rfl⟩

set_option maxRecDepth 100000 in
theorem view_place_1_ok {a0 : ((List UInt8) × ByteArray)} {a1 : List UInt8} {r : Int} (h : view_place_1 a0 a1 = some r) : FnOk Tryz.prog 205 [.d (eapiPair a0), .d (eapiKey a1)] 0 (lk []) (fun rr oo => rr = .d (eint r) ∧ oo = lk []) := by
  refine fnOk_of Tryz.func205 rfl rfl (cw_post ?_)
  unfold view_place_1 at h
  refine cw_seq (cw_region (
    .cons (o_box 0 rfl rfl .no rfl rfl rfl) <|
    .cons (o_box 1 rfl rfl .no rfl rfl rfl) <|
    .cons (o_as rfl rfl .no rfl) <|
    .nil rfl
  ) ?_)
  obtain ⟨x1, hx2, h3⟩ := bind_some (x := bytes_Compare a0.1 a1) h
  refine cw_seq (cw_region_any mixed (by kernel_rfl) (
    .cons (o_fldP rfl rfl .no rfl fld47_0 (by decide)) <|
    .cons (o_slP rfl rfl .no rfl ar39 sz5 .no .no (by decide) (by decide) (by decide)) <|
    .cons (o_slP rfl rfl .no rfl ar39 sz5 .no .no (by decide) (by decide) (by decide)) <|
    .cons (o_call rfl rfl .no Tryz.func68 rfl rfl (bytes_Compare_ok hx2) (.cons rfl (.bsl [0] rfl rfl rfl) (.cons rfl (.bsl [] rfl rfl rfl) .nil)) ⟨trivial, trivial, trivial⟩ (.inr (DFlat.v _))) <|
    .cons (o_as rfl rfl .no rfl) <|
    .nil rfl
  ) (by kernel_rfl) ?_)
  have heq := ((Option.some.inj h3).symm).symm
  subst heq
  exact cw_ret ⟨_, (show Leads _ _ (St.of [(4, .d (eint x1))] []) from .w (weak_of ⟨⟨_, rfl, .d rfl⟩, trivial⟩ trivial drop0)), .inr rfl, _, res1 rfl rfl, rfl, rfl⟩

end
end Go.Val

