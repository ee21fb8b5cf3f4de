/- Walks of the program's functions, printed. -/
import Derived.Test.YtmibkdnmjjdelaaGreatLc
import Derived.Test.YtmibkdnmjjdelaaGreatProg
import Derived.KernelRfl
set_option linter.unusedSectionVars false
set_option linter.unusedVariables false
set_option linter.unusedSimpArgs false
namespace Go.Val
open Go.RowKit Go.Proofs

def eint : Int → D := fun n => .v (.int .i64 n)
def eapiKey : (List UInt8) → D := fun l => .bs 24 l
def estring : ByteArray → D := fun b => .v (.string b)
def eapiPair : ((List UInt8) × ByteArray) → D := fun p => .st [eapiKey p.1, estring p.2]
def eSapiPair : (List ((List UInt8) × ByteArray)) → D := fun xs => .sl 25 (xs.map eapiPair)
def ebool : Bool → D := fun b => .v (.bool b)
def eviewPlain : (List ((List UInt8) × ByteArray)) → D := fun p => .st [eSapiPair p]
def ePviewPlain : (List ((List UInt8) × ByteArray)) → D := fun x => .at (eviewPlain x)
def eapiErrno : Int → D := fun n => .v (.int .i64 n)
def eapiSpan : ((List UInt8) × (List UInt8) × Bool) → D := fun p => .st [eapiKey p.1, eapiKey p.2.1, ebool p.2.2]
def espanbound : ((List UInt8) × Bool) → D := fun p => .st [eapiKey p.1, ebool p.2]
def eSapiSpan : (List ((List UInt8) × (List UInt8) × Bool)) → D := fun xs => .sl 49 (xs.map eapiSpan)
def eapiChange : ((List UInt8) × ByteArray × Bool) → D := fun p => .st [eapiKey p.1, estring p.2.1, ebool p.2.2]
def eSapiChange : (List ((List UInt8) × ByteArray × Bool)) → D := fun xs => .sl 26 (xs.map eapiChange)
def eMapiKeyapiChange : (List ((List UInt8) × ((List UInt8) × ByteArray × Bool))) → D := fun m => .mp (m.map fun p => eapiKey p.1) (m.map fun p => eapiChange p.2)
def oviewView : ((List ((List UInt8) × ByteArray)) × (List ((List UInt8) × ((List UInt8) × ByteArray × Bool))) × (List ((List UInt8) × (List UInt8) × Bool)) × (List (List ((List UInt8) × ((List UInt8) × ByteArray × Bool))))) → OD := fun p => .st [.av (.ifc 26 (.d (.at (eviewPlain p.1)))), .map (mD eapiKey eapiChange p.2.1), .arr 49 (List.map eapiSpan p.2.2.1), .arr 1 (List.map eMapiKeyapiChange p.2.2.2)]
def eSapiKey : (List (List UInt8)) → D := fun xs => .sl 24 (xs.map eapiKey)
def eSSapiChange : (List (List ((List UInt8) × ByteArray × Bool))) → D := fun xs => .sl 1 (xs.map eSapiChange)
def eSstring : (List ByteArray) → D := fun xs => .sl 1 (xs.map estring)
def eSbool : (List Bool) → D := fun xs => .sl 1 (xs.map ebool)
def owainscotref12View : ((List ((List UInt8) × ByteArray)) × (List ((List UInt8) × ByteArray × Bool)) × (List ((List UInt8) × (List UInt8) × Bool)) × (List (List ((List UInt8) × ByteArray × Bool)))) → OD := fun p => .st [.av (.d (eSapiPair p.1)), .av (.d (eSapiChange p.2.1)), .av (.d (eSapiSpan p.2.2.1)), .av (.d (eSSapiChange p.2.2.2))]
def ewainscotlaw12Op : (Int × Int × (List UInt8) × ByteArray × ((List UInt8) × (List UInt8) × Bool)) → D := fun p => .st [eint p.1, eint p.2.1, eapiKey p.2.2.1, estring p.2.2.2.1, eapiSpan p.2.2.2.2]
def eSwainscotlaw12Op : (List (Int × Int × (List UInt8) × ByteArray × ((List UInt8) × (List UInt8) × Bool))) → D := fun xs => .sl 76 (xs.map ewainscotlaw12Op)

section
variable [Drw]

theorem mixed : Tryz.prog.follows .mixedOrders = true := by kernel_rfl
theorem cf78 : ∀ args w v, (Extern.BytealgCompare.compare args).run Tryz.prog w = .ok v w → (callFunc 78 args).run Tryz.prog w = .ok (.value v) w := callFunc_ext Tryz.func78 rfl rfl (by kernel_rfl) (by kernel_rfl)
theorem ar29 : arB Tryz.prog 29 = some (24, 5) := by kernel_rfl
theorem sz5 : szB Tryz.prog 5 = some 1 := by kernel_rfl
theorem fld31_0 : fldB Tryz.prog 31 0 = some (0, 24) := by kernel_rfl
theorem sl22 : slB Tryz.prog 22 = some 31 := by kernel_rfl
theorem un3 : Tryz.prog.underlying 3 = some (.int .i64) := by kernel_rfl
theorem un142 : Tryz.prog.underlying 142 = some (.int .u64) := by kernel_rfl
theorem sz31 : szB Tryz.prog 31 = some 25 := by kernel_rfl
theorem ta31 : TA Tryz.prog 31 true 25 := ⟨by kernel_rfl, by kernel_rfl⟩
theorem ta29 : TA Tryz.prog 29 true 24 := ⟨by kernel_rfl, by kernel_rfl⟩
theorem fld65_0 : fldB Tryz.prog 65 0 = some (0, 1) := by kernel_rfl
theorem ta22 : TA Tryz.prog 22 false 1 := ⟨by kernel_rfl, by kernel_rfl⟩
theorem fld31_1 : fldB Tryz.prog 31 1 = some (24, 1) := by kernel_rfl
theorem ta9 : TA Tryz.prog 9 false 1 := ⟨by kernel_rfl, by kernel_rfl⟩
theorem fld44_0 : fldB Tryz.prog 44 0 = some (0, 24) := by kernel_rfl
theorem fld44_2 : fldB Tryz.prog 44 2 = some (48, 1) := by kernel_rfl
theorem ta4 : TA Tryz.prog 4 false 1 := ⟨by kernel_rfl, by kernel_rfl⟩
theorem fld44_1 : fldB Tryz.prog 44 1 = some (24, 24) := by kernel_rfl
theorem ze125 : Zero Tryz.prog 125 (espanbound ((List.replicate 24 0), false)) := Zero.of _ (fun _ _ => .st (.cons (.bs rfl) (.cons (.v rfl) (.nil)))) (by kernel_rfl)
theorem zs125 : Zero Tryz.prog 125 (.st [eapiKey (List.replicate 24 0), ebool false]) := ze125
theorem pl125 : placesB Tryz.prog 125 = some [(0, 24), (24, 1)] := by kernel_rfl
theorem sz125 : szB Tryz.prog 125 = some 25 := by kernel_rfl
theorem ta125 : TA Tryz.prog 125 true 25 := ⟨by kernel_rfl, by kernel_rfl⟩
theorem fld125_1 : fldB Tryz.prog 125 1 = some (24, 1) := by kernel_rfl
theorem fld125_0 : fldB Tryz.prog 125 0 = some (0, 24) := by kernel_rfl
theorem ze44 : Zero Tryz.prog 44 (eapiSpan ((List.replicate 24 0), (List.replicate 24 0), false)) := Zero.of _ (fun _ _ => .st (.cons (.bs rfl) (.cons (.bs rfl) (.cons (.v rfl) (.nil))))) (by kernel_rfl)
theorem zs44 : Zero Tryz.prog 44 (.st [eapiKey (List.replicate 24 0), eapiKey (List.replicate 24 0), ebool false]) := ze44
theorem pl44 : placesB Tryz.prog 44 = some [(0, 24), (24, 24), (48, 1)] := by kernel_rfl
theorem sz44 : szB Tryz.prog 44 = some 49 := by kernel_rfl
theorem ta44 : TA Tryz.prog 44 true 49 := ⟨by kernel_rfl, by kernel_rfl⟩
theorem sl38 : slB Tryz.prog 38 = some 44 := by kernel_rfl
theorem ta5 : TA Tryz.prog 5 false 1 := ⟨by kernel_rfl, by kernel_rfl⟩
theorem ze31 : Zero Tryz.prog 31 (eapiPair ((List.replicate 24 0), (ByteArray.mk #[]))) := Zero.of _ (fun _ _ => .st (.cons (.bs rfl) (.cons (.v rfl) (.nil)))) (by kernel_rfl)
theorem un9 : Tryz.prog.underlying 9 = some .string := by kernel_rfl
theorem sz9 : szB Tryz.prog 9 = some 1 := by kernel_rfl
theorem siapiPair : ∀ x, (eapiPair x).size = 25 := fun _ => rfl
theorem by31 : bytesB Tryz.prog 31 = some 40 := by kernel_rfl
theorem sl105 : slB Tryz.prog 105 = some 5 := by kernel_rfl
theorem un5 : Tryz.prog.underlying 5 = some (.int .u8) := by kernel_rfl
theorem flds31 : fldsB Tryz.prog 31 = some [(0, 29), (24, 9)] := by kernel_rfl
theorem eg31 : Program.eqGuardType Tryz.prog (Program.depth Tryz.prog) 31 = false := by kernel_rfl
theorem sl37 : slB Tryz.prog 37 = some 52 := by kernel_rfl
theorem sz52 : szB Tryz.prog 52 = some 26 := by kernel_rfl
theorem ta52 : TA Tryz.prog 52 true 26 := ⟨by kernel_rfl, by kernel_rfl⟩
theorem un4 : Tryz.prog.underlying 4 = some .bool := by kernel_rfl
theorem flds52 : fldsB Tryz.prog 52 = some [(0, 29), (24, 9), (25, 4)] := by kernel_rfl
theorem eg52 : Program.eqGuardType Tryz.prog (Program.depth Tryz.prog) 52 = false := by kernel_rfl
theorem flds44 : fldsB Tryz.prog 44 = some [(0, 29), (24, 29), (48, 4)] := by kernel_rfl
theorem eg44 : Program.eqGuardType Tryz.prog (Program.depth Tryz.prog) 44 = false := by kernel_rfl
theorem oviewView_dat : ∀ p, (oviewView p).dat := fun _ => ⟨trivial, trivial, trivial, trivial, trivial⟩
theorem fld71_1 : fldB Tryz.prog 71 1 = some (1, 1) := by kernel_rfl
theorem ta68 : TA Tryz.prog 68 false 1 := ⟨by kernel_rfl, by kernel_rfl⟩
theorem ze52 : Zero Tryz.prog 52 (eapiChange ((List.replicate 24 0), (ByteArray.mk #[]), false)) := Zero.of _ (fun _ _ => .st (.cons (.bs rfl) (.cons (.v rfl) (.cons (.v rfl) (.nil))))) (by kernel_rfl)
theorem zs52 : Zero Tryz.prog 52 (.st [eapiKey (List.replicate 24 0), estring (ByteArray.mk #[]), ebool false]) := ze52
theorem pl52 : placesB Tryz.prog 52 = some [(0, 24), (24, 1), (25, 1)] := by kernel_rfl
theorem mp68 : mpB Tryz.prog 68 = some (29, 52) := by kernel_rfl
theorem kl29 : KL Tryz.prog 29 eapiKey := KL.bytes ar29 un5 sz5
theorem siapiSpan : ∀ x, (eapiSpan x).size = 49 := fun _ => rfl
theorem by44 : bytesB Tryz.prog 44 = some 49 := by kernel_rfl
theorem fld71_2 : fldB Tryz.prog 71 2 = some (2, 1) := by kernel_rfl
theorem ta38 : TA Tryz.prog 38 false 1 := ⟨by kernel_rfl, by kernel_rfl⟩
theorem flapiSpan : ∀ p, DFlat (eapiSpan p) := fun p => DFlat.st (by intro q hq; simp only [List.mem_cons, List.not_mem_nil, or_false] at hq; rcases hq with rfl | rfl | rfl <;> first | exact (DFlat.bs _ _) | exact (DFlat.bs _ _) | exact (DFlat.v _))
theorem sz38 : szB Tryz.prog 38 = some 1 := by kernel_rfl
theorem mp92 : mpB Tryz.prog 92 = some (29, 9) := by kernel_rfl
theorem fld52_2 : fldB Tryz.prog 52 2 = some (25, 1) := by kernel_rfl
theorem fld52_0 : fldB Tryz.prog 52 0 = some (0, 24) := by kernel_rfl
theorem fld52_1 : fldB Tryz.prog 52 1 = some (24, 1) := by kernel_rfl
theorem sl107 : slB Tryz.prog 107 = some 29 := by kernel_rfl
theorem sz29 : szB Tryz.prog 29 = some 24 := by kernel_rfl
theorem ze29 : Zero Tryz.prog 29 (eapiKey (List.replicate 24 0)) := Zero.of _ (fun _ _ => .bs rfl) (by kernel_rfl)
theorem ze9 : Zero Tryz.prog 9 (estring (ByteArray.mk #[])) := Zero.of _ (fun _ _ => .v rfl) (by kernel_rfl)
theorem zs31 : Zero Tryz.prog 31 (.st [eapiKey (List.replicate 24 0), estring (ByteArray.mk #[])]) := ze31
theorem pl31 : placesB Tryz.prog 31 = some [(0, 24), (24, 1)] := by kernel_rfl
theorem siapiChange : ∀ x, (eapiChange x).size = 26 := fun _ => rfl
theorem by52 : bytesB Tryz.prog 52 = some 48 := by kernel_rfl
theorem sl39 : slB Tryz.prog 39 = some 37 := by kernel_rfl
theorem sz37 : szB Tryz.prog 37 = some 1 := by kernel_rfl
theorem ta37 : TA Tryz.prog 37 false 1 := ⟨by kernel_rfl, by kernel_rfl⟩
theorem ze65 : Zero Tryz.prog 65 (eviewPlain ([])) := Zero.of _ (fun _ _ => .st (.cons ((.sl0 (a := none) (cap := 0))) (.nil))) (by kernel_rfl)
theorem zs65 : Zero Tryz.prog 65 (.st [eSapiPair ([])]) := ze65
theorem pl65 : placesB Tryz.prog 65 = some [(0, 1)] := by kernel_rfl
theorem fld71_0 : fldB Tryz.prog 71 0 = some (0, 1) := by kernel_rfl
theorem ta67 : TA Tryz.prog 67 false 1 := ⟨by kernel_rfl, by kernel_rfl⟩
theorem hm26_Get : ∀ (v : Addr) w, Sem.run Tryz.prog (Go.method (Tryz.prog.types.size + Made.depth) 26 (.pointer (some v)) "Get") w = Result.ok (137, Value.pointer (some v)) w := fun _ _ => by kernel_rfl
theorem ze37 : Zero Tryz.prog 37 (eSapiChange ([])) := Zero.of _ (fun _ _ => (.sl0 (a := none) (cap := 0))) (by kernel_rfl)
theorem siSapiChange : ∀ x, (eSapiChange x).size = 1 := fun _ => rfl
theorem fld71_3 : fldB Tryz.prog 71 3 = some (3, 1) := by kernel_rfl
theorem ta69 : TA Tryz.prog 69 false 1 := ⟨by kernel_rfl, by kernel_rfl⟩
theorem sl69 : slB Tryz.prog 69 = some 68 := by kernel_rfl
theorem sz68 : szB Tryz.prog 68 = some 1 := by kernel_rfl
theorem ze68 : Zero Tryz.prog 68 (.v (.map none)) := Zero.of _ (fun _ _ => .v rfl) (by kernel_rfl)
theorem siMapiKeyapiChange : ∀ x, (eMapiKeyapiChange x).size = 1 := fun _ => rfl
theorem by68 : bytesB Tryz.prog 68 = some 8 := by kernel_rfl
theorem sz69 : szB Tryz.prog 69 = some 1 := by kernel_rfl
theorem hm26_Scan : ∀ (v : Addr) w, Sem.run Tryz.prog (Go.method (Tryz.prog.types.size + Made.depth) 26 (.pointer (some v)) "Scan") w = Result.ok (138, Value.pointer (some v)) w := fun _ _ => by kernel_rfl
theorem flapiPair : ∀ p, DFlat (eapiPair p) := fun p => DFlat.st (by intro q hq; simp only [List.mem_cons, List.not_mem_nil, or_false] at hq; rcases hq with rfl | rfl <;> first | exact (DFlat.bs _ _) | exact (DFlat.v _))
theorem ifcB67 : ifcB Tryz.prog 67 = true := by kernel_rfl
theorem zo71 : Zero Tryz.prog 71 (.st [.v .nilIface, .v (.map none), .v (.slice none 0 0), .v (.slice none 0 0)]) := Zero.of _ (fun _ _ => .st (.cons (.v rfl) (.cons (.v rfl) (.cons (.v rfl) (.cons (.v rfl) (.nil)))))) (by kernel_rfl)
theorem pl71 : placesB Tryz.prog 71 = some [(0, 1), (1, 1), (2, 1), (3, 1)] := by kernel_rfl
theorem tassB89_26 : tassB Tryz.prog 89 26 = true := by kernel_rfl
theorem hm26_Len : ∀ (v : Addr) w, Sem.run Tryz.prog (Go.method (Tryz.prog.types.size + Made.depth) 26 (.pointer (some v)) "Len") w = Result.ok (9, Value.pointer (some v)) w := fun _ _ => by kernel_rfl
theorem up26 : Tryz.prog.underlying 26 = some (.pointer 65) := by kernel_rfl
theorem ifB26 : ifB Tryz.prog 26 = false := by kernel_rfl
theorem up32 : Tryz.prog.underlying 32 = some (.pointer 71) := by kernel_rfl
theorem eg29 : Program.eqGuardType Tryz.prog (Program.depth Tryz.prog) 29 = false := by kernel_rfl
theorem sz4 : szB Tryz.prog 4 = some 1 := by kernel_rfl
theorem sl115 : slB Tryz.prog 115 = some 9 := by kernel_rfl
theorem sistring : ∀ x, (estring x).size = 1 := fun _ => rfl
theorem by9 : bytesB Tryz.prog 9 = some 16 := by kernel_rfl
theorem sl117 : slB Tryz.prog 117 = some 4 := by kernel_rfl
theorem ze4 : Zero Tryz.prog 4 (ebool false) := Zero.of _ (fun _ _ => .v rfl) (by kernel_rfl)
theorem sibool : ∀ x, (ebool x).size = 1 := fun _ => rfl
theorem by4 : bytesB Tryz.prog 4 = some 1 := by kernel_rfl
theorem owainscotref12View_dat : ∀ p, (owainscotref12View p).dat := fun _ => ⟨trivial, trivial, trivial, trivial, trivial⟩
theorem zo41 : Zero Tryz.prog 41 (.st [eSapiPair ([]), eSapiChange ([]), eSapiSpan ([]), eSSapiChange ([])]) := Zero.of _ (fun _ _ => .st (.cons ((.sl0 (a := none) (cap := 0))) (.cons ((.sl0 (a := none) (cap := 0))) (.cons ((.sl0 (a := none) (cap := 0))) (.cons ((.sl0 (a := none) (cap := 0))) (.nil)))))) (by kernel_rfl)
theorem pl41 : placesB Tryz.prog 41 = some [(0, 1), (1, 1), (2, 1), (3, 1)] := by kernel_rfl
theorem fld41_0 : fldB Tryz.prog 41 0 = some (0, 1) := by kernel_rfl
theorem fld41_1 : fldB Tryz.prog 41 1 = some (1, 1) := by kernel_rfl
theorem fld41_2 : fldB Tryz.prog 41 2 = some (2, 1) := by kernel_rfl
theorem fld41_3 : fldB Tryz.prog 41 3 = some (3, 1) := by kernel_rfl
theorem ta39 : TA Tryz.prog 39 false 1 := ⟨by kernel_rfl, by kernel_rfl⟩
theorem by37 : bytesB Tryz.prog 37 = some 24 := by kernel_rfl
theorem sz39 : szB Tryz.prog 39 = some 1 := by kernel_rfl
theorem fld46_3 : fldB Tryz.prog 46 3 = some (26, 1) := by kernel_rfl
theorem fld46_0 : fldB Tryz.prog 46 0 = some (0, 1) := by kernel_rfl
theorem ta3 : TA Tryz.prog 3 false 1 := ⟨by kernel_rfl, by kernel_rfl⟩
theorem fld46_2 : fldB Tryz.prog 46 2 = some (2, 24) := by kernel_rfl
theorem fld46_4 : fldB Tryz.prog 46 4 = some (27, 49) := by kernel_rfl
theorem fld46_1 : fldB Tryz.prog 46 1 = some (1, 1) := by kernel_rfl
theorem sl23 : slB Tryz.prog 23 = some 46 := by kernel_rfl
theorem sz46 : szB Tryz.prog 46 = some 76 := by kernel_rfl
theorem ta46 : TA Tryz.prog 46 true 76 := ⟨by kernel_rfl, by kernel_rfl⟩
end

section
variable [Drw]

noncomputable def bytes_Compare (a0 : List UInt8) (a1 : List UInt8) : Option Int :=
 some (Lib.compareBytes a0 a1)

noncomputable def delta_compare (a0 : List UInt8) (a1 : List UInt8) : Option Int :=
 (bytes_Compare a0 a1).bind fun x1 =>
 some x1

noncomputable def view_place_1 (a0 : ((List UInt8) × ByteArray)) (a1 : List UInt8) : Option Int :=
 (bytes_Compare a0.1 a1).bind fun x1 =>
 some x1

set_option maxRecDepth 100000 in
theorem bytes_Compare_ok {a0 : List UInt8} {a1 : List UInt8} {r : Int} (h : bytes_Compare a0 a1 = some r) : FnOk Tryz.prog 56 [.d (bytesD a0), .d (bytesD a1)] 0 (lk []) (fun rr oo => rr = .d (eint r) ∧ oo = lk []) := by
  refine fnOk_of Tryz.func56 rfl rfl (cw_post ?_)
  unfold bytes_Compare at h
  refine cw_seq (cw_region (
    .cons (o_as rfl rfl .no rfl) <|
    .nil rfl
  ) ?_)
  refine cw_seq (cw_region (
    .cons (o_mv rfl rfl .no rfl) <|
    .cons (o_mv rfl rfl .no rfl) <|
    .cons (o_bcmp (a := a0) (b := a1) rfl rfl .no cf78 rfl rfl) <|
    .cons (o_as rfl rfl .no rfl) <|
    .nil rfl
  ) ?_)
  have heq := ((Option.some.inj h).symm).symm
  subst heq
  exact cw_ret ⟨_, (show Leads _ _ (St.of [(4, .d (eint (Lib.compareBytes a0 a1)))] []) from .w (weak_of ⟨⟨_, rfl, .d rfl⟩, trivial⟩ trivial drop0)), .inr rfl, _, res1 rfl rfl, rfl, rfl⟩

set_option maxRecDepth 100000 in
theorem delta_compare_ok {a0 : List UInt8} {a1 : List UInt8} {r : Int} (h : delta_compare a0 a1 = some r) : FnOk Tryz.prog 60 [.d (eapiKey a0), .d (eapiKey a1)] 0 (lk []) (fun rr oo => rr = .d (eint r) ∧ oo = lk []) := by
  refine fnOk_of Tryz.func60 rfl rfl (cw_post ?_)
  unfold delta_compare at h
  refine cw_seq (cw_region (
    .cons (o_box 0 rfl rfl .no rfl rfl rfl) <|
    .cons (o_box 1 rfl rfl .no rfl rfl rfl) <|
    .cons (o_as rfl rfl .no rfl) <|
    .nil rfl
  ) ?_)
  obtain ⟨x1, hx2, h3⟩ := bind_some (x := bytes_Compare a0 a1) h
  refine cw_seq (cw_region_any mixed (by kernel_rfl) (
    .cons (o_slP rfl rfl .no rfl ar29 sz5 .no .no (by decide) (by decide) (by decide)) <|
    .cons (o_slP rfl rfl .no rfl ar29 sz5 .no .no (by decide) (by decide) (by decide)) <|
    .cons (o_call rfl rfl .no Tryz.func56 rfl rfl (bytes_Compare_ok hx2) (.cons rfl (.bsl [] rfl rfl rfl) (.cons rfl (.bsl [] rfl rfl rfl) .nil)) ⟨trivial, trivial, trivial⟩ (.inr (DFlat.v _))) <|
    .cons (o_as rfl rfl .no rfl) <|
    .nil rfl
  ) (by kernel_rfl) ?_)
  have heq := ((Option.some.inj h3).symm).symm
  subst heq
  exact cw_ret ⟨_, (show Leads _ _ (St.of [(4, .d (eint x1))] []) from .w (weak_of ⟨⟨_, rfl, .d rfl⟩, trivial⟩ trivial drop0)), .inr rfl, _, res1 rfl rfl, rfl, rfl⟩

set_option maxRecDepth 100000 in
theorem view_place_1_ok {a0 : ((List UInt8) × ByteArray)} {a1 : List UInt8} {r : Int} (h : view_place_1 a0 a1 = some r) : FnOk Tryz.prog 142 [.d (eapiPair a0), .d (eapiKey a1)] 0 (lk []) (fun rr oo => rr = .d (eint r) ∧ oo = lk []) := by
  refine fnOk_of Tryz.func142 rfl rfl (cw_post ?_)
  unfold view_place_1 at h
  refine cw_seq (cw_region (
    .cons (o_box 0 rfl rfl .no rfl rfl rfl) <|
    .cons (o_box 1 rfl rfl .no rfl rfl rfl) <|
    .cons (o_as rfl rfl .no rfl) <|
    .nil rfl
  ) ?_)
  obtain ⟨x1, hx2, h3⟩ := bind_some (x := bytes_Compare a0.1 a1) h
  refine cw_seq (cw_region_any mixed (by kernel_rfl) (
    .cons (o_fldP rfl rfl .no rfl fld31_0 (by decide)) <|
    .cons (o_slP rfl rfl .no rfl ar29 sz5 .no .no (by decide) (by decide) (by decide)) <|
    .cons (o_slP rfl rfl .no rfl ar29 sz5 .no .no (by decide) (by decide) (by decide)) <|
    .cons (o_call rfl rfl .no Tryz.func56 rfl rfl (bytes_Compare_ok hx2) (.cons rfl (.bsl [0] rfl rfl rfl) (.cons rfl (.bsl [] rfl rfl rfl) .nil)) ⟨trivial, trivial, trivial⟩ (.inr (DFlat.v _))) <|
    .cons (o_as rfl rfl .no rfl) <|
    .nil rfl
  ) (by kernel_rfl) ?_)
  have heq := ((Option.some.inj h3).symm).symm
  subst heq
  exact cw_ret ⟨_, (show Leads _ _ (St.of [(4, .d (eint x1))] []) from .w (weak_of ⟨⟨_, rfl, .d rfl⟩, trivial⟩ trivial drop0)), .inr rfl, _, res1 rfl rfl, rfl, rfl⟩

end
end Go.Val

