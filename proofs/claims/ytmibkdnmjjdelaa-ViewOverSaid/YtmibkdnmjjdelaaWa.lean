/- Walks of the program's functions, printed. -/
import Derived.Test.YtmibkdnmjjdelaaLc
import Derived.Test.YtmibkdnmjjdelaaProg
import Derived.KernelRfl
set_option linter.unusedSectionVars false
set_option linter.unusedVariables false
set_option linter.unusedSimpArgs false
namespace Go.Val
open Go.RowKit Go.Proofs

def eint : Int → D := fun n => .v (.int .i64 n)
def eapiKey : (List UInt8) → D := fun l => .bs 24 l
def estring : ByteArray → D := fun b => .v (.string b)
def eapiPair : ((List UInt8) × ByteArray) → D := fun p => .st [eapiKey p.1, estring p.2]
def eSapiPair : (List ((List UInt8) × ByteArray)) → D := fun xs => .sl 25 (xs.map eapiPair)
def ebool : Bool → D := fun b => .v (.bool b)
def eviewPlain : (List ((List UInt8) × ByteArray)) → D := fun p => .st [eSapiPair p]
def ePviewPlain : (List ((List UInt8) × ByteArray)) → D := fun x => .at (eviewPlain x)
def eapiErrno : Int → D := fun n => .v (.int .i64 n)
def eapiSpan : ((List UInt8) × (List UInt8) × Bool) → D := fun p => .st [eapiKey p.1, eapiKey p.2.1, ebool p.2.2]
def espanbound : ((List UInt8) × Bool) → D := fun p => .st [eapiKey p.1, ebool p.2]
def eSapiSpan : (List ((List UInt8) × (List UInt8) × Bool)) → D := fun xs => .sl 49 (xs.map eapiSpan)
def eapiChange : ((List UInt8) × ByteArray × Bool) → D := fun p => .st [eapiKey p.1, estring p.2.1, ebool p.2.2]
def eSapiChange : (List ((List UInt8) × ByteArray × Bool)) → D := fun xs => .sl 26 (xs.map eapiChange)
def eMapiKeyapiChange : (List ((List UInt8) × ((List UInt8) × ByteArray × Bool))) → D := fun m => .mp (m.map fun p => eapiKey p.1) (m.map fun p => eapiChange p.2)
def oviewView : ((List ((List UInt8) × ByteArray)) × (List ((List UInt8) × ((List UInt8) × ByteArray × Bool))) × (List ((List UInt8) × (List UInt8) × Bool)) × (List (List ((List UInt8) × ((List UInt8) × ByteArray × Bool))))) → OD := fun p => .st [.av (.ifc 30 (.d (.at (eviewPlain p.1)))), .map (mD eapiKey eapiChange p.2.1), .arr 49 (List.map eapiSpan p.2.2.1), .arr 1 (List.map eMapiKeyapiChange p.2.2.2)]
def eSapiKey : (List (List UInt8)) → D := fun xs => .sl 24 (xs.map eapiKey)
def eSSapiChange : (List (List ((List UInt8) × ByteArray × Bool))) → D := fun xs => .sl 1 (xs.map eSapiChange)
def ewainscotlaw12Op : (Int × Int × (List UInt8) × ByteArray × ((List UInt8) × (List UInt8) × Bool)) → D := fun p => .st [eint p.1, eint p.2.1, eapiKey p.2.2.1, estring p.2.2.2.1, eapiSpan p.2.2.2.2]
def eSwainscotlaw12Op : (List (Int × Int × (List UInt8) × ByteArray × ((List UInt8) × (List UInt8) × Bool))) → D := fun xs => .sl 76 (xs.map ewainscotlaw12Op)
def oviewViewR0 (k0 : Nat) : ((List ((List UInt8) × ((List UInt8) × ByteArray × Bool))) × (List ((List UInt8) × (List UInt8) × Bool)) × (List (List ((List UInt8) × ((List UInt8) × ByteArray × Bool))))) → OD := fun p => .st [.av (.ifc 28 (.ptr k0 0)), .map (mD eapiKey eapiChange p.1), .arr 49 (List.map eapiSpan p.2.1), .arr 1 (List.map eMapiKeyapiChange p.2.2)]

section
variable [Drw]

theorem mixed : Try.prog.follows .mixedOrders = true := by kernel_rfl
theorem cf55 : ∀ args w v, (Extern.BytealgCompare.compare args).run Try.prog w = .ok v w → (callFunc 55 args).run Try.prog w = .ok (.value v) w := callFunc_ext Try.func55 rfl rfl (by kernel_rfl) (by kernel_rfl)
theorem ar24 : arB Try.prog 24 = some (24, 5) := by kernel_rfl
theorem sz5 : szB Try.prog 5 = some 1 := by kernel_rfl
theorem fld59_0 : fldB Try.prog 59 0 = some (0, 24) := by kernel_rfl
theorem sl22 : slB Try.prog 22 = some 59 := by kernel_rfl
theorem un3 : Try.prog.underlying 3 = some (.int .i64) := by kernel_rfl
theorem un119 : Try.prog.underlying 119 = some (.int .u64) := by kernel_rfl
theorem sz59 : szB Try.prog 59 = some 25 := by kernel_rfl
theorem ta59 : TA Try.prog 59 true 25 := ⟨by kernel_rfl, by kernel_rfl⟩
theorem ta24 : TA Try.prog 24 true 24 := ⟨by kernel_rfl, by kernel_rfl⟩
theorem fld69_0 : fldB Try.prog 69 0 = some (0, 1) := by kernel_rfl
theorem ta22 : TA Try.prog 22 false 1 := ⟨by kernel_rfl, by kernel_rfl⟩
theorem fld59_1 : fldB Try.prog 59 1 = some (24, 1) := by kernel_rfl
theorem ta9 : TA Try.prog 9 false 1 := ⟨by kernel_rfl, by kernel_rfl⟩
theorem fld26_0 : fldB Try.prog 26 0 = some (0, 24) := by kernel_rfl
theorem fld26_2 : fldB Try.prog 26 2 = some (48, 1) := by kernel_rfl
theorem ta4 : TA Try.prog 4 false 1 := ⟨by kernel_rfl, by kernel_rfl⟩
theorem fld26_1 : fldB Try.prog 26 1 = some (24, 24) := by kernel_rfl
theorem ze103 : Zero Try.prog 103 (espanbound ((List.replicate 24 0), false)) := Zero.of _ (fun _ _ => .st (.cons (.bs rfl) (.cons (.v rfl) (.nil)))) (by kernel_rfl)
theorem zs103 : Zero Try.prog 103 (.st [eapiKey (List.replicate 24 0), ebool false]) := ze103
theorem pl103 : placesB Try.prog 103 = some [(0, 24), (24, 1)] := by kernel_rfl
theorem sz103 : szB Try.prog 103 = some 25 := by kernel_rfl
theorem ta103 : TA Try.prog 103 true 25 := ⟨by kernel_rfl, by kernel_rfl⟩
theorem fld103_1 : fldB Try.prog 103 1 = some (24, 1) := by kernel_rfl
theorem fld103_0 : fldB Try.prog 103 0 = some (0, 24) := by kernel_rfl
theorem ze26 : Zero Try.prog 26 (eapiSpan ((List.replicate 24 0), (List.replicate 24 0), false)) := Zero.of _ (fun _ _ => .st (.cons (.bs rfl) (.cons (.bs rfl) (.cons (.v rfl) (.nil))))) (by kernel_rfl)
theorem zs26 : Zero Try.prog 26 (.st [eapiKey (List.replicate 24 0), eapiKey (List.replicate 24 0), ebool false]) := ze26
theorem pl26 : placesB Try.prog 26 = some [(0, 24), (24, 24), (48, 1)] := by kernel_rfl
theorem sz26 : szB Try.prog 26 = some 49 := by kernel_rfl
theorem ta26 : TA Try.prog 26 true 49 := ⟨by kernel_rfl, by kernel_rfl⟩
theorem sl38 : slB Try.prog 38 = some 26 := by kernel_rfl
theorem ta5 : TA Try.prog 5 false 1 := ⟨by kernel_rfl, by kernel_rfl⟩
theorem ze59 : Zero Try.prog 59 (eapiPair ((List.replicate 24 0), (ByteArray.mk #[]))) := Zero.of _ (fun _ _ => .st (.cons (.bs rfl) (.cons (.v rfl) (.nil)))) (by kernel_rfl)
theorem un9 : Try.prog.underlying 9 = some .string := by kernel_rfl
theorem sz9 : szB Try.prog 9 = some 1 := by kernel_rfl
theorem siapiPair : ∀ x, (eapiPair x).size = 25 := fun _ => rfl
theorem by59 : bytesB Try.prog 59 = some 40 := by kernel_rfl
theorem sl76 : slB Try.prog 76 = some 5 := by kernel_rfl
theorem un5 : Try.prog.underlying 5 = some (.int .u8) := by kernel_rfl
theorem flds59 : fldsB Try.prog 59 = some [(0, 24), (24, 9)] := by kernel_rfl
theorem eg59 : Program.eqGuardType Try.prog (Program.depth Try.prog) 59 = false := by kernel_rfl
theorem sl49 : slB Try.prog 49 = some 71 := by kernel_rfl
theorem sz71 : szB Try.prog 71 = some 26 := by kernel_rfl
theorem ta71 : TA Try.prog 71 true 26 := ⟨by kernel_rfl, by kernel_rfl⟩
theorem un4 : Try.prog.underlying 4 = some .bool := by kernel_rfl
theorem flds71 : fldsB Try.prog 71 = some [(0, 24), (24, 9), (25, 4)] := by kernel_rfl
theorem eg71 : Program.eqGuardType Try.prog (Program.depth Try.prog) 71 = false := by kernel_rfl
theorem oviewView_dat : ∀ p, (oviewView p).dat := fun _ => ⟨trivial, trivial, trivial, trivial, trivial⟩
theorem fld67_1 : fldB Try.prog 67 1 = some (1, 1) := by kernel_rfl
theorem ta64 : TA Try.prog 64 false 1 := ⟨by kernel_rfl, by kernel_rfl⟩
theorem ze71 : Zero Try.prog 71 (eapiChange ((List.replicate 24 0), (ByteArray.mk #[]), false)) := Zero.of _ (fun _ _ => .st (.cons (.bs rfl) (.cons (.v rfl) (.cons (.v rfl) (.nil))))) (by kernel_rfl)
theorem zs71 : Zero Try.prog 71 (.st [eapiKey (List.replicate 24 0), estring (ByteArray.mk #[]), ebool false]) := ze71
theorem pl71 : placesB Try.prog 71 = some [(0, 24), (24, 1), (25, 1)] := by kernel_rfl
theorem mp64 : mpB Try.prog 64 = some (24, 71) := by kernel_rfl
theorem kl24 : KL Try.prog 24 eapiKey := KL.bytes ar24 un5 sz5
theorem siapiSpan : ∀ x, (eapiSpan x).size = 49 := fun _ => rfl
theorem by26 : bytesB Try.prog 26 = some 49 := by kernel_rfl
theorem fld67_2 : fldB Try.prog 67 2 = some (2, 1) := by kernel_rfl
theorem ta38 : TA Try.prog 38 false 1 := ⟨by kernel_rfl, by kernel_rfl⟩
theorem flapiSpan : ∀ p, DFlat (eapiSpan p) := fun p => DFlat.st (by intro q hq; simp only [List.mem_cons, List.not_mem_nil, or_false] at hq; rcases hq with rfl | rfl | rfl <;> first | exact (DFlat.bs _ _) | exact (DFlat.bs _ _) | exact (DFlat.v _))
theorem sz38 : szB Try.prog 38 = some 1 := by kernel_rfl
theorem mp77 : mpB Try.prog 77 = some (24, 9) := by kernel_rfl
theorem fld71_2 : fldB Try.prog 71 2 = some (25, 1) := by kernel_rfl
theorem fld71_0 : fldB Try.prog 71 0 = some (0, 24) := by kernel_rfl
theorem fld71_1 : fldB Try.prog 71 1 = some (24, 1) := by kernel_rfl
theorem sl90 : slB Try.prog 90 = some 24 := by kernel_rfl
theorem sz24 : szB Try.prog 24 = some 24 := by kernel_rfl
theorem ze24 : Zero Try.prog 24 (eapiKey (List.replicate 24 0)) := Zero.of _ (fun _ _ => .bs rfl) (by kernel_rfl)
theorem ze9 : Zero Try.prog 9 (estring (ByteArray.mk #[])) := Zero.of _ (fun _ _ => .v rfl) (by kernel_rfl)
theorem zs59 : Zero Try.prog 59 (.st [eapiKey (List.replicate 24 0), estring (ByteArray.mk #[])]) := ze59
theorem pl59 : placesB Try.prog 59 = some [(0, 24), (24, 1)] := by kernel_rfl
theorem siapiChange : ∀ x, (eapiChange x).size = 26 := fun _ => rfl
theorem by71 : bytesB Try.prog 71 = some 48 := by kernel_rfl
theorem sl96 : slB Try.prog 96 = some 49 := by kernel_rfl
theorem sz49 : szB Try.prog 49 = some 1 := by kernel_rfl
theorem ta49 : TA Try.prog 49 false 1 := ⟨by kernel_rfl, by kernel_rfl⟩
theorem ze69 : Zero Try.prog 69 (eviewPlain ([])) := Zero.of _ (fun _ _ => .st (.cons ((.sl0 (a := none) (cap := 0))) (.nil))) (by kernel_rfl)
theorem zs69 : Zero Try.prog 69 (.st [eSapiPair ([])]) := ze69
theorem pl69 : placesB Try.prog 69 = some [(0, 1)] := by kernel_rfl
theorem fld67_0 : fldB Try.prog 67 0 = some (0, 1) := by kernel_rfl
theorem ta63 : TA Try.prog 63 false 1 := ⟨by kernel_rfl, by kernel_rfl⟩
theorem hm30_Get : ∀ (v : Addr) w, Sem.run Try.prog (Go.method (Try.prog.types.size + Made.depth) 30 (.pointer (some v)) "Get") w = Result.ok (111, Value.pointer (some v)) w := fun _ _ => by kernel_rfl
theorem ze49 : Zero Try.prog 49 (eSapiChange ([])) := Zero.of _ (fun _ _ => (.sl0 (a := none) (cap := 0))) (by kernel_rfl)
theorem siSapiChange : ∀ x, (eSapiChange x).size = 1 := fun _ => rfl
theorem fld67_3 : fldB Try.prog 67 3 = some (3, 1) := by kernel_rfl
theorem ta65 : TA Try.prog 65 false 1 := ⟨by kernel_rfl, by kernel_rfl⟩
theorem sl65 : slB Try.prog 65 = some 64 := by kernel_rfl
theorem sz64 : szB Try.prog 64 = some 1 := by kernel_rfl
theorem ze64 : Zero Try.prog 64 (.v (.map none)) := Zero.of _ (fun _ _ => .v rfl) (by kernel_rfl)
theorem siMapiKeyapiChange : ∀ x, (eMapiKeyapiChange x).size = 1 := fun _ => rfl
theorem by64 : bytesB Try.prog 64 = some 8 := by kernel_rfl
theorem sz65 : szB Try.prog 65 = some 1 := by kernel_rfl
theorem hm30_Scan : ∀ (v : Addr) w, Sem.run Try.prog (Go.method (Try.prog.types.size + Made.depth) 30 (.pointer (some v)) "Scan") w = Result.ok (113, Value.pointer (some v)) w := fun _ _ => by kernel_rfl
theorem ifcB63 : ifcB Try.prog 63 = true := by kernel_rfl
theorem zo67 : Zero Try.prog 67 (.st [.v .nilIface, .v (.map none), .v (.slice none 0 0), .v (.slice none 0 0)]) := Zero.of _ (fun _ _ => .st (.cons (.v rfl) (.cons (.v rfl) (.cons (.v rfl) (.cons (.v rfl) (.nil)))))) (by kernel_rfl)
theorem pl67 : placesB Try.prog 67 = some [(0, 1), (1, 1), (2, 1), (3, 1)] := by kernel_rfl
theorem tassB87_30 : tassB Try.prog 87 30 = true := by kernel_rfl
theorem hm30_Len : ∀ (v : Addr) w, Sem.run Try.prog (Go.method (Try.prog.types.size + Made.depth) 30 (.pointer (some v)) "Len") w = Result.ok (112, Value.pointer (some v)) w := fun _ _ => by kernel_rfl
theorem sl44 : slB Try.prog 44 = some 46 := by kernel_rfl
theorem sz46 : szB Try.prog 46 = some 76 := by kernel_rfl
theorem fld46_0 : fldB Try.prog 46 0 = some (0, 1) := by kernel_rfl
theorem ta3 : TA Try.prog 3 false 1 := ⟨by kernel_rfl, by kernel_rfl⟩
theorem fld46_2 : fldB Try.prog 46 2 = some (2, 24) := by kernel_rfl
theorem fld46_3 : fldB Try.prog 46 3 = some (26, 1) := by kernel_rfl
theorem up30 : Try.prog.underlying 30 = some (.pointer 69) := by kernel_rfl
theorem ifB30 : ifB Try.prog 30 = false := by kernel_rfl
theorem up28 : Try.prog.underlying 28 = some (.pointer 67) := by kernel_rfl
theorem eg24 : Program.eqGuardType Try.prog (Program.depth Try.prog) 24 = false := by kernel_rfl
theorem hm28_Scan : ∀ (v : Addr) w, Sem.run Try.prog (Go.method (Try.prog.types.size + Made.depth) 28 (.pointer (some v)) "Scan") w = Result.ok (15, Value.pointer (some v)) w := fun _ _ => by kernel_rfl
theorem ifB28 : ifB Try.prog 28 = false := by kernel_rfl
end

section
variable [Drw]

noncomputable def bytes_Compare (a0 : List UInt8) (a1 : List UInt8) : Option Int :=
  some (Lib.compareBytes a0 a1)

noncomputable def delta_compare (a0 : List UInt8) (a1 : List UInt8) : Option Int :=
  (bytes_Compare a0 a1).bind fun x1 =>
  some x1

noncomputable def view_place_1 (a0 : ((List UInt8) × ByteArray)) (a1 : List UInt8) : Option Int :=
  (bytes_Compare a0.1 a1).bind fun x1 =>
  some x1

set_option maxRecDepth 100000 in
theorem bytes_Compare_ok {a0 : List UInt8} {a1 : List UInt8} {r : Int} (h : bytes_Compare a0 a1 = some r) : FnOk Try.prog 39 [.d (bytesD a0), .d (bytesD a1)] 0 (lk []) (fun rr oo => rr = .d (eint r) ∧ oo = lk []) := by
  refine fnOk_of Try.func39 rfl rfl (cw_post ?_)
  unfold bytes_Compare at h
  refine cw_seq (cw_region (
    .cons (o_as rfl rfl .no rfl) <|
    .nil rfl
  ) ?_)
  refine cw_seq (cw_region (
    .cons (o_mv rfl rfl .no rfl) <|
    .cons (o_mv rfl rfl .no rfl) <|
    .cons (o_bcmp (a := a0) (b := a1) rfl rfl .no cf55 rfl rfl) <|
    .cons (o_as rfl rfl .no rfl) <|
    .nil rfl
  ) ?_)
  have heq := ((Option.some.inj h).symm).symm
  subst heq
  exact cw_ret ⟨_, (show Leads _ _ (St.of [(4, .d (eint (Lib.compareBytes a0 a1)))] []) from .w (weak_of ⟨⟨_, rfl, .d rfl⟩, trivial⟩ trivial drop0)), .inr rfl, _, res1 rfl rfl, rfl, rfl⟩

set_option maxRecDepth 100000 in
theorem delta_compare_ok {a0 : List UInt8} {a1 : List UInt8} {r : Int} (h : delta_compare a0 a1 = some r) : FnOk Try.prog 42 [.d (eapiKey a0), .d (eapiKey a1)] 0 (lk []) (fun rr oo => rr = .d (eint r) ∧ oo = lk []) := by
  refine fnOk_of Try.func42 rfl rfl (cw_post ?_)
  unfold delta_compare at h
  refine cw_seq (cw_region (
    .cons (o_box 0 rfl rfl .no rfl rfl rfl) <|
    .cons (o_box 1 rfl rfl .no rfl rfl rfl) <|
    .cons (o_as rfl rfl .no rfl) <|
    .nil rfl
  ) ?_)
  obtain ⟨x1, hx2, h3⟩ := bind_some (x := bytes_Compare a0 a1) h
  refine cw_seq (cw_region_any mixed (by kernel_rfl) (
    .cons (o_slP rfl rfl .no rfl ar24 sz5 .no .no (by decide) (by decide) (by decide)) <|
    .cons (o_slP rfl rfl .no rfl ar24 sz5 .no .no (by decide) (by decide) (by decide)) <|
    .cons (o_call rfl rfl .no Try.func39 rfl rfl (bytes_Compare_ok hx2) (.cons rfl (.bsl [] rfl rfl rfl) (.cons rfl (.bsl [] rfl rfl rfl) .nil)) ⟨trivial, trivial, trivial⟩ (.inr (DFlat.v _))) <|
    .cons (o_as rfl rfl .no rfl) <|
    .nil rfl
  ) (by kernel_rfl) ?_)
  have heq := ((Option.some.inj h3).symm).symm
  subst heq
  exact cw_ret ⟨_, (show Leads _ _ (St.of [(4, .d (eint x1))] []) from .w (weak_of ⟨⟨_, rfl, .d rfl⟩, trivial⟩ trivial drop0)), .inr rfl, _, res1 rfl rfl, rfl, rfl⟩

set_option maxRecDepth 100000 in
theorem view_place_1_ok {a0 : ((List UInt8) × ByteArray)} {a1 : List UInt8} {r : Int} (h : view_place_1 a0 a1 = some r) : FnOk Try.prog 117 [.d (eapiPair a0), .d (eapiKey a1)] 0 (lk []) (fun rr oo => rr = .d (eint r) ∧ oo = lk []) := by
  refine fnOk_of Try.func117 rfl rfl (cw_post ?_)
  unfold view_place_1 at h
  refine cw_seq (cw_region (
    .cons (o_box 0 rfl rfl .no rfl rfl rfl) <|
    .cons (o_box 1 rfl rfl .no rfl rfl rfl) <|
    .cons (o_as rfl rfl .no rfl) <|
    .nil rfl
  ) ?_)
  obtain ⟨x1, hx2, h3⟩ := bind_some (x := bytes_Compare a0.1 a1) h
  refine cw_seq (cw_region_any mixed (by kernel_rfl) (
    .cons (o_fldP rfl rfl .no rfl fld59_0 (by decide)) <|
    .cons (o_slP rfl rfl .no rfl ar24 sz5 .no .no (by decide) (by decide) (by decide)) <|
    .cons (o_slP rfl rfl .no rfl ar24 sz5 .no .no (by decide) (by decide) (by decide)) <|
    .cons (o_call rfl rfl .no Try.func39 rfl rfl (bytes_Compare_ok hx2) (.cons rfl (.bsl [0] rfl rfl rfl) (.cons rfl (.bsl [] rfl rfl rfl) .nil)) ⟨trivial, trivial, trivial⟩ (.inr (DFlat.v _))) <|
    .cons (o_as rfl rfl .no rfl) <|
    .nil rfl
  ) (by kernel_rfl) ?_)
  have heq := ((Option.some.inj h3).symm).symm
  subst heq
  exact cw_ret ⟨_, (show Leads _ _ (St.of [(4, .d (eint x1))] []) from .w (weak_of ⟨⟨_, rfl, .d rfl⟩, trivial⟩ trivial drop0)), .inr rfl, _, res1 rfl rfl, rfl, rfl⟩

end
end Go.Val

