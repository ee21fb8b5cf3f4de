/- Walks of the program's functions, printed. -/
import Derived.Test.YtlcnkhphgekmeaaVz
import Derived.Test.YtlcnkhphgekmeaaProg
import Derived.KernelRfl
set_option linter.unusedSectionVars false
set_option linter.unusedVariables false
set_option linter.unusedSimpArgs false
namespace Go.Val
open Go.RowKit Go.Proofs

def eint : Int → D := fun n => .v (.int .i64 n)
def eapiKey : (List UInt8) → D := fun l => .bs 24 l
def ebool : Bool → D := fun b => .v (.bool b)
def estring : ByteArray → D := fun b => .v (.string b)
def eapiPair : ((List UInt8) × ByteArray) → D := fun p => .st [eapiKey p.1, estring p.2]
def eSapiPair : (List ((List UInt8) × ByteArray)) → D := fun xs => .sl 25 (xs.map eapiPair)
def eSapiKey : (List (List UInt8)) → D := fun xs => .sl 24 (xs.map eapiKey)
def eapiChange : ((List UInt8) × ByteArray × Bool) → D := fun p => .st [eapiKey p.1, estring p.2.1, ebool p.2.2]
def eSapiChange : (List ((List UInt8) × ByteArray × Bool)) → D := fun xs => .sl 26 (xs.map eapiChange)
def eSSapiChange : (List (List ((List UInt8) × ByteArray × Bool))) → D := fun xs => .sl 1 (xs.map eSapiChange)
def euint8 : Int → D := fun n => .v (.int .u8 n)

section
variable [Drw]

theorem mixed : Try.prog.follows .mixedOrders = true := by kernel_rfl
theorem cf54 : ∀ args w v, (Extern.BytealgCompare.compare args).run Try.prog w = .ok v w → (callFunc 54 args).run Try.prog w = .ok (.value v) w := callFunc_ext Try.func54 rfl rfl (by kernel_rfl) (by kernel_rfl)
theorem ar27 : arB Try.prog 27 = some (24, 5) := by kernel_rfl
theorem sz5 : szB Try.prog 5 = some 1 := by kernel_rfl
theorem sl56 : slB Try.prog 56 = some 5 := by kernel_rfl
theorem un5 : Try.prog.underlying 5 = some (.int .u8) := by kernel_rfl
theorem un9 : Try.prog.underlying 9 = some .string := by kernel_rfl
theorem sl22 : slB Try.prog 22 = some 29 := by kernel_rfl
theorem sz29 : szB Try.prog 29 = some 25 := by kernel_rfl
theorem fld29_0 : fldB Try.prog 29 0 = some (0, 24) := by kernel_rfl
theorem ta27 : TA Try.prog 27 true 24 := ⟨by kernel_rfl, by kernel_rfl⟩
theorem eg27 : Program.eqGuardType Try.prog (Program.depth Try.prog) 27 = false := by kernel_rfl
theorem fld29_1 : fldB Try.prog 29 1 = some (24, 1) := by kernel_rfl
theorem ta9 : TA Try.prog 9 false 1 := ⟨by kernel_rfl, by kernel_rfl⟩
theorem ta29 : TA Try.prog 29 true 25 := ⟨by kernel_rfl, by kernel_rfl⟩
theorem flds29 : fldsB Try.prog 29 = some [(0, 27), (24, 9)] := by kernel_rfl
theorem eg29 : Program.eqGuardType Try.prog (Program.depth Try.prog) 29 = false := by kernel_rfl
theorem sl40 : slB Try.prog 40 = some 27 := by kernel_rfl
theorem sz27 : szB Try.prog 27 = some 24 := by kernel_rfl
theorem sl34 : slB Try.prog 34 = some 38 := by kernel_rfl
theorem sz38 : szB Try.prog 38 = some 26 := by kernel_rfl
theorem ta38 : TA Try.prog 38 true 26 := ⟨by kernel_rfl, by kernel_rfl⟩
theorem un4 : Try.prog.underlying 4 = some .bool := by kernel_rfl
theorem ta4 : TA Try.prog 4 false 1 := ⟨by kernel_rfl, by kernel_rfl⟩
theorem flds38 : fldsB Try.prog 38 = some [(0, 27), (24, 9), (25, 4)] := by kernel_rfl
theorem eg38 : Program.eqGuardType Try.prog (Program.depth Try.prog) 38 = false := by kernel_rfl
theorem ze29 : Zero Try.prog 29 (eapiPair ((List.replicate 24 0), (ByteArray.mk #[]))) := Zero.of _ (fun _ _ => .st (.cons (.bs rfl) (.cons (.v rfl) (.nil)))) (by kernel_rfl)
theorem siapiPair : ∀ x, (eapiPair x).size = 25 := fun _ => rfl
theorem by29 : bytesB Try.prog 29 = some 40 := by kernel_rfl
theorem fld38_2 : fldB Try.prog 38 2 = some (25, 1) := by kernel_rfl
theorem fld38_1 : fldB Try.prog 38 1 = some (24, 1) := by kernel_rfl
theorem sz9 : szB Try.prog 9 = some 1 := by kernel_rfl
theorem fld38_0 : fldB Try.prog 38 0 = some (0, 24) := by kernel_rfl
theorem ze38 : Zero Try.prog 38 (eapiChange ((List.replicate 24 0), (ByteArray.mk #[]), false)) := Zero.of _ (fun _ _ => .st (.cons (.bs rfl) (.cons (.v rfl) (.cons (.v rfl) (.nil))))) (by kernel_rfl)
theorem siapiChange : ∀ x, (eapiChange x).size = 26 := fun _ => rfl
theorem by38 : bytesB Try.prog 38 = some 48 := by kernel_rfl
theorem zs29 : Zero Try.prog 29 (.st [eapiKey (List.replicate 24 0), estring (ByteArray.mk #[])]) := ze29
theorem pl29 : placesB Try.prog 29 = some [(0, 24), (24, 1)] := by kernel_rfl
theorem zs38 : Zero Try.prog 38 (.st [eapiKey (List.replicate 24 0), estring (ByteArray.mk #[]), ebool false]) := ze38
theorem pl38 : placesB Try.prog 38 = some [(0, 24), (24, 1), (25, 1)] := by kernel_rfl
theorem sl49 : slB Try.prog 49 = some 34 := by kernel_rfl
theorem sz34 : szB Try.prog 34 = some 1 := by kernel_rfl
theorem ta34 : TA Try.prog 34 false 1 := ⟨by kernel_rfl, by kernel_rfl⟩
theorem ze27 : Zero Try.prog 27 (eapiKey (List.replicate 24 0)) := Zero.of _ (fun _ _ => .bs rfl) (by kernel_rfl)
theorem siapiKey : ∀ x, (eapiKey x).size = 24 := fun _ => rfl
theorem by27 : bytesB Try.prog 27 = some 24 := by kernel_rfl
theorem mp54 : mpB Try.prog 54 = some (27, 9) := by kernel_rfl
theorem kl27 : KL Try.prog 27 eapiKey := KL.bytes ar27 un5 sz5
theorem ze9 : Zero Try.prog 9 (estring (ByteArray.mk #[])) := Zero.of _ (fun _ _ => .v rfl) (by kernel_rfl)
theorem mp59 : mpB Try.prog 59 = some (27, 38) := by kernel_rfl
theorem ze34 : Zero Try.prog 34 (eSapiChange ([])) := Zero.of _ (fun _ _ => (.sl0 (a := none) (cap := 0))) (by kernel_rfl)
theorem siSapiChange : ∀ x, (eSapiChange x).size = 1 := fun _ => rfl
end

section
variable [Drw]

noncomputable def bytes_Compare (a0 : List UInt8) (a1 : List UInt8) : Option Int :=
  some (Lib.compareBytes a0 a1)

noncomputable def delta_compare (a0 : List UInt8) (a1 : List UInt8) : Option Int :=
  (bytes_Compare a0 a1).bind fun x1 =>
  some x1

set_option maxRecDepth 100000 in
theorem bytes_Compare_ok {a0 : List UInt8} {a1 : List UInt8} {r : Int} (h : bytes_Compare a0 a1 = some r) : FnOk Try.prog 49 [.d (bytesD a0), .d (bytesD a1)] 0 (lk []) (fun rr oo => rr = .d (eint r) ∧ oo = lk []) := by
  refine fnOk_of Try.func49 rfl rfl ?_
  unfold bytes_Compare at h
  refine cw_seq (cw_region (
    .cons (o_as rfl rfl .no rfl) <|
    .nil rfl
  ) ?_)
  refine cw_seq (cw_region (
    .cons (o_mv rfl rfl .no rfl) <|
    .cons (o_mv rfl rfl .no rfl) <|
    .cons (o_bcmp (a := a0) (b := a1) rfl rfl .no cf54 rfl rfl) <|
    .cons (o_as rfl rfl .no rfl) <|
    .nil rfl
  ) ?_)
  have heq := ((Option.some.inj h).symm).symm
  subst heq
  exact cw_weak (weak_of (l := [(4, .d (eint (Lib.compareBytes a0 a1)))]) (m := []) ⟨⟨_, rfl, .d rfl⟩, trivial⟩ trivial drop0) (cw_ret ⟨.inr rfl, _, res1 rfl rfl, rfl, rfl⟩)

set_option maxRecDepth 100000 in
theorem delta_compare_ok {a0 : List UInt8} {a1 : List UInt8} {r : Int} (h : delta_compare a0 a1 = some r) : FnOk Try.prog 42 [.d (eapiKey a0), .d (eapiKey a1)] 0 (lk []) (fun rr oo => rr = .d (eint r) ∧ oo = lk []) := by
  refine fnOk_of Try.func42 rfl rfl ?_
  unfold delta_compare at h
  refine cw_seq (cw_region (
    .cons (o_box 0 rfl rfl .no rfl rfl rfl) <|
    .cons (o_box 1 rfl rfl .no rfl rfl rfl) <|
    .cons (o_as rfl rfl .no rfl) <|
    .nil rfl
  ) ?_)
  obtain ⟨x1, hx2, h3⟩ := bind_some h
  refine cw_seq (cw_region_any mixed (by kernel_rfl) (
    .cons (o_slP rfl rfl .no rfl ar27 sz5 .no .no (by decide) (by decide) (by decide)) <|
    .cons (o_slP rfl rfl .no rfl ar27 sz5 .no .no (by decide) (by decide) (by decide)) <|
    .cons (o_call rfl rfl .no Try.func49 rfl rfl (bytes_Compare_ok hx2) (.cons rfl (.bsl [] rfl rfl rfl) (.cons rfl (.bsl [] rfl rfl rfl) .nil)) ⟨trivial, trivial, trivial⟩ (.inr (DFlat.v _))) <|
    .cons (o_as rfl rfl .no rfl) <|
    .nil rfl
  ) (by kernel_rfl) ?_)
  have heq := ((Option.some.inj h3).symm).symm
  subst heq
  exact cw_weak (weak_of (l := [(4, .d (eint x1))]) (m := []) ⟨⟨_, rfl, .d rfl⟩, trivial⟩ trivial drop0) (cw_ret ⟨.inr rfl, _, res1 rfl rfl, rfl, rfl⟩)

end
end Go.Val
