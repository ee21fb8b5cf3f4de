/- strings.TrimRight and strings.Repeat,by the shelf's contracts. -/
import Derived.Test.YthipaajmgfnagaaGreatDoorSt
import Derived.Test.YthipaajmgfnagaaGreatDoorX1
import Derived.Test.YthipaajmgfnagaaGreatDoorLc
import Derived.Test.YthipaajmgfnagaaGreatDoorWa
import Derived.Shelf.Strings.Repeat
import Derived.Shelf.Strings.Trim
import Derived.KernelRfl
set_option linter.unusedSectionVars false
set_option linter.unusedVariables false
set_option linter.unusedSimpArgs false
namespace Go.Proofs
open Go.Shelf
theorem Tryz.extra105 : Builder.Extra Tryz.prog Tryz.lays105_ren where
 sizeBuilder := by kernel_rfl
 liesBuilder := by kernel_rfl
 t5 := Tryz.underlying5
 a5 := Tryz.isAgg5
 z5 := Tryz.sizeOf5
 v5 := Tryz.zeroValue5
 infoByte := by kernel_rfl
 cellsByte := by kernel_rfl
 sizeByte := by kernel_rfl
 neB5 := by decide
end Go.Proofs
namespace Go.Val
open Go.RowKit Go.Proofs
theorem vrs_sc {E : Env} : ∀ {xs vals : List Value},VRs E (xs.map fun x => .d (.v x)) vals → vals = xs
 | [],_,h => by cases h; rfl
 | x :: xs,_,h => by
  cases h with
  | cons h hs =>
   rw [vrs_sc hs]
   cases h with
   | d h => cases h with
    | v _ => rfl
theorem fnOk_sc [NoDrw] {P : Program} {f : FuncId} {xs : List Value} {y : Value} (hy : one y = true) (h : ∀ w,Calls P f xs.toArray w fun e w' => e = .returned y ∧ Below w.heap.size w w') :
  FnOk P f (xs.map fun x => .d (.v x)) 0 (lk []) (fun rr oo => rr = .d (.v y) ∧ oo = lk []) := by
 intro hk E vals hE hok hargs
 rw [vrs_sc hargs]
 refine (h E.w).mono ?_
 rintro e w' ⟨rfl,hb⟩
 have ho : ∀ o,E.obj o = none := fun o => by rw [hE]; rfl
 refine ⟨y,_,{ E with w := w' },rfl,rfl,⟨rfl,hE⟩,.of_sc hy,⟨fun o ob q => ?_,fun o o' b q => absurd (ho o) q⟩,fun o b q => absurd (ho o) q,⟨hb.os,hb.tape,hb.output,hb.size,fun b q _ => hb.block b q,fun d => absurd d NoDrw.no⟩,fun b q => .inl q,fun o ob q => ?_⟩
 ·have : E.obj o = some ob := q
  rw [ho o] at this; cases this
 ·rw [ho o] at q; cases q
noncomputable def strTrimR (a0 a1 : ByteArray) : Option ByteArray :=
 cond (decide (a1 = ByteArray.mk #[0] ∧ a0.size ≤ 9223372036854775807)) (some ⟨(Lib.trimRightB a0.data.toList 0).toArray⟩) none
noncomputable def qy3 (a0 : ByteArray) (a1 : Int) : Option ByteArray :=
 cond (decide (0 ≤ a1 ∧ a0.size * a1.toNat ≤ 140737488355328 ∧ a1 ≤ 9223372036854775807)) (some ⟨(Lib.repeatL a0.data.toList a1.toNat).toArray⟩) none
section
variable [NoDrw]
theorem strTrimR_ok {a0 a1 r : ByteArray} (h : strTrimR a0 a1 = some r) : FnOk Tryz.prog 61 [.d (eStr a0),.d (eStr a1)] 0 (lk []) (fun rr oo => rr = .d (eStr r) ∧ oo = lk []) := by
 unfold strTrimR at h
 rcases cdS h with ⟨hc,h9⟩ | ⟨_,h9⟩
 ·obtain ⟨rfl,hs⟩ := of_decide_eq_true hc
  have heq := (Option.some.inj h9).symm
  subst heq
  refine fnOk_sc (xs := [.string a0,.string ⟨#[0]⟩]) rfl fun w => ?_
  have hh := Any.strings_TrimRight_one Tryz.lays162 a0 0 (by decide) w hs
  change Calls Tryz.prog 61 _ _ _ at hh
  exact hh.mono fun e w' ⟨q1,q2⟩ => ⟨q1,by rw [q2]; exact Below.refl _ _⟩
 ·cases h9
theorem strRepeat_ok {a0 r : ByteArray} {a1 : Int} (h : qy3 a0 a1 = some r) : FnOk Tryz.prog 66 [.d (eStr a0),.d (eint a1)] 0 (lk []) (fun rr oo => rr = .d (eStr r) ∧ oo = lk []) := by
 unfold qy3 at h
 rcases cdS h with ⟨hc,h9⟩ | ⟨_,h9⟩
 ·obtain ⟨h0,h1,h2⟩ := of_decide_eq_true hc
  have heq := (Option.some.inj h9).symm
  subst heq
  refine fnOk_sc (xs := [.string a0,.int .i64 a1]) rfl fun w => ?_
  have hh := Any.strings_Repeat Tryz.lays105 Tryz.extra105 a0 a1.toNat w (by omega) h1
  rw [Int.toNat_of_nonneg h0] at hh
  change Calls Tryz.prog 66 _ _ _ at hh
  exact hh
 ·cases h9
end
end Go.Val
