/- The sort of spans,by the shelf's contract of it. -/
import Derived.Shelf.SlSortCmp.NoneTotal
import Derived.Test.YthipaajmgfnagaaGreatDoorSs
import Derived.Test.YthipaajmgfnagaaGreatDoorLc
import Derived.Test.YthipaajmgfnagaaGreatDoorWb
set_option linter.unusedSectionVars false
set_option linter.unusedVariables false
set_option linter.unusedSimpArgs false
namespace Go.Val
open Go.RowKit Go.Proofs Go.Sort Go.Shelf
theorem flatSP_eq (ss : List SP) : flatK qb3 49 ss.toArray = (ss.flatMap qb3).toArray := by
 refine ext_get! (by simp [qy2 qC3]) fun t ht => ?_
 have ht' : t < ss.length * 49 := by simpa using ht
 rw [get_flatK _ _ _ _ (by simpa using ht')]
 have h1 : t / 49 < ss.length := by omega
 have h2 : t % 49 < (qb3 (ss[t / 49])).length := by rw [qC3]; omega
 have e1 : (ss.flatMap qb3)[t]? = some ((qb3 ss[t / 49])[t % 49]) := by
  rw [flat_get qC3 (by omega),List.getElem?_eq_getElem h1]
  simp [h2]
 have e2 : (ss.flatMap qb3).toArray[t]! = (qb3 ss[t / 49])[t % 49] := by
  rw [getElem!_def,List.getElem?_toArray,e1]
 rw [e2]
 have e3 : ss.toArray[t / 49]! = ss[t / 49] := by
  rw [getElem!_def,List.getElem?_toArray,List.getElem?_eq_getElem h1]
 rw [e3,getElem!_def,List.getElem?_eq_getElem h2]
theorem sortS_none (W : World) : Calls Tryz.prog 104 #[.slice none 0 0,.func (.func 105) #[] #[]] W fun e w' => e = .returned (.tuple #[]) ∧ w' = W := by
 have h := AnyF.slices_SortFunc_none Tryz.sortS none 0 (.func (.func 105) #[] #[]) W
 change Calls Tryz.prog 104 _ _ _ at h
 exact h
theorem dr_SP (x : SP) (I : Nat → Prop) (w : World) : DR I w (eSp x.1) (qb3 x) := by
 have := spans_drs (I := I) (w := w) (es := eSp) (fun _ => rfl) [x]
 have h := DRs.of_single this
 simpa using h
theorem cmpS_lays (blk off size : Nat) (w : World) : CmpLays Tryz.prog 105 #[] qb3 49 cfSP blk off size w := by
 intro m os dk _ x y
 have h := calls_grow (@span_Clean_2_ok ⟨True⟩ x.1 y.1 _ rfl) (sortWorldK qb3 49 w blk off m dk os) (cx := qb3 x) (cy := qb3 y) (fun I w => dr_SP x I w) (fun I w => dr_SP y I w)
 exact h
theorem sortS_tot (W : World) (g cap : Nat) (ss : List SP) (hl : ss.length * 49 ≤ 140737488355328) (hH : Sort.Holds id W g 0 (ss.flatMap qb3).toArray) (hg : g < W.heap.size) : Calls Tryz.prog 104 #[.slice (some ⟨g,0,none⟩) ss.length cap,.func (.func 105) #[] #[]] W fun e w' =>
   e = .returned (.tuple #[]) ∧ ∃ q os,w' = Sort.grow (Sort.putRow id (Sort.ahead W q) g 0 ((qe5 ss).flatMap qb3).toArray) os := by
 have eg : ∀ args w,(callFunc 105 args).run Tryz.prog w = .ok (.enter 105 args) w := enters_of Tryz.func105 (by kernel_rfl) rfl
 have h := AnyQ.slices_SortFunc_eq Tryz.sortS 49 (Tryz.isAgg41) (Tryz.sizeOf41) qb3 qC3 (fun x v hv => by letI : Drw := ⟨True⟩; rw [one_eq]; exact encSP_one x v hv) cfSP swoSP 105 #[] g 0 cap ss.toArray W
  eg (cmpS_lays g 0 _ W) (by unfold HoldsK; rw [flatSP_eq]; exact hH) hg (by simp; omega)
 change Calls Tryz.prog 104 _ _ _ at h
 refine h.mono ?_
 rintro e w' ⟨rfl,n,os,rfl⟩
 refine ⟨rfl,n,os,?_⟩
 unfold sortWorldK putRowK
 have e1 : pdq (ltOf cfSP) ss.toArray 0 ss.toArray.size (Go.Lib.bitLen ss.toArray.size) true true = (qe5 ss).toArray := by
  show pdq ltSP ss.toArray 0 ss.length (Go.Lib.bitLen ss.length) true true = (qe5 ss).toArray
  unfold qe5
  simp
 rw [e1,flatSP_eq]
theorem sort104_ok [NoDrw] {xs : List Sp} (h : fits xs.length 49 = some ()) (u : Nat) : FnOk Tryz.prog 104 [.arr 0 u,.fn 105 [] []] 1 (lk [(0,.arr u 49 (List.map eSp xs))]) (fun rr oo => rr = .tup [] ∧ oo = lk [(0,.arr u 49 (List.map eSp (qF xs)))]) :=
 sort_spans_fn (fun _ => rfl) sortS_none (qt h) sortS_tot
end Go.Val
