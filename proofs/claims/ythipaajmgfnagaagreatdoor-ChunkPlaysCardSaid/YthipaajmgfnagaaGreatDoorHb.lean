/- The sort of keys,by the shelf's contract of it. -/
import Derived.Shelf.SlSortCmp.NoneTotal
import Derived.Test.YthipaajmgfnagaaGreatDoorSh
import Derived.Test.YthipaajmgfnagaaGreatDoorHa
import Derived.Test.YthipaajmgfnagaaGreatDoorWa
set_option linter.unusedSectionVars false
set_option linter.unusedVariables false
set_option linter.unusedSimpArgs false
namespace Go.Val
open Go.RowKit Go.Proofs Go.Sort Go.Shelf
theorem flatK_eq (ss : List K24) : flatK qL2 24 ss.toArray = (ss.flatMap qL2).toArray := by
 refine ext_get! (by simp [qy2 qx3]) fun t ht => ?_
 have ht' : t < ss.length * 24 := by simpa using ht
 rw [get_flatK _ _ _ _ (by simpa using ht')]
 have h1 : t / 24 < ss.length := by omega
 have h2 : t % 24 < (qL2 (ss[t / 24])).length := by rw [qx3]; omega
 have e1 : (ss.flatMap qL2)[t]? = some ((qL2 ss[t / 24])[t % 24]) := by
  rw [flat_get qx3 (by omega),List.getElem?_eq_getElem h1]
  simp [h2]
 have e2 : (ss.flatMap qL2).toArray[t]! = (qL2 ss[t / 24])[t % 24] := by
  rw [getElem!_def,List.getElem?_toArray,e1]
 rw [e2]
 have e3 : ss.toArray[t / 24]! = ss[t / 24] := by
  rw [getElem!_def,List.getElem?_toArray,List.getElem?_eq_getElem h1]
 rw [e3,getElem!_def,List.getElem?_eq_getElem h2]
theorem sort_none (W : World) : Calls Tryz.prog 131 #[.slice none 0 0,.func (.func 110) #[] #[]] W fun e w' => e = .returned (.tuple #[]) ∧ w' = W := by
 have h := AnyF.slices_SortFunc_none Tryz.sortK none 0 (.func (.func 110) #[] #[]) W
 change Calls Tryz.prog 131 _ _ _ at h
 exact h
theorem cmp_lays (blk off size : Nat) (w : World) : CmpLays Tryz.prog 110 #[] qL2 24 cf24 blk off size w := by
 intro m os dk _ x y
 have h := calls_grow (@delta_compare_ok ⟨True⟩ x.1 y.1 _ rfl) (sortWorldK qL2 24 w blk off m dk os) (cx := qL2 x) (cy := qL2 y) (fun I w => .bs x.2) (fun I w => .bs y.2)
 exact h
theorem sort_tot (W : World) (g cap : Nat) (ss : List K24) (hl : ss.length * 24 ≤ 140737488355328) (hH : Sort.Holds id W g 0 (ss.flatMap qL2).toArray) (hg : g < W.heap.size) : Calls Tryz.prog 131 #[.slice (some ⟨g,0,none⟩) ss.length cap,.func (.func 110) #[] #[]] W fun e w' =>
   e = .returned (.tuple #[]) ∧ ∃ q os,w' = Sort.grow (Sort.putRow id (Sort.ahead W q) g 0 ((srt24 ss).flatMap qL2).toArray) os := by
 have eg : ∀ args w,(callFunc 110 args).run Tryz.prog w = .ok (.enter 110 args) w := enters_of Tryz.func110 (by kernel_rfl) rfl
 have h := AnyQ.slices_SortFunc_total Tryz.sortK 24 (Tryz.isAgg39) (Tryz.sizeOf39) qL2 qx3 (fun x v hv => by obtain ⟨b,_,rfl⟩ := List.mem_map.1 hv; rfl) cf24 ⟨cf24_irrefl,cf24_trans,cf24_ntrans⟩ 110 #[] g 0 cap ss.toArray W
  eg (cmp_lays g 0 _ W) (by unfold HoldsK; rw [flatK_eq]; exact hH) hg (by simp; omega) cf24_total
 change Calls Tryz.prog 131 _ _ _ at h
 refine h.mono ?_
 rintro e w' ⟨rfl,n,os,rfl⟩
 refine ⟨rfl,n,os,?_⟩
 unfold sortWorldK putRowK
 rw [flatK_eq]
 rfl
section
variable [NoDrw]
theorem sorted132_ok {β : Type} {ev : β → D} {m : List (List UInt8 × β)} (u : Nat) (hsz : m.length * 24 ≤ 140737488355328) :
  FnOk Tryz.prog 108 [.fn 132 [] [.ptr 1 0],.fn 110 [] []] 2 (lk [(0,.map u (mD eK ev m)),(1,.box (.map 0))])
   (fun rr oo => rr = .d (eSapiKey (qp (m.map (·.1)))) ∧ oo = lk [(0,.map u (mD eK ev m)),(1,.box (.map 0))]) :=
 sorted_fn (kt := 39) u hsz (sort_chain eg132 seq132 sort_none sort_tot)
theorem sorted137_ok {β : Type} {ev : β → D} {m : List (List UInt8 × β)} (u : Nat) (hsz : m.length * 24 ≤ 140737488355328) :
  FnOk Tryz.prog 108 [.fn 137 [] [.ptr 1 0],.fn 110 [] []] 2 (lk [(0,.map u (mD eK ev m)),(1,.box (.map 0))])
   (fun rr oo => rr = .d (eSapiKey (qp (m.map (·.1)))) ∧ oo = lk [(0,.map u (mD eK ev m)),(1,.box (.map 0))]) :=
 sorted_fn (kt := 39) u hsz (sort_chain eg137 seq137 sort_none sort_tot)
set_option maxRecDepth 100000 in
theorem keys109_ok {κ β : Type} {ek : κ → D} {ev : β → D} {m : List (κ × β)} (u0 : Nat) : FnOk Tryz.prog 109 [.map 0] 1 (lk [(0,.map u0 (mD ek ev m))]) (fun rr oo => rr = .fn 132 [] [.ptr 1 0] ∧ oo = lk [(0,.map u0 (mD ek ev m)),(1,.box (.map 0))]) := by
 refine fnO Tryz.func109 rfl rfl ?_
 refine cwS (cwR (.cons (qy1 1 rfl rfl .no rfl rfl rfl) <| .cons (o_as rfl rfl .no rfl) <| .nil rfl) ?_)
 refine cwS (cwR (.cons (o_fn1 rfl rfl .no rfl) <| .cons (o_as rfl rfl .no rfl) <| .nil rfl) ?_)
 exact cwW (wkF (l := [(2,.fn 132 [] [.ptr 1 0])]) (m := [(0,.map u0 (mD ek ev m)),(1,.box (.map 0))]) ⟨⟨_,rfl,.fn .nil (.cons (.ptr rfl rfl) .nil)⟩,trivial⟩ ⟨.map rfl rfl,.box rfl (.map rfl rfl),trivial⟩ (qq rfl)) (qe ⟨.inr rfl,_,res1 rfl rfl,rfl,rfl⟩)
set_option maxRecDepth 100000 in
theorem keys113_ok {κ β : Type} {ek : κ → D} {ev : β → D} {m : List (κ × β)} (u0 : Nat) : FnOk Tryz.prog 113 [.map 0] 1 (lk [(0,.map u0 (mD ek ev m))]) (fun rr oo => rr = .fn 137 [] [.ptr 1 0] ∧ oo = lk [(0,.map u0 (mD ek ev m)),(1,.box (.map 0))]) := by
 refine fnO Tryz.func113 rfl rfl ?_
 refine cwS (cwR (.cons (qy1 1 rfl rfl .no rfl rfl rfl) <| .cons (o_as rfl rfl .no rfl) <| .nil rfl) ?_)
 refine cwS (cwR (.cons (o_fn1 rfl rfl .no rfl) <| .cons (o_as rfl rfl .no rfl) <| .nil rfl) ?_)
 exact cwW (wkF (l := [(2,.fn 137 [] [.ptr 1 0])]) (m := [(0,.map u0 (mD ek ev m)),(1,.box (.map 0))]) ⟨⟨_,rfl,.fn .nil (.cons (.ptr rfl rfl) .nil)⟩,trivial⟩ ⟨.map rfl rfl,.box rfl (.map rfl rfl),trivial⟩ (qq rfl)) (qe ⟨.inr rfl,_,res1 rfl rfl,rfl,rfl⟩)
end
end Go.Val
