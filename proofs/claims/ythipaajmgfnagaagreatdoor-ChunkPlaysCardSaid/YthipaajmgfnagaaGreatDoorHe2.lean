/- maps.Values,slices.Collect of it,and maps.Clone out of and into a datum,by their contracts. -/
import Derived.Test.YthipaajmgfnagaaGreatDoorLd
import Derived.Test.YthipaajmgfnagaaGreatDoorHc2
set_option linter.unusedSectionVars false
set_option linter.unusedVariables false
set_option linter.unusedSimpArgs false
namespace Go.Val
open Go.RowKit Go.Proofs
section
variable [NoDrw]
set_option maxRecDepth 100000 in
theorem values43_ok {κ β : Type} {ek : κ → D} {ev : β → D} {m : List (κ × β)} (u0 : Nat) : FnOk Tryz.prog 43 [.map 0] 1 (lk [(0,.map u0 (mD ek ev m))]) (fun rr oo => rr = .fn 76 [] [.ptr 1 0] ∧ oo = lk [(0,.map u0 (mD ek ev m)),(1,.box (.map 0))]) := by
 refine fnO Tryz.func43 rfl rfl ?_
 refine cwS (cwR (.cons (qy1 1 rfl rfl .no rfl rfl rfl) <| .cons (o_as rfl rfl .no rfl) <| .nil rfl) ?_)
 refine cwS (cwR (.cons (o_fn1 rfl rfl .no rfl) <| .cons (o_as rfl rfl .no rfl) <| .nil rfl) ?_)
 exact cwW (wkF (l := [(2,.fn 76 [] [.ptr 1 0])]) (m := [(0,.map u0 (mD ek ev m)),(1,.box (.map 0))]) ⟨⟨_,rfl,.fn .nil (.cons (.ptr rfl rfl) .nil)⟩,trivial⟩ ⟨.map rfl rfl,.box rfl (.map rfl rfl),trivial⟩ (qq rfl)) (qe ⟨.inr rfl,_,res1 rfl rfl,rfl,rfl⟩)
theorem eg76 : ∀ args w,(callFunc 76 args).run Tryz.prog w = .ok (.enter 76 args) w := Go.Proofs.enters_of Tryz.func76 (by kernel_rfl) rfl
theorem collect_chain (Bm b clock : Nat) (es : Array MapEntry) (w : World) (h1 : Bm < w.heap.size) (h2 : CellsAt w Bm 0 [.map (some b)]) (h3 : w.heap[b]? = some (.map es clock)) (h4 : (es.toList.map (·.born)).Nodup) (h5 : ∀ e ∈ es.toList,e.born < clock)
  (h6 : ∀ e ∈ es.toList,∃ x : CH,Value.agg (qb5 x).toArray = e.val) (h7 : es.size * 48 ≤ 140737488355328) :
  Calls Tryz.prog 42 #[.func (.func 76) #[] #[.pointer (some ⟨Bm,0,none⟩)]] w fun e w' => ∃ v,∃ ss : List CH,e = .returned v ∧ (ss.map fun x => Value.agg (qb5 x).toArray).Perm (es.toList.map (·.val)) ∧
   RowAt w.heap.size 26 88 v (ss.flatMap qb5) ss.length w' ∧ Below w.heap.size w w' := by
 have hS : SeqGives Fence.wide 0 Tryz.prog 76 #[.pointer (some ⟨Bm,0,none⟩)] (fun x : CH => Value.agg (qb5 x).toArray) (fun ss => (ss.map fun x => Value.agg (qb5 x).toArray).Perm (es.toList.map (·.val))) es.size w :=
  values_gives (kk := 39) (k := 26) (z := zero71.toArray) Tryz.func76 rfl rfl rfl (by kernel_rfl) ⟨by kernel_rfl,by kernel_rfl⟩ ⟨by kernel_rfl,by kernel_rfl⟩ (by kernel_rfl) rfl encCH_one h1 h2 h3 h4 h5 h6
 have hA := append_seq (n := 0) (N := es.size) Tryz.func75 rfl rfl rfl (st := 49) (kt := 88) (k := 26) (bs := 48) (z := zero71.toArray) (zd := .st [.bs 24 (List.replicate 24 0),.v (.string (ByteArray.mk #[])),.v (.bool false)])
  ⟨by kernel_rfl,by kernel_rfl⟩ (by kernel_rfl) ⟨by kernel_rfl,by kernel_rfl⟩ (by kernel_rfl) (by kernel_rfl) (by rfl) (Zero.of _ (fun _ _ => .st (.cons (.bs rfl) (.cons (.v rfl) (.cons (.v rfl) .nil)))) (by kernel_rfl)) rfl (by omega) (by omega) encCH_one eg76 h7 hS
 exact callsIn_wide.1 (collect (n := 0) Tryz.func42 rfl rfl rfl Tryz.func75 (by kernel_rfl) rfl hA)
theorem collect42_ok {κ : Type} {ek : κ → D} {m : List (κ × Ch)} (u : Nat) (hsz : m.length * 48 ≤ 140737488355328) :
  FnOk Tryz.prog 42 [.fn 76 [] [.ptr 1 0]] 2 (lk [(0,.map u (mD ek eCg m)),(1,.box (.map 0))])
   (fun rr oo => ∃ l : List (κ × Ch),l.Perm m ∧ rr = .d (eSC (l.map fun p => p.2)) ∧ oo = lk [(0,.map u (mD ek eCg m)),(1,.box (.map 0))]) := by
 have h := values_fn (f := 42) (fi := 76) (kt := 88) (ek := ek) (ec := eCg) (m := m) (fun _ => rfl) u hsz collect_chain
 have e : ∀ l : List (κ × Ch),eSC (l.map fun p => p.2) = .sl 26 (l.map fun p => eCg p.2) := fun l => by simp [eSC,List.map_map,Function.comp_def]
 simpa only [e] using h
end
end Go.Val
