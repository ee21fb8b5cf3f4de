/- slices.SortedFunc(maps.Keys(m),compare),by the sort's contract: at the world's level. -/
import Derived.Test.YthipaajmgfnagaaGreatDoorLc
import Derived.Test.YthipaajmgfnagaaGreatDoorProg
import Derived.KernelRfl
import Derived.Shelf.Abstract
set_option linter.unusedSectionVars false
set_option linter.unusedVariables false
set_option linter.unusedSimpArgs false
namespace Go.Val
open Go.RowKit Go.Proofs
variable [Drw]
def zero27 : Array Value := (List.replicate 24 (Value.int .u8 0)).toArray
theorem eg132 : ∀ args w,(callFunc 132 args).run Tryz.prog w = .ok (.enter 132 args) w := Go.Proofs.enters_of Tryz.func132 (by kernel_rfl) rfl
theorem eg137 : ∀ args w,(callFunc 137 args).run Tryz.prog w = .ok (.enter 137 args) w := Go.Proofs.enters_of Tryz.func137 (by kernel_rfl) rfl
theorem enc24_one (x : K24) : (qL2 x).length = 24 ∧ ∀ v ∈ qL2 x,one v = true := by
 refine ⟨qx3 x,fun v hv => ?_⟩
 obtain ⟨b,_,rfl⟩ := List.mem_map.1 hv
 rfl
theorem sort_chain {fi : FuncId} (eg : ∀ args w,(callFunc fi args).run Tryz.prog w = .ok (.enter fi args) w)
  (hseq : ∀ (Bm b clock : Nat) (es : Array MapEntry) (w : World),Bm < w.heap.size → CellsAt w Bm 0 [.map (some b)] → w.heap[b]? = some (.map es clock) → (es.toList.map (·.born)).Nodup → (∀ e ∈ es.toList,e.born < clock) →
   (∀ e ∈ es.toList,∃ x : K24,Value.agg (qL2 x).toArray = e.key) → SeqGives Fence.wide 0 Tryz.prog fi #[.pointer (some ⟨Bm,0,none⟩)] (fun x : K24 => Value.agg (qL2 x).toArray) (fun ss => (ss.map fun x => Value.agg (qL2 x).toArray).Perm (es.toList.map (·.key))) es.size w)
  (hnone : ∀ W,Calls Tryz.prog 131 #[.slice none 0 0,.func (.func 110) #[] #[]] W fun e w' => e = .returned (.tuple #[]) ∧ w' = W)
  (htot : ∀ (W : World) (g cap : Nat) (ss : List K24),ss.length * 24 ≤ 140737488355328 → Sort.Holds id W g 0 (ss.flatMap qL2).toArray → g < W.heap.size → Calls Tryz.prog 131 #[.slice (some ⟨g,0,none⟩) ss.length cap,.func (.func 110) #[] #[]] W fun e w' =>
   e = .returned (.tuple #[]) ∧ ∃ q os,w' = Sort.grow (Sort.putRow id (Sort.ahead W q) g 0 ((srt24 ss).flatMap qL2).toArray) os)
  (Bm b clock : Nat) (es : Array MapEntry) (w : World) (h1 : Bm < w.heap.size) (h2 : CellsAt w Bm 0 [.map (some b)]) (h3 : w.heap[b]? = some (.map es clock)) (h4 : (es.toList.map (·.born)).Nodup) (h5 : ∀ e ∈ es.toList,e.born < clock)
  (h6 : ∀ e ∈ es.toList,∃ x : K24,Value.agg (qL2 x).toArray = e.key) (h7 : es.size * 24 ≤ 140737488355328) :
  Calls Tryz.prog 108 #[.func (.func fi) #[] #[.pointer (some ⟨Bm,0,none⟩)],.func (.func 110) #[] #[]] w fun e w' => ∃ v ss,e = .returned v ∧ (ss.map fun x => Value.agg (qL2 x).toArray).Perm (es.toList.map (·.key)) ∧
   RowAt w.heap.size 24 39 v ((srt24 ss).flatMap qL2) ss.length w' ∧ Below w.heap.size w w' := by
 have hS := hseq Bm b clock es w h1 h2 h3 h4 h5 h6
 have hA := append_seq (n := 0) (N := es.size) Tryz.func157 rfl rfl rfl (st := 167) (kt := 39) (k := 24) (bs := 24) (z := zero27) (zd := .bs 24 (List.replicate 24 0))
  ⟨by kernel_rfl,by kernel_rfl⟩ (by kernel_rfl) ⟨by kernel_rfl,by kernel_rfl⟩ (by kernel_rfl) (by kernel_rfl) (by rfl) (Zero.of _ (fun _ _ => .bs rfl) (by kernel_rfl)) rfl (by omega) (by omega) enc24_one eg h7 hS
 have hC := collect (n := 0) Tryz.func130 rfl rfl rfl Tryz.func157 (by kernel_rfl) rfl hA
 refine callsIn_wide.1 (sorted_func (n := 0) (srt := srt24) (enc := qL2) (k := 24) (kt := 39) (S := fun ss => (ss.map fun x => Value.agg (qL2 x).toArray).Perm (es.toList.map (·.key))) Tryz.func108 rfl rfl rfl Tryz.func130 (by kernel_rfl) rfl Tryz.func131 (by kernel_rfl) rfl hC ?_)
 refine sort_row qx3 srt24_len (N := es.size) (fun ss hs => ?_) hnone (fun W g cap ss hs => htot W g cap ss ?_)
 ·have := hs.length_eq
  simp at this
  omega
 ·have := hs.length_eq
  simp at this
  omega
theorem seq132 (Bm b clock : Nat) (es : Array MapEntry) (w : World) (h1 : Bm < w.heap.size) (h2 : CellsAt w Bm 0 [.map (some b)]) (h3 : w.heap[b]? = some (.map es clock)) (h4 : (es.toList.map (·.born)).Nodup) (h5 : ∀ e ∈ es.toList,e.born < clock)
  (h6 : ∀ e ∈ es.toList,∃ x : K24,Value.agg (qL2 x).toArray = e.key) : SeqGives Fence.wide 0 Tryz.prog 132 #[.pointer (some ⟨Bm,0,none⟩)] (fun x : K24 => Value.agg (qL2 x).toArray) (fun ss => (ss.map fun x => Value.agg (qL2 x).toArray).Perm (es.toList.map (·.key))) es.size w :=
 keys_gives (vt := 9) (k := 24) (z := zero27) Tryz.func132 rfl rfl rfl (by kernel_rfl) ⟨by kernel_rfl,by kernel_rfl⟩ ⟨by kernel_rfl,by kernel_rfl⟩ (by kernel_rfl) rfl enc24_one h1 h2 h3 h4 h5 h6
theorem seq137 (Bm b clock : Nat) (es : Array MapEntry) (w : World) (h1 : Bm < w.heap.size) (h2 : CellsAt w Bm 0 [.map (some b)]) (h3 : w.heap[b]? = some (.map es clock)) (h4 : (es.toList.map (·.born)).Nodup) (h5 : ∀ e ∈ es.toList,e.born < clock)
  (h6 : ∀ e ∈ es.toList,∃ x : K24,Value.agg (qL2 x).toArray = e.key) : SeqGives Fence.wide 0 Tryz.prog 137 #[.pointer (some ⟨Bm,0,none⟩)] (fun x : K24 => Value.agg (qL2 x).toArray) (fun ss => (ss.map fun x => Value.agg (qL2 x).toArray).Perm (es.toList.map (·.key))) es.size w :=
 keys_gives (vt := 88) (k := 24) (z := zero27) Tryz.func137 rfl rfl rfl (by kernel_rfl) ⟨by kernel_rfl,by kernel_rfl⟩ ⟨by kernel_rfl,by kernel_rfl⟩ (by kernel_rfl) rfl enc24_one h1 h2 h3 h4 h5 h6
end Go.Val
