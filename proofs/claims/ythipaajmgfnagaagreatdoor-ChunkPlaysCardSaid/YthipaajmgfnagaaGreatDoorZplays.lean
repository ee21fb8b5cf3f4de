/- ChunkPlays: for every input it returns true,and its arguments read as they did; the listed variables are tied to the program's text. -/
import Derived.Test.YthipaajmgfnagaaGreatDoorU2
import Derived.Test.YthipaajmgfnagaaGreatDoorFc
import Derived.Test.YthipaajmgfnagaaGreatDoorTie
import Derived.Test.YthipaajmgfnagaaGreatDoorCards
import Derived.OpenShut
import Derived.LaidMore
import Derived.Lay
import Derived.SevenTiedAt
import Derived.Stop.Joined
set_option linter.unusedSectionVars false
set_option linter.unusedVariables false
set_option linter.unusedSimpArgs false
namespace Go.Proofs.YthipaajmgfnagaaGreatDoor
open Go.ChangeShapes Go.WideShapes Go.ChangeAt Go.RowKit Go.Val
set_option maxRecDepth 100000 in
theorem chunkPlays_lifted (os : Os) (started : os.Started) (H : Type) (enc : TypeId × Value → H) :
  ReturnsInHanded {} Tryz.checked os 8 .any (fun w args => (Rows.chunkPlaysSpec.pre enc Tryz.prog Tryz.f8 Rows.chunkPlaysRow.domain false w args ∧ laidMetH Tryz.prog Rows.chunkPlaysRow.laid w) ∧ sizedMet enc Tryz.prog Tryz.f8 (OpenSpec.ofChange Rows.chunkPlaysSpec) false w args)
   (Rows.chunkPlaysSpec.post enc Tryz.prog Tryz.f8 false true false false) := by
 refine returnsInHanded_of_change_and (C := Tryz.checked) (X := fun w _ => laidMetH Tryz.prog Rows.chunkPlaysRow.laid w) (fun _ _ _ hh h => h.of_heap hh) Tryz.ownK started (by kernel_rfl) Tryz.func8
  (ChangeSpec.witness_shaped (enc := enc) (C := Tryz.checked) (os := os) (X := fun w _ => laidMetH Tryz.prog Rows.chunkPlaysRow.laid w) false (World.laidAll Tryz.prog os Rows.chunkPlaysRow.laid) #[.slice none 0 0] 8 (World.laidAll_os _ _ _)
   (World.shaped_of_ZipB (by kernel_rfl) (by kernel_rfl)) (by kernel_rfl) (by kernel_rfl) (by kernel_rfl)
   (by rw [MakeChecks.laidMetH_plain _ _ _ (by kernel_rfl)]; exact laidMet_laidAll _ (by kernel_rfl) (by kernel_rfl))) ?_
 intro W base args ds gs before hval0 hW hcnd _ _ _
 have hval : ∀ (j : Nat) t v,Tryz.f8.params[j]? = some t → args[j]? = some v → Value.okWide Tryz.prog W .any base t v := hval0
 have hW' := hW
 have hlt := hW.lt
 obtain ⟨p,q,hA0,hV,rfl,hfz,hnd⟩ := hW
 have hA : DataW.TrodAll enc Tryz.prog W 0 (fun _ => true) true Tryz.f8.params.toList args.toList ds p := hA0
 rw [Tryz.params8] at hA hval
 obtain ⟨v0,d0,rfl,rfl,h0⟩ := trodAll_one hA
 obtain ⟨rfl,rfl⟩ := trodVars_none hV
 obtain ⟨a0,k0,ha0⟩ := arg_ops (hval 0 22 v0 rfl rfl) h0
 clear hA0 hval0
 simp only [List.append_nil] at hW' hlt
 refine (calls_true (vals := [v0]) (qn4 (chunkPlays_true a0 )) fun E hE hI => (VRs.cons_vr (ha0 E hE hI) .nil)).mono ?_
 rintro e W' ⟨rfl,hb⟩
 exact ⟨_,rfl,post_of_below hW' hb (fun _ _ _ => trodAll_mk1 (shut_bool Tryz.underlying4 true))
  (trodAll_mk1 (Below.trod Tryz.laidOutK (by kernel_rfl) (of_decide_eq_true (by kernel_rfl)) h0 hb hlt)) rfl⟩
theorem chunkPlays_row : Rows.ChunkPlaysSaid :=
 OpenClaim.holds_of_wide 8 Tryz.f8 rfl rfl rfl rfl rfl rfl rfl ⟨rfl,rfl,rfl,rfl,rfl⟩ rfl rfl rfl rfl rfl (by kernel_rfl) Tryz.func8 (by kernel_rfl)
  (of_decide_eq_true (by kernel_rfl)) (by unfold Func.isWrapper; first | (rw [if_pos (by decide +kernel)]; kernel_rfl) | (rw [if_neg (by decide +kernel)]; exact ⟨rfl,rfl⟩))
  (fun os started H enc _ => chunkPlays_lifted os started H enc)
theorem chunkPlays_holds : Rows.ChunkPlaysCardSaid :=
 Claim7.holds_tied_plain_at .later [] [.data,.pinned] true (true,"14a7773e844401c40b6c81e7f529dccd12cecd4900e38e3557b6a5d4d5546402") false chunkPlays_row (fun _ h => by cases h) (by kernel_rfl) (fun _ h => by cases h) chunkPlays_row_tie rfl ⟨rfl,rfl⟩ (by kernel_rfl) rfl
  (fun f fn hf hfn => by
   obtain rfl : f = 8 := Option.some.inj ((show Tryz.prog.funcNamed "wainscot/wainscotlaw13.ChunkPlays" = some 8 by kernel_rfl).symm.trans hf) |>.symm
   obtain rfl : fn = Tryz.f8 := (Option.some.inj (Tryz.func8.symm.trans hfn)).symm
   exact ⟨by kernel_rfl,fun j t ht => by
    rw [Tryz.params8] at ht
    have hm : t ∈ [22] := by simpa using Array.mem_of_getElem? ht
    have hall : ([22].all fun u => !Tryz.prog.wantsStandIn u) = true := by kernel_rfl
    exact (show Tryz.prog.wantsStandIn t = false by simpa using List.all_eq_true.1 hall t hm)⟩)
  (by kernel_rfl)
end Go.Proofs.YthipaajmgfnagaaGreatDoor
#print axioms Go.Proofs.YthipaajmgfnagaaGreatDoor.chunkPlays_holds
