/- ChunkBytes: for every input it returns true, and its arguments read as they did; the listed variables are tied to the program's text. -/
import Derived.Test.YthipaajmgfnagaaGreatDoorUn
import Derived.Test.YthipaajmgfnagaaGreatDoorFc
import Derived.Test.YthipaajmgfnagaaGreatDoorTie
import Derived.Test.YthipaajmgfnagaaGreatDoorCards
import Derived.OpenShut
import Derived.LaidMore
import Derived.Lay
import Derived.SevenTiedAt
import Derived.Stop.Joined
set_option linter.unusedSectionVars false
set_option linter.unusedVariables false
set_option linter.unusedSimpArgs false
namespace Go.Proofs.YthipaajmgfnagaaGreatDoor
open Go.ChangeShapes Go.WideShapes Go.ChangeAt Go.RowKit Go.Val

set_option maxRecDepth 100000 in
theorem chunkBytes_lifted (os : Os) (started : os.Started) (H : Type) (enc : TypeId × Value → H) :
    ReturnsInHanded {} Tryz.checked os 3 .any (fun w args => (Rows.chunkBytesSpec.pre enc Tryz.prog Tryz.f3 Rows.chunkBytesRow.domain false w args ∧ laidMetH Tryz.prog Rows.chunkBytesRow.laid w) ∧ sizedMet enc Tryz.prog Tryz.f3 (OpenSpec.ofChange Rows.chunkBytesSpec) false w args)
      (Rows.chunkBytesSpec.post enc Tryz.prog Tryz.f3 false true false false) := by
  refine returnsInHanded_of_change_and (C := Tryz.checked) (X := fun w _ => laidMetH Tryz.prog Rows.chunkBytesRow.laid w) (fun _ _ _ hh h => h.of_heap hh) Tryz.ownK started (by kernel_rfl) Tryz.func3
    (ChangeSpec.witness_shaped (enc := enc) (C := Tryz.checked) (os := os) (X := fun w _ => laidMetH Tryz.prog Rows.chunkBytesRow.laid w) false (World.laidAll Tryz.prog os Rows.chunkBytesRow.laid) #[.slice none 0 0, .int .i64 0, .int .i64 0] 8 (World.laidAll_os _ _ _)
      (World.shaped_of_ZipB (by kernel_rfl) (by kernel_rfl)) (by kernel_rfl) (by kernel_rfl) (by kernel_rfl)
      (by rw [MakeChecks.laidMetH_plain _ _ _ (by kernel_rfl)]; exact laidMet_laidAll _ (by kernel_rfl) (by kernel_rfl))) ?_
  intro W base args ds gs before hval0 hW hcnd _ _ _
  have hval : ∀ (j : Nat) t v, Tryz.f3.params[j]? = some t → args[j]? = some v → Value.okWide Tryz.prog W .any base t v := hval0
  have hW' := hW
  have hlt := hW.lt
  obtain ⟨p, q, hA0, hV, rfl, hfz, hnd⟩ := hW
  have hA : DataW.TrodAll enc Tryz.prog W 0 (fun _ => true) true Tryz.f3.params.toList args.toList ds p := hA0
  rw [Tryz.params3] at hA hval
  obtain ⟨v0, v1, v2, d0, d1, d2, p0, p1, p2, rfl, rfl, rfl, h0, h1, h2⟩ := trodAll_three hA
  obtain ⟨rfl, rfl⟩ := trodVars_none hV
  obtain ⟨a0, k0, ha0⟩ := arg_ops (hval 0 22 v0 rfl rfl) h0
  obtain ⟨a1, k1, ha1⟩ := arg_int (hval 1 3 v1 rfl rfl) h1
  obtain ⟨a2, k2, ha2⟩ := arg_int (hval 2 3 v2 rfl rfl) h2
  clear hA0 hval0
  simp only [List.append_nil] at hW' hlt
  refine (calls_true (vals := [v0, v1, v2]) (law13_ChunkBytes_ok (chunkBytes_true a0 a1 a2 )) fun E hE hI => (VRs.cons_vr (ha0 E hE hI) (VRs.cons_vr (ha1 E hE hI) (VRs.cons_vr (ha2 E hE hI) .nil)))).mono ?_
  rintro e W' ⟨rfl, hb⟩
  exact ⟨_, rfl, post_of_below hW' hb (fun _ _ _ => trodAll_mk1 (shut_bool Tryz.underlying4 true))
    (trodAll_mkc (Below.trod Tryz.laidOutK (by kernel_rfl) (of_decide_eq_true (by kernel_rfl)) h0 hb (fun x hx => hlt x (by simp [hx]))) (trodAll_mkc (Below.trod Tryz.laidOutK (by kernel_rfl) (of_decide_eq_true (by kernel_rfl)) h1 hb (fun x hx => hlt x (by simp [hx]))) (trodAll_mkc (Below.trod Tryz.laidOutK (by kernel_rfl) (of_decide_eq_true (by kernel_rfl)) h2 hb (fun x hx => hlt x (by simp [hx]))) trodAll_nil_mk))) rfl⟩

theorem chunkBytes_row : Rows.ChunkBytesSaid :=
  OpenClaim.holds_of_wide 3 Tryz.f3 rfl rfl rfl rfl rfl rfl rfl ⟨rfl, rfl, rfl, rfl, rfl⟩ rfl rfl rfl rfl rfl (by kernel_rfl) Tryz.func3 (by kernel_rfl)
    (of_decide_eq_true (by kernel_rfl)) (by unfold Func.isWrapper; first | (rw [if_pos (by decide +kernel)]; kernel_rfl) | (rw [if_neg (by decide +kernel)]; exact ⟨rfl, rfl⟩))
    (fun os started H enc _ => chunkBytes_lifted os started H enc)

theorem chunkBytes_holds : Rows.ChunkBytesCardSaid :=
  Claim7.holds_tied_plain_at .later [] [.data, .pinned] true (true, "14a7773e844401c40b6c81e7f529dccd12cecd4900e38e3557b6a5d4d5546402") false chunkBytes_row (fun _ h => by cases h) (by kernel_rfl) (fun _ h => by cases h) chunkBytes_row_tie rfl ⟨rfl, rfl⟩ (by kernel_rfl) rfl
    (fun f fn hf hfn => by
      obtain rfl : f = 3 := Option.some.inj ((show Tryz.prog.funcNamed "wainscot/wainscotlaw13.ChunkBytes" = some 3 by kernel_rfl).symm.trans hf) |>.symm
      obtain rfl : fn = Tryz.f3 := (Option.some.inj (Tryz.func3.symm.trans hfn)).symm
      exact ⟨by kernel_rfl, fun j t ht => by
        rw [Tryz.params3] at ht
        have hm : t ∈ [22, 3, 3] := by simpa using Array.mem_of_getElem? ht
        have hall : ([22, 3, 3].all fun u => !Tryz.prog.wantsStandIn u) = true := by kernel_rfl
        exact (show Tryz.prog.wantsStandIn t = false by simpa using List.all_eq_true.1 hall t hm)⟩)
    (by kernel_rfl)

end Go.Proofs.YthipaajmgfnagaaGreatDoor
#print axioms Go.Proofs.YthipaajmgfnagaaGreatDoor.chunkBytes_holds

