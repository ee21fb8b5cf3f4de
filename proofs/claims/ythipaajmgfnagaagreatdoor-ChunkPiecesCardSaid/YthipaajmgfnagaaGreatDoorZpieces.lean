/- ChunkPieces: for every input it returns true, and its arguments read as they did; the listed variables are tied to the program's text. -/
import Derived.Test.YthipaajmgfnagaaGreatDoorUl
import Derived.Test.YthipaajmgfnagaaGreatDoorFc
import Derived.Test.YthipaajmgfnagaaGreatDoorTie
import Derived.Test.YthipaajmgfnagaaGreatDoorCards
import Derived.OpenShut
import Derived.LaidMore
import Derived.Lay
import Derived.SevenTiedAt
import Derived.Stop.Joined
set_option linter.unusedSectionVars false
set_option linter.unusedVariables false
set_option linter.unusedSimpArgs false
namespace Go.Proofs.YthipaajmgfnagaaGreatDoor
open Go.ChangeShapes Go.WideShapes Go.ChangeAt Go.RowKit Go.Val

set_option maxRecDepth 100000 in
theorem chunkPieces_lifted (os : Os) (started : os.Started) (H : Type) (enc : TypeId × Value → H) :
    ReturnsInHanded {} Tryz.checked os 6 .any (fun w args => (Rows.chunkPiecesSpec.pre enc Tryz.prog Tryz.f6 Rows.chunkPiecesRow.domain false w args ∧ laidMetH Tryz.prog Rows.chunkPiecesRow.laid w) ∧ sizedMet enc Tryz.prog Tryz.f6 (OpenSpec.ofChange Rows.chunkPiecesSpec) false w args)
      (Rows.chunkPiecesSpec.post enc Tryz.prog Tryz.f6 false true false false) := by
  refine returnsInHanded_of_change_and (C := Tryz.checked) (X := fun w _ => laidMetH Tryz.prog Rows.chunkPiecesRow.laid w) (fun _ _ _ hh h => h.of_heap hh) Tryz.ownK started (by kernel_rfl) Tryz.func6
    (ChangeSpec.witness_shaped (enc := enc) (C := Tryz.checked) (os := os) (X := fun w _ => laidMetH Tryz.prog Rows.chunkPiecesRow.laid w) false (World.laidAll Tryz.prog os Rows.chunkPiecesRow.laid) #[.int .i64 0, .string (ByteArray.mk #[]), .int .i64 0] 8 (World.laidAll_os _ _ _)
      (World.shaped_of_ZipB (by kernel_rfl) (by kernel_rfl)) (by kernel_rfl) (by kernel_rfl) (by kernel_rfl)
      (by rw [MakeChecks.laidMetH_plain _ _ _ (by kernel_rfl)]; exact laidMet_laidAll _ (by kernel_rfl) (by kernel_rfl))) ?_
  intro W base args ds gs before hval0 hW hcnd _ _ _
  have hval : ∀ (j : Nat) t v, Tryz.f6.params[j]? = some t → args[j]? = some v → Value.okWide Tryz.prog W .any base t v := hval0
  have hW' := hW
  have hlt := hW.lt
  obtain ⟨p, q, hA0, hV, rfl, hfz, hnd⟩ := hW
  have hA : DataW.TrodAll enc Tryz.prog W 0 (fun _ => true) true Tryz.f6.params.toList args.toList ds p := hA0
  rw [Tryz.params6] at hA hval
  obtain ⟨v0, v1, v2, d0, d1, d2, p0, p1, p2, rfl, rfl, rfl, h0, h1, h2⟩ := trodAll_three hA
  obtain ⟨rfl, rfl⟩ := trodVars_none hV
  obtain ⟨a0, k0, ha0⟩ := arg_int (hval 0 3 v0 rfl rfl) h0
  obtain ⟨a1, k1, ha1⟩ := arg_string (hval 1 9 v1 rfl rfl) h1
  obtain ⟨a2, k2, ha2⟩ := arg_int (hval 2 3 v2 rfl rfl) h2
  clear hA0 hval0
  simp only [List.append_nil] at hW' hlt
  refine (calls_true (vals := [v0, v1, v2]) (law13_ChunkPieces_ok (chunkPieces_true a0 a1 a2 )) fun E hE hI => (VRs.cons_vr (ha0 E hE hI) (VRs.cons_vr (ha1 E hE hI) (VRs.cons_vr (ha2 E hE hI) .nil)))).mono ?_
  rintro e W' ⟨rfl, hb⟩
  exact ⟨_, rfl, post_of_below hW' hb (fun _ _ _ => trodAll_mk1 (shut_bool Tryz.underlying4 true))
    (trodAll_mkc (Below.trod Tryz.laidOutK (by kernel_rfl) (of_decide_eq_true (by kernel_rfl)) h0 hb (fun x hx => hlt x (by simp [hx]))) (trodAll_mkc (Below.trod Tryz.laidOutK (by kernel_rfl) (of_decide_eq_true (by kernel_rfl)) h1 hb (fun x hx => hlt x (by simp [hx]))) (trodAll_mkc (Below.trod Tryz.laidOutK (by kernel_rfl) (of_decide_eq_true (by kernel_rfl)) h2 hb (fun x hx => hlt x (by simp [hx]))) trodAll_nil_mk))) rfl⟩

theorem chunkPieces_row : Rows.ChunkPiecesSaid :=
  OpenClaim.holds_of_wide 6 Tryz.f6 rfl rfl rfl rfl rfl rfl rfl ⟨rfl, rfl, rfl, rfl, rfl⟩ rfl rfl rfl rfl rfl (by kernel_rfl) Tryz.func6 (by kernel_rfl)
    (of_decide_eq_true (by kernel_rfl)) (by unfold Func.isWrapper; first | (rw [if_pos (by decide +kernel)]; kernel_rfl) | (rw [if_neg (by decide +kernel)]; exact ⟨rfl, rfl⟩))
    (fun os started H enc _ => chunkPieces_lifted os started H enc)

theorem chunkPieces_holds : Rows.ChunkPiecesCardSaid :=
  Claim7.holds_tied_plain_at .later [] [.data, .pinned] true (true, "14a7773e844401c40b6c81e7f529dccd12cecd4900e38e3557b6a5d4d5546402") false chunkPieces_row (fun _ h => by cases h) (by kernel_rfl) (fun _ h => by cases h) chunkPieces_row_tie rfl ⟨rfl, rfl⟩ (by kernel_rfl) rfl
    (fun f fn hf hfn => by
      obtain rfl : f = 6 := Option.some.inj ((show Tryz.prog.funcNamed "wainscot/wainscotlaw13.ChunkPieces" = some 6 by kernel_rfl).symm.trans hf) |>.symm
      obtain rfl : fn = Tryz.f6 := (Option.some.inj (Tryz.func6.symm.trans hfn)).symm
      exact ⟨by kernel_rfl, fun j t ht => by
        rw [Tryz.params6] at ht
        have hm : t ∈ [3, 9, 3] := by simpa using Array.mem_of_getElem? ht
        have hall : ([3, 9, 3].all fun u => !Tryz.prog.wantsStandIn u) = true := by kernel_rfl
        exact (show Tryz.prog.wantsStandIn t = false by simpa using List.all_eq_true.1 hall t hm)⟩)
    (by kernel_rfl)

end Go.Proofs.YthipaajmgfnagaaGreatDoor
#print axioms Go.Proofs.YthipaajmgfnagaaGreatDoor.chunkPieces_holds

