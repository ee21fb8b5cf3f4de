/- Walks of the program's functions,printed. -/
import Derived.Test.YthipaajmgfnagaaGreatDoorWg
import Derived.Test.YthipaajmgfnagaaGreatDoorHf
import Derived.Test.YthipaajmgfnagaaGreatDoorX1
set_option linter.unusedSectionVars false
set_option linter.unusedVariables false
set_option linter.unusedSimpArgs false
set_option maxRecDepth 100000
namespace Go.Val
open Go.RowKit Go.Proofs
section
variable [NoDrw]
noncomputable def qL1 (a0 : Int) : Option Bool := (((cond (decide (a0 ≥ 1)) (some (decide (a0 < 1073741824))) (some false)) : Option Bool)).bind fun o0 => some o0
noncomputable def qO2 (a0 : List UInt8) (a1 : Int) : Option B8 := (((qA (V := (Int × B8)) (O := B8) (fun v0 => cond (decide (v0.1 < 4)) ((ck (decide (0 ≤ (IntKind.wrap .i64 (8 * (IntKind.wrap .i64 ((IntKind.wrap .i64 (4 - 1)) - v0.1))))))).bind fun _ => (ck (decide (0 ≤ v0.1 ∧ v0.1 < 4))).bind fun _ => (ck (decide (v0.1.toNat < v0.2.length))).bind fun _ =>
    (ck (decide (0 ≤ (IntKind.wrap .u8 (Int.fdiv a1 (2 ^ (min (IntKind.wrap .i64 (8 * (IntKind.wrap .i64 ((IntKind.wrap .i64 (4 - 1)) - v0.1)))).toNat (IntKind.bits .i64))))) ∧ (IntKind.wrap .u8 (Int.fdiv a1 (2 ^ (min (IntKind.wrap .i64 (8 * (IntKind.wrap .i64 ((IntKind.wrap .i64 (4 - 1)) - v0.1)))).toNat (IntKind.bits .i64))))) < 256))).bind fun _ =>
    some (.inl ((IntKind.wrap .i64 (v0.1 + 1)),(List.set v0.2 v0.1.toNat (UInt8.ofNat (IntKind.wrap .u8 (Int.fdiv a1 (2 ^ (min (IntKind.wrap .i64 (8 * (IntKind.wrap .i64 ((IntKind.wrap .i64 (4 - 1)) - v0.1)))).toNat (IntKind.bits .i64))))).toNat))))) (some (.inr v0.2))) (0,a0)) : Option B8)).bind fun o0 => some o0
noncomputable def qH2 (a0 : List UInt8) (a1 : Int) : Option B8 := (((qA (V := (Int × B8)) (O := B8) (fun v0 => cond (decide (v0.1 < 4)) ((ck (decide (0 ≤ (IntKind.wrap .i64 (8 * (IntKind.wrap .i64 ((IntKind.wrap .i64 (4 - 1)) - v0.1))))))).bind fun _ => (ck (decide (0 ≤ v0.1 ∧ v0.1 < 4))).bind fun _ => (ck (decide (20 + v0.1.toNat < v0.2.length))).bind fun _ =>
    (ck (decide (0 ≤ (IntKind.wrap .u8 (Int.fdiv a1 (2 ^ (min (IntKind.wrap .i64 (8 * (IntKind.wrap .i64 ((IntKind.wrap .i64 (4 - 1)) - v0.1)))).toNat (IntKind.bits .i64))))) ∧ (IntKind.wrap .u8 (Int.fdiv a1 (2 ^ (min (IntKind.wrap .i64 (8 * (IntKind.wrap .i64 ((IntKind.wrap .i64 (4 - 1)) - v0.1)))).toNat (IntKind.bits .i64))))) < 256))).bind fun _ =>
    some (.inl ((IntKind.wrap .i64 (v0.1 + 1)),(List.set v0.2 (20 + v0.1.toNat) (UInt8.ofNat (IntKind.wrap .u8 (Int.fdiv a1 (2 ^ (min (IntKind.wrap .i64 (8 * (IntKind.wrap .i64 ((IntKind.wrap .i64 (4 - 1)) - v0.1)))).toNat (IntKind.bits .i64))))).toNat))))) (some (.inr v0.2))) (0,a0)) : Option B8)).bind fun o0 => some o0
noncomputable def qJ0 (a0 : Int) (a1 : Int) : Option B8 := (qO2 (List.replicate 24 0) a0).bind fun x0 => (ck (decide (0 ≤ (4 : Int) ∧ (4 : Int) < 24))).bind fun _ => (ck (decide (4 < x0.length))).bind fun _ => (ck (decide (0 ≤ (IntKind.wrap .u8 a1) ∧ (IntKind.wrap .u8 a1) < 256))).bind fun _ => some (List.set x0 4 (UInt8.ofNat (IntKind.wrap .u8 a1).toNat))
noncomputable def q02 (a0 : Int) : Option (B8 × Bool) := (qL1 a0).bind fun x0 => cond (!x0) (some ((List.replicate 24 0),false)) ((qJ0 a0 1).bind fun x1 => some (x1,true))
noncomputable def qi0 (a0 : Int) (a1 : Int) : Option (B8 × Bool) := ((((qL1 a0).bind fun x0 => cond (!x0) (some true) (cond (decide (a1 < 0)) (some true) (some (decide (a1 > 4294967295))))) : Option Bool)).bind fun o0 => cond o0 (some ((List.replicate 24 0),false)) ((qJ0 a0 3).bind fun x1 => (qH2 x1 a1).bind fun x2 => some (x2,true))
noncomputable def key_of (a0 : List UInt8) : Option Int := (((qA (V := (Int × Int)) (O := Int) (fun v0 => cond (decide (v0.2 < (a0.length : Int))) ((gx a0 v0.2).bind fun x0 => some (.inl ((bitsOr .i64 (IntKind.wrap .i64 (v0.1 * 2 ^ 8)) (IntKind.wrap .i64 (x0.toNat : Int))),(IntKind.wrap .i64 (v0.2 + 1))))) (some (.inr v0.1))) (0,0)) : Option Int)).bind fun o0 => some o0
noncomputable def qY3 (a0 : List UInt8) : Option ((Int × Int × ByteArray × Int) × Bool) := (key_of (List.take 4 (List.drop 0 a0))).bind fun x0 => (ck (decide (0 ≤ (4 : Int) ∧ (4 : Int) < 24))).bind fun _ => (gx a0 4).bind fun x1 => (((cond (decide ((IntKind.wrap .i64 (x1.toNat : Int)) = 1)) ((q02 x0).bind fun x2 =>
   some (x2.2,(x0,(IntKind.wrap .i64 (x1.toNat : Int)),(ByteArray.mk #[]),0),x2.1)) (cond (decide ((IntKind.wrap .i64 (x1.toNat : Int)) = 2)) (none) (cond (decide ((IntKind.wrap .i64 (x1.toNat : Int)) = 3)) ((key_of (List.take 4 (List.drop 20 a0))).bind fun x3 => (qi0 x0 x3).bind fun x4 => some (x4.2,(x0,(IntKind.wrap .i64 (x1.toNat : Int)),(ByteArray.mk #[]),x3),x4.1)) (
     some (false,(x0,(IntKind.wrap .i64 (x1.toNat : Int)),(ByteArray.mk #[]),0),(List.replicate 24 0)))))) : Option (Bool × (Int × Int × ByteArray × Int) × B8))).bind fun o0 => (((cond (!o0.1) (some true) (some (!(decide (o0.2.2 = a0))))) : Option Bool)).bind fun o1 => cond o1 (some ((0,0,(ByteArray.mk #[]),0),false)) (some (o0.2.1,true))
noncomputable def qh2 (a0 : Int) (a1 : Int) : Option (B8 × B8 × Bool) := (qi0 a0 a1).bind fun x0 => cond (!x0.2) (some ((List.replicate 24 0),(List.replicate 24 0),false)) ((qJ0 a0 4).bind fun x1 => some (x0.1,x1,false))
noncomputable def qG0 (a0 : ByteArray) : Option ByteArray := (cutB 0 (min (a0.size : Int) 32) a0.size).bind fun _ => (strTrimR (a0.extract 0 (min (a0.size : Int) 32).toNat) (ByteArray.mk #[0])).bind fun x0 => some x0
noncomputable def qc1 (a0 : ByteArray) : Option ByteArray := (cutB 0 (min (a0.size : Int) 32) a0.size).bind fun _ => (qy3 (ByteArray.mk #[0]) (IntKind.wrap .i64 (32 - ((a0.extract 0 (min (a0.size : Int) 32).toNat).size : Int)))).bind fun x0 => (ck (decide ((a0.extract 0 (min (a0.size : Int) 32).toNat).size + x0.size ≤ 9223372036854775807))).bind fun _ =>
 some ((a0.extract 0 (min (a0.size : Int) 32).toNat) ++ x0)
noncomputable def q22 (a0 : Int) (a1 : Int) (a2 : Int) : Option Bool := (q02 a0).bind fun x0 => (((cond x0.2 (cond (decide ((min a1 a2) ≥ 0)) (cond (decide (a1 ≤ 1048576)) (some (decide (a2 ≤ (IntKind.wrap .i64 (1048576 - a1))))) (some false)) (some false)) (some false)) : Option Bool)).bind fun o0 => some o0
noncomputable def qe1 (a0 : VwT) (a1 : Int) (a2 : Int) (a3 : ByteArray) : Option (Int × VwT) := (qi0 a1 a2).bind fun x0 => (qG0 a3).bind fun x1 => cond (decide (x1 = (ByteArray.mk #[]))) ((qH0 a0 x0.1).bind fun x2 => some (x2.1,x2.2)) ((qr1 a0 x0.1 x1).bind fun x3 => some (x3.1,x3.2))
noncomputable def qP (a0 : VwT) (a1 : Int) (a2 : Int) (a3 : Int) : Option (ByteArray × Int × VwT) := (q22 a1 a2 a3).bind fun x0 => cond (!x0) (some ((ByteArray.mk #[]),1,a0)) (cond (decide (a3 = 0)) (some ((ByteArray.mk #[]),0,a0)) ((qi0 a1 (IntKind.wrap .i64 (Int.tdiv a2 32))).bind fun x1 =>
   (qi0 a1 (IntKind.wrap .i64 (Int.tdiv (IntKind.wrap .i64 ((IntKind.wrap .i64 ((IntKind.wrap .i64 (a2 + a3)) + 32)) - 1)) 32))).bind fun x2 => (qd0 a0 (x1.1,x2.1,false)).bind fun x3 => cond (decide (x3.2.1 ≠ 0)) (some ((ByteArray.mk #[]),x3.2.1,x3.2.2)) (
    (ck (decide (0 ≤ (IntKind.wrap .i64 (32 * (IntKind.wrap .i64 ((IntKind.wrap .i64 (Int.tdiv (IntKind.wrap .i64 ((IntKind.wrap .i64 ((IntKind.wrap .i64 (a2 + a3)) + 32)) - 1)) 32)) - (IntKind.wrap .i64 (Int.tdiv a2 32)))))) ∧ (IntKind.wrap .i64 (32 * (IntKind.wrap .i64 ((IntKind.wrap .i64 (Int.tdiv (IntKind.wrap .i64 ((IntKind.wrap .i64 ((IntKind.wrap .i64 (a2 + a3)) + 32)) - 1)) 32)) - (IntKind.wrap .i64 (Int.tdiv a2 32)))))) ≤ 140737488355328))).bind fun _ =>
    (((qA (V := (Int × B8)) (O := (B8 ⊕ (ByteArray × Int × VwT))) (fun v0 => cond (decide (v0.1 < (x3.1.length : Int))) ((gx x3.1 v0.1).bind fun x4 => (qY3 x4.1).bind fun x5 => (((cond (!x5.2) (some true) (cond (decide (x5.1.2.2.2 < (IntKind.wrap .i64 (Int.tdiv a2 32)))) (some true) (
          some (decide (x5.1.2.2.2 ≥ (IntKind.wrap .i64 (Int.tdiv (IntKind.wrap .i64 ((IntKind.wrap .i64 ((IntKind.wrap .i64 (a2 + a3)) + 32)) - 1)) 32))))))) : Option Bool)).bind fun o0 => cond o0 (some (.inr (.inr ((ByteArray.mk #[]),12,x3.2.2)))) (
        (ck (decide (0 ≤ (IntKind.wrap .i64 (32 * (IntKind.wrap .i64 (x5.1.2.2.2 - (IntKind.wrap .i64 (Int.tdiv a2 32)))))) ∧ (IntKind.wrap .i64 (32 * (IntKind.wrap .i64 (x5.1.2.2.2 - (IntKind.wrap .i64 (Int.tdiv a2 32)))))).toNat ≤ v0.2.length))).bind fun _ => (qc1 x4.2).bind fun x6 =>
        some (.inl ((IntKind.wrap .i64 (v0.1 + 1)),(List.take (IntKind.wrap .i64 (32 * (IntKind.wrap .i64 (x5.1.2.2.2 - (IntKind.wrap .i64 (Int.tdiv a2 32)))))).toNat v0.2 ++ cpB (List.drop (IntKind.wrap .i64 (32 * (IntKind.wrap .i64 (x5.1.2.2.2 - (IntKind.wrap .i64 (Int.tdiv a2 32)))))).toNat v0.2) x6.data.toList))))) (some (.inr (.inl v0.2)))
     ) (0,(List.replicate (IntKind.wrap .i64 (32 * (IntKind.wrap .i64 ((IntKind.wrap .i64 (Int.tdiv (IntKind.wrap .i64 ((IntKind.wrap .i64 ((IntKind.wrap .i64 (a2 + a3)) + 32)) - 1)) 32)) - (IntKind.wrap .i64 (Int.tdiv a2 32)))))).toNat (0 : UInt8)))) : Option (B8 ⊕ (ByteArray × Int × VwT)))).bind fun o1 => Sum.elim (fun (v1 : B8) =>
     (cutB (IntKind.wrap .i64 (a2 - (IntKind.wrap .i64 (32 * (IntKind.wrap .i64 (Int.tdiv a2 32)))))) (IntKind.wrap .i64 ((IntKind.wrap .i64 (a2 - (IntKind.wrap .i64 (32 * (IntKind.wrap .i64 (Int.tdiv a2 32)))))) + a3)) v1.length).bind fun _ =>
     some ((qi1 (qm0 v1 (IntKind.wrap .i64 (a2 - (IntKind.wrap .i64 (32 * (IntKind.wrap .i64 (Int.tdiv a2 32)))))) (IntKind.wrap .i64 ((IntKind.wrap .i64 (a2 - (IntKind.wrap .i64 (32 * (IntKind.wrap .i64 (Int.tdiv a2 32)))))) + a3)))),0,x3.2.2)) (fun w0 => some w0) o1)))
noncomputable def qp0 (a0 : VwT) (a1 : Int) (a2 : Int) : Option (Int × VwT) := (q22 a1 0 a2).bind fun x0 => cond (!x0) (some (1,a0)) ((qh2 a1 (IntKind.wrap .i64 (Int.tdiv a2 32))).bind fun x1 => (qd0 a0 x1).bind fun x2 => cond (decide (x2.2.1 ≠ 0)) (some (x2.2.1,x2.2.2)) ((((qA (V := (Int × VwT)) (O := (VwT ⊕ (Int × VwT))) (fun v0 =>
     cond (decide (v0.1 < (x2.1.length : Int))) (((((gx x2.1 v0.1).bind fun x3 => (qY3 x3.1).bind fun x4 => cond (!x4.2) (some (.inr (12,v0.2))) ((((cond (decide (x4.1.2.2.2 = (IntKind.wrap .i64 (Int.tdiv a2 32)))) (some (Int.tmod a2 32)) (some 0)) : Option Int)).bind fun o0 => (cutB 0 (min (x3.2.size : Int) o0) x3.2.size).bind fun _ =>
        (qG0 (x3.2.extract 0 (min (x3.2.size : Int) o0).toNat)).bind fun x5 => cond (decide (x5 = x3.2)) (some (.inl v0.2)) ((qe1 v0.2 a1 x4.1.2.2.2 x5).bind fun x6 => cond (decide (x6.1 ≠ 0)) (some (.inr (x6.1,x6.2))) (some (.inl x6.2))))) : Option (VwT ⊕ (Int × VwT)))).bind fun o1 => Sum.elim (fun (v1 : VwT) => some (.inl ((IntKind.wrap .i64 (v0.1 + 1)),v1))) (fun w0 =>
       some (.inr (.inr w0))) o1) (some (.inr (.inl v0.2)))) (0,x2.2.2)) : Option (VwT ⊕ (Int × VwT)))).bind fun o2 => Sum.elim (fun (v2 : VwT) => some (0,v2)) (fun w1 => some w1) o2))
theorem qv2 {a0 : Int} {r : Bool} (h : qL1 a0 = some r) : FnOk Tryz.prog 56 [.d (eint a0)] 0 (lk []) (fun rr oo => rr = .d (qz r) ∧ oo = lk []) := by
 refine fnO Tryz.func56 rfl rfl (cwP ?_)
 unfold qL1 at h
 refine cwS (cwR (
  .c (uA rfl)<|.nil rfl) ?_)
 have ⟨o0,hj0,h0⟩ := bdS h
 refine cwJ (fun (z : Bool) => St.of [(2,.d (qz z))] []) (fun (z : Bool) => o0 = z) ?_ ?_
 ·intro v0 hv0; subst hv0
  have heq := ((sJ h0)).symm
  subst heq
  exact qe ⟨_,(show Leads _ _ (St.of [(2,.d (qz o0))] []) from .w (wkF ⟨wD rfl,trivial⟩ trivial qd)),.inr rfl,_,res1 rfl rfl,rfl,rfl⟩
 rcases cdS hj0 with ⟨hc0,h1⟩ | ⟨hc0,h2⟩
 ·skip
  refine cwR (
   .c (uM rfl)<|
   .c (uB rfl (qD4 _ _) rfl)<|
   .c (uM rfl)<|
   .c (o_mv rfl rfl (.yes rfl rfl hc0) rfl)<|
   .c (qc rfl rfl (.yes rfl rfl hc0) rfl rfl (q31 _ _) rfl)<|
   .c (uPT rfl hc0)<|
   .c (uA rfl)<|.nil rfl
  ) ?_
  exact ⟨(decide (a0 < 1073741824)),(sJ h1),.w (wkF ⟨wD rfl,trivial⟩ trivial qd)⟩
 refine cwR (
  .c (uM rfl)<|
  .c (uB rfl (qD4 _ _) rfl)<|
  .c (uM rfl)<|
  .c (uN rfl rfl hc0)<|
  .c (uN rfl rfl hc0)<|
  .c (uPF rfl hc0)<|
  .c (uA rfl)<|.nil rfl
 ) ?_
 exact ⟨false,(sJ h2),.w (wkF ⟨wD rfl,trivial⟩ trivial qd)⟩
theorem key_word_p_ok {a0 : List UInt8} {a1 : Int} {r : B8} (h : qO2 a0 a1 = some r) : FnOk Tryz.prog 58 [.bsl 0 (0 + 0) 4 24,.d (eint a1)] 1 (lk [(0,.box (.d (eK a0)))]) (fun rr oo => rr = .tup [] ∧ oo = lk [(0,.box (.d (eK r)))]) := by
 refine fnO Tryz.func58 rfl rfl (cwP ?_)
 unfold qO2 at h
 have ⟨o0,hj0,h0⟩ := bdS h
 refine qV4 (fun (z : B8) => St.of [] [(0,.box (.d (eK z)))]) (fun (z : B8) => o0 = z) ?_ ?_
 ·intro v0 hv0; subst hv0
  have heq := ((sJ h0)).symm
  subst heq
  exact ⟨_,(show Leads _ _ (St.of [] [(0,.box (.d (eK o0)))]) from .w (wkF trivial ⟨.box rfl (.d rfl),trivial⟩ (qq rfl))),.inl rfl,_,res0 rfl,rfl,rfl⟩
 refine cwS (cwR (
  .c (uM rfl)<|
  .c (o_lenB rfl rfl .no rfl sl26)<|
  .c (uM rfl)<|.nil rfl) ?_)
 refine cwB ?_
 refine qr (V := (Int × B8)) (O := B8) (fun (z : (Int × B8)) => St.of [(0,.bsl 0 (0 + 0) 4 24),(1,.d (eint a1)),(6,.d (eint 4)),(7,.d (eint z.1))] [(0,.box (.d (eK z.2)))]) hj0 (.w (wkF ⟨⟨_,rfl,.bsl rfl rfl⟩,wD rfl,wD rfl,wD rfl,trivial⟩ ⟨.box rfl (.d rfl),trivial⟩ (qq rfl))) ?_
 intro v1 x0 hb0 hx0
 refine cwS (cwR (
  .c (uB rfl (q31 _ _) rfl)<|.nil rfl) ?_)
 refine cwS ?_
 rcases cdS hb0 with ⟨hc0,h1⟩ | ⟨hc0,h2⟩
 ·refine cwT rfl hc0 ?_
  refine cwK ?_
  refine cwS ?_
  refine cwB ?_
  refine cwS (cwR (
   .c (uM rfl)<|
   .c (uA rfl)<|.nil rfl) ?_)
  have ⟨x1,hx1,h3⟩ := bdS h1
  have hx1g := qK hx1
  have ⟨x2,hx2,h4⟩ := bdS h3
  have hx2g := qK hx2
  have ⟨x3,hx3,h5⟩ := bdS h4
  have hx3g := qK hx3
  have ⟨x4,hx4,h6⟩ := bdS h5
  have hx4g := qK hx4
  refine cwR (
   .c (uM rfl)<|
   .c (uM rfl)<|
   .c (uM rfl)<|
   .c (uM rfl)<|
   .c (o_lenB rfl rfl .no rfl sl26)<|
   .c (uB rfl (qy4 _ _) rfl)<|
   .c (uM rfl)<|
   .c (uB rfl (qy4 _ _) rfl)<|
   .c (uB rfl (b_mul _ _) rfl)<|
   .c (uB rfl (b_shr _ _ hx1g) rfl)<|
   .c (qU1 rfl rfl .no rfl un3 un5)<|
   .c (o_ixS rfl rfl .no rfl rfl sl26 sz5 hx2g)<|
   .c (o_stB (l := v1.2) [] rfl .no rfl rfl rfl rfl hx3g hx4g sz5)<|.nil rfl
  ) ?_
  refine cwR (
   .c (uB rfl (q61 _ _) rfl)<|
   .c (uM rfl)<|.nil rfl
  ) ?_
  exact ⟨((IntKind.wrap .i64 (v1.1 + 1)),(List.set v1.2 v1.1.toNat (UInt8.ofNat (IntKind.wrap .u8 (Int.fdiv a1 (2 ^ (min (IntKind.wrap .i64 (8 * (IntKind.wrap .i64 ((IntKind.wrap .i64 (4 - 1)) - v1.1)))).toNat (IntKind.bits .i64))))).toNat))),(sJ h6),.w (wkF ⟨⟨_,rfl,.bsl rfl rfl⟩,wD rfl,wD rfl,wD rfl,trivial⟩ ⟨.box rfl (.d rfl),trivial⟩ (qq rfl))⟩
 refine cwF rfl hc0 ?_
 refine qG ?_
 exact ⟨v1.2,(hx0 _ (sJ h2)).symm,.w (wkF trivial ⟨.box rfl (.d rfl),trivial⟩ (qq rfl))⟩
theorem key_word_q_ok {a0 : List UInt8} {a1 : Int} {r : B8} (h : qH2 a0 a1 = some r) : FnOk Tryz.prog 58 [.bsl 0 (0 + 20) 4 4,.d (eint a1)] 1 (lk [(0,.box (.d (eK a0)))]) (fun rr oo => rr = .tup [] ∧ oo = lk [(0,.box (.d (eK r)))]) := by
 refine fnO Tryz.func58 rfl rfl (cwP ?_)
 unfold qH2 at h
 have ⟨o0,hj0,h0⟩ := bdS h
 refine qV4 (fun (z : B8) => St.of [] [(0,.box (.d (eK z)))]) (fun (z : B8) => o0 = z) ?_ ?_
 ·intro v0 hv0; subst hv0
  have heq := ((sJ h0)).symm
  subst heq
  exact ⟨_,(show Leads _ _ (St.of [] [(0,.box (.d (eK o0)))]) from .w (wkF trivial ⟨.box rfl (.d rfl),trivial⟩ (qq rfl))),.inl rfl,_,res0 rfl,rfl,rfl⟩
 refine cwS (cwR (
  .c (uM rfl)<|
  .c (o_lenB rfl rfl .no rfl sl26)<|
  .c (uM rfl)<|.nil rfl) ?_)
 refine cwB ?_
 refine qr (V := (Int × B8)) (O := B8) (fun (z : (Int × B8)) => St.of [(0,.bsl 0 (0 + 20) 4 4),(1,.d (eint a1)),(6,.d (eint 4)),(7,.d (eint z.1))] [(0,.box (.d (eK z.2)))]) hj0 (.w (wkF ⟨⟨_,rfl,.bsl rfl rfl⟩,wD rfl,wD rfl,wD rfl,trivial⟩ ⟨.box rfl (.d rfl),trivial⟩ (qq rfl))) ?_
 intro v1 x0 hb0 hx0
 refine cwS (cwR (
  .c (uB rfl (q31 _ _) rfl)<|.nil rfl) ?_)
 refine cwS ?_
 rcases cdS hb0 with ⟨hc0,h1⟩ | ⟨hc0,h2⟩
 ·refine cwT rfl hc0 ?_
  refine cwK ?_
  refine cwS ?_
  refine cwB ?_
  refine cwS (cwR (
   .c (uM rfl)<|
   .c (uA rfl)<|.nil rfl) ?_)
  have ⟨x1,hx1,h3⟩ := bdS h1
  have hx1g := qK hx1
  have ⟨x2,hx2,h4⟩ := bdS h3
  have hx2g := qK hx2
  have ⟨x3,hx3,h5⟩ := bdS h4
  have hx3g := qK hx3
  have ⟨x4,hx4,h6⟩ := bdS h5
  have hx4g := qK hx4
  refine cwR (
   .c (uM rfl)<|
   .c (uM rfl)<|
   .c (uM rfl)<|
   .c (uM rfl)<|
   .c (o_lenB rfl rfl .no rfl sl26)<|
   .c (uB rfl (qy4 _ _) rfl)<|
   .c (uM rfl)<|
   .c (uB rfl (qy4 _ _) rfl)<|
   .c (uB rfl (b_mul _ _) rfl)<|
   .c (uB rfl (b_shr _ _ hx1g) rfl)<|
   .c (qU1 rfl rfl .no rfl un3 un5)<|
   .c (o_ixS rfl rfl .no rfl rfl sl26 sz5 hx2g)<|
   .c (o_stBo (off := 20) (l := v1.2) [] rfl .no rfl rfl rfl rfl hx3g hx4g sz5)<|.nil rfl
  ) ?_
  refine cwR (
   .c (uB rfl (q61 _ _) rfl)<|
   .c (uM rfl)<|.nil rfl
  ) ?_
  exact ⟨((IntKind.wrap .i64 (v1.1 + 1)),(List.set v1.2 (20 + v1.1.toNat) (UInt8.ofNat (IntKind.wrap .u8 (Int.fdiv a1 (2 ^ (min (IntKind.wrap .i64 (8 * (IntKind.wrap .i64 ((IntKind.wrap .i64 (4 - 1)) - v1.1)))).toNat (IntKind.bits .i64))))).toNat))),(sJ h6),.w (wkF ⟨⟨_,rfl,.bsl rfl rfl⟩,wD rfl,wD rfl,wD rfl,trivial⟩ ⟨.box rfl (.d rfl),trivial⟩ (qq rfl))⟩
 refine cwF rfl hc0 ?_
 refine qG ?_
 exact ⟨v1.2,(hx0 _ (sJ h2)).symm,.w (wkF trivial ⟨.box rfl (.d rfl),trivial⟩ (qq rfl))⟩
theorem key_begins_okc {a0 : Int} {a1 : Int} {r : B8} (h : qJ0 a0 a1 = some r) : FnOk Tryz.prog 57 [.d (eint a0),.d (eint a1)] 0 (lk []) (fun rr oo => rr = .d (eK r) ∧ oo = lk [(0,.box (.d (eK r)))]) := by
 refine fnO Tryz.func57 rfl rfl (cwP ?_)
 unfold qJ0 at h
 refine cwS (cwR (
  .c (qm 0 rfl rfl .no ze39 rfl)<|.nil rfl) ?_)
 have ⟨x0,hx0,h0⟩ := bdS (x := qO2 (List.replicate 24 0) a0) h
 refine cwS (cwR (
  .c (o_slC 0 4 24 rfl rfl .no rfl ar39 sz5 .no (.val rfl (by decide)) (by decide) (by decide) (by decide) (by decide) (by decide) (by decide))<|
  .c (uM rfl)<|
  .c (qC (fun _ => 0) rfl rfl .no Tryz.func58 rfl rfl (key_word_p_ok hx0) (.cons rfl (.bs rfl) (.cons rfl .d .nil)) (q60 rfl ⟨(by simp [AV.live,lk,Nat.beq]),trivial,trivial⟩ rfl trivial (by simp)) (.inl rfl))<|.nil rfl) ?_)
 have ⟨x1,hx1,h1⟩ := bdS h0
 have hx1g := qK hx1
 have ⟨x2,hx2,h2⟩ := bdS h1
 have hx2g := qK hx2
 have ⟨x3,hx3,h3⟩ := bdS h2
 have hx3g := qK hx3
 refine cwS (cwR (
  .c (uM rfl)<|
  .c (qU1 rfl rfl .no rfl un3 un5)<|
  .c (q45 rfl rfl .no rfl rfl ar39 sz5 hx1g)<|
  .c (o_stB (l := x0) [] rfl .no rfl rfl rfl rfl hx2g hx3g sz5)<|.nil rfl) ?_)
 refine cwS (cwR (
  .c (uL [] rfl ta39 rfl)<|
  .c (uS [] rfl sz39 rfl)<|.nil rfl) ?_)
 have heq := ((sJ h3)).symm
 subst heq
 exact qe ⟨_,(show Leads _ _ (St.of [(4,.ptr 0 0)] [(0,.box (.d (eK (List.set x0 4 (UInt8.ofNat (IntKind.wrap .u8 a1).toNat)))))]) from .w (wkF ⟨⟨_,rfl,.ptr rfl rfl⟩,trivial⟩ ⟨.box rfl (.d rfl),trivial⟩ qd)),.inr rfl,_,resC rfl rfl rfl ta39 rfl rfl,rfl,rfl⟩
theorem qo3 {a0 : Int} {a1 : Int} {r : B8} (h : qJ0 a0 a1 = some r) : FnOk Tryz.prog 57 [.d (eint a0),.d (eint a1)] 0 (lk []) (fun rr oo => rr = .d (eK r) ∧ oo = lk []) := qD0 (key_begins_okc h)
theorem key_Inode_okc {a0 : Int} {r : (B8 × Bool)} (h : q02 a0 = some r) : FnOk Tryz.prog 39 [.d (eint a0)] 0 (lk []) (fun rr oo => rr = .tup [.d (eK r.1),.d (qz r.2)] ∧ oo = lk [(0,.box (.d (eK r.1)))]) := by
 refine fnO Tryz.func39 rfl rfl (cwP ?_)
 unfold q02 at h
 refine cwS (cwR (
  .c (qm 0 rfl rfl .no ze39 rfl)<|
  .c (uA rfl)<|.nil rfl) ?_)
 refine cwS ?_
 have ⟨x0,hx0,h0⟩ := bdS (x := qL1 a0) h
 refine cwS (cwR (
  .c (uM rfl)<|
  .c (qj rfl rfl .no Tryz.func56 rfl rfl (qv2 hx0) (.cons rfl .d .nil) ⟨trivial,trivial⟩ (.inl rfl))<|
  .c (uT rfl)<|.nil rfl) ?_)
 rcases cdS h0 with ⟨hc0,h1⟩ | ⟨hc0,h2⟩
 ·refine cwT rfl hc0 ?_
  refine cwS (cwR (
   .c (o_bldB (l := (List.replicate 24 0)) (r := (List.replicate 24 0)) rfl rfl .no ze39 ar39 sz5 .nil)<|
   .c (uS [] rfl sz39 rfl)<|
   .c (uA rfl)<|.nil rfl) ?_)
  have heq := ((sJ h1)).symm
  subst heq
  exact qe ⟨_,(show Leads _ _ (St.of [(2,.ptr 0 0),(3,.d (qz false))] [(0,.box (.d (eK (List.replicate 24 0))))]) from .w (wkF ⟨⟨_,rfl,.ptr rfl rfl⟩,wD rfl,trivial⟩ ⟨.box rfl (.d rfl),trivial⟩ qd)),.inr rfl,_,resCT rfl rfl rfl ta39 rfl rfl rfl,rfl,rfl⟩
 refine cwF rfl hc0 ?_
 refine cwK ?_
 have ⟨x1,hx1,h3⟩ := bdS (x := qJ0 a0 1) h2
 refine cwS (cwR (
  .c (uM rfl)<|
  .c (qj rfl rfl .no Tryz.func57 rfl rfl (qo3 hx1) (.cons rfl .d (.cons rfl .d .nil)) ⟨trivial,trivial,trivial⟩ (.inl rfl))<|
  .c (uS [] rfl sz39 rfl)<|
  .c (uA rfl)<|.nil rfl) ?_)
 have heq := ((sJ h3)).symm
 subst heq
 exact qe ⟨_,(show Leads _ _ (St.of [(2,.ptr 0 0),(3,.d (qz true))] [(0,.box (.d (eK x1)))]) from .w (wkF ⟨⟨_,rfl,.ptr rfl rfl⟩,wD rfl,trivial⟩ ⟨.box rfl (.d rfl),trivial⟩ qd)),.inr rfl,_,resCT rfl rfl rfl ta39 rfl rfl rfl,rfl,rfl⟩
theorem key_Inode_ok {a0 : Int} {r : (B8 × Bool)} (h : q02 a0 = some r) : FnOk Tryz.prog 39 [.d (eint a0)] 0 (lk []) (fun rr oo => rr = .tup [.d (eK r.1),.d (qz r.2)] ∧ oo = lk []) := qg1 (key_Inode_okc h)
theorem key_Chunk_okc {a0 : Int} {a1 : Int} {r : (B8 × Bool)} (h : qi0 a0 a1 = some r) : FnOk Tryz.prog 25 [.d (eint a0),.d (eint a1)] 0 (lk []) (fun rr oo => rr = .tup [.d (eK r.1),.d (qz r.2)] ∧ oo = lk [(0,.box (.d (eK r.1)))]) := by
 refine fnO Tryz.func25 rfl rfl (cwP ?_)
 unfold qi0 at h
 refine cwS (cwR (
  .c (qm 0 rfl rfl .no ze39 rfl)<|
  .c (uA rfl)<|.nil rfl) ?_)
 refine cwS ?_
 have ⟨o0,hj0,h0⟩ := bdS h
 refine cwJ (fun (z : Bool) => St.of [(0,.d (eint a0)),(1,.d (eint a1)),(4,.ptr 0 0),(17,.d (qz z))] [(0,.box (.d (eK (List.replicate 24 0))))]) (fun (z : Bool) => o0 = z) ?_ ?_
 ·intro v0 hv0; subst hv0
  rcases cdS h0 with ⟨hc0,h1⟩ | ⟨hc0,h2⟩
  ·refine cwT rfl hc0 ?_
   refine cwS (cwR (
    .c (o_bldB (l := (List.replicate 24 0)) (r := (List.replicate 24 0)) rfl rfl .no ze39 ar39 sz5 .nil)<|
    .c (uS [] rfl sz39 rfl)<|
    .c (uA rfl)<|.nil rfl) ?_)
   have heq := ((sJ h1)).symm
   subst heq
   exact qe ⟨_,(show Leads _ _ (St.of [(4,.ptr 0 0),(5,.d (qz false))] [(0,.box (.d (eK (List.replicate 24 0))))]) from .w (wkF ⟨⟨_,rfl,.ptr rfl rfl⟩,wD rfl,trivial⟩ ⟨.box rfl (.d rfl),trivial⟩ qd)),.inr rfl,_,resCT rfl rfl rfl ta39 rfl rfl rfl,rfl,rfl⟩
  refine cwF rfl hc0 ?_
  refine cwK ?_
  have ⟨x0,hx0,h3⟩ := bdS (x := qJ0 a0 3) h2
  refine cwS (cwR (
   .c (uM rfl)<|
   .c (qj rfl rfl .no Tryz.func57 rfl rfl (qo3 hx0) (.cons rfl .d (.cons rfl .d .nil)) ⟨trivial,trivial,trivial⟩ (.inl rfl))<|
   .c (qm 1 rfl rfl .no ze39 rfl)<|
   .c (uS [] rfl sz39 rfl)<|.nil rfl) ?_)
  have ⟨x1,hx1,h4⟩ := bdS (x := qH2 x0 a1) h3
  refine cwS (cwR (
   .c (o_slC 20 4 4 rfl rfl .no rfl ar39 sz5 (.val rfl (by decide)) .no (by decide) (by decide) (by decide) (by decide) (by decide) (by decide))<|
   .c (uM rfl)<|
   .c (qC (fun _ => 1) rfl rfl .no Tryz.func58 rfl rfl (key_word_q_ok hx1) (.cons rfl (.bs rfl) (.cons rfl .d .nil)) (q60 rfl ⟨(by simp [AV.live,lk,Nat.beq]),trivial,trivial⟩ rfl trivial (by simp)) (.inl rfl))<|.nil rfl) ?_)
  refine cwS (cwR (
   .c (uL [] rfl ta39 rfl)<|
   .c (uS [] rfl sz39 rfl)<|
   .c (uA rfl)<|.nil rfl) ?_)
  have heq := ((sJ h4)).symm
  subst heq
  exact qe ⟨_,(show Leads _ _ (St.of [(4,.ptr 0 0),(5,.d (qz true))] [(0,.box (.d (eK x1)))]) from .w (wkF ⟨⟨_,rfl,.ptr rfl rfl⟩,wD rfl,trivial⟩ ⟨.box rfl (.d rfl),trivial⟩ qd)),.inr rfl,_,resCT rfl rfl rfl ta39 rfl rfl rfl,rfl,rfl⟩
 have ⟨x2,hx2,h5⟩ := bdS (x := qL1 a0) hj0
 rcases cdS h5 with ⟨hc1,h6⟩ | ⟨hc1,h7⟩
 ·skip
  refine cwR (
   .c (uM rfl)<|
   .c (qj rfl rfl .no Tryz.func56 rfl rfl (qv2 hx2) (.cons rfl .d .nil) ⟨trivial,trivial⟩ (.inl rfl))<|
   .c (uT rfl)<|
   .c (uM rfl)<|
   .c (uN rfl rfl hc1)<|
   .c (uN rfl rfl hc1)<|
   .c (uPT rfl hc1)<|
   .c (uM rfl)<|
   .c (uN rfl rfl rfl)<|
   .c (uN rfl rfl rfl)<|
   .c (uPT rfl rfl)<|.nil rfl
  ) ?_
  exact ⟨true,(sJ h6),.w (wkF ⟨wD rfl,wD rfl,⟨_,rfl,.ptr rfl rfl⟩,wD rfl,trivial⟩ ⟨.box rfl (.d rfl),trivial⟩ qd)⟩
 rcases cdS h7 with ⟨hc2,h8⟩ | ⟨hc2,h9⟩
 ·skip
  refine cwR (
   .c (uM rfl)<|
   .c (qj rfl rfl .no Tryz.func56 rfl rfl (qv2 hx2) (.cons rfl .d .nil) ⟨trivial,trivial⟩ (.inl rfl))<|
   .c (uT rfl)<|
   .c (uM rfl)<|
   .c (o_mv rfl rfl (.yes rfl rfl hc1) rfl)<|
   .c (qc rfl rfl (.yes rfl rfl hc1) rfl rfl (q31 _ _) rfl)<|
   .c (uPF rfl hc1)<|
   .c (uM rfl)<|
   .c (uN rfl rfl hc2)<|
   .c (uN rfl rfl hc2)<|
   .c (uPT rfl hc2)<|.nil rfl
  ) ?_
  exact ⟨true,(sJ h8),.w (wkF ⟨wD rfl,wD rfl,⟨_,rfl,.ptr rfl rfl⟩,wD rfl,trivial⟩ ⟨.box rfl (.d rfl),trivial⟩ qd)⟩
 refine cwR (
  .c (uM rfl)<|
  .c (qj rfl rfl .no Tryz.func56 rfl rfl (qv2 hx2) (.cons rfl .d .nil) ⟨trivial,trivial⟩ (.inl rfl))<|
  .c (uT rfl)<|
  .c (uM rfl)<|
  .c (o_mv rfl rfl (.yes rfl rfl hc1) rfl)<|
  .c (qc rfl rfl (.yes rfl rfl hc1) rfl rfl (q31 _ _) rfl)<|
  .c (uPF rfl hc1)<|
  .c (uM rfl)<|
  .c (o_mv rfl rfl (.yes rfl rfl hc2) rfl)<|
  .c (qc rfl rfl (.yes rfl rfl hc2) rfl rfl (b_gtr _ _) rfl)<|
  .c (uPF rfl hc2)<|.nil rfl
 ) ?_
 exact ⟨(decide (a1 > 4294967295)),(sJ h9),.w (wkF ⟨wD rfl,wD rfl,⟨_,rfl,.ptr rfl rfl⟩,wD rfl,trivial⟩ ⟨.box rfl (.d rfl),trivial⟩ qd)⟩
theorem qA1 {a0 : Int} {a1 : Int} {r : (B8 × Bool)} (h : qi0 a0 a1 = some r) : FnOk Tryz.prog 25 [.d (eint a0),.d (eint a1)] 0 (lk []) (fun rr oo => rr = .tup [.d (eK r.1),.d (qz r.2)] ∧ oo = lk []) := qg1 (key_Chunk_okc h)
theorem key_of_ok {a0 : List UInt8} {r : Int} (h : key_of a0 = some r) : FnOk Tryz.prog 38 [.d (qS3 a0)] 0 (lk []) (fun rr oo => rr = .d (eint r) ∧ oo = lk []) := by
 refine fnO Tryz.func38 rfl rfl (cwP ?_)
 unfold key_of at h
 refine cwS (cwR (
  .c (uA rfl)<|.nil rfl) ?_)
 refine cwS (cwR (
  .c (uA rfl)<|.nil rfl) ?_)
 have ⟨o0,hj0,h0⟩ := bdS h
 refine cwJ (fun (z : Int) => St.of [(3,.d (eint z))] []) (fun (z : Int) => o0 = z) ?_ ?_
 ·intro v0 hv0; subst hv0
  refine cwS (cwR (
   .c (uM rfl)<|
   .c (uA rfl)<|.nil rfl) ?_)
  have heq := ((sJ h0)).symm
  subst heq
  exact qe ⟨_,(show Leads _ _ (St.of [(2,.d (eint o0))] []) from .w (wkF ⟨wD rfl,trivial⟩ trivial qd)),.inr rfl,_,res1 rfl rfl,rfl,rfl⟩
 refine cwS (cwR (
  .c (uM rfl)<|
  .c (qo0 (enc := u8D) (xs := a0) rfl rfl .no rfl sl26)<|
  .c (uM rfl)<|.nil rfl) ?_)
 refine cwB ?_
 refine qr (V := (Int × Int)) (O := Int) (fun (z : (Int × Int)) => St.of [(3,.d (eint z.1)),(6,.d (qS3 a0)),(7,.d (eint (a0.length : Int))),(8,.d (eint z.2))] []) hj0 (.w (wkF ⟨wD rfl,wD rfl,wD rfl,wD rfl,trivial⟩ trivial qd)) ?_
 intro v1 x0 hb0 hx0
 refine cwS (cwR (
  .c (uB rfl (q31 _ _) rfl)<|.nil rfl) ?_)
 refine cwS ?_
 rcases cdS hb0 with ⟨hc0,h1⟩ | ⟨hc0,h2⟩
 ·refine cwT rfl hc0 ?_
  refine cwK ?_
  refine cwS ?_
  refine cwB ?_
  have ⟨x1,hx1,h3⟩ := bdS h1
  have hx1g := qn hx1
  refine cwS (cwR (
   .c (qZ1 (enc := u8D) (xs := a0) rfl rfl .no rfl rfl sl26 sz5 hx1g.1 hx1g.2)<|
   .c (o_ld rfl rfl .no rfl ta5 rfl rfl)<|
   .c (uA rfl)<|.nil rfl) ?_)
  refine cwR (
   .c (uM rfl)<|
   .c (uB rfl (b_shl _ _ (by decide)) rfl)<|
   .c (uM rfl)<|
   .c (qU1 rfl rfl .no rfl un5 un3)<|
   .c (uB rfl (b_or _ _) rfl)<|
   .c (uA rfl)<|.nil rfl
  ) ?_
  refine cwR (
   .c (uB rfl (q61 _ _) rfl)<|
   .c (uM rfl)<|.nil rfl
  ) ?_
  exact ⟨((bitsOr .i64 (IntKind.wrap .i64 (v1.1 * 2 ^ 8)) (IntKind.wrap .i64 (x1.toNat : Int))),(IntKind.wrap .i64 (v1.2 + 1))),(sJ h3),.w (wkF ⟨wD rfl,wD rfl,wD rfl,wD rfl,trivial⟩ trivial qd)⟩
 refine cwF rfl hc0 ?_
 refine qG ?_
 exact ⟨v1.1,(hx0 _ (sJ h2)).symm,.w (wkF ⟨wD rfl,trivial⟩ trivial qd)⟩
theorem key_Of_okc {a0 : List UInt8} {r : ((Int × Int × ByteArray × Int) × Bool)} (h : qY3 a0 = some r) : FnOk Tryz.prog 16 [.d (eK a0)] 0 (lk []) (fun rr oo => rr = .tup [.d (qf1 r.1),.d (qz r.2)] ∧ oo = lk [(1,.box (.d (qf1 r.1)))]) := by
 refine fnO Tryz.func16 rfl rfl (cwP ?_)
 unfold qY3 at h
 refine cwS (cwR (
  .c (uX 0 rfl)<|
  .c (qm 1 rfl rfl .no ze43 rfl)<|
  .c (uA rfl)<|.nil rfl) ?_)
 have ⟨x0,hx0,h0⟩ := bdS (x := key_of (List.take 4 (List.drop 0 a0))) h
 have ⟨x1,hx1,h1⟩ := bdS h0
 have hx1g := qK hx1
 have ⟨x2,hx2,h2⟩ := bdS h1
 have hx2g := qn hx2
 refine cwS (cwRA mixed (by kernel_rfl) (
  .c (o_slC 0 4 24 rfl rfl .no rfl ar39 sz5 .no (.val rfl (by decide)) (by decide) (by decide) (by decide) (by decide) (by decide) (by decide))<|
  .c (qj rfl rfl .no Tryz.func38 rfl rfl (key_of_ok hx0) (.cons rfl (.bslP (m0 := 0) (lo := 0) [] rfl rfl rfl rfl) .nil) ⟨trivial,trivial⟩ (.inr (DFlat.v _)))<|
  .c (q45 rfl rfl .no rfl rfl ar39 sz5 hx1g)<|
  .c (o_ldB (l := a0) [] rfl rfl .no rfl rfl rfl hx2g.2 ta5)<|
  .c (qU1 rfl rfl .no rfl un5 un3)<|
  .c (qL4 (ds := [eint x0,eint (IntKind.wrap .i64 (x2.toNat : Int)),eStr (ByteArray.mk #[]),eint 0]) rfl rfl .no zs43 rfl pl43 (.cons rfl rfl rfl rfl rfl rfl rfl (.cons rfl rfl rfl rfl rfl rfl rfl .nil)))<|
  .c (qm 2 rfl rfl .no ze43 rfl)<|
  .c (uS [] rfl sz43 rfl)<|.nil rfl) (by kernel_rfl) ?_)
 refine cwS (cwR (
  .c (qm 3 rfl rfl .no ze39 rfl)<|.nil rfl) ?_)
 refine cwS (cwR (
  .c (uA rfl)<|.nil rfl) ?_)
 have ⟨o0,hj0,h3⟩ := bdS h2
 refine cwJ (fun (z : (Bool × (Int × Int × ByteArray × Int) × B8)) => St.of [(1,.ptr 0 0),(2,.ptr 1 0),(4,.ptr 2 0),(5,.ptr 3 0),(6,.d (qz z.1))] [(0,.box (.d (eK a0))),(1,.box (.d (qf1 (0,0,(ByteArray.mk #[]),0)))),(2,.box (.d (qf1 z.2.1))),(3,.box (.d (eK z.2.2)))]) (fun (z : (Bool × (Int × Int × ByteArray × Int) × B8)) => o0 = z) ?_ ?_
 ·intro v0 hv0; subst hv0
  refine cwS ?_
  have ⟨o1,hj1,h4⟩ := bdS h3
  refine cwJ (fun (z : Bool) => St.of [(2,.ptr 1 0),(4,.ptr 2 0),(60,.d (qz z))] [(1,.box (.d (qf1 (0,0,(ByteArray.mk #[]),0)))),(2,.box (.d (qf1 o0.2.1)))]) (fun (z : Bool) => o1 = z) ?_ ?_
  ·intro v1 hv1; subst hv1
   rcases cdS h4 with ⟨hc0,h5⟩ | ⟨hc0,h6⟩
   ·refine cwT rfl hc0 ?_
    refine cwS (cwR (
     .c (qL4 (ds := [eint 0,eint 0,eStr (ByteArray.mk #[]),eint 0]) rfl rfl .no zs43 rfl pl43 .nil)<|
     .c (uS [] rfl sz43 rfl)<|
     .c (uA rfl)<|.nil rfl) ?_)
    have heq := ((sJ h5)).symm
    subst heq
    exact qe ⟨_,(show Leads _ _ (St.of [(2,.ptr 1 0),(3,.d (qz false))] [(1,.box (.d (qf1 (0,0,(ByteArray.mk #[]),0))))]) from .w (wkF ⟨⟨_,rfl,.ptr rfl rfl⟩,wD rfl,trivial⟩ ⟨.box rfl (.d rfl),trivial⟩ qd)),.inr rfl,_,resCT rfl rfl rfl ta43 rfl rfl rfl,rfl,rfl⟩
   refine cwF rfl hc0 ?_
   refine cwK ?_
   refine cwS (cwR (
    .c (uL [] rfl ta43 rfl)<|
    .c (uS [] rfl sz43 rfl)<|
    .c (uA rfl)<|.nil rfl) ?_)
   have heq := ((sJ h6)).symm
   subst heq
   exact qe ⟨_,(show Leads _ _ (St.of [(2,.ptr 1 0),(3,.d (qz true))] [(1,.box (.d (qf1 o0.2.1)))]) from .w (wkF ⟨⟨_,rfl,.ptr rfl rfl⟩,wD rfl,trivial⟩ ⟨.box rfl (.d rfl),trivial⟩ qd)),.inr rfl,_,resCT rfl rfl rfl ta43 rfl rfl rfl,rfl,rfl⟩
  rcases cdS hj1 with ⟨hc1,h7⟩ | ⟨hc1,h8⟩
  ·skip
   refine cwR (
    .c (uM rfl)<|
    .c (uT rfl)<|
    .c (uM rfl)<|
    .c (uN rfl rfl hc1)<|
    .c (uN rfl rfl hc1)<|
    .c (uN rfl rfl hc1)<|
    .c (uPT rfl hc1)<|.nil rfl
   ) ?_
   exact ⟨true,(sJ h7),.w (wkF ⟨⟨_,rfl,.ptr rfl rfl⟩,⟨_,rfl,.ptr rfl rfl⟩,wD rfl,trivial⟩ ⟨.box rfl (.d rfl),.box rfl (.d rfl),trivial⟩ qd)⟩
  refine cwR (
   .c (uM rfl)<|
   .c (uT rfl)<|
   .c (uM rfl)<|
   .c (ql [] rfl rfl (.yes rfl rfl hc1) rfl rfl rfl ta39 rfl rfl)<|
   .c (ql [] rfl rfl (.yes rfl rfl hc1) rfl rfl rfl ta39 rfl rfl)<|
   .c (o_ne rfl rfl (.yes rfl rfl hc1) rfl rfl rfl rfl eg39 (.bs ar39 un5 sz5))<|
   .c (uPF rfl hc1)<|.nil rfl
  ) ?_
  exact ⟨(!(decide (o0.2.2 = a0))),(sJ h8),.w (wkF ⟨⟨_,rfl,.ptr rfl rfl⟩,⟨_,rfl,.ptr rfl rfl⟩,wD rfl,trivial⟩ ⟨.box rfl (.d rfl),.box rfl (.d rfl),trivial⟩ qd)⟩
 refine cwS (cwR (
  .c (uF rfl fld43_1 rfl)<|
  .c (uL [1] rfl ta3 rfl)<|.nil rfl) ?_)
 refine cwB ?_
 refine cwS (cwR (
  .c (uB rfl (q43 _ _) rfl)<|
  .c (uA rfl)<|.nil rfl) ?_)
 rcases cdS hj0 with ⟨hc2,h9⟩ | ⟨hc2,h10⟩
 ·refine cwT rfl hc2 ?_
  have ⟨x3,hx3,h11⟩ := bdS (x := q02 x0) h9
  refine cwR (
   .c (uF rfl fld43_0 rfl)<|
   .c (uL [0] rfl ta3 rfl)<|
   .c (qj rfl rfl .no Tryz.func39 rfl rfl (key_Inode_ok hx3) (.cons rfl .d .nil) ⟨trivial,trivial⟩ (.inl rfl))<|
   .c (uM rfl)<|
   .c (uE rfl)<|
   .c (uE rfl)<|
   .c (uS [] rfl sz39 rfl)<|
   .c (uA rfl)<|.nil rfl
  ) ?_
  exact ⟨(x3.2,(x0,(IntKind.wrap .i64 (x2.toNat : Int)),(ByteArray.mk #[]),0),x3.1),(sJ h11),.w (wkF ⟨⟨_,rfl,.ptr rfl rfl⟩,⟨_,rfl,.ptr rfl rfl⟩,⟨_,rfl,.ptr rfl rfl⟩,⟨_,rfl,.ptr rfl rfl⟩,wD rfl,trivial⟩ ⟨.box rfl (.d rfl),.box rfl (.d rfl),.box rfl (.d rfl),.box rfl (.d rfl),trivial⟩ qd)⟩
 refine cwF rfl hc2 ?_
 refine cwS (cwR (
  .c (uB rfl (q43 _ _) rfl)<|
  .c (uA rfl)<|.nil rfl) ?_)
 rcases cdS h10 with ⟨hc3,h12⟩ | ⟨hc3,h13⟩
 ·refine cwT rfl hc3 ?_
  exact nomatch h12
 refine cwF rfl hc3 ?_
 refine cwS (cwR (
  .c (uB rfl (q43 _ _) rfl)<|
  .c (uA rfl)<|.nil rfl) ?_)
 rcases cdS h13 with ⟨hc4,h14⟩ | ⟨hc4,h15⟩
 ·refine cwT rfl hc4 ?_
  have ⟨x4,hx4,h16⟩ := bdS (x := key_of (List.take 4 (List.drop 20 a0))) h14
  refine cwS (cwR (
   .c (o_slC 20 4 4 rfl rfl .no rfl ar39 sz5 (.val rfl (by decide)) .no (by decide) (by decide) (by decide) (by decide) (by decide) (by decide))<|
   .c (qj rfl rfl .no Tryz.func38 rfl rfl (key_of_ok hx4) (.cons rfl (.bslP (m0 := 0) (lo := 20) [] rfl rfl rfl rfl) .nil) ⟨trivial,trivial⟩ (.inr (DFlat.v _)))<|
   .c (uF rfl qS4 rfl)<|
   .c (uS [3] rfl sz3 rfl)<|.nil rfl) ?_)
  have ⟨x5,hx5,h17⟩ := bdS (x := qi0 x0 x4) h16
  refine cwR (
   .c (uF rfl fld43_0 rfl)<|
   .c (uL [0] rfl ta3 rfl)<|
   .c (uF rfl qS4 rfl)<|
   .c (uL [3] rfl ta3 rfl)<|
   .c (qj rfl rfl .no Tryz.func25 rfl rfl (qA1 hx5) (.cons rfl .d (.cons rfl .d .nil)) ⟨trivial,trivial,trivial⟩ (.inl rfl))<|
   .c (uM rfl)<|
   .c (uE rfl)<|
   .c (uE rfl)<|
   .c (uS [] rfl sz39 rfl)<|
   .c (uA rfl)<|.nil rfl
  ) ?_
  exact ⟨(x5.2,(x0,(IntKind.wrap .i64 (x2.toNat : Int)),(ByteArray.mk #[]),x4),x5.1),(sJ h17),.w (wkF ⟨⟨_,rfl,.ptr rfl rfl⟩,⟨_,rfl,.ptr rfl rfl⟩,⟨_,rfl,.ptr rfl rfl⟩,⟨_,rfl,.ptr rfl rfl⟩,wD rfl,trivial⟩ ⟨.box rfl (.d rfl),.box rfl (.d rfl),.box rfl (.d rfl),.box rfl (.d rfl),trivial⟩ qd)⟩
 refine cwF rfl hc4 ?_
 refine cwK ?_
 exact ⟨(false,(x0,(IntKind.wrap .i64 (x2.toNat : Int)),(ByteArray.mk #[]),0),(List.replicate 24 0)),(sJ h15),.w (wkF ⟨⟨_,rfl,.ptr rfl rfl⟩,⟨_,rfl,.ptr rfl rfl⟩,⟨_,rfl,.ptr rfl rfl⟩,⟨_,rfl,.ptr rfl rfl⟩,wD rfl,trivial⟩ ⟨.box rfl (.d rfl),.box rfl (.d rfl),.box rfl (.d rfl),.box rfl (.d rfl),trivial⟩ qd)⟩
theorem key_Of_ok {a0 : List UInt8} {r : ((Int × Int × ByteArray × Int) × Bool)} (h : qY3 a0 = some r) : FnOk Tryz.prog 16 [.d (eK a0)] 0 (lk []) (fun rr oo => rr = .tup [.d (qf1 r.1),.d (qz r.2)] ∧ oo = lk []) := qg1 (key_Of_okc h)
theorem key_Chunks_okc {a0 : Int} {a1 : Int} {r : (B8 × B8 × Bool)} (h : qh2 a0 a1 = some r) : FnOk Tryz.prog 29 [.d (eint a0),.d (eint a1)] 0 (lk []) (fun rr oo => rr = .d (eSp r) ∧ oo = lk [(0,.box (.d (eSp r)))]) := by
 refine fnO Tryz.func29 rfl rfl (cwP ?_)
 unfold qh2 at h
 refine cwS (cwR (
  .c (qm 0 rfl rfl .no ze41 rfl)<|.nil rfl) ?_)
 have ⟨x0,hx0,h0⟩ := bdS (x := qi0 a0 a1) h
 refine cwS (cwR (
  .c (uM rfl)<|
  .c (uM rfl)<|
  .c (qj rfl rfl .no Tryz.func25 rfl rfl (qA1 hx0) (.cons rfl .d (.cons rfl .d .nil)) ⟨trivial,trivial,trivial⟩ (.inl rfl))<|
  .c (uM rfl)<|
  .c (uE rfl)<|
  .c (uE rfl)<|
  .c (qm 1 rfl rfl .no ze39 rfl)<|
  .c (uS [] rfl sz39 rfl)<|
  .c (uA rfl)<|.nil rfl) ?_)
 refine cwS ?_
 refine cwS (cwR (
  .c (uM rfl)<|
  .c (uT rfl)<|.nil rfl) ?_)
 rcases cdS h0 with ⟨hc0,h1⟩ | ⟨hc0,h2⟩
 ·refine cwT rfl hc0 ?_
  refine cwS (cwR (
   .c (qL4 (ds := [eK (List.replicate 24 0),eK (List.replicate 24 0),qz false]) rfl rfl .no zs41 rfl pl41 .nil)<|
   .c (uS [] rfl sz41 rfl)<|.nil rfl) ?_)
  have heq := ((sJ h1)).symm
  subst heq
  exact qe ⟨_,(show Leads _ _ (St.of [(4,.ptr 0 0)] [(0,.box (.d (eSp ((List.replicate 24 0),(List.replicate 24 0),false))))]) from .w (wkF ⟨⟨_,rfl,.ptr rfl rfl⟩,trivial⟩ ⟨.box rfl (.d rfl),trivial⟩ qd)),.inr rfl,_,resC rfl rfl rfl ta41 rfl rfl,rfl,rfl⟩
 refine cwF rfl hc0 ?_
 refine cwK ?_
 have ⟨x1,hx1,h3⟩ := bdS (x := qJ0 a0 4) h2
 refine cwS (cwRA mixed (by kernel_rfl) (
  .c (uL [] rfl ta39 rfl)<|
  .c (uM rfl)<|
  .c (qj rfl rfl .no Tryz.func57 rfl rfl (qo3 hx1) (.cons rfl .d (.cons rfl .d .nil)) ⟨trivial,trivial,trivial⟩ (.inl rfl))<|
  .c (qL4 (ds := [eK x0.1,eK x1,qz false]) rfl rfl .no zs41 rfl pl41 (.cons rfl rfl rfl rfl rfl rfl rfl (.cons rfl rfl rfl rfl rfl rfl rfl .nil)))<|
  .c (uS [] rfl sz41 rfl)<|.nil rfl) (by kernel_rfl) ?_)
 have heq := ((sJ h3)).symm
 subst heq
 exact qe ⟨_,(show Leads _ _ (St.of [(4,.ptr 0 0)] [(0,.box (.d (eSp (x0.1,x1,false))))]) from .w (wkF ⟨⟨_,rfl,.ptr rfl rfl⟩,trivial⟩ ⟨.box rfl (.d rfl),trivial⟩ qd)),.inr rfl,_,resC rfl rfl rfl ta41 rfl rfl,rfl,rfl⟩
theorem key_Chunks_ok {a0 : Int} {a1 : Int} {r : (B8 × B8 × Bool)} (h : qh2 a0 a1 = some r) : FnOk Tryz.prog 29 [.d (eint a0),.d (eint a1)] 0 (lk []) (fun rr oo => rr = .d (eSp r) ∧ oo = lk []) := qD0 (key_Chunks_okc h)
theorem inode_Trim_ok {a0 : ByteArray} {r : ByteArray} (h : qG0 a0 = some r) : FnOk Tryz.prog 30 [.d (eStr a0)] 0 (lk []) (fun rr oo => rr = .d (eStr r) ∧ oo = lk []) := by
 refine fnO Tryz.func30 rfl rfl (cwP ?_)
 unfold qG0 at h
 refine cwS (cwR (
  .c (uA rfl)<|.nil rfl) ?_)
 have ⟨x0,hx0,h0⟩ := bdS h
 have hx0g := qE hx0
 have ⟨x1,hx1,h1⟩ := bdS (x := strTrimR (a0.extract 0 (min (a0.size : Int) 32).toNat) (ByteArray.mk #[0])) h0
 refine cwS (cwR (
  .c (uM rfl)<|
  .c (uM rfl)<|
  .c (qa3 rfl rfl .no rfl un9)<|
  .c (o_min rfl rfl .no rfl rfl)<|
  .c (qg5 rfl rfl .no rfl un9 .no (.val rfl hx0g.2.1) hx0g.2.2.1 hx0g.2.2.2)<|
  .c (qj rfl rfl .no Tryz.func61 rfl rfl (strTrimR_ok hx1) (.cons rfl .d (.cons rfl .d .nil)) ⟨trivial,trivial,trivial⟩ (.inl rfl))<|
  .c (uA rfl)<|.nil rfl) ?_)
 have heq := ((sJ h1)).symm
 subst heq
 exact qe ⟨_,(show Leads _ _ (St.of [(2,.d (eStr x1))] []) from .w (wkF ⟨wD rfl,trivial⟩ trivial qd)),.inr rfl,_,res1 rfl rfl,rfl,rfl⟩
theorem inode_Full_ok {a0 : ByteArray} {r : ByteArray} (h : qc1 a0 = some r) : FnOk Tryz.prog 34 [.d (eStr a0)] 0 (lk []) (fun rr oo => rr = .d (eStr r) ∧ oo = lk []) := by
 refine fnO Tryz.func34 rfl rfl (cwP ?_)
 unfold qc1 at h
 refine cwS (cwR (
  .c (uA rfl)<|.nil rfl) ?_)
 have ⟨x0,hx0,h0⟩ := bdS h
 have hx0g := qE hx0
 refine cwS (cwR (
  .c (uM rfl)<|
  .c (uM rfl)<|
  .c (qa3 rfl rfl .no rfl un9)<|
  .c (o_min rfl rfl .no rfl rfl)<|
  .c (qg5 rfl rfl .no rfl un9 .no (.val rfl hx0g.2.1) hx0g.2.2.1 hx0g.2.2.2)<|
  .c (uA rfl)<|.nil rfl) ?_)
 have ⟨x1,hx1,h1⟩ := bdS (x := qy3 (ByteArray.mk #[0]) (IntKind.wrap .i64 (32 - ((a0.extract 0 (min (a0.size : Int) 32).toNat).size : Int)))) h0
 have ⟨x2,hx2,h2⟩ := bdS h1
 have hx2g := qK hx2
 refine cwS (cwR (
  .c (uM rfl)<|
  .c (uM rfl)<|
  .c (qa3 rfl rfl .no rfl un9)<|
  .c (uB rfl (qy4 _ _) rfl)<|
  .c (qj rfl rfl .no Tryz.func66 rfl rfl (strRepeat_ok hx1) (.cons rfl .d (.cons rfl .d .nil)) ⟨trivial,trivial,trivial⟩ (.inl rfl))<|
  .c (qc rfl rfl .no rfl rfl (s_add _ _ hx2g) rfl)<|
  .c (uA rfl)<|.nil rfl) ?_)
 have heq := ((sJ h2)).symm
 subst heq
 exact qe ⟨_,(show Leads _ _ (St.of [(2,.d (eStr ((a0.extract 0 (min (a0.size : Int) 32).toNat) ++ x1)))] []) from .w (wkF ⟨wD rfl,trivial⟩ trivial qd)),.inr rfl,_,res1 rfl rfl,rfl,rfl⟩
theorem q13 {a0 : Int} {a1 : Int} {a2 : Int} {r : Bool} (h : q22 a0 a1 a2 = some r) : FnOk Tryz.prog 28 [.d (eint a0),.d (eint a1),.d (eint a2)] 0 (lk []) (fun rr oo => rr = .d (qz r) ∧ oo = lk []) := by
 refine fnO Tryz.func28 rfl rfl (cwP ?_)
 unfold q22 at h
 refine cwS (cwR (
  .c (uA rfl)<|.nil rfl) ?_)
 have ⟨x0,hx0,h0⟩ := bdS (x := q02 a0) h
 refine cwS (cwR (
  .c (uM rfl)<|
  .c (qj rfl rfl .no Tryz.func39 rfl rfl (key_Inode_ok hx0) (.cons rfl .d .nil) ⟨trivial,trivial⟩ (.inl rfl))<|
  .c (uM rfl)<|
  .c (uE rfl)<|
  .c (uE rfl)<|
  .c (qm 0 rfl rfl .no ze39 rfl)<|
  .c (uS [] rfl sz39 rfl)<|
  .c (uA rfl)<|.nil rfl) ?_)
 have ⟨o0,hj0,h1⟩ := bdS h0
 refine cwJ (fun (z : Bool) => St.of [(6,.d (qz z))] []) (fun (z : Bool) => o0 = z) ?_ ?_
 ·intro v0 hv0; subst hv0
  have heq := ((sJ h1)).symm
  subst heq
  exact qe ⟨_,(show Leads _ _ (St.of [(6,.d (qz o0))] []) from .w (wkF ⟨wD rfl,trivial⟩ trivial qd)),.inr rfl,_,res1 rfl rfl,rfl,rfl⟩
 rcases cdS hj0 with ⟨hc0,h2⟩ | ⟨hc0,h3⟩
 ·skip
  rcases cdS h2 with ⟨hc1,h4⟩ | ⟨hc1,h5⟩
  ·skip
   rcases cdS h4 with ⟨hc2,h6⟩ | ⟨hc2,h7⟩
   ·skip
    refine cwR (
     .c (uM rfl)<|
     .c (uM rfl)<|
     .c (o_mv rfl rfl (.yes rfl rfl hc0) rfl)<|
     .c (o_mv rfl rfl (.yes rfl rfl hc0) rfl)<|
     .c (o_min rfl rfl (.yes rfl rfl hc0) rfl rfl)<|
     .c (qc rfl rfl (.yes rfl rfl hc0) rfl rfl (qD4 _ _) rfl)<|
     .c (uPT rfl hc0)<|
     .c (uM rfl)<|
     .c (o_mv rfl rfl (.yes rfl rfl hc1) rfl)<|
     .c (qc rfl rfl (.yes rfl rfl hc1) rfl rfl (b_leq _ _) rfl)<|
     .c (uPT rfl hc1)<|
     .c (uM rfl)<|
     .c (o_mv rfl rfl (.yes rfl rfl hc2) rfl)<|
     .c (o_mv rfl rfl (.yes rfl rfl hc2) rfl)<|
     .c (qc rfl rfl (.yes rfl rfl hc2) rfl rfl (qy4 _ _) rfl)<|
     .c (qc rfl rfl (.yes rfl rfl hc2) rfl rfl (b_leq _ _) rfl)<|
     .c (uPT rfl hc2)<|
     .c (uA rfl)<|.nil rfl
    ) ?_
    exact ⟨(decide (a2 ≤ (IntKind.wrap .i64 (1048576 - a1)))),(sJ h6),.w (wkF ⟨wD rfl,trivial⟩ trivial qd)⟩
   refine cwR (
    .c (uM rfl)<|
    .c (uM rfl)<|
    .c (o_mv rfl rfl (.yes rfl rfl hc0) rfl)<|
    .c (o_mv rfl rfl (.yes rfl rfl hc0) rfl)<|
    .c (o_min rfl rfl (.yes rfl rfl hc0) rfl rfl)<|
    .c (qc rfl rfl (.yes rfl rfl hc0) rfl rfl (qD4 _ _) rfl)<|
    .c (uPT rfl hc0)<|
    .c (uM rfl)<|
    .c (o_mv rfl rfl (.yes rfl rfl hc1) rfl)<|
    .c (qc rfl rfl (.yes rfl rfl hc1) rfl rfl (b_leq _ _) rfl)<|
    .c (uPT rfl hc1)<|
    .c (uM rfl)<|
    .c (uN rfl rfl hc2)<|
    .c (uN rfl rfl hc2)<|
    .c (uN rfl rfl hc2)<|
    .c (uN rfl rfl hc2)<|
    .c (uPF rfl hc2)<|
    .c (uA rfl)<|.nil rfl
   ) ?_
   exact ⟨false,(sJ h7),.w (wkF ⟨wD rfl,trivial⟩ trivial qd)⟩
  refine cwR (
   .c (uM rfl)<|
   .c (uM rfl)<|
   .c (o_mv rfl rfl (.yes rfl rfl hc0) rfl)<|
   .c (o_mv rfl rfl (.yes rfl rfl hc0) rfl)<|
   .c (o_min rfl rfl (.yes rfl rfl hc0) rfl rfl)<|
   .c (qc rfl rfl (.yes rfl rfl hc0) rfl rfl (qD4 _ _) rfl)<|
   .c (uPT rfl hc0)<|
   .c (uM rfl)<|
   .c (uN rfl rfl hc1)<|
   .c (uN rfl rfl hc1)<|
   .c (uPF rfl hc1)<|
   .c (uM rfl)<|
   .c (uN rfl rfl rfl)<|
   .c (uN rfl rfl rfl)<|
   .c (uN rfl rfl rfl)<|
   .c (uN rfl rfl rfl)<|
   .c (uPF rfl rfl)<|
   .c (uA rfl)<|.nil rfl
  ) ?_
  exact ⟨false,(sJ h5),.w (wkF ⟨wD rfl,trivial⟩ trivial qd)⟩
 refine cwR (
  .c (uM rfl)<|
  .c (uM rfl)<|
  .c (uN rfl rfl hc0)<|
  .c (uN rfl rfl hc0)<|
  .c (uN rfl rfl hc0)<|
  .c (uN rfl rfl hc0)<|
  .c (uPF rfl hc0)<|
  .c (uM rfl)<|
  .c (uN rfl rfl rfl)<|
  .c (uN rfl rfl rfl)<|
  .c (uPF rfl rfl)<|
  .c (uM rfl)<|
  .c (uN rfl rfl rfl)<|
  .c (uN rfl rfl rfl)<|
  .c (uN rfl rfl rfl)<|
  .c (uN rfl rfl rfl)<|
  .c (uPF rfl rfl)<|
  .c (uA rfl)<|.nil rfl
 ) ?_
 exact ⟨false,(sJ h3),.w (wkF ⟨wD rfl,trivial⟩ trivial qd)⟩
theorem chunk_lay_ok {a0 : VwT} {a1 : Int} {a2 : Int} {a3 : ByteArray} {r : (Int × VwT)} (h : qe1 a0 a1 a2 a3 = some r) : FnOk Tryz.prog 31 [.ptr 0 0,.d (eint a1),.d (eint a2),.d (eStr a3)] 1 (lk [(0,.own (oVV a0))]) (fun rr oo => rr = .d (eErr r.1) ∧ oo = lk [(0,.own (oVV r.2))]) := by
 refine fnO Tryz.func31 rfl rfl (cwP ?_)
 unfold qe1 at h
 refine cwS (cwR (
  .c (uA rfl)<|.nil rfl) ?_)
 have ⟨x0,hx0,h0⟩ := bdS (x := qi0 a1 a2) h
 refine cwS (cwR (
  .c (uM rfl)<|
  .c (uM rfl)<|
  .c (qj rfl rfl .no Tryz.func25 rfl rfl (qA1 hx0) (.cons rfl .d (.cons rfl .d .nil)) ⟨trivial,trivial,trivial⟩ (.inl rfl))<|
  .c (uM rfl)<|
  .c (uE rfl)<|
  .c (uE rfl)<|
  .c (qm 1 rfl rfl .no ze39 rfl)<|
  .c (uS [] rfl sz39 rfl)<|
  .c (uA rfl)<|.nil rfl) ?_)
 refine cwS ?_
 have ⟨x1,hx1,h1⟩ := bdS (x := qG0 a3) h0
 refine cwS (cwR (
  .c (uM rfl)<|
  .c (qj rfl rfl .no Tryz.func30 rfl rfl (inode_Trim_ok hx1) (.cons rfl .d .nil) ⟨trivial,trivial⟩ (.inl rfl))<|
  .c (uA rfl)<|.nil rfl) ?_)
 refine cwS (cwR (
  .c (uM rfl)<|
  .c (qc rfl rfl .no rfl rfl (qd5 _ _) rfl)<|.nil rfl) ?_)
 rcases cdS h1 with ⟨hc0,h2⟩ | ⟨hc0,h3⟩
 ·refine cwT rfl hc0 ?_
  have ⟨x2,hx2,h4⟩ := bdS (x := qH0 a0 x0.1) h2
  refine cwS (cwR (
   .c (uM rfl)<|
   .c (uL [] rfl ta39 rfl)<|
   .c (qC (fun _ => 0) rfl rfl .no Tryz.func62 rfl rfl (ql4 hx2) (.cons rfl (.p rfl) (.cons rfl .d .nil)) (q60 rfl ⟨(by simp [AV.live,lk,Nat.beq]),trivial,trivial⟩ rfl (OD.dat_live (oVV_d _)) (by simp)) (.inl rfl))<|
   .c (uA rfl)<|.nil rfl) ?_)
  have heq := ((sJ h4)).symm
  subst heq
  exact qe ⟨_,(show Leads _ _ (St.of [(8,.d (eErr x2.1))] [(0,.own (oVV x2.2))]) from .w (wkF ⟨wD rfl,trivial⟩ ⟨.own rfl (.of_eq rfl (oVV_d _)),trivial⟩ (qq rfl))),.inr rfl,_,res1 rfl rfl,rfl,rfl⟩
 refine cwF rfl hc0 ?_
 refine cwK ?_
 have ⟨x3,hx3,h5⟩ := bdS (x := qr1 a0 x0.1 x1) h3
 refine cwS (cwR (
  .c (uM rfl)<|
  .c (uL [] rfl ta39 rfl)<|
  .c (uM rfl)<|
  .c (qC (fun _ => 0) rfl rfl .no Tryz.func63 rfl rfl (view_View_Put_ok hx3) (.cons rfl (.p rfl) (.cons rfl .d (.cons rfl .d .nil))) (q60 rfl ⟨(by simp [AV.live,lk,Nat.beq]),trivial,trivial,trivial⟩ rfl (OD.dat_live (oVV_d _)) (by simp)) (.inl rfl))<|
  .c (uA rfl)<|.nil rfl) ?_)
 have heq := ((sJ h5)).symm
 subst heq
 exact qe ⟨_,(show Leads _ _ (St.of [(8,.d (eErr x3.1))] [(0,.own (oVV x3.2))]) from .w (wkF ⟨wD rfl,trivial⟩ ⟨.own rfl (.of_eq rfl (oVV_d _)),trivial⟩ (qq rfl))),.inr rfl,_,res1 rfl rfl,rfl,rfl⟩
theorem qj3 {a0 : VwT} {a1 : Int} {a2 : Int} {a3 : Int} {r : (ByteArray × Int × VwT)} (h : qP a0 a1 a2 a3 = some r) : FnOk Tryz.prog 14 [.ptr 0 0,.d (eint a1),.d (eint a2),.d (eint a3)] 1 (lk [(0,.own (oVV a0))]) (fun rr oo => rr = .tup [.d (eStr r.1),.d (eErr r.2.1)] ∧ oo = lk [(0,.own (oVV r.2.2))]) := by
 refine fnO Tryz.func14 rfl rfl (cwP ?_)
 unfold qP at h
 refine cwS (cwR (
  .c (uA rfl)<|
  .c (uA rfl)<|.nil rfl) ?_)
 refine cwS ?_
 refine cwB ?_
 have ⟨x0,hx0,h0⟩ := bdS (x := q22 a1 a2 a3) h
 refine cwS (cwR (
  .c (uM rfl)<|
  .c (uM rfl)<|
  .c (uM rfl)<|
  .c (qj rfl rfl .no Tryz.func28 rfl rfl (q13 hx0) (.cons rfl .d (.cons rfl .d (.cons rfl .d .nil))) ⟨trivial,trivial,trivial,trivial⟩ (.inl rfl))<|
  .c (uT rfl)<|
  .c (uA rfl)<|.nil rfl) ?_)
 rcases cdS h0 with ⟨hc0,h1⟩ | ⟨hc0,h2⟩
 ·refine cwT rfl hc0 ?_
  refine cwS (cwR (
   .c (uA rfl)<|
   .c (uA rfl)<|.nil rfl) ?_)
  have heq := ((sJ h1)).symm
  subst heq
  exact qe ⟨_,(show Leads _ _ (St.of [(8,.d (eStr (ByteArray.mk #[]))),(9,.d (eErr 1))] [(0,.own (oVV a0))]) from .w (wkF ⟨wD rfl,wD rfl,trivial⟩ ⟨.own rfl (.of_eq rfl (oVV_d _)),trivial⟩ (qq rfl))),.inr rfl,_,res2 rfl rfl rfl,rfl,rfl⟩
 refine cwF rfl hc0 ?_
 refine cwS (cwR (
  .c (uM rfl)<|
  .c (uB rfl (q43 _ _) rfl)<|
  .c (uA rfl)<|.nil rfl) ?_)
 rcases cdS h2 with ⟨hc1,h3⟩ | ⟨hc1,h4⟩
 ·refine cwT rfl hc1 ?_
  refine cwS (cwR (
   .c (uA rfl)<|
   .c (uA rfl)<|.nil rfl) ?_)
  have heq := ((sJ h3)).symm
  subst heq
  exact qe ⟨_,(show Leads _ _ (St.of [(8,.d (eStr (ByteArray.mk #[]))),(9,.d (eErr 0))] [(0,.own (oVV a0))]) from .w (wkF ⟨wD rfl,wD rfl,trivial⟩ ⟨.own rfl (.of_eq rfl (oVV_d _)),trivial⟩ (qq rfl))),.inr rfl,_,res2 rfl rfl rfl,rfl,rfl⟩
 refine cwF rfl hc1 ?_
 refine cwK ?_
 refine cwS (cwR (
  .c (uM rfl)<|
  .c (uB rfl (b_quo _ _ (by decide)) rfl)<|
  .c (uM rfl)<|
  .c (uM rfl)<|
  .c (uB rfl (q61 _ _) rfl)<|
  .c (uB rfl (q61 _ _) rfl)<|
  .c (uB rfl (qy4 _ _) rfl)<|
  .c (uB rfl (b_quo _ _ (by decide)) rfl)<|
  .c (uA rfl)<|
  .c (uA rfl)<|.nil rfl) ?_)
 have ⟨x1,hx1,h5⟩ := bdS (x := qi0 a1 (IntKind.wrap .i64 (Int.tdiv a2 32))) h4
 refine cwS (cwR (
  .c (uM rfl)<|
  .c (uM rfl)<|
  .c (qj rfl rfl .no Tryz.func25 rfl rfl (qA1 hx1) (.cons rfl .d (.cons rfl .d .nil)) ⟨trivial,trivial,trivial⟩ (.inl rfl))<|
  .c (uM rfl)<|
  .c (uE rfl)<|
  .c (uE rfl)<|
  .c (qm 1 rfl rfl .no ze39 rfl)<|
  .c (uS [] rfl sz39 rfl)<|
  .c (uA rfl)<|.nil rfl) ?_)
 have ⟨x2,hx2,h6⟩ := bdS (x := qi0 a1 (IntKind.wrap .i64 (Int.tdiv (IntKind.wrap .i64 ((IntKind.wrap .i64 ((IntKind.wrap .i64 (a2 + a3)) + 32)) - 1)) 32))) h5
 refine cwS (cwR (
  .c (uM rfl)<|
  .c (uM rfl)<|
  .c (qj rfl rfl .no Tryz.func25 rfl rfl (qA1 hx2) (.cons rfl .d (.cons rfl .d .nil)) ⟨trivial,trivial,trivial⟩ (.inl rfl))<|
  .c (uM rfl)<|
  .c (uE rfl)<|
  .c (uE rfl)<|
  .c (qm 2 rfl rfl .no ze39 rfl)<|
  .c (uS [] rfl sz39 rfl)<|
  .c (uA rfl)<|.nil rfl) ?_)
 have ⟨x3,hx3,h7⟩ := bdS (x := qd0 a0 (x1.1,x2.1,false)) h6
 refine cwS (cwR (
  .c (uM rfl)<|
  .c (uL [] rfl ta39 rfl)<|
  .c (uL [] rfl ta39 rfl)<|
  .c (qL4 (ds := [eK x1.1,eK x2.1,qz false]) rfl rfl .no zs41 rfl pl41 (.cons rfl rfl rfl rfl rfl rfl rfl (.cons rfl rfl rfl rfl rfl rfl rfl .nil)))<|
  .c (qC (fun n => bif Nat.beq n 0 then 0 else 3) rfl rfl .no Tryz.func15 rfl rfl (q83 hx3) (.cons rfl (.p rfl) (.cons rfl .d .nil)) (qX1 rfl ⟨(by simp [AV.live,lk,Nat.beq]),trivial,trivial⟩ (by decide) rfl (OD.dat_live (oVV_d _)) rfl (by simp)) (.inl rfl))<|
  .c (uM rfl)<|
  .c (uE rfl)<|
  .c (uE rfl)<|
  .c (uA rfl)<|
  .c (uA rfl)<|.nil rfl) ?_)
 refine cwS ?_
 refine cwS (cwR (
  .c (uM rfl)<|
  .c (uB rfl (b_neq _ _) rfl)<|.nil rfl) ?_)
 rcases cdS h7 with ⟨hc2,h8⟩ | ⟨hc2,h9⟩
 ·refine cwT rfl hc2 ?_
  refine cwS (cwR (
   .c (uM rfl)<|
   .c (uA rfl)<|
   .c (uA rfl)<|.nil rfl) ?_)
  have heq := ((sJ h8)).symm
  subst heq
  exact qe ⟨_,(show Leads _ _ (St.of [(8,.d (eStr (ByteArray.mk #[]))),(9,.d (eErr x3.2.1))] [(0,.own (oVV x3.2.2))]) from .w (wkF ⟨wD rfl,wD rfl,trivial⟩ ⟨.own rfl (.of_eq rfl (oVV_d _)),trivial⟩ (qq rfl))),.inr rfl,_,res2 rfl rfl rfl,rfl,rfl⟩
 refine cwF rfl hc2 ?_
 refine cwK ?_
 have ⟨x4,hx4,h10⟩ := bdS h9
 have hx4g := qK hx4
 refine cwS (cwR (
  .c (uM rfl)<|
  .c (uM rfl)<|
  .c (uB rfl (qy4 _ _) rfl)<|
  .c (uB rfl (b_mul _ _) rfl)<|
  .c (o_mksl (n := (IntKind.wrap .i64 (32 * (IntKind.wrap .i64 ((IntKind.wrap .i64 (Int.tdiv (IntKind.wrap .i64 ((IntKind.wrap .i64 ((IntKind.wrap .i64 (a2 + a3)) + 32)) - 1)) 32)) - (IntKind.wrap .i64 (Int.tdiv a2 32))))))) 4 rfl rfl .no rfl rfl sl26 sz5 by5 zb5 hx4g rfl)<|
  .c (uA rfl)<|.nil rfl) ?_)
 have ⟨o0,hj0,h11⟩ := bdS h10
 refine cwJ (fun (z : B8) => St.of [(2,.d (eint a2)),(3,.d (eint a3)),(10,.d (eint (IntKind.wrap .i64 (Int.tdiv a2 32)))),(18,.arr 4 0)] [(0,.own (oVV x3.2.2)),(4,.arr 0 1 (z.map u8D))]) (fun (z : B8) => o0 = (.inl z)) ?_ ?_
 ·intro v0 hv0; subst hv0
  simp only [Sum.elim_inl] at h11
  refine cwS (cwR (
   .c (uM rfl)<|
   .c (uM rfl)<|
   .c (uB rfl (b_mul _ _) rfl)<|
   .c (uB rfl (qy4 _ _) rfl)<|
   .c (uA rfl)<|.nil rfl) ?_)
  refine cwW (wkF (l := [(2,.d (eint (IntKind.wrap .i64 (a2 - (IntKind.wrap .i64 (32 * (IntKind.wrap .i64 (Int.tdiv a2 32)))))))),(3,.d (eint a3)),(18,.d (qS3 v0))]) (m := [(0,.own (oVV x3.2.2))]) ⟨wD rfl,wD rfl,⟨_,rfl,.frz rfl rfl rfl⟩,trivial⟩ ⟨.own rfl (.of_eq rfl (oVV_d _)),trivial⟩ (qq rfl)) ?_
  have ⟨x5,hx5,h12⟩ := bdS h11
  have hx5g := qE hx5
  refine cwS (cwR (
   .c (uM rfl)<|
   .c (uM rfl)<|
   .c (uM rfl)<|
   .c (uM rfl)<|
   .c (uB rfl (q61 _ _) rfl)<|
   .c (o_slM (enc := u8D) (xs := v0) rfl rfl .no rfl sl26 sz5 (.val rfl hx5g.1) (.val rfl hx5g.2.1) hx5g.2.2.1 hx5g.2.2.2)<|
   .c (o_cvD rfl rfl .no rfl sl26 un5 un9)<|
   .c (uA rfl)<|
   .c (uA rfl)<|.nil rfl) ?_)
  have heq := ((sJ h12)).symm
  subst heq
  exact qe ⟨_,(show Leads _ _ (St.of [(8,.d (eStr (qi1 (qm0 v0 (IntKind.wrap .i64 (a2 - (IntKind.wrap .i64 (32 * (IntKind.wrap .i64 (Int.tdiv a2 32)))))) (IntKind.wrap .i64 ((IntKind.wrap .i64 (a2 - (IntKind.wrap .i64 (32 * (IntKind.wrap .i64 (Int.tdiv a2 32)))))) + a3)))))),(9,.d (eErr 0))] [(0,.own (oVV x3.2.2))]) from .w (wkF ⟨wD rfl,wD rfl,trivial⟩ ⟨.own rfl (.of_eq rfl (oVV_d _)),trivial⟩ (qq rfl))),.inr rfl,_,res2 rfl rfl rfl,rfl,rfl⟩
 refine cwS (cwR (
  .c (uM rfl)<|
  .c (q35 (enc := ePr) (xs := x3.1) rfl rfl .no rfl rfl sl35)<|
  .c (uM rfl)<|.nil rfl) ?_)
 refine cwB ?_
 refine qr (V := (Int × B8)) (O := (B8 ⊕ (ByteArray × Int × VwT))) (fun (z : (Int × B8)) => St.of [(2,.d (eint a2)),(3,.d (eint a3)),(10,.d (eint (IntKind.wrap .i64 (Int.tdiv a2 32)))),(11,.d (eint (IntKind.wrap .i64 (Int.tdiv (IntKind.wrap .i64 ((IntKind.wrap .i64 ((IntKind.wrap .i64 (a2 + a3)) + 32)) - 1)) 32)))),(18,.arr 4 0),(68,.arr 3 0),(69,.d (eint (x3.1.length : Int))),(70,.d (eint z.1))] [(0,.own (oVV x3.2.2)),(3,.arr 0 25 (x3.1.map ePr)),(4,.arr 0 1 (z.2.map u8D))]) hj0 (.w (wkF ⟨wD rfl,wD rfl,wD rfl,wD rfl,⟨_,rfl,.arr rfl rfl⟩,⟨_,rfl,.arr rfl rfl⟩,wD rfl,wD rfl,trivial⟩ ⟨.own rfl (.of_eq rfl (oVV_d _)),.arr rfl rfl,.arr rfl rfl,trivial⟩ (qq rfl))) ?_
 intro v1 x6 hb0 hx6
 refine cwS (cwR (
  .c (uB rfl (q31 _ _) rfl)<|.nil rfl) ?_)
 refine cwS ?_
 rcases cdS hb0 with ⟨hc3,h13⟩ | ⟨hc3,h14⟩
 ·refine cwT rfl hc3 ?_
  refine cwK ?_
  refine cwS ?_
  refine cwB ?_
  have ⟨x7,hx7,h15⟩ := bdS h13
  have hx7g := qn hx7
  refine cwS (cwR (
   .c (q55 (enc := ePr) (xs := x3.1) rfl rfl .no rfl rfl rfl sl35 sz47 hx7g.1 hx7g.2)<|
   .c (o_ldEM (enc := ePr) (xs := x3.1) (r := x7) [] rfl rfl .no rfl rfl hx7g.2 rfl ta47 rfl rfl)<|
   .c (qm 5 rfl rfl .no ze47 rfl)<|
   .c (uS [] rfl sz47 rfl)<|.nil rfl) ?_)
  have ⟨x8,hx8,h16⟩ := bdS (x := qY3 x7.1) h15
  refine cwS (cwR (
   .c (uF rfl qK3 rfl)<|
   .c (uL [0] rfl ta39 rfl)<|
   .c (qj rfl rfl .no Tryz.func16 rfl rfl (key_Of_ok hx8) (.cons rfl .d .nil) ⟨trivial,trivial⟩ (.inl rfl))<|
   .c (uM rfl)<|
   .c (uE rfl)<|
   .c (uE rfl)<|
   .c (qm 6 rfl rfl .no ze43 rfl)<|
   .c (uS [] rfl sz43 rfl)<|
   .c (uA rfl)<|.nil rfl) ?_)
  refine cwS ?_
  have ⟨o1,hj1,h17⟩ := bdS h16
  refine cwJ (fun (z : Bool) => St.of [(2,.d (eint a2)),(3,.d (eint a3)),(10,.d (eint (IntKind.wrap .i64 (Int.tdiv a2 32)))),(11,.d (eint (IntKind.wrap .i64 (Int.tdiv (IntKind.wrap .i64 ((IntKind.wrap .i64 ((IntKind.wrap .i64 (a2 + a3)) + 32)) - 1)) 32)))),(18,.arr 4 0),(20,.ptr 5 0),(21,.ptr 6 0),(68,.arr 3 0),(69,.d (eint (x3.1.length : Int))),(70,.d (eint v1.1)),(93,.d (qz z))] [(0,.own (oVV x3.2.2)),(3,.arr 0 25 (x3.1.map ePr)),(4,.arr 0 1 (v1.2.map u8D)),(5,.box (.d (ePr x7))),(6,.box (.d (qf1 x8.1)))]) (fun (z : Bool) => o1 = z) ?_ ?_
  ·intro v2 hv1; subst hv1
   rcases cdS h17 with ⟨hc4,h18⟩ | ⟨hc4,h19⟩
   ·refine cwT rfl hc4 ?_
    refine cwS (cwR (
     .c (uA rfl)<|
     .c (uA rfl)<|.nil rfl) ?_)
    have he0 := ((hx6 _ (sJ h18)).symm).symm
    subst he0
    have heq := ((sJ h11)).symm
    subst heq
    exact qe ⟨_,(show Leads _ _ (St.of [(8,.d (eStr (ByteArray.mk #[]))),(9,.d (eErr 12))] [(0,.own (oVV x3.2.2))]) from .w (wkF ⟨wD rfl,wD rfl,trivial⟩ ⟨.own rfl (.of_eq rfl (oVV_d _)),trivial⟩ (qq rfl))),.inr rfl,_,res2 rfl rfl rfl,rfl,rfl⟩
   refine cwF rfl hc4 ?_
   refine cwK ?_
   have ⟨x9,hx9,h20⟩ := bdS h19
   have hx9g := qK hx9
   have ⟨x10,hx10,h21⟩ := bdS (x := qc1 x7.2) h20
   refine cwRA mixed (by kernel_rfl) (
    .c (uM rfl)<|
    .c (uF rfl qS4 rfl)<|
    .c (uL [3] rfl ta3 rfl)<|
    .c (uM rfl)<|
    .c (uB rfl (qy4 _ _) rfl)<|
    .c (uB rfl (b_mul _ _) rfl)<|
    .c (o_tailM (enc := u8D) (xs := v1.2) rfl rfl .no rfl rfl rfl sl26 sz5 hx9g.1 hx9g.2)<|
    .c (uF rfl qm3 rfl)<|
    .c (uL [1] rfl ta9 rfl)<|
    .c (qj rfl rfl .no Tryz.func34 rfl rfl (inode_Full_ok hx10) (.cons rfl .d .nil) ⟨trivial,trivial⟩ (.inl rfl))<|
    .c (o_cpA (xs := v1.2) rfl rfl .no rfl rfl rfl sl26 sz5 hx9g.2)<|.nil rfl) (by kernel_rfl) ?_
   refine cwR (
    .c (uB rfl (q61 _ _) rfl)<|
    .c (uM rfl)<|.nil rfl
   ) ?_
   exact ⟨((IntKind.wrap .i64 (v1.1 + 1)),(List.take (IntKind.wrap .i64 (32 * (IntKind.wrap .i64 (x8.1.2.2.2 - (IntKind.wrap .i64 (Int.tdiv a2 32)))))).toNat v1.2 ++ cpB (List.drop (IntKind.wrap .i64 (32 * (IntKind.wrap .i64 (x8.1.2.2.2 - (IntKind.wrap .i64 (Int.tdiv a2 32)))))).toNat v1.2) x10.data.toList)),(sJ h21),.w (wkF ⟨wD rfl,wD rfl,wD rfl,wD rfl,⟨_,rfl,.arr rfl rfl⟩,⟨_,rfl,.arr rfl rfl⟩,wD rfl,wD rfl,trivial⟩ ⟨.own rfl (.of_eq rfl (oVV_d _)),.arr rfl rfl,.arr rfl rfl,trivial⟩ (qq rfl))⟩
  rcases cdS hj1 with ⟨hc5,h22⟩ | ⟨hc5,h23⟩
  ·skip
   refine cwR (
    .c (uM rfl)<|
    .c (uT rfl)<|
    .c (uM rfl)<|
    .c (uN rfl rfl hc5)<|
    .c (uN rfl rfl hc5)<|
    .c (uN rfl rfl hc5)<|
    .c (uN rfl rfl hc5)<|
    .c (uPT rfl hc5)<|
    .c (uM rfl)<|
    .c (uN rfl rfl rfl)<|
    .c (uN rfl rfl rfl)<|
    .c (uN rfl rfl rfl)<|
    .c (uN rfl rfl rfl)<|
    .c (uPT rfl rfl)<|.nil rfl
   ) ?_
   exact ⟨true,(sJ h22),.w (wkF ⟨wD rfl,wD rfl,wD rfl,wD rfl,⟨_,rfl,.arr rfl rfl⟩,⟨_,rfl,.ptr rfl rfl⟩,⟨_,rfl,.ptr rfl rfl⟩,⟨_,rfl,.arr rfl rfl⟩,wD rfl,wD rfl,wD rfl,trivial⟩ ⟨.own rfl (.of_eq rfl (oVV_d _)),.arr rfl rfl,.arr rfl rfl,.box rfl (.d rfl),.box rfl (.d rfl),trivial⟩ (qq rfl))⟩
  rcases cdS h23 with ⟨hc6,h24⟩ | ⟨hc6,h25⟩
  ·skip
   refine cwR (
    .c (uM rfl)<|
    .c (uT rfl)<|
    .c (uM rfl)<|
    .c (qf rfl rfl (.yes rfl rfl hc5) rfl qS4 (by decide))<|
    .c (ql [3] rfl rfl (.yes rfl rfl hc5) rfl rfl rfl ta3 rfl rfl)<|
    .c (o_mv rfl rfl (.yes rfl rfl hc5) rfl)<|
    .c (qc rfl rfl (.yes rfl rfl hc5) rfl rfl (q31 _ _) rfl)<|
    .c (uPF rfl hc5)<|
    .c (uM rfl)<|
    .c (uN rfl rfl hc6)<|
    .c (uN rfl rfl hc6)<|
    .c (uN rfl rfl hc6)<|
    .c (uN rfl rfl hc6)<|
    .c (uPT rfl hc6)<|.nil rfl
   ) ?_
   exact ⟨true,(sJ h24),.w (wkF ⟨wD rfl,wD rfl,wD rfl,wD rfl,⟨_,rfl,.arr rfl rfl⟩,⟨_,rfl,.ptr rfl rfl⟩,⟨_,rfl,.ptr rfl rfl⟩,⟨_,rfl,.arr rfl rfl⟩,wD rfl,wD rfl,wD rfl,trivial⟩ ⟨.own rfl (.of_eq rfl (oVV_d _)),.arr rfl rfl,.arr rfl rfl,.box rfl (.d rfl),.box rfl (.d rfl),trivial⟩ (qq rfl))⟩
  refine cwR (
   .c (uM rfl)<|
   .c (uT rfl)<|
   .c (uM rfl)<|
   .c (qf rfl rfl (.yes rfl rfl hc5) rfl qS4 (by decide))<|
   .c (ql [3] rfl rfl (.yes rfl rfl hc5) rfl rfl rfl ta3 rfl rfl)<|
   .c (o_mv rfl rfl (.yes rfl rfl hc5) rfl)<|
   .c (qc rfl rfl (.yes rfl rfl hc5) rfl rfl (q31 _ _) rfl)<|
   .c (uPF rfl hc5)<|
   .c (uM rfl)<|
   .c (qf rfl rfl (.yes rfl rfl hc6) rfl qS4 (by decide))<|
   .c (ql [3] rfl rfl (.yes rfl rfl hc6) rfl rfl rfl ta3 rfl rfl)<|
   .c (o_mv rfl rfl (.yes rfl rfl hc6) rfl)<|
   .c (qc rfl rfl (.yes rfl rfl hc6) rfl rfl (qD4 _ _) rfl)<|
   .c (uPF rfl hc6)<|.nil rfl
  ) ?_
  exact ⟨(decide (x8.1.2.2.2 ≥ (IntKind.wrap .i64 (Int.tdiv (IntKind.wrap .i64 ((IntKind.wrap .i64 ((IntKind.wrap .i64 (a2 + a3)) + 32)) - 1)) 32)))),(sJ h25),.w (wkF ⟨wD rfl,wD rfl,wD rfl,wD rfl,⟨_,rfl,.arr rfl rfl⟩,⟨_,rfl,.ptr rfl rfl⟩,⟨_,rfl,.ptr rfl rfl⟩,⟨_,rfl,.arr rfl rfl⟩,wD rfl,wD rfl,wD rfl,trivial⟩ ⟨.own rfl (.of_eq rfl (oVV_d _)),.arr rfl rfl,.arr rfl rfl,.box rfl (.d rfl),.box rfl (.d rfl),trivial⟩ (qq rfl))⟩
 refine cwF rfl hc3 ?_
 refine qG ?_
 exact ⟨v1.2,(hx6 _ (sJ h14)).symm,.w (wkF ⟨wD rfl,wD rfl,wD rfl,⟨_,rfl,.arr rfl rfl⟩,trivial⟩ ⟨.own rfl (.of_eq rfl (oVV_d _)),.arr rfl rfl,trivial⟩ (qq rfl))⟩
theorem chunk_Cut_ok {a0 : VwT} {a1 : Int} {a2 : Int} {r : (Int × VwT)} (h : qp0 a0 a1 a2 = some r) : FnOk Tryz.prog 12 [.ptr 0 0,.d (eint a1),.d (eint a2)] 1 (lk [(0,.own (oVV a0))]) (fun rr oo => rr = .d (eErr r.1) ∧ oo = lk [(0,.own (oVV r.2))]) := by
 refine fnO Tryz.func12 rfl rfl (cwP ?_)
 unfold qp0 at h
 refine cwS (cwR (
  .c (uA rfl)<|.nil rfl) ?_)
 refine cwS ?_
 have ⟨x0,hx0,h0⟩ := bdS (x := q22 a1 0 a2) h
 refine cwS (cwR (
  .c (uM rfl)<|
  .c (uM rfl)<|
  .c (qj rfl rfl .no Tryz.func28 rfl rfl (q13 hx0) (.cons rfl .d (.cons rfl .d (.cons rfl .d .nil))) ⟨trivial,trivial,trivial,trivial⟩ (.inl rfl))<|
  .c (uT rfl)<|.nil rfl) ?_)
 rcases cdS h0 with ⟨hc0,h1⟩ | ⟨hc0,h2⟩
 ·refine cwT rfl hc0 ?_
  refine cwS (cwR (
   .c (uA rfl)<|.nil rfl) ?_)
  have heq := ((sJ h1)).symm
  subst heq
  exact qe ⟨_,(show Leads _ _ (St.of [(6,.d (eErr 1))] [(0,.own (oVV a0))]) from .w (wkF ⟨wD rfl,trivial⟩ ⟨.own rfl (.of_eq rfl (oVV_d _)),trivial⟩ (qq rfl))),.inr rfl,_,res1 rfl rfl,rfl,rfl⟩
 refine cwF rfl hc0 ?_
 refine cwK ?_
 refine cwS (cwR (
  .c (uM rfl)<|
  .c (uB rfl (b_quo _ _ (by decide)) rfl)<|
  .c (uA rfl)<|.nil rfl) ?_)
 have ⟨x1,hx1,h3⟩ := bdS (x := qh2 a1 (IntKind.wrap .i64 (Int.tdiv a2 32))) h2
 have ⟨x2,hx2,h4⟩ := bdS (x := qd0 a0 x1) h3
 refine cwS (cwR (
  .c (uM rfl)<|
  .c (uM rfl)<|
  .c (uM rfl)<|
  .c (qj rfl rfl .no Tryz.func29 rfl rfl (key_Chunks_ok hx1) (.cons rfl .d (.cons rfl .d .nil)) ⟨trivial,trivial,trivial⟩ (.inl rfl))<|
  .c (qC (fun n => bif Nat.beq n 0 then 0 else 1) rfl rfl .no Tryz.func15 rfl rfl (q83 hx2) (.cons rfl (.p rfl) (.cons rfl .d .nil)) (qX1 rfl ⟨(by simp [AV.live,lk,Nat.beq]),trivial,trivial⟩ (by decide) rfl (OD.dat_live (oVV_d _)) rfl (by simp)) (.inl rfl))<|
  .c (uM rfl)<|
  .c (uE rfl)<|
  .c (uE rfl)<|
  .c (uA rfl)<|
  .c (uA rfl)<|.nil rfl) ?_)
 refine cwS ?_
 refine cwS (cwR (
  .c (uM rfl)<|
  .c (uB rfl (b_neq _ _) rfl)<|.nil rfl) ?_)
 rcases cdS h4 with ⟨hc1,h5⟩ | ⟨hc1,h6⟩
 ·refine cwT rfl hc1 ?_
  refine cwS (cwR (
   .c (uM rfl)<|
   .c (uA rfl)<|.nil rfl) ?_)
  have heq := ((sJ h5)).symm
  subst heq
  exact qe ⟨_,(show Leads _ _ (St.of [(6,.d (eErr x2.2.1))] [(0,.own (oVV x2.2.2))]) from .w (wkF ⟨wD rfl,trivial⟩ ⟨.own rfl (.of_eq rfl (oVV_d _)),trivial⟩ (qq rfl))),.inr rfl,_,res1 rfl rfl,rfl,rfl⟩
 refine cwF rfl hc1 ?_
 refine cwK ?_
 have ⟨o0,hj0,h7⟩ := bdS h6
 refine cwJ (fun (z : VwT) => St.of [] [(0,.own (oVV z))]) (fun (z : VwT) => o0 = (.inl z)) ?_ ?_
 ·intro v0 hv0; subst hv0
  simp only [Sum.elim_inl] at h7
  refine cwS (cwR (
   .c (uA rfl)<|.nil rfl) ?_)
  have heq := ((sJ h7)).symm
  subst heq
  exact qe ⟨_,(show Leads _ _ (St.of [(6,.d (eErr 0))] [(0,.own (oVV v0))]) from .w (wkF ⟨wD rfl,trivial⟩ ⟨.own rfl (.of_eq rfl (oVV_d _)),trivial⟩ (qq rfl))),.inr rfl,_,res1 rfl rfl,rfl,rfl⟩
 refine cwS (cwR (
  .c (uM rfl)<|
  .c (q35 (enc := ePr) (xs := x2.1) rfl rfl .no rfl rfl sl35)<|
  .c (uM rfl)<|.nil rfl) ?_)
 refine cwB ?_
 refine qr (V := (Int × VwT)) (O := (VwT ⊕ (Int × VwT))) (fun (z : (Int × VwT)) => St.of [(0,.ptr 0 0),(1,.d (eint a1)),(2,.d (eint a2)),(7,.d (eint (IntKind.wrap .i64 (Int.tdiv a2 32)))),(34,.arr 1 0),(35,.d (eint (x2.1.length : Int))),(36,.d (eint z.1))] [(0,.own (oVV z.2)),(1,.arr 0 25 (x2.1.map ePr))]) hj0 (.w (wkF ⟨⟨_,rfl,.ptro rfl rfl⟩,wD rfl,wD rfl,wD rfl,⟨_,rfl,.arr rfl rfl⟩,wD rfl,wD rfl,trivial⟩ ⟨.own rfl (.of_eq rfl (oVV_d _)),.arr rfl rfl,trivial⟩ (qq rfl))) ?_
 intro v1 x3 hb0 hx3
 refine cwS (cwR (
  .c (uB rfl (q31 _ _) rfl)<|.nil rfl) ?_)
 refine cwS ?_
 rcases cdS hb0 with ⟨hc2,h8⟩ | ⟨hc2,h9⟩
 ·refine cwT rfl hc2 ?_
  refine cwK ?_
  have ⟨o1,hj1,h10⟩ := bdS h8
  refine cwJ (fun (z : VwT) => St.of [(0,.ptr 0 0),(1,.d (eint a1)),(2,.d (eint a2)),(7,.d (eint (IntKind.wrap .i64 (Int.tdiv a2 32)))),(34,.arr 1 0),(35,.d (eint (x2.1.length : Int))),(36,.d (eint v1.1))] [(0,.own (oVV z)),(1,.arr 0 25 (x2.1.map ePr))]) (fun (z : VwT) => o1 = (.inl z)) ?_ ?_
  ·intro v2 hv1; subst hv1
   simp only [Sum.elim_inl] at h10
   refine cwR (
    .c (uB rfl (q61 _ _) rfl)<|
    .c (uM rfl)<|.nil rfl
   ) ?_
   exact ⟨((IntKind.wrap .i64 (v1.1 + 1)),v2),(sJ h10),.w (wkF ⟨⟨_,rfl,.ptro rfl rfl⟩,wD rfl,wD rfl,wD rfl,⟨_,rfl,.arr rfl rfl⟩,wD rfl,wD rfl,trivial⟩ ⟨.own rfl (.of_eq rfl (oVV_d _)),.arr rfl rfl,trivial⟩ (qq rfl))⟩
  refine cwB ?_
  have ⟨x4,hx4,h11⟩ := bdS hj1
  have hx4g := qn hx4
  refine cwS (cwR (
   .c (q55 (enc := ePr) (xs := x2.1) rfl rfl .no rfl rfl rfl sl35 sz47 hx4g.1 hx4g.2)<|
   .c (o_ldEM (enc := ePr) (xs := x2.1) (r := x4) [] rfl rfl .no rfl rfl hx4g.2 rfl ta47 rfl rfl)<|
   .c (qm 2 rfl rfl .no ze47 rfl)<|
   .c (uS [] rfl sz47 rfl)<|.nil rfl) ?_)
  have ⟨x5,hx5,h12⟩ := bdS (x := qY3 x4.1) h11
  refine cwS (cwR (
   .c (uF rfl qK3 rfl)<|
   .c (uL [0] rfl ta39 rfl)<|
   .c (qj rfl rfl .no Tryz.func16 rfl rfl (key_Of_ok hx5) (.cons rfl .d .nil) ⟨trivial,trivial⟩ (.inl rfl))<|
   .c (uM rfl)<|
   .c (uE rfl)<|
   .c (uE rfl)<|
   .c (qm 3 rfl rfl .no ze43 rfl)<|
   .c (uS [] rfl sz43 rfl)<|
   .c (uA rfl)<|.nil rfl) ?_)
  refine cwS ?_
  refine cwS (cwR (
   .c (uM rfl)<|
   .c (uT rfl)<|.nil rfl) ?_)
  rcases cdS h12 with ⟨hc3,h13⟩ | ⟨hc3,h14⟩
  ·refine cwT rfl hc3 ?_
   refine cwS (cwR (
    .c (uA rfl)<|.nil rfl) ?_)
   have he0 := ((sJ h13)).symm
   subst he0
   have he1 := ((hx3 _ (sJ h10)).symm).symm
   subst he1
   have heq := ((sJ h7)).symm
   subst heq
   exact qe ⟨_,(show Leads _ _ (St.of [(6,.d (eErr 12))] [(0,.own (oVV v1.2))]) from .w (wkF ⟨wD rfl,trivial⟩ ⟨.own rfl (.of_eq rfl (oVV_d _)),trivial⟩ (qq rfl))),.inr rfl,_,res1 rfl rfl,rfl,rfl⟩
  refine cwF rfl hc3 ?_
  refine cwK ?_
  refine cwS (cwR (
   .c (uA rfl)<|.nil rfl) ?_)
  have ⟨o2,hj2,h15⟩ := bdS h14
  refine cwJ (fun (z : Int) => St.of [(0,.ptr 0 0),(1,.d (eint a1)),(2,.d (eint a2)),(7,.d (eint (IntKind.wrap .i64 (Int.tdiv a2 32)))),(11,.ptr 2 0),(12,.ptr 3 0),(14,.d (eint z)),(34,.arr 1 0),(35,.d (eint (x2.1.length : Int))),(36,.d (eint v1.1))] [(0,.own (oVV v1.2)),(1,.arr 0 25 (x2.1.map ePr)),(2,.box (.d (ePr x4))),(3,.box (.d (qf1 x5.1)))]) (fun (z : Int) => o2 = z) ?_ ?_
  ·intro v3 hv2; subst hv2
   have ⟨x6,hx6,h16⟩ := bdS h15
   have hx6g := qE hx6
   have ⟨x7,hx7,h17⟩ := bdS (x := qG0 (x4.2.extract 0 (min (x4.2.size : Int) o2).toNat)) h16
   refine cwS (cwR (
    .c (uF rfl qm3 rfl)<|
    .c (uL [1] rfl ta9 rfl)<|
    .c (uF rfl qm3 rfl)<|
    .c (uL [1] rfl ta9 rfl)<|
    .c (qa3 rfl rfl .no rfl un9)<|
    .c (uM rfl)<|
    .c (o_min rfl rfl .no rfl rfl)<|
    .c (qg5 rfl rfl .no rfl un9 .no (.val rfl hx6g.2.1) hx6g.2.2.1 hx6g.2.2.2)<|
    .c (qj rfl rfl .no Tryz.func30 rfl rfl (inode_Trim_ok hx7) (.cons rfl .d .nil) ⟨trivial,trivial⟩ (.inl rfl))<|
    .c (uA rfl)<|.nil rfl) ?_)
   refine cwS ?_
   refine cwS (cwR (
    .c (uM rfl)<|
    .c (uF rfl qm3 rfl)<|
    .c (uL [1] rfl ta9 rfl)<|
    .c (qc rfl rfl .no rfl rfl (qd5 _ _) rfl)<|.nil rfl) ?_)
   rcases cdS h17 with ⟨hc4,h18⟩ | ⟨hc4,h19⟩
   ·refine cwT rfl hc4 ?_
    refine qG ?_
    exact ⟨v1.2,(sJ h18),.w (wkF ⟨⟨_,rfl,.ptro rfl rfl⟩,wD rfl,wD rfl,wD rfl,⟨_,rfl,.arr rfl rfl⟩,wD rfl,wD rfl,trivial⟩ ⟨.own rfl (.of_eq rfl (oVV_d _)),.arr rfl rfl,trivial⟩ (qq rfl))⟩
   refine cwF rfl hc4 ?_
   refine cwK ?_
   have ⟨x8,hx8,h20⟩ := bdS (x := qe1 v1.2 a1 x5.1.2.2.2 x7) h19
   refine cwS (cwR (
    .c (uM rfl)<|
    .c (uM rfl)<|
    .c (uF rfl qS4 rfl)<|
    .c (uL [3] rfl ta3 rfl)<|
    .c (uM rfl)<|
    .c (qC (fun _ => 0) rfl rfl .no Tryz.func31 rfl rfl (chunk_lay_ok hx8) (.cons rfl (.p rfl) (.cons rfl .d (.cons rfl .d (.cons rfl .d .nil)))) (q60 rfl ⟨(by simp [AV.live,lk,Nat.beq]),trivial,trivial,trivial,trivial⟩ rfl (OD.dat_live (oVV_d _)) (by simp)) (.inl rfl))<|
    .c (uA rfl)<|.nil rfl) ?_)
   refine cwS (cwR (
    .c (uM rfl)<|
    .c (uB rfl (b_neq _ _) rfl)<|.nil rfl) ?_)
   rcases cdS h20 with ⟨hc5,h21⟩ | ⟨hc5,h22⟩
   ·refine cwT rfl hc5 ?_
    refine cwS (cwR (
     .c (uM rfl)<|
     .c (uA rfl)<|.nil rfl) ?_)
    have he2 := ((sJ h21)).symm
    subst he2
    have he3 := ((hx3 _ (sJ h10)).symm).symm
    subst he3
    have heq := ((sJ h7)).symm
    subst heq
    exact qe ⟨_,(show Leads _ _ (St.of [(6,.d (eErr x8.1))] [(0,.own (oVV x8.2))]) from .w (wkF ⟨wD rfl,trivial⟩ ⟨.own rfl (.of_eq rfl (oVV_d _)),trivial⟩ (qq rfl))),.inr rfl,_,res1 rfl rfl,rfl,rfl⟩
   refine cwF rfl hc5 ?_
   refine cwK ?_
   exact ⟨x8.2,(sJ h22),.w (wkF ⟨⟨_,rfl,.ptro rfl rfl⟩,wD rfl,wD rfl,wD rfl,⟨_,rfl,.arr rfl rfl⟩,wD rfl,wD rfl,trivial⟩ ⟨.own rfl (.of_eq rfl (oVV_d _)),.arr rfl rfl,trivial⟩ (qq rfl))⟩
  refine cwS (cwR (
   .c (uF rfl qS4 rfl)<|
   .c (uL [3] rfl ta3 rfl)<|
   .c (uM rfl)<|
   .c (uB rfl (q43 _ _) rfl)<|.nil rfl) ?_)
  rcases cdS hj2 with ⟨hc6,h23⟩ | ⟨hc6,h24⟩
  ·refine cwT rfl hc6 ?_
   refine cwR (
    .c (uM rfl)<|
    .c (uB rfl (b_rem _ _ (by decide)) rfl)<|
    .c (uA rfl)<|.nil rfl
   ) ?_
   exact ⟨(Int.tmod a2 32),(sJ h23),.w (wkF ⟨⟨_,rfl,.ptro rfl rfl⟩,wD rfl,wD rfl,wD rfl,⟨_,rfl,.ptr rfl rfl⟩,⟨_,rfl,.ptr rfl rfl⟩,wD rfl,⟨_,rfl,.arr rfl rfl⟩,wD rfl,wD rfl,trivial⟩ ⟨.own rfl (.of_eq rfl (oVV_d _)),.arr rfl rfl,.box rfl (.d rfl),.box rfl (.d rfl),trivial⟩ (qq rfl))⟩
  refine cwF rfl hc6 ?_
  refine cwK ?_
  exact ⟨0,(sJ h24),.w (wkF ⟨⟨_,rfl,.ptro rfl rfl⟩,wD rfl,wD rfl,wD rfl,⟨_,rfl,.ptr rfl rfl⟩,⟨_,rfl,.ptr rfl rfl⟩,wD rfl,⟨_,rfl,.arr rfl rfl⟩,wD rfl,wD rfl,trivial⟩ ⟨.own rfl (.of_eq rfl (oVV_d _)),.arr rfl rfl,.box rfl (.d rfl),.box rfl (.d rfl),trivial⟩ (qq rfl))⟩
 refine cwF rfl hc2 ?_
 refine qG ?_
 exact ⟨v1.2,(hx3 _ (sJ h9)).symm,.w (wkF trivial ⟨.own rfl (.of_eq rfl (oVV_d _)),trivial⟩ (qq rfl))⟩
end
end Go.Val
