/- Walks of the program's functions,printed. -/
import Derived.Test.YthipaajmgfnagaaGreatDoorWj
set_option linter.unusedSectionVars false
set_option linter.unusedVariables false
set_option linter.unusedSimpArgs false
set_option maxRecDepth 100000
namespace Go.Val
open Go.RowKit Go.Proofs
section
variable [NoDrw]
noncomputable def qW (a0 : List (B8 × ByteArray × Bool)) (a1 : List (B8 × ByteArray × Bool)) : Option Bool := cond (decide ((a0.length : Int) ≠ (a1.length : Int))) (some false) ((((qA (V := Int) (O := (Unit ⊕ Bool)) (fun v0 => cond (decide (v0 < (a0.length : Int))) ((gx a0 v0).bind fun x0 => (gx a1 v0).bind fun x1 =>
     cond (!((decide (x0.1 = x1.1)) && ((decide (x0.2.1 = x1.2.1)) && ((x0.2.2 == x1.2.2) && true)))) (some (.inr (.inr false))) (some (.inl (IntKind.wrap .i64 (v0 + 1))))) (some (.inr (.inl ())))) 0) : Option (Unit ⊕ Bool))).bind fun o0 => Sum.elim (fun (v1 : Unit) => some true) (fun w0 => some w0) o0)
noncomputable def ql2 (a0 : List (B8 × B8 × Bool)) (a1 : List (B8 × B8 × Bool)) : Option Bool := cond (decide ((a0.length : Int) ≠ (a1.length : Int))) (some false) ((((qA (V := Int) (O := (Unit ⊕ Bool)) (fun v0 => cond (decide (v0 < (a0.length : Int))) ((gx a0 v0).bind fun x0 => (gx a1 v0).bind fun x1 =>
     cond (!((decide (x0.1 = x1.1)) && ((decide (x0.2.1 = x1.2.1)) && ((x0.2.2 == x1.2.2) && true)))) (some (.inr (.inr false))) (some (.inl (IntKind.wrap .i64 (v0 + 1))))) (some (.inr (.inl ())))) 0) : Option (Unit ⊕ Bool))).bind fun o0 => Sum.elim (fun (v1 : Unit) => some true) (fun w0 => some w0) o0)
noncomputable def qQ1 (a0 : List UInt8) (a1 : List UInt8) : Option Bool := some (Op.bytesLess (qi1 a0).data.toList (qi1 a1).data.toList)
noncomputable def q41 (a0 : List (B8 × ByteArray)) (a1 : List UInt8) : Option (Int × Bool) := (((qA (V := Int) (O := Int) (fun v0 => cond (decide (v0 < (a0.length : Int))) ((gx a0 v0).bind fun x0 => (qQ1 x0.1 a1).bind fun x1 => cond (!x1) (some (.inr v0)) (some (.inl (IntKind.wrap .i64 (v0 + 1))))) (some (.inr v0))) 0) : Option Int)).bind fun o0 => (((
  cond (decide (o0 < (a0.length : Int))) ((gx a0 o0).bind fun x2 => some (decide (x2.1 = a1))) (some false)) : Option Bool)).bind fun o1 => some (o0,o1)
noncomputable def qt2 (a0 : List (B8 × ByteArray)) (a1 : (B8 × ByteArray)) : Option (List (B8 × ByteArray)) := (q41 a0 a1.1).bind fun x0 => (cutB 0 x0.1 a0.length).bind fun _ => (fits (([] : List (B8 × ByteArray)).length + (qm0 a0 0 x0.1).length) 40).bind fun _ => (fits ((([] : List (B8 × ByteArray)) ++ (qm0 a0 0 x0.1)).length + ([a1]).length) 40).bind fun _ => (((cond x0.2 (
   some (IntKind.wrap .i64 (x0.1 + 1))) (some x0.1)) : Option Int)).bind fun o0 => (cutB o0 (a0.length : Int) a0.length).bind fun _ => (fits (((([] : List (B8 × ByteArray)) ++ (qm0 a0 0 x0.1)) ++ [a1]).length + (qm0 a0 o0 (a0.length : Int)).length) 40).bind fun _ => some (((([] : List (B8 × ByteArray)) ++ (qm0 a0 0 x0.1)) ++ [a1]) ++ (qm0 a0 o0 (a0.length : Int)))
noncomputable def qw2 (a0 : List (B8 × ByteArray)) : Option (List (B8 × ByteArray)) := (((qA (V := ((List (B8 × ByteArray)) × Int)) (O := (List (B8 × ByteArray))) (fun v0 => cond (decide (v0.2 < (a0.length : Int))) ((gx a0 v0.2).bind fun x0 => (qt2 v0.1 x0).bind fun x1 => some (.inl (x1,(IntKind.wrap .i64 (v0.2 + 1))))) (some (.inr v0.1))) ([],0)
 ) : Option (List (B8 × ByteArray)))).bind fun o0 => some o0
noncomputable def qB3 (a0 : List (B8 × ByteArray)) (a1 : List UInt8) : Option (ByteArray × Bool) := (q41 a0 a1).bind fun x0 => cond (!x0.2) (some ((ByteArray.mk #[]),false)) ((gx a0 x0.1).bind fun x1 => some (x1.2,true))
noncomputable def q52 (a0 : List (B8 × ByteArray)) (a1 : List (B8 × ByteArray × Bool)) : Option (List (B8 × ByteArray)) := (qw2 a0).bind fun x0 => (((qA (V := ((List (B8 × ByteArray)) × Int)) (O := (List (B8 × ByteArray))) (fun v0 => cond (decide (v0.2 < (a1.length : Int))) (((((gx a1 v0.2).bind fun x1 => (q41 v0.1 x1.1).bind fun x2 => cond (!x1.2.2) (
      (qt2 v0.1 (x1.1,x1.2.1)).bind fun x3 => some x3) (cond x2.2 ((cutB 0 x2.1 v0.1.length).bind fun _ => (fits (([] : List (B8 × ByteArray)).length + (qm0 v0.1 0 x2.1).length) 40).bind fun _ => (cutB (IntKind.wrap .i64 (x2.1 + 1)) (v0.1.length : Int) v0.1.length).bind fun _ =>
       (fits ((([] : List (B8 × ByteArray)) ++ (qm0 v0.1 0 x2.1)).length + (qm0 v0.1 (IntKind.wrap .i64 (x2.1 + 1)) (v0.1.length : Int)).length) 40).bind fun _ => some ((([] : List (B8 × ByteArray)) ++ (qm0 v0.1 0 x2.1)) ++ (qm0 v0.1 (IntKind.wrap .i64 (x2.1 + 1)) (v0.1.length : Int)))) (some v0.1))) : Option (List (B8 × ByteArray)))).bind fun o0 =>
    some (.inl (o0,(IntKind.wrap .i64 (v0.2 + 1))))) (some (.inr v0.1))) (x0,0)) : Option (List (B8 × ByteArray)))).bind fun o1 => some o1
noncomputable def qf2 (a0 : List (B8 × ByteArray × Bool)) (a1 : (B8 × ByteArray × Bool)) : Option (List (B8 × ByteArray × Bool)) := (((cond a1.2.2 (some (a1.1,(ByteArray.mk #[]),a1.2.2)) (some a1)) : Option (B8 × ByteArray × Bool))).bind fun o0 => (((qA (V := Int) (O := Int) (fun v0 => cond (decide (v0 < (a0.length : Int))) ((gx a0 v0).bind fun x0 =>
    (qQ1 x0.1 o0.1).bind fun x1 => cond (!x1) (some (.inr v0)) (some (.inl (IntKind.wrap .i64 (v0 + 1))))) (some (.inr v0))) 0) : Option Int)).bind fun o1 => (cutB 0 o1 a0.length).bind fun _ => (fits (([] : List (B8 × ByteArray × Bool)).length + (qm0 a0 0 o1).length) 48).bind fun _ =>
 (fits ((([] : List (B8 × ByteArray × Bool)) ++ (qm0 a0 0 o1)).length + ([o0]).length) 48).bind fun _ => ((((((cond (decide (o1 < (a0.length : Int))) ((gx a0 o1).bind fun x2 => some (decide (x2.1 = o0.1))) (some false)) : Option Bool)).bind fun o2 => cond o2 (some (IntKind.wrap .i64 (o1 + 1))) (some o1)) : Option Int)).bind fun o3 => (cutB o3 (a0.length : Int) a0.length).bind fun _ =>
 (fits (((([] : List (B8 × ByteArray × Bool)) ++ (qm0 a0 0 o1)) ++ [o0]).length + (qm0 a0 o3 (a0.length : Int)).length) 48).bind fun _ => some (((([] : List (B8 × ByteArray × Bool)) ++ (qm0 a0 0 o1)) ++ [o0]) ++ (qm0 a0 o3 (a0.length : Int)))
noncomputable def qJ1 (a0 : List (List (B8 × ByteArray × Bool))) : Option (List (B8 × ByteArray × Bool)) := (((qA (V := ((List (B8 × ByteArray × Bool)) × Int)) (O := (List (B8 × ByteArray × Bool))) (fun v0 => cond (decide (v0.2 < (a0.length : Int))) ((((qA (V := ((List (B8 × ByteArray × Bool)) × Int)) (O := (List (B8 × ByteArray × Bool))) (fun v1 => (gx a0 v0.2).bind fun x0 =>
      cond (decide (v1.2 < (x0.length : Int))) ((gx x0 v1.2).bind fun x1 => (qf2 v1.1 x1).bind fun x2 => some (.inl (x2,(IntKind.wrap .i64 (v1.2 + 1))))) (some (.inr v1.1))) (v0.1,0)) : Option (List (B8 × ByteArray × Bool)))).bind fun o0 => some (.inl (o0,(IntKind.wrap .i64 (v0.2 + 1))))) (some (.inr v0.1))) ([],0)) : Option (List (B8 × ByteArray × Bool)))).bind fun o1 => some o1
noncomputable def qs2 (a0 : List UInt8) : Option (B8 × B8 × Bool) := (((qA (V := (Int × B8)) (O := (Unit ⊕ (B8 × B8 × Bool))) (fun v0 => cond (decide (v0.1 ≥ 0)) ((ck (decide (0 ≤ v0.1 ∧ v0.1 < 24))).bind fun _ => (gx v0.2 v0.1).bind fun x0 => (ck (decide (v0.1.toNat < v0.2.length))).bind fun _ =>
    (ck (decide (0 ≤ (IntKind.wrap .u8 ((x0.toNat : Int) + 1)) ∧ (IntKind.wrap .u8 ((x0.toNat : Int) + 1)) < 256))).bind fun _ => (gx (List.set v0.2 v0.1.toNat (UInt8.ofNat (IntKind.wrap .u8 ((x0.toNat : Int) + 1)).toNat)) v0.1).bind fun x1 => cond (decide ((x1.toNat : Int) ≠ 0)) (
     some (.inr (.inr (a0,(List.set v0.2 v0.1.toNat (UInt8.ofNat (IntKind.wrap .u8 ((x0.toNat : Int) + 1)).toNat)),false)))) (some (.inl ((IntKind.wrap .i64 (v0.1 - 1)),(List.set v0.2 v0.1.toNat (UInt8.ofNat (IntKind.wrap .u8 ((x0.toNat : Int) + 1)).toNat)))))) (some (.inr (.inl ())))) (23,a0)) : Option (Unit ⊕ (B8 × B8 × Bool)))).bind fun o0 => Sum.elim (fun (v1 : Unit) =>
  some (a0,(List.replicate 24 0),true)) (fun w0 => some w0) o0
noncomputable def qr2 : Option ByteArray := (((qA (V := (ByteArray × Int)) (O := ByteArray) (fun v0 => cond (decide (v0.2 < 25)) ((ck (decide (v0.1.size + (ByteArray.mk #[255]).size ≤ 9223372036854775807))).bind fun _ => some (.inl ((v0.1 ++ (ByteArray.mk #[255])),(IntKind.wrap .i64 (v0.2 + 1))))) (some (.inr v0.1))) ((ByteArray.mk #[]),0)) : Option ByteArray)).bind fun o0 => some o0
noncomputable def qk3 (a0 : (B8 × B8 × Bool)) : Option ByteArray := cond a0.2.2 ((qr2).bind fun x0 => some x0) (some (qi1 a0.2.1))
noncomputable def qV2 (a0 : ByteArray) (a1 : ByteArray) : Option (B8 × B8 × Bool) := ((((qr2).bind fun x0 => cond (decide (a1 = x0)) (some ((cpB (List.replicate 24 0) a0.data.toList),(List.replicate 24 0),true)) (some ((cpB (List.replicate 24 0) a0.data.toList),(cpB (List.replicate 24 0) a1.data.toList),false))) : Option (B8 × B8 × Bool))).bind fun o0 => some o0
noncomputable def q03 (a0 : ByteArray) : Option B8 := some (cpB (List.replicate 24 0) a0.data.toList)
noncomputable def q81 (a0 : List ByteArray) (a1 : ByteArray) : Option (List ByteArray) := (((qA (V := Int) (O := Int) (fun v0 => (((cond (decide (v0 < (a0.length : Int))) ((gx a0 v0).bind fun x0 => some (Op.bytesLess x0.data.toList a1.data.toList)) (some false)) : Option Bool)).bind fun o0 => cond o0 (some (.inl (IntKind.wrap .i64 (v0 + 1)))) (some (.inr v0))) 0
 ) : Option Int)).bind fun o1 => (((cond (decide (o1 < (a0.length : Int))) ((gx a0 o1).bind fun x1 => some (decide (x1 = a1))) (some false)) : Option Bool)).bind fun o2 => cond o2 (some a0) ((cutB 0 o1 a0.length).bind fun _ => (fits (([] : List ByteArray).length + (qm0 a0 0 o1).length) 16).bind fun _ => (fits ((([] : List ByteArray) ++ (qm0 a0 0 o1)).length + ([a1]).length) 16).bind fun _ =>
  (cutB o1 (a0.length : Int) a0.length).bind fun _ => (fits (((([] : List ByteArray) ++ (qm0 a0 0 o1)) ++ [a1]).length + (qm0 a0 o1 (a0.length : Int)).length) 16).bind fun _ => some (((([] : List ByteArray) ++ (qm0 a0 0 o1)) ++ [a1]) ++ (qm0 a0 o1 (a0.length : Int))))
noncomputable def qD1 (a0 : List (B8 × B8 × Bool)) : Option (List ByteArray) := (((qA (V := ((List ByteArray) × Int)) (O := (List ByteArray)) (fun v0 => cond (decide (v0.2 < (a0.length : Int))) (((((gx a0 v0.2).bind fun x0 => (qk3 x0).bind fun x1 => cond (Op.bytesLess (qi1 x0.1).data.toList x1.data.toList) ((q81 v0.1 (qi1 x0.1)).bind fun x2 =>
      (q81 x2 x1).bind fun x3 => some x3) (some v0.1)) : Option (List ByteArray))).bind fun o0 => some (.inl (o0,(IntKind.wrap .i64 (v0.2 + 1))))) (some (.inr v0.1))) ([],0)) : Option (List ByteArray))).bind fun o1 => some o1
noncomputable def qu1 (a0 : List ByteArray) (a1 : List Bool) : Option (List (B8 × B8 × Bool)) := (((qA (V := (Int × (List (B8 × B8 × Bool)))) (O := (List (B8 × B8 × Bool))) (fun v0 => cond (decide ((IntKind.wrap .i64 (v0.1 + 1)) < (a0.length : Int))) (((((gx a1 v0.1).bind fun x0 => cond (!x0) (some v0.2) ((((cond (decide ((v0.2.length : Int) > 0)) (
        (gx v0.2 (IntKind.wrap .i64 ((v0.2.length : Int) - 1))).bind fun x1 => (qk3 x1).bind fun x2 => (gx a0 v0.1).bind fun x3 => some (decide (x2 = x3))) (some false)) : Option Bool)).bind fun o0 => cond o0 ((gx v0.2 (IntKind.wrap .i64 ((v0.2.length : Int) - 1))).bind fun x4 => (gx a0 (IntKind.wrap .i64 (v0.1 + 1))).bind fun x5 => (qV2 (qi1 x4.1) x5).bind fun x6 =>
       some (List.set v0.2 (IntKind.wrap .i64 ((v0.2.length : Int) - 1)).toNat x6)) ((gx a0 v0.1).bind fun x7 => (gx a0 (IntKind.wrap .i64 (v0.1 + 1))).bind fun x8 => (qV2 x7 x8).bind fun x9 => (fits (v0.2.length + ([x9]).length) 49).bind fun _ => some (v0.2 ++ [x9])))) : Option (List (B8 × B8 × Bool)))).bind fun o1 => some (.inl ((IntKind.wrap .i64 (v0.1 + 1)),o1))) (
    some (.inr v0.2))) (0,[])) : Option (List (B8 × B8 × Bool)))).bind fun o2 => some o2
noncomputable def qW0 (a0 : List (B8 × B8 × Bool)) : Option (List (B8 × B8 × Bool)) := (qD1 a0).bind fun x0 => (((qA (V := (Int × (List Bool))) (O := (List Bool)) (fun v0 => cond (decide ((IntKind.wrap .i64 (v0.1 + 1)) < (x0.length : Int))) ((gx x0 v0.1).bind fun x1 => (q03 x1).bind fun x2 => (qA3 a0 x2).bind fun x3 =>
    (fits (v0.2.length + ([x3]).length) 1).bind fun _ => some (.inl ((IntKind.wrap .i64 (v0.1 + 1)),(v0.2 ++ [x3])))) (some (.inr v0.2))) (0,[])) : Option (List Bool))).bind fun o0 => (qu1 x0 o0).bind fun x4 => some x4
noncomputable def qz4 (a0 : List (B8 × ByteArray)) (a1 : (B8 × B8 × Bool)) : Option (List (B8 × ByteArray)) := (((qA (V := (Int × (List (B8 × ByteArray)))) (O := (List (B8 × ByteArray))) (fun v0 => cond (decide (v0.1 < (a0.length : Int))) (((((gx a0 v0.1).bind fun x0 => (qT2 a1 x0.1).bind fun x1 => cond x1 ((fits (v0.2.length + ([x0]).length) 40).bind fun _ => some (v0.2 ++ [x0])) (
      some v0.2)) : Option (List (B8 × ByteArray)))).bind fun o0 => some (.inl ((IntKind.wrap .i64 (v0.1 + 1)),o0))) (some (.inr v0.2))) (0,[])) : Option (List (B8 × ByteArray)))).bind fun o1 => some o1
noncomputable def qu3 (a0 : List (B8 × ByteArray)) : Option WwT := (qw2 a0).bind fun x0 => some (x0,[],[],[])
noncomputable def qg0 (a0 : WwT) : Option ((List (B8 × ByteArray)) × WwT) := (q52 a0.1 a0.2.1).bind fun x0 => some (x0,(a0.1,a0.2.1,a0.2.2.1,a0.2.2.2))
noncomputable def qx0 (a0 : WwT) (a1 : List UInt8) : Option (Bool × WwT) := (((qA (V := (Int × WwT)) (O := (WwT ⊕ (Bool × WwT))) (fun v0 => cond (decide (v0.1 < (v0.2.2.1.length : Int))) ((gx v0.2.2.1 v0.1).bind fun x0 => cond (decide (x0.1 = a1)) (some (.inr (.inr (true,(v0.2.1,v0.2.2.1,v0.2.2.2.1,v0.2.2.2.2))))) (
     some (.inl ((IntKind.wrap .i64 (v0.1 + 1)),(v0.2.1,v0.2.2.1,v0.2.2.2.1,v0.2.2.2.2))))) (some (.inr (.inl (v0.2.1,v0.2.2.1,v0.2.2.2.1,v0.2.2.2.2))))) (0,a0)) : Option (WwT ⊕ (Bool × WwT)))).bind fun o0 => Sum.elim (fun (v1 : WwT) => some (false,v1)) (fun w0 => some w0) o0
noncomputable def qZ (a0 : WwT) (a1 : List UInt8) : Option (ByteArray × Bool × WwT) := (qx0 a0 a1).bind fun x0 => (((cond (!x0.1) ((fits (([] : List (B8 × B8 × Bool)).length + x0.2.2.2.1.length) 49).bind fun _ => (qs2 a1).bind fun x1 => (fits ((([] : List (B8 × B8 × Bool)) ++ x0.2.2.2.1).length + ([x1]).length) 49).bind fun _ =>
   (qW0 ((([] : List (B8 × B8 × Bool)) ++ x0.2.2.2.1) ++ [x1])).bind fun x2 => some (x0.2.1,x0.2.2.1,x2,x0.2.2.2.2)) (some x0.2)) : Option WwT)).bind fun o0 => (qg0 o0).bind fun x3 => (qB3 x3.1 a1).bind fun x4 => some (x4.1,x4.2,x3.2)
noncomputable def q30 (a0 : WwT) (a1 : (B8 × B8 × Bool)) : Option ((List (B8 × ByteArray)) × WwT) := (fits (([] : List (B8 × B8 × Bool)).length + a0.2.2.1.length) 49).bind fun _ => (fits ((([] : List (B8 × B8 × Bool)) ++ a0.2.2.1).length + ([a1]).length) 49).bind fun _ => (qW0 ((([] : List (B8 × B8 × Bool)) ++ a0.2.2.1) ++ [a1])).bind fun x0 =>
 (qg0 (a0.1,a0.2.1,x0,a0.2.2.2)).bind fun x1 => (qz4 x1.1 a1).bind fun x2 => some (x2,x1.2)
noncomputable def qZ0 (a0 : WwT) (a1 : List UInt8) (a2 : ByteArray) : Option (Int × WwT) := (((cond (decide ((a2.size : Int) < 1)) (some true) (some (decide ((a2.size : Int) > 40)))) : Option Bool)).bind fun o0 => cond o0 (some (1,a0)) ((qJ1 ([a0.2.1,[(a1,a2,false)]])).bind fun x0 => some (0,(a0.1,x0,a0.2.2.1,a0.2.2.2)))
noncomputable def q90 (a0 : WwT) (a1 : List UInt8) : Option WwT := ((((qJ1 ([a0.2.1,[(a1,(ByteArray.mk #[]),true)]])).bind fun x0 => some (a0.1,x0,a0.2.2.1,a0.2.2.2)) : Option WwT)).bind fun o0 => some o0
noncomputable def qL0 (a0 : Int) : Option Bool := (((cond (decide (a0 ≥ 1)) (some (decide (a0 < 1073741824))) (some false)) : Option Bool)).bind fun o0 => some o0
noncomputable def qI0 (a0 : Int) (a1 : Int) : Option B8 := (ck (decide (0 ≤ (IntKind.wrap .u8 (Int.fdiv a0 (2 ^ 24))) ∧ (IntKind.wrap .u8 (Int.fdiv a0 (2 ^ 24))) < 256))).bind fun _ => (ck (decide (0 ≤ (IntKind.wrap .u8 (Int.fdiv a0 (2 ^ 16))) ∧ (IntKind.wrap .u8 (Int.fdiv a0 (2 ^ 16))) < 256))).bind fun _ =>
 (ck (decide (0 ≤ (IntKind.wrap .u8 (Int.fdiv a0 (2 ^ 8))) ∧ (IntKind.wrap .u8 (Int.fdiv a0 (2 ^ 8))) < 256))).bind fun _ => (ck (decide (0 ≤ (IntKind.wrap .u8 a0) ∧ (IntKind.wrap .u8 a0) < 256))).bind fun _ => (ck (decide (0 ≤ (IntKind.wrap .u8 a1) ∧ (IntKind.wrap .u8 a1) < 256))).bind fun _ =>
 some (List.set (List.set (List.set (List.set (List.set (List.replicate 24 0) 0 (UInt8.ofNat (IntKind.wrap .u8 (Int.fdiv a0 (2 ^ 24))).toNat)) 1 (UInt8.ofNat (IntKind.wrap .u8 (Int.fdiv a0 (2 ^ 16))).toNat)) 2 (UInt8.ofNat (IntKind.wrap .u8 (Int.fdiv a0 (2 ^ 8))).toNat)) 3 (UInt8.ofNat (IntKind.wrap .u8 a0).toNat)) 4 (UInt8.ofNat (IntKind.wrap .u8 a1).toNat))
noncomputable def qI2 (a0 : Int) : Option (B8 × Bool) := (qL0 a0).bind fun x0 => cond (!x0) (some ((List.replicate 24 0),false)) ((qI0 a0 1).bind fun x1 => some (x1,true))
noncomputable def qD (a0 : Int) (a1 : Int) : Option (B8 × Bool) := ((((qL0 a0).bind fun x0 => cond (!x0) (some true) (cond (decide (a1 < 0)) (some true) (some (decide (a1 > 4294967295))))) : Option Bool)).bind fun o0 => cond o0 (some ((List.replicate 24 0),false)) ((qI0 a0 3).bind fun x1 => (ck (decide (0 ≤ (20 : Int) ∧ (20 : Int) < 24))).bind fun _ =>
  (ck (decide (20 < x1.length))).bind fun _ => (ck (decide (0 ≤ (IntKind.wrap .u8 (Int.fdiv a1 (2 ^ 24))) ∧ (IntKind.wrap .u8 (Int.fdiv a1 (2 ^ 24))) < 256))).bind fun _ => (ck (decide (0 ≤ (21 : Int) ∧ (21 : Int) < 24))).bind fun _ => (ck (decide (21 < (List.set x1 20 (UInt8.ofNat (IntKind.wrap .u8 (Int.fdiv a1 (2 ^ 24))).toNat)).length))).bind fun _ =>
  (ck (decide (0 ≤ (IntKind.wrap .u8 (Int.fdiv a1 (2 ^ 16))) ∧ (IntKind.wrap .u8 (Int.fdiv a1 (2 ^ 16))) < 256))).bind fun _ => (ck (decide (0 ≤ (22 : Int) ∧ (22 : Int) < 24))).bind fun _ => (ck (decide (22 < (List.set (List.set x1 20 (UInt8.ofNat (IntKind.wrap .u8 (Int.fdiv a1 (2 ^ 24))).toNat)) 21 (UInt8.ofNat (IntKind.wrap .u8 (Int.fdiv a1 (2 ^ 16))).toNat)).length))).bind fun _ =>
  (ck (decide (0 ≤ (IntKind.wrap .u8 (Int.fdiv a1 (2 ^ 8))) ∧ (IntKind.wrap .u8 (Int.fdiv a1 (2 ^ 8))) < 256))).bind fun _ => (ck (decide (0 ≤ (23 : Int) ∧ (23 : Int) < 24))).bind fun _ =>
  (ck (decide (23 < (List.set (List.set (List.set x1 20 (UInt8.ofNat (IntKind.wrap .u8 (Int.fdiv a1 (2 ^ 24))).toNat)) 21 (UInt8.ofNat (IntKind.wrap .u8 (Int.fdiv a1 (2 ^ 16))).toNat)) 22 (UInt8.ofNat (IntKind.wrap .u8 (Int.fdiv a1 (2 ^ 8))).toNat)).length))).bind fun _ => (ck (decide (0 ≤ (IntKind.wrap .u8 a1) ∧ (IntKind.wrap .u8 a1) < 256))).bind fun _ =>
  some ((List.set (List.set (List.set (List.set x1 20 (UInt8.ofNat (IntKind.wrap .u8 (Int.fdiv a1 (2 ^ 24))).toNat)) 21 (UInt8.ofNat (IntKind.wrap .u8 (Int.fdiv a1 (2 ^ 16))).toNat)) 22 (UInt8.ofNat (IntKind.wrap .u8 (Int.fdiv a1 (2 ^ 8))).toNat)) 23 (UInt8.ofNat (IntKind.wrap .u8 a1).toNat)),true))
noncomputable def qk1 (a0 : Int) (a1 : Int) : Option (B8 × B8 × Bool) := (qD a0 a1).bind fun x0 => cond (!x0.2) (some ((List.replicate 24 0),(List.replicate 24 0),false)) ((qI0 a0 4).bind fun x1 => some (x0.1,x1,false))
noncomputable def qE1 (a0 : List UInt8) : Option ((Int × Int × ByteArray × Int) × Bool) := (ck (decide (0 ≤ (0 : Int) ∧ (0 : Int) < 24))).bind fun _ => (gx a0 0).bind fun x0 => (ck (decide (0 ≤ (1 : Int) ∧ (1 : Int) < 24))).bind fun _ => (gx a0 1).bind fun x1 => (ck (decide (0 ≤ (2 : Int) ∧ (2 : Int) < 24))).bind fun _ => (gx a0 2).bind fun x2 =>
 (ck (decide (0 ≤ (3 : Int) ∧ (3 : Int) < 24))).bind fun _ => (gx a0 3).bind fun x3 => (ck (decide (0 ≤ (4 : Int) ∧ (4 : Int) < 24))).bind fun _ => (gx a0 4).bind fun x4 => (((cond (decide ((IntKind.wrap .i64 (x4.toNat : Int)) = 1)) (
   (qI2 (IntKind.wrap .i64 ((IntKind.wrap .i64 ((IntKind.wrap .i64 ((IntKind.wrap .i64 ((IntKind.wrap .i64 (x0.toNat : Int)) * 2 ^ 24)) + (IntKind.wrap .i64 ((IntKind.wrap .i64 (x1.toNat : Int)) * 2 ^ 16)))) + (IntKind.wrap .i64 ((IntKind.wrap .i64 (x2.toNat : Int)) * 2 ^ 8)))) + (IntKind.wrap .i64 (x3.toNat : Int))))).bind fun x5 =>
   some (x5.2,((IntKind.wrap .i64 ((IntKind.wrap .i64 ((IntKind.wrap .i64 ((IntKind.wrap .i64 ((IntKind.wrap .i64 (x0.toNat : Int)) * 2 ^ 24)) + (IntKind.wrap .i64 ((IntKind.wrap .i64 (x1.toNat : Int)) * 2 ^ 16)))) + (IntKind.wrap .i64 ((IntKind.wrap .i64 (x2.toNat : Int)) * 2 ^ 8)))) + (IntKind.wrap .i64 (x3.toNat : Int)))),(IntKind.wrap .i64 (x4.toNat : Int)),(ByteArray.mk #[]),0),x5.1)
  ) (cond (decide ((IntKind.wrap .i64 (x4.toNat : Int)) = 2)) (none) (cond (decide ((IntKind.wrap .i64 (x4.toNat : Int)) = 3)) ((ck (decide (0 ≤ (20 : Int) ∧ (20 : Int) < 24))).bind fun _ => (gx a0 20).bind fun x6 => (ck (decide (0 ≤ (21 : Int) ∧ (21 : Int) < 24))).bind fun _ => (gx a0 21).bind fun x7 => (ck (decide (0 ≤ (22 : Int) ∧ (22 : Int) < 24))).bind fun _ => (gx a0 22).bind fun x8 =>
     (ck (decide (0 ≤ (23 : Int) ∧ (23 : Int) < 24))).bind fun _ => (gx a0 23).bind fun x9 =>
     (qD (IntKind.wrap .i64 ((IntKind.wrap .i64 ((IntKind.wrap .i64 ((IntKind.wrap .i64 ((IntKind.wrap .i64 (x0.toNat : Int)) * 2 ^ 24)) + (IntKind.wrap .i64 ((IntKind.wrap .i64 (x1.toNat : Int)) * 2 ^ 16)))) + (IntKind.wrap .i64 ((IntKind.wrap .i64 (x2.toNat : Int)) * 2 ^ 8)))) + (IntKind.wrap .i64 (x3.toNat : Int)))) (IntKind.wrap .i64 ((IntKind.wrap .i64 ((IntKind.wrap .i64 ((IntKind.wrap .i64 ((IntKind.wrap .i64 (x6.toNat : Int)) * 2 ^ 24)) + (IntKind.wrap .i64 ((IntKind.wrap .i64 (x7.toNat : Int)) * 2 ^ 16)))) + (IntKind.wrap .i64 ((IntKind.wrap .i64 (x8.toNat : Int)) * 2 ^ 8)))) + (IntKind.wrap .i64 (x9.toNat : Int))))).bind fun x10 =>
     some (x10.2,((IntKind.wrap .i64 ((IntKind.wrap .i64 ((IntKind.wrap .i64 ((IntKind.wrap .i64 ((IntKind.wrap .i64 (x0.toNat : Int)) * 2 ^ 24)) + (IntKind.wrap .i64 ((IntKind.wrap .i64 (x1.toNat : Int)) * 2 ^ 16)))) + (IntKind.wrap .i64 ((IntKind.wrap .i64 (x2.toNat : Int)) * 2 ^ 8)))) + (IntKind.wrap .i64 (x3.toNat : Int)))),(IntKind.wrap .i64 (x4.toNat : Int)),(ByteArray.mk #[]),(IntKind.wrap .i64 ((IntKind.wrap .i64 ((IntKind.wrap .i64 ((IntKind.wrap .i64 ((IntKind.wrap .i64 (x6.toNat : Int)) * 2 ^ 24)) + (IntKind.wrap .i64 ((IntKind.wrap .i64 (x7.toNat : Int)) * 2 ^ 16)))) + (IntKind.wrap .i64 ((IntKind.wrap .i64 (x8.toNat : Int)) * 2 ^ 8)))) + (IntKind.wrap .i64 (x9.toNat : Int))))),x10.1)
    ) (
     some (false,((IntKind.wrap .i64 ((IntKind.wrap .i64 ((IntKind.wrap .i64 ((IntKind.wrap .i64 ((IntKind.wrap .i64 (x0.toNat : Int)) * 2 ^ 24)) + (IntKind.wrap .i64 ((IntKind.wrap .i64 (x1.toNat : Int)) * 2 ^ 16)))) + (IntKind.wrap .i64 ((IntKind.wrap .i64 (x2.toNat : Int)) * 2 ^ 8)))) + (IntKind.wrap .i64 (x3.toNat : Int)))),(IntKind.wrap .i64 (x4.toNat : Int)),(ByteArray.mk #[]),0),(List.replicate 24 0))
    )))) : Option (Bool × (Int × Int × ByteArray × Int) × B8))).bind fun o0 => (((cond (!o0.1) (some true) (some (!(decide (o0.2.2 = a0))))) : Option Bool)).bind fun o1 => cond o1 (some ((0,0,(ByteArray.mk #[]),0),false)) (some (o0.2.1,true))
noncomputable def qM1 (a0 : ByteArray) : Option ByteArray := (cutB 0 (min (a0.size : Int) 32) a0.size).bind fun _ => (ck (decide (0 ≤ (IntKind.wrap .i64 (32 - ((a0.extract 0 (min (a0.size : Int) 32).toNat).size : Int))) ∧ (IntKind.wrap .i64 (32 - ((a0.extract 0 (min (a0.size : Int) 32).toNat).size : Int))) ≤ 140737488355328))).bind fun _ =>
 (ck (decide ((a0.extract 0 (min (a0.size : Int) 32).toNat).size + (ByteArray.mk (List.replicate (IntKind.wrap .i64 (32 - ((a0.extract 0 (min (a0.size : Int) 32).toNat).size : Int))).toNat (0 : UInt8)).toArray).size ≤ 9223372036854775807))).bind fun _ =>
 some ((a0.extract 0 (min (a0.size : Int) 32).toNat) ++ (ByteArray.mk (List.replicate (IntKind.wrap .i64 (32 - ((a0.extract 0 (min (a0.size : Int) 32).toNat).size : Int))).toNat (0 : UInt8)).toArray))
noncomputable def qv1 (a0 : ByteArray) : Option ByteArray := (((qA (V := Int) (O := Int) (fun v0 => (((cond (decide (v0 > 0)) ((gx a0.data.toList (IntKind.wrap .i64 (v0 - 1))).bind fun x0 => some (decide ((x0.toNat : Int) = 0))) (some false)) : Option Bool)).bind fun o0 => cond o0 (some (.inl (IntKind.wrap .i64 (v0 - 1)))) (some (.inr v0))) (min (a0.size : Int) 32)
 ) : Option Int)).bind fun o1 => (cutB 0 o1 a0.size).bind fun _ => some (a0.extract 0 o1.toNat)
noncomputable def qF1 (a0 : Int) (a1 : Int) (a2 : Int) : Option Bool := (((cond (decide (a0 ≥ 1)) (cond (decide (a0 < 1073741824)) (cond (decide (a1 ≥ 0)) (cond (decide (a2 ≥ 0)) (cond (decide (a1 ≤ 1048576)) (some (decide (a2 ≤ (IntKind.wrap .i64 (1048576 - a1))))) (some false)) (some false)) (some false)) (some false)) (some false)) : Option Bool)).bind fun o0 => some o0
noncomputable def qd1 (a0 : WwT) (a1 : Int) (a2 : Int) (a3 : ByteArray) : Option WwT := ((((qD a1 a2).bind fun x0 => (qv1 a3).bind fun x1 => cond (decide (x1 = (ByteArray.mk #[]))) ((q90 a0 x0.1).bind fun x2 => some x2) ((qZ0 a0 x0.1 x1).bind fun x3 => some x3.2)) : Option WwT)).bind fun o0 => some o0
noncomputable def qa2 (a0 : Int) (a1 : Int) (a2 : Int) : Option (B8 × B8 × Bool) := (qD a0 a1).bind fun x0 => (qD a0 (IntKind.wrap .i64 (a2 + 1))).bind fun x1 => some (x0.1,x1.1,false)
noncomputable def qb1 (a0 : WwT) (a1 : Int) (a2 : Int) (a3 : Int) : Option (ByteArray × Int × WwT) := (qF1 a1 a2 a3).bind fun x0 => cond (!x0) (some ((ByteArray.mk #[]),1,a0)) (cond (decide (a3 = 0)) (some ((ByteArray.mk #[]),0,a0)) (
   (qa2 a1 (IntKind.wrap .i64 (Int.tdiv a2 32)) (IntKind.wrap .i64 (Int.tdiv (IntKind.wrap .i64 ((IntKind.wrap .i64 (a2 + a3)) - 1)) 32))).bind fun x1 => (q30 a0 x1).bind fun x2 =>
   (ck (decide (0 ≤ (IntKind.wrap .i64 ((IntKind.wrap .i64 ((IntKind.wrap .i64 ((IntKind.wrap .i64 (Int.tdiv (IntKind.wrap .i64 ((IntKind.wrap .i64 (a2 + a3)) - 1)) 32)) - (IntKind.wrap .i64 (Int.tdiv a2 32)))) + 1)) * 32)) ∧ (IntKind.wrap .i64 ((IntKind.wrap .i64 ((IntKind.wrap .i64 ((IntKind.wrap .i64 (Int.tdiv (IntKind.wrap .i64 ((IntKind.wrap .i64 (a2 + a3)) - 1)) 32)) - (IntKind.wrap .i64 (Int.tdiv a2 32)))) + 1)) * 32)) ≤ 140737488355328))).bind fun _ =>
   (((qA (V := (Int × B8)) (O := B8) (fun v0 => cond (decide (v0.1 < (x2.1.length : Int))) ((gx x2.1 v0.1).bind fun x3 => (qE1 x3.1).bind fun x4 =>
      (ck (decide (0 ≤ (IntKind.wrap .i64 ((IntKind.wrap .i64 (x4.1.2.2.2 - (IntKind.wrap .i64 (Int.tdiv a2 32)))) * 32)) ∧ (IntKind.wrap .i64 ((IntKind.wrap .i64 (x4.1.2.2.2 - (IntKind.wrap .i64 (Int.tdiv a2 32)))) * 32)).toNat ≤ v0.2.length))).bind fun _ =>
      some (.inl ((IntKind.wrap .i64 (v0.1 + 1)),(List.take (IntKind.wrap .i64 ((IntKind.wrap .i64 (x4.1.2.2.2 - (IntKind.wrap .i64 (Int.tdiv a2 32)))) * 32)).toNat v0.2 ++ cpB (List.drop (IntKind.wrap .i64 ((IntKind.wrap .i64 (x4.1.2.2.2 - (IntKind.wrap .i64 (Int.tdiv a2 32)))) * 32)).toNat v0.2) x3.2.data.toList)))) (some (.inr v0.2))
    ) (0,(List.replicate (IntKind.wrap .i64 ((IntKind.wrap .i64 ((IntKind.wrap .i64 ((IntKind.wrap .i64 (Int.tdiv (IntKind.wrap .i64 ((IntKind.wrap .i64 (a2 + a3)) - 1)) 32)) - (IntKind.wrap .i64 (Int.tdiv a2 32)))) + 1)) * 32)).toNat (0 : UInt8)))) : Option B8)).bind fun o0 =>
   (cutB (IntKind.wrap .i64 (a2 - (IntKind.wrap .i64 ((IntKind.wrap .i64 (Int.tdiv a2 32)) * 32)))) (IntKind.wrap .i64 ((IntKind.wrap .i64 (a2 - (IntKind.wrap .i64 ((IntKind.wrap .i64 (Int.tdiv a2 32)) * 32)))) + a3)) o0.length).bind fun _ =>
   some ((qi1 (qm0 o0 (IntKind.wrap .i64 (a2 - (IntKind.wrap .i64 ((IntKind.wrap .i64 (Int.tdiv a2 32)) * 32)))) (IntKind.wrap .i64 ((IntKind.wrap .i64 (a2 - (IntKind.wrap .i64 ((IntKind.wrap .i64 (Int.tdiv a2 32)) * 32)))) + a3)))),0,x2.2)))
noncomputable def qB0 (a0 : WwT) (a1 : Int) (a2 : Int) (a3 : ByteArray) : Option (Int × WwT) := (qF1 a1 a2 (a3.size : Int)).bind fun x0 => cond (!x0) (some (1,a0)) ((((qA (V := (Int × ByteArray × WwT)) (O := WwT) (fun v0 => cond (decide (v0.2.1 ≠ (ByteArray.mk #[]))) ((cutB 0 (min (v0.2.1.size : Int) (IntKind.wrap .i64 (32 - (Int.tmod v0.1 32)))) v0.2.1.size).bind fun _ => (((
      cond (decide ((min (v0.2.1.size : Int) (IntKind.wrap .i64 (32 - (Int.tmod v0.1 32)))) < 32)) ((qD a1 (IntKind.wrap .i64 (Int.tdiv v0.1 32))).bind fun x1 => (qZ v0.2.2 x1.1).bind fun x2 => (qM1 x2.1).bind fun x3 => (cutB 0 (Int.tmod v0.1 32) x3.size).bind fun _ =>
       (ck (decide ((x3.extract 0 (Int.tmod v0.1 32).toNat).size + (v0.2.1.extract 0 (min (v0.2.1.size : Int) (IntKind.wrap .i64 (32 - (Int.tmod v0.1 32)))).toNat).size ≤ 9223372036854775807))).bind fun _ => (cutB (IntKind.wrap .i64 ((Int.tmod v0.1 32) + (min (v0.2.1.size : Int) (IntKind.wrap .i64 (32 - (Int.tmod v0.1 32)))))) (x3.size : Int) x3.size).bind fun _ =>
       (ck (decide (((x3.extract 0 (Int.tmod v0.1 32).toNat) ++ (v0.2.1.extract 0 (min (v0.2.1.size : Int) (IntKind.wrap .i64 (32 - (Int.tmod v0.1 32)))).toNat)).size + (x3.extract (IntKind.wrap .i64 ((Int.tmod v0.1 32) + (min (v0.2.1.size : Int) (IntKind.wrap .i64 (32 - (Int.tmod v0.1 32)))))).toNat (x3.size : Int).toNat).size ≤ 9223372036854775807))).bind fun _ =>
       some ((((x3.extract 0 (Int.tmod v0.1 32).toNat) ++ (v0.2.1.extract 0 (min (v0.2.1.size : Int) (IntKind.wrap .i64 (32 - (Int.tmod v0.1 32)))).toNat)) ++ (x3.extract (IntKind.wrap .i64 ((Int.tmod v0.1 32) + (min (v0.2.1.size : Int) (IntKind.wrap .i64 (32 - (Int.tmod v0.1 32)))))).toNat (x3.size : Int).toNat)),x2.2.2)) (
       some ((v0.2.1.extract 0 (min (v0.2.1.size : Int) (IntKind.wrap .i64 (32 - (Int.tmod v0.1 32)))).toNat),v0.2.2))) : Option (ByteArray × WwT))).bind fun o0 => (qd1 o0.2 a1 (IntKind.wrap .i64 (Int.tdiv v0.1 32)) o0.1).bind fun x4 => (cutB (min (v0.2.1.size : Int) (IntKind.wrap .i64 (32 - (Int.tmod v0.1 32)))) (v0.2.1.size : Int) v0.2.1.size).bind fun _ =>
     some (.inl ((IntKind.wrap .i64 (v0.1 + (min (v0.2.1.size : Int) (IntKind.wrap .i64 (32 - (Int.tmod v0.1 32)))))),(v0.2.1.extract (min (v0.2.1.size : Int) (IntKind.wrap .i64 (32 - (Int.tmod v0.1 32)))).toNat (v0.2.1.size : Int).toNat),x4))) (some (.inr v0.2.2))) (a2,a3,a0)) : Option WwT)).bind fun o1 => some (0,o1))
noncomputable def qG1 (a0 : WwT) (a1 : Int) (a2 : Int) : Option (Int × WwT) := (qF1 a1 0 a2).bind fun x0 => cond (!x0) (some (1,a0)) ((qk1 a1 (IntKind.wrap .i64 (Int.tdiv a2 32))).bind fun x1 => (q30 a0 x1).bind fun x2 => (((qA (V := (Int × WwT)) (O := WwT) (fun v0 => cond (decide (v0.1 < (x2.1.length : Int))) (((((gx x2.1 v0.1).bind fun x3 =>
      (qE1 x3.1).bind fun x4 => (((cond (decide (x4.1.2.2.2 = (IntKind.wrap .i64 (Int.tdiv a2 32)))) (some (Int.tmod a2 32)) (some 0)) : Option Int)).bind fun o0 => (cutB 0 (min (x3.2.size : Int) o0) x3.2.size).bind fun _ => (qv1 (x3.2.extract 0 (min (x3.2.size : Int) o0).toNat)).bind fun x5 => cond (decide (x5 ≠ x3.2)) ((qd1 v0.2 a1 x4.1.2.2.2 x5).bind fun x6 => some x6
      ) (some v0.2)) : Option WwT)).bind fun o1 => some (.inl ((IntKind.wrap .i64 (v0.1 + 1)),o1))) (some (.inr v0.2))) (0,x2.2)) : Option WwT)).bind fun o2 => some (0,o2))
theorem qg2 {a0 : List (B8 × ByteArray × Bool)} {a1 : List (B8 × ByteArray × Bool)} {r : Bool} (h : qW a0 a1 = some r) : FnOk Tryz.prog 22 [.d (eSC a0),.d (eSC a1)] 0 (lk []) (fun rr oo => rr = .d (qz r) ∧ oo = lk []) := by
 refine fnO Tryz.func22 rfl rfl (cwP ?_)
 unfold qW at h
 refine cwS (cwR (
  .c (uA rfl)<|.nil rfl) ?_)
 refine cwS ?_
 refine cwS (cwR (
  .c (uM rfl)<|
  .c (qo0 (enc := eCg) (xs := a0) rfl rfl .no rfl sl49)<|
  .c (uM rfl)<|
  .c (qo0 (enc := eCg) (xs := a1) rfl rfl .no rfl sl49)<|
  .c (uB rfl (b_neq _ _) rfl)<|.nil rfl) ?_)
 rcases cdS h with ⟨hc0,h0⟩ | ⟨hc0,h1⟩
 ·refine cwT rfl hc0 ?_
  refine cwS (cwR (
   .c (uA rfl)<|.nil rfl) ?_)
  have heq := ((sJ h0)).symm
  subst heq
  exact qe ⟨_,(show Leads _ _ (St.of [(4,.d (qz false))] []) from .w (wkF ⟨wD rfl,trivial⟩ trivial qd)),.inr rfl,_,res1 rfl rfl,rfl,rfl⟩
 refine cwF rfl hc0 ?_
 refine cwK ?_
 have ⟨o0,hj0,h2⟩ := bdS h1
 refine cwJ (fun (z : Unit) => St.of [] []) (fun (z : Unit) => o0 = (.inl z)) ?_ ?_
 ·intro v0 hv0; subst hv0
  simp only [Sum.elim_inl] at h2
  refine cwS (cwR (
   .c (uA rfl)<|.nil rfl) ?_)
  have heq := ((sJ h2)).symm
  subst heq
  exact qe ⟨_,(show Leads _ _ (St.of [(4,.d (qz true))] []) from .w (wkF ⟨wD rfl,trivial⟩ trivial qd)),.inr rfl,_,res1 rfl rfl,rfl,rfl⟩
 refine cwS (cwR (
  .c (uA rfl)<|.nil rfl) ?_)
 refine cwB ?_
 refine qr (V := Int) (O := (Unit ⊕ Bool)) (fun (z : Int) => St.of [(0,.d (eSC a0)),(1,.d (eSC a1)),(5,.d (eint z))] []) hj0 (.w (wkF ⟨wD rfl,wD rfl,wD rfl,trivial⟩ trivial qd)) ?_
 intro v1 x0 hb0 hx0
 refine cwS ?_
 refine cwS (cwR (
  .c (uM rfl)<|
  .c (uM rfl)<|
  .c (qo0 (enc := eCg) (xs := a0) rfl rfl .no rfl sl49)<|
  .c (uB rfl (q31 _ _) rfl)<|.nil rfl) ?_)
 rcases cdS hb0 with ⟨hc1,h3⟩ | ⟨hc1,h4⟩
 ·refine cwT rfl hc1 ?_
  refine cwK ?_
  refine cwS ?_
  refine cwB ?_
  have ⟨x1,hx1,h5⟩ := bdS h3
  have hx1g := qn hx1
  have ⟨x2,hx2,h6⟩ := bdS h5
  have hx2g := qn hx2
  refine cwS (cwRA mixed (by kernel_rfl) (
   .c (uM rfl)<|
   .c (uM rfl)<|
   .c (qZ1 (enc := eCg) (xs := a0) rfl rfl .no rfl rfl sl49 sz88 hx1g.1 hx1g.2)<|
   .c (o_ld rfl rfl .no rfl ta88 rfl rfl)<|
   .c (uM rfl)<|
   .c (uM rfl)<|
   .c (qZ1 (enc := eCg) (xs := a1) rfl rfl .no rfl rfl sl49 sz88 hx2g.1 hx2g.2)<|
   .c (o_ld rfl rfl .no rfl ta88 rfl rfl)<|
   .c (o_ne rfl rfl .no rfl rfl rfl rfl eg88 (.st flds88 (.cons ta39 rfl rfl rfl rfl (.bs ar39 un5 sz5) (.cons ta9 rfl rfl rfl rfl (.str un9) (.cons ta4 rfl rfl rfl rfl (.bool un4) .nil)))))<|.nil rfl) (by kernel_rfl) ?_)
  rcases cdS h6 with ⟨hc2,h7⟩ | ⟨hc2,h8⟩
  ·refine cwT rfl hc2 ?_
   refine cwS (cwR (
    .c (uA rfl)<|.nil rfl) ?_)
   have he0 := ((hx0 _ (sJ h7)).symm).symm
   subst he0
   have heq := ((sJ h2)).symm
   subst heq
   exact qe ⟨_,(show Leads _ _ (St.of [(4,.d (qz false))] []) from .w (wkF ⟨wD rfl,trivial⟩ trivial qd)),.inr rfl,_,res1 rfl rfl,rfl,rfl⟩
  refine cwF rfl hc2 ?_
  refine cwK ?_
  refine cwR (
   .c (uM rfl)<|
   .c (uB rfl (q61 _ _) rfl)<|
   .c (uA rfl)<|.nil rfl
  ) ?_
  exact ⟨(IntKind.wrap .i64 (v1 + 1)),(sJ h8),.w (wkF ⟨wD rfl,wD rfl,wD rfl,trivial⟩ trivial qd)⟩
 refine cwF rfl hc1 ?_
 refine qG ?_
 exact ⟨(),(hx0 _ (sJ h4)).symm,.w (wkF trivial trivial qd)⟩
theorem ref08_Same_ok {a0 : List (B8 × B8 × Bool)} {a1 : List (B8 × B8 × Bool)} {r : Bool} (h : ql2 a0 a1 = some r) : FnOk Tryz.prog 23 [.d (eSS a0),.d (eSS a1)] 0 (lk []) (fun rr oo => rr = .d (qz r) ∧ oo = lk []) := by
 refine fnO Tryz.func23 rfl rfl (cwP ?_)
 unfold ql2 at h
 refine cwS (cwR (
  .c (uA rfl)<|.nil rfl) ?_)
 refine cwS ?_
 refine cwS (cwR (
  .c (uM rfl)<|
  .c (qo0 (enc := eSp) (xs := a0) rfl rfl .no rfl sl59)<|
  .c (uM rfl)<|
  .c (qo0 (enc := eSp) (xs := a1) rfl rfl .no rfl sl59)<|
  .c (uB rfl (b_neq _ _) rfl)<|.nil rfl) ?_)
 rcases cdS h with ⟨hc0,h0⟩ | ⟨hc0,h1⟩
 ·refine cwT rfl hc0 ?_
  refine cwS (cwR (
   .c (uA rfl)<|.nil rfl) ?_)
  have heq := ((sJ h0)).symm
  subst heq
  exact qe ⟨_,(show Leads _ _ (St.of [(4,.d (qz false))] []) from .w (wkF ⟨wD rfl,trivial⟩ trivial qd)),.inr rfl,_,res1 rfl rfl,rfl,rfl⟩
 refine cwF rfl hc0 ?_
 refine cwK ?_
 have ⟨o0,hj0,h2⟩ := bdS h1
 refine cwJ (fun (z : Unit) => St.of [] []) (fun (z : Unit) => o0 = (.inl z)) ?_ ?_
 ·intro v0 hv0; subst hv0
  simp only [Sum.elim_inl] at h2
  refine cwS (cwR (
   .c (uA rfl)<|.nil rfl) ?_)
  have heq := ((sJ h2)).symm
  subst heq
  exact qe ⟨_,(show Leads _ _ (St.of [(4,.d (qz true))] []) from .w (wkF ⟨wD rfl,trivial⟩ trivial qd)),.inr rfl,_,res1 rfl rfl,rfl,rfl⟩
 refine cwS (cwR (
  .c (uA rfl)<|.nil rfl) ?_)
 refine cwB ?_
 refine qr (V := Int) (O := (Unit ⊕ Bool)) (fun (z : Int) => St.of [(0,.d (eSS a0)),(1,.d (eSS a1)),(5,.d (eint z))] []) hj0 (.w (wkF ⟨wD rfl,wD rfl,wD rfl,trivial⟩ trivial qd)) ?_
 intro v1 x0 hb0 hx0
 refine cwS ?_
 refine cwS (cwR (
  .c (uM rfl)<|
  .c (uM rfl)<|
  .c (qo0 (enc := eSp) (xs := a0) rfl rfl .no rfl sl59)<|
  .c (uB rfl (q31 _ _) rfl)<|.nil rfl) ?_)
 rcases cdS hb0 with ⟨hc1,h3⟩ | ⟨hc1,h4⟩
 ·refine cwT rfl hc1 ?_
  refine cwK ?_
  refine cwS ?_
  refine cwB ?_
  have ⟨x1,hx1,h5⟩ := bdS h3
  have hx1g := qn hx1
  have ⟨x2,hx2,h6⟩ := bdS h5
  have hx2g := qn hx2
  refine cwS (cwRA mixed (by kernel_rfl) (
   .c (uM rfl)<|
   .c (uM rfl)<|
   .c (qZ1 (enc := eSp) (xs := a0) rfl rfl .no rfl rfl sl59 sz41 hx1g.1 hx1g.2)<|
   .c (o_ld rfl rfl .no rfl ta41 rfl rfl)<|
   .c (uM rfl)<|
   .c (uM rfl)<|
   .c (qZ1 (enc := eSp) (xs := a1) rfl rfl .no rfl rfl sl59 sz41 hx2g.1 hx2g.2)<|
   .c (o_ld rfl rfl .no rfl ta41 rfl rfl)<|
   .c (o_ne rfl rfl .no rfl rfl rfl rfl eg41 (.st flds41 (.cons ta39 rfl rfl rfl rfl (.bs ar39 un5 sz5) (.cons ta39 rfl rfl rfl rfl (.bs ar39 un5 sz5) (.cons ta4 rfl rfl rfl rfl (.bool un4) .nil)))))<|.nil rfl) (by kernel_rfl) ?_)
  rcases cdS h6 with ⟨hc2,h7⟩ | ⟨hc2,h8⟩
  ·refine cwT rfl hc2 ?_
   refine cwS (cwR (
    .c (uA rfl)<|.nil rfl) ?_)
   have he0 := ((hx0 _ (sJ h7)).symm).symm
   subst he0
   have heq := ((sJ h2)).symm
   subst heq
   exact qe ⟨_,(show Leads _ _ (St.of [(4,.d (qz false))] []) from .w (wkF ⟨wD rfl,trivial⟩ trivial qd)),.inr rfl,_,res1 rfl rfl,rfl,rfl⟩
  refine cwF rfl hc2 ?_
  refine cwK ?_
  refine cwR (
   .c (uM rfl)<|
   .c (uB rfl (q61 _ _) rfl)<|
   .c (uA rfl)<|.nil rfl
  ) ?_
  exact ⟨(IntKind.wrap .i64 (v1 + 1)),(sJ h8),.w (wkF ⟨wD rfl,wD rfl,wD rfl,trivial⟩ trivial qd)⟩
 refine cwF rfl hc1 ?_
 refine qG ?_
 exact ⟨(),(hx0 _ (sJ h4)).symm,.w (wkF trivial trivial qd)⟩
theorem ref03_Less_ok {a0 : List UInt8} {a1 : List UInt8} {r : Bool} (h : qQ1 a0 a1 = some r) : FnOk Tryz.prog 138 [.d (eK a0),.d (eK a1)] 0 (lk []) (fun rr oo => rr = .d (qz r) ∧ oo = lk []) := by
 refine fnO Tryz.func138 rfl rfl (cwP ?_)
 unfold qQ1 at h
 refine cwS (cwR (
  .c (uX 0 rfl)<|
  .c (uX 1 rfl)<|
  .c (uA rfl)<|.nil rfl) ?_)
 refine cwS (cwRA mixed (by kernel_rfl) (
  .c (qR3 rfl rfl .no rfl ar39 sz5 .no .no (by decide) (by decide) (by decide))<|
  .c (o_cvB [] rfl rfl .no rfl rfl rfl sl26 un5 un9)<|
  .c (qR3 rfl rfl .no rfl ar39 sz5 .no .no (by decide) (by decide) (by decide))<|
  .c (o_cvB [] rfl rfl .no rfl rfl rfl sl26 un5 un9)<|
  .c (qc rfl rfl .no rfl rfl (s_lss _ _) rfl)<|
  .c (uA rfl)<|.nil rfl) (by kernel_rfl) ?_)
 have heq := ((sJ h)).symm
 subst heq
 exact qe ⟨_,(show Leads _ _ (St.of [(4,.d (qz (Op.bytesLess (qi1 a0).data.toList (qi1 a1).data.toList)))] []) from .w (wkF ⟨wD rfl,trivial⟩ trivial qd)),.inr rfl,_,res1 rfl rfl,rfl,rfl⟩
theorem qf3 {a0 : List (B8 × ByteArray)} {a1 : List UInt8} {r : (Int × Bool)} (h : q41 a0 a1 = some r) : FnOk Tryz.prog 114 [.d (eSP_ a0),.d (eK a1)] 0 (lk []) (fun rr oo => rr = .tup [.d (eint r.1),.d (qz r.2)] ∧ oo = lk []) := by
 refine fnO Tryz.func114 rfl rfl (cwP ?_)
 unfold q41 at h
 refine cwS (cwR (
  .c (uX 0 rfl)<|
  .c (uA rfl)<|
  .c (uA rfl)<|.nil rfl) ?_)
 refine cwS (cwR (
  .c (uA rfl)<|.nil rfl) ?_)
 have ⟨o0,hj0,h0⟩ := bdS h
 refine cwJ (fun (z : Int) => St.of [(0,.d (eSP_ a0)),(3,.ptr 0 0),(6,.d (eint z))] [(0,.box (.d (eK a1)))]) (fun (z : Int) => o0 = z) ?_ ?_
 ·intro v0 hv0; subst hv0
  have ⟨o1,hj1,h1⟩ := bdS h0
  refine cwJ (fun (z : Bool) => St.of [(4,.d (eint o0)),(5,.d (qz z))] []) (fun (z : Bool) => o1 = z) ?_ ?_
  ·intro v1 hv1; subst hv1
   have heq := ((sJ h1)).symm
   subst heq
   exact qe ⟨_,(show Leads _ _ (St.of [(4,.d (eint o0)),(5,.d (qz o1))] []) from .w (wkF ⟨wD rfl,wD rfl,trivial⟩ trivial qd)),.inr rfl,_,res2 rfl rfl rfl,rfl,rfl⟩
  rcases cdS hj1 with ⟨hc0,h2⟩ | ⟨hc0,h3⟩
  ·skip
   have ⟨x0,hx0,h4⟩ := bdS h2
   have hx0g := qn hx0
   refine cwRA mixed (by kernel_rfl) (
    .c (uM rfl)<|
    .c (uM rfl)<|
    .c (uM rfl)<|
    .c (qo0 (enc := ePr) (xs := a0) rfl rfl .no rfl sl35)<|
    .c (uB rfl (q31 _ _) rfl)<|
    .c (uM rfl)<|
    .c (o_mv rfl rfl (.yes rfl rfl hc0) rfl)<|
    .c (o_mv rfl rfl (.yes rfl rfl hc0) rfl)<|
    .c (qZ1 (enc := ePr) (xs := a0) rfl rfl (.yes rfl rfl hc0) rfl rfl sl35 sz47 hx0g.1 hx0g.2)<|
    .c (qT4 rfl rfl (.yes rfl rfl hc0) rfl qK3 (by decide) rfl rfl)<|
    .c (o_ld rfl rfl (.yes rfl rfl hc0) rfl ta39 rfl rfl)<|
    .c (ql [] rfl rfl (.yes rfl rfl hc0) rfl rfl rfl ta39 rfl rfl)<|
    .c (o_eq rfl rfl (.yes rfl rfl hc0) rfl rfl rfl rfl eg39 (.bs ar39 un5 sz5))<|
    .c (uPT rfl hc0)<|
    .c (uA rfl)<|
    .c (uA rfl)<|.nil rfl) (by kernel_rfl) ?_
   exact ⟨(decide (x0.1 = a1)),(sJ h4),.w (wkF ⟨wD rfl,wD rfl,trivial⟩ trivial qd)⟩
  refine cwRA mixed (by kernel_rfl) (
   .c (uM rfl)<|
   .c (uM rfl)<|
   .c (uM rfl)<|
   .c (qo0 (enc := ePr) (xs := a0) rfl rfl .no rfl sl35)<|
   .c (uB rfl (q31 _ _) rfl)<|
   .c (uM rfl)<|
   .c (uN rfl rfl hc0)<|
   .c (uN rfl rfl hc0)<|
   .c (uN rfl rfl hc0)<|
   .c (uN rfl rfl hc0)<|
   .c (uN rfl rfl hc0)<|
   .c (uN rfl rfl hc0)<|
   .c (uN rfl rfl hc0)<|
   .c (uPF rfl hc0)<|
   .c (uA rfl)<|
   .c (uA rfl)<|.nil rfl) (by kernel_rfl) ?_
  exact ⟨false,(sJ h3),.w (wkF ⟨wD rfl,wD rfl,trivial⟩ trivial qd)⟩
 refine cwB ?_
 refine qr (V := Int) (O := Int) (fun (z : Int) => St.of [(0,.d (eSP_ a0)),(3,.ptr 0 0),(6,.d (eint z))] [(0,.box (.d (eK a1)))]) hj0 (.w (wkF ⟨wD rfl,⟨_,rfl,.ptr rfl rfl⟩,wD rfl,trivial⟩ ⟨.box rfl (.d rfl),trivial⟩ qd)) ?_
 intro v2 x1 hb0 hx1
 refine cwS ?_
 refine cwS (cwR (
  .c (uM rfl)<|
  .c (uM rfl)<|
  .c (qo0 (enc := ePr) (xs := a0) rfl rfl .no rfl sl35)<|
  .c (uB rfl (q31 _ _) rfl)<|.nil rfl) ?_)
 rcases cdS hb0 with ⟨hc1,h5⟩ | ⟨hc1,h6⟩
 ·refine cwT rfl hc1 ?_
  refine cwK ?_
  refine cwB ?_
  have ⟨x2,hx2,h7⟩ := bdS h5
  have hx2g := qn hx2
  have ⟨x3,hx3,h8⟩ := bdS (x := qQ1 x2.1 a1) h7
  refine cwS (cwRA mixed (by kernel_rfl) (
   .c (uM rfl)<|
   .c (uM rfl)<|
   .c (qZ1 (enc := ePr) (xs := a0) rfl rfl .no rfl rfl sl35 sz47 hx2g.1 hx2g.2)<|
   .c (qT4 rfl rfl .no rfl qK3 (by decide) rfl rfl)<|
   .c (o_ld rfl rfl .no rfl ta39 rfl rfl)<|
   .c (uL [] rfl ta39 rfl)<|
   .c (qj rfl rfl .no Tryz.func138 rfl rfl (ref03_Less_ok hx3) (.cons rfl .d (.cons rfl .d .nil)) ⟨trivial,trivial,trivial⟩ (.inl rfl))<|
   .c (uA rfl)<|.nil rfl) (by kernel_rfl) ?_)
  refine cwS ?_
  refine cwS (cwR (
   .c (uM rfl)<|
   .c (uT rfl)<|.nil rfl) ?_)
  rcases cdS h8 with ⟨hc2,h9⟩ | ⟨hc2,h10⟩
  ·refine cwT rfl hc2 ?_
   refine qG ?_
   exact ⟨v2,(hx1 _ (sJ h9)).symm,.w (wkF ⟨wD rfl,⟨_,rfl,.ptr rfl rfl⟩,wD rfl,trivial⟩ ⟨.box rfl (.d rfl),trivial⟩ qd)⟩
  refine cwF rfl hc2 ?_
  refine cwK ?_
  refine cwR (
   .c (uM rfl)<|
   .c (uB rfl (q61 _ _) rfl)<|
   .c (uA rfl)<|.nil rfl
  ) ?_
  exact ⟨(IntKind.wrap .i64 (v2 + 1)),(sJ h10),.w (wkF ⟨wD rfl,⟨_,rfl,.ptr rfl rfl⟩,wD rfl,trivial⟩ ⟨.box rfl (.d rfl),trivial⟩ qd)⟩
 refine cwF rfl hc1 ?_
 refine qG ?_
 exact ⟨v2,(hx1 _ (sJ h6)).symm,.w (wkF ⟨wD rfl,⟨_,rfl,.ptr rfl rfl⟩,wD rfl,trivial⟩ ⟨.box rfl (.d rfl),trivial⟩ qd)⟩
theorem ref09_put_ok {a0 : List (B8 × ByteArray)} {a1 : (B8 × ByteArray)} {r : (List (B8 × ByteArray))} (h : qt2 a0 a1 = some r) : FnOk Tryz.prog 77 [.d (eSP_ a0),.d (ePr a1)] 0 (lk []) (fun rr oo => rr = .d (eSP_ r) ∧ oo = lk []) := by
 refine fnO Tryz.func77 rfl rfl (cwP ?_)
 unfold qt2 at h
 refine cwS (cwR (
  .c (uX 0 rfl)<|
  .c (uA rfl)<|.nil rfl) ?_)
 have ⟨x0,hx0,h0⟩ := bdS (x := q41 a0 a1.1) h
 refine cwS (cwR (
  .c (uM rfl)<|
  .c (uF rfl qK3 rfl)<|
  .c (uL [0] rfl ta39 rfl)<|
  .c (qj rfl rfl .no Tryz.func114 rfl rfl (qf3 hx0) (.cons rfl .d (.cons rfl .d .nil)) ⟨trivial,trivial,trivial⟩ (.inl rfl))<|
  .c (uM rfl)<|
  .c (uE rfl)<|
  .c (uE rfl)<|
  .c (uA rfl)<|
  .c (uA rfl)<|.nil rfl) ?_)
 have ⟨x1,hx1,h1⟩ := bdS h0
 have hx1g := qE hx1
 have ⟨x2,hx2,h2⟩ := bdS h1
 have hx2g := qt hx2
 refine cwS (cwR (
  .c (o_bslO (rows := ([] : List (B8 × ByteArray)).map ePr) 1 rfl rfl .no .nil rfl sl35 sz47 ze47 rfl (qC1 qE0) (by decide) rfl)<|
  .c (uM rfl)<|
  .c (uM rfl)<|
  .c (o_slM (enc := ePr) (xs := a0) rfl rfl .no rfl sl35 sz47 .no (.val rfl hx1g.2.1) hx1g.2.2.1 hx1g.2.2.2)<|
  .c (qN1 (enc := ePr) (xs := ([] : List (B8 × ByteArray))) (ys := (qm0 a0 0 x0.1)) rfl rfl .no rfl rfl rfl qE0 sl35 sl35 sz47 by47 ze47 rfl (by decide) hx2g)<|
  .c (uA rfl)<|.nil rfl) ?_)
 have ⟨x3,hx3,h3⟩ := bdS h2
 have hx3g := qt hx3
 refine cwS (cwR (
  .c (uM rfl)<|
  .c (uL [] rfl ta47 rfl)<|
  .c (qc5 (rows := ([a1] : List (B8 × ByteArray)).map ePr) rfl rfl .no (.cons rfl .nil) rfl sl35 sz47 ze47 rfl (qC1 qE0) (by decide))<|
  .c (qN1 (enc := ePr) (xs := (([] : List (B8 × ByteArray)) ++ (qm0 a0 0 x0.1))) (ys := [a1]) rfl rfl .no rfl rfl rfl qE0 sl35 sl35 sz47 by47 ze47 rfl (by decide) hx3g)<|
  .c (uA rfl)<|.nil rfl) ?_)
 have ⟨o0,hj0,h4⟩ := bdS h3
 refine cwJ (fun (z : Int) => St.of [(0,.d (eSP_ a0)),(5,.d (eint z)),(7,.arr 1 0)] [(1,.arr 0 25 (((([] : List (B8 × ByteArray)) ++ (qm0 a0 0 x0.1)) ++ [a1]).map ePr))]) (fun (z : Int) => o0 = z) ?_ ?_
 ·intro v0 hv0; subst hv0
  have ⟨x4,hx4,h5⟩ := bdS h4
  have hx4g := qE hx4
  have ⟨x5,hx5,h6⟩ := bdS h5
  have hx5g := qt hx5
  refine cwS (cwR (
   .c (uM rfl)<|
   .c (uM rfl)<|
   .c (uM rfl)<|
   .c (o_slM (enc := ePr) (xs := a0) rfl rfl .no rfl sl35 sz47 (.val rfl hx4g.1) .no hx4g.2.2.1 hx4g.2.2.2)<|
   .c (qN1 (enc := ePr) (xs := ((([] : List (B8 × ByteArray)) ++ (qm0 a0 0 x0.1)) ++ [a1])) (ys := (qm0 a0 o0 (a0.length : Int))) rfl rfl .no rfl rfl rfl qE0 sl35 sl35 sz47 by47 ze47 rfl (by decide) hx5g)<|
   .c (uA rfl)<|.nil rfl) ?_)
  have heq := ((sJ h6)).symm
  subst heq
  exact qe ⟨_,(show Leads _ _ (St.of [(4,.d (eSP_ (((([] : List (B8 × ByteArray)) ++ (qm0 a0 0 x0.1)) ++ [a1]) ++ (qm0 a0 o0 (a0.length : Int)))))] []) from .w (wkF ⟨⟨_,rfl,.frz rfl rfl rfl⟩,trivial⟩ trivial qd)),.inr rfl,_,res1 rfl rfl,rfl,rfl⟩
 refine cwS (cwR (
  .c (uM rfl)<|.nil rfl) ?_)
 rcases cdS hj0 with ⟨hc0,h7⟩ | ⟨hc0,h8⟩
 ·refine cwT rfl hc0 ?_
  refine cwR (
   .c (uM rfl)<|
   .c (uB rfl (q61 _ _) rfl)<|
   .c (uA rfl)<|.nil rfl
  ) ?_
  exact ⟨(IntKind.wrap .i64 (x0.1 + 1)),(sJ h7),.w (wkF ⟨wD rfl,wD rfl,⟨_,rfl,.arr rfl rfl⟩,trivial⟩ ⟨.arr0 rfl rfl rfl,trivial⟩ qd)⟩
 refine cwF rfl hc0 ?_
 refine cwK ?_
 exact ⟨x0.1,(sJ h8),.w (wkF ⟨wD rfl,wD rfl,⟨_,rfl,.arr rfl rfl⟩,trivial⟩ ⟨.arr0 rfl rfl rfl,trivial⟩ qd)⟩
theorem ref09_Map_ok {a0 : List (B8 × ByteArray)} {r : (List (B8 × ByteArray))} (h : qw2 a0 = some r) : FnOk Tryz.prog 44 [.d (eSP_ a0)] 0 (lk []) (fun rr oo => rr = .d (eSP_ r) ∧ oo = lk []) := by
 refine fnO Tryz.func44 rfl rfl (cwP ?_)
 unfold qw2 at h
 refine cwS (cwR (
  .c (uA rfl)<|.nil rfl) ?_)
 refine cwS (cwR (
  .c (uA rfl)<|.nil rfl) ?_)
 have ⟨o0,hj0,h0⟩ := bdS h
 refine cwJ (fun (z : (List (B8 × ByteArray))) => St.of [(3,.d (eSP_ z))] []) (fun (z : (List (B8 × ByteArray))) => o0 = z) ?_ ?_
 ·intro v0 hv0; subst hv0
  refine cwS (cwR (
   .c (uM rfl)<|
   .c (uA rfl)<|.nil rfl) ?_)
  have heq := ((sJ h0)).symm
  subst heq
  exact qe ⟨_,(show Leads _ _ (St.of [(2,.d (eSP_ o0))] []) from .w (wkF ⟨wD rfl,trivial⟩ trivial qd)),.inr rfl,_,res1 rfl rfl,rfl,rfl⟩
 refine cwS (cwR (
  .c (uA rfl)<|.nil rfl) ?_)
 refine cwB ?_
 refine qr (V := ((List (B8 × ByteArray)) × Int)) (O := (List (B8 × ByteArray))) (fun (z : ((List (B8 × ByteArray)) × Int)) => St.of [(0,.d (eSP_ a0)),(3,.d (eSP_ z.1)),(4,.d (eint z.2))] []) hj0 (.w (wkF ⟨wD rfl,⟨_,rfl,.nil0⟩,wD rfl,trivial⟩ trivial qd)) ?_
 intro v1 x0 hb0 hx0
 refine cwS ?_
 refine cwS (cwR (
  .c (uM rfl)<|
  .c (uM rfl)<|
  .c (qo0 (enc := ePr) (xs := a0) rfl rfl .no rfl sl35)<|
  .c (uB rfl (q31 _ _) rfl)<|.nil rfl) ?_)
 rcases cdS hb0 with ⟨hc0,h1⟩ | ⟨hc0,h2⟩
 ·refine cwT rfl hc0 ?_
  refine cwK ?_
  refine cwS ?_
  refine cwB ?_
  have ⟨x1,hx1,h3⟩ := bdS h1
  have hx1g := qn hx1
  have ⟨x2,hx2,h4⟩ := bdS (x := qt2 v1.1 x1) h3
  refine cwR (
   .c (uM rfl)<|
   .c (uM rfl)<|
   .c (uM rfl)<|
   .c (qZ1 (enc := ePr) (xs := a0) rfl rfl .no rfl rfl sl35 sz47 hx1g.1 hx1g.2)<|
   .c (o_ld rfl rfl .no rfl ta47 rfl rfl)<|
   .c (qj rfl rfl .no Tryz.func77 rfl rfl (ref09_put_ok hx2) (.cons rfl .d (.cons rfl .d .nil)) ⟨trivial,trivial,trivial⟩ (.inl rfl))<|
   .c (uA rfl)<|.nil rfl
  ) ?_
  refine cwR (
   .c (uM rfl)<|
   .c (uB rfl (q61 _ _) rfl)<|
   .c (uA rfl)<|.nil rfl
  ) ?_
  exact ⟨(x2,(IntKind.wrap .i64 (v1.2 + 1))),(sJ h4),.w (wkF ⟨wD rfl,wD rfl,wD rfl,trivial⟩ trivial qd)⟩
 refine cwF rfl hc0 ?_
 refine qG ?_
 exact ⟨v1.1,(hx0 _ (sJ h2)).symm,.w (wkF ⟨wD rfl,trivial⟩ trivial qd)⟩
theorem ref09_Get_ok {a0 : List (B8 × ByteArray)} {a1 : List UInt8} {r : (ByteArray × Bool)} (h : qB3 a0 a1 = some r) : FnOk Tryz.prog 83 [.d (eSP_ a0),.d (eK a1)] 0 (lk []) (fun rr oo => rr = .tup [.d (eStr r.1),.d (qz r.2)] ∧ oo = lk []) := by
 refine fnO Tryz.func83 rfl rfl (cwP ?_)
 unfold qB3 at h
 refine cwS (cwR (
  .c (uX 0 rfl)<|
  .c (uA rfl)<|
  .c (uA rfl)<|.nil rfl) ?_)
 have ⟨x0,hx0,h0⟩ := bdS (x := q41 a0 a1) h
 refine cwS (cwR (
  .c (uM rfl)<|
  .c (uL [] rfl ta39 rfl)<|
  .c (qj rfl rfl .no Tryz.func114 rfl rfl (qf3 hx0) (.cons rfl .d (.cons rfl .d .nil)) ⟨trivial,trivial,trivial⟩ (.inl rfl))<|
  .c (uM rfl)<|
  .c (uE rfl)<|
  .c (uE rfl)<|
  .c (uA rfl)<|
  .c (uA rfl)<|.nil rfl) ?_)
 refine cwS ?_
 refine cwS (cwR (
  .c (uM rfl)<|
  .c (uT rfl)<|.nil rfl) ?_)
 rcases cdS h0 with ⟨hc0,h1⟩ | ⟨hc0,h2⟩
 ·refine cwT rfl hc0 ?_
  refine cwS (cwR (
   .c (uA rfl)<|
   .c (uA rfl)<|.nil rfl) ?_)
  have heq := ((sJ h1)).symm
  subst heq
  exact qe ⟨_,(show Leads _ _ (St.of [(4,.d (eStr (ByteArray.mk #[]))),(5,.d (qz false))] []) from .w (wkF ⟨wD rfl,wD rfl,trivial⟩ trivial qd)),.inr rfl,_,res2 rfl rfl rfl,rfl,rfl⟩
 refine cwF rfl hc0 ?_
 refine cwK ?_
 have ⟨x1,hx1,h3⟩ := bdS h2
 have hx1g := qn hx1
 refine cwS (cwR (
  .c (uM rfl)<|
  .c (uM rfl)<|
  .c (qZ1 (enc := ePr) (xs := a0) rfl rfl .no rfl rfl sl35 sz47 hx1g.1 hx1g.2)<|
  .c (qT4 rfl rfl .no rfl qm3 (by decide) rfl rfl)<|
  .c (o_ld rfl rfl .no rfl ta9 rfl rfl)<|
  .c (uA rfl)<|
  .c (uA rfl)<|.nil rfl) ?_)
 have heq := ((sJ h3)).symm
 subst heq
 exact qe ⟨_,(show Leads _ _ (St.of [(4,.d (eStr x1.2)),(5,.d (qz true))] []) from .w (wkF ⟨wD rfl,wD rfl,trivial⟩ trivial qd)),.inr rfl,_,res2 rfl rfl rfl,rfl,rfl⟩
theorem ref09_Apply_ok {a0 : List (B8 × ByteArray)} {a1 : List (B8 × ByteArray × Bool)} {r : (List (B8 × ByteArray))} (h : q52 a0 a1 = some r) : FnOk Tryz.prog 118 [.d (eSP_ a0),.d (eSC a1)] 0 (lk []) (fun rr oo => rr = .d (eSP_ r) ∧ oo = lk []) := by
 refine fnO Tryz.func118 rfl rfl (cwP ?_)
 unfold q52 at h
 refine cwS (cwR (
  .c (uA rfl)<|.nil rfl) ?_)
 have ⟨x0,hx0,h0⟩ := bdS (x := qw2 a0) h
 refine cwS (cwR (
  .c (uM rfl)<|
  .c (qj rfl rfl .no Tryz.func44 rfl rfl (ref09_Map_ok hx0) (.cons rfl .d .nil) ⟨trivial,trivial⟩ (.inl rfl))<|
  .c (uA rfl)<|.nil rfl) ?_)
 have ⟨o0,hj0,h1⟩ := bdS h0
 refine cwJ (fun (z : (List (B8 × ByteArray))) => St.of [(5,.d (eSP_ z))] []) (fun (z : (List (B8 × ByteArray))) => o0 = z) ?_ ?_
 ·intro v0 hv0; subst hv0
  refine cwS (cwR (
   .c (uM rfl)<|
   .c (uA rfl)<|.nil rfl) ?_)
  have heq := ((sJ h1)).symm
  subst heq
  exact qe ⟨_,(show Leads _ _ (St.of [(4,.d (eSP_ o0))] []) from .w (wkF ⟨wD rfl,trivial⟩ trivial qd)),.inr rfl,_,res1 rfl rfl,rfl,rfl⟩
 refine cwS (cwR (
  .c (uA rfl)<|.nil rfl) ?_)
 refine cwB ?_
 refine qr (V := ((List (B8 × ByteArray)) × Int)) (O := (List (B8 × ByteArray))) (fun (z : ((List (B8 × ByteArray)) × Int)) => St.of [(1,.d (eSC a1)),(5,.d (eSP_ z.1)),(6,.d (eint z.2))] []) hj0 (.w (wkF ⟨wD rfl,wD rfl,wD rfl,trivial⟩ trivial qd)) ?_
 intro v1 x1 hb0 hx1
 refine cwS ?_
 refine cwS (cwR (
  .c (uM rfl)<|
  .c (uM rfl)<|
  .c (qo0 (enc := eCg) (xs := a1) rfl rfl .no rfl sl49)<|
  .c (uB rfl (q31 _ _) rfl)<|.nil rfl) ?_)
 rcases cdS hb0 with ⟨hc0,h2⟩ | ⟨hc0,h3⟩
 ·refine cwT rfl hc0 ?_
  refine cwK ?_
  have ⟨o1,hj1,h4⟩ := bdS h2
  refine cwJ (fun (z : (List (B8 × ByteArray))) => St.of [(1,.d (eSC a1)),(5,.d (eSP_ z)),(6,.d (eint v1.2))] []) (fun (z : (List (B8 × ByteArray))) => o1 = z) ?_ ?_
  ·intro v2 hv1; subst hv1
   refine cwR (
    .c (uM rfl)<|
    .c (uB rfl (q61 _ _) rfl)<|
    .c (uA rfl)<|.nil rfl
   ) ?_
   exact ⟨(o1,(IntKind.wrap .i64 (v1.2 + 1))),(sJ h4),.w (wkF ⟨wD rfl,wD rfl,wD rfl,trivial⟩ trivial qd)⟩
  refine cwB ?_
  have ⟨x2,hx2,h5⟩ := bdS hj1
  have hx2g := qn hx2
  have ⟨x3,hx3,h6⟩ := bdS (x := q41 v1.1 x2.1) h5
  refine cwS (cwR (
   .c (uM rfl)<|
   .c (uM rfl)<|
   .c (uM rfl)<|
   .c (qZ1 (enc := eCg) (xs := a1) rfl rfl .no rfl rfl sl49 sz88 hx2g.1 hx2g.2)<|
   .c (qT4 rfl rfl .no rfl qF3 (by decide) rfl rfl)<|
   .c (o_ld rfl rfl .no rfl ta39 rfl rfl)<|
   .c (qj rfl rfl .no Tryz.func114 rfl rfl (qf3 hx3) (.cons rfl .d (.cons rfl .d .nil)) ⟨trivial,trivial,trivial⟩ (.inl rfl))<|
   .c (uM rfl)<|
   .c (uE rfl)<|
   .c (uE rfl)<|
   .c (uA rfl)<|
   .c (uA rfl)<|.nil rfl) ?_)
  refine cwS (cwR (
   .c (uM rfl)<|
   .c (uM rfl)<|
   .c (qZ1 (enc := eCg) (xs := a1) rfl rfl .no rfl rfl sl49 sz88 hx2g.1 hx2g.2)<|
   .c (qT4 rfl rfl .no rfl fld88_2 (by decide) rfl rfl)<|
   .c (o_ld rfl rfl .no rfl ta4 rfl rfl)<|
   .c (uT rfl)<|.nil rfl) ?_)
  rcases cdS h6 with ⟨hc1,h7⟩ | ⟨hc1,h8⟩
  ·refine cwT rfl hc1 ?_
   have ⟨x4,hx4,h9⟩ := bdS (x := qt2 v1.1 (x2.1,x2.2.1)) h7
   refine cwRA mixed (by kernel_rfl) (
    .c (uM rfl)<|
    .c (uM rfl)<|
    .c (uM rfl)<|
    .c (qZ1 (enc := eCg) (xs := a1) rfl rfl .no rfl rfl sl49 sz88 hx2g.1 hx2g.2)<|
    .c (qT4 rfl rfl .no rfl qF3 (by decide) rfl rfl)<|
    .c (o_ld rfl rfl .no rfl ta39 rfl rfl)<|
    .c (uM rfl)<|
    .c (uM rfl)<|
    .c (qZ1 (enc := eCg) (xs := a1) rfl rfl .no rfl rfl sl49 sz88 hx2g.1 hx2g.2)<|
    .c (qT4 rfl rfl .no rfl fld88_1 (by decide) rfl rfl)<|
    .c (o_ld rfl rfl .no rfl ta9 rfl rfl)<|
    .c (qL4 (ds := [eK x2.1,eStr x2.2.1]) rfl rfl .no zs47 rfl pl47 (.cons rfl rfl rfl rfl rfl rfl rfl (.cons rfl rfl rfl rfl rfl rfl rfl .nil)))<|
    .c (qj rfl rfl .no Tryz.func77 rfl rfl (ref09_put_ok hx4) (.cons rfl .d (.cons rfl .d .nil)) ⟨trivial,trivial,trivial⟩ (.inl rfl))<|
    .c (uA rfl)<|.nil rfl) (by kernel_rfl) ?_
   exact ⟨x4,(sJ h9),.w (wkF ⟨wD rfl,wD rfl,wD rfl,trivial⟩ trivial qd)⟩
  refine cwF rfl hc1 ?_
  refine cwS (cwR (
   .c (uM rfl)<|.nil rfl) ?_)
  rcases cdS h8 with ⟨hc2,h10⟩ | ⟨hc2,h11⟩
  ·refine cwT rfl hc2 ?_
   have ⟨x5,hx5,h12⟩ := bdS h10
   have hx5g := qE hx5
   have ⟨x6,hx6,h13⟩ := bdS h12
   have hx6g := qt hx6
   have ⟨x7,hx7,h14⟩ := bdS h13
   have hx7g := qE hx7
   have ⟨x8,hx8,h15⟩ := bdS h14
   have hx8g := qt hx8
   refine cwRA mixed (by kernel_rfl) (
    .c (o_bslO (rows := ([] : List (B8 × ByteArray)).map ePr) 0 rfl rfl .no .nil rfl sl35 sz47 ze47 rfl (qC1 qE0) (by decide) rfl)<|
    .c (uM rfl)<|
    .c (uM rfl)<|
    .c (o_slM (enc := ePr) (xs := v1.1) rfl rfl .no rfl sl35 sz47 .no (.val rfl hx5g.2.1) hx5g.2.2.1 hx5g.2.2.2)<|
    .c (qN1 (enc := ePr) (xs := ([] : List (B8 × ByteArray))) (ys := (qm0 v1.1 0 x3.1)) rfl rfl .no rfl rfl rfl qE0 sl35 sl35 sz47 by47 ze47 rfl (by decide) hx6g)<|
    .c (uM rfl)<|
    .c (uM rfl)<|
    .c (uB rfl (q61 _ _) rfl)<|
    .c (o_slM (enc := ePr) (xs := v1.1) rfl rfl .no rfl sl35 sz47 (.val rfl hx7g.1) .no hx7g.2.2.1 hx7g.2.2.2)<|
    .c (qN1 (enc := ePr) (xs := (([] : List (B8 × ByteArray)) ++ (qm0 v1.1 0 x3.1))) (ys := (qm0 v1.1 (IntKind.wrap .i64 (x3.1 + 1)) (v1.1.length : Int))) rfl rfl .no rfl rfl rfl qE0 sl35 sl35 sz47 by47 ze47 rfl (by decide) hx8g)<|
    .c (uA rfl)<|.nil rfl) (by kernel_rfl) ?_
   exact ⟨((([] : List (B8 × ByteArray)) ++ (qm0 v1.1 0 x3.1)) ++ (qm0 v1.1 (IntKind.wrap .i64 (x3.1 + 1)) (v1.1.length : Int))),(sJ h15),.w (wkF ⟨wD rfl,⟨_,rfl,.frz rfl rfl rfl⟩,wD rfl,trivial⟩ trivial qd)⟩
  refine cwF rfl hc2 ?_
  refine cwK ?_
  exact ⟨v1.1,(sJ h11),.w (wkF ⟨wD rfl,wD rfl,wD rfl,trivial⟩ trivial qd)⟩
 refine cwF rfl hc0 ?_
 refine qG ?_
 exact ⟨v1.1,(hx1 _ (sJ h3)).symm,.w (wkF ⟨wD rfl,trivial⟩ trivial qd)⟩
theorem ref09_with_ok {a0 : List (B8 × ByteArray × Bool)} {a1 : (B8 × ByteArray × Bool)} {r : (List (B8 × ByteArray × Bool))} (h : qf2 a0 a1 = some r) : FnOk Tryz.prog 142 [.d (eSC a0),.d (eCg a1)] 0 (lk []) (fun rr oo => rr = .d (eSC r) ∧ oo = lk []) := by
 refine fnO Tryz.func142 rfl rfl (cwP ?_)
 unfold qf2 at h
 refine cwS (cwR (
  .c (uX 0 rfl)<|
  .c (uA rfl)<|.nil rfl) ?_)
 have ⟨o0,hj0,h0⟩ := bdS h
 refine cwJ (fun (z : (B8 × ByteArray × Bool)) => St.of [(0,.d (eSC a0)),(3,.ptr 0 0)] [(0,.box (.d (eCg z)))]) (fun (z : (B8 × ByteArray × Bool)) => o0 = z) ?_ ?_
 ·intro v0 hv0; subst hv0
  refine cwS (cwR (
   .c (uA rfl)<|.nil rfl) ?_)
  have ⟨o1,hj1,h1⟩ := bdS h0
  refine cwJ (fun (z : Int) => St.of [(0,.d (eSC a0)),(3,.ptr 0 0),(5,.d (eint z))] [(0,.box (.d (eCg o0)))]) (fun (z : Int) => o1 = z) ?_ ?_
  ·intro v1 hv1; subst hv1
   have ⟨x0,hx0,h2⟩ := bdS h1
   have hx0g := qE hx0
   have ⟨x1,hx1,h3⟩ := bdS h2
   have hx1g := qt hx1
   refine cwS (cwR (
    .c (o_bslO (rows := ([] : List (B8 × ByteArray × Bool)).map eCg) 1 rfl rfl .no .nil rfl sl49 sz88 ze88 rfl (qC1 q70) (by decide) rfl)<|
    .c (uM rfl)<|
    .c (uM rfl)<|
    .c (o_slM (enc := eCg) (xs := a0) rfl rfl .no rfl sl49 sz88 .no (.val rfl hx0g.2.1) hx0g.2.2.1 hx0g.2.2.2)<|
    .c (qN1 (enc := eCg) (xs := ([] : List (B8 × ByteArray × Bool))) (ys := (qm0 a0 0 o1)) rfl rfl .no rfl rfl rfl q70 sl49 sl49 sz88 by88 ze88 rfl (by decide) hx1g)<|
    .c (uA rfl)<|.nil rfl) ?_)
   have ⟨x2,hx2,h4⟩ := bdS h3
   have hx2g := qt hx2
   refine cwS (cwR (
    .c (uM rfl)<|
    .c (uL [] rfl ta88 rfl)<|
    .c (qc5 (rows := ([o0] : List (B8 × ByteArray × Bool)).map eCg) rfl rfl .no (.cons rfl .nil) rfl sl49 sz88 ze88 rfl (qC1 q70) (by decide))<|
    .c (qN1 (enc := eCg) (xs := (([] : List (B8 × ByteArray × Bool)) ++ (qm0 a0 0 o1))) (ys := [o0]) rfl rfl .no rfl rfl rfl q70 sl49 sl49 sz88 by88 ze88 rfl (by decide) hx2g)<|
    .c (uA rfl)<|.nil rfl) ?_)
   have ⟨o2,hj2,h5⟩ := bdS h4
   refine cwJ (fun (z : Int) => St.of [(0,.d (eSC a0)),(5,.d (eint z)),(7,.arr 1 0)] [(1,.arr 0 26 (((([] : List (B8 × ByteArray × Bool)) ++ (qm0 a0 0 o1)) ++ [o0]).map eCg))]) (fun (z : Int) => o2 = z) ?_ ?_
   ·intro v2 hv2; subst hv2
    have ⟨x3,hx3,h6⟩ := bdS h5
    have hx3g := qE hx3
    have ⟨x4,hx4,h7⟩ := bdS h6
    have hx4g := qt hx4
    refine cwS (cwR (
     .c (uM rfl)<|
     .c (uM rfl)<|
     .c (uM rfl)<|
     .c (o_slM (enc := eCg) (xs := a0) rfl rfl .no rfl sl49 sz88 (.val rfl hx3g.1) .no hx3g.2.2.1 hx3g.2.2.2)<|
     .c (qN1 (enc := eCg) (xs := ((([] : List (B8 × ByteArray × Bool)) ++ (qm0 a0 0 o1)) ++ [o0])) (ys := (qm0 a0 o2 (a0.length : Int))) rfl rfl .no rfl rfl rfl q70 sl49 sl49 sz88 by88 ze88 rfl (by decide) hx4g)<|
     .c (uA rfl)<|.nil rfl) ?_)
    have heq := ((sJ h7)).symm
    subst heq
    exact qe ⟨_,(show Leads _ _ (St.of [(4,.d (eSC (((([] : List (B8 × ByteArray × Bool)) ++ (qm0 a0 0 o1)) ++ [o0]) ++ (qm0 a0 o2 (a0.length : Int)))))] []) from .w (wkF ⟨⟨_,rfl,.frz rfl rfl rfl⟩,trivial⟩ trivial qd)),.inr rfl,_,res1 rfl rfl,rfl,rfl⟩
   have ⟨o3,hj3,h8⟩ := bdS hj2
   refine cwJ (fun (z : Bool) => St.of [(0,.d (eSC a0)),(5,.d (eint o1)),(7,.arr 1 0),(49,.d (qz z))] [(1,.arr 0 26 (((([] : List (B8 × ByteArray × Bool)) ++ (qm0 a0 0 o1)) ++ [o0]).map eCg))]) (fun (z : Bool) => o3 = z) ?_ ?_
   ·intro v3 hv3; subst hv3
    rcases cdS h8 with ⟨hc0,h9⟩ | ⟨hc0,h10⟩
    ·refine cwT rfl hc0 ?_
     refine cwR (
      .c (uM rfl)<|
      .c (uB rfl (q61 _ _) rfl)<|
      .c (uA rfl)<|.nil rfl
     ) ?_
     exact ⟨(IntKind.wrap .i64 (o1 + 1)),(sJ h9),.w (wkF ⟨wD rfl,wD rfl,⟨_,rfl,.arr rfl rfl⟩,trivial⟩ ⟨.arr rfl rfl,trivial⟩ qd)⟩
    refine cwF rfl hc0 ?_
    refine cwK ?_
    exact ⟨o1,(sJ h10),.w (wkF ⟨wD rfl,wD rfl,⟨_,rfl,.arr rfl rfl⟩,trivial⟩ ⟨.arr rfl rfl,trivial⟩ qd)⟩
   rcases cdS hj3 with ⟨hc1,h11⟩ | ⟨hc1,h12⟩
   ·skip
    have ⟨x5,hx5,h13⟩ := bdS h11
    have hx5g := qn hx5
    refine cwRA mixed (by kernel_rfl) (
     .c (uM rfl)<|
     .c (uM rfl)<|
     .c (qo0 (enc := eCg) (xs := a0) rfl rfl .no rfl sl49)<|
     .c (uB rfl (q31 _ _) rfl)<|
     .c (uM rfl)<|
     .c (o_mv rfl rfl (.yes rfl rfl hc1) rfl)<|
     .c (o_mv rfl rfl (.yes rfl rfl hc1) rfl)<|
     .c (qZ1 (enc := eCg) (xs := a0) rfl rfl (.yes rfl rfl hc1) rfl rfl sl49 sz88 hx5g.1 hx5g.2)<|
     .c (qT4 rfl rfl (.yes rfl rfl hc1) rfl qF3 (by decide) rfl rfl)<|
     .c (o_ld rfl rfl (.yes rfl rfl hc1) rfl ta39 rfl rfl)<|
     .c (qf rfl rfl (.yes rfl rfl hc1) rfl qF3 (by decide))<|
     .c (ql [0] rfl rfl (.yes rfl rfl hc1) rfl rfl rfl ta39 rfl rfl)<|
     .c (o_eq rfl rfl (.yes rfl rfl hc1) rfl rfl rfl rfl eg39 (.bs ar39 un5 sz5))<|
     .c (uPT rfl hc1)<|.nil rfl) (by kernel_rfl) ?_
    exact ⟨(decide (x5.1 = o0.1)),(sJ h13),.w (wkF ⟨wD rfl,wD rfl,⟨_,rfl,.arr rfl rfl⟩,wD rfl,trivial⟩ ⟨.arr0 rfl rfl rfl,trivial⟩ qd)⟩
   refine cwRA mixed (by kernel_rfl) (
    .c (uM rfl)<|
    .c (uM rfl)<|
    .c (qo0 (enc := eCg) (xs := a0) rfl rfl .no rfl sl49)<|
    .c (uB rfl (q31 _ _) rfl)<|
    .c (uM rfl)<|
    .c (uN rfl rfl hc1)<|
    .c (uN rfl rfl hc1)<|
    .c (uN rfl rfl hc1)<|
    .c (uN rfl rfl hc1)<|
    .c (uN rfl rfl hc1)<|
    .c (uN rfl rfl hc1)<|
    .c (uN rfl rfl hc1)<|
    .c (uN rfl rfl hc1)<|
    .c (uPF rfl hc1)<|.nil rfl) (by kernel_rfl) ?_
   exact ⟨false,(sJ h12),.w (wkF ⟨wD rfl,wD rfl,⟨_,rfl,.arr rfl rfl⟩,wD rfl,trivial⟩ ⟨.arr0 rfl rfl rfl,trivial⟩ qd)⟩
  refine cwB ?_
  refine qr (V := Int) (O := Int) (fun (z : Int) => St.of [(0,.d (eSC a0)),(3,.ptr 0 0),(5,.d (eint z))] [(0,.box (.d (eCg o0)))]) hj1 (.w (wkF ⟨wD rfl,⟨_,rfl,.ptr rfl rfl⟩,wD rfl,trivial⟩ ⟨.box rfl (.d rfl),trivial⟩ qd)) ?_
  intro v4 x6 hb0 hx6
  refine cwS ?_
  refine cwS (cwR (
   .c (uM rfl)<|
   .c (uM rfl)<|
   .c (qo0 (enc := eCg) (xs := a0) rfl rfl .no rfl sl49)<|
   .c (uB rfl (q31 _ _) rfl)<|.nil rfl) ?_)
  rcases cdS hb0 with ⟨hc2,h14⟩ | ⟨hc2,h15⟩
  ·refine cwT rfl hc2 ?_
   refine cwK ?_
   refine cwB ?_
   have ⟨x7,hx7,h16⟩ := bdS h14
   have hx7g := qn hx7
   have ⟨x8,hx8,h17⟩ := bdS (x := qQ1 x7.1 o0.1) h16
   refine cwS (cwRA mixed (by kernel_rfl) (
    .c (uM rfl)<|
    .c (uM rfl)<|
    .c (qZ1 (enc := eCg) (xs := a0) rfl rfl .no rfl rfl sl49 sz88 hx7g.1 hx7g.2)<|
    .c (qT4 rfl rfl .no rfl qF3 (by decide) rfl rfl)<|
    .c (o_ld rfl rfl .no rfl ta39 rfl rfl)<|
    .c (uF rfl qF3 rfl)<|
    .c (uL [0] rfl ta39 rfl)<|
    .c (qj rfl rfl .no Tryz.func138 rfl rfl (ref03_Less_ok hx8) (.cons rfl .d (.cons rfl .d .nil)) ⟨trivial,trivial,trivial⟩ (.inl rfl))<|
    .c (uA rfl)<|.nil rfl) (by kernel_rfl) ?_)
   refine cwS ?_
   refine cwS (cwR (
    .c (uM rfl)<|
    .c (uT rfl)<|.nil rfl) ?_)
   rcases cdS h17 with ⟨hc3,h18⟩ | ⟨hc3,h19⟩
   ·refine cwT rfl hc3 ?_
    refine qG ?_
    exact ⟨v4,(hx6 _ (sJ h18)).symm,.w (wkF ⟨wD rfl,⟨_,rfl,.ptr rfl rfl⟩,wD rfl,trivial⟩ ⟨.box rfl (.d rfl),trivial⟩ qd)⟩
   refine cwF rfl hc3 ?_
   refine cwK ?_
   refine cwR (
    .c (uM rfl)<|
    .c (uB rfl (q61 _ _) rfl)<|
    .c (uA rfl)<|.nil rfl
   ) ?_
   exact ⟨(IntKind.wrap .i64 (v4 + 1)),(sJ h19),.w (wkF ⟨wD rfl,⟨_,rfl,.ptr rfl rfl⟩,wD rfl,trivial⟩ ⟨.box rfl (.d rfl),trivial⟩ qd)⟩
  refine cwF rfl hc2 ?_
  refine qG ?_
  exact ⟨v4,(hx6 _ (sJ h15)).symm,.w (wkF ⟨wD rfl,⟨_,rfl,.ptr rfl rfl⟩,wD rfl,trivial⟩ ⟨.box rfl (.d rfl),trivial⟩ qd)⟩
 refine cwS (cwR (
  .c (uF rfl fld88_2 rfl)<|
  .c (uL [2] rfl ta4 rfl)<|.nil rfl) ?_)
 rcases cdS hj0 with ⟨hc4,h20⟩ | ⟨hc4,h21⟩
 ·refine cwT rfl hc4 ?_
  refine cwR (
   .c (uF rfl fld88_1 rfl)<|
   .c (uS [1] rfl sz9 rfl)<|.nil rfl
  ) ?_
  exact ⟨(a1.1,(ByteArray.mk #[]),a1.2.2),(sJ h20),.w (wkF ⟨wD rfl,⟨_,rfl,.ptr rfl rfl⟩,trivial⟩ ⟨.box rfl (.d rfl),trivial⟩ qd)⟩
 refine cwF rfl hc4 ?_
 refine cwK ?_
 exact ⟨a1,(sJ h21),.w (wkF ⟨wD rfl,⟨_,rfl,.ptr rfl rfl⟩,trivial⟩ ⟨.box rfl (.d rfl),trivial⟩ qd)⟩
theorem ref09_Join_ok {a0 : List (List (B8 × ByteArray × Bool))} {r : (List (B8 × ByteArray × Bool))} (h : qJ1 a0 = some r) : FnOk Tryz.prog 119 [.d (eSSC a0)] 0 (lk []) (fun rr oo => rr = .d (eSC r) ∧ oo = lk []) := by
 refine fnO Tryz.func119 rfl rfl (cwP ?_)
 unfold qJ1 at h
 refine cwS (cwR (
  .c (uA rfl)<|.nil rfl) ?_)
 refine cwS (cwR (
  .c (uA rfl)<|.nil rfl) ?_)
 have ⟨o0,hj0,h0⟩ := bdS h
 refine cwJ (fun (z : (List (B8 × ByteArray × Bool))) => St.of [(3,.d (eSC z))] []) (fun (z : (List (B8 × ByteArray × Bool))) => o0 = z) ?_ ?_
 ·intro v0 hv0; subst hv0
  refine cwS (cwR (
   .c (uM rfl)<|
   .c (uA rfl)<|.nil rfl) ?_)
  have heq := ((sJ h0)).symm
  subst heq
  exact qe ⟨_,(show Leads _ _ (St.of [(2,.d (eSC o0))] []) from .w (wkF ⟨wD rfl,trivial⟩ trivial qd)),.inr rfl,_,res1 rfl rfl,rfl,rfl⟩
 refine cwS (cwR (
  .c (uA rfl)<|.nil rfl) ?_)
 refine cwB ?_
 refine qr (V := ((List (B8 × ByteArray × Bool)) × Int)) (O := (List (B8 × ByteArray × Bool))) (fun (z : ((List (B8 × ByteArray × Bool)) × Int)) => St.of [(0,.d (eSSC a0)),(3,.d (eSC z.1)),(4,.d (eint z.2))] []) hj0 (.w (wkF ⟨wD rfl,⟨_,rfl,.nil0⟩,wD rfl,trivial⟩ trivial qd)) ?_
 intro v1 x0 hb0 hx0
 refine cwS ?_
 refine cwS (cwR (
  .c (uM rfl)<|
  .c (uM rfl)<|
  .c (qo0 (enc := eSC) (xs := a0) rfl rfl .no rfl sl60)<|
  .c (uB rfl (q31 _ _) rfl)<|.nil rfl) ?_)
 rcases cdS hb0 with ⟨hc0,h1⟩ | ⟨hc0,h2⟩
 ·refine cwT rfl hc0 ?_
  refine cwK ?_
  have ⟨o1,hj1,h3⟩ := bdS h1
  refine cwJ (fun (z : (List (B8 × ByteArray × Bool))) => St.of [(0,.d (eSSC a0)),(3,.d (eSC z)),(4,.d (eint v1.2))] []) (fun (z : (List (B8 × ByteArray × Bool))) => o1 = z) ?_ ?_
  ·intro v2 hv1; subst hv1
   refine cwR (
    .c (uM rfl)<|
    .c (uB rfl (q61 _ _) rfl)<|
    .c (uA rfl)<|.nil rfl
   ) ?_
   exact ⟨(o1,(IntKind.wrap .i64 (v1.2 + 1))),(sJ h3),.w (wkF ⟨wD rfl,wD rfl,wD rfl,trivial⟩ trivial qd)⟩
  refine cwB ?_
  refine cwS (cwR (
   .c (uA rfl)<|.nil rfl) ?_)
  refine cwB ?_
  refine qr (V := ((List (B8 × ByteArray × Bool)) × Int)) (O := (List (B8 × ByteArray × Bool))) (fun (z : ((List (B8 × ByteArray × Bool)) × Int)) => St.of [(0,.d (eSSC a0)),(3,.d (eSC z.1)),(4,.d (eint v1.2)),(5,.d (eint z.2))] []) hj1 (.w (wkF ⟨wD rfl,wD rfl,wD rfl,wD rfl,trivial⟩ trivial qd)) ?_
  intro v3 x1 hb1 hx1
  refine cwS ?_
  have ⟨x2,hx2,h4⟩ := bdS hb1
  have hx2g := qn hx2
  refine cwS (cwR (
   .c (uM rfl)<|
   .c (uM rfl)<|
   .c (uM rfl)<|
   .c (qZ1 (enc := eSC) (xs := a0) rfl rfl .no rfl rfl sl60 sz49 hx2g.1 hx2g.2)<|
   .c (o_ld rfl rfl .no rfl ta49 rfl rfl)<|
   .c (qo0 (enc := eCg) (xs := x2) rfl rfl .no rfl sl49)<|
   .c (uB rfl (q31 _ _) rfl)<|.nil rfl) ?_)
  rcases cdS h4 with ⟨hc1,h5⟩ | ⟨hc1,h6⟩
  ·refine cwT rfl hc1 ?_
   refine cwK ?_
   refine cwS ?_
   refine cwB ?_
   have ⟨x3,hx3,h7⟩ := bdS h5
   have hx3g := qn hx3
   have ⟨x4,hx4,h8⟩ := bdS (x := qf2 v3.1 x3) h7
   refine cwR (
    .c (uM rfl)<|
    .c (uM rfl)<|
    .c (uM rfl)<|
    .c (qZ1 (enc := eSC) (xs := a0) rfl rfl .no rfl rfl sl60 sz49 hx2g.1 hx2g.2)<|
    .c (o_ld rfl rfl .no rfl ta49 rfl rfl)<|
    .c (uM rfl)<|
    .c (qZ1 (enc := eCg) (xs := x2) rfl rfl .no rfl rfl sl49 sz88 hx3g.1 hx3g.2)<|
    .c (o_ld rfl rfl .no rfl ta88 rfl rfl)<|
    .c (qj rfl rfl .no Tryz.func142 rfl rfl (ref09_with_ok hx4) (.cons rfl .d (.cons rfl .d .nil)) ⟨trivial,trivial,trivial⟩ (.inl rfl))<|
    .c (uA rfl)<|.nil rfl
   ) ?_
   refine cwR (
    .c (uM rfl)<|
    .c (uB rfl (q61 _ _) rfl)<|
    .c (uA rfl)<|.nil rfl
   ) ?_
   exact ⟨(x4,(IntKind.wrap .i64 (v3.2 + 1))),(sJ h8),.w (wkF ⟨wD rfl,wD rfl,wD rfl,wD rfl,trivial⟩ trivial qd)⟩
  refine cwF rfl hc1 ?_
  refine qG ?_
  exact ⟨v3.1,(hx1 _ (sJ h6)).symm,.w (wkF ⟨wD rfl,wD rfl,wD rfl,trivial⟩ trivial qd)⟩
 refine cwF rfl hc0 ?_
 refine qG ?_
 exact ⟨v1.1,(hx0 _ (sJ h2)).symm,.w (wkF ⟨wD rfl,trivial⟩ trivial qd)⟩
theorem ref03_One_okc {a0 : List UInt8} {r : (B8 × B8 × Bool)} (h : qs2 a0 = some r) : FnOk Tryz.prog 82 [.d (eK a0)] 0 (lk []) (fun rr oo => rr = .d (eSp r) ∧ oo = lk [(1,.box (.d (eSp r)))]) := by
 refine fnO Tryz.func82 rfl rfl (cwP ?_)
 unfold qs2 at h
 refine cwS (cwR (
  .c (uX 0 rfl)<|
  .c (qm 1 rfl rfl .no ze41 rfl)<|.nil rfl) ?_)
 refine cwS (cwR (
  .c (uL [] rfl ta39 rfl)<|
  .c (qm 2 rfl rfl .no ze39 rfl)<|
  .c (uS [] rfl sz39 rfl)<|.nil rfl) ?_)
 have ⟨o0,hj0,h0⟩ := bdS h
 refine cwJ (fun (z : Unit) => St.of [(1,.ptr 0 0),(2,.ptr 1 0)] [(0,.box (.d (eK a0))),(1,.box (.d (eSp ((List.replicate 24 0),(List.replicate 24 0),false))))]) (fun (z : Unit) => o0 = (.inl z)) ?_ ?_
 ·intro v0 hv0; subst hv0
  simp only [Sum.elim_inl] at h0
  refine cwS (cwR (
   .c (uL [] rfl ta39 rfl)<|
   .c (qL4 (ds := [eK a0,eK (List.replicate 24 0),qz true]) rfl rfl .no zs41 rfl pl41 (.cons rfl rfl rfl rfl rfl rfl rfl (.cons rfl rfl rfl rfl rfl rfl rfl .nil)))<|
   .c (uS [] rfl sz41 rfl)<|.nil rfl) ?_)
  have heq := ((sJ h0)).symm
  subst heq
  exact qe ⟨_,(show Leads _ _ (St.of [(2,.ptr 1 0)] [(1,.box (.d (eSp (a0,(List.replicate 24 0),true))))]) from .w (wkF ⟨⟨_,rfl,.ptr rfl rfl⟩,trivial⟩ ⟨.box rfl (.d rfl),trivial⟩ qd)),.inr rfl,_,resC rfl rfl rfl ta41 rfl rfl,rfl,rfl⟩
 refine cwS (cwR (
  .c (uA rfl)<|.nil rfl) ?_)
 refine cwB ?_
 refine qr (V := (Int × B8)) (O := (Unit ⊕ (B8 × B8 × Bool))) (fun (z : (Int × B8)) => St.of [(1,.ptr 0 0),(2,.ptr 1 0),(3,.ptr 2 0),(4,.d (eint z.1))] [(0,.box (.d (eK a0))),(1,.box (.d (eSp ((List.replicate 24 0),(List.replicate 24 0),false)))),(2,.box (.d (eK z.2)))]) hj0 (.w (wkF ⟨⟨_,rfl,.ptr rfl rfl⟩,⟨_,rfl,.ptr rfl rfl⟩,⟨_,rfl,.ptr rfl rfl⟩,wD rfl,trivial⟩ ⟨.box rfl (.d rfl),.box rfl (.d rfl),.box rfl (.d rfl),trivial⟩ qd)) ?_
 intro v1 x0 hb0 hx0
 refine cwS ?_
 refine cwS (cwR (
  .c (uM rfl)<|
  .c (uB rfl (qD4 _ _) rfl)<|.nil rfl) ?_)
 rcases cdS hb0 with ⟨hc0,h1⟩ | ⟨hc0,h2⟩
 ·refine cwT rfl hc0 ?_
  refine cwK ?_
  refine cwS ?_
  refine cwB ?_
  have ⟨x1,hx1,h3⟩ := bdS h1
  have hx1g := qK hx1
  have ⟨x2,hx2,h4⟩ := bdS h3
  have hx2g := qn hx2
  have ⟨x3,hx3,h5⟩ := bdS h4
  have hx3g := qK hx3
  have ⟨x4,hx4,h6⟩ := bdS h5
  have hx4g := qK hx4
  refine cwS (cwR (
   .c (uM rfl)<|
   .c (uM rfl)<|
   .c (q45 rfl rfl .no rfl rfl ar39 sz5 hx1g)<|
   .c (o_ldB (l := v1.2) [] rfl rfl .no rfl rfl rfl hx2g.2 ta5)<|
   .c (uB rfl (q61 _ _) rfl)<|
   .c (q45 rfl rfl .no rfl rfl ar39 sz5 hx1g)<|
   .c (o_stB (l := v1.2) [] rfl .no rfl rfl rfl rfl hx3g hx4g sz5)<|.nil rfl) ?_)
  have ⟨x5,hx5,h7⟩ := bdS h6
  have hx5g := qn hx5
  refine cwS (cwR (
   .c (uM rfl)<|
   .c (q45 rfl rfl .no rfl rfl ar39 sz5 hx1g)<|
   .c (o_ldB (l := (List.set v1.2 v1.1.toNat (UInt8.ofNat (IntKind.wrap .u8 ((x2.toNat : Int) + 1)).toNat))) [] rfl rfl .no rfl rfl rfl hx5g.2 ta5)<|
   .c (uB rfl (b_neq _ _) rfl)<|.nil rfl) ?_)
  rcases cdS h7 with ⟨hc1,h8⟩ | ⟨hc1,h9⟩
  ·refine cwT rfl hc1 ?_
   refine cwS (cwR (
    .c (uL [] rfl ta39 rfl)<|
    .c (uL [] rfl ta39 rfl)<|
    .c (qL4 (ds := [eK a0,eK (List.set v1.2 v1.1.toNat (UInt8.ofNat (IntKind.wrap .u8 ((x2.toNat : Int) + 1)).toNat)),qz false]) rfl rfl .no zs41 rfl pl41 (.cons rfl rfl rfl rfl rfl rfl rfl (.cons rfl rfl rfl rfl rfl rfl rfl .nil)))<|
    .c (uS [] rfl sz41 rfl)<|.nil rfl) ?_)
   have he0 := ((hx0 _ (sJ h8)).symm).symm
   subst he0
   have heq := ((sJ h0)).symm
   subst heq
   exact qe ⟨_,(show Leads _ _ (St.of [(2,.ptr 1 0)] [(1,.box (.d (eSp (a0,(List.set v1.2 v1.1.toNat (UInt8.ofNat (IntKind.wrap .u8 ((x2.toNat : Int) + 1)).toNat)),false))))]) from .w (wkF ⟨⟨_,rfl,.ptr rfl rfl⟩,trivial⟩ ⟨.box rfl (.d rfl),trivial⟩ qd)),.inr rfl,_,resC rfl rfl rfl ta41 rfl rfl,rfl,rfl⟩
  refine cwF rfl hc1 ?_
  refine cwK ?_
  refine cwR (
   .c (uM rfl)<|
   .c (uB rfl (qy4 _ _) rfl)<|
   .c (uA rfl)<|.nil rfl
  ) ?_
  exact ⟨((IntKind.wrap .i64 (v1.1 - 1)),(List.set v1.2 v1.1.toNat (UInt8.ofNat (IntKind.wrap .u8 ((x2.toNat : Int) + 1)).toNat))),(sJ h9),.w (wkF ⟨⟨_,rfl,.ptr rfl rfl⟩,⟨_,rfl,.ptr rfl rfl⟩,⟨_,rfl,.ptr rfl rfl⟩,wD rfl,trivial⟩ ⟨.box rfl (.d rfl),.box rfl (.d rfl),.box rfl (.d rfl),trivial⟩ qd)⟩
 refine cwF rfl hc0 ?_
 refine qG ?_
 exact ⟨(),(hx0 _ (sJ h2)).symm,.w (wkF ⟨⟨_,rfl,.ptr rfl rfl⟩,⟨_,rfl,.ptr rfl rfl⟩,trivial⟩ ⟨.box rfl (.d rfl),.box rfl (.d rfl),trivial⟩ qd)⟩
theorem ref03_One_ok {a0 : List UInt8} {r : (B8 × B8 × Bool)} (h : qs2 a0 = some r) : FnOk Tryz.prog 82 [.d (eK a0)] 0 (lk []) (fun rr oo => rr = .d (eSp r) ∧ oo = lk []) := qD0 (ref03_One_okc h)
theorem ref08_End_ok {r : ByteArray} (h : qr2 = some r) : FnOk Tryz.prog 160 [] 0 (lk []) (fun rr oo => rr = .d (eStr r) ∧ oo = lk []) := by
 refine fnO Tryz.func160 rfl rfl (cwP ?_)
 unfold qr2 at h
 refine cwS (cwR (
  .c (uA rfl)<|.nil rfl) ?_)
 refine cwS (cwR (
  .c (uA rfl)<|.nil rfl) ?_)
 have ⟨o0,hj0,h0⟩ := bdS h
 refine cwJ (fun (z : ByteArray) => St.of [(1,.d (eStr z))] []) (fun (z : ByteArray) => o0 = z) ?_ ?_
 ·intro v0 hv0; subst hv0
  refine cwS (cwR (
   .c (uM rfl)<|
   .c (uA rfl)<|.nil rfl) ?_)
  have heq := ((sJ h0)).symm
  subst heq
  exact qe ⟨_,(show Leads _ _ (St.of [(0,.d (eStr o0))] []) from .w (wkF ⟨wD rfl,trivial⟩ trivial qd)),.inr rfl,_,res1 rfl rfl,rfl,rfl⟩
 refine cwS (cwR (
  .c (uA rfl)<|.nil rfl) ?_)
 refine cwB ?_
 refine qr (V := (ByteArray × Int)) (O := ByteArray) (fun (z : (ByteArray × Int)) => St.of [(1,.d (eStr z.1)),(2,.d (eint z.2))] []) hj0 (.w (wkF ⟨wD rfl,wD rfl,trivial⟩ trivial qd)) ?_
 intro v1 x0 hb0 hx0
 refine cwS ?_
 refine cwS (cwR (
  .c (uM rfl)<|
  .c (uB rfl (q31 _ _) rfl)<|.nil rfl) ?_)
 rcases cdS hb0 with ⟨hc0,h1⟩ | ⟨hc0,h2⟩
 ·refine cwT rfl hc0 ?_
  refine cwK ?_
  refine cwS ?_
  refine cwB ?_
  have ⟨x1,hx1,h3⟩ := bdS h1
  have hx1g := qK hx1
  refine cwR (
   .c (uM rfl)<|
   .c (qc rfl rfl .no rfl rfl (s_add _ _ hx1g) rfl)<|
   .c (uA rfl)<|.nil rfl
  ) ?_
  refine cwR (
   .c (uM rfl)<|
   .c (uB rfl (q61 _ _) rfl)<|
   .c (uA rfl)<|.nil rfl
  ) ?_
  exact ⟨((v1.1 ++ (ByteArray.mk #[255])),(IntKind.wrap .i64 (v1.2 + 1))),(sJ h3),.w (wkF ⟨wD rfl,wD rfl,trivial⟩ trivial qd)⟩
 refine cwF rfl hc0 ?_
 refine qG ?_
 exact ⟨v1.1,(hx0 _ (sJ h2)).symm,.w (wkF ⟨wD rfl,trivial⟩ trivial qd)⟩
theorem ref08_to_ok {a0 : (B8 × B8 × Bool)} {r : ByteArray} (h : qk3 a0 = some r) : FnOk Tryz.prog 139 [.d (eSp a0)] 0 (lk []) (fun rr oo => rr = .d (eStr r) ∧ oo = lk []) := by
 refine fnO Tryz.func139 rfl rfl (cwP ?_)
 unfold qk3 at h
 refine cwS (cwR (
  .c (uX 0 rfl)<|
  .c (uA rfl)<|.nil rfl) ?_)
 refine cwS ?_
 refine cwS (cwR (
  .c (uF rfl qO4 rfl)<|
  .c (uL [2] rfl ta4 rfl)<|.nil rfl) ?_)
 rcases cdS h with ⟨hc0,h0⟩ | ⟨hc0,h1⟩
 ·refine cwT rfl hc0 ?_
  have ⟨x0,hx0,h2⟩ := bdS (x := qr2) h0
  refine cwS (cwR (
   .c (qj rfl rfl .no Tryz.func160 rfl rfl (ref08_End_ok hx0) .nil trivial (.inl rfl))<|
   .c (uA rfl)<|.nil rfl) ?_)
  have heq := ((sJ h2)).symm
  subst heq
  exact qe ⟨_,(show Leads _ _ (St.of [(2,.d (eStr x0))] []) from .w (wkF ⟨wD rfl,trivial⟩ trivial qd)),.inr rfl,_,res1 rfl rfl,rfl,rfl⟩
 refine cwF rfl hc0 ?_
 refine cwK ?_
 refine cwS (cwR (
  .c (uF rfl qm4 rfl)<|
  .c (qR3 rfl rfl .no rfl ar39 sz5 .no .no (by decide) (by decide) (by decide))<|
  .c (o_cvB [1] rfl rfl .no rfl rfl rfl sl26 un5 un9)<|
  .c (uA rfl)<|.nil rfl) ?_)
 have heq := ((sJ h1)).symm
 subst heq
 exact qe ⟨_,(show Leads _ _ (St.of [(2,.d (eStr (qi1 a0.2.1)))] []) from .w (wkF ⟨wD rfl,trivial⟩ trivial qd)),.inr rfl,_,res1 rfl rfl,rfl,rfl⟩
theorem ref08_of_okc {a0 : ByteArray} {a1 : ByteArray} {r : (B8 × B8 × Bool)} (h : qV2 a0 a1 = some r) : FnOk Tryz.prog 141 [.d (eStr a0),.d (eStr a1)] 0 (lk []) (fun rr oo => rr = .d (eSp r) ∧ oo = lk [(0,.box (.d (eSp r)))]) := by
 refine fnO Tryz.func141 rfl rfl (cwP ?_)
 unfold qV2 at h
 refine cwS (cwR (
  .c (qm 0 rfl rfl .no ze41 rfl)<|.nil rfl) ?_)
 refine cwS (cwR (
  .c (qm 1 rfl rfl .no ze41 rfl)<|.nil rfl) ?_)
 refine cwS (cwR (
  .c (uF rfl qq2 rfl)<|
  .c (qR3 rfl rfl .no rfl ar39 sz5 .no .no (by decide) (by decide) (by decide))<|
  .c (uM rfl)<|
  .c (o_cpS (l := (List.replicate 24 0)) [0] rfl rfl .no rfl rfl rfl rfl sl26 sz5)<|.nil rfl) ?_)
 have ⟨o0,hj0,h0⟩ := bdS h
 refine cwJ (fun (z : (B8 × B8 × Bool)) => St.of [(4,.ptr 0 0),(5,.ptr 1 0)] [(0,.box (.d (eSp ((List.replicate 24 0),(List.replicate 24 0),false)))),(1,.box (.d (eSp z)))]) (fun (z : (B8 × B8 × Bool)) => o0 = z) ?_ ?_
 ·intro v0 hv0; subst hv0
  refine cwS (cwR (
   .c (uL [] rfl ta41 rfl)<|
   .c (uS [] rfl sz41 rfl)<|.nil rfl) ?_)
  have heq := ((sJ h0)).symm
  subst heq
  exact qe ⟨_,(show Leads _ _ (St.of [(4,.ptr 0 0)] [(0,.box (.d (eSp o0)))]) from .w (wkF ⟨⟨_,rfl,.ptr rfl rfl⟩,trivial⟩ ⟨.box rfl (.d rfl),trivial⟩ qd)),.inr rfl,_,resC rfl rfl rfl ta41 rfl rfl,rfl,rfl⟩
 have ⟨x0,hx0,h1⟩ := bdS (x := qr2) hj0
 refine cwS (cwR (
  .c (uM rfl)<|
  .c (qj rfl rfl .no Tryz.func160 rfl rfl (ref08_End_ok hx0) .nil trivial (.inl rfl))<|
  .c (qc rfl rfl .no rfl rfl (qd5 _ _) rfl)<|.nil rfl) ?_)
 rcases cdS h1 with ⟨hc0,h2⟩ | ⟨hc0,h3⟩
 ·refine cwT rfl hc0 ?_
  refine cwR (
   .c (uF rfl qO4 rfl)<|
   .c (uS [2] rfl sz4 rfl)<|.nil rfl
  ) ?_
  exact ⟨((cpB (List.replicate 24 0) a0.data.toList),(List.replicate 24 0),true),(sJ h2),.w (wkF ⟨⟨_,rfl,.ptr rfl rfl⟩,⟨_,rfl,.ptr rfl rfl⟩,trivial⟩ ⟨.box rfl (.d rfl),.box rfl (.d rfl),trivial⟩ qd)⟩
 refine cwF rfl hc0 ?_
 refine cwR (
  .c (uF rfl qm4 rfl)<|
  .c (qR3 rfl rfl .no rfl ar39 sz5 .no .no (by decide) (by decide) (by decide))<|
  .c (uM rfl)<|
  .c (o_cpS (l := (List.replicate 24 0)) [1] rfl rfl .no rfl rfl rfl rfl sl26 sz5)<|.nil rfl
 ) ?_
 exact ⟨((cpB (List.replicate 24 0) a0.data.toList),(cpB (List.replicate 24 0) a1.data.toList),false),(sJ h3),.w (wkF ⟨⟨_,rfl,.ptr rfl rfl⟩,⟨_,rfl,.ptr rfl rfl⟩,trivial⟩ ⟨.box rfl (.d rfl),.box rfl (.d rfl),trivial⟩ qd)⟩
theorem ref08_of_ok {a0 : ByteArray} {a1 : ByteArray} {r : (B8 × B8 × Bool)} (h : qV2 a0 a1 = some r) : FnOk Tryz.prog 141 [.d (eStr a0),.d (eStr a1)] 0 (lk []) (fun rr oo => rr = .d (eSp r) ∧ oo = lk []) := qD0 (ref08_of_okc h)
theorem ref08_key_okc {a0 : ByteArray} {r : B8} (h : q03 a0 = some r) : FnOk Tryz.prog 116 [.d (eStr a0)] 0 (lk []) (fun rr oo => rr = .d (eK r) ∧ oo = lk [(0,.box (.d (eK r)))]) := by
 refine fnO Tryz.func116 rfl rfl (cwP ?_)
 unfold q03 at h
 refine cwS (cwR (
  .c (qm 0 rfl rfl .no ze39 rfl)<|.nil rfl) ?_)
 refine cwS (cwR (
  .c (qm 1 rfl rfl .no ze39 rfl)<|.nil rfl) ?_)
 refine cwS (cwR (
  .c (qR3 rfl rfl .no rfl ar39 sz5 .no .no (by decide) (by decide) (by decide))<|
  .c (uM rfl)<|
  .c (o_cpS (l := (List.replicate 24 0)) [] rfl rfl .no rfl rfl rfl rfl sl26 sz5)<|.nil rfl) ?_)
 refine cwS (cwR (
  .c (uL [] rfl ta39 rfl)<|
  .c (uS [] rfl sz39 rfl)<|.nil rfl) ?_)
 have heq := ((sJ h)).symm
 subst heq
 exact qe ⟨_,(show Leads _ _ (St.of [(2,.ptr 0 0)] [(0,.box (.d (eK (cpB (List.replicate 24 0) a0.data.toList))))]) from .w (wkF ⟨⟨_,rfl,.ptr rfl rfl⟩,trivial⟩ ⟨.box rfl (.d rfl),trivial⟩ qd)),.inr rfl,_,resC rfl rfl rfl ta39 rfl rfl,rfl,rfl⟩
theorem ref08_key_ok {a0 : ByteArray} {r : B8} (h : q03 a0 = some r) : FnOk Tryz.prog 116 [.d (eStr a0)] 0 (lk []) (fun rr oo => rr = .d (eK r) ∧ oo = lk []) := qD0 (ref08_key_okc h)
theorem ref08_with_ok {a0 : List ByteArray} {a1 : ByteArray} {r : (List ByteArray)} (h : q81 a0 a1 = some r) : FnOk Tryz.prog 140 [.d (qz0 a0),.d (eStr a1)] 0 (lk []) (fun rr oo => rr = .d (qz0 r) ∧ oo = lk []) := by
 refine fnO Tryz.func140 rfl rfl (cwP ?_)
 unfold q81 at h
 refine cwS (cwR (
  .c (uA rfl)<|.nil rfl) ?_)
 refine cwS (cwR (
  .c (uA rfl)<|.nil rfl) ?_)
 have ⟨o0,hj0,h0⟩ := bdS h
 refine cwJ (fun (z : Int) => St.of [(0,.d (qz0 a0)),(1,.d (eStr a1)),(5,.d (eint z))] []) (fun (z : Int) => o0 = z) ?_ ?_
 ·intro v0 hv0; subst hv0
  refine cwS ?_
  have ⟨o1,hj1,h1⟩ := bdS h0
  refine cwJ (fun (z : Bool) => St.of [(0,.d (qz0 a0)),(1,.d (eStr a1)),(5,.d (eint o0)),(31,.d (qz z))] []) (fun (z : Bool) => o1 = z) ?_ ?_
  ·intro v1 hv1; subst hv1
   rcases cdS h1 with ⟨hc0,h2⟩ | ⟨hc0,h3⟩
   ·refine cwT rfl hc0 ?_
    refine cwS (cwR (
     .c (uM rfl)<|
     .c (uA rfl)<|.nil rfl) ?_)
    have heq := ((sJ h2)).symm
    subst heq
    exact qe ⟨_,(show Leads _ _ (St.of [(4,.d (qz0 a0))] []) from .w (wkF ⟨wD rfl,trivial⟩ trivial qd)),.inr rfl,_,res1 rfl rfl,rfl,rfl⟩
   refine cwF rfl hc0 ?_
   refine cwK ?_
   have ⟨x0,hx0,h4⟩ := bdS h3
   have hx0g := qE hx0
   have ⟨x1,hx1,h5⟩ := bdS h4
   have hx1g := qt hx1
   have ⟨x2,hx2,h6⟩ := bdS h5
   have hx2g := qt hx2
   have ⟨x3,hx3,h7⟩ := bdS h6
   have hx3g := qE hx3
   have ⟨x4,hx4,h8⟩ := bdS h7
   have hx4g := qt hx4
   refine cwS (cwRA mixed (by kernel_rfl) (
    .c (o_bslO (rows := ([] : List ByteArray).map eStr) 0 rfl rfl .no .nil rfl qX4 sz9 ze9 rfl (qC1 sistring) (by decide) rfl)<|
    .c (uM rfl)<|
    .c (uM rfl)<|
    .c (o_slM (enc := eStr) (xs := a0) rfl rfl .no rfl qX4 sz9 .no (.val rfl hx0g.2.1) hx0g.2.2.1 hx0g.2.2.2)<|
    .c (qN1 (enc := eStr) (xs := ([] : List ByteArray)) (ys := (qm0 a0 0 o0)) rfl rfl .no rfl rfl rfl sistring qX4 qX4 sz9 by9 ze9 rfl (by decide) hx1g)<|
    .c (uM rfl)<|
    .c (qc5 (rows := ([a1] : List ByteArray).map eStr) rfl rfl .no (.cons rfl .nil) rfl qX4 sz9 ze9 rfl (qC1 sistring) (by decide))<|
    .c (qN1 (enc := eStr) (xs := (([] : List ByteArray) ++ (qm0 a0 0 o0))) (ys := [a1]) rfl rfl .no rfl rfl rfl sistring qX4 qX4 sz9 by9 ze9 rfl (by decide) hx2g)<|
    .c (uM rfl)<|
    .c (uM rfl)<|
    .c (o_slM (enc := eStr) (xs := a0) rfl rfl .no rfl qX4 sz9 (.val rfl hx3g.1) .no hx3g.2.2.1 hx3g.2.2.2)<|
    .c (qN1 (enc := eStr) (xs := ((([] : List ByteArray) ++ (qm0 a0 0 o0)) ++ [a1])) (ys := (qm0 a0 o0 (a0.length : Int))) rfl rfl .no rfl rfl rfl sistring qX4 qX4 sz9 by9 ze9 rfl (by decide) hx4g)<|
    .c (uA rfl)<|.nil rfl) (by kernel_rfl) ?_)
   have heq := ((sJ h8)).symm
   subst heq
   exact qe ⟨_,(show Leads _ _ (St.of [(4,.d (qz0 (((([] : List ByteArray) ++ (qm0 a0 0 o0)) ++ [a1]) ++ (qm0 a0 o0 (a0.length : Int)))))] []) from .w (wkF ⟨⟨_,rfl,.frz rfl rfl rfl⟩,trivial⟩ trivial qd)),.inr rfl,_,res1 rfl rfl,rfl,rfl⟩
  rcases cdS hj1 with ⟨hc1,h9⟩ | ⟨hc1,h10⟩
  ·skip
   have ⟨x5,hx5,h11⟩ := bdS h9
   have hx5g := qn hx5
   refine cwR (
    .c (uM rfl)<|
    .c (uM rfl)<|
    .c (qo0 (enc := eStr) (xs := a0) rfl rfl .no rfl qX4)<|
    .c (uB rfl (q31 _ _) rfl)<|
    .c (uM rfl)<|
    .c (o_mv rfl rfl (.yes rfl rfl hc1) rfl)<|
    .c (o_mv rfl rfl (.yes rfl rfl hc1) rfl)<|
    .c (qZ1 (enc := eStr) (xs := a0) rfl rfl (.yes rfl rfl hc1) rfl rfl qX4 sz9 hx5g.1 hx5g.2)<|
    .c (o_ld rfl rfl (.yes rfl rfl hc1) rfl ta9 rfl rfl)<|
    .c (o_mv rfl rfl (.yes rfl rfl hc1) rfl)<|
    .c (qc rfl rfl (.yes rfl rfl hc1) rfl rfl (qd5 _ _) rfl)<|
    .c (uPT rfl hc1)<|.nil rfl
   ) ?_
   exact ⟨(decide (x5 = a1)),(sJ h11),.w (wkF ⟨wD rfl,wD rfl,wD rfl,wD rfl,trivial⟩ trivial qd)⟩
  refine cwR (
   .c (uM rfl)<|
   .c (uM rfl)<|
   .c (qo0 (enc := eStr) (xs := a0) rfl rfl .no rfl qX4)<|
   .c (uB rfl (q31 _ _) rfl)<|
   .c (uM rfl)<|
   .c (uN rfl rfl hc1)<|
   .c (uN rfl rfl hc1)<|
   .c (uN rfl rfl hc1)<|
   .c (uN rfl rfl hc1)<|
   .c (uN rfl rfl hc1)<|
   .c (uN rfl rfl hc1)<|
   .c (uPF rfl hc1)<|.nil rfl
  ) ?_
  exact ⟨false,(sJ h10),.w (wkF ⟨wD rfl,wD rfl,wD rfl,wD rfl,trivial⟩ trivial qd)⟩
 refine cwB ?_
 refine qr (V := Int) (O := Int) (fun (z : Int) => St.of [(0,.d (qz0 a0)),(1,.d (eStr a1)),(5,.d (eint z))] []) hj0 (.w (wkF ⟨wD rfl,wD rfl,wD rfl,trivial⟩ trivial qd)) ?_
 intro v2 x6 hb0 hx6
 refine cwS ?_
 have ⟨o2,hj2,h12⟩ := bdS hb0
 refine cwJ (fun (z : Bool) => St.of [(0,.d (qz0 a0)),(1,.d (eStr a1)),(5,.d (eint v2)),(17,.d (qz z))] []) (fun (z : Bool) => o2 = z) ?_ ?_
 ·intro v3 hv2; subst hv2
  rcases cdS h12 with ⟨hc2,h13⟩ | ⟨hc2,h14⟩
  ·refine cwT rfl hc2 ?_
   refine cwK ?_
   refine cwB ?_
   refine cwR (
    .c (uM rfl)<|
    .c (uB rfl (q61 _ _) rfl)<|
    .c (uA rfl)<|.nil rfl
   ) ?_
   exact ⟨(IntKind.wrap .i64 (v2 + 1)),(sJ h13),.w (wkF ⟨wD rfl,wD rfl,wD rfl,trivial⟩ trivial qd)⟩
  refine cwF rfl hc2 ?_
  refine qG ?_
  exact ⟨v2,(hx6 _ (sJ h14)).symm,.w (wkF ⟨wD rfl,wD rfl,wD rfl,trivial⟩ trivial qd)⟩
 rcases cdS hj2 with ⟨hc3,h15⟩ | ⟨hc3,h16⟩
 ·skip
  have ⟨x7,hx7,h17⟩ := bdS h15
  have hx7g := qn hx7
  refine cwR (
   .c (uM rfl)<|
   .c (uM rfl)<|
   .c (qo0 (enc := eStr) (xs := a0) rfl rfl .no rfl qX4)<|
   .c (uB rfl (q31 _ _) rfl)<|
   .c (uM rfl)<|
   .c (o_mv rfl rfl (.yes rfl rfl hc3) rfl)<|
   .c (o_mv rfl rfl (.yes rfl rfl hc3) rfl)<|
   .c (qZ1 (enc := eStr) (xs := a0) rfl rfl (.yes rfl rfl hc3) rfl rfl qX4 sz9 hx7g.1 hx7g.2)<|
   .c (o_ld rfl rfl (.yes rfl rfl hc3) rfl ta9 rfl rfl)<|
   .c (o_mv rfl rfl (.yes rfl rfl hc3) rfl)<|
   .c (qc rfl rfl (.yes rfl rfl hc3) rfl rfl (s_lss _ _) rfl)<|
   .c (uPT rfl hc3)<|.nil rfl
  ) ?_
  exact ⟨(Op.bytesLess x7.data.toList a1.data.toList),(sJ h17),.w (wkF ⟨wD rfl,wD rfl,wD rfl,wD rfl,trivial⟩ trivial qd)⟩
 refine cwR (
  .c (uM rfl)<|
  .c (uM rfl)<|
  .c (qo0 (enc := eStr) (xs := a0) rfl rfl .no rfl qX4)<|
  .c (uB rfl (q31 _ _) rfl)<|
  .c (uM rfl)<|
  .c (uN rfl rfl hc3)<|
  .c (uN rfl rfl hc3)<|
  .c (uN rfl rfl hc3)<|
  .c (uN rfl rfl hc3)<|
  .c (uN rfl rfl hc3)<|
  .c (uN rfl rfl hc3)<|
  .c (uPF rfl hc3)<|.nil rfl
 ) ?_
 exact ⟨false,(sJ h16),.w (wkF ⟨wD rfl,wD rfl,wD rfl,wD rfl,trivial⟩ trivial qd)⟩
theorem ref08_bounds_ok {a0 : List (B8 × B8 × Bool)} {r : (List ByteArray)} (h : qD1 a0 = some r) : FnOk Tryz.prog 115 [.d (eSS a0)] 0 (lk []) (fun rr oo => rr = .d (qz0 r) ∧ oo = lk []) := by
 refine fnO Tryz.func115 rfl rfl (cwP ?_)
 unfold qD1 at h
 refine cwS (cwR (
  .c (uA rfl)<|.nil rfl) ?_)
 refine cwS (cwR (
  .c (uA rfl)<|.nil rfl) ?_)
 have ⟨o0,hj0,h0⟩ := bdS h
 refine cwJ (fun (z : (List ByteArray)) => St.of [(3,.d (qz0 z))] []) (fun (z : (List ByteArray)) => o0 = z) ?_ ?_
 ·intro v0 hv0; subst hv0
  refine cwS (cwR (
   .c (uM rfl)<|
   .c (uA rfl)<|.nil rfl) ?_)
  have heq := ((sJ h0)).symm
  subst heq
  exact qe ⟨_,(show Leads _ _ (St.of [(2,.d (qz0 o0))] []) from .w (wkF ⟨wD rfl,trivial⟩ trivial qd)),.inr rfl,_,res1 rfl rfl,rfl,rfl⟩
 refine cwS (cwR (
  .c (uA rfl)<|.nil rfl) ?_)
 refine cwB ?_
 refine qr (V := ((List ByteArray) × Int)) (O := (List ByteArray)) (fun (z : ((List ByteArray) × Int)) => St.of [(0,.d (eSS a0)),(3,.d (qz0 z.1)),(4,.d (eint z.2))] []) hj0 (.w (wkF ⟨wD rfl,⟨_,rfl,.nil0⟩,wD rfl,trivial⟩ trivial qd)) ?_
 intro v1 x0 hb0 hx0
 refine cwS ?_
 refine cwS (cwR (
  .c (uM rfl)<|
  .c (uM rfl)<|
  .c (qo0 (enc := eSp) (xs := a0) rfl rfl .no rfl sl59)<|
  .c (uB rfl (q31 _ _) rfl)<|.nil rfl) ?_)
 rcases cdS hb0 with ⟨hc0,h1⟩ | ⟨hc0,h2⟩
 ·refine cwT rfl hc0 ?_
  refine cwK ?_
  have ⟨o1,hj1,h3⟩ := bdS h1
  refine cwJ (fun (z : (List ByteArray)) => St.of [(0,.d (eSS a0)),(3,.d (qz0 z)),(4,.d (eint v1.2))] []) (fun (z : (List ByteArray)) => o1 = z) ?_ ?_
  ·intro v2 hv1; subst hv1
   refine cwR (
    .c (uM rfl)<|
    .c (uB rfl (q61 _ _) rfl)<|
    .c (uA rfl)<|.nil rfl
   ) ?_
   exact ⟨(o1,(IntKind.wrap .i64 (v1.2 + 1))),(sJ h3),.w (wkF ⟨wD rfl,wD rfl,wD rfl,trivial⟩ trivial qd)⟩
  refine cwB ?_
  have ⟨x1,hx1,h4⟩ := bdS hj1
  have hx1g := qn hx1
  refine cwS (cwR (
   .c (uM rfl)<|
   .c (uM rfl)<|
   .c (qZ1 (enc := eSp) (xs := a0) rfl rfl .no rfl rfl sl59 sz41 hx1g.1 hx1g.2)<|
   .c (qT4 rfl rfl .no rfl qq2 (by decide) rfl rfl)<|
   .c (o_slAt rfl rfl .no rfl ar39 sz5 (by decide))<|
   .c (o_cvD rfl rfl .no rfl sl26 un5 un9)<|
   .c (uA rfl)<|.nil rfl) ?_)
  have ⟨x2,hx2,h5⟩ := bdS (x := qk3 x1) h4
  refine cwS (cwR (
   .c (uM rfl)<|
   .c (uM rfl)<|
   .c (qZ1 (enc := eSp) (xs := a0) rfl rfl .no rfl rfl sl59 sz41 hx1g.1 hx1g.2)<|
   .c (o_ld rfl rfl .no rfl ta41 rfl rfl)<|
   .c (qj rfl rfl .no Tryz.func139 rfl rfl (ref08_to_ok hx2) (.cons rfl .d .nil) ⟨trivial,trivial⟩ (.inl rfl))<|
   .c (uA rfl)<|.nil rfl) ?_)
  refine cwS (cwR (
   .c (uM rfl)<|
   .c (uM rfl)<|
   .c (qc rfl rfl .no rfl rfl (s_lss _ _) rfl)<|.nil rfl) ?_)
  rcases cdS h5 with ⟨hc1,h6⟩ | ⟨hc1,h7⟩
  ·refine cwT rfl hc1 ?_
   have ⟨x3,hx3,h8⟩ := bdS (x := q81 v1.1 (qi1 x1.1)) h6
   have ⟨x4,hx4,h9⟩ := bdS (x := q81 x3 x2) h8
   refine cwR (
    .c (uM rfl)<|
    .c (uM rfl)<|
    .c (qj rfl rfl .no Tryz.func140 rfl rfl (ref08_with_ok hx3) (.cons rfl .d (.cons rfl .d .nil)) ⟨trivial,trivial,trivial⟩ (.inl rfl))<|
    .c (uM rfl)<|
    .c (qj rfl rfl .no Tryz.func140 rfl rfl (ref08_with_ok hx4) (.cons rfl .d (.cons rfl .d .nil)) ⟨trivial,trivial,trivial⟩ (.inl rfl))<|
    .c (uA rfl)<|.nil rfl
   ) ?_
   exact ⟨x4,(sJ h9),.w (wkF ⟨wD rfl,wD rfl,wD rfl,trivial⟩ trivial qd)⟩
  refine cwF rfl hc1 ?_
  refine cwK ?_
  exact ⟨v1.1,(sJ h7),.w (wkF ⟨wD rfl,wD rfl,wD rfl,trivial⟩ trivial qd)⟩
 refine cwF rfl hc0 ?_
 refine qG ?_
 exact ⟨v1.1,(hx0 _ (sJ h2)).symm,.w (wkF ⟨wD rfl,trivial⟩ trivial qd)⟩
theorem ref08_where_ok {a0 : List ByteArray} {a1 : List Bool} {r : (List (B8 × B8 × Bool))} (h : qu1 a0 a1 = some r) : FnOk Tryz.prog 117 [.d (qz0 a0),.d (eSbool a1)] 0 (lk []) (fun rr oo => rr = .arr 0 0 ∧ oo = lk [(0,.arr 0 49 (r.map eSp))]) := by
 refine fnO Tryz.func117 rfl rfl (cwP ?_)
 unfold qu1 at h
 refine cwS (cwR (
  .c (uA rfl)<|.nil rfl) ?_)
 refine cwS (cwR (
  .c (uA rfl)<|.nil rfl) ?_)
 have ⟨o0,hj0,h0⟩ := bdS h
 refine cwJ (fun (z : (List (B8 × B8 × Bool))) => St.of [(5,.arr 0 0)] [(0,.arr 0 49 (z.map eSp))]) (fun (z : (List (B8 × B8 × Bool))) => o0 = z) ?_ ?_
 ·intro v0 hv0; subst hv0
  refine cwS (cwR (
   .c (uM rfl)<|
   .c (uA rfl)<|.nil rfl) ?_)
  have heq := ((sJ h0)).symm
  subst heq
  exact qe ⟨_,(show Leads _ _ (St.of [(4,.arr 0 0)] [(0,.arr 0 49 (o0.map eSp))]) from .w (wkF ⟨⟨_,rfl,.arr rfl rfl⟩,trivial⟩ ⟨.arr rfl rfl,trivial⟩ qd)),.inr rfl,_,res1 rfl rfl,rfl,rfl⟩
 refine cwS (cwR (
  .c (uA rfl)<|.nil rfl) ?_)
 refine cwB ?_
 refine qr (V := (Int × (List (B8 × B8 × Bool)))) (O := (List (B8 × B8 × Bool))) (fun (z : (Int × (List (B8 × B8 × Bool)))) => St.of [(0,.d (qz0 a0)),(1,.d (eSbool a1)),(5,.arr 0 0),(6,.d (eint z.1))] [(0,.arr 0 49 (z.2.map eSp))]) hj0 (.w (wkF ⟨wD rfl,wD rfl,⟨_,rfl,.nila rfl rfl⟩,wD rfl,trivial⟩ ⟨.nil rfl,trivial⟩ qd)) ?_
 intro v1 x0 hb0 hx0
 refine cwS ?_
 refine cwS (cwR (
  .c (uM rfl)<|
  .c (uB rfl (q61 _ _) rfl)<|
  .c (uM rfl)<|
  .c (qo0 (enc := eStr) (xs := a0) rfl rfl .no rfl qX4)<|
  .c (uB rfl (q31 _ _) rfl)<|.nil rfl) ?_)
 rcases cdS hb0 with ⟨hc0,h1⟩ | ⟨hc0,h2⟩
 ·refine cwT rfl hc0 ?_
  refine cwK ?_
  have ⟨o1,hj1,h3⟩ := bdS h1
  refine cwJ (fun (z : (List (B8 × B8 × Bool))) => St.of [(0,.d (qz0 a0)),(1,.d (eSbool a1)),(5,.arr 0 0),(6,.d (eint v1.1))] [(0,.arr 0 49 (z.map eSp))]) (fun (z : (List (B8 × B8 × Bool))) => o1 = z) ?_ ?_
  ·intro v2 hv1; subst hv1
   refine cwR (
    .c (uM rfl)<|
    .c (uB rfl (q61 _ _) rfl)<|
    .c (uA rfl)<|.nil rfl
   ) ?_
   exact ⟨((IntKind.wrap .i64 (v1.1 + 1)),o1),(sJ h3),.w (wkF ⟨wD rfl,wD rfl,⟨_,rfl,.arr rfl rfl⟩,wD rfl,trivial⟩ ⟨.arr rfl rfl,trivial⟩ qd)⟩
  refine cwB ?_
  refine cwS ?_
  have ⟨x1,hx1,h4⟩ := bdS hj1
  have hx1g := qn hx1
  refine cwS (cwR (
   .c (uM rfl)<|
   .c (uM rfl)<|
   .c (qZ1 (enc := qz) (xs := a1) rfl rfl .no rfl rfl sl180 sz4 hx1g.1 hx1g.2)<|
   .c (o_ld rfl rfl .no rfl ta4 rfl rfl)<|
   .c (uT rfl)<|.nil rfl) ?_)
  rcases cdS h4 with ⟨hc1,h5⟩ | ⟨hc1,h6⟩
  ·refine cwT rfl hc1 ?_
   refine qG ?_
   exact ⟨v1.2,(sJ h5),.w (wkF ⟨wD rfl,wD rfl,⟨_,rfl,.arr rfl rfl⟩,wD rfl,trivial⟩ ⟨.arr rfl rfl,trivial⟩ qd)⟩
  refine cwF rfl hc1 ?_
  refine cwK ?_
  refine cwS (cwR (
   .c (uM rfl)<|
   .c (q35 (enc := eSp) (xs := v1.2) rfl rfl .no rfl rfl sl59)<|
   .c (uA rfl)<|.nil rfl) ?_)
  have ⟨o2,hj2,h7⟩ := bdS h6
  refine cwJ (fun (z : Bool) => St.of [(0,.d (qz0 a0)),(1,.d (eSbool a1)),(5,.arr 0 0),(6,.d (eint v1.1)),(7,.d (eint (v1.2.length : Int))),(36,.d (qz z))] [(0,.arr 0 49 (v1.2.map eSp))]) (fun (z : Bool) => o2 = z) ?_ ?_
  ·intro v3 hv2; subst hv2
   rcases cdS h7 with ⟨hc2,h8⟩ | ⟨hc2,h9⟩
   ·refine cwT rfl hc2 ?_
    have ⟨x2,hx2,h10⟩ := bdS h8
    have hx2g := qn hx2
    have ⟨x3,hx3,h11⟩ := bdS h10
    have hx3g := qn hx3
    have ⟨x4,hx4,h12⟩ := bdS (x := qV2 (qi1 x2.1) x3) h11
    refine cwRA mixed (by kernel_rfl) (
     .c (uM rfl)<|
     .c (uM rfl)<|
     .c (uB rfl (qy4 _ _) rfl)<|
     .c (uM rfl)<|
     .c (uM rfl)<|
     .c (uB rfl (qy4 _ _) rfl)<|
     .c (q55 (enc := eSp) (xs := v1.2) rfl rfl .no rfl rfl rfl sl59 sz41 hx2g.1 hx2g.2)<|
     .c (o_fldE rfl rfl .no rfl rfl qq2 (by decide))<|
     .c (o_slE rfl rfl .no rfl rfl ar39 sz5 (by decide))<|
     .c (o_cvO (enc := eSp) (xs := v1.2) (r := x2) [0] rfl rfl .no rfl rfl hx2g.2 rfl rfl (by decide) sl26 un5 un9)<|
     .c (uM rfl)<|
     .c (uM rfl)<|
     .c (uB rfl (q61 _ _) rfl)<|
     .c (qZ1 (enc := eStr) (xs := a0) rfl rfl .no rfl rfl qX4 sz9 hx3g.1 hx3g.2)<|
     .c (o_ld rfl rfl .no rfl ta9 rfl rfl)<|
     .c (qj rfl rfl .no Tryz.func141 rfl rfl (ref08_of_ok hx4) (.cons rfl .d (.cons rfl .d .nil)) ⟨trivial,trivial,trivial⟩ (.inl rfl))<|
     .c (q55 (enc := eSp) (xs := v1.2) rfl rfl .no rfl rfl rfl sl59 sz41 hx2g.1 hx2g.2)<|
     .c (o_stEM (enc := eSp) (xs := v1.2) (y := x4) (r := x2) rfl .no rfl rfl rfl hx2g.2 sz41 rfl (q00 _))<|.nil rfl) (by kernel_rfl) ?_
    exact ⟨(List.set v1.2 (IntKind.wrap .i64 ((v1.2.length : Int) - 1)).toNat x4),(sJ h12),.w (wkF ⟨wD rfl,wD rfl,⟨_,rfl,.arr rfl rfl⟩,wD rfl,trivial⟩ ⟨.arr rfl rfl,trivial⟩ qd)⟩
   refine cwF rfl hc2 ?_
   have ⟨x5,hx5,h13⟩ := bdS h9
   have hx5g := qn hx5
   have ⟨x6,hx6,h14⟩ := bdS h13
   have hx6g := qn hx6
   have ⟨x7,hx7,h15⟩ := bdS (x := qV2 x5 x6) h14
   have ⟨x8,hx8,h16⟩ := bdS h15
   have hx8g := qt hx8
   refine cwRA mixed (by kernel_rfl) (
    .c (uM rfl)<|
    .c (uM rfl)<|
    .c (uM rfl)<|
    .c (qZ1 (enc := eStr) (xs := a0) rfl rfl .no rfl rfl qX4 sz9 hx5g.1 hx5g.2)<|
    .c (o_ld rfl rfl .no rfl ta9 rfl rfl)<|
    .c (uM rfl)<|
    .c (uM rfl)<|
    .c (uB rfl (q61 _ _) rfl)<|
    .c (qZ1 (enc := eStr) (xs := a0) rfl rfl .no rfl rfl qX4 sz9 hx6g.1 hx6g.2)<|
    .c (o_ld rfl rfl .no rfl ta9 rfl rfl)<|
    .c (qj rfl rfl .no Tryz.func141 rfl rfl (ref08_of_ok hx7) (.cons rfl .d (.cons rfl .d .nil)) ⟨trivial,trivial,trivial⟩ (.inl rfl))<|
    .c (qc5 (rows := ([x7] : List (B8 × B8 × Bool)).map eSp) rfl rfl .no (.cons rfl .nil) rfl sl59 sz41 ze41 rfl (qC1 q00) (by decide))<|
    .c (qN1 (enc := eSp) (xs := v1.2) (ys := [x7]) rfl rfl .no rfl rfl rfl q00 sl59 sl59 sz41 by41 ze41 rfl (by decide) hx8g)<|
    .c (uA rfl)<|.nil rfl) (by kernel_rfl) ?_
   exact ⟨(v1.2 ++ [x7]),(sJ h16),.w (wkF ⟨wD rfl,wD rfl,⟨_,rfl,.arr rfl rfl⟩,wD rfl,trivial⟩ ⟨.arr0 rfl rfl rfl,trivial⟩ qd)⟩
  rcases cdS hj2 with ⟨hc3,h17⟩ | ⟨hc3,h18⟩
  ·skip
   have ⟨x9,hx9,h19⟩ := bdS h17
   have hx9g := qn hx9
   have ⟨x10,hx10,h20⟩ := bdS (x := qk3 x9) h19
   have ⟨x11,hx11,h21⟩ := bdS h20
   have hx11g := qn hx11
   refine cwRA mixed (by kernel_rfl) (
    .c (uM rfl)<|
    .c (uB rfl (b_gtr _ _) rfl)<|
    .c (uM rfl)<|
    .c (o_mv rfl rfl (.yes rfl rfl hc3) rfl)<|
    .c (o_mv rfl rfl (.yes rfl rfl hc3) rfl)<|
    .c (qc rfl rfl (.yes rfl rfl hc3) rfl rfl (qy4 _ _) rfl)<|
    .c (q55 (enc := eSp) (xs := v1.2) rfl rfl (.yes rfl rfl hc3) rfl rfl rfl sl59 sz41 hx9g.1 hx9g.2)<|
    .c (o_ldEM (enc := eSp) (xs := v1.2) (r := x9) [] rfl rfl (.yes rfl rfl hc3) rfl rfl hx9g.2 rfl ta41 rfl rfl)<|
    .c (qj rfl rfl (.yes rfl rfl hc3) Tryz.func139 rfl rfl (ref08_to_ok hx10) (.cons rfl .d .nil) ⟨trivial,trivial⟩ (.inl rfl))<|
    .c (o_mv rfl rfl (.yes rfl rfl hc3) rfl)<|
    .c (o_mv rfl rfl (.yes rfl rfl hc3) rfl)<|
    .c (qZ1 (enc := eStr) (xs := a0) rfl rfl (.yes rfl rfl hc3) rfl rfl qX4 sz9 hx11g.1 hx11g.2)<|
    .c (o_ld rfl rfl (.yes rfl rfl hc3) rfl ta9 rfl rfl)<|
    .c (qc rfl rfl (.yes rfl rfl hc3) rfl rfl (qd5 _ _) rfl)<|
    .c (uPT rfl hc3)<|.nil rfl) (by kernel_rfl) ?_
   exact ⟨(decide (x10 = x11)),(sJ h21),.w (wkF ⟨wD rfl,wD rfl,⟨_,rfl,.arr rfl rfl⟩,wD rfl,wD rfl,wD rfl,trivial⟩ ⟨.arr rfl rfl,trivial⟩ qd)⟩
  refine cwRA mixed (by kernel_rfl) (
   .c (uM rfl)<|
   .c (uB rfl (b_gtr _ _) rfl)<|
   .c (uM rfl)<|
   .c (uN rfl rfl hc3)<|
   .c (uN rfl rfl hc3)<|
   .c (uN rfl rfl hc3)<|
   .c (uN rfl rfl hc3)<|
   .c (uN rfl rfl hc3)<|
   .c (uN rfl rfl hc3)<|
   .c (uN rfl rfl hc3)<|
   .c (uN rfl rfl hc3)<|
   .c (uN rfl rfl hc3)<|
   .c (uN rfl rfl hc3)<|
   .c (uN rfl rfl hc3)<|
   .c (uPF rfl hc3)<|.nil rfl) (by kernel_rfl) ?_
  exact ⟨false,(sJ h18),.w (wkF ⟨wD rfl,wD rfl,⟨_,rfl,.arr rfl rfl⟩,wD rfl,wD rfl,wD rfl,trivial⟩ ⟨.arr rfl rfl,trivial⟩ qd)⟩
 refine cwF rfl hc0 ?_
 refine qG ?_
 exact ⟨v1.2,(hx0 _ (sJ h2)).symm,.w (wkF ⟨⟨_,rfl,.arr rfl rfl⟩,trivial⟩ ⟨.arr rfl rfl,trivial⟩ qd)⟩
theorem q64 {a0 : List (B8 × B8 × Bool)} {r : (List (B8 × B8 × Bool))} (h : qW0 a0 = some r) : FnOk Tryz.prog 81 [.d (eSS a0)] 0 (lk []) (fun rr oo => rr = .arr 0 0 ∧ oo = lk [(0,.arr 0 49 (r.map eSp))]) := by
 refine fnO Tryz.func81 rfl rfl (cwP ?_)
 unfold qW0 at h
 refine cwS (cwR (
  .c (uA rfl)<|.nil rfl) ?_)
 have ⟨x0,hx0,h0⟩ := bdS (x := qD1 a0) h
 refine cwS (cwR (
  .c (uM rfl)<|
  .c (qj rfl rfl .no Tryz.func115 rfl rfl (ref08_bounds_ok hx0) (.cons rfl .d .nil) ⟨trivial,trivial⟩ (.inl rfl))<|
  .c (uA rfl)<|.nil rfl) ?_)
 refine cwS (cwR (
  .c (uA rfl)<|.nil rfl) ?_)
 have ⟨o0,hj0,h1⟩ := bdS h0
 refine cwJ (fun (z : (List Bool)) => St.of [(3,.d (qz0 x0)),(4,.arr 1 0)] [(1,.arr 0 1 (z.map qz))]) (fun (z : (List Bool)) => o0 = z) ?_ ?_
 ·intro v0 hv0; subst hv0
  have ⟨x1,hx1,h2⟩ := bdS (x := qu1 x0 o0) h1
  refine cwS (cwR (
   .c (uM rfl)<|
   .c (uM rfl)<|
   .c (qd2 0 rfl rfl .no Tryz.func117 rfl rfl (ref08_where_ok hx1) (.cons rfl .d (.cons rfl (.arrM rfl) .nil)) ⟨trivial,trivial,trivial⟩ rfl (.inr ⟨trivial,(qr3 fun _ => (qs4 _))⟩))<|
   .c (uA rfl)<|.nil rfl) ?_)
  have heq := ((sJ h2)).symm
  subst heq
  exact qe ⟨_,(show Leads _ _ (St.of [(2,.arr 0 0)] [(0,.arr 0 49 (x1.map eSp))]) from .w (wkF ⟨⟨_,rfl,.arr rfl rfl⟩,trivial⟩ ⟨.arr rfl rfl,trivial⟩ qd)),.inr rfl,_,res1 rfl rfl,rfl,rfl⟩
 refine cwS (cwR (
  .c (uA rfl)<|.nil rfl) ?_)
 refine cwB ?_
 refine qr (V := (Int × (List Bool))) (O := (List Bool)) (fun (z : (Int × (List Bool))) => St.of [(0,.d (eSS a0)),(3,.d (qz0 x0)),(4,.arr 1 0),(5,.d (eint z.1))] [(1,.arr 0 1 (z.2.map qz))]) hj0 (.w (wkF ⟨wD rfl,wD rfl,⟨_,rfl,.nila rfl rfl⟩,wD rfl,trivial⟩ ⟨.nil rfl,trivial⟩ qd)) ?_
 intro v1 x2 hb0 hx2
 refine cwS ?_
 refine cwS (cwR (
  .c (uM rfl)<|
  .c (uB rfl (q61 _ _) rfl)<|
  .c (uM rfl)<|
  .c (qo0 (enc := eStr) (xs := x0) rfl rfl .no rfl qX4)<|
  .c (uB rfl (q31 _ _) rfl)<|.nil rfl) ?_)
 rcases cdS hb0 with ⟨hc0,h3⟩ | ⟨hc0,h4⟩
 ·refine cwT rfl hc0 ?_
  refine cwK ?_
  refine cwS ?_
  refine cwB ?_
  have ⟨x3,hx3,h5⟩ := bdS h3
  have hx3g := qn hx3
  have ⟨x4,hx4,h6⟩ := bdS (x := q03 x3) h5
  have ⟨x5,hx5,h7⟩ := bdS (x := qA3 a0 x4) h6
  refine cwS (cwR (
   .c (uM rfl)<|
   .c (uM rfl)<|
   .c (uM rfl)<|
   .c (qZ1 (enc := eStr) (xs := x0) rfl rfl .no rfl rfl qX4 sz9 hx3g.1 hx3g.2)<|
   .c (o_ld rfl rfl .no rfl ta9 rfl rfl)<|
   .c (qj rfl rfl .no Tryz.func116 rfl rfl (ref08_key_ok hx4) (.cons rfl .d .nil) ⟨trivial,trivial⟩ (.inl rfl))<|
   .c (qj rfl rfl .no Tryz.func26 rfl rfl (ref08_Has_ok hx5) (.cons rfl .d (.cons rfl .d .nil)) ⟨trivial,trivial,trivial⟩ (.inl rfl))<|
   .c (uA rfl)<|.nil rfl) ?_)
  have ⟨x6,hx6,h8⟩ := bdS h7
  have hx6g := qt hx6
  refine cwR (
   .c (uM rfl)<|
   .c (uM rfl)<|
   .c (qc5 (rows := ([x5] : List Bool).map qz) rfl rfl .no (.cons rfl .nil) rfl sl180 sz4 ze4 rfl (qC1 sibool) (by decide))<|
   .c (qN1 (enc := qz) (xs := v1.2) (ys := [x5]) rfl rfl .no rfl rfl rfl sibool sl180 sl180 sz4 by4 ze4 rfl (by decide) hx6g)<|
   .c (uA rfl)<|.nil rfl
  ) ?_
  refine cwR (
   .c (uM rfl)<|
   .c (uB rfl (q61 _ _) rfl)<|
   .c (uA rfl)<|.nil rfl
  ) ?_
  exact ⟨((IntKind.wrap .i64 (v1.1 + 1)),(v1.2 ++ [x5])),(sJ h8),.w (wkF ⟨wD rfl,wD rfl,⟨_,rfl,.arr rfl rfl⟩,wD rfl,trivial⟩ ⟨.arr0 rfl rfl rfl,trivial⟩ qd)⟩
 refine cwF rfl hc0 ?_
 refine qG ?_
 exact ⟨v1.2,(hx2 _ (sJ h4)).symm,.w (wkF ⟨wD rfl,⟨_,rfl,.arr rfl rfl⟩,trivial⟩ ⟨.arr rfl rfl,trivial⟩ qd)⟩
theorem ref12_In_ok {a0 : List (B8 × ByteArray)} {a1 : (B8 × B8 × Bool)} {r : (List (B8 × ByteArray))} (h : qz4 a0 a1 = some r) : FnOk Tryz.prog 87 [.d (eSP_ a0),.d (eSp a1)] 0 (lk []) (fun rr oo => rr = .d (eSP_ r) ∧ oo = lk []) := by
 refine fnO Tryz.func87 rfl rfl (cwP ?_)
 unfold qz4 at h
 refine cwS (cwR (
  .c (uX 0 rfl)<|
  .c (uA rfl)<|.nil rfl) ?_)
 refine cwS (cwR (
  .c (uA rfl)<|.nil rfl) ?_)
 have ⟨o0,hj0,h0⟩ := bdS h
 refine cwJ (fun (z : (List (B8 × ByteArray))) => St.of [(5,.arr 1 0)] [(1,.arr 0 25 (z.map ePr))]) (fun (z : (List (B8 × ByteArray))) => o0 = z) ?_ ?_
 ·intro v0 hv0; subst hv0
  refine cwS (cwR (
   .c (uM rfl)<|
   .c (uA rfl)<|.nil rfl) ?_)
  have heq := ((sJ h0)).symm
  subst heq
  exact qe ⟨_,(show Leads _ _ (St.of [(4,.d (eSP_ o0))] []) from .w (wkF ⟨⟨_,rfl,.frz rfl rfl rfl⟩,trivial⟩ trivial qd)),.inr rfl,_,res1 rfl rfl,rfl,rfl⟩
 refine cwS (cwR (
  .c (uA rfl)<|.nil rfl) ?_)
 refine cwB ?_
 refine qr (V := (Int × (List (B8 × ByteArray)))) (O := (List (B8 × ByteArray))) (fun (z : (Int × (List (B8 × ByteArray)))) => St.of [(0,.d (eSP_ a0)),(3,.ptr 0 0),(5,.arr 1 0),(6,.d (eint z.1))] [(0,.box (.d (eSp a1))),(1,.arr 0 25 (z.2.map ePr))]) hj0 (.w (wkF ⟨wD rfl,⟨_,rfl,.ptr rfl rfl⟩,⟨_,rfl,.nila rfl rfl⟩,wD rfl,trivial⟩ ⟨.box rfl (.d rfl),.nil rfl,trivial⟩ qd)) ?_
 intro v1 x0 hb0 hx0
 refine cwS ?_
 refine cwS (cwR (
  .c (uM rfl)<|
  .c (uM rfl)<|
  .c (qo0 (enc := ePr) (xs := a0) rfl rfl .no rfl sl35)<|
  .c (uB rfl (q31 _ _) rfl)<|.nil rfl) ?_)
 rcases cdS hb0 with ⟨hc0,h1⟩ | ⟨hc0,h2⟩
 ·refine cwT rfl hc0 ?_
  refine cwK ?_
  have ⟨o1,hj1,h3⟩ := bdS h1
  refine cwJ (fun (z : (List (B8 × ByteArray))) => St.of [(0,.d (eSP_ a0)),(3,.ptr 0 0),(5,.arr 1 0),(6,.d (eint v1.1))] [(0,.box (.d (eSp a1))),(1,.arr 0 25 (z.map ePr))]) (fun (z : (List (B8 × ByteArray))) => o1 = z) ?_ ?_
  ·intro v2 hv1; subst hv1
   refine cwR (
    .c (uM rfl)<|
    .c (uB rfl (q61 _ _) rfl)<|
    .c (uA rfl)<|.nil rfl
   ) ?_
   exact ⟨((IntKind.wrap .i64 (v1.1 + 1)),o1),(sJ h3),.w (wkF ⟨wD rfl,⟨_,rfl,.ptr rfl rfl⟩,⟨_,rfl,.arr rfl rfl⟩,wD rfl,trivial⟩ ⟨.box rfl (.d rfl),.arr rfl rfl,trivial⟩ qd)⟩
  refine cwB ?_
  have ⟨x1,hx1,h4⟩ := bdS hj1
  have hx1g := qn hx1
  have ⟨x2,hx2,h5⟩ := bdS (x := qT2 a1 x1.1) h4
  refine cwS (cwRA mixed (by kernel_rfl) (
   .c (uL [] rfl ta41 rfl)<|
   .c (uM rfl)<|
   .c (uM rfl)<|
   .c (qZ1 (enc := ePr) (xs := a0) rfl rfl .no rfl rfl sl35 sz47 hx1g.1 hx1g.2)<|
   .c (qT4 rfl rfl .no rfl qK3 (by decide) rfl rfl)<|
   .c (o_ld rfl rfl .no rfl ta39 rfl rfl)<|
   .c (qj rfl rfl .no Tryz.func59 rfl rfl (ref03_In_ok hx2) (.cons rfl .d (.cons rfl .d .nil)) ⟨trivial,trivial,trivial⟩ (.inl rfl))<|
   .c (uA rfl)<|.nil rfl) (by kernel_rfl) ?_)
  refine cwS (cwR (
   .c (uM rfl)<|.nil rfl) ?_)
  rcases cdS h5 with ⟨hc1,h6⟩ | ⟨hc1,h7⟩
  ·refine cwT rfl hc1 ?_
   have ⟨x3,hx3,h8⟩ := bdS h6
   have hx3g := qt hx3
   refine cwR (
    .c (uM rfl)<|
    .c (uM rfl)<|
    .c (uM rfl)<|
    .c (qZ1 (enc := ePr) (xs := a0) rfl rfl .no rfl rfl sl35 sz47 hx1g.1 hx1g.2)<|
    .c (o_ld rfl rfl .no rfl ta47 rfl rfl)<|
    .c (qc5 (rows := ([x1] : List (B8 × ByteArray)).map ePr) rfl rfl .no (.cons rfl .nil) rfl sl35 sz47 ze47 rfl (qC1 qE0) (by decide))<|
    .c (qN1 (enc := ePr) (xs := v1.2) (ys := [x1]) rfl rfl .no rfl rfl rfl qE0 sl35 sl35 sz47 by47 ze47 rfl (by decide) hx3g)<|
    .c (uA rfl)<|.nil rfl
   ) ?_
   exact ⟨(v1.2 ++ [x1]),(sJ h8),.w (wkF ⟨wD rfl,⟨_,rfl,.ptr rfl rfl⟩,⟨_,rfl,.arr rfl rfl⟩,wD rfl,trivial⟩ ⟨.box rfl (.d rfl),.arr0 rfl rfl rfl,trivial⟩ qd)⟩
  refine cwF rfl hc1 ?_
  refine cwK ?_
  exact ⟨v1.2,(sJ h7),.w (wkF ⟨wD rfl,⟨_,rfl,.ptr rfl rfl⟩,⟨_,rfl,.arr rfl rfl⟩,wD rfl,trivial⟩ ⟨.box rfl (.d rfl),.arr rfl rfl,trivial⟩ qd)⟩
 refine cwF rfl hc0 ?_
 refine qG ?_
 exact ⟨v1.2,(hx0 _ (sJ h2)).symm,.w (wkF ⟨⟨_,rfl,.arr rfl rfl⟩,trivial⟩ ⟨.arr rfl rfl,trivial⟩ qd)⟩
theorem ref12_New_ok {a0 : List (B8 × ByteArray)} {r : WwT} (h : qu3 a0 = some r) : FnOk Tryz.prog 18 [.d (eSP_ a0)] 0 (lk []) (fun rr oo => rr = .ptr 0 0 ∧ oo = lk [(0,.own (oRV r))]) := by
 refine fnO Tryz.func18 rfl rfl (cwP ?_)
 unfold qu3 at h
 refine cwS (cwR (
  .c (uA rfl)<|.nil rfl) ?_)
 have ⟨x0,hx0,h0⟩ := bdS (x := qw2 a0) h
 refine cwS (cwR (
  .c (uM rfl)<|
  .c (qj rfl rfl .no Tryz.func44 rfl rfl (ref09_Map_ok hx0) (.cons rfl .d .nil) ⟨trivial,trivial⟩ (.inl rfl))<|
  .c (o_bldA rfl rfl .no zo62 rfl pl62 (.cons rfl rfl rfl rfl rfl rfl rfl .nil))<|
  .c (uX 0 rfl)<|
  .c (uA rfl)<|.nil rfl) ?_)
 have heq := ((sJ h0)).symm
 subst heq
 exact qe ⟨_,(show Leads _ _ (St.of [(2,.ptr 0 0)] [(0,.own (oRV (x0,[],[],[])))]) from .trans (lPk (o := 0) (y := .st [.d (eSP_ x0),.d (eSC ([])),.d (eSS ([])),.d (eSSC ([]))]) (x := oRV (x0,[],[],[])) (l := [(2,.ptr 0 0)]) (m := [(0,.own (oRV (x0,[],[],[])))]) rfl (.st (.cons (.av rfl) (.cons (.av rfl) (.cons (.av rfl) (.cons (.av rfl) .nil))))) rfl rfl ⟨⟨rfl,(by simp [AV.live,AV.lives,lk,Nat.beq])⟩,trivial⟩ ⟨.inl rfl,trivial⟩ rfl (OD.dat_live (oRV_d _)) trivial qd) (.w (wkF ⟨⟨_,rfl,.ptro rfl rfl⟩,trivial⟩ ⟨.own rfl (.of_eq rfl (oRV_d _)),trivial⟩ qd))),.inr rfl,_,res1 rfl rfl,rfl,rfl⟩
theorem q53 {a0 : WwT} {r : ((List (B8 × ByteArray)) × WwT)} (h : qg0 a0 = some r) : FnOk Tryz.prog 84 [.ptr 0 0] 1 (lk [(0,.own (oRV a0))]) (fun rr oo => rr = .d (eSP_ r.1) ∧ oo = lk [(0,.own (oRV r.2))]) := by
 refine fnO Tryz.func84 rfl rfl (cwP ?_)
 unfold qg0 at h
 refine cwS (cwR (
  .c (uA rfl)<|.nil rfl) ?_)
 refine cwL (lOp (o := 0) (y := .st [.d (eSP_ a0.1),.d (eSC a0.2.1),.d (eSS a0.2.2.1),.d (eSSC a0.2.2.2)]) (news := []) rfl (.st (.cons (.av rfl) (.cons (.av rfl) (.cons (.av rfl) (.cons (.av rfl) .nil))))) rfl rfl trivial) ?_
 refine cwW (wkF (l := [(0,.ptr 0 0)]) (m := [(0,.box (.st [.d (eSP_ a0.1),.d (eSC a0.2.1),.d (eSS a0.2.2.1),.d (eSSC a0.2.2.2)]))]) ⟨⟨_,rfl,.ptr rfl rfl⟩,trivial⟩ ⟨.box rfl (.st (.cons (.d rfl) (.cons (.d rfl) (.cons (.d rfl) (.cons (.d rfl) .nil))))),trivial⟩ (qq rfl)) ?_
 have ⟨x0,hx0,h0⟩ := bdS (x := q52 a0.1 a0.2.1) h
 refine cwS (cwRA mixed (by kernel_rfl) (
  .c (uM rfl)<|
  .c (uP rfl)<|
  .c (uF rfl fld62_0 rfl)<|
  .c (uL [0] rfl ta35 rfl)<|
  .c (uM rfl)<|
  .c (uP rfl)<|
  .c (uF rfl qu4 rfl)<|
  .c (uL [1] rfl ta49 rfl)<|
  .c (qj rfl rfl .no Tryz.func118 rfl rfl (ref09_Apply_ok hx0) (.cons rfl .d (.cons rfl .d .nil)) ⟨trivial,trivial,trivial⟩ (.inl rfl))<|
  .c (uA rfl)<|.nil rfl) (by kernel_rfl) ?_)
 have heq := ((sJ h0)).symm
 subst heq
 exact qe ⟨_,(show Leads _ _ (St.of [(2,.d (eSP_ x0))] [(0,.own (oRV (a0.1,a0.2.1,a0.2.2.1,a0.2.2.2)))]) from .trans (lPk (o := 0) (y := .st [.d (eSP_ a0.1),.d (eSC a0.2.1),.d (eSS a0.2.2.1),.d (eSSC a0.2.2.2)]) (x := oRV (a0.1,a0.2.1,a0.2.2.1,a0.2.2.2)) (l := [(2,.d (eSP_ x0))]) (m := [(0,.own (oRV (a0.1,a0.2.1,a0.2.2.1,a0.2.2.2)))]) rfl (.st (.cons (.av rfl) (.cons (.av rfl) (.cons (.av rfl) (.cons (.av rfl) .nil))))) rfl rfl ⟨⟨rfl,trivial⟩,trivial⟩ ⟨.inl rfl,trivial⟩ rfl (OD.dat_live (oRV_d _)) trivial (qq rfl)) (.w (wkF ⟨wD rfl,trivial⟩ ⟨.own rfl (.of_eq rfl (oRV_d _)),trivial⟩ (qq rfl)))),.inr rfl,_,res1 rfl rfl,rfl,rfl⟩
theorem ref12_View_own_ok {a0 : WwT} {a1 : List UInt8} {r : (Bool × WwT)} (h : qx0 a0 a1 = some r) : FnOk Tryz.prog 80 [.ptr 0 0,.d (eK a1)] 1 (lk [(0,.own (oRV a0))]) (fun rr oo => rr = .d (qz r.1) ∧ oo = lk [(0,.own (oRV r.2))]) := by
 refine fnO Tryz.func80 rfl rfl (cwP ?_)
 unfold qx0 at h
 refine cwS (cwR (
  .c (uX 1 rfl)<|
  .c (uA rfl)<|.nil rfl) ?_)
 have ⟨o0,hj0,h0⟩ := bdS h
 refine cwJ (fun (z : WwT) => St.of [] [(0,.own (oRV z))]) (fun (z : WwT) => o0 = (.inl z)) ?_ ?_
 ·intro v0 hv0; subst hv0
  simp only [Sum.elim_inl] at h0
  refine cwS (cwR (
   .c (uA rfl)<|.nil rfl) ?_)
  have heq := ((sJ h0)).symm
  subst heq
  exact qe ⟨_,(show Leads _ _ (St.of [(4,.d (qz false))] [(0,.own (oRV v0))]) from .w (wkF ⟨wD rfl,trivial⟩ ⟨.own rfl (.of_eq rfl (oRV_d _)),trivial⟩ (qq rfl))),.inr rfl,_,res1 rfl rfl,rfl,rfl⟩
 refine cwS (cwR (
  .c (uA rfl)<|.nil rfl) ?_)
 refine cwB ?_
 refine qr (V := (Int × WwT)) (O := (WwT ⊕ (Bool × WwT))) (fun (z : (Int × WwT)) => St.of [(0,.ptr 0 0),(3,.ptr 1 0),(5,.d (eint z.1))] [(0,.own (oRV z.2)),(1,.box (.d (eK a1)))]) hj0 (.w (wkF ⟨⟨_,rfl,.ptro rfl rfl⟩,⟨_,rfl,.ptr rfl rfl⟩,wD rfl,trivial⟩ ⟨.own rfl (.of_eq rfl (oRV_d _)),.box rfl (.d rfl),trivial⟩ (qq rfl))) ?_
 intro v1 x0 hb0 hx0
 refine cwS ?_
 refine cwL (lOp (o := 0) (y := .st [.d (eSP_ v1.2.1),.d (eSC v1.2.2.1),.d (eSS v1.2.2.2.1),.d (eSSC v1.2.2.2.2)]) (news := []) rfl (.st (.cons (.av rfl) (.cons (.av rfl) (.cons (.av rfl) (.cons (.av rfl) .nil))))) rfl rfl trivial) ?_
 refine cwW (wkF (l := [(0,.ptr 0 0),(3,.ptr 1 0),(5,.d (eint v1.1))]) (m := [(0,.box (.st [.d (eSP_ v1.2.1),.d (eSC v1.2.2.1),.d (eSS v1.2.2.2.1),.d (eSSC v1.2.2.2.2)])),(1,.box (.d (eK a1)))]) ⟨⟨_,rfl,.ptr rfl rfl⟩,⟨_,rfl,.ptr rfl rfl⟩,wD rfl,trivial⟩ ⟨.box rfl (.st (.cons (.d rfl) (.cons (.d rfl) (.cons (.d rfl) (.cons (.d rfl) .nil))))),.box rfl (.d rfl),trivial⟩ (qq rfl)) ?_
 refine cwS (cwR (
  .c (uM rfl)<|
  .c (uM rfl)<|
  .c (uP rfl)<|
  .c (uF rfl qu4 rfl)<|
  .c (uL [1] rfl ta49 rfl)<|
  .c (qo0 (enc := eCg) (xs := v1.2.2.1) rfl rfl .no rfl sl49)<|
  .c (uB rfl (q31 _ _) rfl)<|.nil rfl) ?_)
 rcases cdS hb0 with ⟨hc0,h1⟩ | ⟨hc0,h2⟩
 ·refine cwT rfl hc0 ?_
  refine cwK ?_
  refine cwS ?_
  refine cwB ?_
  have ⟨x1,hx1,h3⟩ := bdS h1
  have hx1g := qn hx1
  refine cwS (cwRA mixed (by kernel_rfl) (
   .c (uM rfl)<|
   .c (uP rfl)<|
   .c (uF rfl qu4 rfl)<|
   .c (uL [1] rfl ta49 rfl)<|
   .c (uM rfl)<|
   .c (qZ1 (enc := eCg) (xs := v1.2.2.1) rfl rfl .no rfl rfl sl49 sz88 hx1g.1 hx1g.2)<|
   .c (qT4 rfl rfl .no rfl qF3 (by decide) rfl rfl)<|
   .c (o_ld rfl rfl .no rfl ta39 rfl rfl)<|
   .c (uL [] rfl ta39 rfl)<|
   .c (o_eq rfl rfl .no rfl rfl rfl rfl eg39 (.bs ar39 un5 sz5))<|.nil rfl) (by kernel_rfl) ?_)
  rcases cdS h3 with ⟨hc1,h4⟩ | ⟨hc1,h5⟩
  ·refine cwT rfl hc1 ?_
   refine cwS (cwR (
    .c (uA rfl)<|.nil rfl) ?_)
   have he0 := ((hx0 _ (sJ h4)).symm).symm
   subst he0
   have heq := ((sJ h0)).symm
   subst heq
   exact qe ⟨_,(show Leads _ _ (St.of [(4,.d (qz true))] [(0,.own (oRV (v1.2.1,v1.2.2.1,v1.2.2.2.1,v1.2.2.2.2)))]) from .trans (lPk (o := 0) (y := .st [.d (eSP_ v1.2.1),.d (eSC v1.2.2.1),.d (eSS v1.2.2.2.1),.d (eSSC v1.2.2.2.2)]) (x := oRV (v1.2.1,v1.2.2.1,v1.2.2.2.1,v1.2.2.2.2)) (l := [(4,.d (qz true))]) (m := [(0,.own (oRV (v1.2.1,v1.2.2.1,v1.2.2.2.1,v1.2.2.2.2)))]) rfl (.st (.cons (.av rfl) (.cons (.av rfl) (.cons (.av rfl) (.cons (.av rfl) .nil))))) rfl rfl ⟨⟨rfl,trivial⟩,trivial⟩ ⟨.inl rfl,trivial⟩ rfl (OD.dat_live (oRV_d _)) trivial (qq rfl)) (.w (wkF ⟨wD rfl,trivial⟩ ⟨.own rfl (.of_eq rfl (oRV_d _)),trivial⟩ (qq rfl)))),.inr rfl,_,res1 rfl rfl,rfl,rfl⟩
  refine cwF rfl hc1 ?_
  refine cwK ?_
  refine cwR (
   .c (uM rfl)<|
   .c (uB rfl (q61 _ _) rfl)<|
   .c (uA rfl)<|.nil rfl
  ) ?_
  exact ⟨((IntKind.wrap .i64 (v1.1 + 1)),(v1.2.1,v1.2.2.1,v1.2.2.2.1,v1.2.2.2.2)),(sJ h5),.trans (lPk (o := 0) (y := .st [.d (eSP_ v1.2.1),.d (eSC v1.2.2.1),.d (eSS v1.2.2.2.1),.d (eSSC v1.2.2.2.2)]) (x := oRV (v1.2.1,v1.2.2.1,v1.2.2.2.1,v1.2.2.2.2)) (l := [(0,.ptr 0 0),(3,.ptr 1 0),(5,.d (eint (IntKind.wrap .i64 (v1.1 + 1))))]) (m := [(0,.own (oRV (v1.2.1,v1.2.2.1,v1.2.2.2.1,v1.2.2.2.2))),(1,.box (.d (eK a1)))]) rfl (.st (.cons (.av rfl) (.cons (.av rfl) (.cons (.av rfl) (.cons (.av rfl) .nil))))) rfl rfl ⟨⟨rfl,(by simp [AV.live,AV.lives,lk,Nat.beq])⟩,⟨rfl,(by simp [AV.live,AV.lives,lk,Nat.beq])⟩,⟨rfl,trivial⟩,trivial⟩ ⟨.inl rfl,(.inr ⟨rfl,trivial⟩),trivial⟩ rfl (OD.dat_live (oRV_d _)) trivial (qq rfl)) (.w (wkF ⟨⟨_,rfl,.ptro rfl rfl⟩,⟨_,rfl,.ptr rfl rfl⟩,wD rfl,trivial⟩ ⟨.own rfl (.of_eq rfl (oRV_d _)),.box rfl (.d rfl),trivial⟩ (qq rfl)))⟩
 refine cwF rfl hc0 ?_
 refine qG ?_
 exact ⟨(v1.2.1,v1.2.2.1,v1.2.2.2.1,v1.2.2.2.2),(hx0 _ (sJ h2)).symm,.trans (lPk (o := 0) (y := .st [.d (eSP_ v1.2.1),.d (eSC v1.2.2.1),.d (eSS v1.2.2.2.1),.d (eSSC v1.2.2.2.2)]) (x := oRV (v1.2.1,v1.2.2.1,v1.2.2.2.1,v1.2.2.2.2)) (l := []) (m := [(0,.own (oRV (v1.2.1,v1.2.2.1,v1.2.2.2.1,v1.2.2.2.2)))]) rfl (.st (.cons (.av rfl) (.cons (.av rfl) (.cons (.av rfl) (.cons (.av rfl) .nil))))) rfl rfl trivial ⟨.inl rfl,trivial⟩ rfl (OD.dat_live (oRV_d _)) trivial (qq rfl)) (.w (wkF trivial ⟨.own rfl (.of_eq rfl (oRV_d _)),trivial⟩ (qq rfl)))⟩
theorem ref12_View_Get_ok {a0 : WwT} {a1 : List UInt8} {r : (ByteArray × Bool × WwT)} (h : qZ a0 a1 = some r) : FnOk Tryz.prog 47 [.ptr 0 0,.d (eK a1)] 1 (lk [(0,.own (oRV a0))]) (fun rr oo => rr = .tup [.d (eStr r.1),.d (qz r.2.1)] ∧ oo = lk [(0,.own (oRV r.2.2))]) := by
 refine fnO Tryz.func47 rfl rfl (cwP ?_)
 unfold qZ at h
 refine cwS (cwR (
  .c (uX 1 rfl)<|
  .c (uA rfl)<|
  .c (uA rfl)<|.nil rfl) ?_)
 have ⟨x0,hx0,h0⟩ := bdS (x := qx0 a0 a1) h
 refine cwS (cwR (
  .c (uM rfl)<|
  .c (uL [] rfl ta39 rfl)<|
  .c (qC (fun _ => 0) rfl rfl .no Tryz.func80 rfl rfl (ref12_View_own_ok hx0) (.cons rfl (.p rfl) (.cons rfl .d .nil)) (q60 rfl ⟨(by simp [AV.live,lk,Nat.beq]),trivial,trivial⟩ rfl (OD.dat_live (oRV_d _)) (by simp)) (.inl rfl))<|
  .c (uA rfl)<|.nil rfl) ?_)
 have ⟨o0,hj0,h1⟩ := bdS h0
 refine cwJ (fun (z : WwT) => St.of [(0,.ptr 0 0),(3,.ptr 1 0)] [(0,.own (oRV z)),(1,.box (.d (eK a1)))]) (fun (z : WwT) => o0 = z) ?_ ?_
 ·intro v0 hv0; subst hv0
  have ⟨x1,hx1,h2⟩ := bdS (x := qg0 o0) h1
  have ⟨x2,hx2,h3⟩ := bdS (x := qB3 x1.1 a1) h2
  refine cwS (cwRA mixed (by kernel_rfl) (
   .c (uM rfl)<|
   .c (qC (fun _ => 0) rfl rfl .no Tryz.func84 rfl rfl (q53 hx1) (.cons rfl (.p rfl) .nil) (q60 rfl ⟨(by simp [AV.live,lk,Nat.beq]),trivial⟩ rfl (OD.dat_live (oRV_d _)) (by simp)) (.inl rfl))<|
   .c (uL [] rfl ta39 rfl)<|
   .c (qj rfl rfl .no Tryz.func83 rfl rfl (ref09_Get_ok hx2) (.cons rfl .d (.cons rfl .d .nil)) ⟨trivial,trivial,trivial⟩ (.inl rfl))<|
   .c (uE rfl)<|
   .c (uE rfl)<|
   .c (uA rfl)<|
   .c (uA rfl)<|.nil rfl) (by kernel_rfl) ?_)
  have heq := ((sJ h3)).symm
  subst heq
  exact qe ⟨_,(show Leads _ _ (St.of [(4,.d (eStr x2.1)),(5,.d (qz x2.2))] [(0,.own (oRV x1.2))]) from .w (wkF ⟨wD rfl,wD rfl,trivial⟩ ⟨.own rfl (.of_eq rfl (oRV_d _)),trivial⟩ (qq rfl))),.inr rfl,_,res2 rfl rfl rfl,rfl,rfl⟩
 refine cwS (cwR (
  .c (uM rfl)<|
  .c (uT rfl)<|.nil rfl) ?_)
 rcases cdS hj0 with ⟨hc0,h4⟩ | ⟨hc0,h5⟩
 ·refine cwT rfl hc0 ?_
  refine cwL (lOp (o := 0) (y := .st [.d (eSP_ x0.2.1),.d (eSC x0.2.2.1),.d (eSS x0.2.2.2.1),.d (eSSC x0.2.2.2.2)]) (news := []) rfl (.st (.cons (.av rfl) (.cons (.av rfl) (.cons (.av rfl) (.cons (.av rfl) .nil))))) rfl rfl trivial) ?_
  refine cwW (wkF (l := [(0,.ptr 0 0),(3,.ptr 1 0)]) (m := [(0,.box (.st [.d (eSP_ x0.2.1),.d (eSC x0.2.2.1),.d (eSS x0.2.2.2.1),.d (eSSC x0.2.2.2.2)])),(1,.box (.d (eK a1)))]) ⟨⟨_,rfl,.ptr rfl rfl⟩,⟨_,rfl,.ptr rfl rfl⟩,trivial⟩ ⟨.box rfl (.st (.cons (.d rfl) (.cons (.d rfl) (.cons (.d rfl) (.cons (.d rfl) .nil))))),.box rfl (.d rfl),trivial⟩ (qq rfl)) ?_
  have ⟨x3,hx3,h6⟩ := bdS h4
  have hx3g := qt hx3
  have ⟨x4,hx4,h7⟩ := bdS (x := qs2 a1) h6
  have ⟨x5,hx5,h8⟩ := bdS h7
  have hx5g := qt hx5
  have ⟨x6,hx6,h9⟩ := bdS (x := qW0 ((([] : List (B8 × B8 × Bool)) ++ x0.2.2.2.1) ++ [x4])) h8
  refine cwRA mixed (by kernel_rfl) (
   .c (uM rfl)<|
   .c (o_bslO (rows := ([] : List (B8 × B8 × Bool)).map eSp) 2 rfl rfl .no .nil rfl sl59 sz41 ze41 rfl (qC1 q00) (by decide) rfl)<|
   .c (uM rfl)<|
   .c (uP rfl)<|
   .c (uF rfl fld62_2 rfl)<|
   .c (uL [2] rfl ta59 rfl)<|
   .c (qN1 (enc := eSp) (xs := ([] : List (B8 × B8 × Bool))) (ys := x0.2.2.2.1) rfl rfl .no rfl rfl rfl q00 sl59 sl59 sz41 by41 ze41 rfl (by decide) hx3g)<|
   .c (uL [] rfl ta39 rfl)<|
   .c (qj rfl rfl .no Tryz.func82 rfl rfl (ref03_One_ok hx4) (.cons rfl .d .nil) ⟨trivial,trivial⟩ (.inl rfl))<|
   .c (qc5 (rows := ([x4] : List (B8 × B8 × Bool)).map eSp) rfl rfl .no (.cons rfl .nil) rfl sl59 sz41 ze41 rfl (qC1 q00) (by decide))<|
   .c (qN1 (enc := eSp) (xs := (([] : List (B8 × B8 × Bool)) ++ x0.2.2.2.1)) (ys := [x4]) rfl rfl .no rfl rfl rfl q00 sl59 sl59 sz41 by41 ze41 rfl (by decide) hx5g)<|
   .c (qd2 3 rfl rfl .no Tryz.func81 rfl rfl (q64 hx6) (.cons rfl (.arrM rfl) .nil) ⟨trivial,trivial⟩ rfl (.inr ⟨trivial,(qr3 fun _ => (qs4 _))⟩))<|
   .c (uP rfl)<|
   .c (uF rfl fld62_2 rfl)<|
   .c (uS [2] rfl sz59 rfl)<|.nil rfl) (by kernel_rfl) ?_
  exact ⟨(x0.2.1,x0.2.2.1,x6,x0.2.2.2.2),(sJ h9),.trans (.w (wkF (l := [(0,.ptr 0 0),(3,.ptr 1 0)]) (m := [(0,.box (.st [.d (eSP_ x0.2.1),.d (eSC x0.2.2.1),.d (eSS x6),.d (eSSC x0.2.2.2.2)])),(1,.box (.d (eK a1)))]) ⟨⟨_,rfl,.ptr rfl rfl⟩,⟨_,rfl,.ptr rfl rfl⟩,trivial⟩ ⟨.box rfl (.st (.cons (.d rfl) (.cons (.d rfl) (.cons (.frz rfl rfl rfl) (.cons (.d rfl) .nil))))),.box rfl (.d rfl),trivial⟩ (qq rfl))) (.trans (lPk (o := 0) (y := .st [.d (eSP_ x0.2.1),.d (eSC x0.2.2.1),.d (eSS x6),.d (eSSC x0.2.2.2.2)]) (x := oRV (x0.2.1,x0.2.2.1,x6,x0.2.2.2.2)) (l := [(0,.ptr 0 0),(3,.ptr 1 0)]) (m := [(0,.own (oRV (x0.2.1,x0.2.2.1,x6,x0.2.2.2.2))),(1,.box (.d (eK a1)))]) rfl (.st (.cons (.av rfl) (.cons (.av rfl) (.cons (.av rfl) (.cons (.av rfl) .nil))))) rfl rfl ⟨⟨rfl,(by simp [AV.live,AV.lives,lk,Nat.beq])⟩,⟨rfl,(by simp [AV.live,AV.lives,lk,Nat.beq])⟩,trivial⟩ ⟨.inl rfl,(.inr ⟨rfl,trivial⟩),trivial⟩ rfl (OD.dat_live (oRV_d _)) trivial (qq rfl)) (.w (wkF ⟨⟨_,rfl,.ptro rfl rfl⟩,⟨_,rfl,.ptr rfl rfl⟩,trivial⟩ ⟨.own rfl (.of_eq rfl (oRV_d _)),.box rfl (.d rfl),trivial⟩ (qq rfl))))⟩
 refine cwF rfl hc0 ?_
 refine cwK ?_
 exact ⟨x0.2,(sJ h5),.w (wkF ⟨⟨_,rfl,.ptro rfl rfl⟩,⟨_,rfl,.ptr rfl rfl⟩,trivial⟩ ⟨.own rfl (.of_eq rfl (oRV_d _)),.box rfl (.d rfl),trivial⟩ (qq rfl))⟩
theorem qF2 {a0 : WwT} {a1 : (B8 × B8 × Bool)} {r : ((List (B8 × ByteArray)) × WwT)} (h : q30 a0 a1 = some r) : FnOk Tryz.prog 50 [.ptr 0 0,.d (eSp a1)] 1 (lk [(0,.own (oRV a0))]) (fun rr oo => rr = .d (eSP_ r.1) ∧ oo = lk [(0,.own (oRV r.2))]) := by
 refine fnO Tryz.func50 rfl rfl (cwP ?_)
 unfold q30 at h
 refine cwS (cwR (
  .c (uX 1 rfl)<|
  .c (uA rfl)<|.nil rfl) ?_)
 refine cwL (lOp (o := 0) (y := .st [.d (eSP_ a0.1),.d (eSC a0.2.1),.d (eSS a0.2.2.1),.d (eSSC a0.2.2.2)]) (news := []) rfl (.st (.cons (.av rfl) (.cons (.av rfl) (.cons (.av rfl) (.cons (.av rfl) .nil))))) rfl rfl trivial) ?_
 refine cwW (wkF (l := [(0,.ptr 0 0),(3,.ptr 1 0)]) (m := [(0,.box (.st [.d (eSP_ a0.1),.d (eSC a0.2.1),.d (eSS a0.2.2.1),.d (eSSC a0.2.2.2)])),(1,.box (.d (eSp a1)))]) ⟨⟨_,rfl,.ptr rfl rfl⟩,⟨_,rfl,.ptr rfl rfl⟩,trivial⟩ ⟨.box rfl (.st (.cons (.d rfl) (.cons (.d rfl) (.cons (.d rfl) (.cons (.d rfl) .nil))))),.box rfl (.d rfl),trivial⟩ (qq rfl)) ?_
 have ⟨x0,hx0,h0⟩ := bdS h
 have hx0g := qt hx0
 have ⟨x1,hx1,h1⟩ := bdS h0
 have hx1g := qt hx1
 have ⟨x2,hx2,h2⟩ := bdS (x := qW0 ((([] : List (B8 × B8 × Bool)) ++ a0.2.2.1) ++ [a1])) h1
 refine cwS (cwRA mixed (by kernel_rfl) (
  .c (uM rfl)<|
  .c (o_bslO (rows := ([] : List (B8 × B8 × Bool)).map eSp) 2 rfl rfl .no .nil rfl sl59 sz41 ze41 rfl (qC1 q00) (by decide) rfl)<|
  .c (uM rfl)<|
  .c (uP rfl)<|
  .c (uF rfl fld62_2 rfl)<|
  .c (uL [2] rfl ta59 rfl)<|
  .c (qN1 (enc := eSp) (xs := ([] : List (B8 × B8 × Bool))) (ys := a0.2.2.1) rfl rfl .no rfl rfl rfl q00 sl59 sl59 sz41 by41 ze41 rfl (by decide) hx0g)<|
  .c (uL [] rfl ta41 rfl)<|
  .c (qc5 (rows := ([a1] : List (B8 × B8 × Bool)).map eSp) rfl rfl .no (.cons rfl .nil) rfl sl59 sz41 ze41 rfl (qC1 q00) (by decide))<|
  .c (qN1 (enc := eSp) (xs := (([] : List (B8 × B8 × Bool)) ++ a0.2.2.1)) (ys := [a1]) rfl rfl .no rfl rfl rfl q00 sl59 sl59 sz41 by41 ze41 rfl (by decide) hx1g)<|
  .c (qd2 3 rfl rfl .no Tryz.func81 rfl rfl (q64 hx2) (.cons rfl (.arrM rfl) .nil) ⟨trivial,trivial⟩ rfl (.inr ⟨trivial,(qr3 fun _ => (qs4 _))⟩))<|
  .c (uP rfl)<|
  .c (uF rfl fld62_2 rfl)<|
  .c (uS [2] rfl sz59 rfl)<|.nil rfl) (by kernel_rfl) ?_)
 refine cwW (wkF (l := [(0,.ptr 0 0),(3,.ptr 1 0)]) (m := [(0,.box (.st [.d (eSP_ a0.1),.d (eSC a0.2.1),.d (eSS x2),.d (eSSC a0.2.2.2)])),(1,.box (.d (eSp a1)))]) ⟨⟨_,rfl,.ptr rfl rfl⟩,⟨_,rfl,.ptr rfl rfl⟩,trivial⟩ ⟨.box rfl (.st (.cons (.d rfl) (.cons (.d rfl) (.cons (.frz rfl rfl rfl) (.cons (.d rfl) .nil))))),.box rfl (.d rfl),trivial⟩ (qq rfl)) ?_
 refine cwL (lPk (o := 0) (y := .st [.d (eSP_ a0.1),.d (eSC a0.2.1),.d (eSS x2),.d (eSSC a0.2.2.2)]) (x := oRV (a0.1,a0.2.1,x2,a0.2.2.2)) (l := [(0,.ptr 0 0),(3,.ptr 1 0)]) (m := [(0,.own (oRV (a0.1,a0.2.1,x2,a0.2.2.2))),(1,.box (.d (eSp a1)))]) rfl (.st (.cons (.av rfl) (.cons (.av rfl) (.cons (.av rfl) (.cons (.av rfl) .nil))))) rfl rfl ⟨⟨rfl,(by simp [AV.live,AV.lives,lk,Nat.beq])⟩,⟨rfl,(by simp [AV.live,AV.lives,lk,Nat.beq])⟩,trivial⟩ ⟨.inl rfl,(.inr ⟨rfl,trivial⟩),trivial⟩ rfl (OD.dat_live (oRV_d _)) trivial (qq rfl)) ?_
 have ⟨x3,hx3,h3⟩ := bdS (x := qg0 (a0.1,a0.2.1,x2,a0.2.2.2)) h2
 have ⟨x4,hx4,h4⟩ := bdS (x := qz4 x3.1 a1) h3
 refine cwS (cwRA mixed (by kernel_rfl) (
  .c (uM rfl)<|
  .c (qC (fun _ => 0) rfl rfl .no Tryz.func84 rfl rfl (q53 hx3) (.cons rfl (.p rfl) .nil) (q60 rfl ⟨(by simp [AV.live,lk,Nat.beq]),trivial⟩ rfl (OD.dat_live (oRV_d _)) (by simp)) (.inl rfl))<|
  .c (uL [] rfl ta41 rfl)<|
  .c (qj rfl rfl .no Tryz.func87 rfl rfl (ref12_In_ok hx4) (.cons rfl .d (.cons rfl .d .nil)) ⟨trivial,trivial,trivial⟩ (.inl rfl))<|
  .c (uA rfl)<|.nil rfl) (by kernel_rfl) ?_)
 have heq := ((sJ h4)).symm
 subst heq
 exact qe ⟨_,(show Leads _ _ (St.of [(4,.d (eSP_ x4))] [(0,.own (oRV x3.2))]) from .w (wkF ⟨wD rfl,trivial⟩ ⟨.own rfl (.of_eq rfl (oRV_d _)),trivial⟩ (qq rfl))),.inr rfl,_,res1 rfl rfl,rfl,rfl⟩
theorem ref12_View_Put_ok {a0 : WwT} {a1 : List UInt8} {a2 : ByteArray} {r : (Int × WwT)} (h : qZ0 a0 a1 a2 = some r) : FnOk Tryz.prog 86 [.ptr 0 0,.d (eK a1),.d (eStr a2)] 1 (lk [(0,.own (oRV a0))]) (fun rr oo => rr = .d (eErr r.1) ∧ oo = lk [(0,.own (oRV r.2))]) := by
 refine fnO Tryz.func86 rfl rfl (cwP ?_)
 unfold qZ0 at h
 refine cwS (cwR (
  .c (uX 1 rfl)<|
  .c (uA rfl)<|.nil rfl) ?_)
 refine cwS ?_
 have ⟨o0,hj0,h0⟩ := bdS h
 refine cwJ (fun (z : Bool) => St.of [(0,.ptr 0 0),(2,.d (eStr a2)),(4,.ptr 1 0),(14,.d (qz z))] [(0,.own (oRV a0)),(1,.box (.d (eK a1)))]) (fun (z : Bool) => o0 = z) ?_ ?_
 ·intro v0 hv0; subst hv0
  rcases cdS h0 with ⟨hc0,h1⟩ | ⟨hc0,h2⟩
  ·refine cwT rfl hc0 ?_
   refine cwS (cwR (
    .c (uA rfl)<|.nil rfl) ?_)
   have heq := ((sJ h1)).symm
   subst heq
   exact qe ⟨_,(show Leads _ _ (St.of [(6,.d (eErr 1))] [(0,.own (oRV a0))]) from .w (wkF ⟨wD rfl,trivial⟩ ⟨.own rfl (.of_eq rfl (oRV_d _)),trivial⟩ (qq rfl))),.inr rfl,_,res1 rfl rfl,rfl,rfl⟩
  refine cwF rfl hc0 ?_
  refine cwK ?_
  refine cwL (lOp (o := 0) (y := .st [.d (eSP_ a0.1),.d (eSC a0.2.1),.d (eSS a0.2.2.1),.d (eSSC a0.2.2.2)]) (news := []) rfl (.st (.cons (.av rfl) (.cons (.av rfl) (.cons (.av rfl) (.cons (.av rfl) .nil))))) rfl rfl trivial) ?_
  refine cwW (wkF (l := [(0,.ptr 0 0),(2,.d (eStr a2)),(4,.ptr 1 0)]) (m := [(0,.box (.st [.d (eSP_ a0.1),.d (eSC a0.2.1),.d (eSS a0.2.2.1),.d (eSSC a0.2.2.2)])),(1,.box (.d (eK a1)))]) ⟨⟨_,rfl,.ptr rfl rfl⟩,wD rfl,⟨_,rfl,.ptr rfl rfl⟩,trivial⟩ ⟨.box rfl (.st (.cons (.d rfl) (.cons (.d rfl) (.cons (.d rfl) (.cons (.d rfl) .nil))))),.box rfl (.d rfl),trivial⟩ (qq rfl)) ?_
  have ⟨x0,hx0,h3⟩ := bdS (x := qJ1 ([a0.2.1,[(a1,a2,false)]])) h2
  refine cwS (cwRA mixed (by kernel_rfl) (
   .c (uM rfl)<|
   .c (uM rfl)<|
   .c (uP rfl)<|
   .c (uF rfl qu4 rfl)<|
   .c (uL [1] rfl ta49 rfl)<|
   .c (uL [] rfl ta39 rfl)<|
   .c (uM rfl)<|
   .c (qL4 (ds := [eK a1,eStr a2,qz false]) rfl rfl .no zs88 rfl pl88 (.cons rfl rfl rfl rfl rfl rfl rfl (.cons rfl rfl rfl rfl rfl rfl rfl .nil)))<|
   .c (qc5 (rows := ([(a1,a2,false)] : List (B8 × ByteArray × Bool)).map eCg) rfl rfl .no (.cons rfl .nil) rfl sl49 sz88 ze88 rfl (qC1 q70) (by decide))<|
   .c (qc5 (rows := ([a0.2.1,[(a1,a2,false)]] : List (List (B8 × ByteArray × Bool))).map eSC) rfl rfl .no (.cons rfl (.cons rfl .nil)) rfl sl60 sz49 ze49 rfl (qC1 qL3) (by decide))<|
   .c (qj rfl rfl .no Tryz.func119 rfl rfl (ref09_Join_ok hx0) (.cons rfl .d .nil) ⟨trivial,trivial⟩ (.inl rfl))<|
   .c (uP rfl)<|
   .c (uF rfl qu4 rfl)<|
   .c (uS [1] rfl sz49 rfl)<|.nil rfl) (by kernel_rfl) ?_)
  refine cwS (cwR (
   .c (uA rfl)<|.nil rfl) ?_)
  have heq := ((sJ h3)).symm
  subst heq
  exact qe ⟨_,(show Leads _ _ (St.of [(6,.d (eErr 0))] [(0,.own (oRV (a0.1,x0,a0.2.2.1,a0.2.2.2)))]) from .trans (lPk (o := 0) (y := .st [.d (eSP_ a0.1),.d (eSC x0),.d (eSS a0.2.2.1),.d (eSSC a0.2.2.2)]) (x := oRV (a0.1,x0,a0.2.2.1,a0.2.2.2)) (l := [(6,.d (eint 0))]) (m := [(0,.own (oRV (a0.1,x0,a0.2.2.1,a0.2.2.2)))]) rfl (.st (.cons (.av rfl) (.cons (.av rfl) (.cons (.av rfl) (.cons (.av rfl) .nil))))) rfl rfl ⟨⟨rfl,trivial⟩,trivial⟩ ⟨.inl rfl,trivial⟩ rfl (OD.dat_live (oRV_d _)) trivial (qq rfl)) (.w (wkF ⟨wD rfl,trivial⟩ ⟨.own rfl (.of_eq rfl (oRV_d _)),trivial⟩ (qq rfl)))),.inr rfl,_,res1 rfl rfl,rfl,rfl⟩
 rcases cdS hj0 with ⟨hc1,h4⟩ | ⟨hc1,h5⟩
 ·skip
  refine cwR (
   .c (uM rfl)<|
   .c (qa3 rfl rfl .no rfl un9)<|
   .c (uB rfl (q31 _ _) rfl)<|
   .c (uM rfl)<|
   .c (uN rfl rfl hc1)<|
   .c (uN rfl rfl hc1)<|
   .c (uN rfl rfl hc1)<|
   .c (uPT rfl hc1)<|.nil rfl
  ) ?_
  exact ⟨true,(sJ h4),.w (wkF ⟨⟨_,rfl,.ptro rfl rfl⟩,wD rfl,⟨_,rfl,.ptr rfl rfl⟩,wD rfl,trivial⟩ ⟨.own rfl (.of_eq rfl (oRV_d _)),.box rfl (.d rfl),trivial⟩ (qq rfl))⟩
 refine cwR (
  .c (uM rfl)<|
  .c (qa3 rfl rfl .no rfl un9)<|
  .c (uB rfl (q31 _ _) rfl)<|
  .c (uM rfl)<|
  .c (o_mv rfl rfl (.yes rfl rfl hc1) rfl)<|
  .c (qa3 rfl rfl (.yes rfl rfl hc1) rfl un9)<|
  .c (qc rfl rfl (.yes rfl rfl hc1) rfl rfl (b_gtr _ _) rfl)<|
  .c (uPF rfl hc1)<|.nil rfl
 ) ?_
 exact ⟨(decide ((a2.size : Int) > 40)),(sJ h5),.w (wkF ⟨⟨_,rfl,.ptro rfl rfl⟩,wD rfl,⟨_,rfl,.ptr rfl rfl⟩,wD rfl,trivial⟩ ⟨.own rfl (.of_eq rfl (oRV_d _)),.box rfl (.d rfl),trivial⟩ (qq rfl))⟩
theorem qX3 {a0 : WwT} {a1 : List UInt8} {r : WwT} (h : q90 a0 a1 = some r) : FnOk Tryz.prog 85 [.ptr 0 0,.d (eK a1)] 1 (lk [(0,.own (oRV a0))]) (fun rr oo => rr = .tup [] ∧ oo = lk [(0,.own (oRV r))]) := by
 refine fnO Tryz.func85 rfl rfl (cwP ?_)
 unfold q90 at h
 have ⟨o0,hj0,h0⟩ := bdS h
 refine qV4 (fun (z : WwT) => St.of [] [(0,.own (oRV z))]) (fun (z : WwT) => o0 = z) ?_ ?_
 ·intro v0 hv0; subst hv0
  have heq := ((sJ h0)).symm
  subst heq
  exact ⟨_,(show Leads _ _ (St.of [] [(0,.own (oRV o0))]) from .w (wkF trivial ⟨.own rfl (.of_eq rfl (oRV_d _)),trivial⟩ (qq rfl))),.inl rfl,_,res0 rfl,rfl,rfl⟩
 refine cwS (cwR (
  .c (uX 1 rfl)<|.nil rfl) ?_)
 refine cwL (lOp (o := 0) (y := .st [.d (eSP_ a0.1),.d (eSC a0.2.1),.d (eSS a0.2.2.1),.d (eSSC a0.2.2.2)]) (news := []) rfl (.st (.cons (.av rfl) (.cons (.av rfl) (.cons (.av rfl) (.cons (.av rfl) .nil))))) rfl rfl trivial) ?_
 refine cwW (wkF (l := [(0,.ptr 0 0),(3,.ptr 1 0)]) (m := [(0,.box (.st [.d (eSP_ a0.1),.d (eSC a0.2.1),.d (eSS a0.2.2.1),.d (eSSC a0.2.2.2)])),(1,.box (.d (eK a1)))]) ⟨⟨_,rfl,.ptr rfl rfl⟩,⟨_,rfl,.ptr rfl rfl⟩,trivial⟩ ⟨.box rfl (.st (.cons (.d rfl) (.cons (.d rfl) (.cons (.d rfl) (.cons (.d rfl) .nil))))),.box rfl (.d rfl),trivial⟩ (qq rfl)) ?_
 have ⟨x0,hx0,h1⟩ := bdS (x := qJ1 ([a0.2.1,[(a1,(ByteArray.mk #[]),true)]])) hj0
 refine cwRA mixed (by kernel_rfl) (
  .c (uM rfl)<|
  .c (uM rfl)<|
  .c (uP rfl)<|
  .c (uF rfl qu4 rfl)<|
  .c (uL [1] rfl ta49 rfl)<|
  .c (uL [] rfl ta39 rfl)<|
  .c (qL4 (ds := [eK a1,eStr (ByteArray.mk #[]),qz true]) rfl rfl .no zs88 rfl pl88 (.cons rfl rfl rfl rfl rfl rfl rfl (.cons rfl rfl rfl rfl rfl rfl rfl .nil)))<|
  .c (qc5 (rows := ([(a1,(ByteArray.mk #[]),true)] : List (B8 × ByteArray × Bool)).map eCg) rfl rfl .no (.cons rfl .nil) rfl sl49 sz88 ze88 rfl (qC1 q70) (by decide))<|
  .c (qc5 (rows := ([a0.2.1,[(a1,(ByteArray.mk #[]),true)]] : List (List (B8 × ByteArray × Bool))).map eSC) rfl rfl .no (.cons rfl (.cons rfl .nil)) rfl sl60 sz49 ze49 rfl (qC1 qL3) (by decide))<|
  .c (qj rfl rfl .no Tryz.func119 rfl rfl (ref09_Join_ok hx0) (.cons rfl .d .nil) ⟨trivial,trivial⟩ (.inl rfl))<|
  .c (uP rfl)<|
  .c (uF rfl qu4 rfl)<|
  .c (uS [1] rfl sz49 rfl)<|.nil rfl) (by kernel_rfl) ?_
 exact ⟨(a0.1,x0,a0.2.2.1,a0.2.2.2),(sJ h1),.trans (lPk (o := 0) (y := .st [.d (eSP_ a0.1),.d (eSC x0),.d (eSS a0.2.2.1),.d (eSSC a0.2.2.2)]) (x := oRV (a0.1,x0,a0.2.2.1,a0.2.2.2)) (l := []) (m := [(0,.own (oRV (a0.1,x0,a0.2.2.1,a0.2.2.2)))]) rfl (.st (.cons (.av rfl) (.cons (.av rfl) (.cons (.av rfl) (.cons (.av rfl) .nil))))) rfl rfl trivial ⟨.inl rfl,trivial⟩ rfl (OD.dat_live (oRV_d _)) trivial (qq rfl)) (.w (wkF trivial ⟨.own rfl (.of_eq rfl (oRV_d _)),trivial⟩ (qq rfl)))⟩
theorem qI1 {a0 : Int} {r : Bool} (h : qL0 a0 = some r) : FnOk Tryz.prog 78 [.d (eint a0)] 0 (lk []) (fun rr oo => rr = .d (qz r) ∧ oo = lk []) := by
 refine fnO Tryz.func78 rfl rfl (cwP ?_)
 unfold qL0 at h
 refine cwS (cwR (
  .c (uA rfl)<|.nil rfl) ?_)
 have ⟨o0,hj0,h0⟩ := bdS h
 refine cwJ (fun (z : Bool) => St.of [(2,.d (qz z))] []) (fun (z : Bool) => o0 = z) ?_ ?_
 ·intro v0 hv0; subst hv0
  have heq := ((sJ h0)).symm
  subst heq
  exact qe ⟨_,(show Leads _ _ (St.of [(2,.d (qz o0))] []) from .w (wkF ⟨wD rfl,trivial⟩ trivial qd)),.inr rfl,_,res1 rfl rfl,rfl,rfl⟩
 rcases cdS hj0 with ⟨hc0,h1⟩ | ⟨hc0,h2⟩
 ·skip
  refine cwR (
   .c (uM rfl)<|
   .c (uB rfl (qD4 _ _) rfl)<|
   .c (uM rfl)<|
   .c (o_mv rfl rfl (.yes rfl rfl hc0) rfl)<|
   .c (qc rfl rfl (.yes rfl rfl hc0) rfl rfl (q31 _ _) rfl)<|
   .c (uPT rfl hc0)<|
   .c (uA rfl)<|.nil rfl
  ) ?_
  exact ⟨(decide (a0 < 1073741824)),(sJ h1),.w (wkF ⟨wD rfl,trivial⟩ trivial qd)⟩
 refine cwR (
  .c (uM rfl)<|
  .c (uB rfl (qD4 _ _) rfl)<|
  .c (uM rfl)<|
  .c (uN rfl rfl hc0)<|
  .c (uN rfl rfl hc0)<|
  .c (uPF rfl hc0)<|
  .c (uA rfl)<|.nil rfl
 ) ?_
 exact ⟨false,(sJ h2),.w (wkF ⟨wD rfl,trivial⟩ trivial qd)⟩
theorem ref03_head_okc {a0 : Int} {a1 : Int} {r : B8} (h : qI0 a0 a1 = some r) : FnOk Tryz.prog 79 [.d (eint a0),.d (eint a1)] 0 (lk []) (fun rr oo => rr = .d (eK r) ∧ oo = lk [(0,.box (.d (eK r)))]) := by
 refine fnO Tryz.func79 rfl rfl (cwP ?_)
 unfold qI0 at h
 refine cwS (cwR (
  .c (qm 0 rfl rfl .no ze39 rfl)<|.nil rfl) ?_)
 have ⟨x0,hx0,h0⟩ := bdS h
 have hx0g := qK hx0
 have ⟨x1,hx1,h1⟩ := bdS h0
 have hx1g := qK hx1
 have ⟨x2,hx2,h2⟩ := bdS h1
 have hx2g := qK hx2
 have ⟨x3,hx3,h3⟩ := bdS h2
 have hx3g := qK hx3
 have ⟨x4,hx4,h4⟩ := bdS h3
 have hx4g := qK hx4
 refine cwS (cwR (
  .c (uM rfl)<|
  .c (uB rfl (b_shr _ _ (by decide)) rfl)<|
  .c (qU1 rfl rfl .no rfl un3 un5)<|
  .c (uM rfl)<|
  .c (uB rfl (b_shr _ _ (by decide)) rfl)<|
  .c (qU1 rfl rfl .no rfl un3 un5)<|
  .c (uM rfl)<|
  .c (uB rfl (b_shr _ _ (by decide)) rfl)<|
  .c (qU1 rfl rfl .no rfl un3 un5)<|
  .c (uM rfl)<|
  .c (qU1 rfl rfl .no rfl un3 un5)<|
  .c (uM rfl)<|
  .c (qU1 rfl rfl .no rfl un3 un5)<|
  .c (o_bldB (l := (List.replicate 24 0)) (r := (List.set (List.set (List.set (List.set (List.set (List.replicate 24 0) 0 (UInt8.ofNat (IntKind.wrap .u8 (Int.fdiv a0 (2 ^ 24))).toNat)) 1 (UInt8.ofNat (IntKind.wrap .u8 (Int.fdiv a0 (2 ^ 16))).toNat)) 2 (UInt8.ofNat (IntKind.wrap .u8 (Int.fdiv a0 (2 ^ 8))).toNat)) 3 (UInt8.ofNat (IntKind.wrap .u8 a0).toNat)) 4 (UInt8.ofNat (IntKind.wrap .u8 a1).toNat))) rfl rfl .no ze39 ar39 sz5 (.cons rfl hx0g rfl (.cons rfl hx1g rfl (.cons rfl hx2g rfl (.cons rfl hx3g rfl (.cons rfl hx4g rfl .nil))))))<|
  .c (uS [] rfl sz39 rfl)<|.nil rfl) ?_)
 have heq := ((sJ h4)).symm
 subst heq
 exact qe ⟨_,(show Leads _ _ (St.of [(4,.ptr 0 0)] [(0,.box (.d (eK (List.set (List.set (List.set (List.set (List.set (List.replicate 24 0) 0 (UInt8.ofNat (IntKind.wrap .u8 (Int.fdiv a0 (2 ^ 24))).toNat)) 1 (UInt8.ofNat (IntKind.wrap .u8 (Int.fdiv a0 (2 ^ 16))).toNat)) 2 (UInt8.ofNat (IntKind.wrap .u8 (Int.fdiv a0 (2 ^ 8))).toNat)) 3 (UInt8.ofNat (IntKind.wrap .u8 a0).toNat)) 4 (UInt8.ofNat (IntKind.wrap .u8 a1).toNat)))))]) from .w (wkF ⟨⟨_,rfl,.ptr rfl rfl⟩,trivial⟩ ⟨.box rfl (.d rfl),trivial⟩ qd)),.inr rfl,_,resC rfl rfl rfl ta39 rfl rfl,rfl,rfl⟩
theorem qh3 {a0 : Int} {a1 : Int} {r : B8} (h : qI0 a0 a1 = some r) : FnOk Tryz.prog 79 [.d (eint a0),.d (eint a1)] 0 (lk []) (fun rr oo => rr = .d (eK r) ∧ oo = lk []) := qD0 (ref03_head_okc h)
theorem ref03_Inode_okc {a0 : Int} {r : (B8 × Bool)} (h : qI2 a0 = some r) : FnOk Tryz.prog 88 [.d (eint a0)] 0 (lk []) (fun rr oo => rr = .tup [.d (eK r.1),.d (qz r.2)] ∧ oo = lk [(0,.box (.d (eK r.1)))]) := by
 refine fnO Tryz.func88 rfl rfl (cwP ?_)
 unfold qI2 at h
 refine cwS (cwR (
  .c (qm 0 rfl rfl .no ze39 rfl)<|
  .c (uA rfl)<|.nil rfl) ?_)
 refine cwS ?_
 have ⟨x0,hx0,h0⟩ := bdS (x := qL0 a0) h
 refine cwS (cwR (
  .c (uM rfl)<|
  .c (qj rfl rfl .no Tryz.func78 rfl rfl (qI1 hx0) (.cons rfl .d .nil) ⟨trivial,trivial⟩ (.inl rfl))<|
  .c (uT rfl)<|.nil rfl) ?_)
 rcases cdS h0 with ⟨hc0,h1⟩ | ⟨hc0,h2⟩
 ·refine cwT rfl hc0 ?_
  refine cwS (cwR (
   .c (o_bldB (l := (List.replicate 24 0)) (r := (List.replicate 24 0)) rfl rfl .no ze39 ar39 sz5 .nil)<|
   .c (uS [] rfl sz39 rfl)<|
   .c (uA rfl)<|.nil rfl) ?_)
  have heq := ((sJ h1)).symm
  subst heq
  exact qe ⟨_,(show Leads _ _ (St.of [(2,.ptr 0 0),(3,.d (qz false))] [(0,.box (.d (eK (List.replicate 24 0))))]) from .w (wkF ⟨⟨_,rfl,.ptr rfl rfl⟩,wD rfl,trivial⟩ ⟨.box rfl (.d rfl),trivial⟩ qd)),.inr rfl,_,resCT rfl rfl rfl ta39 rfl rfl rfl,rfl,rfl⟩
 refine cwF rfl hc0 ?_
 refine cwK ?_
 have ⟨x1,hx1,h3⟩ := bdS (x := qI0 a0 1) h2
 refine cwS (cwR (
  .c (uM rfl)<|
  .c (qj rfl rfl .no Tryz.func79 rfl rfl (qh3 hx1) (.cons rfl .d (.cons rfl .d .nil)) ⟨trivial,trivial,trivial⟩ (.inl rfl))<|
  .c (uS [] rfl sz39 rfl)<|
  .c (uA rfl)<|.nil rfl) ?_)
 have heq := ((sJ h3)).symm
 subst heq
 exact qe ⟨_,(show Leads _ _ (St.of [(2,.ptr 0 0),(3,.d (qz true))] [(0,.box (.d (eK x1)))]) from .w (wkF ⟨⟨_,rfl,.ptr rfl rfl⟩,wD rfl,trivial⟩ ⟨.box rfl (.d rfl),trivial⟩ qd)),.inr rfl,_,resCT rfl rfl rfl ta39 rfl rfl rfl,rfl,rfl⟩
theorem ref03_Inode_ok {a0 : Int} {r : (B8 × Bool)} (h : qI2 a0 = some r) : FnOk Tryz.prog 88 [.d (eint a0)] 0 (lk []) (fun rr oo => rr = .tup [.d (eK r.1),.d (qz r.2)] ∧ oo = lk []) := qg1 (ref03_Inode_okc h)
theorem ref03_Chunk_okc {a0 : Int} {a1 : Int} {r : (B8 × Bool)} (h : qD a0 a1 = some r) : FnOk Tryz.prog 46 [.d (eint a0),.d (eint a1)] 0 (lk []) (fun rr oo => rr = .tup [.d (eK r.1),.d (qz r.2)] ∧ oo = lk [(0,.box (.d (eK r.1)))]) := by
 refine fnO Tryz.func46 rfl rfl (cwP ?_)
 unfold qD at h
 refine cwS (cwR (
  .c (qm 0 rfl rfl .no ze39 rfl)<|
  .c (uA rfl)<|.nil rfl) ?_)
 refine cwS ?_
 have ⟨o0,hj0,h0⟩ := bdS h
 refine cwJ (fun (z : Bool) => St.of [(0,.d (eint a0)),(1,.d (eint a1)),(4,.ptr 0 0),(17,.d (qz z))] [(0,.box (.d (eK (List.replicate 24 0))))]) (fun (z : Bool) => o0 = z) ?_ ?_
 ·intro v0 hv0; subst hv0
  rcases cdS h0 with ⟨hc0,h1⟩ | ⟨hc0,h2⟩
  ·refine cwT rfl hc0 ?_
   refine cwS (cwR (
    .c (o_bldB (l := (List.replicate 24 0)) (r := (List.replicate 24 0)) rfl rfl .no ze39 ar39 sz5 .nil)<|
    .c (uS [] rfl sz39 rfl)<|
    .c (uA rfl)<|.nil rfl) ?_)
   have heq := ((sJ h1)).symm
   subst heq
   exact qe ⟨_,(show Leads _ _ (St.of [(4,.ptr 0 0),(5,.d (qz false))] [(0,.box (.d (eK (List.replicate 24 0))))]) from .w (wkF ⟨⟨_,rfl,.ptr rfl rfl⟩,wD rfl,trivial⟩ ⟨.box rfl (.d rfl),trivial⟩ qd)),.inr rfl,_,resCT rfl rfl rfl ta39 rfl rfl rfl,rfl,rfl⟩
  refine cwF rfl hc0 ?_
  refine cwK ?_
  have ⟨x0,hx0,h3⟩ := bdS (x := qI0 a0 3) h2
  refine cwS (cwR (
   .c (uM rfl)<|
   .c (qj rfl rfl .no Tryz.func79 rfl rfl (qh3 hx0) (.cons rfl .d (.cons rfl .d .nil)) ⟨trivial,trivial,trivial⟩ (.inl rfl))<|
   .c (qm 1 rfl rfl .no ze39 rfl)<|
   .c (uS [] rfl sz39 rfl)<|.nil rfl) ?_)
  have ⟨x1,hx1,h4⟩ := bdS h3
  have hx1g := qK hx1
  have ⟨x2,hx2,h5⟩ := bdS h4
  have hx2g := qK hx2
  have ⟨x3,hx3,h6⟩ := bdS h5
  have hx3g := qK hx3
  refine cwS (cwR (
   .c (uM rfl)<|
   .c (uB rfl (b_shr _ _ (by decide)) rfl)<|
   .c (qU1 rfl rfl .no rfl un3 un5)<|
   .c (q45 rfl rfl .no rfl rfl ar39 sz5 hx1g)<|
   .c (o_stB (l := x0) [] rfl .no rfl rfl rfl rfl hx2g hx3g sz5)<|.nil rfl) ?_)
  have ⟨x4,hx4,h7⟩ := bdS h6
  have hx4g := qK hx4
  have ⟨x5,hx5,h8⟩ := bdS h7
  have hx5g := qK hx5
  have ⟨x6,hx6,h9⟩ := bdS h8
  have hx6g := qK hx6
  refine cwS (cwR (
   .c (uM rfl)<|
   .c (uB rfl (b_shr _ _ (by decide)) rfl)<|
   .c (qU1 rfl rfl .no rfl un3 un5)<|
   .c (q45 rfl rfl .no rfl rfl ar39 sz5 hx4g)<|
   .c (o_stB (l := (List.set x0 20 (UInt8.ofNat (IntKind.wrap .u8 (Int.fdiv a1 (2 ^ 24))).toNat))) [] rfl .no rfl rfl rfl rfl hx5g hx6g sz5)<|.nil rfl) ?_)
  have ⟨x7,hx7,h10⟩ := bdS h9
  have hx7g := qK hx7
  have ⟨x8,hx8,h11⟩ := bdS h10
  have hx8g := qK hx8
  have ⟨x9,hx9,h12⟩ := bdS h11
  have hx9g := qK hx9
  refine cwS (cwR (
   .c (uM rfl)<|
   .c (uB rfl (b_shr _ _ (by decide)) rfl)<|
   .c (qU1 rfl rfl .no rfl un3 un5)<|
   .c (q45 rfl rfl .no rfl rfl ar39 sz5 hx7g)<|
   .c (o_stB (l := (List.set (List.set x0 20 (UInt8.ofNat (IntKind.wrap .u8 (Int.fdiv a1 (2 ^ 24))).toNat)) 21 (UInt8.ofNat (IntKind.wrap .u8 (Int.fdiv a1 (2 ^ 16))).toNat))) [] rfl .no rfl rfl rfl rfl hx8g hx9g sz5)<|.nil rfl) ?_)
  have ⟨x10,hx10,h13⟩ := bdS h12
  have hx10g := qK hx10
  have ⟨x11,hx11,h14⟩ := bdS h13
  have hx11g := qK hx11
  have ⟨x12,hx12,h15⟩ := bdS h14
  have hx12g := qK hx12
  refine cwS (cwR (
   .c (uM rfl)<|
   .c (qU1 rfl rfl .no rfl un3 un5)<|
   .c (q45 rfl rfl .no rfl rfl ar39 sz5 hx10g)<|
   .c (o_stB (l := (List.set (List.set (List.set x0 20 (UInt8.ofNat (IntKind.wrap .u8 (Int.fdiv a1 (2 ^ 24))).toNat)) 21 (UInt8.ofNat (IntKind.wrap .u8 (Int.fdiv a1 (2 ^ 16))).toNat)) 22 (UInt8.ofNat (IntKind.wrap .u8 (Int.fdiv a1 (2 ^ 8))).toNat))) [] rfl .no rfl rfl rfl rfl hx11g hx12g sz5)<|.nil rfl) ?_)
  refine cwS (cwR (
   .c (uL [] rfl ta39 rfl)<|
   .c (uS [] rfl sz39 rfl)<|
   .c (uA rfl)<|.nil rfl) ?_)
  have heq := ((sJ h15)).symm
  subst heq
  exact qe ⟨_,(show Leads _ _ (St.of [(4,.ptr 0 0),(5,.d (qz true))] [(0,.box (.d (eK (List.set (List.set (List.set (List.set x0 20 (UInt8.ofNat (IntKind.wrap .u8 (Int.fdiv a1 (2 ^ 24))).toNat)) 21 (UInt8.ofNat (IntKind.wrap .u8 (Int.fdiv a1 (2 ^ 16))).toNat)) 22 (UInt8.ofNat (IntKind.wrap .u8 (Int.fdiv a1 (2 ^ 8))).toNat)) 23 (UInt8.ofNat (IntKind.wrap .u8 a1).toNat)))))]) from .w (wkF ⟨⟨_,rfl,.ptr rfl rfl⟩,wD rfl,trivial⟩ ⟨.box rfl (.d rfl),trivial⟩ qd)),.inr rfl,_,resCT rfl rfl rfl ta39 rfl rfl rfl,rfl,rfl⟩
 have ⟨x13,hx13,h16⟩ := bdS (x := qL0 a0) hj0
 rcases cdS h16 with ⟨hc1,h17⟩ | ⟨hc1,h18⟩
 ·skip
  refine cwR (
   .c (uM rfl)<|
   .c (qj rfl rfl .no Tryz.func78 rfl rfl (qI1 hx13) (.cons rfl .d .nil) ⟨trivial,trivial⟩ (.inl rfl))<|
   .c (uT rfl)<|
   .c (uM rfl)<|
   .c (uN rfl rfl hc1)<|
   .c (uN rfl rfl hc1)<|
   .c (uPT rfl hc1)<|
   .c (uM rfl)<|
   .c (uN rfl rfl rfl)<|
   .c (uN rfl rfl rfl)<|
   .c (uPT rfl rfl)<|.nil rfl
  ) ?_
  exact ⟨true,(sJ h17),.w (wkF ⟨wD rfl,wD rfl,⟨_,rfl,.ptr rfl rfl⟩,wD rfl,trivial⟩ ⟨.box rfl (.d rfl),trivial⟩ qd)⟩
 rcases cdS h18 with ⟨hc2,h19⟩ | ⟨hc2,h20⟩
 ·skip
  refine cwR (
   .c (uM rfl)<|
   .c (qj rfl rfl .no Tryz.func78 rfl rfl (qI1 hx13) (.cons rfl .d .nil) ⟨trivial,trivial⟩ (.inl rfl))<|
   .c (uT rfl)<|
   .c (uM rfl)<|
   .c (o_mv rfl rfl (.yes rfl rfl hc1) rfl)<|
   .c (qc rfl rfl (.yes rfl rfl hc1) rfl rfl (q31 _ _) rfl)<|
   .c (uPF rfl hc1)<|
   .c (uM rfl)<|
   .c (uN rfl rfl hc2)<|
   .c (uN rfl rfl hc2)<|
   .c (uPT rfl hc2)<|.nil rfl
  ) ?_
  exact ⟨true,(sJ h19),.w (wkF ⟨wD rfl,wD rfl,⟨_,rfl,.ptr rfl rfl⟩,wD rfl,trivial⟩ ⟨.box rfl (.d rfl),trivial⟩ qd)⟩
 refine cwR (
  .c (uM rfl)<|
  .c (qj rfl rfl .no Tryz.func78 rfl rfl (qI1 hx13) (.cons rfl .d .nil) ⟨trivial,trivial⟩ (.inl rfl))<|
  .c (uT rfl)<|
  .c (uM rfl)<|
  .c (o_mv rfl rfl (.yes rfl rfl hc1) rfl)<|
  .c (qc rfl rfl (.yes rfl rfl hc1) rfl rfl (q31 _ _) rfl)<|
  .c (uPF rfl hc1)<|
  .c (uM rfl)<|
  .c (o_mv rfl rfl (.yes rfl rfl hc2) rfl)<|
  .c (qc rfl rfl (.yes rfl rfl hc2) rfl rfl (b_gtr _ _) rfl)<|
  .c (uPF rfl hc2)<|.nil rfl
 ) ?_
 exact ⟨(decide (a1 > 4294967295)),(sJ h20),.w (wkF ⟨wD rfl,wD rfl,⟨_,rfl,.ptr rfl rfl⟩,wD rfl,trivial⟩ ⟨.box rfl (.d rfl),trivial⟩ qd)⟩
theorem qY0 {a0 : Int} {a1 : Int} {r : (B8 × Bool)} (h : qD a0 a1 = some r) : FnOk Tryz.prog 46 [.d (eint a0),.d (eint a1)] 0 (lk []) (fun rr oo => rr = .tup [.d (eK r.1),.d (qz r.2)] ∧ oo = lk []) := qg1 (ref03_Chunk_okc h)
theorem ref03_Chunks_okc {a0 : Int} {a1 : Int} {r : (B8 × B8 × Bool)} (h : qk1 a0 a1 = some r) : FnOk Tryz.prog 51 [.d (eint a0),.d (eint a1)] 0 (lk []) (fun rr oo => rr = .d (eSp r) ∧ oo = lk [(0,.box (.d (eSp r)))]) := by
 refine fnO Tryz.func51 rfl rfl (cwP ?_)
 unfold qk1 at h
 refine cwS (cwR (
  .c (qm 0 rfl rfl .no ze41 rfl)<|.nil rfl) ?_)
 have ⟨x0,hx0,h0⟩ := bdS (x := qD a0 a1) h
 refine cwS (cwR (
  .c (uM rfl)<|
  .c (uM rfl)<|
  .c (qj rfl rfl .no Tryz.func46 rfl rfl (qY0 hx0) (.cons rfl .d (.cons rfl .d .nil)) ⟨trivial,trivial,trivial⟩ (.inl rfl))<|
  .c (uM rfl)<|
  .c (uE rfl)<|
  .c (uE rfl)<|
  .c (qm 1 rfl rfl .no ze39 rfl)<|
  .c (uS [] rfl sz39 rfl)<|
  .c (uA rfl)<|.nil rfl) ?_)
 refine cwS ?_
 refine cwS (cwR (
  .c (uM rfl)<|
  .c (uT rfl)<|.nil rfl) ?_)
 rcases cdS h0 with ⟨hc0,h1⟩ | ⟨hc0,h2⟩
 ·refine cwT rfl hc0 ?_
  refine cwS (cwR (
   .c (qL4 (ds := [eK (List.replicate 24 0),eK (List.replicate 24 0),qz false]) rfl rfl .no zs41 rfl pl41 .nil)<|
   .c (uS [] rfl sz41 rfl)<|.nil rfl) ?_)
  have heq := ((sJ h1)).symm
  subst heq
  exact qe ⟨_,(show Leads _ _ (St.of [(4,.ptr 0 0)] [(0,.box (.d (eSp ((List.replicate 24 0),(List.replicate 24 0),false))))]) from .w (wkF ⟨⟨_,rfl,.ptr rfl rfl⟩,trivial⟩ ⟨.box rfl (.d rfl),trivial⟩ qd)),.inr rfl,_,resC rfl rfl rfl ta41 rfl rfl,rfl,rfl⟩
 refine cwF rfl hc0 ?_
 refine cwK ?_
 have ⟨x1,hx1,h3⟩ := bdS (x := qI0 a0 4) h2
 refine cwS (cwRA mixed (by kernel_rfl) (
  .c (uL [] rfl ta39 rfl)<|
  .c (uM rfl)<|
  .c (qj rfl rfl .no Tryz.func79 rfl rfl (qh3 hx1) (.cons rfl .d (.cons rfl .d .nil)) ⟨trivial,trivial,trivial⟩ (.inl rfl))<|
  .c (qL4 (ds := [eK x0.1,eK x1,qz false]) rfl rfl .no zs41 rfl pl41 (.cons rfl rfl rfl rfl rfl rfl rfl (.cons rfl rfl rfl rfl rfl rfl rfl .nil)))<|
  .c (uS [] rfl sz41 rfl)<|.nil rfl) (by kernel_rfl) ?_)
 have heq := ((sJ h3)).symm
 subst heq
 exact qe ⟨_,(show Leads _ _ (St.of [(4,.ptr 0 0)] [(0,.box (.d (eSp (x0.1,x1,false))))]) from .w (wkF ⟨⟨_,rfl,.ptr rfl rfl⟩,trivial⟩ ⟨.box rfl (.d rfl),trivial⟩ qd)),.inr rfl,_,resC rfl rfl rfl ta41 rfl rfl,rfl,rfl⟩
theorem ref03_Chunks_ok {a0 : Int} {a1 : Int} {r : (B8 × B8 × Bool)} (h : qk1 a0 a1 = some r) : FnOk Tryz.prog 51 [.d (eint a0),.d (eint a1)] 0 (lk []) (fun rr oo => rr = .d (eSp r) ∧ oo = lk []) := qD0 (ref03_Chunks_okc h)
theorem ref03_Of_okc {a0 : List UInt8} {r : ((Int × Int × ByteArray × Int) × Bool)} (h : qE1 a0 = some r) : FnOk Tryz.prog 52 [.d (eK a0)] 0 (lk []) (fun rr oo => rr = .tup [.d (qo r.1),.d (qz r.2)] ∧ oo = lk [(1,.box (.d (qo r.1)))]) := by
 refine fnO Tryz.func52 rfl rfl (cwP ?_)
 unfold qE1 at h
 refine cwS (cwR (
  .c (uX 0 rfl)<|
  .c (qm 1 rfl rfl .no ze104 rfl)<|
  .c (uA rfl)<|.nil rfl) ?_)
 have ⟨x0,hx0,h0⟩ := bdS h
 have hx0g := qK hx0
 have ⟨x1,hx1,h1⟩ := bdS h0
 have hx1g := qn hx1
 have ⟨x2,hx2,h2⟩ := bdS h1
 have hx2g := qK hx2
 have ⟨x3,hx3,h3⟩ := bdS h2
 have hx3g := qn hx3
 have ⟨x4,hx4,h4⟩ := bdS h3
 have hx4g := qK hx4
 have ⟨x5,hx5,h5⟩ := bdS h4
 have hx5g := qn hx5
 have ⟨x6,hx6,h6⟩ := bdS h5
 have hx6g := qK hx6
 have ⟨x7,hx7,h7⟩ := bdS h6
 have hx7g := qn hx7
 refine cwS (cwR (
  .c (q45 rfl rfl .no rfl rfl ar39 sz5 hx0g)<|
  .c (o_ldB (l := a0) [] rfl rfl .no rfl rfl rfl hx1g.2 ta5)<|
  .c (qU1 rfl rfl .no rfl un5 un3)<|
  .c (uB rfl (b_shl _ _ (by decide)) rfl)<|
  .c (q45 rfl rfl .no rfl rfl ar39 sz5 hx2g)<|
  .c (o_ldB (l := a0) [] rfl rfl .no rfl rfl rfl hx3g.2 ta5)<|
  .c (qU1 rfl rfl .no rfl un5 un3)<|
  .c (uB rfl (b_shl _ _ (by decide)) rfl)<|
  .c (uB rfl (q61 _ _) rfl)<|
  .c (q45 rfl rfl .no rfl rfl ar39 sz5 hx4g)<|
  .c (o_ldB (l := a0) [] rfl rfl .no rfl rfl rfl hx5g.2 ta5)<|
  .c (qU1 rfl rfl .no rfl un5 un3)<|
  .c (uB rfl (b_shl _ _ (by decide)) rfl)<|
  .c (uB rfl (q61 _ _) rfl)<|
  .c (q45 rfl rfl .no rfl rfl ar39 sz5 hx6g)<|
  .c (o_ldB (l := a0) [] rfl rfl .no rfl rfl rfl hx7g.2 ta5)<|
  .c (qU1 rfl rfl .no rfl un5 un3)<|
  .c (uB rfl (q61 _ _) rfl)<|
  .c (uA rfl)<|.nil rfl) ?_)
 have ⟨x8,hx8,h8⟩ := bdS h7
 have hx8g := qK hx8
 have ⟨x9,hx9,h9⟩ := bdS h8
 have hx9g := qn hx9
 refine cwS (cwR (
  .c (uM rfl)<|
  .c (q45 rfl rfl .no rfl rfl ar39 sz5 hx8g)<|
  .c (o_ldB (l := a0) [] rfl rfl .no rfl rfl rfl hx9g.2 ta5)<|
  .c (qU1 rfl rfl .no rfl un5 un3)<|
  .c (qL4 (ds := [eint (IntKind.wrap .i64 ((IntKind.wrap .i64 ((IntKind.wrap .i64 ((IntKind.wrap .i64 ((IntKind.wrap .i64 (x1.toNat : Int)) * 2 ^ 24)) + (IntKind.wrap .i64 ((IntKind.wrap .i64 (x3.toNat : Int)) * 2 ^ 16)))) + (IntKind.wrap .i64 ((IntKind.wrap .i64 (x5.toNat : Int)) * 2 ^ 8)))) + (IntKind.wrap .i64 (x7.toNat : Int)))),eint (IntKind.wrap .i64 (x9.toNat : Int)),eStr (ByteArray.mk #[]),eint 0]) rfl rfl .no zs104 rfl pl104 (.cons rfl rfl rfl rfl rfl rfl rfl (.cons rfl rfl rfl rfl rfl rfl rfl .nil)))<|
  .c (qm 2 rfl rfl .no ze104 rfl)<|
  .c (uS [] rfl sz104 rfl)<|.nil rfl) ?_)
 refine cwS (cwR (
  .c (o_bldB (l := (List.replicate 24 0)) (r := (List.replicate 24 0)) rfl rfl .no ze39 ar39 sz5 .nil)<|
  .c (qm 3 rfl rfl .no ze39 rfl)<|
  .c (uS [] rfl sz39 rfl)<|.nil rfl) ?_)
 refine cwS (cwR (
  .c (uA rfl)<|.nil rfl) ?_)
 have ⟨o0,hj0,h10⟩ := bdS h9
 refine cwJ (fun (z : (Bool × (Int × Int × ByteArray × Int) × B8)) => St.of [(1,.ptr 0 0),(2,.ptr 1 0),(5,.ptr 2 0),(6,.ptr 3 0),(7,.d (qz z.1))] [(0,.box (.d (eK a0))),(1,.box (.d (qo (0,0,(ByteArray.mk #[]),0)))),(2,.box (.d (qo z.2.1))),(3,.box (.d (eK z.2.2)))]) (fun (z : (Bool × (Int × Int × ByteArray × Int) × B8)) => o0 = z) ?_ ?_
 ·intro v0 hv0; subst hv0
  refine cwS ?_
  have ⟨o1,hj1,h11⟩ := bdS h10
  refine cwJ (fun (z : Bool) => St.of [(2,.ptr 1 0),(5,.ptr 2 0),(94,.d (qz z))] [(1,.box (.d (qo (0,0,(ByteArray.mk #[]),0)))),(2,.box (.d (qo o0.2.1)))]) (fun (z : Bool) => o1 = z) ?_ ?_
  ·intro v1 hv1; subst hv1
   rcases cdS h11 with ⟨hc0,h12⟩ | ⟨hc0,h13⟩
   ·refine cwT rfl hc0 ?_
    refine cwS (cwR (
     .c (qL4 (ds := [eint 0,eint 0,eStr (ByteArray.mk #[]),eint 0]) rfl rfl .no zs104 rfl pl104 .nil)<|
     .c (uS [] rfl sz104 rfl)<|
     .c (uA rfl)<|.nil rfl) ?_)
    have heq := ((sJ h12)).symm
    subst heq
    exact qe ⟨_,(show Leads _ _ (St.of [(2,.ptr 1 0),(3,.d (qz false))] [(1,.box (.d (qo (0,0,(ByteArray.mk #[]),0))))]) from .w (wkF ⟨⟨_,rfl,.ptr rfl rfl⟩,wD rfl,trivial⟩ ⟨.box rfl (.d rfl),trivial⟩ qd)),.inr rfl,_,resCT rfl rfl rfl ta104 rfl rfl rfl,rfl,rfl⟩
   refine cwF rfl hc0 ?_
   refine cwK ?_
   refine cwS (cwR (
    .c (uL [] rfl ta104 rfl)<|
    .c (uS [] rfl sz104 rfl)<|
    .c (uA rfl)<|.nil rfl) ?_)
   have heq := ((sJ h13)).symm
   subst heq
   exact qe ⟨_,(show Leads _ _ (St.of [(2,.ptr 1 0),(3,.d (qz true))] [(1,.box (.d (qo o0.2.1)))]) from .w (wkF ⟨⟨_,rfl,.ptr rfl rfl⟩,wD rfl,trivial⟩ ⟨.box rfl (.d rfl),trivial⟩ qd)),.inr rfl,_,resCT rfl rfl rfl ta104 rfl rfl rfl,rfl,rfl⟩
  rcases cdS hj1 with ⟨hc1,h14⟩ | ⟨hc1,h15⟩
  ·skip
   refine cwR (
    .c (uM rfl)<|
    .c (uT rfl)<|
    .c (uM rfl)<|
    .c (uN rfl rfl hc1)<|
    .c (uN rfl rfl hc1)<|
    .c (uN rfl rfl hc1)<|
    .c (uPT rfl hc1)<|.nil rfl
   ) ?_
   exact ⟨true,(sJ h14),.w (wkF ⟨⟨_,rfl,.ptr rfl rfl⟩,⟨_,rfl,.ptr rfl rfl⟩,wD rfl,trivial⟩ ⟨.box rfl (.d rfl),.box rfl (.d rfl),trivial⟩ qd)⟩
  refine cwR (
   .c (uM rfl)<|
   .c (uT rfl)<|
   .c (uM rfl)<|
   .c (ql [] rfl rfl (.yes rfl rfl hc1) rfl rfl rfl ta39 rfl rfl)<|
   .c (ql [] rfl rfl (.yes rfl rfl hc1) rfl rfl rfl ta39 rfl rfl)<|
   .c (o_ne rfl rfl (.yes rfl rfl hc1) rfl rfl rfl rfl eg39 (.bs ar39 un5 sz5))<|
   .c (uPF rfl hc1)<|.nil rfl
  ) ?_
  exact ⟨(!(decide (o0.2.2 = a0))),(sJ h15),.w (wkF ⟨⟨_,rfl,.ptr rfl rfl⟩,⟨_,rfl,.ptr rfl rfl⟩,wD rfl,trivial⟩ ⟨.box rfl (.d rfl),.box rfl (.d rfl),trivial⟩ qd)⟩
 refine cwS (cwR (
  .c (uF rfl fld104_1 rfl)<|
  .c (uL [1] rfl ta3 rfl)<|.nil rfl) ?_)
 refine cwB ?_
 refine cwS (cwR (
  .c (uB rfl (q43 _ _) rfl)<|
  .c (uA rfl)<|.nil rfl) ?_)
 rcases cdS hj0 with ⟨hc2,h16⟩ | ⟨hc2,h17⟩
 ·refine cwT rfl hc2 ?_
  have ⟨x10,hx10,h18⟩ := bdS (x := qI2 (IntKind.wrap .i64 ((IntKind.wrap .i64 ((IntKind.wrap .i64 ((IntKind.wrap .i64 ((IntKind.wrap .i64 (x1.toNat : Int)) * 2 ^ 24)) + (IntKind.wrap .i64 ((IntKind.wrap .i64 (x3.toNat : Int)) * 2 ^ 16)))) + (IntKind.wrap .i64 ((IntKind.wrap .i64 (x5.toNat : Int)) * 2 ^ 8)))) + (IntKind.wrap .i64 (x7.toNat : Int))))) h16
  refine cwR (
   .c (uM rfl)<|
   .c (qj rfl rfl .no Tryz.func88 rfl rfl (ref03_Inode_ok hx10) (.cons rfl .d .nil) ⟨trivial,trivial⟩ (.inl rfl))<|
   .c (uM rfl)<|
   .c (uE rfl)<|
   .c (uE rfl)<|
   .c (uS [] rfl sz39 rfl)<|
   .c (uA rfl)<|.nil rfl
  ) ?_
  exact ⟨(x10.2,((IntKind.wrap .i64 ((IntKind.wrap .i64 ((IntKind.wrap .i64 ((IntKind.wrap .i64 ((IntKind.wrap .i64 (x1.toNat : Int)) * 2 ^ 24)) + (IntKind.wrap .i64 ((IntKind.wrap .i64 (x3.toNat : Int)) * 2 ^ 16)))) + (IntKind.wrap .i64 ((IntKind.wrap .i64 (x5.toNat : Int)) * 2 ^ 8)))) + (IntKind.wrap .i64 (x7.toNat : Int)))),(IntKind.wrap .i64 (x9.toNat : Int)),(ByteArray.mk #[]),0),x10.1),(sJ h18),.w (wkF ⟨⟨_,rfl,.ptr rfl rfl⟩,⟨_,rfl,.ptr rfl rfl⟩,⟨_,rfl,.ptr rfl rfl⟩,⟨_,rfl,.ptr rfl rfl⟩,wD rfl,trivial⟩ ⟨.box rfl (.d rfl),.box rfl (.d rfl),.box rfl (.d rfl),.box rfl (.d rfl),trivial⟩ qd)⟩
 refine cwF rfl hc2 ?_
 refine cwS (cwR (
  .c (uB rfl (q43 _ _) rfl)<|
  .c (uA rfl)<|.nil rfl) ?_)
 rcases cdS h17 with ⟨hc3,h19⟩ | ⟨hc3,h20⟩
 ·refine cwT rfl hc3 ?_
  exact nomatch h19
 refine cwF rfl hc3 ?_
 refine cwS (cwR (
  .c (uB rfl (q43 _ _) rfl)<|
  .c (uA rfl)<|.nil rfl) ?_)
 rcases cdS h20 with ⟨hc4,h21⟩ | ⟨hc4,h22⟩
 ·refine cwT rfl hc4 ?_
  have ⟨x11,hx11,h23⟩ := bdS h21
  have hx11g := qK hx11
  have ⟨x12,hx12,h24⟩ := bdS h23
  have hx12g := qn hx12
  have ⟨x13,hx13,h25⟩ := bdS h24
  have hx13g := qK hx13
  have ⟨x14,hx14,h26⟩ := bdS h25
  have hx14g := qn hx14
  have ⟨x15,hx15,h27⟩ := bdS h26
  have hx15g := qK hx15
  have ⟨x16,hx16,h28⟩ := bdS h27
  have hx16g := qn hx16
  have ⟨x17,hx17,h29⟩ := bdS h28
  have hx17g := qK hx17
  have ⟨x18,hx18,h30⟩ := bdS h29
  have hx18g := qn hx18
  refine cwS (cwR (
   .c (q45 rfl rfl .no rfl rfl ar39 sz5 hx11g)<|
   .c (o_ldB (l := a0) [] rfl rfl .no rfl rfl rfl hx12g.2 ta5)<|
   .c (qU1 rfl rfl .no rfl un5 un3)<|
   .c (uB rfl (b_shl _ _ (by decide)) rfl)<|
   .c (q45 rfl rfl .no rfl rfl ar39 sz5 hx13g)<|
   .c (o_ldB (l := a0) [] rfl rfl .no rfl rfl rfl hx14g.2 ta5)<|
   .c (qU1 rfl rfl .no rfl un5 un3)<|
   .c (uB rfl (b_shl _ _ (by decide)) rfl)<|
   .c (uB rfl (q61 _ _) rfl)<|
   .c (q45 rfl rfl .no rfl rfl ar39 sz5 hx15g)<|
   .c (o_ldB (l := a0) [] rfl rfl .no rfl rfl rfl hx16g.2 ta5)<|
   .c (qU1 rfl rfl .no rfl un5 un3)<|
   .c (uB rfl (b_shl _ _ (by decide)) rfl)<|
   .c (uB rfl (q61 _ _) rfl)<|
   .c (q45 rfl rfl .no rfl rfl ar39 sz5 hx17g)<|
   .c (o_ldB (l := a0) [] rfl rfl .no rfl rfl rfl hx18g.2 ta5)<|
   .c (qU1 rfl rfl .no rfl un5 un3)<|
   .c (uB rfl (q61 _ _) rfl)<|
   .c (uF rfl fld104_3 rfl)<|
   .c (uS [3] rfl sz3 rfl)<|.nil rfl) ?_)
  have ⟨x19,hx19,h31⟩ := bdS (x := qD (IntKind.wrap .i64 ((IntKind.wrap .i64 ((IntKind.wrap .i64 ((IntKind.wrap .i64 ((IntKind.wrap .i64 (x1.toNat : Int)) * 2 ^ 24)) + (IntKind.wrap .i64 ((IntKind.wrap .i64 (x3.toNat : Int)) * 2 ^ 16)))) + (IntKind.wrap .i64 ((IntKind.wrap .i64 (x5.toNat : Int)) * 2 ^ 8)))) + (IntKind.wrap .i64 (x7.toNat : Int)))) (IntKind.wrap .i64 ((IntKind.wrap .i64 ((IntKind.wrap .i64 ((IntKind.wrap .i64 ((IntKind.wrap .i64 (x12.toNat : Int)) * 2 ^ 24)) + (IntKind.wrap .i64 ((IntKind.wrap .i64 (x14.toNat : Int)) * 2 ^ 16)))) + (IntKind.wrap .i64 ((IntKind.wrap .i64 (x16.toNat : Int)) * 2 ^ 8)))) + (IntKind.wrap .i64 (x18.toNat : Int))))) h30
  refine cwR (
   .c (uM rfl)<|
   .c (uF rfl fld104_3 rfl)<|
   .c (uL [3] rfl ta3 rfl)<|
   .c (qj rfl rfl .no Tryz.func46 rfl rfl (qY0 hx19) (.cons rfl .d (.cons rfl .d .nil)) ⟨trivial,trivial,trivial⟩ (.inl rfl))<|
   .c (uM rfl)<|
   .c (uE rfl)<|
   .c (uE rfl)<|
   .c (uS [] rfl sz39 rfl)<|
   .c (uA rfl)<|.nil rfl
  ) ?_
  exact ⟨(x19.2,((IntKind.wrap .i64 ((IntKind.wrap .i64 ((IntKind.wrap .i64 ((IntKind.wrap .i64 ((IntKind.wrap .i64 (x1.toNat : Int)) * 2 ^ 24)) + (IntKind.wrap .i64 ((IntKind.wrap .i64 (x3.toNat : Int)) * 2 ^ 16)))) + (IntKind.wrap .i64 ((IntKind.wrap .i64 (x5.toNat : Int)) * 2 ^ 8)))) + (IntKind.wrap .i64 (x7.toNat : Int)))),(IntKind.wrap .i64 (x9.toNat : Int)),(ByteArray.mk #[]),(IntKind.wrap .i64 ((IntKind.wrap .i64 ((IntKind.wrap .i64 ((IntKind.wrap .i64 ((IntKind.wrap .i64 (x12.toNat : Int)) * 2 ^ 24)) + (IntKind.wrap .i64 ((IntKind.wrap .i64 (x14.toNat : Int)) * 2 ^ 16)))) + (IntKind.wrap .i64 ((IntKind.wrap .i64 (x16.toNat : Int)) * 2 ^ 8)))) + (IntKind.wrap .i64 (x18.toNat : Int))))),x19.1),(sJ h31),.w (wkF ⟨⟨_,rfl,.ptr rfl rfl⟩,⟨_,rfl,.ptr rfl rfl⟩,⟨_,rfl,.ptr rfl rfl⟩,⟨_,rfl,.ptr rfl rfl⟩,wD rfl,trivial⟩ ⟨.box rfl (.d rfl),.box rfl (.d rfl),.box rfl (.d rfl),.box rfl (.d rfl),trivial⟩ qd)⟩
 refine cwF rfl hc4 ?_
 refine cwK ?_
 exact ⟨(false,((IntKind.wrap .i64 ((IntKind.wrap .i64 ((IntKind.wrap .i64 ((IntKind.wrap .i64 ((IntKind.wrap .i64 (x1.toNat : Int)) * 2 ^ 24)) + (IntKind.wrap .i64 ((IntKind.wrap .i64 (x3.toNat : Int)) * 2 ^ 16)))) + (IntKind.wrap .i64 ((IntKind.wrap .i64 (x5.toNat : Int)) * 2 ^ 8)))) + (IntKind.wrap .i64 (x7.toNat : Int)))),(IntKind.wrap .i64 (x9.toNat : Int)),(ByteArray.mk #[]),0),(List.replicate 24 0)),(sJ h22),.w (wkF ⟨⟨_,rfl,.ptr rfl rfl⟩,⟨_,rfl,.ptr rfl rfl⟩,⟨_,rfl,.ptr rfl rfl⟩,⟨_,rfl,.ptr rfl rfl⟩,wD rfl,trivial⟩ ⟨.box rfl (.d rfl),.box rfl (.d rfl),.box rfl (.d rfl),.box rfl (.d rfl),trivial⟩ qd)⟩
theorem ref03_Of_ok {a0 : List UInt8} {r : ((Int × Int × ByteArray × Int) × Bool)} (h : qE1 a0 = some r) : FnOk Tryz.prog 52 [.d (eK a0)] 0 (lk []) (fun rr oo => rr = .tup [.d (qo r.1),.d (qz r.2)] ∧ oo = lk []) := qg1 (ref03_Of_okc h)
theorem ref11_Full_ok {a0 : ByteArray} {r : ByteArray} (h : qM1 a0 = some r) : FnOk Tryz.prog 48 [.d (eStr a0)] 0 (lk []) (fun rr oo => rr = .d (eStr r) ∧ oo = lk []) := by
 refine fnO Tryz.func48 rfl rfl (cwP ?_)
 unfold qM1 at h
 refine cwS (cwR (
  .c (uA rfl)<|.nil rfl) ?_)
 have ⟨x0,hx0,h0⟩ := bdS h
 have hx0g := qE hx0
 refine cwS (cwR (
  .c (uM rfl)<|
  .c (uM rfl)<|
  .c (qa3 rfl rfl .no rfl un9)<|
  .c (o_min rfl rfl .no rfl rfl)<|
  .c (qg5 rfl rfl .no rfl un9 .no (.val rfl hx0g.2.1) hx0g.2.2.1 hx0g.2.2.2)<|
  .c (uA rfl)<|.nil rfl) ?_)
 have ⟨x1,hx1,h1⟩ := bdS h0
 have hx1g := qK hx1
 have ⟨x2,hx2,h2⟩ := bdS h1
 have hx2g := qK hx2
 refine cwS (cwR (
  .c (uM rfl)<|
  .c (uM rfl)<|
  .c (qa3 rfl rfl .no rfl un9)<|
  .c (uB rfl (qy4 _ _) rfl)<|
  .c (o_mksl (n := (IntKind.wrap .i64 (32 - ((a0.extract 0 (min (a0.size : Int) 32).toNat).size : Int)))) 0 rfl rfl .no rfl rfl sl26 sz5 by5 zb5 hx1g rfl)<|
  .c (o_cvA (xs := (List.replicate (IntKind.wrap .i64 (32 - ((a0.extract 0 (min (a0.size : Int) 32).toNat).size : Int))).toNat (0 : UInt8))) rfl rfl .no rfl rfl sl26 un5 un9)<|
  .c (qc rfl rfl .no rfl rfl (s_add _ _ hx2g) rfl)<|
  .c (uA rfl)<|.nil rfl) ?_)
 have heq := ((sJ h2)).symm
 subst heq
 exact qe ⟨_,(show Leads _ _ (St.of [(2,.d (eStr ((a0.extract 0 (min (a0.size : Int) 32).toNat) ++ (ByteArray.mk (List.replicate (IntKind.wrap .i64 (32 - ((a0.extract 0 (min (a0.size : Int) 32).toNat).size : Int))).toNat (0 : UInt8)).toArray))))] []) from .w (wkF ⟨wD rfl,trivial⟩ trivial qd)),.inr rfl,_,res1 rfl rfl,rfl,rfl⟩
theorem ref11_Trim_ok {a0 : ByteArray} {r : ByteArray} (h : qv1 a0 = some r) : FnOk Tryz.prog 53 [.d (eStr a0)] 0 (lk []) (fun rr oo => rr = .d (eStr r) ∧ oo = lk []) := by
 refine fnO Tryz.func53 rfl rfl (cwP ?_)
 unfold qv1 at h
 refine cwS (cwR (
  .c (uA rfl)<|.nil rfl) ?_)
 refine cwS (cwR (
  .c (uM rfl)<|
  .c (qa3 rfl rfl .no rfl un9)<|
  .c (o_min rfl rfl .no rfl rfl)<|
  .c (uA rfl)<|.nil rfl) ?_)
 have ⟨o0,hj0,h0⟩ := bdS h
 refine cwJ (fun (z : Int) => St.of [(0,.d (eStr a0)),(3,.d (eint z))] []) (fun (z : Int) => o0 = z) ?_ ?_
 ·intro v0 hv0; subst hv0
  have ⟨x0,hx0,h1⟩ := bdS h0
  have hx0g := qE hx0
  refine cwS (cwR (
   .c (uM rfl)<|
   .c (uM rfl)<|
   .c (qg5 rfl rfl .no rfl un9 .no (.val rfl hx0g.2.1) hx0g.2.2.1 hx0g.2.2.2)<|
   .c (uA rfl)<|.nil rfl) ?_)
  have heq := ((sJ h1)).symm
  subst heq
  exact qe ⟨_,(show Leads _ _ (St.of [(2,.d (eStr (a0.extract 0 o0.toNat)))] []) from .w (wkF ⟨wD rfl,trivial⟩ trivial qd)),.inr rfl,_,res1 rfl rfl,rfl,rfl⟩
 refine cwB ?_
 refine qr (V := Int) (O := Int) (fun (z : Int) => St.of [(0,.d (eStr a0)),(3,.d (eint z))] []) hj0 (.w (wkF ⟨wD rfl,wD rfl,trivial⟩ trivial qd)) ?_
 intro v1 x1 hb0 hx1
 refine cwS ?_
 have ⟨o1,hj1,h2⟩ := bdS hb0
 refine cwJ (fun (z : Bool) => St.of [(0,.d (eStr a0)),(3,.d (eint v1)),(15,.d (qz z))] []) (fun (z : Bool) => o1 = z) ?_ ?_
 ·intro v2 hv1; subst hv1
  rcases cdS h2 with ⟨hc0,h3⟩ | ⟨hc0,h4⟩
  ·refine cwT rfl hc0 ?_
   refine cwK ?_
   refine cwB ?_
   refine cwR (
    .c (uM rfl)<|
    .c (uB rfl (qy4 _ _) rfl)<|
    .c (uA rfl)<|.nil rfl
   ) ?_
   exact ⟨(IntKind.wrap .i64 (v1 - 1)),(sJ h3),.w (wkF ⟨wD rfl,wD rfl,trivial⟩ trivial qd)⟩
  refine cwF rfl hc0 ?_
  refine qG ?_
  exact ⟨v1,(hx1 _ (sJ h4)).symm,.w (wkF ⟨wD rfl,wD rfl,trivial⟩ trivial qd)⟩
 rcases cdS hj1 with ⟨hc1,h5⟩ | ⟨hc1,h6⟩
 ·skip
  have ⟨x2,hx2,h7⟩ := bdS h5
  have hx2g := qn hx2
  refine cwR (
   .c (uM rfl)<|
   .c (uB rfl (b_gtr _ _) rfl)<|
   .c (uM rfl)<|
   .c (o_mv rfl rfl (.yes rfl rfl hc1) rfl)<|
   .c (o_mv rfl rfl (.yes rfl rfl hc1) rfl)<|
   .c (qc rfl rfl (.yes rfl rfl hc1) rfl rfl (qy4 _ _) rfl)<|
   .c (o_ixStr rfl rfl (.yes rfl rfl hc1) rfl rfl un9 hx2g.1 hx2g.2)<|
   .c (qc rfl rfl (.yes rfl rfl hc1) rfl rfl (q43 _ _) rfl)<|
   .c (uPT rfl hc1)<|.nil rfl
  ) ?_
  exact ⟨(decide ((x2.toNat : Int) = 0)),(sJ h7),.w (wkF ⟨wD rfl,wD rfl,wD rfl,trivial⟩ trivial qd)⟩
 refine cwR (
  .c (uM rfl)<|
  .c (uB rfl (b_gtr _ _) rfl)<|
  .c (uM rfl)<|
  .c (uN rfl rfl hc1)<|
  .c (uN rfl rfl hc1)<|
  .c (uN rfl rfl hc1)<|
  .c (uN rfl rfl hc1)<|
  .c (uN rfl rfl hc1)<|
  .c (uPF rfl hc1)<|.nil rfl
 ) ?_
 exact ⟨false,(sJ h6),.w (wkF ⟨wD rfl,wD rfl,wD rfl,trivial⟩ trivial qd)⟩
theorem qP3 {a0 : Int} {a1 : Int} {a2 : Int} {r : Bool} (h : qF1 a0 a1 a2 = some r) : FnOk Tryz.prog 45 [.d (eint a0),.d (eint a1),.d (eint a2)] 0 (lk []) (fun rr oo => rr = .d (qz r) ∧ oo = lk []) := by
 refine fnO Tryz.func45 rfl rfl (cwP ?_)
 unfold qF1 at h
 refine cwS (cwR (
  .c (uA rfl)<|.nil rfl) ?_)
 have ⟨o0,hj0,h0⟩ := bdS h
 refine cwJ (fun (z : Bool) => St.of [(6,.d (qz z))] []) (fun (z : Bool) => o0 = z) ?_ ?_
 ·intro v0 hv0; subst hv0
  have heq := ((sJ h0)).symm
  subst heq
  exact qe ⟨_,(show Leads _ _ (St.of [(6,.d (qz o0))] []) from .w (wkF ⟨wD rfl,trivial⟩ trivial qd)),.inr rfl,_,res1 rfl rfl,rfl,rfl⟩
 rcases cdS hj0 with ⟨hc0,h1⟩ | ⟨hc0,h2⟩
 ·skip
  rcases cdS h1 with ⟨hc1,h3⟩ | ⟨hc1,h4⟩
  ·skip
   rcases cdS h3 with ⟨hc2,h5⟩ | ⟨hc2,h6⟩
   ·skip
    rcases cdS h5 with ⟨hc3,h7⟩ | ⟨hc3,h8⟩
    ·skip
     rcases cdS h7 with ⟨hc4,h9⟩ | ⟨hc4,h10⟩
     ·skip
      refine cwR (
       .c (uM rfl)<|
       .c (uB rfl (qD4 _ _) rfl)<|
       .c (uM rfl)<|
       .c (o_mv rfl rfl (.yes rfl rfl hc0) rfl)<|
       .c (qc rfl rfl (.yes rfl rfl hc0) rfl rfl (q31 _ _) rfl)<|
       .c (uPT rfl hc0)<|
       .c (uM rfl)<|
       .c (o_mv rfl rfl (.yes rfl rfl hc1) rfl)<|
       .c (qc rfl rfl (.yes rfl rfl hc1) rfl rfl (qD4 _ _) rfl)<|
       .c (uPT rfl hc1)<|
       .c (uM rfl)<|
       .c (o_mv rfl rfl (.yes rfl rfl hc2) rfl)<|
       .c (qc rfl rfl (.yes rfl rfl hc2) rfl rfl (qD4 _ _) rfl)<|
       .c (uPT rfl hc2)<|
       .c (uM rfl)<|
       .c (o_mv rfl rfl (.yes rfl rfl hc3) rfl)<|
       .c (qc rfl rfl (.yes rfl rfl hc3) rfl rfl (b_leq _ _) rfl)<|
       .c (uPT rfl hc3)<|
       .c (uM rfl)<|
       .c (o_mv rfl rfl (.yes rfl rfl hc4) rfl)<|
       .c (o_mv rfl rfl (.yes rfl rfl hc4) rfl)<|
       .c (qc rfl rfl (.yes rfl rfl hc4) rfl rfl (qy4 _ _) rfl)<|
       .c (qc rfl rfl (.yes rfl rfl hc4) rfl rfl (b_leq _ _) rfl)<|
       .c (uPT rfl hc4)<|
       .c (uA rfl)<|.nil rfl
      ) ?_
      exact ⟨(decide (a2 ≤ (IntKind.wrap .i64 (1048576 - a1)))),(sJ h9),.w (wkF ⟨wD rfl,trivial⟩ trivial qd)⟩
     refine cwR (
      .c (uM rfl)<|
      .c (uB rfl (qD4 _ _) rfl)<|
      .c (uM rfl)<|
      .c (o_mv rfl rfl (.yes rfl rfl hc0) rfl)<|
      .c (qc rfl rfl (.yes rfl rfl hc0) rfl rfl (q31 _ _) rfl)<|
      .c (uPT rfl hc0)<|
      .c (uM rfl)<|
      .c (o_mv rfl rfl (.yes rfl rfl hc1) rfl)<|
      .c (qc rfl rfl (.yes rfl rfl hc1) rfl rfl (qD4 _ _) rfl)<|
      .c (uPT rfl hc1)<|
      .c (uM rfl)<|
      .c (o_mv rfl rfl (.yes rfl rfl hc2) rfl)<|
      .c (qc rfl rfl (.yes rfl rfl hc2) rfl rfl (qD4 _ _) rfl)<|
      .c (uPT rfl hc2)<|
      .c (uM rfl)<|
      .c (o_mv rfl rfl (.yes rfl rfl hc3) rfl)<|
      .c (qc rfl rfl (.yes rfl rfl hc3) rfl rfl (b_leq _ _) rfl)<|
      .c (uPT rfl hc3)<|
      .c (uM rfl)<|
      .c (uN rfl rfl hc4)<|
      .c (uN rfl rfl hc4)<|
      .c (uN rfl rfl hc4)<|
      .c (uN rfl rfl hc4)<|
      .c (uPF rfl hc4)<|
      .c (uA rfl)<|.nil rfl
     ) ?_
     exact ⟨false,(sJ h10),.w (wkF ⟨wD rfl,trivial⟩ trivial qd)⟩
    refine cwR (
     .c (uM rfl)<|
     .c (uB rfl (qD4 _ _) rfl)<|
     .c (uM rfl)<|
     .c (o_mv rfl rfl (.yes rfl rfl hc0) rfl)<|
     .c (qc rfl rfl (.yes rfl rfl hc0) rfl rfl (q31 _ _) rfl)<|
     .c (uPT rfl hc0)<|
     .c (uM rfl)<|
     .c (o_mv rfl rfl (.yes rfl rfl hc1) rfl)<|
     .c (qc rfl rfl (.yes rfl rfl hc1) rfl rfl (qD4 _ _) rfl)<|
     .c (uPT rfl hc1)<|
     .c (uM rfl)<|
     .c (o_mv rfl rfl (.yes rfl rfl hc2) rfl)<|
     .c (qc rfl rfl (.yes rfl rfl hc2) rfl rfl (qD4 _ _) rfl)<|
     .c (uPT rfl hc2)<|
     .c (uM rfl)<|
     .c (uN rfl rfl hc3)<|
     .c (uN rfl rfl hc3)<|
     .c (uPF rfl hc3)<|
     .c (uM rfl)<|
     .c (uN rfl rfl rfl)<|
     .c (uN rfl rfl rfl)<|
     .c (uN rfl rfl rfl)<|
     .c (uN rfl rfl rfl)<|
     .c (uPF rfl rfl)<|
     .c (uA rfl)<|.nil rfl
    ) ?_
    exact ⟨false,(sJ h8),.w (wkF ⟨wD rfl,trivial⟩ trivial qd)⟩
   refine cwR (
    .c (uM rfl)<|
    .c (uB rfl (qD4 _ _) rfl)<|
    .c (uM rfl)<|
    .c (o_mv rfl rfl (.yes rfl rfl hc0) rfl)<|
    .c (qc rfl rfl (.yes rfl rfl hc0) rfl rfl (q31 _ _) rfl)<|
    .c (uPT rfl hc0)<|
    .c (uM rfl)<|
    .c (o_mv rfl rfl (.yes rfl rfl hc1) rfl)<|
    .c (qc rfl rfl (.yes rfl rfl hc1) rfl rfl (qD4 _ _) rfl)<|
    .c (uPT rfl hc1)<|
    .c (uM rfl)<|
    .c (uN rfl rfl hc2)<|
    .c (uN rfl rfl hc2)<|
    .c (uPF rfl hc2)<|
    .c (uM rfl)<|
    .c (uN rfl rfl rfl)<|
    .c (uN rfl rfl rfl)<|
    .c (uPF rfl rfl)<|
    .c (uM rfl)<|
    .c (uN rfl rfl rfl)<|
    .c (uN rfl rfl rfl)<|
    .c (uN rfl rfl rfl)<|
    .c (uN rfl rfl rfl)<|
    .c (uPF rfl rfl)<|
    .c (uA rfl)<|.nil rfl
   ) ?_
   exact ⟨false,(sJ h6),.w (wkF ⟨wD rfl,trivial⟩ trivial qd)⟩
  refine cwR (
   .c (uM rfl)<|
   .c (uB rfl (qD4 _ _) rfl)<|
   .c (uM rfl)<|
   .c (o_mv rfl rfl (.yes rfl rfl hc0) rfl)<|
   .c (qc rfl rfl (.yes rfl rfl hc0) rfl rfl (q31 _ _) rfl)<|
   .c (uPT rfl hc0)<|
   .c (uM rfl)<|
   .c (uN rfl rfl hc1)<|
   .c (uN rfl rfl hc1)<|
   .c (uPF rfl hc1)<|
   .c (uM rfl)<|
   .c (uN rfl rfl rfl)<|
   .c (uN rfl rfl rfl)<|
   .c (uPF rfl rfl)<|
   .c (uM rfl)<|
   .c (uN rfl rfl rfl)<|
   .c (uN rfl rfl rfl)<|
   .c (uPF rfl rfl)<|
   .c (uM rfl)<|
   .c (uN rfl rfl rfl)<|
   .c (uN rfl rfl rfl)<|
   .c (uN rfl rfl rfl)<|
   .c (uN rfl rfl rfl)<|
   .c (uPF rfl rfl)<|
   .c (uA rfl)<|.nil rfl
  ) ?_
  exact ⟨false,(sJ h4),.w (wkF ⟨wD rfl,trivial⟩ trivial qd)⟩
 refine cwR (
  .c (uM rfl)<|
  .c (uB rfl (qD4 _ _) rfl)<|
  .c (uM rfl)<|
  .c (uN rfl rfl hc0)<|
  .c (uN rfl rfl hc0)<|
  .c (uPF rfl hc0)<|
  .c (uM rfl)<|
  .c (uN rfl rfl rfl)<|
  .c (uN rfl rfl rfl)<|
  .c (uPF rfl rfl)<|
  .c (uM rfl)<|
  .c (uN rfl rfl rfl)<|
  .c (uN rfl rfl rfl)<|
  .c (uPF rfl rfl)<|
  .c (uM rfl)<|
  .c (uN rfl rfl rfl)<|
  .c (uN rfl rfl rfl)<|
  .c (uPF rfl rfl)<|
  .c (uM rfl)<|
  .c (uN rfl rfl rfl)<|
  .c (uN rfl rfl rfl)<|
  .c (uN rfl rfl rfl)<|
  .c (uN rfl rfl rfl)<|
  .c (uPF rfl rfl)<|
  .c (uA rfl)<|.nil rfl
 ) ?_
 exact ⟨false,(sJ h2),.w (wkF ⟨wD rfl,trivial⟩ trivial qd)⟩
theorem ref13_put_ok {a0 : WwT} {a1 : Int} {a2 : Int} {a3 : ByteArray} {r : WwT} (h : qd1 a0 a1 a2 a3 = some r) : FnOk Tryz.prog 49 [.ptr 0 0,.d (eint a1),.d (eint a2),.d (eStr a3)] 1 (lk [(0,.own (oRV a0))]) (fun rr oo => rr = .tup [] ∧ oo = lk [(0,.own (oRV r))]) := by
 refine fnO Tryz.func49 rfl rfl (cwP ?_)
 unfold qd1 at h
 have ⟨o0,hj0,h0⟩ := bdS h
 refine qV4 (fun (z : WwT) => St.of [] [(0,.own (oRV z))]) (fun (z : WwT) => o0 = z) ?_ ?_
 ·intro v0 hv0; subst hv0
  have heq := ((sJ h0)).symm
  subst heq
  exact ⟨_,(show Leads _ _ (St.of [] [(0,.own (oRV o0))]) from .w (wkF trivial ⟨.own rfl (.of_eq rfl (oRV_d _)),trivial⟩ (qq rfl))),.inl rfl,_,res0 rfl,rfl,rfl⟩
 have ⟨x0,hx0,h1⟩ := bdS (x := qD a1 a2) hj0
 refine cwS (cwR (
  .c (uM rfl)<|
  .c (uM rfl)<|
  .c (qj rfl rfl .no Tryz.func46 rfl rfl (qY0 hx0) (.cons rfl .d (.cons rfl .d .nil)) ⟨trivial,trivial,trivial⟩ (.inl rfl))<|
  .c (uM rfl)<|
  .c (uE rfl)<|
  .c (uE rfl)<|
  .c (qm 1 rfl rfl .no ze39 rfl)<|
  .c (uS [] rfl sz39 rfl)<|
  .c (uA rfl)<|.nil rfl) ?_)
 have ⟨x1,hx1,h2⟩ := bdS (x := qv1 a3) h1
 refine cwS (cwR (
  .c (uM rfl)<|
  .c (qj rfl rfl .no Tryz.func53 rfl rfl (ref11_Trim_ok hx1) (.cons rfl .d .nil) ⟨trivial,trivial⟩ (.inl rfl))<|
  .c (uA rfl)<|.nil rfl) ?_)
 refine cwS (cwR (
  .c (uM rfl)<|
  .c (qc rfl rfl .no rfl rfl (qd5 _ _) rfl)<|.nil rfl) ?_)
 rcases cdS h2 with ⟨hc0,h3⟩ | ⟨hc0,h4⟩
 ·refine cwT rfl hc0 ?_
  have ⟨x2,hx2,h5⟩ := bdS (x := q90 a0 x0.1) h3
  refine cwR (
   .c (uM rfl)<|
   .c (uL [] rfl ta39 rfl)<|
   .c (qC (fun _ => 0) rfl rfl .no Tryz.func85 rfl rfl (qX3 hx2) (.cons rfl (.p rfl) (.cons rfl .d .nil)) (q60 rfl ⟨(by simp [AV.live,lk,Nat.beq]),trivial,trivial⟩ rfl (OD.dat_live (oRV_d _)) (by simp)) (.inl rfl))<|.nil rfl
  ) ?_
  exact ⟨x2,(sJ h5),.w (wkF trivial ⟨.own rfl (.of_eq rfl (oRV_d _)),trivial⟩ (qq rfl))⟩
 refine cwF rfl hc0 ?_
 have ⟨x3,hx3,h6⟩ := bdS (x := qZ0 a0 x0.1 x1) h4
 refine cwR (
  .c (uM rfl)<|
  .c (uL [] rfl ta39 rfl)<|
  .c (uM rfl)<|
  .c (qC (fun _ => 0) rfl rfl .no Tryz.func86 rfl rfl (ref12_View_Put_ok hx3) (.cons rfl (.p rfl) (.cons rfl .d (.cons rfl .d .nil))) (q60 rfl ⟨(by simp [AV.live,lk,Nat.beq]),trivial,trivial,trivial⟩ rfl (OD.dat_live (oRV_d _)) (by simp)) (.inl rfl))<|.nil rfl
 ) ?_
 exact ⟨x3.2,(sJ h6),.w (wkF trivial ⟨.own rfl (.of_eq rfl (oRV_d _)),trivial⟩ (qq rfl))⟩
theorem ref13_span_okc {a0 : Int} {a1 : Int} {a2 : Int} {r : (B8 × B8 × Bool)} (h : qa2 a0 a1 a2 = some r) : FnOk Tryz.prog 54 [.d (eint a0),.d (eint a1),.d (eint a2)] 0 (lk []) (fun rr oo => rr = .d (eSp r) ∧ oo = lk [(0,.box (.d (eSp r)))]) := by
 refine fnO Tryz.func54 rfl rfl (cwP ?_)
 unfold qa2 at h
 refine cwS (cwR (
  .c (qm 0 rfl rfl .no ze41 rfl)<|.nil rfl) ?_)
 have ⟨x0,hx0,h0⟩ := bdS (x := qD a0 a1) h
 refine cwS (cwR (
  .c (uM rfl)<|
  .c (uM rfl)<|
  .c (qj rfl rfl .no Tryz.func46 rfl rfl (qY0 hx0) (.cons rfl .d (.cons rfl .d .nil)) ⟨trivial,trivial,trivial⟩ (.inl rfl))<|
  .c (uM rfl)<|
  .c (uE rfl)<|
  .c (uE rfl)<|
  .c (qm 1 rfl rfl .no ze39 rfl)<|
  .c (uS [] rfl sz39 rfl)<|
  .c (uA rfl)<|.nil rfl) ?_)
 have ⟨x1,hx1,h1⟩ := bdS (x := qD a0 (IntKind.wrap .i64 (a2 + 1))) h0
 refine cwS (cwR (
  .c (uM rfl)<|
  .c (uM rfl)<|
  .c (uB rfl (q61 _ _) rfl)<|
  .c (qj rfl rfl .no Tryz.func46 rfl rfl (qY0 hx1) (.cons rfl .d (.cons rfl .d .nil)) ⟨trivial,trivial,trivial⟩ (.inl rfl))<|
  .c (uM rfl)<|
  .c (uE rfl)<|
  .c (uE rfl)<|
  .c (qm 2 rfl rfl .no ze39 rfl)<|
  .c (uS [] rfl sz39 rfl)<|
  .c (uA rfl)<|.nil rfl) ?_)
 refine cwS (cwR (
  .c (uL [] rfl ta39 rfl)<|
  .c (uL [] rfl ta39 rfl)<|
  .c (qL4 (ds := [eK x0.1,eK x1.1,qz false]) rfl rfl .no zs41 rfl pl41 (.cons rfl rfl rfl rfl rfl rfl rfl (.cons rfl rfl rfl rfl rfl rfl rfl .nil)))<|
  .c (uS [] rfl sz41 rfl)<|.nil rfl) ?_)
 have heq := ((sJ h1)).symm
 subst heq
 exact qe ⟨_,(show Leads _ _ (St.of [(6,.ptr 0 0)] [(0,.box (.d (eSp (x0.1,x1.1,false))))]) from .w (wkF ⟨⟨_,rfl,.ptr rfl rfl⟩,trivial⟩ ⟨.box rfl (.d rfl),trivial⟩ qd)),.inr rfl,_,resC rfl rfl rfl ta41 rfl rfl,rfl,rfl⟩
theorem ref13_span_ok {a0 : Int} {a1 : Int} {a2 : Int} {r : (B8 × B8 × Bool)} (h : qa2 a0 a1 a2 = some r) : FnOk Tryz.prog 54 [.d (eint a0),.d (eint a1),.d (eint a2)] 0 (lk []) (fun rr oo => rr = .d (eSp r) ∧ oo = lk []) := qD0 (ref13_span_okc h)
theorem ref13_Read_ok {a0 : WwT} {a1 : Int} {a2 : Int} {a3 : Int} {r : (ByteArray × Int × WwT)} (h : qb1 a0 a1 a2 a3 = some r) : FnOk Tryz.prog 21 [.ptr 0 0,.d (eint a1),.d (eint a2),.d (eint a3)] 1 (lk [(0,.own (oRV a0))]) (fun rr oo => rr = .tup [.d (eStr r.1),.d (eErr r.2.1)] ∧ oo = lk [(0,.own (oRV r.2.2))]) := by
 refine fnO Tryz.func21 rfl rfl (cwP ?_)
 unfold qb1 at h
 refine cwS (cwR (
  .c (uA rfl)<|
  .c (uA rfl)<|.nil rfl) ?_)
 refine cwS ?_
 have ⟨x0,hx0,h0⟩ := bdS (x := qF1 a1 a2 a3) h
 refine cwS (cwR (
  .c (uM rfl)<|
  .c (uM rfl)<|
  .c (uM rfl)<|
  .c (qj rfl rfl .no Tryz.func45 rfl rfl (qP3 hx0) (.cons rfl .d (.cons rfl .d (.cons rfl .d .nil))) ⟨trivial,trivial,trivial,trivial⟩ (.inl rfl))<|
  .c (uT rfl)<|.nil rfl) ?_)
 rcases cdS h0 with ⟨hc0,h1⟩ | ⟨hc0,h2⟩
 ·refine cwT rfl hc0 ?_
  refine cwS (cwR (
   .c (uA rfl)<|
   .c (uA rfl)<|.nil rfl) ?_)
  have heq := ((sJ h1)).symm
  subst heq
  exact qe ⟨_,(show Leads _ _ (St.of [(8,.d (eStr (ByteArray.mk #[]))),(9,.d (eErr 1))] [(0,.own (oRV a0))]) from .w (wkF ⟨wD rfl,wD rfl,trivial⟩ ⟨.own rfl (.of_eq rfl (oRV_d _)),trivial⟩ (qq rfl))),.inr rfl,_,res2 rfl rfl rfl,rfl,rfl⟩
 refine cwF rfl hc0 ?_
 refine cwK ?_
 refine cwS ?_
 refine cwS (cwR (
  .c (uM rfl)<|
  .c (uB rfl (q43 _ _) rfl)<|.nil rfl) ?_)
 rcases cdS h2 with ⟨hc1,h3⟩ | ⟨hc1,h4⟩
 ·refine cwT rfl hc1 ?_
  refine cwS (cwR (
   .c (uA rfl)<|
   .c (uA rfl)<|.nil rfl) ?_)
  have heq := ((sJ h3)).symm
  subst heq
  exact qe ⟨_,(show Leads _ _ (St.of [(8,.d (eStr (ByteArray.mk #[]))),(9,.d (eErr 0))] [(0,.own (oRV a0))]) from .w (wkF ⟨wD rfl,wD rfl,trivial⟩ ⟨.own rfl (.of_eq rfl (oRV_d _)),trivial⟩ (qq rfl))),.inr rfl,_,res2 rfl rfl rfl,rfl,rfl⟩
 refine cwF rfl hc1 ?_
 refine cwK ?_
 refine cwS (cwR (
  .c (uM rfl)<|
  .c (uB rfl (b_quo _ _ (by decide)) rfl)<|
  .c (uA rfl)<|.nil rfl) ?_)
 refine cwS (cwR (
  .c (uM rfl)<|
  .c (uM rfl)<|
  .c (uB rfl (q61 _ _) rfl)<|
  .c (uB rfl (qy4 _ _) rfl)<|
  .c (uB rfl (b_quo _ _ (by decide)) rfl)<|
  .c (uA rfl)<|.nil rfl) ?_)
 have ⟨x1,hx1,h5⟩ := bdS (x := qa2 a1 (IntKind.wrap .i64 (Int.tdiv a2 32)) (IntKind.wrap .i64 (Int.tdiv (IntKind.wrap .i64 ((IntKind.wrap .i64 (a2 + a3)) - 1)) 32))) h4
 have ⟨x2,hx2,h6⟩ := bdS (x := q30 a0 x1) h5
 refine cwS (cwR (
  .c (uM rfl)<|
  .c (uM rfl)<|
  .c (uM rfl)<|
  .c (uM rfl)<|
  .c (qj rfl rfl .no Tryz.func54 rfl rfl (ref13_span_ok hx1) (.cons rfl .d (.cons rfl .d (.cons rfl .d .nil))) ⟨trivial,trivial,trivial,trivial⟩ (.inl rfl))<|
  .c (qC (fun _ => 0) rfl rfl .no Tryz.func50 rfl rfl (qF2 hx2) (.cons rfl (.p rfl) (.cons rfl .d .nil)) (q60 rfl ⟨(by simp [AV.live,lk,Nat.beq]),trivial,trivial⟩ rfl (OD.dat_live (oRV_d _)) (by simp)) (.inl rfl))<|
  .c (uA rfl)<|.nil rfl) ?_)
 have ⟨x3,hx3,h7⟩ := bdS h6
 have hx3g := qK hx3
 refine cwS (cwR (
  .c (uM rfl)<|
  .c (uM rfl)<|
  .c (uB rfl (qy4 _ _) rfl)<|
  .c (uB rfl (q61 _ _) rfl)<|
  .c (uB rfl (b_mul _ _) rfl)<|
  .c (o_mksl (n := (IntKind.wrap .i64 ((IntKind.wrap .i64 ((IntKind.wrap .i64 ((IntKind.wrap .i64 (Int.tdiv (IntKind.wrap .i64 ((IntKind.wrap .i64 (a2 + a3)) - 1)) 32)) - (IntKind.wrap .i64 (Int.tdiv a2 32)))) + 1)) * 32))) 1 rfl rfl .no rfl rfl sl26 sz5 by5 zb5 hx3g rfl)<|
  .c (uA rfl)<|.nil rfl) ?_)
 have ⟨o0,hj0,h8⟩ := bdS h7
 refine cwJ (fun (z : B8) => St.of [(2,.d (eint a2)),(3,.d (eint a3)),(10,.d (eint (IntKind.wrap .i64 (Int.tdiv a2 32)))),(13,.arr 1 0)] [(0,.own (oRV x2.2)),(1,.arr 0 1 (z.map u8D))]) (fun (z : B8) => o0 = z) ?_ ?_
 ·intro v0 hv0; subst hv0
  refine cwS (cwR (
   .c (uM rfl)<|
   .c (uM rfl)<|
   .c (uB rfl (b_mul _ _) rfl)<|
   .c (uB rfl (qy4 _ _) rfl)<|
   .c (uA rfl)<|.nil rfl) ?_)
  refine cwW (wkF (l := [(3,.d (eint a3)),(13,.d (qS3 o0)),(17,.d (eint (IntKind.wrap .i64 (a2 - (IntKind.wrap .i64 ((IntKind.wrap .i64 (Int.tdiv a2 32)) * 32))))))]) (m := [(0,.own (oRV x2.2))]) ⟨wD rfl,⟨_,rfl,.frz rfl rfl rfl⟩,wD rfl,trivial⟩ ⟨.own rfl (.of_eq rfl (oRV_d _)),trivial⟩ (qq rfl)) ?_
  have ⟨x4,hx4,h9⟩ := bdS h8
  have hx4g := qE hx4
  refine cwS (cwR (
   .c (uM rfl)<|
   .c (uM rfl)<|
   .c (uM rfl)<|
   .c (uM rfl)<|
   .c (uB rfl (q61 _ _) rfl)<|
   .c (o_slM (enc := u8D) (xs := o0) rfl rfl .no rfl sl26 sz5 (.val rfl hx4g.1) (.val rfl hx4g.2.1) hx4g.2.2.1 hx4g.2.2.2)<|
   .c (o_cvD rfl rfl .no rfl sl26 un5 un9)<|
   .c (uA rfl)<|
   .c (uA rfl)<|.nil rfl) ?_)
  have heq := ((sJ h9)).symm
  subst heq
  exact qe ⟨_,(show Leads _ _ (St.of [(8,.d (eStr (qi1 (qm0 o0 (IntKind.wrap .i64 (a2 - (IntKind.wrap .i64 ((IntKind.wrap .i64 (Int.tdiv a2 32)) * 32)))) (IntKind.wrap .i64 ((IntKind.wrap .i64 (a2 - (IntKind.wrap .i64 ((IntKind.wrap .i64 (Int.tdiv a2 32)) * 32)))) + a3)))))),(9,.d (eErr 0))] [(0,.own (oRV x2.2))]) from .w (wkF ⟨wD rfl,wD rfl,trivial⟩ ⟨.own rfl (.of_eq rfl (oRV_d _)),trivial⟩ (qq rfl))),.inr rfl,_,res2 rfl rfl rfl,rfl,rfl⟩
 refine cwS (cwR (
  .c (uA rfl)<|.nil rfl) ?_)
 refine cwB ?_
 refine qr (V := (Int × B8)) (O := B8) (fun (z : (Int × B8)) => St.of [(2,.d (eint a2)),(3,.d (eint a3)),(10,.d (eint (IntKind.wrap .i64 (Int.tdiv a2 32)))),(12,.d (eSP_ x2.1)),(13,.arr 1 0),(14,.d (eint z.1))] [(0,.own (oRV x2.2)),(1,.arr 0 1 (z.2.map u8D))]) hj0 (.w (wkF ⟨wD rfl,wD rfl,wD rfl,wD rfl,⟨_,rfl,.arr rfl rfl⟩,wD rfl,trivial⟩ ⟨.own rfl (.of_eq rfl (oRV_d _)),.arr rfl rfl,trivial⟩ (qq rfl))) ?_
 intro v1 x5 hb0 hx5
 refine cwS ?_
 refine cwS (cwR (
  .c (uM rfl)<|
  .c (uM rfl)<|
  .c (qo0 (enc := ePr) (xs := x2.1) rfl rfl .no rfl sl35)<|
  .c (uB rfl (q31 _ _) rfl)<|.nil rfl) ?_)
 rcases cdS hb0 with ⟨hc2,h10⟩ | ⟨hc2,h11⟩
 ·refine cwT rfl hc2 ?_
  refine cwK ?_
  refine cwS ?_
  refine cwB ?_
  have ⟨x6,hx6,h12⟩ := bdS h10
  have hx6g := qn hx6
  have ⟨x7,hx7,h13⟩ := bdS (x := qE1 x6.1) h12
  refine cwS (cwR (
   .c (uM rfl)<|
   .c (uM rfl)<|
   .c (qZ1 (enc := ePr) (xs := x2.1) rfl rfl .no rfl rfl sl35 sz47 hx6g.1 hx6g.2)<|
   .c (qT4 rfl rfl .no rfl qK3 (by decide) rfl rfl)<|
   .c (o_ld rfl rfl .no rfl ta39 rfl rfl)<|
   .c (qj rfl rfl .no Tryz.func52 rfl rfl (ref03_Of_ok hx7) (.cons rfl .d .nil) ⟨trivial,trivial⟩ (.inl rfl))<|
   .c (uM rfl)<|
   .c (uE rfl)<|
   .c (uE rfl)<|
   .c (qm 2 rfl rfl .no ze104 rfl)<|
   .c (uS [] rfl sz104 rfl)<|
   .c (uA rfl)<|.nil rfl) ?_)
  have ⟨x8,hx8,h14⟩ := bdS h13
  have hx8g := qK hx8
  refine cwRA mixed (by kernel_rfl) (
   .c (uM rfl)<|
   .c (uF rfl fld104_3 rfl)<|
   .c (uL [3] rfl ta3 rfl)<|
   .c (uM rfl)<|
   .c (uB rfl (qy4 _ _) rfl)<|
   .c (uB rfl (b_mul _ _) rfl)<|
   .c (o_tailM (enc := u8D) (xs := v1.2) rfl rfl .no rfl rfl rfl sl26 sz5 hx8g.1 hx8g.2)<|
   .c (uM rfl)<|
   .c (uM rfl)<|
   .c (qZ1 (enc := ePr) (xs := x2.1) rfl rfl .no rfl rfl sl35 sz47 hx6g.1 hx6g.2)<|
   .c (qT4 rfl rfl .no rfl qm3 (by decide) rfl rfl)<|
   .c (o_ld rfl rfl .no rfl ta9 rfl rfl)<|
   .c (o_cpA (xs := v1.2) rfl rfl .no rfl rfl rfl sl26 sz5 hx8g.2)<|.nil rfl) (by kernel_rfl) ?_
  refine cwR (
   .c (uM rfl)<|
   .c (uB rfl (q61 _ _) rfl)<|
   .c (uA rfl)<|.nil rfl
  ) ?_
  exact ⟨((IntKind.wrap .i64 (v1.1 + 1)),(List.take (IntKind.wrap .i64 ((IntKind.wrap .i64 (x7.1.2.2.2 - (IntKind.wrap .i64 (Int.tdiv a2 32)))) * 32)).toNat v1.2 ++ cpB (List.drop (IntKind.wrap .i64 ((IntKind.wrap .i64 (x7.1.2.2.2 - (IntKind.wrap .i64 (Int.tdiv a2 32)))) * 32)).toNat v1.2) x6.2.data.toList)),(sJ h14),.w (wkF ⟨wD rfl,wD rfl,wD rfl,wD rfl,⟨_,rfl,.arr rfl rfl⟩,wD rfl,trivial⟩ ⟨.own rfl (.of_eq rfl (oRV_d _)),.arr rfl rfl,trivial⟩ (qq rfl))⟩
 refine cwF rfl hc2 ?_
 refine qG ?_
 exact ⟨v1.2,(hx5 _ (sJ h11)).symm,.w (wkF ⟨wD rfl,wD rfl,wD rfl,⟨_,rfl,.arr rfl rfl⟩,trivial⟩ ⟨.own rfl (.of_eq rfl (oRV_d _)),.arr rfl rfl,trivial⟩ (qq rfl))⟩
theorem ref13_Write_ok {a0 : WwT} {a1 : Int} {a2 : Int} {a3 : ByteArray} {r : (Int × WwT)} (h : qB0 a0 a1 a2 a3 = some r) : FnOk Tryz.prog 19 [.ptr 0 0,.d (eint a1),.d (eint a2),.d (eStr a3)] 1 (lk [(0,.own (oRV a0))]) (fun rr oo => rr = .d (eErr r.1) ∧ oo = lk [(0,.own (oRV r.2))]) := by
 refine fnO Tryz.func19 rfl rfl (cwP ?_)
 unfold qB0 at h
 refine cwS (cwR (
  .c (uA rfl)<|.nil rfl) ?_)
 refine cwS ?_
 have ⟨x0,hx0,h0⟩ := bdS (x := qF1 a1 a2 (a3.size : Int)) h
 refine cwS (cwR (
  .c (uM rfl)<|
  .c (uM rfl)<|
  .c (uM rfl)<|
  .c (qa3 rfl rfl .no rfl un9)<|
  .c (qj rfl rfl .no Tryz.func45 rfl rfl (qP3 hx0) (.cons rfl .d (.cons rfl .d (.cons rfl .d .nil))) ⟨trivial,trivial,trivial,trivial⟩ (.inl rfl))<|
  .c (uT rfl)<|.nil rfl) ?_)
 rcases cdS h0 with ⟨hc0,h1⟩ | ⟨hc0,h2⟩
 ·refine cwT rfl hc0 ?_
  refine cwS (cwR (
   .c (uA rfl)<|.nil rfl) ?_)
  have heq := ((sJ h1)).symm
  subst heq
  exact qe ⟨_,(show Leads _ _ (St.of [(8,.d (eErr 1))] [(0,.own (oRV a0))]) from .w (wkF ⟨wD rfl,trivial⟩ ⟨.own rfl (.of_eq rfl (oRV_d _)),trivial⟩ (qq rfl))),.inr rfl,_,res1 rfl rfl,rfl,rfl⟩
 refine cwF rfl hc0 ?_
 refine cwK ?_
 have ⟨o0,hj0,h3⟩ := bdS h2
 refine cwJ (fun (z : WwT) => St.of [] [(0,.own (oRV z))]) (fun (z : WwT) => o0 = z) ?_ ?_
 ·intro v0 hv0; subst hv0
  refine cwS (cwR (
   .c (uA rfl)<|.nil rfl) ?_)
  have heq := ((sJ h3)).symm
  subst heq
  exact qe ⟨_,(show Leads _ _ (St.of [(8,.d (eErr 0))] [(0,.own (oRV o0))]) from .w (wkF ⟨wD rfl,trivial⟩ ⟨.own rfl (.of_eq rfl (oRV_d _)),trivial⟩ (qq rfl))),.inr rfl,_,res1 rfl rfl,rfl,rfl⟩
 refine cwB ?_
 refine qr (V := (Int × ByteArray × WwT)) (O := WwT) (fun (z : (Int × ByteArray × WwT)) => St.of [(0,.ptr 0 0),(1,.d (eint a1)),(2,.d (eint z.1)),(3,.d (eStr z.2.1))] [(0,.own (oRV z.2.2))]) hj0 (.w (wkF ⟨⟨_,rfl,.ptro rfl rfl⟩,wD rfl,wD rfl,wD rfl,trivial⟩ ⟨.own rfl (.of_eq rfl (oRV_d _)),trivial⟩ (qq rfl))) ?_
 intro v1 x1 hb0 hx1
 refine cwS ?_
 refine cwS (cwR (
  .c (uM rfl)<|
  .c (qc rfl rfl .no rfl rfl (s_neq _ _) rfl)<|.nil rfl) ?_)
 rcases cdS hb0 with ⟨hc1,h4⟩ | ⟨hc1,h5⟩
 ·refine cwT rfl hc1 ?_
  refine cwK ?_
  refine cwB ?_
  refine cwS (cwR (
   .c (uM rfl)<|
   .c (uB rfl (b_quo _ _ (by decide)) rfl)<|
   .c (uA rfl)<|.nil rfl) ?_)
  refine cwS (cwR (
   .c (uM rfl)<|
   .c (uB rfl (b_rem _ _ (by decide)) rfl)<|
   .c (uA rfl)<|.nil rfl) ?_)
  refine cwS (cwR (
   .c (uM rfl)<|
   .c (qa3 rfl rfl .no rfl un9)<|
   .c (uM rfl)<|
   .c (uB rfl (qy4 _ _) rfl)<|
   .c (o_min rfl rfl .no rfl rfl)<|
   .c (uA rfl)<|.nil rfl) ?_)
  have ⟨x2,hx2,h6⟩ := bdS h4
  have hx2g := qE hx2
  refine cwS (cwR (
   .c (uM rfl)<|
   .c (uM rfl)<|
   .c (qg5 rfl rfl .no rfl un9 .no (.val rfl hx2g.2.1) hx2g.2.2.1 hx2g.2.2.2)<|
   .c (uA rfl)<|.nil rfl) ?_)
  have ⟨o1,hj1,h7⟩ := bdS h6
  refine cwJ (fun (z : (ByteArray × WwT)) => St.of [(0,.ptr 0 0),(1,.d (eint a1)),(2,.d (eint v1.1)),(3,.d (eStr v1.2.1)),(9,.d (eint (IntKind.wrap .i64 (Int.tdiv v1.1 32)))),(11,.d (eint (min (v1.2.1.size : Int) (IntKind.wrap .i64 (32 - (Int.tmod v1.1 32)))))),(12,.d (eStr z.1))] [(0,.own (oRV z.2))]) (fun (z : (ByteArray × WwT)) => o1 = z) ?_ ?_
  ·intro v2 hv1; subst hv1
   have ⟨x3,hx3,h8⟩ := bdS (x := qd1 o1.2 a1 (IntKind.wrap .i64 (Int.tdiv v1.1 32)) o1.1) h7
   refine cwS (cwR (
    .c (uM rfl)<|
    .c (uM rfl)<|
    .c (uM rfl)<|
    .c (uM rfl)<|
    .c (qC (fun _ => 0) rfl rfl .no Tryz.func49 rfl rfl (ref13_put_ok hx3) (.cons rfl (.p rfl) (.cons rfl .d (.cons rfl .d (.cons rfl .d .nil)))) (q60 rfl ⟨(by simp [AV.live,lk,Nat.beq]),trivial,trivial,trivial,trivial⟩ rfl (OD.dat_live (oRV_d _)) (by simp)) (.inl rfl))<|.nil rfl) ?_)
   refine cwS (cwR (
    .c (uM rfl)<|
    .c (uM rfl)<|
    .c (uB rfl (q61 _ _) rfl)<|
    .c (uA rfl)<|.nil rfl) ?_)
   have ⟨x4,hx4,h9⟩ := bdS h8
   have hx4g := qE hx4
   refine cwR (
    .c (uM rfl)<|
    .c (uM rfl)<|
    .c (qg5 rfl rfl .no rfl un9 (.val rfl hx4g.1) .no hx4g.2.2.1 hx4g.2.2.2)<|
    .c (uA rfl)<|.nil rfl
   ) ?_
   exact ⟨((IntKind.wrap .i64 (v1.1 + (min (v1.2.1.size : Int) (IntKind.wrap .i64 (32 - (Int.tmod v1.1 32)))))),(v1.2.1.extract (min (v1.2.1.size : Int) (IntKind.wrap .i64 (32 - (Int.tmod v1.1 32)))).toNat (v1.2.1.size : Int).toNat),x3),(sJ h9),.w (wkF ⟨⟨_,rfl,.ptro rfl rfl⟩,wD rfl,wD rfl,wD rfl,trivial⟩ ⟨.own rfl (.of_eq rfl (oRV_d _)),trivial⟩ (qq rfl))⟩
  refine cwS (cwR (
   .c (uM rfl)<|
   .c (uB rfl (q31 _ _) rfl)<|.nil rfl) ?_)
  rcases cdS hj1 with ⟨hc2,h10⟩ | ⟨hc2,h11⟩
  ·refine cwT rfl hc2 ?_
   have ⟨x5,hx5,h12⟩ := bdS (x := qD a1 (IntKind.wrap .i64 (Int.tdiv v1.1 32))) h10
   refine cwS (cwR (
    .c (uM rfl)<|
    .c (uM rfl)<|
    .c (qj rfl rfl .no Tryz.func46 rfl rfl (qY0 hx5) (.cons rfl .d (.cons rfl .d .nil)) ⟨trivial,trivial,trivial⟩ (.inl rfl))<|
    .c (uM rfl)<|
    .c (uE rfl)<|
    .c (uE rfl)<|
    .c (qm 1 rfl rfl .no ze39 rfl)<|
    .c (uS [] rfl sz39 rfl)<|
    .c (uA rfl)<|.nil rfl) ?_)
   have ⟨x6,hx6,h13⟩ := bdS (x := qZ v1.2.2 x5.1) h12
   refine cwS (cwR (
    .c (uM rfl)<|
    .c (uL [] rfl ta39 rfl)<|
    .c (qC (fun _ => 0) rfl rfl .no Tryz.func47 rfl rfl (ref12_View_Get_ok hx6) (.cons rfl (.p rfl) (.cons rfl .d .nil)) (q60 rfl ⟨(by simp [AV.live,lk,Nat.beq]),trivial,trivial⟩ rfl (OD.dat_live (oRV_d _)) (by simp)) (.inl rfl))<|
    .c (uM rfl)<|
    .c (uE rfl)<|
    .c (uE rfl)<|
    .c (uA rfl)<|
    .c (uA rfl)<|.nil rfl) ?_)
   have ⟨x7,hx7,h14⟩ := bdS (x := qM1 x6.1) h13
   refine cwS (cwR (
    .c (uM rfl)<|
    .c (qj rfl rfl .no Tryz.func48 rfl rfl (ref11_Full_ok hx7) (.cons rfl .d .nil) ⟨trivial,trivial⟩ (.inl rfl))<|
    .c (uA rfl)<|.nil rfl) ?_)
   have ⟨x8,hx8,h15⟩ := bdS h14
   have hx8g := qE hx8
   have ⟨x9,hx9,h16⟩ := bdS h15
   have hx9g := qK hx9
   have ⟨x10,hx10,h17⟩ := bdS h16
   have hx10g := qE hx10
   have ⟨x11,hx11,h18⟩ := bdS h17
   have hx11g := qK hx11
   refine cwRA mixed (by kernel_rfl) (
    .c (uM rfl)<|
    .c (uM rfl)<|
    .c (qg5 rfl rfl .no rfl un9 .no (.val rfl hx8g.2.1) hx8g.2.2.1 hx8g.2.2.2)<|
    .c (uM rfl)<|
    .c (uM rfl)<|
    .c (qg5 rfl rfl .no rfl un9 .no (.val rfl hx2g.2.1) hx2g.2.2.1 hx2g.2.2.2)<|
    .c (qc rfl rfl .no rfl rfl (s_add _ _ hx9g) rfl)<|
    .c (uM rfl)<|
    .c (uM rfl)<|
    .c (uM rfl)<|
    .c (uB rfl (q61 _ _) rfl)<|
    .c (qg5 rfl rfl .no rfl un9 (.val rfl hx10g.1) .no hx10g.2.2.1 hx10g.2.2.2)<|
    .c (qc rfl rfl .no rfl rfl (s_add _ _ hx11g) rfl)<|
    .c (uA rfl)<|.nil rfl) (by kernel_rfl) ?_
   exact ⟨((((x7.extract 0 (Int.tmod v1.1 32).toNat) ++ (v1.2.1.extract 0 (min (v1.2.1.size : Int) (IntKind.wrap .i64 (32 - (Int.tmod v1.1 32)))).toNat)) ++ (x7.extract (IntKind.wrap .i64 ((Int.tmod v1.1 32) + (min (v1.2.1.size : Int) (IntKind.wrap .i64 (32 - (Int.tmod v1.1 32)))))).toNat (x7.size : Int).toNat)),x6.2.2),(sJ h18),.w (wkF ⟨⟨_,rfl,.ptro rfl rfl⟩,wD rfl,wD rfl,wD rfl,wD rfl,wD rfl,wD rfl,trivial⟩ ⟨.own rfl (.of_eq rfl (oRV_d _)),trivial⟩ (qq rfl))⟩
  refine cwF rfl hc2 ?_
  refine cwK ?_
  exact ⟨((v1.2.1.extract 0 (min (v1.2.1.size : Int) (IntKind.wrap .i64 (32 - (Int.tmod v1.1 32)))).toNat),v1.2.2),(sJ h11),.w (wkF ⟨⟨_,rfl,.ptro rfl rfl⟩,wD rfl,wD rfl,wD rfl,wD rfl,wD rfl,wD rfl,trivial⟩ ⟨.own rfl (.of_eq rfl (oRV_d _)),trivial⟩ (qq rfl))⟩
 refine cwF rfl hc1 ?_
 refine qG ?_
 exact ⟨v1.2.2,(hx1 _ (sJ h5)).symm,.w (wkF trivial ⟨.own rfl (.of_eq rfl (oRV_d _)),trivial⟩ (qq rfl))⟩
theorem ref13_Cut_ok {a0 : WwT} {a1 : Int} {a2 : Int} {r : (Int × WwT)} (h : qG1 a0 a1 a2 = some r) : FnOk Tryz.prog 20 [.ptr 0 0,.d (eint a1),.d (eint a2)] 1 (lk [(0,.own (oRV a0))]) (fun rr oo => rr = .d (eErr r.1) ∧ oo = lk [(0,.own (oRV r.2))]) := by
 refine fnO Tryz.func20 rfl rfl (cwP ?_)
 unfold qG1 at h
 refine cwS (cwR (
  .c (uA rfl)<|.nil rfl) ?_)
 refine cwS ?_
 have ⟨x0,hx0,h0⟩ := bdS (x := qF1 a1 0 a2) h
 refine cwS (cwR (
  .c (uM rfl)<|
  .c (uM rfl)<|
  .c (qj rfl rfl .no Tryz.func45 rfl rfl (qP3 hx0) (.cons rfl .d (.cons rfl .d (.cons rfl .d .nil))) ⟨trivial,trivial,trivial,trivial⟩ (.inl rfl))<|
  .c (uT rfl)<|.nil rfl) ?_)
 rcases cdS h0 with ⟨hc0,h1⟩ | ⟨hc0,h2⟩
 ·refine cwT rfl hc0 ?_
  refine cwS (cwR (
   .c (uA rfl)<|.nil rfl) ?_)
  have heq := ((sJ h1)).symm
  subst heq
  exact qe ⟨_,(show Leads _ _ (St.of [(6,.d (eErr 1))] [(0,.own (oRV a0))]) from .w (wkF ⟨wD rfl,trivial⟩ ⟨.own rfl (.of_eq rfl (oRV_d _)),trivial⟩ (qq rfl))),.inr rfl,_,res1 rfl rfl,rfl,rfl⟩
 refine cwF rfl hc0 ?_
 refine cwK ?_
 refine cwS (cwR (
  .c (uM rfl)<|
  .c (uB rfl (b_quo _ _ (by decide)) rfl)<|
  .c (uA rfl)<|.nil rfl) ?_)
 have ⟨x1,hx1,h3⟩ := bdS (x := qk1 a1 (IntKind.wrap .i64 (Int.tdiv a2 32))) h2
 have ⟨x2,hx2,h4⟩ := bdS (x := q30 a0 x1) h3
 refine cwS (cwR (
  .c (uM rfl)<|
  .c (uM rfl)<|
  .c (uM rfl)<|
  .c (qj rfl rfl .no Tryz.func51 rfl rfl (ref03_Chunks_ok hx1) (.cons rfl .d (.cons rfl .d .nil)) ⟨trivial,trivial,trivial⟩ (.inl rfl))<|
  .c (qC (fun _ => 0) rfl rfl .no Tryz.func50 rfl rfl (qF2 hx2) (.cons rfl (.p rfl) (.cons rfl .d .nil)) (q60 rfl ⟨(by simp [AV.live,lk,Nat.beq]),trivial,trivial⟩ rfl (OD.dat_live (oRV_d _)) (by simp)) (.inl rfl))<|
  .c (uA rfl)<|.nil rfl) ?_)
 have ⟨o0,hj0,h5⟩ := bdS h4
 refine cwJ (fun (z : WwT) => St.of [] [(0,.own (oRV z))]) (fun (z : WwT) => o0 = z) ?_ ?_
 ·intro v0 hv0; subst hv0
  refine cwS (cwR (
   .c (uA rfl)<|.nil rfl) ?_)
  have heq := ((sJ h5)).symm
  subst heq
  exact qe ⟨_,(show Leads _ _ (St.of [(6,.d (eErr 0))] [(0,.own (oRV o0))]) from .w (wkF ⟨wD rfl,trivial⟩ ⟨.own rfl (.of_eq rfl (oRV_d _)),trivial⟩ (qq rfl))),.inr rfl,_,res1 rfl rfl,rfl,rfl⟩
 refine cwS (cwR (
  .c (uA rfl)<|.nil rfl) ?_)
 refine cwB ?_
 refine qr (V := (Int × WwT)) (O := WwT) (fun (z : (Int × WwT)) => St.of [(0,.ptr 0 0),(1,.d (eint a1)),(2,.d (eint a2)),(7,.d (eint (IntKind.wrap .i64 (Int.tdiv a2 32)))),(8,.d (eSP_ x2.1)),(9,.d (eint z.1))] [(0,.own (oRV z.2))]) hj0 (.w (wkF ⟨⟨_,rfl,.ptro rfl rfl⟩,wD rfl,wD rfl,wD rfl,wD rfl,wD rfl,trivial⟩ ⟨.own rfl (.of_eq rfl (oRV_d _)),trivial⟩ (qq rfl))) ?_
 intro v1 x3 hb0 hx3
 refine cwS ?_
 refine cwS (cwR (
  .c (uM rfl)<|
  .c (uM rfl)<|
  .c (qo0 (enc := ePr) (xs := x2.1) rfl rfl .no rfl sl35)<|
  .c (uB rfl (q31 _ _) rfl)<|.nil rfl) ?_)
 rcases cdS hb0 with ⟨hc1,h6⟩ | ⟨hc1,h7⟩
 ·refine cwT rfl hc1 ?_
  refine cwK ?_
  have ⟨o1,hj1,h8⟩ := bdS h6
  refine cwJ (fun (z : WwT) => St.of [(0,.ptr 0 0),(1,.d (eint a1)),(2,.d (eint a2)),(7,.d (eint (IntKind.wrap .i64 (Int.tdiv a2 32)))),(8,.d (eSP_ x2.1)),(9,.d (eint v1.1))] [(0,.own (oRV z))]) (fun (z : WwT) => o1 = z) ?_ ?_
  ·intro v2 hv1; subst hv1
   refine cwR (
    .c (uM rfl)<|
    .c (uB rfl (q61 _ _) rfl)<|
    .c (uA rfl)<|.nil rfl
   ) ?_
   exact ⟨((IntKind.wrap .i64 (v1.1 + 1)),o1),(sJ h8),.w (wkF ⟨⟨_,rfl,.ptro rfl rfl⟩,wD rfl,wD rfl,wD rfl,wD rfl,wD rfl,trivial⟩ ⟨.own rfl (.of_eq rfl (oRV_d _)),trivial⟩ (qq rfl))⟩
  refine cwB ?_
  have ⟨x4,hx4,h9⟩ := bdS hj1
  have hx4g := qn hx4
  have ⟨x5,hx5,h10⟩ := bdS (x := qE1 x4.1) h9
  refine cwS (cwR (
   .c (uM rfl)<|
   .c (uM rfl)<|
   .c (qZ1 (enc := ePr) (xs := x2.1) rfl rfl .no rfl rfl sl35 sz47 hx4g.1 hx4g.2)<|
   .c (qT4 rfl rfl .no rfl qK3 (by decide) rfl rfl)<|
   .c (o_ld rfl rfl .no rfl ta39 rfl rfl)<|
   .c (qj rfl rfl .no Tryz.func52 rfl rfl (ref03_Of_ok hx5) (.cons rfl .d .nil) ⟨trivial,trivial⟩ (.inl rfl))<|
   .c (uM rfl)<|
   .c (uE rfl)<|
   .c (uE rfl)<|
   .c (qm 1 rfl rfl .no ze104 rfl)<|
   .c (uS [] rfl sz104 rfl)<|
   .c (uA rfl)<|.nil rfl) ?_)
  refine cwS (cwR (
   .c (uA rfl)<|.nil rfl) ?_)
  have ⟨o2,hj2,h11⟩ := bdS h10
  refine cwJ (fun (z : Int) => St.of [(0,.ptr 0 0),(1,.d (eint a1)),(2,.d (eint a2)),(7,.d (eint (IntKind.wrap .i64 (Int.tdiv a2 32)))),(8,.d (eSP_ x2.1)),(9,.d (eint v1.1)),(10,.ptr 1 0),(12,.d (eint z))] [(0,.own (oRV v1.2)),(1,.box (.d (qo x5.1)))]) (fun (z : Int) => o2 = z) ?_ ?_
  ·intro v3 hv2; subst hv2
   have ⟨x6,hx6,h12⟩ := bdS h11
   have hx6g := qE hx6
   have ⟨x7,hx7,h13⟩ := bdS (x := qv1 (x4.2.extract 0 (min (x4.2.size : Int) o2).toNat)) h12
   refine cwS (cwRA mixed (by kernel_rfl) (
    .c (uM rfl)<|
    .c (uM rfl)<|
    .c (qZ1 (enc := ePr) (xs := x2.1) rfl rfl .no rfl rfl sl35 sz47 hx4g.1 hx4g.2)<|
    .c (qT4 rfl rfl .no rfl qm3 (by decide) rfl rfl)<|
    .c (o_ld rfl rfl .no rfl ta9 rfl rfl)<|
    .c (uM rfl)<|
    .c (uM rfl)<|
    .c (qZ1 (enc := ePr) (xs := x2.1) rfl rfl .no rfl rfl sl35 sz47 hx4g.1 hx4g.2)<|
    .c (qT4 rfl rfl .no rfl qm3 (by decide) rfl rfl)<|
    .c (o_ld rfl rfl .no rfl ta9 rfl rfl)<|
    .c (qa3 rfl rfl .no rfl un9)<|
    .c (uM rfl)<|
    .c (o_min rfl rfl .no rfl rfl)<|
    .c (qg5 rfl rfl .no rfl un9 .no (.val rfl hx6g.2.1) hx6g.2.2.1 hx6g.2.2.2)<|
    .c (qj rfl rfl .no Tryz.func53 rfl rfl (ref11_Trim_ok hx7) (.cons rfl .d .nil) ⟨trivial,trivial⟩ (.inl rfl))<|
    .c (uA rfl)<|.nil rfl) (by kernel_rfl) ?_)
   refine cwS (cwR (
    .c (uM rfl)<|
    .c (uM rfl)<|
    .c (uM rfl)<|
    .c (qZ1 (enc := ePr) (xs := x2.1) rfl rfl .no rfl rfl sl35 sz47 hx4g.1 hx4g.2)<|
    .c (qT4 rfl rfl .no rfl qm3 (by decide) rfl rfl)<|
    .c (o_ld rfl rfl .no rfl ta9 rfl rfl)<|
    .c (qc rfl rfl .no rfl rfl (s_neq _ _) rfl)<|.nil rfl) ?_)
   rcases cdS h13 with ⟨hc2,h14⟩ | ⟨hc2,h15⟩
   ·refine cwT rfl hc2 ?_
    have ⟨x8,hx8,h16⟩ := bdS (x := qd1 v1.2 a1 x5.1.2.2.2 x7) h14
    refine cwR (
     .c (uM rfl)<|
     .c (uM rfl)<|
     .c (uF rfl fld104_3 rfl)<|
     .c (uL [3] rfl ta3 rfl)<|
     .c (uM rfl)<|
     .c (qC (fun _ => 0) rfl rfl .no Tryz.func49 rfl rfl (ref13_put_ok hx8) (.cons rfl (.p rfl) (.cons rfl .d (.cons rfl .d (.cons rfl .d .nil)))) (q60 rfl ⟨(by simp [AV.live,lk,Nat.beq]),trivial,trivial,trivial,trivial⟩ rfl (OD.dat_live (oRV_d _)) (by simp)) (.inl rfl))<|.nil rfl
    ) ?_
    exact ⟨x8,(sJ h16),.w (wkF ⟨⟨_,rfl,.ptro rfl rfl⟩,wD rfl,wD rfl,wD rfl,wD rfl,wD rfl,trivial⟩ ⟨.own rfl (.of_eq rfl (oRV_d _)),trivial⟩ (qq rfl))⟩
   refine cwF rfl hc2 ?_
   refine cwK ?_
   exact ⟨v1.2,(sJ h15),.w (wkF ⟨⟨_,rfl,.ptro rfl rfl⟩,wD rfl,wD rfl,wD rfl,wD rfl,wD rfl,trivial⟩ ⟨.own rfl (.of_eq rfl (oRV_d _)),trivial⟩ (qq rfl))⟩
  refine cwS (cwR (
   .c (uF rfl fld104_3 rfl)<|
   .c (uL [3] rfl ta3 rfl)<|
   .c (uM rfl)<|
   .c (uB rfl (q43 _ _) rfl)<|.nil rfl) ?_)
  rcases cdS hj2 with ⟨hc3,h17⟩ | ⟨hc3,h18⟩
  ·refine cwT rfl hc3 ?_
   refine cwR (
    .c (uM rfl)<|
    .c (uB rfl (b_rem _ _ (by decide)) rfl)<|
    .c (uA rfl)<|.nil rfl
   ) ?_
   exact ⟨(Int.tmod a2 32),(sJ h17),.w (wkF ⟨⟨_,rfl,.ptro rfl rfl⟩,wD rfl,wD rfl,wD rfl,wD rfl,wD rfl,⟨_,rfl,.ptr rfl rfl⟩,wD rfl,trivial⟩ ⟨.own rfl (.of_eq rfl (oRV_d _)),.box rfl (.d rfl),trivial⟩ (qq rfl))⟩
  refine cwF rfl hc3 ?_
  refine cwK ?_
  exact ⟨0,(sJ h18),.w (wkF ⟨⟨_,rfl,.ptro rfl rfl⟩,wD rfl,wD rfl,wD rfl,wD rfl,wD rfl,⟨_,rfl,.ptr rfl rfl⟩,wD rfl,trivial⟩ ⟨.own rfl (.of_eq rfl (oRV_d _)),.box rfl (.d rfl),trivial⟩ (qq rfl))⟩
 refine cwF rfl hc1 ?_
 refine qG ?_
 exact ⟨v1.2,(hx3 _ (sJ h7)).symm,.w (wkF trivial ⟨.own rfl (.of_eq rfl (oRV_d _)),trivial⟩ (qq rfl))⟩
end
end Go.Val
