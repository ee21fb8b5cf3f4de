/- Walks of the program's functions, printed. -/
import Derived.Test.YtmibkdnmjjdelaaGreatWg
set_option linter.unusedSectionVars false
set_option linter.unusedVariables false
set_option linter.unusedSimpArgs false
namespace Go.Val
open Go.RowKit Go.Proofs

section
variable [NoDrw]

noncomputable def ref03_Less (a0 : List UInt8) (a1 : List UInt8) : Option Bool :=
 some (Op.bytesLess (bytesS a0).data.toList (bytesS a1).data.toList)

noncomputable def ref09_find (a0 : List ((List UInt8) × ByteArray)) (a1 : List UInt8) : Option (Int × Bool) :=
 (((
  whileO (V := Int) (O := Int) (fun v72 =>
   cond (decide (v72 < (a0.length : Int))) (
    (gx a0 v72).bind fun x79 =>
    (ref03_Less x79.1 a1).bind fun x82 =>
    cond (!x82) (
     some (.inr v72)
    ) (
     some (.inl (IntKind.wrap .i64 (v72 + 1)))
    )
   ) (
    some (.inr v72)
   )
  ) 0
 ) : Option Int)).bind fun o43 =>
 (((
  cond (decide (o43 < (a0.length : Int))) (
   (gx a0 o43).bind fun x100 =>
   some (decide (x100.1 = a1))
  ) (
   some false
  )
 ) : Option Bool)).bind fun o94 =>
 some (o43, o94)

noncomputable def ref09_put (a0 : List ((List UInt8) × ByteArray)) (a1 : ((List UInt8) × ByteArray)) : Option (List ((List UInt8) × ByteArray)) :=
 (ref09_find a0 a1.1).bind fun x1 =>
 (cutB 0 x1.1 a0.length).bind fun _ =>
 (fits (([] : List ((List UInt8) × ByteArray)).length + (piece a0 0 x1.1).length) 40).bind fun _ =>
 (fits ((([] : List ((List UInt8) × ByteArray)) ++ (piece a0 0 x1.1)).length + ([a1]).length) 40).bind fun _ =>
 (((
  cond x1.2 (
   some (IntKind.wrap .i64 (x1.1 + 1))
  ) (
   some x1.1
  )
 ) : Option Int)).bind fun o16 =>
 (cutB o16 (a0.length : Int) a0.length).bind fun _ =>
 (fits (((([] : List ((List UInt8) × ByteArray)) ++ (piece a0 0 x1.1)) ++ [a1]).length + (piece a0 o16 (a0.length : Int)).length) 40).bind fun _ =>
 some (((([] : List ((List UInt8) × ByteArray)) ++ (piece a0 0 x1.1)) ++ [a1]) ++ (piece a0 o16 (a0.length : Int)))

noncomputable def ref09_Map (a0 : List ((List UInt8) × ByteArray)) : Option (List ((List UInt8) × ByteArray)) :=
 (((
  whileO (V := ((List ((List UInt8) × ByteArray)) × Int)) (O := (List ((List UInt8) × ByteArray))) (fun v57 =>
   cond (decide (v57.2 < (a0.length : Int))) (
    (gx a0 v57.2).bind fun x64 =>
    (ref09_put v57.1 x64).bind fun x67 =>
    some (.inl (x67, (IntKind.wrap .i64 (v57.2 + 1))))
   ) (
    some (.inr v57.1)
   )
  ) ([], 0)
 ) : Option (List ((List UInt8) × ByteArray)))).bind fun o34 =>
 some o34

noncomputable def ref09_Map_a (a0 : List ((List UInt8) × ByteArray)) : Option ((List ((List UInt8) × ByteArray)) × (List ((List UInt8) × ByteArray))) :=
 (((
  whileO (V := ((List ((List UInt8) × ByteArray)) × Int)) (O := (List ((List UInt8) × ByteArray))) (fun v57 =>
   cond (decide (v57.2 < (a0.length : Int))) (
    (gx a0 v57.2).bind fun x64 =>
    (ref09_put v57.1 x64).bind fun x67 =>
    some (.inl (x67, (IntKind.wrap .i64 (v57.2 + 1))))
   ) (
    some (.inr v57.1)
   )
  ) ([], 0)
 ) : Option (List ((List UInt8) × ByteArray)))).bind fun o34 =>
 some (o34, a0)

noncomputable def ref09_Get (a0 : List ((List UInt8) × ByteArray)) (a1 : List UInt8) : Option (ByteArray × Bool) :=
 (ref09_find a0 a1).bind fun x1 =>
 cond (!x1.2) (
  some ((ByteArray.mk #[]), false)
 ) (
  (gx a0 x1.1).bind fun x7 =>
  some (x7.2, true)
 )

noncomputable def ref09_Apply (a0 : List ((List UInt8) × ByteArray)) (a1 : List ((List UInt8) × ByteArray × Bool)) : Option (List ((List UInt8) × ByteArray)) :=
 (ref09_Map a0).bind fun x1 =>
 (((
  whileO (V := ((List ((List UInt8) × ByteArray)) × Int)) (O := (List ((List UInt8) × ByteArray))) (fun v325 =>
   cond (decide (v325.2 < (a1.length : Int))) (
    (((
     (gx a1 v325.2).bind fun x362 =>
     (ref09_find v325.1 x362.1).bind fun x365 =>
     cond (!x362.2.2) (
      (ref09_put v325.1 (x362.1, x362.2.1)).bind fun x371 =>
      some x371
     ) (
      cond x365.2 (
       (cutB 0 x365.1 v325.1.length).bind fun _ =>
       (fits (([] : List ((List UInt8) × ByteArray)).length + (piece v325.1 0 x365.1).length) 40).bind fun _ =>
       (cutB (IntKind.wrap .i64 (x365.1 + 1)) (v325.1.length : Int) v325.1.length).bind fun _ =>
       (fits ((([] : List ((List UInt8) × ByteArray)) ++ (piece v325.1 0 x365.1)).length + (piece v325.1 (IntKind.wrap .i64 (x365.1 + 1)) (v325.1.length : Int)).length) 40).bind fun _ =>
       some ((([] : List ((List UInt8) × ByteArray)) ++ (piece v325.1 0 x365.1)) ++ (piece v325.1 (IntKind.wrap .i64 (x365.1 + 1)) (v325.1.length : Int)))
      ) (
       some v325.1
      )
     )
    ) : Option (List ((List UInt8) × ByteArray)))).bind fun o359 =>
    some (.inl (o359, (IntKind.wrap .i64 (v325.2 + 1))))
   ) (
    some (.inr v325.1)
   )
  ) (x1, 0)
 ) : Option (List ((List UInt8) × ByteArray)))).bind fun o196 =>
 some o196

noncomputable def ref09_with (a0 : List ((List UInt8) × ByteArray × Bool)) (a1 : ((List UInt8) × ByteArray × Bool)) : Option (List ((List UInt8) × ByteArray × Bool)) :=
 (((
  cond a1.2.2 (
   some (a1.1, (ByteArray.mk #[]), a1.2.2)
  ) (
   some a1
  )
 ) : Option ((List UInt8) × ByteArray × Bool))).bind fun o4 =>
 (((
  whileO (V := Int) (O := Int) (fun v81 =>
   cond (decide (v81 < (a0.length : Int))) (
    (gx a0 v81).bind fun x88 =>
    (ref03_Less x88.1 o4.1).bind fun x91 =>
    cond (!x91) (
     some (.inr v81)
    ) (
     some (.inl (IntKind.wrap .i64 (v81 + 1)))
    )
   ) (
    some (.inr v81)
   )
  ) 0
 ) : Option Int)).bind fun o52 =>
 (cutB 0 o52 a0.length).bind fun _ =>
 (fits (([] : List ((List UInt8) × ByteArray × Bool)).length + (piece a0 0 o52).length) 48).bind fun _ =>
 (fits ((([] : List ((List UInt8) × ByteArray × Bool)) ++ (piece a0 0 o52)).length + ([o4]).length) 48).bind fun _ =>
 (((
  (((
   cond (decide (o52 < (a0.length : Int))) (
    (gx a0 o52).bind fun x141 =>
    some (decide (x141.1 = o4.1))
   ) (
    some false
   )
  ) : Option Bool)).bind fun o135 =>
  cond o135 (
   some (IntKind.wrap .i64 (o52 + 1))
  ) (
   some o52
  )
 ) : Option Int)).bind fun o126 =>
 (cutB o126 (a0.length : Int) a0.length).bind fun _ =>
 (fits (((([] : List ((List UInt8) × ByteArray × Bool)) ++ (piece a0 0 o52)) ++ [o4]).length + (piece a0 o126 (a0.length : Int)).length) 48).bind fun _ =>
 some (((([] : List ((List UInt8) × ByteArray × Bool)) ++ (piece a0 0 o52)) ++ [o4]) ++ (piece a0 o126 (a0.length : Int)))

noncomputable def ref09_Join (a0 : List (List ((List UInt8) × ByteArray × Bool))) : Option (List ((List UInt8) × ByteArray × Bool)) :=
 (((
  whileO (V := ((List ((List UInt8) × ByteArray × Bool)) × Int)) (O := (List ((List UInt8) × ByteArray × Bool))) (fun v472 =>
   cond (decide (v472.2 < (a0.length : Int))) (
    (((
     whileO (V := ((List ((List UInt8) × ByteArray × Bool)) × Int)) (O := (List ((List UInt8) × ByteArray × Bool))) (fun v550 =>
      (gx a0 v472.2).bind fun x554 =>
      cond (decide (v550.2 < (x554.length : Int))) (
       (gx x554 v550.2).bind fun x560 =>
       (ref09_with v550.1 x560).bind fun x563 =>
       some (.inl (x563, (IntKind.wrap .i64 (v550.2 + 1))))
      ) (
       some (.inr v550.1)
      )
     ) (v472.1, 0)
    ) : Option (List ((List UInt8) × ByteArray × Bool)))).bind fun o521 =>
    some (.inl (o521, (IntKind.wrap .i64 (v472.2 + 1))))
   ) (
    some (.inr v472.1)
   )
  ) ([], 0)
 ) : Option (List ((List UInt8) × ByteArray × Bool)))).bind fun o283 =>
 some o283

noncomputable def ref03_One (a0 : List UInt8) : Option ((List UInt8) × (List UInt8) × Bool) :=
 (((
  whileO (V := (Int × (List UInt8))) (O := (Unit ⊕ ((List UInt8) × (List UInt8) × Bool))) (fun v117 =>
   cond (decide (v117.1 ≥ 0)) (
    (ck (decide (0 ≤ v117.1 ∧ v117.1 < 24))).bind fun _ =>
    (gx v117.2 v117.1).bind fun x127 =>
    (ck (decide (v117.1.toNat < v117.2.length))).bind fun _ =>
    (ck (decide (0 ≤ (IntKind.wrap .u8 ((x127.toNat : Int) + 1)) ∧ (IntKind.wrap .u8 ((x127.toNat : Int) + 1)) < 256))).bind fun _ =>
    (gx (List.set v117.2 v117.1.toNat (UInt8.ofNat (IntKind.wrap .u8 ((x127.toNat : Int) + 1)).toNat)) v117.1).bind fun x136 =>
    cond (decide ((x136.toNat : Int) ≠ 0)) (
     some (.inr (.inr (a0, (List.set v117.2 v117.1.toNat (UInt8.ofNat (IntKind.wrap .u8 ((x127.toNat : Int) + 1)).toNat)), false)))
    ) (
     some (.inl ((IntKind.wrap .i64 (v117.1 - 1)), (List.set v117.2 v117.1.toNat (UInt8.ofNat (IntKind.wrap .u8 ((x127.toNat : Int) + 1)).toNat))))
    )
   ) (
    some (.inr (.inl ()))
   )
  ) (23, a0)
 ) : Option (Unit ⊕ ((List UInt8) × (List UInt8) × Bool)))).bind fun o70 =>
 Sum.elim (fun (v143 : Unit) =>
  some (a0, (List.replicate 24 0), true)
 ) (fun w146 =>
  some w146
 ) o70

noncomputable def ref08_End : Option ByteArray :=
 (((
  whileO (V := (ByteArray × Int)) (O := ByteArray) (fun v42 =>
   cond (decide (v42.2 < 25)) (
    (ck (decide (v42.1.size + (ByteArray.mk #[255]).size ≤ 9223372036854775807))).bind fun _ =>
    some (.inl ((v42.1 ++ (ByteArray.mk #[255])), (IntKind.wrap .i64 (v42.2 + 1))))
   ) (
    some (.inr v42.1)
   )
  ) ((ByteArray.mk #[]), 0)
 ) : Option ByteArray)).bind fun o25 =>
 some o25

noncomputable def ref08_to (a0 : ((List UInt8) × (List UInt8) × Bool)) : Option ByteArray :=
 cond a0.2.2 (
  (ref08_End).bind fun x4 =>
  some x4
 ) (
  some (bytesS a0.2.1)
 )

noncomputable def ref08_of (a0 : ByteArray) (a1 : ByteArray) : Option ((List UInt8) × (List UInt8) × Bool) :=
 (((
  (ref08_End).bind fun x10 =>
  cond (decide (a1 = x10)) (
   some ((cpB (List.replicate 24 0) a0.data.toList), (List.replicate 24 0), true)
  ) (
   some ((cpB (List.replicate 24 0) a0.data.toList), (cpB (List.replicate 24 0) a1.data.toList), false)
  )
 ) : Option ((List UInt8) × (List UInt8) × Bool))).bind fun o7 =>
 some o7

noncomputable def ref08_key (a0 : ByteArray) : Option (List UInt8) :=
 some (cpB (List.replicate 24 0) a0.data.toList)

noncomputable def ref08_with (a0 : List ByteArray) (a1 : ByteArray) : Option (List ByteArray) :=
 (((
  whileO (V := Int) (O := Int) (fun v112 =>
   (((
    cond (decide (v112 < (a0.length : Int))) (
     (gx a0 v112).bind fun x128 =>
     some (Op.bytesLess x128.data.toList a1.data.toList)
    ) (
     some false
    )
   ) : Option Bool)).bind fun o122 =>
   cond o122 (
    some (.inl (IntKind.wrap .i64 (v112 + 1)))
   ) (
    some (.inr v112)
   )
  ) 0
 ) : Option Int)).bind fun o67 =>
 (((
  cond (decide (o67 < (a0.length : Int))) (
   (gx a0 o67).bind fun x148 =>
   some (decide (x148 = a1))
  ) (
   some false
  )
 ) : Option Bool)).bind fun o142 =>
 cond o142 (
  some a0
 ) (
  (cutB 0 o67 a0.length).bind fun _ =>
  (fits (([] : List ByteArray).length + (piece a0 0 o67).length) 16).bind fun _ =>
  (fits ((([] : List ByteArray) ++ (piece a0 0 o67)).length + ([a1]).length) 16).bind fun _ =>
  (cutB o67 (a0.length : Int) a0.length).bind fun _ =>
  (fits (((([] : List ByteArray) ++ (piece a0 0 o67)) ++ [a1]).length + (piece a0 o67 (a0.length : Int)).length) 16).bind fun _ =>
  some (((([] : List ByteArray) ++ (piece a0 0 o67)) ++ [a1]) ++ (piece a0 o67 (a0.length : Int)))
 )

noncomputable def ref08_bounds (a0 : List ((List UInt8) × (List UInt8) × Bool)) : Option (List ByteArray) :=
 (((
  whileO (V := ((List ByteArray) × Int)) (O := (List ByteArray)) (fun v202 =>
   cond (decide (v202.2 < (a0.length : Int))) (
    (((
     (gx a0 v202.2).bind fun x227 =>
     (ref08_to x227).bind fun x230 =>
     cond (Op.bytesLess (bytesS x227.1).data.toList x230.data.toList) (
      (ref08_with v202.1 (bytesS x227.1)).bind fun x236 =>
      (ref08_with x236 x230).bind fun x239 =>
      some x239
     ) (
      some v202.1
     )
    ) : Option (List ByteArray))).bind fun o224 =>
    some (.inl (o224, (IntKind.wrap .i64 (v202.2 + 1))))
   ) (
    some (.inr v202.1)
   )
  ) ([], 0)
 ) : Option (List ByteArray))).bind fun o121 =>
 some o121

noncomputable def ref08_where (a0 : List ByteArray) (a1 : List Bool) : Option (List ((List UInt8) × (List UInt8) × Bool)) :=
 (((
  whileO (V := (Int × (List ((List UInt8) × (List UInt8) × Bool)))) (O := (List ((List UInt8) × (List UInt8) × Bool))) (fun v642 =>
   cond (decide ((IntKind.wrap .i64 (v642.1 + 1)) < (a0.length : Int))) (
    (((
     (gx a1 v642.1).bind fun x711 =>
     cond (!x711) (
      some v642.2
     ) (
      (((
       cond (decide ((v642.2.length : Int) > 0)) (
        (gx v642.2 (IntKind.wrap .i64 ((v642.2.length : Int) - 1))).bind fun x735 =>
        (ref08_to x735).bind fun x738 =>
        (gx a0 v642.1).bind fun x741 =>
        some (decide (x738 = x741))
       ) (
        some false
       )
      ) : Option Bool)).bind fun o729 =>
      cond o729 (
       (gx v642.2 (IntKind.wrap .i64 ((v642.2.length : Int) - 1))).bind fun x747 =>
       (gx a0 (IntKind.wrap .i64 (v642.1 + 1))).bind fun x750 =>
       (ref08_of (bytesS x747.1) x750).bind fun x753 =>
       some (List.set v642.2 (IntKind.wrap .i64 ((v642.2.length : Int) - 1)).toNat x753)
      ) (
       (gx a0 v642.1).bind fun x756 =>
       (gx a0 (IntKind.wrap .i64 (v642.1 + 1))).bind fun x759 =>
       (ref08_of x756 x759).bind fun x762 =>
       (fits (v642.2.length + ([x762]).length) 49).bind fun _ =>
       some (v642.2 ++ [x762])
      )
     )
    ) : Option (List ((List UInt8) × (List UInt8) × Bool)))).bind fun o708 =>
    some (.inl ((IntKind.wrap .i64 (v642.1 + 1)), o708))
   ) (
    some (.inr v642.2)
   )
  ) (0, [])
 ) : Option (List ((List UInt8) × (List UInt8) × Bool)))).bind fun o385 =>
 some o385

noncomputable def ref08_Clean (a0 : List ((List UInt8) × (List UInt8) × Bool)) : Option (List ((List UInt8) × (List UInt8) × Bool)) :=
 (ref08_bounds a0).bind fun x1 =>
 (((
  whileO (V := (Int × (List Bool))) (O := (List Bool)) (fun v90 =>
   cond (decide ((IntKind.wrap .i64 (v90.1 + 1)) < (x1.length : Int))) (
    (gx x1 v90.1).bind fun x97 =>
    (ref08_key x97).bind fun x100 =>
    (ref08_Has a0 x100).bind fun x103 =>
    (fits (v90.2.length + ([x103]).length) 1).bind fun _ =>
    some (.inl ((IntKind.wrap .i64 (v90.1 + 1)), (v90.2 ++ [x103])))
   ) (
    some (.inr v90.2)
   )
  ) (0, [])
 ) : Option (List Bool))).bind fun o55 =>
 (ref08_where x1 o55).bind fun x109 =>
 some x109

noncomputable def ref12_In (a0 : List ((List UInt8) × ByteArray)) (a1 : ((List UInt8) × (List UInt8) × Bool)) : Option (List ((List UInt8) × ByteArray)) :=
 (((
  whileO (V := (Int × (List ((List UInt8) × ByteArray)))) (O := (List ((List UInt8) × ByteArray))) (fun v172 =>
   cond (decide (v172.1 < (a0.length : Int))) (
    (((
     (gx a0 v172.1).bind fun x194 =>
     (ref03_In a1 x194.1).bind fun x197 =>
     cond x197 (
      (fits (v172.2.length + ([x194]).length) 40).bind fun _ =>
      some (v172.2 ++ [x194])
     ) (
      some v172.2
     )
    ) : Option (List ((List UInt8) × ByteArray)))).bind fun o191 =>
    some (.inl ((IntKind.wrap .i64 (v172.1 + 1)), o191))
   ) (
    some (.inr v172.2)
   )
  ) (0, [])
 ) : Option (List ((List UInt8) × ByteArray)))).bind fun o103 =>
 some o103

noncomputable def ref12_New (a0 : List ((List UInt8) × ByteArray)) : Option ((List ((List UInt8) × ByteArray)) × (List ((List UInt8) × ByteArray × Bool)) × (List ((List UInt8) × (List UInt8) × Bool)) × (List (List ((List UInt8) × ByteArray × Bool)))) :=
 (ref09_Map a0).bind fun x1 =>
 some (x1, [], [], [])

noncomputable def ref12_New_a (a0 : List ((List UInt8) × ByteArray)) : Option (((List ((List UInt8) × ByteArray)) × (List ((List UInt8) × ByteArray × Bool)) × (List ((List UInt8) × (List UInt8) × Bool)) × (List (List ((List UInt8) × ByteArray × Bool)))) × (List ((List UInt8) × ByteArray))) :=
 (ref09_Map_a a0).bind fun x1 =>
 some ((x1.1, [], [], []), x1.2)

noncomputable def ref12_View_Map (a0 : ((List ((List UInt8) × ByteArray)) × (List ((List UInt8) × ByteArray × Bool)) × (List ((List UInt8) × (List UInt8) × Bool)) × (List (List ((List UInt8) × ByteArray × Bool))))) : Option ((List ((List UInt8) × ByteArray)) × ((List ((List UInt8) × ByteArray)) × (List ((List UInt8) × ByteArray × Bool)) × (List ((List UInt8) × (List UInt8) × Bool)) × (List (List ((List UInt8) × ByteArray × Bool))))) :=
 (ref09_Apply a0.1 a0.2.1).bind fun x1 =>
 some (x1, (a0.1, a0.2.1, a0.2.2.1, a0.2.2.2))

noncomputable def ref12_View_own (a0 : ((List ((List UInt8) × ByteArray)) × (List ((List UInt8) × ByteArray × Bool)) × (List ((List UInt8) × (List UInt8) × Bool)) × (List (List ((List UInt8) × ByteArray × Bool))))) (a1 : List UInt8) : Option (Bool × ((List ((List UInt8) × ByteArray)) × (List ((List UInt8) × ByteArray × Bool)) × (List ((List UInt8) × (List UInt8) × Bool)) × (List (List ((List UInt8) × ByteArray × Bool))))) :=
 (((
  whileO (V := (Int × ((List ((List UInt8) × ByteArray)) × (List ((List UInt8) × ByteArray × Bool)) × (List ((List UInt8) × (List UInt8) × Bool)) × (List (List ((List UInt8) × ByteArray × Bool)))))) (O := (((List ((List UInt8) × ByteArray)) × (List ((List UInt8) × ByteArray × Bool)) × (List ((List UInt8) × (List UInt8) × Bool)) × (List (List ((List UInt8) × ByteArray × Bool)))) ⊕ (Bool × ((List ((List UInt8) × ByteArray)) × (List ((List UInt8) × ByteArray × Bool)) × (List ((List UInt8) × (List UInt8) × Bool)) × (List (List ((List UInt8) × ByteArray × Bool))))))) (fun v57 =>
   cond (decide (v57.1 < (v57.2.2.1.length : Int))) (
    (gx v57.2.2.1 v57.1).bind fun x64 =>
    cond (decide (x64.1 = a1)) (
     some (.inr (.inr (true, (v57.2.1, v57.2.2.1, v57.2.2.2.1, v57.2.2.2.2))))
    ) (
     some (.inl ((IntKind.wrap .i64 (v57.1 + 1)), (v57.2.1, v57.2.2.1, v57.2.2.2.1, v57.2.2.2.2)))
    )
   ) (
    some (.inr (.inl (v57.2.1, v57.2.2.1, v57.2.2.2.1, v57.2.2.2.2)))
   )
  ) (0, a0)
 ) : Option (((List ((List UInt8) × ByteArray)) × (List ((List UInt8) × ByteArray × Bool)) × (List ((List UInt8) × (List UInt8) × Bool)) × (List (List ((List UInt8) × ByteArray × Bool)))) ⊕ (Bool × ((List ((List UInt8) × ByteArray)) × (List ((List UInt8) × ByteArray × Bool)) × (List ((List UInt8) × (List UInt8) × Bool)) × (List (List ((List UInt8) × ByteArray × Bool)))))))).bind fun o34 =>
 Sum.elim (fun (v71 : ((List ((List UInt8) × ByteArray)) × (List ((List UInt8) × ByteArray × Bool)) × (List ((List UInt8) × (List UInt8) × Bool)) × (List (List ((List UInt8) × ByteArray × Bool))))) =>
  some (false, v71)
 ) (fun w74 =>
  some w74
 ) o34

noncomputable def ref12_View_Get (a0 : ((List ((List UInt8) × ByteArray)) × (List ((List UInt8) × ByteArray × Bool)) × (List ((List UInt8) × (List UInt8) × Bool)) × (List (List ((List UInt8) × ByteArray × Bool))))) (a1 : List UInt8) : Option (ByteArray × Bool × ((List ((List UInt8) × ByteArray)) × (List ((List UInt8) × ByteArray × Bool)) × (List ((List UInt8) × (List UInt8) × Bool)) × (List (List ((List UInt8) × ByteArray × Bool))))) :=
 (ref12_View_own a0 a1).bind fun x1 =>
 (((
  cond (!x1.1) (
   (fits (([] : List ((List UInt8) × (List UInt8) × Bool)).length + x1.2.2.2.1.length) 49).bind fun _ =>
   (ref03_One a1).bind fun x28 =>
   (fits ((([] : List ((List UInt8) × (List UInt8) × Bool)) ++ x1.2.2.2.1).length + ([x28]).length) 49).bind fun _ =>
   (ref08_Clean ((([] : List ((List UInt8) × (List UInt8) × Bool)) ++ x1.2.2.2.1) ++ [x28])).bind fun x34 =>
   some (x1.2.1, x1.2.2.1, x34, x1.2.2.2.2)
  ) (
   some x1.2
  )
 ) : Option ((List ((List UInt8) × ByteArray)) × (List ((List UInt8) × ByteArray × Bool)) × (List ((List UInt8) × (List UInt8) × Bool)) × (List (List ((List UInt8) × ByteArray × Bool)))))).bind fun o19 =>
 (ref12_View_Map o19).bind fun x37 =>
 (ref09_Get x37.1 a1).bind fun x40 =>
 some (x40.1, x40.2, x37.2)

noncomputable def ref12_View_Scan (a0 : ((List ((List UInt8) × ByteArray)) × (List ((List UInt8) × ByteArray × Bool)) × (List ((List UInt8) × (List UInt8) × Bool)) × (List (List ((List UInt8) × ByteArray × Bool))))) (a1 : ((List UInt8) × (List UInt8) × Bool)) : Option ((List ((List UInt8) × ByteArray)) × ((List ((List UInt8) × ByteArray)) × (List ((List UInt8) × ByteArray × Bool)) × (List ((List UInt8) × (List UInt8) × Bool)) × (List (List ((List UInt8) × ByteArray × Bool))))) :=
 (fits (([] : List ((List UInt8) × (List UInt8) × Bool)).length + a0.2.2.1.length) 49).bind fun _ =>
 (fits ((([] : List ((List UInt8) × (List UInt8) × Bool)) ++ a0.2.2.1).length + ([a1]).length) 49).bind fun _ =>
 (ref08_Clean ((([] : List ((List UInt8) × (List UInt8) × Bool)) ++ a0.2.2.1) ++ [a1])).bind fun x7 =>
 (ref12_View_Map (a0.1, a0.2.1, x7, a0.2.2.2)).bind fun x10 =>
 (ref12_In x10.1 a1).bind fun x13 =>
 some (x13, x10.2)

noncomputable def ref12_View_Put (a0 : ((List ((List UInt8) × ByteArray)) × (List ((List UInt8) × ByteArray × Bool)) × (List ((List UInt8) × (List UInt8) × Bool)) × (List (List ((List UInt8) × ByteArray × Bool))))) (a1 : List UInt8) (a2 : ByteArray) : Option (Int × ((List ((List UInt8) × ByteArray)) × (List ((List UInt8) × ByteArray × Bool)) × (List ((List UInt8) × (List UInt8) × Bool)) × (List (List ((List UInt8) × ByteArray × Bool))))) :=
 (((
  cond (decide ((a2.size : Int) < 1)) (
   some true
  ) (
   some (decide ((a2.size : Int) > 40))
  )
 ) : Option Bool)).bind fun o4 =>
 cond o4 (
  some (1, a0)
 ) (
  (ref09_Join ([a0.2.1, [(a1, a2, false)]])).bind fun x13 =>
  some (0, (a0.1, x13, a0.2.2.1, a0.2.2.2))
 )

noncomputable def ref12_View_Delete (a0 : ((List ((List UInt8) × ByteArray)) × (List ((List UInt8) × ByteArray × Bool)) × (List ((List UInt8) × (List UInt8) × Bool)) × (List (List ((List UInt8) × ByteArray × Bool))))) (a1 : List UInt8) : Option ((List ((List UInt8) × ByteArray)) × (List ((List UInt8) × ByteArray × Bool)) × (List ((List UInt8) × (List UInt8) × Bool)) × (List (List ((List UInt8) × ByteArray × Bool)))) :=
 (((
  (ref09_Join ([a0.2.1, [(a1, (ByteArray.mk #[]), true)]])).bind fun x7 =>
  some (a0.1, x7, a0.2.2.1, a0.2.2.2)
 ) : Option ((List ((List UInt8) × ByteArray)) × (List ((List UInt8) × ByteArray × Bool)) × (List ((List UInt8) × (List UInt8) × Bool)) × (List (List ((List UInt8) × ByteArray × Bool)))))).bind fun o4 =>
 some o4

noncomputable def ref12_View_Mark (a0 : ((List ((List UInt8) × ByteArray)) × (List ((List UInt8) × ByteArray × Bool)) × (List ((List UInt8) × (List UInt8) × Bool)) × (List (List ((List UInt8) × ByteArray × Bool))))) : Option (Int × ((List ((List UInt8) × ByteArray)) × (List ((List UInt8) × ByteArray × Bool)) × (List ((List UInt8) × (List UInt8) × Bool)) × (List (List ((List UInt8) × ByteArray × Bool))))) :=
 (fits (([] : List (List ((List UInt8) × ByteArray × Bool))).length + a0.2.2.2.length) 24).bind fun _ =>
 (fits ((([] : List (List ((List UInt8) × ByteArray × Bool))) ++ a0.2.2.2).length + ([a0.2.1]).length) 24).bind fun _ =>
 some ((IntKind.wrap .i64 ((((([] : List (List ((List UInt8) × ByteArray × Bool))) ++ a0.2.2.2) ++ [a0.2.1]).length : Int) - 1)), (a0.1, a0.2.1, a0.2.2.1, ((([] : List (List ((List UInt8) × ByteArray × Bool))) ++ a0.2.2.2) ++ [a0.2.1])))

noncomputable def ref12_View_Back (a0 : ((List ((List UInt8) × ByteArray)) × (List ((List UInt8) × ByteArray × Bool)) × (List ((List UInt8) × (List UInt8) × Bool)) × (List (List ((List UInt8) × ByteArray × Bool))))) (a1 : Int) : Option (Int × ((List ((List UInt8) × ByteArray)) × (List ((List UInt8) × ByteArray × Bool)) × (List ((List UInt8) × (List UInt8) × Bool)) × (List (List ((List UInt8) × ByteArray × Bool))))) :=
 (((
  cond (decide (a1 < 0)) (
   some true
  ) (
   some (decide (a1 ≥ (a0.2.2.2.length : Int)))
  )
 ) : Option Bool)).bind fun o7 =>
 cond o7 (
  some (1, (a0.1, a0.2.1, a0.2.2.1, a0.2.2.2))
 ) (
  (gx a0.2.2.2 a1).bind fun x16 =>
  (cutB 0 (IntKind.wrap .i64 (a1 + 1)) a0.2.2.2.length).bind fun _ =>
  some (0, (a0.1, x16, a0.2.2.1, (piece a0.2.2.2 0 (IntKind.wrap .i64 (a1 + 1)))))
 )

set_option maxRecDepth 100000 in
theorem ref03_Less_ok {a0 : List UInt8} {a1 : List UInt8} {r : Bool} (h : ref03_Less a0 a1 = some r) : FnOk Tryz.prog 82 [.d (eapiKey a0), .d (eapiKey a1)] 0 (lk []) (fun rr oo => rr = .d (ebool r) ∧ oo = lk []) := by
  refine fnOk_of Tryz.func82 rfl rfl (cw_post ?_)
  unfold ref03_Less at h
  refine cw_seq (cw_region (
    .cons (o_box 0 rfl rfl .no rfl rfl rfl) <|
    .cons (o_box 1 rfl rfl .no rfl rfl rfl) <|
    .cons (o_as rfl rfl .no rfl) <|
    .nil rfl
  ) ?_)
  refine cw_seq (cw_region_any mixed (by kernel_rfl) (
    .cons (o_slP rfl rfl .no rfl ar29 sz5 .no .no (by decide) (by decide) (by decide)) <|
    .cons (o_cvB [] rfl rfl .no rfl rfl rfl sl105 un5 un9) <|
    .cons (o_slP rfl rfl .no rfl ar29 sz5 .no .no (by decide) (by decide) (by decide)) <|
    .cons (o_cvB [] rfl rfl .no rfl rfl rfl sl105 un5 un9) <|
    .cons (o_bin rfl rfl .no rfl rfl (s_lss _ _) rfl) <|
    .cons (o_as rfl rfl .no rfl) <|
    .nil rfl
  ) (by kernel_rfl) ?_)
  have heq := ((Option.some.inj h).symm).symm
  subst heq
  exact cw_ret ⟨_, (show Leads _ _ (St.of [(4, .d (ebool (Op.bytesLess (bytesS a0).data.toList (bytesS a1).data.toList)))] []) from .w (weak_of ⟨⟨_, rfl, .d rfl⟩, trivial⟩ trivial drop0)), .inr rfl, _, res1 rfl rfl, rfl, rfl⟩

set_option maxRecDepth 100000 in
theorem ref09_find_ok {a0 : List ((List UInt8) × ByteArray)} {a1 : List UInt8} {r : (Int × Bool)} (h : ref09_find a0 a1 = some r) : FnOk Tryz.prog 61 [.d (eSapiPair a0), .d (eapiKey a1)] 0 (lk []) (fun rr oo => rr = .tup [.d (eint r.1), .d (ebool r.2)] ∧ oo = lk []) := by
  refine fnOk_of Tryz.func61 rfl rfl (cw_post ?_)
  unfold ref09_find at h
  refine cw_seq (cw_region (
    .cons (o_box 0 rfl rfl .no rfl rfl rfl) <|
    .cons (o_as rfl rfl .no rfl) <|
    .cons (o_as rfl rfl .no rfl) <|
    .nil rfl
  ) ?_)
  refine cw_seq (cw_region (
    .cons (o_as rfl rfl .no rfl) <|
    .nil rfl
  ) ?_)
  obtain ⟨o43, hj44, h45⟩ := bind_some h
  refine cw_join (fun (z : Int) => St.of [(0, .d (eSapiPair a0)), (3, .ptr 0 0), (6, .d (eint z))] [(0, .box (.d (eapiKey a1)))]) (fun (z : Int) => o43 = z) ?_ ?_
  · intro v105 hv106; subst hv106
    obtain ⟨o94, hj95, h96⟩ := bind_some h45
    refine cw_join (fun (z : Bool) => St.of [(4, .d (eint o43)), (5, .d (ebool z))] []) (fun (z : Bool) => o94 = z) ?_ ?_
    · intro v103 hv104; subst hv104
      have heq := ((Option.some.inj h96).symm).symm
      subst heq
      exact cw_ret ⟨_, (show Leads _ _ (St.of [(4, .d (eint o43)), (5, .d (ebool o94))] []) from .w (weak_of ⟨⟨_, rfl, .d rfl⟩, ⟨_, rfl, .d rfl⟩, trivial⟩ trivial drop0)), .inr rfl, _, res2 rfl rfl rfl, rfl, rfl⟩
    · skip
      rcases cond_some hj95 with ⟨hc97, h98⟩ | ⟨hc97, h99⟩
      · skip
        obtain ⟨x100, hx101, h102⟩ := bind_some h98
        have hx101g := gx_some hx101
        refine cw_region_any mixed (by kernel_rfl) (
          .cons (o_mv rfl rfl .no rfl) <|
          .cons (o_mv rfl rfl .no rfl) <|
          .cons (o_mv rfl rfl .no rfl) <|
          .cons (o_lenM (enc := eapiPair) (xs := a0) rfl rfl .no rfl sl22) <|
          .cons (o_bin rfl rfl .no rfl rfl (b_lss _ _) rfl) <|
          .cons (o_mv rfl rfl .no rfl) <|
          .cons (o_mv rfl rfl (.yes rfl rfl hc97) rfl) <|
          .cons (o_mv rfl rfl (.yes rfl rfl hc97) rfl) <|
          .cons (o_ixM (enc := eapiPair) (xs := a0) rfl rfl (.yes rfl rfl hc97) rfl rfl sl22 sz31 hx101g.1 hx101g.2) <|
          .cons (o_fld rfl rfl (.yes rfl rfl hc97) rfl fld31_0 (by decide) rfl rfl) <|
          .cons (o_ld rfl rfl (.yes rfl rfl hc97) rfl ta29 rfl rfl) <|
          .cons (o_ldP [] rfl rfl (.yes rfl rfl hc97) rfl rfl rfl ta29 rfl rfl) <|
          .cons (o_eq rfl rfl (.yes rfl rfl hc97) rfl rfl rfl rfl eg29 (.bs ar29 un5 sz5)) <|
          .cons (o_pickT rfl rfl .no rfl hc97 rfl) <|
          .cons (o_as rfl rfl .no rfl) <|
          .cons (o_as rfl rfl .no rfl) <|
          .nil rfl
        ) (by kernel_rfl) ?_
        exact ⟨(decide (x100.1 = a1)), (Option.some.inj h102).symm, .w (weak_of ⟨⟨_, rfl, .d rfl⟩, ⟨_, rfl, .d rfl⟩, trivial⟩ trivial drop0)⟩
      · skip
        refine cw_region_any mixed (by kernel_rfl) (
          .cons (o_mv rfl rfl .no rfl) <|
          .cons (o_mv rfl rfl .no rfl) <|
          .cons (o_mv rfl rfl .no rfl) <|
          .cons (o_lenM (enc := eapiPair) (xs := a0) rfl rfl .no rfl sl22) <|
          .cons (o_bin rfl rfl .no rfl rfl (b_lss _ _) rfl) <|
          .cons (o_mv rfl rfl .no rfl) <|
          .cons (o_noT rfl rfl rfl rfl hc97) <|
          .cons (o_noT rfl rfl rfl rfl hc97) <|
          .cons (o_noT rfl rfl rfl rfl hc97) <|
          .cons (o_noT rfl rfl rfl rfl hc97) <|
          .cons (o_noT rfl rfl rfl rfl hc97) <|
          .cons (o_noT rfl rfl rfl rfl hc97) <|
          .cons (o_noT rfl rfl rfl rfl hc97) <|
          .cons (o_pickF rfl rfl .no rfl hc97 rfl) <|
          .cons (o_as rfl rfl .no rfl) <|
          .cons (o_as rfl rfl .no rfl) <|
          .nil rfl
        ) (by kernel_rfl) ?_
        exact ⟨false, (Option.some.inj h99).symm, .w (weak_of ⟨⟨_, rfl, .d rfl⟩, ⟨_, rfl, .d rfl⟩, trivial⟩ trivial drop0)⟩
  · skip
    refine cw_block ?_
    refine cw_while (V := Int) (O := Int) (fun (z : Int) => St.of [(0, .d (eSapiPair a0)), (3, .ptr 0 0), (6, .d (eint z))] [(0, .box (.d (eapiKey a1)))]) hj44 (.w (weak_of ⟨⟨_, rfl, .d rfl⟩, ⟨_, rfl, .ptr rfl rfl⟩, ⟨_, rfl, .d rfl⟩, trivial⟩ ⟨.box rfl (.d rfl), trivial⟩ drop0)) ?_
    intro v72 x73 hb74 hx75
    refine cw_seq ?_
    refine cw_seq (cw_region (
      .cons (o_mv rfl rfl .no rfl) <|
      .cons (o_mv rfl rfl .no rfl) <|
      .cons (o_lenM (enc := eapiPair) (xs := a0) rfl rfl .no rfl sl22) <|
      .cons (o_bin rfl rfl .no rfl rfl (b_lss _ _) rfl) <|
      .nil rfl
    ) ?_)
    rcases cond_some hb74 with ⟨hc76, h77⟩ | ⟨hc76, h78⟩
    · refine cw_condT rfl hc76 ?_
      refine cw_skip ?_
      refine cw_block ?_
      obtain ⟨x79, hx80, h81⟩ := bind_some h77
      have hx80g := gx_some hx80
      obtain ⟨x82, hx83, h84⟩ := bind_some (x := ref03_Less x79.1 a1) h81
      refine cw_seq (cw_region_any mixed (by kernel_rfl) (
        .cons (o_mv rfl rfl .no rfl) <|
        .cons (o_mv rfl rfl .no rfl) <|
        .cons (o_ixM (enc := eapiPair) (xs := a0) rfl rfl .no rfl rfl sl22 sz31 hx80g.1 hx80g.2) <|
        .cons (o_fld rfl rfl .no rfl fld31_0 (by decide) rfl rfl) <|
        .cons (o_ld rfl rfl .no rfl ta29 rfl rfl) <|
        .cons (o_ldP [] rfl rfl .no rfl rfl rfl ta29 rfl rfl) <|
        .cons (o_call rfl rfl .no Tryz.func82 rfl rfl (ref03_Less_ok hx83) (.cons rfl .d (.cons rfl .d .nil)) ⟨trivial, trivial, trivial⟩ (.inl rfl)) <|
        .cons (o_as rfl rfl .no rfl) <|
        .nil rfl
      ) (by kernel_rfl) ?_)
      refine cw_seq ?_
      refine cw_seq (cw_region (
        .cons (o_mv rfl rfl .no rfl) <|
        .cons (o_not rfl rfl .no rfl) <|
        .nil rfl
      ) ?_)
      rcases cond_some h84 with ⟨hc85, h86⟩ | ⟨hc85, h87⟩
      · refine cw_condT rfl hc85 ?_
        refine cw_exit ?_
        exact ⟨v72, (hx75 _ (Option.some.inj h86).symm).symm, .w (weak_of ⟨⟨_, rfl, .d rfl⟩, ⟨_, rfl, .ptr rfl rfl⟩, ⟨_, rfl, .d rfl⟩, trivial⟩ ⟨.box rfl (.d rfl), trivial⟩ drop0)⟩
      · refine cw_condF rfl hc85 ?_
        refine cw_skip ?_
        refine cw_region (
          .cons (o_mv rfl rfl .no rfl) <|
          .cons (o_bin rfl rfl .no rfl rfl (b_add _ _) rfl) <|
          .cons (o_as rfl rfl .no rfl) <|
          .nil rfl
        ) ?_
        exact ⟨(IntKind.wrap .i64 (v72 + 1)), (Option.some.inj h87).symm, .w (weak_of ⟨⟨_, rfl, .d rfl⟩, ⟨_, rfl, .ptr rfl rfl⟩, ⟨_, rfl, .d rfl⟩, trivial⟩ ⟨.box rfl (.d rfl), trivial⟩ drop0)⟩
    · refine cw_condF rfl hc76 ?_
      refine cw_exit ?_
      exact ⟨v72, (hx75 _ (Option.some.inj h78).symm).symm, .w (weak_of ⟨⟨_, rfl, .d rfl⟩, ⟨_, rfl, .ptr rfl rfl⟩, ⟨_, rfl, .d rfl⟩, trivial⟩ ⟨.box rfl (.d rfl), trivial⟩ drop0)⟩

set_option maxRecDepth 100000 in
theorem ref09_put_ok {a0 : List ((List UInt8) × ByteArray)} {a1 : ((List UInt8) × ByteArray)} {r : (List ((List UInt8) × ByteArray))} (h : ref09_put a0 a1 = some r) : FnOk Tryz.prog 42 [.d (eSapiPair a0), .d (eapiPair a1)] 0 (lk []) (fun rr oo => rr = .d (eSapiPair r) ∧ oo = lk []) := by
  refine fnOk_of Tryz.func42 rfl rfl (cw_post ?_)
  unfold ref09_put at h
  refine cw_seq (cw_region (
    .cons (o_box 0 rfl rfl .no rfl rfl rfl) <|
    .cons (o_as rfl rfl .no rfl) <|
    .nil rfl
  ) ?_)
  obtain ⟨x1, hx2, h3⟩ := bind_some (x := ref09_find a0 a1.1) h
  refine cw_seq (cw_region (
    .cons (o_mv rfl rfl .no rfl) <|
    .cons (o_fldP rfl rfl .no rfl fld31_0 (by decide)) <|
    .cons (o_ldP [0] rfl rfl .no rfl rfl rfl ta29 rfl rfl) <|
    .cons (o_call rfl rfl .no Tryz.func61 rfl rfl (ref09_find_ok hx2) (.cons rfl .d (.cons rfl .d .nil)) ⟨trivial, trivial, trivial⟩ (.inl rfl)) <|
    .cons (o_mv rfl rfl .no rfl) <|
    .cons (o_ext rfl rfl .no rfl rfl) <|
    .cons (o_ext rfl rfl .no rfl rfl) <|
    .cons (o_as rfl rfl .no rfl) <|
    .cons (o_as rfl rfl .no rfl) <|
    .nil rfl
  ) ?_)
  obtain ⟨x4, hx5, h6⟩ := bind_some h3
  have hx5g := cutB_some hx5
  obtain ⟨x7, hx8, h9⟩ := bind_some h6
  have hx8g := fits_some hx8
  refine cw_seq (cw_region (
    .cons (o_bslO (rows := ([] : List ((List UInt8) × ByteArray)).map eapiPair) 1 rfl rfl .no .nil rfl sl22 sz31 ze31 rfl (map_sz siapiPair) (by decide) rfl) <|
    .cons (o_mv rfl rfl .no rfl) <|
    .cons (o_mv rfl rfl .no rfl) <|
    .cons (o_slM (enc := eapiPair) (xs := a0) rfl rfl .no rfl sl22 sz31 .no (.val rfl hx5g.2.1) hx5g.2.2.1 hx5g.2.2.2) <|
    .cons (o_appM (enc := eapiPair) (xs := ([] : List ((List UInt8) × ByteArray))) (ys := (piece a0 0 x1.1)) rfl rfl .no rfl rfl rfl siapiPair sl22 sl22 sz31 by31 ze31 rfl (by decide) hx8g) <|
    .cons (o_as rfl rfl .no rfl) <|
    .nil rfl
  ) ?_)
  obtain ⟨x10, hx11, h12⟩ := bind_some h9
  have hx11g := fits_some hx11
  refine cw_seq (cw_region (
    .cons (o_mv rfl rfl .no rfl) <|
    .cons (o_ldP [] rfl rfl .no rfl rfl rfl ta31 rfl rfl) <|
    .cons (o_bsl (rows := ([a1] : List ((List UInt8) × ByteArray)).map eapiPair) rfl rfl .no (.cons rfl .nil) rfl sl22 sz31 ze31 rfl (map_sz siapiPair) (by decide)) <|
    .cons (o_appM (enc := eapiPair) (xs := (([] : List ((List UInt8) × ByteArray)) ++ (piece a0 0 x1.1))) (ys := [a1]) rfl rfl .no rfl rfl rfl siapiPair sl22 sl22 sz31 by31 ze31 rfl (by decide) hx11g) <|
    .cons (o_as rfl rfl .no rfl) <|
    .nil rfl
  ) ?_)
  obtain ⟨o16, hj17, h18⟩ := bind_some h12
  refine cw_join (fun (z : Int) => St.of [(0, .d (eSapiPair a0)), (5, .d (eint z)), (7, .arr 1 0)] [(1, .arr 0 25 (((([] : List ((List UInt8) × ByteArray)) ++ (piece a0 0 x1.1)) ++ [a1]).map eapiPair))]) (fun (z : Int) => o16 = z) ?_ ?_
  · intro v28 hv29; subst hv29
    obtain ⟨x22, hx23, h24⟩ := bind_some h18
    have hx23g := cutB_some hx23
    obtain ⟨x25, hx26, h27⟩ := bind_some h24
    have hx26g := fits_some hx26
    refine cw_seq (cw_region (
      .cons (o_mv rfl rfl .no rfl) <|
      .cons (o_mv rfl rfl .no rfl) <|
      .cons (o_mv rfl rfl .no rfl) <|
      .cons (o_slM (enc := eapiPair) (xs := a0) rfl rfl .no rfl sl22 sz31 (.val rfl hx23g.1) .no hx23g.2.2.1 hx23g.2.2.2) <|
      .cons (o_appM (enc := eapiPair) (xs := ((([] : List ((List UInt8) × ByteArray)) ++ (piece a0 0 x1.1)) ++ [a1])) (ys := (piece a0 o16 (a0.length : Int))) rfl rfl .no rfl rfl rfl siapiPair sl22 sl22 sz31 by31 ze31 rfl (by decide) hx26g) <|
      .cons (o_as rfl rfl .no rfl) <|
      .nil rfl
    ) ?_)
    have heq := ((Option.some.inj h27).symm).symm
    subst heq
    exact cw_ret ⟨_, (show Leads _ _ (St.of [(4, .d (eSapiPair (((([] : List ((List UInt8) × ByteArray)) ++ (piece a0 0 x1.1)) ++ [a1]) ++ (piece a0 o16 (a0.length : Int)))))] []) from .w (weak_of ⟨⟨_, rfl, .frz rfl rfl rfl⟩, trivial⟩ trivial drop0)), .inr rfl, _, res1 rfl rfl, rfl, rfl⟩
  · skip
    refine cw_seq (cw_region (
      .cons (o_mv rfl rfl .no rfl) <|
      .nil rfl
    ) ?_)
    rcases cond_some hj17 with ⟨hc19, h20⟩ | ⟨hc19, h21⟩
    · refine cw_condT rfl hc19 ?_
      refine cw_region (
        .cons (o_mv rfl rfl .no rfl) <|
        .cons (o_bin rfl rfl .no rfl rfl (b_add _ _) rfl) <|
        .cons (o_as rfl rfl .no rfl) <|
        .nil rfl
      ) ?_
      exact ⟨(IntKind.wrap .i64 (x1.1 + 1)), (Option.some.inj h20).symm, .w (weak_of ⟨⟨_, rfl, .d rfl⟩, ⟨_, rfl, .d rfl⟩, ⟨_, rfl, .arr rfl rfl⟩, trivial⟩ ⟨.arr0 rfl rfl rfl, trivial⟩ drop0)⟩
    · refine cw_condF rfl hc19 ?_
      refine cw_skip ?_
      exact ⟨x1.1, (Option.some.inj h21).symm, .w (weak_of ⟨⟨_, rfl, .d rfl⟩, ⟨_, rfl, .d rfl⟩, ⟨_, rfl, .arr rfl rfl⟩, trivial⟩ ⟨.arr0 rfl rfl rfl, trivial⟩ drop0)⟩

set_option maxRecDepth 100000 in
theorem ref09_Map_ok {a0 : List ((List UInt8) × ByteArray)} {r : (List ((List UInt8) × ByteArray))} (h : ref09_Map a0 = some r) : FnOk Tryz.prog 23 [.d (eSapiPair a0)] 0 (lk []) (fun rr oo => rr = .d (eSapiPair r) ∧ oo = lk []) := by
  refine fnOk_of Tryz.func23 rfl rfl (cw_post ?_)
  unfold ref09_Map at h
  refine cw_seq (cw_region (
    .cons (o_as rfl rfl .no rfl) <|
    .nil rfl
  ) ?_)
  refine cw_seq (cw_region (
    .cons (o_as rfl rfl .no rfl) <|
    .nil rfl
  ) ?_)
  obtain ⟨o34, hj35, h36⟩ := bind_some h
  refine cw_join (fun (z : (List ((List UInt8) × ByteArray))) => St.of [(3, .d (eSapiPair z))] []) (fun (z : (List ((List UInt8) × ByteArray))) => o34 = z) ?_ ?_
  · intro v70 hv71; subst hv71
    refine cw_seq (cw_region (
      .cons (o_mv rfl rfl .no rfl) <|
      .cons (o_as rfl rfl .no rfl) <|
      .nil rfl
    ) ?_)
    have heq := ((Option.some.inj h36).symm).symm
    subst heq
    exact cw_ret ⟨_, (show Leads _ _ (St.of [(2, .d (eSapiPair o34))] []) from .w (weak_of ⟨⟨_, rfl, .d rfl⟩, trivial⟩ trivial drop0)), .inr rfl, _, res1 rfl rfl, rfl, rfl⟩
  · skip
    refine cw_seq (cw_region (
      .cons (o_as rfl rfl .no rfl) <|
      .nil rfl
    ) ?_)
    refine cw_block ?_
    refine cw_while (V := ((List ((List UInt8) × ByteArray)) × Int)) (O := (List ((List UInt8) × ByteArray))) (fun (z : ((List ((List UInt8) × ByteArray)) × Int)) => St.of [(0, .d (eSapiPair a0)), (3, .d (eSapiPair z.1)), (4, .d (eint z.2))] []) hj35 (.w (weak_of ⟨⟨_, rfl, .d rfl⟩, ⟨_, rfl, .nil0⟩, ⟨_, rfl, .d rfl⟩, trivial⟩ trivial drop0)) ?_
    intro v57 x58 hb59 hx60
    refine cw_seq ?_
    refine cw_seq (cw_region (
      .cons (o_mv rfl rfl .no rfl) <|
      .cons (o_mv rfl rfl .no rfl) <|
      .cons (o_lenM (enc := eapiPair) (xs := a0) rfl rfl .no rfl sl22) <|
      .cons (o_bin rfl rfl .no rfl rfl (b_lss _ _) rfl) <|
      .nil rfl
    ) ?_)
    rcases cond_some hb59 with ⟨hc61, h62⟩ | ⟨hc61, h63⟩
    · refine cw_condT rfl hc61 ?_
      refine cw_skip ?_
      refine cw_seq ?_
      refine cw_block ?_
      obtain ⟨x64, hx65, h66⟩ := bind_some h62
      have hx65g := gx_some hx65
      obtain ⟨x67, hx68, h69⟩ := bind_some (x := ref09_put v57.1 x64) h66
      refine cw_region (
        .cons (o_mv rfl rfl .no rfl) <|
        .cons (o_mv rfl rfl .no rfl) <|
        .cons (o_mv rfl rfl .no rfl) <|
        .cons (o_ixM (enc := eapiPair) (xs := a0) rfl rfl .no rfl rfl sl22 sz31 hx65g.1 hx65g.2) <|
        .cons (o_ld rfl rfl .no rfl ta31 rfl rfl) <|
        .cons (o_call rfl rfl .no Tryz.func42 rfl rfl (ref09_put_ok hx68) (.cons rfl .d (.cons rfl .d .nil)) ⟨trivial, trivial, trivial⟩ (.inl rfl)) <|
        .cons (o_as rfl rfl .no rfl) <|
        .nil rfl
      ) ?_
      refine cw_region (
        .cons (o_mv rfl rfl .no rfl) <|
        .cons (o_bin rfl rfl .no rfl rfl (b_add _ _) rfl) <|
        .cons (o_as rfl rfl .no rfl) <|
        .nil rfl
      ) ?_
      exact ⟨(x67, (IntKind.wrap .i64 (v57.2 + 1))), (Option.some.inj h69).symm, .w (weak_of ⟨⟨_, rfl, .d rfl⟩, ⟨_, rfl, .d rfl⟩, ⟨_, rfl, .d rfl⟩, trivial⟩ trivial drop0)⟩
    · refine cw_condF rfl hc61 ?_
      refine cw_exit ?_
      exact ⟨v57.1, (hx60 _ (Option.some.inj h63).symm).symm, .w (weak_of ⟨⟨_, rfl, .d rfl⟩, trivial⟩ trivial drop0)⟩

set_option maxRecDepth 100000 in
theorem ref09_Map_a_ok {a0 : List ((List UInt8) × ByteArray)} {r : ((List ((List UInt8) × ByteArray)) × (List ((List UInt8) × ByteArray)))} (h : ref09_Map_a a0 = some r) (u0 : Nat) : FnOk Tryz.prog 23 [.arr 0 u0] 1 (lk [(0, .arr u0 25 (List.map eapiPair a0))]) (fun rr oo => rr = .d (eSapiPair r.1) ∧ oo = lk [(0, .arr u0 25 (r.2.map eapiPair))]) := by
  refine fnOk_of Tryz.func23 rfl rfl (cw_post ?_)
  unfold ref09_Map_a at h
  refine cw_seq (cw_region (
    .cons (o_as rfl rfl .no rfl) <|
    .nil rfl
  ) ?_)
  refine cw_seq (cw_region (
    .cons (o_as rfl rfl .no rfl) <|
    .nil rfl
  ) ?_)
  obtain ⟨o34, hj35, h36⟩ := bind_some h
  refine cw_join (fun (z : (List ((List UInt8) × ByteArray))) => St.of [(3, .d (eSapiPair z))] [(0, .arr u0 25 (a0.map eapiPair))]) (fun (z : (List ((List UInt8) × ByteArray))) => o34 = z) ?_ ?_
  · intro v70 hv71; subst hv71
    refine cw_seq (cw_region (
      .cons (o_mv rfl rfl .no rfl) <|
      .cons (o_as rfl rfl .no rfl) <|
      .nil rfl
    ) ?_)
    have heq := ((Option.some.inj h36).symm).symm
    subst heq
    exact cw_ret ⟨_, (show Leads _ _ (St.of [(2, .d (eSapiPair o34))] [(0, .arr u0 25 (a0.map eapiPair))]) from .w (weak_of ⟨⟨_, rfl, .d rfl⟩, trivial⟩ ⟨.arr rfl rfl, trivial⟩ (dropK rfl))), .inr rfl, _, res1 rfl rfl, rfl, rfl⟩
  · skip
    refine cw_seq (cw_region (
      .cons (o_as rfl rfl .no rfl) <|
      .nil rfl
    ) ?_)
    refine cw_block ?_
    refine cw_while (V := ((List ((List UInt8) × ByteArray)) × Int)) (O := (List ((List UInt8) × ByteArray))) (fun (z : ((List ((List UInt8) × ByteArray)) × Int)) => St.of [(0, .arr 0 u0), (3, .d (eSapiPair z.1)), (4, .d (eint z.2))] [(0, .arr u0 25 (a0.map eapiPair))]) hj35 (.w (weak_of ⟨⟨_, rfl, .arr rfl rfl⟩, ⟨_, rfl, .nil0⟩, ⟨_, rfl, .d rfl⟩, trivial⟩ ⟨.arr rfl rfl, trivial⟩ (dropK rfl))) ?_
    intro v57 x58 hb59 hx60
    refine cw_seq ?_
    refine cw_seq (cw_region (
      .cons (o_mv rfl rfl .no rfl) <|
      .cons (o_mv rfl rfl .no rfl) <|
      .cons (o_lenAM (enc := eapiPair) (xs := a0) rfl rfl .no rfl rfl sl22) <|
      .cons (o_bin rfl rfl .no rfl rfl (b_lss _ _) rfl) <|
      .nil rfl
    ) ?_)
    rcases cond_some hb59 with ⟨hc61, h62⟩ | ⟨hc61, h63⟩
    · refine cw_condT rfl hc61 ?_
      refine cw_skip ?_
      refine cw_seq ?_
      refine cw_block ?_
      obtain ⟨x64, hx65, h66⟩ := bind_some h62
      have hx65g := gx_some hx65
      obtain ⟨x67, hx68, h69⟩ := bind_some (x := ref09_put v57.1 x64) h66
      refine cw_region (
        .cons (o_mv rfl rfl .no rfl) <|
        .cons (o_mv rfl rfl .no rfl) <|
        .cons (o_mv rfl rfl .no rfl) <|
        .cons (o_ixAM (enc := eapiPair) (xs := a0) rfl rfl .no rfl rfl rfl sl22 sz31 hx65g.1 hx65g.2) <|
        .cons (o_ldEM (enc := eapiPair) (xs := a0) (r := x64) [] rfl rfl .no rfl rfl hx65g.2 rfl ta31 rfl rfl) <|
        .cons (o_call rfl rfl .no Tryz.func42 rfl rfl (ref09_put_ok hx68) (.cons rfl .d (.cons rfl .d .nil)) ⟨trivial, trivial, trivial⟩ (.inl rfl)) <|
        .cons (o_as rfl rfl .no rfl) <|
        .nil rfl
      ) ?_
      refine cw_region (
        .cons (o_mv rfl rfl .no rfl) <|
        .cons (o_bin rfl rfl .no rfl rfl (b_add _ _) rfl) <|
        .cons (o_as rfl rfl .no rfl) <|
        .nil rfl
      ) ?_
      exact ⟨(x67, (IntKind.wrap .i64 (v57.2 + 1))), (Option.some.inj h69).symm, .w (weak_of ⟨⟨_, rfl, .arr rfl rfl⟩, ⟨_, rfl, .d rfl⟩, ⟨_, rfl, .d rfl⟩, trivial⟩ ⟨.arr rfl rfl, trivial⟩ (dropK rfl))⟩
    · refine cw_condF rfl hc61 ?_
      refine cw_exit ?_
      exact ⟨v57.1, (hx60 _ (Option.some.inj h63).symm).symm, .w (weak_of ⟨⟨_, rfl, .d rfl⟩, trivial⟩ ⟨.arr rfl rfl, trivial⟩ (dropK rfl))⟩

set_option maxRecDepth 100000 in
theorem ref09_Get_ok {a0 : List ((List UInt8) × ByteArray)} {a1 : List UInt8} {r : (ByteArray × Bool)} (h : ref09_Get a0 a1 = some r) : FnOk Tryz.prog 49 [.d (eSapiPair a0), .d (eapiKey a1)] 0 (lk []) (fun rr oo => rr = .tup [.d (estring r.1), .d (ebool r.2)] ∧ oo = lk []) := by
  refine fnOk_of Tryz.func49 rfl rfl (cw_post ?_)
  unfold ref09_Get at h
  refine cw_seq (cw_region (
    .cons (o_box 0 rfl rfl .no rfl rfl rfl) <|
    .cons (o_as rfl rfl .no rfl) <|
    .cons (o_as rfl rfl .no rfl) <|
    .nil rfl
  ) ?_)
  obtain ⟨x1, hx2, h3⟩ := bind_some (x := ref09_find a0 a1) h
  refine cw_seq (cw_region (
    .cons (o_mv rfl rfl .no rfl) <|
    .cons (o_ldP [] rfl rfl .no rfl rfl rfl ta29 rfl rfl) <|
    .cons (o_call rfl rfl .no Tryz.func61 rfl rfl (ref09_find_ok hx2) (.cons rfl .d (.cons rfl .d .nil)) ⟨trivial, trivial, trivial⟩ (.inl rfl)) <|
    .cons (o_mv rfl rfl .no rfl) <|
    .cons (o_ext rfl rfl .no rfl rfl) <|
    .cons (o_ext rfl rfl .no rfl rfl) <|
    .cons (o_as rfl rfl .no rfl) <|
    .cons (o_as rfl rfl .no rfl) <|
    .nil rfl
  ) ?_)
  refine cw_seq ?_
  refine cw_seq (cw_region (
    .cons (o_mv rfl rfl .no rfl) <|
    .cons (o_not rfl rfl .no rfl) <|
    .nil rfl
  ) ?_)
  rcases cond_some h3 with ⟨hc4, h5⟩ | ⟨hc4, h6⟩
  · refine cw_condT rfl hc4 ?_
    refine cw_seq (cw_region (
      .cons (o_as rfl rfl .no rfl) <|
      .cons (o_as rfl rfl .no rfl) <|
      .nil rfl
    ) ?_)
    have heq := ((Option.some.inj h5).symm).symm
    subst heq
    exact cw_ret ⟨_, (show Leads _ _ (St.of [(4, .d (estring (ByteArray.mk #[]))), (5, .d (ebool false))] []) from .w (weak_of ⟨⟨_, rfl, .d rfl⟩, ⟨_, rfl, .d rfl⟩, trivial⟩ trivial drop0)), .inr rfl, _, res2 rfl rfl rfl, rfl, rfl⟩
  · refine cw_condF rfl hc4 ?_
    refine cw_skip ?_
    obtain ⟨x7, hx8, h9⟩ := bind_some h6
    have hx8g := gx_some hx8
    refine cw_seq (cw_region (
      .cons (o_mv rfl rfl .no rfl) <|
      .cons (o_mv rfl rfl .no rfl) <|
      .cons (o_ixM (enc := eapiPair) (xs := a0) rfl rfl .no rfl rfl sl22 sz31 hx8g.1 hx8g.2) <|
      .cons (o_fld rfl rfl .no rfl fld31_1 (by decide) rfl rfl) <|
      .cons (o_ld rfl rfl .no rfl ta9 rfl rfl) <|
      .cons (o_as rfl rfl .no rfl) <|
      .cons (o_as rfl rfl .no rfl) <|
      .nil rfl
    ) ?_)
    have heq := ((Option.some.inj h9).symm).symm
    subst heq
    exact cw_ret ⟨_, (show Leads _ _ (St.of [(4, .d (estring x7.2)), (5, .d (ebool true))] []) from .w (weak_of ⟨⟨_, rfl, .d rfl⟩, ⟨_, rfl, .d rfl⟩, trivial⟩ trivial drop0)), .inr rfl, _, res2 rfl rfl rfl, rfl, rfl⟩

set_option maxRecDepth 100000 in
theorem ref09_Apply_ok {a0 : List ((List UInt8) × ByteArray)} {a1 : List ((List UInt8) × ByteArray × Bool)} {r : (List ((List UInt8) × ByteArray))} (h : ref09_Apply a0 a1 = some r) : FnOk Tryz.prog 68 [.d (eSapiPair a0), .d (eSapiChange a1)] 0 (lk []) (fun rr oo => rr = .d (eSapiPair r) ∧ oo = lk []) := by
  refine fnOk_of Tryz.func68 rfl rfl (cw_post ?_)
  unfold ref09_Apply at h
  refine cw_seq (cw_region (
    .cons (o_as rfl rfl .no rfl) <|
    .nil rfl
  ) ?_)
  obtain ⟨x1, hx2, h3⟩ := bind_some (x := ref09_Map a0) h
  refine cw_seq (cw_region (
    .cons (o_mv rfl rfl .no rfl) <|
    .cons (o_call rfl rfl .no Tryz.func23 rfl rfl (ref09_Map_ok hx2) (.cons rfl .d .nil) ⟨trivial, trivial⟩ (.inl rfl)) <|
    .cons (o_as rfl rfl .no rfl) <|
    .nil rfl
  ) ?_)
  obtain ⟨o196, hj197, h198⟩ := bind_some h3
  refine cw_join (fun (z : (List ((List UInt8) × ByteArray))) => St.of [(5, .d (eSapiPair z))] []) (fun (z : (List ((List UInt8) × ByteArray))) => o196 = z) ?_ ?_
  · intro v391 hv392; subst hv392
    refine cw_seq (cw_region (
      .cons (o_mv rfl rfl .no rfl) <|
      .cons (o_as rfl rfl .no rfl) <|
      .nil rfl
    ) ?_)
    have heq := ((Option.some.inj h198).symm).symm
    subst heq
    exact cw_ret ⟨_, (show Leads _ _ (St.of [(4, .d (eSapiPair o196))] []) from .w (weak_of ⟨⟨_, rfl, .d rfl⟩, trivial⟩ trivial drop0)), .inr rfl, _, res1 rfl rfl, rfl, rfl⟩
  · skip
    refine cw_seq (cw_region (
      .cons (o_as rfl rfl .no rfl) <|
      .nil rfl
    ) ?_)
    refine cw_block ?_
    refine cw_while (V := ((List ((List UInt8) × ByteArray)) × Int)) (O := (List ((List UInt8) × ByteArray))) (fun (z : ((List ((List UInt8) × ByteArray)) × Int)) => St.of [(1, .d (eSapiChange a1)), (5, .d (eSapiPair z.1)), (6, .d (eint z.2))] []) hj197 (.w (weak_of ⟨⟨_, rfl, .d rfl⟩, ⟨_, rfl, .d rfl⟩, ⟨_, rfl, .d rfl⟩, trivial⟩ trivial drop0)) ?_
    intro v325 x326 hb327 hx328
    refine cw_seq ?_
    refine cw_seq (cw_region (
      .cons (o_mv rfl rfl .no rfl) <|
      .cons (o_mv rfl rfl .no rfl) <|
      .cons (o_lenM (enc := eapiChange) (xs := a1) rfl rfl .no rfl sl37) <|
      .cons (o_bin rfl rfl .no rfl rfl (b_lss _ _) rfl) <|
      .nil rfl
    ) ?_)
    rcases cond_some hb327 with ⟨hc329, h330⟩ | ⟨hc329, h331⟩
    · refine cw_condT rfl hc329 ?_
      refine cw_skip ?_
      obtain ⟨o359, hj360, h361⟩ := bind_some h330
      refine cw_join (fun (z : (List ((List UInt8) × ByteArray))) => St.of [(1, .d (eSapiChange a1)), (5, .d (eSapiPair z)), (6, .d (eint v325.2))] []) (fun (z : (List ((List UInt8) × ByteArray))) => o359 = z) ?_ ?_
      · intro v389 hv390; subst hv390
        refine cw_region (
          .cons (o_mv rfl rfl .no rfl) <|
          .cons (o_bin rfl rfl .no rfl rfl (b_add _ _) rfl) <|
          .cons (o_as rfl rfl .no rfl) <|
          .nil rfl
        ) ?_
        exact ⟨(o359, (IntKind.wrap .i64 (v325.2 + 1))), (Option.some.inj h361).symm, .w (weak_of ⟨⟨_, rfl, .d rfl⟩, ⟨_, rfl, .d rfl⟩, ⟨_, rfl, .d rfl⟩, trivial⟩ trivial drop0)⟩
      · skip
        refine cw_block ?_
        obtain ⟨x362, hx363, h364⟩ := bind_some hj360
        have hx363g := gx_some hx363
        obtain ⟨x365, hx366, h367⟩ := bind_some (x := ref09_find v325.1 x362.1) h364
        refine cw_seq (cw_region (
          .cons (o_mv rfl rfl .no rfl) <|
          .cons (o_mv rfl rfl .no rfl) <|
          .cons (o_mv rfl rfl .no rfl) <|
          .cons (o_ixM (enc := eapiChange) (xs := a1) rfl rfl .no rfl rfl sl37 sz52 hx363g.1 hx363g.2) <|
          .cons (o_fld rfl rfl .no rfl fld52_0 (by decide) rfl rfl) <|
          .cons (o_ld rfl rfl .no rfl ta29 rfl rfl) <|
          .cons (o_call rfl rfl .no Tryz.func61 rfl rfl (ref09_find_ok hx366) (.cons rfl .d (.cons rfl .d .nil)) ⟨trivial, trivial, trivial⟩ (.inl rfl)) <|
          .cons (o_mv rfl rfl .no rfl) <|
          .cons (o_ext rfl rfl .no rfl rfl) <|
          .cons (o_ext rfl rfl .no rfl rfl) <|
          .cons (o_as rfl rfl .no rfl) <|
          .cons (o_as rfl rfl .no rfl) <|
          .nil rfl
        ) ?_)
        refine cw_seq (cw_region (
          .cons (o_mv rfl rfl .no rfl) <|
          .cons (o_mv rfl rfl .no rfl) <|
          .cons (o_ixM (enc := eapiChange) (xs := a1) rfl rfl .no rfl rfl sl37 sz52 hx363g.1 hx363g.2) <|
          .cons (o_fld rfl rfl .no rfl fld52_2 (by decide) rfl rfl) <|
          .cons (o_ld rfl rfl .no rfl ta4 rfl rfl) <|
          .cons (o_not rfl rfl .no rfl) <|
          .nil rfl
        ) ?_)
        rcases cond_some h367 with ⟨hc368, h369⟩ | ⟨hc368, h370⟩
        · refine cw_condT rfl hc368 ?_
          obtain ⟨x371, hx372, h373⟩ := bind_some (x := ref09_put v325.1 (x362.1, x362.2.1)) h369
          refine cw_region_any mixed (by kernel_rfl) (
            .cons (o_mv rfl rfl .no rfl) <|
            .cons (o_mv rfl rfl .no rfl) <|
            .cons (o_mv rfl rfl .no rfl) <|
            .cons (o_ixM (enc := eapiChange) (xs := a1) rfl rfl .no rfl rfl sl37 sz52 hx363g.1 hx363g.2) <|
            .cons (o_fld rfl rfl .no rfl fld52_0 (by decide) rfl rfl) <|
            .cons (o_ld rfl rfl .no rfl ta29 rfl rfl) <|
            .cons (o_mv rfl rfl .no rfl) <|
            .cons (o_mv rfl rfl .no rfl) <|
            .cons (o_ixM (enc := eapiChange) (xs := a1) rfl rfl .no rfl rfl sl37 sz52 hx363g.1 hx363g.2) <|
            .cons (o_fld rfl rfl .no rfl fld52_1 (by decide) rfl rfl) <|
            .cons (o_ld rfl rfl .no rfl ta9 rfl rfl) <|
            .cons (o_bld (ds := [eapiKey x362.1, estring x362.2.1]) rfl rfl .no zs31 rfl pl31 (.cons rfl rfl rfl rfl rfl rfl rfl (.cons rfl rfl rfl rfl rfl rfl rfl .nil))) <|
            .cons (o_call rfl rfl .no Tryz.func42 rfl rfl (ref09_put_ok hx372) (.cons rfl .d (.cons rfl .d .nil)) ⟨trivial, trivial, trivial⟩ (.inl rfl)) <|
            .cons (o_as rfl rfl .no rfl) <|
            .nil rfl
          ) (by kernel_rfl) ?_
          exact ⟨x371, (Option.some.inj h373).symm, .w (weak_of ⟨⟨_, rfl, .d rfl⟩, ⟨_, rfl, .d rfl⟩, ⟨_, rfl, .d rfl⟩, trivial⟩ trivial drop0)⟩
        · refine cw_condF rfl hc368 ?_
          refine cw_seq (cw_region (
            .cons (o_mv rfl rfl .no rfl) <|
            .nil rfl
          ) ?_)
          rcases cond_some h370 with ⟨hc374, h375⟩ | ⟨hc374, h376⟩
          · refine cw_condT rfl hc374 ?_
            obtain ⟨x377, hx378, h379⟩ := bind_some h375
            have hx378g := cutB_some hx378
            obtain ⟨x380, hx381, h382⟩ := bind_some h379
            have hx381g := fits_some hx381
            obtain ⟨x383, hx384, h385⟩ := bind_some h382
            have hx384g := cutB_some hx384
            obtain ⟨x386, hx387, h388⟩ := bind_some h385
            have hx387g := fits_some hx387
            refine cw_region_any mixed (by kernel_rfl) (
              .cons (o_bslO (rows := ([] : List ((List UInt8) × ByteArray)).map eapiPair) 0 rfl rfl .no .nil rfl sl22 sz31 ze31 rfl (map_sz siapiPair) (by decide) rfl) <|
              .cons (o_mv rfl rfl .no rfl) <|
              .cons (o_mv rfl rfl .no rfl) <|
              .cons (o_slM (enc := eapiPair) (xs := v325.1) rfl rfl .no rfl sl22 sz31 .no (.val rfl hx378g.2.1) hx378g.2.2.1 hx378g.2.2.2) <|
              .cons (o_appM (enc := eapiPair) (xs := ([] : List ((List UInt8) × ByteArray))) (ys := (piece v325.1 0 x365.1)) rfl rfl .no rfl rfl rfl siapiPair sl22 sl22 sz31 by31 ze31 rfl (by decide) hx381g) <|
              .cons (o_mv rfl rfl .no rfl) <|
              .cons (o_mv rfl rfl .no rfl) <|
              .cons (o_bin rfl rfl .no rfl rfl (b_add _ _) rfl) <|
              .cons (o_slM (enc := eapiPair) (xs := v325.1) rfl rfl .no rfl sl22 sz31 (.val rfl hx384g.1) .no hx384g.2.2.1 hx384g.2.2.2) <|
              .cons (o_appM (enc := eapiPair) (xs := (([] : List ((List UInt8) × ByteArray)) ++ (piece v325.1 0 x365.1))) (ys := (piece v325.1 (IntKind.wrap .i64 (x365.1 + 1)) (v325.1.length : Int))) rfl rfl .no rfl rfl rfl siapiPair sl22 sl22 sz31 by31 ze31 rfl (by decide) hx387g) <|
              .cons (o_as rfl rfl .no rfl) <|
              .nil rfl
            ) (by kernel_rfl) ?_
            exact ⟨((([] : List ((List UInt8) × ByteArray)) ++ (piece v325.1 0 x365.1)) ++ (piece v325.1 (IntKind.wrap .i64 (x365.1 + 1)) (v325.1.length : Int))), (Option.some.inj h388).symm, .w (weak_of ⟨⟨_, rfl, .d rfl⟩, ⟨_, rfl, .frz rfl rfl rfl⟩, ⟨_, rfl, .d rfl⟩, trivial⟩ trivial drop0)⟩
          · refine cw_condF rfl hc374 ?_
            refine cw_skip ?_
            exact ⟨v325.1, (Option.some.inj h376).symm, .w (weak_of ⟨⟨_, rfl, .d rfl⟩, ⟨_, rfl, .d rfl⟩, ⟨_, rfl, .d rfl⟩, trivial⟩ trivial drop0)⟩
    · refine cw_condF rfl hc329 ?_
      refine cw_exit ?_
      exact ⟨v325.1, (hx328 _ (Option.some.inj h331).symm).symm, .w (weak_of ⟨⟨_, rfl, .d rfl⟩, trivial⟩ trivial drop0)⟩

set_option maxRecDepth 100000 in
theorem ref09_with_ok {a0 : List ((List UInt8) × ByteArray × Bool)} {a1 : ((List UInt8) × ByteArray × Bool)} {r : (List ((List UInt8) × ByteArray × Bool))} (h : ref09_with a0 a1 = some r) : FnOk Tryz.prog 62 [.d (eSapiChange a0), .d (eapiChange a1)] 0 (lk []) (fun rr oo => rr = .d (eSapiChange r) ∧ oo = lk []) := by
  refine fnOk_of Tryz.func62 rfl rfl (cw_post ?_)
  unfold ref09_with at h
  refine cw_seq (cw_region (
    .cons (o_box 0 rfl rfl .no rfl rfl rfl) <|
    .cons (o_as rfl rfl .no rfl) <|
    .nil rfl
  ) ?_)
  obtain ⟨o4, hj5, h6⟩ := bind_some h
  refine cw_join (fun (z : ((List UInt8) × ByteArray × Bool)) => St.of [(0, .d (eSapiChange a0)), (3, .ptr 0 0)] [(0, .box (.d (eapiChange z)))]) (fun (z : ((List UInt8) × ByteArray × Bool)) => o4 = z) ?_ ?_
  · intro v159 hv160; subst hv160
    refine cw_seq (cw_region (
      .cons (o_as rfl rfl .no rfl) <|
      .nil rfl
    ) ?_)
    obtain ⟨o52, hj53, h54⟩ := bind_some h6
    refine cw_join (fun (z : Int) => St.of [(0, .d (eSapiChange a0)), (3, .ptr 0 0), (5, .d (eint z))] [(0, .box (.d (eapiChange o4)))]) (fun (z : Int) => o52 = z) ?_ ?_
    · intro v157 hv158; subst hv158
      obtain ⟨x97, hx98, h99⟩ := bind_some h54
      have hx98g := cutB_some hx98
      obtain ⟨x100, hx101, h102⟩ := bind_some h99
      have hx101g := fits_some hx101
      refine cw_seq (cw_region (
        .cons (o_bslO (rows := ([] : List ((List UInt8) × ByteArray × Bool)).map eapiChange) 1 rfl rfl .no .nil rfl sl37 sz52 ze52 rfl (map_sz siapiChange) (by decide) rfl) <|
        .cons (o_mv rfl rfl .no rfl) <|
        .cons (o_mv rfl rfl .no rfl) <|
        .cons (o_slM (enc := eapiChange) (xs := a0) rfl rfl .no rfl sl37 sz52 .no (.val rfl hx98g.2.1) hx98g.2.2.1 hx98g.2.2.2) <|
        .cons (o_appM (enc := eapiChange) (xs := ([] : List ((List UInt8) × ByteArray × Bool))) (ys := (piece a0 0 o52)) rfl rfl .no rfl rfl rfl siapiChange sl37 sl37 sz52 by52 ze52 rfl (by decide) hx101g) <|
        .cons (o_as rfl rfl .no rfl) <|
        .nil rfl
      ) ?_)
      obtain ⟨x103, hx104, h105⟩ := bind_some h102
      have hx104g := fits_some hx104
      refine cw_seq (cw_region (
        .cons (o_mv rfl rfl .no rfl) <|
        .cons (o_ldP [] rfl rfl .no rfl rfl rfl ta52 rfl rfl) <|
        .cons (o_bsl (rows := ([o4] : List ((List UInt8) × ByteArray × Bool)).map eapiChange) rfl rfl .no (.cons rfl .nil) rfl sl37 sz52 ze52 rfl (map_sz siapiChange) (by decide)) <|
        .cons (o_appM (enc := eapiChange) (xs := (([] : List ((List UInt8) × ByteArray × Bool)) ++ (piece a0 0 o52))) (ys := [o4]) rfl rfl .no rfl rfl rfl siapiChange sl37 sl37 sz52 by52 ze52 rfl (by decide) hx104g) <|
        .cons (o_as rfl rfl .no rfl) <|
        .nil rfl
      ) ?_)
      obtain ⟨o126, hj127, h128⟩ := bind_some h105
      refine cw_join (fun (z : Int) => St.of [(0, .d (eSapiChange a0)), (5, .d (eint z)), (7, .arr 1 0)] [(1, .arr 0 26 (((([] : List ((List UInt8) × ByteArray × Bool)) ++ (piece a0 0 o52)) ++ [o4]).map eapiChange))]) (fun (z : Int) => o126 = z) ?_ ?_
      · intro v155 hv156; subst hv156
        obtain ⟨x149, hx150, h151⟩ := bind_some h128
        have hx150g := cutB_some hx150
        obtain ⟨x152, hx153, h154⟩ := bind_some h151
        have hx153g := fits_some hx153
        refine cw_seq (cw_region (
          .cons (o_mv rfl rfl .no rfl) <|
          .cons (o_mv rfl rfl .no rfl) <|
          .cons (o_mv rfl rfl .no rfl) <|
          .cons (o_slM (enc := eapiChange) (xs := a0) rfl rfl .no rfl sl37 sz52 (.val rfl hx150g.1) .no hx150g.2.2.1 hx150g.2.2.2) <|
          .cons (o_appM (enc := eapiChange) (xs := ((([] : List ((List UInt8) × ByteArray × Bool)) ++ (piece a0 0 o52)) ++ [o4])) (ys := (piece a0 o126 (a0.length : Int))) rfl rfl .no rfl rfl rfl siapiChange sl37 sl37 sz52 by52 ze52 rfl (by decide) hx153g) <|
          .cons (o_as rfl rfl .no rfl) <|
          .nil rfl
        ) ?_)
        have heq := ((Option.some.inj h154).symm).symm
        subst heq
        exact cw_ret ⟨_, (show Leads _ _ (St.of [(4, .d (eSapiChange (((([] : List ((List UInt8) × ByteArray × Bool)) ++ (piece a0 0 o52)) ++ [o4]) ++ (piece a0 o126 (a0.length : Int)))))] []) from .w (weak_of ⟨⟨_, rfl, .frz rfl rfl rfl⟩, trivial⟩ trivial drop0)), .inr rfl, _, res1 rfl rfl, rfl, rfl⟩
      · skip
        obtain ⟨o135, hj136, h137⟩ := bind_some hj127
        refine cw_join (fun (z : Bool) => St.of [(0, .d (eSapiChange a0)), (5, .d (eint o52)), (7, .arr 1 0), (49, .d (ebool z))] [(1, .arr 0 26 (((([] : List ((List UInt8) × ByteArray × Bool)) ++ (piece a0 0 o52)) ++ [o4]).map eapiChange))]) (fun (z : Bool) => o135 = z) ?_ ?_
        · intro v147 hv148; subst hv148
          rcases cond_some h137 with ⟨hc144, h145⟩ | ⟨hc144, h146⟩
          · refine cw_condT rfl hc144 ?_
            refine cw_region (
              .cons (o_mv rfl rfl .no rfl) <|
              .cons (o_bin rfl rfl .no rfl rfl (b_add _ _) rfl) <|
              .cons (o_as rfl rfl .no rfl) <|
              .nil rfl
            ) ?_
            exact ⟨(IntKind.wrap .i64 (o52 + 1)), (Option.some.inj h145).symm, .w (weak_of ⟨⟨_, rfl, .d rfl⟩, ⟨_, rfl, .d rfl⟩, ⟨_, rfl, .arr rfl rfl⟩, trivial⟩ ⟨.arr rfl rfl, trivial⟩ drop0)⟩
          · refine cw_condF rfl hc144 ?_
            refine cw_skip ?_
            exact ⟨o52, (Option.some.inj h146).symm, .w (weak_of ⟨⟨_, rfl, .d rfl⟩, ⟨_, rfl, .d rfl⟩, ⟨_, rfl, .arr rfl rfl⟩, trivial⟩ ⟨.arr rfl rfl, trivial⟩ drop0)⟩
        · skip
          rcases cond_some hj136 with ⟨hc138, h139⟩ | ⟨hc138, h140⟩
          · skip
            obtain ⟨x141, hx142, h143⟩ := bind_some h139
            have hx142g := gx_some hx142
            refine cw_region_any mixed (by kernel_rfl) (
              .cons (o_mv rfl rfl .no rfl) <|
              .cons (o_mv rfl rfl .no rfl) <|
              .cons (o_lenM (enc := eapiChange) (xs := a0) rfl rfl .no rfl sl37) <|
              .cons (o_bin rfl rfl .no rfl rfl (b_lss _ _) rfl) <|
              .cons (o_mv rfl rfl .no rfl) <|
              .cons (o_mv rfl rfl (.yes rfl rfl hc138) rfl) <|
              .cons (o_mv rfl rfl (.yes rfl rfl hc138) rfl) <|
              .cons (o_ixM (enc := eapiChange) (xs := a0) rfl rfl (.yes rfl rfl hc138) rfl rfl sl37 sz52 hx142g.1 hx142g.2) <|
              .cons (o_fld rfl rfl (.yes rfl rfl hc138) rfl fld52_0 (by decide) rfl rfl) <|
              .cons (o_ld rfl rfl (.yes rfl rfl hc138) rfl ta29 rfl rfl) <|
              .cons (o_fldP rfl rfl (.yes rfl rfl hc138) rfl fld52_0 (by decide)) <|
              .cons (o_ldP [0] rfl rfl (.yes rfl rfl hc138) rfl rfl rfl ta29 rfl rfl) <|
              .cons (o_eq rfl rfl (.yes rfl rfl hc138) rfl rfl rfl rfl eg29 (.bs ar29 un5 sz5)) <|
              .cons (o_pickT rfl rfl .no rfl hc138 rfl) <|
              .nil rfl
            ) (by kernel_rfl) ?_
            exact ⟨(decide (x141.1 = o4.1)), (Option.some.inj h143).symm, .w (weak_of ⟨⟨_, rfl, .d rfl⟩, ⟨_, rfl, .d rfl⟩, ⟨_, rfl, .arr rfl rfl⟩, ⟨_, rfl, .d rfl⟩, trivial⟩ ⟨.arr0 rfl rfl rfl, trivial⟩ drop0)⟩
          · skip
            refine cw_region_any mixed (by kernel_rfl) (
              .cons (o_mv rfl rfl .no rfl) <|
              .cons (o_mv rfl rfl .no rfl) <|
              .cons (o_lenM (enc := eapiChange) (xs := a0) rfl rfl .no rfl sl37) <|
              .cons (o_bin rfl rfl .no rfl rfl (b_lss _ _) rfl) <|
              .cons (o_mv rfl rfl .no rfl) <|
              .cons (o_noT rfl rfl rfl rfl hc138) <|
              .cons (o_noT rfl rfl rfl rfl hc138) <|
              .cons (o_noT rfl rfl rfl rfl hc138) <|
              .cons (o_noT rfl rfl rfl rfl hc138) <|
              .cons (o_noT rfl rfl rfl rfl hc138) <|
              .cons (o_noT rfl rfl rfl rfl hc138) <|
              .cons (o_noT rfl rfl rfl rfl hc138) <|
              .cons (o_noT rfl rfl rfl rfl hc138) <|
              .cons (o_pickF rfl rfl .no rfl hc138 rfl) <|
              .nil rfl
            ) (by kernel_rfl) ?_
            exact ⟨false, (Option.some.inj h140).symm, .w (weak_of ⟨⟨_, rfl, .d rfl⟩, ⟨_, rfl, .d rfl⟩, ⟨_, rfl, .arr rfl rfl⟩, ⟨_, rfl, .d rfl⟩, trivial⟩ ⟨.arr0 rfl rfl rfl, trivial⟩ drop0)⟩
    · skip
      refine cw_block ?_
      refine cw_while (V := Int) (O := Int) (fun (z : Int) => St.of [(0, .d (eSapiChange a0)), (3, .ptr 0 0), (5, .d (eint z))] [(0, .box (.d (eapiChange o4)))]) hj53 (.w (weak_of ⟨⟨_, rfl, .d rfl⟩, ⟨_, rfl, .ptr rfl rfl⟩, ⟨_, rfl, .d rfl⟩, trivial⟩ ⟨.box rfl (.d rfl), trivial⟩ drop0)) ?_
      intro v81 x82 hb83 hx84
      refine cw_seq ?_
      refine cw_seq (cw_region (
        .cons (o_mv rfl rfl .no rfl) <|
        .cons (o_mv rfl rfl .no rfl) <|
        .cons (o_lenM (enc := eapiChange) (xs := a0) rfl rfl .no rfl sl37) <|
        .cons (o_bin rfl rfl .no rfl rfl (b_lss _ _) rfl) <|
        .nil rfl
      ) ?_)
      rcases cond_some hb83 with ⟨hc85, h86⟩ | ⟨hc85, h87⟩
      · refine cw_condT rfl hc85 ?_
        refine cw_skip ?_
        refine cw_block ?_
        obtain ⟨x88, hx89, h90⟩ := bind_some h86
        have hx89g := gx_some hx89
        obtain ⟨x91, hx92, h93⟩ := bind_some (x := ref03_Less x88.1 o4.1) h90
        refine cw_seq (cw_region_any mixed (by kernel_rfl) (
          .cons (o_mv rfl rfl .no rfl) <|
          .cons (o_mv rfl rfl .no rfl) <|
          .cons (o_ixM (enc := eapiChange) (xs := a0) rfl rfl .no rfl rfl sl37 sz52 hx89g.1 hx89g.2) <|
          .cons (o_fld rfl rfl .no rfl fld52_0 (by decide) rfl rfl) <|
          .cons (o_ld rfl rfl .no rfl ta29 rfl rfl) <|
          .cons (o_fldP rfl rfl .no rfl fld52_0 (by decide)) <|
          .cons (o_ldP [0] rfl rfl .no rfl rfl rfl ta29 rfl rfl) <|
          .cons (o_call rfl rfl .no Tryz.func82 rfl rfl (ref03_Less_ok hx92) (.cons rfl .d (.cons rfl .d .nil)) ⟨trivial, trivial, trivial⟩ (.inl rfl)) <|
          .cons (o_as rfl rfl .no rfl) <|
          .nil rfl
        ) (by kernel_rfl) ?_)
        refine cw_seq ?_
        refine cw_seq (cw_region (
          .cons (o_mv rfl rfl .no rfl) <|
          .cons (o_not rfl rfl .no rfl) <|
          .nil rfl
        ) ?_)
        rcases cond_some h93 with ⟨hc94, h95⟩ | ⟨hc94, h96⟩
        · refine cw_condT rfl hc94 ?_
          refine cw_exit ?_
          exact ⟨v81, (hx84 _ (Option.some.inj h95).symm).symm, .w (weak_of ⟨⟨_, rfl, .d rfl⟩, ⟨_, rfl, .ptr rfl rfl⟩, ⟨_, rfl, .d rfl⟩, trivial⟩ ⟨.box rfl (.d rfl), trivial⟩ drop0)⟩
        · refine cw_condF rfl hc94 ?_
          refine cw_skip ?_
          refine cw_region (
            .cons (o_mv rfl rfl .no rfl) <|
            .cons (o_bin rfl rfl .no rfl rfl (b_add _ _) rfl) <|
            .cons (o_as rfl rfl .no rfl) <|
            .nil rfl
          ) ?_
          exact ⟨(IntKind.wrap .i64 (v81 + 1)), (Option.some.inj h96).symm, .w (weak_of ⟨⟨_, rfl, .d rfl⟩, ⟨_, rfl, .ptr rfl rfl⟩, ⟨_, rfl, .d rfl⟩, trivial⟩ ⟨.box rfl (.d rfl), trivial⟩ drop0)⟩
      · refine cw_condF rfl hc85 ?_
        refine cw_exit ?_
        exact ⟨v81, (hx84 _ (Option.some.inj h87).symm).symm, .w (weak_of ⟨⟨_, rfl, .d rfl⟩, ⟨_, rfl, .ptr rfl rfl⟩, ⟨_, rfl, .d rfl⟩, trivial⟩ ⟨.box rfl (.d rfl), trivial⟩ drop0)⟩
  · skip
    refine cw_seq (cw_region (
      .cons (o_fldP rfl rfl .no rfl fld52_2 (by decide)) <|
      .cons (o_ldP [2] rfl rfl .no rfl rfl rfl ta4 rfl rfl) <|
      .nil rfl
    ) ?_)
    rcases cond_some hj5 with ⟨hc7, h8⟩ | ⟨hc7, h9⟩
    · refine cw_condT rfl hc7 ?_
      refine cw_region (
        .cons (o_fldP rfl rfl .no rfl fld52_1 (by decide)) <|
        .cons (o_st [1] rfl .no rfl rfl rfl rfl rfl sz9 rfl rfl) <|
        .nil rfl
      ) ?_
      exact ⟨(a1.1, (ByteArray.mk #[]), a1.2.2), (Option.some.inj h8).symm, .w (weak_of ⟨⟨_, rfl, .d rfl⟩, ⟨_, rfl, .ptr rfl rfl⟩, trivial⟩ ⟨.box rfl (.d rfl), trivial⟩ drop0)⟩
    · refine cw_condF rfl hc7 ?_
      refine cw_skip ?_
      exact ⟨a1, (Option.some.inj h9).symm, .w (weak_of ⟨⟨_, rfl, .d rfl⟩, ⟨_, rfl, .ptr rfl rfl⟩, trivial⟩ ⟨.box rfl (.d rfl), trivial⟩ drop0)⟩

set_option maxRecDepth 100000 in
theorem ref09_Join_ok {a0 : List (List ((List UInt8) × ByteArray × Bool))} {r : (List ((List UInt8) × ByteArray × Bool))} (h : ref09_Join a0 = some r) : FnOk Tryz.prog 43 [.d (eSSapiChange a0)] 0 (lk []) (fun rr oo => rr = .d (eSapiChange r) ∧ oo = lk []) := by
  refine fnOk_of Tryz.func43 rfl rfl (cw_post ?_)
  unfold ref09_Join at h
  refine cw_seq (cw_region (
    .cons (o_as rfl rfl .no rfl) <|
    .nil rfl
  ) ?_)
  refine cw_seq (cw_region (
    .cons (o_as rfl rfl .no rfl) <|
    .nil rfl
  ) ?_)
  obtain ⟨o283, hj284, h285⟩ := bind_some h
  refine cw_join (fun (z : (List ((List UInt8) × ByteArray × Bool))) => St.of [(3, .d (eSapiChange z))] []) (fun (z : (List ((List UInt8) × ByteArray × Bool))) => o283 = z) ?_ ?_
  · intro v568 hv569; subst hv569
    refine cw_seq (cw_region (
      .cons (o_mv rfl rfl .no rfl) <|
      .cons (o_as rfl rfl .no rfl) <|
      .nil rfl
    ) ?_)
    have heq := ((Option.some.inj h285).symm).symm
    subst heq
    exact cw_ret ⟨_, (show Leads _ _ (St.of [(2, .d (eSapiChange o283))] []) from .w (weak_of ⟨⟨_, rfl, .d rfl⟩, trivial⟩ trivial drop0)), .inr rfl, _, res1 rfl rfl, rfl, rfl⟩
  · skip
    refine cw_seq (cw_region (
      .cons (o_as rfl rfl .no rfl) <|
      .nil rfl
    ) ?_)
    refine cw_block ?_
    refine cw_while (V := ((List ((List UInt8) × ByteArray × Bool)) × Int)) (O := (List ((List UInt8) × ByteArray × Bool))) (fun (z : ((List ((List UInt8) × ByteArray × Bool)) × Int)) => St.of [(0, .d (eSSapiChange a0)), (3, .d (eSapiChange z.1)), (4, .d (eint z.2))] []) hj284 (.w (weak_of ⟨⟨_, rfl, .d rfl⟩, ⟨_, rfl, .nil0⟩, ⟨_, rfl, .d rfl⟩, trivial⟩ trivial drop0)) ?_
    intro v472 x473 hb474 hx475
    refine cw_seq ?_
    refine cw_seq (cw_region (
      .cons (o_mv rfl rfl .no rfl) <|
      .cons (o_mv rfl rfl .no rfl) <|
      .cons (o_lenM (enc := eSapiChange) (xs := a0) rfl rfl .no rfl sl39) <|
      .cons (o_bin rfl rfl .no rfl rfl (b_lss _ _) rfl) <|
      .nil rfl
    ) ?_)
    rcases cond_some hb474 with ⟨hc476, h477⟩ | ⟨hc476, h478⟩
    · refine cw_condT rfl hc476 ?_
      refine cw_skip ?_
      obtain ⟨o521, hj522, h523⟩ := bind_some h477
      refine cw_join (fun (z : (List ((List UInt8) × ByteArray × Bool))) => St.of [(0, .d (eSSapiChange a0)), (3, .d (eSapiChange z)), (4, .d (eint v472.2))] []) (fun (z : (List ((List UInt8) × ByteArray × Bool))) => o521 = z) ?_ ?_
      · intro v566 hv567; subst hv567
        refine cw_region (
          .cons (o_mv rfl rfl .no rfl) <|
          .cons (o_bin rfl rfl .no rfl rfl (b_add _ _) rfl) <|
          .cons (o_as rfl rfl .no rfl) <|
          .nil rfl
        ) ?_
        exact ⟨(o521, (IntKind.wrap .i64 (v472.2 + 1))), (Option.some.inj h523).symm, .w (weak_of ⟨⟨_, rfl, .d rfl⟩, ⟨_, rfl, .d rfl⟩, ⟨_, rfl, .d rfl⟩, trivial⟩ trivial drop0)⟩
      · skip
        refine cw_block ?_
        refine cw_seq (cw_region (
          .cons (o_as rfl rfl .no rfl) <|
          .nil rfl
        ) ?_)
        refine cw_block ?_
        refine cw_while (V := ((List ((List UInt8) × ByteArray × Bool)) × Int)) (O := (List ((List UInt8) × ByteArray × Bool))) (fun (z : ((List ((List UInt8) × ByteArray × Bool)) × Int)) => St.of [(0, .d (eSSapiChange a0)), (3, .d (eSapiChange z.1)), (4, .d (eint v472.2)), (5, .d (eint z.2))] []) hj522 (.w (weak_of ⟨⟨_, rfl, .d rfl⟩, ⟨_, rfl, .d rfl⟩, ⟨_, rfl, .d rfl⟩, ⟨_, rfl, .d rfl⟩, trivial⟩ trivial drop0)) ?_
        intro v550 x551 hb552 hx553
        refine cw_seq ?_
        obtain ⟨x554, hx555, h556⟩ := bind_some hb552
        have hx555g := gx_some hx555
        refine cw_seq (cw_region (
          .cons (o_mv rfl rfl .no rfl) <|
          .cons (o_mv rfl rfl .no rfl) <|
          .cons (o_mv rfl rfl .no rfl) <|
          .cons (o_ixM (enc := eSapiChange) (xs := a0) rfl rfl .no rfl rfl sl39 sz37 hx555g.1 hx555g.2) <|
          .cons (o_ld rfl rfl .no rfl ta37 rfl rfl) <|
          .cons (o_lenM (enc := eapiChange) (xs := x554) rfl rfl .no rfl sl37) <|
          .cons (o_bin rfl rfl .no rfl rfl (b_lss _ _) rfl) <|
          .nil rfl
        ) ?_)
        rcases cond_some h556 with ⟨hc557, h558⟩ | ⟨hc557, h559⟩
        · refine cw_condT rfl hc557 ?_
          refine cw_skip ?_
          refine cw_seq ?_
          refine cw_block ?_
          obtain ⟨x560, hx561, h562⟩ := bind_some h558
          have hx561g := gx_some hx561
          obtain ⟨x563, hx564, h565⟩ := bind_some (x := ref09_with v550.1 x560) h562
          refine cw_region (
            .cons (o_mv rfl rfl .no rfl) <|
            .cons (o_mv rfl rfl .no rfl) <|
            .cons (o_mv rfl rfl .no rfl) <|
            .cons (o_ixM (enc := eSapiChange) (xs := a0) rfl rfl .no rfl rfl sl39 sz37 hx555g.1 hx555g.2) <|
            .cons (o_ld rfl rfl .no rfl ta37 rfl rfl) <|
            .cons (o_mv rfl rfl .no rfl) <|
            .cons (o_ixM (enc := eapiChange) (xs := x554) rfl rfl .no rfl rfl sl37 sz52 hx561g.1 hx561g.2) <|
            .cons (o_ld rfl rfl .no rfl ta52 rfl rfl) <|
            .cons (o_call rfl rfl .no Tryz.func62 rfl rfl (ref09_with_ok hx564) (.cons rfl .d (.cons rfl .d .nil)) ⟨trivial, trivial, trivial⟩ (.inl rfl)) <|
            .cons (o_as rfl rfl .no rfl) <|
            .nil rfl
          ) ?_
          refine cw_region (
            .cons (o_mv rfl rfl .no rfl) <|
            .cons (o_bin rfl rfl .no rfl rfl (b_add _ _) rfl) <|
            .cons (o_as rfl rfl .no rfl) <|
            .nil rfl
          ) ?_
          exact ⟨(x563, (IntKind.wrap .i64 (v550.2 + 1))), (Option.some.inj h565).symm, .w (weak_of ⟨⟨_, rfl, .d rfl⟩, ⟨_, rfl, .d rfl⟩, ⟨_, rfl, .d rfl⟩, ⟨_, rfl, .d rfl⟩, trivial⟩ trivial drop0)⟩
        · refine cw_condF rfl hc557 ?_
          refine cw_exit ?_
          exact ⟨v550.1, (hx553 _ (Option.some.inj h559).symm).symm, .w (weak_of ⟨⟨_, rfl, .d rfl⟩, ⟨_, rfl, .d rfl⟩, ⟨_, rfl, .d rfl⟩, trivial⟩ trivial drop0)⟩
    · refine cw_condF rfl hc476 ?_
      refine cw_exit ?_
      exact ⟨v472.1, (hx475 _ (Option.some.inj h478).symm).symm, .w (weak_of ⟨⟨_, rfl, .d rfl⟩, trivial⟩ trivial drop0)⟩

set_option maxRecDepth 100000 in
theorem ref03_One_okc {a0 : List UInt8} {r : ((List UInt8) × (List UInt8) × Bool)} (h : ref03_One a0 = some r) : FnOk Tryz.prog 48 [.d (eapiKey a0)] 0 (lk []) (fun rr oo => rr = .d (eapiSpan r) ∧ oo = lk [(1, .box (.d (eapiSpan r)))]) := by
  refine fnOk_of Tryz.func48 rfl rfl (cw_post ?_)
  unfold ref03_One at h
  refine cw_seq (cw_region (
    .cons (o_box 0 rfl rfl .no rfl rfl rfl) <|
    .cons (o_alloc 1 rfl rfl .no ze44 rfl) <|
    .nil rfl
  ) ?_)
  refine cw_seq (cw_region (
    .cons (o_ldP [] rfl rfl .no rfl rfl rfl ta29 rfl rfl) <|
    .cons (o_alloc 2 rfl rfl .no ze29 rfl) <|
    .cons (o_st [] rfl .no rfl rfl rfl rfl rfl sz29 rfl rfl) <|
    .nil rfl
  ) ?_)
  obtain ⟨o70, hj71, h72⟩ := bind_some h
  refine cw_join (fun (z : Unit) => St.of [(1, .ptr 0 0), (2, .ptr 1 0)] [(0, .box (.d (eapiKey a0))), (1, .box (.d (eapiSpan ((List.replicate 24 0), (List.replicate 24 0), false))))]) (fun (z : Unit) => o70 = (.inl z)) ?_ ?_
  · intro v143 hv145; subst hv145
    simp only [Sum.elim_inl] at h72
    refine cw_seq (cw_region (
      .cons (o_ldP [] rfl rfl .no rfl rfl rfl ta29 rfl rfl) <|
      .cons (o_bld (ds := [eapiKey a0, eapiKey (List.replicate 24 0), ebool true]) rfl rfl .no zs44 rfl pl44 (.cons rfl rfl rfl rfl rfl rfl rfl (.cons rfl rfl rfl rfl rfl rfl rfl .nil))) <|
      .cons (o_st [] rfl .no rfl rfl rfl rfl rfl sz44 rfl rfl) <|
      .nil rfl
    ) ?_)
    have heq := ((Option.some.inj h72).symm).symm
    subst heq
    exact cw_ret ⟨_, (show Leads _ _ (St.of [(2, .ptr 1 0)] [(1, .box (.d (eapiSpan (a0, (List.replicate 24 0), true))))]) from .w (weak_of ⟨⟨_, rfl, .ptr rfl rfl⟩, trivial⟩ ⟨.box rfl (.d rfl), trivial⟩ drop0)), .inr rfl, _, resC rfl rfl rfl ta44 rfl rfl, rfl, rfl⟩
  · skip
    refine cw_seq (cw_region (
      .cons (o_as rfl rfl .no rfl) <|
      .nil rfl
    ) ?_)
    refine cw_block ?_
    refine cw_while (V := (Int × (List UInt8))) (O := (Unit ⊕ ((List UInt8) × (List UInt8) × Bool))) (fun (z : (Int × (List UInt8))) => St.of [(1, .ptr 0 0), (2, .ptr 1 0), (3, .ptr 2 0), (4, .d (eint z.1))] [(0, .box (.d (eapiKey a0))), (1, .box (.d (eapiSpan ((List.replicate 24 0), (List.replicate 24 0), false)))), (2, .box (.d (eapiKey z.2)))]) hj71 (.w (weak_of ⟨⟨_, rfl, .ptr rfl rfl⟩, ⟨_, rfl, .ptr rfl rfl⟩, ⟨_, rfl, .ptr rfl rfl⟩, ⟨_, rfl, .d rfl⟩, trivial⟩ ⟨.box rfl (.d rfl), .box rfl (.d rfl), .box rfl (.d rfl), trivial⟩ drop0)) ?_
    intro v117 x118 hb119 hx120
    refine cw_seq ?_
    refine cw_seq (cw_region (
      .cons (o_mv rfl rfl .no rfl) <|
      .cons (o_bin rfl rfl .no rfl rfl (b_geq _ _) rfl) <|
      .nil rfl
    ) ?_)
    rcases cond_some hb119 with ⟨hc121, h122⟩ | ⟨hc121, h123⟩
    · refine cw_condT rfl hc121 ?_
      refine cw_skip ?_
      refine cw_seq ?_
      refine cw_block ?_
      obtain ⟨x124, hx125, h126⟩ := bind_some h122
      have hx125g := ck_dec hx125
      obtain ⟨x127, hx128, h129⟩ := bind_some h126
      have hx128g := gx_some hx128
      obtain ⟨x130, hx131, h132⟩ := bind_some h129
      have hx131g := ck_dec hx131
      obtain ⟨x133, hx134, h135⟩ := bind_some h132
      have hx134g := ck_dec hx134
      refine cw_seq (cw_region (
        .cons (o_mv rfl rfl .no rfl) <|
        .cons (o_mv rfl rfl .no rfl) <|
        .cons (o_ixP rfl rfl .no rfl rfl ar29 sz5 hx125g) <|
        .cons (o_ldB (l := v117.2) [] rfl rfl .no rfl rfl rfl hx128g.2 ta5) <|
        .cons (o_bin rfl rfl .no rfl rfl (b_add _ _) rfl) <|
        .cons (o_ixP rfl rfl .no rfl rfl ar29 sz5 hx125g) <|
        .cons (o_stB (l := v117.2) [] rfl .no rfl rfl rfl rfl hx131g hx134g sz5) <|
        .nil rfl
      ) ?_)
      obtain ⟨x136, hx137, h138⟩ := bind_some h135
      have hx137g := gx_some hx137
      refine cw_seq (cw_region (
        .cons (o_mv rfl rfl .no rfl) <|
        .cons (o_ixP rfl rfl .no rfl rfl ar29 sz5 hx125g) <|
        .cons (o_ldB (l := (List.set v117.2 v117.1.toNat (UInt8.ofNat (IntKind.wrap .u8 ((x127.toNat : Int) + 1)).toNat))) [] rfl rfl .no rfl rfl rfl hx137g.2 ta5) <|
        .cons (o_bin rfl rfl .no rfl rfl (b_neq _ _) rfl) <|
        .nil rfl
      ) ?_)
      rcases cond_some h138 with ⟨hc139, h140⟩ | ⟨hc139, h141⟩
      · refine cw_condT rfl hc139 ?_
        refine cw_seq (cw_region (
          .cons (o_ldP [] rfl rfl .no rfl rfl rfl ta29 rfl rfl) <|
          .cons (o_ldP [] rfl rfl .no rfl rfl rfl ta29 rfl rfl) <|
          .cons (o_bld (ds := [eapiKey a0, eapiKey (List.set v117.2 v117.1.toNat (UInt8.ofNat (IntKind.wrap .u8 ((x127.toNat : Int) + 1)).toNat)), ebool false]) rfl rfl .no zs44 rfl pl44 (.cons rfl rfl rfl rfl rfl rfl rfl (.cons rfl rfl rfl rfl rfl rfl rfl .nil))) <|
          .cons (o_st [] rfl .no rfl rfl rfl rfl rfl sz44 rfl rfl) <|
          .nil rfl
        ) ?_)
        have he142 := ((hx120 _ (Option.some.inj h140).symm).symm).symm
        subst he142
        have heq := ((Option.some.inj h72).symm).symm
        subst heq
        exact cw_ret ⟨_, (show Leads _ _ (St.of [(2, .ptr 1 0)] [(1, .box (.d (eapiSpan (a0, (List.set v117.2 v117.1.toNat (UInt8.ofNat (IntKind.wrap .u8 ((x127.toNat : Int) + 1)).toNat)), false))))]) from .w (weak_of ⟨⟨_, rfl, .ptr rfl rfl⟩, trivial⟩ ⟨.box rfl (.d rfl), trivial⟩ drop0)), .inr rfl, _, resC rfl rfl rfl ta44 rfl rfl, rfl, rfl⟩
      · refine cw_condF rfl hc139 ?_
        refine cw_skip ?_
        refine cw_region (
          .cons (o_mv rfl rfl .no rfl) <|
          .cons (o_bin rfl rfl .no rfl rfl (b_sub _ _) rfl) <|
          .cons (o_as rfl rfl .no rfl) <|
          .nil rfl
        ) ?_
        exact ⟨((IntKind.wrap .i64 (v117.1 - 1)), (List.set v117.2 v117.1.toNat (UInt8.ofNat (IntKind.wrap .u8 ((x127.toNat : Int) + 1)).toNat))), (Option.some.inj h141).symm, .w (weak_of ⟨⟨_, rfl, .ptr rfl rfl⟩, ⟨_, rfl, .ptr rfl rfl⟩, ⟨_, rfl, .ptr rfl rfl⟩, ⟨_, rfl, .d rfl⟩, trivial⟩ ⟨.box rfl (.d rfl), .box rfl (.d rfl), .box rfl (.d rfl), trivial⟩ drop0)⟩
    · refine cw_condF rfl hc121 ?_
      refine cw_exit ?_
      exact ⟨(), (hx120 _ (Option.some.inj h123).symm).symm, .w (weak_of ⟨⟨_, rfl, .ptr rfl rfl⟩, ⟨_, rfl, .ptr rfl rfl⟩, trivial⟩ ⟨.box rfl (.d rfl), .box rfl (.d rfl), trivial⟩ drop0)⟩
theorem ref03_One_ok {a0 : List UInt8} {r : ((List UInt8) × (List UInt8) × Bool)} (h : ref03_One a0 = some r) : FnOk Tryz.prog 48 [.d (eapiKey a0)] 0 (lk []) (fun rr oo => rr = .d (eapiSpan r) ∧ oo = lk []) := fnOk_forget (ref03_One_okc h)

set_option maxRecDepth 100000 in
theorem ref08_End_ok {r : ByteArray} (h : ref08_End = some r) : FnOk Tryz.prog 92 [] 0 (lk []) (fun rr oo => rr = .d (estring r) ∧ oo = lk []) := by
  refine fnOk_of Tryz.func92 rfl rfl (cw_post ?_)
  unfold ref08_End at h
  refine cw_seq (cw_region (
    .cons (o_as rfl rfl .no rfl) <|
    .nil rfl
  ) ?_)
  refine cw_seq (cw_region (
    .cons (o_as rfl rfl .no rfl) <|
    .nil rfl
  ) ?_)
  obtain ⟨o25, hj26, h27⟩ := bind_some h
  refine cw_join (fun (z : ByteArray) => St.of [(1, .d (estring z))] []) (fun (z : ByteArray) => o25 = z) ?_ ?_
  · intro v52 hv53; subst hv53
    refine cw_seq (cw_region (
      .cons (o_mv rfl rfl .no rfl) <|
      .cons (o_as rfl rfl .no rfl) <|
      .nil rfl
    ) ?_)
    have heq := ((Option.some.inj h27).symm).symm
    subst heq
    exact cw_ret ⟨_, (show Leads _ _ (St.of [(0, .d (estring o25))] []) from .w (weak_of ⟨⟨_, rfl, .d rfl⟩, trivial⟩ trivial drop0)), .inr rfl, _, res1 rfl rfl, rfl, rfl⟩
  · skip
    refine cw_seq (cw_region (
      .cons (o_as rfl rfl .no rfl) <|
      .nil rfl
    ) ?_)
    refine cw_block ?_
    refine cw_while (V := (ByteArray × Int)) (O := ByteArray) (fun (z : (ByteArray × Int)) => St.of [(1, .d (estring z.1)), (2, .d (eint z.2))] []) hj26 (.w (weak_of ⟨⟨_, rfl, .d rfl⟩, ⟨_, rfl, .d rfl⟩, trivial⟩ trivial drop0)) ?_
    intro v42 x43 hb44 hx45
    refine cw_seq ?_
    refine cw_seq (cw_region (
      .cons (o_mv rfl rfl .no rfl) <|
      .cons (o_bin rfl rfl .no rfl rfl (b_lss _ _) rfl) <|
      .nil rfl
    ) ?_)
    rcases cond_some hb44 with ⟨hc46, h47⟩ | ⟨hc46, h48⟩
    · refine cw_condT rfl hc46 ?_
      refine cw_skip ?_
      refine cw_seq ?_
      refine cw_block ?_
      obtain ⟨x49, hx50, h51⟩ := bind_some h47
      have hx50g := ck_dec hx50
      refine cw_region (
        .cons (o_mv rfl rfl .no rfl) <|
        .cons (o_bin rfl rfl .no rfl rfl (s_add _ _ hx50g) rfl) <|
        .cons (o_as rfl rfl .no rfl) <|
        .nil rfl
      ) ?_
      refine cw_region (
        .cons (o_mv rfl rfl .no rfl) <|
        .cons (o_bin rfl rfl .no rfl rfl (b_add _ _) rfl) <|
        .cons (o_as rfl rfl .no rfl) <|
        .nil rfl
      ) ?_
      exact ⟨((v42.1 ++ (ByteArray.mk #[255])), (IntKind.wrap .i64 (v42.2 + 1))), (Option.some.inj h51).symm, .w (weak_of ⟨⟨_, rfl, .d rfl⟩, ⟨_, rfl, .d rfl⟩, trivial⟩ trivial drop0)⟩
    · refine cw_condF rfl hc46 ?_
      refine cw_exit ?_
      exact ⟨v42.1, (hx45 _ (Option.some.inj h48).symm).symm, .w (weak_of ⟨⟨_, rfl, .d rfl⟩, trivial⟩ trivial drop0)⟩

set_option maxRecDepth 100000 in
theorem ref08_to_ok {a0 : ((List UInt8) × (List UInt8) × Bool)} {r : ByteArray} (h : ref08_to a0 = some r) : FnOk Tryz.prog 83 [.d (eapiSpan a0)] 0 (lk []) (fun rr oo => rr = .d (estring r) ∧ oo = lk []) := by
  refine fnOk_of Tryz.func83 rfl rfl (cw_post ?_)
  unfold ref08_to at h
  refine cw_seq (cw_region (
    .cons (o_box 0 rfl rfl .no rfl rfl rfl) <|
    .cons (o_as rfl rfl .no rfl) <|
    .nil rfl
  ) ?_)
  refine cw_seq ?_
  refine cw_seq (cw_region (
    .cons (o_fldP rfl rfl .no rfl fld44_2 (by decide)) <|
    .cons (o_ldP [2] rfl rfl .no rfl rfl rfl ta4 rfl rfl) <|
    .nil rfl
  ) ?_)
  rcases cond_some h with ⟨hc1, h2⟩ | ⟨hc1, h3⟩
  · refine cw_condT rfl hc1 ?_
    obtain ⟨x4, hx5, h6⟩ := bind_some (x := ref08_End) h2
    refine cw_seq (cw_region (
      .cons (o_call rfl rfl .no Tryz.func92 rfl rfl (ref08_End_ok hx5) .nil trivial (.inl rfl)) <|
      .cons (o_as rfl rfl .no rfl) <|
      .nil rfl
    ) ?_)
    have heq := ((Option.some.inj h6).symm).symm
    subst heq
    exact cw_ret ⟨_, (show Leads _ _ (St.of [(2, .d (estring x4))] []) from .w (weak_of ⟨⟨_, rfl, .d rfl⟩, trivial⟩ trivial drop0)), .inr rfl, _, res1 rfl rfl, rfl, rfl⟩
  · refine cw_condF rfl hc1 ?_
    refine cw_skip ?_
    refine cw_seq (cw_region (
      .cons (o_fldP rfl rfl .no rfl fld44_1 (by decide)) <|
      .cons (o_slP rfl rfl .no rfl ar29 sz5 .no .no (by decide) (by decide) (by decide)) <|
      .cons (o_cvB [1] rfl rfl .no rfl rfl rfl sl105 un5 un9) <|
      .cons (o_as rfl rfl .no rfl) <|
      .nil rfl
    ) ?_)
    have heq := ((Option.some.inj h3).symm).symm
    subst heq
    exact cw_ret ⟨_, (show Leads _ _ (St.of [(2, .d (estring (bytesS a0.2.1)))] []) from .w (weak_of ⟨⟨_, rfl, .d rfl⟩, trivial⟩ trivial drop0)), .inr rfl, _, res1 rfl rfl, rfl, rfl⟩

set_option maxRecDepth 100000 in
theorem ref08_of_okc {a0 : ByteArray} {a1 : ByteArray} {r : ((List UInt8) × (List UInt8) × Bool)} (h : ref08_of a0 a1 = some r) : FnOk Tryz.prog 85 [.d (estring a0), .d (estring a1)] 0 (lk []) (fun rr oo => rr = .d (eapiSpan r) ∧ oo = lk [(0, .box (.d (eapiSpan r)))]) := by
  refine fnOk_of Tryz.func85 rfl rfl (cw_post ?_)
  unfold ref08_of at h
  refine cw_seq (cw_region (
    .cons (o_alloc 0 rfl rfl .no ze44 rfl) <|
    .nil rfl
  ) ?_)
  refine cw_seq (cw_region (
    .cons (o_alloc 1 rfl rfl .no ze44 rfl) <|
    .nil rfl
  ) ?_)
  refine cw_seq (cw_region (
    .cons (o_fldP rfl rfl .no rfl fld44_0 (by decide)) <|
    .cons (o_slP rfl rfl .no rfl ar29 sz5 .no .no (by decide) (by decide) (by decide)) <|
    .cons (o_mv rfl rfl .no rfl) <|
    .cons (o_cpS (l := (List.replicate 24 0)) [0] rfl rfl .no rfl rfl rfl rfl sl105 sz5) <|
    .nil rfl
  ) ?_)
  obtain ⟨o7, hj8, h9⟩ := bind_some h
  refine cw_join (fun (z : ((List UInt8) × (List UInt8) × Bool)) => St.of [(4, .ptr 0 0), (5, .ptr 1 0)] [(0, .box (.d (eapiSpan ((List.replicate 24 0), (List.replicate 24 0), false)))), (1, .box (.d (eapiSpan z)))]) (fun (z : ((List UInt8) × (List UInt8) × Bool)) => o7 = z) ?_ ?_
  · intro v16 hv17; subst hv17
    refine cw_seq (cw_region (
      .cons (o_ldP [] rfl rfl .no rfl rfl rfl ta44 rfl rfl) <|
      .cons (o_st [] rfl .no rfl rfl rfl rfl rfl sz44 rfl rfl) <|
      .nil rfl
    ) ?_)
    have heq := ((Option.some.inj h9).symm).symm
    subst heq
    exact cw_ret ⟨_, (show Leads _ _ (St.of [(4, .ptr 0 0)] [(0, .box (.d (eapiSpan o7)))]) from .w (weak_of ⟨⟨_, rfl, .ptr rfl rfl⟩, trivial⟩ ⟨.box rfl (.d rfl), trivial⟩ drop0)), .inr rfl, _, resC rfl rfl rfl ta44 rfl rfl, rfl, rfl⟩
  · skip
    obtain ⟨x10, hx11, h12⟩ := bind_some (x := ref08_End) hj8
    refine cw_seq (cw_region (
      .cons (o_mv rfl rfl .no rfl) <|
      .cons (o_call rfl rfl .no Tryz.func92 rfl rfl (ref08_End_ok hx11) .nil trivial (.inl rfl)) <|
      .cons (o_bin rfl rfl .no rfl rfl (s_eql _ _) rfl) <|
      .nil rfl
    ) ?_)
    rcases cond_some h12 with ⟨hc13, h14⟩ | ⟨hc13, h15⟩
    · refine cw_condT rfl hc13 ?_
      refine cw_region (
        .cons (o_fldP rfl rfl .no rfl fld44_2 (by decide)) <|
        .cons (o_st [2] rfl .no rfl rfl rfl rfl rfl sz4 rfl rfl) <|
        .nil rfl
      ) ?_
      exact ⟨((cpB (List.replicate 24 0) a0.data.toList), (List.replicate 24 0), true), (Option.some.inj h14).symm, .w (weak_of ⟨⟨_, rfl, .ptr rfl rfl⟩, ⟨_, rfl, .ptr rfl rfl⟩, trivial⟩ ⟨.box rfl (.d rfl), .box rfl (.d rfl), trivial⟩ drop0)⟩
    · refine cw_condF rfl hc13 ?_
      refine cw_region (
        .cons (o_fldP rfl rfl .no rfl fld44_1 (by decide)) <|
        .cons (o_slP rfl rfl .no rfl ar29 sz5 .no .no (by decide) (by decide) (by decide)) <|
        .cons (o_mv rfl rfl .no rfl) <|
        .cons (o_cpS (l := (List.replicate 24 0)) [1] rfl rfl .no rfl rfl rfl rfl sl105 sz5) <|
        .nil rfl
      ) ?_
      exact ⟨((cpB (List.replicate 24 0) a0.data.toList), (cpB (List.replicate 24 0) a1.data.toList), false), (Option.some.inj h15).symm, .w (weak_of ⟨⟨_, rfl, .ptr rfl rfl⟩, ⟨_, rfl, .ptr rfl rfl⟩, trivial⟩ ⟨.box rfl (.d rfl), .box rfl (.d rfl), trivial⟩ drop0)⟩
theorem ref08_of_ok {a0 : ByteArray} {a1 : ByteArray} {r : ((List UInt8) × (List UInt8) × Bool)} (h : ref08_of a0 a1 = some r) : FnOk Tryz.prog 85 [.d (estring a0), .d (estring a1)] 0 (lk []) (fun rr oo => rr = .d (eapiSpan r) ∧ oo = lk []) := fnOk_forget (ref08_of_okc h)

set_option maxRecDepth 100000 in
theorem ref08_key_okc {a0 : ByteArray} {r : (List UInt8)} (h : ref08_key a0 = some r) : FnOk Tryz.prog 65 [.d (estring a0)] 0 (lk []) (fun rr oo => rr = .d (eapiKey r) ∧ oo = lk [(0, .box (.d (eapiKey r)))]) := by
  refine fnOk_of Tryz.func65 rfl rfl (cw_post ?_)
  unfold ref08_key at h
  refine cw_seq (cw_region (
    .cons (o_alloc 0 rfl rfl .no ze29 rfl) <|
    .nil rfl
  ) ?_)
  refine cw_seq (cw_region (
    .cons (o_alloc 1 rfl rfl .no ze29 rfl) <|
    .nil rfl
  ) ?_)
  refine cw_seq (cw_region (
    .cons (o_slP rfl rfl .no rfl ar29 sz5 .no .no (by decide) (by decide) (by decide)) <|
    .cons (o_mv rfl rfl .no rfl) <|
    .cons (o_cpS (l := (List.replicate 24 0)) [] rfl rfl .no rfl rfl rfl rfl sl105 sz5) <|
    .nil rfl
  ) ?_)
  refine cw_seq (cw_region (
    .cons (o_ldP [] rfl rfl .no rfl rfl rfl ta29 rfl rfl) <|
    .cons (o_st [] rfl .no rfl rfl rfl rfl rfl sz29 rfl rfl) <|
    .nil rfl
  ) ?_)
  have heq := ((Option.some.inj h).symm).symm
  subst heq
  exact cw_ret ⟨_, (show Leads _ _ (St.of [(2, .ptr 0 0)] [(0, .box (.d (eapiKey (cpB (List.replicate 24 0) a0.data.toList))))]) from .w (weak_of ⟨⟨_, rfl, .ptr rfl rfl⟩, trivial⟩ ⟨.box rfl (.d rfl), trivial⟩ drop0)), .inr rfl, _, resC rfl rfl rfl ta29 rfl rfl, rfl, rfl⟩
theorem ref08_key_ok {a0 : ByteArray} {r : (List UInt8)} (h : ref08_key a0 = some r) : FnOk Tryz.prog 65 [.d (estring a0)] 0 (lk []) (fun rr oo => rr = .d (eapiKey r) ∧ oo = lk []) := fnOk_forget (ref08_key_okc h)

set_option maxRecDepth 100000 in
theorem ref08_with_ok {a0 : List ByteArray} {a1 : ByteArray} {r : (List ByteArray)} (h : ref08_with a0 a1 = some r) : FnOk Tryz.prog 84 [.d (eSstring a0), .d (estring a1)] 0 (lk []) (fun rr oo => rr = .d (eSstring r) ∧ oo = lk []) := by
  refine fnOk_of Tryz.func84 rfl rfl (cw_post ?_)
  unfold ref08_with at h
  refine cw_seq (cw_region (
    .cons (o_as rfl rfl .no rfl) <|
    .nil rfl
  ) ?_)
  refine cw_seq (cw_region (
    .cons (o_as rfl rfl .no rfl) <|
    .nil rfl
  ) ?_)
  obtain ⟨o67, hj68, h69⟩ := bind_some h
  refine cw_join (fun (z : Int) => St.of [(0, .d (eSstring a0)), (1, .d (estring a1)), (5, .d (eint z))] []) (fun (z : Int) => o67 = z) ?_ ?_
  · intro v171 hv172; subst hv172
    refine cw_seq ?_
    obtain ⟨o142, hj143, h144⟩ := bind_some h69
    refine cw_join (fun (z : Bool) => St.of [(0, .d (eSstring a0)), (1, .d (estring a1)), (5, .d (eint o67)), (31, .d (ebool z))] []) (fun (z : Bool) => o142 = z) ?_ ?_
    · intro v169 hv170; subst hv170
      rcases cond_some h144 with ⟨hc151, h152⟩ | ⟨hc151, h153⟩
      · refine cw_condT rfl hc151 ?_
        refine cw_seq (cw_region (
          .cons (o_mv rfl rfl .no rfl) <|
          .cons (o_as rfl rfl .no rfl) <|
          .nil rfl
        ) ?_)
        have heq := ((Option.some.inj h152).symm).symm
        subst heq
        exact cw_ret ⟨_, (show Leads _ _ (St.of [(4, .d (eSstring a0))] []) from .w (weak_of ⟨⟨_, rfl, .d rfl⟩, trivial⟩ trivial drop0)), .inr rfl, _, res1 rfl rfl, rfl, rfl⟩
      · refine cw_condF rfl hc151 ?_
        refine cw_skip ?_
        obtain ⟨x154, hx155, h156⟩ := bind_some h153
        have hx155g := cutB_some hx155
        obtain ⟨x157, hx158, h159⟩ := bind_some h156
        have hx158g := fits_some hx158
        obtain ⟨x160, hx161, h162⟩ := bind_some h159
        have hx161g := fits_some hx161
        obtain ⟨x163, hx164, h165⟩ := bind_some h162
        have hx164g := cutB_some hx164
        obtain ⟨x166, hx167, h168⟩ := bind_some h165
        have hx167g := fits_some hx167
        refine cw_seq (cw_region_any mixed (by kernel_rfl) (
          .cons (o_bslO (rows := ([] : List ByteArray).map estring) 0 rfl rfl .no .nil rfl sl115 sz9 ze9 rfl (map_sz sistring) (by decide) rfl) <|
          .cons (o_mv rfl rfl .no rfl) <|
          .cons (o_mv rfl rfl .no rfl) <|
          .cons (o_slM (enc := estring) (xs := a0) rfl rfl .no rfl sl115 sz9 .no (.val rfl hx155g.2.1) hx155g.2.2.1 hx155g.2.2.2) <|
          .cons (o_appM (enc := estring) (xs := ([] : List ByteArray)) (ys := (piece a0 0 o67)) rfl rfl .no rfl rfl rfl sistring sl115 sl115 sz9 by9 ze9 rfl (by decide) hx158g) <|
          .cons (o_mv rfl rfl .no rfl) <|
          .cons (o_bsl (rows := ([a1] : List ByteArray).map estring) rfl rfl .no (.cons rfl .nil) rfl sl115 sz9 ze9 rfl (map_sz sistring) (by decide)) <|
          .cons (o_appM (enc := estring) (xs := (([] : List ByteArray) ++ (piece a0 0 o67))) (ys := [a1]) rfl rfl .no rfl rfl rfl sistring sl115 sl115 sz9 by9 ze9 rfl (by decide) hx161g) <|
          .cons (o_mv rfl rfl .no rfl) <|
          .cons (o_mv rfl rfl .no rfl) <|
          .cons (o_slM (enc := estring) (xs := a0) rfl rfl .no rfl sl115 sz9 (.val rfl hx164g.1) .no hx164g.2.2.1 hx164g.2.2.2) <|
          .cons (o_appM (enc := estring) (xs := ((([] : List ByteArray) ++ (piece a0 0 o67)) ++ [a1])) (ys := (piece a0 o67 (a0.length : Int))) rfl rfl .no rfl rfl rfl sistring sl115 sl115 sz9 by9 ze9 rfl (by decide) hx167g) <|
          .cons (o_as rfl rfl .no rfl) <|
          .nil rfl
        ) (by kernel_rfl) ?_)
        have heq := ((Option.some.inj h168).symm).symm
        subst heq
        exact cw_ret ⟨_, (show Leads _ _ (St.of [(4, .d (eSstring (((([] : List ByteArray) ++ (piece a0 0 o67)) ++ [a1]) ++ (piece a0 o67 (a0.length : Int)))))] []) from .w (weak_of ⟨⟨_, rfl, .frz rfl rfl rfl⟩, trivial⟩ trivial drop0)), .inr rfl, _, res1 rfl rfl, rfl, rfl⟩
    · skip
      rcases cond_some hj143 with ⟨hc145, h146⟩ | ⟨hc145, h147⟩
      · skip
        obtain ⟨x148, hx149, h150⟩ := bind_some h146
        have hx149g := gx_some hx149
        refine cw_region (
          .cons (o_mv rfl rfl .no rfl) <|
          .cons (o_mv rfl rfl .no rfl) <|
          .cons (o_lenM (enc := estring) (xs := a0) rfl rfl .no rfl sl115) <|
          .cons (o_bin rfl rfl .no rfl rfl (b_lss _ _) rfl) <|
          .cons (o_mv rfl rfl .no rfl) <|
          .cons (o_mv rfl rfl (.yes rfl rfl hc145) rfl) <|
          .cons (o_mv rfl rfl (.yes rfl rfl hc145) rfl) <|
          .cons (o_ixM (enc := estring) (xs := a0) rfl rfl (.yes rfl rfl hc145) rfl rfl sl115 sz9 hx149g.1 hx149g.2) <|
          .cons (o_ld rfl rfl (.yes rfl rfl hc145) rfl ta9 rfl rfl) <|
          .cons (o_mv rfl rfl (.yes rfl rfl hc145) rfl) <|
          .cons (o_bin rfl rfl (.yes rfl rfl hc145) rfl rfl (s_eql _ _) rfl) <|
          .cons (o_pickT rfl rfl .no rfl hc145 rfl) <|
          .nil rfl
        ) ?_
        exact ⟨(decide (x148 = a1)), (Option.some.inj h150).symm, .w (weak_of ⟨⟨_, rfl, .d rfl⟩, ⟨_, rfl, .d rfl⟩, ⟨_, rfl, .d rfl⟩, ⟨_, rfl, .d rfl⟩, trivial⟩ trivial drop0)⟩
      · skip
        refine cw_region (
          .cons (o_mv rfl rfl .no rfl) <|
          .cons (o_mv rfl rfl .no rfl) <|
          .cons (o_lenM (enc := estring) (xs := a0) rfl rfl .no rfl sl115) <|
          .cons (o_bin rfl rfl .no rfl rfl (b_lss _ _) rfl) <|
          .cons (o_mv rfl rfl .no rfl) <|
          .cons (o_noT rfl rfl rfl rfl hc145) <|
          .cons (o_noT rfl rfl rfl rfl hc145) <|
          .cons (o_noT rfl rfl rfl rfl hc145) <|
          .cons (o_noT rfl rfl rfl rfl hc145) <|
          .cons (o_noT rfl rfl rfl rfl hc145) <|
          .cons (o_noT rfl rfl rfl rfl hc145) <|
          .cons (o_pickF rfl rfl .no rfl hc145 rfl) <|
          .nil rfl
        ) ?_
        exact ⟨false, (Option.some.inj h147).symm, .w (weak_of ⟨⟨_, rfl, .d rfl⟩, ⟨_, rfl, .d rfl⟩, ⟨_, rfl, .d rfl⟩, ⟨_, rfl, .d rfl⟩, trivial⟩ trivial drop0)⟩
  · skip
    refine cw_block ?_
    refine cw_while (V := Int) (O := Int) (fun (z : Int) => St.of [(0, .d (eSstring a0)), (1, .d (estring a1)), (5, .d (eint z))] []) hj68 (.w (weak_of ⟨⟨_, rfl, .d rfl⟩, ⟨_, rfl, .d rfl⟩, ⟨_, rfl, .d rfl⟩, trivial⟩ trivial drop0)) ?_
    intro v112 x113 hb114 hx115
    refine cw_seq ?_
    obtain ⟨o122, hj123, h124⟩ := bind_some hb114
    refine cw_join (fun (z : Bool) => St.of [(0, .d (eSstring a0)), (1, .d (estring a1)), (5, .d (eint v112)), (17, .d (ebool z))] []) (fun (z : Bool) => o122 = z) ?_ ?_
    · intro v134 hv135; subst hv135
      rcases cond_some h124 with ⟨hc131, h132⟩ | ⟨hc131, h133⟩
      · refine cw_condT rfl hc131 ?_
        refine cw_skip ?_
        refine cw_block ?_
        refine cw_region (
          .cons (o_mv rfl rfl .no rfl) <|
          .cons (o_bin rfl rfl .no rfl rfl (b_add _ _) rfl) <|
          .cons (o_as rfl rfl .no rfl) <|
          .nil rfl
        ) ?_
        exact ⟨(IntKind.wrap .i64 (v112 + 1)), (Option.some.inj h132).symm, .w (weak_of ⟨⟨_, rfl, .d rfl⟩, ⟨_, rfl, .d rfl⟩, ⟨_, rfl, .d rfl⟩, trivial⟩ trivial drop0)⟩
      · refine cw_condF rfl hc131 ?_
        refine cw_exit ?_
        exact ⟨v112, (hx115 _ (Option.some.inj h133).symm).symm, .w (weak_of ⟨⟨_, rfl, .d rfl⟩, ⟨_, rfl, .d rfl⟩, ⟨_, rfl, .d rfl⟩, trivial⟩ trivial drop0)⟩
    · skip
      rcases cond_some hj123 with ⟨hc125, h126⟩ | ⟨hc125, h127⟩
      · skip
        obtain ⟨x128, hx129, h130⟩ := bind_some h126
        have hx129g := gx_some hx129
        refine cw_region (
          .cons (o_mv rfl rfl .no rfl) <|
          .cons (o_mv rfl rfl .no rfl) <|
          .cons (o_lenM (enc := estring) (xs := a0) rfl rfl .no rfl sl115) <|
          .cons (o_bin rfl rfl .no rfl rfl (b_lss _ _) rfl) <|
          .cons (o_mv rfl rfl .no rfl) <|
          .cons (o_mv rfl rfl (.yes rfl rfl hc125) rfl) <|
          .cons (o_mv rfl rfl (.yes rfl rfl hc125) rfl) <|
          .cons (o_ixM (enc := estring) (xs := a0) rfl rfl (.yes rfl rfl hc125) rfl rfl sl115 sz9 hx129g.1 hx129g.2) <|
          .cons (o_ld rfl rfl (.yes rfl rfl hc125) rfl ta9 rfl rfl) <|
          .cons (o_mv rfl rfl (.yes rfl rfl hc125) rfl) <|
          .cons (o_bin rfl rfl (.yes rfl rfl hc125) rfl rfl (s_lss _ _) rfl) <|
          .cons (o_pickT rfl rfl .no rfl hc125 rfl) <|
          .nil rfl
        ) ?_
        exact ⟨(Op.bytesLess x128.data.toList a1.data.toList), (Option.some.inj h130).symm, .w (weak_of ⟨⟨_, rfl, .d rfl⟩, ⟨_, rfl, .d rfl⟩, ⟨_, rfl, .d rfl⟩, ⟨_, rfl, .d rfl⟩, trivial⟩ trivial drop0)⟩
      · skip
        refine cw_region (
          .cons (o_mv rfl rfl .no rfl) <|
          .cons (o_mv rfl rfl .no rfl) <|
          .cons (o_lenM (enc := estring) (xs := a0) rfl rfl .no rfl sl115) <|
          .cons (o_bin rfl rfl .no rfl rfl (b_lss _ _) rfl) <|
          .cons (o_mv rfl rfl .no rfl) <|
          .cons (o_noT rfl rfl rfl rfl hc125) <|
          .cons (o_noT rfl rfl rfl rfl hc125) <|
          .cons (o_noT rfl rfl rfl rfl hc125) <|
          .cons (o_noT rfl rfl rfl rfl hc125) <|
          .cons (o_noT rfl rfl rfl rfl hc125) <|
          .cons (o_noT rfl rfl rfl rfl hc125) <|
          .cons (o_pickF rfl rfl .no rfl hc125 rfl) <|
          .nil rfl
        ) ?_
        exact ⟨false, (Option.some.inj h127).symm, .w (weak_of ⟨⟨_, rfl, .d rfl⟩, ⟨_, rfl, .d rfl⟩, ⟨_, rfl, .d rfl⟩, ⟨_, rfl, .d rfl⟩, trivial⟩ trivial drop0)⟩

set_option maxRecDepth 100000 in
theorem ref08_bounds_ok {a0 : List ((List UInt8) × (List UInt8) × Bool)} {r : (List ByteArray)} (h : ref08_bounds a0 = some r) : FnOk Tryz.prog 63 [.d (eSapiSpan a0)] 0 (lk []) (fun rr oo => rr = .d (eSstring r) ∧ oo = lk []) := by
  refine fnOk_of Tryz.func63 rfl rfl (cw_post ?_)
  unfold ref08_bounds at h
  refine cw_seq (cw_region (
    .cons (o_as rfl rfl .no rfl) <|
    .nil rfl
  ) ?_)
  refine cw_seq (cw_region (
    .cons (o_as rfl rfl .no rfl) <|
    .nil rfl
  ) ?_)
  obtain ⟨o121, hj122, h123⟩ := bind_some h
  refine cw_join (fun (z : (List ByteArray)) => St.of [(3, .d (eSstring z))] []) (fun (z : (List ByteArray)) => o121 = z) ?_ ?_
  · intro v244 hv245; subst hv245
    refine cw_seq (cw_region (
      .cons (o_mv rfl rfl .no rfl) <|
      .cons (o_as rfl rfl .no rfl) <|
      .nil rfl
    ) ?_)
    have heq := ((Option.some.inj h123).symm).symm
    subst heq
    exact cw_ret ⟨_, (show Leads _ _ (St.of [(2, .d (eSstring o121))] []) from .w (weak_of ⟨⟨_, rfl, .d rfl⟩, trivial⟩ trivial drop0)), .inr rfl, _, res1 rfl rfl, rfl, rfl⟩
  · skip
    refine cw_seq (cw_region (
      .cons (o_as rfl rfl .no rfl) <|
      .nil rfl
    ) ?_)
    refine cw_block ?_
    refine cw_while (V := ((List ByteArray) × Int)) (O := (List ByteArray)) (fun (z : ((List ByteArray) × Int)) => St.of [(0, .d (eSapiSpan a0)), (3, .d (eSstring z.1)), (4, .d (eint z.2))] []) hj122 (.w (weak_of ⟨⟨_, rfl, .d rfl⟩, ⟨_, rfl, .nil0⟩, ⟨_, rfl, .d rfl⟩, trivial⟩ trivial drop0)) ?_
    intro v202 x203 hb204 hx205
    refine cw_seq ?_
    refine cw_seq (cw_region (
      .cons (o_mv rfl rfl .no rfl) <|
      .cons (o_mv rfl rfl .no rfl) <|
      .cons (o_lenM (enc := eapiSpan) (xs := a0) rfl rfl .no rfl sl38) <|
      .cons (o_bin rfl rfl .no rfl rfl (b_lss _ _) rfl) <|
      .nil rfl
    ) ?_)
    rcases cond_some hb204 with ⟨hc206, h207⟩ | ⟨hc206, h208⟩
    · refine cw_condT rfl hc206 ?_
      refine cw_skip ?_
      obtain ⟨o224, hj225, h226⟩ := bind_some h207
      refine cw_join (fun (z : (List ByteArray)) => St.of [(0, .d (eSapiSpan a0)), (3, .d (eSstring z)), (4, .d (eint v202.2))] []) (fun (z : (List ByteArray)) => o224 = z) ?_ ?_
      · intro v242 hv243; subst hv243
        refine cw_region (
          .cons (o_mv rfl rfl .no rfl) <|
          .cons (o_bin rfl rfl .no rfl rfl (b_add _ _) rfl) <|
          .cons (o_as rfl rfl .no rfl) <|
          .nil rfl
        ) ?_
        exact ⟨(o224, (IntKind.wrap .i64 (v202.2 + 1))), (Option.some.inj h226).symm, .w (weak_of ⟨⟨_, rfl, .d rfl⟩, ⟨_, rfl, .d rfl⟩, ⟨_, rfl, .d rfl⟩, trivial⟩ trivial drop0)⟩
      · skip
        refine cw_block ?_
        obtain ⟨x227, hx228, h229⟩ := bind_some hj225
        have hx228g := gx_some hx228
        refine cw_seq (cw_region (
          .cons (o_mv rfl rfl .no rfl) <|
          .cons (o_mv rfl rfl .no rfl) <|
          .cons (o_ixM (enc := eapiSpan) (xs := a0) rfl rfl .no rfl rfl sl38 sz44 hx228g.1 hx228g.2) <|
          .cons (o_fld rfl rfl .no rfl fld44_0 (by decide) rfl rfl) <|
          .cons (o_slAt rfl rfl .no rfl ar29 sz5 (by decide)) <|
          .cons (o_cvD rfl rfl .no rfl sl105 un5 un9) <|
          .cons (o_as rfl rfl .no rfl) <|
          .nil rfl
        ) ?_)
        obtain ⟨x230, hx231, h232⟩ := bind_some (x := ref08_to x227) h229
        refine cw_seq (cw_region (
          .cons (o_mv rfl rfl .no rfl) <|
          .cons (o_mv rfl rfl .no rfl) <|
          .cons (o_ixM (enc := eapiSpan) (xs := a0) rfl rfl .no rfl rfl sl38 sz44 hx228g.1 hx228g.2) <|
          .cons (o_ld rfl rfl .no rfl ta44 rfl rfl) <|
          .cons (o_call rfl rfl .no Tryz.func83 rfl rfl (ref08_to_ok hx231) (.cons rfl .d .nil) ⟨trivial, trivial⟩ (.inl rfl)) <|
          .cons (o_as rfl rfl .no rfl) <|
          .nil rfl
        ) ?_)
        refine cw_seq (cw_region (
          .cons (o_mv rfl rfl .no rfl) <|
          .cons (o_mv rfl rfl .no rfl) <|
          .cons (o_bin rfl rfl .no rfl rfl (s_lss _ _) rfl) <|
          .nil rfl
        ) ?_)
        rcases cond_some h232 with ⟨hc233, h234⟩ | ⟨hc233, h235⟩
        · refine cw_condT rfl hc233 ?_
          obtain ⟨x236, hx237, h238⟩ := bind_some (x := ref08_with v202.1 (bytesS x227.1)) h234
          obtain ⟨x239, hx240, h241⟩ := bind_some (x := ref08_with x236 x230) h238
          refine cw_region (
            .cons (o_mv rfl rfl .no rfl) <|
            .cons (o_mv rfl rfl .no rfl) <|
            .cons (o_call rfl rfl .no Tryz.func84 rfl rfl (ref08_with_ok hx237) (.cons rfl .d (.cons rfl .d .nil)) ⟨trivial, trivial, trivial⟩ (.inl rfl)) <|
            .cons (o_mv rfl rfl .no rfl) <|
            .cons (o_call rfl rfl .no Tryz.func84 rfl rfl (ref08_with_ok hx240) (.cons rfl .d (.cons rfl .d .nil)) ⟨trivial, trivial, trivial⟩ (.inl rfl)) <|
            .cons (o_as rfl rfl .no rfl) <|
            .nil rfl
          ) ?_
          exact ⟨x239, (Option.some.inj h241).symm, .w (weak_of ⟨⟨_, rfl, .d rfl⟩, ⟨_, rfl, .d rfl⟩, ⟨_, rfl, .d rfl⟩, trivial⟩ trivial drop0)⟩
        · refine cw_condF rfl hc233 ?_
          refine cw_skip ?_
          exact ⟨v202.1, (Option.some.inj h235).symm, .w (weak_of ⟨⟨_, rfl, .d rfl⟩, ⟨_, rfl, .d rfl⟩, ⟨_, rfl, .d rfl⟩, trivial⟩ trivial drop0)⟩
    · refine cw_condF rfl hc206 ?_
      refine cw_exit ?_
      exact ⟨v202.1, (hx205 _ (Option.some.inj h208).symm).symm, .w (weak_of ⟨⟨_, rfl, .d rfl⟩, trivial⟩ trivial drop0)⟩

set_option maxRecDepth 100000 in
theorem ref08_where_ok {a0 : List ByteArray} {a1 : List Bool} {r : (List ((List UInt8) × (List UInt8) × Bool))} (h : ref08_where a0 a1 = some r) : FnOk Tryz.prog 66 [.d (eSstring a0), .d (eSbool a1)] 0 (lk []) (fun rr oo => rr = .arr 0 0 ∧ oo = lk [(0, .arr 0 49 (r.map eapiSpan))]) := by
  refine fnOk_of Tryz.func66 rfl rfl (cw_post ?_)
  unfold ref08_where at h
  refine cw_seq (cw_region (
    .cons (o_as rfl rfl .no rfl) <|
    .nil rfl
  ) ?_)
  refine cw_seq (cw_region (
    .cons (o_as rfl rfl .no rfl) <|
    .nil rfl
  ) ?_)
  obtain ⟨o385, hj386, h387⟩ := bind_some h
  refine cw_join (fun (z : (List ((List UInt8) × (List UInt8) × Bool))) => St.of [(5, .arr 0 0)] [(0, .arr 0 49 (z.map eapiSpan))]) (fun (z : (List ((List UInt8) × (List UInt8) × Bool))) => o385 = z) ?_ ?_
  · intro v772 hv773; subst hv773
    refine cw_seq (cw_region (
      .cons (o_mv rfl rfl .no rfl) <|
      .cons (o_as rfl rfl .no rfl) <|
      .nil rfl
    ) ?_)
    have heq := ((Option.some.inj h387).symm).symm
    subst heq
    exact cw_ret ⟨_, (show Leads _ _ (St.of [(4, .arr 0 0)] [(0, .arr 0 49 (o385.map eapiSpan))]) from .w (weak_of ⟨⟨_, rfl, .arr rfl rfl⟩, trivial⟩ ⟨.arr rfl rfl, trivial⟩ drop0)), .inr rfl, _, res1 rfl rfl, rfl, rfl⟩
  · skip
    refine cw_seq (cw_region (
      .cons (o_as rfl rfl .no rfl) <|
      .nil rfl
    ) ?_)
    refine cw_block ?_
    refine cw_while (V := (Int × (List ((List UInt8) × (List UInt8) × Bool)))) (O := (List ((List UInt8) × (List UInt8) × Bool))) (fun (z : (Int × (List ((List UInt8) × (List UInt8) × Bool)))) => St.of [(0, .d (eSstring a0)), (1, .d (eSbool a1)), (5, .arr 0 0), (6, .d (eint z.1))] [(0, .arr 0 49 (z.2.map eapiSpan))]) hj386 (.w (weak_of ⟨⟨_, rfl, .d rfl⟩, ⟨_, rfl, .d rfl⟩, ⟨_, rfl, .nila rfl rfl⟩, ⟨_, rfl, .d rfl⟩, trivial⟩ ⟨.nil rfl, trivial⟩ drop0)) ?_
    intro v642 x643 hb644 hx645
    refine cw_seq ?_
    refine cw_seq (cw_region (
      .cons (o_mv rfl rfl .no rfl) <|
      .cons (o_bin rfl rfl .no rfl rfl (b_add _ _) rfl) <|
      .cons (o_mv rfl rfl .no rfl) <|
      .cons (o_lenM (enc := estring) (xs := a0) rfl rfl .no rfl sl115) <|
      .cons (o_bin rfl rfl .no rfl rfl (b_lss _ _) rfl) <|
      .nil rfl
    ) ?_)
    rcases cond_some hb644 with ⟨hc646, h647⟩ | ⟨hc646, h648⟩
    · refine cw_condT rfl hc646 ?_
      refine cw_skip ?_
      obtain ⟨o708, hj709, h710⟩ := bind_some h647
      refine cw_join (fun (z : (List ((List UInt8) × (List UInt8) × Bool))) => St.of [(0, .d (eSstring a0)), (1, .d (eSbool a1)), (5, .arr 0 0), (6, .d (eint v642.1))] [(0, .arr 0 49 (z.map eapiSpan))]) (fun (z : (List ((List UInt8) × (List UInt8) × Bool))) => o708 = z) ?_ ?_
      · intro v770 hv771; subst hv771
        refine cw_region (
          .cons (o_mv rfl rfl .no rfl) <|
          .cons (o_bin rfl rfl .no rfl rfl (b_add _ _) rfl) <|
          .cons (o_as rfl rfl .no rfl) <|
          .nil rfl
        ) ?_
        exact ⟨((IntKind.wrap .i64 (v642.1 + 1)), o708), (Option.some.inj h710).symm, .w (weak_of ⟨⟨_, rfl, .d rfl⟩, ⟨_, rfl, .d rfl⟩, ⟨_, rfl, .arr rfl rfl⟩, ⟨_, rfl, .d rfl⟩, trivial⟩ ⟨.arr rfl rfl, trivial⟩ drop0)⟩
      · skip
        refine cw_block ?_
        refine cw_seq ?_
        obtain ⟨x711, hx712, h713⟩ := bind_some hj709
        have hx712g := gx_some hx712
        refine cw_seq (cw_region (
          .cons (o_mv rfl rfl .no rfl) <|
          .cons (o_mv rfl rfl .no rfl) <|
          .cons (o_ixM (enc := ebool) (xs := a1) rfl rfl .no rfl rfl sl117 sz4 hx712g.1 hx712g.2) <|
          .cons (o_ld rfl rfl .no rfl ta4 rfl rfl) <|
          .cons (o_not rfl rfl .no rfl) <|
          .nil rfl
        ) ?_)
        rcases cond_some h713 with ⟨hc714, h715⟩ | ⟨hc714, h716⟩
        · refine cw_condT rfl hc714 ?_
          refine cw_exit ?_
          exact ⟨v642.2, (Option.some.inj h715).symm, .w (weak_of ⟨⟨_, rfl, .d rfl⟩, ⟨_, rfl, .d rfl⟩, ⟨_, rfl, .arr rfl rfl⟩, ⟨_, rfl, .d rfl⟩, trivial⟩ ⟨.arr rfl rfl, trivial⟩ drop0)⟩
        · refine cw_condF rfl hc714 ?_
          refine cw_skip ?_
          refine cw_seq (cw_region (
            .cons (o_mv rfl rfl .no rfl) <|
            .cons (o_lenAM (enc := eapiSpan) (xs := v642.2) rfl rfl .no rfl rfl sl38) <|
            .cons (o_as rfl rfl .no rfl) <|
            .nil rfl
          ) ?_)
          obtain ⟨o729, hj730, h731⟩ := bind_some h716
          refine cw_join (fun (z : Bool) => St.of [(0, .d (eSstring a0)), (1, .d (eSbool a1)), (5, .arr 0 0), (6, .d (eint v642.1)), (7, .d (eint (v642.2.length : Int))), (36, .d (ebool z))] [(0, .arr 0 49 (v642.2.map eapiSpan))]) (fun (z : Bool) => o729 = z) ?_ ?_
          · intro v768 hv769; subst hv769
            rcases cond_some h731 with ⟨hc744, h745⟩ | ⟨hc744, h746⟩
            · refine cw_condT rfl hc744 ?_
              obtain ⟨x747, hx748, h749⟩ := bind_some h745
              have hx748g := gx_some hx748
              obtain ⟨x750, hx751, h752⟩ := bind_some h749
              have hx751g := gx_some hx751
              obtain ⟨x753, hx754, h755⟩ := bind_some (x := ref08_of (bytesS x747.1) x750) h752
              refine cw_region_any mixed (by kernel_rfl) (
                .cons (o_mv rfl rfl .no rfl) <|
                .cons (o_mv rfl rfl .no rfl) <|
                .cons (o_bin rfl rfl .no rfl rfl (b_sub _ _) rfl) <|
                .cons (o_mv rfl rfl .no rfl) <|
                .cons (o_mv rfl rfl .no rfl) <|
                .cons (o_bin rfl rfl .no rfl rfl (b_sub _ _) rfl) <|
                .cons (o_ixAM (enc := eapiSpan) (xs := v642.2) rfl rfl .no rfl rfl rfl sl38 sz44 hx748g.1 hx748g.2) <|
                .cons (o_fldE rfl rfl .no rfl rfl fld44_0 (by decide)) <|
                .cons (o_slE rfl rfl .no rfl rfl ar29 sz5 (by decide)) <|
                .cons (o_cvO (enc := eapiSpan) (xs := v642.2) (r := x747) [0] rfl rfl .no rfl rfl hx748g.2 rfl rfl (by decide) sl105 un5 un9) <|
                .cons (o_mv rfl rfl .no rfl) <|
                .cons (o_mv rfl rfl .no rfl) <|
                .cons (o_bin rfl rfl .no rfl rfl (b_add _ _) rfl) <|
                .cons (o_ixM (enc := estring) (xs := a0) rfl rfl .no rfl rfl sl115 sz9 hx751g.1 hx751g.2) <|
                .cons (o_ld rfl rfl .no rfl ta9 rfl rfl) <|
                .cons (o_call rfl rfl .no Tryz.func85 rfl rfl (ref08_of_ok hx754) (.cons rfl .d (.cons rfl .d .nil)) ⟨trivial, trivial, trivial⟩ (.inl rfl)) <|
                .cons (o_ixAM (enc := eapiSpan) (xs := v642.2) rfl rfl .no rfl rfl rfl sl38 sz44 hx748g.1 hx748g.2) <|
                .cons (o_stEM (enc := eapiSpan) (xs := v642.2) (y := x753) (r := x747) rfl .no rfl rfl rfl hx748g.2 sz44 rfl (siapiSpan _)) <|
                .nil rfl
              ) (by kernel_rfl) ?_
              exact ⟨(List.set v642.2 (IntKind.wrap .i64 ((v642.2.length : Int) - 1)).toNat x753), (Option.some.inj h755).symm, .w (weak_of ⟨⟨_, rfl, .d rfl⟩, ⟨_, rfl, .d rfl⟩, ⟨_, rfl, .arr rfl rfl⟩, ⟨_, rfl, .d rfl⟩, trivial⟩ ⟨.arr rfl rfl, trivial⟩ drop0)⟩
            · refine cw_condF rfl hc744 ?_
              obtain ⟨x756, hx757, h758⟩ := bind_some h746
              have hx757g := gx_some hx757
              obtain ⟨x759, hx760, h761⟩ := bind_some h758
              have hx760g := gx_some hx760
              obtain ⟨x762, hx763, h764⟩ := bind_some (x := ref08_of x756 x759) h761
              obtain ⟨x765, hx766, h767⟩ := bind_some h764
              have hx766g := fits_some hx766
              refine cw_region_any mixed (by kernel_rfl) (
                .cons (o_mv rfl rfl .no rfl) <|
                .cons (o_mv rfl rfl .no rfl) <|
                .cons (o_mv rfl rfl .no rfl) <|
                .cons (o_ixM (enc := estring) (xs := a0) rfl rfl .no rfl rfl sl115 sz9 hx757g.1 hx757g.2) <|
                .cons (o_ld rfl rfl .no rfl ta9 rfl rfl) <|
                .cons (o_mv rfl rfl .no rfl) <|
                .cons (o_mv rfl rfl .no rfl) <|
                .cons (o_bin rfl rfl .no rfl rfl (b_add _ _) rfl) <|
                .cons (o_ixM (enc := estring) (xs := a0) rfl rfl .no rfl rfl sl115 sz9 hx760g.1 hx760g.2) <|
                .cons (o_ld rfl rfl .no rfl ta9 rfl rfl) <|
                .cons (o_call rfl rfl .no Tryz.func85 rfl rfl (ref08_of_ok hx763) (.cons rfl .d (.cons rfl .d .nil)) ⟨trivial, trivial, trivial⟩ (.inl rfl)) <|
                .cons (o_bsl (rows := ([x762] : List ((List UInt8) × (List UInt8) × Bool)).map eapiSpan) rfl rfl .no (.cons rfl .nil) rfl sl38 sz44 ze44 rfl (map_sz siapiSpan) (by decide)) <|
                .cons (o_appM (enc := eapiSpan) (xs := v642.2) (ys := [x762]) rfl rfl .no rfl rfl rfl siapiSpan sl38 sl38 sz44 by44 ze44 rfl (by decide) hx766g) <|
                .cons (o_as rfl rfl .no rfl) <|
                .nil rfl
              ) (by kernel_rfl) ?_
              exact ⟨(v642.2 ++ [x762]), (Option.some.inj h767).symm, .w (weak_of ⟨⟨_, rfl, .d rfl⟩, ⟨_, rfl, .d rfl⟩, ⟨_, rfl, .arr rfl rfl⟩, ⟨_, rfl, .d rfl⟩, trivial⟩ ⟨.arr0 rfl rfl rfl, trivial⟩ drop0)⟩
          · skip
            rcases cond_some hj730 with ⟨hc732, h733⟩ | ⟨hc732, h734⟩
            · skip
              obtain ⟨x735, hx736, h737⟩ := bind_some h733
              have hx736g := gx_some hx736
              obtain ⟨x738, hx739, h740⟩ := bind_some (x := ref08_to x735) h737
              obtain ⟨x741, hx742, h743⟩ := bind_some h740
              have hx742g := gx_some hx742
              refine cw_region_any mixed (by kernel_rfl) (
                .cons (o_mv rfl rfl .no rfl) <|
                .cons (o_bin rfl rfl .no rfl rfl (b_gtr _ _) rfl) <|
                .cons (o_mv rfl rfl .no rfl) <|
                .cons (o_mv rfl rfl (.yes rfl rfl hc732) rfl) <|
                .cons (o_mv rfl rfl (.yes rfl rfl hc732) rfl) <|
                .cons (o_bin rfl rfl (.yes rfl rfl hc732) rfl rfl (b_sub _ _) rfl) <|
                .cons (o_ixAM (enc := eapiSpan) (xs := v642.2) rfl rfl (.yes rfl rfl hc732) rfl rfl rfl sl38 sz44 hx736g.1 hx736g.2) <|
                .cons (o_ldEM (enc := eapiSpan) (xs := v642.2) (r := x735) [] rfl rfl (.yes rfl rfl hc732) rfl rfl hx736g.2 rfl ta44 rfl rfl) <|
                .cons (o_call rfl rfl (.yes rfl rfl hc732) Tryz.func83 rfl rfl (ref08_to_ok hx739) (.cons rfl .d .nil) ⟨trivial, trivial⟩ (.inl rfl)) <|
                .cons (o_mv rfl rfl (.yes rfl rfl hc732) rfl) <|
                .cons (o_mv rfl rfl (.yes rfl rfl hc732) rfl) <|
                .cons (o_ixM (enc := estring) (xs := a0) rfl rfl (.yes rfl rfl hc732) rfl rfl sl115 sz9 hx742g.1 hx742g.2) <|
                .cons (o_ld rfl rfl (.yes rfl rfl hc732) rfl ta9 rfl rfl) <|
                .cons (o_bin rfl rfl (.yes rfl rfl hc732) rfl rfl (s_eql _ _) rfl) <|
                .cons (o_pickT rfl rfl .no rfl hc732 rfl) <|
                .nil rfl
              ) (by kernel_rfl) ?_
              exact ⟨(decide (x738 = x741)), (Option.some.inj h743).symm, .w (weak_of ⟨⟨_, rfl, .d rfl⟩, ⟨_, rfl, .d rfl⟩, ⟨_, rfl, .arr rfl rfl⟩, ⟨_, rfl, .d rfl⟩, ⟨_, rfl, .d rfl⟩, ⟨_, rfl, .d rfl⟩, trivial⟩ ⟨.arr rfl rfl, trivial⟩ drop0)⟩
            · skip
              refine cw_region_any mixed (by kernel_rfl) (
                .cons (o_mv rfl rfl .no rfl) <|
                .cons (o_bin rfl rfl .no rfl rfl (b_gtr _ _) rfl) <|
                .cons (o_mv rfl rfl .no rfl) <|
                .cons (o_noT rfl rfl rfl rfl hc732) <|
                .cons (o_noT rfl rfl rfl rfl hc732) <|
                .cons (o_noT rfl rfl rfl rfl hc732) <|
                .cons (o_noT rfl rfl rfl rfl hc732) <|
                .cons (o_noT rfl rfl rfl rfl hc732) <|
                .cons (o_noT rfl rfl rfl rfl hc732) <|
                .cons (o_noT rfl rfl rfl rfl hc732) <|
                .cons (o_noT rfl rfl rfl rfl hc732) <|
                .cons (o_noT rfl rfl rfl rfl hc732) <|
                .cons (o_noT rfl rfl rfl rfl hc732) <|
                .cons (o_noT rfl rfl rfl rfl hc732) <|
                .cons (o_pickF rfl rfl .no rfl hc732 rfl) <|
                .nil rfl
              ) (by kernel_rfl) ?_
              exact ⟨false, (Option.some.inj h734).symm, .w (weak_of ⟨⟨_, rfl, .d rfl⟩, ⟨_, rfl, .d rfl⟩, ⟨_, rfl, .arr rfl rfl⟩, ⟨_, rfl, .d rfl⟩, ⟨_, rfl, .d rfl⟩, ⟨_, rfl, .d rfl⟩, trivial⟩ ⟨.arr rfl rfl, trivial⟩ drop0)⟩
    · refine cw_condF rfl hc646 ?_
      refine cw_exit ?_
      exact ⟨v642.2, (hx645 _ (Option.some.inj h648).symm).symm, .w (weak_of ⟨⟨_, rfl, .arr rfl rfl⟩, trivial⟩ ⟨.arr rfl rfl, trivial⟩ drop0)⟩

set_option maxRecDepth 100000 in
theorem ref08_Clean_ok {a0 : List ((List UInt8) × (List UInt8) × Bool)} {r : (List ((List UInt8) × (List UInt8) × Bool))} (h : ref08_Clean a0 = some r) : FnOk Tryz.prog 44 [.d (eSapiSpan a0)] 0 (lk []) (fun rr oo => rr = .arr 0 0 ∧ oo = lk [(0, .arr 0 49 (r.map eapiSpan))]) := by
  refine fnOk_of Tryz.func44 rfl rfl (cw_post ?_)
  unfold ref08_Clean at h
  refine cw_seq (cw_region (
    .cons (o_as rfl rfl .no rfl) <|
    .nil rfl
  ) ?_)
  obtain ⟨x1, hx2, h3⟩ := bind_some (x := ref08_bounds a0) h
  refine cw_seq (cw_region (
    .cons (o_mv rfl rfl .no rfl) <|
    .cons (o_call rfl rfl .no Tryz.func63 rfl rfl (ref08_bounds_ok hx2) (.cons rfl .d .nil) ⟨trivial, trivial⟩ (.inl rfl)) <|
    .cons (o_as rfl rfl .no rfl) <|
    .nil rfl
  ) ?_)
  refine cw_seq (cw_region (
    .cons (o_as rfl rfl .no rfl) <|
    .nil rfl
  ) ?_)
  obtain ⟨o55, hj56, h57⟩ := bind_some h3
  refine cw_join (fun (z : (List Bool)) => St.of [(3, .d (eSstring x1)), (4, .arr 1 0)] [(1, .arr 0 1 (z.map ebool))]) (fun (z : (List Bool)) => o55 = z) ?_ ?_
  · intro v112 hv113; subst hv113
    obtain ⟨x109, hx110, h111⟩ := bind_some (x := ref08_where x1 o55) h57
    refine cw_seq (cw_region (
      .cons (o_mv rfl rfl .no rfl) <|
      .cons (o_mv rfl rfl .no rfl) <|
      .cons (o_callO 0 rfl rfl .no Tryz.func66 rfl rfl (ref08_where_ok hx110) (.cons rfl .d (.cons rfl (.arrM rfl) .nil)) ⟨trivial, trivial, trivial⟩ rfl (.inr ⟨trivial, (flat_rows fun _ => (flapiSpan _))⟩)) <|
      .cons (o_as rfl rfl .no rfl) <|
      .nil rfl
    ) ?_)
    have heq := ((Option.some.inj h111).symm).symm
    subst heq
    exact cw_ret ⟨_, (show Leads _ _ (St.of [(2, .arr 0 0)] [(0, .arr 0 49 (x109.map eapiSpan))]) from .w (weak_of ⟨⟨_, rfl, .arr rfl rfl⟩, trivial⟩ ⟨.arr rfl rfl, trivial⟩ drop0)), .inr rfl, _, res1 rfl rfl, rfl, rfl⟩
  · skip
    refine cw_seq (cw_region (
      .cons (o_as rfl rfl .no rfl) <|
      .nil rfl
    ) ?_)
    refine cw_block ?_
    refine cw_while (V := (Int × (List Bool))) (O := (List Bool)) (fun (z : (Int × (List Bool))) => St.of [(0, .d (eSapiSpan a0)), (3, .d (eSstring x1)), (4, .arr 1 0), (5, .d (eint z.1))] [(1, .arr 0 1 (z.2.map ebool))]) hj56 (.w (weak_of ⟨⟨_, rfl, .d rfl⟩, ⟨_, rfl, .d rfl⟩, ⟨_, rfl, .nila rfl rfl⟩, ⟨_, rfl, .d rfl⟩, trivial⟩ ⟨.nil rfl, trivial⟩ drop0)) ?_
    intro v90 x91 hb92 hx93
    refine cw_seq ?_
    refine cw_seq (cw_region (
      .cons (o_mv rfl rfl .no rfl) <|
      .cons (o_bin rfl rfl .no rfl rfl (b_add _ _) rfl) <|
      .cons (o_mv rfl rfl .no rfl) <|
      .cons (o_lenM (enc := estring) (xs := x1) rfl rfl .no rfl sl115) <|
      .cons (o_bin rfl rfl .no rfl rfl (b_lss _ _) rfl) <|
      .nil rfl
    ) ?_)
    rcases cond_some hb92 with ⟨hc94, h95⟩ | ⟨hc94, h96⟩
    · refine cw_condT rfl hc94 ?_
      refine cw_skip ?_
      refine cw_seq ?_
      refine cw_block ?_
      obtain ⟨x97, hx98, h99⟩ := bind_some h95
      have hx98g := gx_some hx98
      obtain ⟨x100, hx101, h102⟩ := bind_some (x := ref08_key x97) h99
      obtain ⟨x103, hx104, h105⟩ := bind_some (x := ref08_Has a0 x100) h102
      refine cw_seq (cw_region (
        .cons (o_mv rfl rfl .no rfl) <|
        .cons (o_mv rfl rfl .no rfl) <|
        .cons (o_mv rfl rfl .no rfl) <|
        .cons (o_ixM (enc := estring) (xs := x1) rfl rfl .no rfl rfl sl115 sz9 hx98g.1 hx98g.2) <|
        .cons (o_ld rfl rfl .no rfl ta9 rfl rfl) <|
        .cons (o_call rfl rfl .no Tryz.func65 rfl rfl (ref08_key_ok hx101) (.cons rfl .d .nil) ⟨trivial, trivial⟩ (.inl rfl)) <|
        .cons (o_call rfl rfl .no Tryz.func64 rfl rfl (ref08_Has_ok hx104) (.cons rfl .d (.cons rfl .d .nil)) ⟨trivial, trivial, trivial⟩ (.inl rfl)) <|
        .cons (o_as rfl rfl .no rfl) <|
        .nil rfl
      ) ?_)
      obtain ⟨x106, hx107, h108⟩ := bind_some h105
      have hx107g := fits_some hx107
      refine cw_region (
        .cons (o_mv rfl rfl .no rfl) <|
        .cons (o_mv rfl rfl .no rfl) <|
        .cons (o_bsl (rows := ([x103] : List Bool).map ebool) rfl rfl .no (.cons rfl .nil) rfl sl117 sz4 ze4 rfl (map_sz sibool) (by decide)) <|
        .cons (o_appM (enc := ebool) (xs := v90.2) (ys := [x103]) rfl rfl .no rfl rfl rfl sibool sl117 sl117 sz4 by4 ze4 rfl (by decide) hx107g) <|
        .cons (o_as rfl rfl .no rfl) <|
        .nil rfl
      ) ?_
      refine cw_region (
        .cons (o_mv rfl rfl .no rfl) <|
        .cons (o_bin rfl rfl .no rfl rfl (b_add _ _) rfl) <|
        .cons (o_as rfl rfl .no rfl) <|
        .nil rfl
      ) ?_
      exact ⟨((IntKind.wrap .i64 (v90.1 + 1)), (v90.2 ++ [x103])), (Option.some.inj h108).symm, .w (weak_of ⟨⟨_, rfl, .d rfl⟩, ⟨_, rfl, .d rfl⟩, ⟨_, rfl, .arr rfl rfl⟩, ⟨_, rfl, .d rfl⟩, trivial⟩ ⟨.arr0 rfl rfl rfl, trivial⟩ drop0)⟩
    · refine cw_condF rfl hc94 ?_
      refine cw_exit ?_
      exact ⟨v90.2, (hx93 _ (Option.some.inj h96).symm).symm, .w (weak_of ⟨⟨_, rfl, .d rfl⟩, ⟨_, rfl, .arr rfl rfl⟩, trivial⟩ ⟨.arr rfl rfl, trivial⟩ drop0)⟩

set_option maxRecDepth 100000 in
theorem ref12_In_ok {a0 : List ((List UInt8) × ByteArray)} {a1 : ((List UInt8) × (List UInt8) × Bool)} {r : (List ((List UInt8) × ByteArray))} (h : ref12_In a0 a1 = some r) : FnOk Tryz.prog 45 [.d (eSapiPair a0), .d (eapiSpan a1)] 0 (lk []) (fun rr oo => rr = .d (eSapiPair r) ∧ oo = lk []) := by
  refine fnOk_of Tryz.func45 rfl rfl (cw_post ?_)
  unfold ref12_In at h
  refine cw_seq (cw_region (
    .cons (o_box 0 rfl rfl .no rfl rfl rfl) <|
    .cons (o_as rfl rfl .no rfl) <|
    .nil rfl
  ) ?_)
  refine cw_seq (cw_region (
    .cons (o_as rfl rfl .no rfl) <|
    .nil rfl
  ) ?_)
  obtain ⟨o103, hj104, h105⟩ := bind_some h
  refine cw_join (fun (z : (List ((List UInt8) × ByteArray))) => St.of [(5, .arr 1 0)] [(1, .arr 0 25 (z.map eapiPair))]) (fun (z : (List ((List UInt8) × ByteArray))) => o103 = z) ?_ ?_
  · intro v208 hv209; subst hv209
    refine cw_seq (cw_region (
      .cons (o_mv rfl rfl .no rfl) <|
      .cons (o_as rfl rfl .no rfl) <|
      .nil rfl
    ) ?_)
    have heq := ((Option.some.inj h105).symm).symm
    subst heq
    exact cw_ret ⟨_, (show Leads _ _ (St.of [(4, .d (eSapiPair o103))] []) from .w (weak_of ⟨⟨_, rfl, .frz rfl rfl rfl⟩, trivial⟩ trivial drop0)), .inr rfl, _, res1 rfl rfl, rfl, rfl⟩
  · skip
    refine cw_seq (cw_region (
      .cons (o_as rfl rfl .no rfl) <|
      .nil rfl
    ) ?_)
    refine cw_block ?_
    refine cw_while (V := (Int × (List ((List UInt8) × ByteArray)))) (O := (List ((List UInt8) × ByteArray))) (fun (z : (Int × (List ((List UInt8) × ByteArray)))) => St.of [(0, .d (eSapiPair a0)), (3, .ptr 0 0), (5, .arr 1 0), (6, .d (eint z.1))] [(0, .box (.d (eapiSpan a1))), (1, .arr 0 25 (z.2.map eapiPair))]) hj104 (.w (weak_of ⟨⟨_, rfl, .d rfl⟩, ⟨_, rfl, .ptr rfl rfl⟩, ⟨_, rfl, .nila rfl rfl⟩, ⟨_, rfl, .d rfl⟩, trivial⟩ ⟨.box rfl (.d rfl), .nil rfl, trivial⟩ drop0)) ?_
    intro v172 x173 hb174 hx175
    refine cw_seq ?_
    refine cw_seq (cw_region (
      .cons (o_mv rfl rfl .no rfl) <|
      .cons (o_mv rfl rfl .no rfl) <|
      .cons (o_lenM (enc := eapiPair) (xs := a0) rfl rfl .no rfl sl22) <|
      .cons (o_bin rfl rfl .no rfl rfl (b_lss _ _) rfl) <|
      .nil rfl
    ) ?_)
    rcases cond_some hb174 with ⟨hc176, h177⟩ | ⟨hc176, h178⟩
    · refine cw_condT rfl hc176 ?_
      refine cw_skip ?_
      obtain ⟨o191, hj192, h193⟩ := bind_some h177
      refine cw_join (fun (z : (List ((List UInt8) × ByteArray))) => St.of [(0, .d (eSapiPair a0)), (3, .ptr 0 0), (5, .arr 1 0), (6, .d (eint v172.1))] [(0, .box (.d (eapiSpan a1))), (1, .arr 0 25 (z.map eapiPair))]) (fun (z : (List ((List UInt8) × ByteArray))) => o191 = z) ?_ ?_
      · intro v206 hv207; subst hv207
        refine cw_region (
          .cons (o_mv rfl rfl .no rfl) <|
          .cons (o_bin rfl rfl .no rfl rfl (b_add _ _) rfl) <|
          .cons (o_as rfl rfl .no rfl) <|
          .nil rfl
        ) ?_
        exact ⟨((IntKind.wrap .i64 (v172.1 + 1)), o191), (Option.some.inj h193).symm, .w (weak_of ⟨⟨_, rfl, .d rfl⟩, ⟨_, rfl, .ptr rfl rfl⟩, ⟨_, rfl, .arr rfl rfl⟩, ⟨_, rfl, .d rfl⟩, trivial⟩ ⟨.box rfl (.d rfl), .arr rfl rfl, trivial⟩ drop0)⟩
      · skip
        refine cw_block ?_
        obtain ⟨x194, hx195, h196⟩ := bind_some hj192
        have hx195g := gx_some hx195
        obtain ⟨x197, hx198, h199⟩ := bind_some (x := ref03_In a1 x194.1) h196
        refine cw_seq (cw_region_any mixed (by kernel_rfl) (
          .cons (o_ldP [] rfl rfl .no rfl rfl rfl ta44 rfl rfl) <|
          .cons (o_mv rfl rfl .no rfl) <|
          .cons (o_mv rfl rfl .no rfl) <|
          .cons (o_ixM (enc := eapiPair) (xs := a0) rfl rfl .no rfl rfl sl22 sz31 hx195g.1 hx195g.2) <|
          .cons (o_fld rfl rfl .no rfl fld31_0 (by decide) rfl rfl) <|
          .cons (o_ld rfl rfl .no rfl ta29 rfl rfl) <|
          .cons (o_call rfl rfl .no Tryz.func67 rfl rfl (ref03_In_ok hx198) (.cons rfl .d (.cons rfl .d .nil)) ⟨trivial, trivial, trivial⟩ (.inl rfl)) <|
          .cons (o_as rfl rfl .no rfl) <|
          .nil rfl
        ) (by kernel_rfl) ?_)
        refine cw_seq (cw_region (
          .cons (o_mv rfl rfl .no rfl) <|
          .nil rfl
        ) ?_)
        rcases cond_some h199 with ⟨hc200, h201⟩ | ⟨hc200, h202⟩
        · refine cw_condT rfl hc200 ?_
          obtain ⟨x203, hx204, h205⟩ := bind_some h201
          have hx204g := fits_some hx204
          refine cw_region (
            .cons (o_mv rfl rfl .no rfl) <|
            .cons (o_mv rfl rfl .no rfl) <|
            .cons (o_mv rfl rfl .no rfl) <|
            .cons (o_ixM (enc := eapiPair) (xs := a0) rfl rfl .no rfl rfl sl22 sz31 hx195g.1 hx195g.2) <|
            .cons (o_ld rfl rfl .no rfl ta31 rfl rfl) <|
            .cons (o_bsl (rows := ([x194] : List ((List UInt8) × ByteArray)).map eapiPair) rfl rfl .no (.cons rfl .nil) rfl sl22 sz31 ze31 rfl (map_sz siapiPair) (by decide)) <|
            .cons (o_appM (enc := eapiPair) (xs := v172.2) (ys := [x194]) rfl rfl .no rfl rfl rfl siapiPair sl22 sl22 sz31 by31 ze31 rfl (by decide) hx204g) <|
            .cons (o_as rfl rfl .no rfl) <|
            .nil rfl
          ) ?_
          exact ⟨(v172.2 ++ [x194]), (Option.some.inj h205).symm, .w (weak_of ⟨⟨_, rfl, .d rfl⟩, ⟨_, rfl, .ptr rfl rfl⟩, ⟨_, rfl, .arr rfl rfl⟩, ⟨_, rfl, .d rfl⟩, trivial⟩ ⟨.box rfl (.d rfl), .arr0 rfl rfl rfl, trivial⟩ drop0)⟩
        · refine cw_condF rfl hc200 ?_
          refine cw_skip ?_
          exact ⟨v172.2, (Option.some.inj h202).symm, .w (weak_of ⟨⟨_, rfl, .d rfl⟩, ⟨_, rfl, .ptr rfl rfl⟩, ⟨_, rfl, .arr rfl rfl⟩, ⟨_, rfl, .d rfl⟩, trivial⟩ ⟨.box rfl (.d rfl), .arr rfl rfl, trivial⟩ drop0)⟩
    · refine cw_condF rfl hc176 ?_
      refine cw_exit ?_
      exact ⟨v172.2, (hx175 _ (Option.some.inj h178).symm).symm, .w (weak_of ⟨⟨_, rfl, .arr rfl rfl⟩, trivial⟩ ⟨.arr rfl rfl, trivial⟩ drop0)⟩

set_option maxRecDepth 100000 in
theorem ref12_New_ok {a0 : List ((List UInt8) × ByteArray)} {r : ((List ((List UInt8) × ByteArray)) × (List ((List UInt8) × ByteArray × Bool)) × (List ((List UInt8) × (List UInt8) × Bool)) × (List (List ((List UInt8) × ByteArray × Bool))))} (h : ref12_New a0 = some r) : FnOk Tryz.prog 8 [.d (eSapiPair a0)] 0 (lk []) (fun rr oo => rr = .ptr 0 0 ∧ oo = lk [(0, .own (owainscotref12View r))]) := by
  refine fnOk_of Tryz.func8 rfl rfl (cw_post ?_)
  unfold ref12_New at h
  refine cw_seq (cw_region (
    .cons (o_as rfl rfl .no rfl) <|
    .nil rfl
  ) ?_)
  obtain ⟨x1, hx2, h3⟩ := bind_some (x := ref09_Map a0) h
  refine cw_seq (cw_region (
    .cons (o_mv rfl rfl .no rfl) <|
    .cons (o_call rfl rfl .no Tryz.func23 rfl rfl (ref09_Map_ok hx2) (.cons rfl .d .nil) ⟨trivial, trivial⟩ (.inl rfl)) <|
    .cons (o_bldA rfl rfl .no zo41 rfl pl41 (.cons rfl rfl rfl rfl rfl rfl rfl .nil)) <|
    .cons (o_box 0 rfl rfl .no rfl rfl rfl) <|
    .cons (o_as rfl rfl .no rfl) <|
    .nil rfl
  ) ?_)
  have heq := ((Option.some.inj h3).symm).symm
  subst heq
  exact cw_ret ⟨_, (show Leads _ _ (St.of [(2, .ptr 0 0)] [(0, .own (owainscotref12View (x1, [], [], [])))]) from .trans (leads_pack (o := 0) (y := .st [.d (eSapiPair x1), .d (eSapiChange ([])), .d (eSapiSpan ([])), .d (eSSapiChange ([]))]) (x := owainscotref12View (x1, [], [], [])) (l := [(2, .ptr 0 0)]) (m := [(0, .own (owainscotref12View (x1, [], [], [])))]) rfl (.st (.cons (.av rfl) (.cons (.av rfl) (.cons (.av rfl) (.cons (.av rfl) .nil))))) rfl rfl ⟨⟨rfl, (by simp [AV.live, AV.lives, lk, Nat.beq])⟩, trivial⟩ ⟨.inl rfl, trivial⟩ rfl (OD.dat_live (owainscotref12View_dat _)) trivial drop0) (.w (weak_of ⟨⟨_, rfl, .ptro rfl rfl⟩, trivial⟩ ⟨.own rfl (.of_eq rfl (owainscotref12View_dat _)), trivial⟩ drop0))), .inr rfl, _, res1 rfl rfl, rfl, rfl⟩

set_option maxRecDepth 100000 in
theorem ref12_New_a_ok {a0 : List ((List UInt8) × ByteArray)} {r : (((List ((List UInt8) × ByteArray)) × (List ((List UInt8) × ByteArray × Bool)) × (List ((List UInt8) × (List UInt8) × Bool)) × (List (List ((List UInt8) × ByteArray × Bool)))) × (List ((List UInt8) × ByteArray)))} (h : ref12_New_a a0 = some r) (u0 : Nat) : FnOk Tryz.prog 8 [.arr 0 u0] 1 (lk [(0, .arr u0 25 (List.map eapiPair a0))]) (fun rr oo => rr = .ptr 1 0 ∧ oo = lk [(0, .arr u0 25 (r.2.map eapiPair)), (1, .own (owainscotref12View r.1))]) := by
  refine fnOk_of Tryz.func8 rfl rfl (cw_post ?_)
  unfold ref12_New_a at h
  refine cw_seq (cw_region (
    .cons (o_as rfl rfl .no rfl) <|
    .nil rfl
  ) ?_)
  obtain ⟨x1, hx2, h3⟩ := bind_some (x := ref09_Map_a a0) h
  refine cw_seq (cw_region (
    .cons (o_mv rfl rfl .no rfl) <|
    .cons (o_callX (fun _ => 0) rfl rfl .no Tryz.func23 rfl rfl (ref09_Map_a_ok hx2 u0) (.cons rfl (.a rfl) .nil) (callIn1 rfl ⟨(by simp [AV.live, lk, Nat.beq]), trivial⟩ rfl trivial (by simp)) (.inl rfl)) <|
    .cons (o_bldA rfl rfl .no zo41 rfl pl41 (.cons rfl rfl rfl rfl rfl rfl rfl .nil)) <|
    .cons (o_box 1 rfl rfl .no rfl rfl rfl) <|
    .cons (o_as rfl rfl .no rfl) <|
    .nil rfl
  ) ?_)
  have heq := ((Option.some.inj h3).symm).symm
  subst heq
  exact cw_ret ⟨_, (show Leads _ _ (St.of [(2, .ptr 1 0)] [(0, .arr u0 25 (x1.2.map eapiPair)), (1, .own (owainscotref12View (x1.1, [], [], [])))]) from .trans (leads_pack (o := 1) (y := .st [.d (eSapiPair x1.1), .d (eSapiChange ([])), .d (eSapiSpan ([])), .d (eSSapiChange ([]))]) (x := owainscotref12View (x1.1, [], [], [])) (l := [(2, .ptr 1 0)]) (m := [(0, .arr u0 25 (x1.2.map eapiPair)), (1, .own (owainscotref12View (x1.1, [], [], [])))]) rfl (.st (.cons (.av rfl) (.cons (.av rfl) (.cons (.av rfl) (.cons (.av rfl) .nil))))) rfl rfl ⟨⟨rfl, (by simp [AV.live, AV.lives, lk, Nat.beq])⟩, trivial⟩ ⟨(.inr ⟨rfl, trivial⟩), .inl rfl, trivial⟩ rfl (OD.dat_live (owainscotref12View_dat _)) trivial (dropK rfl)) (.w (weak_of ⟨⟨_, rfl, .ptro rfl rfl⟩, trivial⟩ ⟨.arr rfl rfl, .own rfl (.of_eq rfl (owainscotref12View_dat _)), trivial⟩ (dropK rfl)))), .inr rfl, _, res1 rfl rfl, rfl, rfl⟩

set_option maxRecDepth 100000 in
theorem ref12_View_Map_ok {a0 : ((List ((List UInt8) × ByteArray)) × (List ((List UInt8) × ByteArray × Bool)) × (List ((List UInt8) × (List UInt8) × Bool)) × (List (List ((List UInt8) × ByteArray × Bool))))} {r : ((List ((List UInt8) × ByteArray)) × ((List ((List UInt8) × ByteArray)) × (List ((List UInt8) × ByteArray × Bool)) × (List ((List UInt8) × (List UInt8) × Bool)) × (List (List ((List UInt8) × ByteArray × Bool)))))} (h : ref12_View_Map a0 = some r) : FnOk Tryz.prog 46 [.ptr 0 0] 1 (lk [(0, .own (owainscotref12View a0))]) (fun rr oo => rr = .d (eSapiPair r.1) ∧ oo = lk [(0, .own (owainscotref12View r.2))]) := by
  refine fnOk_of Tryz.func46 rfl rfl (cw_post ?_)
  unfold ref12_View_Map at h
  refine cw_seq (cw_region (
    .cons (o_as rfl rfl .no rfl) <|
    .nil rfl
  ) ?_)
  refine cw_leads (leads_open (o := 0) (y := .st [.d (eSapiPair a0.1), .d (eSapiChange a0.2.1), .d (eSapiSpan a0.2.2.1), .d (eSSapiChange a0.2.2.2)]) (news := []) rfl (.st (.cons (.av rfl) (.cons (.av rfl) (.cons (.av rfl) (.cons (.av rfl) .nil))))) rfl rfl trivial) ?_
  refine cw_weak (weak_of (l := [(0, .ptr 0 0)]) (m := [(0, .box (.st [.d (eSapiPair a0.1), .d (eSapiChange a0.2.1), .d (eSapiSpan a0.2.2.1), .d (eSSapiChange a0.2.2.2)]))]) ⟨⟨_, rfl, .ptr rfl rfl⟩, trivial⟩ ⟨.box rfl (.st (.cons (.d rfl) (.cons (.d rfl) (.cons (.d rfl) (.cons (.d rfl) .nil))))), trivial⟩ (dropK rfl)) ?_
  obtain ⟨x1, hx2, h3⟩ := bind_some (x := ref09_Apply a0.1 a0.2.1) h
  refine cw_seq (cw_region_any mixed (by kernel_rfl) (
    .cons (o_mv rfl rfl .no rfl) <|
    .cons (o_nilP rfl rfl .no rfl) <|
    .cons (o_fldP rfl rfl .no rfl fld41_0 (by decide)) <|
    .cons (o_ldP [0] rfl rfl .no rfl rfl rfl ta22 rfl rfl) <|
    .cons (o_mv rfl rfl .no rfl) <|
    .cons (o_nilP rfl rfl .no rfl) <|
    .cons (o_fldP rfl rfl .no rfl fld41_1 (by decide)) <|
    .cons (o_ldP [1] rfl rfl .no rfl rfl rfl ta37 rfl rfl) <|
    .cons (o_call rfl rfl .no Tryz.func68 rfl rfl (ref09_Apply_ok hx2) (.cons rfl .d (.cons rfl .d .nil)) ⟨trivial, trivial, trivial⟩ (.inl rfl)) <|
    .cons (o_as rfl rfl .no rfl) <|
    .nil rfl
  ) (by kernel_rfl) ?_)
  have heq := ((Option.some.inj h3).symm).symm
  subst heq
  exact cw_ret ⟨_, (show Leads _ _ (St.of [(2, .d (eSapiPair x1))] [(0, .own (owainscotref12View (a0.1, a0.2.1, a0.2.2.1, a0.2.2.2)))]) from .trans (leads_pack (o := 0) (y := .st [.d (eSapiPair a0.1), .d (eSapiChange a0.2.1), .d (eSapiSpan a0.2.2.1), .d (eSSapiChange a0.2.2.2)]) (x := owainscotref12View (a0.1, a0.2.1, a0.2.2.1, a0.2.2.2)) (l := [(2, .d (eSapiPair x1))]) (m := [(0, .own (owainscotref12View (a0.1, a0.2.1, a0.2.2.1, a0.2.2.2)))]) rfl (.st (.cons (.av rfl) (.cons (.av rfl) (.cons (.av rfl) (.cons (.av rfl) .nil))))) rfl rfl ⟨⟨rfl, trivial⟩, trivial⟩ ⟨.inl rfl, trivial⟩ rfl (OD.dat_live (owainscotref12View_dat _)) trivial (dropK rfl)) (.w (weak_of ⟨⟨_, rfl, .d rfl⟩, trivial⟩ ⟨.own rfl (.of_eq rfl (owainscotref12View_dat _)), trivial⟩ (dropK rfl)))), .inr rfl, _, res1 rfl rfl, rfl, rfl⟩

set_option maxRecDepth 100000 in
theorem ref12_View_own_ok {a0 : ((List ((List UInt8) × ByteArray)) × (List ((List UInt8) × ByteArray × Bool)) × (List ((List UInt8) × (List UInt8) × Bool)) × (List (List ((List UInt8) × ByteArray × Bool))))} {a1 : List UInt8} {r : (Bool × ((List ((List UInt8) × ByteArray)) × (List ((List UInt8) × ByteArray × Bool)) × (List ((List UInt8) × (List UInt8) × Bool)) × (List (List ((List UInt8) × ByteArray × Bool)))))} (h : ref12_View_own a0 a1 = some r) : FnOk Tryz.prog 47 [.ptr 0 0, .d (eapiKey a1)] 1 (lk [(0, .own (owainscotref12View a0))]) (fun rr oo => rr = .d (ebool r.1) ∧ oo = lk [(0, .own (owainscotref12View r.2))]) := by
  refine fnOk_of Tryz.func47 rfl rfl (cw_post ?_)
  unfold ref12_View_own at h
  refine cw_seq (cw_region (
    .cons (o_box 1 rfl rfl .no rfl rfl rfl) <|
    .cons (o_as rfl rfl .no rfl) <|
    .nil rfl
  ) ?_)
  obtain ⟨o34, hj35, h36⟩ := bind_some h
  refine cw_join (fun (z : ((List ((List UInt8) × ByteArray)) × (List ((List UInt8) × ByteArray × Bool)) × (List ((List UInt8) × (List UInt8) × Bool)) × (List (List ((List UInt8) × ByteArray × Bool))))) => St.of [] [(0, .own (owainscotref12View z))]) (fun (z : ((List ((List UInt8) × ByteArray)) × (List ((List UInt8) × ByteArray × Bool)) × (List ((List UInt8) × (List UInt8) × Bool)) × (List (List ((List UInt8) × ByteArray × Bool))))) => o34 = (.inl z)) ?_ ?_
  · intro v71 hv73; subst hv73
    simp only [Sum.elim_inl] at h36
    refine cw_seq (cw_region (
      .cons (o_as rfl rfl .no rfl) <|
      .nil rfl
    ) ?_)
    have heq := ((Option.some.inj h36).symm).symm
    subst heq
    exact cw_ret ⟨_, (show Leads _ _ (St.of [(4, .d (ebool false))] [(0, .own (owainscotref12View v71))]) from .w (weak_of ⟨⟨_, rfl, .d rfl⟩, trivial⟩ ⟨.own rfl (.of_eq rfl (owainscotref12View_dat _)), trivial⟩ (dropK rfl))), .inr rfl, _, res1 rfl rfl, rfl, rfl⟩
  · skip
    refine cw_seq (cw_region (
      .cons (o_as rfl rfl .no rfl) <|
      .nil rfl
    ) ?_)
    refine cw_block ?_
    refine cw_while (V := (Int × ((List ((List UInt8) × ByteArray)) × (List ((List UInt8) × ByteArray × Bool)) × (List ((List UInt8) × (List UInt8) × Bool)) × (List (List ((List UInt8) × ByteArray × Bool)))))) (O := (((List ((List UInt8) × ByteArray)) × (List ((List UInt8) × ByteArray × Bool)) × (List ((List UInt8) × (List UInt8) × Bool)) × (List (List ((List UInt8) × ByteArray × Bool)))) ⊕ (Bool × ((List ((List UInt8) × ByteArray)) × (List ((List UInt8) × ByteArray × Bool)) × (List ((List UInt8) × (List UInt8) × Bool)) × (List (List ((List UInt8) × ByteArray × Bool))))))) (fun (z : (Int × ((List ((List UInt8) × ByteArray)) × (List ((List UInt8) × ByteArray × Bool)) × (List ((List UInt8) × (List UInt8) × Bool)) × (List (List ((List UInt8) × ByteArray × Bool)))))) => St.of [(0, .ptr 0 0), (3, .ptr 1 0), (5, .d (eint z.1))] [(0, .own (owainscotref12View z.2)), (1, .box (.d (eapiKey a1)))]) hj35 (.w (weak_of ⟨⟨_, rfl, .ptro rfl rfl⟩, ⟨_, rfl, .ptr rfl rfl⟩, ⟨_, rfl, .d rfl⟩, trivial⟩ ⟨.own rfl (.of_eq rfl (owainscotref12View_dat _)), .box rfl (.d rfl), trivial⟩ (dropK rfl))) ?_
    intro v57 x58 hb59 hx60
    refine cw_seq ?_
    refine cw_leads (leads_open (o := 0) (y := .st [.d (eSapiPair v57.2.1), .d (eSapiChange v57.2.2.1), .d (eSapiSpan v57.2.2.2.1), .d (eSSapiChange v57.2.2.2.2)]) (news := []) rfl (.st (.cons (.av rfl) (.cons (.av rfl) (.cons (.av rfl) (.cons (.av rfl) .nil))))) rfl rfl trivial) ?_
    refine cw_weak (weak_of (l := [(0, .ptr 0 0), (3, .ptr 1 0), (5, .d (eint v57.1))]) (m := [(0, .box (.st [.d (eSapiPair v57.2.1), .d (eSapiChange v57.2.2.1), .d (eSapiSpan v57.2.2.2.1), .d (eSSapiChange v57.2.2.2.2)])), (1, .box (.d (eapiKey a1)))]) ⟨⟨_, rfl, .ptr rfl rfl⟩, ⟨_, rfl, .ptr rfl rfl⟩, ⟨_, rfl, .d rfl⟩, trivial⟩ ⟨.box rfl (.st (.cons (.d rfl) (.cons (.d rfl) (.cons (.d rfl) (.cons (.d rfl) .nil))))), .box rfl (.d rfl), trivial⟩ (dropK rfl)) ?_
    refine cw_seq (cw_region (
      .cons (o_mv rfl rfl .no rfl) <|
      .cons (o_mv rfl rfl .no rfl) <|
      .cons (o_nilP rfl rfl .no rfl) <|
      .cons (o_fldP rfl rfl .no rfl fld41_1 (by decide)) <|
      .cons (o_ldP [1] rfl rfl .no rfl rfl rfl ta37 rfl rfl) <|
      .cons (o_lenM (enc := eapiChange) (xs := v57.2.2.1) rfl rfl .no rfl sl37) <|
      .cons (o_bin rfl rfl .no rfl rfl (b_lss _ _) rfl) <|
      .nil rfl
    ) ?_)
    rcases cond_some hb59 with ⟨hc61, h62⟩ | ⟨hc61, h63⟩
    · refine cw_condT rfl hc61 ?_
      refine cw_skip ?_
      refine cw_seq ?_
      refine cw_block ?_
      obtain ⟨x64, hx65, h66⟩ := bind_some h62
      have hx65g := gx_some hx65
      refine cw_seq (cw_region_any mixed (by kernel_rfl) (
        .cons (o_mv rfl rfl .no rfl) <|
        .cons (o_nilP rfl rfl .no rfl) <|
        .cons (o_fldP rfl rfl .no rfl fld41_1 (by decide)) <|
        .cons (o_ldP [1] rfl rfl .no rfl rfl rfl ta37 rfl rfl) <|
        .cons (o_mv rfl rfl .no rfl) <|
        .cons (o_ixM (enc := eapiChange) (xs := v57.2.2.1) rfl rfl .no rfl rfl sl37 sz52 hx65g.1 hx65g.2) <|
        .cons (o_fld rfl rfl .no rfl fld52_0 (by decide) rfl rfl) <|
        .cons (o_ld rfl rfl .no rfl ta29 rfl rfl) <|
        .cons (o_ldP [] rfl rfl .no rfl rfl rfl ta29 rfl rfl) <|
        .cons (o_eq rfl rfl .no rfl rfl rfl rfl eg29 (.bs ar29 un5 sz5)) <|
        .nil rfl
      ) (by kernel_rfl) ?_)
      rcases cond_some h66 with ⟨hc67, h68⟩ | ⟨hc67, h69⟩
      · refine cw_condT rfl hc67 ?_
        refine cw_seq (cw_region (
          .cons (o_as rfl rfl .no rfl) <|
          .nil rfl
        ) ?_)
        have he70 := ((hx60 _ (Option.some.inj h68).symm).symm).symm
        subst he70
        have heq := ((Option.some.inj h36).symm).symm
        subst heq
        exact cw_ret ⟨_, (show Leads _ _ (St.of [(4, .d (ebool true))] [(0, .own (owainscotref12View (v57.2.1, v57.2.2.1, v57.2.2.2.1, v57.2.2.2.2)))]) from .trans (leads_pack (o := 0) (y := .st [.d (eSapiPair v57.2.1), .d (eSapiChange v57.2.2.1), .d (eSapiSpan v57.2.2.2.1), .d (eSSapiChange v57.2.2.2.2)]) (x := owainscotref12View (v57.2.1, v57.2.2.1, v57.2.2.2.1, v57.2.2.2.2)) (l := [(4, .d (ebool true))]) (m := [(0, .own (owainscotref12View (v57.2.1, v57.2.2.1, v57.2.2.2.1, v57.2.2.2.2)))]) rfl (.st (.cons (.av rfl) (.cons (.av rfl) (.cons (.av rfl) (.cons (.av rfl) .nil))))) rfl rfl ⟨⟨rfl, trivial⟩, trivial⟩ ⟨.inl rfl, trivial⟩ rfl (OD.dat_live (owainscotref12View_dat _)) trivial (dropK rfl)) (.w (weak_of ⟨⟨_, rfl, .d rfl⟩, trivial⟩ ⟨.own rfl (.of_eq rfl (owainscotref12View_dat _)), trivial⟩ (dropK rfl)))), .inr rfl, _, res1 rfl rfl, rfl, rfl⟩
      · refine cw_condF rfl hc67 ?_
        refine cw_skip ?_
        refine cw_region (
          .cons (o_mv rfl rfl .no rfl) <|
          .cons (o_bin rfl rfl .no rfl rfl (b_add _ _) rfl) <|
          .cons (o_as rfl rfl .no rfl) <|
          .nil rfl
        ) ?_
        exact ⟨((IntKind.wrap .i64 (v57.1 + 1)), (v57.2.1, v57.2.2.1, v57.2.2.2.1, v57.2.2.2.2)), (Option.some.inj h69).symm, .trans (leads_pack (o := 0) (y := .st [.d (eSapiPair v57.2.1), .d (eSapiChange v57.2.2.1), .d (eSapiSpan v57.2.2.2.1), .d (eSSapiChange v57.2.2.2.2)]) (x := owainscotref12View (v57.2.1, v57.2.2.1, v57.2.2.2.1, v57.2.2.2.2)) (l := [(0, .ptr 0 0), (3, .ptr 1 0), (5, .d (eint (IntKind.wrap .i64 (v57.1 + 1))))]) (m := [(0, .own (owainscotref12View (v57.2.1, v57.2.2.1, v57.2.2.2.1, v57.2.2.2.2))), (1, .box (.d (eapiKey a1)))]) rfl (.st (.cons (.av rfl) (.cons (.av rfl) (.cons (.av rfl) (.cons (.av rfl) .nil))))) rfl rfl ⟨⟨rfl, (by simp [AV.live, AV.lives, lk, Nat.beq])⟩, ⟨rfl, (by simp [AV.live, AV.lives, lk, Nat.beq])⟩, ⟨rfl, trivial⟩, trivial⟩ ⟨.inl rfl, (.inr ⟨rfl, trivial⟩), trivial⟩ rfl (OD.dat_live (owainscotref12View_dat _)) trivial (dropK rfl)) (.w (weak_of ⟨⟨_, rfl, .ptro rfl rfl⟩, ⟨_, rfl, .ptr rfl rfl⟩, ⟨_, rfl, .d rfl⟩, trivial⟩ ⟨.own rfl (.of_eq rfl (owainscotref12View_dat _)), .box rfl (.d rfl), trivial⟩ (dropK rfl)))⟩
    · refine cw_condF rfl hc61 ?_
      refine cw_exit ?_
      exact ⟨(v57.2.1, v57.2.2.1, v57.2.2.2.1, v57.2.2.2.2), (hx60 _ (Option.some.inj h63).symm).symm, .trans (leads_pack (o := 0) (y := .st [.d (eSapiPair v57.2.1), .d (eSapiChange v57.2.2.1), .d (eSapiSpan v57.2.2.2.1), .d (eSSapiChange v57.2.2.2.2)]) (x := owainscotref12View (v57.2.1, v57.2.2.1, v57.2.2.2.1, v57.2.2.2.2)) (l := []) (m := [(0, .own (owainscotref12View (v57.2.1, v57.2.2.1, v57.2.2.2.1, v57.2.2.2.2)))]) rfl (.st (.cons (.av rfl) (.cons (.av rfl) (.cons (.av rfl) (.cons (.av rfl) .nil))))) rfl rfl trivial ⟨.inl rfl, trivial⟩ rfl (OD.dat_live (owainscotref12View_dat _)) trivial (dropK rfl)) (.w (weak_of trivial ⟨.own rfl (.of_eq rfl (owainscotref12View_dat _)), trivial⟩ (dropK rfl)))⟩

set_option maxRecDepth 100000 in
theorem ref12_View_Get_ok {a0 : ((List ((List UInt8) × ByteArray)) × (List ((List UInt8) × ByteArray × Bool)) × (List ((List UInt8) × (List UInt8) × Bool)) × (List (List ((List UInt8) × ByteArray × Bool))))} {a1 : List UInt8} {r : (ByteArray × Bool × ((List ((List UInt8) × ByteArray)) × (List ((List UInt8) × ByteArray × Bool)) × (List ((List UInt8) × (List UInt8) × Bool)) × (List (List ((List UInt8) × ByteArray × Bool)))))} (h : ref12_View_Get a0 a1 = some r) : FnOk Tryz.prog 30 [.ptr 0 0, .d (eapiKey a1)] 1 (lk [(0, .own (owainscotref12View a0))]) (fun rr oo => rr = .tup [.d (estring r.1), .d (ebool r.2.1)] ∧ oo = lk [(0, .own (owainscotref12View r.2.2))]) := by
  refine fnOk_of Tryz.func30 rfl rfl (cw_post ?_)
  unfold ref12_View_Get at h
  refine cw_seq (cw_region (
    .cons (o_box 1 rfl rfl .no rfl rfl rfl) <|
    .cons (o_as rfl rfl .no rfl) <|
    .cons (o_as rfl rfl .no rfl) <|
    .nil rfl
  ) ?_)
  obtain ⟨x1, hx2, h3⟩ := bind_some (x := ref12_View_own a0 a1) h
  refine cw_seq (cw_region (
    .cons (o_mv rfl rfl .no rfl) <|
    .cons (o_ldP [] rfl rfl .no rfl rfl rfl ta29 rfl rfl) <|
    .cons (o_callX (fun _ => 0) rfl rfl .no Tryz.func47 rfl rfl (ref12_View_own_ok hx2) (.cons rfl (.p rfl) (.cons rfl .d .nil)) (callIn1 rfl ⟨(by simp [AV.live, lk, Nat.beq]), trivial, trivial⟩ rfl (OD.dat_live (owainscotref12View_dat _)) (by simp)) (.inl rfl)) <|
    .cons (o_as rfl rfl .no rfl) <|
    .nil rfl
  ) ?_)
  obtain ⟨o19, hj20, h21⟩ := bind_some h3
  refine cw_join (fun (z : ((List ((List UInt8) × ByteArray)) × (List ((List UInt8) × ByteArray × Bool)) × (List ((List UInt8) × (List UInt8) × Bool)) × (List (List ((List UInt8) × ByteArray × Bool))))) => St.of [(0, .ptr 0 0), (3, .ptr 1 0)] [(0, .own (owainscotref12View z)), (1, .box (.d (eapiKey a1)))]) (fun (z : ((List ((List UInt8) × ByteArray)) × (List ((List UInt8) × ByteArray × Bool)) × (List ((List UInt8) × (List UInt8) × Bool)) × (List (List ((List UInt8) × ByteArray × Bool))))) => o19 = z) ?_ ?_
  · intro v43 hv44; subst hv44
    obtain ⟨x37, hx38, h39⟩ := bind_some (x := ref12_View_Map o19) h21
    obtain ⟨x40, hx41, h42⟩ := bind_some (x := ref09_Get x37.1 a1) h39
    refine cw_seq (cw_region_any mixed (by kernel_rfl) (
      .cons (o_mv rfl rfl .no rfl) <|
      .cons (o_callX (fun _ => 0) rfl rfl .no Tryz.func46 rfl rfl (ref12_View_Map_ok hx38) (.cons rfl (.p rfl) .nil) (callIn1 rfl ⟨(by simp [AV.live, lk, Nat.beq]), trivial⟩ rfl (OD.dat_live (owainscotref12View_dat _)) (by simp)) (.inl rfl)) <|
      .cons (o_ldP [] rfl rfl .no rfl rfl rfl ta29 rfl rfl) <|
      .cons (o_call rfl rfl .no Tryz.func49 rfl rfl (ref09_Get_ok hx41) (.cons rfl .d (.cons rfl .d .nil)) ⟨trivial, trivial, trivial⟩ (.inl rfl)) <|
      .cons (o_ext rfl rfl .no rfl rfl) <|
      .cons (o_ext rfl rfl .no rfl rfl) <|
      .cons (o_as rfl rfl .no rfl) <|
      .cons (o_as rfl rfl .no rfl) <|
      .nil rfl
    ) (by kernel_rfl) ?_)
    have heq := ((Option.some.inj h42).symm).symm
    subst heq
    exact cw_ret ⟨_, (show Leads _ _ (St.of [(4, .d (estring x40.1)), (5, .d (ebool x40.2))] [(0, .own (owainscotref12View x37.2))]) from .w (weak_of ⟨⟨_, rfl, .d rfl⟩, ⟨_, rfl, .d rfl⟩, trivial⟩ ⟨.own rfl (.of_eq rfl (owainscotref12View_dat _)), trivial⟩ (dropK rfl))), .inr rfl, _, res2 rfl rfl rfl, rfl, rfl⟩
  · skip
    refine cw_seq (cw_region (
      .cons (o_mv rfl rfl .no rfl) <|
      .cons (o_not rfl rfl .no rfl) <|
      .nil rfl
    ) ?_)
    rcases cond_some hj20 with ⟨hc22, h23⟩ | ⟨hc22, h24⟩
    · refine cw_condT rfl hc22 ?_
      refine cw_leads (leads_open (o := 0) (y := .st [.d (eSapiPair x1.2.1), .d (eSapiChange x1.2.2.1), .d (eSapiSpan x1.2.2.2.1), .d (eSSapiChange x1.2.2.2.2)]) (news := []) rfl (.st (.cons (.av rfl) (.cons (.av rfl) (.cons (.av rfl) (.cons (.av rfl) .nil))))) rfl rfl trivial) ?_
      refine cw_weak (weak_of (l := [(0, .ptr 0 0), (3, .ptr 1 0)]) (m := [(0, .box (.st [.d (eSapiPair x1.2.1), .d (eSapiChange x1.2.2.1), .d (eSapiSpan x1.2.2.2.1), .d (eSSapiChange x1.2.2.2.2)])), (1, .box (.d (eapiKey a1)))]) ⟨⟨_, rfl, .ptr rfl rfl⟩, ⟨_, rfl, .ptr rfl rfl⟩, trivial⟩ ⟨.box rfl (.st (.cons (.d rfl) (.cons (.d rfl) (.cons (.d rfl) (.cons (.d rfl) .nil))))), .box rfl (.d rfl), trivial⟩ (dropK rfl)) ?_
      obtain ⟨x25, hx26, h27⟩ := bind_some h23
      have hx26g := fits_some hx26
      obtain ⟨x28, hx29, h30⟩ := bind_some (x := ref03_One a1) h27
      obtain ⟨x31, hx32, h33⟩ := bind_some h30
      have hx32g := fits_some hx32
      obtain ⟨x34, hx35, h36⟩ := bind_some (x := ref08_Clean ((([] : List ((List UInt8) × (List UInt8) × Bool)) ++ x1.2.2.2.1) ++ [x28])) h33
      refine cw_region_any mixed (by kernel_rfl) (
        .cons (o_mv rfl rfl .no rfl) <|
        .cons (o_bslO (rows := ([] : List ((List UInt8) × (List UInt8) × Bool)).map eapiSpan) 2 rfl rfl .no .nil rfl sl38 sz44 ze44 rfl (map_sz siapiSpan) (by decide) rfl) <|
        .cons (o_mv rfl rfl .no rfl) <|
        .cons (o_nilP rfl rfl .no rfl) <|
        .cons (o_fldP rfl rfl .no rfl fld41_2 (by decide)) <|
        .cons (o_ldP [2] rfl rfl .no rfl rfl rfl ta38 rfl rfl) <|
        .cons (o_appM (enc := eapiSpan) (xs := ([] : List ((List UInt8) × (List UInt8) × Bool))) (ys := x1.2.2.2.1) rfl rfl .no rfl rfl rfl siapiSpan sl38 sl38 sz44 by44 ze44 rfl (by decide) hx26g) <|
        .cons (o_ldP [] rfl rfl .no rfl rfl rfl ta29 rfl rfl) <|
        .cons (o_call rfl rfl .no Tryz.func48 rfl rfl (ref03_One_ok hx29) (.cons rfl .d .nil) ⟨trivial, trivial⟩ (.inl rfl)) <|
        .cons (o_bsl (rows := ([x28] : List ((List UInt8) × (List UInt8) × Bool)).map eapiSpan) rfl rfl .no (.cons rfl .nil) rfl sl38 sz44 ze44 rfl (map_sz siapiSpan) (by decide)) <|
        .cons (o_appM (enc := eapiSpan) (xs := (([] : List ((List UInt8) × (List UInt8) × Bool)) ++ x1.2.2.2.1)) (ys := [x28]) rfl rfl .no rfl rfl rfl siapiSpan sl38 sl38 sz44 by44 ze44 rfl (by decide) hx32g) <|
        .cons (o_callO 3 rfl rfl .no Tryz.func44 rfl rfl (ref08_Clean_ok hx35) (.cons rfl (.arrM rfl) .nil) ⟨trivial, trivial⟩ rfl (.inr ⟨trivial, (flat_rows fun _ => (flapiSpan _))⟩)) <|
        .cons (o_nilP rfl rfl .no rfl) <|
        .cons (o_fldP rfl rfl .no rfl fld41_2 (by decide)) <|
        .cons (o_st [2] rfl .no rfl rfl rfl rfl rfl sz38 rfl rfl) <|
        .nil rfl
      ) (by kernel_rfl) ?_
      exact ⟨(x1.2.1, x1.2.2.1, x34, x1.2.2.2.2), (Option.some.inj h36).symm, .trans (.w (weak_of (l := [(0, .ptr 0 0), (3, .ptr 1 0)]) (m := [(0, .box (.st [.d (eSapiPair x1.2.1), .d (eSapiChange x1.2.2.1), .d (eSapiSpan x34), .d (eSSapiChange x1.2.2.2.2)])), (1, .box (.d (eapiKey a1)))]) ⟨⟨_, rfl, .ptr rfl rfl⟩, ⟨_, rfl, .ptr rfl rfl⟩, trivial⟩ ⟨.box rfl (.st (.cons (.d rfl) (.cons (.d rfl) (.cons (.frz rfl rfl rfl) (.cons (.d rfl) .nil))))), .box rfl (.d rfl), trivial⟩ (dropK rfl))) (.trans (leads_pack (o := 0) (y := .st [.d (eSapiPair x1.2.1), .d (eSapiChange x1.2.2.1), .d (eSapiSpan x34), .d (eSSapiChange x1.2.2.2.2)]) (x := owainscotref12View (x1.2.1, x1.2.2.1, x34, x1.2.2.2.2)) (l := [(0, .ptr 0 0), (3, .ptr 1 0)]) (m := [(0, .own (owainscotref12View (x1.2.1, x1.2.2.1, x34, x1.2.2.2.2))), (1, .box (.d (eapiKey a1)))]) rfl (.st (.cons (.av rfl) (.cons (.av rfl) (.cons (.av rfl) (.cons (.av rfl) .nil))))) rfl rfl ⟨⟨rfl, (by simp [AV.live, AV.lives, lk, Nat.beq])⟩, ⟨rfl, (by simp [AV.live, AV.lives, lk, Nat.beq])⟩, trivial⟩ ⟨.inl rfl, (.inr ⟨rfl, trivial⟩), trivial⟩ rfl (OD.dat_live (owainscotref12View_dat _)) trivial (dropK rfl)) (.w (weak_of ⟨⟨_, rfl, .ptro rfl rfl⟩, ⟨_, rfl, .ptr rfl rfl⟩, trivial⟩ ⟨.own rfl (.of_eq rfl (owainscotref12View_dat _)), .box rfl (.d rfl), trivial⟩ (dropK rfl))))⟩
    · refine cw_condF rfl hc22 ?_
      refine cw_skip ?_
      exact ⟨x1.2, (Option.some.inj h24).symm, .w (weak_of ⟨⟨_, rfl, .ptro rfl rfl⟩, ⟨_, rfl, .ptr rfl rfl⟩, trivial⟩ ⟨.own rfl (.of_eq rfl (owainscotref12View_dat _)), .box rfl (.d rfl), trivial⟩ (dropK rfl))⟩

set_option maxRecDepth 100000 in
theorem ref12_View_Scan_ok {a0 : ((List ((List UInt8) × ByteArray)) × (List ((List UInt8) × ByteArray × Bool)) × (List ((List UInt8) × (List UInt8) × Bool)) × (List (List ((List UInt8) × ByteArray × Bool))))} {a1 : ((List UInt8) × (List UInt8) × Bool)} {r : ((List ((List UInt8) × ByteArray)) × ((List ((List UInt8) × ByteArray)) × (List ((List UInt8) × ByteArray × Bool)) × (List ((List UInt8) × (List UInt8) × Bool)) × (List (List ((List UInt8) × ByteArray × Bool)))))} (h : ref12_View_Scan a0 a1 = some r) : FnOk Tryz.prog 27 [.ptr 0 0, .d (eapiSpan a1)] 1 (lk [(0, .own (owainscotref12View a0))]) (fun rr oo => rr = .d (eSapiPair r.1) ∧ oo = lk [(0, .own (owainscotref12View r.2))]) := by
  refine fnOk_of Tryz.func27 rfl rfl (cw_post ?_)
  unfold ref12_View_Scan at h
  refine cw_seq (cw_region (
    .cons (o_box 1 rfl rfl .no rfl rfl rfl) <|
    .cons (o_as rfl rfl .no rfl) <|
    .nil rfl
  ) ?_)
  refine cw_leads (leads_open (o := 0) (y := .st [.d (eSapiPair a0.1), .d (eSapiChange a0.2.1), .d (eSapiSpan a0.2.2.1), .d (eSSapiChange a0.2.2.2)]) (news := []) rfl (.st (.cons (.av rfl) (.cons (.av rfl) (.cons (.av rfl) (.cons (.av rfl) .nil))))) rfl rfl trivial) ?_
  refine cw_weak (weak_of (l := [(0, .ptr 0 0), (3, .ptr 1 0)]) (m := [(0, .box (.st [.d (eSapiPair a0.1), .d (eSapiChange a0.2.1), .d (eSapiSpan a0.2.2.1), .d (eSSapiChange a0.2.2.2)])), (1, .box (.d (eapiSpan a1)))]) ⟨⟨_, rfl, .ptr rfl rfl⟩, ⟨_, rfl, .ptr rfl rfl⟩, trivial⟩ ⟨.box rfl (.st (.cons (.d rfl) (.cons (.d rfl) (.cons (.d rfl) (.cons (.d rfl) .nil))))), .box rfl (.d rfl), trivial⟩ (dropK rfl)) ?_
  obtain ⟨x1, hx2, h3⟩ := bind_some h
  have hx2g := fits_some hx2
  obtain ⟨x4, hx5, h6⟩ := bind_some h3
  have hx5g := fits_some hx5
  obtain ⟨x7, hx8, h9⟩ := bind_some (x := ref08_Clean ((([] : List ((List UInt8) × (List UInt8) × Bool)) ++ a0.2.2.1) ++ [a1])) h6
  refine cw_seq (cw_region_any mixed (by kernel_rfl) (
    .cons (o_mv rfl rfl .no rfl) <|
    .cons (o_bslO (rows := ([] : List ((List UInt8) × (List UInt8) × Bool)).map eapiSpan) 2 rfl rfl .no .nil rfl sl38 sz44 ze44 rfl (map_sz siapiSpan) (by decide) rfl) <|
    .cons (o_mv rfl rfl .no rfl) <|
    .cons (o_nilP rfl rfl .no rfl) <|
    .cons (o_fldP rfl rfl .no rfl fld41_2 (by decide)) <|
    .cons (o_ldP [2] rfl rfl .no rfl rfl rfl ta38 rfl rfl) <|
    .cons (o_appM (enc := eapiSpan) (xs := ([] : List ((List UInt8) × (List UInt8) × Bool))) (ys := a0.2.2.1) rfl rfl .no rfl rfl rfl siapiSpan sl38 sl38 sz44 by44 ze44 rfl (by decide) hx2g) <|
    .cons (o_ldP [] rfl rfl .no rfl rfl rfl ta44 rfl rfl) <|
    .cons (o_bsl (rows := ([a1] : List ((List UInt8) × (List UInt8) × Bool)).map eapiSpan) rfl rfl .no (.cons rfl .nil) rfl sl38 sz44 ze44 rfl (map_sz siapiSpan) (by decide)) <|
    .cons (o_appM (enc := eapiSpan) (xs := (([] : List ((List UInt8) × (List UInt8) × Bool)) ++ a0.2.2.1)) (ys := [a1]) rfl rfl .no rfl rfl rfl siapiSpan sl38 sl38 sz44 by44 ze44 rfl (by decide) hx5g) <|
    .cons (o_callO 3 rfl rfl .no Tryz.func44 rfl rfl (ref08_Clean_ok hx8) (.cons rfl (.arrM rfl) .nil) ⟨trivial, trivial⟩ rfl (.inr ⟨trivial, (flat_rows fun _ => (flapiSpan _))⟩)) <|
    .cons (o_nilP rfl rfl .no rfl) <|
    .cons (o_fldP rfl rfl .no rfl fld41_2 (by decide)) <|
    .cons (o_st [2] rfl .no rfl rfl rfl rfl rfl sz38 rfl rfl) <|
    .nil rfl
  ) (by kernel_rfl) ?_)
  refine cw_weak (weak_of (l := [(0, .ptr 0 0), (3, .ptr 1 0)]) (m := [(0, .box (.st [.d (eSapiPair a0.1), .d (eSapiChange a0.2.1), .d (eSapiSpan x7), .d (eSSapiChange a0.2.2.2)])), (1, .box (.d (eapiSpan a1)))]) ⟨⟨_, rfl, .ptr rfl rfl⟩, ⟨_, rfl, .ptr rfl rfl⟩, trivial⟩ ⟨.box rfl (.st (.cons (.d rfl) (.cons (.d rfl) (.cons (.frz rfl rfl rfl) (.cons (.d rfl) .nil))))), .box rfl (.d rfl), trivial⟩ (dropK rfl)) ?_
  refine cw_leads (leads_pack (o := 0) (y := .st [.d (eSapiPair a0.1), .d (eSapiChange a0.2.1), .d (eSapiSpan x7), .d (eSSapiChange a0.2.2.2)]) (x := owainscotref12View (a0.1, a0.2.1, x7, a0.2.2.2)) (l := [(0, .ptr 0 0), (3, .ptr 1 0)]) (m := [(0, .own (owainscotref12View (a0.1, a0.2.1, x7, a0.2.2.2))), (1, .box (.d (eapiSpan a1)))]) rfl (.st (.cons (.av rfl) (.cons (.av rfl) (.cons (.av rfl) (.cons (.av rfl) .nil))))) rfl rfl ⟨⟨rfl, (by simp [AV.live, AV.lives, lk, Nat.beq])⟩, ⟨rfl, (by simp [AV.live, AV.lives, lk, Nat.beq])⟩, trivial⟩ ⟨.inl rfl, (.inr ⟨rfl, trivial⟩), trivial⟩ rfl (OD.dat_live (owainscotref12View_dat _)) trivial (dropK rfl)) ?_
  obtain ⟨x10, hx11, h12⟩ := bind_some (x := ref12_View_Map (a0.1, a0.2.1, x7, a0.2.2.2)) h9
  obtain ⟨x13, hx14, h15⟩ := bind_some (x := ref12_In x10.1 a1) h12
  refine cw_seq (cw_region_any mixed (by kernel_rfl) (
    .cons (o_mv rfl rfl .no rfl) <|
    .cons (o_callX (fun _ => 0) rfl rfl .no Tryz.func46 rfl rfl (ref12_View_Map_ok hx11) (.cons rfl (.p rfl) .nil) (callIn1 rfl ⟨(by simp [AV.live, lk, Nat.beq]), trivial⟩ rfl (OD.dat_live (owainscotref12View_dat _)) (by simp)) (.inl rfl)) <|
    .cons (o_ldP [] rfl rfl .no rfl rfl rfl ta44 rfl rfl) <|
    .cons (o_call rfl rfl .no Tryz.func45 rfl rfl (ref12_In_ok hx14) (.cons rfl .d (.cons rfl .d .nil)) ⟨trivial, trivial, trivial⟩ (.inl rfl)) <|
    .cons (o_as rfl rfl .no rfl) <|
    .nil rfl
  ) (by kernel_rfl) ?_)
  have heq := ((Option.some.inj h15).symm).symm
  subst heq
  exact cw_ret ⟨_, (show Leads _ _ (St.of [(4, .d (eSapiPair x13))] [(0, .own (owainscotref12View x10.2))]) from .w (weak_of ⟨⟨_, rfl, .d rfl⟩, trivial⟩ ⟨.own rfl (.of_eq rfl (owainscotref12View_dat _)), trivial⟩ (dropK rfl))), .inr rfl, _, res1 rfl rfl, rfl, rfl⟩

set_option maxRecDepth 100000 in
theorem ref12_View_Put_ok {a0 : ((List ((List UInt8) × ByteArray)) × (List ((List UInt8) × ByteArray × Bool)) × (List ((List UInt8) × (List UInt8) × Bool)) × (List (List ((List UInt8) × ByteArray × Bool))))} {a1 : List UInt8} {a2 : ByteArray} {r : (Int × ((List ((List UInt8) × ByteArray)) × (List ((List UInt8) × ByteArray × Bool)) × (List ((List UInt8) × (List UInt8) × Bool)) × (List (List ((List UInt8) × ByteArray × Bool)))))} (h : ref12_View_Put a0 a1 a2 = some r) : FnOk Tryz.prog 24 [.ptr 0 0, .d (eapiKey a1), .d (estring a2)] 1 (lk [(0, .own (owainscotref12View a0))]) (fun rr oo => rr = .d (eapiErrno r.1) ∧ oo = lk [(0, .own (owainscotref12View r.2))]) := by
  refine fnOk_of Tryz.func24 rfl rfl (cw_post ?_)
  unfold ref12_View_Put at h
  refine cw_seq (cw_region (
    .cons (o_box 1 rfl rfl .no rfl rfl rfl) <|
    .cons (o_as rfl rfl .no rfl) <|
    .nil rfl
  ) ?_)
  refine cw_seq ?_
  obtain ⟨o4, hj5, h6⟩ := bind_some h
  refine cw_join (fun (z : Bool) => St.of [(0, .ptr 0 0), (2, .d (estring a2)), (4, .ptr 1 0), (14, .d (ebool z))] [(0, .own (owainscotref12View a0)), (1, .box (.d (eapiKey a1)))]) (fun (z : Bool) => o4 = z) ?_ ?_
  · intro v16 hv17; subst hv17
    rcases cond_some h6 with ⟨hc10, h11⟩ | ⟨hc10, h12⟩
    · refine cw_condT rfl hc10 ?_
      refine cw_seq (cw_region (
        .cons (o_as rfl rfl .no rfl) <|
        .nil rfl
      ) ?_)
      have heq := ((Option.some.inj h11).symm).symm
      subst heq
      exact cw_ret ⟨_, (show Leads _ _ (St.of [(6, .d (eapiErrno 1))] [(0, .own (owainscotref12View a0))]) from .w (weak_of ⟨⟨_, rfl, .d rfl⟩, trivial⟩ ⟨.own rfl (.of_eq rfl (owainscotref12View_dat _)), trivial⟩ (dropK rfl))), .inr rfl, _, res1 rfl rfl, rfl, rfl⟩
    · refine cw_condF rfl hc10 ?_
      refine cw_skip ?_
      refine cw_leads (leads_open (o := 0) (y := .st [.d (eSapiPair a0.1), .d (eSapiChange a0.2.1), .d (eSapiSpan a0.2.2.1), .d (eSSapiChange a0.2.2.2)]) (news := []) rfl (.st (.cons (.av rfl) (.cons (.av rfl) (.cons (.av rfl) (.cons (.av rfl) .nil))))) rfl rfl trivial) ?_
      refine cw_weak (weak_of (l := [(0, .ptr 0 0), (2, .d (estring a2)), (4, .ptr 1 0)]) (m := [(0, .box (.st [.d (eSapiPair a0.1), .d (eSapiChange a0.2.1), .d (eSapiSpan a0.2.2.1), .d (eSSapiChange a0.2.2.2)])), (1, .box (.d (eapiKey a1)))]) ⟨⟨_, rfl, .ptr rfl rfl⟩, ⟨_, rfl, .d rfl⟩, ⟨_, rfl, .ptr rfl rfl⟩, trivial⟩ ⟨.box rfl (.st (.cons (.d rfl) (.cons (.d rfl) (.cons (.d rfl) (.cons (.d rfl) .nil))))), .box rfl (.d rfl), trivial⟩ (dropK rfl)) ?_
      obtain ⟨x13, hx14, h15⟩ := bind_some (x := ref09_Join ([a0.2.1, [(a1, a2, false)]])) h12
      refine cw_seq (cw_region_any mixed (by kernel_rfl) (
        .cons (o_mv rfl rfl .no rfl) <|
        .cons (o_mv rfl rfl .no rfl) <|
        .cons (o_nilP rfl rfl .no rfl) <|
        .cons (o_fldP rfl rfl .no rfl fld41_1 (by decide)) <|
        .cons (o_ldP [1] rfl rfl .no rfl rfl rfl ta37 rfl rfl) <|
        .cons (o_ldP [] rfl rfl .no rfl rfl rfl ta29 rfl rfl) <|
        .cons (o_mv rfl rfl .no rfl) <|
        .cons (o_bld (ds := [eapiKey a1, estring a2, ebool false]) rfl rfl .no zs52 rfl pl52 (.cons rfl rfl rfl rfl rfl rfl rfl (.cons rfl rfl rfl rfl rfl rfl rfl .nil))) <|
        .cons (o_bsl (rows := ([(a1, a2, false)] : List ((List UInt8) × ByteArray × Bool)).map eapiChange) rfl rfl .no (.cons rfl .nil) rfl sl37 sz52 ze52 rfl (map_sz siapiChange) (by decide)) <|
        .cons (o_bsl (rows := ([a0.2.1, [(a1, a2, false)]] : List (List ((List UInt8) × ByteArray × Bool))).map eSapiChange) rfl rfl .no (.cons rfl (.cons rfl .nil)) rfl sl39 sz37 ze37 rfl (map_sz siSapiChange) (by decide)) <|
        .cons (o_call rfl rfl .no Tryz.func43 rfl rfl (ref09_Join_ok hx14) (.cons rfl .d .nil) ⟨trivial, trivial⟩ (.inl rfl)) <|
        .cons (o_nilP rfl rfl .no rfl) <|
        .cons (o_fldP rfl rfl .no rfl fld41_1 (by decide)) <|
        .cons (o_st [1] rfl .no rfl rfl rfl rfl rfl sz37 rfl rfl) <|
        .nil rfl
      ) (by kernel_rfl) ?_)
      refine cw_seq (cw_region (
        .cons (o_as rfl rfl .no rfl) <|
        .nil rfl
      ) ?_)
      have heq := ((Option.some.inj h15).symm).symm
      subst heq
      exact cw_ret ⟨_, (show Leads _ _ (St.of [(6, .d (eapiErrno 0))] [(0, .own (owainscotref12View (a0.1, x13, a0.2.2.1, a0.2.2.2)))]) from .trans (leads_pack (o := 0) (y := .st [.d (eSapiPair a0.1), .d (eSapiChange x13), .d (eSapiSpan a0.2.2.1), .d (eSSapiChange a0.2.2.2)]) (x := owainscotref12View (a0.1, x13, a0.2.2.1, a0.2.2.2)) (l := [(6, .d (eint 0))]) (m := [(0, .own (owainscotref12View (a0.1, x13, a0.2.2.1, a0.2.2.2)))]) rfl (.st (.cons (.av rfl) (.cons (.av rfl) (.cons (.av rfl) (.cons (.av rfl) .nil))))) rfl rfl ⟨⟨rfl, trivial⟩, trivial⟩ ⟨.inl rfl, trivial⟩ rfl (OD.dat_live (owainscotref12View_dat _)) trivial (dropK rfl)) (.w (weak_of ⟨⟨_, rfl, .d rfl⟩, trivial⟩ ⟨.own rfl (.of_eq rfl (owainscotref12View_dat _)), trivial⟩ (dropK rfl)))), .inr rfl, _, res1 rfl rfl, rfl, rfl⟩
  · skip
    rcases cond_some hj5 with ⟨hc7, h8⟩ | ⟨hc7, h9⟩
    · skip
      refine cw_region (
        .cons (o_mv rfl rfl .no rfl) <|
        .cons (o_lenS rfl rfl .no rfl un9) <|
        .cons (o_bin rfl rfl .no rfl rfl (b_lss _ _) rfl) <|
        .cons (o_mv rfl rfl .no rfl) <|
        .cons (o_noT rfl rfl rfl rfl hc7) <|
        .cons (o_noT rfl rfl rfl rfl hc7) <|
        .cons (o_noT rfl rfl rfl rfl hc7) <|
        .cons (o_pickT rfl rfl .no rfl hc7 rfl) <|
        .nil rfl
      ) ?_
      exact ⟨true, (Option.some.inj h8).symm, .w (weak_of ⟨⟨_, rfl, .ptro rfl rfl⟩, ⟨_, rfl, .d rfl⟩, ⟨_, rfl, .ptr rfl rfl⟩, ⟨_, rfl, .d rfl⟩, trivial⟩ ⟨.own rfl (.of_eq rfl (owainscotref12View_dat _)), .box rfl (.d rfl), trivial⟩ (dropK rfl))⟩
    · skip
      refine cw_region (
        .cons (o_mv rfl rfl .no rfl) <|
        .cons (o_lenS rfl rfl .no rfl un9) <|
        .cons (o_bin rfl rfl .no rfl rfl (b_lss _ _) rfl) <|
        .cons (o_mv rfl rfl .no rfl) <|
        .cons (o_mv rfl rfl (.yes rfl rfl hc7) rfl) <|
        .cons (o_lenS rfl rfl (.yes rfl rfl hc7) rfl un9) <|
        .cons (o_bin rfl rfl (.yes rfl rfl hc7) rfl rfl (b_gtr _ _) rfl) <|
        .cons (o_pickF rfl rfl .no rfl hc7 rfl) <|
        .nil rfl
      ) ?_
      exact ⟨(decide ((a2.size : Int) > 40)), (Option.some.inj h9).symm, .w (weak_of ⟨⟨_, rfl, .ptro rfl rfl⟩, ⟨_, rfl, .d rfl⟩, ⟨_, rfl, .ptr rfl rfl⟩, ⟨_, rfl, .d rfl⟩, trivial⟩ ⟨.own rfl (.of_eq rfl (owainscotref12View_dat _)), .box rfl (.d rfl), trivial⟩ (dropK rfl))⟩

set_option maxRecDepth 100000 in
theorem ref12_View_Delete_ok {a0 : ((List ((List UInt8) × ByteArray)) × (List ((List UInt8) × ByteArray × Bool)) × (List ((List UInt8) × (List UInt8) × Bool)) × (List (List ((List UInt8) × ByteArray × Bool))))} {a1 : List UInt8} {r : ((List ((List UInt8) × ByteArray)) × (List ((List UInt8) × ByteArray × Bool)) × (List ((List UInt8) × (List UInt8) × Bool)) × (List (List ((List UInt8) × ByteArray × Bool))))} (h : ref12_View_Delete a0 a1 = some r) : FnOk Tryz.prog 25 [.ptr 0 0, .d (eapiKey a1)] 1 (lk [(0, .own (owainscotref12View a0))]) (fun rr oo => rr = .tup [] ∧ oo = lk [(0, .own (owainscotref12View r))]) := by
  refine fnOk_of Tryz.func25 rfl rfl (cw_post ?_)
  unfold ref12_View_Delete at h
  obtain ⟨o4, hj5, h6⟩ := bind_some h
  refine cw_tail (fun (z : ((List ((List UInt8) × ByteArray)) × (List ((List UInt8) × ByteArray × Bool)) × (List ((List UInt8) × (List UInt8) × Bool)) × (List (List ((List UInt8) × ByteArray × Bool))))) => St.of [] [(0, .own (owainscotref12View z))]) (fun (z : ((List ((List UInt8) × ByteArray)) × (List ((List UInt8) × ByteArray × Bool)) × (List ((List UInt8) × (List UInt8) × Bool)) × (List (List ((List UInt8) × ByteArray × Bool))))) => o4 = z) ?_ ?_
  · intro v10 hv11; subst hv11
    have heq := ((Option.some.inj h6).symm).symm
    subst heq
    exact ⟨_, (show Leads _ _ (St.of [] [(0, .own (owainscotref12View o4))]) from .w (weak_of trivial ⟨.own rfl (.of_eq rfl (owainscotref12View_dat _)), trivial⟩ (dropK rfl))), .inl rfl, _, res0 rfl, rfl, rfl⟩
  · skip
    refine cw_seq (cw_region (
      .cons (o_box 1 rfl rfl .no rfl rfl rfl) <|
      .nil rfl
    ) ?_)
    refine cw_leads (leads_open (o := 0) (y := .st [.d (eSapiPair a0.1), .d (eSapiChange a0.2.1), .d (eSapiSpan a0.2.2.1), .d (eSSapiChange a0.2.2.2)]) (news := []) rfl (.st (.cons (.av rfl) (.cons (.av rfl) (.cons (.av rfl) (.cons (.av rfl) .nil))))) rfl rfl trivial) ?_
    refine cw_weak (weak_of (l := [(0, .ptr 0 0), (3, .ptr 1 0)]) (m := [(0, .box (.st [.d (eSapiPair a0.1), .d (eSapiChange a0.2.1), .d (eSapiSpan a0.2.2.1), .d (eSSapiChange a0.2.2.2)])), (1, .box (.d (eapiKey a1)))]) ⟨⟨_, rfl, .ptr rfl rfl⟩, ⟨_, rfl, .ptr rfl rfl⟩, trivial⟩ ⟨.box rfl (.st (.cons (.d rfl) (.cons (.d rfl) (.cons (.d rfl) (.cons (.d rfl) .nil))))), .box rfl (.d rfl), trivial⟩ (dropK rfl)) ?_
    obtain ⟨x7, hx8, h9⟩ := bind_some (x := ref09_Join ([a0.2.1, [(a1, (ByteArray.mk #[]), true)]])) hj5
    refine cw_region_any mixed (by kernel_rfl) (
      .cons (o_mv rfl rfl .no rfl) <|
      .cons (o_mv rfl rfl .no rfl) <|
      .cons (o_nilP rfl rfl .no rfl) <|
      .cons (o_fldP rfl rfl .no rfl fld41_1 (by decide)) <|
      .cons (o_ldP [1] rfl rfl .no rfl rfl rfl ta37 rfl rfl) <|
      .cons (o_ldP [] rfl rfl .no rfl rfl rfl ta29 rfl rfl) <|
      .cons (o_bld (ds := [eapiKey a1, estring (ByteArray.mk #[]), ebool true]) rfl rfl .no zs52 rfl pl52 (.cons rfl rfl rfl rfl rfl rfl rfl (.cons rfl rfl rfl rfl rfl rfl rfl .nil))) <|
      .cons (o_bsl (rows := ([(a1, (ByteArray.mk #[]), true)] : List ((List UInt8) × ByteArray × Bool)).map eapiChange) rfl rfl .no (.cons rfl .nil) rfl sl37 sz52 ze52 rfl (map_sz siapiChange) (by decide)) <|
      .cons (o_bsl (rows := ([a0.2.1, [(a1, (ByteArray.mk #[]), true)]] : List (List ((List UInt8) × ByteArray × Bool))).map eSapiChange) rfl rfl .no (.cons rfl (.cons rfl .nil)) rfl sl39 sz37 ze37 rfl (map_sz siSapiChange) (by decide)) <|
      .cons (o_call rfl rfl .no Tryz.func43 rfl rfl (ref09_Join_ok hx8) (.cons rfl .d .nil) ⟨trivial, trivial⟩ (.inl rfl)) <|
      .cons (o_nilP rfl rfl .no rfl) <|
      .cons (o_fldP rfl rfl .no rfl fld41_1 (by decide)) <|
      .cons (o_st [1] rfl .no rfl rfl rfl rfl rfl sz37 rfl rfl) <|
      .nil rfl
    ) (by kernel_rfl) ?_
    exact ⟨(a0.1, x7, a0.2.2.1, a0.2.2.2), (Option.some.inj h9).symm, .trans (leads_pack (o := 0) (y := .st [.d (eSapiPair a0.1), .d (eSapiChange x7), .d (eSapiSpan a0.2.2.1), .d (eSSapiChange a0.2.2.2)]) (x := owainscotref12View (a0.1, x7, a0.2.2.1, a0.2.2.2)) (l := []) (m := [(0, .own (owainscotref12View (a0.1, x7, a0.2.2.1, a0.2.2.2)))]) rfl (.st (.cons (.av rfl) (.cons (.av rfl) (.cons (.av rfl) (.cons (.av rfl) .nil))))) rfl rfl trivial ⟨.inl rfl, trivial⟩ rfl (OD.dat_live (owainscotref12View_dat _)) trivial (dropK rfl)) (.w (weak_of trivial ⟨.own rfl (.of_eq rfl (owainscotref12View_dat _)), trivial⟩ (dropK rfl)))⟩

set_option maxRecDepth 100000 in
theorem ref12_View_Mark_ok {a0 : ((List ((List UInt8) × ByteArray)) × (List ((List UInt8) × ByteArray × Bool)) × (List ((List UInt8) × (List UInt8) × Bool)) × (List (List ((List UInt8) × ByteArray × Bool))))} {r : (Int × ((List ((List UInt8) × ByteArray)) × (List ((List UInt8) × ByteArray × Bool)) × (List ((List UInt8) × (List UInt8) × Bool)) × (List (List ((List UInt8) × ByteArray × Bool)))))} (h : ref12_View_Mark a0 = some r) : FnOk Tryz.prog 28 [.ptr 0 0] 1 (lk [(0, .own (owainscotref12View a0))]) (fun rr oo => rr = .d (eint r.1) ∧ oo = lk [(0, .own (owainscotref12View r.2))]) := by
  refine fnOk_of Tryz.func28 rfl rfl (cw_post ?_)
  unfold ref12_View_Mark at h
  refine cw_seq (cw_region (
    .cons (o_as rfl rfl .no rfl) <|
    .nil rfl
  ) ?_)
  refine cw_leads (leads_open (o := 0) (y := .st [.d (eSapiPair a0.1), .d (eSapiChange a0.2.1), .d (eSapiSpan a0.2.2.1), .d (eSSapiChange a0.2.2.2)]) (news := []) rfl (.st (.cons (.av rfl) (.cons (.av rfl) (.cons (.av rfl) (.cons (.av rfl) .nil))))) rfl rfl trivial) ?_
  refine cw_weak (weak_of (l := [(0, .ptr 0 0)]) (m := [(0, .box (.st [.d (eSapiPair a0.1), .d (eSapiChange a0.2.1), .d (eSapiSpan a0.2.2.1), .d (eSSapiChange a0.2.2.2)]))]) ⟨⟨_, rfl, .ptr rfl rfl⟩, trivial⟩ ⟨.box rfl (.st (.cons (.d rfl) (.cons (.d rfl) (.cons (.d rfl) (.cons (.d rfl) .nil))))), trivial⟩ (dropK rfl)) ?_
  obtain ⟨x1, hx2, h3⟩ := bind_some h
  have hx2g := fits_some hx2
  obtain ⟨x4, hx5, h6⟩ := bind_some h3
  have hx5g := fits_some hx5
  refine cw_seq (cw_region_any mixed (by kernel_rfl) (
    .cons (o_mv rfl rfl .no rfl) <|
    .cons (o_bslO (rows := ([] : List (List ((List UInt8) × ByteArray × Bool))).map eSapiChange) 1 rfl rfl .no .nil rfl sl39 sz37 ze37 rfl (map_sz siSapiChange) (by decide) rfl) <|
    .cons (o_mv rfl rfl .no rfl) <|
    .cons (o_nilP rfl rfl .no rfl) <|
    .cons (o_fldP rfl rfl .no rfl fld41_3 (by decide)) <|
    .cons (o_ldP [3] rfl rfl .no rfl rfl rfl ta39 rfl rfl) <|
    .cons (o_appM (enc := eSapiChange) (xs := ([] : List (List ((List UInt8) × ByteArray × Bool)))) (ys := a0.2.2.2) rfl rfl .no rfl rfl rfl siSapiChange sl39 sl39 sz37 by37 ze37 rfl (by decide) hx2g) <|
    .cons (o_mv rfl rfl .no rfl) <|
    .cons (o_nilP rfl rfl .no rfl) <|
    .cons (o_fldP rfl rfl .no rfl fld41_1 (by decide)) <|
    .cons (o_ldP [1] rfl rfl .no rfl rfl rfl ta37 rfl rfl) <|
    .cons (o_bsl (rows := ([a0.2.1] : List (List ((List UInt8) × ByteArray × Bool))).map eSapiChange) rfl rfl .no (.cons rfl .nil) rfl sl39 sz37 ze37 rfl (map_sz siSapiChange) (by decide)) <|
    .cons (o_appM (enc := eSapiChange) (xs := (([] : List (List ((List UInt8) × ByteArray × Bool))) ++ a0.2.2.2)) (ys := [a0.2.1]) rfl rfl .no rfl rfl rfl siSapiChange sl39 sl39 sz37 by37 ze37 rfl (by decide) hx5g) <|
    .cons (o_nilP rfl rfl .no rfl) <|
    .cons (o_fldP rfl rfl .no rfl fld41_3 (by decide)) <|
    .cons (o_st [3] rfl .no rfl rfl rfl rfl rfl sz39 rfl rfl) <|
    .nil rfl
  ) (by kernel_rfl) ?_)
  refine cw_seq (cw_region (
    .cons (o_mv rfl rfl .no rfl) <|
    .cons (o_nilP rfl rfl .no rfl) <|
    .cons (o_fldP rfl rfl .no rfl fld41_3 (by decide)) <|
    .cons (o_ldP [3] rfl rfl .no rfl rfl rfl ta39 rfl rfl) <|
    .cons (o_lenAM (enc := eSapiChange) (xs := ((([] : List (List ((List UInt8) × ByteArray × Bool))) ++ a0.2.2.2) ++ [a0.2.1])) rfl rfl .no rfl rfl sl39) <|
    .cons (o_bin rfl rfl .no rfl rfl (b_sub _ _) rfl) <|
    .cons (o_as rfl rfl .no rfl) <|
    .nil rfl
  ) ?_)
  have heq := ((Option.some.inj h6).symm).symm
  subst heq
  exact cw_ret ⟨_, (show Leads _ _ (St.of [(2, .d (eint (IntKind.wrap .i64 ((((([] : List (List ((List UInt8) × ByteArray × Bool))) ++ a0.2.2.2) ++ [a0.2.1]).length : Int) - 1))))] [(0, .own (owainscotref12View (a0.1, a0.2.1, a0.2.2.1, ((([] : List (List ((List UInt8) × ByteArray × Bool))) ++ a0.2.2.2) ++ [a0.2.1]))))]) from .trans (.w (weak_of (l := [(2, .d (eint (IntKind.wrap .i64 ((((([] : List (List ((List UInt8) × ByteArray × Bool))) ++ a0.2.2.2) ++ [a0.2.1]).length : Int) - 1))))]) (m := [(0, .box (.st [.d (eSapiPair a0.1), .d (eSapiChange a0.2.1), .d (eSapiSpan a0.2.2.1), .d (eSSapiChange ((([] : List (List ((List UInt8) × ByteArray × Bool))) ++ a0.2.2.2) ++ [a0.2.1]))]))]) ⟨⟨_, rfl, .d rfl⟩, trivial⟩ ⟨.box rfl (.st (.cons (.d rfl) (.cons (.d rfl) (.cons (.d rfl) (.cons (.frz rfl rfl rfl) .nil))))), trivial⟩ (dropK rfl))) (.trans (leads_pack (o := 0) (y := .st [.d (eSapiPair a0.1), .d (eSapiChange a0.2.1), .d (eSapiSpan a0.2.2.1), .d (eSSapiChange ((([] : List (List ((List UInt8) × ByteArray × Bool))) ++ a0.2.2.2) ++ [a0.2.1]))]) (x := owainscotref12View (a0.1, a0.2.1, a0.2.2.1, ((([] : List (List ((List UInt8) × ByteArray × Bool))) ++ a0.2.2.2) ++ [a0.2.1]))) (l := [(2, .d (eint (IntKind.wrap .i64 ((((([] : List (List ((List UInt8) × ByteArray × Bool))) ++ a0.2.2.2) ++ [a0.2.1]).length : Int) - 1))))]) (m := [(0, .own (owainscotref12View (a0.1, a0.2.1, a0.2.2.1, ((([] : List (List ((List UInt8) × ByteArray × Bool))) ++ a0.2.2.2) ++ [a0.2.1]))))]) rfl (.st (.cons (.av rfl) (.cons (.av rfl) (.cons (.av rfl) (.cons (.av rfl) .nil))))) rfl rfl ⟨⟨rfl, trivial⟩, trivial⟩ ⟨.inl rfl, trivial⟩ rfl (OD.dat_live (owainscotref12View_dat _)) trivial (dropK rfl)) (.w (weak_of ⟨⟨_, rfl, .d rfl⟩, trivial⟩ ⟨.own rfl (.of_eq rfl (owainscotref12View_dat _)), trivial⟩ (dropK rfl))))), .inr rfl, _, res1 rfl rfl, rfl, rfl⟩

set_option maxRecDepth 100000 in
theorem ref12_View_Back_ok {a0 : ((List ((List UInt8) × ByteArray)) × (List ((List UInt8) × ByteArray × Bool)) × (List ((List UInt8) × (List UInt8) × Bool)) × (List (List ((List UInt8) × ByteArray × Bool))))} {a1 : Int} {r : (Int × ((List ((List UInt8) × ByteArray)) × (List ((List UInt8) × ByteArray × Bool)) × (List ((List UInt8) × (List UInt8) × Bool)) × (List (List ((List UInt8) × ByteArray × Bool)))))} (h : ref12_View_Back a0 a1 = some r) : FnOk Tryz.prog 29 [.ptr 0 0, .d (eint a1)] 1 (lk [(0, .own (owainscotref12View a0))]) (fun rr oo => rr = .d (eapiErrno r.1) ∧ oo = lk [(0, .own (owainscotref12View r.2))]) := by
  refine fnOk_of Tryz.func29 rfl rfl (cw_post ?_)
  unfold ref12_View_Back at h
  refine cw_seq (cw_region (
    .cons (o_as rfl rfl .no rfl) <|
    .nil rfl
  ) ?_)
  refine cw_seq ?_
  refine cw_leads (leads_open (o := 0) (y := .st [.d (eSapiPair a0.1), .d (eSapiChange a0.2.1), .d (eSapiSpan a0.2.2.1), .d (eSSapiChange a0.2.2.2)]) (news := []) rfl (.st (.cons (.av rfl) (.cons (.av rfl) (.cons (.av rfl) (.cons (.av rfl) .nil))))) rfl rfl trivial) ?_
  refine cw_weak (weak_of (l := [(0, .ptr 0 0), (1, .d (eint a1))]) (m := [(0, .box (.st [.d (eSapiPair a0.1), .d (eSapiChange a0.2.1), .d (eSapiSpan a0.2.2.1), .d (eSSapiChange a0.2.2.2)]))]) ⟨⟨_, rfl, .ptr rfl rfl⟩, ⟨_, rfl, .d rfl⟩, trivial⟩ ⟨.box rfl (.st (.cons (.d rfl) (.cons (.d rfl) (.cons (.d rfl) (.cons (.d rfl) .nil))))), trivial⟩ (dropK rfl)) ?_
  obtain ⟨o7, hj8, h9⟩ := bind_some h
  refine cw_join (fun (z : Bool) => St.of [(0, .ptr 0 0), (1, .d (eint a1)), (15, .d (ebool z))] [(0, .own (owainscotref12View (a0.1, a0.2.1, a0.2.2.1, a0.2.2.2)))]) (fun (z : Bool) => o7 = z) ?_ ?_
  · intro v22 hv23; subst hv23
    rcases cond_some h9 with ⟨hc13, h14⟩ | ⟨hc13, h15⟩
    · refine cw_condT rfl hc13 ?_
      refine cw_seq (cw_region (
        .cons (o_as rfl rfl .no rfl) <|
        .nil rfl
      ) ?_)
      have heq := ((Option.some.inj h14).symm).symm
      subst heq
      exact cw_ret ⟨_, (show Leads _ _ (St.of [(4, .d (eapiErrno 1))] [(0, .own (owainscotref12View (a0.1, a0.2.1, a0.2.2.1, a0.2.2.2)))]) from .w (weak_of ⟨⟨_, rfl, .d rfl⟩, trivial⟩ ⟨.own rfl (.of_eq rfl (owainscotref12View_dat _)), trivial⟩ (dropK rfl))), .inr rfl, _, res1 rfl rfl, rfl, rfl⟩
    · refine cw_condF rfl hc13 ?_
      refine cw_skip ?_
      refine cw_leads (leads_open (o := 0) (y := .st [.d (eSapiPair a0.1), .d (eSapiChange a0.2.1), .d (eSapiSpan a0.2.2.1), .d (eSSapiChange a0.2.2.2)]) (news := []) rfl (.st (.cons (.av rfl) (.cons (.av rfl) (.cons (.av rfl) (.cons (.av rfl) .nil))))) rfl rfl trivial) ?_
      refine cw_weak (weak_of (l := [(0, .ptr 0 0), (1, .d (eint a1))]) (m := [(0, .box (.st [.d (eSapiPair a0.1), .d (eSapiChange a0.2.1), .d (eSapiSpan a0.2.2.1), .d (eSSapiChange a0.2.2.2)]))]) ⟨⟨_, rfl, .ptr rfl rfl⟩, ⟨_, rfl, .d rfl⟩, trivial⟩ ⟨.box rfl (.st (.cons (.d rfl) (.cons (.d rfl) (.cons (.d rfl) (.cons (.d rfl) .nil))))), trivial⟩ (dropK rfl)) ?_
      obtain ⟨x16, hx17, h18⟩ := bind_some h15
      have hx17g := gx_some hx17
      refine cw_seq (cw_region (
        .cons (o_mv rfl rfl .no rfl) <|
        .cons (o_mv rfl rfl .no rfl) <|
        .cons (o_nilP rfl rfl .no rfl) <|
        .cons (o_fldP rfl rfl .no rfl fld41_3 (by decide)) <|
        .cons (o_ldP [3] rfl rfl .no rfl rfl rfl ta39 rfl rfl) <|
        .cons (o_mv rfl rfl .no rfl) <|
        .cons (o_ixM (enc := eSapiChange) (xs := a0.2.2.2) rfl rfl .no rfl rfl sl39 sz37 hx17g.1 hx17g.2) <|
        .cons (o_ld rfl rfl .no rfl ta37 rfl rfl) <|
        .cons (o_nilP rfl rfl .no rfl) <|
        .cons (o_fldP rfl rfl .no rfl fld41_1 (by decide)) <|
        .cons (o_st [1] rfl .no rfl rfl rfl rfl rfl sz37 rfl rfl) <|
        .nil rfl
      ) ?_)
      obtain ⟨x19, hx20, h21⟩ := bind_some h18
      have hx20g := cutB_some hx20
      refine cw_seq (cw_region (
        .cons (o_mv rfl rfl .no rfl) <|
        .cons (o_mv rfl rfl .no rfl) <|
        .cons (o_nilP rfl rfl .no rfl) <|
        .cons (o_fldP rfl rfl .no rfl fld41_3 (by decide)) <|
        .cons (o_ldP [3] rfl rfl .no rfl rfl rfl ta39 rfl rfl) <|
        .cons (o_mv rfl rfl .no rfl) <|
        .cons (o_bin rfl rfl .no rfl rfl (b_add _ _) rfl) <|
        .cons (o_slM (enc := eSapiChange) (xs := a0.2.2.2) rfl rfl .no rfl sl39 sz37 .no (.val rfl hx20g.2.1) hx20g.2.2.1 hx20g.2.2.2) <|
        .cons (o_nilP rfl rfl .no rfl) <|
        .cons (o_fldP rfl rfl .no rfl fld41_3 (by decide)) <|
        .cons (o_st [3] rfl .no rfl rfl rfl rfl rfl sz39 rfl rfl) <|
        .nil rfl
      ) ?_)
      refine cw_seq (cw_region (
        .cons (o_as rfl rfl .no rfl) <|
        .nil rfl
      ) ?_)
      have heq := ((Option.some.inj h21).symm).symm
      subst heq
      exact cw_ret ⟨_, (show Leads _ _ (St.of [(4, .d (eapiErrno 0))] [(0, .own (owainscotref12View (a0.1, x16, a0.2.2.1, (piece a0.2.2.2 0 (IntKind.wrap .i64 (a1 + 1))))))]) from .trans (leads_pack (o := 0) (y := .st [.d (eSapiPair a0.1), .d (eSapiChange x16), .d (eSapiSpan a0.2.2.1), .d (eSSapiChange (piece a0.2.2.2 0 (IntKind.wrap .i64 (a1 + 1))))]) (x := owainscotref12View (a0.1, x16, a0.2.2.1, (piece a0.2.2.2 0 (IntKind.wrap .i64 (a1 + 1))))) (l := [(4, .d (eint 0))]) (m := [(0, .own (owainscotref12View (a0.1, x16, a0.2.2.1, (piece a0.2.2.2 0 (IntKind.wrap .i64 (a1 + 1))))))]) rfl (.st (.cons (.av rfl) (.cons (.av rfl) (.cons (.av rfl) (.cons (.av rfl) .nil))))) rfl rfl ⟨⟨rfl, trivial⟩, trivial⟩ ⟨.inl rfl, trivial⟩ rfl (OD.dat_live (owainscotref12View_dat _)) trivial (dropK rfl)) (.w (weak_of ⟨⟨_, rfl, .d rfl⟩, trivial⟩ ⟨.own rfl (.of_eq rfl (owainscotref12View_dat _)), trivial⟩ (dropK rfl)))), .inr rfl, _, res1 rfl rfl, rfl, rfl⟩
  · skip
    rcases cond_some hj8 with ⟨hc10, h11⟩ | ⟨hc10, h12⟩
    · skip
      refine cw_region (
        .cons (o_mv rfl rfl .no rfl) <|
        .cons (o_bin rfl rfl .no rfl rfl (b_lss _ _) rfl) <|
        .cons (o_mv rfl rfl .no rfl) <|
        .cons (o_noT rfl rfl rfl rfl hc10) <|
        .cons (o_noT rfl rfl rfl rfl hc10) <|
        .cons (o_noT rfl rfl rfl rfl hc10) <|
        .cons (o_noT rfl rfl rfl rfl hc10) <|
        .cons (o_noT rfl rfl rfl rfl hc10) <|
        .cons (o_noT rfl rfl rfl rfl hc10) <|
        .cons (o_noT rfl rfl rfl rfl hc10) <|
        .cons (o_pickT rfl rfl .no rfl hc10 rfl) <|
        .nil rfl
      ) ?_
      exact ⟨true, (Option.some.inj h11).symm, .trans (leads_pack (o := 0) (y := .st [.d (eSapiPair a0.1), .d (eSapiChange a0.2.1), .d (eSapiSpan a0.2.2.1), .d (eSSapiChange a0.2.2.2)]) (x := owainscotref12View (a0.1, a0.2.1, a0.2.2.1, a0.2.2.2)) (l := [(0, .ptr 0 0), (1, .d (eint a1)), (15, .d (ebool true))]) (m := [(0, .own (owainscotref12View (a0.1, a0.2.1, a0.2.2.1, a0.2.2.2)))]) rfl (.st (.cons (.av rfl) (.cons (.av rfl) (.cons (.av rfl) (.cons (.av rfl) .nil))))) rfl rfl ⟨⟨rfl, (by simp [AV.live, AV.lives, lk, Nat.beq])⟩, ⟨rfl, trivial⟩, ⟨rfl, trivial⟩, trivial⟩ ⟨.inl rfl, trivial⟩ rfl (OD.dat_live (owainscotref12View_dat _)) trivial (dropK rfl)) (.w (weak_of ⟨⟨_, rfl, .ptro rfl rfl⟩, ⟨_, rfl, .d rfl⟩, ⟨_, rfl, .d rfl⟩, trivial⟩ ⟨.own rfl (.of_eq rfl (owainscotref12View_dat _)), trivial⟩ (dropK rfl)))⟩
    · skip
      refine cw_region (
        .cons (o_mv rfl rfl .no rfl) <|
        .cons (o_bin rfl rfl .no rfl rfl (b_lss _ _) rfl) <|
        .cons (o_mv rfl rfl .no rfl) <|
        .cons (o_mv rfl rfl (.yes rfl rfl hc10) rfl) <|
        .cons (o_mv rfl rfl (.yes rfl rfl hc10) rfl) <|
        .cons (o_nilP rfl rfl (.yes rfl rfl hc10) rfl) <|
        .cons (o_fldP rfl rfl (.yes rfl rfl hc10) rfl fld41_3 (by decide)) <|
        .cons (o_ldP [3] rfl rfl (.yes rfl rfl hc10) rfl rfl rfl ta39 rfl rfl) <|
        .cons (o_lenM (enc := eSapiChange) (xs := a0.2.2.2) rfl rfl (.yes rfl rfl hc10) rfl sl39) <|
        .cons (o_bin rfl rfl (.yes rfl rfl hc10) rfl rfl (b_geq _ _) rfl) <|
        .cons (o_pickF rfl rfl .no rfl hc10 rfl) <|
        .nil rfl
      ) ?_
      exact ⟨(decide (a1 ≥ (a0.2.2.2.length : Int))), (Option.some.inj h12).symm, .trans (leads_pack (o := 0) (y := .st [.d (eSapiPair a0.1), .d (eSapiChange a0.2.1), .d (eSapiSpan a0.2.2.1), .d (eSSapiChange a0.2.2.2)]) (x := owainscotref12View (a0.1, a0.2.1, a0.2.2.1, a0.2.2.2)) (l := [(0, .ptr 0 0), (1, .d (eint a1)), (15, .d (ebool (decide (a1 ≥ (a0.2.2.2.length : Int)))))]) (m := [(0, .own (owainscotref12View (a0.1, a0.2.1, a0.2.2.1, a0.2.2.2)))]) rfl (.st (.cons (.av rfl) (.cons (.av rfl) (.cons (.av rfl) (.cons (.av rfl) .nil))))) rfl rfl ⟨⟨rfl, (by simp [AV.live, AV.lives, lk, Nat.beq])⟩, ⟨rfl, trivial⟩, ⟨rfl, trivial⟩, trivial⟩ ⟨.inl rfl, trivial⟩ rfl (OD.dat_live (owainscotref12View_dat _)) trivial (dropK rfl)) (.w (weak_of ⟨⟨_, rfl, .ptro rfl rfl⟩, ⟨_, rfl, .d rfl⟩, ⟨_, rfl, .d rfl⟩, trivial⟩ ⟨.own rfl (.of_eq rfl (owainscotref12View_dat _)), trivial⟩ (dropK rfl)))⟩

end
end Go.Val

