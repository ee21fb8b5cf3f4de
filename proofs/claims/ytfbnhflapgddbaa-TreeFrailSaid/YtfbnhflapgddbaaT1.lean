/- The stable sort,in plain words: loops over rows. -/
import Derived.Test.YtfbnhflapgddbaaWg
import Derived.Test.YtfbnhflapgddbaaLd
import Derived.Test.YtfbnhflapgddbaaWh
set_option linter.all false
namespace Go.Val
open Go.RowKit Go.Lib
theorem q00 {V O : Type} {body : V → Option (V ⊕ O)} (J : V → Prop) (μ : V → Nat) (Post : O → Prop)
  (h : ∀ v,J v → (∃ v',body v = some (.inl v') ∧ J v' ∧ μ v' < μ v) ∨ (∃ o,body v = some (.inr o) ∧ Post o)) {v : V} (hv : J v) : ∃ o,qN body v = some o ∧ Post o := by
 have key : ∀ n v,J v → μ v ≤ n → ∃ o,qN body v = some o ∧ Post o := by
  intro n
  induction n with
  | zero =>
   intro v hv hn
   rcases h v hv with ⟨v',_,_,h3⟩ | ⟨o,h1,h2⟩
   ·omega
   ·exact ⟨o,by rw [qI,h1]; rfl,h2⟩
  | succ n ih =>
   intro v hv hn
   rcases h v hv with ⟨v',h1,h2,h3⟩ | ⟨o,h1,h2⟩
   ·obtain ⟨o,h4,h5⟩ := ih v' h2 (by omega)
    exact ⟨o,by rw [qI,h1]; exact h4,h5⟩
   ·exact ⟨o,by rw [qI,h1]; rfl,h2⟩
 exact key _ v hv (Nat.le_refl _)
theorem qB1 {α : Type} (l : List α) : l = [] ∨ ∃ l0 x,l = l0 ++ [x] := by
 rcases List.eq_nil_or_concat l with h | ⟨a,b,h⟩
 ·exact .inl h
 ·exact .inr ⟨a,b,by rw [h,List.concat_eq_append]⟩
theorem qB2 {α : Type} {P S : List α} {x : α} {i : Int} (h : i = P.length) : gx (P ++ x :: S) i = some x := by
 subst h
 simp [gx]
theorem set_at {α : Type} {P S : List α} {x y : α} {i : Int} (h : i = P.length) : (P ++ x :: S).set i.toNat y = P ++ y :: S := by
 subst h
 simp
theorem w64 {n : Int} (h : -9223372036854775808 ≤ n) (h' : n ≤ 9223372036854775807) : IntKind.wrap .i64 n = n := wI64 ⟨h,h'⟩
theorem qE3 (x y : Cg) : q90 x y = some (compareBytes x.1 y.1) := by simp [q90,qD,q60]
abbrev Srt (l : List Cg) : Prop := l.Pairwise fun x y => compareBytes x.1 y.1 ≤ 0
def Stab (l l' : List Cg) : Prop := l'.length = l.length ∧ ∀ k,l'.filter (fun x => decide (x.1 = k)) = l.filter (fun x => decide (x.1 = k))
theorem Stab.refl (l : List Cg) : Stab l l := ⟨rfl,fun _ => rfl⟩
theorem Stab.trans {a b c : List Cg} (h : Stab a b) (k : Stab b c) : Stab a c := ⟨k.1.trans h.1,fun x => (k.2 x).trans (h.2 x)⟩
theorem Stab.app {a b a' b' : List Cg} (h : Stab a a') (k : Stab b b') : Stab (a ++ b) (a' ++ b') := ⟨by simp [h.1,k.1],fun x => by simp [h.2 x,k.2 x]⟩
theorem Stab.mem {a b : List Cg} (h : Stab a b) {x : Cg} : x ∈ b ↔ x ∈ a := by
 have := h.2 x.1
 constructor <;> intro hx
 ·have h1 : x ∈ b.filter (fun y => decide (y.1 = x.1)) := List.mem_filter.2 ⟨hx,by simp⟩
  rw [this] at h1
  exact (List.mem_filter.1 h1).1
 ·have h1 : x ∈ a.filter (fun y => decide (y.1 = x.1)) := List.mem_filter.2 ⟨hx,by simp⟩
  rw [← this] at h1
  exact (List.mem_filter.1 h1).1
theorem Stab.swap {A B : List Cg} (h : ∀ a ∈ A,∀ b ∈ B,compareBytes b.1 a.1 < 0) : Stab (A ++ B) (B ++ A) := by
 refine ⟨by simp; omega,fun k => ?_⟩
 rw [List.filter_append,List.filter_append]
 by_cases hA : A.filter (fun x => decide (x.1 = k)) = []
 ·rw [hA]; simp
 ·by_cases hB : B.filter (fun x => decide (x.1 = k)) = []
  ·rw [hB]; simp
  ·obtain ⟨a,ha⟩ := List.exists_mem_of_ne_nil _ hA
   obtain ⟨b,hb⟩ := List.exists_mem_of_ne_nil _ hB
   obtain ⟨ha1,ha2⟩ := List.mem_filter.1 ha
   obtain ⟨hb1,hb2⟩ := List.mem_filter.1 hb
   have e1 := of_decide_eq_true ha2
   have e2 := of_decide_eq_true hb2
   have := h a ha1 b hb1
   rw [e1,e2,cb_refl] at this
   omega
theorem qY4 : ∀ {P X Q Y S : List Cg} {i j n : Int},i = P.length → j = P.length + X.length + Q.length → n = X.length → Y.length = X.length → P.length + X.length + Q.length + Y.length ≤ 4611686018427387904 →
  qH (P ++ X ++ Q ++ Y ++ S) i j n = some (P ++ Y ++ Q ++ X ++ S) := by
 intro P X Q Y S i j n hi hj hn hY hb
 unfold qH
 have h := q00 (V := Int × List Cg) (O := List Cg) (body := fun v72 =>
   cond (decide (v72.1 < n)) (
    (gx v72.2 (IntKind.wrap .i64 (j + v72.1))).bind fun x79 =>
    (gx v72.2 (IntKind.wrap .i64 (i + v72.1))).bind fun x82 =>
    (gx (List.set v72.2 (IntKind.wrap .i64 (i + v72.1)).toNat x79) (IntKind.wrap .i64 (j + v72.1))).bind fun x85 =>
    some (.inl ((IntKind.wrap .i64 (v72.1 + 1)),(List.set (List.set v72.2 (IntKind.wrap .i64 (i + v72.1)).toNat x79) (IntKind.wrap .i64 (j + v72.1)).toNat x82)))
   ) (
    some (.inr v72.2)
   ))
  (fun v => ∃ X1 X2 Y1 Y2,X = X1 ++ X2 ∧ Y = Y1 ++ Y2 ∧ X1.length = Y1.length ∧ v.1 = X1.length ∧ v.2 = P ++ Y1 ++ X2 ++ Q ++ X1 ++ Y2 ++ S)
  (fun v => (n - v.1).toNat) (fun o => o = P ++ Y ++ Q ++ X ++ S) ?_ (v := (0,P ++ X ++ Q ++ Y ++ S)) ⟨[],X,[],Y,rfl,rfl,rfl,rfl,by simp⟩
 ·obtain ⟨o,h1,h2⟩ := h
  rw [h1,h2]; rfl
 ·rintro ⟨c,d⟩ ⟨X1,X2,Y1,Y2,hX,hY',hl,hc,hd⟩
  simp only at hc hd
  subst hd
  by_cases hlt : c < n
  ·left
   have hl2 : X2.length = Y2.length := by have := congrArg List.length hX; have := congrArg List.length hY'; simp at *; omega
   match X2,Y2,hl2 with
   | [],[],_ => rw [zJ] at hX; subst hX; omega
   | x :: X3,y :: Y3,hl2 =>
    have lX : X.length = X1.length + X3.length + 1 := by rw [hX]; simp; omega
    have e1 : IntKind.wrap .i64 (i + c) = (P ++ Y1).length := by rw [w64 (by omega) (by omega)]; simp; omega
    have e2 : IntKind.wrap .i64 (j + c) = (P ++ Y1 ++ x :: X3 ++ Q ++ X1).length := by rw [w64 (by omega) (by omega)]; simp; omega
    have e3 : IntKind.wrap .i64 (c + 1) = ((X1 ++ [x]).length : Int) := by rw [w64 (by omega) (by omega)]; simp; omega
    refine ⟨(((X1 ++ [x]).length : Int),P ++ (Y1 ++ [y]) ++ X3 ++ Q ++ (X1 ++ [x]) ++ Y3 ++ S),?_,⟨X1 ++ [x],X3,Y1 ++ [y],Y3,by simp [hX],by simp [hY'],by simp [hl],rfl,rfl⟩,by simp; omega⟩
    simp only [hlt,zC,zE]
    have g1 : gx (P ++ Y1 ++ x :: X3 ++ Q ++ X1 ++ y :: Y3 ++ S) (IntKind.wrap .i64 (j + c)) = some y := by
     rw [show P ++ Y1 ++ x :: X3 ++ Q ++ X1 ++ y :: Y3 ++ S = (P ++ Y1 ++ x :: X3 ++ Q ++ X1) ++ y :: (Y3 ++ S) by simp]
     exact qB2 e2
    have g2 : gx (P ++ Y1 ++ x :: X3 ++ Q ++ X1 ++ y :: Y3 ++ S) (IntKind.wrap .i64 (i + c)) = some x := by
     rw [show P ++ Y1 ++ x :: X3 ++ Q ++ X1 ++ y :: Y3 ++ S = (P ++ Y1) ++ x :: (X3 ++ Q ++ X1 ++ y :: Y3 ++ S) by simp]
     exact qB2 e1
    have s1 : (P ++ Y1 ++ x :: X3 ++ Q ++ X1 ++ y :: Y3 ++ S).set (IntKind.wrap .i64 (i + c)).toNat y = (P ++ Y1 ++ y :: X3 ++ Q ++ X1) ++ y :: (Y3 ++ S) := by
     rw [show P ++ Y1 ++ x :: X3 ++ Q ++ X1 ++ y :: Y3 ++ S = (P ++ Y1) ++ x :: (X3 ++ Q ++ X1 ++ y :: Y3 ++ S) by simp,set_at e1]
     simp
    have e2' : IntKind.wrap .i64 (j + c) = (P ++ Y1 ++ y :: X3 ++ Q ++ X1).length := by rw [e2]; simp
    simp only [g1,g2,zA,s1,qB2 e2',set_at e2',e3]
    simp
  ·right
   have : X2 = [] := by
    have := congrArg List.length hX; simp at this
    apply List.eq_nil_of_length_eq_zero; omega
   subst this
   have hY2 : Y2 = [] := by
    have := congrArg List.length hX; have := congrArg List.length hY'; simp at *
    apply List.eq_nil_of_length_eq_zero; omega
   subst hY2
   refine ⟨P ++ Y ++ Q ++ X ++ S,?_,rfl⟩
   simp only [hlt,zB,zD]
   simp at hX hY'
   subst hX; subst hY'
   simp
theorem rotate_eq {P A B S : List Cg} {a m b : Int} (ha : a = P.length) (hm : m = P.length + A.length) (hb : b = P.length + A.length + B.length) (hA : A ≠ []) (hB : B ≠ []) (hbd : P.length + A.length + B.length ≤ 4611686018427387904) :
  qu0 (P ++ A ++ B ++ S) a m b = some (P ++ B ++ A ++ S) := by
 unfold qu0
 have h := q00 (V := Int × Int × List Cg) (O := Int × List Cg) (body := fun v167 =>
    cond (decide (v167.1 ≠ v167.2.1)) (
     cond (decide (v167.1 > v167.2.1)) (
      (qH v167.2.2 (IntKind.wrap .i64 (m - v167.1)) m v167.2.1).bind fun x177 =>
      some (.inl ((IntKind.wrap .i64 (v167.1 - v167.2.1)),v167.2.1,x177))
     ) (
      (qH v167.2.2 (IntKind.wrap .i64 (m - v167.1)) (IntKind.wrap .i64 ((IntKind.wrap .i64 (m + v167.2.1)) - v167.1)) v167.1).bind fun x180 =>
      some (.inl (v167.1,(IntKind.wrap .i64 (v167.2.1 - v167.1)),x180))
     )
    ) (
     some (.inr (v167.1,v167.2.2))
    ))
  (fun v => ∃ P' A' B' S',v.2.2 = P' ++ A' ++ B' ++ S' ∧ v.1 = A'.length ∧ v.2.1 = B'.length ∧ A' ≠ [] ∧ B' ≠ [] ∧ m = P'.length + A'.length ∧ P'.length + A'.length + B'.length ≤ 4611686018427387904 ∧ P' ++ B' ++ A' ++ S' = P ++ B ++ A ++ S)
  (fun v => (v.1 + v.2.1).toNat)
  (fun o => ∃ P' A' B' S',o.2 = P' ++ A' ++ B' ++ S' ∧ o.1 = A'.length ∧ A'.length = B'.length ∧ m = P'.length + A'.length ∧ P'.length + A'.length + B'.length ≤ 4611686018427387904 ∧ P' ++ B' ++ A' ++ S' = P ++ B ++ A ++ S)
  ?_ (v := (IntKind.wrap .i64 (m - a),IntKind.wrap .i64 (b - m),P ++ A ++ B ++ S)) ⟨P,A,B,S,rfl,by rw [w64 (by omega) (by omega)]; omega,by show IntKind.wrap .i64 (b - m) = _; rw [w64 (by omega) (by omega)]; omega,hA,hB,hm,hbd,rfl⟩
 ·obtain ⟨⟨c,d⟩,h1,P',A',B',S',h2,h3,h4,h5,h6,h7⟩ := h
  simp only at h2 h3
  rw [h1]
  subst h2
  simp only [zA]
  have e : IntKind.wrap .i64 (m - c) = (P'.length : Int) := by rw [w64 (by omega) (by omega)]; omega
  have := qY4 (P := P') (X := A') (Q := []) (Y := B') (S := S') (i := IntKind.wrap .i64 (m - c)) (j := m) (n := c) e (by simp; omega) h3 h4.symm (by simp; omega)
  simp only [zJ] at this
  rw [this]
  simp only [zA,h7]
 ·rintro ⟨c,d,e⟩ ⟨P',A',B',S',h1,h2,h3,h4,h5,h6,h7,h8⟩
  simp only at h1 h2 h3
  subst h1
  have lA : 0 < A'.length := List.length_pos_iff.2 h4
  have lB : 0 < B'.length := List.length_pos_iff.2 h5
  by_cases hne : c = d
  ·right
   refine ⟨(c,P' ++ A' ++ B' ++ S'),by simp [hne],P',A',B',S',rfl,h2,by omega,h6,h7,h8⟩
  ·left
   have e1 : IntKind.wrap .i64 (m - c) = (P'.length : Int) := by rw [w64 (by omega) (by omega)]; omega
   by_cases hgt : c > d
   ·
    obtain ⟨A1,A2,hA',l1⟩ : ∃ A1 A2,A' = A1 ++ A2 ∧ A1.length = B'.length := ⟨A'.take B'.length,A'.drop B'.length,by simp,by simp; omega⟩
    subst hA'
    simp only [zF] at *
    have hs := qY4 (P := P') (X := A1) (Q := A2) (Y := B') (S := S') (i := IntKind.wrap .i64 (m - c)) (j := m) (n := d) e1 (by omega) (by omega) l1.symm (by omega)
    refine ⟨(c - d,d,P' ++ B' ++ A2 ++ A1 ++ S'),?_,⟨P' ++ B',A2,A1,S',rfl,by simp; omega,by simp; omega,?_,?_,by simp; omega,by simp; omega,by rw [← h8]; simp⟩,by simp; omega⟩
    ·simp only [ne_eq,hne,not_false_eq_true,zC,hgt,zE]
     rw [show P' ++ (A1 ++ A2) ++ B' ++ S' = P' ++ A1 ++ A2 ++ B' ++ S' by simp,hs,w64 (by omega) (by omega)]
     rfl
    ·intro h; subst h; simp at *; omega
    ·intro h; subst h; simp at *; omega
   ·obtain ⟨B1,B2,hB',l1⟩ : ∃ B1 B2,B' = B1 ++ B2 ∧ B2.length = A'.length := ⟨B'.take (B'.length - A'.length),B'.drop (B'.length - A'.length),by simp,by simp; omega⟩
    subst hB'
    simp only [zF] at *
    have hs := qY4 (P := P') (X := A') (Q := B1) (Y := B2) (S := S') (i := IntKind.wrap .i64 (m - c)) (j := IntKind.wrap .i64 (IntKind.wrap .i64 (m + d) - c)) (n := c) e1
     (by rw [w64 (n := m + d) (by omega) (by omega),w64 (by omega) (by omega)]; omega) h2 l1 (by omega)
    refine ⟨(c,d - c,P' ++ B2 ++ B1 ++ A' ++ S'),?_,⟨P',B2,B1,A' ++ S',by simp,by omega,by show d - c = _; omega,?_,?_,by omega,by omega,by rw [← h8]; simp⟩,by simp; omega⟩
    ·simp only [ne_eq,hne,not_false_eq_true,zC,hgt,zB,zE,zD]
     rw [show P' ++ A' ++ (B1 ++ B2) ++ S' = P' ++ A' ++ B1 ++ B2 ++ S' by simp,hs,w64 (by omega) (by omega)]
     rfl
    ·intro h; subst h; simp at *; omega
    ·intro h; subst h; simp at *; omega
end Go.Val
namespace Go.Val
open Go.RowKit Go.Lib
theorem qO3 {a b c : List UInt8} (h : compareBytes a b ≤ 0) (k : compareBytes b c ≤ 0) : compareBytes a c ≤ 0 :=
 qZ3.1 (keyLe_trans a b c (qZ3.2 h) (qZ3.2 k))
theorem cb_lt_le {a b c : List UInt8} (h : compareBytes a b < 0) (k : compareBytes b c ≤ 0) : compareBytes a c < 0 := by
 rcases Int.lt_or_eq_of_le k with k | k
 ·exact cb_trans h k
 ·rw [← cb_eq k]; exact h
theorem cb_le_lt {a b c : List UInt8} (h : compareBytes a b ≤ 0) (k : compareBytes b c < 0) : compareBytes a c < 0 := by
 rcases Int.lt_or_eq_of_le h with h | h
 ·exact cb_trans h k
 ·rw [cb_eq h]; exact k
theorem cb_nlt {a b : List UInt8} (h : ¬ compareBytes a b < 0) : compareBytes b a ≤ 0 := cb_neg.1 h
theorem insertion_eq {P A S : List Cg} {a b : Int} (ha : a = P.length) (hb : b = P.length + A.length) (hbd : P.length + A.length ≤ 4611686018427387904) :
  ∃ A',qF (P ++ A ++ S) a b = some (P ++ A' ++ S) ∧ Srt A' ∧ Stab A A' := by
 unfold qF
 match A with
 | [] =>
  refine ⟨[],?_,List.Pairwise.nil,Stab.refl _⟩
  rw [qI,w64 (by omega) (by omega)]
  have : ¬ a + 1 < b := by simp at hb; omega
  simp [this]
 | x0 :: A1 =>
  have h := q00 (V := Int × List Cg) (O := List Cg) (body := fun v1342 =>
   cond (decide (v1342.1 < b)) (
    (((
     qN (V := (Int × (List ((List UInt8) × ByteArray × Bool)))) (O := (List ((List UInt8) × ByteArray × Bool))) (fun v1565 =>
      (((
       cond (decide (v1565.1 > a)) (
        (gx v1565.2 v1565.1).bind fun x1587 =>
        (gx v1565.2 (IntKind.wrap .i64 (v1565.1 - 1))).bind fun x1590 =>
        (q90 x1587 x1590).bind fun x1593 =>
        some (decide (x1593 < 0))
       ) (
        some false
       )
      ) : Option Bool)).bind fun o1581 =>
      cond o1581 (
       (gx v1565.2 (IntKind.wrap .i64 (v1565.1 - 1))).bind fun x1599 =>
       (gx v1565.2 v1565.1).bind fun x1602 =>
       (gx (List.set v1565.2 v1565.1.toNat x1599) (IntKind.wrap .i64 (v1565.1 - 1))).bind fun x1605 =>
       some (.inl ((IntKind.wrap .i64 (v1565.1 - 1)),(List.set (List.set v1565.2 v1565.1.toNat x1599) (IntKind.wrap .i64 (v1565.1 - 1)).toNat x1602)))
      ) (
       some (.inr v1565.2)
      )
     ) (v1342.1,v1342.2)
    ) : Option (List ((List UInt8) × ByteArray × Bool)))).bind fun o1478 =>
    some (.inl ((IntKind.wrap .i64 (v1342.1 + 1)),o1478))
   ) (
    some (.inr v1342.2)
   ))
   (fun v => ∃ X X' Z,x0 :: A1 = X ++ Z ∧ v.1 = P.length + X.length ∧ v.2 = P ++ X' ++ Z ++ S ∧ Srt X' ∧ Stab X X')
   (fun v => (b - v.1).toNat) (fun o => ∃ A',o = P ++ A' ++ S ∧ Srt A' ∧ Stab (x0 :: A1) A') ?_
   (v := (IntKind.wrap .i64 (a + 1),P ++ (x0 :: A1) ++ S)) ⟨[x0],[x0],A1,rfl,by show IntKind.wrap .i64 (a + 1) = _; rw [w64 (by omega) (by omega)]; simp; omega,by simp,by simp,Stab.refl _⟩
  ·obtain ⟨o,h1,A',h2,h3,h4⟩ := h
   refine ⟨A',?_,h3,h4⟩
   rw [h1,h2]; rfl
  ·rintro ⟨i,d⟩ ⟨X,X',Z,h1,h2,h3,h4,h5⟩
   simp only at h2 h3
   subst h3
   have hlen : A1.length + 1 = X.length + Z.length := by have := congrArg List.length h1; simpa using this
   have hb' : b = P.length + (A1.length + 1) := by rw [hb]; simp
   by_cases hlt : i < b
   ·left
    match Z with
    | [] => simp at hlen; omega
    | z :: Z' =>
     have hi := q00 (V := Int × List Cg) (O := List Cg) (body := fun v1565 =>
      (((
       cond (decide (v1565.1 > a)) (
        (gx v1565.2 v1565.1).bind fun x1587 =>
        (gx v1565.2 (IntKind.wrap .i64 (v1565.1 - 1))).bind fun x1590 =>
        (q90 x1587 x1590).bind fun x1593 =>
        some (decide (x1593 < 0))
       ) (
        some false
       )
      ) : Option Bool)).bind fun o1581 =>
      cond o1581 (
       (gx v1565.2 (IntKind.wrap .i64 (v1565.1 - 1))).bind fun x1599 =>
       (gx v1565.2 v1565.1).bind fun x1602 =>
       (gx (List.set v1565.2 v1565.1.toNat x1599) (IntKind.wrap .i64 (v1565.1 - 1))).bind fun x1605 =>
       some (.inl ((IntKind.wrap .i64 (v1565.1 - 1)),(List.set (List.set v1565.2 v1565.1.toNat x1599) (IntKind.wrap .i64 (v1565.1 - 1)).toNat x1602)))
      ) (
       some (.inr v1565.2)
      ))
      (fun v => ∃ U W,X' = U ++ W ∧ (∀ w ∈ W,compareBytes z.1 w.1 < 0) ∧ v.1 = P.length + U.length ∧ v.2 = P ++ U ++ z :: W ++ Z' ++ S)
      (fun v => (v.1 - a).toNat) (fun o => ∃ U W,X' = U ++ W ∧ (∀ w ∈ W,compareBytes z.1 w.1 < 0) ∧ (∀ u ∈ U,compareBytes u.1 z.1 ≤ 0) ∧ o = P ++ U ++ z :: W ++ Z' ++ S) ?_
      (v := (i,P ++ X' ++ z :: Z' ++ S)) ⟨X',[],by simp,by simp,by rw [h2,h5.1],by simp⟩
     ·obtain ⟨o,g1,U,W,g2,g3,g4,g5⟩ := hi
      refine ⟨(i + 1,o),?_,⟨X ++ [z],U ++ z :: W,Z',by simp [h1],by simp; omega,by rw [g5]; simp,?_,?_⟩,by simp; omega⟩
      ·simp only [hlt,zC,zE]
       rw [g1,w64 (by omega) (by simp at hlen; omega)]
       rfl
      ·rw [g2] at h4
       obtain ⟨p1,p2,p3⟩ := List.pairwise_append.1 h4
       refine List.pairwise_append.2 ⟨p1,List.pairwise_cons.2 ⟨fun w hw => Int.le_of_lt (g3 w hw),p2⟩,fun u hu w hw => ?_⟩
       rcases zM.1 hw with rfl | hw
       ·exact g4 u hu
       ·exact p3 u hu w hw
      ·have q1 : Stab (X ++ [z]) (X' ++ [z]) := h5.app (Stab.refl _)
       refine q1.trans ?_
       rw [g2,zI]
       exact (Stab.refl U).app (Stab.swap (A := W) (B := [z]) (fun w hw y hy => by simp at hy; subst hy; exact g3 w hw))
     ·rintro ⟨j,d⟩ ⟨U,W,g1,g2,g3,g4⟩
      simp only at g3 g4
      subst g4
      have hl5 := h5.1
      have lX : X'.length = U.length + W.length := by rw [g1]; simp
      simp only [zG] at hlen
      rcases qB1 U with rfl | ⟨U0,u,rfl⟩
      ·right
       refine ⟨P ++ [] ++ z :: W ++ Z' ++ S,?_,[],W,g1,g2,by simp,rfl⟩
       have : ¬ j > a := by simp at g3; omega
       simp [this]
      ·have hj : j > a := by simp at g3; omega
       have lU : (U0 ++ [u]).length = U0.length + 1 := by simp
       have e1 : j = ((P ++ U0 ++ [u]).length : Int) := by simp at g3 ⊢; omega
       have e0 : IntKind.wrap .i64 (j - 1) = ((P ++ U0).length : Int) := by rw [w64 (by omega) (by rw [lU] at lX; omega)]; simp at g3 ⊢; omega
       have x1 : gx (P ++ (U0 ++ [u]) ++ z :: W ++ Z' ++ S) j = some z := by
        rw [show P ++ (U0 ++ [u]) ++ z :: W ++ Z' ++ S = (P ++ U0 ++ [u]) ++ z :: (W ++ Z' ++ S) by simp]; exact qB2 e1
       have x2 : gx (P ++ (U0 ++ [u]) ++ z :: W ++ Z' ++ S) (IntKind.wrap .i64 (j - 1)) = some u := by
        rw [show P ++ (U0 ++ [u]) ++ z :: W ++ Z' ++ S = (P ++ U0) ++ u :: (z :: W ++ Z' ++ S) by simp]; exact qB2 e0
       by_cases hc : compareBytes z.1 u.1 < 0
       ·left
        refine ⟨(j - 1,P ++ U0 ++ z :: (u :: W) ++ Z' ++ S),?_,⟨U0,u :: W,by simp [g1],?_,by rw [lU] at g3; show j - 1 = _; omega,rfl⟩,by simp; omega⟩
        ·simp only [hj,zC,zE,x1,x2,zA,qE3,hc]
         have s1 : (P ++ (U0 ++ [u]) ++ z :: W ++ Z' ++ S).set j.toNat u = (P ++ U0) ++ u :: (u :: W ++ Z' ++ S) := by
          rw [show P ++ (U0 ++ [u]) ++ z :: W ++ Z' ++ S = (P ++ U0 ++ [u]) ++ z :: (W ++ Z' ++ S) by simp,set_at e1]; simp
         rw [s1,qB2 e0,set_at e0]
         simp only [zA]
         rw [w64 (by omega) (by rw [lU] at lX; omega)]
         simp
        ·intro w hw
         rcases zM.1 hw with rfl | hw
         ·exact hc
         ·exact g2 w hw
       ·right
        refine ⟨P ++ (U0 ++ [u]) ++ z :: W ++ Z' ++ S,?_,U0 ++ [u],W,g1,g2,?_,rfl⟩
        ·simp only [hj,zC,zE,x1,x2,zA,qE3,hc,zB,zD]
        ·intro y hy
         rw [g1] at h4
         have h4' := (List.pairwise_append.1 h4).1
         rcases zL.1 hy with hy | hy
         ·exact qO3 ((List.pairwise_append.1 h4').2.2 y hy u (by simp)) (cb_nlt hc)
         ·simp at hy; subst hy; exact cb_nlt hc
   ·right
    have : Z = [] := by apply List.eq_nil_of_length_eq_zero; omega
    subst this
    rw [zJ] at h1
    refine ⟨P ++ X' ++ [] ++ S,?_,X',by simp,h4,by rw [h1]; exact h5⟩
    simp only [hlt,zB,zD]
end Go.Val
namespace Go.Val
open Go.RowKit Go.Lib
theorem half_eq {i j : Nat} (h : i + j ≤ 9223372036854775807) : IntKind.wrap .i64 (Int.fdiv (IntKind.wrap .u64 (IntKind.wrap .i64 ((i : Int) + (j : Int)))) (2 ^ 1)) = (((i + j) / 2 : Nat) : Int) := by
 rw [w64 (n := (i : Int) + (j : Int)) (by omega) (by omega)]
 have h1 : IntKind.wrap .u64 ((i : Int) + (j : Int)) = (i : Int) + j := by
  simp only [IntKind.wrap,IntKind.bits,IntKind.signed]
  simp
  omega
 rw [h1]
 have h2 : Int.fdiv ((i : Int) + j) (2 ^ 1) = ((i : Int) + j) / 2 := by
  rw [Int.fdiv_eq_ediv_of_nonneg _ (by decide)]
  rfl
 rw [h2,w64 (by omega) (by omega)]
 omega
theorem qy4 {body : Int × Int → Option ((Int × Int) ⊕ Int)} {lo hi : Nat} (p : Nat → Bool) (hlh : lo ≤ hi)
  (h1 : ∀ i j : Nat,lo ≤ i → i < j → j ≤ hi → body ((i : Int),(j : Int)) = some (.inl (if p ((i + j) / 2) = true then ((((i + j) / 2 + 1 : Nat) : Int),(j : Int)) else ((i : Int),(((i + j) / 2 : Nat) : Int)))))
  (h2 : ∀ i : Nat,body ((i : Int),(i : Int)) = some (.inr (i : Int))) :
  ∃ s : Nat,qN body ((lo : Int),(hi : Int)) = some (s : Int) ∧ lo ≤ s ∧ s ≤ hi ∧ (s = lo ∨ p (s - 1) = true) ∧ (s = hi ∨ p s = false) := by
 have h := q00 (body := body) (fun v => ∃ i j : Nat,v = ((i : Int),(j : Int)) ∧ lo ≤ i ∧ i ≤ j ∧ j ≤ hi ∧ (i = lo ∨ p (i - 1) = true) ∧ (j = hi ∨ p j = false)) (fun v => (v.2 - v.1).toNat)
  (fun o => ∃ s : Nat,o = (s : Int) ∧ lo ≤ s ∧ s ≤ hi ∧ (s = lo ∨ p (s - 1) = true) ∧ (s = hi ∨ p s = false)) ?_ (v := ((lo : Int),(hi : Int))) ⟨lo,hi,rfl,by omega,hlh,by omega,.inl rfl,.inl rfl⟩
 ·obtain ⟨o,g1,s,g2,g3⟩ := h
  exact ⟨s,by rw [g1,g2],g3⟩
 ·rintro v ⟨i,j,rfl,g1,g2,g3,g4,g5⟩
  by_cases hij : i < j
  ·left
   refine ⟨_,h1 i j g1 hij g3,?_⟩
   by_cases hp : p ((i + j) / 2) = true
   ·rw [if_pos hp]
    exact ⟨⟨(i + j) / 2 + 1,j,rfl,by omega,by omega,g3,.inr (by simpa using hp),g5⟩,by simp; omega⟩
   ·rw [if_neg hp]
    exact ⟨⟨i,(i + j) / 2,rfl,g1,by omega,by omega,g4,.inr (by simpa using hp)⟩,by simp; omega⟩
  ·right
   have : i = j := by omega
   subst this
   exact ⟨_,h2 i,i,rfl,g1,g3,g4,g5⟩
theorem q46 {α : Type} {l : List α} {i : Nat} (d : α) (h : i < l.length) : gx l (i : Int) = some (l.getD i d) := by
 rw [gx_nat h]
 simp [List.getD,h]
theorem qM3 {α : Type} {P S : List α} {x d : α} {i : Nat} (h : i = P.length) : (P ++ x :: S).getD i d = x := by
 subst h
 simp [List.getD]
theorem shiftR_eq {P B S : List Cg} {x : Cg} {a e : Int} (ha : a = P.length) (he : e = P.length + B.length) (hbd : P.length + B.length ≤ 4611686018427387904) :
  qN (V := Int × List Cg) (O := List Cg) (fun v1410 =>
      cond (decide (v1410.1 < e)) (
       (gx v1410.2 (IntKind.wrap .i64 (v1410.1 + 1))).bind fun x1417 =>
       (gx v1410.2 v1410.1).bind fun x1420 =>
       (gx (List.set v1410.2 v1410.1.toNat x1417) (IntKind.wrap .i64 (v1410.1 + 1))).bind fun x1423 =>
       some (.inl ((IntKind.wrap .i64 (v1410.1 + 1)),(List.set (List.set v1410.2 v1410.1.toNat x1417) (IntKind.wrap .i64 (v1410.1 + 1)).toNat x1420)))
      ) (
       some (.inr v1410.2)
      )) (a,P ++ x :: B ++ S) = some (P ++ B ++ x :: S) := by
 have h := q00 (V := Int × List Cg) (O := List Cg) (body := fun v1410 =>
      cond (decide (v1410.1 < e)) (
       (gx v1410.2 (IntKind.wrap .i64 (v1410.1 + 1))).bind fun x1417 =>
       (gx v1410.2 v1410.1).bind fun x1420 =>
       (gx (List.set v1410.2 v1410.1.toNat x1417) (IntKind.wrap .i64 (v1410.1 + 1))).bind fun x1423 =>
       some (.inl ((IntKind.wrap .i64 (v1410.1 + 1)),(List.set (List.set v1410.2 v1410.1.toNat x1417) (IntKind.wrap .i64 (v1410.1 + 1)).toNat x1420)))
      ) (
       some (.inr v1410.2)
      ))
  (fun v => ∃ U W,B = U ++ W ∧ v.1 = P.length + U.length ∧ v.2 = P ++ U ++ x :: W ++ S) (fun v => (e - v.1).toNat) (fun o => o = P ++ B ++ x :: S) ?_ (v := (a,P ++ x :: B ++ S)) ⟨[],B,rfl,by simpa using ha,by simp⟩
 ·obtain ⟨o,g1,g2⟩ := h
  rw [g1,g2]
 ·rintro ⟨k,d⟩ ⟨U,W,g1,g2,g3⟩
  simp only at g2 g3
  subst g3
  have lB : B.length = U.length + W.length := by rw [g1]; simp
  by_cases hk : k < e
  ·left
   match W with
   | [] => simp at lB; omega
   | w :: W' =>
    simp only [zG] at lB
    have e0 : k = ((P ++ U).length : Int) := by rw [g2]; simp
    have e1 : IntKind.wrap .i64 (k + 1) = ((P ++ U ++ [w]).length : Int) := by rw [w64 (by omega) (by omega)]; simp; omega
    have e1' : IntKind.wrap .i64 (k + 1) = ((P ++ U ++ [x]).length : Int) := by rw [e1]; simp
    refine ⟨(k + 1,P ++ (U ++ [w]) ++ x :: W' ++ S),?_,⟨U ++ [w],W',by simp [g1],by show k + 1 = _; simp; omega,rfl⟩,by simp; omega⟩
    have x1 : gx (P ++ U ++ x :: w :: W' ++ S) (IntKind.wrap .i64 (k + 1)) = some w := by
     rw [show P ++ U ++ x :: w :: W' ++ S = (P ++ U ++ [x]) ++ w :: (W' ++ S) by simp]; exact qB2 e1'
    have x2 : gx (P ++ U ++ x :: w :: W' ++ S) k = some x := by
     rw [show P ++ U ++ x :: w :: W' ++ S = (P ++ U) ++ x :: (w :: W' ++ S) by simp]; exact qB2 e0
    have s1 : (P ++ U ++ x :: w :: W' ++ S).set k.toNat w = (P ++ U ++ [w]) ++ w :: (W' ++ S) := by
     rw [show P ++ U ++ x :: w :: W' ++ S = (P ++ U) ++ x :: (w :: W' ++ S) by simp,set_at e0]; simp
    simp only [hk,zC,zE,x1,x2,zA,s1,qB2 e1,set_at e1]
    rw [w64 (by omega) (by omega)]
    simp
  ·right
   have : W = [] := by apply List.eq_nil_of_length_eq_zero; omega
   subst this
   rw [zJ] at g1
   refine ⟨P ++ U ++ [x] ++ S,?_,by rw [g1]; simp⟩
   simp only [hk,zB,zD]
theorem shiftL_eq {P A S : List Cg} {y : Cg} {m e : Int} (hm : m = P.length + A.length) (he : e = P.length) (hbd : P.length + A.length ≤ 4611686018427387904) :
  qN (V := Int × List Cg) (O := List Cg) (fun v1814 =>
       cond (decide (v1814.1 > e)) (
        (gx v1814.2 (IntKind.wrap .i64 (v1814.1 - 1))).bind fun x1821 =>
        (gx v1814.2 v1814.1).bind fun x1824 =>
        (gx (List.set v1814.2 v1814.1.toNat x1821) (IntKind.wrap .i64 (v1814.1 - 1))).bind fun x1827 =>
        some (.inl ((IntKind.wrap .i64 (v1814.1 - 1)),(List.set (List.set v1814.2 v1814.1.toNat x1821) (IntKind.wrap .i64 (v1814.1 - 1)).toNat x1824)))
       ) (
        some (.inr v1814.2)
       )) (m,P ++ A ++ y :: S) = some (P ++ y :: A ++ S) := by
 have h := q00 (V := Int × List Cg) (O := List Cg) (body := fun v1814 =>
       cond (decide (v1814.1 > e)) (
        (gx v1814.2 (IntKind.wrap .i64 (v1814.1 - 1))).bind fun x1821 =>
        (gx v1814.2 v1814.1).bind fun x1824 =>
        (gx (List.set v1814.2 v1814.1.toNat x1821) (IntKind.wrap .i64 (v1814.1 - 1))).bind fun x1827 =>
        some (.inl ((IntKind.wrap .i64 (v1814.1 - 1)),(List.set (List.set v1814.2 v1814.1.toNat x1821) (IntKind.wrap .i64 (v1814.1 - 1)).toNat x1824)))
       ) (
        some (.inr v1814.2)
       ))
  (fun v => ∃ U W,A = U ++ W ∧ v.1 = P.length + U.length ∧ v.2 = P ++ U ++ y :: W ++ S) (fun v => (v.1 - e).toNat) (fun o => o = P ++ y :: A ++ S) ?_ (v := (m,P ++ A ++ y :: S)) ⟨A,[],by simp,hm,by simp⟩
 ·obtain ⟨o,g1,g2⟩ := h
  rw [g1,g2]
 ·rintro ⟨k,d⟩ ⟨U,W,g1,g2,g3⟩
  simp only at g2 g3
  subst g3
  have lA : A.length = U.length + W.length := by rw [g1]; simp
  rcases qB1 U with rfl | ⟨U0,u,rfl⟩
  ·right
   have : ¬ k > e := by simp at g2; omega
   refine ⟨P ++ [] ++ y :: W ++ S,?_,by rw [g1]; simp⟩
   simp only [this,zB,zD]
  ·left
   simp only [zF,zG,zH] at lA g2
   have hk : k > e := by omega
   have e1 : k = ((P ++ U0 ++ [u]).length : Int) := by simp; omega
   have e0 : IntKind.wrap .i64 (k - 1) = ((P ++ U0).length : Int) := by rw [w64 (by omega) (by omega)]; simp; omega
   refine ⟨(k - 1,P ++ U0 ++ y :: (u :: W) ++ S),?_,⟨U0,u :: W,by simp [g1],by show k - 1 = _; omega,rfl⟩,by simp; omega⟩
   have x1 : gx (P ++ (U0 ++ [u]) ++ y :: W ++ S) k = some y := by
    rw [show P ++ (U0 ++ [u]) ++ y :: W ++ S = (P ++ U0 ++ [u]) ++ y :: (W ++ S) by simp]; exact qB2 e1
   have x2 : gx (P ++ (U0 ++ [u]) ++ y :: W ++ S) (IntKind.wrap .i64 (k - 1)) = some u := by
    rw [show P ++ (U0 ++ [u]) ++ y :: W ++ S = (P ++ U0) ++ u :: (y :: W ++ S) by simp]; exact qB2 e0
   have s1 : (P ++ (U0 ++ [u]) ++ y :: W ++ S).set k.toNat u = (P ++ U0) ++ u :: (u :: W ++ S) := by
    rw [show P ++ (U0 ++ [u]) ++ y :: W ++ S = (P ++ U0 ++ [u]) ++ y :: (W ++ S) by simp,set_at e1]; simp
   simp only [hk,zC,zE,x1,x2,zA,s1,qB2 e0,set_at e0]
   rw [w64 (by omega) (by omega)]
   simp
end Go.Val
namespace Go.Val
open Go.RowKit Go.Lib
theorem qx3 {A B : List Cg} : Srt (A ++ B) ↔ Srt A ∧ Srt B ∧ ∀ a ∈ A,∀ b ∈ B,compareBytes a.1 b.1 ≤ 0 := List.pairwise_append
theorem srt_last {A0 : List Cg} {x : Cg} (h : Srt (A0 ++ [x])) {a : Cg} (ha : a ∈ A0 ++ [x]) : compareBytes a.1 x.1 ≤ 0 := by
 rcases zL.1 ha with ha | ha
 ·exact (qx3.1 h).2.2 a ha x (by simp)
 ·simp at ha; subst ha; rw [cb_refl]; omega
theorem qR5 {A0 : List Cg} {x : Cg} (h : Srt (x :: A0)) {a : Cg} (ha : a ∈ x :: A0) : compareBytes x.1 a.1 ≤ 0 := by
 rcases zM.1 ha with rfl | ha
 ·rw [cb_refl]; omega
 ·exact (List.pairwise_cons.1 h).1 a ha
theorem qT4 {α : Type} (l : List α) (n : Nat) (h : n ≤ l.length) : ∃ l1 l2,l = l1 ++ l2 ∧ l1.length = n ∧ l2.length = l.length - n := ⟨l.take n,l.drop n,by simp,by simp; omega,by simp⟩
set_option maxHeartbeats 4000000 in
theorem symMerge_n : ∀ (n : Nat) {P A B S : List Cg} {a m b : Int},a = P.length → m = P.length + A.length → b = P.length + A.length + B.length → A ≠ [] → B ≠ [] → A.length + B.length ≤ 2 ^ n →
  P.length + A.length + B.length ≤ 2305843009213693952 → Srt A → Srt B → ∃ M,q10 n (P ++ A ++ B ++ S) a m b = some (P ++ M ++ S) ∧ Srt M ∧ Stab (A ++ B) M := by
 intro n
 induction n with
 | zero =>
  intro P A B S a m b ha hm hb hA hB hn
  have lA : 0 < A.length := List.length_pos_iff.2 hA
  have lB : 0 < B.length := List.length_pos_iff.2 hB
  simp at hn; omega
 | succ n ih =>
  intro P A B S a m b ha hm hb hA hB hn hbd sA sB
  have lA : 0 < A.length := List.length_pos_iff.2 hA
  have lB : 0 < B.length := List.length_pos_iff.2 hB
  have dflt : Cg := A.head hA
  have hlen : (P ++ A ++ B ++ S).length = P.length + A.length + B.length + S.length := by simp; omega
  show ∃ M,qm0 (q10 n) (P ++ A ++ B ++ S) a m b = some (P ++ M ++ S) ∧ Srt M ∧ Stab (A ++ B) M
  unfold qm0
  rw [w64 (n := m - a) (by omega) (by omega),w64 (n := b - m) (by omega) (by omega)]
  by_cases c1 : m - a = 1
  ·
   obtain ⟨x,rfl⟩ : ∃ x,A = [x] := by
    match A,hA with
    | [x],_ => exact ⟨x,rfl⟩
    | x :: y :: A',_ => simp at hm; omega
   simp only [c1,zC,zE]
   obtain ⟨s,e1,e2,e3,e4,e5⟩ := qy4 (body := fun v1320 =>
      cond (decide (v1320.1 < v1320.2)) (
       (gx (P ++ [x] ++ B ++ S) (IntKind.wrap .i64 (Int.fdiv (IntKind.wrap .u64 (IntKind.wrap .i64 (v1320.1 + v1320.2))) (2 ^ 1)))).bind fun x1327 =>
       (gx (P ++ [x] ++ B ++ S) a).bind fun x1330 =>
       (q90 x1327 x1330).bind fun x1333 =>
       cond (decide (x1333 < 0)) (
        some (.inl ((IntKind.wrap .i64 ((IntKind.wrap .i64 (Int.fdiv (IntKind.wrap .u64 (IntKind.wrap .i64 (v1320.1 + v1320.2))) (2 ^ 1))) + 1)),v1320.2))
       ) (
        some (.inl (v1320.1,(IntKind.wrap .i64 (Int.fdiv (IntKind.wrap .u64 (IntKind.wrap .i64 (v1320.1 + v1320.2))) (2 ^ 1)))))
       )
      ) (
       some (.inr v1320.1)
      )) (lo := P.length + 1) (hi := P.length + 1 + B.length) (fun h => decide (compareBytes ((P ++ [x] ++ B ++ S).getD h dflt).1 x.1 < 0)) (by omega) (by
     intro i j g1 g2 g3
     simp only [zG,zH] at *
     have hlt : ((i : Int) < (j : Int)) := by omega
     simp only [hlt,zC,zE]
     rw [half_eq (by omega),q46 dflt (by rw [hlen]; omega),show gx (P ++ [x] ++ B ++ S) a = some x by rw [show P ++ [x] ++ B ++ S = P ++ x :: (B ++ S) by simp]; exact qB2 ha]
     simp only [zA,qE3]
     rw [w64 (by omega) (by omega)]
     generalize (P ++ [x] ++ B ++ S).getD ((i + j) / 2) dflt = q
     by_cases hc : compareBytes q.1 x.1 < 0
     ·simp [hc]
     ·simp [hc]) (by intro i; simp)
   rw [show m = ((P.length + 1 : Nat) : Int) by simp at hm; omega,show b = ((P.length + 1 + B.length : Nat) : Int) by simp at hb; omega,e1]
   simp only [zA]
   obtain ⟨B1,B2,hBe,l1,l2⟩ := qT4 B (s - (P.length + 1)) (by omega)
   subst hBe
   simp only [zF,zG,zH] at *
   rw [w64 (n := (s : Int) - 1) (by omega) (by omega)]
   have hs := shiftR_eq (P := P) (B := B1) (S := B2 ++ S) (x := x) (a := a) (e := (s : Int) - 1) ha (by omega) (by omega)
   rw [show P ++ [x] ++ (B1 ++ B2) ++ S = P ++ x :: B1 ++ (B2 ++ S) by simp,hs]
   refine ⟨B1 ++ x :: B2,by simp,?_,?_⟩
   ·obtain ⟨p1,p2,p3⟩ := qx3.1 sB
    have hB1 : ∀ u ∈ B1,compareBytes u.1 x.1 < 0 := by
     intro u hu
     rcases qB1 B1 with rfl | ⟨B0,y,rfl⟩
     ·cases hu
     ·simp only [zF,zG,zH] at *
      rcases e4 with e4 | e4
      ·omega
      ·have := of_decide_eq_true e4
       rw [show P ++ [x] ++ (B0 ++ [y] ++ B2) ++ S = (P ++ [x] ++ B0) ++ y :: (B2 ++ S) by simp,qM3 (by simp; omega)] at this
       exact cb_le_lt (srt_last p1 hu) this
    have hB2 : ∀ u ∈ B2,compareBytes x.1 u.1 ≤ 0 := by
     intro u hu
     match B2,hu with
     | y :: B3,hu =>
      simp only [zG] at *
      rcases e5 with e5 | e5
      ·omega
      ·have := of_decide_eq_false e5
       rw [show P ++ [x] ++ (B1 ++ y :: B3) ++ S = (P ++ [x] ++ B1) ++ y :: (B3 ++ S) by simp,qM3 (by simp; omega)] at this
       exact qO3 (cb_nlt this) (qR5 p2 hu)
    refine qx3.2 ⟨p1,List.pairwise_cons.2 ⟨hB2,p2⟩,fun u hu w hw => ?_⟩
    rcases zM.1 hw with rfl | hw
    ·exact Int.le_of_lt (hB1 u hu)
    ·exact p3 u hu w hw
   ·have hB1 : ∀ u ∈ B1,compareBytes u.1 x.1 < 0 := by
     intro u hu
     rcases qB1 B1 with rfl | ⟨B0,y,rfl⟩
     ·cases hu
     ·simp only [zF,zG,zH] at *
      rcases e4 with e4 | e4
      ·omega
      ·have := of_decide_eq_true e4
       rw [show P ++ [x] ++ (B0 ++ [y] ++ B2) ++ S = (P ++ [x] ++ B0) ++ y :: (B2 ++ S) by simp,qM3 (by simp; omega)] at this
       exact cb_le_lt (srt_last (qx3.1 sB).1 hu) this
    have := (Stab.swap (A := [x]) (B := B1) (fun a' ha' b' hb' => by simp at ha'; subst ha'; exact hB1 b' hb')).app (Stab.refl B2)
    simpa using this
  ·simp only [c1,zB,zD]
   simp only [zA,zN]
   by_cases c2 : b - m = 1
   ·obtain ⟨y,rfl⟩ : ∃ y,B = [y] := by
     match B,hB with
     | [y],_ => exact ⟨y,rfl⟩
     | x :: y :: B',_ => simp at hb; omega
    simp only [c2,zC,zE]
    have hm2 : m = ((P.length + A.length : Nat) : Int) := by omega
    subst hm2
    subst ha
    obtain ⟨s,e1,e2,e3,e4,e5⟩ := qy4 (body := fun v1724 =>
       cond (decide (v1724.1 < v1724.2)) (
        (gx (P ++ A ++ [y] ++ S) ((P.length + A.length : Nat) : Int)).bind fun x1731 =>
        (gx (P ++ A ++ [y] ++ S) (IntKind.wrap .i64 (Int.fdiv (IntKind.wrap .u64 (IntKind.wrap .i64 (v1724.1 + v1724.2))) (2 ^ 1)))).bind fun x1734 =>
        (q90 x1731 x1734).bind fun x1737 =>
        cond (!(decide (x1737 < 0))) (
         some (.inl ((IntKind.wrap .i64 ((IntKind.wrap .i64 (Int.fdiv (IntKind.wrap .u64 (IntKind.wrap .i64 (v1724.1 + v1724.2))) (2 ^ 1))) + 1)),v1724.2))
        ) (
         some (.inl (v1724.1,(IntKind.wrap .i64 (Int.fdiv (IntKind.wrap .u64 (IntKind.wrap .i64 (v1724.1 + v1724.2))) (2 ^ 1)))))
        )
       ) (
        some (.inr v1724.1)
       )) (lo := P.length) (hi := P.length + A.length) (fun h => !decide (compareBytes y.1 ((P ++ A ++ [y] ++ S).getD h dflt).1 < 0)) (by omega) (by
      intro i j g1 g2 g3
      have hlt : ((i : Int) < (j : Int)) := by omega
      simp only [hlt,zC,zE]
      rw [half_eq (by omega),show gx (P ++ A ++ [y] ++ S) ((P.length + A.length : Nat) : Int) = some y by rw [show P ++ A ++ [y] ++ S = (P ++ A) ++ y :: S by simp]; exact qB2 (by simp),q46 dflt (by rw [hlen]; omega)]
      simp only [zA,qE3]
      rw [w64 (by omega) (by omega)]
      generalize (P ++ A ++ [y] ++ S).getD ((i + j) / 2) dflt = q
      by_cases hc : compareBytes y.1 q.1 < 0
      ·simp [hc]
      ·simp [hc]) (by intro i; simp)
    rw [e1]
    simp only [zA,zO]
    obtain ⟨A1,A2,hAe,l1,l2⟩ := qT4 A (s - P.length) (by omega)
    subst hAe
    simp only [zF,zG,zH] at *
    have hs := shiftL_eq (P := P ++ A1) (A := A2) (S := S) (y := y) (m := ((P.length + (A1.length + A2.length) : Nat) : Int)) (e := (s : Int)) (by simp; omega) (by simp; omega) (by simp; omega)
    rw [show P ++ (A1 ++ A2) ++ [y] ++ S = P ++ A1 ++ A2 ++ y :: S by simp,hs]
    have hA2 : ∀ u ∈ A2,compareBytes y.1 u.1 < 0 := by
     intro u hu
     match A2,hu with
     | x :: A3,hu =>
      simp only [zG] at *
      rcases e5 with e5 | e5
      ·omega
      ·simp only [Bool.not_eq_false',decide_eq_true_eq] at e5
       rw [show P ++ (A1 ++ x :: A3) ++ [y] ++ S = (P ++ A1) ++ x :: (A3 ++ [y] ++ S) by simp,qM3 (by simp; omega)] at e5
       exact cb_lt_le e5 (qR5 (qx3.1 sA).2.1 hu)
    refine ⟨A1 ++ y :: A2,by simp,?_,?_⟩
    ·obtain ⟨p1,p2,p3⟩ := qx3.1 sA
     have hA1 : ∀ u ∈ A1,compareBytes u.1 y.1 ≤ 0 := by
      intro u hu
      rcases qB1 A1 with rfl | ⟨A0,x,rfl⟩
      ·cases hu
      ·simp only [zF,zG,zH] at *
       rcases e4 with e4 | e4
       ·omega
       ·simp only [Bool.not_eq_true',decide_eq_false_iff_not] at e4
        rw [show P ++ (A0 ++ [x] ++ A2) ++ [y] ++ S = (P ++ A0) ++ x :: (A2 ++ [y] ++ S) by simp,qM3 (by simp; omega)] at e4
        exact qO3 (srt_last p1 hu) (cb_nlt e4)
     refine qx3.2 ⟨p1,List.pairwise_cons.2 ⟨fun w hw => Int.le_of_lt (hA2 w hw),p2⟩,fun u hu w hw => ?_⟩
     rcases zM.1 hw with rfl | hw
     ·exact hA1 u hu
     ·exact p3 u hu w hw
    ·have := (Stab.refl A1).app (Stab.swap (A := A2) (B := [y]) (fun a' ha' b' hb' => by simp at hb'; subst hb'; exact hA2 a' ha'))
     simpa using this
   ·simp only [c2,zB,zD]
    simp only [zA,zN]
    have hm2 : m = ((P.length + A.length : Nat) : Int) := by omega
    have hb2 : b = ((P.length + A.length + B.length : Nat) : Int) := by omega
    subst hm2; subst hb2; subst ha
    obtain ⟨mid,hmid⟩ : ∃ mid,mid = (P.length + (P.length + A.length + B.length)) / 2 := ⟨_,rfl⟩
    rw [half_eq (by omega),← hmid,w64 (n := (mid : Int) + ((P.length + A.length : Nat) : Int)) (by omega) (by omega),w64 (n := (mid : Int) + ((P.length + A.length : Nat) : Int) - ((P.length + A.length + B.length : Nat) : Int)) (by omega) (by omega)]
    obtain ⟨lo,hi,hc,hlo⟩ : ∃ lo hi : Nat,(cond (decide (((P.length + A.length : Nat) : Int) > (mid : Int))) (some ((mid : Int),(mid : Int) + ((P.length + A.length : Nat) : Int),(mid : Int) + ((P.length + A.length : Nat) : Int) - ((P.length + A.length + B.length : Nat) : Int),(mid : Int))) (some ((mid : Int),(mid : Int) + ((P.length + A.length : Nat) : Int),((P.length : Nat) : Int),((P.length + A.length : Nat) : Int)))) = some ((mid : Int),(mid : Int) + ((P.length + A.length : Nat) : Int),(lo : Int),(hi : Int)) ∧
      ((mid < P.length + A.length ∧ lo + B.length = mid ∧ hi = mid) ∨ (P.length + A.length ≤ mid ∧ lo = P.length ∧ hi = P.length + A.length)) := by
     by_cases hq : P.length + A.length > mid
     ·refine ⟨mid - B.length,mid,?_,.inl ⟨hq,by omega,rfl⟩⟩
      have : ((P.length + A.length : Nat) : Int) > (mid : Int) := by omega
      simp only [this,zC,zE]
      congr 4
      omega
     ·refine ⟨P.length,P.length + A.length,?_,.inr ⟨by omega,rfl,rfl⟩⟩
      have : ¬ ((P.length + A.length : Nat) : Int) > (mid : Int) := by omega
      simp only [this,zB,zD]
    rw [hc]
    simp only [zA]
    obtain ⟨s,e1,e2,e3,e4,e5⟩ := qy4 (body := fun v1932 =>
      cond (decide (v1932.1 < v1932.2)) (
       (gx (P ++ A ++ B ++ S) (IntKind.wrap .i64 ((IntKind.wrap .i64 (((mid : Int) + ((P.length + A.length : Nat) : Int)) - 1)) - (IntKind.wrap .i64 (Int.fdiv (IntKind.wrap .u64 (IntKind.wrap .i64 (v1932.1 + v1932.2))) (2 ^ 1)))))).bind fun x1939 =>
       (gx (P ++ A ++ B ++ S) (IntKind.wrap .i64 (Int.fdiv (IntKind.wrap .u64 (IntKind.wrap .i64 (v1932.1 + v1932.2))) (2 ^ 1)))).bind fun x1942 =>
       (q90 x1939 x1942).bind fun x1945 =>
       cond (!(decide (x1945 < 0))) (
        some (.inl ((IntKind.wrap .i64 ((IntKind.wrap .i64 (Int.fdiv (IntKind.wrap .u64 (IntKind.wrap .i64 (v1932.1 + v1932.2))) (2 ^ 1))) + 1)),v1932.2))
       ) (
        some (.inl (v1932.1,(IntKind.wrap .i64 (Int.fdiv (IntKind.wrap .u64 (IntKind.wrap .i64 (v1932.1 + v1932.2))) (2 ^ 1)))))
       )
      ) (
       some (.inr v1932.1)
      )) (lo := lo) (hi := hi) (fun c => !decide (compareBytes ((P ++ A ++ B ++ S).getD (mid + (P.length + A.length) - 1 - c) dflt).1 ((P ++ A ++ B ++ S).getD c dflt).1 < 0)) (by omega) (by
     intro i j g1 g2 g3
     have hlt : ((i : Int) < (j : Int)) := by omega
     simp only [hlt,zC,zE]
     have ep : IntKind.wrap .i64 (IntKind.wrap .i64 ((mid : Int) + ((P.length + A.length : Nat) : Int) - 1) - (((i + j) / 2 : Nat) : Int)) = ((mid + (P.length + A.length) - 1 - (i + j) / 2 : Nat) : Int) := by
      rw [w64 (n := (mid : Int) + ((P.length + A.length : Nat) : Int) - 1) (by omega) (by omega),w64 (by omega) (by omega)]; omega
     rw [half_eq (by omega),ep,q46 dflt (by rw [hlen]; omega),q46 dflt (by rw [hlen]; omega)]
     simp only [zA,qE3]
     rw [w64 (by omega) (by omega)]
     generalize (P ++ A ++ B ++ S).getD ((i + j) / 2) dflt = q
     generalize (P ++ A ++ B ++ S).getD (mid + (P.length + A.length) - 1 - (i + j) / 2) dflt = q'
     by_cases hc : compareBytes q'.1 q.1 < 0
     ·simp [hc]
     ·simp [hc]) (by intro i; simp)
    rw [e1]
    simp only [zA]
    obtain ⟨en,hen⟩ : ∃ en,en = mid + (P.length + A.length) - s := ⟨_,rfl⟩
    have een : IntKind.wrap .i64 ((mid : Int) + ((P.length + A.length : Nat) : Int) - (s : Int)) = (en : Int) := by rw [w64 (by omega) (by omega)]; omega
    rw [een]
    obtain ⟨A1,A2,hAe,l1,l2⟩ := qT4 A (s - P.length) (by omega)
    obtain ⟨B1,B2,hBe,l3,l4⟩ := qT4 B (en - (P.length + A.length)) (by omega)
    have hBA : ∀ x ∈ A2,∀ y ∈ B1,compareBytes y.1 x.1 < 0 := by
     intro x hx y hy
     rcases qB1 B1 with rfl | ⟨B0,y0,rfl⟩
     ·cases hy
     ·match A2,hx with
      | x0 :: A3,hx =>
       simp only [zF,zG,zH] at l1 l2 l3 l4
       rcases e5 with e5 | e5
       ·omega
       ·simp only [Bool.not_eq_false',decide_eq_true_eq] at e5
        have q1 : (P ++ A ++ B ++ S).getD s dflt = x0 := by
         rw [hAe,show P ++ (A1 ++ x0 :: A3) ++ B ++ S = (P ++ A1) ++ x0 :: (A3 ++ B ++ S) by simp]; exact qM3 (by simp; omega)
        have q2 : (P ++ A ++ B ++ S).getD (mid + (P.length + A.length) - 1 - s) dflt = y0 := by
         rw [hBe,show P ++ A ++ (B0 ++ [y0] ++ B2) ++ S = (P ++ A ++ B0) ++ y0 :: (B2 ++ S) by simp]; exact qM3 (by simp; omega)
        rw [q1,q2] at e5
        have r1 : compareBytes y.1 y0.1 ≤ 0 := srt_last (qx3.1 (hBe ▸ sB)).1 hy
        have r2 : compareBytes x0.1 x.1 ≤ 0 := qR5 (qx3.1 (hAe ▸ sA)).2.1 hx
        exact cb_lt_le (cb_le_lt r1 e5) r2
    have hAB : ∀ x ∈ A1,∀ y ∈ B2,compareBytes x.1 y.1 ≤ 0 := by
     intro x hx y hy
     rcases qB1 A1 with rfl | ⟨A0,x0,rfl⟩
     ·cases hx
     ·match B2,hy with
      | y0 :: B3,hy =>
       simp only [zF,zG,zH] at l1 l2 l3 l4
       rcases e4 with e4 | e4
       ·omega
       ·simp only [Bool.not_eq_true',decide_eq_false_iff_not] at e4
        have q1 : (P ++ A ++ B ++ S).getD (s - 1) dflt = x0 := by
         rw [hAe,show P ++ (A0 ++ [x0] ++ A2) ++ B ++ S = (P ++ A0) ++ x0 :: (A2 ++ B ++ S) by simp]; exact qM3 (by simp; omega)
        have q2 : (P ++ A ++ B ++ S).getD (mid + (P.length + A.length) - 1 - (s - 1)) dflt = y0 := by
         rw [hBe,show P ++ A ++ (B1 ++ y0 :: B3) ++ S = (P ++ A ++ B1) ++ y0 :: (B3 ++ S) by simp]; exact qM3 (by simp; omega)
        rw [q1,q2] at e4
        have r1 : compareBytes x.1 x0.1 ≤ 0 := srt_last (qx3.1 (hAe ▸ sA)).1 hx
        have r2 : compareBytes y0.1 y.1 ≤ 0 := qR5 (qx3.1 (hBe ▸ sB)).2.1 hy
        exact qO3 (qO3 r1 (cb_nlt e4)) r2
    have sA1 := (qx3.1 (hAe ▸ sA)); have sB1 := (qx3.1 (hBe ▸ sB))
    have lAe : A.length = A1.length + A2.length := by rw [hAe]; simp
    have lBe : B.length = B1.length + B2.length := by rw [hBe]; simp
    have hrot : ((cond (decide ((s : Int) < ((P.length + A.length : Nat) : Int))) (some (decide (((P.length + A.length : Nat) : Int) < (en : Int)))) (some false) : Option Bool).bind fun o1974 =>
     cond o1974 ((qu0 (P ++ A ++ B ++ S) (s : Int) ((P.length + A.length : Nat) : Int) (en : Int)).bind fun x1983 => some x1983) (some (P ++ A ++ B ++ S))) = some (P ++ A1 ++ B1 ++ A2 ++ B2 ++ S) := by
     by_cases h1 : s < P.length + A.length
     ·by_cases h2 : P.length + A.length < en
      ·have g1 : (s : Int) < ((P.length + A.length : Nat) : Int) := by omega
       have g2 : ((P.length + A.length : Nat) : Int) < (en : Int) := by omega
       simp only [g1,g2,zC,zE,zA]
       have := rotate_eq (P := P ++ A1) (A := A2) (B := B1) (S := B2 ++ S) (a := (s : Int)) (m := ((P.length + A.length : Nat) : Int)) (b := (en : Int)) (by simp; omega) (by simp; omega) (by simp; omega)
        (by intro h; subst h; simp at lAe l2; omega) (by intro h; subst h; simp at lBe l3; omega) (by simp; omega)
       rw [hAe,hBe]
       rw [hAe] at this
       rw [show P ++ (A1 ++ A2) ++ (B1 ++ B2) ++ S = P ++ A1 ++ A2 ++ B1 ++ (B2 ++ S) by simp,this]
       simp
      ·have hB1 : B1 = [] := by apply List.eq_nil_of_length_eq_zero; omega
       have g2 : ¬ ((P.length + A.length : Nat) : Int) < (en : Int) := by omega
       have g1 : (s : Int) < ((P.length + A.length : Nat) : Int) := by omega
       simp only [g1,g2,zC,zB,zE,zA,zD]
       subst hB1
       rw [hAe,hBe]; simp
     ·have hA2 : A2 = [] := by apply List.eq_nil_of_length_eq_zero; omega
      have g1 : ¬ (s : Int) < ((P.length + A.length : Nat) : Int) := by omega
      simp only [g1,zB,zD,zA]
      subst hA2
      rw [hAe,hBe]; simp
    rw [hrot]
    simp only [zA]
    have h2n : 2 ^ (n + 1) = 2 * 2 ^ n := by rw [Nat.pow_succ]; omega
    obtain ⟨M1,hM1,sM1,tM1⟩ : ∃ M1,((cond (decide (((P.length : Nat) : Int) < (s : Int))) (some (decide ((s : Int) < (mid : Int)))) (some false) : Option Bool).bind fun o2011 =>
     cond o2011 ((q10 n (P ++ A1 ++ B1 ++ A2 ++ B2 ++ S) ((P.length : Nat) : Int) (s : Int) (mid : Int)).bind fun x2020 => some x2020) (some (P ++ A1 ++ B1 ++ A2 ++ B2 ++ S))) = some (P ++ M1 ++ A2 ++ B2 ++ S) ∧ Srt M1 ∧ Stab (A1 ++ B1) M1 := by
     by_cases h1 : P.length < s
     ·by_cases h2 : s < mid
      ·have g1 : ((P.length : Nat) : Int) < (s : Int) := by omega
       have g2 : (s : Int) < (mid : Int) := by omega
       simp only [g1,g2,zC,zE,zA]
       obtain ⟨M1,k1,k2,k3⟩ := ih (P := P) (A := A1) (B := B1) (S := A2 ++ B2 ++ S) (a := ((P.length : Nat) : Int)) (m := (s : Int)) (b := (mid : Int)) rfl (by omega) (by omega)
        (by intro h; subst h; simp at l1; omega) (by intro h; subst h; simp at l3; omega) (by omega) (by omega) sA1.1 sB1.1
       refine ⟨M1,?_,k2,k3⟩
       rw [show P ++ A1 ++ B1 ++ A2 ++ B2 ++ S = P ++ A1 ++ B1 ++ (A2 ++ B2 ++ S) by simp,k1]
       simp
      ·have hB1 : B1 = [] := by apply List.eq_nil_of_length_eq_zero; omega
       have g1 : ((P.length : Nat) : Int) < (s : Int) := by omega
       have g2 : ¬ (s : Int) < (mid : Int) := by omega
       simp only [g1,g2,zC,zB,zE,zA,zD]
       subst hB1
       exact ⟨A1,by simp,sA1.1,by simpa using Stab.refl A1⟩
     ·have hA1 : A1 = [] := by apply List.eq_nil_of_length_eq_zero; omega
      have g1 : ¬ ((P.length : Nat) : Int) < (s : Int) := by omega
      simp only [g1,zB,zD,zA]
      subst hA1
      exact ⟨B1,by simp,sB1.1,by simpa using Stab.refl B1⟩
    rw [hM1]
    simp only [zA]
    have lM1 : M1.length = A1.length + B1.length := by rw [tM1.1]; simp
    obtain ⟨M2,hM2,sM2,tM2⟩ : ∃ M2,((cond (decide ((mid : Int) < (en : Int))) (some (decide ((en : Int) < ((P.length + A.length + B.length : Nat) : Int)))) (some false) : Option Bool).bind fun o2028 =>
     cond o2028 ((q10 n (P ++ M1 ++ A2 ++ B2 ++ S) (mid : Int) (en : Int) ((P.length + A.length + B.length : Nat) : Int)).bind fun x2037 => some ((.inl x2037) : List Cg ⊕ List Cg)) (some (.inl (P ++ M1 ++ A2 ++ B2 ++ S)))) = some (.inl (P ++ M1 ++ M2 ++ S)) ∧ Srt M2 ∧ Stab (A2 ++ B2) M2 := by
     by_cases h1 : mid < en
     ·by_cases h2 : en < P.length + A.length + B.length
      ·have g1 : (mid : Int) < (en : Int) := by omega
       have g2 : (en : Int) < ((P.length + A.length + B.length : Nat) : Int) := by omega
       simp only [g1,g2,zC,zE,zA]
       obtain ⟨M2,k1,k2,k3⟩ := ih (P := P ++ M1) (A := A2) (B := B2) (S := S) (a := (mid : Int)) (m := (en : Int)) (b := ((P.length + A.length + B.length : Nat) : Int)) (by simp; omega) (by simp; omega) (by simp; omega)
        (by intro h; subst h; simp at l2; omega) (by intro h; subst h; simp at l4; omega) (by omega) (by simp; omega) sA1.2.1 sB1.2.1
       refine ⟨M2,?_,k2,k3⟩
       rw [k1]
       simp
      ·have hB2 : B2 = [] := by apply List.eq_nil_of_length_eq_zero; omega
       have g1 : (mid : Int) < (en : Int) := by omega
       have g2 : ¬ (en : Int) < ((P.length + A.length + B.length : Nat) : Int) := by omega
       simp only [g1,g2,zC,zB,zE,zA,zD]
       subst hB2
       exact ⟨A2,by simp,sA1.2.1,by simpa using Stab.refl A2⟩
     ·have hA2 : A2 = [] := by apply List.eq_nil_of_length_eq_zero; omega
      have g1 : ¬ (mid : Int) < (en : Int) := by omega
      simp only [g1,zB,zD,zA]
      subst hA2
      exact ⟨B2,by simp,sB1.2.1,by simpa using Stab.refl B2⟩
    rw [hM2]
    refine ⟨M1 ++ M2,by simp,qx3.2 ⟨sM1,sM2,fun u hu w hw => ?_⟩,?_⟩
    ·rcases zL.1 (tM1.mem.1 hu) with hu | hu <;> rcases zL.1 (tM2.mem.1 hw) with hw | hw
     ·exact sA1.2.2 u hu w hw
     ·exact hAB u hu w hw
     ·exact Int.le_of_lt (hBA w hw u hu)
     ·exact sB1.2.2 u hu w hw
    ·have h1 : Stab (A ++ B) (A1 ++ B1 ++ (A2 ++ B2)) := by
      rw [hAe,hBe]
      have := ((Stab.refl A1).app (Stab.swap hBA)).app (Stab.refl B2)
      simpa using this
     exact h1.trans (tM1.app tM2)
theorem symMerge_eq {P A B S : List Cg} {a m b : Int} (ha : a = P.length) (hm : m = P.length + A.length) (hb : b = P.length + A.length + B.length) (hA : A ≠ []) (hB : B ≠ []) (hbd : P.length + A.length + B.length ≤ 1099511627776)
  (sA : Srt A) (sB : Srt B) : ∃ M,qT (P ++ A ++ B ++ S) a m b = some (P ++ M ++ S) ∧ Srt M ∧ Stab (A ++ B) M :=
 symMerge_n 40 ha hm hb hA hB (by have : (2 : Nat) ^ 40 = 1099511627776 := by decide
                                  omega) (by omega) sA sB
end Go.Val
namespace Go.Val
open Go.RowKit Go.Lib
def Blk (k : Nat) (Ls : List (List Cg)) : Prop := ∀ X ∈ Ls,X.length = k ∧ Srt X
theorem Blk.nil {k : Nat} : Blk k [] := fun X h => nomatch h
theorem Blk.len {k : Nat} : ∀ {Ls : List (List Cg)},Blk k Ls → Ls.flatten.length = Ls.length * k
 | [],_ => by simp
 | X :: Ls,h => by
  have h1 := (h X (by simp)).1
  have h2 := Blk.len (Ls := Ls) fun Y hY => h Y (by simp [hY])
  simp [h1,h2,Nat.succ_mul]; omega
theorem Blk.snoc {k : Nat} {Ls : List (List Cg)} {X : List Cg} (h : Blk k Ls) (h1 : X.length = k) (h2 : Srt X) : Blk k (Ls ++ [X]) := fun Y hY => by
 rcases zL.1 hY with hY | hY
 ·exact h Y hY
 ·simp at hY; subst hY; exact ⟨h1,h2⟩
theorem stable1 {l : List Cg} (hn : l.length ≤ 549755813888) : ∃ (Ls : List (List Cg)) (Z : List Cg),qN (V := (Int × Int × (List ((List UInt8) × ByteArray × Bool)))) (O := (Int × (List ((List UInt8) × ByteArray × Bool)))) (fun v326 =>
    cond (decide (v326.2.1 ≤ (l.length : Int))) (
     (qF v326.2.2 v326.1 v326.2.1).bind fun x333 =>
     some (.inl (v326.2.1,(IntKind.wrap .i64 (v326.2.1 + 20)),x333))
    ) (
     some (.inr (v326.1,v326.2.2))
    )
   ) (0,20,l) = some ((Ls.flatten.length : Int),Ls.flatten ++ Z) ∧ Blk 20 Ls ∧ Z.length < 20 ∧ Stab l (Ls.flatten ++ Z) := by
 have h := q00 (V := (Int × Int × List Cg)) (O := Int × List Cg) (body := fun v326 =>
    cond (decide (v326.2.1 ≤ (l.length : Int))) (
     (qF v326.2.2 v326.1 v326.2.1).bind fun x333 =>
     some (.inl (v326.2.1,(IntKind.wrap .i64 (v326.2.1 + 20)),x333))
    ) (
     some (.inr (v326.1,v326.2.2))
    ))
  (fun v => ∃ Ls Z,v.1 = ((Ls.flatten.length : Nat) : Int) ∧ v.2.1 = ((Ls.flatten.length + 20 : Nat) : Int) ∧ v.2.2 = Ls.flatten ++ Z ∧ Blk 20 Ls ∧ Stab l (Ls.flatten ++ Z))
  (fun v => ((l.length : Int) + 20 - v.2.1).toNat)
  (fun o => ∃ Ls Z,o = ((Ls.flatten.length : Int),Ls.flatten ++ Z) ∧ Blk 20 Ls ∧ Z.length < 20 ∧ Stab l (Ls.flatten ++ Z)) ?_ (v := (0,20,l)) ⟨[],l,rfl,rfl,rfl,Blk.nil,Stab.refl l⟩
 ·obtain ⟨o,h1,Ls,Z,h2,h3⟩ := h
  exact ⟨Ls,Z,by rw [h1,h2],h3⟩
 ·rintro ⟨a,b,d⟩ ⟨Ls,Z,h1,h2,h3,h4,h5⟩
  simp only at h1 h2 h3
  subst h1; subst h2; subst h3
  have hl : l.length = Ls.flatten.length + Z.length := by rw [← h5.1]; simp
  by_cases hb : Ls.flatten.length + 20 ≤ l.length
  ·left
   obtain ⟨X,Z',hZ,l1,l2⟩ := qT4 Z 20 (by omega)
   subst hZ
   obtain ⟨X',e1,e2,e3⟩ := insertion_eq (P := Ls.flatten) (A := X) (S := Z') (a := ((Ls.flatten.length : Nat) : Int)) (b := ((Ls.flatten.length + 20 : Nat) : Int)) rfl (by omega) (by omega)
   have hc : ((Ls.flatten.length + 20 : Nat) : Int) ≤ (l.length : Int) := by omega
   refine ⟨(((Ls.flatten.length + 20 : Nat) : Int),((Ls.flatten.length + 20 + 20 : Nat) : Int),Ls.flatten ++ X' ++ Z'),?_,⟨Ls ++ [X'],Z',?_,?_,by simp,h4.snoc (by rw [e3.1,l1]) e2,?_⟩,?_⟩
   ·simp only [hc,zC,zE]
    rw [show Ls.flatten ++ (X ++ Z') = Ls.flatten ++ X ++ Z' by simp,e1,w64 (by omega) (by omega)]
    rfl
   ·simp [e3.1,l1]
   ·simp [e3.1,l1]
   ·refine h5.trans ?_
    have := ((Stab.refl Ls.flatten).app e3).app (Stab.refl Z')
    simpa using this
   ·show ((l.length : Int) + 20 - ((Ls.flatten.length + 20 + 20 : Nat) : Int)).toNat < ((l.length : Int) + 20 - ((Ls.flatten.length + 20 : Nat) : Int)).toNat
    omega
  ·right
   have hc : ¬ ((Ls.flatten.length + 20 : Nat) : Int) ≤ (l.length : Int) := by omega
   refine ⟨_,?_,Ls,Z,rfl,h4,by omega,h5⟩
   simp only [hc,zB,zD]
theorem stable2 {n k : Nat} {Ls : List (List Cg)} {T : List Cg} (hn : n ≤ 549755813888) (hk : 0 < k) (hkn : k < n) (hB : Blk k Ls) (hT : Srt T) (hTk : T.length < k) (hl : Ls.flatten.length + T.length = n) :
  ∃ (Ms Rs : List (List Cg)),qN (V := (Int × Int × (List ((List UInt8) × ByteArray × Bool)))) (O := (Int × (List ((List UInt8) × ByteArray × Bool)))) (fun v535 =>
      cond (decide (v535.2.1 ≤ (n : Int))) (
       (qT v535.2.2 v535.1 (IntKind.wrap .i64 (v535.1 + (k : Int))) v535.2.1).bind fun x542 =>
       some (.inl (v535.2.1,(IntKind.wrap .i64 (v535.2.1 + (IntKind.wrap .i64 (2 * (k : Int))))),x542))
      ) (
       some (.inr (v535.1,v535.2.2))
      )
     ) (0,(IntKind.wrap .i64 (2 * (k : Int))),Ls.flatten ++ T) = some ((Ms.flatten.length : Int),Ms.flatten ++ Rs.flatten ++ T) ∧ Blk (2 * k) Ms ∧ Blk k Rs ∧ Rs.length ≤ 1 ∧ Stab (Ls.flatten ++ T) (Ms.flatten ++ Rs.flatten ++ T) := by
 rw [w64 (n := 2 * (k : Int)) (by omega) (by omega)]
 have h := q00 (V := (Int × Int × List Cg)) (O := Int × List Cg) (body := fun v535 =>
      cond (decide (v535.2.1 ≤ (n : Int))) (
       (qT v535.2.2 v535.1 (IntKind.wrap .i64 (v535.1 + (k : Int))) v535.2.1).bind fun x542 =>
       some (.inl (v535.2.1,(IntKind.wrap .i64 (v535.2.1 + (2 * (k : Int)))),x542))
      ) (
       some (.inr (v535.1,v535.2.2))
      ))
  (fun v => ∃ Ms Rs,v.1 = ((Ms.flatten.length : Nat) : Int) ∧ v.2.1 = ((Ms.flatten.length + 2 * k : Nat) : Int) ∧ v.2.2 = Ms.flatten ++ Rs.flatten ++ T ∧ Blk (2 * k) Ms ∧ Blk k Rs ∧ Stab (Ls.flatten ++ T) (Ms.flatten ++ Rs.flatten ++ T))
  (fun v => ((n : Int) + 2 * k - v.2.1).toNat)
  (fun o => ∃ Ms Rs,o = ((Ms.flatten.length : Int),Ms.flatten ++ Rs.flatten ++ T) ∧ Blk (2 * k) Ms ∧ Blk k Rs ∧ Rs.length ≤ 1 ∧ Stab (Ls.flatten ++ T) (Ms.flatten ++ Rs.flatten ++ T)) ?_
  (v := (0,2 * (k : Int),Ls.flatten ++ T)) ⟨[],Ls,rfl,by simp,rfl,Blk.nil,hB,Stab.refl _⟩
 ·obtain ⟨o,h1,Ms,Rs,h2,h3⟩ := h
  exact ⟨Ms,Rs,by rw [h1,h2],h3⟩
 ·rintro ⟨a,b,d⟩ ⟨Ms,Rs,h1,h2,h3,h4,h5,h6⟩
  simp only at h1 h2 h3
  subst h1; subst h2; subst h3
  have hl2 : Ms.flatten.length + Rs.flatten.length + T.length = n := by
   have := h6.1
   simp only [zF] at this
   omega
  have hR := h5.len
  by_cases hb : Ms.flatten.length + 2 * k ≤ n
  ·left
   match Rs,h5 with
   | [],_ => simp only [List.flatten_nil,List.flatten_cons,zF,zH] at hl2; omega
   | [X],h5 => have := (h5 X (by simp)).1; simp only [List.flatten_nil,List.flatten_cons,zF,zH] at hl2; omega
   | X :: Y :: Rs',h5 =>
    have hX := h5 X (by simp)
    have hY := h5 Y (by simp)
    simp only [List.flatten_cons,zF] at hl2
    obtain ⟨M,e1,e2,e3⟩ := symMerge_eq (P := Ms.flatten) (A := X) (B := Y) (S := Rs'.flatten ++ T) (a := ((Ms.flatten.length : Nat) : Int)) (m := ((Ms.flatten.length + k : Nat) : Int)) (b := ((Ms.flatten.length + 2 * k : Nat) : Int)) rfl (by omega) (by omega)
     (by intro h; subst h; simp at hX; omega) (by intro h; subst h; simp at hY; omega) (by omega) hX.2 hY.2
    have lM : M.length = 2 * k := by rw [e3.1]; simp; omega
    have hc : ((Ms.flatten.length + 2 * k : Nat) : Int) ≤ (n : Int) := by omega
    refine ⟨(((Ms.flatten.length + 2 * k : Nat) : Int),((Ms.flatten.length + 2 * k + 2 * k : Nat) : Int),Ms.flatten ++ M ++ (Rs'.flatten ++ T)),?_,⟨Ms ++ [M],Rs',?_,?_,by simp,h4.snoc lM e2,fun Z hZ => h5 Z (by simp [hZ]),?_⟩,?_⟩
    ·simp only [hc,zC,zE]
     rw [w64 (n := ((Ms.flatten.length : Nat) : Int) + (k : Int)) (by omega) (by omega),show ((Ms.flatten.length : Nat) : Int) + (k : Int) = ((Ms.flatten.length + k : Nat) : Int) by omega,
      show Ms.flatten ++ (X :: Y :: Rs').flatten ++ T = Ms.flatten ++ X ++ Y ++ (Rs'.flatten ++ T) by simp,e1,w64 (by omega) (by omega)]
     simp
    ·simp [lM]
    ·simp [lM]
    ·refine h6.trans ?_
     have := ((Stab.refl Ms.flatten).app e3).app (Stab.refl (Rs'.flatten ++ T))
     simpa using this
    ·show ((n : Int) + 2 * k - ((Ms.flatten.length + 2 * k + 2 * k : Nat) : Int)).toNat < ((n : Int) + 2 * k - ((Ms.flatten.length + 2 * k : Nat) : Int)).toNat
     omega
  ·right
   have hc : ¬ ((Ms.flatten.length + 2 * k : Nat) : Int) ≤ (n : Int) := by omega
   refine ⟨_,?_,Ms,Rs,rfl,h4,h5,?_,h6⟩
   ·simp only [hc,zB,zD]
   ·match Rs,h5 with
    | [],_ => simp
    | [X],_ => simp
    | X :: Y :: Rs',h5 =>
     have hX := (h5 X (by simp)).1
     have hY := (h5 Y (by simp)).1
     simp only [List.flatten_nil,List.flatten_cons,zF,zH] at hl2; omega
theorem stable_eq {l : List Cg} (hn : l.length ≤ 549755813888) : ∃ r,qG0 l (l.length : Int) = some r ∧ Srt r ∧ Stab l r := by
 obtain ⟨Ls,Z,e1,e2,e3,e4⟩ := stable1 hn
 unfold qG0
 rw [e1]
 simp only [zA]
 have hl : l.length = Ls.flatten.length + Z.length := by rw [← e4.1]; simp
 obtain ⟨T,f1,f2,f3⟩ := insertion_eq (P := Ls.flatten) (A := Z) (S := []) (a := ((Ls.flatten.length : Nat) : Int)) (b := (l.length : Int)) rfl (by omega) (by omega)
 simp only [zJ] at f1
 rw [f1]
 simp only [zA]
 have h := q00 (V := Int × List Cg) (O := List Cg) (body := fun v487 =>
   cond (decide (v487.1 < (l.length : Int))) (
    (((
     qN (V := (Int × Int × (List ((List UInt8) × ByteArray × Bool)))) (O := (Int × (List ((List UInt8) × ByteArray × Bool)))) (fun v535 =>
      cond (decide (v535.2.1 ≤ (l.length : Int))) (
       (qT v535.2.2 v535.1 (IntKind.wrap .i64 (v535.1 + v487.1)) v535.2.1).bind fun x542 =>
       some (.inl (v535.2.1,(IntKind.wrap .i64 (v535.2.1 + (IntKind.wrap .i64 (2 * v487.1)))),x542))
      ) (
       some (.inr (v535.1,v535.2.2))
      )
     ) (0,(IntKind.wrap .i64 (2 * v487.1)),v487.2)
    ) : Option (Int × (List ((List UInt8) × ByteArray × Bool))))).bind fun o518 =>
    (((
     cond (decide ((IntKind.wrap .i64 (o518.1 + v487.1)) < (l.length : Int))) (
      (qT o518.2 o518.1 (IntKind.wrap .i64 (o518.1 + v487.1)) (l.length : Int)).bind fun x557 =>
      some x557
     ) (
      some o518.2
     )
    ) : Option (List ((List UInt8) × ByteArray × Bool)))).bind fun o551 =>
    some (.inl ((IntKind.wrap .i64 (v487.1 * 2)),o551))
   ) (
    some (.inr v487.2)
   ))
  (fun v => ∃ (k : Nat) (Ls : List (List Cg)) (T : List Cg),0 < k ∧ v.1 = (k : Int) ∧ v.2 = Ls.flatten ++ T ∧ Blk k Ls ∧ Srt T ∧ T.length < k ∧ Stab l (Ls.flatten ++ T))
  (fun v => ((l.length : Int) - v.1).toNat) (fun o => Srt o ∧ Stab l o) ?_
  (v := (20,Ls.flatten ++ T)) ⟨20,Ls,T,by omega,rfl,rfl,e2,f2,by rw [f3.1]; exact e3,e4.trans ((Stab.refl _).app f3)⟩
 ·obtain ⟨o,g1,g2,g3⟩ := h
  exact ⟨o,by rw [g1]; rfl,g2,g3⟩
 ·clear e1 e2 e3 e4 hl f1 f2 f3
  rintro ⟨kk,d⟩ ⟨k,Ls,T,h0,h1,h2,h3,h4,h5,h6⟩
  simp only at h1 h2
  subst h1; subst h2
  have hl : Ls.flatten.length + T.length = l.length := by rw [← h6.1]; simp
  by_cases hk : k < l.length
  ·left
   obtain ⟨Ms,Rs,e1,e2,e3,e4,e5⟩ := stable2 hn h0 hk h3 h4 h5 hl
   have hc : (k : Int) < (l.length : Int) := by omega
   have hl2 : Ms.flatten.length + Rs.flatten.length + T.length = l.length := by
    have := e5.1
    simp only [zF] at this
    omega
   simp only [hc,zC,zE]
   rw [e1]
   simp only [zA]
   rw [w64 (n := ((Ms.flatten.length : Nat) : Int) + (k : Int)) (by omega) (by omega),w64 (n := (k : Int) * 2) (by omega) (by omega)]
   match Rs,e3,e4 with
   | [],e3,_ =>
    simp only [List.flatten_nil,zH] at hl2
    have : ¬ ((Ms.flatten.length : Nat) : Int) + (k : Int) < (l.length : Int) := by omega
    refine ⟨(((2 * k : Nat) : Int),Ms.flatten ++ T),?_,⟨2 * k,Ms,T,by omega,rfl,rfl,e2,h4,by omega,by simpa using h6.trans e5⟩,by show ((l.length : Int) - ((2 * k : Nat) : Int)).toNat < ((l.length : Int) - (k : Int)).toNat; omega⟩
    simp only [this,zB,zD,zA]
    simp
    omega
   | [X],e3,_ =>
    have hX := e3 X (by simp)
    simp only [List.flatten_cons,List.flatten_nil,zF,zH] at hl2
    by_cases hT : T = []
    ·subst hT
     simp only [zH] at hl2
     have : ¬ ((Ms.flatten.length : Nat) : Int) + (k : Int) < (l.length : Int) := by omega
     refine ⟨(((2 * k : Nat) : Int),Ms.flatten ++ X),?_,⟨2 * k,Ms,X,by omega,rfl,rfl,e2,hX.2,by omega,by simpa using h6.trans e5⟩,by show ((l.length : Int) - ((2 * k : Nat) : Int)).toNat < ((l.length : Int) - (k : Int)).toNat; omega⟩
     simp only [this,zB,zD,zA]
     simp
     omega
    ·have lT : 0 < T.length := List.length_pos_iff.2 hT
     have : ((Ms.flatten.length : Nat) : Int) + (k : Int) < (l.length : Int) := by omega
     obtain ⟨M,g1,g2,g3⟩ := symMerge_eq (P := Ms.flatten) (A := X) (B := T) (S := []) (a := ((Ms.flatten.length : Nat) : Int)) (m := ((Ms.flatten.length : Nat) : Int) + (k : Int)) (b := (l.length : Int)) rfl (by omega) (by omega)
      (by intro h; subst h; simp at hX; omega) hT (by omega) hX.2 h4
     refine ⟨(((2 * k : Nat) : Int),Ms.flatten ++ M),?_,⟨2 * k,Ms,M,by omega,rfl,rfl,e2,g2,by rw [g3.1]; simp; omega,?_⟩,by show ((l.length : Int) - ((2 * k : Nat) : Int)).toNat < ((l.length : Int) - (k : Int)).toNat; omega⟩
     ·simp only [this,zC,zE]
      simp only [zJ,List.flatten_cons,List.flatten_nil] at g1 ⊢
      rw [g1]
      simp
      omega
     ·have q1 := h6.trans e5
      refine q1.trans ?_
      have := (Stab.refl Ms.flatten).app g3
      simpa using this
   | X :: Y :: Rs',_,e4 => simp at e4
  ·right
   have hc : ¬ (k : Int) < (l.length : Int) := by omega
   refine ⟨Ls.flatten ++ T,by simp only [hc,zB,zD],?_,h6⟩
   match Ls,h3 with
   | [],_ => simpa using h4
   | [X],h3 =>
    have hX := h3 X (by simp)
    simp only [List.flatten_cons,List.flatten_nil,zF,zH] at hl
    have : T = [] := by apply List.eq_nil_of_length_eq_zero; omega
    subst this
    simpa using hX.2
   | X :: Y :: Ls',h3 =>
    have hX := (h3 X (by simp)).1
    have hY := (h3 Y (by simp)).1
    simp only [List.flatten_nil,List.flatten_cons,zF,zH] at hl; omega
theorem sortStable_eq {l : List Cg} (hn : l.length ≤ 549755813888) : ∃ r,qC0 l = some r ∧ Srt r ∧ Stab l r := by
 obtain ⟨r,h1,h2⟩ := stable_eq hn
 refine ⟨r,?_,h2⟩
 unfold qC0
 rw [h1]
 rfl
end Go.Val
namespace Go.Val
open Go.RowKit Go.Lib
def qY2 : List Cg → List Cg
 | [] => []
 | [x] => [x]
 | x :: y :: t => if y.1 = x.1 then qY2 (y :: t) else x :: qY2 (y :: t)
theorem lastOf_len : ∀ l : List Cg,(qY2 l).length ≤ l.length
 | [] => by simp [qY2]
 | [x] => by simp [qY2]
 | x :: y :: t => by
  have := lastOf_len (y :: t)
  rw [qY2]
  split <;> simp at * <;> omega
theorem qo5 : ∀ {l : List Cg} {c : Cg},c ∈ qY2 l → c ∈ l
 | [],c,h => h
 | [x],c,h => h
 | x :: y :: t,c,h => by
  rw [qY2] at h
  split at h
  ·exact List.mem_cons_of_mem _ (qo5 h)
  ·rcases zM.1 h with rfl | h
   ·simp
   ·exact List.mem_cons_of_mem _ (qo5 h)
theorem qA4 : ∀ {l : List Cg},Srt l → Rising (qY2 l)
 | [],_ => by simp [qY2,Rising,Asc]
 | [x],_ => by simp [qY2,Rising,Asc]
 | x :: y :: t,h => by
  have h1 := (List.pairwise_cons.1 h).2
  have h2 := (List.pairwise_cons.1 h).1
  rw [qY2]
  split
  ·exact qA4 h1
  ·rename_i hne
   refine List.pairwise_cons.2 ⟨fun k hk => ?_,qA4 h1⟩
   obtain ⟨c,hc,rfl⟩ := List.mem_map.1 hk
   have hc' := qo5 hc
   have a1 : compareBytes x.1 y.1 < 0 := by
    rcases Int.lt_or_eq_of_le (h2 y (by simp)) with h | h
    ·exact h
    ·exact absurd (cb_eq h).symm hne
   exact cb_lt_le a1 (qR5 h1 hc')
theorem mget_snoc (m : List Cg) (c : Cg) (k : List UInt8) : mget (m ++ [c]) k = (mget m k).or (if k = c.1 then some c.2 else none) := by
 rw [q01,qO,qs2]
theorem mget_lastOf : ∀ {l : List Cg},Srt l → ∀ k,mget (qY2 l) k = mget l.reverse k
 | [],_,k => rfl
 | [x],_,k => rfl
 | x :: y :: t,h,k => by
  have h1 := (List.pairwise_cons.1 h).2
  have h2 := (List.pairwise_cons.1 h).1
  have ih := mget_lastOf h1 k
  rw [List.reverse_cons,mget_snoc,← ih,qY2]
  split
  ·rename_i he
   by_cases hk : k = x.1
   ·
    have : (mget (qY2 (y :: t)) k).isSome = true := by
     rw [ih]
     refine qq1.2 ?_
     simp [hk,he]
    obtain ⟨v,hv⟩ := Option.isSome_iff_exists.1 this
    rw [hv]; rfl
   ·rw [if_neg hk]; simp
  ·rename_i hne
   rw [qO]
   by_cases hk : k = x.1
   ·have hn : mget (qY2 (y :: t)) k = none := by
     refine qH2.2 fun hm => ?_
     obtain ⟨c,hc,hck⟩ := List.mem_map.1 hm
     have hc' := qo5 hc
     have a1 : compareBytes x.1 y.1 < 0 := by
      rcases Int.lt_or_eq_of_le (h2 y (by simp)) with h | h
      ·exact h
      ·exact absurd (cb_eq h).symm hne
     have a2 := cb_lt_le a1 (qR5 h1 hc')
     rw [hck,hk,cb_refl] at a2
     omega
    rw [hn,if_pos hk]; rfl
   ·rw [if_neg hk,if_neg hk]; simp
theorem qQ5 : ∀ (m : List Cg) (k : List UInt8),mget m k = mget (m.filter fun x => decide (x.1 = k)) k
 | [],k => rfl
 | c :: m,k => by
  rw [qO,qQ5 m k]
  by_cases hk : k = c.1
  ·rw [if_pos hk,List.filter_cons_of_pos (by simp [hk]),qO,if_pos hk]
  ·rw [if_neg hk,List.filter_cons_of_neg (by simp; exact fun e => hk e.symm)]
theorem Stab.mget {l r : List Cg} (h : Stab l r) (k : List UInt8) : mget r.reverse k = mget l.reverse k := by
 rw [qQ5 r.reverse k,qQ5 l.reverse k,List.filter_reverse,List.filter_reverse,h.2 k]
theorem sorted_loop {r : List Cg} (hn : r.length ≤ 549755813888) : qN (V := (Int × (List ((List UInt8) × ByteArray × Bool)))) (O := (List ((List UInt8) × ByteArray × Bool))) (fun v318 =>
   cond (decide (v318.1 < (r.length : Int))) (
    (((
     (gx r v318.1).bind fun x354 =>
     (((
      cond (decide ((IntKind.wrap .i64 (v318.1 + 1)) = (r.length : Int))) (
       some true
      ) (
       (gx r (IntKind.wrap .i64 (v318.1 + 1))).bind fun x369 =>
       some (!(decide (x369.1 = x354.1)))
      )
     ) : Option Bool)).bind fun o363 =>
     cond o363 (
      (fits (v318.2.length + ([x354]).length) 48).bind fun _ =>
      some (v318.2 ++ [x354])
     ) (
      some v318.2
     )
    ) : Option (List ((List UInt8) × ByteArray × Bool)))).bind fun o351 =>
    some (.inl ((IntKind.wrap .i64 (v318.1 + 1)),o351))
   ) (
    some (.inr v318.2)
   )
  ) (0,[]) = some (qY2 r) := by
 have h := q00 (V := Int × List Cg) (O := List Cg) (body := fun v318 =>
   cond (decide (v318.1 < (r.length : Int))) (
    (((
     (gx r v318.1).bind fun x354 =>
     (((
      cond (decide ((IntKind.wrap .i64 (v318.1 + 1)) = (r.length : Int))) (
       some true
      ) (
       (gx r (IntKind.wrap .i64 (v318.1 + 1))).bind fun x369 =>
       some (!(decide (x369.1 = x354.1)))
      )
     ) : Option Bool)).bind fun o363 =>
     cond o363 (
      (fits (v318.2.length + ([x354]).length) 48).bind fun _ =>
      some (v318.2 ++ [x354])
     ) (
      some v318.2
     )
    ) : Option (List ((List UInt8) × ByteArray × Bool)))).bind fun o351 =>
    some (.inl ((IntKind.wrap .i64 (v318.1 + 1)),o351))
   ) (
    some (.inr v318.2)
   ))
  (fun v => ∃ D Z,r = D ++ Z ∧ v.1 = (D.length : Int) ∧ v.2 ++ qY2 Z = qY2 r ∧ v.2.length ≤ D.length) (fun v => ((r.length : Int) - v.1).toNat) (fun o => o = qY2 r) ?_ (v := (0,[])) ⟨[],r,rfl,rfl,rfl,by simp⟩
 ·obtain ⟨o,h1,h2⟩ := h
  rw [h1,h2]
 ·rintro ⟨i,out⟩ ⟨D,Z,h1,h2,h3,h4⟩
  simp only at h2 h3 h4
  subst h2
  have hl : r.length = D.length + Z.length := by rw [h1]; simp
  match Z with
  | [] =>
   right
   have : ¬ ((D.length : Int) < (r.length : Int)) := by simp at hl; omega
   refine ⟨out,by simp only [this,zB,zD],by rw [← h3]; simp [qY2]⟩
  | x :: Z' =>
   left
   simp only [zG] at hl
   have hlt : (D.length : Int) < (r.length : Int) := by omega
   have g0 : gx r (D.length : Int) = some x := by rw [h1]; exact qB2 rfl
   have hf : fits (out.length + ([x] : List Cg).length) 48 = some () := q81 (by simp; omega)
   simp only [hlt,zC,zE,g0,zA]
   rw [w64 (by omega) (by omega)]
   match Z' with
   | [] =>
    have e : (D.length : Int) + 1 = (r.length : Int) := by simp at hl; omega
    refine ⟨((r.length : Int),out ++ [x]),?_,⟨D ++ [x],[],by simp [h1],by show (r.length : Int) = _; simp; omega,by rw [← h3]; simp [qY2],by simp; omega⟩,by simp; omega⟩
    simp only [e,zC,zE,zA,hf]
   | y :: Z'' =>
    simp only [zG] at hl
    have e : ¬ (D.length : Int) + 1 = (r.length : Int) := by omega
    have g1 : gx r ((D.length : Int) + 1) = some y := by rw [h1,show D ++ x :: y :: Z'' = (D ++ [x]) ++ y :: Z'' by simp]; exact qB2 (by simp)
    simp only [e,zB,zD,g1,zA]
    by_cases hxy : y.1 = x.1
    ·refine ⟨((D.length : Int) + 1,out),?_,⟨D ++ [x],y :: Z'',by simp [h1],by show (D.length : Int) + 1 = _; simp,by rw [← h3,qY2,if_pos hxy],by simp; omega⟩,by simp; omega⟩
     simp [hxy]
    ·refine ⟨((D.length : Int) + 1,out ++ [x]),?_,⟨D ++ [x],y :: Z'',by simp [h1],by show (D.length : Int) + 1 = _; simp,by rw [← h3,qY2,if_neg hxy]; simp,by simp; omega⟩,by simp; omega⟩
     simp only [hxy,zB,Bool.not_false,zE,hf,zA]
theorem tree_sorted_eq {l : List Cg} (hn : l.length ≤ 549755813888) : ∃ r,qa2 l = some r ∧ Rising r ∧ (∀ k,mget r k = mget l.reverse k) ∧ r.length ≤ l.length := by
 obtain ⟨r,h1,h2,h3⟩ := sortStable_eq hn
 refine ⟨qY2 r,?_,qA4 h2,fun k => (mget_lastOf h2 k).trans (h3.mget k),by have := lastOf_len r; rw [h3.1] at this; exact this⟩
 unfold qa2 qh2
 have hf : fits (([] : List Cg).length + l.length) 48 = some () := q81 (by simp; omega)
 rw [hf]
 simp only [zA,h1]
 rw [sorted_loop (by rw [h3.1]; exact hn)]
 rfl
end Go.Val
namespace Go.Val
open Go.RowKit Go.Lib
theorem div_step (a L n : Nat) (hn : 0 < n) : L / n ≤ (a + L) / n - a / n ∧ (a + L) / n - a / n ≤ (L + n - 1) / n ∧ a / n ≤ (a + L) / n := by
 have h1 := Nat.div_add_mod a n
 have h2 := Nat.div_add_mod L n
 have m1 := Nat.mod_lt a hn
 have m2 := Nat.mod_lt L hn
 generalize a / n = qa at *
 generalize L / n = qL at *
 generalize a % n = ra at *
 generalize L % n = rL at *
 have e1 : a + L = n * (qa + qL) + (ra + rL) := by rw [Nat.mul_add]; omega
 have e2 : (a + L) / n = qa + qL + (ra + rL) / n := by rw [e1,Nat.mul_add_div hn]
 have e3 : L + n - 1 = n * qL + (rL + n - 1) := by omega
 have e4 : (L + n - 1) / n = qL + (rL + n - 1) / n := by rw [e3,Nat.mul_add_div hn]
 have u1 : (ra + rL) / n ≤ (rL + n - 1) / n := Nat.div_le_div_right (by omega)
 rw [e2,e4]
 generalize (ra + rL) / n = u at *
 generalize (rL + n - 1) / n = w at *
 omega
theorem share_eq {α : Type} {l : List α} {M n : Nat} (hM : 0 < M) (hM2 : M ≤ 100) (hL : l.length ≤ 1000000000) (hn : n = (l.length + M - 1) / M) : ∃ out : List (List α),
  (ck (decide ((M : Int) ≠ 0))).bind (fun _ => (((
  qN (V := (Int × (List (List α)))) (O := (List (List α))) (fun v87 =>
   cond (decide (v87.1 < (IntKind.wrap .i64 (Int.tdiv (IntKind.wrap .i64 ((IntKind.wrap .i64 ((l.length : Int) + (M : Int))) - 1)) (M : Int))))) (
    (ck (decide ((IntKind.wrap .i64 (Int.tdiv (IntKind.wrap .i64 ((IntKind.wrap .i64 ((l.length : Int) + (M : Int))) - 1)) (M : Int))) ≠ 0))).bind fun _ =>
    (cutB (IntKind.wrap .i64 (Int.tdiv (IntKind.wrap .i64 (v87.1 * (l.length : Int))) (IntKind.wrap .i64 (Int.tdiv (IntKind.wrap .i64 ((IntKind.wrap .i64 ((l.length : Int) + (M : Int))) - 1)) (M : Int))))) (IntKind.wrap .i64 (Int.tdiv (IntKind.wrap .i64 ((IntKind.wrap .i64 (v87.1 + 1)) * (l.length : Int))) (IntKind.wrap .i64 (Int.tdiv (IntKind.wrap .i64 ((IntKind.wrap .i64 ((l.length : Int) + (M : Int))) - 1)) (M : Int))))) l.length).bind fun _ =>
    (fits (v87.2.length + ([(qR1 l (IntKind.wrap .i64 (Int.tdiv (IntKind.wrap .i64 (v87.1 * (l.length : Int))) (IntKind.wrap .i64 (Int.tdiv (IntKind.wrap .i64 ((IntKind.wrap .i64 ((l.length : Int) + (M : Int))) - 1)) (M : Int))))) (IntKind.wrap .i64 (Int.tdiv (IntKind.wrap .i64 ((IntKind.wrap .i64 (v87.1 + 1)) * (l.length : Int))) (IntKind.wrap .i64 (Int.tdiv (IntKind.wrap .i64 ((IntKind.wrap .i64 ((l.length : Int) + (M : Int))) - 1)) (M : Int))))))]).length) 24).bind fun _ =>
    some (.inl ((IntKind.wrap .i64 (v87.1 + 1)),(v87.2 ++ [(qR1 l (IntKind.wrap .i64 (Int.tdiv (IntKind.wrap .i64 (v87.1 * (l.length : Int))) (IntKind.wrap .i64 (Int.tdiv (IntKind.wrap .i64 ((IntKind.wrap .i64 ((l.length : Int) + (M : Int))) - 1)) (M : Int))))) (IntKind.wrap .i64 (Int.tdiv (IntKind.wrap .i64 ((IntKind.wrap .i64 (v87.1 + 1)) * (l.length : Int))) (IntKind.wrap .i64 (Int.tdiv (IntKind.wrap .i64 ((IntKind.wrap .i64 ((l.length : Int) + (M : Int))) - 1)) (M : Int))))))])))
   ) (
    some (.inr v87.2)
   )
  ) (0,[])
 ) : Option (List (List α)))).bind fun o52 =>
 some o52) = some out ∧ out.flatten = l ∧ out.length = n ∧ ∀ x ∈ out,l.length / n ≤ x.length ∧ x.length ≤ M ∧ x ≠ [] := by
 have hn1 : IntKind.wrap .i64 (Int.tdiv (IntKind.wrap .i64 ((IntKind.wrap .i64 ((l.length : Int) + (M : Int))) - 1)) (M : Int)) = (n : Int) := by
  have hle : (l.length + M - 1) / M ≤ l.length + M - 1 := Nat.div_le_self _ _
  rw [w64 (n := (l.length : Int) + (M : Int)) (by omega) (by omega),w64 (n := (l.length : Int) + (M : Int) - 1) (by omega) (by omega),show (l.length : Int) + (M : Int) - 1 = ((l.length + M - 1 : Nat) : Int) by omega]
  rw [show Int.tdiv ((l.length + M - 1 : Nat) : Int) (M : Int) = (((l.length + M - 1) / M : Nat) : Int) from rfl,hn]
  generalize (l.length + M - 1) / M = q at hle
  exact w64 (by omega) (by omega)
 have hck : ck (decide ((M : Int) ≠ 0)) = some () := by
  have : M ≠ 0 := by omega
  simp [ck,this]
 rw [hck]
 simp only [hn1,zA]
 by_cases h0 : l.length = 0
 ·have hl : l = [] := List.eq_nil_of_length_eq_zero h0
  subst hl
  have : n = 0 := by rw [hn]; simp; omega
  subst this
  refine ⟨[],?_,rfl,rfl,fun x hx => by cases hx⟩
  rw [qI]
  simp
 have hnpos : 0 < n := by rw [hn]; exact Nat.div_pos (by omega) hM
 have hnL : n ≤ l.length := by
  rw [hn]
  refine Nat.le_of_lt_succ ((Nat.div_lt_iff_lt_mul hM).2 ?_)
  have : l.length + 1 ≤ (l.length + 1) * M := Nat.le_mul_of_pos_right _ hM
  have h3 : l.length + M - 1 < l.length * M + M := by
   have : l.length ≤ l.length * M := Nat.le_mul_of_pos_right _ hM
   omega
  rw [Nat.succ_mul]; exact h3
 have hLn : l.length ≤ n * M := by
  rw [hn]
  have := Nat.div_add_mod (l.length + M - 1) M
  have hm := Nat.mod_lt (l.length + M - 1) hM
  rw [Nat.mul_comm]
  omega
 have hceil : (l.length + n - 1) / n ≤ M := by
  refine Nat.le_of_lt_succ ((Nat.div_lt_iff_lt_mul hnpos).2 ?_)
  rw [Nat.succ_mul,Nat.mul_comm]; omega
 have hprod : ∀ i : Nat,i ≤ n → i * l.length ≤ 1000000000000000000 := fun i hi => Nat.le_trans (Nat.mul_le_mul (Nat.le_trans hi (Nat.le_trans hnL hL)) hL) (by decide)
 have hprod2 : ∀ i : Nat,i ≤ n → i * l.length / n ≤ l.length := fun i hi => by
  have : i * l.length ≤ n * l.length := Nat.mul_le_mul_right _ hi
  calc i * l.length / n ≤ n * l.length / n := Nat.div_le_div_right this
   _ = l.length := Nat.mul_div_cancel_left _ hnpos
 have hat : ∀ i : Nat,i ≤ n → IntKind.wrap .i64 (Int.tdiv (IntKind.wrap .i64 ((i : Int) * (l.length : Int))) (n : Int)) = ((i * l.length / n : Nat) : Int) := fun i hi => by
  have h1 := hprod i hi
  have h2 := hprod2 i hi
  rw [show (i : Int) * (l.length : Int) = ((i * l.length : Nat) : Int) by simp,w64 (n := ((i * l.length : Nat) : Int)) (by omega) (by omega),show Int.tdiv ((i * l.length : Nat) : Int) (n : Int) = ((i * l.length / n : Nat) : Int) from rfl]
  generalize i * l.length / n = q at h2
  exact w64 (by omega) (by omega)
 have hstep : ∀ i : Nat,i * l.length / n ≤ (i + 1) * l.length / n ∧ l.length / n ≤ (i + 1) * l.length / n - i * l.length / n ∧ (i + 1) * l.length / n - i * l.length / n ≤ M := fun i => by
  obtain ⟨a1,a2,a3⟩ := div_step (i * l.length) l.length n hnpos
  rw [Nat.succ_mul]
  exact ⟨a3,a1,Nat.le_trans a2 hceil⟩
 have hq1 : 1 ≤ l.length / n := (Nat.le_div_iff_mul_le hnpos).2 (by omega)
 have h := q00 (V := Int × List (List α)) (O := List (List α)) (body := fun v87 =>
   cond (decide (v87.1 < (n : Int))) (
    (ck (decide ((n : Int) ≠ 0))).bind fun _ =>
    (cutB (IntKind.wrap .i64 (Int.tdiv (IntKind.wrap .i64 (v87.1 * (l.length : Int))) (n : Int))) (IntKind.wrap .i64 (Int.tdiv (IntKind.wrap .i64 ((IntKind.wrap .i64 (v87.1 + 1)) * (l.length : Int))) (n : Int))) l.length).bind fun _ =>
    (fits (v87.2.length + ([(qR1 l (IntKind.wrap .i64 (Int.tdiv (IntKind.wrap .i64 (v87.1 * (l.length : Int))) (n : Int))) (IntKind.wrap .i64 (Int.tdiv (IntKind.wrap .i64 ((IntKind.wrap .i64 (v87.1 + 1)) * (l.length : Int))) (n : Int))))]).length) 24).bind fun _ =>
    some (.inl ((IntKind.wrap .i64 (v87.1 + 1)),(v87.2 ++ [(qR1 l (IntKind.wrap .i64 (Int.tdiv (IntKind.wrap .i64 (v87.1 * (l.length : Int))) (n : Int))) (IntKind.wrap .i64 (Int.tdiv (IntKind.wrap .i64 ((IntKind.wrap .i64 (v87.1 + 1)) * (l.length : Int))) (n : Int))))])))
   ) (
    some (.inr v87.2)
   ))
  (fun v => ∃ i : Nat,v.1 = (i : Int) ∧ i ≤ n ∧ v.2.length = i ∧ v.2.flatten = l.take (i * l.length / n) ∧ ∀ x ∈ v.2,l.length / n ≤ x.length ∧ x.length ≤ M) (fun v => ((n : Int) - v.1).toNat)
  (fun o => o.flatten = l ∧ o.length = n ∧ ∀ x ∈ o,l.length / n ≤ x.length ∧ x.length ≤ M) ?_ (v := (0,[])) ⟨0,rfl,by omega,rfl,by simp,fun x hx => by cases hx⟩
 ·obtain ⟨o,g1,g2,g3,g4⟩ := h
  refine ⟨o,?_,g2,g3,fun x hx => ⟨(g4 x hx).1,(g4 x hx).2,fun e => ?_⟩⟩
  ·rw [g1]; rfl
  ·have := (g4 x hx).1
   rw [e] at this
   simp at this
   omega
 ·rintro ⟨ii,o⟩ ⟨i,g1,g2,g3,g4,g5⟩
  simp only at g1 g3 g4 g5
  subst g1
  by_cases hi : i < n
  ·left
   have hlt : (i : Int) < (n : Int) := by omega
   obtain ⟨s1,s2,s3⟩ := hstep i
   have p2 := hprod2 (i + 1) (by omega)
   have e2 : IntKind.wrap .i64 ((i : Int) + 1) = ((i + 1 : Nat) : Int) := by rw [w64 (by omega) (by omega)]; omega
   have hn0 : ck (decide ((n : Int) ≠ 0)) = some () := by
    have : n ≠ 0 := by omega
    simp [ck,this]
   have hcb : cutB ((i * l.length / n : Nat) : Int) (((i + 1) * l.length / n : Nat) : Int) l.length = some () := cutB_of ⟨Int.natCast_nonneg _,Int.ofNat_le.2 s1,Int.ofNat_le.2 p2⟩
   refine ⟨(((i + 1 : Nat) : Int),o ++ [qR1 l ((i * l.length / n : Nat) : Int) (((i + 1) * l.length / n : Nat) : Int)]),?_,⟨i + 1,rfl,by omega,by simp [g3],?_,?_⟩,by show ((n : Int) - ((i + 1 : Nat) : Int)).toNat < ((n : Int) - (i : Int)).toNat; omega⟩
   ·simp only [hlt,zC,zE,e2,hat i (by omega),hat (i + 1) (by omega),hn0,hcb,zA]
    rw [q81 (by simp [g3]; omega)]
    rfl
   ·rw [List.flatten_append,g4]
    simp only [List.flatten_cons,List.flatten_nil,zJ,qR1,Int.toNat_natCast]
    have : l.take (i * l.length / n) = (l.take ((i + 1) * l.length / n)).take (i * l.length / n) := by rw [List.take_take,Nat.min_eq_left s1]
    rw [this,List.take_append_drop]
   ·intro x hx
    rcases zL.1 hx with hx | hx
    ·exact g5 x hx
    ·simp only [List.mem_singleton] at hx
     subst hx
     simp only [qR1,Int.toNat_natCast,List.length_drop,List.length_take]
     omega
  ·right
   have hlt : ¬ (i : Int) < (n : Int) := by omega
   have : i = n := by omega
   subst this
   refine ⟨o,by simp only [hlt,zB,zD],?_,g3,g5⟩
   rw [g4,Nat.mul_div_cancel_left _ hnpos,List.take_length]
end Go.Val
namespace Go.Val
open Go.RowKit Go.Lib
def putC (c : Cg) : List Pr := if c.2.2 = true then [] else [(c.1,c.2.1)]
def mgP : List Pr → List Cg → List Pr
 | ps,[] => ps
 | [],c :: cs => putC c ++ mgP [] cs
 | p :: ps,c :: cs => if compareBytes p.1 c.1 < 0 then p :: mgP ps (c :: cs) else if p.1 = c.1 then putC c ++ mgP ps cs else putC c ++ mgP (p :: ps) cs
termination_by ps cs => ps.length + cs.length
theorem qH5 (c : Cg) : (putC c).length ≤ 1 := by unfold putC; split <;> simp
theorem mgP_len (ps : List Pr) (cs : List Cg) : (mgP ps cs).length ≤ ps.length + cs.length := by
 induction ps,cs using mgP.induct with
 | case1 ps => rw [mgP]; simp
 | case2 c cs ih => rw [mgP]; have := qH5 c; simp at *; omega
 | case3 p ps c cs h ih => rw [mgP,if_pos h]; simp at *; omega
 | case4 p ps c cs h he ih => rw [mgP,if_neg h,if_pos he]; have := qH5 c; simp at *; omega
 | case5 p ps c cs h he ih => rw [mgP,if_neg h,if_neg he]; have := qH5 c; simp at *; omega
theorem mgP_mem {ps : List Pr} {cs : List Cg} : ∀ {x : Pr},x ∈ mgP ps cs → x ∈ ps ∨ ∃ c ∈ cs,x = (c.1,c.2.1) ∧ c.2.2 = false := by
 have hp : ∀ {c : Cg} {x : Pr},x ∈ putC c → x = (c.1,c.2.1) ∧ c.2.2 = false := by
  intro c x hx
  unfold putC at hx
  split at hx
  ·cases hx
  ·rename_i hg
   simp at hx
   exact ⟨hx,by simpa using hg⟩
 induction ps,cs using mgP.induct with
 | case1 ps => intro x hx; rw [mgP] at hx; exact .inl hx
 | case2 c cs ih =>
  intro x hx
  rw [mgP] at hx
  rcases zL.1 hx with hx | hx
  ·exact .inr ⟨c,by simp,hp hx⟩
  ·rcases ih hx with h | ⟨c',h1,h2⟩
   ·exact .inl h
   ·exact .inr ⟨c',by simp [h1],h2⟩
 | case3 p ps c cs h ih =>
  intro x hx
  rw [mgP,if_pos h] at hx
  rcases zM.1 hx with rfl | hx
  ·exact .inl (by simp)
  ·rcases ih hx with h | h
   ·exact .inl (by simp [h])
   ·exact .inr h
 | case4 p ps c cs h he ih =>
  intro x hx
  rw [mgP,if_neg h,if_pos he] at hx
  rcases zL.1 hx with hx | hx
  ·exact .inr ⟨c,by simp,hp hx⟩
  ·rcases ih hx with h | ⟨c',h1,h2⟩
   ·exact .inl (by simp [h])
   ·exact .inr ⟨c',by simp [h1],h2⟩
 | case5 p ps c cs h he ih =>
  intro x hx
  rw [mgP,if_neg h,if_neg he] at hx
  rcases zL.1 hx with hx | hx
  ·exact .inr ⟨c,by simp,hp hx⟩
  ·rcases ih hx with h | ⟨c',h1,h2⟩
   ·exact .inl h
   ·exact .inr ⟨c',by simp [h1],h2⟩
def AboveK {β : Type} (k : List UInt8) (l : List (List UInt8 × β)) : Prop := ∀ x ∈ l,Lt k x.1
theorem qx0 {β : Type} {x : List UInt8 × β} {l : List (List UInt8 × β)} : Rising (x :: l) ↔ AboveK x.1 l ∧ Rising l := by
 constructor
 ·intro h
  obtain ⟨h1,h2⟩ := List.pairwise_cons.1 h
  exact ⟨fun y hy => h1 _ (List.mem_map.2 ⟨y,hy,rfl⟩),h2⟩
 ·rintro ⟨h1,h2⟩
  refine List.pairwise_cons.2 ⟨fun k hk => ?_,h2⟩
  obtain ⟨y,hy,rfl⟩ := List.mem_map.1 hk
  exact h1 y hy
theorem mgP_above {ps : List Pr} {cs : List Cg} {k : List UInt8} (h1 : AboveK k ps) (h2 : AboveK k cs) : AboveK k (mgP ps cs) := fun x hx => by
 rcases mgP_mem hx with h | ⟨c,hc,rfl,_⟩
 ·exact h1 x h
 ·exact h2 c hc
theorem AboveK.trans {β : Type} {a b : List UInt8} {l : List (List UInt8 × β)} (h : Lt a b) (k : AboveK b l) : AboveK a l := fun x hx => lt_trans h (k x hx)
theorem AboveK.cons {β : Type} {a : List UInt8} {x : List UInt8 × β} {l : List (List UInt8 × β)} (h : Lt a x.1) (k : AboveK a l) : AboveK a (x :: l) := fun y hy => by
 rcases zM.1 hy with rfl | hy
 ·exact h
 ·exact k y hy
theorem put_rising {c : Cg} {l : List Pr} (h : AboveK c.1 l) (hl : Rising l) : Rising (putC c ++ l) := by
 unfold putC
 split
 ·exact hl
 ·exact qx0.2 ⟨h,hl⟩
theorem mget_put (c : Cg) (l : List Pr) (h : AboveK c.1 l) (k : List UInt8) : mget (putC c ++ l) k = if k = c.1 then eff c.2 else mget l k := by
 unfold putC eff
 split
 ·rename_i hg
  by_cases hk : k = c.1
  ·rw [if_pos hk,hk,List.nil_append]
   exact qH2.2 fun hm => by
    obtain ⟨y,hy,e⟩ := List.mem_map.1 hm
    have := h y hy
    rw [e] at this
    exact lt_irrefl _ this
  ·rw [if_neg hk]; rfl
 ·rw [List.singleton_append,qO]
theorem mgP_spec {ps : List Pr} {cs : List Cg} : Rising ps → Rising cs → Rising (mgP ps cs) ∧ ∀ k,mget (mgP ps cs) k = match mget cs k with
  | some e => eff e
  | none => mget ps k := by
 have ab : ∀ {β : Type} {k : List UInt8} {l : List (List UInt8 × β)},AboveK k l → mget l k = none := by
  intro β k l h
  refine qH2.2 fun hm => ?_
  obtain ⟨y,hy,e⟩ := List.mem_map.1 hm
  have := h y hy
  rw [e] at this
  exact lt_irrefl _ this
 induction ps,cs using mgP.induct with
 | case1 ps => intro h1 _; rw [mgP]; exact ⟨h1,fun k => by rw [qs2]⟩
 | case2 c cs ih =>
  intro h1 h2
  obtain ⟨a1,a2⟩ := qx0.1 h2
  obtain ⟨b1,b2⟩ := ih h1 a2
  have hab : AboveK c.1 (mgP [] cs) := mgP_above (fun _ h => nomatch h) a1
  rw [mgP]
  refine ⟨put_rising hab b1,fun k => ?_⟩
  rw [mget_put c _ hab,qO,b2]
  by_cases hk : k = c.1
  ·rw [if_pos hk,if_pos hk]
  ·rw [if_neg hk,if_neg hk]
 | case3 p ps c cs h ih =>
  intro h1 h2
  obtain ⟨a1,a2⟩ := qx0.1 h1
  obtain ⟨c1,c2⟩ := qx0.1 h2
  obtain ⟨b1,b2⟩ := ih a2 h2
  rw [mgP,if_pos h]
  have hab : AboveK p.1 (c :: cs) := AboveK.cons h (c1.trans h)
  refine ⟨qx0.2 ⟨mgP_above a1 hab,b1⟩,fun k => ?_⟩
  rw [qO,b2]
  by_cases hk : k = p.1
  ·subst hk
   rw [if_pos rfl,ab hab,qO,if_pos rfl]
  ·rw [if_neg hk,qO p,if_neg hk]
 | case4 p ps c cs h he ih =>
  intro h1 h2
  obtain ⟨a1,a2⟩ := qx0.1 h1
  obtain ⟨c1,c2⟩ := qx0.1 h2
  obtain ⟨b1,b2⟩ := ih a2 c2
  rw [mgP,if_neg h,if_pos he]
  have hab : AboveK c.1 (mgP ps cs) := mgP_above (he ▸ a1) c1
  refine ⟨put_rising hab b1,fun k => ?_⟩
  rw [mget_put c _ hab,qO c,b2]
  by_cases hk : k = c.1
  ·rw [if_pos hk,if_pos hk]
  ·rw [if_neg hk,if_neg hk,qO p,if_neg (by rw [he]; exact hk)]
 | case5 p ps c cs h he ih =>
  intro h1 h2
  obtain ⟨a1,a2⟩ := qx0.1 h1
  obtain ⟨c1,c2⟩ := qx0.1 h2
  obtain ⟨b1,b2⟩ := ih h1 c2
  rw [mgP,if_neg h,if_neg he]
  have hlt : Lt c.1 p.1 := by
   rcases lt_or p.1 c.1 with h' | h' | h'
   ·exact absurd h' h
   ·exact absurd h' he
   ·exact h'
  have hab : AboveK c.1 (mgP (p :: ps) cs) := mgP_above (AboveK.cons hlt (a1.trans hlt)) c1
  refine ⟨put_rising hab b1,fun k => ?_⟩
  rw [mget_put c _ hab,qO c,b2]
  by_cases hk : k = c.1
  ·rw [if_pos hk,if_pos hk]
  ·rw [if_neg hk,if_neg hk]
theorem qt4 {α : Type} (x : α) (l : List α) : qR1 (x :: l) 1 (((x :: l).length : Nat) : Int) = l := by simp [qR1]
theorem merged_eq {ps : List Pr} {cs : List Cg} (hn : ps.length + cs.length ≤ 1000000000) : q11 ps cs = some (mgP ps cs) := by
 unfold q11
 have h := q00 (V := List Pr × List Cg × List Pr) (O := List Pr) (body := fun v768 =>
   (((
    cond (decide ((v768.1.length : Int) > 0)) (
     some true
    ) (
     some (decide ((v768.2.1.length : Int) > 0))
    )
   ) : Option Bool)).bind fun o775 =>
   cond o775 (
    (((
     cond (decide ((v768.2.1.length : Int) = 0)) (
      some true
     ) (
      cond (decide ((v768.1.length : Int) > 0)) (
       (gx v768.1 0).bind fun x808 =>
       (gx v768.2.1 0).bind fun x811 =>
       (qD x808.1 x811.1).bind fun x814 =>
       some (decide (x814 < 0))
      ) (
       some false
      )
     )
    ) : Option Bool)).bind fun o799 =>
    cond o799 (
     (gx v768.1 0).bind fun x820 =>
     (fits (v768.2.2.length + ([x820]).length) 40).bind fun _ =>
     (cutB 1 (v768.1.length : Int) v768.1.length).bind fun _ =>
     some (.inl ((qR1 v768.1 1 (v768.1.length : Int)),v768.2.1,(v768.2.2 ++ [x820])))
    ) (
     (((
      (((
       cond (decide ((v768.1.length : Int) > 0)) (
        (gx v768.1 0).bind fun x876 =>
        (gx v768.2.1 0).bind fun x879 =>
        some (decide (x876.1 = x879.1))
       ) (
        some false
       )
      ) : Option Bool)).bind fun o870 =>
      cond o870 (
       (cutB 1 (v768.1.length : Int) v768.1.length).bind fun _ =>
       some (qR1 v768.1 1 (v768.1.length : Int))
      ) (
       some v768.1
      )
     ) : Option (List ((List UInt8) × ByteArray)))).bind fun o858 =>
     (((
      (gx v768.2.1 0).bind fun x902 =>
      cond (!x902.2.2) (
       (fits (v768.2.2.length + ([(x902.1,x902.2.1)]).length) 40).bind fun _ =>
       some (v768.2.2 ++ [(x902.1,x902.2.1)])
      ) (
       some v768.2.2
      )
     ) : Option (List ((List UInt8) × ByteArray)))).bind fun o899 =>
     (cutB 1 (v768.2.1.length : Int) v768.2.1.length).bind fun _ =>
     some (.inl (o858,(qR1 v768.2.1 1 (v768.2.1.length : Int)),o899))
    )
   ) (
    some (.inr v768.2.2)
   ))
  (fun v => v.2.2 ++ mgP v.1 v.2.1 = mgP ps cs ∧ v.2.2.length + v.1.length + v.2.1.length ≤ 1000000000) (fun v => v.1.length + v.2.1.length) (fun o => o = mgP ps cs) ?_ (v := (ps,cs,[])) ⟨by simp,by simpa using hn⟩
 ·obtain ⟨o,h1,h2⟩ := h
  rw [h1,h2]; rfl
 ·rintro ⟨ps',cs',out⟩ ⟨h1,h2⟩
  simp only at h1 h2
  have hcut : ∀ {α : Type} (x : α) (l : List α),cutB 1 (((x :: l).length : Nat) : Int) (x :: l).length = some () := fun x l => cutB_of ⟨by omega,by simp; omega,by omega⟩
  have hfit : ∀ {n : Nat},n ≤ 1000000001 → fits n 40 = some () := fun h => q81 (by omega)
  have g0 : ∀ {α : Type} (x : α) (l : List α),gx (x :: l) 0 = some x := fun x l => qB2 (P := []) rfl
  have cmp : ∀ a b : List UInt8,qD a b = some (compareBytes a b) := fun a b => by simp [qD,q60]
  match ps',cs' with
  | [],[] =>
   right
   exact ⟨out,by simp,by rw [← h1,mgP]; simp⟩
  | p :: ps',[] =>
   left
   refine ⟨(ps',[],out ++ [p]),?_,⟨by rw [← h1,mgP,mgP]; simp,by simp at *; omega⟩,by simp⟩
   have : ((p :: ps').length : Int) > 0 := by simp
   simp only [this,zC,zE,zA,zH,g0,hcut,qt4]
   rw [hfit (by simp at *; omega)]
   rfl
  | [],c :: cs' =>
   left
   have c0 : ((c :: cs').length : Int) > 0 := by simp
   have c1 : ¬ ((c :: cs').length : Int) = 0 := by simp; omega
   have c2 : ¬ ((([] : List Pr).length : Nat) : Int) > 0 := by simp
   refine ⟨([],cs',out ++ putC c),?_,⟨by rw [← h1,mgP]; simp,by have := qH5 c; simp at *; omega⟩,by simp⟩
   simp only [c0,c1,c2,zC,zB,zE,zD,zA,g0,hcut,qt4]
   unfold putC
   cases hg : c.2.2
   ·simp only [Bool.not_false,zE,Bool.false_eq_true,if_false]
    rw [hfit (by simp at *; omega)]
    rfl
   ·simp
  | p :: ps',c :: cs' =>
   left
   have p0 : ((p :: ps').length : Int) > 0 := by simp
   have c1 : ¬ ((c :: cs').length : Int) = 0 := by simp; omega
   simp only [zG] at h2
   by_cases hlt : compareBytes p.1 c.1 < 0
   ·refine ⟨(ps',c :: cs',out ++ [p]),?_,⟨by rw [← h1,mgP,if_pos hlt]; simp,by simp at *; omega⟩,by simp⟩
    simp only [p0,c1,zC,zB,zE,zD,zA,g0,cmp,hlt,hcut,qt4]
    rw [hfit (by simp at *; omega)]
    rfl
   ·by_cases he : p.1 = c.1
    ·refine ⟨(ps',cs',out ++ putC c),?_,⟨by rw [← h1,mgP,if_neg hlt,if_pos he]; simp,by have := qH5 c; simp at *; omega⟩,by simp; omega⟩
     have hd : decide (p.1 = c.1) = true := by simp [he]
     simp only [p0,c1,zC,zB,zE,zD,zA,g0,cmp,hlt,hd,hcut,qt4]
     unfold putC
     cases hg : c.2.2
     ·simp only [Bool.not_false,zE,Bool.false_eq_true,if_false]
      rw [hfit (by simp at *; omega)]
      rfl
     ·simp
    ·refine ⟨(p :: ps',cs',out ++ putC c),?_,⟨by rw [← h1,mgP,if_neg hlt,if_neg he]; simp,by have := qH5 c; simp at *; omega⟩,by simp⟩
     simp only [p0,c1,zC,zB,zE,zD,zA,g0,cmp,hlt,he,hcut,qt4]
     unfold putC
     cases hg : c.2.2
     ·simp only [Bool.not_false,zE,Bool.false_eq_true,if_false]
      rw [hfit (by simp at *; omega)]
      rfl
     ·simp
end Go.Val
namespace Go.Val
open Go.RowKit Go.Lib
abbrev Kd := Ky × Int
abbrev Nd := Int × List Pr × List Kd
abbrev Mem := (Int × List (Int × Int) × Int) × List (Int × Nd)
abbrev Pt := Ky × Int × Option Fr
inductive F2 {α β : Type} (R : α → β → Prop) : List α → List β → Prop
 | nil : F2 R [] []
 | cons {a : α} {b : β} {l : List α} {r : List β} (h : R a b) (hs : F2 R l r) : F2 R (a :: l) (b :: r)
theorem F2.len {α β : Type} {R : α → β → Prop} {l : List α} {r : List β} (h : F2 R l r) : l.length = r.length := by
 induction h with
 | nil => rfl
 | cons _ _ ih => simp [ih]
theorem F2.app {α β : Type} {R : α → β → Prop} {l l' : List α} {r r' : List β} (h : F2 R l r) (k : F2 R l' r') : F2 R (l ++ l') (r ++ r') := by
 induction h with
 | nil => exact k
 | cons h _ ih => exact .cons h ih
theorem F2.split {α β : Type} {R : α → β → Prop} : ∀ {l l' : List α} {r : List β},F2 R (l ++ l') r → ∃ r1 r2,r = r1 ++ r2 ∧ F2 R l r1 ∧ F2 R l' r2
 | [],l',r,h => ⟨[],r,rfl,.nil,h⟩
 | a :: l,l',_,.cons h hs => by
  obtain ⟨r1,r2,e,h1,h2⟩ := F2.split (l := l) hs
  exact ⟨_ :: r1,r2,by rw [e]; rfl,.cons h h1,h2⟩
theorem F2.imp {α β : Type} {R S : α → β → Prop} (hRS : ∀ a b,R a b → S a b) {l : List α} {r : List β} (h : F2 R l r) : F2 S l r := by
 induction h with
 | nil => exact .nil
 | cons h _ ih => exact .cons (hRS _ _ h) ih
theorem F2.mem {α β : Type} {R : α → β → Prop} {l : List α} {r : List β} (h : F2 R l r) : ∀ a ∈ l,∃ b ∈ r,R a b := by
 induction h with
 | nil => intro a ha; cases ha
 | cons h _ ih =>
  intro a ha
  rcases zM.1 ha with rfl | ha
  ·exact ⟨_,by simp,h⟩
  ·obtain ⟨b,hb,hR⟩ := ih a ha
   exact ⟨b,by simp [hb],hR⟩
def cnt (m : Mem) (n : Int) : Int := (mget m.1.2.1 n).getD 0
def ndOf (m : Mem) (n : Int) : Nd := (mget m.2 n).getD (0,[],[])
def fewN (x : Nd) : Prop := if x.1 = 0 then x.2.1.length < 3 else x.2.2.length < 9
def hd {β : Type} (q : List (Ky × β)) : Option Ky := q.head?.map (·.1)
def Tr (m : Mem) : Nat → Int → List Pr → Prop
 | 0,n,q => cnt m n ≠ 0 ∧ ndOf m n = (0,q,[]) ∧ 1 ≤ q.length ∧ q.length ≤ 7
 | L + 1,n,q => cnt m n ≠ 0 ∧ ∃ ks : List Kd,ndOf m n = (((L + 1 : Nat) : Int),[],ks) ∧ 2 ≤ ks.length ∧ ks.length ≤ 18 ∧ ∃ qs : List (List Pr),qs.flatten = q ∧ F2 (fun k q => Tr m L k.2 q ∧ ¬ fewN (ndOf m k.2) ∧ hd q = some k.1) ks qs
def fewP : Pt → Prop
 | (_,_,none) => False
 | (_,_,some (.mk l ps ks)) => if l = 0 then ps.length < 3 else ks.length < 9
instance (p : Pt) : Decidable (fewP p) := by
 unfold fewP
 split <;> infer_instance
def PtOk (m : Mem) : Nat → Pt → List Pr → Prop
 | L,(k,b,none),q => Tr m L b q ∧ ¬ fewN (ndOf m b) ∧ hd q = some k
 | 0,(k,_,some (.mk l ps ks)),q => l = 0 ∧ ks = [] ∧ ps = q ∧ 1 ≤ q.length ∧ q.length ≤ 7 ∧ hd q = some k
 | L + 1,(k,_,some (.mk l ps ks)),q => l = ((L + 1 : Nat) : Int) ∧ ps = [] ∧ 1 ≤ ks.length ∧ ks.length ≤ 18 ∧ hd q = some k ∧ ∃ qs : List (List Pr),qs.flatten = q ∧ F2 (PtOk m L) ks qs ∧ (2 ≤ ks.length → ∀ p ∈ ks,¬ fewP p)
def RowOk (m : Mem) (L : Nat) (row : List Pt) (q : List Pr) : Prop := ∃ qs : List (List Pr),qs.flatten = q ∧ F2 (PtOk m L) row qs
def qN2 (row : List Pt) : Prop := 2 ≤ row.length → ∀ p ∈ row,¬ fewP p
theorem tr_ne {m : Mem} : ∀ {L : Nat} {n : Int} {q : List Pr},Tr m L n q → q ≠ []
 | 0,n,q,h => by
  rw [Tr] at h
  intro e; rw [e] at h; simp at h
 | L + 1,n,q,h => by
  rw [Tr] at h
  obtain ⟨_,ks,_,h2,_,qs,hf,hF⟩ := h
  match ks,qs,hF with
  | k :: ks,q0 :: qs,.cons h _ =>
   intro e
   have := tr_ne h.1
   rw [← hf] at e
   simp at e
   exact this e.1
theorem hd_ne {β : Type} {q : List (Ky × β)} {k : Ky} (h : hd q = some k) : q ≠ [] := by
 intro e; rw [e] at h; cases h
theorem ptOk_hd {m : Mem} : ∀ {L : Nat} {p : Pt} {q : List Pr},PtOk m L p q → hd q = some p.1
 | 0,(k,b,none),q,h => by rw [PtOk] at h; exact h.2.2
 | L + 1,(k,b,none),q,h => by rw [PtOk] at h; exact h.2.2
 | 0,(k,b,some (.mk l ps ks)),q,h => by rw [PtOk] at h; exact h.2.2.2.2.2
 | L + 1,(k,b,some (.mk l ps ks)),q,h => by rw [PtOk] at h; exact h.2.2.2.2.1
theorem hd_app {β : Type} {q r : List (Ky × β)} (h : q ≠ []) : hd (q ++ r) = hd q := by
 match q,h with
 | x :: q,_ => rfl
theorem qt5 {m : Mem} {L : Nat} {q : List Pr} : RowOk m L [] q ↔ q = [] := by
 constructor
 ·rintro ⟨qs,h,hF⟩
  cases hF
  exact h.symm
 ·rintro rfl
  exact ⟨[],rfl,.nil⟩
theorem qz3 {m : Mem} {L : Nat} {p : Pt} {q : List Pr} : RowOk m L [p] q ↔ PtOk m L p q := by
 constructor
 ·rintro ⟨qs,h,hF⟩
  cases hF with
  | cons h1 h2 => cases h2; simp at h; rw [← h]; exact h1
 ·intro h; exact ⟨[q],by simp,.cons h .nil⟩
theorem RowOk.app {m : Mem} {L : Nat} {r1 r2 : List Pt} {q1 q2 : List Pr} (h : RowOk m L r1 q1) (k : RowOk m L r2 q2) : RowOk m L (r1 ++ r2) (q1 ++ q2) := by
 obtain ⟨a,a1,a2⟩ := h
 obtain ⟨b,b1,b2⟩ := k
 exact ⟨a ++ b,by simp [a1,b1],a2.app b2⟩
theorem RowOk.split {m : Mem} {L : Nat} {r1 r2 : List Pt} {q : List Pr} (h : RowOk m L (r1 ++ r2) q) : ∃ q1 q2,q = q1 ++ q2 ∧ RowOk m L r1 q1 ∧ RowOk m L r2 q2 := by
 obtain ⟨a,a1,a2⟩ := h
 obtain ⟨x,y,e,h1,h2⟩ := a2.split
 exact ⟨x.flatten,y.flatten,by rw [← a1,e]; simp,⟨x,rfl,h1⟩,⟨y,rfl,h2⟩⟩
theorem RowOk.cons {m : Mem} {L : Nat} {p : Pt} {r : List Pt} {q1 q2 : List Pr} (h : PtOk m L p q1) (k : RowOk m L r q2) : RowOk m L (p :: r) (q1 ++ q2) := RowOk.app (qz3.2 h) k
theorem RowOk.hd {m : Mem} {L : Nat} {p : Pt} {r : List Pt} {q : List Pr} (h : RowOk m L (p :: r) q) : hd q = some p.1 := by
 obtain ⟨q1,q2,e,h1,h2⟩ := RowOk.split (r1 := [p]) h
 have := ptOk_hd (qz3.1 h1)
 rw [e,hd_app (hd_ne this)]
 exact this
theorem part_eq {l : Int} {ps : List Pr} {ks : List Pt} (h : ps ≠ [] ∨ ks ≠ []) : ∃ k,qo0 (some (frMk (l,ps,ks))) = some (k,0,some (.mk l ps ks)) ∧ (ps ≠ [] → hd ps = some k) ∧ (ps = [] → hd ks = some k) := by
 unfold qo0
 simp only [frMk,frOf,zA]
 match ps,ks,h with
 | p :: ps,ks,_ =>
  refine ⟨p.1,?_,fun _ => rfl,fun h => by cases h⟩
  have : ((p :: ps).length : Int) > 0 := by simp
  simp only [this,zC,zE,show gx (p :: ps) 0 = some p from qB2 (P := []) rfl,zA]
 | [],k :: ks,_ =>
  refine ⟨k.1,?_,fun h => absurd rfl h,fun _ => rfl⟩
  have h1 : ¬ ((([] : List Pr).length : Nat) : Int) > 0 := by simp
  have h2 : ((k :: ks).length : Int) > 0 := by simp
  simp only [h1,h2,zC,zB,zE,zD,show gx (k :: ks) 0 = some k from qB2 (P := []) rfl,zA]
theorem mkparts {α : Type} {xs : List α} {f : α → Option Pt} {Q : α → Pt → Prop} (hf : ∀ x ∈ xs,∃ p,f x = some p ∧ Q x p) (hn : xs.length ≤ 1000000000) :
  ∃ out : List Pt,qN (V := (Int × (List ((List UInt8) × Int × (Option Fr))))) (O := (List ((List UInt8) × Int × (Option Fr)))) (fun v84 =>
   cond (decide (v84.1 < (xs.length : Int))) (
    (gx xs v84.1).bind fun x91 =>
    (f x91).bind fun x94 =>
    (fits (v84.2.length + ([x94]).length) 40).bind fun _ =>
    some (.inl ((IntKind.wrap .i64 (v84.1 + 1)),(v84.2 ++ [x94])))
   ) (
    some (.inr v84.2)
   )
  ) (0,[]) = some out ∧ F2 Q xs out := by
 have h := q00 (V := Int × List Pt) (O := List Pt) (body := fun v84 =>
   cond (decide (v84.1 < (xs.length : Int))) (
    (gx xs v84.1).bind fun x91 =>
    (f x91).bind fun x94 =>
    (fits (v84.2.length + ([x94]).length) 40).bind fun _ =>
    some (.inl ((IntKind.wrap .i64 (v84.1 + 1)),(v84.2 ++ [x94])))
   ) (
    some (.inr v84.2)
   ))
  (fun v => ∃ D Z,xs = D ++ Z ∧ v.1 = (D.length : Int) ∧ F2 Q D v.2) (fun v => ((xs.length : Int) - v.1).toNat) (fun o => F2 Q xs o) ?_ (v := (0,[])) ⟨[],xs,rfl,rfl,.nil⟩
 ·exact h
 ·rintro ⟨i,out⟩ ⟨D,Z,h1,h2,h3⟩
  simp only at h2 h3
  subst h2
  have hl : xs.length = D.length + Z.length := by rw [h1]; simp
  have hlo := h3.len
  match Z with
  | [] =>
   right
   have : ¬ ((D.length : Int) < (xs.length : Int)) := by simp at hl; omega
   refine ⟨out,by simp only [this,zB,zD],?_⟩
   rw [zJ] at h1
   rw [h1]; exact h3
  | z :: Z' =>
   left
   simp only [zG] at hl
   have hlt : (D.length : Int) < (xs.length : Int) := by omega
   obtain ⟨p,hp,hQ⟩ := hf z (by rw [h1]; simp)
   refine ⟨((D.length : Int) + 1,out ++ [p]),?_,⟨D ++ [z],Z',by simp [h1],by show (D.length : Int) + 1 = _; simp,h3.app (.cons hQ .nil)⟩,by simp; omega⟩
   simp only [hlt,zC,zE,show gx xs (D.length : Int) = some z by rw [h1]; exact qB2 rfl,zA,hp]
   rw [q81 (by simp; omega),w64 (by omega) (by omega)]
   rfl
theorem leaves_eq {m : Mem} {q : List Pr} (hn : q.length ≤ 1000000000) : ∃ row,qy0 q = some row ∧ RowOk m 0 row q ∧ qN2 row ∧ row.length = (q.length + 6) / 7 := by
 obtain ⟨out,h1,h2,h3,h4⟩ := share_eq (l := q) (M := 7) (n := (q.length + 6) / 7) (by omega) (by omega) hn rfl
 have e : qR3 q 7 = some out := h1
 have ho : out.length ≤ q.length := by rw [h3]; omega
 unfold qy0
 rw [e]
 simp only [zA]
 obtain ⟨row,g1,g2⟩ := mkparts (xs := out) (f := fun x91 => qo0 (some (frMk (0,x91,[])))) (Q := fun x p => p.2.2 = some (.mk 0 x []) ∧ hd x = some p.1) (fun x hx => by
  obtain ⟨k,k1,k2,_⟩ := part_eq (l := 0) (ps := x) (ks := []) (.inl (h4 x hx).2.2)
  exact ⟨_,k1,rfl,k2 (h4 x hx).2.2⟩) (by omega)
 rw [g1]
 refine ⟨row,rfl,⟨out,h2,?_⟩,fun h2r p hp => ?_,by rw [← g2.len,h3]⟩
 ·have key : ∀ {xs : List (List Pr)} {r : List Pt},F2 (fun x p => p.2.2 = some (.mk 0 x []) ∧ hd x = some p.1) xs r → (∀ x ∈ xs,x.length ≤ 7 ∧ x ≠ []) → F2 (PtOk m 0) r xs := by
   intro xs r h
   induction h with
   | nil => intro _; exact .nil
   | cons h _ ih =>
    rename_i x p _ _ _
    intro hx
    refine .cons ?_ (ih fun y hy => hx y (by simp [hy]))
    obtain ⟨k,b,f⟩ := p
    obtain ⟨e1,e2⟩ := h
    simp only at e1 e2
    subst e1
    rw [PtOk]
    have := hx x (by simp)
    exact ⟨rfl,rfl,rfl,List.length_pos_iff.2 this.2,this.1,e2⟩
  exact key g2 fun x hx => ⟨(h4 x hx).2.1,(h4 x hx).2.2⟩
 ·have hq : 4 ≤ q.length / ((q.length + 6) / 7) := by
   have : 2 ≤ (q.length + 6) / 7 := by rw [← h3,g2.len]; exact h2r
   refine (Nat.le_div_iff_mul_le (by omega)).2 ?_
   omega
  have key : ∀ {xs : List (List Pr)} {r : List Pt},F2 (fun x p => p.2.2 = some (.mk 0 x []) ∧ hd x = some p.1) xs r → (∀ x ∈ xs,4 ≤ x.length) → ∀ p ∈ r,¬ fewP p := by
   intro xs r h
   induction h with
   | nil => intro _ p hp; cases hp
   | cons h _ ih =>
    rename_i x p0 _ _ _
    intro hx p hp
    rcases zM.1 hp with rfl | hp
    ·obtain ⟨k,b,f⟩ := p
     obtain ⟨e1,e2⟩ := h
     simp only at e1
     subst e1
     have := hx x (by simp)
     simp [fewP]; omega
    ·exact ih (fun y hy => hx y (by simp [hy])) p hp
  exact key g2 (fun x hx => Nat.le_trans hq (h4 x hx).1) p hp
def frs : Nat → Pt → Nat
 | 0,(_,_,none) => 0
 | 0,(_,_,some _) => 1
 | L + 1,(_,_,none) => 0
 | L + 1,(_,_,some (.mk _ _ ks)) => 1 + (ks.map (frs L)).sum
theorem frs_none {L : Nat} {k : Ky} {b : Int} : frs L (k,b,none) = 0 := by cases L <;> rw [frs]
def fews (row : List Pt) : Nat := row.countP fun p => decide (fewP p)
theorem fews_app (a b : List Pt) : fews (a ++ b) = fews a + fews b := List.countP_append
theorem fews_le (a : List Pt) : fews a ≤ a.length := List.countP_le_length
theorem fews_zero {a : List Pt} (h : ∀ p ∈ a,¬ fewP p) : fews a = 0 := by
 unfold fews
 rw [List.countP_eq_zero]
 intro p hp
 simp [h p hp]
theorem fews_cons (p : Pt) (a : List Pt) : fews (p :: a) = fews a + if fewP p then 1 else 0 := by
 unfold fews
 rw [List.countP_cons]
 by_cases h : fewP p <;> simp [h]
def fz (p : Pt) : Nat := match p.2.2 with
 | none => 0
 | some _ => 1 + if fewP p then 1 else 0
def psiP : Nat → Pt → Nat
 | 0,p => fz p
 | L + 1,(k,b,none) => 0
 | L + 1,(k,b,some (.mk l ps ks)) => fz (k,b,some (.mk l ps ks)) + (ks.map (psiP L)).sum
def psi (L : Nat) (row : List Pt) : Nat := (row.map (psiP L)).sum
def frsS (L : Nat) (row : List Pt) : Nat := (row.map (frs L)).sum
theorem psi_app (L : Nat) (a b : List Pt) : psi L (a ++ b) = psi L a + psi L b := by simp [psi]
theorem psi_cons (L : Nat) (p : Pt) (a : List Pt) : psi L (p :: a) = psiP L p + psi L a := by simp [psi]
theorem psi_one (L : Nat) (p : Pt) : psi L [p] = psiP L p := by simp [psi]
theorem frsS_nil (L : Nat) : frsS L [] = 0 := rfl
theorem frsS_app (L : Nat) (a b : List Pt) : frsS L (a ++ b) = frsS L a + frsS L b := by simp [frsS]
theorem frsS_cons (L : Nat) (p : Pt) (a : List Pt) : frsS L (p :: a) = frs L p + frsS L a := by simp [frsS]
theorem psi_none {L : Nat} {k : Ky} {b : Int} : psiP L (k,b,none) = 0 := by cases L <;> rw [psiP]; rfl
theorem fz_le (p : Pt) : fz p ≤ 1 + if fewP p then 1 else 0 := by
 obtain ⟨k,b,f⟩ := p
 cases f with
 | none => simp [fz]
 | some f => simp [fz]
theorem fz_few {p : Pt} (h : fewP p) : fz p = 2 := by
 obtain ⟨k,b,f⟩ := p
 cases f with
 | none => exact h.elim
 | some f => simp only [fz]; rw [if_pos h]
theorem fzs_le : ∀ row : List Pt,(row.map fz).sum ≤ row.length + fews row
 | [] => by simp
 | p :: row => by
  have := fzs_le row
  have h := fz_le p
  rw [fews_cons]
  simp only [List.map_cons,List.sum_cons,zG]
  omega
theorem psi0_le (row : List Pt) : psi 0 row ≤ row.length + fews row := by
 have : psi 0 row = (row.map fz).sum := by
  unfold psi
  congr 1
 rw [this]; exact fzs_le row
theorem good_le {row : List Pt} (hg : qN2 row) (h : row.length ≤ 2) : row.length + fews row ≤ 2 := by
 have := fews_le row
 by_cases h2 : 2 ≤ row.length
 ·rw [fews_zero (hg h2)]; omega
 ·omega
theorem frs_psi : ∀ (L : Nat) (p : Pt),frs L p ≤ psiP L p
 | 0,(k,b,none) => by rw [frs]; omega
 | 0,(k,b,some f) => by rw [frs,psiP]; simp only [fz]; omega
 | L + 1,(k,b,none) => by rw [frs]; omega
 | L + 1,(k,b,some (.mk l ps ks)) => by
  rw [frs,psiP]
  have hf : 1 ≤ fz (k,b,some (.mk l ps ks)) := by simp only [fz]; omega
  have : (ks.map (frs L)).sum ≤ (ks.map (psiP L)).sum := by
   clear hf
   induction ks with
   | nil => simp
   | cons k ks ih =>
    have := frs_psi L k
    simp only [List.map_cons,List.sum_cons]
    omega
  omega
theorem frsS_psi (L : Nat) : ∀ row : List Pt,frsS L row ≤ psi L row
 | [] => Nat.le_refl _
 | p :: row => by
  have := frsS_psi L row
  have h := frs_psi L p
  rw [frsS_cons,psi_cons]
  omega
theorem psi_flat {L : Nat} {l : Int} {xs : List (List Pt)} {out : List Pt} (h : F2 (fun (x : List Pt) (p : Pt) => p.2.2 = some (.mk l [] x)) xs out) : psi (L + 1) out ≤ out.length + fews out + psi L xs.flatten ∧ frsS (L + 1) out = out.length + frsS L xs.flatten := by
 induction h with
 | nil => exact ⟨Nat.zero_le _,rfl⟩
 | @cons x p xs out h hs ih =>
  obtain ⟨k,b,f⟩ := p
  have h' : f = some (.mk l [] x) := h
  subst h'
  have h1 := fz_le (k,b,some (.mk l [] x))
  rw [psi_cons,frsS_cons,fews_cons,List.flatten_cons,psi_app,frsS_app,psiP,frs]
  simp only [zG,frsS,psi] at *
  omega
end Go.Val
namespace Go.Val
open Go.RowKit Go.Lib
theorem rowOk_flatten {m : Mem} {L : Nat} : ∀ {xs : List (List Pt)} {q : List Pr},RowOk m L xs.flatten q → ∃ ys : List (List Pr),ys.flatten = q ∧ F2 (RowOk m L) xs ys
 | [],q,h => ⟨[],by rw [qt5.1 h]; rfl,.nil⟩
 | x :: xs,q,h => by
  obtain ⟨q1,q2,e,h1,h2⟩ := RowOk.split (r1 := x) (r2 := xs.flatten) (by simpa using h)
  obtain ⟨ys,g1,g2⟩ := rowOk_flatten h2
  exact ⟨q1 :: ys,by rw [e,← g1]; rfl,.cons h1 g2⟩
theorem F2.comp {α β γ : Type} {R : α → β → Prop} {S : α → γ → Prop} {T : γ → β → Prop} (hT : ∀ a b c,R a b → S a c → T c b) : ∀ {l : List α} {r : List β} {s : List γ},F2 R l r → F2 S l s → F2 T s r
 | _,_,_,.nil,.nil => .nil
 | _,_,_,.cons h hs,.cons k ks => .cons (hT _ _ _ h k) (F2.comp hT hs ks)
theorem F2.memP {α β : Type} {R : α → β → Prop} {l : List α} {r : List β} (h : F2 R l r) : ∀ b ∈ r,∃ a ∈ l,R a b := by
 induction h with
 | nil => intro a ha; cases ha
 | cons h _ ih =>
  intro a ha
  rcases zM.1 ha with rfl | ha
  ·exact ⟨_,by simp,h⟩
  ·obtain ⟨b,hb,hR⟩ := ih a ha
   exact ⟨b,by simp [hb],hR⟩
theorem F2.withMem {α β : Type} {R : α → β → Prop} {l : List α} {r : List β} (h : F2 R l r) : F2 (fun a b => a ∈ l ∧ R a b) l r := by
 induction h with
 | nil => exact .nil
 | cons h _ ih => exact .cons ⟨by simp,h⟩ (ih.imp fun a b hab => ⟨by simp [hab.1],hab.2⟩)
theorem nodes_psi {m : Mem} {L : Nat} {row : List Pt} {q : List Pr} (hr : RowOk m L row q) (hg : qN2 row) (hn : row.length ≤ 1000000000) :
  ∃ out,qM0 ((L + 1 : Nat) : Int) row = some out ∧ RowOk m (L + 1) out q ∧ qN2 out ∧ out.length = (row.length + 17) / 18 ∧ psi (L + 1) out ≤ out.length + fews out + psi L row ∧ frsS (L + 1) out = out.length + frsS L row := by
 obtain ⟨xs,h1,h2,h3,h4⟩ := share_eq (l := row) (M := 18) (n := (row.length + 17) / 18) (by omega) (by omega) hn rfl
 have e : qD2 row 18 = some xs := h1
 have ho : xs.length ≤ row.length := by rw [h3]; omega
 unfold qM0
 rw [e]
 simp only [zA]
 obtain ⟨out,g1,g2⟩ := mkparts (xs := xs) (f := fun x91 => qo0 (some (frMk (((L + 1 : Nat) : Int),[],x91)))) (Q := fun x p => p.2.2 = some (.mk ((L + 1 : Nat) : Int) [] x) ∧ hd x = some p.1) (fun x hx => by
  obtain ⟨k,k1,_,k2⟩ := part_eq (l := ((L + 1 : Nat) : Int)) (ps := []) (ks := x) (.inr (h4 x hx).2.2)
  exact ⟨_,k1,rfl,k2 rfl⟩) (by omega)
 rw [g1]
 obtain ⟨ys,y1,y2⟩ := rowOk_flatten (h2 ▸ hr)
 refine ⟨out,rfl,⟨ys,y1,F2.comp (fun x y p hxy hxp => ?_) y2.withMem g2⟩,fun h2r p hp => ?_,by rw [← g2.len,h3],h2 ▸ psi_flat (g2.imp fun _ _ h => h.1)⟩
 ·obtain ⟨hm,hxy⟩ := hxy
  obtain ⟨k,b,f⟩ := p
  obtain ⟨e1,e2⟩ := hxp
  have e1' : f = some (.mk ((L + 1 : Nat) : Int) [] x) := e1
  subst e1'
  rw [PtOk]
  have l4 := h4 x hm
  obtain ⟨qs,r1,r2⟩ := hxy
  have hsub : ∀ p ∈ x,p ∈ row := fun p hp => by rw [← h2]; exact List.mem_flatten.2 ⟨x,hm,hp⟩
  have hlx : x.length ≤ row.length := by
   rw [← h2]
   obtain ⟨s,t,rfl⟩ := List.append_of_mem hm
   simp
   omega
  refine ⟨rfl,rfl,List.length_pos_iff.2 l4.2.2,l4.2.1,?_,qs,r1,r2,fun h2x p hp => hg (by omega) p (hsub p hp)⟩
  match x,e2,l4 with
  | p0 :: x',e2,_ =>
   have := RowOk.hd (m := m) (L := L) (p := p0) (r := x') (q := y) ⟨qs,r1,r2⟩
   rw [this]
   exact e2
 ·obtain ⟨x,hx,e1,e2⟩ := F2.memP g2 p hp
  have hq : 9 ≤ row.length / ((row.length + 17) / 18) := by
   have : 2 ≤ (row.length + 17) / 18 := by rw [← h3,g2.len]; exact h2r
   refine (Nat.le_div_iff_mul_le (by omega)).2 ?_
   omega
  obtain ⟨k,b,f⟩ := p
  have e1' : f = some (.mk ((L + 1 : Nat) : Int) [] x) := e1
  subst e1'
  have := (h4 x hx).1
  have h0 : ¬ (((L + 1 : Nat) : Int) = 0) := by omega
  simp only [fewP,h0,if_false]
  omega
end Go.Val
namespace Go.Val
open Go.RowKit Go.Lib
theorem own_eq {x : Nd} (h1 : x.2.1.length ≤ 1000000000) (h2 : x.2.2.length ≤ 1000000000) : qj3 x = some x := by
 unfold qj3 qY1 qS1
 rw [q81 (by simp; omega)]
 simp only [zA]
 rw [q81 (by simp; omega)]
 rfl
theorem count_eq (m : Mem) (n : Int) : qk1 m.1 n = some (cnt m n,m.1) := rfl
theorem memGet_eq {m : Mem} {n : Int} (h0 : cnt m n ≠ 0) (h1 : (ndOf m n).2.1.length ≤ 1000000000) (h2 : (ndOf m n).2.2.length ≤ 1000000000) : qx m n = some (ndOf m n,0,m) := by
 unfold qx
 rw [count_eq]
 simp only [zA,h0,zB,zD]
 rw [show (mget m.2 n).getD (0,[],[]) = ndOf m n from rfl,own_eq h1 h2]
 rfl
theorem qZ2 {m : Mem} : ∀ {L : Nat} {n : Int} {q : List Pr},Tr m L n q → cnt m n ≠ 0
 | 0,n,q,h => by rw [Tr] at h; exact h.1
 | L + 1,n,q,h => by rw [Tr] at h; exact h.1
theorem qe6 {m : Mem} : ∀ {L : Nat} {n : Int} {q : List Pr},Tr m L n q → (ndOf m n).1 = (L : Int) ∧ (ndOf m n).2.1.length ≤ 7 ∧ (ndOf m n).2.2.length ≤ 18
 | 0,n,q,h => by rw [Tr] at h; obtain ⟨_,h1,h2,h3⟩ := h; rw [h1]; simp; exact h3
 | L + 1,n,q,h => by rw [Tr] at h; obtain ⟨_,ks,h1,h2,h3,_⟩ := h; rw [h1]; simp; omega
theorem tr_get {m : Mem} {L : Nat} {n : Int} {q : List Pr} (h : Tr m L n q) : qx m n = some (ndOf m n,0,m) := by
 have := qe6 h
 exact memGet_eq (qZ2 h) (by omega) (by omega)
def kidP (k : Kd) : Pt := (k.1,k.2,none)
theorem thaw_eq {m : Mem} {L : Nat} {n : Int} {q : List Pr} (h : Tr m L n q) (d : List Int) : qX d n m = some (some (.mk (ndOf m n).1 (ndOf m n).2.1 ((ndOf m n).2.2.map kidP)),0,d,m) := by
 unfold qX
 rw [tr_get h]
 simp only [zA,ne_eq,zP,zB,zD]
 obtain ⟨_,_,hk⟩ := qe6 h
 generalize ndOf m n = x at *
 obtain ⟨l,ps,ks⟩ := x
 simp only at hk ⊢
 have hw := q00 (V := Int × Int × List Pr × List Pt) (O := Int × List Pr × List Pt) (body := fun v63 =>
    cond (decide (v63.1 < (ks.length : Int))) (
     (gx ks v63.1).bind fun x70 =>
     (fits (v63.2.2.2.length + ([(x70.1,x70.2,(none : Option Fr))]).length) 40).bind fun _ =>
     some (.inl ((IntKind.wrap .i64 (v63.1 + 1)),(v63.2.1,v63.2.2.1,(v63.2.2.2 ++ [(x70.1,x70.2,(none : Option Fr))]))))
    ) (
     some (.inr v63.2)
    ))
  (fun v => ∃ D Z,ks = D ++ Z ∧ v = ((D.length : Int),l,ps,D.map kidP)) (fun v => ((ks.length : Int) - v.1).toNat) (fun o => o = (l,ps,ks.map kidP)) ?_ (v := (0,l,ps,[])) ⟨[],ks,rfl,rfl⟩
 ·obtain ⟨o,h1,h2⟩ := hw
  rw [h1,h2]; rfl
 ·rintro v ⟨D,Z,h1,rfl⟩
  have hl : ks.length = D.length + Z.length := by rw [h1]; simp
  match Z with
  | [] =>
   right
   have : ¬ ((D.length : Int) < (ks.length : Int)) := by simp at hl; omega
   rw [zJ] at h1
   exact ⟨(l,ps,D.map kidP),by simp only [this,zB,zD],by rw [h1]⟩
  | z :: Z' =>
   left
   simp only [zG] at hl
   have hlt : (D.length : Int) < (ks.length : Int) := by omega
   refine ⟨((D.length : Int) + 1,l,ps,(D ++ [z]).map kidP),?_,⟨D ++ [z],Z',by simp [h1],by simp⟩,by simp; omega⟩
   simp only [hlt,zC,zE,show gx ks (D.length : Int) = some z by rw [h1]; exact qB2 rfl,zA]
   rw [q81 (by simp; omega),w64 (by omega) (by omega)]
   simp [kidP]
theorem concatP_eq {a b : List Pr} (h : a.length + b.length ≤ 1000000000) : qc1 [a,b] = some (a ++ b) := by
 unfold qc1
 rw [qI]
 have n1 : ¬ ((a.length : Int) < 0) := by omega
 have n2 : ¬ ((a.length : Int) + (b.length : Int) < 0) := by omega
 have w1 : IntKind.wrap .i64 (0 + (a.length : Int)) = (a.length : Int) := by rw [w64 (by omega) (by omega)]; omega
 have w2 : IntKind.wrap .i64 ((a.length : Int) + (b.length : Int)) = (a.length : Int) + (b.length : Int) := w64 (by omega) (by omega)
 have s1 : IntKind.wrap .i64 (0 + 1) = 1 := by decide
 have s2 : IntKind.wrap .i64 (1 + 1) = 2 := by decide
 have g0 : gx [a,b] 0 = some a := rfl
 have g1 : gx [a,b] 1 = some b := rfl
 simp only [zG,zH,g0,zA,w1,s1]
 simp only [show decide ((0 : Int) < ((0 + 1 + 1 : Nat) : Int)) = true by decide,n1,zB,zE,zD,zA]
 rw [qI]
 simp only [g1,zA,w2,s2]
 simp only [show decide ((1 : Int) < ((0 + 1 + 1 : Nat) : Int)) = true by decide,n2,zB,zE,zD,zA]
 rw [qI]
 simp only [show decide ((2 : Int) < ((0 + 1 + 1 : Nat) : Int)) = false by decide,zD,zA]
 have hck : ck (decide (0 ≤ (a.length : Int) + (b.length : Int) ∧ ((a.length : Int) + (b.length : Int)).toNat * 40 ≤ 140737488355328)) = some () := by
  have : (0 ≤ (a.length : Int) + (b.length : Int) ∧ ((a.length : Int) + (b.length : Int)).toNat * 40 ≤ 140737488355328) := by omega
  simp only [this,ck]
  rfl
 rw [hck]
 simp only [zA]
 rw [qI]
 simp only [show decide ((0 : Int) < ((0 + 1 + 1 : Nat) : Int)) = true by decide,zE,g0,zA,s1]
 rw [q81 (by simp; omega)]
 simp only [zA]
 rw [qI]
 simp only [show decide ((1 : Int) < ((0 + 1 + 1 : Nat) : Int)) = true by decide,zE,g1,zA,s2]
 rw [q81 (by simp; omega)]
 simp only [zA]
 rw [qI]
 simp only [show decide ((2 : Int) < ((0 + 1 + 1 : Nat) : Int)) = false by decide,zD,zA]
 simp
theorem concatK_eq {a b : List Pt} (h : a.length + b.length ≤ 1000000000) : qb1 [a,b] = some (a ++ b) := by
 unfold qb1
 rw [qI]
 have n1 : ¬ ((a.length : Int) < 0) := by omega
 have n2 : ¬ ((a.length : Int) + (b.length : Int) < 0) := by omega
 have w1 : IntKind.wrap .i64 (0 + (a.length : Int)) = (a.length : Int) := by rw [w64 (by omega) (by omega)]; omega
 have w2 : IntKind.wrap .i64 ((a.length : Int) + (b.length : Int)) = (a.length : Int) + (b.length : Int) := w64 (by omega) (by omega)
 have s1 : IntKind.wrap .i64 (0 + 1) = 1 := by decide
 have s2 : IntKind.wrap .i64 (1 + 1) = 2 := by decide
 have g0 : gx [a,b] 0 = some a := rfl
 have g1 : gx [a,b] 1 = some b := rfl
 simp only [zG,zH,g0,zA,w1,s1]
 simp only [show decide ((0 : Int) < ((0 + 1 + 1 : Nat) : Int)) = true by decide,n1,zB,zE,zD,zA]
 rw [qI]
 simp only [g1,zA,w2,s2]
 simp only [show decide ((1 : Int) < ((0 + 1 + 1 : Nat) : Int)) = true by decide,n2,zB,zE,zD,zA]
 rw [qI]
 simp only [show decide ((2 : Int) < ((0 + 1 + 1 : Nat) : Int)) = false by decide,zD,zA]
 have hck : ck (decide (0 ≤ (a.length : Int) + (b.length : Int) ∧ ((a.length : Int) + (b.length : Int)).toNat * 40 ≤ 140737488355328)) = some () := by
  have : (0 ≤ (a.length : Int) + (b.length : Int) ∧ ((a.length : Int) + (b.length : Int)).toNat * 40 ≤ 140737488355328) := by omega
  simp only [this,ck]
  rfl
 rw [hck]
 simp only [zA]
 rw [qI]
 simp only [show decide ((0 : Int) < ((0 + 1 + 1 : Nat) : Int)) = true by decide,zE,g0,zA,s1]
 rw [q81 (by simp; omega)]
 simp only [zA]
 rw [qI]
 simp only [show decide ((1 : Int) < ((0 + 1 + 1 : Nat) : Int)) = true by decide,zE,g1,zA,s2]
 rw [q81 (by simp; omega)]
 simp only [zA]
 rw [qI]
 simp only [show decide ((2 : Int) < ((0 + 1 + 1 : Nat) : Int)) = false by decide,zD,zA]
 simp
end Go.Val
namespace Go.Val
open Go.RowKit Go.Lib
def openP (m : Mem) (p : Pt) : Option Fr := match p.2.2 with
 | none => some (.mk (ndOf m p.2.1).1 (ndOf m p.2.1).2.1 ((ndOf m p.2.1).2.2.map kidP))
 | some f => some f
theorem F2.map {α β γ : Type} {R : α → β → Prop} {S : γ → β → Prop} {g : α → γ} (h : ∀ a b,R a b → S (g a) b) {l : List α} {r : List β} (k : F2 R l r) : F2 S (l.map g) r := by
 induction k with
 | nil => exact .nil
 | cons h' _ ih => exact .cons (h _ _ h') ih
theorem kids_row {m : Mem} {L : Nat} {ks : List Kd} {q : List Pr} (h : ∃ qs : List (List Pr),qs.flatten = q ∧ F2 (fun k q => Tr m L k.2 q ∧ ¬ fewN (ndOf m k.2) ∧ hd q = some k.1) ks qs) : RowOk m L (ks.map kidP) q ∧ qN2 (ks.map kidP) := by
 obtain ⟨qs,h1,h2⟩ := h
 refine ⟨⟨qs,h1,F2.map (fun k q h => ?_) h2⟩,fun _ p hp => ?_⟩
 ·rw [kidP,PtOk]; exact h
 ·obtain ⟨k,_,rfl⟩ := List.mem_map.1 hp
  exact fun h => h
theorem openP0 {m : Mem} {p : Pt} {q : List Pr} (h : PtOk m 0 p q) : openP m p = some (.mk 0 q []) ∧ 1 ≤ q.length ∧ q.length ≤ 7 := by
 match p,h with
 | (k,b,none),h =>
  rw [PtOk,Tr] at h
  obtain ⟨⟨_,h1,h2,h3⟩,_⟩ := h
  simp only [openP,h1]
  exact ⟨rfl,h2,h3⟩
 | (k,b,some (.mk l ps ks)),h =>
  rw [PtOk] at h
  obtain ⟨rfl,rfl,rfl,h2,h3,_⟩ := h
  exact ⟨rfl,h2,h3⟩
theorem openPs {m : Mem} {L : Nat} {p : Pt} {q : List Pr} (h : PtOk m (L + 1) p q) : ∃ ks : List Pt,openP m p = some (.mk ((L + 1 : Nat) : Int) [] ks) ∧ RowOk m L ks q ∧ qN2 ks ∧ 1 ≤ ks.length ∧ ks.length ≤ 18 ∧ psiP (L + 1) p = fz p + psi L ks := by
 match p,h with
 | (k,b,none),h =>
  rw [PtOk,Tr] at h
  obtain ⟨⟨_,ks,h1,h2,h3,h4⟩,_⟩ := h
  obtain ⟨g1,g2⟩ := kids_row h4
  refine ⟨ks.map kidP,?_,g1,g2,by simp; omega,by simpa using h3,?_⟩
  rotate_left
  ·rw [psiP]
   have : psi L (ks.map kidP) = 0 := by
    unfold psi
    rw [List.map_map]
    refine List.sum_eq_zero_iff_forall_eq_nat.2 fun x hx => ?_
    obtain ⟨k,_,rfl⟩ := List.mem_map.1 hx
    exact psi_none
   rw [this]; rfl
  simp only [openP,h1]
 | (k,b,some (.mk l ps ks)),h =>
  rw [PtOk] at h
  obtain ⟨rfl,rfl,h2,h3,_,qs,h4,h5,h6⟩ := h
  exact ⟨ks,rfl,⟨qs,h4,h5⟩,h6,h2,h3,by rw [psiP]; rfl⟩
theorem thawP {m : Mem} {L : Nat} {p : Pt} {q : List Pr} (h : PtOk m L p q) (hn : p.2.2 = none) (d : List Int) : qX d p.2.1 m = some (openP m p,0,d,m) := by
 obtain ⟨k,b,f⟩ := p
 have hf : f = none := hn
 subst hf
 have hT : Tr m L b q := by
  cases L <;> (rw [PtOk] at h; exact h.1)
 rw [thaw_eq hT]
 rfl
theorem join_eq {m : Mem} {L : Nat} {x y : Pt} {q1 q2 : List Pr} {d : List Int} {self : List Int → List Pt → Mem → Option (List Pt × Int × List Int × Mem)} (hx : PtOk m L x q1) (hy : PtOk m L y q2)
  (hself : ∀ L',L = L' + 1 → ∀ (row : List Pt) (q : List Pr),RowOk m L' row q → row ≠ [] → row.length ≤ 36 → ∃ row',self d row m = some (row',0,d,m) ∧ RowOk m L' row' q ∧ qN2 row' ∧ row'.length ≤ row.length ∧ psi L' row' ≤ psi L' row) :
  ∃ row,ql0 self d x y m = some (row,0,d,m) ∧ RowOk m L row (q1 ++ q2) ∧ qN2 row ∧ row.length ≤ 2 ∧ row ≠ [] ∧ (fewP x ∨ fewP y → psi L row ≤ psiP L x + psiP L y) := by
 have hfz : fewP x ∨ fewP y → 2 ≤ fz x + fz y := fun h => by
  rcases h with h | h
  ·rw [fz_few h]; omega
  ·rw [fz_few h]; omega
 have hne1 := hd_ne (ptOk_hd hx)
 unfold ql0
 have hloop : qN (V := (Int × (List Int) × Mem × ((Option Fr) × (Option Fr)))) (O := (((List Int) × Mem × ((Option Fr) × (Option Fr))) ⊕ (List Pt × Int × (List Int) × Mem))) (fun v361 =>
   cond (decide (v361.1 < (([x,y]).length : Int))) (
    (((
     (gx ([x,y]) v361.1).bind fun x412 =>
     (((
      (ck (decide (0 ≤ v361.1 ∧ v361.1 < 2))).bind fun _ =>
      cond (decide (v361.1 = 0)) (
       some (x412.2.2,v361.2.2.2.2)
      ) (
       some (v361.2.2.2.1,x412.2.2)
      )
     ) : Option ((Option Fr) × (Option Fr)))).bind fun o424 =>
     cond (Option.isNone x412.2.2) (
      (qX v361.2.1 x412.2.1 v361.2.2.1).bind fun x436 =>
      cond (decide (x436.2.1 ≠ 0)) (
       some (.inr ([],x436.2.1,x436.2.2.1,x436.2.2.2))
      ) (
       (ck (decide (0 ≤ v361.1 ∧ v361.1 < 2))).bind fun _ =>
       cond (decide (v361.1 = 0)) (
        some (.inl (x436.2.2.1,x436.2.2.2,(x436.1,o424.2)))
       ) (
        some (.inl (x436.2.2.1,x436.2.2.2,(o424.1,x436.1)))
       )
      )
     ) (
      some (.inl (v361.2.1,v361.2.2.1,o424))
     )
    ) : Option (((List Int) × Mem × ((Option Fr) × (Option Fr))) ⊕ (List Pt × Int × (List Int) × Mem)))).bind fun o409 =>
    Sum.elim (fun (v455 : ((List Int) × Mem × ((Option Fr) × (Option Fr)))) =>
     some (.inl ((IntKind.wrap .i64 (v361.1 + 1)),v455.1,v455.2.1,v455.2.2))
    ) (fun w458 =>
     some (.inr (.inr w458))
    ) o409
   ) (
    some (.inr (.inl (v361.2.1,v361.2.2.1,v361.2.2.2)))
   )
  ) (0,d,m,((none : Option Fr),(none : Option Fr))) = some (.inl (d,m,openP m x,openP m y)) := by
  have s1 : IntKind.wrap .i64 (0 + 1) = 1 := by decide
  have s2 : IntKind.wrap .i64 (1 + 1) = 2 := by decide
  have g0 : gx [x,y] 0 = some x := rfl
  have g1 : gx [x,y] 1 = some y := rfl
  have c0 : ck (decide ((0 : Int) ≤ 0 ∧ (0 : Int) < 2)) = some () := by decide
  have c1 : ck (decide ((0 : Int) ≤ 1 ∧ (1 : Int) < 2)) = some () := by decide
  have z1 : decide ((1 : Int) = 0) = false := by decide
  have z0 : decide ((0 : Int) = 0) = true := by decide
  have d0 : decide ((0 : Int) < (([x,y] : List Pt).length : Int)) = true := rfl
  have d1 : decide ((1 : Int) < (([x,y] : List Pt).length : Int)) = true := rfl
  have d2 : decide ((2 : Int) < (([x,y] : List Pt).length : Int)) = false := rfl
  have ne0 : decide ((0 : Int) ≠ 0) = false := by decide
  rw [qI]
  simp only [d0,zE,g0,zA,c0,z0,zC,zE]
  cases ex : x.2.2 with
  | none =>
   simp only [Option.isNone_none,zE,thawP hx ex,zA,ne0,ne_eq,zP,zC,zB,zE,zD,zN,s1]
   rw [qI]
   simp only [d1,zE,g1,zA,c1,z1,zB,zD]
   cases ey : y.2.2 with
   | none =>
    simp only [Option.isNone_none,zE,thawP hy ey,zA,ne0,ne_eq,zP,zC,zB,zE,zD,zN,s2]
    rw [qI]
    simp only [d2,zD,zA]
   | some fy =>
    have ey' : openP m y = some fy := by simp [openP,ey]
    simp only [Option.isNone_some,zD,zA,zN,s2]
    rw [qI]
    simp only [d2,zD,zA,ey']
  | some fx =>
   have ex' : openP m x = some fx := by simp [openP,ex]
   simp only [Option.isNone_some,zD,zA,zN,s1]
   rw [qI]
   simp only [d1,zE,g1,zA,c1,z1,zB,zD]
   cases ey : y.2.2 with
   | none =>
    simp only [Option.isNone_none,zE,thawP hy ey,zA,ne0,ne_eq,zP,zC,zB,zE,zD,zN,s2]
    rw [qI]
    simp only [d2,zD,zA,ex']
   | some fy =>
    have ey' : openP m y = some fy := by simp [openP,ey]
    simp only [Option.isNone_some,zD,zA,zN,s2]
    rw [qI]
    simp only [d2,zD,zA,ey',ex']
 rw [hloop]
 simp only [zA,zN]
 match L,hx,hy,hself with
 | 0,hx,hy,_ =>
  obtain ⟨e1,a1,a2⟩ := openP0 hx
  obtain ⟨e2,b1,b2⟩ := openP0 hy
  rw [e1,e2]
  simp only [frOf,zA,zC,zE]
  rw [concatP_eq (by omega)]
  simp only [zA]
  obtain ⟨row,r1,r2,r3,r4⟩ := leaves_eq (m := m) (q := q1 ++ q2) (by simp; omega)
  rw [r1]
  have r5 : row.length ≤ 2 := by rw [r4]; simp; omega
  refine ⟨row,rfl,r2,r3,r5,?_,fun hf => ?_⟩
  ·intro h
   rw [h] at r2
   have := qt5.1 r2
   simp at this
   exact hne1 this.1
  ·have h1 := psi0_le row
   have h2 := good_le r3 r5
   have h3 := hfz hf
   rw [psiP,psiP]
   omega
 | L' + 1,hx,hy,hself =>
  obtain ⟨k1,e1,a1,a2,a3,a4,a5⟩ := openPs hx
  obtain ⟨k2,e2,b1,b2,b3,b4,b5⟩ := openPs hy
  rw [e1,e2]
  have h0 : decide (((L' + 1 : Nat) : Int) = 0) = false := by simp; omega
  simp only [frOf,zA,h0,zD]
  rw [concatK_eq (by omega)]
  simp only [zA]
  obtain ⟨row',r1,r2,r3,r4,r5⟩ := hself L' rfl (k1 ++ k2) (q1 ++ q2) (a1.app b1) (by intro h; simp at h; rw [h.1] at a3; simp at a3) (by simp; omega)
  rw [r1]
  simp only [zA]
  simp only [zF] at r4
  obtain ⟨out,o1,o2,o3,o4,o5,_⟩ := nodes_psi r2 r3 (by omega)
  rw [o1]
  have o6 : out.length ≤ 2 := by omega
  refine ⟨out,rfl,o2,o3,o6,?_,fun hf => ?_⟩
  ·intro h
   rw [h] at o2
   have := qt5.1 o2
   simp at this
   exact hne1 this.1
  ·have h2 := good_le o3 o6
   have h3 := hfz hf
   rw [psi_app] at r5
   rw [a5,b5]
   omega
end Go.Val
namespace Go.Val
open Go.RowKit Go.Lib
theorem few_eq (p : Pt) : (cond (Option.isNone p.2.2) (some true) ((qV0 p.2.2).bind fun x354 => some (!x354)) : Option Bool) = some (!decide (fewP p)) := by
 obtain ⟨k,b,f⟩ := p
 match f with
 | none =>
  have : ¬ fewP (k,b,none) := fun h => h
  simp [this]
 | some (.mk l ps ks) =>
  simp only [Option.isNone_some,zD,qV0,frOf,zA]
  by_cases h : l = 0
  ·simp [h,fewP]; omega
  ·simp [h,fewP]; omega
theorem replaceK_eq {R1 R2 v : List Pt} {x y : Pt} {i j : Int} (hi : i = R1.length) (hj : j = R1.length + 2) (hv : v.length ≤ 2) (hb : (R1 ++ x :: y :: R2).length ≤ 1000000000) : q64 (R1 ++ x :: y :: R2) i j v = some (R1 ++ v ++ R2) := by
 unfold q64
 have : (0 ≤ i ∧ j = i + 2 ∧ j ≤ (R1 ++ x :: y :: R2).length ∧ v.length ≤ 2 ∧ (R1 ++ x :: y :: R2).length ≤ 1000000000) := ⟨by omega,by omega,by simp; omega,hv,hb⟩
 rw [decide_eq_true this]
 simp only [zE]
 congr 1
 have e1 : i.toNat = R1.length := by omega
 have e2 : j.toNat = R1.length + 2 := by omega
 rw [e1,e2]
 simp [List.drop_append]
theorem mul_lt_step {S S' N a b : Nat} (h : S' + 1 ≤ S) (ha : a ≤ N) : S' * (N + 2) + a < S * (N + 2) + b := by
 have := Nat.mul_le_mul_right (N + 2) h
 rw [Nat.succ_mul] at this
 omega
theorem filled_n {m : Mem} : ∀ (n L : Nat) {row : List Pt} {q : List Pr} {d : List Int},L < n → RowOk m L row q → row.length ≤ 1000000 →
  ∃ row',qS n d row m = some (row',0,d,m) ∧ RowOk m L row' q ∧ qN2 row' ∧ row'.length ≤ row.length ∧ psi L row' ≤ psi L row := by
 intro n
 induction n with
 | zero => intro L row q d h; omega
 | succ n ih =>
  intro L row q d hL hr hn
  show ∃ row',q70 (qS n) d row m = some (row',0,d,m) ∧ _
  unfold q70
  have h := q00 (V := (List Pt × Int × (List Int) × Mem)) (O := ((List Pt × (List Int) × Mem) ⊕ (List Pt × Int × (List Int) × Mem))) (body := fun v317 =>
   (((
    cond (decide (v317.2.1 < (v317.1.length : Int))) (
     some (decide ((v317.1.length : Int) > 1))
    ) (
     some false
    )
   ) : Option Bool)).bind fun o324 =>
   cond o324 (
    (((
     (gx v317.1 v317.2.1).bind fun x348 =>
     cond (Option.isNone x348.2.2) (
      some true
     ) (
      (qV0 x348.2.2).bind fun x354 =>
      some (!x354)
     )
    ) : Option Bool)).bind fun o345 =>
    cond o345 (
     some (.inl (v317.1,(IntKind.wrap .i64 (v317.2.1 + 1)),v317.2.2.1,v317.2.2.2))
    ) (
     (gx v317.1 (max (IntKind.wrap .i64 (v317.2.1 - 1)) 0)).bind fun x360 =>
     (gx v317.1 (IntKind.wrap .i64 ((max (IntKind.wrap .i64 (v317.2.1 - 1)) 0) + 1))).bind fun x363 =>
     (ql0 (qS n) v317.2.2.1 x360 x363 v317.2.2.2).bind fun x366 =>
     cond (decide (x366.2.1 ≠ 0)) (
      some (.inr (.inr ([],x366.2.1,x366.2.2.1,x366.2.2.2)))
     ) (
      (qW0 v317.1).bind fun x373 =>
      (q64 x373 (max (IntKind.wrap .i64 (v317.2.1 - 1)) 0) (IntKind.wrap .i64 ((max (IntKind.wrap .i64 (v317.2.1 - 1)) 0) + 2)) x366.1).bind fun x376 =>
      some (.inl (x376,(max (IntKind.wrap .i64 (v317.2.1 - 1)) 0),x366.2.2.1,x366.2.2.2))
     )
    )
   ) (
    some (.inr (.inl (v317.1,v317.2.2.1,v317.2.2.2)))
   ))
   (fun v => ∃ A B,v.1 = A ++ B ∧ v.2 = ((A.length : Int),d,m) ∧ RowOk m L (A ++ B) q ∧ ((A ++ B).length ≤ row.length ∧ psi L (A ++ B) ≤ psi L row) ∧ ∀ p ∈ A,¬ fewP p)
   (fun v => (v.1.length + fews v.1) * (row.length + 2) + (v.1.length - v.2.1.toNat))
   (fun o => ∃ row',o = .inl (row',d,m) ∧ RowOk m L row' q ∧ qN2 row' ∧ row'.length ≤ row.length ∧ psi L row' ≤ psi L row) ?_ (v := (row,0,d,m)) ⟨[],row,rfl,rfl,hr,by simp,fun p hp => by cases hp⟩
  ·obtain ⟨o,h1,row',h2,h3⟩ := h
   refine ⟨row',?_,h3⟩
   rw [h1,h2]
   rfl
  ·rintro ⟨r,i,d',m'⟩ ⟨A,B,h1,h2,h3,⟨h4,hps⟩,h5⟩
   simp only at h1
   subst h1
   simp only [Prod.mk.injEq] at h2
   obtain ⟨rfl,hd,hm⟩ := h2
   have hd := hd.symm
   have hm := hm.symm
   subst hd; subst hm
   have lAB : (A ++ B).length = A.length + B.length := by simp
   by_cases hend : A.length < (A ++ B).length ∧ 1 < (A ++ B).length
   ·left
    have t1 : ((A.length : Int) < ((A ++ B).length : Int)) := by omega
    have t2 : (((A ++ B).length : Int) > 1) := by omega
    match B,hend,lAB,h3,h4,t1,t2 with
    | [],hend,_,_,_,_,_ => exact absurd hend.1 (by simp)
    | p :: B',hend,lAB,h3,h4,t1,t2 =>
     have gp : gx (A ++ p :: B') (A.length : Int) = some p := qB2 rfl
     simp only [t1,t2,zC,zE,zA,gp,few_eq]
     simp only [zG] at lAB
     by_cases hf : fewP p
     ·simp only [hf,zC,Bool.not_true,zD]
      obtain ⟨R1,x,y,R2,hR,hR1,hx1,hxy⟩ : ∃ R1 x y R2,A ++ p :: B' = R1 ++ x :: y :: R2 ∧ (max (IntKind.wrap .i64 ((A.length : Int) - 1)) 0) = (R1.length : Int) ∧ (∀ z ∈ R1,¬ fewP z) ∧ (fewP x ∨ fewP y) := by
       rcases qB1 A with rfl | ⟨A0,x,rfl⟩
       ·match B',lAB,hend with
        | [],lAB,hend => simp at hend
        | y :: R2,_,_ => exact ⟨[],p,y,R2,rfl,(by decide),(fun z hz => nomatch hz),.inl hf⟩
       ·refine ⟨A0,x,p,B',by simp,?_,fun z hz => h5 z (by simp [hz]),.inr hf⟩
        have lA : A0.length + 1 + (B'.length + 1) ≤ 1000000 := by have := h4; simp at this; omega
        rw [w64 (by simp) (by simp; omega)]
        simp
      rw [hR,hR1]
      rw [hR] at h3 h4 lAB hps
      have lR : (R1 ++ x :: y :: R2).length = R1.length + R2.length + 2 := by simp; omega
      obtain ⟨q1,q23,rfl,k1,k23⟩ := RowOk.split h3
      obtain ⟨q2,q3,rfl,k2,k3⟩ := RowOk.split (r1 := [x]) k23
      obtain ⟨q3,q4,rfl,k3,k4⟩ := RowOk.split (r1 := [y]) k3
      obtain ⟨jr,j1,j2,j3,j4,j5,j6⟩ := join_eq (d := d) (self := qS n) (qz3.1 k2) (qz3.1 k3) (fun L' hL' row q hr' _ hlen => ih L' (by omega) hr' (by omega))
      have e1 : IntKind.wrap .i64 ((R1.length : Int) + 1) = ((R1 ++ [x]).length : Int) := by rw [w64 (by omega) (by omega)]; simp
      have e2 : IntKind.wrap .i64 ((R1.length : Int) + 2) = (R1.length : Int) + 2 := w64 (by omega) (by omega)
      have g1 : gx (R1 ++ x :: y :: R2) (R1.length : Int) = some x := qB2 rfl
      have g2 : gx (R1 ++ x :: y :: R2) (IntKind.wrap .i64 ((R1.length : Int) + 1)) = some y := by
       rw [show R1 ++ x :: y :: R2 = (R1 ++ [x]) ++ y :: R2 by simp]; exact qB2 e1
      have hcl : qW0 (R1 ++ x :: y :: R2) = some (R1 ++ x :: y :: R2) := by
       unfold qW0
       rw [q81 (by simp only [zH]; omega)]; rfl
      have j4' : jr.length ≤ 2 := j4
      have lj : 1 ≤ jr.length := List.length_pos_iff.2 j5
      refine ⟨(R1 ++ jr ++ R2,(R1.length : Int),d,m),?_,⟨R1,jr ++ R2,by simp,rfl,?_,⟨by simp at h4 ⊢; omega,?_⟩,hx1⟩,?_⟩
      ·rw [g1]
       simp only [zA]
       rw [g2]
       simp only [zA]
       rw [j1]
       simp only [zA,ne_eq,zP,zB,zD]
       rw [hcl]
       simp only [zA]
       rw [e2,replaceK_eq rfl rfl j4' (by omega)]
       rfl
      ·have := k1.app (j2.app k4)
       simpa using this
      ·have h6 := j6 hxy
       rw [psi_app,psi_cons,psi_cons] at hps
       rw [psi_app,psi_app]
       omega
      ·show ((R1 ++ jr ++ R2).length + fews (R1 ++ jr ++ R2)) * (row.length + 2) + ((R1 ++ jr ++ R2).length - ((R1.length : Int)).toNat) < ((R1 ++ x :: y :: R2).length + fews (R1 ++ x :: y :: R2)) * (row.length + 2) + ((R1 ++ x :: y :: R2).length - ((A.length : Int)).toNat)
       refine mul_lt_step ?_ (by simp at h4 ⊢; omega)
       have f1 : fews (R1 ++ jr ++ R2) = fews R1 + fews jr + fews R2 := by rw [fews_app,fews_app]
       have f2 : fews (R1 ++ x :: y :: R2) = fews R1 + (fews R2 + (if fewP y then 1 else 0) + if fewP x then 1 else 0) := by rw [fews_app,fews_cons,fews_cons]
       have f3 : 1 ≤ (if fewP y then 1 else 0) + if fewP x then 1 else 0 := by
        rcases hxy with h | h
        ·rw [if_pos h]; split <;> omega
        ·rw [if_pos h]; omega
       have f4 : jr.length + fews jr ≤ 2 := by
        have := fews_le jr
        by_cases h2 : 2 ≤ jr.length
        ·rw [fews_zero (j3 h2)]; omega
        ·omega
       rw [f1,f2]
       simp only [zF,zG]
       omega
     ·simp only [hf,zB,Bool.not_false,zE]
      refine ⟨(A ++ p :: B',(A.length : Int) + 1,d,m),?_,⟨A ++ [p],B',by simp,by simp,by simpa using h3,by simpa using And.intro h4 hps,?_⟩,?_⟩
      ·rw [w64 (by omega) (by omega)]
      ·intro z hz
       rcases zL.1 hz with hz | hz
       ·exact h5 z hz
       ·simp at hz; subst hz; exact hf
      ·show ((A ++ p :: B').length + fews (A ++ p :: B')) * (row.length + 2) + ((A ++ p :: B').length - ((A.length : Int) + 1).toNat) < ((A ++ p :: B').length + fews (A ++ p :: B')) * (row.length + 2) + ((A ++ p :: B').length - ((A.length : Int)).toNat)
       omega
   ·right
    refine ⟨.inl (A ++ B,d,m),?_,A ++ B,rfl,h3,?_,h4,hps⟩
    ·by_cases t1 : A.length < (A ++ B).length
     ·have t1' : ((A.length : Int) < ((A ++ B).length : Int)) := by omega
      have t2' : ¬ (((A ++ B).length : Int) > 1) := by omega
      simp only [t1',t2',zC,zB,zE,zD,zA]
     ·have t1' : ¬ ((A.length : Int) < ((A ++ B).length : Int)) := by omega
      simp only [t1',zB,zD,zA]
    ·intro h2 p hp
     have : B = [] := by apply List.eq_nil_of_length_eq_zero; omega
     subst this
     exact h5 p (by simpa using hp)
theorem filled_eq {m : Mem} {L : Nat} {row : List Pt} {q : List Pr} {d : List Int} (hL : L < 40) (hr : RowOk m L row q) (hn : row.length ≤ 1000000) :
  ∃ row',qw1 d row m = some (row',0,d,m) ∧ RowOk m L row' q ∧ qN2 row' ∧ row'.length ≤ row.length ∧ psi L row' ≤ psi L row := filled_n 40 L hL hr hn
end Go.Val
namespace Go.Val
open Go.RowKit Go.Lib
theorem qP {β : Type} {a b : List (Ky × β)} : Rising (a ++ b) ↔ Rising a ∧ Rising b ∧ ∀ x ∈ a,∀ y ∈ b,Lt x.1 y.1 := by
 unfold Rising Asc
 rw [List.map_append,List.pairwise_append]
 constructor
 ·rintro ⟨h1,h2,h3⟩
  exact ⟨h1,h2,fun x hx y hy => h3 _ (List.mem_map.2 ⟨x,hx,rfl⟩) _ (List.mem_map.2 ⟨y,hy,rfl⟩)⟩
 ·rintro ⟨h1,h2,h3⟩
  refine ⟨h1,h2,fun k hk k' hk' => ?_⟩
  obtain ⟨x,hx,rfl⟩ := List.mem_map.1 hk
  obtain ⟨y,hy,rfl⟩ := List.mem_map.1 hk'
  exact h3 x hx y hy
theorem bsf_eq {l : List Cg} {to : Ky} (hl : Rising l) (hn : l.length ≤ 1000000000) : ∃ (l1 l2 : List Cg) (f : Bool),l = l1 ++ l2 ∧ qQ l to = some ((l1.length : Int),f) ∧ (∀ c ∈ l1,Lt c.1 to) ∧ (∀ c ∈ l2,¬ Lt c.1 to) := by
 have ecmp : ∀ (x : Cg),qd0 x to = some (compareBytes x.1 to) := fun x => by simp [qd0,qD,q60]
 have dflt : Cg := ([],ByteArray.empty,false)
 unfold qQ
 obtain ⟨s,e1,e2,e3,e4,e5⟩ := qy4 (body := fun v72 =>
   cond (decide (v72.1 < v72.2)) (
    (gx l (IntKind.wrap .i64 (Int.fdiv (IntKind.wrap .u64 (IntKind.wrap .i64 (v72.1 + v72.2))) (2 ^ 1)))).bind fun x79 =>
    (qd0 x79 to).bind fun x82 =>
    cond (decide (x82 < 0)) (
     some (.inl ((IntKind.wrap .i64 ((IntKind.wrap .i64 (Int.fdiv (IntKind.wrap .u64 (IntKind.wrap .i64 (v72.1 + v72.2))) (2 ^ 1))) + 1)),v72.2))
    ) (
     some (.inl (v72.1,(IntKind.wrap .i64 (Int.fdiv (IntKind.wrap .u64 (IntKind.wrap .i64 (v72.1 + v72.2))) (2 ^ 1)))))
    )
   ) (
    some (.inr v72.1)
   )) (lo := 0) (hi := l.length) (fun h => decide (compareBytes (l.getD h dflt).1 to < 0)) (by omega) (by
  intro i j g1 g2 g3
  have hlt : ((i : Int) < (j : Int)) := by omega
  simp only [hlt,zC,zE]
  rw [half_eq (by omega),q46 dflt (by omega)]
  simp only [zA,ecmp]
  rw [w64 (by omega) (by omega)]
  generalize l.getD ((i + j) / 2) dflt = q
  by_cases hc : compareBytes q.1 to < 0
  ·simp [hc]
  ·simp [hc]) (by intro i; simp)
 rw [show ((0 : Int),(l.length : Int)) = (((0 : Nat) : Int),(l.length : Int)) from rfl,e1]
 simp only [zA]
 obtain ⟨l1,l2,hl12,n1,n2⟩ := qT4 l s e3
 have hf : ∃ f : Bool,(cond (decide ((s : Int) < (l.length : Int))) ((gx l (s : Int)).bind fun x103 => (qd0 x103 to).bind fun x106 => some (decide (x106 = 0))) (some false) : Option Bool) = some f := by
  by_cases hs : s < l.length
  ·have : ((s : Int) < (l.length : Int)) := by omega
   rw [q46 dflt hs]
   simp only [this,zC,zE,zA,ecmp]
   exact ⟨_,rfl⟩
  ·have : ¬ ((s : Int) < (l.length : Int)) := by omega
   simp only [this,zB,zD]
   exact ⟨_,rfl⟩
 obtain ⟨f,hf⟩ := hf
 refine ⟨l1,l2,f,hl12,by rw [hf,n1]; rfl,?_,?_⟩
 ·intro c hc
  rcases qB1 l1 with rfl | ⟨l0,x,rfl⟩
  ·cases hc
  ·simp only [zF,zG,zH] at n1
   rcases e4 with e4 | e4
   ·omega
   ·have := of_decide_eq_true e4
    rw [hl12,show l0 ++ [x] ++ l2 = l0 ++ x :: l2 by simp,qM3 (by omega)] at this
    rcases zL.1 hc with hc | hc
    ·have h1 := (qP.1 (qP.1 (hl12 ▸ hl)).1).2.2 c hc x (by simp)
     exact lt_trans h1 this
    ·simp at hc; subst hc; exact this
 ·intro c hc
  match l2,hc with
  | y :: l3,hc =>
   simp only [zG] at n2
   rcases e5 with e5 | e5
   ·omega
   ·have := of_decide_eq_false e5
    rw [hl12,qM3 (by omega)] at this
    rcases zM.1 hc with rfl | hc
    ·exact this
    ·intro hlt
     have h1 := (qx0.1 (qP.1 (hl12 ▸ hl)).2.1).1 c hc
     exact this (lt_trans h1 hlt)
end Go.Val
namespace Go.Val
open Go.RowKit Go.Lib
theorem qM2 {β : Type} {k : Ky} {l : List (Ky × β)} (h : ∀ x ∈ l,x.1 ≠ k) : mget l k = none :=
 qH2.2 fun hm => by
  obtain ⟨y,hy,e⟩ := List.mem_map.1 hm
  exact h y hy e
theorem mgP_split {a b : List Pr} {c1 c2 : List Cg} (ha : Rising (a ++ b)) (hc : Rising (c1 ++ c2)) (h1 : ∀ x ∈ a,∀ y ∈ c2,Lt x.1 y.1) (h2 : ∀ x ∈ c1,∀ y ∈ b,Lt x.1 y.1) : mgP (a ++ b) (c1 ++ c2) = mgP a c1 ++ mgP b c2 := by
 obtain ⟨ra,rb,rab⟩ := qP.1 ha
 obtain ⟨rc1,rc2,rcc⟩ := qP.1 hc
 obtain ⟨s1,s2⟩ := mgP_spec ha hc
 obtain ⟨t1,t2⟩ := mgP_spec ra rc1
 obtain ⟨u1,u2⟩ := mgP_spec rb rc2
 have hsep : ∀ x ∈ mgP a c1,∀ y ∈ mgP b c2,Lt x.1 y.1 := by
  intro x hx y hy
  rcases mgP_mem hx with hx | ⟨c,hcm,rfl,_⟩ <;> rcases mgP_mem hy with hy | ⟨e,hem,rfl,_⟩
  ·exact rab x hx y hy
  ·exact h1 x hx e hem
  ·exact h2 c hcm y hy
  ·exact rcc c hcm e hem
 refine qd3 s1 (qP.2 ⟨t1,u1,hsep⟩) fun k => ?_
 rw [s2,q01 c1 c2,q01 a b,q01 (mgP a c1),t2,u2]
 cases hm1 : mget c1 k with
 | some e =>
  have hk := qK1 hm1
  have n2 : mget c2 k = none := qM2 fun x hx he => lt_irrefl k (by have := rcc _ hk x hx; rw [he] at this; exact this)
  have n3 : mget b k = none := qM2 fun x hx he => lt_irrefl k (by have := h2 _ hk x hx; rw [he] at this; exact this)
  rw [n2,n3]
  simp
 | none =>
  cases hm2 : mget c2 k with
  | some e =>
   have hk := qK1 hm2
   have n3 : mget a k = none := qM2 fun x hx he => lt_irrefl k (by have := h1 x hx _ hk; rw [he] at this; exact this)
   rw [n3]
   simp
  | none => simp
theorem qz5 {m : Mem} {L : Nat} : ∀ {row : List Pt} {q : List Pr},RowOk m L row q → row.length ≤ q.length
 | [],q,_ => by simp
 | p :: row,q,h => by
  obtain ⟨q1,q2,rfl,h1,h2⟩ := RowOk.split (r1 := [p]) h
  have := qz5 h2
  have h3 := List.length_pos_iff.2 (hd_ne (ptOk_hd (qz3.1 h1)))
  simp; omega
theorem hd_le {q : List Pr} {k : Ky} (h : hd q = some k) (hr : Rising q) : ∀ x ∈ q,x.1 = k ∨ Lt k x.1 := by
 match q,h with
 | y :: q,h =>
  have e : y.1 = k := by simpa [hd] using h
  intro x hx
  rcases zM.1 hx with rfl | hx
  ·exact .inl e
  ·exact .inr (e ▸ (qx0.1 hr).1 x hx)
theorem hd_mem {q : List Pr} {k : Ky} (h : hd q = some k) : ∃ x ∈ q,x.1 = k := by
 match q,h with
 | y :: q,h => exact ⟨y,by simp,by simpa [hd] using h⟩
theorem piece_pre {α : Type} (a b : List α) : qR1 (a ++ b) 0 (a.length : Int) = a := by simp [qR1]
theorem piece_suf {α : Type} (a b : List α) : qR1 (a ++ b) (a.length : Int) (((a ++ b).length : Nat) : Int) = b := by
 unfold qR1
 rw [Int.toNat_natCast,Int.toNat_natCast,List.take_length,List.drop_left]
theorem edit_n {m : Mem} : ∀ (n L : Nat) {b : Int} {q : List Pr} {cs : List Cg} {d : List Int},L < n → L < 39 → Tr m L b q → Rising q → Rising cs → q.length + cs.length ≤ 1000000 →
  ∃ row,q40 n d b cs m = some (row,0,d,m) ∧ RowOk m L row (mgP q cs) ∧ qN2 row ∧ (cs.length ≤ 1 → psi L row ≤ 2 * (L + 1) ∧ row.length ≤ 2) := by
 intro n
 induction n with
 | zero => intro L b q cs d h; omega
 | succ n ih =>
  intro L b q cs d hL h39 hT hq hc hn
  show ∃ row,qg0 (q40 n) d b cs m = some (row,0,d,m) ∧ _
  unfold qg0
  rw [thaw_eq hT]
  simp only [zA,ne_eq,zP,zB,zD,frOf]
  have hlen := mgP_len q cs
  match L,hL,hT with
  | 0,hL,hT =>
   rw [Tr] at hT
   obtain ⟨_,h1,h2,h3⟩ := hT
   rw [h1]
   simp only [zC,zE]
   rw [merged_eq (by omega)]
   simp only [zA]
   obtain ⟨row,r1,r2,r3,r4⟩ := leaves_eq (m := m) (q := mgP q cs) (by omega)
   rw [r1]
   refine ⟨row,rfl,r2,r3,fun h1 => ?_⟩
   have r5 : row.length ≤ 2 := by omega
   have := psi0_le row
   have := good_le r3 r5
   exact ⟨by omega,r5⟩
  | L + 1,hL,hT =>
   rw [Tr] at hT
   obtain ⟨_,ks,h1,h2,h3,qs,h4,h5⟩ := hT
   rw [h1]
   have z : decide (((L + 1 : Nat) : Int) = 0) = false := by simp; omega
   simp only [z,zD]
   have hw := q00 (V := (List Cg × Int × (List Int) × Mem × List Pt)) (O := (((List Int) × Mem × List Pt) ⊕ (List Pt × Int × (List Int) × Mem))) (body := fun v555 =>
     cond (decide (v555.2.1 < ((ks.map kidP).length : Int))) (
      (((
       (gx (ks.map kidP) v555.2.1).bind fun x612 =>
       (((
        cond (decide ((IntKind.wrap .i64 (v555.2.1 + 1)) < ((ks.map kidP).length : Int))) (
         (gx (ks.map kidP) (IntKind.wrap .i64 (v555.2.1 + 1))).bind fun x630 =>
         (qQ v555.1 x630.1).bind fun x633 =>
         some x633.1
        ) (
         some (v555.1.length : Int)
        )
       ) : Option Int)).bind fun o624 =>
       (cutB 0 o624 v555.1.length).bind fun _ =>
       (cutB o624 (v555.1.length : Int) v555.1.length).bind fun _ =>
       cond (decide (((qR1 v555.1 0 o624).length : Int) = 0)) (
        (fits (v555.2.2.2.2.length + ([x612]).length) 40).bind fun _ =>
        some (.inl ((qR1 v555.1 o624 (v555.1.length : Int)),v555.2.2.1,v555.2.2.2.1,(v555.2.2.2.2 ++ [x612])))
       ) (
        (q40 n v555.2.2.1 x612.2.1 (qR1 v555.1 0 o624) v555.2.2.2.1).bind fun x648 =>
        cond (decide (x648.2.1 ≠ 0)) (
         some (.inr ([],x648.2.1,x648.2.2.1,x648.2.2.2))
        ) (
         (fits (v555.2.2.2.2.length + x648.1.length) 40).bind fun _ =>
         some (.inl ((qR1 v555.1 o624 (v555.1.length : Int)),x648.2.2.1,x648.2.2.2,(v555.2.2.2.2 ++ x648.1)))
        )
       )
      ) : Option ((List Cg × (List Int) × Mem × List Pt) ⊕ (List Pt × Int × (List Int) × Mem)))).bind fun o609 =>
      Sum.elim (fun (v661 : (List Cg × (List Int) × Mem × List Pt)) =>
       some (.inl (v661.1,(IntKind.wrap .i64 (v555.2.1 + 1)),v661.2.1,v661.2.2.1,v661.2.2.2))
      ) (fun w664 =>
       some (.inr (.inr w664))
      ) o609
     ) (
      some (.inr (.inl (v555.2.2.1,v555.2.2.2.1,v555.2.2.2.2)))
     ))
    (fun v => ∃ D Z QD QZ C1 C2 out,ks = D ++ Z ∧ qs = QD ++ QZ ∧ F2 (fun k q => Tr m L k.2 q ∧ ¬ fewN (ndOf m k.2) ∧ hd q = some k.1) Z QZ ∧ cs = C1 ++ C2 ∧ v = (C2,(D.length : Int),d,m,out) ∧ RowOk m L out (mgP QD.flatten C1) ∧
     (∀ x ∈ QD.flatten,∀ y ∈ C2,Lt x.1 y.1) ∧ (∀ x ∈ C1,∀ y ∈ QZ.flatten,Lt x.1 y.1) ∧ (Z = [] → C2 = []) ∧ (cs.length ≤ 1 → psi L out ≤ C1.length * (2 * (L + 1)) ∧ out.length ≤ D.length + C1.length))
    (fun v => ((ks.length : Int) - v.2.1).toNat) (fun o => ∃ out,o = .inl (d,m,out) ∧ RowOk m L out (mgP q cs) ∧ (cs.length ≤ 1 → psi L out ≤ 2 * (L + 1) ∧ out.length ≤ 19)) ?_ (v := (cs,0,d,m,[]))
    ⟨[],ks,[],qs,[],cs,[],rfl,rfl,h5,rfl,rfl,by rw [List.flatten_nil,mgP]; exact qt5.2 rfl,by simp,by simp,fun h => by rw [h] at h2; simp at h2,fun _ => ⟨Nat.zero_le _,Nat.zero_le _⟩⟩
   ·obtain ⟨o,w1,out,w2,w3,w4⟩ := hw
    rw [w1,w2]
    simp only [zA,zN]
    have hl1 := qz5 w3
    obtain ⟨row',f1,f2,f3,f4,f5⟩ := filled_eq (d := d) (by omega) w3 (by omega)
    rw [f1]
    simp only [zA]
    obtain ⟨out',o1,o2,o3,o4,o5,_⟩ := nodes_psi f2 f3 (by omega)
    rw [o1]
    refine ⟨out',rfl,o2,o3,fun h1 => ?_⟩
    obtain ⟨w5,w6⟩ := w4 h1
    have o6 : out'.length ≤ 2 := by omega
    have := good_le o3 o6
    exact ⟨by omega,o6⟩
   ·rintro v ⟨D,Z,QD,QZ,C1,C2,out,k1,k2,k3,k4,rfl,k5,k6,k7,k8,k9⟩
    have lks : ks.length = D.length + Z.length := by rw [k1]; simp
    have hq' : Rising (QD.flatten ++ QZ.flatten) := by rw [← List.flatten_append,← k2,h4]; exact hq
    have hc' : Rising (C1 ++ C2) := k4 ▸ hc
    have lq : q.length = QD.flatten.length + QZ.flatten.length := by rw [← h4,k2]; simp
    have lc : cs.length = C1.length + C2.length := by rw [k4]; simp
    match Z,QZ,k3 with
    | [],[],_ =>
     right
     have hC2 := k8 rfl
     subst hC2
     have t : ¬ ((D.length : Int) < ((ks.map kidP).length : Int)) := by simp at lks ⊢; omega
     refine ⟨.inl (d,m,out),by simp only [t,zB,zD],out,rfl,?_,fun h1 => ?_⟩
     ·rw [← h4,k2,k4]
      simpa using k5
     ·obtain ⟨n1,n2⟩ := k9 h1
      simp only [zH] at lc lks
      have : C1.length * (2 * (L + 1)) ≤ 1 * (2 * (L + 1)) := Nat.mul_le_mul_right _ (by omega)
      exact ⟨by omega,by omega⟩
    | z0 :: Z',q0 :: QZ',.cons hz hzs =>
     left
     have hlt : ((D.length : Int) < ((ks.map kidP).length : Int)) := by simp at lks ⊢; omega
     have g0 : gx (ks.map kidP) (D.length : Int) = some (kidP z0) := by
      rw [k1,List.map_append,List.map_cons]; exact qB2 (by simp)
     have hqq : Rising (q0 ++ QZ'.flatten) := by simpa using (qP.1 hq').2.1
     have hC2 := (qP.1 hc').2.1
     simp only [zG] at lks
     have w1 : IntKind.wrap .i64 ((D.length : Int) + 1) = (D.length : Int) + 1 := w64 (by omega) (by omega)
     obtain ⟨M1,M2,hM,hmany,hM1,hM2,hend⟩ : ∃ M1 M2,C2 = M1 ++ M2 ∧ (cond (decide ((IntKind.wrap .i64 ((D.length : Int) + 1)) < ((ks.map kidP).length : Int))) (
         (gx (ks.map kidP) (IntKind.wrap .i64 ((D.length : Int) + 1))).bind fun x630 =>
         (qQ C2 x630.1).bind fun x633 =>
         some x633.1
        ) (
         some (C2.length : Int)
        ) : Option Int) = some (M1.length : Int) ∧ (∀ c ∈ M1,∀ y ∈ QZ'.flatten,Lt c.1 y.1) ∧ (∀ x ∈ q0,∀ c ∈ M2,Lt x.1 c.1) ∧ (Z' = [] → M2 = []) := by
      rw [w1]
      match Z',QZ',hzs with
      | [],[],_ =>
       have t : ¬ ((D.length : Int) + 1 < ((ks.map kidP).length : Int)) := by simp at lks ⊢; omega
       exact ⟨C2,[],by simp,by simp only [t,zB,zD],by simp,by simp,fun _ => rfl⟩
      | z1 :: Z'',q1 :: QZ'',.cons hz1 _ =>
       have t : ((D.length : Int) + 1 < ((ks.map kidP).length : Int)) := by simp at lks ⊢; omega
       have g1 : gx (ks.map kidP) ((D.length : Int) + 1) = some (kidP z1) := by
        rw [k1,show D ++ z0 :: z1 :: Z'' = (D ++ [z0]) ++ z1 :: Z'' by simp,List.map_append,List.map_cons]; exact qB2 (by simp)
       obtain ⟨l1,l2,f,e1,e2,e3,e4⟩ := bsf_eq (to := z1.1) hC2 (by omega)
       have hh : hd (q1 :: QZ'').flatten = some z1.1 := by
        rw [List.flatten_cons,hd_app (hd_ne hz1.2.2)]; exact hz1.2.2
       obtain ⟨w,hw,hwk⟩ := hd_mem hh
       refine ⟨l1,l2,e1,?_,?_,?_,fun h => by cases h⟩
       ·simp only [t,zC,zE,g1,zA]
        rw [show (kidP z1).1 = z1.1 from rfl,e2]
        rfl
       ·intro c hc y hy
        rcases hd_le hh (qP.1 hqq).2.1 y hy with h | h
        ·rw [h]; exact e3 c hc
        ·exact lt_trans (e3 c hc) h
       ·intro x hx c hc
        have h1 : Lt x.1 z1.1 := by
         have := (qP.1 hqq).2.2 x hx w hw
         rw [hwk] at this; exact this
        rcases lt_or c.1 z1.1 with h | h | h
        ·exact absurd h (e4 c hc)
        ·rw [h]; exact h1
        ·exact lt_trans h1 h
     have lM : C2.length = M1.length + M2.length := by rw [hM]; simp
     have lq0 : (q0 :: QZ').flatten.length = q0.length + QZ'.flatten.length := by simp
     have hM1r : Rising M1 := (qP.1 (hM ▸ hC2)).1
     have lout := qz5 k5
     have lmg := mgP_len QD.flatten C1
     have cut1 : cutB 0 (M1.length : Int) C2.length = some () := cutB_of ⟨by omega,by omega,by omega⟩
     have cut2 : cutB (M1.length : Int) (C2.length : Int) C2.length = some () := cutB_of ⟨by omega,by omega,by omega⟩
     have pp1 : qR1 C2 0 (M1.length : Int) = M1 := by rw [hM]; exact piece_pre M1 M2
     have pp2 : qR1 C2 (M1.length : Int) (C2.length : Int) = M2 := by rw [hM]; exact piece_suf M1 M2
     obtain ⟨R,hR,hRp,hstep⟩ : ∃ R,RowOk m L R (mgP q0 M1) ∧ (cs.length ≤ 1 → psi L R ≤ M1.length * (2 * (L + 1)) ∧ R.length ≤ 1 + M1.length) ∧ (cond (decide ((M1.length : Int) = 0)) (
        (fits (out.length + ([kidP z0]).length) 40).bind fun _ =>
        some (.inl (M2,d,m,(out ++ [kidP z0])))
       ) (
        (q40 n d (kidP z0).2.1 M1 m).bind fun x648 =>
        cond (decide (x648.2.1 ≠ 0)) (
         some (.inr ([],x648.2.1,x648.2.2.1,x648.2.2.2))
        ) (
         (fits (out.length + x648.1.length) 40).bind fun _ =>
         some (.inl (M2,x648.2.2.1,x648.2.2.2,(out ++ x648.1)))
        )
       ) : Option ((List Cg × (List Int) × Mem × List Pt) ⊕ (List Pt × Int × (List Int) × Mem))) = some (.inl (M2,d,m,out ++ R)) := by
      by_cases hM0 : M1 = []
      ·subst hM0
       refine ⟨[kidP z0],?_,fun _ => ⟨by rw [psi_one,kidP,psi_none]; omega,by simp⟩,?_⟩
       ·have e : mgP q0 [] = q0 := by rw [mgP]
        rw [e]
        refine qz3.2 ?_
        rw [kidP,PtOk]
        exact hz
       ·rw [q81 (by simp; omega)]
        rfl
      ·obtain ⟨R,r1,r2,r3,r4⟩ := ih L (d := d) (by omega) (by omega) hz.1 (qP.1 hqq).1 hM1r (by omega)
       have lR := qz5 r2
       have lmg2 := mgP_len q0 M1
       have : ¬ ((M1.length : Int) = 0) := by
        have := List.length_pos_iff.2 hM0
        omega
       refine ⟨R,r2,fun h1 => ?_,?_⟩
       ·have hm0 := List.length_pos_iff.2 hM0
        obtain ⟨p1,p2⟩ := r4 (by omega)
        have : 1 * (2 * (L + 1)) ≤ M1.length * (2 * (L + 1)) := Nat.mul_le_mul_right _ (by omega)
        exact ⟨by omega,by omega⟩
       simp only [this,zB,zD]
       rw [show (kidP z0).2.1 = z0.2 from rfl,r1]
       simp only [zA,ne_eq,zP,zB,zD]
       rw [q81 (by omega)]
       rfl
     refine ⟨(M2,(D.length : Int) + 1,d,m,out ++ R),?_,⟨D ++ [z0],Z',QD ++ [q0],QZ',C1 ++ M1,M2,out ++ R,by simp [k1],by simp [k2],hzs,by simp [k4,hM],by simp,?_,?_,?_,hend,fun h1 => ?_⟩,?_⟩
     ·simp only [hlt,zC,zE,g0,zA]
      rw [hmany]
      simp only [zA,cut1,cut2,pp1,pp2]
      rw [hstep]
      simp only [zA,zN,w1]
     ·have e : mgP (QD ++ [q0]).flatten (C1 ++ M1) = mgP QD.flatten C1 ++ mgP q0 M1 := by
       rw [show (QD ++ [q0]).flatten = QD.flatten ++ q0 by simp]
       refine mgP_split ?_ ?_ ?_ ?_
       ·have := hq'
        simp only [List.flatten_cons,← zI] at this
        exact (qP.1 this).1
       ·have := hc'
        rw [hM,← zI] at this
        exact (qP.1 this).1
       ·intro x hx y hy; exact k6 x hx y (by rw [hM]; simp [hy])
       ·intro x hx y hy; exact k7 x hx y (by simp [hy])
      rw [e]
      exact k5.app hR
     ·intro x hx y hy
      rw [show (QD ++ [q0]).flatten = QD.flatten ++ q0 by simp] at hx
      rcases zL.1 hx with hx | hx
      ·exact k6 x hx y (by rw [hM]; simp [hy])
      ·exact hM2 x hx y hy
     ·intro x hx y hy
      rcases zL.1 hx with hx | hx
      ·exact k7 x hx y (by rw [List.flatten_cons]; simp only [zL]; exact .inr hy)
      ·exact hM1 x hx y hy
     ·obtain ⟨n1,n2⟩ := k9 h1
      obtain ⟨n3,n4⟩ := hRp h1
      rw [psi_app]
      simp only [zF,Nat.add_mul,zG,zH]
      exact ⟨by omega,by omega⟩
     ·show ((ks.length : Int) - ((D.length : Int) + 1)).toNat < ((ks.length : Int) - (D.length : Int)).toNat
      omega
theorem edit_eq {m : Mem} {L : Nat} {b : Int} {q : List Pr} {cs : List Cg} {d : List Int} (hL : L < 16) (hT : Tr m L b q) (hq : Rising q) (hc : Rising cs) (hn : q.length + cs.length ≤ 1000000) :
  ∃ row,qm1 d b cs m = some (row,0,d,m) ∧ RowOk m L row (mgP q cs) ∧ qN2 row ∧ (cs.length ≤ 1 → psi L row ≤ 2 * (L + 1) ∧ row.length ≤ 2) := edit_n 16 L hL (by omega) hT hq hc hn
end Go.Val
namespace Go.Val
open Go.RowKit Go.Lib
theorem flat_size {α : Type} {R : α → List Pr → Prop} {c : Nat} (hR : ∀ a q,R a q → c ≤ q.length) {l : List α} {qs : List (List Pr)} (h : F2 R l qs) : l.length * c ≤ qs.flatten.length := by
 induction h with
 | nil => simp
 | cons h _ ih =>
  have := hR _ _ h
  simp only [zG,List.flatten_cons,zF,Nat.succ_mul]
  omega
theorem tr_size {m : Mem} : ∀ {L : Nat} {n : Int} {q : List Pr},Tr m L n q → ¬ fewN (ndOf m n) → 3 * 9 ^ L ≤ q.length
 | 0,n,q,h,hf => by
  rw [Tr] at h
  rw [h.2.1] at hf
  simp [fewN] at hf
  simpa using hf
 | L + 1,n,q,h,hf => by
  rw [Tr] at h
  obtain ⟨_,ks,h1,h2,h3,qs,h4,h5⟩ := h
  rw [h1] at hf
  have h0 : ¬ (((L + 1 : Nat) : Int) = 0) := by omega
  simp only [fewN,h0,if_false] at hf
  have := flat_size (c := 3 * 9 ^ L) (fun k q hk => tr_size hk.1 hk.2.1) h5
  rw [h4] at this
  have h9 : 9 * (3 * 9 ^ L) ≤ ks.length * (3 * 9 ^ L) := Nat.mul_le_mul_right _ (by omega)
  rw [Nat.pow_succ]
  omega
theorem ptOk_size {m : Mem} : ∀ {L : Nat} {p : Pt} {q : List Pr},PtOk m L p q → ¬ fewP p → 3 * 9 ^ L ≤ q.length
 | 0,(k,b,none),q,h,_ => by rw [PtOk] at h; exact tr_size h.1 h.2.1
 | L + 1,(k,b,none),q,h,_ => by rw [PtOk] at h; exact tr_size h.1 h.2.1
 | 0,(k,b,some (.mk l ps ks)),q,h,hf => by
  rw [PtOk] at h
  obtain ⟨rfl,rfl,rfl,_⟩ := h
  simp [fewP] at hf
  simpa using hf
 | L + 1,(k,b,some (.mk l ps ks)),q,h,hf => by
  rw [PtOk] at h
  obtain ⟨rfl,rfl,h2,h3,_,qs,h4,h5,h6⟩ := h
  have h0 : ¬ (((L + 1 : Nat) : Int) = 0) := by omega
  simp only [fewP,h0,if_false] at hf
  have h7 := h6 (by omega)
  have := flat_size (R := fun p q => p ∈ ks ∧ PtOk m L p q) (c := 3 * 9 ^ L) (fun p q hp => ptOk_size hp.2 (h7 p hp.1)) h5.withMem
  rw [h4] at this
  have h9 : 9 * (3 * 9 ^ L) ≤ ks.length * (3 * 9 ^ L) := Nat.mul_le_mul_right _ (by omega)
  rw [Nat.pow_succ]
  omega
theorem rowOk_size {m : Mem} {L : Nat} {row : List Pt} {q : List Pr} (h : RowOk m L row q) (hg : ∀ p ∈ row,¬ fewP p) : row.length * (3 * 9 ^ L) ≤ q.length := by
 obtain ⟨qs,h1,h2⟩ := h
 have := flat_size (R := fun p q => p ∈ row ∧ PtOk m L p q) (c := 3 * 9 ^ L) (fun p q hp => ptOk_size hp.2 (hg p hp.1)) h2.withMem
 rw [h1] at this
 exact this
theorem level_lt {m : Mem} {L : Nat} {row : List Pt} {q : List Pr} (h : RowOk m L row q) (hg : qN2 row) (h2 : 2 ≤ row.length) (hn : q.length ≤ 1000000) : L < 6 := by
 have h1 := rowOk_size h (hg h2)
 refine Nat.lt_of_not_le fun h6 => ?_
 have h9 : 9 ^ 6 ≤ 9 ^ L := Nat.pow_le_pow_right (by omega) h6
 have h3 : 2 * (3 * 9 ^ L) ≤ row.length * (3 * 9 ^ L) := Nat.mul_le_mul_right _ h2
 have : (9 : Nat) ^ 6 = 531441 := by decide
 omega
theorem top_eq {m : Mem} {L : Nat} {row : List Pt} {q : List Pr} (hr : RowOk m L row q) (hg : qN2 row) (hn : q.length ≤ 1000000) :
  (q = [] → ∃ p,qW2 (L : Int) row = some (p,false,0)) ∧ (q ≠ [] → ∃ p L',qW2 (L : Int) row = some (p,true,0) ∧ PtOk m L' p q ∧ (∀ l ps ks,p.2.2 = some (.mk l ps ks) → ks.length ≠ 1) ∧ (row.length ≤ 2 → frs L' p ≤ frsS L row + 1)) := by
 have h1 := q00 (V := (Int × List Pt)) (O := ((List Pt) ⊕ (Pt × Bool × Int))) (body := fun v57 =>
   cond (decide ((v57.2.length : Int) > 1)) (
    cond (decide ((IntKind.wrap .i64 (v57.1 + 1)) ≥ 12)) (
     some (.inr (.inr (((List.replicate 24 0),0,(none : Option Fr)),false,8)))
    ) (
     (qM0 (IntKind.wrap .i64 (v57.1 + 1)) v57.2).bind fun x68 =>
     some (.inl ((IntKind.wrap .i64 (v57.1 + 1)),x68))
    )
   ) (
    some (.inr (.inl v57.2))
   ))
  (fun v => ∃ L',v.1 = ((L' : Nat) : Int) ∧ RowOk m L' v.2 q ∧ qN2 v.2 ∧ (row.length ≤ 2 → (v.2.length ≤ 1 ∧ frsS L' v.2 ≤ frsS L row + 1) ∨ (v.2.length ≤ 2 ∧ frsS L' v.2 ≤ frsS L row))) (fun v => v.2.length) (fun o => ∃ L' r,o = .inl r ∧ RowOk m L' r q ∧ r.length ≤ 1 ∧ (row.length ≤ 2 → frsS L' r ≤ frsS L row + 1)) ?_ (v := ((L : Int),row)) ⟨L,rfl,hr,hg,fun h => .inr ⟨h,Nat.le_refl _⟩⟩
 ·obtain ⟨o,e1,L',r,e2,e3,e4,e5⟩ := h1
  unfold qW2
  rw [e1,e2]
  simp only [zA,zN]
  match r,e3,e4,e5 with
  | [],e3,_,_ =>
   have hq := qt5.1 e3
   exact ⟨fun _ => ⟨_,rfl⟩,fun h => absurd hq h⟩
  | [p],e3,_,e5 =>
   have hp := qz3.1 e3
   have e5' : row.length ≤ 2 → frs L' p ≤ frsS L row + 1 := fun h => by have := e5 h; rw [frsS_cons,frsS_nil] at this; omega
   have hne := hd_ne (ptOk_hd hp)
   refine ⟨fun h => absurd h hne,fun _ => ?_⟩
   have g0 : gx [p] 0 = some p := rfl
   have z : decide (((([p] : List Pt).length : Nat) : Int) = 0) = false := by simp
   simp only [z,zD,g0,zA]
   have h2 := q00 (V := Pt) (O := Pt) (body := fun v219 =>
     (((
      cond (Option.isSome v219.2.2) (
       (frOf v219.2.2).bind fun x235 =>
       some (decide ((x235.2.2.length : Int) = 1))
      ) (
       some false
      )
     ) : Option Bool)).bind fun o229 =>
     cond o229 (
      (frOf v219.2.2).bind fun x241 =>
      (gx x241.2.2 0).bind fun x244 =>
      some (.inl x244)
     ) (
      some (.inr v219)
     ))
    (fun v => ∃ L'',PtOk m L'' v q ∧ frs L'' v ≤ frs L' p) (fun v => SizeOf.sizeOf v) (fun o => ∃ L'',PtOk m L'' o q ∧ (∀ l ps ks,o.2.2 = some (.mk l ps ks) → ks.length ≠ 1) ∧ frs L'' o ≤ frs L' p) ?_ (v := p) ⟨L',hp,Nat.le_refl _⟩
   ·obtain ⟨o,f1,L'',f2,f3,f4⟩ := h2
    exact ⟨o,L'',by rw [f1]; rfl,f2,f3,fun h => Nat.le_trans f4 (e5' h)⟩
   ·rintro ⟨k,b,f⟩ ⟨L'',hv,hfr⟩
    match f with
    | none =>
     right
     exact ⟨(k,b,none),rfl,L'',hv,(fun l ps ks h => by cases h),hfr⟩
    | some (.mk l ps ks) =>
     by_cases hk : ks.length = 1
     ·left
      match ks,hk with
      | [k0],_ =>
       refine ⟨k0,rfl,?_,?_⟩
       ·match L'',hv,hfr with
        | 0,hv,_ => rw [PtOk] at hv; simp at hv
        | L3 + 1,hv,hfr =>
         rw [PtOk] at hv
         obtain ⟨_,_,_,_,_,qs,q1,q2,_⟩ := hv
         rw [frs] at hfr
         simp only [List.map_cons,List.map_nil,List.sum_cons,List.sum_nil] at hfr
         exact ⟨L3,qz3.1 ⟨qs,q1,q2⟩,by omega⟩
       ·obtain ⟨a,b',c⟩ := k0
        simp
        omega
     ·right
      refine ⟨(k,b,some (.mk l ps ks)),?_,L'',hv,fun l' ps' ks' h => ?_,hfr⟩
      ·have : ¬ ((ks.length : Int) = 1) := by omega
       simp only [Option.isSome_some,zE,frOf,zA,this,zB,zD]
      ·simp only [Option.some.injEq,Fr.mk.injEq] at h
       rw [← h.2.2]; exact hk
 ·rintro ⟨lv,r⟩ ⟨L',e1,e2,e3,e4⟩
  simp only at e1 e2 e3 e4
  subst e1
  have lr := qz5 e2
  by_cases h2 : r.length > 1
  ·left
   have hL := level_lt e2 e3 h2 hn
   have t1 : ((r.length : Int) > 1) := by omega
   have w : IntKind.wrap .i64 ((L' : Int) + 1) = ((L' + 1 : Nat) : Int) := by rw [w64 (by omega) (by omega)]; omega
   have t2 : ¬ (((L' + 1 : Nat) : Int) ≥ 12) := by omega
   obtain ⟨out,o1,o2,o3,o4,_,o6⟩ := nodes_psi e2 e3 (by omega)
   refine ⟨(((L' + 1 : Nat) : Int),out),?_,⟨L' + 1,rfl,o2,o3,fun h => .inl ?_⟩,by show out.length < r.length; omega⟩
   ·simp only [t1,zC,zE,w,t2,zB,zD]
    rw [o1]
    rfl
   ·have := e4 h
    exact ⟨by simp only; omega,by simp only; omega⟩
  ·right
   have t1 : ¬ ((r.length : Int) > 1) := by omega
   exact ⟨.inl r,by simp only [t1,zB,zD],L',r,rfl,e2,by omega,fun h => by have := e4 h; omega⟩
end Go.Val
namespace Go.Val
open Go.RowKit Go.Lib
theorem contains_eq {ps : List Pr} (hn : ps.length ≤ 1000000000) : ∃ b,qP0 ps = some b ∧ (b = false ↔ ∀ p ∈ ps,p.2.size ≤ 40) := by
 have h := q00 (V := Int) (O := (Unit ⊕ Int)) (body := fun v72 =>
   cond (decide (v72 < (ps.length : Int))) (
    (gx ps v72).bind fun x79 =>
    (q62 x79).bind fun x82 =>
    cond x82 (
     some (.inr (.inr v72))
    ) (
     some (.inl (IntKind.wrap .i64 (v72 + 1)))
    )
   ) (
    some (.inr (.inl ()))
   ))
  (fun v => ∃ A B,ps = A ++ B ∧ v = (A.length : Int) ∧ ∀ p ∈ A,p.2.size ≤ 40) (fun v => ((ps.length : Int) - v).toNat)
  (fun o => (o = .inl () ∧ ∀ p ∈ ps,p.2.size ≤ 40) ∨ ∃ i : Nat,o = .inr (i : Int) ∧ ¬ ∀ p ∈ ps,p.2.size ≤ 40) ?_ (v := 0) ⟨[],ps,rfl,rfl,fun p hp => by cases hp⟩
 ·obtain ⟨o,h1,h2⟩ := h
  unfold qP0 qL1
  rw [h1]
  rcases h2 with ⟨rfl,h2⟩ | ⟨i,rfl,h2⟩
  ·exact ⟨false,by simp,fun _ => h2,fun _ => rfl⟩
  ·refine ⟨true,by simp,by simp only [Bool.true_eq_false,false_iff]; exact h2⟩
 ·rintro v ⟨A,B,h1,rfl,h2⟩
  have hl : ps.length = A.length + B.length := by rw [h1]; simp
  match B with
  | [] =>
   right
   have t : ¬ ((A.length : Int) < (ps.length : Int)) := by simp at hl; omega
   rw [zJ] at h1
   exact ⟨.inl (),by simp only [t,zB,zD],.inl ⟨rfl,by rw [h1]; exact h2⟩⟩
  | p :: B' =>
   simp only [zG] at hl
   have t : ((A.length : Int) < (ps.length : Int)) := by omega
   have g0 : gx ps (A.length : Int) = some p := by rw [h1]; exact qB2 rfl
   by_cases hp : p.2.size ≤ 40
   ·left
    have : ¬ ((p.2.size : Int) > 40) := by omega
    refine ⟨(A.length : Int) + 1,?_,⟨A ++ [p],B',by simp [h1],by simp,?_⟩,by omega⟩
    ·simp only [t,zC,zE,g0,zA,q62,this,zB,zD]
     rw [w64 (by omega) (by omega)]
    ·intro x hx
     rcases zL.1 hx with hx | hx
     ·exact h2 x hx
     ·simp at hx; subst hx; exact hp
   ·right
    have : ((p.2.size : Int) > 40) := by omega
    refine ⟨.inr (A.length : Int),?_,.inr ⟨A.length,rfl,fun h => hp (h p (by rw [h1]; simp))⟩⟩
    simp only [t,zC,zE,g0,zA,q62,this]
theorem rises_loop {β : Type} {l : List (Ky × β)} (hn : l.length ≤ 1000000000) : ∃ b : Bool,((qN (V := Int) (O := (Unit ⊕ Bool)) (fun v117 =>
   cond (decide (v117 < (l.length : Int))) (
    (gx l (IntKind.wrap .i64 (v117 - 1))).bind fun x124 =>
    (some x124.1).bind fun x127 =>
    (gx l v117).bind fun x130 =>
    (some x130.1).bind fun x133 =>
    (q60 x127 x133).bind fun x136 =>
    cond (decide (x136 ≥ 0)) (
     some (.inr (.inr false))
    ) (
     some (.inl (IntKind.wrap .i64 (v117 + 1)))
    )
   ) (
    some (.inr (.inl ()))
   )
  ) 1).bind fun o70 =>
 Sum.elim (fun (v143 : Unit) =>
  some true
 ) (fun w146 =>
  some w146
 ) o70) = some b ∧ (b = true ↔ Rising l) := by
 match l with
 | [] =>
  refine ⟨true,?_,by simp [Rising,Asc]⟩
  rw [qI]
  simp
 | x0 :: l' =>
  have h := q00 (V := Int) (O := (Unit ⊕ Bool)) (body := fun v117 =>
   cond (decide (v117 < ((x0 :: l').length : Int))) (
    (gx (x0 :: l') (IntKind.wrap .i64 (v117 - 1))).bind fun x124 =>
    (some x124.1).bind fun x127 =>
    (gx (x0 :: l') v117).bind fun x130 =>
    (some x130.1).bind fun x133 =>
    (q60 x127 x133).bind fun x136 =>
    cond (decide (x136 ≥ 0)) (
     some (.inr (.inr false))
    ) (
     some (.inl (IntKind.wrap .i64 (v117 + 1)))
    )
   ) (
    some (.inr (.inl ()))
   ))
   (fun v => ∃ A x B,x0 :: l' = A ++ x :: B ∧ v = (A.length : Int) + 1 ∧ Rising (A ++ [x])) (fun v => (((x0 :: l').length : Int) - v).toNat)
   (fun o => (o = .inl () ∧ Rising (x0 :: l')) ∨ (o = .inr false ∧ ¬ Rising (x0 :: l'))) ?_ (v := 1) ⟨[],x0,l',rfl,rfl,by simp [Rising,Asc]⟩
  ·obtain ⟨o,h1,h2⟩ := h
   rw [h1]
   rcases h2 with ⟨rfl,h2⟩ | ⟨rfl,h2⟩
   ·exact ⟨true,rfl,by simp; exact h2⟩
   ·exact ⟨false,rfl,by simp only [Bool.false_eq_true,false_iff]; exact h2⟩
  ·rintro v ⟨A,x,B,h1,rfl,h2⟩
   have hl : (x0 :: l').length = A.length + B.length + 1 := by rw [h1]; simp; omega
   match B with
   | [] =>
    right
    have t : ¬ ((A.length : Int) + 1 < ((x0 :: l').length : Int)) := by simp at hl ⊢; omega
    exact ⟨.inl (),by simp only [t,zB,zD],.inl ⟨rfl,by rw [h1]; exact h2⟩⟩
   | y :: B' =>
    rw [zG (a := y)] at hl
    have t : ((A.length : Int) + 1 < ((x0 :: l').length : Int)) := by omega
    have g0 : gx (x0 :: l') (IntKind.wrap .i64 ((A.length : Int) + 1 - 1)) = some x := by
     rw [w64 (by omega) (by omega),h1]; exact qB2 (by omega)
    have g1 : gx (x0 :: l') ((A.length : Int) + 1) = some y := by
     rw [h1,show A ++ x :: y :: B' = (A ++ [x]) ++ y :: B' by simp]; exact qB2 (by simp)
    by_cases hc : compareBytes x.1 y.1 < 0
    ·left
     have hc' : ¬ compareBytes x.1 y.1 ≥ 0 := by omega
     refine ⟨(A.length : Int) + 1 + 1,?_,⟨A ++ [x],y,B',by simp [h1],by simp,?_⟩,by omega⟩
     ·simp only [t,zC,zE,g0,g1,zA,q60,hc',zB,zD]
      rw [w64 (by omega) (by omega)]
     ·refine qP.2 ⟨h2,by simp [Rising,Asc],fun a ha b hb => ?_⟩
      simp at hb; subst hb
      rcases zL.1 ha with ha | ha
      ·exact lt_trans ((qP.1 h2).2.2 a ha x (by simp)) hc
      ·simp at ha; subst ha; exact hc
    ·right
     have hc' : compareBytes x.1 y.1 ≥ 0 := by omega
     refine ⟨.inr false,?_,.inr ⟨rfl,fun hr => ?_⟩⟩
     ·simp only [t,zC,zE,g0,g1,zA,q60,hc']
     ·rw [h1] at hr
      have := (qx0.1 (qP.1 hr).2.1).1 y (by simp)
      exact hc this
theorem risesP_eq {l : List Pr} (hn : l.length ≤ 1000000000) : ∃ b,qJ3 l = some b ∧ (b = true ↔ Rising l) := rises_loop hn
theorem risesK_eq {l : List Kd} (hn : l.length ≤ 1000000000) : ∃ b,qH3 l = some b ∧ (b = true ↔ Rising l) := rises_loop hn
end Go.Val
namespace Go.Val
open Go.RowKit Go.Lib
def KidsOk (ks : List Kd) : Prop := (∀ k ∈ ks,2 ≤ k.2 ∧ k.2 ≤ 4294967295) ∧ (ks.map (·.2)).Nodup
def RightN (x : Nd) : Prop := 0 ≤ x.1 ∧ x.1 < 12 ∧ (x.1 = 0 → 1 ≤ x.2.1.length ∧ x.2.1.length ≤ 7 ∧ x.2.2.length = 0) ∧ (0 < x.1 → 2 ≤ x.2.2.length ∧ x.2.2.length ≤ 18 ∧ x.2.1.length = 0) ∧ (∀ p ∈ x.2.1,p.2.size ≤ 40) ∧ KidsOk x.2.2 ∧ Rising x.2.1 ∧ Rising x.2.2
theorem kids_loop {ks : List Kd} (hn : ks.length ≤ 1000000000) : (qN (V := (Int × (List (Int × Bool)))) (O := (Unit ⊕ Bool)) (fun v208 =>
       cond (decide (v208.1 < (ks.length : Int))) (
        (gx ks v208.1).bind fun x215 =>
        (((
         cond (decide (x215.2 < 2)) (
          some true
         ) (
          cond (decide (x215.2 > 4294967295)) (
           some true
          ) (
           some ((mget v208.2 x215.2).getD false)
          )
         )
        ) : Option Bool)).bind fun o224 =>
        cond o224 (
         some (.inr (.inr false))
        ) (
         some (.inl ((IntKind.wrap .i64 (v208.1 + 1)),(mset v208.2 x215.2 true)))
        )
       ) (
        some (.inr (.inl ()))
       )
      ) (0,[]) = some (.inl ()) ∧ KidsOk ks) ∨ (qN (V := (Int × (List (Int × Bool)))) (O := (Unit ⊕ Bool)) (fun v208 =>
       cond (decide (v208.1 < (ks.length : Int))) (
        (gx ks v208.1).bind fun x215 =>
        (((
         cond (decide (x215.2 < 2)) (
          some true
         ) (
          cond (decide (x215.2 > 4294967295)) (
           some true
          ) (
           some ((mget v208.2 x215.2).getD false)
          )
         )
        ) : Option Bool)).bind fun o224 =>
        cond o224 (
         some (.inr (.inr false))
        ) (
         some (.inl ((IntKind.wrap .i64 (v208.1 + 1)),(mset v208.2 x215.2 true)))
        )
       ) (
        some (.inr (.inl ()))
       )
      ) (0,[]) = some (.inr false) ∧ ¬ KidsOk ks) := by
 have h := q00 (V := (Int × (List (Int × Bool)))) (O := (Unit ⊕ Bool)) (body := fun v208 =>
       cond (decide (v208.1 < (ks.length : Int))) (
        (gx ks v208.1).bind fun x215 =>
        (((
         cond (decide (x215.2 < 2)) (
          some true
         ) (
          cond (decide (x215.2 > 4294967295)) (
           some true
          ) (
           some ((mget v208.2 x215.2).getD false)
          )
         )
        ) : Option Bool)).bind fun o224 =>
        cond o224 (
         some (.inr (.inr false))
        ) (
         some (.inl ((IntKind.wrap .i64 (v208.1 + 1)),(mset v208.2 x215.2 true)))
        )
       ) (
        some (.inr (.inl ()))
       ))
  (fun v => ∃ A B,ks = A ++ B ∧ v.1 = (A.length : Int) ∧ (∀ n,(mget v.2 n).getD false = decide (n ∈ A.map (·.2))) ∧ KidsOk A) (fun v => ((ks.length : Int) - v.1).toNat)
  (fun o => (o = .inl () ∧ KidsOk ks) ∨ (o = .inr false ∧ ¬ KidsOk ks)) ?_ (v := (0,[])) ⟨[],ks,rfl,rfl,fun n => by simp [qs2],⟨(fun k hk => nomatch hk),by simp⟩⟩
 ·obtain ⟨o,h1,h2⟩ := h
  rw [h1]
  rcases h2 with ⟨rfl,h2⟩ | ⟨rfl,h2⟩
  ·exact .inl ⟨rfl,h2⟩
  ·exact .inr ⟨rfl,h2⟩
 ·rintro ⟨i,s⟩ ⟨A,B,h1,h2,h3,h4⟩
  simp only at h2 h3
  subst h2
  have hl : ks.length = A.length + B.length := by rw [h1]; simp
  match B with
  | [] =>
   right
   have t : ¬ ((A.length : Int) < (ks.length : Int)) := by simp at hl; omega
   rw [zJ] at h1
   exact ⟨.inl (),by simp only [t,zB,zD],.inl ⟨rfl,by rw [h1]; exact h4⟩⟩
  | k :: B' =>
   simp only [zG] at hl
   have t : ((A.length : Int) < (ks.length : Int)) := by omega
   have g0 : gx ks (A.length : Int) = some k := by rw [h1]; exact qB2 rfl
   by_cases hbad : k.2 < 2 ∨ k.2 > 4294967295 ∨ k.2 ∈ A.map (·.2)
   ·right
    refine ⟨.inr false,?_,.inr ⟨rfl,fun hk => ?_⟩⟩
    ·simp only [t,zC,zE,g0,zA]
     by_cases b1 : k.2 < 2
     ·simp only [b1,zC,zE,zA]
     ·by_cases b2 : k.2 > 4294967295
      ·simp only [b1,b2,zC,zB,zE,zD,zA]
      ·have b3 : k.2 ∈ A.map (·.2) := by rcases hbad with h | h | h <;> first | exact h | omega
       simp only [b1,b2,zB,zD,zA,h3,b3,zC,zE]
    ·rw [h1] at hk
     obtain ⟨c1,c2⟩ := hk
     have := c1 k (by simp)
     rcases hbad with h | h | h
     ·omega
     ·omega
     ·rw [List.map_append,List.nodup_append] at c2
      exact c2.2.2 _ h _ (by simp) rfl
   ·left
    have b1 : ¬ k.2 < 2 := fun h => hbad (.inl h)
    have b2 : ¬ k.2 > 4294967295 := fun h => hbad (.inr (.inl h))
    have b3 : ¬ k.2 ∈ A.map (·.2) := fun h => hbad (.inr (.inr h))
    refine ⟨((A.length : Int) + 1,mset s k.2 true),?_,⟨A ++ [k],B',by simp [h1],by simp,fun n => ?_,?_,?_⟩,by show ((ks.length : Int) - ((A.length : Int) + 1)).toNat < ((ks.length : Int) - (A.length : Int)).toNat; omega⟩
    ·simp only [t,zC,zE,g0,zA,b1,b2,zB,zD,h3,b3]
     rw [w64 (by omega) (by omega)]
    ·show (mget (mset s k.2 true) n).getD false = _
     rw [qX1]
     by_cases hnk : n = k.2
     ·rw [if_pos hnk]; simp [hnk]
     ·rw [if_neg hnk,h3,List.map_append]
      simp [hnk]
    ·intro x hx
     rcases zL.1 hx with hx | hx
     ·exact h4.1 x hx
     ·simp at hx; subst hx; exact ⟨by omega,by omega⟩
    ·rw [List.map_append,List.nodup_append]
     refine ⟨h4.2,by simp,fun a ha b hb => ?_⟩
     simp at hb
     rintro rfl
     exact b3 (hb ▸ ha)
theorem right_eq {x : Nd} (h1 : x.2.1.length ≤ 1000000000) (h2 : x.2.2.length ≤ 1000000000) : ∃ b,ql2 x = some b ∧ (b = true ↔ RightN x) := by
 obtain ⟨l,ps,ks⟩ := x
 simp only at h1 h2
 unfold ql2
 by_cases a1 : l < 0
 ·exact ⟨false,by simp [a1],by simp only [Bool.false_eq_true,false_iff]; exact fun h => absurd h.1 (by simp only; omega)⟩
 by_cases a2 : l ≥ 12
 ·exact ⟨false,by simp [a1,a2],by simp only [Bool.false_eq_true,false_iff]; exact fun h => absurd h.2.1 (by simp only; omega)⟩
 simp only [a1,a2,zB,zD,zA]
 by_cases a3 : l = 0 ∧ ¬ (1 ≤ ps.length ∧ ps.length ≤ 7 ∧ ks.length = 0)
 ·refine ⟨false,?_,by simp only [Bool.false_eq_true,false_iff]; exact fun h => a3.2 (h.2.2.1 a3.1)⟩
  simp only [a3.1,zC,zE]
  by_cases b1 : (ps.length : Int) < 1
  ·simp only [b1,zC,zE,zA]
  ·by_cases b2 : (ps.length : Int) > 7
   ·simp only [b1,b2,zC,zB,zE,zD,zA]
   ·have b3 : (ks.length : Int) > 0 := by have := a3.2; omega
    simp only [b1,b2,b3,zC,zB,zE,zD,zA]
 have e3 : (cond (decide (l = 0)) (
    cond (decide ((ps.length : Int) < 1)) (
     some true
    ) (
     cond (decide ((ps.length : Int) > 7)) (
      some true
     ) (
      some (decide ((ks.length : Int) > 0))
     )
    )
   ) (
    some false
   ) : Option Bool) = some false := by
  by_cases hl : l = 0
  ·have := a3
   have h5 : 1 ≤ ps.length ∧ ps.length ≤ 7 ∧ ks.length = 0 := Classical.byContradiction fun h => a3 ⟨hl,h⟩
   have b1 : ¬ (ps.length : Int) < 1 := by omega
   have b2 : ¬ (ps.length : Int) > 7 := by omega
   have b3 : ¬ (ks.length : Int) > 0 := by omega
   simp only [hl,b1,b2,b3,zC,zB,zE,zD]
  ·simp only [hl,zB,zD]
 rw [e3]
 simp only [zA,zD]
 by_cases a4 : l > 0 ∧ ¬ (2 ≤ ks.length ∧ ks.length ≤ 18 ∧ ps.length = 0)
 ·refine ⟨false,?_,by simp only [Bool.false_eq_true,false_iff]; exact fun h => a4.2 (h.2.2.2.1 a4.1)⟩
  simp only [a4.1,zC,zE]
  by_cases b1 : (ks.length : Int) < 2
  ·simp only [b1,zC,zE,zA]
  ·by_cases b2 : (ks.length : Int) > 18
   ·simp only [b1,b2,zC,zB,zE,zD,zA]
   ·have b3 : (ps.length : Int) > 0 := by have := a4.2; omega
    simp only [b1,b2,b3,zC,zB,zE,zD,zA]
 have e4 : (cond (decide (l > 0)) (
     cond (decide ((ks.length : Int) < 2)) (
      some true
     ) (
      cond (decide ((ks.length : Int) > 18)) (
       some true
      ) (
       some (decide ((ps.length : Int) > 0))
      )
     )
    ) (
     some false
    ) : Option Bool) = some false := by
  by_cases hl : l > 0
  ·have h5 : 2 ≤ ks.length ∧ ks.length ≤ 18 ∧ ps.length = 0 := Classical.byContradiction fun h => a4 ⟨hl,h⟩
   have b1 : ¬ (ks.length : Int) < 2 := by omega
   have b2 : ¬ (ks.length : Int) > 18 := by omega
   have b3 : ¬ (ps.length : Int) > 0 := by omega
   simp only [hl,b1,b2,b3,zC,zB,zE,zD]
  ·simp only [hl,zB,zD]
 rw [e4]
 simp only [zA,zD]
 obtain ⟨b,c1,c2⟩ := contains_eq h1
 rw [c1]
 simp only [zA]
 cases b with
 | true => exact ⟨false,rfl,by simp only [Bool.false_eq_true,false_iff]; exact fun h => by have := c2.2 h.2.2.2.2.1; cases this⟩
 | false =>
  simp only [zD]
  have hv := c2.1 rfl
  rcases kids_loop h2 with ⟨k1,k2⟩ | ⟨k1,k2⟩
  ·rw [k1]
   simp only [zA,zN]
   obtain ⟨r1,d1,d2⟩ := risesP_eq h1
   obtain ⟨r2,f1,f2⟩ := risesK_eq h2
   rw [d1,f1]
   refine ⟨r1 && r2,by cases r1 <;> cases r2 <;> rfl,?_⟩
   rw [Bool.and_eq_true,d2,f2]
   constructor
   ·rintro ⟨p1,p2⟩
    exact ⟨by simp only; omega,by simp only; omega,fun h => Classical.byContradiction fun h' => a3 ⟨h,h'⟩,fun h => Classical.byContradiction fun h' => a4 ⟨h,h'⟩,hv,k2,p1,p2⟩
   ·rintro ⟨_,_,_,_,_,_,p1,p2⟩
    exact ⟨p1,p2⟩
  ·rw [k1]
   simp only [zA,zO]
   exact ⟨false,rfl,by simp only [Bool.false_eq_true,false_iff]; exact fun h => k2 h.2.2.2.2.2.1⟩
end Go.Val
namespace Go.Val
open Go.RowKit Go.Lib
theorem q06 {α : Type} [DecidableEq α] : ∀ {l r : List α},l.Nodup → (∀ x ∈ l,x ∈ r) → l.length ≤ r.length
 | [],r,_,_ => by simp
 | x :: l,r,h,hs => by
  obtain ⟨h1,h2⟩ := List.nodup_cons.1 h
  have hx := hs x (by simp)
  have := q06 (l := l) (r := r.erase x) h2 fun y hy => by
   have hne : y ≠ x := fun e => h1 (e ▸ hy)
   exact (List.mem_erase_of_ne hne).2 (hs y (by simp [hy]))
  rw [List.length_erase_of_mem hx] at this
  have h0 : 0 < r.length := List.length_pos_of_mem hx
  simp
  omega
structure WfM (K : Int) (m : Mem) : Prop where
 blk : 2 ≤ m.1.1 ∧ m.1.1 ≤ 1048578
 low : 2 ≤ m.1.2.2 ∧ m.1.2.2 ≤ m.1.1
 full : ∀ n,2 ≤ n → n < m.1.2.2 → cnt m n ≠ 0
 nodup : (m.1.2.1.map (·.1)).Nodup
 pos : ∀ n c,mget m.1.2.1 n = some c → 1 ≤ c ∧ c ≤ K ∧ 2 ≤ n ∧ n < m.1.1
theorem WfM.free {K : Int} {m : Mem} (h : WfM K m) (hf : (m.1.2.1.length : Int) < m.1.1 - 2) : ∃ n : Int,m.1.2.2 ≤ n ∧ n < m.1.1 ∧ cnt m n = 0 := by
 refine Classical.byContradiction fun hc => ?_
 have hall : ∀ n : Int,2 ≤ n → n < m.1.1 → cnt m n ≠ 0 := fun n h1 h2 h0 => by
  by_cases hl : n < m.1.2.2
  ·exact h.full n h1 hl h0
  ·exact hc ⟨n,by omega,h2,h0⟩
 have hb := h.blk
 have hsub := q06 (l := (List.range (m.1.1 - 2).toNat).map fun (i : Nat) => (i : Int) + 2) (r := m.1.2.1.map (·.1)) (by
  show List.Pairwise _ _
  rw [List.pairwise_map]
  exact List.Pairwise.imp (fun hne => by omega) (List.nodup_range (n := (m.1.1 - 2).toNat))) (fun x hx => by
  obtain ⟨i,hi,rfl⟩ := List.mem_map.1 hx
  have hi := List.mem_range.1 hi
  have h0 := hall ((i : Int) + 2) (by omega) (by omega)
  refine Classical.byContradiction fun hn => h0 ?_
  unfold cnt
  rw [qH2.2 hn]; rfl)
 simp at hsub
 omega
theorem take_eq {K : Int} {m : Mem} (h : WfM K m) (hf : (m.1.2.1.length : Int) < m.1.1 - 2) :
  ∃ n : Int,qe1 m.1 = some (n,true,(m.1.1,mset m.1.2.1 n 1,n + 1)) ∧ cnt m n = 0 ∧ m.1.2.2 ≤ n ∧ n < m.1.1 ∧ ∀ j,m.1.2.2 ≤ j → j < n → cnt m j ≠ 0 := by
 obtain ⟨n0,f1,f2,f3⟩ := h.free hf
 have hb := h.blk
 have hlo := h.low
 obtain ⟨⟨bl,cs,lo⟩,nd⟩ := m
 simp only at hb hlo f1 f2 hf
 have hw := q00 (V := (Int × (List (Int × Int)) × Int)) (O := ((Int × (List (Int × Int)) × Int) ⊕ (Int × Bool × (Int × (List (Int × Int)) × Int)))) (body := fun v42 =>
   cond (decide (v42.2.2 < v42.1)) (
    cond (decide (((mget v42.2.1 v42.2.2).getD 0) = 0)) (
     some (.inr (.inr (v42.2.2,true,(v42.1,(mset v42.2.1 v42.2.2 1),(IntKind.wrap .i64 (v42.2.2 + 1))))))
    ) (
     some (.inl (v42.1,v42.2.1,(IntKind.wrap .i64 (v42.2.2 + 1))))
    )
   ) (
    some (.inr (.inl (v42.1,v42.2.1,v42.2.2)))
   ))
  (fun v => ∃ j,v = (bl,cs,j) ∧ lo ≤ j ∧ j ≤ n0 ∧ ∀ i,lo ≤ i → i < j → (mget cs i).getD 0 ≠ 0) (fun v => (n0 - v.2.2).toNat)
  (fun o => ∃ n,o = .inr (n,true,(bl,mset cs n 1,n + 1)) ∧ (mget cs n).getD 0 = 0 ∧ lo ≤ n ∧ n < bl ∧ ∀ j,lo ≤ j → j < n → (mget cs j).getD 0 ≠ 0) ?_ (v := (bl,cs,lo)) ⟨lo,rfl,by omega,f1,fun i h1 h2 => by omega⟩
 ·obtain ⟨o,h1,n,h2,h3⟩ := hw
  refine ⟨n,?_,h3⟩
  unfold qe1
  rw [h1,h2]
  rfl
 ·rintro v ⟨j,rfl,g1,g2,g3⟩
  have t : j < bl := by omega
  by_cases h0 : (mget cs j).getD 0 = 0
  ·right
   refine ⟨_,?_,j,rfl,h0,g1,t,g3⟩
   simp only [t,h0,zC,zE]
   rw [w64 (by omega) (by omega)]
  ·left
   have hne : j ≠ n0 := fun e => h0 (by rw [e]; exact f3)
   refine ⟨(bl,cs,j + 1),?_,⟨j + 1,rfl,by omega,by omega,fun i h1 h2 => ?_⟩,by show (n0 - (j + 1)).toNat < (n0 - j).toNat; omega⟩
   ·simp only [t,h0,zC,zB,zE,zD]
    rw [w64 (by omega) (by omega)]
   ·by_cases hi : i < j
    ·exact g3 i h1 hi
    ·rw [show i = j by omega]; exact h0
end Go.Val
namespace Go.Val
open Go.RowKit Go.Lib
def incM (m : Mem) (n : Int) : Mem := ((m.1.1,mset m.1.2.1 n (cnt m n + 1),m.1.2.2),m.2)
def putM (m : Mem) (n : Int) (x : Nd) : Mem := ((m.1.1,mset m.1.2.1 n 1,n + 1),mset m.2 n x)
theorem mset_len {m : List (Int × Int)} {k v : Int} (h : k ∈ m.map (·.1)) : (mset m k v).length = m.length := by
 have := congrArg List.length (q74 m k v)
 rw [if_pos h] at this
 simpa using this
theorem mset_len_new {m : List (Int × Int)} {k v : Int} (h : k ∉ m.map (·.1)) : (mset m k v).length = m.length + 1 := by
 have := congrArg List.length (q74 m k v)
 rw [if_neg h] at this
 simpa using this
theorem qm2 {m : Mem} {n : Int} (h : cnt m n ≠ 0) : n ∈ m.1.2.1.map (·.1) ∧ mget m.1.2.1 n = some (cnt m n) := by
 unfold cnt at *
 cases hm : mget m.1.2.1 n with
 | none => rw [hm] at h; exact absurd rfl h
 | some c => exact ⟨qq1.1 (by rw [hm]; rfl),rfl⟩
theorem cnt_not {K : Int} {m : Mem} (h : WfM K m) {n : Int} (h0 : cnt m n = 0) : n ∉ m.1.2.1.map (·.1) := fun hm => by
 obtain ⟨c,hc⟩ := Option.isSome_iff_exists.1 (qq1.2 hm)
 have := (h.pos n c hc).1
 unfold cnt at h0
 rw [hc] at h0
 simp at h0
 omega
theorem ql5 (m : Mem) (n k : Int) : cnt (incM m n) k = if k = n then cnt m n + 1 else cnt m k := by
 unfold cnt incM
 simp only [qX1]
 split <;> rfl
theorem qO4 (m : Mem) (n k : Int) (x : Nd) : cnt (putM m n x) k = if k = n then 1 else cnt m k := by
 unfold cnt putM
 simp only [qX1]
 split <;> rfl
theorem nd_put (m : Mem) (n k : Int) (x : Nd) : ndOf (putM m n x) k = if k = n then x else ndOf m k := by
 unfold ndOf putM
 simp only [qX1]
 split <;> rfl
theorem inc_eq {K : Int} {m : Mem} {n : Int} (h : WfM K m) (hK : K ≤ 1000000000000) (hn : cnt m n ≠ 0) : q30 m n = some (0,incM m n) ∧ WfM (K + 1) (incM m n) := by
 obtain ⟨h1,h2⟩ := qm2 hn
 obtain ⟨p1,p2,p3,p4⟩ := h.pos n _ h2
 have t1 : ¬ n < 2 := by omega
 have t2 : ¬ n ≥ m.1.1 := by omega
 refine ⟨?_,?_⟩
 ·unfold q30 qN1 qQ0 qE1
  have hc : (mget m.1.2.1 n).getD 0 = cnt m n := rfl
  simp only [t1,t2,zB,zD,zA,zE,hc,hn]
  rw [w64 (by omega) (by omega)]
  rfl
 ·refine ⟨h.blk,h.low,fun k k1 k2 => ?_,qP2 h.nodup _ _,fun k c hk => ?_⟩
  ·rw [ql5]
   split
   ·omega
   ·exact h.full k k1 k2
  ·have hk' : mget (mset m.1.2.1 n (cnt m n + 1)) k = some c := hk
   rw [qX1] at hk'
   by_cases e : k = n
   ·rw [if_pos e] at hk'
    have := zQ hk'
    subst e
    exact ⟨by omega,by omega,p3,p4⟩
   ·rw [if_neg e] at hk'
    obtain ⟨a,b,c1,d⟩ := h.pos k c hk'
    exact ⟨a,by omega,c1,d⟩
theorem put_eq {K : Int} {m : Mem} {x : Nd} (h : WfM K m) (hK : 1 ≤ K) (hx : RightN x) (h1 : x.2.1.length ≤ 1000000000) (h2 : x.2.2.length ≤ 1000000000) (hf : (m.1.2.1.length : Int) < m.1.1 - 2) :
  ∃ n : Int,qi0 m x = some (n,0,putM m n x) ∧ cnt m n = 0 ∧ 2 ≤ n ∧ n < m.1.1 ∧ WfM K (putM m n x) := by
 obtain ⟨b,e1,e2⟩ := right_eq h1 h2
 have hb := e2.2 hx
 subst hb
 obtain ⟨n,t1,t2,t3,t4,t5⟩ := take_eq h hf
 have hlo := h.low
 refine ⟨n,?_,t2,by omega,t4,?_⟩
 ·unfold qi0
  rw [e1]
  simp only [zA,Bool.not_true,zD]
  rw [t1]
  simp only [zA,Bool.not_true,zD]
  rw [own_eq h1 h2]
  rfl
 ·refine ⟨h.blk,⟨by show 2 ≤ n + 1; omega,by show n + 1 ≤ m.1.1; omega⟩,fun k k1 k2 => ?_,qP2 h.nodup _ _,fun k c hk => ?_⟩
  ·have k2' : k < n + 1 := k2
   rw [qO4]
   split
   ·omega
   ·by_cases hl : k < m.1.2.2
    ·exact h.full k k1 hl
    ·exact t5 k (by omega) (by omega)
  ·have hk' : mget (mset m.1.2.1 n 1) k = some c := hk
   rw [qX1] at hk'
   by_cases e : k = n
   ·rw [if_pos e] at hk'
    have := zQ hk'
    subst e
    exact ⟨by omega,by omega,by omega,t4⟩
   ·rw [if_neg e] at hk'
    exact h.pos k c hk'
end Go.Val
namespace Go.Val
open Go.RowKit Go.Lib
def Grow (m m' : Mem) : Prop := ∀ n,cnt m n ≠ 0 → cnt m' n ≠ 0 ∧ ndOf m' n = ndOf m n
theorem Grow.refl (m : Mem) : Grow m m := fun n h => ⟨h,rfl⟩
theorem Grow.trans {a b c : Mem} (h : Grow a b) (k : Grow b c) : Grow a c := fun n hn => by
 obtain ⟨h1,h2⟩ := h n hn
 obtain ⟨k1,k2⟩ := k n h1
 exact ⟨k1,k2.trans h2⟩
theorem Tr.ext {m m' : Mem} (h : Grow m m') : ∀ {L : Nat} {n : Int} {q : List Pr},Tr m L n q → Tr m' L n q
 | 0,n,q,ht => by
  rw [Tr] at ht ⊢
  obtain ⟨h1,h2⟩ := h n ht.1
  rw [h2]
  exact ⟨h1,ht.2⟩
 | L + 1,n,q,ht => by
  rw [Tr] at ht ⊢
  obtain ⟨h1,h2⟩ := h n ht.1
  obtain ⟨_,ks,k1,k2,k3,qs,k4,k5⟩ := ht
  rw [h2]
  refine ⟨h1,ks,k1,k2,k3,qs,k4,k5.imp fun k q hk => ?_⟩
  obtain ⟨_,g2⟩ := h k.2 (qZ2 hk.1)
  exact ⟨Tr.ext h hk.1,by rw [g2]; exact hk.2.1,hk.2.2⟩
theorem PtOk.ext {m m' : Mem} (h : Grow m m') : ∀ {L : Nat} {p : Pt} {q : List Pr},PtOk m L p q → PtOk m' L p q
 | 0,(k,b,none),q,hp => by
  rw [PtOk] at hp ⊢
  obtain ⟨_,g2⟩ := h b (qZ2 hp.1)
  exact ⟨Tr.ext h hp.1,by rw [g2]; exact hp.2.1,hp.2.2⟩
 | L + 1,(k,b,none),q,hp => by
  rw [PtOk] at hp ⊢
  obtain ⟨_,g2⟩ := h b (qZ2 hp.1)
  exact ⟨Tr.ext h hp.1,by rw [g2]; exact hp.2.1,hp.2.2⟩
 | 0,(k,b,some (.mk l ps ks)),q,hp => by
  rw [PtOk] at hp ⊢
  exact hp
 | L + 1,(k,b,some (.mk l ps ks)),q,hp => by
  rw [PtOk] at hp ⊢
  obtain ⟨h1,h2,h3,h4,h5,qs,h6,h7,h8⟩ := hp
  exact ⟨h1,h2,h3,h4,h5,qs,h6,h7.imp fun p q hpq => PtOk.ext h hpq,h8⟩
theorem ext_inc {m : Mem} {n : Int} (hn : cnt m n ≠ 0) (hp : 1 ≤ cnt m n) : Grow m (incM m n) := fun k hk => by
 refine ⟨?_,rfl⟩
 rw [ql5]
 split
 ·omega
 ·exact hk
theorem ext_put {m : Mem} {n : Int} {x : Nd} (hn : cnt m n = 0) : Grow m (putM m n x) := fun k hk => by
 have : k ≠ n := fun e => hk (e ▸ hn)
 rw [qO4,nd_put,if_neg this,if_neg this]
 exact ⟨hk,rfl⟩
theorem tr_unique {m : Mem} : ∀ {L : Nat} {n : Int} {q q' : List Pr},Tr m L n q → Tr m L n q' → q = q'
 | 0,n,q,q',h,h' => by
  rw [Tr] at h h'
  have := h.2.1.symm.trans h'.2.1
  simp at this
  exact this
 | L + 1,n,q,q',h,h' => by
  rw [Tr] at h h'
  obtain ⟨_,ks,a1,_,_,qs,a2,a3⟩ := h
  obtain ⟨_,ks',b1,_,_,qs',b2,b3⟩ := h'
  have e : ks = ks' := by
   have := a1.symm.trans b1
   simp at this
   exact this
  subst e
  have key : ∀ {ks : List Kd} {qs qs' : List (List Pr)},F2 (fun k q => Tr m L k.2 q ∧ ¬ fewN (ndOf m k.2) ∧ hd q = some k.1) ks qs → F2 (fun k q => Tr m L k.2 q ∧ ¬ fewN (ndOf m k.2) ∧ hd q = some k.1) ks qs' → qs = qs' := by
   intro ks qs qs' h h'
   induction h generalizing qs' with
   | nil => cases h'; rfl
   | cons h hs ih =>
    cases h' with
    | cons k hks => rw [tr_unique h.1 k.1,ih hks]
  rw [← a2,← b2,key a3 b3]
end Go.Val
namespace Go.Val
open Go.RowKit Go.Lib
def q12 (x : Nd) : List Int := x.2.2.map (·.2)
def inK (m : Mem) (bs : List Int) (n : Int) : Nat := (bs.map fun b => (q12 (ndOf m b)).count n).sum
def RC (m : Mem) (R : List Int) : Prop := ∀ n,cnt m n = ((R.count n + inK m (m.1.2.1.map (·.1)) n : Nat) : Int)
theorem inK_app (m : Mem) (a b : List Int) (n : Int) : inK m (a ++ b) n = inK m a n + inK m b n := by simp [inK]
theorem qB5 {m m' : Mem} {bs : List Int} {n : Int} (h : ∀ b ∈ bs,ndOf m' b = ndOf m b) : inK m' bs n = inK m bs n := by
 unfold inK
 congr 1
 exact List.map_congr_left fun b hb => by rw [h b hb]
theorem rc_inc {m : Mem} {R : List Int} {b : Int} (h : RC m R) (hb : cnt m b ≠ 0) : RC (incM m b) (R ++ [b]) := fun n => by
 have hk : (incM m b).1.2.1.map (·.1) = m.1.2.1.map (·.1) := by
  show (mset m.1.2.1 b (cnt m b + 1)).map (·.1) = _
  rw [q74,if_pos (qm2 hb).1]
 have e0 : inK (incM m b) (m.1.2.1.map (·.1)) n = inK m (m.1.2.1.map (·.1)) n := qB5 fun _ _ => rfl
 rw [ql5,hk,e0,List.count_append,List.count_singleton]
 have := h n
 by_cases e : n = b
 ·subst e; rw [if_pos rfl]; simp; omega
 ·rw [if_neg e,this]
  have : (b == n) = false := by simp; exact fun h => e h.symm
  simp [this]
theorem rc_put {K : Int} {m : Mem} {R : List Int} {n : Int} {x : Nd} (hw : WfM K m) (h : RC m (R ++ q12 x)) (hn : cnt m n = 0) : RC (putM m n x) (R ++ [n]) := fun k => by
 have hnk := cnt_not hw hn
 have hk : (putM m n x).1.2.1.map (·.1) = m.1.2.1.map (·.1) ++ [n] := by
  show (mset m.1.2.1 n 1).map (·.1) = _
  rw [q74,if_neg hnk]
 have e1 : inK (putM m n x) (m.1.2.1.map (·.1)) k = inK m (m.1.2.1.map (·.1)) k := qB5 fun b hb => by
  rw [nd_put,if_neg (fun e => hnk (by rw [← e]; exact hb))]
 have e2 : inK (putM m n x) [n] k = (q12 x).count k := by simp [inK,nd_put]
 rw [qO4,hk,inK_app,e1,e2,List.count_append,List.count_singleton]
 have hk' := h k
 rw [List.count_append] at hk'
 by_cases e : k = n
 ·subst e
  rw [if_pos rfl]
  rw [hn] at hk'
  simp
  omega
 ·rw [if_neg e,hk']
  have : (n == k) = false := by simp; exact fun h => e h.symm
  simp [this]
  omega
end Go.Val
namespace Go.Val
open Go.RowKit Go.Lib
theorem below_eq {x : Nd} {k : Ky} (hk : x.2.2 ≠ []) (hr : Rising x.2.2) (hn : x.2.2.length ≤ 1000000000) :
  ∃ D z Z,x.2.2 = D ++ z :: Z ∧ ql3 x k = some (D.length : Int) ∧ (D = [] ∨ ¬ Lt k z.1) ∧ ∀ y ∈ Z,Lt k y.1 := by
 obtain ⟨l,ps,ks⟩ := x
 simp only at hk hr hn
 have lpos : 0 < ks.length := List.length_pos_iff.2 hk
 have dflt : Kd := ks.head hk
 have ecmp : ∀ (a b : Ky),qD a b = some (compareBytes a b) := fun a b => by simp [qD,q60]
 unfold ql3 qn2
 obtain ⟨s,e1,e2,e3,e4,e5⟩ := qy4 (body := fun v57 =>
   cond (decide (v57.1 < v57.2)) (
    (qx2 (IntKind.wrap .i64 (Int.fdiv (IntKind.wrap .u64 (IntKind.wrap .i64 (v57.1 + v57.2))) (2 ^ 1))) (l,ps,ks) k).bind fun x64 =>
    cond (!x64) (
     some (.inl ((IntKind.wrap .i64 ((IntKind.wrap .i64 (Int.fdiv (IntKind.wrap .u64 (IntKind.wrap .i64 (v57.1 + v57.2))) (2 ^ 1))) + 1)),v57.2))
    ) (
     some (.inl (v57.1,(IntKind.wrap .i64 (Int.fdiv (IntKind.wrap .u64 (IntKind.wrap .i64 (v57.1 + v57.2))) (2 ^ 1)))))
    )
   ) (
    some (.inr v57.1)
   )) (lo := 0) (hi := ks.length) (fun h => !decide (compareBytes (ks.getD h dflt).1 k > 0)) (by omega) (by
  intro i j g1 g2 g3
  have hlt : ((i : Int) < (j : Int)) := by omega
  simp only [hlt,zC,zE]
  rw [half_eq (by omega)]
  unfold qx2
  simp only
  rw [q46 dflt (by omega)]
  simp only [zA,ecmp]
  rw [w64 (by omega) (by omega)]
  generalize ks.getD ((i + j) / 2) dflt = q
  by_cases hc : compareBytes q.1 k > 0
  ·simp [hc]
  ·simp [hc]) (by intro i; simp)
 rw [show ((0 : Int),(ks.length : Int)) = (((0 : Nat) : Int),(ks.length : Int)) from rfl,e1]
 simp only [zA]
 rw [w64 (by omega) (by omega)]
 obtain ⟨l1,l2,h12,n1,n2⟩ := qT4 ks s e3
 have hafter : ∀ y ∈ l2,Lt k y.1 := by
  intro y hy
  match l2,hy with
  | y0 :: l3,hy =>
   simp only [zG] at n2
   rcases e5 with e5 | e5
   ·omega
   ·simp only [Bool.not_eq_false',decide_eq_true_eq] at e5
    rw [h12,qM3 (by omega)] at e5
    have h0 : Lt k y0.1 := by unfold Lt; rw [q36 y0.1 k]; omega
    rcases zM.1 hy with rfl | hy
    ·exact h0
    ·exact lt_trans h0 ((qx0.1 (qP.1 (h12 ▸ hr)).2.1).1 y hy)
 rcases qB1 l1 with rfl | ⟨D,z,rfl⟩
 ·match l2,h12,hafter with
  | [],h12,_ => exact absurd (by simpa using h12) hk
  | z :: Z,h12,hafter =>
   refine ⟨[],z,Z,by simpa using h12,?_,.inl rfl,fun y hy => hafter y (by simp [hy])⟩
   simp at n1
   subst n1
   rfl
 ·refine ⟨D,z,l2,by simpa using h12,?_,.inr ?_,hafter⟩
  ·simp at n1
   congr 1
   omega
  ·simp only [zF,zG,zH] at n1
   rcases e4 with e4 | e4
   ·omega
   ·simp only [Bool.not_eq_true',decide_eq_false_iff_not] at e4
    rw [h12,show D ++ [z] ++ l2 = D ++ z :: l2 by simp,qM3 (by omega)] at e4
    unfold Lt
    rw [q36 z.1 k]
    omega
end Go.Val
namespace Go.Val
open Go.RowKit Go.Lib
noncomputable def getL (ps : List Pr) (k : Ky) (m : Mem) : Option (Unit ⊕ (ByteArray × Bool × Int × Mem)) :=
 qN (V := Int) (O := (Unit ⊕ (ByteArray × Bool × Int × Mem))) (fun v551 =>
        cond (decide (v551 < (ps.length : Int))) (
         (gx ps v551).bind fun x558 =>
         cond (decide (x558.1 = k)) (
          some (.inr (.inr (x558.2,true,0,m)))
         ) (
          some (.inl (IntKind.wrap .i64 (v551 + 1)))
         )
        ) (
         some (.inr (.inl ()))
        )
       ) 0
theorem getL_eq {ps : List Pr} {k : Ky} {m : Mem} (hn : ps.length ≤ 1000000000) : getL ps k m = some (match mget ps k with
  | some v => .inr (v,true,0,m)
  | none => .inl ()) := by
 unfold getL
 have h := q00 (V := Int) (O := (Unit ⊕ (ByteArray × Bool × Int × Mem))) (body := fun v551 =>
        cond (decide (v551 < (ps.length : Int))) (
         (gx ps v551).bind fun x558 =>
         cond (decide (x558.1 = k)) (
          some (.inr (.inr (x558.2,true,0,m)))
         ) (
          some (.inl (IntKind.wrap .i64 (v551 + 1)))
         )
        ) (
         some (.inr (.inl ()))
        ))
  (fun v => ∃ A B,ps = A ++ B ∧ v = (A.length : Int) ∧ mget A k = none) (fun v => ((ps.length : Int) - v).toNat)
  (fun o => o = match mget ps k with
   | some v => .inr (v,true,0,m)
   | none => .inl ()) ?_ (v := 0) ⟨[],ps,rfl,rfl,rfl⟩
 ·obtain ⟨o,h1,h2⟩ := h
  rw [h1,h2]
 ·rintro v ⟨A,B,h1,rfl,h2⟩
  have hl : ps.length = A.length + B.length := by rw [h1]; simp
  match B with
  | [] =>
   right
   have t : ¬ ((A.length : Int) < (ps.length : Int)) := by simp at hl; omega
   rw [zJ] at h1
   refine ⟨.inl (),by simp only [t,zB,zD],?_⟩
   rw [h1,h2]
  | p :: B' =>
   simp only [zG] at hl
   have t : ((A.length : Int) < (ps.length : Int)) := by omega
   have g0 : gx ps (A.length : Int) = some p := by rw [h1]; exact qB2 rfl
   by_cases hp : p.1 = k
   ·right
    refine ⟨.inr (p.2,true,0,m),by simp only [t,zC,zE,g0,zA,hp],?_⟩
    rw [h1,q01,h2,qO,if_pos hp.symm]
    rfl
   ·left
    refine ⟨(A.length : Int) + 1,?_,⟨A ++ [p],B',by simp [h1],by simp,?_⟩,by omega⟩
    ·simp only [t,zC,zE,g0,zA,hp,zB,zD]
     rw [w64 (by omega) (by omega)]
    ·rw [q01,h2,qO,if_neg (fun e => hp e.symm)]
     rfl
noncomputable def getB (k : Ky) (v472 : Int × Mem) : Option ((Int × Mem) ⊕ (Mem ⊕ (ByteArray × Bool × Int × Mem))) :=
   cond (decide (v472.1 ≠ 0)) (
    (qx v472.2 v472.1).bind fun x479 =>
    cond (decide (x479.2.1 ≠ 0)) (
     some (.inr (.inr ((ByteArray.mk #[]),false,x479.2.1,x479.2.2)))
    ) (
     cond (decide ((x479.1.2.2.length : Int) > 0)) (
      (ql3 x479.1 k).bind fun x489 =>
      (gx x479.1.2.2 x489).bind fun x492 =>
      some (.inl (x492.2,x479.2.2))
     ) (
      (getL x479.1.2.1 k x479.2.2).bind fun o528 =>
      Sum.elim (fun (v566 : Unit) =>
       some (.inl (0,x479.2.2))
      ) (fun w569 =>
       some (.inr (.inr w569))
      ) o528
     )
    )
   ) (
    some (.inr (.inl v472.2))
   )
theorem get_def (m : Mem) (n : Int) (k : Ky) : qj2 m n k = (qN (getB k) (n,m)).bind fun o283 => Sum.elim (fun (v570 : Mem) => some ((ByteArray.mk #[]),false,0,v570)) (fun w573 => some w573) o283 := rfl
theorem qP5 {R : Kd → List Pr → Prop} (hR : ∀ k q,R k q → hd q = some k.1) : ∀ {ks : List Kd} {qs : List (List Pr)},F2 R ks qs → Rising qs.flatten → Rising ks
 | _,_,.nil,_ => by simp [Rising,Asc]
 | _,_,.cons (a := k) (b := q) (l := ks) (r := qs) h hs,hr => by
  rw [List.flatten_cons] at hr
  obtain ⟨r1,r2,r3⟩ := qP.1 hr
  refine qx0.2 ⟨fun x hx => ?_,qP5 hR hs r2⟩
  obtain ⟨q',hq',hx'⟩ := hs.mem x hx
  obtain ⟨a,ha,ea⟩ := hd_mem (hR _ _ h)
  obtain ⟨b,hb,eb⟩ := hd_mem (hR _ _ hx')
  rw [← ea,← eb]
  exact r3 a ha b (List.mem_flatten.2 ⟨q',hq',hb⟩)
theorem getW {K : Int} {m : Mem} {k : Ky} (hw : WfM K m) : ∀ {L : Nat} {n : Int} {q : List Pr},Tr m L n q → Rising q → qN (getB k) (n,m) = some (match mget q k with
  | some v => .inr (v,true,0,m)
  | none => .inl m)
 | 0,n,q,h,hq => by
  have hc := qm2 (qZ2 h)
  have hp := hw.pos n _ hc.2
  have n0 : n ≠ 0 := by omega
  have hg := tr_get h
  rw [Tr] at h
  rw [qI]
  have e : getB k (n,m) = (getL q k m).bind fun o528 => Sum.elim (fun (v566 : Unit) => some (.inl (0,m))) (fun w569 => some (.inr (.inr w569))) o528 := by
   unfold getB
   simp only [n0,ne_eq,not_false_eq_true,zC,zE,hg,zA,zP,zB,zD,h.2.1,zH]
   rfl
  rw [e,getL_eq (by omega)]
  simp only [zA]
  cases mget q k with
  | some v => rfl
  | none =>
   simp only [zN,zA]
   rw [qI]
   simp [getB]
 | L + 1,n,q,h,hq => by
  have hc := qm2 (qZ2 h)
  have hp := hw.pos n _ hc.2
  have n0 : n ≠ 0 := by omega
  have hg := tr_get h
  rw [Tr] at h
  obtain ⟨_,ks,h1,h2,h3,qs,h4,h5⟩ := h
  have hqf : Rising qs.flatten := h4 ▸ hq
  have hkr : Rising ks := qP5 (fun k q hk => hk.2.2) h5 hqf
  have hne : ks ≠ [] := fun e => by rw [e] at h2; simp at h2
  obtain ⟨D,z,Z,b1,b2,b3,b4⟩ := below_eq (x := (((L + 1 : Nat) : Int),[],ks)) (k := k) hne hkr (by simp only; omega)
  have b1' : ks = D ++ z :: Z := b1
  obtain ⟨QD,Q2,e1,f1,f2⟩ := F2.split (l := D) (l' := z :: Z) (b1' ▸ h5)
  match Q2,f2 with
  | qz :: QZ,.cons hz hzs =>
   rw [e1,List.flatten_append,List.flatten_cons] at hqf
   obtain ⟨r1,r2,r3⟩ := qP.1 hqf
   obtain ⟨r4,r5,r6⟩ := qP.1 r2
   have m1 : mget QD.flatten k = none := qM2 fun x hx he => by
    obtain ⟨w,hw1,hw2⟩ := hd_mem hz.2.2
    have hl := r3 x hx w (by simp [hw1])
    rw [he,hw2] at hl
    rcases b3 with rfl | b3
    ·cases f1; cases hx
    ·exact b3 hl
   have m2 : mget QZ.flatten k = none := qM2 fun x hx he => by
    obtain ⟨qy,hqy,hxq⟩ := List.mem_flatten.1 hx
    obtain ⟨y,hy,hyq⟩ := F2.memP hzs qy hqy
    have hyr : Rising qy := by
     have := r5
     obtain ⟨s,u,e⟩ := List.append_of_mem hqy
     rw [e,List.flatten_append,List.flatten_cons] at this
     exact (qP.1 (qP.1 this).2.1).1
    rcases hd_le hyq.2.2 hyr x hxq with h | h
    ·have := b4 y hy; rw [← h,he] at this; exact lt_irrefl _ this
    ·have := lt_trans (b4 y hy) h; rw [he] at this; exact lt_irrefl _ this
   have mq : mget q k = mget qz k := by
    rw [← h4,e1,List.flatten_append,List.flatten_cons,q01,q01,m1,m2]
    simp
   rw [mq,← getW hw hz.1 r4,qI]
   have e : getB k (n,m) = some (.inl (z.2,m)) := by
    unfold getB
    have hl : ((ks.length : Int) > 0) := by omega
    simp only [n0,ne_eq,not_false_eq_true,zC,zE,hg,zA,zP,zB,zD,h1,hl]
    rw [b2]
    simp only [zA]
    rw [show gx ks (D.length : Int) = some z by rw [b1']; exact qB2 rfl]
    rfl
   rw [e]
   rfl
theorem get_eq {K : Int} {m : Mem} {k : Ky} (hw : WfM K m) {L : Nat} {n : Int} {q : List Pr} (h : Tr m L n q) (hq : Rising q) : qj2 m n k = some ((mget q k).getD (ByteArray.mk #[]),(mget q k).isSome,0,m) := by
 rw [get_def,getW hw h hq]
 cases mget q k <;> rfl
end Go.Val
namespace Go.Val
open Go.RowKit Go.Lib
abbrev Spn := Ky × Ky × Bool
def inT (s : Spn) (k : Ky) : Bool := decide (compareBytes k s.1 ≥ 0) && (s.2.2 || decide (compareBytes k s.2.1 < 0))
theorem in_eq (s : Spn) (k : Ky) : qT5 s k = some (inT s k) := by
 unfold qT5 inT
 have ecmp : ∀ (a b : Ky),qD a b = some (compareBytes a b) := fun a b => by simp [qD,q60]
 simp only [ecmp,zA]
 by_cases h1 : compareBytes k s.1 ≥ 0
 ·cases h2 : s.2.2 <;> simp [h1]
 ·simp [h1]
theorem scan_leaf {ps : List Pr} {s : Spn} (hn : ps.length ≤ 1000000000) : qN (V := (Int × (List ((List UInt8) × ByteArray)))) (O := (List ((List UInt8) × ByteArray))) (fun v181 =>
     cond (decide (v181.1 < (ps.length : Int))) (
      (((
       (gx ps v181.1).bind fun x203 =>
       (qT5 s x203.1).bind fun x206 =>
       cond x206 (
        (fits (v181.2.length + ([x203]).length) 40).bind fun _ =>
        some (v181.2 ++ [x203])
       ) (
        some v181.2
       )
      ) : Option (List ((List UInt8) × ByteArray)))).bind fun o200 =>
      some (.inl ((IntKind.wrap .i64 (v181.1 + 1)),o200))
     ) (
      some (.inr v181.2)
     )
    ) (0,[]) = some (ps.filter fun p => inT s p.1) := by
 have h := q00 (V := Int × List Pr) (O := List Pr) (body := fun v181 =>
     cond (decide (v181.1 < (ps.length : Int))) (
      (((
       (gx ps v181.1).bind fun x203 =>
       (qT5 s x203.1).bind fun x206 =>
       cond x206 (
        (fits (v181.2.length + ([x203]).length) 40).bind fun _ =>
        some (v181.2 ++ [x203])
       ) (
        some v181.2
       )
      ) : Option (List ((List UInt8) × ByteArray)))).bind fun o200 =>
      some (.inl ((IntKind.wrap .i64 (v181.1 + 1)),o200))
     ) (
      some (.inr v181.2)
     ))
  (fun v => ∃ A B,ps = A ++ B ∧ v = ((A.length : Int),A.filter fun p => inT s p.1)) (fun v => ((ps.length : Int) - v.1).toNat) (fun o => o = ps.filter fun p => inT s p.1) ?_ (v := (0,[])) ⟨[],ps,rfl,rfl⟩
 ·obtain ⟨o,h1,h2⟩ := h
  rw [h1,h2]
 ·rintro v ⟨A,B,h1,rfl⟩
  have hl : ps.length = A.length + B.length := by rw [h1]; simp
  match B with
  | [] =>
   right
   have t : ¬ ((A.length : Int) < (ps.length : Int)) := by simp at hl; omega
   rw [zJ] at h1
   refine ⟨A.filter fun p => inT s p.1,by simp only [t,zB,zD],by rw [h1]⟩
  | p :: B' =>
   left
   simp only [zG] at hl
   have t : ((A.length : Int) < (ps.length : Int)) := by omega
   have g0 : gx ps (A.length : Int) = some p := by rw [h1]; exact qB2 rfl
   have hf := List.length_filter_le (fun p : Pr => inT s p.1) A
   refine ⟨((A.length : Int) + 1,(A ++ [p]).filter fun p => inT s p.1),?_,⟨A ++ [p],B',by simp [h1],by simp⟩,by show ((ps.length : Int) - ((A.length : Int) + 1)).toNat < ((ps.length : Int) - (A.length : Int)).toNat; omega⟩
   simp only [t,zC,zE,g0,zA,in_eq]
   rw [w64 (by omega) (by omega),List.filter_append]
   by_cases hs : inT s p.1 = true
   ·rw [hs]
    simp only [zE]
    rw [q81 (by simp; omega)]
    simp [hs]
   ·simp [hs]
end Go.Val
