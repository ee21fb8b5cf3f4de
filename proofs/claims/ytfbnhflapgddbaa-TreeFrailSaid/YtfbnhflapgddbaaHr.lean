/- slices.Replace of two elements by at most two,on a row of one's own. -/
import Derived.Test.YtfbnhflapgddbaaWf
import Derived.Test.YtfbnhflapgddbaaHg
import Derived.Test.YtfbnhflapgddbaaLf
import Derived.Test.YtfbnhflapgddbaaLd
set_option linter.all false
namespace Go.Val
open Go.RowKit Go.Proofs Go.Lib
section
variable [NoDrw]
def q64 (xs : List (List UInt8 × Int × Option Fr)) (i j : Int) (v : List (List UInt8 × Int × Option Fr)) : Option (List (List UInt8 × Int × Option Fr)) :=
 bif decide (0 ≤ i ∧ j = i + 2 ∧ j ≤ xs.length ∧ v.length ≤ 2 ∧ xs.length ≤ 1000000000) then some (xs.take i.toNat ++ v ++ xs.drop j.toNat) else none
theorem Bd.nat {s : St} {dflt n : Nat} {o : Operand} (h : s.val o = some (.d (.v (.int .i64 (n : Int))))) : Bd s dflt (some o) n := Bd.val h (Int.natCast_nonneg n)
theorem qZ4 {α : Type} {A B : List α} {n : Nat} (h : A.length = n) : (A ++ B).take n = A := by rw [← h,List.take_left]
theorem drop_pre {α : Type} {A B : List α} {n : Nat} (h : A.length = n) : (A ++ B).drop n = B := by rw [← h,List.drop_left]
set_option maxRecDepth 100000 in
theorem replaceK_ok {xs : List (List UInt8 × Int × Option Fr)} {i j : Int} {v r : List (List UInt8 × Int × Option Fr)} (h : q64 xs i j v = some r) (u : Nat) :
  FnOk Try.prog 78 [.arr 0 u,.d (eint i),.d (eint j),.d (qi v)] 1 (lk [(0,.arr u 26 (xs.map qh))]) (fun rr oo => rr = .arr 0 (u + 1) ∧ oo = lk [(0,.arr (u + 1) 26 (r.map qh))]) := by
 unfold q64 at h
 have hc : 0 ≤ i ∧ j = i + 2 ∧ j ≤ xs.length ∧ v.length ≤ 2 ∧ xs.length ≤ 1000000000 := by
  refine Classical.byContradiction fun hn => ?_
  rw [decide_eq_false hn] at h
  cases h
 rw [decide_eq_true hc] at h
 simp only [zE,Option.some.injEq] at h
 obtain ⟨h0,hj,hx,hv,hbig⟩ := hc
 obtain ⟨I,rfl⟩ : ∃ I : Nat,i = (I : Int) := ⟨i.toNat,by omega⟩
 obtain ⟨J,rfl⟩ : ∃ J : Nat,j = (J : Int) := ⟨j.toNat,by omega⟩
 have hIJ : J = I + 2 := by omega
 have hsz : ∀ r ∈ xs.map qh,r.size = 26 := fun r hr => by
  obtain ⟨x,_,rfl⟩ := List.mem_map.1 hr
  exact qo x
 have hvz : ∀ r ∈ v.map qh,r.size = 26 := fun r hr => by
  obtain ⟨x,_,rfl⟩ := List.mem_map.1 hr
  exact qo x
 obtain ⟨R,hR⟩ : ∃ R,R = xs.map qh := ⟨_,rfl⟩
 obtain ⟨V,hV⟩ : ∃ V,V = v.map qh := ⟨_,rfl⟩
 have lR : R.length = xs.length := by rw [hR]; simp
 have lV : V.length = v.length := by rw [hV]; simp
 have hr' : r.map qh = R.take I ++ V ++ R.drop J := by
  rw [← h,hR,hV]; simp
 rw [← hR] at hsz ⊢
 rw [← hV] at hvz
 rw [hr']
 have es : qi v = .sl 26 V := by rw [hV]; rfl
 rw [es]
 obtain ⟨A,hA⟩ : ∃ A,A = R.take I := ⟨_,rfl⟩
 obtain ⟨M,hM⟩ : ∃ M,M = (R.drop I).take 2 := ⟨_,rfl⟩
 obtain ⟨B,hB⟩ : ∃ B,B = R.drop J := ⟨_,rfl⟩
 have hsp : R = A ++ (M ++ B) := by rw [hA,hM,hB,hIJ,← List.drop_drop,List.take_append_drop,List.take_append_drop]
 have lA : A.length = I := by rw [hA]; simp; omega
 have lM : M.length = 2 := by rw [hM]; simp; omega
 have lB : B.length = R.length - J := by rw [hB]; simp
 rw [← hA,← hB]
 clear hA hM hB
 have hzz : (qh ((List.replicate 24 0),0,(none : Option Fr))).size = 26 := qo _
 refine fnO Try.func78 rfl rfl (cwP ?_)
 refine cwS (cwR (
  .cons (o_as rfl rfl .no rfl) <|
  .nil rfl
 ) ?_)
 refine cwS (cwR (
  .cons (o_mv rfl rfl .no rfl) <|
  .cons (o_mv rfl rfl .no rfl) <|
  .cons (o_mv rfl rfl .no rfl) <|
  .cons (o_cut I J I 2 rfl rfl .no rfl rfl .arr sl95 qH1 (.nat rfl) (.nat rfl) (by omega) (by omega) (by omega) (by omega)) <|
  .nil rfl
 ) ?_)
 refine cwS ?_
 refine cwS (cwR (
  .cons (o_mv rfl rfl .no rfl) <|
  .cons (o_mv rfl rfl .no rfl) <|
  .cons (qn rfl rfl .no rfl rfl (qh0 _ _) rfl) <|
  .nil rfl
 ) ?_)
 refine cwF rfl (decide_eq_false (by omega)) ?_
 refine cwK ?_
 refine cwS ?_
 refine cwS (cwR (
  .cons (o_mv rfl rfl .no rfl) <|
  .cons (o_mv rfl rfl .no rfl) <|
  .cons (o_lenC rfl rfl .no rfl rfl .arr sl95) <|
  .cons (qn rfl rfl .no rfl rfl (qh0 _ _) rfl) <|
  .nil rfl
 ) ?_)
 by_cases hend : (J : Int) = (R.length : Int)
 ·refine cwT rfl (decide_eq_true hend) ?_
  have hB0 : B = [] := List.eq_nil_of_length_eq_zero (by omega)
  refine cwS (cwR (
   .cons (o_mv rfl rfl .no rfl) <|
   .cons (o_mv rfl rfl .no rfl) <|
   .cons (o_cut 0 I 0 I rfl rfl .no rfl rfl .arr sl95 qH1 .no (.nat rfl) (by omega) (by omega) rfl rfl) <|
   .cons (o_mv rfl rfl .no rfl) <|
   .cons (o_appC (A ++ V ++ M.drop V.length) (I + V.length) rfl rfl .no rfl rfl .csl rfl (.sl sl95) hvz sl95 qH1 (by omega) (by
    rw [hsp,hB0,Nat.zero_add,qZ4 lA,← List.drop_drop,drop_pre lA]; simp) rfl) <|
   .cons (o_as rfl rfl .no rfl) <|
   .nil rfl
  ) ?_)
  have hl1 : (A ++ V ++ M.drop V.length).length = R.length := by simp [lA,lM]; omega
  refine cwS ?_
  refine cwS (cwR (
   .cons (o_mv rfl rfl .no rfl) <|
   .cons (o_lenC rfl rfl .no rfl rfl .csl sl95) <|
   .cons (o_mv rfl rfl .no rfl) <|
   .cons (o_lenC rfl rfl .no rfl rfl .arr sl95) <|
   .cons (qn rfl rfl .no rfl rfl (qO0 _ _) rfl) <|
   .nil rfl
  ) ?_)
  have fin : ∀ (Z : List D),(A ++ V ++ Z).take (I + V.length) = A ++ V ++ B := fun Z => by
   rw [qZ4 (by simp [lA]),hB0,zJ]
  by_cases hlt : ((I + V.length : Nat) : Int) < ((A ++ V ++ M.drop V.length).length : Int)
  ·refine cwT rfl (decide_eq_true hlt) ?_
   refine cwR (
    .cons (o_mv rfl rfl .no rfl) <|
    .cons (o_mv rfl rfl .no rfl) <|
    .cons (o_lenC rfl rfl .no rfl rfl .csl sl95) <|
    .cons (o_cut (I + V.length) R.length (I + V.length) (R.length - (I + V.length)) rfl rfl .no rfl rfl .arr sl95 qH1 (.nat rfl) (hl1 ▸ .no) (by omega) (by omega) (by omega) rfl) <|
    .cons (o_clrC (A ++ V ++ List.replicate (R.length - (I + V.length)) (qh ((List.replicate 24 0),0,(none : Option Fr)))) rfl .no rfl rfl .csl sl95 qj4 hzz (by omega) (by omega) (by
     rw [qZ4 (by simp [lA]),List.drop_eq_nil_of_le (by omega)]; simp)) <|
    .nil rfl
   ) ?_
   refine cwS (cwR (
    .cons (o_mv rfl rfl .no rfl) <|
    .cons (o_as rfl rfl .no rfl) <|
    .nil rfl
   ) ?_)
   refine qv ⟨_,q75 (t := 8) (o := 0) (len := I + V.length) rfl rfl (by simp [lA]) (fin _) (fun k hk => ?_),.inr rfl,_,res1 rfl rfl,rfl,rfl⟩
   cases k with
   | zero => exact absurd rfl hk
   | succ k => rfl
  ·refine cwF rfl (decide_eq_false hlt) ?_
   refine cwK ?_
   refine cwS (cwR (
    .cons (o_mv rfl rfl .no rfl) <|
    .cons (o_as rfl rfl .no rfl) <|
    .nil rfl
   ) ?_)
   refine qv ⟨_,q75 (t := 8) (o := 0) (len := I + V.length) rfl rfl (by simp [lA]) (fin _) (fun k hk => ?_),.inr rfl,_,res1 rfl rfl,rfl,rfl⟩
   cases k with
   | zero => exact absurd rfl hk
   | succ k => rfl
 ·refine cwF rfl (decide_eq_false hend) ?_
  refine cwK ?_
  have w1 : IntKind.wrap .i64 ((I : Int) + (V.length : Int)) = ((I + V.length : Nat) : Int) := by rw [wI64 ⟨by omega,by omega⟩]; omega
  have w2 : IntKind.wrap .i64 (((I + V.length : Nat) : Int) + ((R.length - J : Nat) : Int)) = ((I + V.length + (R.length - J) : Nat) : Int) := by rw [wI64 ⟨by omega,by omega⟩]; omega
  obtain ⟨tot,htot⟩ : ∃ tot,tot = I + V.length + (R.length - J) := ⟨_,rfl⟩
  rw [← htot] at w2
  refine cwS (cwRA mixed (by kernel_rfl) (
   .cons (o_mv rfl rfl .no rfl) <|
   .cons (o_mv rfl rfl .no rfl) <|
   .cons (o_cut 0 I 0 I rfl rfl .no rfl rfl .arr sl95 qH1 .no (.nat rfl) (by omega) (by omega) rfl rfl) <|
   .cons (o_lenC rfl rfl .no rfl rfl .csl sl95) <|
   .cons (o_mv rfl rfl .no rfl) <|
   .cons (o_len rfl rfl .no rfl (qa0 sl95)) <|
   .cons (qn (r := .int .i64 ((I + V.length : Nat) : Int)) rfl rfl .no rfl rfl (w1 ▸ qR0 _ _) rfl) <|
   .cons (o_mv rfl rfl .no rfl) <|
   .cons (o_mv rfl rfl .no rfl) <|
   .cons (o_cut J R.length J (R.length - J) rfl rfl .no rfl rfl .arr sl95 qH1 (.nat rfl) .no (by omega) (by omega) (by omega) rfl) <|
   .cons (o_lenC rfl rfl .no rfl rfl .csl sl95) <|
   .cons (qn (r := .int .i64 (tot : Int)) rfl rfl .no rfl rfl (w2 ▸ qR0 _ _) rfl) <|
   .cons (o_as rfl rfl .no rfl) <|
   .nil rfl
  ) (by kernel_rfl) ?_)
  refine cwS ?_
  refine cwS ?_
  refine qN3 (
   .cons (o_mv rfl rfl .no rfl) <|
   .cons (o_mv rfl rfl .no rfl) <|
   .any (a_cap rfl rfl rfl rfl sl95) fun s1 h1 => ?_)
  obtain ⟨m,hm,rfl⟩ := h1
  refine .cons (qn rfl rfl .no rfl rfl (qT3 _ _) rfl) (.nil rfl ?_)
  refine cwF rfl (decide_eq_false (by omega)) ?_
  refine cwK ?_
  refine cwS (cwR (
   .cons (o_mv rfl rfl .no rfl) <|
   .cons (o_mv rfl rfl .no rfl) <|
   .cons (o_cut 0 tot 0 tot rfl rfl .no rfl rfl .arr sl95 qH1 .no (.nat rfl) (by omega) (by omega) rfl rfl) <|
   .cons (o_as rfl rfl .no rfl) <|
   .nil rfl
  ) ?_)
  refine cwS ?_
  refine cwS (cwR (
   .cons (o_mv rfl rfl .no rfl) <|
   .cons (o_mv rfl rfl .no rfl) <|
   .cons (o_len rfl rfl .no rfl (qa0 sl95)) <|
   .cons (qn (r := .int .i64 ((I + V.length : Nat) : Int)) rfl rfl .no rfl rfl (w1 ▸ qR0 _ _) rfl) <|
   .cons (o_mv rfl rfl .no rfl) <|
   .cons (qn rfl rfl .no rfl rfl (b_leq _ _) rfl) <|
   .nil rfl
  ) ?_)
  refine cwT rfl (decide_eq_true (by omega)) ?_
  have hl1 : (A ++ V ++ (M.drop V.length ++ B)).length = R.length := by simp [lA,lM]; omega
  have hl2 : (A ++ V ++ B ++ R.drop tot).length = R.length := by simp [lA,lB]; omega
  have hz1 : ∀ r ∈ A ++ V ++ (M.drop V.length ++ B),r.size = 26 := fun r hr => by
   rcases zL.1 hr with hr | hr
   ·rcases zL.1 hr with hr | hr
    ·exact hsz r (by rw [hsp]; simp [hr])
    ·exact hvz r hr
   ·rcases zL.1 hr with hr | hr
    ·exact hsz r (by rw [hsp]; simp [List.mem_of_mem_drop hr])
    ·exact hsz r (by rw [hsp]; simp [hr])
  have hdj : (A ++ V ++ (M.drop V.length ++ B)).drop J = B := by
   rw [← zI]
   exact drop_pre (by simp [lA,lM]; omega)
  refine cwS (cwR (
   .cons (o_mv rfl rfl .no rfl) <|
   .cons (o_mv rfl rfl .no rfl) <|
   .cons (o_cut I tot I (tot - I) rfl rfl .no rfl rfl .csl sl95 qH1 (.nat rfl) .no (by omega) (by omega) (by omega) rfl) <|
   .cons (o_mv rfl rfl .no rfl) <|
   .cons (o_cpD (A ++ V ++ (M.drop V.length ++ B)) rfl rfl .no rfl rfl .csl rfl (.sl sl95) hvz sl95 qH1 (by omega) (by omega) (by
    rw [hsp,qZ4 lA,← List.drop_drop,drop_pre lA,List.drop_append_of_le_length (by omega)])) <|
   .nil rfl
  ) ?_)
  refine cwS (cwRA mixed (by kernel_rfl) (
   .cons (o_mv rfl rfl .no rfl) <|
   .cons (o_mv rfl rfl .no rfl) <|
   .cons (o_mv rfl rfl .no rfl) <|
   .cons (o_len rfl rfl .no rfl (qa0 sl95)) <|
   .cons (qn (r := .int .i64 ((I + V.length : Nat) : Int)) rfl rfl .no rfl rfl (w1 ▸ qR0 _ _) rfl) <|
   .cons (o_cut (I + V.length) tot (I + V.length) (R.length - J) rfl rfl .no rfl rfl .csl sl95 qH1 (.nat rfl) .no (by omega) (by omega) (by omega) (by omega)) <|
   .cons (o_mv rfl rfl .no rfl) <|
   .cons (o_mv rfl rfl .no rfl) <|
   .cons (o_cut J R.length J (R.length - J) rfl rfl .no rfl rfl .arr sl95 qH1 (.nat rfl) (hl1 ▸ .no) (by omega) (by omega) (by omega) rfl) <|
   .cons (o_cpC (A ++ V ++ B ++ (A ++ V ++ (M.drop V.length ++ B)).drop tot) rfl rfl .no rfl rfl .csl rfl .csl sl95 sl95 qH1 (by omega) (by omega) (by omega) hz1 (by
    rw [hdj,qZ4 (by simp [lA]),List.take_of_length_le (by omega),show I + V.length + (R.length - J) = tot by omega])) <|
   .nil rfl
  ) (by kernel_rfl) ?_)
  have lX : (A ++ V ++ B).length = tot := by simp [lA,lB]; omega
  have hl3 : (A ++ V ++ B ++ (A ++ V ++ (M.drop V.length ++ B)).drop tot).length = R.length := by rw [zF,lX,List.length_drop,hl1]; omega
  refine cwS (cwR (
   .cons (o_mv rfl rfl .no rfl) <|
   .cons (o_mv rfl rfl .no rfl) <|
   .cons (o_cut tot R.length tot (R.length - tot) rfl rfl .no rfl rfl .arr sl95 qH1 (.nat rfl) (hl3 ▸ .no) (by omega) (by omega) (by omega) rfl) <|
   .cons (o_clrC (A ++ V ++ B ++ List.replicate (R.length - tot) (qh ((List.replicate 24 0),0,(none : Option Fr)))) rfl .no rfl rfl .csl sl95 qj4 hzz (by omega) (by omega) (by
    rw [qZ4 lX,List.drop_eq_nil_of_le (by omega),zJ])) <|
   .nil rfl
  ) ?_)
  refine cwS (cwR (
   .cons (o_mv rfl rfl .no rfl) <|
   .cons (o_as rfl rfl .no rfl) <|
   .nil rfl
  ) ?_)
  refine qv ⟨_,q75 (t := 8) (o := 0) (len := tot) rfl rfl (by rw [zF,lX]; omega) (qZ4 lX) (fun k hk => ?_),.inr rfl,_,res1 rfl rfl,rfl,rfl⟩
  cases k with
  | zero => exact absurd rfl hk
  | succ k => rfl
end
end Go.Val
