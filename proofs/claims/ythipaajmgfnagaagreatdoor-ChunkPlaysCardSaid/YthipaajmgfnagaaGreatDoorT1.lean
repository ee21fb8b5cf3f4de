/- What the twins are: maps,deltas. -/
import Derived.Test.YthipaajmgfnagaaGreatDoorLd
import Derived.Test.YthipaajmgfnagaaGreatDoorWj
set_option linter.unusedSectionVars false
set_option linter.unusedVariables false
set_option linter.unusedSimpArgs false
namespace Go.Val
open Go.Lib
theorem ilt {i n : Nat} (h : i < n) : decide ((i : Int) < (n : Int)) = true := by simp; exact h
theorem ige {n : Nat} : decide ((n : Int) < (n : Int)) = false := by simp
theorem foldl_snoc {α β : Type} (g : α → β) (xs : List α) : ∀ s : List β,xs.foldl (fun s x => s ++ [g x]) s = s ++ xs.map g := by
 induction xs with
 | nil => intro s; simp
 | cons x xs ih => intro s; rw [List.foldl_cons,ih]; simp
theorem qs0 {α : Type} {x : Option α} {a : α} (h : x = some a) : x.bind (fun o => some o) = some a := by rw [h]; rfl
theorem values_eq (l : List Pr) (hl : l.length ≤ 1000000) : qM0 l = some (qK2 l) := by
 unfold qM0
 refine qs0 (qY l (fun i s => ((i : Int),s)) (fun m p => mset m p.1 p.2) (fun _ _ => True) id [] trivial (fun i hi s _ => ⟨?_,trivial⟩) (fun s _ => ?_))
 ·simp only [ilt hi,cond_true,q20 hi,Option.bind_some,wSu (show i < 9223372036854775807 by omega)]
 ·simp only [ige,cond_false,id]
theorem pairs_eq (m : List Pr) (hl : m.length ≤ 1000000) : qm1 m = some (canon mt m,m) := by
 unfold qm1
 have hk : (qp (m.map fun p => p.1)).length = m.length := by rw [qY2,List.length_map]
 have h := qY (body := fun v63 : Int × List Pr =>
   cond (decide (v63.1 < ((qp (m.map fun p => p.1)).length : Int))) (
    (gx (qp (m.map fun p => p.1)) v63.1).bind fun x70 =>
    (fits (v63.2.length + ([(x70,((mget m x70).getD (ByteArray.mk #[])))]).length) 40).bind fun _ =>
    some (.inl ((IntKind.wrap .i64 (v63.1 + 1)),(v63.2 ++ [(x70,((mget m x70).getD (ByteArray.mk #[])))])))
   ) (
    some (.inr v63.2)
   )) (qp (m.map fun p => p.1)) (fun i s => ((i : Int),s)) (fun s k => s ++ [(k,(mget m k).getD mt)]) (fun i s => s.length = i) id [] rfl (fun i hi s hs => ⟨?_,?_⟩) (fun s _ => ?_)
 ·rw [bdO (qL (by omega))]
  refine (bdO h).trans ?_
  rw [foldl_snoc]
  rfl
 ·simp only [ilt hi,cond_true,q20 hi,Option.bind_some]
  rw [bdO (qL (by simp only [hs,List.length_cons,List.length_nil]; omega)),wSu (show i < 9223372036854775807 by omega)]
  rfl
 ·simp [hs]
 ·simp only [ige,cond_false,id]
theorem rising_eq (m : List (List UInt8 × Cg)) (hl : m.length ≤ 1000000) : qB1 m = some ((qp (m.map (·.1))).map (fun k => (mget m k).getD ((List.replicate 24 0),mt,false)),m) := by
 unfold qB1
 have hk : (qp (m.map fun p => p.1)).length = m.length := by rw [qY2,List.length_map]
 have h := qY (body := fun v63 : Int × List Cg =>
   cond (decide (v63.1 < ((qp (m.map fun p => p.1)).length : Int))) (
    (gx (qp (m.map fun p => p.1)) v63.1).bind fun x70 =>
    (fits (v63.2.length + ([((mget m x70).getD ((List.replicate 24 0),(ByteArray.mk #[]),false))]).length) 48).bind fun _ =>
    some (.inl ((IntKind.wrap .i64 (v63.1 + 1)),(v63.2 ++ [((mget m x70).getD ((List.replicate 24 0),(ByteArray.mk #[]),false))])))
   ) (
    some (.inr v63.2)
   )) (qp (m.map fun p => p.1)) (fun i s => ((i : Int),s)) (fun s k => s ++ [(mget m k).getD ((List.replicate 24 0),mt,false)]) (fun i s => s.length = i) id [] rfl (fun i hi s hs => ⟨?_,?_⟩) (fun s _ => ?_)
 ·rw [bdO (qL (by omega))]
  refine (bdO h).trans ?_
  rw [foldl_snoc]
  rfl
 ·simp only [ilt hi,cond_true,q20 hi,Option.bind_some]
  rw [bdO (qL (by simp only [hs,List.length_cons,List.length_nil]; omega)),wSu (show i < 9223372036854775807 by omega)]
  rfl
 ·simp [hs]
 ·simp only [ige,cond_false,id]
theorem map_eq (l : List Pr) (hl : l.length ≤ 1000000) : qq3 l = some (mapP l) := by
 unfold qq3
 have := q62 l
 rw [bdO (values_eq l hl),bdO (pairs_eq _ (by omega))]
 rfl
theorem does_eq (m : List Pr) (c : Cg) : q92 m c = some (doesP m c) := by
 unfold q92 doesP
 obtain ⟨a,b,g⟩ := c
 cases g <;> rfl
theorem apply_eq (l : List Pr) (cs : List Cg) (hl : l.length ≤ 500000) (hc : cs.length ≤ 500000) : q82 l cs = some (q93 l cs) := by
 unfold q82
 rw [bdO (values_eq l (by omega))]
 have h := qY (body := fun v60 : Int × List Pr =>
   cond (decide (v60.1 < (cs.length : Int))) (
    (gx cs v60.1).bind fun x67 =>
    (q92 v60.2 x67).bind fun x70 =>
    some (.inl ((IntKind.wrap .i64 (v60.1 + 1)),x70))
   ) (
    some (.inr v60.2)
   )) cs (fun i s => ((i : Int),s)) doesP (fun _ _ => True) id (qK2 l) trivial (fun i hi s _ => ⟨?_,trivial⟩) (fun s _ => ?_)
 ·refine (bdO h).trans ?_
  have h1 := (qv3 cs _ (qf0 l)).2.1
  have h2 := q62 l
  rw [bdO (pairs_eq _ (by simp only [id]; omega))]
  rfl
 ·simp only [ilt hi,cond_true,q20 hi,Option.bind_some,does_eq,wSu (show i < 9223372036854775807 by omega)]
 ·simp only [ige,cond_false,id]
def q04 (m : List (List UInt8 × Cg)) : Prop := ∀ p ∈ m,p.2.1 = p.1
theorem own_get {m : List (List UInt8 × Cg)} (h : q04 m) {k : List UInt8} {c : Cg} (hg : mget m k = some c) : c.1 = k := h _ (ql1 hg)
def riseP (m : List (List UInt8 × Cg)) : List Cg := (qp (m.map (·.1))).map (fun k => (mget m k).getD ((List.replicate 24 0),mt,false))
theorem riseP_keys {m : List (List UInt8 × Cg)} (h : q04 m) : (riseP m).map (·.1) = qp (m.map (·.1)) := by
 unfold riseP
 rw [List.map_map]
 refine (List.map_congr_left (g := id) fun k hk => ?_).trans (List.map_id _)
 have hk' : k ∈ m.map (·.1) := (qT0 _).mem_iff.1 hk
 obtain ⟨c,hc⟩ := Option.isSome_iff_exists.1 (qs1.2 hk')
 simp only [Function.comp,hc,Option.getD_some,id]
 exact own_get h hc
theorem riseP_rising {m : List (List UInt8 × Cg)} (h : q04 m) (hn : (m.map (·.1)).Nodup) : Rising (riseP m) := by
 unfold Rising
 rw [riseP_keys h]
 exact sortKeys_asc hn
theorem riseP_len (m : List (List UInt8 × Cg)) : (riseP m).length = m.length := by
 unfold riseP
 rw [List.length_map,qY2,List.length_map]
theorem mget_riseP {m : List (List UInt8 × Cg)} (h : q04 m) (hn : (m.map (·.1)).Nodup) (k : List UInt8) : mget (riseP m) k = (mget m k).map (·.2) := by
 have hm : k ∈ qp (m.map (·.1)) ↔ k ∈ m.map (·.1) := (qT0 _).mem_iff
 cases hg : mget m k with
 | none =>
  have h1 := q50.1 hg
  have : mget (riseP m) k = none := by rw [q50,riseP_keys h,hm]; exact h1
  rw [this]; rfl
 | some c =>
  have hk : k ∈ m.map (·.1) := qs1.1 (by rw [hg]; rfl)
  refine qp1 (riseP_rising h hn).nodup ?_
  refine List.mem_map.2 ⟨k,hm.2 hk,?_⟩
  rw [hg,← own_get h hg]; rfl
theorem own_foldl {β : Type} (p : List UInt8 × β → Bool) (w : List UInt8 × β → Cg) (hw : ∀ x,(w x).1 = x.1) (l : List (List UInt8 × β)) : ∀ m : List (List UInt8 × Cg),q04 m → q04 (l.foldl (fun m x => if p x = true then mset m x.1 (w x) else m) m) := by
 induction l with
 | nil => exact fun m h => h
 | cons q l ih =>
  intro m h
  rw [List.foldl_cons]
  refine ih _ ?_
  split
  ·intro r hr
   have hmem : r ∈ mset m q.1 (w q) → r = (q.1,w q) ∨ r ∈ m := by
    clear hr ih h
    induction m with
    | nil => intro h; simp [mset_nil] at h; exact .inl h
    | cons a m ihm =>
     intro h
     rw [mset_cons] at h
     split at h
     ·rcases List.mem_cons.1 h with e | e
      ·exact .inl e
      ·exact .inr (List.mem_cons_of_mem _ e)
     ·rcases List.mem_cons.1 h with e | e
      ·exact .inr (by rw [e]; simp)
      ·rcases ihm e with e' | e'
       ·exact .inl e'
       ·exact .inr (List.mem_cons_of_mem _ e')
   rcases hmem hr with e | e
   ·rw [e]; exact hw q
   ·exact h r e
  ·exact h
end Go.Val
namespace Go.Val
open Go.Lib
def qO {β : Type} (l : List (List UInt8 × β)) (k : List UInt8) : Nat := l.findIdx (fun p => !decide (Lt p.1 k))
theorem qB2 {β : Type} (l : List (List UInt8 × β)) (k : List UInt8) : qO l k ≤ l.length := List.findIdx_le_length
theorem qi2 {β : Type} {l : List (List UInt8 × β)} {k : List UInt8} {i : Nat} (h : i < qO l k) (hi : i < l.length) : Lt l[i].1 k := by
 have := List.not_of_lt_findIdx h
 simpa using this
theorem place_at {β : Type} {l : List (List UInt8 × β)} {k : List UInt8} (h : qO l k < l.length) : ¬ Lt l[qO l k].1 k := by
 have := List.findIdx_getElem (xs := l) (p := fun p : List UInt8 × β => !decide (Lt p.1 k)) (w := h)
 simp only [Bool.not_eq_true',decide_eq_false_iff_not] at this
 exact this
theorem qx4 {β : Type} {l : List (List UInt8 × β)} (hr : Rising l) (k : List UInt8) : mget l k = if h : qO l k < l.length then (if l[qO l k].1 = k then some l[qO l k].2 else none) else none := by
 have hlt : ∀ i j (hi : i < l.length) (hj : j < l.length),i < j → Lt l[i].1 l[j].1 := by
  intro i j hi hj hij
  have := List.pairwise_iff_getElem.1 hr i j (by simpa using hi) (by simpa using hj) hij
  simpa using this
 have none_of : (∀ j (hj : j < l.length),l[j].1 ≠ k) → mget l k = none := by
  intro h
  rw [q50]
  intro hk
  obtain ⟨p,hp,e⟩ := List.mem_map.1 hk
  obtain ⟨j,hj,rfl⟩ := List.getElem_of_mem hp
  exact h j hj e
 by_cases h : qO l k < l.length
 ·rw [dif_pos h]
  by_cases he : l[qO l k].1 = k
  ·rw [if_pos he]
   refine qp1 hr.nodup ?_
   have : (k,l[qO l k].2) = l[qO l k] := Prod.ext he.symm rfl
   rw [this]
   exact List.getElem_mem h
  ·rw [if_neg he]
   refine none_of fun j hj e => ?_
   rcases Nat.lt_trichotomy j (qO l k) with h1 | h1 | h1
   ·exact lt_irrefl k (by have := qi2 h1 hj; rwa [e] at this)
   ·subst h1; exact he e
   ·have := hlt _ _ h hj h1
    rw [e] at this
    exact place_at h this
 ·rw [dif_neg h]
  refine none_of fun j hj e => ?_
  have hp : j < qO l k := by have := qB2 l k; omega
  exact lt_irrefl k (by have := qi2 hp hj; rwa [e] at this)
theorem all_true {O : Type} {body : Int → Option (Int ⊕ O)} {n : Nat} {o : O} (j : Nat) (hj : j ≤ n) (h : ∀ i,j ≤ i → i < n → body (i : Int) = some (.inl ((i + 1 : Nat) : Int))) (hn : body (n : Int) = some (.inr o)) : qA body (j : Int) = some o := by
 have := qe0 (body := body) (fun i => ((j + i : Nat) : Int)) (n - j) (fun i hi => by have := h (j + i) (by omega) (by omega); rw [this]; rfl) (by rw [show j + (n - j) = n by omega]; exact hn)
 simpa using this
theorem all_false {O : Type} {body : Int → Option (Int ⊕ O)} {p : Nat → Prop} {n : Nat} {o : O} (h : ∀ i,i < n → p i → body (i : Int) = some (.inl ((i + 1 : Nat) : Int))) (h' : ∀ i,i < n → ¬ p i → body (i : Int) = some (.inr o)) (hx : ∃ i,i < n ∧ ¬ p i) : qA body 0 = some o := by
 have key : ∀ k i,i + k = n → (∃ j,i ≤ j ∧ j < n ∧ ¬ p j) → qA body (i : Int) = some o := by
  intro k
  induction k with
  | zero => rintro i hi ⟨j,h1,h2,_⟩; omega
  | succ k ih =>
   rintro i hi ⟨j,h1,h2,h3⟩
   rw [qq0]
   by_cases hp : p i
   ·rw [h i (by omega) hp]
    refine ih (i + 1) (by omega) ⟨j,?_,h2,h3⟩
    have : i ≠ j := fun e => h3 (e ▸ hp)
    omega
   ·rw [h' i (by omega) hp]; rfl
 obtain ⟨i,h1,h2⟩ := hx
 exact key n 0 (by omega) ⟨i,by omega,h1,h2⟩
theorem row_same {α : Type} [DecidableEq α] {body : Int → Option (Int ⊕ (Unit ⊕ Bool))} (x y : List α) (hl : x.length = y.length)
  (h1 : ∀ i (h : i < x.length) (h' : i < y.length),body (i : Int) = if x[i] = y[i] then some (.inl ((i + 1 : Nat) : Int)) else some (.inr (.inr false))) (h2 : body (x.length : Int) = some (.inr (.inl ()))) :
  (qA body 0).bind (fun o => Sum.elim (fun _ : Unit => some true) (fun w => some w) o) = some (decide (x = y)) := by
 by_cases he : x = y
 ·subst he
  refine (bdO (all_true (n := x.length) 0 (by omega) (fun i _ hi => by rw [h1 i hi hi,if_pos rfl]) h2)).trans ?_
  simp
 ·have hx : ∃ i,i < x.length ∧ ¬ x[i]? = y[i]? := by
   refine Classical.byContradiction fun hc => he ?_
   apply List.ext_getElem?
   intro i
   by_cases hi : i < x.length
   ·exact Classical.byContradiction fun hp => hc ⟨i,hi,hp⟩
   ·rw [List.getElem?_eq_none (by omega),List.getElem?_eq_none (by omega)]
  have hf := all_false (body := body) (n := x.length) (p := fun i => x[i]? = y[i]?) (o := .inr false) (fun i hi hp => by
   have hy : i < y.length := by omega
   rw [h1 i hi hy,if_pos (by simpa [hi,hy] using hp)]) (fun i hi hp => by
   have hy : i < y.length := by omega
   rw [h1 i hi hy,if_neg (by simpa [hi,hy] using hp)]) hx
  refine (bdO hf).trans ?_
  simp [he]
theorem concat_eq (ls : List (List Cg)) (hl : ls.length ≤ 1000) (he : ∀ x ∈ ls,x.length ≤ 1000) : qn1 ls = some ls.flatten := by
 unfold qn1
 have hx : ∀ i (hi : i < ls.length),ls[i].length ≤ 1000 := fun i hi => he _ (List.getElem_mem hi)
 refine (bdO (qY ls (fun i (s : Nat) => ((s : Int),(i : Int))) (fun s x => s + x.length) (fun i s => s ≤ i * 1000) (fun s => (s : Int)) 0 (by omega) (fun i hi s hs => ⟨?_,?_⟩) (fun s _ => ?_))).trans ?_
 ·have h1 := hx i hi
  have hw : IntKind.wrap .i64 ((s : Int) + (ls[i].length : Int)) = ((s + ls[i].length : Nat) : Int) := by rw [wI64 (by omega)]; omega
  have hn : decide (((s + ls[i].length : Nat) : Int) < 0) = false := by simp; omega
  simp only [ilt hi,cond_true,q20 hi,Option.bind_some,hw,hn,cond_false,wSu (show i < 9223372036854775807 by omega)]
 ·have h1 := hx i hi
  show s + ls[i].length ≤ (i + 1) * 1000
  omega
 ·simp only [ige,cond_false]
 ·have hsum : ls.foldl (fun s x => s + x.length) 0 ≤ 1000000 := by
   have key : ∀ (l : List (List Cg)) (s : Nat),(∀ x ∈ l,x.length ≤ 1000) → l.foldl (fun s x => s + x.length) s ≤ s + l.length * 1000 := by
    intro l
    induction l with
    | nil => intro s _; simp
    | cons x l ih =>
     intro s h
     have h1 := h x (by simp)
     have h2 := ih (s + x.length) (fun y hy => h y (by simp [hy]))
     simp only [List.foldl_cons,List.length_cons]
     omega
   have := key ls 0 he
   omega
  generalize ls.foldl (fun s x => s + x.length) 0 = q at hsum
  rw [bdO (qE2 (by omega))]
  refine qs0 ((qY ls (fun i s => ((i : Int),s)) (fun s x => s ++ x) (fun i s => s.length ≤ i * 1000) id [] (by simp) (fun i hi s hs => ⟨?_,?_⟩) (fun s _ => ?_)).trans ?_)
  ·have h1 := hx i hi
   simp only [ilt hi,cond_true,q20 hi,Option.bind_some,wSu (show i < 9223372036854775807 by omega)]
   rw [bdO (qL (by omega))]
  ·have h1 := hx i hi
   simp only [List.length_append]
   omega
  ·simp only [ige,cond_false,id]
  ·simp only [id]
   have key : ∀ (l : List (List Cg)) (s : List Cg),l.foldl (fun s x => s ++ x) s = s ++ l.flatten := by
    intro l
    induction l with
    | nil => intro s; simp
    | cons x l ih => intro s; rw [List.foldl_cons,ih]; simp
   rw [key]; rfl
def qi3 (c : Cg) : Cg := if c.2.2 = true then (c.1,mt,c.2.2) else c
def normE (e : ByteArray × Bool) : ByteArray × Bool := if e.2 = true then (mt,e.2) else e
theorem normC_key (c : Cg) : (qi3 c).1 = c.1 := by unfold qi3; split <;> rfl
theorem normC_val (c : Cg) : (qi3 c).2 = normE c.2 := by unfold qi3 normE; split <;> simp_all
theorem normE_idem (e : ByteArray × Bool) : normE (normE e) = normE e := by
 obtain ⟨v,g⟩ := e
 cases g <;> rfl
theorem eff_normE (e : ByteArray × Bool) : eff (normE e) = eff e := by
 obtain ⟨v,g⟩ := e
 cases g <;> rfl
def joinM (cs : List Cg) : List (List UInt8 × Cg) := qK2 (cs.map fun c => (c.1,qi3 c))
def q33 (cs : List Cg) : List Cg := riseP (joinM cs)
theorem mget_map_key {β γ : Type} (g : List UInt8 × β → γ) (l : List (List UInt8 × β)) (k : List UInt8) : mget (l.map fun p => (p.1,g p)) k = (mget l k).map fun v => g (k,v) := by
 induction l with
 | nil => rfl
 | cons p l ih =>
  rw [List.map_cons,qI,qI,ih]
  by_cases h : k = p.1
  ·subst h; simp
  ·simp [h]
theorem joinM_own (cs : List Cg) : q04 (joinM cs) := by
 have key : ∀ (l : List Cg) (m : List (List UInt8 × Cg)),q04 m → q04 ((l.map fun c => (c.1,qi3 c)).foldl (fun m p => mset m p.1 p.2) m) := by
  intro l
  have := own_foldl (β := ByteArray × Bool) (fun _ => true) qi3 normC_key l
  intro m hm
  have h := this m hm
  rw [List.foldl_map]
  simpa using h
 exact key cs [] (fun p hp => by cases hp)
theorem joinM_nodup (cs : List Cg) : ((joinM cs).map (·.1)).Nodup := qf0 _
theorem qy0 (cs : List Cg) : Rising (q33 cs) := riseP_rising (joinM_own cs) (joinM_nodup cs)
theorem qa1 (cs : List Cg) (k : List UInt8) : mget (q33 cs) k = (mget cs.reverse k).map normE := by
 unfold q33
 rw [mget_riseP (joinM_own cs) (joinM_nodup cs)]
 unfold joinM
 rw [qO3,← List.map_reverse,mget_map_key]
 cases mget cs.reverse k with
 | none => rfl
 | some v => simp only [Option.map_some]; rw [normC_val]
theorem joinP_len (cs : List Cg) : (q33 cs).length ≤ cs.length := by
 unfold q33
 rw [riseP_len]
 have := q62 (cs.map fun c => (c.1,qi3 c))
 rw [List.length_map] at this
 exact this
theorem updF_joinP (f : Fn) (cs : List Cg) : updF f (q33 cs) = updF f cs := by
 funext k
 rw [qN0 (qy0 cs).nodup,qa1]
 unfold updF
 cases mget cs.reverse k with
 | none => rfl
 | some e => simp only [Option.map_some]; exact eff_normE e
theorem join_eq (ls : List (List Cg)) (hl : ls.length ≤ 1000) (he : ∀ x ∈ ls,x.length ≤ 1000) (hs : ls.flatten.length ≤ 1000000) : qj2 ls = some (q33 ls.flatten) := by
 unfold qj2
 have hn : ∀ c : Cg,(cond c.2.2 (some (c.1,(ByteArray.mk #[]),c.2.2)) (some c) : Option Cg) = some (qi3 c) := by
  intro c
  obtain ⟨k,v,g⟩ := c
  cases g <;> rfl
 have h := qY (body := fun v103 : Int × List (List UInt8 × Cg) =>
   cond (decide (v103.1 < (ls.flatten.length : Int))) (
    (gx ls.flatten v103.1).bind fun x110 =>
    (((
     cond x110.2.2 (
      some (x110.1,(ByteArray.mk #[]),x110.2.2)
     ) (
      some x110
     )
    ) : Option ((List UInt8) × ByteArray × Bool))).bind fun o116 =>
    some (.inl ((IntKind.wrap .i64 (v103.1 + 1)),(mset v103.2 o116.1 o116)))
   ) (
    some (.inr v103.2)
   )) ls.flatten (fun i s => ((i : Int),s)) (fun m c => mset m c.1 (qi3 c)) (fun _ _ => True) id [] trivial (fun i hi s _ => ⟨?_,trivial⟩) (fun s _ => ?_)
 ·rw [bdO (concat_eq ls hl he)]
  refine (bdO h).trans ?_
  have e : ls.flatten.foldl (fun m c => mset m c.1 (qi3 c)) [] = joinM ls.flatten := by
   unfold joinM qK2
   rw [List.foldl_map]
  have hlen := q62 (ls.flatten.map fun c => (c.1,qi3 c))
  rw [List.length_map] at hlen
  simp only [id]
  rw [e,bdO (rising_eq (joinM ls.flatten) (by unfold joinM; omega))]
  rfl
 ·simp only [ilt hi,cond_true,q20 hi,Option.bind_some,hn,normC_key,wSu (show i < 9223372036854775807 by omega)]
 ·simp only [ige,cond_false,id]
theorem flat1 (x : List Cg) : [x].flatten = x := by simp
theorem join1_eq (x : List Cg) (hx : x.length ≤ 1000) : qj2 [x] = some (q33 x) := by
 have := join_eq [x] (by simp) (by intro z hz; simp at hz; subst hz; exact hx) (by rw [flat1]; omega)
 rwa [flat1] at this
end Go.Val
namespace Go.Val
open Go.Lib
theorem wrap_u64 {n : Int} (h : 0 ≤ n ∧ n ≤ 9223372036854775807) : IntKind.wrap .u64 n = n := by
 have e : IntKind.wrap .u64 n = n % 18446744073709551616 := by
  simp [IntKind.wrap,IntKind.bits,IntKind.signed]
 rw [e]
 omega
theorem mid_eq {i j : Nat} (h : i + j ≤ 2000000) : IntKind.wrap .i64 (Int.fdiv (IntKind.wrap .u64 (IntKind.wrap .i64 ((i : Int) + (j : Int)))) (2 ^ 1)) = (((i + j) / 2 : Nat) : Int) := by
 rw [wI64 (n := (i : Int) + (j : Int)) (by omega),wrap_u64 (by omega)]
 have : Int.fdiv ((i : Int) + (j : Int)) (2 ^ 1) = (((i + j) / 2 : Nat) : Int) := by
  rw [Int.fdiv_eq_ediv_of_nonneg _ (by decide)]
  omega
 rw [this,wI64 (by omega)]
theorem vplace1_eq (p : Pr) (k : Ky) : qS0 p k = some (compareBytes p.1 k) := rfl
theorem rising_lt {β : Type} {l : List (List UInt8 × β)} (hr : Rising l) {i j : Nat} (hi : i < l.length) (hj : j < l.length) (hij : i < j) : Lt l[i].1 l[j].1 := by
 have := List.pairwise_iff_getElem.1 hr i j (by simpa using hi) (by simpa using hj) hij
 simpa using this
theorem place_gt {β : Type} {l : List (List UInt8 × β)} (hr : Rising l) {k : Ky} {i : Nat} (hi : i < l.length) (h : Lt l[i].1 k) : i < qO l k := by
 refine Nat.lt_of_not_le fun hle => ?_
 have hp : qO l k < l.length := by omega
 have := place_at hp
 rcases Nat.lt_or_eq_of_le hle with h1 | h1
 ·exact this (lt_trans (rising_lt hr hp hi h1) h)
 ·simp only [h1] at this
  exact this h
theorem place_le_of {β : Type} {l : List (List UInt8 × β)} {k : Ky} {i : Nat} (hi : i < l.length) (h : ¬ Lt l[i].1 k) : qO l k ≤ i :=
 Nat.le_of_not_lt fun hlt => h (qi2 hlt hi)
theorem search_eq (l : List Pr) (hr : Rising l) (k : Ky) (hl : l.length ≤ 1000000) : qH l k = some ((qO l k : Int),(mget l k).isSome) := by
 unfold qH
 have key : ∀ (n i j : Nat),j - i ≤ n → i ≤ qO l k → qO l k ≤ j → j ≤ l.length → qA (V := Int × Int) (O := Int) (fun v72 =>
   cond (decide (v72.1 < v72.2)) (
    (gx l (IntKind.wrap .i64 (Int.fdiv (IntKind.wrap .u64 (IntKind.wrap .i64 (v72.1 + v72.2))) (2 ^ 1)))).bind fun x79 =>
    (qS0 x79 k).bind fun x82 =>
    cond (decide (x82 < 0)) (
     some (.inl ((IntKind.wrap .i64 ((IntKind.wrap .i64 (Int.fdiv (IntKind.wrap .u64 (IntKind.wrap .i64 (v72.1 + v72.2))) (2 ^ 1))) + 1)),v72.2))
    ) (
     some (.inl (v72.1,(IntKind.wrap .i64 (Int.fdiv (IntKind.wrap .u64 (IntKind.wrap .i64 (v72.1 + v72.2))) (2 ^ 1)))))
    )
   ) (
    some (.inr v72.1)
   )) ((i : Int),(j : Int)) = some (qO l k : Int) := by
  intro n
  induction n with
  | zero =>
   intro i j h1 h2 h3 h4
   have e : i = j := by omega
   subst e
   rw [qq0]
   simp only [ige,cond_false,Option.bind_some]
   have : i = qO l k := by omega
   rw [this]
  | succ n ih =>
   intro i j h1 h2 h3 h4
   rw [qq0]
   by_cases hij : i < j
   ·have hm : (i + j) / 2 < l.length := by omega
    simp only [ilt hij,cond_true,mid_eq (show i + j ≤ 2000000 by omega),q20 hm,Option.bind_some,vplace1_eq]
    by_cases hc : Lt l[(i + j) / 2].1 k
    ·have hd : decide (compareBytes l[(i + j) / 2].1 k < 0) = true := decide_eq_true hc
     have := place_gt hr hm hc
     simp only [hd,cond_true,Option.bind_some,wSu (show (i + j) / 2 < 9223372036854775807 by omega)]
     exact ih _ _ (by omega) (by omega) h3 h4
    ·have hd : decide (compareBytes l[(i + j) / 2].1 k < 0) = false := decide_eq_false hc
     have := place_le_of hm hc
     simp only [hd,cond_false,Option.bind_some]
     exact ih _ _ (by omega) h2 (by omega) (by omega)
   ·have e : i = j := by omega
    subst e
    simp only [ige,cond_false,Option.bind_some]
    have : i = qO l k := by omega
    rw [this]
 refine (bdO (key l.length 0 l.length (by omega) (by omega) (qB2 l k) (by omega))).trans ?_
 have hp := qB2 l k
 have hg := qx4 hr k
 by_cases h : qO l k < l.length
 ·rw [dif_pos h] at hg
  simp only [ilt h,cond_true,q20 h,Option.bind_some,vplace1_eq]
  have : decide (compareBytes l[qO l k].1 k = 0) = (mget l k).isSome := by
   rw [hg]
   by_cases he : l[qO l k].1 = k
   ·rw [if_pos he]
    simp only [Option.isSome_some,decide_eq_true_eq]
    rw [he,cb_refl]
   ·rw [if_neg he]
    simp only [Option.isSome_none,decide_eq_false_iff_not]
    exact fun h0 => he (cb_eq h0)
  rw [this]
 ·rw [dif_neg h] at hg
  have e : qO l k = l.length := by omega
  rw [e,hg]
  simp only [ige,cond_false,Option.bind_some]
  rfl
theorem vplace_eq (l : List Pr) (hr : Rising l) (k : Ky) (hl : l.length ≤ 1000000) : qK0 l k = some ((qO l k : Int),(mget l k).isSome) := by
 unfold qK0
 rw [bdO (search_eq l hr k hl)]
theorem plainGet_eq (l : List Pr) (hr : Rising l) (k : Ky) (hl : l.length ≤ 1000000) : qX0 l k = some ((mget l k).getD mt,(mget l k).isSome,0) := by
 unfold qX0
 rw [bdO (vplace_eq l hr k hl)]
 have hg := qx4 hr k
 by_cases h : qO l k < l.length
 ·rw [dif_pos h] at hg
  by_cases he : l[qO l k].1 = k
  ·rw [if_pos he] at hg
   rw [hg]
   simp only [Option.isSome_some,Bool.not_true,cond_false,q20 h,Option.bind_some,Option.getD_some]
  ·rw [if_neg he] at hg
   rw [hg]
   rfl
 ·rw [dif_neg h] at hg
  rw [hg]
  rfl
def qv4 {β : Type} (l : List (List UInt8 × β)) (b : Option Ky) : Nat := l.findIdx fun p => !decide (qz2 p.1 b)
theorem placeB_some {β : Type} (l : List (List UInt8 × β)) (k : Ky) : qv4 l (some k) = qO l k := rfl
theorem placeB_none {β : Type} (l : List (List UInt8 × β)) : qv4 l none = l.length := by
 unfold qv4
 rw [List.findIdx_eq_length]
 intro p _
 have : decide (qz2 p.1 none) = true := decide_eq_true trivial
 rw [this]
 rfl
theorem scan_filter : ∀ (l : List Pr),Rising l → ∀ (a : Ky) (b : Option Ky),((l.take (max (qO l a) (qv4 l b))).drop (qO l a)) = l.filter fun p => !decide (Lt p.1 a) && decide (qz2 p.1 b)
 | [],_,_,_ => by simp
 | x :: l,hr,a,b => by
  have hr' := List.pairwise_cons.1 hr
  have hgt : ∀ y ∈ l,Lt x.1 y.1 := fun y hy => hr'.1 y.1 (List.mem_map.2 ⟨y,hy,rfl⟩)
  have ih := scan_filter l hr'.2 a b
  have none_of : ∀ (p : Pr → Bool),(∀ y ∈ l,p y = false) → l.filter p = [] := fun p h => List.filter_eq_nil_iff.2 fun y hy => by rw [h y hy]; simp
  have p1 : qO (x :: l) a = if Lt x.1 a then qO l a + 1 else 0 := by
   unfold qO
   rw [List.findIdx_cons]
   by_cases h : Lt x.1 a <;> simp [h]
  have p2 : qv4 (x :: l) b = if qz2 x.1 b then qv4 l b + 1 else 0 := by
   unfold qv4
   rw [List.findIdx_cons]
   by_cases h : qz2 x.1 b <;> simp [h]
  have notU : ¬ qz2 x.1 b → ∀ y ∈ l,¬ qz2 y.1 b := fun h y hy hu => h (under_le (le_of_lt (hgt y hy)) hu)
  rw [p1,p2]
  by_cases ha : Lt x.1 a
  ·rw [if_pos ha,List.filter_cons_of_neg (by simp [ha])]
   by_cases hb : qz2 x.1 b
   ·rw [if_pos hb,show max (qO l a + 1) (qv4 l b + 1) = max (qO l a) (qv4 l b) + 1 by omega,List.take_succ_cons,List.drop_succ_cons,ih]
   ·rw [if_neg hb,Nat.max_eq_left (Nat.zero_le _),none_of _ fun y hy => by simp [notU hb y hy]]
    simp
  ·rw [if_neg ha]
   have ga : ∀ y ∈ l,¬ Lt y.1 a := fun y hy h => ha (lt_trans (hgt y hy) h)
   have pz : qO l a = 0 := by
    unfold qO
    cases l with
    | nil => rfl
    | cons y l => rw [List.findIdx_cons]; simp [ga y (by simp)]
   rw [pz] at ih
   simp only [Nat.zero_max,List.drop_zero] at ih ⊢
   by_cases hb : qz2 x.1 b
   ·rw [if_pos hb,List.take_succ_cons,ih,List.filter_cons_of_pos (by simp [ha,hb])]
   ·rw [if_neg hb,List.filter_cons_of_neg (by simp [hb]),none_of _ fun y hy => by simp [notU hb y hy]]
    simp
theorem placeB_le {β : Type} (l : List (List UInt8 × β)) (b : Option Ky) : qv4 l b ≤ l.length := List.findIdx_le_length
theorem plainScan_eq (l : List Pr) (hr : Rising l) (s : Sp) (hl : l.length ≤ 1000000) : qA0 l s = some (l.filter fun p => inS s p.1,0) := by
 unfold qA0
 rw [bdO (vplace_eq l hr s.1 hl)]
 have h2 : ((cond (!s.2.2) ((qK0 l s.2.1).bind fun x16 => some x16.1) (some (l.length : Int))) : Option Int) = some ((qv4 l (toB s) : Nat) : Int) := by
  obtain ⟨a,b,e⟩ := s
  cases e with
  | true => simp only [toB,Bool.not_true,cond_false,if_true,placeB_none]
  | false => simp only [toB,Bool.not_false,cond_true,Bool.false_eq_true,if_false,placeB_some,bdO (vplace_eq l hr b hl)]
 rw [bdO h2]
 have q1 := qB2 l s.1
 have q2 := placeB_le l (toB s)
 have hm : max ((qO l s.1 : Nat) : Int) ((qv4 l (toB s) : Nat) : Int) = ((max (qO l s.1) (qv4 l (toB s)) : Nat) : Int) := by omega
 simp only [hm]
 rw [bdO (qX (by omega))]
 have hpc : qm0 l ((qO l s.1 : Nat) : Int) ((max (qO l s.1) (qv4 l (toB s)) : Nat) : Int) = l.filter fun p => inS s p.1 := by
  unfold qm0
  simp only [Int.toNat_natCast]
  rw [scan_filter l hr]
  rfl
 rw [hpc]
 unfold q91
 have := List.length_filter_le (fun p : Pr => inS s p.1) l
 have hf : fits (([] : List Pr).length + (l.filter fun p => inS s p.1).length) 40 = some () := qL (by simp only [List.length_nil]; omega)
 rw [hf]
 rfl
theorem keyIn_eq (s : Sp) (k : Ky) : key_In s k = some (inS s k) := by
 unfold key_In
 refine qs0 ?_
 obtain ⟨a,b,e⟩ := s
 rw [bdO (show qw k a = some (compareBytes k a) from rfl)]
 by_cases h : Lt k a
 ·have : decide (compareBytes k a ≥ 0) = false := by simp only [ge_iff_le,decide_eq_false_iff_not]; exact Int.not_le.2 h
  simp [this,inS,h]
 ·have : decide (compareBytes k a ≥ 0) = true := by simp only [ge_iff_le,decide_eq_true_eq]; exact Int.not_lt.1 h
  rw [this,cond_true]
  cases e with
  | true => simp [inS,h,toB,qz2]
  | false =>
   simp only [cond_false]
   rw [bdO (show qw k b = some (compareBytes k b) from rfl)]
   simp only [inS,toB,h,decide_false,Bool.not_false,Bool.true_and,Bool.false_eq_true,if_false]
   rfl
theorem refIn_eq (s : Sp) (k : Ky) : qT2 s k = some (inS s k) := by
 unfold qT2
 refine qs0 ?_
 obtain ⟨a,b,e⟩ := s
 have q : ∀ l : Ky,(qi1 l).data.toList = l := fun l => rfl
 simp only [q]
 have e1 : ∀ x y : Ky,Op.bytesLess x y = decide (Lt x y) := fun x y => cb_less x y
 simp only [e1]
 by_cases h : Lt k a
 ·simp [inS,h]
 ·cases e <;> simp [inS,h,toB,qz2]
theorem has_eq (l : List Sp) (k : Ky) (hl : l.length ≤ 1000000) : qA3 l k = some (hasS l k) := by
 unfold qA3
 have hb : ∀ i (hi : i < l.length),inS l[i] k = false → (fun v72 : Int =>
   cond (decide (v72 < (l.length : Int))) (
    (gx l v72).bind fun x79 =>
    (qT2 x79 k).bind fun x82 =>
    cond x82 (
     some (.inr (.inr true) : Int ⊕ (Unit ⊕ Bool))
    ) (
     some (.inl (IntKind.wrap .i64 (v72 + 1)))
    )
   ) (
    some (.inr (.inl ()))
   )) (i : Int) = some (.inl ((i + 1 : Nat) : Int)) := by
  intro i hi h
  simp only [ilt hi,cond_true,q20 hi,Option.bind_some,refIn_eq,h,cond_false,wSu (show i < 9223372036854775807 by omega)]
 cases hh : hasS l k with
 | true =>
  obtain ⟨s,hs,h1⟩ := qW1.1 hh
  obtain ⟨i,hi,rfl⟩ := List.getElem_of_mem hs
  refine (bdO (all_false (n := l.length) (p := fun i => ∀ hi : i < l.length,inS l[i] k = false) (o := .inr true) (fun i hi hp => hb i hi (hp hi)) (fun i hi hp => ?_) ⟨i,hi,fun hc => by rw [hc hi] at h1; cases h1⟩)).trans rfl
  have : inS l[i] k = true := by
   cases q : inS l[i] k with
   | true => rfl
   | false => exact absurd (fun _ => q) hp
  simp only [ilt hi,cond_true,q20 hi,Option.bind_some,refIn_eq,this]
 | false =>
  have hn : ∀ i (hi : i < l.length),inS l[i] k = false := by
   intro i hi
   cases q : inS l[i] k with
   | false => rfl
   | true => rw [qW1.2 ⟨_,List.getElem_mem hi,q⟩] at hh; cases hh
  refine (bdO (all_true (n := l.length) (o := .inl ()) 0 (by omega) (fun i _ hi => hb i hi (hn i hi)) ?_)).trans rfl
  simp only [ige,cond_false]
end Go.Val
namespace Go.Val
open Go.Lib
theorem wrap_u8 (x : UInt8) : IntKind.wrap .u8 ((x.toNat : Int) + 1) = (((x.toNat + 1) % 256 : Nat) : Int) := by
 have e : ∀ n : Int,IntKind.wrap .u8 n = n % 256 := by intro n; simp [IntKind.wrap,IntKind.bits,IntKind.signed]
 rw [e]
 omega
theorem u8_of (n : Nat) : (UInt8.ofNat (n % 256)).toNat = n % 256 := by
 rw [UInt8.toNat_ofNat']
 omega
theorem wrap_pred {m : Nat} (h : m ≤ 24) : IntKind.wrap .i64 ((m : Int) - 1) = (m : Int) - 1 := wI64 (by omega)
def oneB (v117 : Int × (List UInt8 × List UInt8 × Bool)) : Option ((Int × (List UInt8 × List UInt8 × Bool)) ⊕ (Unit ⊕ (List UInt8 × List UInt8 × Bool))) :=
   cond (decide (v117.1 ≥ 0)) (
    (ck (decide (0 ≤ v117.1 ∧ v117.1 < 24))).bind fun _ =>
    (gx v117.2.2.1 v117.1).bind fun x127 =>
    (ck (decide (v117.1.toNat < v117.2.2.1.length))).bind fun _ =>
    (ck (decide (0 ≤ (IntKind.wrap .u8 ((x127.toNat : Int) + 1)) ∧ (IntKind.wrap .u8 ((x127.toNat : Int) + 1)) < 256))).bind fun _ =>
    (gx (List.set v117.2.2.1 v117.1.toNat (UInt8.ofNat (IntKind.wrap .u8 ((x127.toNat : Int) + 1)).toNat)) v117.1).bind fun x136 =>
    cond (decide ((x136.toNat : Int) ≠ 0)) (
     some (.inr (.inr (v117.2.1,(List.set v117.2.2.1 v117.1.toNat (UInt8.ofNat (IntKind.wrap .u8 ((x127.toNat : Int) + 1)).toNat)),v117.2.2.2)))
    ) (
     some (.inl ((IntKind.wrap .i64 (v117.1 - 1)),(v117.2.1,(List.set v117.2.2.1 v117.1.toNat (UInt8.ofNat (IntKind.wrap .u8 ((x127.toNat : Int) + 1)).toNat)),v117.2.2.2)))
    )
   ) (
    some (.inr (.inl ()))
   )
theorem one_loop (k : Ky) (hk : k.length = 24) : ∀ m : Nat,m ≤ 24 → k = k.take m ++ List.replicate (24 - m) 255 →
  ∃ o,qA oneB ((m : Int) - 1,(k,k.take m ++ List.replicate (24 - m) 0,false)) = some o ∧ (o = .inl () ∧ valK k + 1 = 256 ^ 24 ∨ ∃ s,o = .inr s ∧ OneS k s)
 | 0,_,h => by
  refine ⟨.inl (),?_,.inl ⟨rfl,?_⟩⟩
  ·rw [qq0]
   have : decide (((0 : Nat) : Int) - 1 ≥ 0) = false := by decide
   simp only [oneB,this,cond_false,Option.bind_some]
  ·rw [h]
   simp only [List.take_zero,List.nil_append]
   exact valK_ff 24
 | n + 1,hm,h => by
  have hn : n < k.length := by omega
  obtain ⟨tq,hto⟩ : ∃ tq,tq = k.take (n + 1) ++ List.replicate (24 - (n + 1)) (0 : UInt8) := ⟨_,rfl⟩
  have htl : tq.length = 24 := by rw [hto]; simp; omega
  have hsplit : k.take (n + 1) = k.take n ++ [k[n]] := by rw [List.take_add_one]; simp [hn]
  have hset : ∀ y : UInt8,tq.set n y = k.take n ++ y :: List.replicate (23 - n) 0 := by
   intro y
   rw [hto,hsplit]
   have hl : (k.take n).length = n := by simp; omega
   rw [List.append_assoc,List.set_append_right _ _ (by omega),hl]
   simp only [Nat.sub_self,List.singleton_append,List.set_cons_zero]
   rw [show 24 - (n + 1) = 23 - n by omega]
  have hget : tq[n]? = some k[n] := by
   rw [hto,List.getElem?_append_left (by simp; omega),List.getElem?_take_of_lt (by omega),List.getElem?_eq_getElem hn]
  have hi : ((n + 1 : Nat) : Int) - 1 = (n : Int) := by omega
  rw [← hto,hi,qq0]
  have hge : decide ((n : Int) ≥ 0) = true := by simp
  have hgx : gx tq (n : Int) = some k[n] := by simp only [gx,Int.toNat_natCast,hget]; simp
  obtain ⟨y,hy⟩ : ∃ y,y = UInt8.ofNat ((k[n].toNat + 1) % 256) := ⟨_,rfl⟩
  have hyt : y.toNat = (k[n].toNat + 1) % 256 := by rw [hy]; exact u8_of _
  have hgx2 : gx (tq.set n y) (n : Int) = some y := by
   simp only [gx,Int.toNat_natCast]
   rw [List.getElem?_set_self (by omega)]
   simp
  have hkn : k[n].toNat < 256 := k[n].toNat_lt
  have hb : oneB ((n : Int),(k,tq,false)) = cond (decide ((y.toNat : Int) ≠ 0)) (some (.inr (.inr (k,tq.set n y,false)))) (some (.inl ((n : Int) - 1,(k,tq.set n y,false)))) := by
   unfold oneB
   simp only [hge,cond_true]
   rw [bdO (qE2 (by omega)),bdO hgx,bdO (qE2 (by simp only [Int.toNat_natCast]; omega))]
   simp only [wrap_u8,Int.toNat_natCast,← hy]
   rw [bdO (qE2 (by omega)),bdO hgx2,wrap_pred (by omega)]
  rw [hb]
  by_cases h0 : y.toNat = 0
  ·have hd : decide ((y.toNat : Int) ≠ 0) = false := by simp [h0]
   have hff : k[n] = 255 := by
    apply UInt8.toNat.inj
    show k[n].toNat = 255
    omega
   have hy0 : y = 0 := by
    apply UInt8.toNat.inj
    exact h0
   rw [hd,cond_false]
   have hto' : tq.set n y = k.take n ++ List.replicate (24 - n) 0 := by
    rw [hset,hy0,show 24 - n = (23 - n) + 1 by omega,List.replicate_succ]
   rw [hto']
   refine one_loop k hk n (by omega) ?_
   have : List.replicate (24 - n) (255 : UInt8) = k[n] :: List.replicate (24 - (n + 1)) 255 := by
    rw [hff,show 24 - n = (24 - (n + 1)) + 1 by omega,List.replicate_succ]
   rw [this]
   have h' := h
   rw [hsplit,List.append_assoc,List.singleton_append] at h'
   exact h'
  ·have hd : decide ((y.toNat : Int) ≠ 0) = true := decide_eq_true (by omega)
   rw [hd,cond_true]
   refine ⟨_,rfl,.inr ⟨_,rfl,rfl,by simp only [List.length_set]; exact htl,.inl ⟨rfl,?_⟩⟩⟩
   simp only
   rw [hset]
   have h' := h
   rw [hsplit,List.append_assoc,List.singleton_append] at h'
   have hv : valK k = valK (k.take n ++ k[n] :: List.replicate (24 - (n + 1)) 255) := congrArg valK h'
   rw [hv,q42,q42]
   simp only [valK,List.length_cons,List.length_replicate,valK_zero]
   have hf := valK_ff (24 - (n + 1))
   rw [show 24 - (n + 1) = 23 - n by omega] at hf ⊢
   have hyk : y.toNat = k[n].toNat + 1 := by omega
   rw [hyk,Nat.add_mul]
   omega
theorem keyOne_ex (k : Ky) (hk : k.length = 24) : ∃ s,qP4 k = some s ∧ OneS k s := by
 obtain ⟨o,h1,h2⟩ := one_loop k hk 24 (Nat.le_refl _) (by
  have : k.take 24 = k := List.take_of_length_le (by omega)
  rw [this]
  simp)
 have e : (k.take 24 ++ List.replicate (24 - 24) (0 : UInt8)) = k := by
  rw [List.take_of_length_le (by omega)]
  simp
 rw [e] at h1
 unfold qP4
 rcases h2 with ⟨rfl,h3⟩ | ⟨s,rfl,h3⟩
 ·exact ⟨_,(bdO h1).trans rfl,rfl,by simp [zK],.inr ⟨rfl,rfl,h3⟩⟩
 ·exact ⟨s,(bdO h1).trans rfl,h3⟩
end Go.Val
namespace Go.Val
open Go.Lib
theorem qn3 {V O S : Type} {body : V → Option (V ⊕ O)} (n : Nat) (enc : Nat → S → V) (J : Nat → S → Prop) (o : S → O) (s0 : S) (h0 : J 0 s0)
  (hstep : ∀ i,i < n → ∀ s,J i s → ∃ s',body (enc i s) = some (.inl (enc (i + 1) s')) ∧ J (i + 1) s')
  (hend : ∀ s,J n s → body (enc n s) = some (.inr (o s))) : ∃ s,J n s ∧ qA body (enc 0 s0) = some (o s) := by
 have key : ∀ k i s,i + k = n → J i s → ∃ s',J n s' ∧ qA body (enc i s) = some (o s') := by
  intro k
  induction k with
  | zero =>
   intro i s hi hJ
   have e : i = n := by omega
   subst e
   exact ⟨s,hJ,by rw [qq0,hend s hJ]; rfl⟩
  | succ k ih =>
   intro i s hi hJ
   obtain ⟨s',h1,h2⟩ := hstep i (by omega) s hJ
   obtain ⟨s'',h3,h4⟩ := ih (i + 1) s' (by omega) h2
   exact ⟨s'',h3,by rw [qq0,h1]; exact h4⟩
 exact key n 0 s0 (by omega) h0
def bd (b : Option Ky) : Ky × Bool := (b.getD zK,b.isNone)
theorem bounds_eq (s : Sp) : qC0 s = some ((s.1,false),bd (toB s)) := by
 obtain ⟨a,b,e⟩ := s
 cases e <;> rfl
theorem made_eq (a : Ky) (b : Option Ky) : qu2 (a,false) (bd b) = some (mkS a b) := rfl
theorem cmpK_eq (a : Ky) (b : Option Ky) : qv (a,false) (bd b) = some (match b with | none => -1 | some x => compareBytes a x) := by
 cases b <;> rfl
theorem cmpB_eq (a b : Option Ky) : qv (bd a) (bd b) = some (match a,b with | none,none => 0 | none,some _ => 1 | some _,none => -1 | some x,some y => compareBytes x y) := by
 cases a <;> cases b <;> rfl
theorem clean1_eq (s : Sp) : ql0 s = some (!full s) := by
 unfold ql0
 rw [bdO (bounds_eq s)]
 simp only
 rw [bdO (cmpK_eq _ _)]
 cases h : toB s with
 | none => simp [full,h,qz2]
 | some b =>
  simp only [full,h,qz2]
  by_cases hl : Lt s.1 b
  ·have : compareBytes s.1 b < 0 := hl
   simp [hl]
   omega
  ·have : ¬ compareBytes s.1 b < 0 := hl
   simp [hl]
   omega
theorem index_eq (l : List Sp) (hl : l.length ≤ 1000000) : qu0 l = some (if l.findIdx (fun s => !full s) < l.length then (l.findIdx (fun s => !full s) : Int) else -1) := by
 unfold qu0
 have hb : ∀ i (hi : i < l.length),full l[i] = true → (fun v72 : Int =>
   cond (decide (v72 < (l.length : Int))) (
    (gx l v72).bind fun x79 =>
    (ql0 x79).bind fun x82 =>
    cond x82 (
     some (.inr (.inr v72) : Int ⊕ (Unit ⊕ Int))
    ) (
     some (.inl (IntKind.wrap .i64 (v72 + 1)))
    )
   ) (
    some (.inr (.inl ()))
   )) (i : Int) = some (.inl ((i + 1 : Nat) : Int)) := by
  intro i hi h
  simp only [ilt hi,cond_true,q20 hi,Option.bind_some,clean1_eq,h,Bool.not_true,cond_false,wSu (show i < 9223372036854775807 by omega)]
 by_cases h : l.findIdx (fun s => !full s) < l.length
 ·rw [if_pos h]
  have hp : full l[l.findIdx (fun s => !full s)] = false := by simpa using List.findIdx_getElem (w := h)
  refine (bdO (qe0 (o := Sum.inr ((l.findIdx (fun s => !full s) : Nat) : Int)) (fun i => (i : Int)) (l.findIdx (fun s => !full s)) (fun i hi => ?_) ?_)).trans rfl
  ·have hi' : i < l.length := by omega
   refine hb i hi' ?_
   have := List.not_of_lt_findIdx hi
   simpa using this
  ·simp only [ilt h,cond_true,q20 h,Option.bind_some,clean1_eq,hp,Bool.not_false]
 ·rw [if_neg h]
  have he : l.findIdx (fun s => !full s) = l.length := by
   have := List.findIdx_le_length (p := fun s : Sp => !full s) (xs := l)
   omega
  have hall := List.findIdx_eq_length.1 he
  refine (bdO (all_true (n := l.length) (o := .inl ()) 0 (by omega) (fun i _ hi => hb i hi (by simpa using hall _ (List.getElem_mem hi))) ?_)).trans rfl
  simp only [ige,cond_false]
theorem qk2 {α : Type} (p : α → Bool) (l : List α) (j : Nat) (hj : j < l.length) : (l.take (j + 1)).filter p = if p l[j] = true then (l.take j).filter p ++ [l[j]] else (l.take j).filter p := by
 rw [List.take_add_one,List.getElem?_eq_getElem hj]
 simp only [Option.toList_some,List.filter_append]
 by_cases h : p l[j] = true
 ·simp [h]
 ·simp [h]
theorem deleteFunc_eq (l : List Sp) (hl : l.length ≤ 1000000) : q80 l = some (l.filter full) := by
 unfold q80
 rw [bdO (index_eq l hl)]
 by_cases h : l.findIdx (fun s => !full s) < l.length
 ·rw [if_pos h]
  obtain ⟨d,hd⟩ : ∃ d,d = l.findIdx (fun s => !full s) := ⟨_,rfl⟩
  rw [← hd] at h ⊢
  have hne : decide ((d : Int) = -1) = false := decide_eq_false (by omega)
  rw [hne,cond_false]
  have hp : full l[d] = false := by simp only [hd]; simpa using List.findIdx_getElem (p := fun s : Sp => !full s) (w := by rw [← hd]; exact h)
  have hbef : (l.take d).filter full = l.take d := by
   rw [List.filter_eq_self]
   intro s hs
   obtain ⟨i,hi,rfl⟩ := List.getElem_of_mem hs
   have hi' : i < d := by simp at hi; omega
   have := List.not_of_lt_findIdx (p := fun s : Sp => !full s) (xs := l) (i := i) (by rw [← hd]; exact hi')
   simpa using this
  obtain ⟨s,hJ,hw⟩ := qn3 (V := Int × Int × List Sp) (O := Int × List Sp) (S := Nat × List Sp) (body := fun v178 =>
    cond (decide (v178.2.1 < (v178.2.2.length : Int))) (
     (((
      (gx v178.2.2 v178.2.1).bind fun x200 =>
      (ql0 x200).bind fun x203 =>
      cond (!x203) (
       (gx v178.2.2 v178.1).bind fun x209 =>
       some ((IntKind.wrap .i64 (v178.1 + 1)),(List.set v178.2.2 v178.1.toNat x200))
      ) (
       some (v178.1,v178.2.2)
      )
     ) : Option (Int × (List ((List UInt8) × (List UInt8) × Bool))))).bind fun o197 =>
     some (.inl (o197.1,(IntKind.wrap .i64 (v178.2.1 + 1)),o197.2))
    ) (
     some (.inr (v178.1,v178.2.2))
    )) (l.length - (d + 1)) (fun t s => ((s.1 : Int),((d + 1 + t : Nat) : Int),s.2)) (fun t s => s.1 ≤ d + t ∧ s.2.length = l.length ∧ s.2.drop (d + 1 + t) = l.drop (d + 1 + t) ∧ s.2.take s.1 = (l.take (d + 1 + t)).filter full)
   (fun s => ((s.1 : Int),s.2)) (d,l) ⟨by omega,rfl,rfl,by
    show l.take d = (l.take (d + 1 + 0)).filter full
    rw [Nat.add_zero,qk2 _ _ _ h,hp,hbef]
    rfl⟩ (fun t ht s hs => by
    obtain ⟨h1,h2,h3,h4⟩ := hs
    have hj : d + 1 + t < l.length := by omega
    have hj2 : d + 1 + t < s.2.length := by omega
    have hs1 : s.1 < s.2.length := by omega
    have hget : s.2[d + 1 + t] = l[d + 1 + t] := by
     have e1 := List.drop_eq_getElem_cons hj2
     have e2 := List.drop_eq_getElem_cons hj
     rw [h3,e2] at e1
     exact (List.cons.inj e1).1.symm
    have hdrop : l.drop (d + 1 + t + 1) = s.2.drop (d + 1 + t + 1) := by
     have e1 := List.drop_eq_getElem_cons hj2
     have e2 := List.drop_eq_getElem_cons hj
     rw [h3,e2] at e1
     exact (List.cons.inj e1).2
    simp only [ilt hj2,cond_true,q20 hj2,Option.bind_some,clean1_eq,hget,Bool.not_not,q20 hs1,wSu (show s.1 < 9223372036854775807 by omega),wSu (show d + 1 + t < 9223372036854775807 by omega),Int.toNat_natCast]
    by_cases hf : full l[d + 1 + t] = true
    ·rw [hf]
     refine ⟨(s.1 + 1,s.2.set s.1 l[d + 1 + t]),rfl,(show s.1 + 1 ≤ d + (t + 1) by omega),by simp only [List.length_set]; exact h2,?_,?_⟩
     ·simp only
      rw [List.drop_set_of_lt (by omega)]
      exact hdrop.symm
     ·simp only
      rw [show d + 1 + (t + 1) = d + 1 + t + 1 by omega,qk2 _ _ _ hj,if_pos hf,← h4,List.take_add_one,List.take_set_of_le (by omega),List.getElem?_set_self hs1]
      rfl
    ·have hff : full l[d + 1 + t] = false := by simpa using hf
     rw [hff]
     refine ⟨s,rfl,by omega,h2,hdrop.symm,?_⟩
     rw [show d + 1 + (t + 1) = d + 1 + t + 1 by omega,qk2 _ _ _ hj,if_neg hf]
     exact h4) (fun s hs => by
    obtain ⟨h1,h2,h3,h4⟩ := hs
    have : d + 1 + (l.length - (d + 1)) = s.2.length := by omega
    simp only [this,ige,cond_false])
  obtain ⟨h1,h2,h3,h4⟩ := hJ
  have e0 : ((IntKind.wrap .i64 ((d : Int) + 1)) : Int) = ((d + 1 + 0 : Nat) : Int) := wSu (by omega)
  rw [e0,bdO hw]
  simp only [Int.toNat_natCast]
  have hle : s.1 ≤ s.2.length := by omega
  rw [bdO (qE2 (by omega)),bdO (qX (by simp <;> omega))]
  have : d + 1 + (l.length - (d + 1)) = l.length := by omega
  rw [this,List.take_length] at h4
  rw [← h4]
  have hlen : (s.2.take s.1).length = s.1 := by rw [List.length_take]; omega
  rw [List.take_append_of_le_length (by omega),List.take_take,Nat.min_self]
 ·rw [if_neg h]
  have : decide ((-1 : Int) = -1) = true := by decide
  rw [this,cond_true]
  have he : l.findIdx (fun s => !full s) = l.length := by
   have := List.findIdx_le_length (p := fun s : Sp => !full s) (xs := l)
   omega
  have hall := List.findIdx_eq_length.1 he
  rw [List.filter_eq_self.2 fun s hs => by simpa using hall s hs]
theorem sortSpans_len (xs : List Sp) : (qF xs).length ≤ xs.length := by
 unfold qF
 rw [List.length_map,srtSP_len]
 exact List.length_filterMap_le _ _
theorem maxB_eq (a b : Option Ky) : (cond (decide ((match b,a with | none,none => (0 : Int) | none,some _ => 1 | some _,none => -1 | some x,some y => compareBytes x y) > 0)) (some (bd b)) (some (bd a)) : Option (Ky × Bool)) = some (bd (maxB a b)) := by
 cases a with
 | none => cases b <;> rfl
 | some x =>
  cases b with
  | none => rfl
  | some y =>
   simp only [maxB]
   by_cases h : Lt x y
   ·have h1 : compareBytes y x > 0 := by
     have : compareBytes x y < 0 := h
     rw [qq4 x y]
     omega
    simp [h,h1]
   ·have h1 : ¬ compareBytes y x > 0 := by
     have : ¬ compareBytes x y < 0 := h
     rw [qq4 x y]
     omega
    simp [h,h1]
theorem upto_eq (a : Ky) (b : Option Ky) : decide ((match b with | none => (-1 : Int) | some x => compareBytes a x) ≤ 0) = decide (Upto a b) := by
 rw [Bool.eq_iff_iff,decide_eq_true_eq,decide_eq_true_eq]
 cases b with
 | none => exact ⟨fun _ => trivial,fun _ => (show (-1 : Int) ≤ 0 by decide)⟩
 | some x =>
  show compareBytes a x ≤ 0 ↔ ¬ compareBytes x a < 0
  rw [qq4 a x]
  omega
theorem clean_eq (l : List Sp) (hl : l.length ≤ 1000000) : qG2 l = some (qk4 l) := by
 unfold qG2
 have hf : fits (([] : List Sp).length + l.length) 49 = some () := qL (by simp only [List.length_nil]; omega)
 have hcl : q10 l = some l := by unfold q10; rw [hf]; rfl
 rw [bdO hcl,bdO (deleteFunc_eq l hl)]
 have hfl := List.length_filter_le full l
 rw [bdO (qL (by omega))]
 have hsl := sortSpans_len (l.filter full)
 unfold qk4
 obtain ⟨xs,hxs⟩ : ∃ xs,xs = qF (l.filter full) := ⟨_,rfl⟩
 rw [← hxs] at hsl ⊢
 have hlx : xs.length ≤ 1000000 := by omega
 clear hxs hsl hcl hf
 refine qs0 (qY xs (fun i s => ((i : Int),s)) qf5 (fun i s => s.length ≤ i) id [] (by simp) (fun i hi s hs => ⟨?_,?_⟩) (fun s _ => ?_))
 ·simp only [ilt hi,cond_true,q20 hi,Option.bind_some,bounds_eq,wSu (show i < 9223372036854775807 by omega)]
  rcases List.eq_nil_or_concat s with rfl | ⟨pre,t,rfl⟩
  ·have : decide ((([] : List Sp).length : Int) > 0) = false := by decide
   have hf : fits (([] : List Sp).length + ([mkS xs[i].1 (toB xs[i])]).length) 49 = some () := qL (by simp)
   simp only [this,cond_false,Option.bind_some,Sum.elim_inl,made_eq]
   rw [hf]
   rfl
  ·have hlen : (pre.concat t).length = pre.length + 1 := by simp
   have hpos : decide (((pre.concat t).length : Int) > 0) = true := decide_eq_true (by omega)
   have hidx : IntKind.wrap .i64 (((pre.concat t).length : Int) - 1) = (pre.length : Int) := by rw [wI64 (by omega)]; omega
   have hget : gx (pre.concat t) (pre.length : Int) = some t := by
    rw [q20 (by omega)]
    simp
   simp only [hpos,cond_true,hidx,hget,Option.bind_some,bounds_eq,cmpK_eq,cmpB_eq,upto_eq,maxB_eq,made_eq,Int.toNat_natCast]
   have hst : qf5 (pre.concat t) xs[i] = if Upto xs[i].1 (toB t) then (pre.concat t).set pre.length (mkS t.1 (maxB (toB t) (toB xs[i]))) else pre.concat t ++ [mkS xs[i].1 (toB xs[i])] := by
    unfold qf5
    have : (pre.concat t).getLast? = some t := by simp
    rw [this]
    simp only [hlen,Nat.add_sub_cancel]
   rw [hst]
   by_cases hu : Upto xs[i].1 (toB t)
   ·simp only [hu,decide_true,cond_true,Option.bind_some,Sum.elim_inr,if_true]
   ·have hf : fits ((pre.concat t).length + ([mkS xs[i].1 (toB xs[i])]).length) 49 = some () := qL (by simp only [List.length_cons,List.length_nil]; omega)
    simp only [hu,decide_false,cond_false,Option.bind_some,Sum.elim_inl,if_false,made_eq]
    rw [hf]
    rfl
 ·unfold qf5
  split
  ·simp; omega
  ·split
   ·simp; omega
   ·simp; omega
 ·simp only [ige,cond_false,id]
end Go.Val
namespace Go.Val
open Go.Lib
abbrev VM := List (Ky × Cg)
abbrev VT := List Pr × VM × List Sp × List VM
structure MOk (n : Nat) (m : VM) : Prop where
 own : q04 m
 nd : (m.map (·.1)).Nodup
 len : m.length ≤ n
 k24 : ∀ p ∈ m,p.1.length = 24
 norm : ∀ p ∈ m,qi3 p.2 = p.2
theorem MOk.nil (n : Nat) : MOk n [] := ⟨fun p h => by simp at h,by simp,by simp,by simp,by simp⟩
theorem MOk.mono {n n' : Nat} {m : VM} (h : MOk n m) (hn : n ≤ n') : MOk n' m := ⟨h.own,h.nd,Nat.le_trans h.len hn,h.k24,h.norm⟩
theorem mem_mset {β : Type} {m : List (Ky × β)} {k : Ky} {v : β} {p : Ky × β} (h : p ∈ mset m k v) : p = (k,v) ∨ p ∈ m := by
 induction m with
 | nil => simp [mset_nil] at h; exact .inl h
 | cons a m ih =>
  rw [mset_cons] at h
  split at h
  ·rcases List.mem_cons.1 h with e | e
   ·exact .inl e
   ·exact .inr (List.mem_cons_of_mem _ e)
  ·rcases List.mem_cons.1 h with e | e
   ·exact .inr (by rw [e]; simp)
   ·rcases ih e with e' | e'
    ·exact .inl e'
    ·exact .inr (List.mem_cons_of_mem _ e')
theorem MOk.set {n : Nat} {m : VM} (h : MOk n m) {k : Ky} {c : Cg} (hc : c.1 = k) (hk : k.length = 24) (hn : qi3 c = c) : MOk (n + 1) (mset m k c) := by
 refine ⟨fun p hp => ?_,qd3 h.nd k c,?_,fun p hp => ?_,fun p hp => ?_⟩
 ·rcases mem_mset hp with e | e
  ·rw [e]; exact hc
  ·exact h.own p e
 ·have := len_mset m k c
  have := h.len
  omega
 ·rcases mem_mset hp with e | e
  ·rw [e]; exact hk
  ·exact h.k24 p e
 ·rcases mem_mset hp with e | e
  ·rw [e]; exact hn
  ·exact h.norm p e
structure POk (n : Nat) (l : List Pr) : Prop where
 rise : Rising l
 len : l.length ≤ n
 k24 : ∀ p ∈ l,p.1.length = 24
structure VOk (n : Nat) (v : VT) : Prop where
 base : POk n v.1
 own : MOk n v.2.1
 rlen : v.2.2.1.length ≤ n
 rok : ∀ s ∈ v.2.2.1,spOk s
 mlen : v.2.2.2.length ≤ n
 mok : ∀ m ∈ v.2.2.2,MOk n m
theorem POk.mono {n n' : Nat} {l : List Pr} (h : POk n l) (hn : n ≤ n') : POk n' l := ⟨h.rise,Nat.le_trans h.len hn,h.k24⟩
theorem VOk.mono {n n' : Nat} {v : VT} (h : VOk n v) (hn : n ≤ n') : VOk n' v :=
 ⟨h.base.mono hn,h.own.mono hn,Nat.le_trans h.rlen hn,h.rok,Nat.le_trans h.mlen hn,fun m hm => (h.mok m hm).mono hn⟩
def vals (m : VM) : List Cg := m.map fun p => p.2
theorem qF0 {m : VM} (h : q04 m) : (vals m).map (·.1) = m.map (·.1) := by
 unfold vals
 rw [List.map_map]
 exact List.map_congr_left fun p hp => h p hp
theorem qH1 {m : VM} (h : q04 m) (hn : (m.map (·.1)).Nodup) (k : Ky) : mget (vals m) k = (mget m k).map (·.2) := by
 cases hg : mget m k with
 | none =>
  rw [Option.map_none,q50,qF0 h]
  exact q50.1 hg
 | some c =>
  refine qp1 (by rw [qF0 h]; exact hn) ?_
  refine List.mem_map.2 ⟨(k,c),ql1 hg,?_⟩
  have : c.1 = k := own_get h hg
  rw [← this]
def seen (v : VT) : Fn := updF (fn v.1) (vals v.2.1)
theorem qN4 {β : Type} {l : List (Ky × β)} (hn : (l.map (·.1)).Nodup) (k : Ky) : mget l.reverse k = mget l k := qo4 hn (List.reverse_perm l) k
theorem applyP_perm {l : List Pr} {cs ds : List Cg} (hn : (cs.map (·.1)).Nodup) (hp : ds.Perm cs) : q93 l ds = q93 l cs := by
 refine qO0 (qh0 _ _) (qh0 _ _) fun k => ?_
 have hn' : (ds.map (·.1)).Nodup := (hp.map _).nodup_iff.2 hn
 rw [qV0,qV0,qN0 hn,qN0 hn',qo4 hn hp]
theorem joinP_perm {cs ds : List Cg} (hn : (cs.map (·.1)).Nodup) (hp : ds.Perm cs) : q33 ds = q33 cs := by
 refine qO0 (qy0 _) (qy0 _) fun k => ?_
 have hn' : (ds.map (·.1)).Nodup := (hp.map _).nodup_iff.2 hn
 rw [qa1,qa1,qN4 hn,qN4 hn',qo4 hn hp]
theorem cleanP_ok {l : List Sp} (h : ∀ s ∈ l,spOk s) : ∀ s ∈ qk4 l,spOk s := (qI4 h).1.len
theorem read_eq (v : VT) (s : Sp) (h : v.2.2.1.length ≤ 900000) : qc0 v s = some (v.1,v.2.1,qk4 (v.2.2.1 ++ [s]),v.2.2.2) := by
 unfold qc0
 refine qs0 ?_
 have hf : fits (v.2.2.1.length + ([s]).length) 49 = some () := qL (by simp only [List.length_cons,List.length_nil]; omega)
 rw [bdO hf,bdO (clean_eq _ (by simp; omega))]
def rdV (v : VT) (s : Sp) : VT := (v.1,v.2.1,qk4 (v.2.2.1 ++ [s]),v.2.2.2)
theorem VOk.rd {n : Nat} {v : VT} (h : VOk n v) {s : Sp} (hs : spOk s) : VOk (n + 1) (rdV v s) := by
 have hok : ∀ t ∈ v.2.2.1 ++ [s],spOk t := by
  intro t ht
  rcases List.mem_append.1 ht with ht | ht
  ·exact h.rok t ht
  ·rw [List.mem_singleton] at ht
   rw [ht]; exact hs
 have := (qI4 hok).2.2
 have hr := h.rlen
 refine ⟨h.base.mono (by omega),h.own.mono (by omega),?_,cleanP_ok hok,Nat.le_trans h.mlen (by omega),fun m hm => (h.mok m hm).mono (by omega)⟩
 simp only [rdV]
 simp at this
 omega
theorem newPlain_eq (l : List Pr) (hl : l.length ≤ 1000000) : qt1 l = some (mapP l) := by
 unfold qt1
 rw [bdO (map_eq l hl)]
def badV (x : ByteArray) : Bool := decide (x = ByteArray.mk #[]) || decide ((x.size : Int) > 40)
def setV (v : VT) (k : Ky) (c : Cg) : VT := (v.1,mset v.2.1 k c,v.2.2.1,v.2.2.2)
theorem put_eqV (v : VT) (k : Ky) (x : ByteArray) : qr1 v k x = some (if badV x = true then (1,v) else (0,setV v k (k,x,false))) := by
 unfold qr1 badV
 by_cases h : x = ByteArray.mk #[]
 ·simp [h]
 ·by_cases h2 : (x.size : Int) > 40 <;> simp [h,h2,setV]
theorem delete_eqV (v : VT) (k : Ky) : qH0 v k = some (0,setV v k (k,mt,true)) := rfl
theorem VOk.set {n : Nat} {v : VT} (h : VOk n v) {k : Ky} {c : Cg} (hc : c.1 = k) (hk : k.length = 24) (hn : qi3 c = c) : VOk (n + 1) (setV v k c) :=
 ⟨h.base.mono (by omega),h.own.set hc hk hn,Nat.le_trans h.rlen (by omega),h.rok,Nat.le_trans h.mlen (by omega),fun m hm => (h.mok m hm).mono (by omega)⟩
theorem seen_set {n : Nat} {v : VT} (h : VOk n v) {k : Ky} {c : Cg} (hc : c.1 = k) : seen (setV v k c) = upd1 (seen v) c := by
 funext j
 unfold seen
 have ho : q04 (mset v.2.1 k c) := fun p hp => by
  rcases mem_mset hp with e | e
  ·rw [e]; exact hc
  ·exact h.own.own p e
 have hn : ((mset v.2.1 k c).map (·.1)).Nodup := qd3 h.own.nd k c
 rw [qN0 (by show ((vals (mset v.2.1 k c)).map (·.1)).Nodup; rw [qF0 ho]; exact hn)]
 unfold upd1
 rw [qN0 (by rw [qF0 h.own.own]; exact h.own.nd)]
 simp only [setV]
 rw [qH1 ho hn,qH1 h.own.own h.own.nd,mget_mset,hc]
 by_cases e : j = k
 ·simp [e]
 ·simp [e]
theorem get_own (v : VT) (k : Ky) {c : Cg} (h : mget v.2.1 k = some c) : q40 v k = some (c.2.1,!c.2.2,0,v) := by
 unfold q40
 rw [h]
 rfl
theorem get_base {n : Nat} {v : VT} (hv : VOk n v) (hn : n ≤ 900000) (k : Ky) {s : Sp} (hs : qP4 k = some s) (h : mget v.2.1 k = none) : q40 v k = some ((mget v.1 k).getD mt,(mget v.1 k).isSome,0,rdV v s) := by
 unfold q40
 rw [h]
 simp only [Option.isSome_none,cond_false]
 rw [bdO hs,bdO (read_eq v s (by have := hv.rlen; omega))]
 simp only
 rw [bdO (plainGet_eq _ hv.base.rise k (by have := hv.base.len; omega))]
 rfl
def qa5 (v : VT) (s : Sp) : List Pr := q93 (v.1.filter fun p => inS s p.1) (vals (v.2.1.filter fun p => inS s p.1))
theorem fold_own (s : Sp) : ∀ (l : VM) (a : List Cg),a.length + l.length ≤ 1000000 → List.foldlM (m := Option) (fun (v32 : List Cg) (x33 : Ky × Cg) => (((key_In s x33.1).bind fun x43 =>
   cond x43 ((fits (v32.length + ([x33.2]).length) 48).bind fun _ => some (v32 ++ [x33.2])) (some v32)) : Option (List Cg))) a l = some (a ++ vals (l.filter fun p => inS s p.1))
 | [],a,_ => by simp [vals]
 | x :: l,a,h => by
  simp only [List.length_cons] at h
  rw [List.foldlM_cons,keyIn_eq]
  have hf : fits (a.length + ([x.2]).length) 48 = some () := qL (by simp only [List.length_cons,List.length_nil]; omega)
  cases hi : inS s x.1 with
  | true =>
   simp only [Option.bind_some,cond_true,hf]
   show List.foldlM _ (a ++ [x.2]) l = _
   rw [fold_own s l (a ++ [x.2]) (by simp; omega)]
   simp [vals,hi]
  | false =>
   simp only [Option.bind_some,cond_false]
   show List.foldlM _ a l = _
   rw [fold_own s l a (by omega)]
   simp [vals,hi]
theorem filter_own {n : Nat} {m : VM} (h : MOk n m) (p : Ky × Cg → Bool) : q04 (m.filter p) ∧ ((m.filter p).map (·.1)).Nodup :=
 ⟨fun q hq => h.own q (List.mem_filter.1 hq).1,(List.Sublist.map _ List.filter_sublist).nodup h.nd⟩
theorem scan_eq {n : Nat} {v : VT} (hv : VOk n v) (hn : n ≤ 400000) (s : Sp) : qd0 v s = some (qa5 v s,0,rdV v s) := by
 unfold qd0
 rw [bdO (read_eq v s (by have := hv.rlen; omega))]
 simp only
 rw [bdO (plainScan_eq _ hv.base.rise s (by have := hv.base.len; omega))]
 have hd : decide ((0 : Int) ≠ 0) = false := by decide
 simp only [hd,cond_false]
 refine forOrd_eq fun l hl => ?_
 have hll := hl.length_eq
 have holen := hv.own.len
 rw [bdO (fold_own s l [] (by simp; omega))]
 simp only [List.nil_append]
 have h1 := List.length_filter_le (fun p : Pr => inS s p.1) v.1
 have h2 := List.length_filter_le (fun p : Ky × Cg => inS s p.1) l
 have hbl := hv.base.len
 rw [bdO (apply_eq _ _ (by omega) (by simp only [vals,List.length_map]; omega))]
 have hp : (vals (l.filter fun p => inS s p.1)).Perm (vals (v.2.1.filter fun p => inS s p.1)) := (hl.filter _).map _
 obtain ⟨q1,q2⟩ := filter_own hv.own (fun p => inS s p.1)
 rw [applyP_perm (by rw [qF0 q1]; exact q2) hp]
 rfl
theorem changes_eqV {n : Nat} {v : VT} (hv : VOk n v) (hn : n ≤ 1000) : qJ v = some (q33 (vals v.2.1),v) := by
 unfold qJ
 have holen := hv.own.len
 rw [bdO (qL (by omega))]
 refine forOrd_eq fun l hl => ?_
 have hll := hl.length_eq
 rw [bdO (join1_eq _ (by simp; omega))]
 have hp : (vals l).Perm (vals v.2.1) := hl.map _
 have := joinP_perm (by rw [qF0 hv.own.own]; exact hv.own.nd) hp
 unfold vals at this
 rw [this]
 rfl
theorem mget_scan_all (v : VT) : mget (q93 v.1 (vals v.2.1)) = seen v := qV0 _ _
theorem reads_eq (v : VT) (h : v.2.2.1.length ≤ 1000000) : qn0 v = some (v.2.2.1,v) := by
 unfold qn0 q10
 have hf : fits (([] : List Sp).length + v.2.2.1.length) 49 = some () := qL (by simp only [List.length_nil]; omega)
 rw [hf]
 rfl
end Go.Val
