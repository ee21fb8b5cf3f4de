/- What must be in any case,is. -/
import Derived.Test.YthipaajmgfnagaaGreatDoorT1
import Derived.Test.YthipaajmgfnagaaGreatDoorU1
import Derived.Test.YthipaajmgfnagaaGreatDoorWq
import Derived.Test.YthipaajmgfnagaaGreatDoorLd
set_option linter.unusedSectionVars false
set_option linter.unusedVariables false
set_option linter.unusedSimpArgs false
namespace Go.Val
open Go.Lib
def kk (n : UInt8) : List UInt8 := List.set (List.replicate 24 0) 0 n
end Go.Val
namespace Go.Val
open Go.Lib
theorem less_eq (a b : List UInt8) : qQ1 a b = some (decide (Lt a b)) := by
 unfold qQ1
 exact congrArg some (cb_less a b)
theorem place_loop {β : Type} {body : Int → Option (Int ⊕ Int)} (l : List (List UInt8 × β)) (k : List UInt8)
  (h1 : ∀ i (hi : i < l.length),body (i : Int) = if Lt l[i].1 k then some (.inl ((i + 1 : Nat) : Int)) else some (.inr (i : Int))) (h2 : body (l.length : Int) = some (.inr (l.length : Int))) : qA body 0 = some (qO l k : Int) := by
 refine qe0 (fun i => (i : Int)) (qO l k) (fun i hi => ?_) ?_
 ·have hl : i < l.length := Nat.lt_of_lt_of_le hi (qB2 l k)
  rw [h1 i hl,if_pos (qi2 hi hl)]
 ·by_cases hl : qO l k < l.length
  ·rw [h1 _ hl,if_neg (place_at hl)]
  ·have : qO l k = l.length := Nat.le_antisymm (qB2 l k) (Nat.le_of_not_lt hl)
   rw [this]; exact h2
theorem find_eq (l : List Pr) (k : List UInt8) (hl : l.length ≤ 1000000) : q41 l k = some ((qO l k : Int),decide (∃ h : qO l k < l.length,l[qO l k].1 = k)) := by
 unfold q41
 refine (bdO (place_loop l k (fun i hi => ?_) ?_)).trans ?_
 ·simp only [ilt hi,cond_true,q20 hi,Option.bind_some,less_eq,wSu (show i < 9223372036854775807 by omega)]
  by_cases h : Lt l[i].1 k <;> simp [h]
 ·simp only [ige,cond_false]
 ·by_cases hp : qO l k < l.length
  ·simp only [ilt hp,cond_true,q20 hp,Option.bind_some]
   simp [hp]
  ·have : decide ((qO l k : Int) < (l.length : Int)) = false := by simp; omega
   simp only [this,cond_false,Option.bind_some]
   simp [hp]
theorem get_eq {l : List Pr} (hr : Rising l) (k : List UInt8) (hl : l.length ≤ 1000000) : qB3 l k = some ((mget l k).getD mt,(mget l k).isSome) := by
 unfold qB3
 rw [bdO (find_eq l k hl),qx4 hr]
 by_cases h : qO l k < l.length
 ·by_cases he : l[qO l k].1 = k
  ·simp only [h,he,exists_true_left,decide_true,Bool.not_true,cond_false,q20 h,Option.bind_some,dif_pos,if_true,Option.getD_some,Option.isSome_some]
  ·simp only [h,he,exists_true_left,decide_false,Bool.not_false,cond_true,dif_pos,if_false,Option.getD_none,Option.isSome_none]; rfl
 ·simp [h]; rfl
section
variable {β : Type}
def hit (l : List (List UInt8 × β)) (k : List UInt8) : Bool := decide (∃ h : qO l k < l.length,l[qO l k].1 = k)
theorem q44 {l : List (List UInt8 × β)} {k : List UInt8} : hit l k = true ↔ ∃ h : qO l k < l.length,l[qO l k].1 = k := by simp [hit]
def ins (l : List (List UInt8 × β)) (p : List UInt8 × β) : List (List UInt8 × β) := l.take (qO l p.1) ++ [p] ++ l.drop (if hit l p.1 = true then qO l p.1 + 1 else qO l p.1)
def del (l : List (List UInt8 × β)) (k : List UInt8) : List (List UInt8 × β) := if hit l k = true then l.take (qO l k) ++ l.drop (qO l k + 1) else l
theorem take_lt {l : List (List UInt8 × β)} {k : List UInt8} {p : List UInt8 × β} (hp : p ∈ l.take (qO l k)) : Lt p.1 k := by
 obtain ⟨i,hi,rfl⟩ := List.getElem_of_mem hp
 rw [List.length_take] at hi
 rw [List.getElem_take]
 exact qi2 (by omega) (by omega)
theorem drop_gt {l : List (List UInt8 × β)} (hr : Rising l) {k : List UInt8} {p : List UInt8 × β} (hp : p ∈ l.drop (if hit l k = true then qO l k + 1 else qO l k)) : Lt k p.1 := by
 obtain ⟨i,hi,rfl⟩ := List.getElem_of_mem hp
 rw [List.length_drop] at hi
 rw [List.getElem_drop]
 have hpl : qO l k < l.length := by
  by_cases h : hit l k = true <;> simp only [h,if_true,if_false,Bool.false_eq_true] at hi <;> omega
 have hlt : ∀ i j (hi : i < l.length) (hj : j < l.length),i < j → Lt l[i].1 l[j].1 := by
  intro i j hi hj hij
  have := List.pairwise_iff_getElem.1 hr i j (by simpa using hi) (by simpa using hj) hij
  simpa using this
 by_cases h : hit l k = true
 ·obtain ⟨_,he⟩ := q44.1 h
  simp only [h,if_true] at hi ⊢
  have := hlt (qO l k) (qO l k + 1 + i) hpl (by omega) (by omega)
  rwa [he] at this
 ·simp only [h,if_false,Bool.false_eq_true] at hi ⊢
  have hne : ¬ l[qO l k].1 = k := fun e => h (q44.2 ⟨hpl,e⟩)
  have h0 : Lt k l[qO l k].1 := by
   rcases lt_or l[qO l k].1 k with q | q | q
   ·exact absurd q (place_at hpl)
   ·exact absurd q hne
   ·exact q
  by_cases hi0 : i = 0
  ·subst hi0; exact h0
  ·exact lt_trans h0 (hlt _ _ hpl (by omega) (by omega))
theorem ins_rising {l : List (List UInt8 × β)} (hr : Rising l) (p : List UInt8 × β) : Rising (ins l p) := by
 unfold Rising ins
 rw [List.map_append,List.map_append]
 refine List.pairwise_append.2 ⟨List.pairwise_append.2 ⟨?_,by simp,?_⟩,?_,?_⟩
 ·exact List.Pairwise.sublist ((List.take_sublist _ _).map _) hr
 ·intro a ha b hb
  obtain ⟨q,hq,rfl⟩ := List.mem_map.1 ha
  simp at hb
  subst hb
  exact take_lt hq
 ·exact List.Pairwise.sublist ((List.drop_sublist _ _).map _) hr
 ·intro a ha b hb
  obtain ⟨r,hr',rfl⟩ := List.mem_map.1 hb
  have h2 := drop_gt hr hr'
  rcases List.mem_append.1 ha with h | h
  ·obtain ⟨q,hq,rfl⟩ := List.mem_map.1 h
   exact lt_trans (take_lt hq) h2
  ·simp at h; subst h; exact h2
theorem split_at (l : List (List UInt8 × β)) (k k' : List UInt8) (hne : k' ≠ k) : mget l k' = (mget (l.take (qO l k)) k').or (mget (l.drop (if hit l k = true then qO l k + 1 else qO l k)) k') := by
 have e : mget l k' = (mget (l.take (qO l k)) k').or (mget (l.drop (qO l k)) k') := by rw [← qo1,List.take_append_drop]
 rw [e]
 by_cases h : hit l k = true
 ·obtain ⟨hl,he⟩ := q44.1 h
  simp only [h,if_true]
  rw [List.drop_eq_getElem_cons hl,qI,if_neg (by rw [he]; exact hne)]
 ·simp only [h,if_false,Bool.false_eq_true]
theorem take_none (l : List (List UInt8 × β)) (k : List UInt8) : mget (l.take (qO l k)) k = none := by
 rw [q50]
 intro h
 obtain ⟨q,hq,e⟩ := List.mem_map.1 h
 have := take_lt hq
 rw [e] at this
 exact lt_irrefl _ this
theorem mget_ins {l : List (List UInt8 × β)} (p : List UInt8 × β) (k : List UInt8) : mget (ins l p) k = if k = p.1 then some p.2 else mget l k := by
 unfold ins
 rw [qo1,qo1,qI,qV1]
 by_cases h : k = p.1
 ·rw [if_pos h,if_pos h,h,take_none]; rfl
 ·rw [if_neg h,if_neg h,split_at l p.1 k h]
  cases mget (l.take (qO l p.1)) k <;> rfl
theorem ins_len (l : List (List UInt8 × β)) (p : List UInt8 × β) : (ins l p).length ≤ l.length + 1 := by
 unfold ins
 have := qB2 l p.1
 simp only [List.length_append,List.length_take,List.length_drop,List.length_cons,List.length_nil]
 split <;> omega
theorem del_rising {l : List (List UInt8 × β)} (hr : Rising l) (k : List UInt8) : Rising (del l k) := by
 unfold del
 split
 ·have hs : (l.take (qO l k) ++ l.drop (qO l k + 1)).Sublist l := by
   conv => rhs; rw [← List.take_append_drop (qO l k) l]
   refine List.Sublist.append_left ?_ _
   rw [← List.drop_drop]
   exact List.drop_sublist _ _
  exact List.Pairwise.sublist (hs.map _) hr
 ·exact hr
theorem del_len (l : List (List UInt8 × β)) (k : List UInt8) : (del l k).length ≤ l.length := by
 unfold del
 split
 ·simp only [List.length_append,List.length_take,List.length_drop]; omega
 ·omega
theorem mget_del {l : List (List UInt8 × β)} (hr : Rising l) (k k' : List UInt8) : mget (del l k) k' = if k' = k then none else mget l k' := by
 unfold del
 by_cases h : hit l k = true
 ·rw [if_pos h]
  by_cases hk : k' = k
  ·rw [if_pos hk,hk,qo1,take_none,Option.none_or,q50]
   intro hm
   obtain ⟨q,hq,e⟩ := List.mem_map.1 hm
   have := drop_gt hr (k := k) (p := q) (by simp only [h,if_true]; exact hq)
   rw [e] at this
   exact lt_irrefl _ this
  ·rw [if_neg hk,split_at l k k' hk,qo1]
   simp only [h,if_true]
 ·rw [if_neg h]
  by_cases hk : k' = k
  ·rw [if_pos hk,hk,qx4 hr]
   by_cases hp : qO l k < l.length
   ·rw [dif_pos hp,if_neg (fun e => h (q44.2 ⟨hp,e⟩))]
   ·rw [dif_neg hp]
  ·rw [if_neg hk]
theorem foldl_ins {α : Type} (g : α → List UInt8 × β) (l : List α) : ∀ m : List (List UInt8 × β),Rising m → Rising (l.foldl (fun s x => ins s (g x)) m) ∧ (l.foldl (fun s x => ins s (g x)) m).length ≤ m.length + l.length ∧
  ∀ k,mget (l.foldl (fun s x => ins s (g x)) m) k = (mget (l.map g).reverse k).or (mget m k) := by
 induction l with
 | nil => exact fun m h => ⟨h,Nat.le_refl _,fun k => by simp [qV1]⟩
 | cons x l ih =>
  intro m h
  obtain ⟨h1,h2,h3⟩ := ih _ (ins_rising h (g x))
  have := ins_len m (g x)
  refine ⟨h1,by simp only [List.foldl_cons,List.length_cons]; omega,fun k => ?_⟩
  rw [List.foldl_cons,h3,List.map_cons,List.reverse_cons,qo1,qI,qV1,mget_ins]
  cases mget (l.map g).reverse k <;> simp
  split <;> rfl
end
theorem piece0 {α : Type} (l : List α) (n : Nat) : qm0 l 0 (n : Int) = l.take n := by simp [qm0]
theorem pieceE {α : Type} (l : List α) (n : Nat) : qm0 l (n : Int) (l.length : Int) = l.drop n := by simp [qm0]
theorem put_eq (l : List Pr) (p : Pr) (hl : l.length ≤ 1000000) : qt2 l p = some (ins l p) := by
 unfold qt2
 have hp := qB2 l p.1
 rw [bdO (find_eq l p.1 hl)]
 simp only
 rw [bdO (qX (by omega)),piece0,bdO (qL (by simp only [List.length_nil,List.length_take]; omega)),bdO (qL (by simp only [List.length_append,List.length_nil,List.length_take,List.length_cons]; omega))]
 by_cases h : hit l p.1 = true
 ·obtain ⟨h1,_⟩ := q44.1 h
  have hd : decide (∃ h : qO l p.1 < l.length,l[qO l p.1].1 = p.1) = true := h
  rw [hd]
  simp only [cond_true,Option.bind_some,wSu (show qO l p.1 < 9223372036854775807 by omega)]
  rw [bdO (qX (by omega)),pieceE,bdO (qL (by simp only [List.length_append,List.length_nil,List.length_take,List.length_cons,List.length_drop]; omega))]
  simp [ins,h]
 ·have hd : decide (∃ h : qO l p.1 < l.length,l[qO l p.1].1 = p.1) = false := by
   have : hit l p.1 = false := Bool.eq_false_iff.2 h
   exact this
  rw [hd]
  simp only [cond_false,Option.bind_some]
  rw [bdO (qX (by omega)),pieceE,bdO (qL (by simp only [List.length_append,List.length_nil,List.length_take,List.length_cons,List.length_drop]; omega))]
  simp [ins,h]
theorem with_eq (l : List Cg) (c : Cg) (hl : l.length ≤ 1000000) : qf2 l c = some (ins l (qi3 c)) := by
 unfold qf2
 have hn : (cond c.2.2 (some (c.1,(ByteArray.mk #[]),c.2.2)) (some c) : Option Cg) = some (qi3 c) := by
  obtain ⟨k,v,g⟩ := c
  cases g <;> rfl
 rw [bdO hn]
 generalize qi3 c = p
 have hp := qB2 l p.1
 refine (bdO (place_loop l p.1 (fun i hi => ?_) ?_)).trans ?_
 ·simp only [ilt hi,cond_true,q20 hi,Option.bind_some,less_eq,wSu (show i < 9223372036854775807 by omega)]
  by_cases h : Lt l[i].1 p.1 <;> simp [h]
 ·simp only [ige,cond_false]
 ·rw [bdO (qX (by omega)),piece0,bdO (qL (by simp only [List.length_nil,List.length_take]; omega)),bdO (qL (by simp only [List.length_append,List.length_nil,List.length_take,List.length_cons]; omega))]
  by_cases hpl : qO l p.1 < l.length
  ·simp only [ilt hpl,cond_true,q20 hpl,Option.bind_some]
   by_cases he : l[qO l p.1].1 = p.1
   ·have h : hit l p.1 = true := q44.2 ⟨hpl,he⟩
    simp only [he,decide_true,cond_true,Option.bind_some,wSu (show qO l p.1 < 9223372036854775807 by omega)]
    rw [bdO (qX (by omega)),pieceE,bdO (qL (by simp only [List.length_append,List.length_nil,List.length_take,List.length_cons,List.length_drop]; omega))]
    simp [ins,h]
   ·have h : ¬ hit l p.1 = true := fun h => he (q44.1 h).2
    simp only [he,decide_false,cond_false,Option.bind_some]
    rw [bdO (qX (by omega)),pieceE,bdO (qL (by simp only [List.length_append,List.length_nil,List.length_take,List.length_cons,List.length_drop]; omega))]
    simp [ins,h]
  ·have h : ¬ hit l p.1 = true := fun h => hpl (q44.1 h).1
   have hd : decide ((qO l p.1 : Int) < (l.length : Int)) = false := decide_eq_false (by omega)
   simp only [hd,cond_false,Option.bind_some]
   rw [bdO (qX (by omega)),pieceE,bdO (qL (by simp only [List.length_append,List.length_nil,List.length_take,List.length_cons,List.length_drop]; omega))]
   simp [ins,h]
theorem refMap_eq (l : List Pr) (hl : l.length ≤ 1000000) : qw2 l = some (mapP l) := by
 unfold qw2
 refine qs0 ((qY l (fun i (s : List Pr) => (s,(i : Int))) (fun s p => ins s p) (fun i s => s.length ≤ i) id [] (Nat.le_refl _) (fun i hi s hs => ⟨?_,?_⟩) (fun s _ => ?_)).trans ?_)
 ·simp only [ilt hi,cond_true,q20 hi,Option.bind_some,wSu (show i < 9223372036854775807 by omega)]
  rw [bdO (put_eq s l[i] (by omega))]
 ·have := ins_len s l[i]
  show (ins s l[i]).length ≤ i + 1
  omega
 ·simp only [ige,cond_false,id]
 ·obtain ⟨h1,_,h3⟩ := foldl_ins (fun p : Pr => p) l [] .nil
  refine congrArg some (qO0 h1 (mapP_rising l) fun k => ?_)
  rw [id,h3,mget_mapP,qV1,Option.or_none]
  unfold fn
  rw [qO3]
  simp
theorem foldl_ap (cs : List Cg) : ∀ m : List Pr,Rising m → Rising (cs.foldl (fun s c => if c.2.2 = true then del s c.1 else ins s (c.1,c.2.1)) m) ∧ mget (cs.foldl (fun s c => if c.2.2 = true then del s c.1 else ins s (c.1,c.2.1)) m) = cs.foldl upd1 (mget m) := by
 induction cs with
 | nil => exact fun m h => ⟨h,rfl⟩
 | cons c cs ih =>
  intro m h
  have h1 : Rising (if c.2.2 = true then del m c.1 else ins m (c.1,c.2.1)) := by
   split
   ·exact del_rising h _
   ·exact ins_rising h _
  obtain ⟨k1,k2⟩ := ih _ h1
  refine ⟨k1,?_⟩
  rw [List.foldl_cons,k2,List.foldl_cons]
  congr 1
  funext k
  obtain ⟨a,v,g⟩ := c
  cases g with
  | true => simp only [if_true,upd1,eff]; rw [mget_del h]
  | false => simp only [Bool.false_eq_true,if_false,upd1,eff]; rw [mget_ins]
theorem refApply_eq (l : List Pr) (cs : List Cg) (hl : l.length ≤ 400000) (hc : cs.length ≤ 400000) : q52 l cs = some (q93 l cs) := by
 unfold q52
 have hm := mapP_len l
 rw [bdO (refMap_eq l (by omega))]
 refine qs0 ((qY cs (fun i (s : List Pr) => (s,(i : Int))) (fun s c => if c.2.2 = true then del s c.1 else ins s (c.1,c.2.1)) (fun i s => s.length ≤ 400000 + i) id (mapP l) (by omega) (fun i hi s hs => ⟨?_,?_⟩) (fun s _ => ?_)).trans ?_)
 ·simp only [ilt hi,cond_true,q20 hi,Option.bind_some]
  generalize cs[i] = c
  have hp := qB2 s c.1
  rw [bdO (find_eq s c.1 (by omega))]
  obtain ⟨k,v,g⟩ := c
  cases g with
  | false =>
   simp only [Bool.not_false,cond_true,Bool.false_eq_true,if_false]
   rw [bdO (qs0 (put_eq s (k,v) (by omega))),wSu (show i < 9223372036854775807 by omega)]
  | true =>
   simp only [Bool.not_true,cond_false,if_true]
   by_cases h : hit s k = true
   ·obtain ⟨h1,_⟩ := q44.1 h
    have hd : decide (∃ h : qO s k < s.length,s[qO s k].1 = k) = true := h
    rw [hd]
    simp only [cond_true,Option.bind_some,wSu (show qO s k < 9223372036854775807 by omega)]
    simp only at hp h1
    rw [bdO (qX (by omega)),piece0,bdO (qL (by simp only [List.length_nil,List.length_take]; omega)),bdO (qX (by omega)),pieceE,bdO (qL (by simp only [List.length_append,List.length_nil,List.length_take,List.length_drop]; omega))]
    simp only [del,h,if_true,wSu (show i < 9223372036854775807 by omega),Option.bind_some,List.nil_append]
   ·have hd : decide (∃ h : qO s k < s.length,s[qO s k].1 = k) = false := by
     have : hit s k = false := Bool.eq_false_iff.2 h
     exact this
    rw [hd]
    simp only [cond_false,Option.bind_some,del,h,if_false,Bool.false_eq_true,wSu (show i < 9223372036854775807 by omega)]
 ·have h1 := del_len s cs[i].1
  have h2 := ins_len s (cs[i].1,cs[i].2.1)
  split <;> omega
 ·simp only [ige,cond_false,id]
 ·obtain ⟨h1,h2⟩ := foldl_ap cs _ (mapP_rising l)
  refine congrArg some (qO0 h1 (qh0 l cs) fun k => ?_)
  rw [id,h2,qV0,mget_mapP,updF_foldl]
theorem refJoin2_eq (x y : List Cg) (hx : x.length ≤ 1000) (hy : y.length ≤ 1000) : qJ1 [x,y] = some (q33 (x ++ y)) := by
 unfold qJ1
 have hlen : ∀ i (hi : i < [x,y].length),[x,y][i].length ≤ 1000 := by
  intro i hi
  match i,hi with
  | 0,_ => exact hx
  | 1,_ => exact hy
 have hfl := fun (l : List Cg) (m : List Cg) (h : Rising m) => foldl_ins qi3 l m h
 refine qs0 ((qY [x,y] (fun i (s : List Cg) => (s,(i : Int))) (fun s l => l.foldl (fun s c => ins s (qi3 c)) s) (fun i s => Rising s ∧ s.length ≤ i * 1000) id [] ⟨.nil,by simp⟩ (fun i hi s hs => ⟨?_,?_⟩) (fun s _ => ?_)).trans ?_)
 ·simp only [ilt hi,cond_true]
  have hl := hlen i hi
  have hi2 : i < 2 := hi
  have hin := qY (body := fun v550 : List Cg × Int =>
      (gx [x,y] (i : Int)).bind fun x554 =>
      cond (decide (v550.2 < (x554.length : Int))) (
       (gx x554 v550.2).bind fun x560 =>
       (qf2 v550.1 x560).bind fun x563 =>
       some (.inl (x563,(IntKind.wrap .i64 (v550.2 + 1))))
      ) (
       some (.inr v550.1)
      )) [x,y][i] (fun j s => (s,(j : Int))) (fun s c => ins s (qi3 c)) (fun j s => s.length ≤ i * 1000 + j) id s (Nat.le_trans hs.2 (Nat.le_add_right _ _)) (fun j hj s' hs' => ⟨?_,?_⟩) (fun s' _ => ?_)
  ·refine (bdO hin).trans ?_
   rw [wSu (show i < 9223372036854775807 by omega)]
   rfl
  ·simp only [q20 hi,Option.bind_some,ilt hj,cond_true,q20 hj]
   rw [bdO (with_eq s' _ (by omega)),wSu (show j < 9223372036854775807 by omega)]
  ·have := ins_len s' (qi3 [x,y][i][j])
   show (ins s' (qi3 [x,y][i][j])).length ≤ i * 1000 + (j + 1)
   omega
  ·simp only [q20 hi,Option.bind_some,ige,cond_false,id]
 ·have hl := hlen i hi
  obtain ⟨h1,h2,_⟩ := hfl [x,y][i] s hs.1
  exact ⟨h1,Nat.le_trans h2 (by have := hs.2; omega)⟩
 ·have h2 : decide (((([x,y] : List (List Cg)).length : Nat) : Int) < ((([x,y] : List (List Cg)).length : Nat) : Int)) = false := ige
  simp only [h2,cond_false,id]
 ·simp only [id,List.foldl_cons,List.foldl_nil]
  obtain ⟨h1,h2,h3⟩ := hfl x [] .nil
  obtain ⟨k1,k2,k3⟩ := hfl y _ h1
  refine congrArg some (qO0 k1 (qy0 _) fun k => ?_)
  rw [k3,h3,qa1,qV1,Option.or_none,List.reverse_append,qo1]
  have hm : ∀ l : List Cg,mget (l.map qi3).reverse k = (mget l.reverse k).map normE := by
   intro l
   have e : l.map qi3 = l.map fun p => (p.1,(fun c : Cg => (qi3 c).2) p) := by
    refine List.map_congr_left fun c _ => ?_
    exact Prod.ext (normC_key c) rfl
   rw [← List.map_reverse]
   have e' : l.reverse.map qi3 = l.reverse.map fun p => (p.1,(fun c : Cg => (qi3 c).2) p) := by
    refine List.map_congr_left fun c _ => ?_
    exact Prod.ext (normC_key c) rfl
   rw [e',mget_map_key]
   cases mget l.reverse k with
   | none => rfl
   | some v => simp only [Option.map_some,normC_val]
  rw [hm,hm]
  cases mget y.reverse k <;> rfl
end Go.Val
namespace Go.Val
open Go.Lib
def E25 : List UInt8 := List.replicate 25 255
def oB (d : Option Ky) : ByteArray := qi1 (d.getD E25)
def OVal (d : Option Ky) : Prop := ∀ k,d = some k → k.length = 24
set_option maxRecDepth 100000 in
theorem end_eq : qr2 = some (oB none) := by
 unfold qr2
 exact qs0 (whileO_of (n := 27) (by rfl))
theorem to_eq (s : Sp) : qk3 s = some (oB (toB s)) := by
 obtain ⟨a,b,e⟩ := s
 unfold qk3
 cases e with
 | true => exact qs0 end_eq
 | false => rfl
theorem lt_end : ∀ {n : Nat} {a : List UInt8},a.length ≤ n → Lt a (List.replicate (n + 1) 255)
 | n,[],_ => by simp [Lt,compareBytes,List.replicate_succ]
 | 0,_ :: _,h => by simp at h
 | n + 1,x :: a,h => by
  have ih := lt_end (n := n) (a := a) (by simpa using h)
  rw [List.replicate_succ]
  unfold Lt at ih ⊢
  simp only [compareBytes]
  have hx : x.toNat < 256 := x.toNat_lt
  have h255 : (255 : UInt8).toNat = 255 := rfl
  by_cases h1 : x < 255
  ·simp [h1]
  ·have h2 : ¬ (255 : UInt8) < x := by
    intro q
    have := UInt8.lt_iff_toNat_lt.1 q
    omega
   simp only [h1,h2,if_false]
   exact ih
theorem lt_E25 {a : List UInt8} (h : a.length = 24) : Lt a E25 := lt_end (n := 24) (by omega)
theorem oB_less {x y : Option Ky} (hx : OVal x) (hy : OVal y) : Op.bytesLess (oB x).data.toList (oB y).data.toList = decide (oLt x y) := by
 have e : ∀ d : Option Ky,(oB d).data.toList = d.getD E25 := fun d => rfl
 rw [e,e,cb_less]
 cases x with
 | none =>
  cases y with
  | none =>
   rw [Bool.eq_iff_iff,decide_eq_true_eq,decide_eq_true_eq]
   exact ⟨fun h => lt_irrefl _ h,fun h => h.elim⟩
  | some b =>
   rw [Bool.eq_iff_iff,decide_eq_true_eq,decide_eq_true_eq]
   exact ⟨fun h => absurd h (le_of_lt (lt_E25 (hy b rfl))),fun h => h.elim⟩
 | some a =>
  cases y with
  | none =>
   rw [Bool.eq_iff_iff,decide_eq_true_eq,decide_eq_true_eq]
   exact ⟨fun _ => trivial,fun _ => lt_E25 (hx a rfl)⟩
  | some b => rfl
theorem oB_inj {x y : Option Ky} (hx : OVal x) (hy : OVal y) : oB x = oB y ↔ x = y := by
 refine ⟨fun h => ?_,fun h => by rw [h]⟩
 have e : ∀ d : Option Ky,(oB d).data.toList = d.getD E25 := fun d => rfl
 have h' : x.getD E25 = y.getD E25 := by rw [← e,← e,h]
 have l25 : E25.length = 25 := by simp [E25]
 cases x with
 | none =>
  cases y with
  | none => rfl
  | some b =>
   have := congrArg List.length h'
   simp only [Option.getD_none,Option.getD_some] at this
   rw [l25,hy b rfl] at this
   omega
 | some a =>
  cases y with
  | none =>
   have := congrArg List.length h'
   simp only [Option.getD_none,Option.getD_some] at this
   rw [l25,hx a rfl] at this
   omega
  | some b => simpa using h'
theorem with8_eq {D : List (Option Ky)} {x : Option Ky} (hD : ∀ d ∈ D,OVal d) (hx : OVal x) (hl : D.length ≤ 1000000) : q81 (D.map oB) (oB x) = some ((insO D x).map oB) := by
 unfold q81
 obtain ⟨k,hk⟩ : ∃ k,k = D.findIdx fun y => !decide (oLt y x) := ⟨_,rfl⟩
 have hkl : k ≤ D.length := by rw [hk]; exact List.findIdx_le_length
 have hlen : (D.map oB).length = D.length := List.length_map _
 have hget : ∀ i (hi : i < D.length),gx (D.map oB) (i : Int) = some (oB D[i]) := fun i hi => by rw [q20 (by rw [hlen]; exact hi)]; simp
 have hless : ∀ i (hi : i < D.length),Op.bytesLess (oB D[i]).data.toList (oB x).data.toList = decide (oLt D[i] x) := fun i hi => oB_less (hD _ (List.getElem_mem hi)) hx
 refine (bdO (qe0 (o := (k : Int)) (fun i => (i : Int)) k (fun i hi => ?_) ?_)).trans ?_
 ·have hi' : i < D.length := by omega
  have hlt : decide (oLt D[i] x) = true := by
   have := List.not_of_lt_findIdx (p := fun y => !decide (oLt y x)) (xs := D) (i := i) (by rw [← hk]; exact hi)
   simpa using this
  simp only [hlen,ilt hi',cond_true,hget i hi',Option.bind_some,hless i hi',hlt,wSu (show i < 9223372036854775807 by omega)]
 ·by_cases h : k < D.length
  ·have hlt : decide (oLt D[k] x) = false := by
    have := List.findIdx_getElem (p := fun y => !decide (oLt y x)) (xs := D) (w := by rw [← hk]; exact h)
    simp only [← hk] at this
    simpa using this
   simp only [hlen,ilt h,cond_true,hget k h,Option.bind_some,hless k h,hlt,cond_false]
  ·have e : k = D.length := by omega
   simp only [hlen,e,ige,cond_false,Option.bind_some]
 ·rw [insO_find D x,← hk]
  by_cases h : k < D.length
  ·rw [List.getElem?_eq_getElem h]
   simp only [hlen,ilt h,cond_true,hget k h,Option.bind_some]
   by_cases he : D[k] = x
   ·have : decide (oB D[k] = oB x) = true := decide_eq_true (by rw [he])
    rw [this,cond_true,if_pos (by rw [he])]
   ·have : decide (oB D[k] = oB x) = false := decide_eq_false fun q => he ((oB_inj (hD _ (List.getElem_mem h)) hx).1 q)
    rw [this,cond_false,if_neg (fun q => he (Option.some.inj q))]
    have hp0 : qm0 (D.map oB) 0 (k : Int) = (D.take k).map oB := by simp [qm0]
    have hpE : qm0 (D.map oB) (k : Int) (D.length : Int) = (D.drop k).map oB := by
     unfold qm0
     simp only [Int.toNat_natCast]
     rw [← hlen,List.take_length,List.map_drop]
    rw [bdO (qX (by omega)),bdO (qL (by simp [qm0]; omega)),bdO (qL (by simp [qm0]; omega)),bdO (qX (by omega)),bdO (qL (by simp [qm0]; omega)),hp0,hpE]
    simp
  ·have e : k = D.length := by omega
   rw [e,List.getElem?_eq_none (Nat.le_refl _),if_neg (by simp)]
   simp only [hlen,ige,cond_false,Option.bind_some]
   have hp0 : qm0 (D.map oB) 0 (D.length : Int) = D.map oB := by
    unfold qm0
    simp only [Int.toNat_natCast]
    rw [← hlen,List.take_length]
    simp
   have hpE : qm0 (D.map oB) (D.length : Int) (D.length : Int) = [] := by
    unfold qm0
    simp only [Int.toNat_natCast]
    rw [← hlen,List.take_length,List.drop_length]
   rw [bdO (qX (by omega)),bdO (qL (by rw [hp0]; simp; omega)),bdO (qL (by rw [hp0]; simp; omega)),bdO (qX (by omega)),bdO (qL (by rw [hp0,hpE]; simp; omega)),hp0,hpE]
   simp
theorem insO_val {D : List (Option Ky)} {x : Option Ky} (hD : ∀ d ∈ D,OVal d) (hx : OVal x) : ∀ d ∈ insO D x,OVal d := fun d hd => by
 rcases mem_insO.1 hd with e | e
 ·rw [e]; exact hx
 ·exact hD d e
theorem toB_val {s : Sp} (h : spOk s) : OVal (toB s) := fun k hk => q05 h hk
theorem bounds8_eq (l : List Sp) (hl : ∀ s ∈ l,spOk s) (hlen : l.length ≤ 100000) : qD1 l = some ((q71 l).map oB) := by
 unfold qD1 q71
 refine qs0 (qY l (fun i (D : List (Option Ky)) => (D.map oB,(i : Int))) (fun D s => if full s = true then insO (insO D (some s.1)) (toB s) else D) (fun i D => (∀ d ∈ D,OVal d) ∧ D.length ≤ 2 * i) (fun D => D.map oB) [] ⟨by simp,by simp⟩ (fun i hi D hJ => ?_) (fun D _ => ?_))
 ·obtain ⟨j1,j2⟩ := hJ
  have hs := hl l[i] (List.getElem_mem hi)
  have ha : OVal (some l[i].1) := fun k hk => by cases hk; exact hs.1
  have hb := toB_val hs
  have hless : Op.bytesLess (qi1 l[i].1).data.toList (oB (toB l[i])).data.toList = full l[i] := oB_less ha hb
  have q1 := insO_len D (some l[i].1)
  have q2 := insO_len (insO D (some l[i].1)) (toB l[i])
  simp only [ilt hi,cond_true,q20 hi,Option.bind_some,to_eq,hless,wSu (show i < 9223372036854775807 by omega)]
  by_cases hf : full l[i] = true
  ·rw [hf]
   have e1 : q81 (D.map oB) (qi1 l[i].1) = some ((insO D (some l[i].1)).map oB) := with8_eq (x := some l[i].1) j1 ha (by omega)
   have e2 : q81 ((insO D (some l[i].1)).map oB) (oB (toB l[i])) = some ((insO (insO D (some l[i].1)) (toB l[i])).map oB) := with8_eq (insO_val j1 ha) hb (by omega)
   simp only [cond_true,e1,e2,Option.bind_some,if_true]
   exact ⟨trivial,insO_val (insO_val j1 ha) hb,by omega⟩
  ·have hf' : full l[i] = false := by simpa using hf
   rw [hf']
   simp only [cond_false,Option.bind_some,Bool.false_eq_true,if_false]
   exact ⟨trivial,j1,by omega⟩
 ·simp only [ige,cond_false]
theorem cpB_same {a : List UInt8} (h : a.length = 24) : cpB (List.replicate 24 0) a = a := by
 unfold cpB
 rw [List.length_replicate,← h,List.take_length,List.drop_eq_nil_of_le (by simp [h]),List.append_nil]
theorem of8_eq {a : Ky} {b : Option Ky} (ha : a.length = 24) (hb : OVal b) : qV2 (qi1 a) (oB b) = some (mkS a b) := by
 unfold qV2
 refine qs0 ?_
 rw [bdO end_eq]
 have e : ∀ l : List UInt8,(qi1 l).data.toList = l := fun l => rfl
 cases b with
 | none =>
  have : decide (oB none = oB none) = true := by simp
  rw [this,cond_true,e,cpB_same ha]
  rfl
 | some y =>
  have : decide (oB (some y) = oB none) = false := decide_eq_false fun q => by
   have := (oB_inj hb (fun k hk => by cases hk)).1 q
   cases this
  rw [this,cond_false,e,cpB_same ha]
  have e2 : (oB (some y)).data.toList = y := rfl
  rw [e2,cpB_same (hb y rfl)]
  rfl
theorem key8_eq {a : Ky} (ha : a.length = 24) : q03 (oB (some a)) = some a := by
 unfold q03
 have e2 : (oB (some a)).data.toList = a := rfl
 rw [e2,cpB_same ha]
def inL (l : List Sp) (D : List (Option Ky)) (i : Nat) : Bool := match D[i]? with
 | some (some a) => hasS l a
 | _ => false
theorem where8_eq {l : List Sp} {D : List (Option Ky)} (hasc : AscO D) (hD : ∀ d ∈ D,OVal d) (hlen : D.length ≤ 1000000) (h1 : 1 ≤ D.length) : qu1 (D.map oB) ((List.range (D.length - 1)).map (inL l D)) = some (qP0 l D (D.length - 1)) := by
 unfold qu1
 have hmap : (D.map oB).length = D.length := List.length_map _
 have hget : ∀ i (hi : i < D.length),gx (D.map oB) (i : Int) = some (oB D[i]) := fun i hi => by rw [q20 (by rw [hmap]; exact hi)]; simp
 have h24 : ∀ x,some x ∈ D → x.length = 24 := fun x hx => hD _ hx x rfl
 refine qs0 (qe0 (fun i => ((i : Int),qP0 l D i)) (D.length - 1) (fun i hi => ?_) ?_)
 ·have hi1 : i + 1 < D.length := by omega
  obtain ⟨a,ha⟩ := asc_some hasc hi1
  have ga : D[i]? = some (some a) := by rw [List.getElem?_eq_getElem (by omega),ha]
  have gb : D[i + 1]? = some D[i + 1] := List.getElem?_eq_getElem hi1
  have ha24 : a.length = 24 := h24 a (List.mem_of_getElem? ga)
  have hbv : OVal D[i + 1] := hD _ (List.getElem_mem hi1)
  have hin : gx ((List.range (D.length - 1)).map (inL l D)) (i : Int) = some (hasS l a) := by
   rw [q20 (by simp; omega)]
   simp [inL,ga]
  have hpl := (qz3 (l := l) hasc h24 i (by omega)).2.1
  have hpc := (qz3 (l := l) hasc h24 i (by omega)).1
  have hstep : qP0 l D (i + 1) = wStep a D[i + 1] (hasS l a) (qP0 l D i) := by
   show (match D[i]?,D[i + 1]? with
    | some (some a),some b => wStep a b (hasS l a) (qP0 l D i)
    | _,_ => qP0 l D i) = _
   rw [ga,gb]
  have hw1 : IntKind.wrap .i64 ((i : Int) + 1) = ((i + 1 : Nat) : Int) := wSu (by omega)
  have hcond : decide (((i + 1 : Nat) : Int) < ((D.map oB).length : Int)) = true := decide_eq_true (by rw [hmap]; omega)
  rw [hstep]
  simp only [hw1,hcond,cond_true,hin,Option.bind_some]
  cases hq : hasS l a with
  | false => simp [wStep]
  | true =>
   simp only [Bool.not_true,cond_false]
   have gi := hget i (by omega)
   rw [ha] at gi
   have gi1 := hget (i + 1) hi1
   obtain ⟨out,hout⟩ : ∃ out,out = qP0 l D i := ⟨_,rfl⟩
   rw [← hout] at hpl hpc ⊢
   unfold wStep
   simp only [if_true]
   rcases List.eq_nil_or_concat out with rfl | ⟨pre,t,rfl⟩
   ·have h0 : decide ((([] : List Sp).length : Int) > 0) = false := by decide
    have hf : fits (([] : List Sp).length + ([mkS a D[i + 1]]).length) 49 = some () := qL (by simp)
    simp only [h0,cond_false,Option.bind_some,gi,gi1]
    rw [show oB (some a) = qi1 a from rfl,bdO (of8_eq ha24 hbv)]
    simp only [List.getLast?_nil]
    rw [hf]
    rfl
   ·have hln : (pre.concat t).length = pre.length + 1 := by simp
    have hpos : decide (((pre.length + 1 : Nat) : Int) > 0) = true := decide_eq_true (by omega)
    have hidx : IntKind.wrap .i64 (((pre.length + 1 : Nat) : Int) - 1) = (pre.length : Int) := by rw [wI64 (by omega)]; omega
    have hgt : gx (pre.concat t) (pre.length : Int) = some t := by
     rw [q20 (by omega)]
     simp
    have htok := hpc.len t (by simp)
    have hl2 : (pre.concat t).getLast? = some t := by simp
    simp only [hpos,cond_true,hidx,hgt,Option.bind_some,to_eq,gi,gi1,hl2,hln,Nat.add_sub_cancel,Int.toNat_natCast]
    by_cases he : toB t = some a
    ·have hd : decide (oB (toB t) = oB (some a)) = true := decide_eq_true (by rw [he])
     rw [hd,cond_true,bdO (of8_eq htok.1 hbv),if_pos he]
     rfl
    ·have hd : decide (oB (toB t) = oB (some a)) = false := decide_eq_false fun q => he ((oB_inj (toB_val htok) (fun k hk => by cases hk; exact ha24)).1 q)
     have hf : fits (pre.length + 1 + ([mkS a D[i + 1]]).length) 49 = some () := qL (by simp only [List.length_cons,List.length_nil]; omega)
     rw [hd,cond_false,show oB (some a) = qi1 a from rfl,bdO (of8_eq ha24 hbv),hf,if_neg he]
     rfl
 ·have hw1 : IntKind.wrap .i64 (((D.length - 1 : Nat) : Int) + 1) = (D.length : Int) := by rw [wI64 (by omega)]; omega
  have hcond : decide ((D.length : Int) < ((D.map oB).length : Int)) = false := decide_eq_false (by rw [hmap]; omega)
  simp only [hw1,hcond,cond_false]
theorem refClean_eq (l : List Sp) (hl : ∀ s ∈ l,spOk s) (hlen : l.length ≤ 100000) : qW0 l = some (qk4 l) := by
 unfold qW0
 rw [bdO (bounds8_eq l hl hlen)]
 obtain ⟨hasc,hblen,hmem⟩ := boundsO_spec l
 rw [← pieces_clean hl]
 have hDv : ∀ d ∈ q71 l,OVal d := by
  intro d hd k hk
  subst hk
  obtain ⟨s,hs,_,e | e⟩ := (hmem _).1 hd
  ·cases e; exact (hl s hs).1
  ·exact q05 (hl s hs) e.symm
 obtain ⟨D,hD⟩ : ∃ D,D = q71 l := ⟨_,rfl⟩
 rw [← hD] at hasc hblen hDv ⊢
 have hmap : (D.map oB).length = D.length := List.length_map _
 by_cases h0 : D.length = 0
 ·have hn : D = [] := List.length_eq_zero_iff.1 h0
  subst hn
  refine (bdO (qe0 (o := ([] : List Bool)) (fun _ => ((0 : Int),([] : List Bool))) 0 (fun i hi => by omega) ?_)).trans ?_
  ·have : decide (IntKind.wrap .i64 ((0 : Int) + 1) < ((([] : List (Option Ky)).map oB).length : Int)) = false := by decide
   simp only [this,cond_false]
  ·have : qu1 (([] : List (Option Ky)).map oB) [] = some [] := by
    unfold qu1
    refine qs0 (qe0 (o := ([] : List Sp)) (fun _ => ((0 : Int),([] : List Sp))) 0 (fun i hi => by omega) ?_)
    have : decide (IntKind.wrap .i64 ((0 : Int) + 1) < ((([] : List (Option Ky)).map oB).length : Int)) = false := by decide
    simp only [this,cond_false]
   rw [bdO this]
   rfl
 ·refine (bdO (qe0 (o := (List.range (D.length - 1)).map (inL l D)) (fun i => ((i : Int),(List.range i).map (inL l D))) (D.length - 1) (fun i hi => ?_) ?_)).trans ?_
  ·have hi1 : i + 1 < D.length := by omega
   obtain ⟨a,ha⟩ := asc_some hasc hi1
   have ga : D[i]? = some (some a) := by rw [List.getElem?_eq_getElem (by omega),ha]
   have ha24 : a.length = 24 := hDv _ (List.mem_of_getElem? ga) a rfl
   have gi : gx (D.map oB) (i : Int) = some (oB (some a)) := by rw [q20 (by rw [hmap]; omega)]; simp [ha]
   have hw1 : IntKind.wrap .i64 ((i : Int) + 1) = ((i + 1 : Nat) : Int) := wSu (by omega)
   have hcond : decide (((i + 1 : Nat) : Int) < ((D.map oB).length : Int)) = true := decide_eq_true (by rw [hmap]; omega)
   simp only [hw1,hcond,cond_true,gi,Option.bind_some]
   rw [bdO (key8_eq ha24),bdO (has_eq l a (by omega)),bdO (qL (by simp; omega)),List.range_succ,List.map_append]
   have : inL l D i = hasS l a := by simp [inL,ga]
   rw [List.map_singleton,this]
  ·have hw1 : IntKind.wrap .i64 (((D.length - 1 : Nat) : Int) + 1) = (D.length : Int) := by rw [wI64 (by omega)]; omega
   have hcond : decide ((D.length : Int) < ((D.map oB).length : Int)) = false := decide_eq_false (by rw [hmap]; omega)
   simp only [hw1,hcond,cond_false]
  ·rw [bdO (where8_eq hasc hDv (by omega) (by omega))]
end Go.Val
namespace Go.Val
open Go.Lib
def oneR (k : List UInt8) (v117 : Int × List UInt8) : Option ((Int × List UInt8) ⊕ (Unit ⊕ (List UInt8 × List UInt8 × Bool))) :=
   cond (decide (v117.1 ≥ 0)) (
    (ck (decide (0 ≤ v117.1 ∧ v117.1 < 24))).bind fun _ =>
    (gx v117.2 v117.1).bind fun x127 =>
    (ck (decide (v117.1.toNat < v117.2.length))).bind fun _ =>
    (ck (decide (0 ≤ (IntKind.wrap .u8 ((x127.toNat : Int) + 1)) ∧ (IntKind.wrap .u8 ((x127.toNat : Int) + 1)) < 256))).bind fun _ =>
    (gx (List.set v117.2 v117.1.toNat (UInt8.ofNat (IntKind.wrap .u8 ((x127.toNat : Int) + 1)).toNat)) v117.1).bind fun x136 =>
    cond (decide ((x136.toNat : Int) ≠ 0)) (
     some (.inr (.inr (k,(List.set v117.2 v117.1.toNat (UInt8.ofNat (IntKind.wrap .u8 ((x127.toNat : Int) + 1)).toNat)),false)))
    ) (
     some (.inl ((IntKind.wrap .i64 (v117.1 - 1)),(List.set v117.2 v117.1.toNat (UInt8.ofNat (IntKind.wrap .u8 ((x127.toNat : Int) + 1)).toNat))))
    )
   ) (
    some (.inr (.inl ()))
   )
theorem one_loopR (k : Ky) (hk : k.length = 24) : ∀ m : Nat,m ≤ 24 → k = k.take m ++ List.replicate (24 - m) 255 →
  ∃ o,qA (oneR k) ((m : Int) - 1,k.take m ++ List.replicate (24 - m) 0) = some o ∧ (o = .inl () ∧ valK k + 1 = 256 ^ 24 ∨ ∃ s,o = .inr s ∧ OneS k s)
 | 0,_,h => by
  refine ⟨.inl (),?_,.inl ⟨rfl,?_⟩⟩
  ·rw [qq0]
   have : decide (((0 : Nat) : Int) - 1 ≥ 0) = false := by decide
   simp only [oneR,this,cond_false,Option.bind_some]
  ·rw [h]
   simp only [List.take_zero,List.nil_append]
   exact valK_ff 24
 | n + 1,hm,h => by
  have hn : n < k.length := by omega
  obtain ⟨tO,hto⟩ : ∃ tO,tO = k.take (n + 1) ++ List.replicate (24 - (n + 1)) (0 : UInt8) := ⟨_,rfl⟩
  have htl : tO.length = 24 := by rw [hto]; simp; omega
  have hsplit : k.take (n + 1) = k.take n ++ [k[n]] := by rw [List.take_add_one]; simp [hn]
  have hset : ∀ y : UInt8,tO.set n y = k.take n ++ y :: List.replicate (23 - n) 0 := by
   intro y
   rw [hto,hsplit]
   have hl : (k.take n).length = n := by simp; omega
   rw [List.append_assoc,List.set_append_right _ _ (by omega),hl]
   simp only [Nat.sub_self,List.singleton_append,List.set_cons_zero]
   rw [show 24 - (n + 1) = 23 - n by omega]
  have hget : tO[n]? = some k[n] := by
   rw [hto,List.getElem?_append_left (by simp; omega),List.getElem?_take_of_lt (by omega),List.getElem?_eq_getElem hn]
  have hi : ((n + 1 : Nat) : Int) - 1 = (n : Int) := by omega
  rw [← hto,hi,qq0]
  have hge : decide ((n : Int) ≥ 0) = true := by simp
  have hgx : gx tO (n : Int) = some k[n] := by simp only [gx,Int.toNat_natCast,hget]; simp
  obtain ⟨y,hy⟩ : ∃ y,y = UInt8.ofNat ((k[n].toNat + 1) % 256) := ⟨_,rfl⟩
  have hyt : y.toNat = (k[n].toNat + 1) % 256 := by rw [hy]; exact u8_of _
  have hgx2 : gx (tO.set n y) (n : Int) = some y := by
   simp only [gx,Int.toNat_natCast]
   rw [List.getElem?_set_self (by omega)]
   simp
  have hkn : k[n].toNat < 256 := k[n].toNat_lt
  have hb : oneR k ((n : Int),tO) = cond (decide ((y.toNat : Int) ≠ 0)) (some (.inr (.inr (k,tO.set n y,false)))) (some (.inl ((n : Int) - 1,tO.set n y))) := by
   unfold oneR
   simp only [hge,cond_true]
   rw [bdO (qE2 (by omega)),bdO hgx,bdO (qE2 (by simp only [Int.toNat_natCast]; omega))]
   simp only [wrap_u8,Int.toNat_natCast,← hy]
   rw [bdO (qE2 (by omega)),bdO hgx2,wrap_pred (by omega)]
  rw [hb]
  by_cases h0 : y.toNat = 0
  ·have hd : decide ((y.toNat : Int) ≠ 0) = false := by simp [h0]
   have hff : k[n] = 255 := by
    apply UInt8.toNat.inj
    show k[n].toNat = 255
    omega
   have hy0 : y = 0 := by
    apply UInt8.toNat.inj
    exact h0
   rw [hd,cond_false]
   have hto' : tO.set n y = k.take n ++ List.replicate (24 - n) 0 := by
    rw [hset,hy0,show 24 - n = (23 - n) + 1 by omega,List.replicate_succ]
   rw [hto']
   refine one_loopR k hk n (by omega) ?_
   have : List.replicate (24 - n) (255 : UInt8) = k[n] :: List.replicate (24 - (n + 1)) 255 := by
    rw [hff,show 24 - n = (24 - (n + 1)) + 1 by omega,List.replicate_succ]
   rw [this]
   have h' := h
   rw [hsplit,List.append_assoc,List.singleton_append] at h'
   exact h'
  ·have hd : decide ((y.toNat : Int) ≠ 0) = true := decide_eq_true (by omega)
   rw [hd,cond_true]
   refine ⟨_,rfl,.inr ⟨_,rfl,rfl,by simp only [List.length_set]; exact htl,.inl ⟨rfl,?_⟩⟩⟩
   simp only
   rw [hset]
   have h' := h
   rw [hsplit,List.append_assoc,List.singleton_append] at h'
   have hv : valK k = valK (k.take n ++ k[n] :: List.replicate (24 - (n + 1)) 255) := congrArg valK h'
   rw [hv,q42,q42]
   simp only [valK,List.length_cons,List.length_replicate,valK_zero]
   have hf := valK_ff (24 - (n + 1))
   rw [show 24 - (n + 1) = 23 - n by omega] at hf ⊢
   have hyk : y.toNat = k[n].toNat + 1 := by omega
   rw [hyk,Nat.add_mul]
   omega
theorem refOne_ex (k : Ky) (hk : k.length = 24) : ∃ s,qs2 k = some s ∧ OneS k s := by
 obtain ⟨o,h1,h2⟩ := one_loopR k hk 24 (Nat.le_refl _) (by
  have : k.take 24 = k := List.take_of_length_le (by omega)
  rw [this]
  simp)
 have e : (k.take 24 ++ List.replicate (24 - 24) (0 : UInt8)) = k := by
  rw [List.take_of_length_le (by omega)]
  simp
 rw [e] at h1
 unfold qs2
 rcases h2 with ⟨rfl,h3⟩ | ⟨s,rfl,h3⟩
 ·exact ⟨_,(bdO h1).trans rfl,rfl,by simp [zK],.inr ⟨rfl,rfl,h3⟩⟩
 ·exact ⟨s,(bdO h1).trans rfl,h3⟩
theorem foldl_keep {α : Type} (p : α → Bool) (l : List α) : ∀ s : List α,l.foldl (fun o x => if p x = true then o ++ [x] else o) s = s ++ l.filter p := by
 induction l with
 | nil => intro s; simp
 | cons x l ih =>
  intro s
  rw [List.foldl_cons,ih]
  cases h : p x <;> simp [h]
abbrev WT := List Pr × List Cg × List Sp × List (List Cg)
def refV (v : VT) : WT := (v.1,q33 (vals v.2.1),v.2.2.1,v.2.2.2.map fun m => q33 (vals m))
theorem sameS_eq (x y : List Sp) (hl : x.length ≤ 1000000) : ql2 x y = some (decide (x = y)) := by
 unfold ql2
 by_cases h : x.length = y.length
 ·have : decide ((x.length : Int) ≠ (y.length : Int)) = false := by simp [h]
  rw [this,cond_false]
  refine row_same x y h (fun i hx hy => ?_) ?_
  ·simp only [ilt hx,cond_true,q20 hx,q20 hy,Option.bind_some,wSu (show i < 9223372036854775807 by omega)]
   by_cases he : x[i] = y[i]
   ·simp [he]
   ·have : ¬ (x[i].1 = y[i].1 ∧ x[i].2.1 = y[i].2.1 ∧ x[i].2.2 = y[i].2.2) := fun ⟨a,b,c⟩ => he (Prod.ext a (Prod.ext b c))
    by_cases ha : x[i].1 = y[i].1
    ·by_cases hb : x[i].2.1 = y[i].2.1
     ·have hc : ¬ x[i].2.2 = y[i].2.2 := fun c => this ⟨ha,hb,c⟩
      have hd : (x[i].2.2 == y[i].2.2) = false := by simpa using hc
      simp [he,ha,hb,hd]
     ·simp [he,ha,hb]
    ·simp [he,ha]
  ·simp only [ige,cond_false]
 ·have h1 : decide ((x.length : Int) ≠ (y.length : Int)) = true := by simp; omega
  rw [h1,cond_true]
  have : ¬ x = y := fun e => h (by rw [e])
  simp [this]
theorem q34 {n : Nat} {m : VM} (h : MOk n m) : (q33 (vals m)).length ≤ n := by
 have h1 := joinP_len (vals m)
 have h2 := h.len
 simp only [vals,List.length_map] at h1 ⊢
 omega
theorem joinV_set {n : Nat} {m : VM} (h : MOk n m) {c : Cg} (hn : qi3 c = c) : q33 (q33 (vals m) ++ [c]) = q33 (vals (mset m c.1 c)) := by
 refine qO0 (qy0 _) (qy0 _) fun k => ?_
 have ho : q04 (mset m c.1 c) := fun p hp => by
  rcases mem_mset hp with e | e
  ·rw [e]
  ·exact h.own p e
 have hnd : ((mset m c.1 c).map (·.1)).Nodup := qd3 h.nd c.1 c
 have hnv : ((vals (mset m c.1 c)).map (·.1)).Nodup := by rw [qF0 ho]; exact hnd
 have hnv0 : ((vals m).map (·.1)).Nodup := by rw [qF0 h.own]; exact h.nd
 have hce : normE c.2 = c.2 := by rw [← normC_val,hn]
 rw [qa1,qa1,List.reverse_append,List.reverse_singleton,List.singleton_append,qI,qN4 (qy0 _).nodup,qa1,qN4 hnv0,qN4 hnv,qH1 ho hnd,qH1 h.own h.nd,mget_mset]
 by_cases e : k = c.1
 ·simp [e]
 ·simp only [e,if_false]
  cases mget m k with
  | none => rfl
  | some d => simp only [Option.map_some]; rw [normE_idem]
theorem refPut_eq {n : Nat} {v : VT} (hv : VOk n v) (hn : n ≤ 900) (k : Ky) (x : ByteArray) : qZ0 (refV v) k x = some (if badV x = true then (1,refV v) else (0,refV (setV v k (k,x,false)))) := by
 unfold qZ0
 have hbad : ((cond (decide ((x.size : Int) < 1)) (some true) (some (decide ((x.size : Int) > 40)))) : Option Bool) = some (badV x) := by
  unfold badV
  by_cases h : x = ByteArray.mk #[]
  ·subst h; rfl
  ·have h0 : ¬ (x.size : Int) < 1 := by
    intro q
    have hz : x.data.size = 0 := by
     have : x.size = x.data.size := rfl
     omega
    exact h (by
     obtain ⟨d⟩ := x
     have : d = #[] := Array.eq_empty_of_size_eq_zero hz
     rw [this])
   simp [h,h0]
 rw [bdO hbad]
 by_cases hb : badV x = true
 ·simp [hb]
 ·have hb' : badV x = false := by simpa using hb
  rw [hb']
  simp only [cond_false,Bool.false_eq_true,if_false]
  have hl := q34 hv.own
  rw [bdO (refJoin2_eq (refV v).2.1 [(k,x,false)] (by show (q33 (vals v.2.1)).length ≤ 1000; omega) (by simp))]
  have := joinV_set hv.own (c := (k,x,false)) rfl
  show some ((0 : Int),_) = _
  simp only [refV,setV]
  rw [this]
theorem refDelete_eq {n : Nat} {v : VT} (hv : VOk n v) (hn : n ≤ 900) (k : Ky) : q90 (refV v) k = some (refV (setV v k (k,mt,true))) := by
 unfold q90
 refine qs0 ?_
 have hl := q34 hv.own
 rw [bdO (refJoin2_eq (refV v).2.1 [(k,(ByteArray.mk #[]),true)] (by show (q33 (vals v.2.1)).length ≤ 1000; omega) (by simp))]
 have := joinV_set hv.own (c := (k,mt,true)) rfl
 simp only [refV,setV]
 rw [← this]
 rfl
theorem refMapV_eq {n : Nat} {v : VT} (hv : VOk n v) (hn : n ≤ 900) (r : List Sp) : qg0 (v.1,q33 (vals v.2.1),r,v.2.2.2.map fun m => q33 (vals m)) = some (q93 v.1 (vals v.2.1),(v.1,q33 (vals v.2.1),r,v.2.2.2.map fun m => q33 (vals m))) := by
 unfold qg0
 have hl := q34 hv.own
 have hb := hv.base.len
 rw [bdO (refApply_eq v.1 (q33 (vals v.2.1)) (by omega) (by omega))]
 have : q93 v.1 (q33 (vals v.2.1)) = q93 v.1 (vals v.2.1) := qO0 (qh0 _ _) (qh0 _ _) fun k => by rw [qV0,qV0,updF_joinP]
 rw [this]
theorem refIn12_eq (l : List Pr) (s : Sp) (hl : l.length ≤ 1000000) : qz4 l s = some (l.filter fun p => inS s p.1) := by
 unfold qz4
 refine qs0 ((qY l (fun i (o : List Pr) => ((i : Int),o)) (fun o p => if inS s p.1 = true then o ++ [p] else o) (fun i o => o.length ≤ i) id [] (by simp) (fun i hi o ho => ?_) (fun o _ => ?_)).trans ?_)
 ·simp only [ilt hi,cond_true,q20 hi,Option.bind_some,refIn_eq,wSu (show i < 9223372036854775807 by omega)]
  cases hq : inS s l[i].1 with
  | true =>
   have hf : fits (o.length + ([l[i]]).length) 40 = some () := qL (by simp only [List.length_cons,List.length_nil]; omega)
   simp only [cond_true,hf,Option.bind_some,if_true]
   exact ⟨trivial,by simp; omega⟩
  | false =>
   simp only [cond_false,Option.bind_some,Bool.false_eq_true,if_false]
   exact ⟨trivial,by omega⟩
 ·simp only [ige,cond_false,id]
 ·have := foldl_keep (fun p : Pr => inS s p.1) l []
  simp only [id]
  rw [this]
  simp
theorem refScan_eq {n : Nat} {v : VT} (hv : VOk n v) (hn : n ≤ 900) {s : Sp} (hs : spOk s) : q30 (refV v) s = some (qa5 v s,refV (rdV v s)) := by
 unfold q30
 have hr := hv.rlen
 have e : (refV v).2.2.1 = v.2.2.1 := rfl
 rw [e,bdO (qL (by simp; omega)),bdO (qL (by simp; omega))]
 simp only [List.nil_append]
 have hok : ∀ t ∈ v.2.2.1 ++ [s],spOk t := by
  intro t ht
  rcases List.mem_append.1 ht with ht | ht
  ·exact hv.rok t ht
  ·rw [List.mem_singleton] at ht; rw [ht]; exact hs
 rw [bdO (refClean_eq _ hok (by simp; omega))]
 refine (bdO (refMapV_eq hv hn (qk4 (v.2.2.1 ++ [s])))).trans ?_
 simp only
 have hl := applyP_len v.1 (vals v.2.1)
 have hb := hv.base.len
 have ho := hv.own.len
 rw [bdO (refIn12_eq _ s (by simp only [vals,List.length_map] at hl ⊢; omega)),← scanP_eq hv s]
 rfl
theorem refOwn_eq (w : WT) (k : Ky) (hl : w.2.1.length ≤ 1000000) : qx0 w k = some ((mget w.2.1 k).isSome,w) := by
 unfold qx0
 obtain ⟨w1,w2,w3,w4⟩ := w
 simp only at hl
 have hstep : ∀ i (hi : i < w2.length),w2[i].1 ≠ k → (fun v57 : Int × WT =>
   cond (decide (v57.1 < (v57.2.2.1.length : Int))) (
    (gx v57.2.2.1 v57.1).bind fun x64 =>
    cond (decide (x64.1 = k)) (
     some (.inr (.inr (true,(v57.2.1,v57.2.2.1,v57.2.2.2.1,v57.2.2.2.2))) : (Int × WT) ⊕ (WT ⊕ (Bool × WT)))
    ) (
     some (.inl ((IntKind.wrap .i64 (v57.1 + 1)),(v57.2.1,v57.2.2.1,v57.2.2.2.1,v57.2.2.2.2)))
    )
   ) (
    some (.inr (.inl (v57.2.1,v57.2.2.1,v57.2.2.2.1,v57.2.2.2.2)))
   )) ((i : Int),(w1,w2,w3,w4)) = some (.inl (((i + 1 : Nat) : Int),(w1,w2,w3,w4))) := by
  intro i hi hne
  have hd : decide (w2[i].1 = k) = false := decide_eq_false hne
  simp only [ilt hi,cond_true,q20 hi,Option.bind_some,hd,cond_false,wSu (show i < 9223372036854775807 by omega)]
 obtain ⟨j,hj⟩ : ∃ j,j = w2.findIdx fun c => decide (c.1 = k) := ⟨_,rfl⟩
 have hjl : j ≤ w2.length := by rw [hj]; exact List.findIdx_le_length
 have hbef : ∀ i (hi : i < j) (hl' : i < w2.length),w2[i].1 ≠ k := by
  intro i hi hl' e
  have := List.not_of_lt_findIdx (p := fun c : Cg => decide (c.1 = k)) (xs := w2) (i := i) (by rw [← hj]; exact hi)
  simp [e] at this
 by_cases h : j < w2.length
 ·have hk : w2[j].1 = k := by
   have := List.findIdx_getElem (p := fun c : Cg => decide (c.1 = k)) (xs := w2) (w := by rw [← hj]; exact h)
   simp only [← hj] at this
   simpa using this
  refine (bdO (qe0 (o := .inr (true,(w1,w2,w3,w4))) (fun i => ((i : Int),(w1,w2,w3,w4))) j (fun i hi => hstep i (by omega) (hbef i hi (by omega))) ?_)).trans ?_
  ·have hd : decide (w2[j].1 = k) = true := decide_eq_true hk
   simp only [ilt h,cond_true,q20 h,Option.bind_some,hd]
  ·have : (mget w2 k).isSome = true := qs1.2 (List.mem_map.2 ⟨_,List.getElem_mem h,hk⟩)
   simp only [Sum.elim_inr,this]
 ·have e : j = w2.length := by omega
  refine (bdO (qe0 (o := .inl (w1,w2,w3,w4)) (fun i => ((i : Int),(w1,w2,w3,w4))) w2.length (fun i hi => hstep i hi (hbef i (by omega) hi)) ?_)).trans ?_
  ·simp only [ige,cond_false]
  ·have : mget w2 k = none := by
    rw [q50]
    intro hm
    obtain ⟨c,hc,hck⟩ := List.mem_map.1 hm
    obtain ⟨i,hi,rfl⟩ := List.getElem_of_mem hc
    exact hbef i (by omega) hi hck
   simp only [Sum.elim_inl,this]
   rfl
theorem refGet_eq {n : Nat} {v : VT} (hv : VOk n v) (hn : n ≤ 900) {k : Ky} (hk : k.length = 24) : ∃ (x : ByteArray) (b : Bool) (v' : VT),VOk (n + 1) v' ∧ q40 v k = some (x,b,0,v') ∧ qZ (refV v) k = some (x,b,refV v') := by
 have hl := q34 hv.own
 have hr := hv.rlen
 have hb := hv.base.len
 have ho := hv.own.len
 have hnv0 : ((vals v.2.1).map (·.1)).Nodup := by rw [qF0 hv.own.own]; exact hv.own.nd
 have hmg : mget (q33 (vals v.2.1)) k = (mget v.2.1 k).map fun c => c.2 := by
  rw [qa1,qN4 hnv0,qH1 hv.own.own hv.own.nd]
  cases hg : mget v.2.1 k with
  | none => rfl
  | some c =>
   simp only [Option.map_some]
   have := hv.own.norm (k,c) (ql1 hg)
   simp only at this
   rw [← normC_val,this]
 have hown : qx0 (refV v) k = some ((mget v.2.1 k).isSome,refV v) := by
  rw [refOwn_eq (refV v) k (by show (q33 (vals v.2.1)).length ≤ 1000000; omega)]
  show some ((mget (q33 (vals v.2.1)) k).isSome,_) = _
  rw [hmg]
  cases mget v.2.1 k <;> rfl
 have hal : (q93 v.1 (vals v.2.1)).length ≤ 1000000 := by
  have h1 := applyP_len v.1 (vals v.2.1)
  simp only [vals,List.length_map] at h1 ⊢
  omega
 have hget := get_eq (qh0 v.1 (vals v.2.1)) k hal
 rw [qV0,qN0 hnv0,qH1 hv.own.own hv.own.nd] at hget
 cases hg : mget v.2.1 k with
 | some c =>
  refine ⟨c.2.1,!c.2.2,v,hv.mono (by omega),get_own v k hg,?_⟩
  unfold qZ
  rw [bdO hown,hg]
  simp only [Option.isSome_some,Bool.not_true,cond_false,Option.bind_some]
  refine (bdO (refMapV_eq hv hn v.2.2.1)).trans ?_
  simp only
  rw [hg] at hget
  simp only [Option.map_some] at hget
  rw [bdO hget]
  have hnorm := hv.own.norm (k,c) (ql1 hg)
  simp only at hnorm
  obtain ⟨c1,c2,c3⟩ := c
  cases c3 with
  | false => rfl
  | true =>
   have : c2 = mt := by
    have := congrArg (fun q : Cg => q.2.1) hnorm
    simp [qi3] at this
    exact this.symm
   subst this
   rfl
 | none =>
  obtain ⟨s,hs1,hs2⟩ := keyOne_ex k hk
  obtain ⟨s',hs3,hs4⟩ := refOne_ex k hk
  have e := hs4.unique hs2
  subst e
  have hok : ∀ t ∈ v.2.2.1 ++ [s'],spOk t := by
   intro t ht
   rcases List.mem_append.1 ht with ht | ht
   ·exact hv.rok t ht
   ·rw [List.mem_singleton] at ht; rw [ht]; exact hs2.ok hk
  refine ⟨(mget v.1 k).getD mt,(mget v.1 k).isSome,rdV v s',hv.rd (hs2.ok hk),get_base hv (by omega) k hs1 hg,?_⟩
  unfold qZ
  rw [bdO hown,hg]
  simp only [Option.isSome_none,Bool.not_false,cond_true]
  have e1 : (refV v).2.2.1 = v.2.2.1 := rfl
  rw [e1]
  have hblk : ((fits (([] : List Sp).length + v.2.2.1.length) 49).bind fun _ =>
   (qs2 k).bind fun x28 =>
   (fits ((([] : List Sp) ++ v.2.2.1).length + ([x28]).length) 49).bind fun _ =>
   (qW0 ((([] : List Sp) ++ v.2.2.1) ++ [x28])).bind fun x34 =>
   some ((refV v).1,(refV v).2.1,x34,(refV v).2.2.2)) = some (refV (rdV v s')) := by
   rw [bdO (qL (by simp; omega)),bdO hs3,bdO (qL (by simp; omega))]
   simp only [List.nil_append]
   rw [bdO (refClean_eq _ hok (by simp; omega))]
   rfl
  rw [bdO hblk]
  refine (bdO (refMapV_eq hv hn (qk4 (v.2.2.1 ++ [s'])))).trans ?_
  simp only
  rw [hg] at hget
  simp only [Option.map_none] at hget
  rw [fn_rising hv.base.rise] at hget
  rw [bdO hget]
  rfl
end Go.Val
