/- Merged texts: Xk Xl Xm Qa Qb Ra Rb Rc Sa Sb Sc. -/
import Derived.Test.YtfbnhflapgddbaaLc
import Derived.ProofKit
set_option linter.all false
namespace Go.Val
open Go.RowKit
variable [Drw]
open Go.ChangeMaps (setBlock)
structure WalkedV {α : Type} (enc : α → Value) (es : Array MapEntry) (seen : Array Nat) (ss : List α) (got lft : List MapEntry) : Prop where
 perm : (got ++ lft).Perm es.toList
 seen : seen.toList = got.map (·.born)
 keys : ss.map enc = got.map (·.val)
theorem WalkedV.mem {α : Type} {enc : α → Value} {es : Array MapEntry} {seen : Array Nat} {ss : List α} {got lft : List MapEntry} (h : WalkedV enc es seen ss got lft) (hnd : (es.toList.map (·.born)).Nodup) (e : MapEntry) : e ∈ (leftOf es seen).toList ↔ e ∈ lft := by
 have hnd' : ((got ++ lft).map (·.born)).Nodup := (h.perm.map _).nodup_iff.2 hnd
 rw [List.map_append,List.nodup_append] at hnd'
 simp only [leftOf,Array.toList_filter,List.mem_filter,Bool.not_eq_eq_eq_not,Bool.not_true]
 have hs : ∀ b,seen.contains b = true ↔ b ∈ got.map (·.born) := fun b => by rw [Array.contains_iff_mem,← h.seen]; simp
 constructor
 ·rintro ⟨h1,h2⟩
  rcases zL.1 (h.perm.mem_iff.2 h1) with h3 | h3
  ·have := (hs e.born).2 (List.mem_map.2 ⟨e,h3,rfl⟩)
   rw [h2] at this; cases this
  ·exact h3
 ·intro h1
  refine ⟨h.perm.mem_iff.1 (zL.2 (.inr h1)),?_⟩
  rw [Bool.eq_false_iff]
  intro h2
  exact hnd'.2.2 e.born ((hs e.born).1 h2) e.born (List.mem_map.2 ⟨e,h1,rfl⟩) rfl
theorem WalkedV.step {α : Type} {enc : α → Value} {es : Array MapEntry} {seen : Array Nat} {ss : List α} {got l1 l2 : List MapEntry} {e : MapEntry} {x : α} (h : WalkedV enc es seen ss got (l1 ++ e :: l2)) (hx : enc x = e.val) : WalkedV enc es (seen.push e.born) (ss ++ [x]) (got ++ [e]) (l1 ++ l2) := by
 refine ⟨?_,by simp [h.seen],by simp [h.keys,hx]⟩
 refine List.Perm.trans ?_ h.perm
 rw [zI]
 refine List.Perm.append_left got ?_
 simpa using (List.perm_middle (a := e) (l₁ := l1) (l₂ := l2)).symm
end Go.Val
namespace Go.Val
open Go.RowKit
end Go.Val
namespace Go.Val
open Go.RowKit
variable [Drw]
section
variable {P : Program} {N : Nat × Nat} {ops : Array Oper} {i : Nat} {s : St} {d : Nat} {ty : TypeId} {pos : String} {af : Array Edge}
end
end Go.Val
namespace Go.Val
open Go.Lib
instance iNoDrw : NoDrw := { dm := False,no := id }
theorem wI64 {n : Int} (h : -9223372036854775808 ≤ n ∧ n ≤ 9223372036854775807) : IntKind.wrap .i64 n = n := by
 have e : IntKind.wrap .i64 n = if n % 18446744073709551616 ≥ 9223372036854775808 then n % 18446744073709551616 - 18446744073709551616 else n % 18446744073709551616 := by
  simp [IntKind.wrap,IntKind.bits,IntKind.signed]
 rw [e]
 by_cases hc : n % 18446744073709551616 ≥ 9223372036854775808
 ·rw [if_pos hc]; omega
 ·rw [if_neg hc]; omega
theorem gx_nat {α : Type} {xs : List α} {i : Nat} (h : i < xs.length) : gx xs (i : Int) = some xs[i] := by
 simp [gx,h]
theorem q81 {n bs : Nat} (h : n * bs ≤ 140737488355328) : fits n bs = some () := by simp [fits,ck,h]
theorem cutB_of {lo hi : Int} {n : Nat} (h : 0 ≤ lo ∧ lo ≤ hi ∧ hi ≤ n) : cutB lo hi n = some () := by simp [cutB,ck,h]
section
variable {κ β γ : Type} [DecidableEq κ]
theorem qs2 (k : κ) : mget ([] : List (κ × β)) k = none := rfl
theorem qO (p : κ × β) (m : List (κ × β)) (k : κ) : mget (p :: m) k = if k = p.1 then some p.2 else mget m k := by
 simp only [mget,List.find?_cons]
 by_cases h : k = p.1 <;> simp [h]
theorem q01 (m m' : List (κ × β)) (k : κ) : mget (m ++ m') k = (mget m k).or (mget m' k) := by
 induction m with
 | nil => simp [qs2]
 | cons p m ih => rw [List.cons_append,qO,qO,ih]; split <;> simp
theorem qH2 {m : List (κ × β)} {k : κ} : mget m k = none ↔ k ∉ m.map (·.1) := by
 induction m with
 | nil => simp [qs2]
 | cons p m ih => rw [qO]; by_cases h : k = p.1 <;> simp [h,ih]
theorem qK1 {m : List (κ × β)} {k : κ} {v : β} (h : mget m k = some v) : (k,v) ∈ m := by
 induction m with
 | nil => cases h
 | cons p m ih =>
  rw [qO] at h
  by_cases hk : k = p.1
  ·rw [if_pos hk] at h; cases h; subst hk; simp
  ·rw [if_neg hk] at h; exact List.mem_cons_of_mem _ (ih h)
theorem qb3 {m : List (κ × β)} (hn : (m.map (·.1)).Nodup) {k : κ} {v : β} (h : (k,v) ∈ m) : mget m k = some v := by
 induction m with
 | nil => cases h
 | cons p m ih =>
  rw [List.map_cons,List.nodup_cons] at hn
  rw [qO]
  rcases zM.1 h with e | e
  ·subst e; simp
  ·have : k ≠ p.1 := fun e' => hn.1 (by rw [← e']; exact List.mem_map.2 ⟨_,e,rfl⟩)
   rw [if_neg this]; exact ih hn.2 e
theorem qq1 {m : List (κ × β)} {k : κ} : (mget m k).isSome = true ↔ k ∈ m.map (·.1) := by
 have := @qH2 κ β _ m k
 cases h : mget m k with
 | none => simp only [h,true_iff] at this; simp [this]
 | some v => simp only [h] at this; simp only [Option.isSome_some,true_iff]; exact Classical.byContradiction fun hc => by simp [hc] at this
theorem mget_perm {m m' : List (κ × β)} (hn : (m.map (·.1)).Nodup) (hp : m'.Perm m) (k : κ) : mget m' k = mget m k := by
 have hn' : (m'.map (·.1)).Nodup := (hp.map _).nodup_iff.2 hn
 cases h : mget m k with
 | none => rw [qH2] at h ⊢; exact fun hc => h ((hp.map _).mem_iff.1 hc)
 | some v => exact qb3 hn' (hp.mem_iff.2 (qK1 h))
theorem mset_cons (p : κ × β) (m : List (κ × β)) (k : κ) (v : β) : mset (p :: m) k v = if k = p.1 then (k,v) :: m else p :: mset m k v := by
 simp only [mset,List.findIdx?_cons]
 by_cases h : k = p.1
 ·simp [h]
 ·simp only [h,zB,Bool.false_eq_true,if_false]
  cases hq : m.findIdx? fun p => decide (k = p.1) <;> simp
theorem mset_nil (k : κ) (v : β) : mset ([] : List (κ × β)) k v = [(k,v)] := rfl
theorem qX1 (m : List (κ × β)) (k : κ) (v : β) (k' : κ) : mget (mset m k v) k' = if k' = k then some v else mget m k' := by
 induction m with
 | nil => rw [mset_nil,qO]
 | cons p m ih =>
  rw [mset_cons]
  by_cases h : k = p.1
  ·rw [if_pos h,qO,qO]
   by_cases h' : k' = k
   ·simp [h']
   ·simp only [h',if_false]; rw [if_neg (by rw [← h]; exact h')]
  ·rw [if_neg h,qO,qO,ih]
   by_cases h' : k' = p.1
   ·have hne : ¬ k' = k := fun e => h (e ▸ h')
    simp only [h',if_true] at hne ⊢
    rw [if_neg hne]
   ·simp only [h',if_false]
theorem q74 (m : List (κ × β)) (k : κ) (v : β) : (mset m k v).map (·.1) = if k ∈ m.map (·.1) then m.map (·.1) else m.map (·.1) ++ [k] := by
 induction m with
 | nil => simp [mset_nil]
 | cons p m ih =>
  rw [mset_cons]
  by_cases h : k = p.1
  ·simp [h]
  ·rw [if_neg h,List.map_cons,ih]
   by_cases h' : k ∈ m.map (·.1)
   ·rw [if_pos h',List.map_cons,if_pos (List.mem_cons_of_mem _ h')]
   ·rw [if_neg h',List.map_cons,if_neg (by simp only [zM,not_or]; exact ⟨h,h'⟩)]; rfl
theorem qP2 {m : List (κ × β)} (hn : (m.map (·.1)).Nodup) (k : κ) (v : β) : ((mset m k v).map (·.1)).Nodup := by
 rw [q74]
 split
 ·exact hn
 ·rename_i h
  rw [List.nodup_append]
  refine ⟨hn,by simp,fun a ha b hb e => ?_⟩
  simp at hb
  subst hb
  exact h (e ▸ ha)
theorem len_mset (m : List (κ × β)) (k : κ) (v : β) : (mset m k v).length ≤ m.length + 1 := by
 have := congrArg List.length (q74 m k v)
 rw [List.length_map] at this
 rw [this]
 split <;> simp
theorem mdel_cons (p : κ × β) (m : List (κ × β)) (k : κ) : mdel (p :: m) k = if k = p.1 then m else p :: mdel m k := by
 simp only [mdel,List.eraseP_cons]
 by_cases h : k = p.1 <;> simp [h]
theorem mdel_sub (m : List (κ × β)) (k : κ) : (mdel m k).Sublist m := List.eraseP_sublist
theorem nodup_mdel {m : List (κ × β)} (hn : (m.map (·.1)).Nodup) (k : κ) : ((mdel m k).map (·.1)).Nodup := ((mdel_sub m k).map _).nodup hn
theorem len_mdel (m : List (κ × β)) (k : κ) : (mdel m k).length ≤ m.length := (mdel_sub m k).length_le
theorem mget_mdel {m : List (κ × β)} (hn : (m.map (·.1)).Nodup) (k k' : κ) : mget (mdel m k) k' = if k' = k then none else mget m k' := by
 induction m with
 | nil => simp [mdel,qs2]
 | cons p m ih =>
  rw [List.map_cons,List.nodup_cons] at hn
  rw [mdel_cons]
  by_cases h : k = p.1
  ·rw [if_pos h,qO]
   by_cases h' : k' = k
   ·rw [if_pos h',qH2]
    rw [h',h]; exact hn.1
   ·rw [if_neg h',if_neg (by rw [← h]; exact h')]
  ·rw [if_neg h,qO,qO,ih hn.2]
   by_cases h' : k' = p.1
   ·have hne : ¬ k' = k := fun e => h (e ▸ h')
    simp only [h',if_true] at hne ⊢
    rw [if_neg hne]
   ·simp only [h',if_false]
def q26 (l : List (κ × β)) : List (κ × β) := l.foldl (fun m p => mset m p.1 p.2) []
theorem foldl_mset_nodup (l : List (κ × β)) : ∀ m : List (κ × β),(m.map (·.1)).Nodup → ((l.foldl (fun m p => mset m p.1 p.2) m).map (·.1)).Nodup := by
 induction l with
 | nil => exact fun m h => h
 | cons p l ih => exact fun m h => ih _ (qP2 h _ _)
theorem qD4 (l : List (κ × β)) : ((q26 l).map (·.1)).Nodup := foldl_mset_nodup l [] (by simp)
theorem foldl_mset_len (l : List (κ × β)) : ∀ m : List (κ × β),(l.foldl (fun m p => mset m p.1 p.2) m).length ≤ m.length + l.length := by
 induction l with
 | nil => exact fun m => Nat.le_refl _
 | cons p l ih =>
  intro m
  have h1 := ih (mset m p.1 p.2)
  have h2 := len_mset m p.1 p.2
  simp only [List.foldl_cons,zG]
  omega
theorem valuesP_len (l : List (κ × β)) : (q26 l).length ≤ l.length := by
 have := foldl_mset_len l []
 simp only [zH,Nat.zero_add] at this
 exact this
theorem mget_foldl (l : List (κ × β)) (k : κ) : ∀ m : List (κ × β),mget (l.foldl (fun m p => mset m p.1 p.2) m) k = (mget l.reverse k).or (mget m k) := by
 induction l with
 | nil => intro m; simp [qs2]
 | cons p l ih =>
  intro m
  rw [List.foldl_cons,ih,qX1,List.reverse_cons,q01,qO,qs2]
  cases mget l.reverse k <;> simp
  split <;> rfl
theorem mget_valuesP (l : List (κ × β)) (k : κ) : mget (q26 l) k = mget l.reverse k := by
 unfold q26
 rw [mget_foldl,qs2]; simp
theorem mget_valuesP_nodup {l : List (κ × β)} (hn : (l.map (·.1)).Nodup) (k : κ) : mget (q26 l) k = mget l k := by
 rw [mget_valuesP]
 exact mget_perm hn (List.reverse_perm l) k
end
end Go.Val
namespace Go.Val
open Go.Lib
def Lt (a b : List UInt8) : Prop := compareBytes a b < 0
instance (a b : List UInt8) : Decidable (Lt a b) := inferInstanceAs (Decidable (compareBytes a b < 0))
theorem lt_irrefl (a : List UInt8) : ¬ Lt a a := by unfold Lt; rw [cb_refl]; omega
theorem lt_trans {a b c : List UInt8} (h : Lt a b) (k : Lt b c) : Lt a c := cb_trans h k
theorem lt_ne {a b : List UInt8} (h : Lt a b) : a ≠ b := fun e => lt_irrefl b (e ▸ h)
theorem lt_or (a b : List UInt8) : Lt a b ∨ a = b ∨ Lt b a := by
 unfold Lt
 have := q36 a b
 by_cases h : compareBytes a b = 0
 ·exact .inr (.inl (cb_eq h))
 ·omega
theorem lt_of_le {a b : List UInt8} (h : keyLe a b = true) (hn : a ≠ b) : Lt a b := by
 rw [qZ3] at h
 rcases lt_or a b with h1 | h1 | h1
 ·exact h1
 ·exact absurd h1 hn
 ·unfold Lt at h1; have := q36 a b; omega
abbrev Asc (l : List (List UInt8)) : Prop := l.Pairwise Lt
theorem asc_nodup {l : List (List UInt8)} (h : Asc l) : l.Nodup := h.imp fun h => lt_ne h
theorem asc_eq {l l' : List (List UInt8)} (h : Asc l) (h' : Asc l') (hm : ∀ k,k ∈ l ↔ k ∈ l') : l = l' := by
 have hp : l.Perm l' := (List.perm_ext_iff_of_nodup (asc_nodup h) (asc_nodup h')).2 hm
 refine List.Perm.eq_of_pairwise (le := Lt) (fun a b _ _ h1 h2 => absurd (lt_trans h1 h2) (lt_irrefl a)) h h' hp
theorem sortKeys_asc {l : List (List UInt8)} (h : l.Nodup) : Asc (qz4 l) := by
 have h1 := sortKeys_sorted l
 have h2 : (qz4 l).Nodup := (qn4 l).nodup_iff.2 h
 exact (h1.and h2).imp fun ⟨a,b⟩ => lt_of_le a b
theorem sortKeys_len (l : List (List UInt8)) : (qz4 l).length = l.length := (qn4 l).length_eq
section
variable {β : Type}
abbrev Rising (l : List (List UInt8 × β)) : Prop := Asc (l.map (·.1))
theorem Rising.nodup {l : List (List UInt8 × β)} (h : Rising l) : (l.map (·.1)).Nodup := asc_nodup h
theorem qd3 {l l' : List (List UInt8 × β)} (h : Rising l) (h' : Rising l') (hg : ∀ k,mget l k = mget l' k) : l = l' := by
 have hk : l.map (·.1) = l'.map (·.1) := asc_eq h h' fun k => by rw [← qq1,← qq1,hg]
 have hl : l.length = l'.length := by have := congrArg List.length hk; simpa using this
 apply List.ext_getElem hl
 intro i h1 h2
 have e1 : l[i].1 = l'[i].1 := by
  have := congrArg (fun x => x[i]?) hk
  simpa [h1,h2] using this
 have e2 := qb3 h.nodup (k := l[i].1) (v := l[i].2) (List.getElem_mem h1)
 have e3 := qb3 h'.nodup (k := l'[i].1) (v := l'[i].2) (List.getElem_mem h2)
 rw [hg,e1,e3] at e2
 exact Prod.ext e1 (zQ e2).symm
def canon (d : β) (m : List (List UInt8 × β)) : List (List UInt8 × β) := (qz4 (m.map (·.1))).map fun k => (k,(mget m k).getD d)
theorem canon_keys (d : β) (m : List (List UInt8 × β)) : (canon d m).map (·.1) = qz4 (m.map (·.1)) := by
 unfold canon
 rw [List.map_map]
 exact List.map_id _
theorem canon_rising (d : β) {m : List (List UInt8 × β)} (hn : (m.map (·.1)).Nodup) : Rising (canon d m) := by
 unfold Rising
 rw [canon_keys]
 exact sortKeys_asc hn
theorem canon_len (d : β) (m : List (List UInt8 × β)) : (canon d m).length = m.length := by
 have := congrArg List.length (canon_keys d m)
 rw [List.length_map,sortKeys_len,List.length_map] at this
 exact this
theorem mget_canon (d : β) {m : List (List UInt8 × β)} (hn : (m.map (·.1)).Nodup) (k : List UInt8) : mget (canon d m) k = mget m k := by
 have hm : k ∈ qz4 (m.map (·.1)) ↔ k ∈ m.map (·.1) := (qn4 _).mem_iff
 cases h : mget m k with
 | none =>
  rw [qH2,canon_keys,hm]
  exact qH2.1 h
 | some v =>
  have hk : k ∈ m.map (·.1) := qq1.1 (by rw [h]; rfl)
  refine qb3 (canon_rising d hn).nodup ?_
  refine List.mem_map.2 ⟨k,hm.2 hk,?_⟩
  rw [h]; rfl
end
abbrev Pr := List UInt8 × ByteArray
abbrev Cg := List UInt8 × ByteArray × Bool
abbrev Fn := List UInt8 → Option ByteArray
def fn (l : List Pr) : Fn := mget (q26 l)
def eff (c : ByteArray × Bool) : Option ByteArray := if c.2 then none else some c.1
def upd1 (f : Fn) (c : Cg) : Fn := fun k => if k = c.1 then eff c.2 else f k
def updF (f : Fn) (cs : List Cg) : Fn := fun k => match mget cs.reverse k with
 | some c => eff c
 | none => f k
theorem updF_snoc (f : Fn) (cs : List Cg) (c : Cg) : updF f (cs ++ [c]) = upd1 (updF f cs) c := by
 funext k
 simp only [updF,upd1,List.reverse_append,List.reverse_cons,List.reverse_nil,List.nil_append,List.singleton_append,qO]
 by_cases h : k = c.1 <;> simp [h]
theorem qi5 (f : Fn) (cs : List Cg) : updF f cs = cs.foldl upd1 f := by
 have key : ∀ r : List Cg,updF f r.reverse = r.reverse.foldl upd1 f := by
  intro r
  induction r with
  | nil => rfl
  | cons c r ih => rw [List.reverse_cons,updF_snoc,ih,List.foldl_append]; rfl
 have := key cs.reverse
 rwa [List.reverse_reverse] at this
theorem updF_append (f : Fn) (cs ds : List Cg) : updF f (cs ++ ds) = updF (updF f cs) ds := by
 rw [qi5,qi5,qi5,List.foldl_append]
theorem updF_nodup {cs : List Cg} (h : (cs.map (·.1)).Nodup) (f : Fn) (k : List UInt8) : updF f cs k = match mget cs k with
  | some c => eff c
  | none => f k := by
 unfold updF
 rw [mget_perm h (List.reverse_perm cs)]
def doesP (m : List Pr) (c : Cg) : List Pr := if c.2.2 = true then mdel m c.1 else mset m c.1 c.2.1
theorem doesP_nodup {m : List Pr} (h : (m.map (·.1)).Nodup) (c : Cg) : ((doesP m c).map (·.1)).Nodup := by
 unfold doesP
 split
 ·exact nodup_mdel h _
 ·exact qP2 h _ _
theorem doesP_len (m : List Pr) (c : Cg) : (doesP m c).length ≤ m.length + 1 := by
 unfold doesP
 split
 ·have := len_mdel m c.1; omega
 ·exact len_mset _ _ _
theorem mget_doesP {m : List Pr} (h : (m.map (·.1)).Nodup) (c : Cg) : mget (doesP m c) = upd1 (mget m) c := by
 funext k
 obtain ⟨a,b,g⟩ := c
 cases g with
 | true => simp only [doesP,upd1,eff,if_true]; rw [mget_mdel h]
 | false => simp only [doesP,upd1,eff,Bool.false_eq_true,if_false]; rw [qX1]
theorem qO5 (cs : List Cg) : ∀ m : List Pr,(m.map (·.1)).Nodup → ((cs.foldl doesP m).map (·.1)).Nodup ∧ (cs.foldl doesP m).length ≤ m.length + cs.length ∧ mget (cs.foldl doesP m) = cs.foldl upd1 (mget m) := by
 induction cs with
 | nil => exact fun m h => ⟨h,Nat.le_refl _,rfl⟩
 | cons c cs ih =>
  intro m h
  obtain ⟨h1,h2,h3⟩ := ih _ (doesP_nodup h c)
  have := doesP_len m c
  refine ⟨h1,by simp only [List.foldl_cons,zG]; omega,?_⟩
  rw [List.foldl_cons,h3,mget_doesP h]; rfl
def mt : ByteArray := ByteArray.mk #[]
def qf2 (l : List Pr) (cs : List Cg) : List Pr := canon mt (cs.foldl doesP (q26 l))
theorem qX0 (l : List Pr) (cs : List Cg) : Rising (qf2 l cs) := canon_rising mt (qO5 cs _ (qD4 l)).1
theorem qC2 (l : List Pr) (cs : List Cg) : mget (qf2 l cs) = updF (fn l) cs := by
 obtain ⟨h1,h2,h3⟩ := qO5 cs _ (qD4 l)
 funext k
 unfold qf2
 rw [mget_canon mt h1,h3,qi5]
 rfl
theorem qH4 {l : List Pr} (h : Rising l) : fn l = mget l := funext fun k => mget_valuesP_nodup h.nodup k
theorem qB4 (l : List Pr) (cs : List Cg) : (qf2 l cs).length ≤ l.length + cs.length := by
 unfold qf2
 rw [canon_len]
 have h1 := (qO5 cs _ (qD4 l)).2.1
 have h2 := valuesP_len l
 omega
def difC (f g : Fn) (k : List UInt8) : Option (ByteArray × Bool) := match g k with
 | some v => if f k = some v then none else some (v,false)
 | none => if (f k).isSome then some (mt,true) else none
structure IsDiff (f g : Fn) (d : List Cg) : Prop where
 rising : Rising d
 get : ∀ k,mget d k = difC f g k
theorem IsDiff.unique {f g : Fn} {d d' : List Cg} (h : IsDiff f g d) (h' : IsDiff f g d') : d = d' :=
 qd3 h.rising h'.rising fun k => by rw [h.get,h'.get]
theorem IsDiff.upd {f g : Fn} {d : List Cg} (h : IsDiff f g d) : updF f d = g := by
 funext k
 rw [updF_nodup h.rising.nodup,h.get]
 unfold difC
 cases hg : g k with
 | some v =>
  by_cases hf : f k = some v
  ·simp [hf]
  ·simp [hf,eff]
 | none =>
  cases hf : f k with
  | some v => simp [eff]
  | none => simp
theorem difC_none {f g : Fn} {k : List UInt8} : difC f g k = none ↔ f k = g k := by
 unfold difC
 cases hg : g k with
 | some v => by_cases hf : f k = some v <;> simp [hf]
 | none => cases hf : f k <;> simp
theorem difC_self (f : Fn) (k : List UInt8) : difC f f k = none := difC_none.2 rfl
theorem IsDiff.nil {f : Fn} {d : List Cg} (h : IsDiff f f d) : d = [] := by
 cases d with
 | nil => rfl
 | cons c d =>
  have := h.get c.1
  rw [difC_self,qO,if_pos rfl] at this
  cases this
theorem IsDiff.mem {f g : Fn} {d : List Cg} (h : IsDiff f g d) {k : List UInt8} : k ∈ d.map (·.1) ↔ f k ≠ g k := by
 rw [← qq1,h.get]
 have := @difC_none f g k
 cases hd : difC f g k with
 | none => simp [this.1 hd]
 | some c =>
  have hne : ¬ f k = g k := fun e => by rw [this.2 e] at hd; cases hd
  simp [hne]
end Go.Val
namespace Go.Val
open Go.RowKit
structure Rd (P : Program) (t : TypeId) {κ : Type} (e : κ → D) : Prop where
 get : ∀ {H : Type} (enc : TypeId × Value → H) (W : World) (sp : Nat → Bool) (hd : Bool) (fuel : Nat) (cs : List Value) (x : DataW H × List MemPlace),DataW.trod enc P W 0 sp hd fuel t cs = some x → ∃ a : κ,DR (fun b => b < W.heap.size) W (e a) cs
theorem mapM_all {α β : Type} {f : α → Option β} : ∀ {l : List α} {ys : List β},l.mapM f = some ys → ∀ x ∈ l,∃ y,f x = some y
 | [],_,_,x,hx => by cases hx
 | a :: l,ys,h,x,hx => by
  rw [List.mapM_cons] at h
  simp only [Option.bind_eq_bind] at h
  obtain ⟨y,h1,h2⟩ := Option.bind_eq_some_iff.1 h
  obtain ⟨ys',h3,_⟩ := Option.bind_eq_some_iff.1 h2
  rcases zM.1 hx with rfl | hx
  ·exact ⟨y,h1⟩
  ·exact mapM_all h3 x hx
theorem Rd.int {P : Program} {t : TypeId} {k : IntKind} (un : P.underlying t = some (.int k)) : Rd P t (fun n : Int => .v (.int k n)) := by
 refine ⟨?_⟩
 intro H enc W sp hd fuel cs x h
 cases fuel with
 | zero => simp [DataW.trod] at h
 | succ fuel =>
  match cs with
  | [] => simp [DataW.trod,un] at h
  | [c] =>
   cases c <;> simp [DataW.trod,un] at h
   obtain ⟨⟨rfl,_⟩,_⟩ := h
   exact ⟨_,.v rfl⟩
  | _ :: _ :: _ => simp [DataW.trod,un] at h
theorem Rd.bool {P : Program} {t : TypeId} (un : P.underlying t = some .bool) : Rd P t (fun b : Bool => .v (.bool b)) := by
 refine ⟨?_⟩
 intro H enc W sp hd fuel cs x h
 cases fuel with
 | zero => simp [DataW.trod] at h
 | succ fuel =>
  match cs with
  | [] => simp [DataW.trod,un] at h
  | [c] =>
   cases c <;> simp [DataW.trod,un] at h
   exact ⟨_,.v rfl⟩
  | _ :: _ :: _ => simp [DataW.trod,un] at h
theorem Rd.string {P : Program} {t : TypeId} (un : P.underlying t = some .string) : Rd P t (fun b : ByteArray => .v (.string b)) := by
 refine ⟨?_⟩
 intro H enc W sp hd fuel cs x h
 cases fuel with
 | zero => simp [DataW.trod] at h
 | succ fuel =>
  match cs with
  | [] => simp [DataW.trod,un] at h
  | [c] =>
   cases c <;> simp [DataW.trod,un] at h
   exact ⟨_,.v rfl⟩
  | _ :: _ :: _ => simp [DataW.trod,un] at h
theorem Rd.bytes {P : Program} {t e : TypeId} {n : Nat} (un : P.underlying t = some (.array n e)) (ue : P.underlying e = some (.int .u8)) (hc : P.cellsOf e = 1) (hn : P.cellsOf t = n) : Rd P t (fun l : List UInt8 => .bs n l) := by
 refine ⟨?_⟩
 intro H enc W sp hd fuel cs x h
 cases fuel with
 | zero => simp [DataW.trod] at h
 | succ fuel =>
  have hlen : cs.length = n := by
   simp only [DataW.trod,un,hn] at h
   split at h
   ·rename_i q; exact q
   ·cases h
  have hm : ∃ xs,((List.range n).mapM fun i => DataW.trod enc P W 0 sp hd fuel e ((cs.drop (i * P.cellsOf e)).take (P.cellsOf e))) = some xs := by
   simp only [DataW.trod,un,hn,hlen,if_true] at h
   obtain ⟨xs,h1,_⟩ := Option.map_eq_some_iff.1 h
   exact ⟨xs,h1⟩
  obtain ⟨xs,hm⟩ := hm
  have key : ∀ c ∈ cs,∃ b : UInt8,c = u8v b := by
   intro c hcm
   obtain ⟨i,hi,rfl⟩ := List.getElem_of_mem hcm
   obtain ⟨y,hy⟩ := mapM_all hm i (List.mem_range.2 (by omega))
   rw [hc,Nat.mul_one] at hy
   have ht : (cs.drop i).take 1 = [cs[i]] := by rw [List.drop_eq_getElem_cons hi]; rfl
   rw [ht] at hy
   cases fuel with
   | zero => simp [DataW.trod] at hy
   | succ fuel =>
    generalize cs[i] = c at hy
    cases c <;> simp [DataW.trod,ue] at hy
    rename_i k' m
    obtain ⟨⟨rfl,hw⟩,_⟩ := hy
    simp only [Lit.wf,Bool.and_eq_true,decide_eq_true_eq,IntKind.min,IntKind.max] at hw
    have h0 : 0 ≤ m ∧ m < 256 := by
     have := hw
     revert this
     simp [IntKind.signed,IntKind.bits]
     omega
    refine ⟨UInt8.ofNat m.toNat,?_⟩
    have e8 : ((UInt8.ofNat m.toNat).toNat : Int) = m := by
     rw [UInt8.toNat_ofNat',Nat.mod_eq_of_lt (by omega)]
     omega
    simp only [u8v,e8]
  have hl : ∃ l : List UInt8,cs = l.map u8v := by
   clear hm h hlen
   induction cs with
   | nil => exact ⟨[],rfl⟩
   | cons c cs ih =>
    obtain ⟨b,rfl⟩ := key c (by simp)
    obtain ⟨l,rfl⟩ := ih (fun c' h' => key c' (by simp [h']))
    exact ⟨b :: l,rfl⟩
  obtain ⟨l,rfl⟩ := hl
  exact ⟨l,.bs (by simpa using hlen)⟩
structure RdL (P : Program) (T off : Nat) (fs : List Field) {σ : Type} (e : σ → List D) : Prop where
 get : ∀ {H : Type} (enc : TypeId × Value → H) (W : World) (sp : Nat → Bool) (hd : Bool) (fuel : Nat) (cs : List Value) (xs : List (DataW H × List MemPlace)),cs.length = T →
  (fs.mapM fun f => DataW.trod enc P W 0 sp hd fuel f.type ((cs.drop f.offset).take (P.cellsOf f.type))) = some xs → ∃ a : σ,DRs (fun b => b < W.heap.size) W (e a) (cs.drop off)
theorem RdL.nil {P : Program} {T : Nat} : RdL P T T [] (fun _ : Unit => []) := by
 refine ⟨?_⟩
 intro H enc W sp hd fuel cs xs hl _
 refine ⟨(),?_⟩
 rw [List.drop_of_length_le (by omega)]
 exact .nil
theorem RdL.cons {P : Program} {T off n : Nat} {f : Field} {fs : List Field} {κ σ : Type} {e1 : κ → D} {e2 : σ → List D} (ho : f.offset = off) (hn : P.cellsOf f.type = n) (h1 : Rd P f.type e1) (h2 : RdL P T (off + n) fs e2) :
  RdL P T off (f :: fs) (fun p : κ × σ => e1 p.1 :: e2 p.2) := by
 refine ⟨?_⟩
 intro H enc W sp hd fuel cs xs hl h
 rw [List.mapM_cons] at h
 simp only [Option.bind_eq_bind] at h
 obtain ⟨y,k1,k2⟩ := Option.bind_eq_some_iff.1 h
 obtain ⟨ys,k3,_⟩ := Option.bind_eq_some_iff.1 k2
 rw [ho,hn] at k1
 obtain ⟨a,ha⟩ := h1.get enc W sp hd fuel _ _ k1
 obtain ⟨b,hb⟩ := h2.get enc W sp hd fuel cs ys hl k3
 refine ⟨(a,b),?_⟩
 have : cs.drop off = (cs.drop off).take n ++ cs.drop (off + n) := by
  rw [← List.drop_drop,List.take_append_drop]
 rw [this]
 exact .cons ha hb
theorem Rd.struct {P : Program} {t : TypeId} {fs : Array Field} {T : Nat} {σ κ : Type} {es : σ → List D} {e : κ → D} (un : P.underlying t = some (.struct fs)) (hT : P.cellsOf t = T) (hL : RdL P T 0 fs.toList es) (φ : σ → κ) (hφ : ∀ a,e (φ a) = .st (es a)) : Rd P t e := by
 refine ⟨?_⟩
 intro H enc W sp hd fuel cs x h
 cases fuel with
 | zero => simp [DataW.trod] at h
 | succ fuel =>
  have hlen : cs.length = T := by
   simp only [DataW.trod,un,hT] at h
   split at h
   ·rename_i q; exact q
   ·cases h
  simp only [DataW.trod,un,hT,hlen,if_true] at h
  obtain ⟨xs,k1,_⟩ := Option.map_eq_some_iff.1 h
  obtain ⟨a,ha⟩ := hL.get enc W sp hd fuel cs xs hlen k1
  rw [List.drop_zero] at ha
  exact ⟨φ a,by rw [hφ]; exact .st ha⟩
theorem cellsAt_append {w : World} {b off : Nat} {cs cs' : List Value} (h : CellsAt w b off cs) (h' : CellsAt w b (off + cs.length) cs') : CellsAt w b off (cs ++ cs') := by
 intro i v hi
 by_cases hl : i < cs.length
 ·rw [List.getElem?_append_left hl] at hi
  exact h i v hi
 ·rw [List.getElem?_append_right (by omega)] at hi
  have := h' (i - cs.length) v hi
  rw [show off + cs.length + (i - cs.length) = off + i by omega] at this
  exact this
theorem cell_spot {w : World} {a : Addr} {v : Value} (h : w.cell? a = some v) : a.spot = none ∧ a.block < w.heap.size := by
 unfold World.cell? at h
 split at h
 ·rename_i q
  split at h
  ·cases h
  ·rename_i hs
   exact ⟨by simpa using hs,(Array.getElem?_eq_some_iff.1 q).1⟩
 ·cases h
theorem cells_spot {w : World} {a : Addr} {n : Nat} {cs : List Value} (h : w.cells? 0 a n = some cs) (hn : 0 < n) : a.spot = none ∧ a.block < w.heap.size := by
 unfold World.cells? at h
 rw [if_pos (by omega)] at h
 obtain ⟨y,hy⟩ := mapM_all h 0 (List.mem_range.2 hn)
 exact cell_spot hy
theorem mapM_get {α β : Type} {f : α → Option β} : ∀ {l : List α} {ys : List β},l.mapM f = some ys → ys.length = l.length ∧ ∀ (i : Nat) (x : α),l[i]? = some x → f x = ys[i]?
 | [],ys,h => by
  simp at h
  subst h
  exact ⟨rfl,fun i x hx => by simp at hx⟩
 | a :: l,ys,h => by
  rw [List.mapM_cons] at h
  simp only [Option.bind_eq_bind] at h
  obtain ⟨y,h1,h2⟩ := Option.bind_eq_some_iff.1 h
  obtain ⟨ys',h3,h4⟩ := Option.bind_eq_some_iff.1 h2
  cases h4
  obtain ⟨k1,k2⟩ := mapM_get h3
  refine ⟨by simp [k1],fun i x hx => ?_⟩
  cases i with
  | zero => simp at hx; subst hx; simp [h1]
  | succ i => simp at hx; simp [k2 i x hx]
theorem cells_at {w : World} {a : Addr} {n : Nat} {cs : List Value} (h : w.cells? 0 a n = some cs) (hs : a.spot = none) : cs.length = n ∧ CellsAt w a.block a.off cs := by
 unfold World.cells? at h
 rw [if_pos (by omega)] at h
 obtain ⟨k1,k2⟩ := mapM_get h
 rw [List.length_range] at k1
 refine ⟨k1,fun i v hi => ?_⟩
 have hlt : i < n := by have := (List.getElem?_eq_some_iff.1 hi).1; omega
 have := k2 i i (by simp [hlt])
 rw [hi] at this
 rw [← this]
 congr 1
 obtain ⟨b,o,s⟩ := a
 simp only at hs
 subst hs
 exact (q82 _ _ _).symm
theorem Rd.slice {P : Program} {t e : TypeId} {k : Nat} {κ : Type} {ee : κ → D} (un : P.underlying t = some (.slice e)) (hc : P.cellsOf e = k) (hk : 0 < k) (hz : ∀ a,(ee a).size = k) (hR : Rd P e ee) : Rd P t (fun xs : List κ => .sl k (xs.map ee)) := by
 refine ⟨?_⟩
 intro H enc W sp hd fuel cs x h
 cases fuel with
 | zero => simp [DataW.trod] at h
 | succ fuel =>
  match cs with
  | [] => simp [DataW.trod,un] at h
  | _ :: _ :: _ => simp [DataW.trod,un] at h
  | [c] =>
   cases c <;> try (simp [DataW.trod,un] at h; done)
   rename_i base len cap
   cases base with
   | none =>
    have : len = 0 := by
     cases len with
     | zero => rfl
     | succ n => simp [DataW.trod,un] at h
    subst this
    exact ⟨[],.sl0⟩
   | some a =>
    by_cases h0 : len = 0
    ·subst h0; exact ⟨[],.sl0⟩
    ·simp only [DataW.trod,un,hc] at h
     split at h
     ·rename_i hcond
      obtain ⟨elems,k1,_⟩ := Option.bind_eq_some_iff.1 h
      have el : ∀ i,i < len → ∃ ci xi,W.cells? 0 (a.add (i * k)) k = some ci ∧ DR (fun b => b < W.heap.size) W (ee xi) ci := by
       intro i hi
       obtain ⟨y,hy⟩ := mapM_all k1 i (List.mem_range.2 hi)
       obtain ⟨ci,q1,q2⟩ := Option.bind_eq_some_iff.1 hy
       obtain ⟨xi,q3⟩ := hR.get enc W sp hd fuel ci y q2
       exact ⟨ci,xi,q1,q3⟩
      obtain ⟨c0,_,q0,_⟩ := el 0 (by omega)
      have q0' : W.cells? 0 a k = some c0 := by
       have e : a.add (0 * k) = a := by simp [Addr.add]
       rwa [e] at q0
      obtain ⟨hs,hb⟩ := cells_spot q0' hk
      have hadd : ∀ m,a.add m = ⟨a.block,a.off + m,none⟩ := by
       intro m
       obtain ⟨b,o,s⟩ := a
       simp only at hs
       subst hs
       exact q82 _ _ _
      have rows : ∀ n,n ≤ len → ∃ (xs : List κ) (cs' : List Value),xs.length = n ∧ cs'.length = n * k ∧ DRs (fun b => b < W.heap.size) W (xs.map ee) cs' ∧ CellsAt W a.block a.off cs' := by
       intro n
       induction n with
       | zero => exact fun _ => ⟨[],[],rfl,by simp,.nil,fun i v hi => by simp at hi⟩
       | succ n ih =>
        intro hn
        obtain ⟨xs,cs',p1,p2,p3,p4⟩ := ih (by omega)
        obtain ⟨ci,xi,r1,r2⟩ := el n (by omega)
        rw [hadd] at r1
        obtain ⟨r3,r4⟩ := cells_at r1 rfl
        refine ⟨xs ++ [xi],cs' ++ ci,by simp [p1],by rw [zF,p2,r3,Nat.succ_mul],?_,cellsAt_append p4 ?_⟩
        ·rw [List.map_append]
         have : DRs (fun b => b < W.heap.size) W ([xi].map ee) ci := by
          have := DRs.cons r2 .nil
          rwa [zJ] at this
         exact p3.append this
        ·rw [p2]; exact r4
      obtain ⟨xs,cs',p1,p2,p3,p4⟩ := rows len (Nat.le_refl _)
      refine ⟨xs,?_⟩
      have ha : a = ⟨a.block,a.off,none⟩ := by
       obtain ⟨b,o,s⟩ := a
       simp only at hs
       subst hs
       rfl
      rw [ha,← p1]
      have hl : xs.length = (xs.map ee).length := by simp
      rw [hl]
      exact .sl hb hb p3 (by intro r hr; obtain ⟨q,_,rfl⟩ := List.mem_map.1 hr; exact hz q) p4 (by rw [← hl,p1]; exact hcond.2.1)
     ·cases h
end Go.Val
namespace Go.Val
open Go.RowKit Go.ChangeShapes
theorem post_of_below {H : Type} {enc : TypeId × Value → H} {P : Program} {f : Func} {s : ChangeSpec} {apart fresh handsOn : Bool} {W W' : World} {args : Array Value} {v : Value} {ds gs : List (DataW H)} {before pa pv : List MemPlace}
  (hW : DataW.Whole enc P f.params.toList s.vars apart W args.toList ds gs before) (hb : Below W.heap.size W W')
  (hres : ∀ (b : Nat) (sp : Nat → Bool) (hd : Bool),DataW.TrodAll enc P W' b sp hd f.resultTypes.toList (v.resultList f.resultTypes.size) (s.fn H (ds ++ gs)).results [])
  (hargs : DataW.TrodAll enc P W' 0 (fun b => decide (b < W.heap.size)) true f.params.toList args.toList (s.fn H (ds ++ gs)).args pa)
  (hvars : DataW.TrodVars enc P W' (fun b => decide (b < W.heap.size)) s.vars (s.fn H (ds ++ gs)).vars pv) :
  s.post enc P f apart fresh handsOn false W args v W' :=
 ⟨ds,gs,before,[],pa,pv,hW,hres _ _ _,hargs,hvars,hb.frame _,fun h => (nomatch h)⟩
theorem trodAll_nil_mk {H : Type} {enc : TypeId × Value → H} {P : Program} {W : World} {b : Nat} {sp : Nat → Bool} {hd : Bool} : DataW.TrodAll enc P W b sp hd [] [] [] [] := rfl
theorem qE5 {H : Type} {enc : TypeId × Value → H} {P : Program} {W : World} {b : Nat} {sp : Nat → Bool} {hd : Bool} {t : TypeId} {ts : List TypeId} {v : Value} {vs : List Value} {d : DataW H} {ds : List (DataW H)} {p p' : List MemPlace}
  (h : DataW.Trod enc P W b sp hd t v d p) (hs : DataW.TrodAll enc P W b sp hd ts vs ds p') : DataW.TrodAll enc P W b sp hd (t :: ts) (v :: vs) (d :: ds) (p ++ p') := ⟨p,p',h,hs,rfl⟩
theorem calls_true {P : Program} {f : FuncId} {vals : List Value} {as : List AV} {W : World} (h : FnOk P f as 0 (lk []) (fun rr oo => rr = .d (.v (.bool true)) ∧ oo = lk []))
  (ha : ∀ E : Env,E.w = W → (∀ b,E.I b ↔ b < W.heap.size) → VRs E as vals) : Calls P f vals.toArray W fun e W' => e = .returned (.bool true) ∧ Below W.heap.size W W' := by
 let E : Env := ⟨lk [],fun _ => none,fun _ => 0,fun _ => [],fun _ => [],fun b => b < W.heap.size,W⟩
 have := h (fun o ho => absurd rfl ho) E vals rfl ⟨fun o ob (ho : none = some ob) => (nomatch ho),fun o o' b ho => absurd rfl ho⟩ (ha E rfl fun b => ⟨fun h => h.1,fun h => ⟨h,fun o ob (ho : none = some ob) => (nomatch ho)⟩⟩)
 refine this.mono ?_
 rintro e w' ⟨v,res,E',rfl,rfl,⟨rfl,_⟩,hv,_,_,hk,_,_⟩
 have hvr := hv.sc
 subst hvr
 exact ⟨rfl,⟨hk.os,hk.tape,hk.output,hk.size,fun b hb => hk.block b hb (fun ⟨o,ho,_⟩ => ho rfl)⟩⟩
theorem one_slice {P : Program} {W : World} {r : Reach} {b : Nat} {t e : TypeId} {v : Value} (un : P.underlying t = some (.slice e)) (h : Value.okWide P W r b t v) : one v = true := by
 cases v <;> first | rfl | (simp [Value.okWide,un,Cell.okWide,Cell.ok] at h)
theorem one_int {P : Program} {W : World} {r : Reach} {b : Nat} {t : TypeId} {k : IntKind} {v : Value} (un : P.underlying t = some (.int k)) (h : Value.okWide P W r b t v) : one v = true := by
 cases v <;> first | rfl | (simp [Value.okWide,un,Cell.okWide,Cell.ok] at h)
theorem VRs.cons_vr {E : Env} {x : AV} {xs : List AV} {v : Value} {vs : List Value} (h : VR E x v) (hs : VRs E xs vs) : VRs E (x :: xs) (v :: vs) := by
 obtain ⟨cs,h1,h2⟩ := h
 subst h2
 exact .cons h1 hs
end Go.Val
namespace Go.Val
open Go.RowKit
def DOk (d : D) : Prop := ∃ (I : Nat → Prop) (w : World) (cs : List Value),DR I w d cs
theorem drs_mem {I : Nat → Prop} {w : World} : ∀ {ds : List D} {cs : List Value},DRs I w ds cs → ∀ d ∈ ds,DOk d
 | _,_,.nil,d,h => by simp at h
 | _,_,.cons h hs,d,hm => by
  rcases zM.1 hm with rfl | hm
  ·exact ⟨_,_,_,h⟩
  ·exact drs_mem hs d hm
theorem DOk.bs {n : Nat} {l : List UInt8} (h : DOk (.bs n l)) : l.length = n := by
 obtain ⟨I,w,cs,h⟩ := h
 cases h
 assumption
theorem DOk.st {ds : List D} (h : DOk (.st ds)) : ∀ d ∈ ds,DOk d := by
 obtain ⟨I,w,cs,h⟩ := h
 cases h with
 | st h => exact drs_mem h
theorem DOk.sl {k : Nat} {rows : List D} (h : DOk (.sl k rows)) : ∀ r ∈ rows,DOk r := by
 obtain ⟨I,w,cs,h⟩ := h
 cases h with
 | sl0 => intro r hr; simp at hr
 | sl h1 h2 h3 h4 h5 h6 => exact drs_mem h3
theorem arg_oneK {H : Type} {enc : TypeId × Value → H} {P : Program} {t : TypeId} {κ : Type} {e : κ → D} (hR : Rd P t e) (hag : ∀ a,(e a).isAgg = false) {W : World} {v : Value} {d : DataW H} {ps : List MemPlace} (h1 : one v = true)
  (h : DataW.Trod enc P W 0 (fun _ => true) true t v d ps) : ∃ a : κ,DOk (e a) ∧ ∀ E : Env,E.w = W → (∀ b,E.I b ↔ b < W.heap.size) → VR E (.d (e a)) v := by
 obtain ⟨fuel,hf⟩ := h
 obtain ⟨a,ha⟩ := hR.get enc W _ _ fuel _ _ hf
 have hc : v.cells.toList = [v] := by cases v <;> first | rfl | (simp [one] at h1)
 rw [hc] at ha
 refine ⟨a,⟨_,_,_,ha⟩,fun E hE hI => ⟨[v],.d ?_,by simp [mkV,AV.isAgg,hag]⟩⟩
 subst hE
 exact ha.mono (Nat.le_refl _) fun b hb _ => ⟨(hI b).2 hb,rfl⟩
end Go.Val
namespace Go.Val
abbrev Ky := List UInt8
theorem le_of_lt {a b : Ky} (h : Lt a b) : ¬ Lt b a := fun k => lt_irrefl a (lt_trans h k)
theorem lt_of_lt_le {a b c : Ky} (h : Lt a b) (k : ¬ Lt c b) : Lt a c := by
 rcases lt_or b c with h1 | rfl | h1
 ·exact lt_trans h h1
 ·exact h
 ·exact absurd h1 k
def toB (s : Sp) : Option Ky := if s.2.2 = true then none else some s.2.1
def Under (k : Ky) : Option Ky → Prop
 | none => True
 | some b => Lt k b
instance (k : Ky) : ∀ b,Decidable (Under k b)
 | none => isTrue trivial
 | some b => inferInstanceAs (Decidable (Lt k b))
def inS (s : Sp) (k : Ky) : Bool := !decide (Lt k s.1) && decide (Under k (toB s))
def hasS (l : List Sp) (k : Ky) : Bool := l.any fun s => inS s k
def zK : Ky := List.replicate 24 0
def mkS (a : Ky) (b : Option Ky) : Sp := (a,b.getD zK,b.isNone)
theorem inS_iff {s : Sp} {k : Ky} : inS s k = true ↔ ¬ Lt k s.1 ∧ Under k (toB s) := by simp [inS]
theorem hasS_iff {l : List Sp} {k : Ky} : hasS l k = true ↔ ∃ s ∈ l,inS s k = true := by simp [hasS]
def full (s : Sp) : Bool := decide (Under s.1 (toB s))
structure CanonS (l : List Sp) : Prop where
 norm : ∀ s ∈ l,s = mkS s.1 (toB s) ∧ Under s.1 (toB s)
 len : ∀ s ∈ l,spOk s
 gap : l.Pairwise fun s t => ∃ b,toB s = some b ∧ Lt b t.1
theorem CanonS.nil : CanonS [] := ⟨by simp,by simp,.nil⟩
theorem CanonS.above {s : Sp} {l : List Sp} (h : CanonS (s :: l)) {k : Ky} (hk : hasS l k = true) : ∃ b,toB s = some b ∧ Lt b k := by
 obtain ⟨t,ht,h1⟩ := hasS_iff.1 hk
 obtain ⟨b,h2,h3⟩ := (List.pairwise_cons.1 h.gap).1 t ht
 exact ⟨b,h2,lt_of_lt_le h3 (inS_iff.1 h1).1⟩
theorem CanonS.first {s : Sp} {l : List Sp} (h : CanonS (s :: l)) {k : Ky} (hk : hasS (s :: l) k = true) : ¬ Lt k s.1 := by
 rw [hasS,List.any_cons,Bool.or_eq_true] at hk
 rcases hk with hk | hk
 ·exact (inS_iff.1 hk).1
 ·obtain ⟨b,h1,h2⟩ := h.above hk
  have := (h.norm s (by simp)).2
  rw [h1] at this
  exact le_of_lt (lt_trans this h2)
def Upto (k : Ky) : Option Ky → Prop
 | none => True
 | some b => ¬ Lt b k
instance (k : Ky) : ∀ b,Decidable (Upto k b)
 | none => isTrue trivial
 | some b => by unfold Upto; infer_instance
end Go.Val
namespace Go.Val
open Go.Lib
def valK : List UInt8 → Nat
 | [] => 0
 | x :: l => x.toNat * 256 ^ l.length + valK l
theorem valK_lt : ∀ l : List UInt8,valK l < 256 ^ l.length
 | [] => by simp [valK]
 | x :: l => by
  have h := valK_lt l
  have hx : x.toNat < 256 := x.toNat_lt
  simp only [valK,zG,Nat.pow_succ]
  have : x.toNat * 256 ^ l.length ≤ 255 * 256 ^ l.length := Nat.mul_le_mul_right _ (by omega)
  omega
theorem lt_val : ∀ {a b : List UInt8},a.length = b.length → (Lt a b ↔ valK a < valK b)
 | [],[],_ => by simp [valK,Lt,compareBytes]
 | [],_ :: _,h => by simp at h
 | _ :: _,[],h => by simp at h
 | x :: a,y :: b,h => by
  have hl : a.length = b.length := by simpa using h
  have ih := lt_val hl
  have ha := valK_lt a
  have hb := valK_lt b
  rw [hl] at ha
  simp only [valK,hl]
  have hc : Lt (x :: a) (y :: b) ↔ x.toNat < y.toNat ∨ (x.toNat = y.toNat ∧ Lt a b) := by
   unfold Lt
   simp only [compareBytes]
   by_cases h1 : x < y
   ·have := UInt8.lt_iff_toNat_lt.1 h1
    simp [h1]
    omega
   ·by_cases h2 : y < x
    ·have := UInt8.lt_iff_toNat_lt.1 h2
     simp [h1,h2]
     omega
    ·have e1 : ¬ x.toNat < y.toNat := fun q => h1 (UInt8.lt_iff_toNat_lt.2 q)
     have e2 : ¬ y.toNat < x.toNat := fun q => h2 (UInt8.lt_iff_toNat_lt.2 q)
     have e3 : x.toNat = y.toNat := by omega
     simp [h1,h2,e3]
  rw [hc,ih]
  constructor
  ·rintro (h1 | ⟨h1,h2⟩)
   ·have : x.toNat * 256 ^ b.length + 256 ^ b.length ≤ y.toNat * 256 ^ b.length := by
     rw [← Nat.succ_mul]
     exact Nat.mul_le_mul_right _ h1
    omega
   ·rw [h1]; omega
  ·intro h1
   rcases Nat.lt_trichotomy x.toNat y.toNat with h2 | h2 | h2
   ·exact .inl h2
   ·rw [h2] at h1; exact .inr ⟨h2,by omega⟩
   ·have : y.toNat * 256 ^ b.length + 256 ^ b.length ≤ x.toNat * 256 ^ b.length := by
     rw [← Nat.succ_mul]
     exact Nat.mul_le_mul_right _ h2
    omega
theorem val_inj {a b : List UInt8} (hl : a.length = b.length) (h : valK a = valK b) : a = b := by
 rcases lt_or a b with h1 | h1 | h1
 ·have := (lt_val hl).1 h1; omega
 ·exact h1
 ·have := (lt_val hl.symm).1 h1; omega
def OneS (k : Ky) (s : Sp) : Prop := s.1 = k ∧ s.2.1.length = 24 ∧ (s.2.2 = false ∧ valK s.2.1 = valK k + 1 ∨ s.2.2 = true ∧ s.2.1 = zK ∧ valK k + 1 = 256 ^ 24)
theorem OneS.unique {k : Ky} {s t : Sp} (h : OneS k s) (h' : OneS k t) : s = t := by
 obtain ⟨h1,h2,h3⟩ := h
 obtain ⟨k1,k2,k3⟩ := h'
 obtain ⟨s1,s2,s3⟩ := s
 obtain ⟨t1,t2,t3⟩ := t
 simp only at h1 h2 h3 k1 k2 k3
 subst h1
 subst k1
 have l1 := valK_lt s2
 have l2 := valK_lt t2
 rw [h2] at l1
 rw [k2] at l2
 rcases h3 with ⟨rfl,h4⟩ | ⟨rfl,rfl,h4⟩ <;> rcases k3 with ⟨rfl,k4⟩ | ⟨rfl,rfl,k4⟩
 ·rw [val_inj (h2.trans k2.symm) (h4.trans k4.symm)]
 ·omega
 ·omega
 ·rfl
theorem OneS.ok {k : Ky} {s : Sp} (h : OneS k s) (hk : k.length = 24) : spOk s := ⟨by rw [h.1]; exact hk,h.2.1⟩
theorem OneS.inS {k : Ky} {s : Sp} (h : OneS k s) (hk : k.length = 24) {j : Ky} (hj : j.length = 24) : inS s j = decide (j = k) := by
 obtain ⟨h1,h2,h3⟩ := h
 have hjv := valK_lt j
 rw [hj] at hjv
 rw [Bool.eq_iff_iff,inS_iff,decide_eq_true_eq,h1,lt_val (hj.trans hk.symm)]
 unfold toB
 rcases h3 with ⟨e,h4⟩ | ⟨e,h5,h4⟩
 ·rw [e]
  simp only [Bool.false_eq_true,if_false,Under]
  rw [lt_val (hj.trans h2.symm),h4]
  constructor
  ·intro h
   exact val_inj (hj.trans hk.symm) (by omega)
  ·rintro rfl
   omega
 ·rw [e]
  simp only [if_true,Under,and_true]
  constructor
  ·intro h
   exact val_inj (hj.trans hk.symm) (by omega)
  ·rintro rfl
   omega
end Go.Val
namespace Go.Val
open Go.Lib
def oLt : Option Ky → Option Ky → Prop
 | some a,b => Under a b
 | none,_ => False
instance : ∀ x y,Decidable (oLt x y)
 | some a,b => inferInstanceAs (Decidable (Under a b))
 | none,_ => isFalse id
end Go.Val
