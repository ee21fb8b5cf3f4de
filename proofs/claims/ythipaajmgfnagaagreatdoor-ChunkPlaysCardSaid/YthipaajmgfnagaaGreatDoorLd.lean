/- Merged texts: Xk Xl Xm Qa Qb Ra Rb Rc Sa Sb Sc. -/
import Derived.Test.YthipaajmgfnagaaGreatDoorLc
import Derived.ProofKit
set_option linter.unusedSectionVars false
set_option linter.unusedVariables false
set_option linter.unusedSimpArgs false
namespace Go.Val
open Go.RowKit
variable [Drw]
open Go.ChangeMaps (setBlock)
structure WalkedV {α : Type} (enc : α → Value) (es : Array MapEntry) (seen : Array Nat) (ss : List α) (got lft : List MapEntry) : Prop where
 perm : (got ++ lft).Perm es.toList
 seen : seen.toList = got.map (·.born)
 keys : ss.map enc = got.map (·.val)
theorem WalkedV.mem {α : Type} {enc : α → Value} {es : Array MapEntry} {seen : Array Nat} {ss : List α} {got lft : List MapEntry} (h : WalkedV enc es seen ss got lft) (hnd : (es.toList.map (·.born)).Nodup) (e : MapEntry) : e ∈ (leftOf es seen).toList ↔ e ∈ lft := by
 have hnd' : ((got ++ lft).map (·.born)).Nodup := (h.perm.map _).nodup_iff.2 hnd
 rw [List.map_append,List.nodup_append] at hnd'
 simp only [leftOf,Array.toList_filter,List.mem_filter,Bool.not_eq_eq_eq_not,Bool.not_true]
 have hs : ∀ b,seen.contains b = true ↔ b ∈ got.map (·.born) := fun b => by rw [Array.contains_iff_mem,← h.seen]; simp
 constructor
 ·rintro ⟨h1,h2⟩
  rcases List.mem_append.1 (h.perm.mem_iff.2 h1) with h3 | h3
  ·have := (hs e.born).2 (List.mem_map.2 ⟨e,h3,rfl⟩)
   rw [h2] at this; cases this
  ·exact h3
 ·intro h1
  refine ⟨h.perm.mem_iff.1 (List.mem_append.2 (.inr h1)),?_⟩
  rw [Bool.eq_false_iff]
  intro h2
  exact hnd'.2.2 e.born ((hs e.born).1 h2) e.born (List.mem_map.2 ⟨e,h1,rfl⟩) rfl
theorem WalkedV.step {α : Type} {enc : α → Value} {es : Array MapEntry} {seen : Array Nat} {ss : List α} {got l1 l2 : List MapEntry} {e : MapEntry} {x : α} (h : WalkedV enc es seen ss got (l1 ++ e :: l2)) (hx : enc x = e.val) : WalkedV enc es (seen.push e.born) (ss ++ [x]) (got ++ [e]) (l1 ++ l2) := by
 refine ⟨?_,by simp [h.seen],by simp [h.keys,hx]⟩
 refine List.Perm.trans ?_ h.perm
 rw [List.append_assoc]
 refine List.Perm.append_left got ?_
 simpa using (List.perm_middle (a := e) (l₁ := l1) (l₂ := l2)).symm
theorem values_gives {P : Program} {f : FuncId} {fn : Func} {α : Type} {enc : α → List Value} {k n : Nat} {mt kk kt bt ft : TypeId} {z : Array Value}
  {y0 y1 y2 y3 y4 y5 y6 y7 y8 y9 ya yb : TypeId} {q0 q1 q2 q3 q4 q5 q6 q7 q8 q9 qa qb : String} {g0 g1 g2 g3 g4 g5 g6 g7 g8 g9 ga gb : Array Edge} {r0 r1 r2 r3 i0 i1 : Nat}
  (hf : P.funcs[f]? = some fn) (hb : fn.body = some (.seq (.region r0 #[⟨some 5,.load mt (.tmp 1),y0,q0,g0,none⟩,⟨some 6,.range mt (.tmp 5),y1,q1,g1,none⟩] false)
   (.block i0 (.loop (.seq (.region r1 #[⟨some 7,.next (.tmp 6) false,y2,q2,g2,none⟩,⟨some 8,.extract (.tmp 7) 0,y3,q3,g3,none⟩] false) (.seq (.cond (.tmp 8) .skip (.exit i0))
    (.block i1 (.seq (.region r2 #[⟨some 9,.entry (.tmp 6),y4,q4,g4,none⟩,⟨some 10,.extract (.tmp 9) 1,y5,q5,g5,none⟩,⟨some 4,.alloc kt,y6,q6,g6,none⟩,⟨none,.store kt (.tmp 4) (.tmp 10),y7,q7,g7,none⟩] false)
     (.seq (.region r3 #[⟨some 11,.move (.tmp 0),y8,q8,g8,none⟩,⟨some 12,.load kt (.tmp 4),y9,q9,g9,none⟩,⟨some 13,.call ⟨.value (.tmp 11),#[.tmp 12],#[ft]⟩,ya,qa,ga,none⟩,⟨some 14,.unOp .not bt (.tmp 13),yb,qb,gb,none⟩] false)
      (.cond (.tmp 14) .ret .skip))))))))))
  (hn : fn.ntmps = 15) (hr : fn.results = #[]) (hmt : mpB P mt = some (kk,kt)) (hT : TA P mt false 1) (hK : TA P kt true k) (hz : (P.info? kt).bind (·.zero) = some (.agg z)) (hzk : z.size = k)
  (henc : ∀ x,(enc x).length = k ∧ ∀ v ∈ enc x,one v = true) {Bm b clock : Nat} {es : Array MapEntry} {w : World} (hBm : Bm < w.heap.size) (hm : CellsAt w Bm 0 [.map (some b)]) (hbl : w.heap[b]? = some (.map es clock))
  (hnd : (es.toList.map (·.born)).Nodup) (hlt : ∀ e ∈ es.toList,e.born < clock) (hkey : ∀ e ∈ es.toList,∃ x,Value.agg (enc x).toArray = e.val) :
  SeqGives Fence.wide n P f #[.pointer (some ⟨Bm,0,none⟩)] (fun x => Value.agg (enc x).toArray) (fun ss => (ss.map fun x => Value.agg (enc x).toArray).Perm (es.toList.map (·.val))) es.size w := by
 intro l J W hW hJ hY h0
 have hbW : W.heap[b]? = some (.map es clock) := (hW.block b (Array.getElem?_eq_some_iff.1 hbl).1).trans hbl
 have hmW : CellsAt W Bm 0 [.map (some b)] := qR1 (hW.block Bm hBm) hm
 refine callsIn_of_wp hf hb trivial ?_ rfl
 obtain ⟨a,hsz,hdef,e0,e1,ha⟩ : ∃ a : Act,a.tmps.size = 15 ∧ a.defers = [] ∧ a.eval (.tmp 0) = .func (.yield l) #[] #[] ∧ a.eval (.tmp 1) = .pointer (some ⟨Bm,0,none⟩) ∧
   ({ tmps := (#[.func (.yield l) #[] #[]] ++ #[.pointer (some ⟨Bm,0,none⟩)]) ++ Array.replicate (fn.ntmps - (#[.func (.yield l) #[] #[]] ++ #[.pointer (some ⟨Bm,0,none⟩)] : Array Value).size) undef,defers := [] } : Act) = a := by
  refine ⟨_,by simp [hn],rfl,?_,?_,rfl⟩
  ·simp only [Act.eval]
   rw [Array.getD_eq_getD_getElem?,Array.getElem?_append_left (by simp)]
   rfl
  ·simp only [Act.eval]
   rw [Array.getD_eq_getD_getElem?,Array.getElem?_append_left (by simp)]
   rfl
 rw [ha]
 clear ha
 have nd : ∀ {o : Op},(∀ c,o ≠ .defer c) → ∀ c,o ≠ .defer c := fun h => h
 obtain ⟨r,hrdef⟩ : ∃ r,r = W.heap.size := ⟨_,rfl⟩
 refine wpIn_seq (wpIn_region ?_)
 refine qb0 (o := ⟨some 5,.load mt (.tmp 1),y0,q0,g0,none⟩) (v := .map (some b)) (w' := W) rfl rfl (by intro c h; cases h) (fun _ => trivial) ?_ ?_
 ·simp only [execOp,Instr.loadAt,e1,Sem.run_bind,Instr.sureAddr,Sem.run_pure,Result.andThen]
  rw [qx (cs := [.map (some b)]) hT hmW (fun _ => rfl)]
  rfl
 refine qb0 (o := ⟨some 6,.range mt (.tmp 5),y1,q1,g1,none⟩) (v := .pointer (some ⟨r,0,none⟩)) (w' := W.alloc (.mapIter (some b) clock #[] clock)) rfl rfl (by intro c h; cases h) (fun _ => trivial) ?_ ?_
 ·simp only [execOp,Instr.range,evP (show 5 < a.tmps.size by omega),if_true,Sem.run_bind,run_underlying (q12 hmt),Result.andThen,qz1 hbW,Sem.run_pure]
  rw [hrdef]
  rfl
 obtain ⟨a1,ha1⟩ : ∃ a1,a1 = ((a.put (some 5) (.map (some b))).put (some 6) (.pointer (some ⟨r,0,none⟩))) := ⟨_,rfl⟩
 have f1 : a1.tmps.size = 15 ∧ a1.defers = [] ∧ a1.eval (.tmp 0) = .func (.yield l) #[] #[] ∧ a1.eval (.tmp 6) = .pointer (some ⟨r,0,none⟩) := by
  subst ha1
  refine ⟨by rw [sz_p,sz_p]; exact hsz,hdef,?_,?_⟩
  ·rw [evP (by rw [sz_p]; omega),evP (by omega)]; simp [e0]
  ·rw [evP (by rw [sz_p]; omega)]; simp
 show (Code.block i0 _).wpIn _ _ _ _ _ _
 rw [← ha1]
 clear ha1 e0 e1 hsz hdef
 obtain ⟨W1,hW1⟩ : ∃ W1,W1 = W.alloc (.mapIter (some b) clock #[] clock) := ⟨_,rfl⟩
 rw [← hW1]
 have hblt := (Array.getElem?_eq_some_iff.1 hbW).1
 refine wpIn_block (wpIn_loop (fun a' W' => (a'.tmps.size = 15 ∧ a'.defers = [] ∧ a'.eval (.tmp 0) = .func (.yield l) #[] #[] ∧ a'.eval (.tmp 6) = .pointer (some ⟨r,0,none⟩)) ∧
   ∃ seen last ss got lft,W'.heap[r]? = some (.mapIter (some b) clock seen last) ∧ clock ≤ last ∧ W'.heap[b]? = some (.map es clock) ∧ WalkedV (fun x => Value.agg (enc x).toArray) es seen ss got lft ∧ J ss W')
  (fun _ W' => match W'.heap[r]? with | some (.mapIter _ _ seen _) => es.size - seen.size | _ => 0) ?_ ?_)
 ·refine ⟨f1,#[],clock,[],[],es.toList,?_,Nat.le_refl _,?_,⟨by simp,rfl,rfl⟩,?_⟩
  ·rw [hW1,hrdef]; exact qU _ _
  ·rw [hW1]; exact (Below.heap_alloc _ _ _ hblt).trans hbW
  ·rw [hW1]; exact hJ [] W _ none h0 (World.grownBy_alloc W _ none) (fun r e => by cases e)
 clear hW1 f1 a1
 rintro a1 W1 ⟨⟨hsz,hdef,e0,e5⟩,seen,last,ss,got,lft,hr1,hlast,hb1,hwk,hJ1⟩
 have hrb : r ≠ b := fun e => by rw [e,hb1] at hr1; cases hr1
 have hrlt := (Array.getElem?_eq_some_iff.1 hr1).1
 refine wpIn_seq (wpIn_region ?_)
 rcases run_next_at (P := P) W1 y2 r b clock last seen es clock hr1 hb1 (fun x hx => hlt x hx) hlast with ⟨hd0,hrun⟩ | ⟨e,he,w1,hal,hrun⟩
 ·
  refine qb0 (o := ⟨some 7,.next (.tmp 6) false,y2,q2,g2,none⟩) (v := .tuple #[.bool false]) (w' := W1) rfl rfl (by intro c h; cases h) (fun _ => trivial) (by simp [execOp,e5,hrun,Result.andThen]) ?_
  refine qb0 (o := ⟨some 8,.extract (.tmp 7) 0,y3,q3,g3,none⟩) (v := .bool false) (w' := W1) rfl rfl (by intro c h; cases h) (fun _ => trivial) (by simp [execOp,evP (show 7 < a1.tmps.size by omega),Instr.extract]) ?_
  refine wpIn_seq (wpIn_cond_false (by rw [evP (by rw [sz_p]; omega)]; simp) (wpIn_exit ?_))
  have hl : lft = [] := by
   cases hl : lft with
   | nil => rfl
   | cons x lft' =>
    have := (hwk.mem hnd x).2 (by rw [hl]; simp)
    rw [Array.eq_empty_of_size_eq_zero hd0] at this
    simp at this
  subst hl
  simp only [Exit.then,Exit.inBlock,if_true]
  refine ⟨hdef,.tuple #[],by simp [results,hr],⟨_,rfl⟩,ss,?_,hJ1⟩
  rw [hwk.keys]
  simpa using (hwk.perm.map (·.val))
 ·
  obtain ⟨x,hx⟩ := hkey e (by simp only [leftOf,Array.toList_filter,List.mem_filter] at he; exact he.1)
  obtain ⟨hxk,hx1⟩ := henc x
  have hel := (hwk.mem hnd e).1 he
  obtain ⟨l1,l2,hl⟩ := List.append_of_mem hel
  rw [hl] at hwk
  have hwk2 := hwk.step (x := x) hx
  have hwh : w1.heap = W1.heap := by rcases hal with rfl | rfl <;> rfl
  obtain ⟨W2,hW2⟩ : ∃ W2,W2 = setBlock w1 r (.mapIter (some b) clock (seen.push e.born) clock) := ⟨_,rfl⟩
  rw [← hW2] at hrun
  have hr2 : W2.heap[r]? = some (.mapIter (some b) clock (seen.push e.born) clock) := by rw [hW2]; simp [setBlock,hwh,hrlt]
  have ho2 : ∀ k,k ≠ r → W2.heap[k]? = W1.heap[k]? := fun k hk => by rw [hW2]; simp only [setBlock,hwh]; rw [Array.getElem?_setIfInBounds_ne (Ne.symm hk)]
  have hb2 : W2.heap[b]? = some (.map es clock) := (ho2 b (Ne.symm hrb)).trans hb1
  have hsz2 : W2.heap.size = W1.heap.size := by rw [hW2]; simp [setBlock,hwh]
  have hg2 : W1.grownBy W2 (some r) := by
   refine ⟨?_,?_,?_,by omega,fun k _ hk => ho2 k (fun h => hk (by rw [h]))⟩ <;> rw [hW2] <;> rcases hal with rfl | rfl <;> rfl
  have hJ2 : J ss W2 := hJ ss W1 W2 (some r) hJ1 hg2 (fun q hq => by cases hq; exact ⟨by omega,_,hr1,rfl⟩)
  have hent := run_entry_at (P := P) W2 r b clock seen es clock e hr2 hb2 (by simp only [leftOf,Array.toList_filter,List.mem_filter] at he; exact he.1) hnd
  clear hW2
  refine qb0 (o := ⟨some 7,.next (.tmp 6) false,y2,q2,g2,none⟩) (v := .tuple #[.bool true,e.key,e.val]) (w' := W2) rfl rfl (by intro c h; cases h) (fun _ => trivial) (by simp [execOp,e5,hrun,Result.andThen]) ?_
  refine qb0 (o := ⟨some 8,.extract (.tmp 7) 0,y3,q3,g3,none⟩) (v := .bool true) (w' := W2) rfl rfl (by intro c h; cases h) (fun _ => trivial) (by simp [execOp,evP (show 7 < a1.tmps.size by omega),Instr.extract]) ?_
  refine wpIn_seq (wpIn_cond_true (by rw [evP (by rw [sz_p]; omega)]; simp) (wpIn_skip ?_))
  obtain ⟨a2,ha2⟩ : ∃ a2,a2 = ((a1.put (some 7) (.tuple #[.bool true,e.key,e.val])).put (some 8) (.bool true)) := ⟨_,rfl⟩
  have f2 : a2.tmps.size = 15 ∧ a2.defers = [] ∧ a2.eval (.tmp 0) = .func (.yield l) #[] #[] ∧ a2.eval (.tmp 6) = .pointer (some ⟨r,0,none⟩) := by
   subst ha2
   refine ⟨by rw [sz_p,sz_p]; exact hsz,hdef,?_,?_⟩
   ·rw [evP (by rw [sz_p]; omega),evP (by omega)]; simp [e0]
   ·rw [evP (by rw [sz_p]; omega),evP (by omega)]; simp [e5]
  show (Code.block i1 _).wpIn _ _ _ _ _ _
  rw [← ha2]
  clear ha2 e0 e5 hsz hdef a1
  obtain ⟨hsz,hdef,e0,e5⟩ := f2
  refine wpIn_block (wpIn_seq (wpIn_region ?_))
  refine qb0 (o := ⟨some 9,.entry (.tmp 6),y4,q4,g4,none⟩) (v := .tuple #[e.key,e.val]) (w' := W2) rfl rfl (by intro c h; cases h) (fun _ => trivial) (by simp [execOp,e5,hent,Result.andThen]) ?_
  refine qb0 (o := ⟨some 10,.extract (.tmp 9) 1,y5,q5,g5,none⟩) (v := e.val) (w' := W2) rfl rfl (by intro c h; cases h) (fun _ => trivial) (by simp [execOp,evP (show 9 < a2.tmps.size by omega),Instr.extract]) ?_
  refine qb0 (o := ⟨some 4,.alloc kt,y6,q6,g6,none⟩) (v := .pointer (some ⟨W2.heap.size,0,none⟩)) (w' := W2.alloc (.cells z kt)) rfl rfl (by intro c h; cases h) (fun _ => trivial) ?_ ?_
  ·simp only [execOp,Instr.alloc,newVar,newRow,Sem.run_bind,qC2 hz,Result.andThen,Value.cells,Sem.run_pure]
   rfl
  have hnew : (W2.alloc (.cells z kt)).heap[W2.heap.size]? = some (.cells ([] ++ (z.toList ++ [])).toArray kt (0,0)) := by simpa using qU W2 (.cells z kt)
  have hst := qh1 (P := P) (T := kt) (agg := true) (c2' := enc x) (by rw [hxk]; exact hK.2) (by rw [hxk]; simp [hzk]) hx1 (fun h => by cases h) rfl hnew
  obtain ⟨W4,hW4⟩ : ∃ W4,W4 = (W2.alloc (.cells z kt)).setRow W2.heap.size ([] ++ (enc x ++ [])).toArray := ⟨_,rfl⟩
  rw [← hW4] at hst
  have hc4 : W4.heap[W2.heap.size]? = some (.cells ([] ++ (enc x ++ [])).toArray kt (0,0)) := by rw [hW4]; exact setRow_heap _ _ _ _ _ _ hnew
  have ho4 : ∀ k,k < W2.heap.size → W4.heap[k]? = W2.heap[k]? := fun k hk => by
   rw [hW4,setRow_other _ _ _ _ (by omega)]
   exact Below.heap_alloc _ _ _ hk
  have hg4 : W2.grownBy W4 none := by
   refine ⟨by rw [hW4]; rfl,by rw [hW4]; rfl,by rw [hW4]; rfl,?_,fun k hk _ => ho4 k hk⟩
   rw [hW4]; simp
  clear hW4
  refine in_skip (o := ⟨none,.store kt (.tmp 4) (.tmp 10),y7,q7,g7,none⟩) (w' := W4) rfl rfl (by intro c h; cases h) (fun _ => trivial) ?_ ?_
  ·rw [← hx]
   simp only [execOp,Instr.storeAt]
   have v3 : (((a2.put (some 9) (.tuple #[e.key,.agg (enc x).toArray])).put (some 10) (.agg (enc x).toArray)).put (some 4) (.pointer (some ⟨W2.heap.size,0,none⟩))).eval (.tmp 4) = .pointer (some ⟨W2.heap.size,0,none⟩) := by
    rw [evP (by rw [sz_p,sz_p]; omega)]; simp
   have v9 : (((a2.put (some 9) (.tuple #[e.key,.agg (enc x).toArray])).put (some 10) (.agg (enc x).toArray)).put (some 4) (.pointer (some ⟨W2.heap.size,0,none⟩))).eval (.tmp 10) = .agg (enc x).toArray := by
    rw [evP (by rw [sz_p,sz_p]; omega),evP (by rw [sz_p]; omega)]; simp
   rw [v3,v9]
   simp only [Instr.sureAddr,Sem.run_bind,Sem.run_pure,Result.andThen]
   have hst' : (storeVar kt ⟨W2.heap.size,0,none⟩ (.agg (enc x).toArray)).run P (W2.alloc (.cells z kt)) = .ok () W4 := hst
   rw [hst']
  rw [put_none]
  obtain ⟨a3,ha3⟩ : ∃ a3,a3 = (((a2.put (some 9) (.tuple #[e.key,e.val])).put (some 10) e.val).put (some 4) (.pointer (some ⟨W2.heap.size,0,none⟩))) := ⟨_,rfl⟩
  have f3 : a3.tmps.size = 15 ∧ a3.defers = [] ∧ a3.eval (.tmp 0) = .func (.yield l) #[] #[] ∧ a3.eval (.tmp 6) = .pointer (some ⟨r,0,none⟩) ∧ a3.eval (.tmp 4) = .pointer (some ⟨W2.heap.size,0,none⟩) := by
   subst ha3
   refine ⟨by rw [sz_p,sz_p,sz_p]; exact hsz,hdef,?_,?_,?_⟩
   ·rw [evP (by rw [sz_p,sz_p]; omega),evP (by rw [sz_p]; omega),evP (by omega)]; simp [e0]
   ·rw [evP (by rw [sz_p,sz_p]; omega),evP (by rw [sz_p]; omega),evP (by omega)]; simp [e5]
   ·rw [evP (by rw [sz_p,sz_p]; omega)]; simp
  show (Code.seq (Code.region r3 _ false) _).wpIn _ _ _ _ _ _
  rw [← ha3]
  clear ha3 e0 e5 hsz hdef hst a2
  obtain ⟨hsz,hdef,e0,e5,e3⟩ := f3
  have hJ4 : J ss W4 := hJ ss W2 W4 none hJ2 hg4 (fun q hq => by cases hq)
  have hlen : ss.length < es.size := by
   have h1 : ss.length = got.length := by have := congrArg List.length hwk.keys; simpa using this
   have h2 := hwk.perm.length_eq
   simp at h2
   omega
  obtain ⟨fn',tmps',assign,body,hy,hR⟩ := hY ss x W4 hJ4 hlen
  refine wpIn_seq (wpIn_region ?_)
  refine qb0 (o := ⟨some 11,.move (.tmp 0),y8,q8,g8,none⟩) (v := .func (.yield l) #[] #[]) (w' := W4) rfl rfl (by intro c h; cases h) (fun _ => trivial) (by simp [execOp,e0]) ?_
  refine qb0 (o := ⟨some 12,.load kt (.tmp 4),y9,q9,g9,none⟩) (v := .agg (enc x).toArray) (w' := W4) rfl rfl (by intro c h; cases h) (fun _ => trivial) ?_ ?_
  ·simp only [execOp,Instr.loadAt,evP (show 11 < a3.tmps.size by omega),show ¬ (4 = 11) from by omega,if_false,e3,Sem.run_bind,Instr.sureAddr,Sem.run_pure,Result.andThen]
   rw [qx (cs := enc x) (agg := true) (by rw [hxk]; exact hK) (caB (sp := []) (by simpa using hc4)) (fun h => by cases h)]
   rfl
  refine in_round (o := ⟨some 13,.call ⟨.value (.tmp 11),#[.tmp 12],#[ft]⟩,ya,qa,ga,none⟩) (w' := W4) rfl rfl (by intro c h; cases h) (fun _ => trivial) rfl (l := l) (fn := fn') (tmps := tmps') (assign := assign) (body := body) ?_ (hR.mono ?_)
  ·have v10 : ((a3.put (some 11) (.func (.yield l) #[] #[])).put (some 12) (.agg (enc x).toArray)).eval (.tmp 11) = .func (.yield l) #[] #[] := by
    rw [evP (by rw [sz_p]; omega),evP (by omega)]; simp
   have v11 : ((a3.put (some 11) (.func (.yield l) #[] #[])).put (some 12) (.agg (enc x).toArray)).eval (.tmp 12) = .agg (enc x).toArray := by
    rw [evP (by rw [sz_p]; omega)]; simp
   simp only [execOp,resolve,v10,Deferred.ofValue,Sem.run_bind,Sem.run_pure,Result.andThen,invoke,List.map_toArray,List.map_cons,List.map_nil,v11]
   exact hy
  rintro e' W5 ⟨rfl,hJ5,hk5⟩
  refine ⟨_,rfl,?_⟩
  refine qb0 (o := ⟨some 14,.unOp .not bt (.tmp 13),yb,qb,gb,none⟩) (v := .bool false) (w' := W5) rfl rfl (by intro c h; cases h) (fun _ => trivial) ?_ ?_
  ·have v12 : (((a3.put (some 11) (.func (.yield l) #[] #[])).put (some 12) (.agg (enc x).toArray)).put (some 13) (.bool true)).eval (.tmp 13) = .bool true := by
    rw [evP (by rw [sz_p,sz_p]; omega)]; simp
   simp [execOp,v12,Op.unary]
  refine wpIn_cond_false (by rw [evP (by rw [sz_p,sz_p,sz_p]; omega)]; simp) (wpIn_skip ?_)
  have hb4 : W4.heap[b]? = some (.map es clock) := (ho4 b (by omega)).trans hb2
  have hr4 : W4.heap[r]? = some (.mapIter (some b) clock (seen.push e.born) clock) := (ho4 r (by omega)).trans hr2
  have hb5 := hk5.same b _ hb4 rfl
  have hr5 := hk5.same r _ hr4 rfl
  refine ⟨⟨⟨by simp only [sz_p]; exact hsz,hdef,?_,?_⟩,seen.push e.born,clock,ss ++ [x],got ++ [e],l1 ++ l2,hr5,Nat.le_refl _,hb5,hwk2,hJ5⟩,?_⟩
  ·rw [evP (by rw [sz_p,sz_p,sz_p]; omega),evP (by rw [sz_p,sz_p]; omega),evP (by rw [sz_p]; omega),evP (by omega)]; simp [e0]
  ·rw [evP (by rw [sz_p,sz_p,sz_p]; omega),evP (by rw [sz_p,sz_p]; omega),evP (by rw [sz_p]; omega),evP (by omega)]; simp [e5]
  ·simp only [hr5,hr1,Array.size_push]
   have h1 : seen.size = got.length := by have := congrArg List.length hwk.seen; simpa using this
   have h2 := hwk.perm.length_eq
   simp at h2
   omega
end Go.Val
set_option linter.unusedSectionVars false
set_option linter.unusedVariables false
set_option linter.unusedSimpArgs false
namespace Go.Val
open Go.RowKit
theorem perm_lift {α β : Type} {f : α → β} {ys zs : List β} (h : ys.Perm zs) : ∀ m : List α,zs = m.map f → ∃ l : List α,l.Perm m ∧ l.map f = ys := by
 induction h with
 | nil => intro m hm; exact ⟨m,.refl _,hm.symm⟩
 | cons x _ ih =>
  intro m hm
  obtain ⟨a,m',rfl,rfl,e2⟩ := List.map_eq_cons_iff.1 hm.symm
  obtain ⟨l,h1,h2⟩ := ih m' e2.symm
  exact ⟨a :: l,h1.cons a,by rw [List.map_cons,h2]⟩
 | swap x y l0 =>
  intro m hm
  obtain ⟨a,m',rfl,rfl,e2⟩ := List.map_eq_cons_iff.1 hm.symm
  obtain ⟨b,m'',rfl,rfl,e3⟩ := List.map_eq_cons_iff.1 e2
  exact ⟨b :: a :: m'',.swap a b m'',by rw [List.map_cons,List.map_cons,e3]⟩
 | trans _ _ ih1 ih2 =>
  intro m hm
  obtain ⟨l,h1,h2⟩ := ih2 m hm
  obtain ⟨l',k1,k2⟩ := ih1 l h2.symm
  exact ⟨l',k1.trans h1,k2⟩
abbrev Ch := List UInt8 × ByteArray × Bool
abbrev CH := { c : Ch // c.1.length = 24 }
def qb5 (x : CH) : List Value := x.1.1.map u8v ++ [.string x.1.2.1,.bool x.1.2.2]
theorem encCH_len (x : CH) : (qb5 x).length = 26 := by simp [qb5,x.2]
theorem encCH_one (x : CH) : (qb5 x).length = 26 ∧ ∀ v ∈ qb5 x,one v = true := by
 refine ⟨encCH_len x,fun v hv => ?_⟩
 simp only [qb5,List.mem_append,List.mem_map,List.mem_cons,List.not_mem_nil,or_false] at hv
 rcases hv with ⟨b,_,rfl⟩ | rfl | rfl <;> rfl
def unS : Option Value → ByteArray
 | some (.string s) => s
 | _ => ByteArray.mk #[]
def unG : Option Value → Bool
 | some (.bool b) => b
 | _ => false
def unCH : Value → Ch
 | .agg a => ((a.toList.take 24).map unB,unS (a.toList[24]?),unG (a.toList[25]?))
 | _ => ([],ByteArray.mk #[],false)
theorem unCH_eq {p : Ch} (h : p.1.length = 24) : unCH (.agg (p.1.map u8v ++ [Value.string p.2.1,Value.bool p.2.2]).toArray) = p := by
 obtain ⟨k,s,g⟩ := p
 simp only at h
 have hl : (k.map u8v).length = 24 := by simp [h]
 have e1 : (k.map u8v).map unB = k := by
  rw [List.map_map]
  have : unB ∘ u8v = id := by
   funext b
   simp [unB,u8v,Nat.toUInt8]
  rw [this,List.map_id]
 simp only [unCH]
 rw [List.take_left' hl,e1]
 have e2 : (k.map u8v ++ [Value.string s,Value.bool g])[24]? = some (.string s) := by
  rw [List.getElem?_append_right (by omega),hl]; rfl
 have e3 : (k.map u8v ++ [Value.string s,Value.bool g])[25]? = some (.bool g) := by
  rw [List.getElem?_append_right (by omega),hl]; rfl
 rw [e2,e3]
 rfl
theorem drs_CH {I : Nat → Prop} {w : World} {ec : Ch → D} (he : ∀ p,ec p = .st [.bs 24 p.1,.v (.string p.2.1),.v (.bool p.2.2)]) : ∀ ss : List CH,DRs I w (ss.map fun x => ec x.1) (ss.flatMap qb5)
 | [] => .nil
 | x :: ss => by
  rw [List.map_cons,List.flatMap_cons,he]
  refine .cons (.st ?_) (drs_CH he ss)
  unfold qb5
  refine .cons (.bs x.2) ?_
  exact DRs.cons (.v rfl) (DRs.single (.v rfl))
theorem dr_CH {I : Nat → Prop} {w : World} {ec : Ch → D} (he : ∀ p,ec p = .st [.bs 24 p.1,.v (.string p.2.1),.v (.bool p.2.2)]) {p : Ch} {cs : List Value} (h : DR I w (ec p) cs) : p.1.length = 24 ∧ cs = p.1.map u8v ++ [.string p.2.1,.bool p.2.2] := by
 rw [he] at h
 cases h with
 | st h =>
  cases h with
  | cons k1 h =>
   cases h with
   | cons k2 h =>
    cases h with
    | cons k3 h =>
     cases h
     cases k1 with
     | bs l1 => cases k2 with
      | v l2 => cases k3 with
       | v l3 => exact ⟨l1,by simp⟩
theorem values_fn [NoDrw] {P : Program} {f fi : FuncId} {kt : TypeId} {κ : Type} {ek : κ → D} {ec : Ch → D} {m : List (κ × Ch)} (he : ∀ p,ec p = .st [.bs 24 p.1,.v (.string p.2.1),.v (.bool p.2.2)]) (u : Nat) (hsz : m.length * 48 ≤ 140737488355328)
  (H : ∀ (Bm b clock : Nat) (es : Array MapEntry) (w : World),Bm < w.heap.size → CellsAt w Bm 0 [.map (some b)] → w.heap[b]? = some (.map es clock) → (es.toList.map (·.born)).Nodup → (∀ e ∈ es.toList,e.born < clock) →
   (∀ e ∈ es.toList,∃ x : CH,Value.agg (qb5 x).toArray = e.val) → es.size * 48 ≤ 140737488355328 →
   Calls P f #[.func (.func fi) #[] #[.pointer (some ⟨Bm,0,none⟩)]] w fun e w' => ∃ v,∃ ss : List CH,e = .returned v ∧ (ss.map fun x => Value.agg (qb5 x).toArray).Perm (es.toList.map (·.val)) ∧
    RowAt w.heap.size 26 kt v (ss.flatMap qb5) ss.length w' ∧ Below w.heap.size w w') :
  FnOk P f [.fn fi [] [.ptr 1 0]] 2 (lk [(0,.map u (mD ek ec m)),(1,.box (.map 0))])
   (fun rr oo => ∃ l : List (κ × Ch),l.Perm m ∧ rr = .d (.sl 26 (l.map fun p => ec p.2)) ∧ oo = lk [(0,.map u (mD ek ec m)),(1,.box (.map 0))]) := by
 intro hk E vals hE hok hargs
 have ho0 : E.obj 0 = some (.map u (mD ek ec m)) := by rw [hE]; rfl
 have ho1 : E.obj 1 = some (.box (.map 0)) := by rw [hE]; rfl
 obtain ⟨b,ents,clock,hb,hbl,hsize,hent,hδ,hnd,hclk,hγ⟩ := hok.1 0 _ ho0
 obtain ⟨Bm,cs1,e1,hBm,hcr,hones,hbox⟩ := hok.1 1 _ ho1
 have hvals : vals.toArray = #[.func (.func fi) #[] #[.pointer (some ⟨Bm,0,none⟩)]] := by
  cases hargs with
  | cons h1 h2 =>
   cases h2
   cases h1 with
   | fn a1 a2 =>
    cases a1
    cases a2 with
    | cons p1 p2 =>
     cases p2
     cases p1 with
     | ptr q1 qb q2 =>
      rw [hBm] at q2; cases q2
      rfl
 have hcs1 : cs1 = [.map (some b)] := by
  cases hcr with
  | map q1 q2 => rw [hb] at q2; cases q2; rfl
 subst hcs1
 have hBlt : Bm < E.w.heap.size := (Array.getElem?_eq_some_iff.1 hbox).1
 have hcell : CellsAt E.w Bm 0 [.map (some b)] := by
  intro i v hi
  have : i = 0 ∧ v = .map (some b) := by
   cases i with
   | zero => simp at hi; exact ⟨rfl,hi.symm⟩
   | succ i => simp at hi
  obtain ⟨rfl,rfl⟩ := this
  simp [World.cell?,hbox]
 have hlen : ents.size = m.length := by rw [hsize]; simp [mD]
 have hat : ∀ i (hi : i < m.length),∃ ent,ents[i]? = some ent ∧ (m[i]).2.1.length = 24 ∧ ent.val = Value.agg ((m[i]).2.1.map u8v ++ [Value.string (m[i]).2.2.1,Value.bool (m[i]).2.2.2]).toArray := by
  intro i hi
  have h1 : (mD ek ec m)[i]? = some (ek m[i].1,ec m[i].2) := by simp [mD,hi]
  have hi' : i < ents.size := by omega
  have h2 : ents[i]? = some ents[i] := Array.getElem?_eq_getElem hi'
  obtain ⟨ck,cx,k1,k2,k3,k4⟩ := hent i _ _ _ h1 h2
  obtain ⟨r1,r2⟩ := dr_CH he k2
  refine ⟨_,h2,r1,?_⟩
  rw [k4,he,r2]
  rfl
 have hvalsE : ents.toList.map (·.val) = m.map fun p => Value.agg (p.2.1.map u8v ++ [Value.string p.2.2.1,Value.bool p.2.2.2]).toArray := by
  apply List.ext_getElem?
  intro i
  rw [List.getElem?_map,List.getElem?_map]
  by_cases hi : i < m.length
  ·obtain ⟨ent,h1,_,h3⟩ := hat i hi
   rw [Array.getElem?_toList,h1,List.getElem?_eq_getElem hi]
   simp only [Option.map_some,h3]
  ·rw [Array.getElem?_toList,Array.getElem?_eq_none (by omega),List.getElem?_eq_none (l := m) (Nat.le_of_not_lt hi)]
   rfl
 have h24 : ∀ p ∈ m,p.2.1.length = 24 := by
  intro p hp
  obtain ⟨i,hi,rfl⟩ := List.getElem_of_mem hp
  obtain ⟨_,_,h,_⟩ := hat i hi
  exact h
 have hval : ∀ e ∈ ents.toList,∃ x : CH,Value.agg (qb5 x).toArray = e.val := by
  intro e hm
  have : e.val ∈ ents.toList.map (·.val) := List.mem_map.2 ⟨e,hm,rfl⟩
  rw [hvalsE] at this
  obtain ⟨p,hp,hpe⟩ := List.mem_map.1 this
  exact ⟨⟨p.2,h24 p hp⟩,hpe⟩
 rw [hvals]
 refine (H Bm b clock ents E.w hBlt hcell hbl (by rw [← hδ]; exact hnd) (fun e hm => hclk _ (by rw [hδ]; exact List.mem_map.2 ⟨e,hm,rfl⟩)) hval (by rw [hlen]; exact hsz)).mono ?_
 rintro e w' ⟨v,ss,rfl,hperm,hrow,hbe⟩
 have hss : (ss.map (·.1)).Perm (m.map (·.2)) := by
  rw [hvalsE] at hperm
  have := hperm.map unCH
  rw [List.map_map,List.map_map] at this
  have q1 : ss.map (unCH ∘ fun x : CH => Value.agg (qb5 x).toArray) = ss.map (·.1) := List.map_congr_left (fun x _ => unCH_eq x.2)
  have q2 : m.map (unCH ∘ fun p : κ × Ch => Value.agg (p.2.1.map u8v ++ [Value.string p.2.2.1,Value.bool p.2.2.2]).toArray) = m.map (·.2) := List.map_congr_left (fun p hp => unCH_eq (h24 p hp))
  rw [q1,q2] at this
  exact this
 obtain ⟨l,l1,l2⟩ := perm_lift hss m rfl
 have hres : (l.map fun p => ec p.2) = ss.map fun x => ec x.1 := by
  have := congrArg (List.map ec) l2
  rw [List.map_map,List.map_map] at this
  exact this
 let E' : Env := { E with w := w',J := fun j => E.J j ∨ E.w.heap.size ≤ j }
 have hlt : ∀ o ob bb,E.obj o = some ob → E.has o bb → bb < E.w.heap.size := fun o ob bb h1 h2 => (hok.1 o ob h1).lth h1 h2
 have hext : Ext E E' := ⟨hbe.size,fun j hj hlt => ⟨⟨.inl hj.1,hj.2⟩,hbe.block j hlt⟩,fun o ob ho => ⟨ob,ho,oext_refl _ _ _⟩⟩
 refine ⟨v,_,E',rfl,rfl,⟨l,l1,rfl,hE⟩,⟨[v],.d ?_,rfl⟩,⟨fun o ob ho => ?_,hok.2⟩,fun o bb h1 h2 => .inr ⟨o,h1,h2⟩,⟨hbe.os,hbe.tape,hbe.output,hbe.size,fun j hj _ => hbe.block j hj,fun h => absurd h NoDrw.no⟩,?_,hext.live⟩
 ·rw [hres]
  rcases hrow with ⟨rfl,h0,h1⟩ | ⟨g,cap,sp,rfl,hg,hgb,hl,hcap,hm⟩
  ·rw [List.eq_nil_of_length_eq_zero h0]
   exact .sl0
  ·have hgs : g < w'.heap.size := (Array.getElem?_eq_some_iff.1 hgb).1
   have hlen' : (ss.map fun x => ec x.1).length = ss.length := by simp
   rw [← hlen']
   refine .sl (cs := ss.flatMap qb5) ⟨.inr hg,fun o ob ho hbb => ?_⟩ hgs (drs_CH he _) ?_ ?_ (by rw [hlen']; exact hm)
   ·have := hlt o ob g ho hbb
    omega
   ·intro r hr
    obtain ⟨x,_,rfl⟩ := List.mem_map.1 hr
    rw [he]; rfl
   ·intro i x hi
    have hlt := (List.getElem?_eq_some_iff.1 hi).1
    show w'.cell? _ = _
    simp only [World.cell?,hgb,Nat.zero_add]
    simp only [Option.isSome_none,Bool.false_eq_true,if_false]
    rw [List.getElem?_toArray,List.getElem?_append_left hlt,hi]
 ·exact (hok.1 o ob ho).ext hext ho rfl rfl rfl rfl (fun bb hb => hbe.block bb (hlt o ob bb ho hb)) (fun mm ver l cu _ => ⟨rfl,fun es hes => ⟨hes,rfl,rfl⟩,fun h => h⟩)
 ·rintro bb (h | h)
  ·exact .inl h
  ·exact .inr (.inl h)
end Go.Val
set_option linter.unusedSectionVars false
set_option linter.unusedVariables false
set_option linter.unusedSimpArgs false
namespace Go.Val
open Go.RowKit
variable [Drw]
section
variable {P : Program} {N : Nat × Nat} {ops : Array Oper} {i : Nat} {s : St} {d : Nat} {ty : TypeId} {pos : String} {af : Array Edge}
theorem a_callX {ι : Type} {f : FuncId} {fn : Func} {as : List Operand} {ats : Array TypeId} {b : Bool} {k : Nat} {mi : List (Nat × OB)} {vs : List AV} {l : List Nat} {S : ι → Prop} {res : ι → AV} {mo : ι → List (Nat × OB)} (σ : Nat → Nat)
  (ho : ops[i]? = some ⟨some d,.call ⟨.value (.func f),as.toArray,ats⟩,ty,pos,af,none⟩) (hd : Nat.ble (d + 1) N.1 = true)
  (hf : P.funcs[f]? = some fn) (hnm : (fn.name == "runtime.NumGoroutine") = false) (hbd : fn.body.isNone = false) (hF : FnOk P f vs k (lk mi) (fun r oo => ∃ y,S y ∧ r = res y ∧ oo = lk (mo y)))
  (hh : Hands s (lk mi) σ as vs b l) (hC0 : CallIn s σ k mi mi vs l) (hC : ∀ y,CallIn s σ k mi (mo y) vs l) (hflat : b = false ∨ ∀ y,((res y).flat ∧ ∀ p ∈ mo y,p.2.flat)) :
  StepA P N ops i (fun s' => ∃ y,S y ∧ s' = (SR.mk [] [] (some (d,some ((res y).ren σ))) ((mo y).map fun p => (σ p.1,p.2.ren σ))).apply s) s := by
 refine ⟨_,ho,fun Q cx a w hn hR => ?_⟩
 obtain ⟨E,rfl,hR0⟩ := hR
 rw [if_pos ((G.no (ops := ops) (s := s)).wanted (fun _ h => by cases h) hR0)]
 let Ec : Env := { obj := lk mi,β := fun o => E.β (σ o),γ := fun o => E.γ (σ o),δ := fun o => E.δ (σ o),φ := fun o => E.φ (σ o),J := fun bb => b = true ∨ E.I bb,w := E.w }
 have hEo : ∀ o ob,Ec.obj o = some ob → E.obj (σ o) = some (ob.ren σ) := fun o ob h => by rw [hR0.obj]; exact (hC0.objs _ (qN h)).1
 have hS : Sub E Ec σ := ⟨rfl,hEo,fun _ => rfl,fun _ => rfl,fun _ => rfl,fun _ => rfl,fun bb hb => ⟨.inr hb,fun o ob h e => hb.2 (σ o) _ (hEo o ob h) (by
  rcases e with e | ⟨e,x,hx⟩
  ·exact .inl e
  ·exact .inr ⟨e,_,hEo _ _ hx⟩)⟩⟩
 have inj0 : ∀ m m',lk mi m ≠ none → lk mi m' ≠ none → σ m = σ m' → m = m' := by
  intro m m' h1 h2 e
  obtain ⟨x1,h1⟩ := Option.ne_none_iff_exists'.1 h1
  obtain ⟨x2,h2⟩ := Option.ne_none_iff_exists'.1 h2
  exact hC0.inj _ (qN h1) _ (qN h2) e
 have hok : q85 Ec := by
  refine ⟨fun o ob h => ?_,fun o o' bb h1 h2 e1 e2 => ?_⟩
  ·obtain ⟨q1,q2⟩ := hC0.objs _ (qN h)
   exact OR.unren hS q2 inj0 (hR0.objs _ _ q1)
  ·obtain ⟨x1,h1'⟩ := Option.ne_none_iff_exists'.1 h1
   obtain ⟨x2,h2'⟩ := Option.ne_none_iff_exists'.1 h2
   refine inj0 o o' h1 h2 (hR0.inj _ _ bb ?_ ?_ (hS.has e1) (hS.has e2))
   ·rw [(hC0.objs _ (qN h1')).1]; simp
   ·rw [(hC0.objs _ (qN h2')).1]; simp
 have hvals := Hands.vals hR0 hS (oin := lk mi) rfl hh (fun _ _ => rfl) (fun _ _ => rfl) hC0.live (fun e b' => .inl e) (fun c hc o ho' => by
  obtain ⟨x,hx⟩ := Option.ne_none_iff_exists'.1 ho'
  exact hC0.pres c hc _ (qN hx))
 have hcall := hF (fun o ho' => by
  obtain ⟨x,hx⟩ := Option.ne_none_iff_exists'.1 ho'
  exact hC0.lt _ (qN hx)) Ec _ rfl hok hvals
 have hrun := qW3 (P := P) (dd := some d) (as := as.toArray) (ats := ats) (ty := ty) (pos := pos) (af := af) (g := none) hf hnm hbd a E.w
 unfold Oper.wp
 rw [hrun]
 simp only [Oper.upon]
 refine hcall.mono ?_
 rintro e w' ⟨v,r,E',rfl,rfl,⟨y,hy,rfl,hpost⟩,hv,hok',hown,hkeep,hJ',hlive⟩
 obtain ⟨E2,q1,q2,q3⟩ := q94 hR0 (hC y) hS rfl (fun bb h => h) hpost hv hok' hown hkeep hJ' hlive (hflat.imp id fun h => h y)
 exact ⟨_,⟨y,hy,rfl⟩,E2,q1,q3.put q2 (by rw [hn]; exact Nat.le_of_ble_eq_true hd)⟩
end
end Go.Val
set_option linter.unusedSectionVars false
set_option linter.unusedVariables false
set_option linter.unusedSimpArgs false
namespace Go.Val
open Go.Lib
instance iNoDrw : NoDrw := { dm := False,no := id }
theorem bdO {α β : Type} {x : Option α} {a : α} {f : α → Option β} (h : x = some a) : x.bind f = f a := by rw [h]; rfl
theorem qe0 {V O : Type} {body : V → Option (V ⊕ O)} {o : O} (s : Nat → V) (n : Nat) (h : ∀ i,i < n → body (s i) = some (.inl (s (i + 1)))) (hn : body (s n) = some (.inr o)) : qA body (s 0) = some o := by
 have key : ∀ k i,i + k = n → qA body (s i) = some o := by
  intro k
  induction k with
  | zero => intro i hi; rw [qq0,show i = n by omega,hn]; rfl
  | succ k ih => intro i hi; rw [qq0,h i (by omega)]; exact ih (i + 1) (by omega)
 exact key n 0 (by omega)
theorem qY {V O α S : Type} {body : V → Option (V ⊕ O)} (xs : List α) (enc : Nat → S → V) (f : S → α → S) (J : Nat → S → Prop) (o : S → O) (s0 : S) (h0 : J 0 s0)
  (hstep : ∀ (i : Nat) (hi : i < xs.length) (s : S),J i s → body (enc i s) = some (.inl (enc (i + 1) (f s xs[i]))) ∧ J (i + 1) (f s xs[i]))
  (hend : ∀ s,J xs.length s → body (enc xs.length s) = some (.inr (o s))) : qA body (enc 0 s0) = some (o (xs.foldl f s0)) := by
 have key : ∀ k i s,i + k = xs.length → J i s → qA body (enc i s) = some (o ((xs.drop i).foldl f s)) := by
  intro k
  induction k with
  | zero =>
   intro i s hi hJ
   have e : i = xs.length := by omega
   subst e
   rw [qq0,hend s hJ,List.drop_length]; rfl
  | succ k ih =>
   intro i s hi hJ
   obtain ⟨h1,h2⟩ := hstep i (by omega) s hJ
   rw [qq0,h1]
   have := ih (i + 1) _ (by omega) h2
   rw [List.drop_eq_getElem_cons (show i < xs.length by omega)]
   exact this
 have := key xs.length 0 s0 (by omega) h0
 rwa [List.drop_zero] at this
theorem wI64 {n : Int} (h : -9223372036854775808 ≤ n ∧ n ≤ 9223372036854775807) : IntKind.wrap .i64 n = n := by
 have e : IntKind.wrap .i64 n = if n % 18446744073709551616 ≥ 9223372036854775808 then n % 18446744073709551616 - 18446744073709551616 else n % 18446744073709551616 := by
  simp [IntKind.wrap,IntKind.bits,IntKind.signed]
 rw [e]
 by_cases hc : n % 18446744073709551616 ≥ 9223372036854775808
 ·rw [if_pos hc]; omega
 ·rw [if_neg hc]; omega
theorem wSu {i : Nat} (h : i < 9223372036854775807) : IntKind.wrap .i64 ((i : Int) + 1) = ((i + 1 : Nat) : Int) := by
 rw [wI64 (by omega)]; rfl
theorem q20 {α : Type} {xs : List α} {i : Nat} (h : i < xs.length) : gx xs (i : Int) = some xs[i] := by
 simp [gx,h]
theorem qL {n bs : Nat} (h : n * bs ≤ 140737488355328) : fits n bs = some () := by simp [fits,ck,h]
theorem qX {lo hi : Int} {n : Nat} (h : 0 ≤ lo ∧ lo ≤ hi ∧ hi ≤ n) : cutB lo hi n = some () := by simp [cutB,ck,h]
theorem lt_nat {i n : Nat} : decide ((i : Int) < (n : Int)) = decide (i < n) := by simp
section
variable {κ β γ : Type} [DecidableEq κ]
theorem qV1 (k : κ) : mget ([] : List (κ × β)) k = none := rfl
theorem qI (p : κ × β) (m : List (κ × β)) (k : κ) : mget (p :: m) k = if k = p.1 then some p.2 else mget m k := by
 simp only [mget,List.find?_cons]
 by_cases h : k = p.1 <;> simp [h]
theorem qo1 (m m' : List (κ × β)) (k : κ) : mget (m ++ m') k = (mget m k).or (mget m' k) := by
 induction m with
 | nil => simp [qV1]
 | cons p m ih => rw [List.cons_append,qI,qI,ih]; split <;> simp
theorem q50 {m : List (κ × β)} {k : κ} : mget m k = none ↔ k ∉ m.map (·.1) := by
 induction m with
 | nil => simp [qV1]
 | cons p m ih => rw [qI]; by_cases h : k = p.1 <;> simp [h,ih]
theorem ql1 {m : List (κ × β)} {k : κ} {v : β} (h : mget m k = some v) : (k,v) ∈ m := by
 induction m with
 | nil => cases h
 | cons p m ih =>
  rw [qI] at h
  by_cases hk : k = p.1
  ·rw [if_pos hk] at h; cases h; subst hk; simp
  ·rw [if_neg hk] at h; exact List.mem_cons_of_mem _ (ih h)
theorem qp1 {m : List (κ × β)} (hn : (m.map (·.1)).Nodup) {k : κ} {v : β} (h : (k,v) ∈ m) : mget m k = some v := by
 induction m with
 | nil => cases h
 | cons p m ih =>
  rw [List.map_cons,List.nodup_cons] at hn
  rw [qI]
  rcases List.mem_cons.1 h with e | e
  ·subst e; simp
  ·have : k ≠ p.1 := fun e' => hn.1 (by rw [← e']; exact List.mem_map.2 ⟨_,e,rfl⟩)
   rw [if_neg this]; exact ih hn.2 e
theorem qs1 {m : List (κ × β)} {k : κ} : (mget m k).isSome = true ↔ k ∈ m.map (·.1) := by
 have := @q50 κ β _ m k
 cases h : mget m k with
 | none => simp only [h,true_iff] at this; simp [this]
 | some v => simp only [h] at this; simp only [Option.isSome_some,true_iff]; exact Classical.byContradiction fun hc => by simp [hc] at this
theorem qo4 {m m' : List (κ × β)} (hn : (m.map (·.1)).Nodup) (hp : m'.Perm m) (k : κ) : mget m' k = mget m k := by
 have hn' : (m'.map (·.1)).Nodup := (hp.map _).nodup_iff.2 hn
 cases h : mget m k with
 | none => rw [q50] at h ⊢; exact fun hc => h ((hp.map _).mem_iff.1 hc)
 | some v => exact qp1 hn' (hp.mem_iff.2 (ql1 h))
theorem mset_cons (p : κ × β) (m : List (κ × β)) (k : κ) (v : β) : mset (p :: m) k v = if k = p.1 then (k,v) :: m else p :: mset m k v := by
 simp only [mset,List.findIdx?_cons]
 by_cases h : k = p.1
 ·simp [h]
 ·simp only [h,decide_false,Bool.false_eq_true,if_false]
  cases hq : m.findIdx? fun p => decide (k = p.1) <;> simp
theorem mset_nil (k : κ) (v : β) : mset ([] : List (κ × β)) k v = [(k,v)] := rfl
theorem mget_mset (m : List (κ × β)) (k : κ) (v : β) (k' : κ) : mget (mset m k v) k' = if k' = k then some v else mget m k' := by
 induction m with
 | nil => rw [mset_nil,qI]
 | cons p m ih =>
  rw [mset_cons]
  by_cases h : k = p.1
  ·rw [if_pos h,qI,qI]
   by_cases h' : k' = k
   ·simp [h']
   ·simp only [h',if_false]; rw [if_neg (by rw [← h]; exact h')]
  ·rw [if_neg h,qI,qI,ih]
   by_cases h' : k' = p.1
   ·have hne : ¬ k' = k := fun e => h (e ▸ h')
    simp only [h',if_true] at hne ⊢
    rw [if_neg hne]
   ·simp only [h',if_false]
theorem keys_mset (m : List (κ × β)) (k : κ) (v : β) : (mset m k v).map (·.1) = if k ∈ m.map (·.1) then m.map (·.1) else m.map (·.1) ++ [k] := by
 induction m with
 | nil => simp [mset_nil]
 | cons p m ih =>
  rw [mset_cons]
  by_cases h : k = p.1
  ·simp [h]
  ·rw [if_neg h,List.map_cons,ih]
   by_cases h' : k ∈ m.map (·.1)
   ·rw [if_pos h',List.map_cons,if_pos (List.mem_cons_of_mem _ h')]
   ·rw [if_neg h',List.map_cons,if_neg (by simp only [List.mem_cons,not_or]; exact ⟨h,h'⟩)]; rfl
theorem qd3 {m : List (κ × β)} (hn : (m.map (·.1)).Nodup) (k : κ) (v : β) : ((mset m k v).map (·.1)).Nodup := by
 rw [keys_mset]
 split
 ·exact hn
 ·rename_i h
  rw [List.nodup_append]
  refine ⟨hn,by simp,fun a ha b hb e => ?_⟩
  simp at hb
  subst hb
  exact h (e ▸ ha)
theorem len_mset (m : List (κ × β)) (k : κ) (v : β) : (mset m k v).length ≤ m.length + 1 := by
 have := congrArg List.length (keys_mset m k v)
 rw [List.length_map] at this
 rw [this]
 split <;> simp
theorem mdel_cons (p : κ × β) (m : List (κ × β)) (k : κ) : mdel (p :: m) k = if k = p.1 then m else p :: mdel m k := by
 simp only [mdel,List.eraseP_cons]
 by_cases h : k = p.1 <;> simp [h]
theorem mdel_sub (m : List (κ × β)) (k : κ) : (mdel m k).Sublist m := List.eraseP_sublist
theorem nodup_mdel {m : List (κ × β)} (hn : (m.map (·.1)).Nodup) (k : κ) : ((mdel m k).map (·.1)).Nodup := ((mdel_sub m k).map _).nodup hn
theorem len_mdel (m : List (κ × β)) (k : κ) : (mdel m k).length ≤ m.length := (mdel_sub m k).length_le
theorem mget_mdel {m : List (κ × β)} (hn : (m.map (·.1)).Nodup) (k k' : κ) : mget (mdel m k) k' = if k' = k then none else mget m k' := by
 induction m with
 | nil => simp [mdel,qV1]
 | cons p m ih =>
  rw [List.map_cons,List.nodup_cons] at hn
  rw [mdel_cons]
  by_cases h : k = p.1
  ·rw [if_pos h,qI]
   by_cases h' : k' = k
   ·rw [if_pos h',q50]
    rw [h',h]; exact hn.1
   ·rw [if_neg h',if_neg (by rw [← h]; exact h')]
  ·rw [if_neg h,qI,qI,ih hn.2]
   by_cases h' : k' = p.1
   ·have hne : ¬ k' = k := fun e => h (e ▸ h')
    simp only [h',if_true] at hne ⊢
    rw [if_neg hne]
   ·simp only [h',if_false]
def qK2 (l : List (κ × β)) : List (κ × β) := l.foldl (fun m p => mset m p.1 p.2) []
theorem foldl_mset_nodup (l : List (κ × β)) : ∀ m : List (κ × β),(m.map (·.1)).Nodup → ((l.foldl (fun m p => mset m p.1 p.2) m).map (·.1)).Nodup := by
 induction l with
 | nil => exact fun m h => h
 | cons p l ih => exact fun m h => ih _ (qd3 h _ _)
theorem qf0 (l : List (κ × β)) : ((qK2 l).map (·.1)).Nodup := foldl_mset_nodup l [] (by simp)
theorem foldl_mset_len (l : List (κ × β)) : ∀ m : List (κ × β),(l.foldl (fun m p => mset m p.1 p.2) m).length ≤ m.length + l.length := by
 induction l with
 | nil => exact fun m => Nat.le_refl _
 | cons p l ih =>
  intro m
  have h1 := ih (mset m p.1 p.2)
  have h2 := len_mset m p.1 p.2
  simp only [List.foldl_cons,List.length_cons]
  omega
theorem q62 (l : List (κ × β)) : (qK2 l).length ≤ l.length := by
 have := foldl_mset_len l []
 simp only [List.length_nil,Nat.zero_add] at this
 exact this
theorem mget_foldl (l : List (κ × β)) (k : κ) : ∀ m : List (κ × β),mget (l.foldl (fun m p => mset m p.1 p.2) m) k = (mget l.reverse k).or (mget m k) := by
 induction l with
 | nil => intro m; simp [qV1]
 | cons p l ih =>
  intro m
  rw [List.foldl_cons,ih,mget_mset,List.reverse_cons,qo1,qI,qV1]
  cases mget l.reverse k <;> simp
  split <;> rfl
theorem qO3 (l : List (κ × β)) (k : κ) : mget (qK2 l) k = mget l.reverse k := by
 unfold qK2
 rw [mget_foldl,qV1]; simp
theorem qN2 {l : List (κ × β)} (hn : (l.map (·.1)).Nodup) (k : κ) : mget (qK2 l) k = mget l k := by
 rw [qO3]
 exact qo4 hn (List.reverse_perm l) k
end
end Go.Val
set_option linter.unusedSectionVars false
set_option linter.unusedVariables false
set_option linter.unusedSimpArgs false
namespace Go.Val
open Go.Lib
def Lt (a b : List UInt8) : Prop := compareBytes a b < 0
instance (a b : List UInt8) : Decidable (Lt a b) := inferInstanceAs (Decidable (compareBytes a b < 0))
theorem lt_irrefl (a : List UInt8) : ¬ Lt a a := by unfold Lt; rw [cb_refl]; omega
theorem lt_trans {a b c : List UInt8} (h : Lt a b) (k : Lt b c) : Lt a c := cb_trans h k
theorem lt_ne {a b : List UInt8} (h : Lt a b) : a ≠ b := fun e => lt_irrefl b (e ▸ h)
theorem lt_or (a b : List UInt8) : Lt a b ∨ a = b ∨ Lt b a := by
 unfold Lt
 have := qq4 a b
 by_cases h : compareBytes a b = 0
 ·exact .inr (.inl (cb_eq h))
 ·omega
theorem lt_of_le {a b : List UInt8} (h : q75 a b = true) (hn : a ≠ b) : Lt a b := by
 rw [q74] at h
 rcases lt_or a b with h1 | h1 | h1
 ·exact h1
 ·exact absurd h1 hn
 ·unfold Lt at h1; have := qq4 a b; omega
abbrev Asc (l : List (List UInt8)) : Prop := l.Pairwise Lt
theorem asc_nodup {l : List (List UInt8)} (h : Asc l) : l.Nodup := h.imp fun h => lt_ne h
theorem asc_eq {l l' : List (List UInt8)} (h : Asc l) (h' : Asc l') (hm : ∀ k,k ∈ l ↔ k ∈ l') : l = l' := by
 have hp : l.Perm l' := (List.perm_ext_iff_of_nodup (asc_nodup h) (asc_nodup h')).2 hm
 refine List.Perm.eq_of_pairwise (le := Lt) (fun a b _ _ h1 h2 => absurd (lt_trans h1 h2) (lt_irrefl a)) h h' hp
theorem sortKeys_asc {l : List (List UInt8)} (h : l.Nodup) : Asc (qp l) := by
 have h1 := qA2 l
 have h2 : (qp l).Nodup := (qT0 l).nodup_iff.2 h
 exact (h1.and h2).imp fun ⟨a,b⟩ => lt_of_le a b
theorem qY2 (l : List (List UInt8)) : (qp l).length = l.length := (qT0 l).length_eq
section
variable {β : Type}
abbrev Rising (l : List (List UInt8 × β)) : Prop := Asc (l.map (·.1))
theorem Rising.nodup {l : List (List UInt8 × β)} (h : Rising l) : (l.map (·.1)).Nodup := asc_nodup h
theorem qO0 {l l' : List (List UInt8 × β)} (h : Rising l) (h' : Rising l') (hg : ∀ k,mget l k = mget l' k) : l = l' := by
 have hk : l.map (·.1) = l'.map (·.1) := asc_eq h h' fun k => by rw [← qs1,← qs1,hg]
 have hl : l.length = l'.length := by have := congrArg List.length hk; simpa using this
 apply List.ext_getElem hl
 intro i h1 h2
 have e1 : l[i].1 = l'[i].1 := by
  have := congrArg (fun x => x[i]?) hk
  simpa [h1,h2] using this
 have e2 := qp1 h.nodup (k := l[i].1) (v := l[i].2) (List.getElem_mem h1)
 have e3 := qp1 h'.nodup (k := l'[i].1) (v := l'[i].2) (List.getElem_mem h2)
 rw [hg,e1,e3] at e2
 exact Prod.ext e1 (Option.some.inj e2).symm
def canon (d : β) (m : List (List UInt8 × β)) : List (List UInt8 × β) := (qp (m.map (·.1))).map fun k => (k,(mget m k).getD d)
theorem canon_keys (d : β) (m : List (List UInt8 × β)) : (canon d m).map (·.1) = qp (m.map (·.1)) := by
 unfold canon
 rw [List.map_map]
 exact List.map_id _
theorem qW2 (d : β) {m : List (List UInt8 × β)} (hn : (m.map (·.1)).Nodup) : Rising (canon d m) := by
 unfold Rising
 rw [canon_keys]
 exact sortKeys_asc hn
theorem canon_len (d : β) (m : List (List UInt8 × β)) : (canon d m).length = m.length := by
 have := congrArg List.length (canon_keys d m)
 rw [List.length_map,qY2,List.length_map] at this
 exact this
theorem mget_canon (d : β) {m : List (List UInt8 × β)} (hn : (m.map (·.1)).Nodup) (k : List UInt8) : mget (canon d m) k = mget m k := by
 have hm : k ∈ qp (m.map (·.1)) ↔ k ∈ m.map (·.1) := (qT0 _).mem_iff
 cases h : mget m k with
 | none =>
  rw [q50,canon_keys,hm]
  exact q50.1 h
 | some v =>
  have hk : k ∈ m.map (·.1) := qs1.1 (by rw [h]; rfl)
  refine qp1 (qW2 d hn).nodup ?_
  refine List.mem_map.2 ⟨k,hm.2 hk,?_⟩
  rw [h]; rfl
theorem canon_id (d : β) {l : List (List UInt8 × β)} (h : Rising l) : canon d (qK2 l) = l := by
 refine qO0 (qW2 d (qf0 l)) h fun k => ?_
 rw [mget_canon d (qf0 l),qN2 h.nodup]
end
abbrev Pr := List UInt8 × ByteArray
abbrev Cg := List UInt8 × ByteArray × Bool
abbrev Fn := List UInt8 → Option ByteArray
def fn (l : List Pr) : Fn := mget (qK2 l)
def eff (c : ByteArray × Bool) : Option ByteArray := if c.2 then none else some c.1
def upd1 (f : Fn) (c : Cg) : Fn := fun k => if k = c.1 then eff c.2 else f k
def updF (f : Fn) (cs : List Cg) : Fn := fun k => match mget cs.reverse k with
 | some c => eff c
 | none => f k
theorem updF_snoc (f : Fn) (cs : List Cg) (c : Cg) : updF f (cs ++ [c]) = upd1 (updF f cs) c := by
 funext k
 simp only [updF,upd1,List.reverse_append,List.reverse_cons,List.reverse_nil,List.nil_append,List.singleton_append,qI]
 by_cases h : k = c.1 <;> simp [h]
theorem updF_foldl (f : Fn) (cs : List Cg) : updF f cs = cs.foldl upd1 f := by
 have key : ∀ r : List Cg,updF f r.reverse = r.reverse.foldl upd1 f := by
  intro r
  induction r with
  | nil => rfl
  | cons c r ih => rw [List.reverse_cons,updF_snoc,ih,List.foldl_append]; rfl
 have := key cs.reverse
 rwa [List.reverse_reverse] at this
theorem qN0 {cs : List Cg} (h : (cs.map (·.1)).Nodup) (f : Fn) (k : List UInt8) : updF f cs k = match mget cs k with
  | some c => eff c
  | none => f k := by
 unfold updF
 rw [qo4 h (List.reverse_perm cs)]
def doesP (m : List Pr) (c : Cg) : List Pr := if c.2.2 = true then mdel m c.1 else mset m c.1 c.2.1
theorem doesP_nodup {m : List Pr} (h : (m.map (·.1)).Nodup) (c : Cg) : ((doesP m c).map (·.1)).Nodup := by
 unfold doesP
 split
 ·exact nodup_mdel h _
 ·exact qd3 h _ _
theorem doesP_len (m : List Pr) (c : Cg) : (doesP m c).length ≤ m.length + 1 := by
 unfold doesP
 split
 ·have := len_mdel m c.1; omega
 ·exact len_mset _ _ _
theorem mget_doesP {m : List Pr} (h : (m.map (·.1)).Nodup) (c : Cg) : mget (doesP m c) = upd1 (mget m) c := by
 funext k
 obtain ⟨a,b,g⟩ := c
 cases g with
 | true => simp only [doesP,upd1,eff,if_true]; rw [mget_mdel h]
 | false => simp only [doesP,upd1,eff,Bool.false_eq_true,if_false]; rw [mget_mset]
theorem qv3 (cs : List Cg) : ∀ m : List Pr,(m.map (·.1)).Nodup → ((cs.foldl doesP m).map (·.1)).Nodup ∧ (cs.foldl doesP m).length ≤ m.length + cs.length ∧ mget (cs.foldl doesP m) = cs.foldl upd1 (mget m) := by
 induction cs with
 | nil => exact fun m h => ⟨h,Nat.le_refl _,rfl⟩
 | cons c cs ih =>
  intro m h
  obtain ⟨h1,h2,h3⟩ := ih _ (doesP_nodup h c)
  have := doesP_len m c
  refine ⟨h1,by simp only [List.foldl_cons,List.length_cons]; omega,?_⟩
  rw [List.foldl_cons,h3,mget_doesP h]; rfl
def mt : ByteArray := ByteArray.mk #[]
def mapP (l : List Pr) : List Pr := canon mt (qK2 l)
def q93 (l : List Pr) (cs : List Cg) : List Pr := canon mt (cs.foldl doesP (qK2 l))
theorem mapP_rising (l : List Pr) : Rising (mapP l) := qW2 mt (qf0 l)
theorem mget_mapP (l : List Pr) : mget (mapP l) = fn l := funext fun k => mget_canon mt (qf0 l) k
theorem qh0 (l : List Pr) (cs : List Cg) : Rising (q93 l cs) := qW2 mt (qv3 cs _ (qf0 l)).1
theorem qV0 (l : List Pr) (cs : List Cg) : mget (q93 l cs) = updF (fn l) cs := by
 obtain ⟨h1,h2,h3⟩ := qv3 cs _ (qf0 l)
 funext k
 unfold q93
 rw [mget_canon mt h1,h3,updF_foldl]
 rfl
theorem fn_rising {l : List Pr} (h : Rising l) : fn l = mget l := funext fun k => qN2 h.nodup k
theorem mapP_len (l : List Pr) : (mapP l).length ≤ l.length := by unfold mapP; rw [canon_len]; exact q62 l
theorem applyP_len (l : List Pr) (cs : List Cg) : (q93 l cs).length ≤ l.length + cs.length := by
 unfold q93
 rw [canon_len]
 have h1 := (qv3 cs _ (qf0 l)).2.1
 have h2 := q62 l
 omega
theorem mapP_id {l : List Pr} (h : Rising l) : mapP l = l := canon_id mt h
def difC (f g : Fn) (k : List UInt8) : Option (ByteArray × Bool) := match g k with
 | some v => if f k = some v then none else some (v,false)
 | none => if (f k).isSome then some (mt,true) else none
structure IsDiff (f g : Fn) (d : List Cg) : Prop where
 rising : Rising d
 get : ∀ k,mget d k = difC f g k
theorem IsDiff.unique {f g : Fn} {d d' : List Cg} (h : IsDiff f g d) (h' : IsDiff f g d') : d = d' :=
 qO0 h.rising h'.rising fun k => by rw [h.get,h'.get]
theorem IsDiff.upd {f g : Fn} {d : List Cg} (h : IsDiff f g d) : updF f d = g := by
 funext k
 rw [qN0 h.rising.nodup,h.get]
 unfold difC
 cases hg : g k with
 | some v =>
  by_cases hf : f k = some v
  ·simp [hf]
  ·simp [hf,eff]
 | none =>
  cases hf : f k with
  | some v => simp [eff]
  | none => simp
theorem difC_none {f g : Fn} {k : List UInt8} : difC f g k = none ↔ f k = g k := by
 unfold difC
 cases hg : g k with
 | some v => by_cases hf : f k = some v <;> simp [hf]
 | none => cases hf : f k <;> simp
theorem difC_self (f : Fn) (k : List UInt8) : difC f f k = none := difC_none.2 rfl
theorem IsDiff.nil {f : Fn} {d : List Cg} (h : IsDiff f f d) : d = [] := by
 cases d with
 | nil => rfl
 | cons c d =>
  have := h.get c.1
  rw [difC_self,qI,if_pos rfl] at this
  cases this
theorem IsDiff.mem {f g : Fn} {d : List Cg} (h : IsDiff f g d) {k : List UInt8} : k ∈ d.map (·.1) ↔ f k ≠ g k := by
 rw [← qs1,h.get]
 have := @difC_none f g k
 cases hd : difC f g k with
 | none => simp [this.1 hd]
 | some c =>
  have hne : ¬ f k = g k := fun e => by rw [this.2 e] at hd; cases hd
  simp [hne]
end Go.Val
set_option linter.unusedSectionVars false
set_option linter.unusedVariables false
set_option linter.unusedSimpArgs false
namespace Go.Val
open Go.RowKit
structure Rd (P : Program) (t : TypeId) {κ : Type} (e : κ → D) : Prop where
 get : ∀ {H : Type} (enc : TypeId × Value → H) (W : World) (sp : Nat → Bool) (hd : Bool) (fuel : Nat) (cs : List Value) (x : DataW H × List MemPlace),DataW.trod enc P W 0 sp hd fuel t cs = some x → ∃ a : κ,DR (fun b => b < W.heap.size) W (e a) cs
theorem mapM_all {α β : Type} {f : α → Option β} : ∀ {l : List α} {ys : List β},l.mapM f = some ys → ∀ x ∈ l,∃ y,f x = some y
 | [],_,_,x,hx => by cases hx
 | a :: l,ys,h,x,hx => by
  rw [List.mapM_cons] at h
  simp only [Option.bind_eq_bind] at h
  obtain ⟨y,h1,h2⟩ := Option.bind_eq_some_iff.1 h
  obtain ⟨ys',h3,_⟩ := Option.bind_eq_some_iff.1 h2
  rcases List.mem_cons.1 hx with rfl | hx
  ·exact ⟨y,h1⟩
  ·exact mapM_all h3 x hx
theorem Rd.int {P : Program} {t : TypeId} {k : IntKind} (un : P.underlying t = some (.int k)) : Rd P t (fun n : Int => .v (.int k n)) := by
 refine ⟨?_⟩
 intro H enc W sp hd fuel cs x h
 cases fuel with
 | zero => simp [DataW.trod] at h
 | succ fuel =>
  match cs with
  | [] => simp [DataW.trod,un] at h
  | [c] =>
   cases c <;> simp [DataW.trod,un] at h
   obtain ⟨⟨rfl,_⟩,_⟩ := h
   exact ⟨_,.v rfl⟩
  | _ :: _ :: _ => simp [DataW.trod,un] at h
theorem Rd.bool {P : Program} {t : TypeId} (un : P.underlying t = some .bool) : Rd P t (fun b : Bool => .v (.bool b)) := by
 refine ⟨?_⟩
 intro H enc W sp hd fuel cs x h
 cases fuel with
 | zero => simp [DataW.trod] at h
 | succ fuel =>
  match cs with
  | [] => simp [DataW.trod,un] at h
  | [c] =>
   cases c <;> simp [DataW.trod,un] at h
   exact ⟨_,.v rfl⟩
  | _ :: _ :: _ => simp [DataW.trod,un] at h
theorem Rd.string {P : Program} {t : TypeId} (un : P.underlying t = some .string) : Rd P t (fun b : ByteArray => .v (.string b)) := by
 refine ⟨?_⟩
 intro H enc W sp hd fuel cs x h
 cases fuel with
 | zero => simp [DataW.trod] at h
 | succ fuel =>
  match cs with
  | [] => simp [DataW.trod,un] at h
  | [c] =>
   cases c <;> simp [DataW.trod,un] at h
   exact ⟨_,.v rfl⟩
  | _ :: _ :: _ => simp [DataW.trod,un] at h
theorem Rd.bytes {P : Program} {t e : TypeId} {n : Nat} (un : P.underlying t = some (.array n e)) (ue : P.underlying e = some (.int .u8)) (hc : P.cellsOf e = 1) (hn : P.cellsOf t = n) : Rd P t (fun l : List UInt8 => .bs n l) := by
 refine ⟨?_⟩
 intro H enc W sp hd fuel cs x h
 cases fuel with
 | zero => simp [DataW.trod] at h
 | succ fuel =>
  have hlen : cs.length = n := by
   simp only [DataW.trod,un,hn] at h
   split at h
   ·rename_i q; exact q
   ·cases h
  have hm : ∃ xs,((List.range n).mapM fun i => DataW.trod enc P W 0 sp hd fuel e ((cs.drop (i * P.cellsOf e)).take (P.cellsOf e))) = some xs := by
   simp only [DataW.trod,un,hn,hlen,if_true] at h
   obtain ⟨xs,h1,_⟩ := Option.map_eq_some_iff.1 h
   exact ⟨xs,h1⟩
  obtain ⟨xs,hm⟩ := hm
  have key : ∀ c ∈ cs,∃ b : UInt8,c = u8v b := by
   intro c hcm
   obtain ⟨i,hi,rfl⟩ := List.getElem_of_mem hcm
   obtain ⟨y,hy⟩ := mapM_all hm i (List.mem_range.2 (by omega))
   rw [hc,Nat.mul_one] at hy
   have ht : (cs.drop i).take 1 = [cs[i]] := by rw [List.drop_eq_getElem_cons hi]; rfl
   rw [ht] at hy
   cases fuel with
   | zero => simp [DataW.trod] at hy
   | succ fuel =>
    generalize cs[i] = c at hy
    cases c <;> simp [DataW.trod,ue] at hy
    rename_i k' m
    obtain ⟨⟨rfl,hw⟩,_⟩ := hy
    simp only [Lit.wf,Bool.and_eq_true,decide_eq_true_eq,IntKind.min,IntKind.max] at hw
    have h0 : 0 ≤ m ∧ m < 256 := by
     have := hw
     revert this
     simp [IntKind.signed,IntKind.bits]
     omega
    refine ⟨UInt8.ofNat m.toNat,?_⟩
    have e8 : ((UInt8.ofNat m.toNat).toNat : Int) = m := by
     rw [UInt8.toNat_ofNat',Nat.mod_eq_of_lt (by omega)]
     omega
    simp only [u8v,e8]
  have hl : ∃ l : List UInt8,cs = l.map u8v := by
   clear hm h hlen
   induction cs with
   | nil => exact ⟨[],rfl⟩
   | cons c cs ih =>
    obtain ⟨b,rfl⟩ := key c (by simp)
    obtain ⟨l,rfl⟩ := ih (fun c' h' => key c' (by simp [h']))
    exact ⟨b :: l,rfl⟩
  obtain ⟨l,rfl⟩ := hl
  exact ⟨l,.bs (by simpa using hlen)⟩
structure RdL (P : Program) (T off : Nat) (fs : List Field) {σ : Type} (e : σ → List D) : Prop where
 get : ∀ {H : Type} (enc : TypeId × Value → H) (W : World) (sp : Nat → Bool) (hd : Bool) (fuel : Nat) (cs : List Value) (xs : List (DataW H × List MemPlace)),cs.length = T →
  (fs.mapM fun f => DataW.trod enc P W 0 sp hd fuel f.type ((cs.drop f.offset).take (P.cellsOf f.type))) = some xs → ∃ a : σ,DRs (fun b => b < W.heap.size) W (e a) (cs.drop off)
theorem RdL.nil {P : Program} {T : Nat} : RdL P T T [] (fun _ : Unit => []) := by
 refine ⟨?_⟩
 intro H enc W sp hd fuel cs xs hl _
 refine ⟨(),?_⟩
 rw [List.drop_of_length_le (by omega)]
 exact .nil
theorem RdL.cons {P : Program} {T off n : Nat} {f : Field} {fs : List Field} {κ σ : Type} {e1 : κ → D} {e2 : σ → List D} (ho : f.offset = off) (hn : P.cellsOf f.type = n) (h1 : Rd P f.type e1) (h2 : RdL P T (off + n) fs e2) :
  RdL P T off (f :: fs) (fun p : κ × σ => e1 p.1 :: e2 p.2) := by
 refine ⟨?_⟩
 intro H enc W sp hd fuel cs xs hl h
 rw [List.mapM_cons] at h
 simp only [Option.bind_eq_bind] at h
 obtain ⟨y,k1,k2⟩ := Option.bind_eq_some_iff.1 h
 obtain ⟨ys,k3,_⟩ := Option.bind_eq_some_iff.1 k2
 rw [ho,hn] at k1
 obtain ⟨a,ha⟩ := h1.get enc W sp hd fuel _ _ k1
 obtain ⟨b,hb⟩ := h2.get enc W sp hd fuel cs ys hl k3
 refine ⟨(a,b),?_⟩
 have : cs.drop off = (cs.drop off).take n ++ cs.drop (off + n) := by
  rw [← List.drop_drop,List.take_append_drop]
 rw [this]
 exact .cons ha hb
theorem Rd.struct {P : Program} {t : TypeId} {fs : Array Field} {T : Nat} {σ κ : Type} {es : σ → List D} {e : κ → D} (un : P.underlying t = some (.struct fs)) (hT : P.cellsOf t = T) (hL : RdL P T 0 fs.toList es) (φ : σ → κ) (hφ : ∀ a,e (φ a) = .st (es a)) : Rd P t e := by
 refine ⟨?_⟩
 intro H enc W sp hd fuel cs x h
 cases fuel with
 | zero => simp [DataW.trod] at h
 | succ fuel =>
  have hlen : cs.length = T := by
   simp only [DataW.trod,un,hT] at h
   split at h
   ·rename_i q; exact q
   ·cases h
  simp only [DataW.trod,un,hT,hlen,if_true] at h
  obtain ⟨xs,k1,_⟩ := Option.map_eq_some_iff.1 h
  obtain ⟨a,ha⟩ := hL.get enc W sp hd fuel cs xs hlen k1
  rw [List.drop_zero] at ha
  exact ⟨φ a,by rw [hφ]; exact .st ha⟩
theorem cellsAt_append {w : World} {b off : Nat} {cs cs' : List Value} (h : CellsAt w b off cs) (h' : CellsAt w b (off + cs.length) cs') : CellsAt w b off (cs ++ cs') := by
 intro i v hi
 by_cases hl : i < cs.length
 ·rw [List.getElem?_append_left hl] at hi
  exact h i v hi
 ·rw [List.getElem?_append_right (by omega)] at hi
  have := h' (i - cs.length) v hi
  rw [show off + cs.length + (i - cs.length) = off + i by omega] at this
  exact this
theorem cell_spot {w : World} {a : Addr} {v : Value} (h : w.cell? a = some v) : a.spot = none ∧ a.block < w.heap.size := by
 unfold World.cell? at h
 split at h
 ·rename_i q
  split at h
  ·cases h
  ·rename_i hs
   exact ⟨by simpa using hs,(Array.getElem?_eq_some_iff.1 q).1⟩
 ·cases h
theorem cells_spot {w : World} {a : Addr} {n : Nat} {cs : List Value} (h : w.cells? 0 a n = some cs) (hn : 0 < n) : a.spot = none ∧ a.block < w.heap.size := by
 unfold World.cells? at h
 rw [if_pos (by omega)] at h
 obtain ⟨y,hy⟩ := mapM_all h 0 (List.mem_range.2 hn)
 exact cell_spot hy
theorem mapM_get {α β : Type} {f : α → Option β} : ∀ {l : List α} {ys : List β},l.mapM f = some ys → ys.length = l.length ∧ ∀ (i : Nat) (x : α),l[i]? = some x → f x = ys[i]?
 | [],ys,h => by
  simp at h
  subst h
  exact ⟨rfl,fun i x hx => by simp at hx⟩
 | a :: l,ys,h => by
  rw [List.mapM_cons] at h
  simp only [Option.bind_eq_bind] at h
  obtain ⟨y,h1,h2⟩ := Option.bind_eq_some_iff.1 h
  obtain ⟨ys',h3,h4⟩ := Option.bind_eq_some_iff.1 h2
  cases h4
  obtain ⟨k1,k2⟩ := mapM_get h3
  refine ⟨by simp [k1],fun i x hx => ?_⟩
  cases i with
  | zero => simp at hx; subst hx; simp [h1]
  | succ i => simp at hx; simp [k2 i x hx]
theorem cells_at {w : World} {a : Addr} {n : Nat} {cs : List Value} (h : w.cells? 0 a n = some cs) (hs : a.spot = none) : cs.length = n ∧ CellsAt w a.block a.off cs := by
 unfold World.cells? at h
 rw [if_pos (by omega)] at h
 obtain ⟨k1,k2⟩ := mapM_get h
 rw [List.length_range] at k1
 refine ⟨k1,fun i v hi => ?_⟩
 have hlt : i < n := by have := (List.getElem?_eq_some_iff.1 hi).1; omega
 have := k2 i i (by simp [hlt])
 rw [hi] at this
 rw [← this]
 congr 1
 obtain ⟨b,o,s⟩ := a
 simp only at hs
 subst hs
 exact (qv0 _ _ _).symm
theorem Rd.slice {P : Program} {t e : TypeId} {k : Nat} {κ : Type} {ee : κ → D} (un : P.underlying t = some (.slice e)) (hc : P.cellsOf e = k) (hk : 0 < k) (hz : ∀ a,(ee a).size = k) (hR : Rd P e ee) : Rd P t (fun xs : List κ => .sl k (xs.map ee)) := by
 refine ⟨?_⟩
 intro H enc W sp hd fuel cs x h
 cases fuel with
 | zero => simp [DataW.trod] at h
 | succ fuel =>
  match cs with
  | [] => simp [DataW.trod,un] at h
  | _ :: _ :: _ => simp [DataW.trod,un] at h
  | [c] =>
   cases c <;> try (simp [DataW.trod,un] at h; done)
   rename_i base len cap
   cases base with
   | none =>
    have : len = 0 := by
     cases len with
     | zero => rfl
     | succ n => simp [DataW.trod,un] at h
    subst this
    exact ⟨[],.sl0⟩
   | some a =>
    by_cases h0 : len = 0
    ·subst h0; exact ⟨[],.sl0⟩
    ·simp only [DataW.trod,un,hc] at h
     split at h
     ·rename_i hcond
      obtain ⟨elems,k1,_⟩ := Option.bind_eq_some_iff.1 h
      have el : ∀ i,i < len → ∃ ci xi,W.cells? 0 (a.add (i * k)) k = some ci ∧ DR (fun b => b < W.heap.size) W (ee xi) ci := by
       intro i hi
       obtain ⟨y,hy⟩ := mapM_all k1 i (List.mem_range.2 hi)
       obtain ⟨ci,q1,q2⟩ := Option.bind_eq_some_iff.1 hy
       obtain ⟨xi,q3⟩ := hR.get enc W sp hd fuel ci y q2
       exact ⟨ci,xi,q1,q3⟩
      obtain ⟨c0,_,q0,_⟩ := el 0 (by omega)
      have q0' : W.cells? 0 a k = some c0 := by
       have e : a.add (0 * k) = a := by simp [Addr.add]
       rwa [e] at q0
      obtain ⟨hs,hb⟩ := cells_spot q0' hk
      have hadd : ∀ m,a.add m = ⟨a.block,a.off + m,none⟩ := by
       intro m
       obtain ⟨b,o,s⟩ := a
       simp only at hs
       subst hs
       exact qv0 _ _ _
      have rows : ∀ n,n ≤ len → ∃ (xs : List κ) (cs' : List Value),xs.length = n ∧ cs'.length = n * k ∧ DRs (fun b => b < W.heap.size) W (xs.map ee) cs' ∧ CellsAt W a.block a.off cs' := by
       intro n
       induction n with
       | zero => exact fun _ => ⟨[],[],rfl,by simp,.nil,fun i v hi => by simp at hi⟩
       | succ n ih =>
        intro hn
        obtain ⟨xs,cs',p1,p2,p3,p4⟩ := ih (by omega)
        obtain ⟨ci,xi,r1,r2⟩ := el n (by omega)
        rw [hadd] at r1
        obtain ⟨r3,r4⟩ := cells_at r1 rfl
        refine ⟨xs ++ [xi],cs' ++ ci,by simp [p1],by rw [List.length_append,p2,r3,Nat.succ_mul],?_,cellsAt_append p4 ?_⟩
        ·rw [List.map_append]
         have : DRs (fun b => b < W.heap.size) W ([xi].map ee) ci := by
          have := DRs.cons r2 .nil
          rwa [List.append_nil] at this
         exact p3.append this
        ·rw [p2]; exact r4
      obtain ⟨xs,cs',p1,p2,p3,p4⟩ := rows len (Nat.le_refl _)
      refine ⟨xs,?_⟩
      have ha : a = ⟨a.block,a.off,none⟩ := by
       obtain ⟨b,o,s⟩ := a
       simp only at hs
       subst hs
       rfl
      rw [ha,← p1]
      have hl : xs.length = (xs.map ee).length := by simp
      rw [hl]
      exact .sl hb hb p3 (by intro r hr; obtain ⟨q,_,rfl⟩ := List.mem_map.1 hr; exact hz q) p4 (by rw [← hl,p1]; exact hcond.2.1)
     ·cases h
end Go.Val
set_option linter.unusedSectionVars false
set_option linter.unusedVariables false
set_option linter.unusedSimpArgs false
namespace Go.Val
open Go.RowKit Go.ChangeShapes
theorem post_of_below {H : Type} {enc : TypeId × Value → H} {P : Program} {f : Func} {s : ChangeSpec} {apart fresh handsOn : Bool} {W W' : World} {args : Array Value} {v : Value} {ds gs : List (DataW H)} {before pa pv : List MemPlace}
  (hW : DataW.Whole enc P f.params.toList s.vars apart W args.toList ds gs before) (hb : Below W.heap.size W W')
  (hres : ∀ (b : Nat) (sp : Nat → Bool) (hd : Bool),DataW.TrodAll enc P W' b sp hd f.resultTypes.toList (v.resultList f.resultTypes.size) (s.fn H (ds ++ gs)).results [])
  (hargs : DataW.TrodAll enc P W' 0 (fun b => decide (b < W.heap.size)) true f.params.toList args.toList (s.fn H (ds ++ gs)).args pa)
  (hvars : DataW.TrodVars enc P W' (fun b => decide (b < W.heap.size)) s.vars (s.fn H (ds ++ gs)).vars pv) :
  s.post enc P f apart fresh handsOn false W args v W' :=
 ⟨ds,gs,before,[],pa,pv,hW,hres _ _ _,hargs,hvars,hb.frame _,fun h => (nomatch h)⟩
theorem calls_true {P : Program} {f : FuncId} {vals : List Value} {as : List AV} {W : World} (h : FnOk P f as 0 (lk []) (fun rr oo => rr = .d (.v (.bool true)) ∧ oo = lk []))
  (ha : ∀ E : Env,E.w = W → (∀ b,E.I b ↔ b < W.heap.size) → VRs E as vals) : Calls P f vals.toArray W fun e W' => e = .returned (.bool true) ∧ Below W.heap.size W W' := by
 let E : Env := ⟨lk [],fun _ => none,fun _ => 0,fun _ => [],fun _ => [],fun b => b < W.heap.size,W⟩
 have := h (fun o ho => absurd rfl ho) E vals rfl ⟨fun o ob (ho : none = some ob) => (nomatch ho),fun o o' b ho => absurd rfl ho⟩ (ha E rfl fun b => ⟨fun h => h.1,fun h => ⟨h,fun o ob (ho : none = some ob) => (nomatch ho)⟩⟩)
 refine this.mono ?_
 rintro e w' ⟨v,res,E',rfl,rfl,⟨rfl,_⟩,hv,_,_,hk,_,_⟩
 have hvr := hv.sc
 subst hvr
 exact ⟨rfl,⟨hk.os,hk.tape,hk.output,hk.size,fun b hb => hk.block b hb (fun ⟨o,ho,_⟩ => ho rfl)⟩⟩
theorem one_slice {P : Program} {W : World} {r : Reach} {b : Nat} {t e : TypeId} {v : Value} (un : P.underlying t = some (.slice e)) (h : Value.okWide P W r b t v) : one v = true := by
 cases v <;> first | rfl | (simp [Value.okWide,un,Cell.okWide,Cell.ok] at h)
theorem VRs.cons_vr {E : Env} {x : AV} {xs : List AV} {v : Value} {vs : List Value} (h : VR E x v) (hs : VRs E xs vs) : VRs E (x :: xs) (v :: vs) := by
 obtain ⟨cs,h1,h2⟩ := h
 subst h2
 exact .cons h1 hs
end Go.Val
set_option linter.unusedSectionVars false
set_option linter.unusedVariables false
set_option linter.unusedSimpArgs false
namespace Go.Val
open Go.RowKit
def DOk (d : D) : Prop := ∃ (I : Nat → Prop) (w : World) (cs : List Value),DR I w d cs
theorem drs_mem {I : Nat → Prop} {w : World} : ∀ {ds : List D} {cs : List Value},DRs I w ds cs → ∀ d ∈ ds,DOk d
 | _,_,.nil,d,h => by simp at h
 | _,_,.cons h hs,d,hm => by
  rcases List.mem_cons.1 hm with rfl | hm
  ·exact ⟨_,_,_,h⟩
  ·exact drs_mem hs d hm
theorem DOk.bs {n : Nat} {l : List UInt8} (h : DOk (.bs n l)) : l.length = n := by
 obtain ⟨I,w,cs,h⟩ := h
 cases h
 assumption
theorem DOk.st {ds : List D} (h : DOk (.st ds)) : ∀ d ∈ ds,DOk d := by
 obtain ⟨I,w,cs,h⟩ := h
 cases h with
 | st h => exact drs_mem h
theorem DOk.sl {k : Nat} {rows : List D} (h : DOk (.sl k rows)) : ∀ r ∈ rows,DOk r := by
 obtain ⟨I,w,cs,h⟩ := h
 cases h with
 | sl0 => intro r hr; simp at hr
 | sl h1 h2 h3 h4 h5 h6 => exact drs_mem h3
theorem arg_oneK {H : Type} {enc : TypeId × Value → H} {P : Program} {t : TypeId} {κ : Type} {e : κ → D} (hR : Rd P t e) (hag : ∀ a,(e a).isAgg = false) {W : World} {v : Value} {d : DataW H} {ps : List MemPlace} (h1 : one v = true)
  (h : DataW.Trod enc P W 0 (fun _ => true) true t v d ps) : ∃ a : κ,DOk (e a) ∧ ∀ E : Env,E.w = W → (∀ b,E.I b ↔ b < W.heap.size) → VR E (.d (e a)) v := by
 obtain ⟨fuel,hf⟩ := h
 obtain ⟨a,ha⟩ := hR.get enc W _ _ fuel _ _ hf
 have hc : v.cells.toList = [v] := by cases v <;> first | rfl | (simp [one] at h1)
 rw [hc] at ha
 refine ⟨a,⟨_,_,_,ha⟩,fun E hE hI => ⟨[v],.d ?_,by simp [mkV,AV.isAgg,hag]⟩⟩
 subst hE
 exact ha.mono (Nat.le_refl _) fun b hb _ => ⟨(hI b).2 hb,rfl⟩
end Go.Val
set_option linter.unusedSectionVars false
set_option linter.unusedVariables false
set_option linter.unusedSimpArgs false
namespace Go.Val
abbrev Ky := List UInt8
theorem le_of_lt {a b : Ky} (h : Lt a b) : ¬ Lt b a := fun k => lt_irrefl a (lt_trans h k)
theorem qb4 {a b c : Ky} (h : ¬ Lt b a) (k : ¬ Lt c b) : ¬ Lt c a := by
 intro q
 rcases lt_or a b with h1 | rfl | h1
 ·rcases lt_or b c with h2 | rfl | h2
  ·exact lt_irrefl a (lt_trans (lt_trans h1 h2) q)
  ·exact lt_irrefl a (lt_trans h1 q)
  ·exact k h2
 ·exact k q
 ·exact h h1
theorem lt_of_le_lt {a b c : Ky} (h : ¬ Lt b a) (k : Lt b c) : Lt a c := by
 rcases lt_or a b with h1 | rfl | h1
 ·exact lt_trans h1 k
 ·exact k
 ·exact absurd h1 h
theorem lt_of_lt_le {a b c : Ky} (h : Lt a b) (k : ¬ Lt c b) : Lt a c := by
 rcases lt_or b c with h1 | rfl | h1
 ·exact lt_trans h h1
 ·exact h
 ·exact absurd h1 k
theorem le_anti {a b : Ky} (h : ¬ Lt b a) (k : ¬ Lt a b) : a = b := by
 rcases lt_or a b with h1 | h1 | h1
 ·exact absurd h1 k
 ·exact h1
 ·exact absurd h1 h
def toB (s : Sp) : Option Ky := if s.2.2 = true then none else some s.2.1
def qz2 (k : Ky) : Option Ky → Prop
 | none => True
 | some b => Lt k b
instance (k : Ky) : ∀ b,Decidable (qz2 k b)
 | none => isTrue trivial
 | some b => inferInstanceAs (Decidable (Lt k b))
def inS (s : Sp) (k : Ky) : Bool := !decide (Lt k s.1) && decide (qz2 k (toB s))
def hasS (l : List Sp) (k : Ky) : Bool := l.any fun s => inS s k
def zK : Ky := List.replicate 24 0
def mkS (a : Ky) (b : Option Ky) : Sp := (a,b.getD zK,b.isNone)
theorem qo2 (a : Ky) (b : Option Ky) : toB (mkS a b) = b := by cases b <;> rfl
theorem qq1 {s : Sp} {k : Ky} : inS s k = true ↔ ¬ Lt k s.1 ∧ qz2 k (toB s) := by simp [inS]
theorem qW1 {l : List Sp} {k : Ky} : hasS l k = true ↔ ∃ s ∈ l,inS s k = true := by simp [hasS]
theorem q32 (l m : List Sp) (k : Ky) : hasS (l ++ m) k = (hasS l k || hasS m k) := by simp [hasS]
theorem hasS_perm {l m : List Sp} (h : l.Perm m) (k : Ky) : hasS l k = hasS m k := by
 rw [Bool.eq_iff_iff,qW1,qW1]
 exact ⟨fun ⟨s,h1,h2⟩ => ⟨s,h.mem_iff.1 h1,h2⟩,fun ⟨s,h1,h2⟩ => ⟨s,h.mem_iff.2 h1,h2⟩⟩
theorem under_le {k j : Ky} {b : Option Ky} (h : ¬ Lt j k) (hj : qz2 j b) : qz2 k b := by
 cases b with
 | none => trivial
 | some b => exact lt_of_le_lt h hj
def full (s : Sp) : Bool := decide (qz2 s.1 (toB s))
theorem inS_full {s : Sp} {k : Ky} (h : inS s k = true) : full s = true := by
 obtain ⟨h1,h2⟩ := qq1.1 h
 exact decide_eq_true (under_le h1 h2)
theorem hasS_filter (l : List Sp) (k : Ky) : hasS (l.filter full) k = hasS l k := by
 rw [Bool.eq_iff_iff,qW1,qW1]
 exact ⟨fun ⟨s,h1,h2⟩ => ⟨s,(List.mem_filter.1 h1).1,h2⟩,fun ⟨s,h1,h2⟩ => ⟨s,List.mem_filter.2 ⟨h1,inS_full h2⟩,h2⟩⟩
structure CanonS (l : List Sp) : Prop where
 norm : ∀ s ∈ l,s = mkS s.1 (toB s) ∧ qz2 s.1 (toB s)
 len : ∀ s ∈ l,spOk s
 gap : l.Pairwise fun s t => ∃ b,toB s = some b ∧ Lt b t.1
theorem CanonS.nil : CanonS [] := ⟨by simp,by simp,.nil⟩
theorem CanonS.tail {s : Sp} {l : List Sp} (h : CanonS (s :: l)) : CanonS l :=
 ⟨fun t ht => h.norm t (List.mem_cons_of_mem _ ht),fun t ht => h.len t (List.mem_cons_of_mem _ ht),(List.pairwise_cons.1 h.gap).2⟩
theorem CanonS.above {s : Sp} {l : List Sp} (h : CanonS (s :: l)) {k : Ky} (hk : hasS l k = true) : ∃ b,toB s = some b ∧ Lt b k := by
 obtain ⟨t,ht,h1⟩ := qW1.1 hk
 obtain ⟨b,h2,h3⟩ := (List.pairwise_cons.1 h.gap).1 t ht
 exact ⟨b,h2,lt_of_lt_le h3 (qq1.1 h1).1⟩
theorem CanonS.first {s : Sp} {l : List Sp} (h : CanonS (s :: l)) {k : Ky} (hk : hasS (s :: l) k = true) : ¬ Lt k s.1 := by
 rw [hasS,List.any_cons,Bool.or_eq_true] at hk
 rcases hk with hk | hk
 ·exact (qq1.1 hk).1
 ·obtain ⟨b,h1,h2⟩ := h.above hk
  have := (h.norm s (by simp)).2
  rw [h1] at this
  exact le_of_lt (lt_trans this h2)
theorem CanonS.hasHead {s : Sp} {l : List Sp} (h : CanonS (s :: l)) : hasS (s :: l) s.1 = true := by
 rw [hasS,List.any_cons,Bool.or_eq_true]
 exact .inl (qq1.2 ⟨lt_irrefl _,(h.norm s (by simp)).2⟩)
theorem CanonS.notEnd {s : Sp} {l : List Sp} (h : CanonS (s :: l)) {b : Ky} (hb : toB s = some b) : hasS (s :: l) b = false := by
 rw [Bool.eq_false_iff]
 intro hk
 rw [hasS,List.any_cons,Bool.or_eq_true] at hk
 rcases hk with hk | hk
 ·have := (qq1.1 hk).2
  rw [hb] at this
  exact lt_irrefl _ this
 ·obtain ⟨b',h1,h2⟩ := h.above hk
  rw [hb] at h1
  cases h1
  exact lt_irrefl _ h2
theorem q05 {s : Sp} (h : spOk s) {b : Ky} (hb : toB s = some b) : b.length = 24 := by
 unfold toB at hb
 split at hb
 ·cases hb
 ·cases hb
  exact h.2
theorem canonS_eq : ∀ {l m : List Sp},CanonS l → CanonS m → (∀ k : Ky,k.length = 24 → hasS l k = hasS m k) → l = m
 | [],[],_,_,_ => rfl
 | [],t :: m,_,hm,h => by
  have := h t.1 (hm.len t (by simp)).1
  rw [hm.hasHead] at this
  exact absurd this (by simp [hasS])
 | s :: l,[],hl,_,h => by
  have := h s.1 (hl.len s (by simp)).1
  rw [hl.hasHead] at this
  exact absurd this (by simp [hasS])
 | s :: l,t :: m,hl,hm,h => by
  have ls := hl.len s (by simp)
  have lt := hm.len t (by simp)
  have e1 : s.1 = t.1 := by
   refine le_anti ?_ ?_
   ·exact hl.first ((h t.1 lt.1).trans hm.hasHead)
   ·exact hm.first ((h s.1 ls.1).symm.trans hl.hasHead)
  have us := (hl.norm s (by simp)).2
  have ut := (hm.norm t (by simp)).2
  have e2 : toB s = toB t := by
   have key : ∀ {s t : Sp} {l m : List Sp},CanonS (s :: l) → CanonS (t :: m) → (∀ k : Ky,k.length = 24 → hasS (s :: l) k = hasS (t :: m) k) → s.1 = t.1 → ∀ b,toB s = some b → ∃ c,toB t = some c ∧ ¬ Lt b c := by
    intro s t l m hl hm h e1 b hb
    have nb := hl.notEnd hb
    have us := (hl.norm s (by simp)).2
    rw [hb] at us
    rw [h b (q05 (hl.len s (by simp)) hb)] at nb
    cases hc : toB t with
    | none =>
     rw [hasS,List.any_cons,Bool.or_eq_false_iff] at nb
     have : inS t b = true := qq1.2 ⟨by rw [← e1]; exact le_of_lt us,by rw [hc]; trivial⟩
     rw [this] at nb
     exact absurd nb.1 (by simp)
    | some c =>
     refine ⟨c,rfl,fun hlt => ?_⟩
     rw [hasS,List.any_cons,Bool.or_eq_false_iff] at nb
     have : inS t b = true := qq1.2 ⟨by rw [← e1]; exact le_of_lt us,by rw [hc]; exact hlt⟩
     rw [this] at nb
     exact absurd nb.1 (by simp)
   cases hb : toB s with
   | none =>
    cases hc : toB t with
    | none => rfl
    | some c =>
     obtain ⟨x,hx,_⟩ := key hm hl (fun k hk => (h k hk).symm) e1.symm c hc
     rw [hb] at hx
     cases hx
   | some b =>
    obtain ⟨c,hc,h1⟩ := key hl hm h e1 b hb
    obtain ⟨x,hx,h2⟩ := key hm hl (fun k hk => (h k hk).symm) e1.symm c hc
    rw [hb] at hx
    cases hx
    rw [hc,le_anti h2 h1]
  have est : s = t := by rw [(hl.norm s (by simp)).1,(hm.norm t (by simp)).1,e1,e2]
  subst est
  rw [canonS_eq hl.tail hm.tail fun k hk => ?_]
  have hk' := h k hk
  rw [hasS,List.any_cons,hasS,List.any_cons] at hk'
  cases hi : inS s k with
  | false => rw [hi] at hk'; simpa [hasS] using hk'
  | true =>
   have no : ∀ {l : List Sp},CanonS (s :: l) → hasS l k = false := by
    intro l hl
    rw [Bool.eq_false_iff]
    intro q
    obtain ⟨b,h1,h2⟩ := hl.above q
    have := (qq1.1 hi).2
    rw [h1] at this
    exact lt_irrefl _ (lt_trans this h2)
   rw [no hl,no hm]
def maxB (a b : Option Ky) : Option Ky := match a,b with
 | none,_ => none
 | _,none => none
 | some x,some y => if Lt x y then some y else some x
theorem under_max {k : Ky} (a b : Option Ky) : qz2 k (maxB a b) ↔ qz2 k a ∨ qz2 k b := by
 cases a with
 | none => simp [maxB,qz2]
 | some x =>
  cases b with
  | none => simp [maxB,qz2]
  | some y =>
   simp only [maxB]
   split
   ·rename_i h
    exact ⟨.inr,fun q => q.elim (fun q => lt_trans q h) id⟩
   ·rename_i h
    exact ⟨.inl,fun q => q.elim id fun q => lt_of_lt_le q h⟩
def Upto (k : Ky) : Option Ky → Prop
 | none => True
 | some b => ¬ Lt b k
instance (k : Ky) : ∀ b,Decidable (Upto k b)
 | none => isTrue trivial
 | some b => by unfold Upto; infer_instance
def qf5 (out : List Sp) (s : Sp) : List Sp :=
 match out.getLast? with
 | none => out ++ [mkS s.1 (toB s)]
 | some t => if Upto s.1 (toB t) then out.set (out.length - 1) (mkS t.1 (maxB (toB t) (toB s))) else out ++ [mkS s.1 (toB s)]
theorem mkS_ok {a : Ky} {b : Option Ky} (ha : a.length = 24) (hb : ∀ x,b = some x → x.length = 24) : spOk (mkS a b) := by
 refine ⟨ha,?_⟩
 cases b with
 | none => simp [mkS,zK]
 | some x => exact hb x rfl
theorem qw3 {α : Type} {R : α → α → Prop} {l : List α} {x : α} : (l ++ [x]).Pairwise R ↔ l.Pairwise R ∧ ∀ y ∈ l,R y x := by
 rw [List.pairwise_append]
 simp
theorem cStep_spec {out : List Sp} {s : Sp} (hc : CanonS out) (hs : qz2 s.1 (toB s)) (ho : spOk s) (hb : ∀ t ∈ out,¬ Lt s.1 t.1) :
  CanonS (qf5 out s) ∧ (∀ k,hasS (qf5 out s) k = (hasS out k || inS s k)) ∧ (qf5 out s).length ≤ out.length + 1 ∧ ∀ t ∈ qf5 out s,¬ Lt s.1 t.1 := by
 have hsn : CanonS [mkS s.1 (toB s)] := ⟨fun t ht => by
   rw [List.mem_singleton] at ht
   subst ht
   rw [qo2]
   exact ⟨rfl,hs⟩,fun t ht => by
   rw [List.mem_singleton] at ht
   subst ht
   exact mkS_ok ho.1 fun x hx => q05 ho hx,List.pairwise_singleton _ _⟩
 have hin : ∀ k,inS (mkS s.1 (toB s)) k = inS s k := fun k => by unfold inS; rw [qo2]; rfl
 rcases List.eq_nil_or_concat out with rfl | ⟨pre,t,rfl⟩
 ·refine ⟨hsn,fun k => ?_,by simp [qf5],fun t ht => ?_⟩
  ·simp [qf5,hasS,hin]
  ·simp [qf5] at ht
   subst ht
   exact lt_irrefl _
 ·have hl : (pre.concat t).getLast? = some t := by simp
  have hset : ∀ x : Sp,(pre.concat t).set ((pre.concat t).length - 1) x = pre ++ [x] := by intro x; simp
  have hgap := hc.gap
  rw [List.concat_eq_append,qw3] at hgap
  have nt := hc.norm t (by simp)
  have lt := hc.len t (by simp)
  have bt := hb t (by simp)
  unfold qf5
  rw [hl]
  simp only
  split
  ·rename_i hu
   rw [hset]
   have hut : qz2 t.1 (maxB (toB t) (toB s)) := (under_max _ _).2 (.inl nt.2)
   refine ⟨⟨fun x hx => ?_,fun x hx => ?_,qw3.2 ⟨hgap.1,fun y hy => hgap.2 y hy⟩⟩,fun k => ?_,by simp,fun x hx => ?_⟩
   ·rcases List.mem_append.1 hx with hx | hx
    ·exact hc.norm x (by simp [hx])
    ·rw [List.mem_singleton] at hx
     subst hx
     rw [qo2]
     exact ⟨rfl,hut⟩
   ·rcases List.mem_append.1 hx with hx | hx
    ·exact hc.len x (by simp [hx])
    ·rw [List.mem_singleton] at hx
     subst hx
     refine mkS_ok lt.1 fun y hy => ?_
     have h1 := @q05 t lt
     have h2 := @q05 s ho
     cases ha : toB t with
     | none => rw [ha] at hy; simp [maxB] at hy
     | some p =>
      cases hq : toB s with
      | none => rw [ha,hq] at hy; simp [maxB] at hy
      | some q =>
       rw [ha,hq] at hy
       simp only [maxB] at hy
       split at hy
       ·cases hy; exact h2 hq
       ·cases hy; exact h1 ha
   ·rw [List.concat_eq_append,q32,q32]
    have : inS (mkS t.1 (maxB (toB t) (toB s))) k = (inS t k || inS s k) := by
     rw [Bool.eq_iff_iff,Bool.or_eq_true,qq1,qq1,qq1,qo2,under_max]
     constructor
     ·rintro ⟨h1,h2⟩
      by_cases h3 : qz2 k (toB t)
      ·exact .inl ⟨h1,h3⟩
      ·refine .inr ⟨?_,h2.resolve_left h3⟩
       cases ht : toB t with
       | none => rw [ht] at h3; exact absurd trivial h3
       | some b =>
        rw [ht] at h3 hu
        exact qb4 hu h3
     ·rintro (⟨h1,h2⟩ | ⟨h1,h2⟩)
      ·exact ⟨h1,.inl h2⟩
      ·exact ⟨qb4 bt h1,.inr h2⟩
    simp [hasS,this,Bool.or_assoc]
   ·rcases List.mem_append.1 hx with hx | hx
    ·exact hb x (by simp [hx])
    ·rw [List.mem_singleton] at hx
     subst hx
     exact bt
  ·rename_i hu
   refine ⟨⟨fun x hx => ?_,fun x hx => ?_,qw3.2 ⟨hc.gap,fun y hy => ?_⟩⟩,fun k => ?_,by simp,fun x hx => ?_⟩
   ·rcases List.mem_append.1 hx with hx | hx
    ·exact hc.norm x hx
    ·exact hsn.norm x hx
   ·rcases List.mem_append.1 hx with hx | hx
    ·exact hc.len x hx
    ·exact hsn.len x hx
   ·rw [List.concat_eq_append] at hy
    cases ht : toB t with
    | none => rw [ht] at hu; exact absurd trivial hu
    | some b =>
     rw [ht] at hu nt
     have hbs : Lt b s.1 := Decidable.not_not.1 hu
     rcases List.mem_append.1 hy with hy | hy
     ·obtain ⟨b',h1,h2⟩ := hgap.2 y hy
      exact ⟨b',h1,lt_trans h2 (lt_trans nt.2 hbs)⟩
     ·rw [List.mem_singleton] at hy
      subst hy
      exact ⟨b,ht,hbs⟩
   ·rw [q32]
    simp [hasS,hin]
   ·rcases List.mem_append.1 hx with hx | hx
    ·exact hb x hx
    ·rw [List.mem_singleton] at hx
     subst hx
     exact lt_irrefl _
def qk4 (l : List Sp) : List Sp := (qF (l.filter full)).foldl qf5 []
theorem clean_fold : ∀ {l : List Sp} {out : List Sp},CanonS out → (∀ s ∈ l,spOk s ∧ qz2 s.1 (toB s)) → l.Pairwise (fun a b => q75 a.1 b.1 = true) → (∀ s ∈ l,∀ t ∈ out,¬ Lt s.1 t.1) →
  CanonS (l.foldl qf5 out) ∧ (∀ k,hasS (l.foldl qf5 out) k = (hasS out k || hasS l k)) ∧ (l.foldl qf5 out).length ≤ out.length + l.length
 | [],out,hc,_,_,_ => ⟨hc,fun k => by simp [hasS],by simp⟩
 | s :: l,out,hc,hl,hp,hb => by
  obtain ⟨h1,h2,h3,h4⟩ := cStep_spec hc (hl s (by simp)).2 (hl s (by simp)).1 (hb s (by simp))
  have hp' := List.pairwise_cons.1 hp
  obtain ⟨q1,q2,q3⟩ := clean_fold (out := qf5 out s) h1 (fun t ht => hl t (by simp [ht])) hp'.2 (fun t ht x hx => by
   have := hp'.1 t ht
   have hle : ¬ Lt t.1 s.1 := by simpa [q75,Lt] using this
   exact qb4 (h4 x hx) hle)
  refine ⟨q1,fun k => ?_,?_⟩
  ·rw [List.foldl_cons,q2,h2]
   simp [hasS,Bool.or_assoc]
  ·rw [List.foldl_cons]
   simp only [List.length_cons]
   omega
theorem qI4 {l : List Sp} (h : ∀ s ∈ l,spOk s) : CanonS (qk4 l) ∧ (∀ k,hasS (qk4 l) k = hasS l k) ∧ (qk4 l).length ≤ l.length := by
 have hf : ∀ s ∈ l.filter full,spOk s := fun s hs => h s (List.mem_filter.1 hs).1
 have hp := q14 hf
 obtain ⟨h1,h2,h3⟩ := clean_fold (out := []) CanonS.nil (l := qF (l.filter full)) (fun s hs => by
   have hm := hp.mem_iff.1 hs
   exact ⟨hf s hm,of_decide_eq_true (List.mem_filter.1 hm).2⟩) (sortSpans_sorted _) (by simp)
 refine ⟨h1,fun k => ?_,?_⟩
 ·unfold qk4
  rw [h2,hasS_perm hp,hasS_filter]
  simp [hasS]
 ·have e := hp.length_eq
  have := List.length_filter_le full l
  unfold qk4
  simp only [List.length_nil] at h3
  omega
end Go.Val
set_option linter.unusedSectionVars false
set_option linter.unusedVariables false
set_option linter.unusedSimpArgs false
namespace Go.Val
open Go.Lib
def valK : List UInt8 → Nat
 | [] => 0
 | x :: l => x.toNat * 256 ^ l.length + valK l
theorem valK_lt : ∀ l : List UInt8,valK l < 256 ^ l.length
 | [] => by simp [valK]
 | x :: l => by
  have h := valK_lt l
  have hx : x.toNat < 256 := x.toNat_lt
  simp only [valK,List.length_cons,Nat.pow_succ]
  have : x.toNat * 256 ^ l.length ≤ 255 * 256 ^ l.length := Nat.mul_le_mul_right _ (by omega)
  omega
theorem q42 (a b : List UInt8) : valK (a ++ b) = valK a * 256 ^ b.length + valK b := by
 induction a with
 | nil => simp [valK]
 | cons x a ih =>
  simp only [List.cons_append,valK,List.length_append,ih,Nat.add_mul,Nat.pow_add,Nat.mul_assoc]
  omega
theorem valK_zero (n : Nat) : valK (List.replicate n 0) = 0 := by
 induction n with
 | zero => rfl
 | succ n ih => simp [List.replicate_succ,valK,ih]
theorem valK_ff (n : Nat) : valK (List.replicate n 255) + 1 = 256 ^ n := by
 induction n with
 | zero => rfl
 | succ n ih =>
  simp only [List.replicate_succ,valK,List.length_replicate,Nat.pow_succ]
  have : (255 : UInt8).toNat = 255 := rfl
  rw [this]
  omega
theorem lt_val : ∀ {a b : List UInt8},a.length = b.length → (Lt a b ↔ valK a < valK b)
 | [],[],_ => by simp [valK,Lt,compareBytes]
 | [],_ :: _,h => by simp at h
 | _ :: _,[],h => by simp at h
 | x :: a,y :: b,h => by
  have hl : a.length = b.length := by simpa using h
  have ih := lt_val hl
  have ha := valK_lt a
  have hb := valK_lt b
  rw [hl] at ha
  simp only [valK,hl]
  have hc : Lt (x :: a) (y :: b) ↔ x.toNat < y.toNat ∨ (x.toNat = y.toNat ∧ Lt a b) := by
   unfold Lt
   simp only [compareBytes]
   by_cases h1 : x < y
   ·have := UInt8.lt_iff_toNat_lt.1 h1
    simp [h1]
    omega
   ·by_cases h2 : y < x
    ·have := UInt8.lt_iff_toNat_lt.1 h2
     simp [h1,h2]
     omega
    ·have e1 : ¬ x.toNat < y.toNat := fun q => h1 (UInt8.lt_iff_toNat_lt.2 q)
     have e2 : ¬ y.toNat < x.toNat := fun q => h2 (UInt8.lt_iff_toNat_lt.2 q)
     have e3 : x.toNat = y.toNat := by omega
     simp [h1,h2,e3]
  rw [hc,ih]
  constructor
  ·rintro (h1 | ⟨h1,h2⟩)
   ·have : x.toNat * 256 ^ b.length + 256 ^ b.length ≤ y.toNat * 256 ^ b.length := by
     rw [← Nat.succ_mul]
     exact Nat.mul_le_mul_right _ h1
    omega
   ·rw [h1]; omega
  ·intro h1
   rcases Nat.lt_trichotomy x.toNat y.toNat with h2 | h2 | h2
   ·exact .inl h2
   ·rw [h2] at h1; exact .inr ⟨h2,by omega⟩
   ·have : y.toNat * 256 ^ b.length + 256 ^ b.length ≤ x.toNat * 256 ^ b.length := by
     rw [← Nat.succ_mul]
     exact Nat.mul_le_mul_right _ h2
    omega
theorem val_inj {a b : List UInt8} (hl : a.length = b.length) (h : valK a = valK b) : a = b := by
 rcases lt_or a b with h1 | h1 | h1
 ·have := (lt_val hl).1 h1; omega
 ·exact h1
 ·have := (lt_val hl.symm).1 h1; omega
def OneS (k : Ky) (s : Sp) : Prop := s.1 = k ∧ s.2.1.length = 24 ∧ (s.2.2 = false ∧ valK s.2.1 = valK k + 1 ∨ s.2.2 = true ∧ s.2.1 = zK ∧ valK k + 1 = 256 ^ 24)
theorem OneS.unique {k : Ky} {s t : Sp} (h : OneS k s) (h' : OneS k t) : s = t := by
 obtain ⟨h1,h2,h3⟩ := h
 obtain ⟨k1,k2,k3⟩ := h'
 obtain ⟨s1,s2,s3⟩ := s
 obtain ⟨t1,t2,t3⟩ := t
 simp only at h1 h2 h3 k1 k2 k3
 subst h1
 subst k1
 have l1 := valK_lt s2
 have l2 := valK_lt t2
 rw [h2] at l1
 rw [k2] at l2
 rcases h3 with ⟨rfl,h4⟩ | ⟨rfl,rfl,h4⟩ <;> rcases k3 with ⟨rfl,k4⟩ | ⟨rfl,rfl,k4⟩
 ·rw [val_inj (h2.trans k2.symm) (h4.trans k4.symm)]
 ·omega
 ·omega
 ·rfl
theorem OneS.ok {k : Ky} {s : Sp} (h : OneS k s) (hk : k.length = 24) : spOk s := ⟨by rw [h.1]; exact hk,h.2.1⟩
theorem OneS.inS {k : Ky} {s : Sp} (h : OneS k s) (hk : k.length = 24) {j : Ky} (hj : j.length = 24) : inS s j = decide (j = k) := by
 obtain ⟨h1,h2,h3⟩ := h
 have hjv := valK_lt j
 rw [hj] at hjv
 rw [Bool.eq_iff_iff,qq1,decide_eq_true_eq,h1,lt_val (hj.trans hk.symm)]
 unfold toB
 rcases h3 with ⟨e,h4⟩ | ⟨e,h5,h4⟩
 ·rw [e]
  simp only [Bool.false_eq_true,if_false,qz2]
  rw [lt_val (hj.trans h2.symm),h4]
  constructor
  ·intro h
   exact val_inj (hj.trans hk.symm) (by omega)
  ·rintro rfl
   omega
 ·rw [e]
  simp only [if_true,qz2,and_true]
  constructor
  ·intro h
   exact val_inj (hj.trans hk.symm) (by omega)
  ·rintro rfl
   omega
end Go.Val
set_option linter.unusedSectionVars false
set_option linter.unusedVariables false
set_option linter.unusedSimpArgs false
namespace Go.Val
open Go.Lib
def oLt : Option Ky → Option Ky → Prop
 | some a,b => qz2 a b
 | none,_ => False
instance : ∀ x y,Decidable (oLt x y)
 | some a,b => inferInstanceAs (Decidable (qz2 a b))
 | none,_ => isFalse id
theorem oLt_irrefl (x : Option Ky) : ¬ oLt x x := by
 cases x with
 | none => exact id
 | some a => exact lt_irrefl a
theorem oLt_trans {x y z : Option Ky} (h : oLt x y) (k : oLt y z) : oLt x z := by
 cases x with
 | none => exact h
 | some a =>
  cases y with
  | none => exact k.elim
  | some b => exact under_le (le_of_lt h) k
theorem oLt_or (x y : Option Ky) : oLt x y ∨ x = y ∨ oLt y x := by
 cases x with
 | none => cases y with
  | none => exact .inr (.inl rfl)
  | some b => exact .inr (.inr trivial)
 | some a => cases y with
  | none => exact .inl trivial
  | some b => rcases lt_or a b with h | h | h
              ·exact .inl h
              ·exact .inr (.inl (by rw [h]))
              ·exact .inr (.inr h)
abbrev AscO (D : List (Option Ky)) : Prop := D.Pairwise oLt
def insO : List (Option Ky) → Option Ky → List (Option Ky)
 | [],x => [x]
 | y :: D,x => if oLt y x then y :: insO D x else if y = x then y :: D else x :: y :: D
theorem mem_insO {D : List (Option Ky)} {x y : Option Ky} : y ∈ insO D x ↔ y = x ∨ y ∈ D := by
 induction D with
 | nil => simp [insO]
 | cons z D ih =>
  simp only [insO]
  split
  ·rw [List.mem_cons,ih,List.mem_cons]
   exact ⟨fun h => h.elim (fun h => .inr (.inl h)) (fun h => h.elim .inl fun h => .inr (.inr h)),fun h => h.elim (fun h => .inr (.inl h)) fun h => h.elim .inl fun h => .inr (.inr h)⟩
  ·split
   ·rename_i h1 h2
    subst h2
    simp
   ·simp [or_left_comm]
theorem insO_asc {D : List (Option Ky)} (h : AscO D) (x : Option Ky) : AscO (insO D x) := by
 induction D with
 | nil => exact List.pairwise_singleton _ _
 | cons z D ih =>
  have hc := List.pairwise_cons.1 h
  simp only [insO]
  split
  ·rename_i h1
   refine List.pairwise_cons.2 ⟨fun y hy => ?_,ih hc.2⟩
   rcases mem_insO.1 hy with e | e
   ·rw [e]; exact h1
   ·exact hc.1 y e
  ·split
   ·exact h
   ·rename_i h1 h2
    have hx : oLt x z := by
     rcases oLt_or z x with q | q | q
     ·exact absurd q h1
     ·exact absurd q h2
     ·exact q
    exact List.pairwise_cons.2 ⟨fun y hy => by
     rcases List.mem_cons.1 hy with e | e
     ·rw [e]; exact hx
     ·exact oLt_trans hx (hc.1 y e),h⟩
theorem insO_len (D : List (Option Ky)) (x : Option Ky) : (insO D x).length ≤ D.length + 1 := by
 induction D with
 | nil => simp [insO]
 | cons z D ih =>
  simp only [insO]
  split
  ·simp only [List.length_cons]; omega
  ·split <;> simp
theorem insO_find (D : List (Option Ky)) (x : Option Ky) : insO D x = (if D[D.findIdx fun y => !decide (oLt y x)]? = some x then D else D.take (D.findIdx fun y => !decide (oLt y x)) ++ [x] ++ D.drop (D.findIdx fun y => !decide (oLt y x))) := by
 induction D with
 | nil => rfl
 | cons z D ih =>
  simp only [insO]
  rw [List.findIdx_cons]
  by_cases h : oLt z x
  ·rw [if_pos h,ih]
   simp only [h,decide_true,Bool.not_true,cond_false,List.getElem?_cons_succ,List.take_succ_cons,List.drop_succ_cons]
   split <;> simp
  ·rw [if_neg h]
   simp only [h,decide_false,Bool.not_false,cond_true,List.getElem?_cons_zero,List.take_zero,List.drop_zero]
   by_cases e : z = x
   ·simp [e]
   ·simp [e]
def q71 (l : List Sp) : List (Option Ky) := l.foldl (fun D s => if full s = true then insO (insO D (some s.1)) (toB s) else D) []
theorem boundsO_spec (l : List Sp) : AscO (q71 l) ∧ (q71 l).length ≤ 2 * l.length ∧ ∀ x,x ∈ q71 l ↔ ∃ s ∈ l,full s = true ∧ (x = some s.1 ∨ x = toB s) := by
 have key : ∀ (l : List Sp) (D : List (Option Ky)),AscO D → AscO (l.foldl (fun D s => if full s = true then insO (insO D (some s.1)) (toB s) else D) D) ∧
   (l.foldl (fun D s => if full s = true then insO (insO D (some s.1)) (toB s) else D) D).length ≤ D.length + 2 * l.length ∧
   ∀ x,x ∈ l.foldl (fun D s => if full s = true then insO (insO D (some s.1)) (toB s) else D) D ↔ x ∈ D ∨ ∃ s ∈ l,full s = true ∧ (x = some s.1 ∨ x = toB s) := by
  intro l
  induction l with
  | nil => intro D h; exact ⟨h,by simp,fun x => by simp⟩
  | cons s l ih =>
   intro D h
   rw [List.foldl_cons]
   by_cases hf : full s = true
   ·rw [if_pos hf]
    obtain ⟨h1,h2,h3⟩ := ih _ (insO_asc (insO_asc h (some s.1)) (toB s))
    have q1 := insO_len (insO D (some s.1)) (toB s)
    have q2 := insO_len D (some s.1)
    refine ⟨h1,by simp only [List.length_cons]; omega,fun x => ?_⟩
    rw [h3,mem_insO,mem_insO]
    constructor
    ·rintro ((e | e | e) | ⟨t,ht,e⟩)
     ·exact .inr ⟨s,by simp,hf,.inr e⟩
     ·exact .inr ⟨s,by simp,hf,.inl e⟩
     ·exact .inl e
     ·exact .inr ⟨t,by simp [ht],e⟩
    ·rintro (e | ⟨t,ht,e1,e2⟩)
     ·exact .inl (.inr (.inr e))
     ·rcases List.mem_cons.1 ht with rfl | ht
      ·rcases e2 with e2 | e2
       ·exact .inl (.inr (.inl e2))
       ·exact .inl (.inl e2)
      ·exact .inr ⟨t,ht,e1,e2⟩
   ·rw [if_neg hf]
    obtain ⟨h1,h2,h3⟩ := ih D h
    refine ⟨h1,by simp only [List.length_cons]; omega,fun x => ?_⟩
    rw [h3]
    constructor
    ·rintro (e | ⟨t,ht,e⟩)
     ·exact .inl e
     ·exact .inr ⟨t,by simp [ht],e⟩
    ·rintro (e | ⟨t,ht,e1,e2⟩)
     ·exact .inl e
     ·rcases List.mem_cons.1 ht with rfl | ht
      ·exact absurd e1 hf
      ·exact .inr ⟨t,ht,e1,e2⟩
 obtain ⟨h1,h2,h3⟩ := key l [] .nil
 exact ⟨h1,by simp only [List.length_nil,Nat.zero_add] at h2; exact h2,fun x => by rw [q71,h3]; simp⟩
def wStep (a : Ky) (b : Option Ky) (q : Bool) (out : List Sp) : List Sp :=
 if q = true then (match out.getLast? with
  | some t => if toB t = some a then out.set (out.length - 1) (mkS t.1 b) else out ++ [mkS a b]
  | none => out ++ [mkS a b])
 else out
theorem wStep_spec {out : List Sp} {a : Ky} {b : Option Ky} {q : Bool} (hc : CanonS out) (hab : qz2 a b) (ha : a.length = 24) (hb : ∀ x,b = some x → x.length = 24) (hle : ∀ t ∈ out,∃ x,toB t = some x ∧ ¬ Lt a x) :
  CanonS (wStep a b q out) ∧ (∀ k,hasS (wStep a b q out) k = (hasS out k || (q && (!decide (Lt k a) && decide (qz2 k b))))) ∧ (wStep a b q out).length ≤ out.length + 1 ∧
   ∀ t ∈ wStep a b q out,toB t = b ∨ ∃ x,toB t = some x ∧ ¬ Lt a x := by
 unfold wStep
 cases q with
 | false => exact ⟨hc,fun k => by simp,by simp,fun t ht => .inr (hle t ht)⟩
 | true =>
  simp only [if_true,Bool.true_and]
  have hsn : CanonS [mkS a b] := ⟨fun t ht => by
    rw [List.mem_singleton] at ht
    subst ht
    rw [qo2]
    exact ⟨rfl,hab⟩,fun t ht => by
    rw [List.mem_singleton] at ht
    subst ht
    exact mkS_ok ha hb,List.pairwise_singleton _ _⟩
  have hin : ∀ k,inS (mkS a b) k = (!decide (Lt k a) && decide (qz2 k b)) := fun k => by unfold inS; rw [qo2]; rfl
  rcases List.eq_nil_or_concat out with rfl | ⟨pre,t,rfl⟩
  ·refine ⟨hsn,fun k => by simp [hasS,hin],by simp,fun t ht => ?_⟩
   simp at ht
   subst ht
   exact .inl (qo2 _ _)
  ·have hl : (pre.concat t).getLast? = some t := by simp
   have hset : ∀ x : Sp,(pre.concat t).set ((pre.concat t).length - 1) x = pre ++ [x] := by intro x; simp
   have hgap := hc.gap
   rw [List.concat_eq_append,qw3] at hgap
   have nt := hc.norm t (by simp)
   have lt := hc.len t (by simp)
   obtain ⟨x,hx,hxa⟩ := hle t (by simp)
   rw [hl]
   simp only
   split
   ·rename_i he
    rw [hset]
    have hta : Lt t.1 a := by have := nt.2; rw [he] at this; exact this
    have htb : qz2 t.1 b := under_le (le_of_lt hta) hab
    refine ⟨⟨fun y hy => ?_,fun y hy => ?_,qw3.2 ⟨hgap.1,fun y hy => hgap.2 y hy⟩⟩,fun k => ?_,by simp,fun y hy => ?_⟩
    ·rcases List.mem_append.1 hy with hy | hy
     ·exact hc.norm y (by simp [hy])
     ·rw [List.mem_singleton] at hy
      subst hy
      rw [qo2]
      exact ⟨rfl,htb⟩
    ·rcases List.mem_append.1 hy with hy | hy
     ·exact hc.len y (by simp [hy])
     ·rw [List.mem_singleton] at hy
      subst hy
      exact mkS_ok lt.1 hb
    ·rw [List.concat_eq_append,q32,q32]
     have : inS (mkS t.1 b) k = (inS t k || (!decide (Lt k a) && decide (qz2 k b))) := by
      rw [Bool.eq_iff_iff,Bool.or_eq_true,qq1,qq1,qo2,he]
      simp only [Bool.and_eq_true,Bool.not_eq_true',decide_eq_false_iff_not,decide_eq_true_eq]
      constructor
      ·rintro ⟨h1,h2⟩
       by_cases h3 : Lt k a
       ·exact .inl ⟨h1,h3⟩
       ·exact .inr ⟨h3,h2⟩
      ·rintro (⟨h1,h2⟩ | ⟨h1,h2⟩)
       ·exact ⟨h1,under_le (le_of_lt h2) hab⟩
       ·exact ⟨qb4 (le_of_lt hta) h1,h2⟩
     simp [hasS,this,Bool.or_assoc]
    ·rcases List.mem_append.1 hy with hy | hy
     ·exact .inr (hle y (by simp [hy]))
     ·rw [List.mem_singleton] at hy
      subst hy
      exact .inl (qo2 _ _)
   ·rename_i he
    have hlt : Lt x a := by
     rcases lt_or x a with h | h | h
     ·exact h
     ·exact absurd (by rw [hx,h]) he
     ·exact absurd h hxa
    refine ⟨⟨fun y hy => ?_,fun y hy => ?_,qw3.2 ⟨hc.gap,fun y hy => ?_⟩⟩,fun k => ?_,by simp,fun y hy => ?_⟩
    ·rcases List.mem_append.1 hy with hy | hy
     ·exact hc.norm y hy
     ·exact hsn.norm y hy
    ·rcases List.mem_append.1 hy with hy | hy
     ·exact hc.len y hy
     ·exact hsn.len y hy
    ·rw [List.concat_eq_append] at hy
     rcases List.mem_append.1 hy with hy | hy
     ·obtain ⟨b',h1,h2⟩ := hgap.2 y hy
      have := nt.2
      rw [hx] at this
      exact ⟨b',h1,lt_trans h2 (lt_trans this hlt)⟩
     ·rw [List.mem_singleton] at hy
      subst hy
      exact ⟨x,hx,hlt⟩
    ·rw [q32]
     simp [hasS,hin]
    ·rcases List.mem_append.1 hy with hy | hy
     ·exact .inr (hle y hy)
     ·rw [List.mem_singleton] at hy
      subst hy
      exact .inl (qo2 _ _)
def qP0 (l : List Sp) (D : List (Option Ky)) : Nat → List Sp
 | 0 => []
 | i + 1 => match D[i]?,D[i + 1]? with
  | some (some a),some b => wStep a b (hasS l a) (qP0 l D i)
  | _,_ => qP0 l D i
theorem qR4 {D : List (Option Ky)} (h : AscO D) {i j : Nat} (hi : i < D.length) (hj : j < D.length) (hij : i < j) : oLt D[i] D[j] := List.pairwise_iff_getElem.1 h i j hi hj hij
theorem asc_some {D : List (Option Ky)} (h : AscO D) {i : Nat} (hi : i + 1 < D.length) : ∃ a,D[i] = some a := by
 have := qR4 h (i := i) (j := i + 1) (by omega) hi (by omega)
 cases e : D[i] with
 | none => rw [e] at this; exact this.elim
 | some a => exact ⟨a,rfl⟩
theorem qz3 {l : List Sp} {D : List (Option Ky)} (h : AscO D) (hlen : ∀ x,some x ∈ D → x.length = 24) : ∀ i,i + 1 ≤ D.length →
  CanonS (qP0 l D i) ∧ (qP0 l D i).length ≤ i ∧ (∀ t ∈ qP0 l D i,∃ j,j ≤ i ∧ D[j]? = some (toB t)) ∧
   ∀ k,hasS (qP0 l D i) k = true ↔ ∃ j a b,j < i ∧ D[j]? = some (some a) ∧ D[j + 1]? = some b ∧ hasS l a = true ∧ ¬ Lt k a ∧ qz2 k b
 | 0,_ => ⟨CanonS.nil,by simp [qP0],by simp [qP0],fun k => by simp [qP0,hasS]⟩
 | i + 1,hi => by
  obtain ⟨h1,h2,h3,h4⟩ := qz3 h hlen (l := l) i (by omega)
  obtain ⟨a,ha⟩ := asc_some h (i := i) (by omega)
  have ga : D[i]? = some (some a) := by rw [List.getElem?_eq_getElem (by omega),ha]
  obtain ⟨b,hb⟩ : ∃ b,D[i + 1]? = some b := ⟨_,List.getElem?_eq_getElem (by omega)⟩
  have hab : qz2 a b := by
   have := qR4 h (i := i) (j := i + 1) (by omega) (by omega) (by omega)
   rw [ha] at this
   rw [List.getElem?_eq_getElem (by omega)] at hb
   cases hb
   exact this
  have ha24 := hlen a (List.mem_of_getElem? ga)
  have hb24 : ∀ x,b = some x → x.length = 24 := fun x hx => hlen x (by rw [← hx]; exact List.mem_of_getElem? hb)
  have hle : ∀ t ∈ qP0 l D i,∃ x,toB t = some x ∧ ¬ Lt a x := by
   intro t ht
   obtain ⟨j,hj,hjt⟩ := h3 t ht
   have hjl := (List.getElem?_eq_some_iff.1 hjt).1
   rcases Nat.lt_or_eq_of_le hj with hlt | rfl
   ·have := qR4 h (i := j) (j := i) (by omega) (by omega) hlt
    have e := (List.getElem?_eq_some_iff.1 hjt).2
    rw [e,ha] at this
    cases ht' : toB t with
    | none => rw [ht'] at this; exact this.elim
    | some x => rw [ht'] at this; exact ⟨x,rfl,le_of_lt this⟩
   ·exact ⟨a,(Option.some.inj (ga.symm.trans hjt)).symm,lt_irrefl a⟩
  have hdef : qP0 l D (i + 1) = wStep a b (hasS l a) (qP0 l D i) := by
   show (match D[i]?,D[i + 1]? with
    | some (some a),some b => wStep a b (hasS l a) (qP0 l D i)
    | _,_ => qP0 l D i) = _
   rw [ga,hb]
  obtain ⟨q1,q2,q3,q4⟩ := wStep_spec (q := hasS l a) h1 hab ha24 hb24 hle
  rw [hdef]
  refine ⟨q1,by omega,fun t ht => ?_,fun k => ?_⟩
  ·rcases q4 t ht with e | ⟨x,hx,_⟩
   ·exact ⟨i + 1,Nat.le_refl _,by rw [hb,e]⟩
   ·have : t ∈ qP0 l D i ∨ toB t = b := by
     unfold wStep at ht
     split at ht
     ·split at ht
      ·split at ht
       ·rcases List.mem_or_eq_of_mem_set ht with e | e
        ·exact .inl e
        ·exact .inr (by rw [e,qo2])
       ·rcases List.mem_append.1 ht with e | e
        ·exact .inl e
        ·rw [List.mem_singleton] at e
         exact .inr (by rw [e,qo2])
      ·rcases List.mem_append.1 ht with e | e
       ·exact .inl e
       ·rw [List.mem_singleton] at e
        exact .inr (by rw [e,qo2])
     ·exact .inl ht
    rcases this with e | e
    ·obtain ⟨j,hj,hjt⟩ := h3 t e
     exact ⟨j,by omega,hjt⟩
    ·exact ⟨i + 1,Nat.le_refl _,by rw [hb,e]⟩
  ·rw [q2,Bool.or_eq_true,h4]
   simp only [Bool.and_eq_true,Bool.not_eq_true',decide_eq_false_iff_not,decide_eq_true_eq]
   constructor
   ·rintro (⟨j,a',b',e1,e2,e3,e4,e5,e6⟩ | ⟨e4,e5,e6⟩)
    ·exact ⟨j,a',b',by omega,e2,e3,e4,e5,e6⟩
    ·exact ⟨i,a,b,by omega,ga,hb,e4,e5,e6⟩
   ·rintro ⟨j,a',b',e1,e2,e3,e4,e5,e6⟩
    rcases Nat.lt_or_eq_of_le (Nat.le_of_lt_succ e1) with hlt | rfl
    ·exact .inl ⟨j,a',b',hlt,e2,e3,e4,e5,e6⟩
    ·rw [ga] at e2
     rw [hb] at e3
     cases e2
     cases e3
     exact .inr ⟨e4,e5,e6⟩
theorem pieces_clean {l : List Sp} (hl : ∀ s ∈ l,spOk s) : qP0 l (q71 l) ((q71 l).length - 1) = qk4 l := by
 obtain ⟨hasc,hblen,hmem⟩ := boundsO_spec l
 have h24 : ∀ x,some x ∈ q71 l → x.length = 24 := by
  intro x hx
  obtain ⟨s,hs,_,e | e⟩ := (hmem _).1 hx
  ·cases e; exact (hl s hs).1
  ·exact q05 (hl s hs) e.symm
 obtain ⟨c1,c2,_⟩ := qI4 hl
 by_cases h0 : (q71 l).length = 0
 ·have hnil : q71 l = [] := List.length_eq_zero_iff.1 h0
  rw [h0]
  refine canonS_eq CanonS.nil c1 fun k hk => ?_
  rw [c2]
  show false = _
  symm
  rw [Bool.eq_false_iff]
  intro q
  obtain ⟨s,hs,hq⟩ := qW1.1 q
  have := (hmem (some s.1)).2 ⟨s,hs,inS_full hq,.inl rfl⟩
  rw [hnil] at this
  simp at this
 ·obtain ⟨p1,p2,p3,p4⟩ := qz3 (l := l) hasc h24 ((q71 l).length - 1) (by omega)
  refine canonS_eq p1 c1 fun k hk => ?_
  rw [c2,Bool.eq_iff_iff,p4]
  constructor
  ·rintro ⟨j,a,b,hj,ha,hb,hq,hka,hkb⟩
   obtain ⟨s,hs,hin⟩ := qW1.1 hq
   obtain ⟨i1,i2⟩ := qq1.1 hin
   refine qW1.2 ⟨s,hs,qq1.2 ⟨qb4 i1 hka,?_⟩⟩
   have hm := (hmem (toB s)).2 ⟨s,hs,inS_full hin,.inr rfl⟩
   obtain ⟨m,hm1,hm2⟩ := List.getElem_of_mem hm
   have hjl := (List.getElem?_eq_some_iff.1 ha).1
   have hjl' := (List.getElem?_eq_some_iff.1 hb).1
   have hja := (List.getElem?_eq_some_iff.1 ha).2
   have hjb := (List.getElem?_eq_some_iff.1 hb).2
   have hmj : j + 1 ≤ m := by
    refine Nat.lt_of_not_le fun hle => ?_
    have hcmp : oLt (some a) (toB s) := i2
    rcases Nat.lt_or_eq_of_le hle with hlt | rfl
    ·have := qR4 hasc hm1 hjl hlt
     rw [hm2,hja] at this
     exact oLt_irrefl _ (oLt_trans hcmp this)
    ·rw [hja] at hm2
     rw [← hm2] at hcmp
     exact oLt_irrefl _ hcmp
   rcases Nat.lt_or_eq_of_le hmj with hlt | rfl
   ·have := qR4 hasc hjl' hm1 hlt
    rw [hjb,hm2] at this
    exact oLt_trans (x := some k) hkb this
   ·rw [hjb] at hm2
    rw [← hm2]
    exact hkb
  ·intro hq
   obtain ⟨s,hs,hin⟩ := qW1.1 hq
   obtain ⟨i1,i2⟩ := qq1.1 hin
   have hf := inS_full hin
   have ma := (hmem (some s.1)).2 ⟨s,hs,hf,.inl rfl⟩
   have mb := (hmem (toB s)).2 ⟨s,hs,hf,.inr rfl⟩
   obtain ⟨x,hx1,hx2⟩ := List.getElem_of_mem ma
   obtain ⟨y,hy1,hy2⟩ := List.getElem_of_mem mb
   obtain ⟨n,hn⟩ : ∃ n,n = (q71 l).findIdx fun d => decide (oLt (some k) d) := ⟨_,rfl⟩
   have hny : n ≤ y := by
    rw [hn]
    refine Nat.le_of_not_lt fun hlt => ?_
    have := List.not_of_lt_findIdx hlt
    rw [hy2] at this
    have hc : oLt (some k) (toB s) := i2
    simp [hc] at this
   have hnl : n < (q71 l).length := by omega
   have hnp : oLt (some k) (q71 l)[n] := by
    have := List.findIdx_getElem (p := fun d => decide (oLt (some k) d)) (xs := q71 l) (w := by rw [← hn]; exact hnl)
    simp only [← hn] at this
    simpa using this
   have hxn : x < n := by
    refine Nat.lt_of_not_le fun hle => ?_
    have hup : qz2 k (some s.1) := by
     rcases Nat.lt_or_eq_of_le hle with hlt | rfl
     ·have := qR4 hasc hnl hx1 hlt
      rw [hx2] at this
      exact oLt_trans (x := some k) hnp this
     ·rw [hx2] at hnp
      exact hnp
    exact i1 hup
   obtain ⟨m,rfl⟩ : ∃ m,n = m + 1 := ⟨n - 1,by omega⟩
   obtain ⟨a,ha⟩ := asc_some hasc (i := m) (by omega)
   have hml : m < (q71 l).length := by omega
   have hka : ¬ Lt k a := by
    have := List.not_of_lt_findIdx (p := fun d => decide (oLt (some k) d)) (xs := q71 l) (i := m) (by rw [← hn]; omega)
    rw [ha] at this
    have h' : ¬ oLt (some k) (some a) := by simpa using this
    exact h'
   refine ⟨m,a,(q71 l)[m + 1],by omega,by rw [List.getElem?_eq_getElem hml,ha],List.getElem?_eq_getElem hnl,?_,hka,hnp⟩
   refine qW1.2 ⟨s,hs,qq1.2 ⟨?_,?_⟩⟩
   ·rcases Nat.lt_or_eq_of_le (Nat.le_of_lt_succ hxn) with hlt | rfl
    ·have := qR4 hasc hx1 hml hlt
     rw [hx2,ha] at this
     exact le_of_lt this
    ·rw [hx2] at ha
     cases ha
     exact lt_irrefl _
   ·have : oLt (some a) (toB s) := by
     have hlt : m < y := by omega
     have := qR4 hasc hml hy1 hlt
     rw [ha,hy2] at this
     exact this
    exact this
end Go.Val
