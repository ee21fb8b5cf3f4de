/- What the twins are: the span of one key. -/
import Derived.Test.YthipaajmgfnagaaGreatDoorTc
import Derived.Test.YthipaajmgfnagaaGreatDoorLd
set_option linter.unusedSectionVars false
set_option linter.unusedVariables false
set_option linter.unusedSimpArgs false
namespace Go.Val
open Go.Lib

theorem wrap_u8 (x : UInt8) : IntKind.wrap .u8 ((x.toNat : Int) + 1) = (((x.toNat + 1) % 256 : Nat) : Int) := by
  have e : ∀ n : Int, IntKind.wrap .u8 n = n % 256 := by intro n; simp [IntKind.wrap, IntKind.bits, IntKind.signed]
  rw [e]
  omega
theorem u8_of (n : Nat) : (UInt8.ofNat (n % 256)).toNat = n % 256 := by
  rw [UInt8.toNat_ofNat']
  omega
theorem wrap_pred {m : Nat} (h : m ≤ 24) : IntKind.wrap .i64 ((m : Int) - 1) = (m : Int) - 1 := wrap_i64 (by omega)

def oneB (v117 : Int × (List UInt8 × List UInt8 × Bool)) : Option ((Int × (List UInt8 × List UInt8 × Bool)) ⊕ (Unit ⊕ (List UInt8 × List UInt8 × Bool))) :=
      cond (decide (v117.1 ≥ 0)) (
        (ck (decide (0 ≤ v117.1 ∧ v117.1 < 24))).bind fun _ =>
        (gx v117.2.2.1 v117.1).bind fun x127 =>
        (ck (decide (v117.1.toNat < v117.2.2.1.length))).bind fun _ =>
        (ck (decide (0 ≤ (IntKind.wrap .u8 ((x127.toNat : Int) + 1)) ∧ (IntKind.wrap .u8 ((x127.toNat : Int) + 1)) < 256))).bind fun _ =>
        (gx (List.set v117.2.2.1 v117.1.toNat (UInt8.ofNat (IntKind.wrap .u8 ((x127.toNat : Int) + 1)).toNat)) v117.1).bind fun x136 =>
        cond (decide ((x136.toNat : Int) ≠ 0)) (
          some (.inr (.inr (v117.2.1, (List.set v117.2.2.1 v117.1.toNat (UInt8.ofNat (IntKind.wrap .u8 ((x127.toNat : Int) + 1)).toNat)), v117.2.2.2)))
        ) (
          some (.inl ((IntKind.wrap .i64 (v117.1 - 1)), (v117.2.1, (List.set v117.2.2.1 v117.1.toNat (UInt8.ofNat (IntKind.wrap .u8 ((x127.toNat : Int) + 1)).toNat)), v117.2.2.2)))
        )
      ) (
        some (.inr (.inl ()))
      )

theorem one_loop (k : Ky) (hk : k.length = 24) : ∀ m : Nat, m ≤ 24 → k = k.take m ++ List.replicate (24 - m) 255 →
    ∃ o, whileO oneB ((m : Int) - 1, (k, k.take m ++ List.replicate (24 - m) 0, false)) = some o ∧ (o = .inl () ∧ valK k + 1 = 256 ^ 24 ∨ ∃ s, o = .inr s ∧ OneS k s)
  | 0, _, h => by
    refine ⟨.inl (), ?_, .inl ⟨rfl, ?_⟩⟩
    · rw [whileO_eq]
      have : decide (((0 : Nat) : Int) - 1 ≥ 0) = false := by decide
      simp only [oneB, this, cond_false, Option.bind_some]
    · rw [h]
      simp only [List.take_zero, List.nil_append]
      exact valK_ff 24
  | n + 1, hm, h => by
    have hn : n < k.length := by omega
    obtain ⟨tq, hto⟩ : ∃ tq, tq = k.take (n + 1) ++ List.replicate (24 - (n + 1)) (0 : UInt8) := ⟨_, rfl⟩
    have htl : tq.length = 24 := by rw [hto]; simp; omega
    have hsplit : k.take (n + 1) = k.take n ++ [k[n]] := by rw [List.take_add_one]; simp [hn]
    have hset : ∀ y : UInt8, tq.set n y = k.take n ++ y :: List.replicate (23 - n) 0 := by
      intro y
      rw [hto, hsplit]
      have hl : (k.take n).length = n := by simp; omega
      rw [List.append_assoc, List.set_append_right _ _ (by omega), hl]
      simp only [Nat.sub_self, List.singleton_append, List.set_cons_zero]
      rw [show 24 - (n + 1) = 23 - n by omega]
    have hget : tq[n]? = some k[n] := by
      rw [hto, List.getElem?_append_left (by simp; omega), List.getElem?_take_of_lt (by omega), List.getElem?_eq_getElem hn]
    have hi : ((n + 1 : Nat) : Int) - 1 = (n : Int) := by omega
    rw [← hto, hi, whileO_eq]
    have hge : decide ((n : Int) ≥ 0) = true := by simp
    have hgx : gx tq (n : Int) = some k[n] := by simp only [gx, Int.toNat_natCast, hget]; simp
    obtain ⟨y, hy⟩ : ∃ y, y = UInt8.ofNat ((k[n].toNat + 1) % 256) := ⟨_, rfl⟩
    have hyt : y.toNat = (k[n].toNat + 1) % 256 := by rw [hy]; exact u8_of _
    have hgx2 : gx (tq.set n y) (n : Int) = some y := by
      simp only [gx, Int.toNat_natCast]
      rw [List.getElem?_set_self (by omega)]
      simp
    have hkn : k[n].toNat < 256 := k[n].toNat_lt
    have hb : oneB ((n : Int), (k, tq, false)) = cond (decide ((y.toNat : Int) ≠ 0)) (some (.inr (.inr (k, tq.set n y, false)))) (some (.inl ((n : Int) - 1, (k, tq.set n y, false)))) := by
      unfold oneB
      simp only [hge, cond_true]
      rw [bind_of (ck_of (by omega)), bind_of hgx, bind_of (ck_of (by simp only [Int.toNat_natCast]; omega))]
      simp only [wrap_u8, Int.toNat_natCast, ← hy]
      rw [bind_of (ck_of (by omega)), bind_of hgx2, wrap_pred (by omega)]
    rw [hb]
    by_cases h0 : y.toNat = 0
    · have hd : decide ((y.toNat : Int) ≠ 0) = false := by simp [h0]
      have hff : k[n] = 255 := by
        apply UInt8.toNat.inj
        show k[n].toNat = 255
        omega
      have hy0 : y = 0 := by
        apply UInt8.toNat.inj
        exact h0
      rw [hd, cond_false]
      have hto' : tq.set n y = k.take n ++ List.replicate (24 - n) 0 := by
        rw [hset, hy0, show 24 - n = (23 - n) + 1 by omega, List.replicate_succ]
      rw [hto']
      refine one_loop k hk n (by omega) ?_
      have : List.replicate (24 - n) (255 : UInt8) = k[n] :: List.replicate (24 - (n + 1)) 255 := by
        rw [hff, show 24 - n = (24 - (n + 1)) + 1 by omega, List.replicate_succ]
      rw [this]
      have h' := h
      rw [hsplit, List.append_assoc, List.singleton_append] at h'
      exact h'
    · have hd : decide ((y.toNat : Int) ≠ 0) = true := decide_eq_true (by omega)
      rw [hd, cond_true]
      refine ⟨_, rfl, .inr ⟨_, rfl, rfl, by simp only [List.length_set]; exact htl, .inl ⟨rfl, ?_⟩⟩⟩
      simp only
      rw [hset]
      have h' := h
      rw [hsplit, List.append_assoc, List.singleton_append] at h'
      have hv : valK k = valK (k.take n ++ k[n] :: List.replicate (24 - (n + 1)) 255) := congrArg valK h'
      rw [hv, valK_append, valK_append]
      simp only [valK, List.length_cons, List.length_replicate, valK_zero]
      have hf := valK_ff (24 - (n + 1))
      rw [show 24 - (n + 1) = 23 - n by omega] at hf ⊢
      have hyk : y.toNat = k[n].toNat + 1 := by omega
      rw [hyk, Nat.add_mul]
      omega

theorem keyOne_ex (k : Ky) (hk : k.length = 24) : ∃ s, key_One k = some s ∧ OneS k s := by
  obtain ⟨o, h1, h2⟩ := one_loop k hk 24 (Nat.le_refl _) (by
    have : k.take 24 = k := List.take_of_length_le (by omega)
    rw [this]
    simp)
  have e : (k.take 24 ++ List.replicate (24 - 24) (0 : UInt8)) = k := by
    rw [List.take_of_length_le (by omega)]
    simp
  rw [e] at h1
  unfold key_One
  rcases h2 with ⟨rfl, h3⟩ | ⟨s, rfl, h3⟩
  · exact ⟨_, (bind_of h1).trans rfl, rfl, by simp [zK], .inr ⟨rfl, rfl, h3⟩⟩
  · exact ⟨s, (bind_of h1).trans rfl, h3⟩

end Go.Val

