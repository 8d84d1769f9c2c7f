/- Sets of bytes as numbers: their four words. No condition. -/
import Derived.Test.YtafncdbkbmaifaaReg1
set_option linter.unusedVariables false
namespace Go.Proofs.Ytafncdbkbmaifaa.Ab
theorem word_lt (S i : Nat) : wordOf S i < 2 ^ 64 := Nat.mod_lt _ (by decide)
theorem word_bit {S i k : Nat} (hk : k < 64) : (wordOf S i).testBit k = S.testBit (64 * i + k) := by
  unfold wordOf
  rw [Nat.testBit_mod_two_pow, Nat.testBit_div_two_pow]
  simp [hk, Nat.add_comm]
theorem lt_of_bit {x : Nat} (h : ∀ k, 64 ≤ k → x.testBit k = false) : x < 2 ^ 64 := Nat.lt_pow_two_of_testBit x h
theorem word_hi {S i k : Nat} (hk : 64 ≤ k) : (wordOf S i).testBit k = false := by
  unfold wordOf
  rw [Nat.testBit_mod_two_pow]; simp; omega
theorem word_add {S c i : Nat} : wordOf (setAdd S c) i = if c / 64 = i then wordOf S i ||| 2 ^ (c % 64) else wordOf S i := by
  apply Nat.eq_of_testBit_eq
  intro k
  by_cases hk : k < 64
  · rw [word_bit hk]
    unfold setAdd
    rw [Nat.testBit_or, Nat.testBit_two_pow]
    split
    · rename_i h
      rw [Nat.testBit_or, word_bit hk, Nat.testBit_two_pow]
      congr 1
      apply decide_eq_decide.2
      omega
    · rename_i h
      rw [word_bit hk]
      have : ¬ c = 64 * i + k := by omega
      simp [this]
  · rw [word_hi (by omega)]
    split
    · rw [Nat.testBit_or, word_hi (by omega), Nat.testBit_two_pow]
      have : ¬ c % 64 = k := by omega
      simp [this]
    · rw [word_hi (by omega)]
theorem not_bit {S c : Nat} (hc : c < 256) : (setNot S).testBit c = !S.testBit c := by
  unfold setNot setAll
  rw [Nat.testBit_xor, Nat.testBit_two_pow_sub_one]
  simp [hc]
theorem word_not {S i : Nat} (hi : i < 4) : wordOf (setNot S) i = wordOf S i ^^^ (2 ^ 64 - 1) := by
  apply Nat.eq_of_testBit_eq
  intro k
  by_cases hk : k < 64
  · rw [word_bit hk, Nat.testBit_xor, word_bit hk, Nat.testBit_two_pow_sub_one, not_bit (by omega)]
    simp [hk]
  · rw [word_hi (by omega), Nat.testBit_xor, word_hi (by omega), Nat.testBit_two_pow_sub_one]
    simp [hk]
theorem xor_all {x : Nat} (h : x < 2 ^ 64) : x ^^^ (2 ^ 64 - 1) = 2 ^ 64 - 1 - x := by
  apply Nat.eq_of_testBit_eq
  intro k
  rw [Nat.testBit_xor, Nat.testBit_two_pow_sub_one, show 2 ^ 64 - 1 - x = 2 ^ 64 - (x + 1) by omega, Nat.testBit_two_pow_sub_succ h]
  by_cases hk : k < 64
  · simp [hk]
  · have : x.testBit k = false := Nat.testBit_lt_two_pow (Nat.lt_of_lt_of_le h (Nat.pow_le_pow_right (by omega) (by omega)))
    simp [hk, this]
theorem add_bit {S c d : Nat} : (setAdd S c).testBit d = (S.testBit d || decide (c = d)) := by
  unfold setAdd
  rw [Nat.testBit_or, Nat.testBit_two_pow]
theorem range_bit : ∀ (n a S d : Nat), (addRange S n a).testBit d = (S.testBit d || decide (a ≤ d ∧ d < a + n))
  | 0, a, S, d => by
    have : ¬ (a ≤ d ∧ d < a + 0) := by omega
    rw [addRange, decide_eq_false this, Bool.or_false]
  | n + 1, a, S, d => by
    rw [addRange, range_bit n (a + 1) (setAdd S a) d, add_bit, Bool.or_assoc]
    congr 1
    by_cases h1 : a = d
    · have h2 : a ≤ d ∧ d < a + (n + 1) := by omega
      simp [h1, h2]
    · by_cases h2 : a + 1 ≤ d ∧ d < a + 1 + n
      · have h3 : a ≤ d ∧ d < a + (n + 1) := by omega
        simp [h2, h3]
      · have h3 : ¬ (a ≤ d ∧ d < a + (n + 1)) := by omega
        simp [h1, h2, h3]
/-- One bit of a number, by hand. -/
theorem bit_of (x k : Nat) : (x / 2 ^ k) % 2 = (x.testBit k).toNat := by
  rw [Nat.testBit_eq_decide_div_mod_eq]
  rcases Nat.mod_two_eq_zero_or_one (x / 2 ^ k) with h | h <;> simp [h]
theorem has_bit (S c : Nat) : (wordOf S (c / 64) / 2 ^ (c % 64)) % 2 = (S.testBit c).toNat := by
  rw [bit_of, word_bit (by omega)]
  congr 2
  omega
theorem set_lt {S : Nat} (c : Nat) (hc : c < 256) (h : S < 2 ^ 256) : setAdd S c < 2 ^ 256 := Nat.or_lt_two_pow h (Nat.pow_lt_pow_right (by omega) hc)
theorem not_lt (S : Nat) (h : S < 2 ^ 256) : setNot S < 2 ^ 256 := Nat.xor_lt_two_pow h (by unfold setAll; omega)
end Go.Proofs.Ytafncdbkbmaifaa.Ab
