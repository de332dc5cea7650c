/- The turning of a number's bits: plain laws, no program in sight; no condition. -/
import Derived.Test.YtmeampigomhdpaaBits13
import Derived.Laws.BitsLemmas
namespace Go.Proofs.Ytmeampigomhdpaa
set_option linter.unusedVariables false
def rot (n k : Nat) : Nat := n % 2 ^ (64 - k) * 2 ^ k + n / 2 ^ (64 - k)
theorem two64 (k : Nat) (hk : k ≤ 64) : (2 : Nat) ^ (64 - k) * 2 ^ k = 18446744073709551616 := by
  rw [← Nat.pow_add, Nat.sub_add_cancel hk]
theorem hi_lt (n k : Nat) (hn : n < 18446744073709551616) (hk : k ≤ 64) : n / 2 ^ (64 - k) < 2 ^ k := by
  refine (Nat.div_lt_iff_lt_mul (Nat.two_pow_pos _)).2 ?_
  rw [Nat.mul_comm, two64 k hk]; exact hn
theorem rot_lt (n k : Nat) (hn : n < 18446744073709551616) (hk : k ≤ 64) : rot n k < 18446744073709551616 := by
  have h1 := hi_lt n k hn hk
  have h2 : n % 2 ^ (64 - k) < 2 ^ (64 - k) := Nat.mod_lt _ (Nat.two_pow_pos _)
  have h3 : (n % 2 ^ (64 - k) + 1) * 2 ^ k ≤ 2 ^ (64 - k) * 2 ^ k := Nat.mul_le_mul_right _ h2
  rw [two64 k hk, Nat.add_mul] at h3
  unfold rot
  omega
theorem rot_zero (n : Nat) (hn : n < 18446744073709551616) : rot n 0 = n := by
  have e : (2 : Nat) ^ (64 - 0) = 18446744073709551616 := by decide +kernel
  unfold rot
  rw [e, Nat.mod_eq_of_lt hn, Nat.div_eq_of_lt hn]; simp
theorem rot_back (n k : Nat) (hn : n < 18446744073709551616) (hk : k ≤ 64) : rot (rot n k) (64 - k) = n := by
  have h1 := hi_lt n k hn hk
  have e : 64 - (64 - k) = k := by omega
  have h2 : rot n k % 2 ^ k = n / 2 ^ (64 - k) := by
    unfold rot; rw [Nat.add_comm, Nat.add_mul_mod_self_right, Nat.mod_eq_of_lt h1]
  have h3 : rot n k / 2 ^ k = n % 2 ^ (64 - k) := by
    unfold rot; rw [Nat.add_comm, Nat.add_mul_div_right _ _ (Nat.two_pow_pos _), Nat.div_eq_of_lt h1, Nat.zero_add]
  have h4 : rot (rot n k) (64 - k) = rot n k % 2 ^ (64 - (64 - k)) * 2 ^ (64 - k) + rot n k / 2 ^ (64 - (64 - k)) := rfl
  rw [h4, e, h2, h3, Nat.mul_comm]
  exact Nat.div_add_mod _ _
theorem rot_bit (n k i : Nat) (hn : n < 18446744073709551616) (hk : k < 64) (hi : i < 64) : rot n k / 2 ^ ((i + k) % 64) % 2 = n / 2 ^ i % 2 := by
  have h1 := hi_lt n k hn (by omega)
  rcases Nat.lt_or_ge i (64 - k) with h | h
  · have e1 : (i + k) % 64 = k + i := by rw [Nat.mod_eq_of_lt (by omega)]; omega
    have h3 : rot n k / 2 ^ k = n % 2 ^ (64 - k) := by
      unfold rot; rw [Nat.add_comm, Nat.add_mul_div_right _ _ (Nat.two_pow_pos _), Nat.div_eq_of_lt h1, Nat.zero_add]
    rw [e1, Nat.pow_add, ← Nat.div_div_eq_div_mul, h3]
    have e2 : (2 : Nat) ^ (64 - k) = 2 ^ i * 2 ^ (64 - k - i) := by rw [← Nat.pow_add]; congr 1; omega
    have e3 : (2 : Nat) ^ (64 - k - i) = 2 * 2 ^ (64 - k - i - 1) := by rw [Nat.mul_comm, ← Nat.pow_succ]; congr 1; omega
    rw [e2, Nat.mod_mul_right_div_self, e3, Nat.mod_mul_right_mod]
  · have e1 : (i + k) % 64 = i - (64 - k) := by
      rw [Nat.mod_eq_sub_mod (by omega), Nat.mod_eq_of_lt (by omega)]; omega
    have e0 : i = (64 - k) + (i - (64 - k)) := by omega
    have hr : i - (64 - k) < k := by omega
    generalize i - (64 - k) = r at e0 e1 hr
    rw [e1, e0, Nat.pow_add, ← Nat.div_div_eq_div_mul]
    have e2 : (2 : Nat) ^ k = 2 ^ r * (2 * 2 ^ (k - r - 1)) := by
      rw [Nat.mul_comm 2, ← Nat.pow_succ, ← Nat.pow_add]; congr 1; omega
    have e3 : rot n k = n / 2 ^ (64 - k) + 2 ^ r * (2 * (2 ^ (k - r - 1) * (n % 2 ^ (64 - k)))) := by
      unfold rot
      rw [Nat.add_comm]
      congr 1
      rw [e2, Nat.mul_comm (n % 2 ^ (64 - k))]
      simp only [Nat.mul_assoc]
    rw [e3, Nat.add_mul_div_left _ _ (Nat.two_pow_pos _), Nat.add_mul_mod_self_left]
end Go.Proofs.Ytmeampigomhdpaa
