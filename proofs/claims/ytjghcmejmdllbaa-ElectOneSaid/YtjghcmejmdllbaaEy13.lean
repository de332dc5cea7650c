/- Contracts of layer 5's masks (mask), as other layers use them; no condition. Regions that draw their order: a stronger condition from some operation on; two resources as one that can be parted again; elements collected; no condition. -/
import Derived.Laws.Bits64
import Derived.Laws.Bits64b
import Derived.Laws.BitsAllLaws
import Derived.Test.YtjghcmejmdllbaaEy3
namespace Go.Proofs.Ytjghcmejmdllbaa
open Go.ChangeShapes Go.WideShapes Go.ChangeAt Go.RowKit
set_option linter.unusedVariables false
set_option linter.unusedSimpArgs false
section
/-- How many of its first f bits are set. -/
def pop : Nat → Nat → Nat
  | 0, _ => 0
  | f + 1, n => n % 2 + pop f (n / 2)
theorem pop_le : ∀ f n, pop f n ≤ f
  | 0, _ => Nat.le_refl _
  | f + 1, n => by have := pop_le f (n / 2); have : n % 2 < 2 := Nat.mod_lt _ (by omega); simp only [pop]; omega
theorem pop_add : ∀ (a b n : Nat), pop (a + b) n = pop a n + pop b (n / 2 ^ a)
  | 0, b, n => by simp [pop]
  | a + 1, b, n => by
    rw [show a + 1 + b = (a + b) + 1 by omega]
    simp only [pop]
    rw [pop_add a b (n / 2), Nat.div_div_eq_div_mul, show 2 * 2 ^ a = 2 ^ (a + 1) by rw [Nat.pow_succ, Nat.mul_comm]]
    omega
theorem and_mod2 (x y : Nat) : (x &&& y) % 2 = if x % 2 = 1 ∧ y % 2 = 1 then 1 else 0 := by
  have h := Nat.testBit_and x y 0
  rw [Nat.testBit_zero, Nat.testBit_zero, Nat.testBit_zero] at h
  have h1 : (x &&& y) % 2 = 0 ∨ (x &&& y) % 2 = 1 := by omega
  have h2 : x % 2 = 0 ∨ x % 2 = 1 := by omega
  have h3 : y % 2 = 0 ∨ y % 2 = 1 := by omega
  rcases h1 with e1 | e1 <;> rcases h2 with e2 | e2 <;> rcases h3 with e3 | e3 <;> rw [e1, e2, e3] at h <;> rw [e1, e2, e3] <;> revert h <;> decide
theorem or_mod2 (x y : Nat) : (x ||| y) % 2 = if x % 2 = 1 ∨ y % 2 = 1 then 1 else 0 := by
  have h := Nat.testBit_or x y 0
  rw [Nat.testBit_zero, Nat.testBit_zero, Nat.testBit_zero] at h
  have h1 : (x ||| y) % 2 = 0 ∨ (x ||| y) % 2 = 1 := by omega
  have h2 : x % 2 = 0 ∨ x % 2 = 1 := by omega
  have h3 : y % 2 = 0 ∨ y % 2 = 1 := by omega
  rcases h1 with e1 | e1 <;> rcases h2 with e2 | e2 <;> rcases h3 with e3 | e3 <;> rw [e1, e2, e3] at h <;> rw [e1, e2, e3] <;> revert h <;> decide
theorem pop_split : ∀ (f x y : Nat), pop f (x &&& y) + pop f (x ||| y) = pop f x + pop f y
  | 0, _, _ => rfl
  | f + 1, x, y => by
    have ih := pop_split f (x / 2) (y / 2)
    simp only [pop]
    rw [Nat.and_div_two, Nat.or_div_two, and_mod2, or_mod2]
    have h1 : x % 2 < 2 := Nat.mod_lt _ (by omega)
    have h2 : y % 2 < 2 := Nat.mod_lt _ (by omega)
    have e1 : x % 2 = 0 ∨ x % 2 = 1 := by omega
    have e2 : y % 2 = 0 ∨ y % 2 = 1 := by omega
    rcases e1 with e1 | e1 <;> rcases e2 with e2 | e2 <;> simp [e1, e2] <;> omega
theorem pop_mono : ∀ (f x y : Nat), x &&& y = x → pop f x ≤ pop f y
  | 0, _, _, _ => Nat.le_refl _
  | f + 1, x, y, h => by
    have h2 : x / 2 &&& y / 2 = x / 2 := by rw [← Nat.and_div_two, h]
    have ih := pop_mono f (x / 2) (y / 2) h2
    have h0 := and_mod2 x y
    rw [h] at h0
    simp only [pop]
    have hy : y % 2 < 2 := Nat.mod_lt _ (by omega)
    split at h0 <;> omega
theorem and_digit (k x y : Nat) : x &&& y = (x % 2 ^ k &&& y % 2 ^ k) + 2 ^ k * (x / 2 ^ k &&& y / 2 ^ k) := by
  rw [← Nat.and_mod_two_pow, ← Nat.and_div_two_pow]
  have := Nat.mod_add_div (x &&& y) (2 ^ k)
  omega
/-- A mask of i digits of base 2 ^ k, each d. -/
def rep (k d : Nat) : Nat → Nat
  | 0 => 0
  | i + 1 => d + 2 ^ k * rep k d i
theorem rep_mod (k d i : Nat) (h : d < 2 ^ k) : rep k d (i + 1) % 2 ^ k = d := by
  simp only [rep]; rw [Nat.add_mul_mod_self_left, Nat.mod_eq_of_lt h]
theorem rep_div (k d i : Nat) (h : d < 2 ^ k) : rep k d (i + 1) / 2 ^ k = rep k d i := by
  simp only [rep]; rw [Nat.add_mul_div_left _ _ (Nat.two_pow_pos k), Nat.div_eq_of_lt h, Nat.zero_add]
/-- A step of the count: base B = 2 ^ (2 j); the halves of each digit are added. -/
def half (j : Nat) (i n : Nat) : Nat := (n &&& rep (2 * j) (2 ^ j - 1) i) + (n / 2 ^ j &&& rep (2 * j) (2 ^ j - 1) i)
theorem half_succ (j i n : Nat) (hj : 0 < j) : half j (i + 1) n = (n % 2 ^ j + n / 2 ^ j % 2 ^ j) + 2 ^ (2 * j) * half j i (n / 2 ^ (2 * j)) := by
  have hd : 2 ^ j - 1 < 2 ^ (2 * j) := by
    have h1 : 2 ^ j ≤ 2 ^ (2 * j) := Nat.pow_le_pow_right (by omega) (by omega)
    have := Nat.two_pow_pos j
    omega
  have hm : ∀ x, x % 2 ^ (2 * j) &&& (2 ^ j - 1) = x % 2 ^ j := fun x => by
    rw [Nat.and_two_pow_sub_one_eq_mod, Nat.mod_mod_of_dvd _ (Nat.pow_dvd_pow 2 (by omega))]
  unfold half
  rw [and_digit (2 * j) n, and_digit (2 * j) (n / 2 ^ j), rep_mod _ _ _ hd, rep_div _ _ _ hd, hm, hm]
  have e : n / 2 ^ j / 2 ^ (2 * j) = n / 2 ^ (2 * j) / 2 ^ j := by rw [Nat.div_div_eq_div_mul, Nat.div_div_eq_div_mul, Nat.mul_comm]
  rw [e, Nat.mul_add]
  omega
theorem half_zero (j n : Nat) : half j 0 n = 0 := by simp [half, rep]
theorem pop_two (n : Nat) : n % 2 + n / 2 % 2 = pop 2 n := by simp [pop]
theorem h1_mod (i n : Nat) : half 1 (i + 1) n % 4 = pop 2 n := by
  rw [half_succ 1 i n (by omega)]
  have : n % 2 ^ 1 + n / 2 ^ 1 % 2 ^ 1 = pop 2 n := pop_two n
  rw [this]
  have := pop_le 2 n
  show (pop 2 n + 4 * _) % 4 = _
  omega
theorem h1_div (i n : Nat) : half 1 (i + 1) n / 4 = half 1 i (n / 4) := by
  rw [half_succ 1 i n (by omega)]
  have : n % 2 ^ 1 + n / 2 ^ 1 % 2 ^ 1 = pop 2 n := pop_two n
  rw [this]
  have := pop_le 2 n
  show (pop 2 n + 4 * half 1 i (n / 4)) / 4 = _
  omega
theorem h2_succ (i n : Nat) : half 2 (i + 1) (half 1 (2 * i + 2) n) = pop 4 n + 16 * half 2 i (half 1 (2 * i) (n / 16)) := by
  rw [half_succ 2 i _ (by omega)]
  show half 1 (2 * i + 1 + 1) n % 4 + half 1 (2 * i + 1 + 1) n / 4 % 4 + 16 * half 2 i (half 1 (2 * i + 1 + 1) n / 16) = _
  have e16 : half 1 (2 * i + 1 + 1) n / 16 = half 1 (2 * i) (n / 16) := by
    rw [show (16 : Nat) = 4 * 4 by rfl, ← Nat.div_div_eq_div_mul, h1_div, h1_div, Nat.div_div_eq_div_mul]
  rw [h1_mod, h1_div, h1_mod, e16]
  have : pop 4 n = pop 2 n + pop 2 (n / 4) := pop_add 2 2 n
  rw [this]
theorem h2_mod (i n : Nat) : half 2 (i + 1) (half 1 (2 * i + 2) n) % 16 = pop 4 n := by
  rw [h2_succ]; have := pop_le 4 n; omega
theorem h2_div (i n : Nat) : half 2 (i + 1) (half 1 (2 * i + 2) n) / 16 = half 2 i (half 1 (2 * i) (n / 16)) := by
  rw [h2_succ]; have := pop_le 4 n; omega
theorem h3_succ (i n : Nat) : half 4 (i + 1) (half 2 (2 * i + 2) (half 1 (4 * i + 4) n)) = pop 8 n + 256 * half 4 i (half 2 (2 * i) (half 1 (4 * i) (n / 256))) := by
  rw [half_succ 4 i _ (by omega), show 4 * i + 4 = 2 * (2 * i + 1) + 2 by omega]
  show half 2 (2 * i + 1 + 1) (half 1 (2 * (2 * i + 1) + 2) n) % 16 + half 2 (2 * i + 1 + 1) (half 1 (2 * (2 * i + 1) + 2) n) / 16 % 16 + 256 * half 4 i (half 2 (2 * i + 1 + 1) (half 1 (2 * (2 * i + 1) + 2) n) / 256) = _
  have e16 : half 2 (2 * i + 1 + 1) (half 1 (2 * (2 * i + 1) + 2) n) / 256 = half 2 (2 * i) (half 1 (4 * i) (n / 256)) := by
    rw [show (256 : Nat) = 16 * 16 by rfl, ← Nat.div_div_eq_div_mul, h2_div]
    show half 2 (2 * i + 1) (half 1 (2 * (2 * i) + 2) (n / 16)) / 16 = _
    rw [h2_div, Nat.div_div_eq_div_mul, show 2 * (2 * i) = 4 * i by omega]
  rw [h2_mod, h2_div]
  show pop 4 n + half 2 (2 * i + 1) (half 1 (2 * (2 * i) + 2) (n / 16)) % 16 + _ = _
  rw [h2_mod, e16]
  have : pop 8 n = pop 4 n + pop 4 (n / 16) := pop_add 4 4 n
  rw [this]
/-- The number behind three steps: its bytes are the counts of the number's bytes. -/
def byt (n : Nat) : Nat := half 4 8 (half 2 16 (half 1 32 n))
theorem byt_eq (n : Nat) : byt n = pop 8 n + 256 * (pop 8 (n / 256) + 256 * (pop 8 (n / 256 / 256) + 256 * (pop 8 (n / 256 / 256 / 256) + 256 * (pop 8 (n / 256 / 256 / 256 / 256) + 256 * (pop 8 (n / 256 / 256 / 256 / 256 / 256) + 256 * (pop 8 (n / 256 / 256 / 256 / 256 / 256 / 256) + 256 * (pop 8 (n / 256 / 256 / 256 / 256 / 256 / 256 / 256)))))))) := by
  unfold byt
  rw [show half 4 8 (half 2 16 (half 1 32 n)) = half 4 (7 + 1) (half 2 (2 * 7 + 2) (half 1 (4 * 7 + 4) n)) from rfl, h3_succ]
  rw [show ∀ m, half 4 7 (half 2 (2 * 7) (half 1 (4 * 7) m)) = half 4 (6 + 1) (half 2 (2 * 6 + 2) (half 1 (4 * 6 + 4) m)) from fun _ => rfl, h3_succ]
  rw [show ∀ m, half 4 6 (half 2 (2 * 6) (half 1 (4 * 6) m)) = half 4 (5 + 1) (half 2 (2 * 5 + 2) (half 1 (4 * 5 + 4) m)) from fun _ => rfl, h3_succ]
  rw [show ∀ m, half 4 5 (half 2 (2 * 5) (half 1 (4 * 5) m)) = half 4 (4 + 1) (half 2 (2 * 4 + 2) (half 1 (4 * 4 + 4) m)) from fun _ => rfl, h3_succ]
  rw [show ∀ m, half 4 4 (half 2 (2 * 4) (half 1 (4 * 4) m)) = half 4 (3 + 1) (half 2 (2 * 3 + 2) (half 1 (4 * 3 + 4) m)) from fun _ => rfl, h3_succ]
  rw [show ∀ m, half 4 3 (half 2 (2 * 3) (half 1 (4 * 3) m)) = half 4 (2 + 1) (half 2 (2 * 2 + 2) (half 1 (4 * 2 + 4) m)) from fun _ => rfl, h3_succ]
  rw [show ∀ m, half 4 2 (half 2 (2 * 2) (half 1 (4 * 2) m)) = half 4 (1 + 1) (half 2 (2 * 1 + 2) (half 1 (4 * 1 + 4) m)) from fun _ => rfl, h3_succ]
  rw [show ∀ m, half 4 1 (half 2 (2 * 1) (half 1 (4 * 1) m)) = half 4 (0 + 1) (half 2 (2 * 0 + 2) (half 1 (4 * 0 + 4) m)) from fun _ => rfl, h3_succ]
  rw [show ∀ m, half 4 0 (half 2 (2 * 0) (half 1 (4 * 0) m)) = 0 from fun _ => half_zero _ _, Nat.mul_zero, Nat.add_zero]
theorem pop64 (n : Nat) : pop 64 n = pop 8 n + (pop 8 (n / 256) + (pop 8 (n / 256 / 256) + (pop 8 (n / 256 / 256 / 256) + (pop 8 (n / 256 / 256 / 256 / 256) + (pop 8 (n / 256 / 256 / 256 / 256 / 256) + (pop 8 (n / 256 / 256 / 256 / 256 / 256 / 256) + pop 8 (n / 256 / 256 / 256 / 256 / 256 / 256 / 256))))))) := by
  rw [show pop 64 n = pop (8 + 56) n from rfl, pop_add 8 56]
  rw [show ∀ m, pop 56 m = pop (8 + 48) m from fun _ => rfl, pop_add 8 48]
  rw [show ∀ m, pop 48 m = pop (8 + 40) m from fun _ => rfl, pop_add 8 40]
  rw [show ∀ m, pop 40 m = pop (8 + 32) m from fun _ => rfl, pop_add 8 32]
  rw [show ∀ m, pop 32 m = pop (8 + 24) m from fun _ => rfl, pop_add 8 24]
  rw [show ∀ m, pop 24 m = pop (8 + 16) m from fun _ => rfl, pop_add 8 16]
  rw [show ∀ m, pop 16 m = pop (8 + 8) m from fun _ => rfl, pop_add 8 8]
theorem dv256 (c q : Nat) (h : c < 256) : (c + 256 * q) / 256 = q := by omega
theorem fold_r (r q q' q'' b b' r' : Nat) (h1 : q + q' = r) (h2 : b + 256 * q' = q) (h3 : b' + 256 * q'' = q') (h4 : q' + q'' = r') : r = (b + b') + 256 * r' := by omega
theorem fold_s (s r r2 r1 r3 c c2 s1 : Nat) (h1 : r + r2 = s) (h2 : r = c + 256 * r1) (h3 : r2 = c2 + 256 * r3) (h4 : r1 + r3 = s1) : s = (c + c2) + 256 * s1 := by omega
theorem fold_b (q b q' B : Nat) (h : b + 256 * q' = q) (hb : b ≤ 8) (hq : q' ≤ B) : q ≤ 8 + 256 * B := by omega
theorem le16 {a b : Nat} (h : a ≤ 8) (h' : b ≤ 8) : a + b < 256 := by omega
theorem le32 {a b c d : Nat} (h : a ≤ 8) (h' : b ≤ 8) (h2 : c ≤ 8) (h3 : d ≤ 8) : a + b + (c + d) < 256 := by omega
theorem last_sum (b0 b1 b2 b3 b4 b5 b6 b7 s0 s1 s4 s5 : Nat) (h0 : b0 ≤ 8) (h1 : b1 ≤ 8) (h2 : b2 ≤ 8) (h3 : b3 ≤ 8) (h4 : b4 ≤ 8) (h5 : b5 ≤ 8) (h6 : b6 ≤ 8) (h7 : b7 ≤ 8) (k0 : s0 = (b0 + b1 + (b2 + b3)) + 256 * s1) (k4 : s4 = (b4 + b5 + (b6 + b7)) + 256 * s5) :
    (s0 + s4) % 256 = b0 + (b1 + (b2 + (b3 + (b4 + (b5 + (b6 + b7)))))) := by
  have : s0 + s4 = (b0 + (b1 + (b2 + (b3 + (b4 + (b5 + (b6 + b7))))))) + 256 * (s1 + s5) := by omega
  rw [this, Nat.add_mul_mod_self_left]
  exact Nat.mod_eq_of_lt (by omega)
theorem two_le {r q q' A B : Nat} (h : q + q' = r) (a : q ≤ A) (b : q' ≤ B) : r ≤ A + B := by omega
attribute [local irreducible] pop byt half
theorem fold8 (b0 b1 b2 b3 b4 b5 b6 b7 x y z : Nat) (h0 : b0 ≤ 8) (h1 : b1 ≤ 8) (h2 : b2 ≤ 8) (h3 : b3 ≤ 8) (h4 : b4 ≤ 8) (h5 : b5 ≤ 8) (h6 : b6 ≤ 8) (h7 : b7 ≤ 8)
    (hx : x = b0 + 256 * (b1 + 256 * (b2 + 256 * (b3 + 256 * (b4 + 256 * (b5 + 256 * (b6 + 256 * b7))))))) (hy : y = x + x / 256) (hz : z = y + y / 65536) :
    (z + z / 4294967296) % 256 = b0 + (b1 + (b2 + (b3 + (b4 + (b5 + (b6 + b7)))))) ∧ x < 1000000000000000000 ∧ y < 2000000000000000000 ∧ z < 4000000000000000000 := by
  obtain ⟨q7, hq7⟩ : ∃ q, b7 + 256 * 0 = q := ⟨_, rfl⟩
  obtain ⟨q6, hq6⟩ : ∃ q, b6 + 256 * q7 = q := ⟨_, rfl⟩
  obtain ⟨q5, hq5⟩ : ∃ q, b5 + 256 * q6 = q := ⟨_, rfl⟩
  obtain ⟨q4, hq4⟩ : ∃ q, b4 + 256 * q5 = q := ⟨_, rfl⟩
  obtain ⟨q3, hq3⟩ : ∃ q, b3 + 256 * q4 = q := ⟨_, rfl⟩
  obtain ⟨q2, hq2⟩ : ∃ q, b2 + 256 * q3 = q := ⟨_, rfl⟩
  obtain ⟨q1, hq1⟩ : ∃ q, b1 + 256 * q2 = q := ⟨_, rfl⟩
  obtain ⟨q0, hq0⟩ : ∃ q, b0 + 256 * q1 = q := ⟨_, rfl⟩
  have hxq : x = q0 := by rw [hx, ← hq0, ← hq1, ← hq2, ← hq3, ← hq4, ← hq5, ← hq6, ← hq7, Nat.mul_zero, Nat.add_zero]
  have u7 : q7 ≤ 8 := fold_b _ b7 0 0 hq7 h7 (Nat.le_refl 0)
  have u6 : q6 ≤ 2056 := fold_b _ b6 q7 8 hq6 h6 u7
  have u5 : q5 ≤ 526344 := fold_b _ b5 q6 2056 hq5 h5 u6
  have u4 : q4 ≤ 134744072 := fold_b _ b4 q5 526344 hq4 h4 u5
  have u3 : q3 ≤ 34494482440 := fold_b _ b3 q4 134744072 hq3 h3 u4
  have u2 : q2 ≤ 8830587504648 := fold_b _ b2 q3 34494482440 hq2 h2 u3
  have u1 : q1 ≤ 2260630401189896 := fold_b _ b1 q2 8830587504648 hq1 h1 u2
  have u0 : q0 ≤ 578721382704613384 := fold_b _ b0 q1 2260630401189896 hq0 h0 u1
  have e1 : x / 256 = q1 := by rw [hxq, ← hq0]; exact dv256 _ _ (by omega)
  rw [e1, hxq] at hy
  obtain ⟨r0, hr0⟩ : ∃ r, q0 + q1 = r := ⟨_, rfl⟩
  obtain ⟨r1, hr1⟩ : ∃ r, q1 + q2 = r := ⟨_, rfl⟩
  obtain ⟨r2, hr2⟩ : ∃ r, q2 + q3 = r := ⟨_, rfl⟩
  obtain ⟨r3, hr3⟩ : ∃ r, q3 + q4 = r := ⟨_, rfl⟩
  obtain ⟨r4, hr4⟩ : ∃ r, q4 + q5 = r := ⟨_, rfl⟩
  obtain ⟨r5, hr5⟩ : ∃ r, q5 + q6 = r := ⟨_, rfl⟩
  obtain ⟨r6, hr6⟩ : ∃ r, q6 + q7 = r := ⟨_, rfl⟩
  obtain ⟨r7, hr7⟩ : ∃ r, q7 + 0 = r := ⟨_, rfl⟩
  rw [hr0] at hy
  have f0 := fold_r r0 q0 q1 q2 b0 b1 r1 hr0 hq0 hq1 hr1
  have f1 := fold_r r1 q1 q2 q3 b1 b2 r2 hr1 hq1 hq2 hr2
  have f2 := fold_r r2 q2 q3 q4 b2 b3 r3 hr2 hq2 hq3 hr3
  have f3 := fold_r r3 q3 q4 q5 b3 b4 r4 hr3 hq3 hq4 hr4
  have f4 := fold_r r4 q4 q5 q6 b4 b5 r5 hr4 hq4 hq5 hr5
  have f5 := fold_r r5 q5 q6 q7 b5 b6 r6 hr5 hq5 hq6 hr6
  have f6 := fold_r r6 q6 q7 0 b6 b7 r7 hr6 hq6 hq7 hr7
  have f7 : r7 = (b7 + 0) + 256 * 0 := by rw [← hr7, ← hq7]
  have g0 : r0 / 256 = r1 := by rw [f0]; exact dv256 _ _ (le16 h0 h1)
  have g1 : r1 / 256 = r2 := by rw [f1]; exact dv256 _ _ (le16 h1 h2)
  have e2 : y / 65536 = r2 := by rw [hy, show (65536 : Nat) = 256 * 256 by rfl, ← Nat.div_div_eq_div_mul, g0, g1]
  rw [e2, hy] at hz
  obtain ⟨s0, hs0⟩ : ∃ s, r0 + r2 = s := ⟨_, rfl⟩
  obtain ⟨s1, hs1⟩ : ∃ s, r1 + r3 = s := ⟨_, rfl⟩
  obtain ⟨s2, hs2⟩ : ∃ s, r2 + r4 = s := ⟨_, rfl⟩
  obtain ⟨s3, hs3⟩ : ∃ s, r3 + r5 = s := ⟨_, rfl⟩
  obtain ⟨s4, hs4⟩ : ∃ s, r4 + r6 = s := ⟨_, rfl⟩
  obtain ⟨s5, hs5⟩ : ∃ s, r5 + r7 = s := ⟨_, rfl⟩
  rw [hs0] at hz
  have k0 := fold_s s0 r0 r2 r1 r3 (b0 + b1) (b2 + b3) s1 hs0 f0 f2 hs1
  have k1 := fold_s s1 r1 r3 r2 r4 (b1 + b2) (b3 + b4) s2 hs1 f1 f3 hs2
  have k2 := fold_s s2 r2 r4 r3 r5 (b2 + b3) (b4 + b5) s3 hs2 f2 f4 hs3
  have k3 := fold_s s3 r3 r5 r4 r6 (b3 + b4) (b5 + b6) s4 hs3 f3 f5 hs4
  have k4 := fold_s s4 r4 r6 r5 r7 (b4 + b5) (b6 + b7) s5 hs4 f4 f6 hs5
  have l0 : s0 / 256 = s1 := by rw [k0]; exact dv256 _ _ (le32 h0 h1 h2 h3)
  have l1 : s1 / 256 = s2 := by rw [k1]; exact dv256 _ _ (le32 h1 h2 h3 h4)
  have l2 : s2 / 256 = s3 := by rw [k2]; exact dv256 _ _ (le32 h2 h3 h4 h5)
  have l3 : s3 / 256 = s4 := by rw [k3]; exact dv256 _ _ (le32 h3 h4 h5 h6)
  have e3 : z / 4294967296 = s4 := by rw [hz, show (4294967296 : Nat) = 256 * 256 * 256 * 256 by rfl, ← Nat.div_div_eq_div_mul, ← Nat.div_div_eq_div_mul, ← Nat.div_div_eq_div_mul, l0, l1, l2, l3]
  rw [e3, hz]
  have v0 := two_le hr0 u0 u1
  have v2 := two_le hr2 u2 u3
  have v3 := two_le hs0 v0 v2
  refine ⟨last_sum b0 b1 b2 b3 b4 b5 b6 b7 s0 s1 s4 s5 h0 h1 h2 h3 h4 h5 h6 h7 k0 k4, ?_, ?_, ?_⟩
  · rw [hxq]; exact Nat.lt_of_le_of_lt u0 (by decide)
  · rw [hy]; exact Nat.lt_of_le_of_lt v0 (by decide)
  · exact Nat.lt_of_le_of_lt v3 (by decide)
theorem count_bits (n y z : Nat) (hy : y = byt n + byt n / 256) (hz : z = y + y / 65536) : (z + z / 4294967296) % 256 = pop 64 n ∧ byt n < 1000000000000000000 ∧ y < 2000000000000000000 ∧ z < 4000000000000000000 := by
  have := fold8 (pop 8 n) (pop 8 (n / 256)) (pop 8 (n / 256 / 256)) (pop 8 (n / 256 / 256 / 256)) (pop 8 (n / 256 / 256 / 256 / 256)) (pop 8 (n / 256 / 256 / 256 / 256 / 256)) (pop 8 (n / 256 / 256 / 256 / 256 / 256 / 256)) (pop 8 (n / 256 / 256 / 256 / 256 / 256 / 256 / 256)) (byt n) y z (pop_le 8 _) (pop_le 8 _) (pop_le 8 _) (pop_le 8 _) (pop_le 8 _) (pop_le 8 _) (pop_le 8 _) (pop_le 8 _) (byt_eq n) hy hz
  rw [pop64 n]; exact this
end
section
theorem and_nat (a b : Nat) (z : Int) (hz : z = a) (ha : a < 18446744073709551616) (hb : b < 18446744073709551616) : bits .and .u64 z (b : Int) = ((a &&& b : Nat) : Int) := by
  subst hz; exact bits_and_u64_nat a b ha hb
theorem mask_step (n k A : Nat) (x : Nat) (hn : n < 18446744073709551616) (hA : A < 9223372036854775808) (hx : (n &&& A) + (n / k &&& A) = x) :
    ∃ p q : Nat, bits .and .u64 (n : Int) (A : Int) = (p : Int) ∧ bits .and .u64 ((n : Int) / (k : Int)) (A : Int) = (q : Int) ∧ IntKind.u64.wrap ((p : Int) + (q : Int)) = (x : Int) ∧ x < 18446744073709551616 := by
  have h1 : n &&& A ≤ A := Nat.and_le_right
  have h2 : n / k &&& A ≤ A := Nat.and_le_right
  have h3 : n / k < 18446744073709551616 := Nat.lt_of_le_of_lt (Nat.div_le_self _ _) hn
  refine ⟨n &&& A, n / k &&& A, bits_and_u64_nat n A hn (by omega), and_nat (n / k) A _ (by rw [Int.natCast_ediv]) h3 (by omega), ?_, by omega⟩
  rw [wrap_u64_in _ (by omega) (by omega)]
  omega
set_option maxRecDepth 100000 in
theorem ones_ok (n : Nat) (hn : n < 18446744073709551616) (w : World) : Calls Try.prog 144 #[.int .u64 (n : Int)] w (Ret fun v w' => v = .int .i64 ((pop 64 n : Nat) : Int) ∧ Below w.heap.size w w') := by
  have H := St.init w
  obtain ⟨x1, hx1⟩ : ∃ x, half 1 32 n = x := ⟨_, rfl⟩
  obtain ⟨x2, hx2⟩ : ∃ x, half 2 16 x1 = x := ⟨_, rfl⟩
  obtain ⟨x3, hx3⟩ : ∃ x, half 4 8 x2 = x := ⟨_, rfl⟩
  obtain ⟨p1, q1, a1, b1, c1, d1⟩ := mask_step n 2 6148914691236517205 x1 hn (by omega) (by rw [← hx1]; unfold half; rw [show rep (2 * 1) (2 ^ 1 - 1) 32 = 6148914691236517205 by decide +kernel])
  obtain ⟨p2, q2, a2, b2, c2, d2⟩ := mask_step x1 4 3689348814741910323 x2 d1 (by omega) (by rw [← hx2]; unfold half; rw [show rep (2 * 2) (2 ^ 2 - 1) 16 = 3689348814741910323 by decide +kernel])
  obtain ⟨p3, q3, a3, b3, c3, d3⟩ := mask_step x2 16 1085102592571150095 x3 d2 (by omega) (by rw [← hx3]; unfold half; rw [show rep (2 * 4) (2 ^ 4 - 1) 8 = 1085102592571150095 by decide +kernel])
  simp only [Int.cast_ofNat_Int] at a1 b1 a2 b2 a3 b3
  have hbyt : byt n = x3 := by rw [byt, hx1, hx2, hx3]
  obtain ⟨y, hy⟩ : ∃ y, x3 + x3 / 256 = y := ⟨_, rfl⟩
  obtain ⟨z, hz⟩ : ∃ z, y + y / 65536 = z := ⟨_, rfl⟩
  obtain ⟨e1, e2, e3, e4⟩ := count_bits n y z (by rw [hbyt, hy]) hz.symm
  rw [hbyt] at e2
  have k1 : IntKind.u64.wrap ((x3 : Int) + (x3 : Int) / 256) = (y : Int) := by rw [wrap_u64_in _ (by omega) (by omega)]; omega
  have k2 : IntKind.u64.wrap ((y : Int) + (y : Int) / 65536) = (z : Int) := by rw [wrap_u64_in _ (by omega) (by omega)]; omega
  obtain ⟨t, ht⟩ : ∃ t, z + z / 4294967296 = t := ⟨_, rfl⟩
  have k3 : IntKind.u64.wrap ((z : Int) + (z : Int) / 4294967296) = (t : Int) := by rw [wrap_u64_in _ (by omega) (by omega)]; omega
  rw [ht] at e1
  have HE := Lib.hid e1
  clear hx1 hx2 hx3 hbyt hy hz e1 e2 e3 e4 d1 d2 d3 ht hn
  go_enter Try.func144, Try.ntmps144
  go_wp2
  go_ret
  refine ⟨_, rfl, ?_, H.below⟩
  rw [← HE.out]
  rfl
attribute [local irreducible] pop
theorem ones_as (n p : Nat) (hn : n < 18446744073709551616) (hp : pop 64 n = p) (w : World) : Calls Try.prog 144 #[.int .u64 (n : Int)] w (Ret fun v w' => v = .int .i64 (p : Int) ∧ Below w.heap.size w w') := by
  subst hp; exact ones_ok n hn w
set_option maxRecDepth 100000 in
theorem count_ok (a b p : Nat) (ha : a < 18446744073709551616) (hb : b < 18446744073709551616) (hp : pop 64 a + pop 64 b = p) (w : World) : Calls Try.prog 135 #[.agg #[.int .u64 (a : Int), .int .u64 (b : Int)]] w (Ret fun v w' => v = .int .i64 (p : Int) ∧ Below w.heap.size w w') := by
  subst hp
  have H := St.init w
  have HA := Lib.hid ha
  have HB := Lib.hid hb
  have h1 := pop_le 64 a
  have h2 := pop_le 64 b
  obtain ⟨x, hx⟩ : ∃ x, pop 64 a = x := ⟨_, rfl⟩
  obtain ⟨y, hy⟩ : ∃ y, pop 64 b = y := ⟨_, rfl⟩
  rw [hx] at h1
  rw [hy] at h2
  rw [hx, hy]
  have HX := Lib.hid hx
  have HY := Lib.hid hy
  have hw : IntKind.i64.wrap ((x : Int) + (y : Int)) = ((x + y : Nat) : Int) := by
    simp [IntKind.wrap, IntKind.bits, IntKind.signed]
    omega
  clear ha hb hx hy
  go_enter Try.func135, Try.ntmps135
  go_wp2_with (first | (with_reducible refine wpl rfl (dQ 1 rfl ?_); with_reducible refine (Stp.box 1 rfl rfl rfl H ?_); clear H; intro g1 w1 H; simp only [pS]; simp only [pE, nC, pS] at H))
  refine rg_begin 8 rfl (S := fun W => St _ _ W _) (by kernel_rfl) H.drew ?_
  replace H := H.drew
  have HS := H
  refine rg_take (i := 0) rfl kR kR kR (Yld.o rfl) HS ?_; simp only [pS]
  first | (refine rg_take (i := 1) rfl kR kR kR (Yld.ldo rfl rfl agg22 rfl (by assumption) (by assumption)) HS ?_; simp only [pS]) | (refine rg_take (i := 1) rfl kR kR kR (Yld.ldc rfl rfl agg22 rfl mR cE) HS ?_; simp only [pS])
  refine rg_take (i := 3) rfl kR kR kR (Yld.o rfl) HS ?_; simp only [pS]
  first | (refine rg_take (i := 4) rfl kR kR kR (Yld.ldo rfl rfl agg22 rfl (by assumption) (by assumption)) HS ?_; simp only [pS]) | (refine rg_take (i := 4) rfl kR kR kR (Yld.ldc rfl rfl agg22 rfl mR cE) HS ?_; simp only [pS])
  refine rg_one (i := 2) (by kernel_rfl) rfl rfl (fun K hK => ?_)
  refine wp_callf rfl ent144 (ones_as a x HA.out HX.out _) rfl (fun v w1 hr => ?_)
  obtain ⟨rfl, hb1⟩ := hr
  replace H := H.grow hb1
  clear hb1
  clear HS
  have HS := H
  refine hK.out _ _ HS ?_
  clear hK K
  simp only [pS]
  refine rg_one (i := 5) (by kernel_rfl) rfl rfl (fun K hK => ?_)
  refine wp_callf rfl ent144 (ones_as b y HB.out HY.out _) rfl (fun v w1 hr => ?_)
  obtain ⟨rfl, hb1⟩ := hr
  replace H := H.grow hb1
  clear hb1
  clear HS
  have HS := H
  refine hK.out _ _ HS ?_
  clear hK K
  simp only [pS]
  refine rg_take (i := 6) rfl kR kR kR (Yld.o rfl) HS ?_; simp only [pS]
  refine rg_take (i := 7) rfl kR kR kR (Yld.assign rfl rfl) HS ?_; simp only [pS, pE]
  refine rg_done (by kernel_rfl) ?_
  go_wp2
  go_ret
  exact ⟨_, rfl, by first | rfl | exact congrArg (Value.int IntKind.i64) hw, H.below⟩
set_option maxRecDepth 100000 in
theorem and_ok (a b c d : Nat) (ha : a < 18446744073709551616) (hb : b < 18446744073709551616) (hc : c < 18446744073709551616) (hd : d < 18446744073709551616) (w : World) :
    Calls Try.prog 136 #[.agg #[.int .u64 (a : Int), .int .u64 (b : Int)], .agg #[.int .u64 (c : Int), .int .u64 (d : Int)]] w (Ret fun v w' => v = .agg #[.int .u64 ((a &&& c : Nat) : Int), .int .u64 ((b &&& d : Nat) : Int)] ∧ Below w.heap.size w w') := by
  have H := St.init w
  have e1 := bits_and_u64_nat a c ha hc
  have e2 := bits_and_u64_nat b d hb hd
  clear ha hb hc hd
  go_enter Try.func136, Try.ntmps136
  go_wp2_with (first | (with_reducible refine wpl rfl (dQ 2 rfl ?_); with_reducible refine (Stp.box 2 rfl rfl rfl H ?_); clear H; intro g2 w1 H; simp only [pS]; simp only [pE, nC, pS] at H) | (with_reducible refine wpl rfl (dQ 3 rfl ?_); with_reducible refine (Stp.box 3 rfl rfl rfl H ?_); clear H; intro g3 w1 H; simp only [pS]; simp only [pE, nC, pS] at H) | (with_reducible refine wpl rfl (dQ 4 rfl ?_); with_reducible refine (Stp.alloc 4 rfl rfl zero127 H ?_); clear H; intro g4 w1 H; simp only [pS]; simp only [nC] at H) | (with_reducible refine wpl rfl (ldQ (ty := 22) rfl ?_); first | (with_reducible refine (Stp.ldo rfl agg22 rfl H (by assumption) (by assumption) ?_); simp only [pS]) | (with_reducible refine (Stp.ldc rfl agg22 rfl H mR cE ?_); simp only [pS])) | (with_reducible refine wpl rfl (stQ (ty := 127) rfl ?_); first | (with_reducible refine (Stp.str rfl size127 rfl rfl (by first | rfl | (simp [Value.oneCell']; done) | assumption) H uP sZ sZ ?_); clear H; intro w1 H; simp only [pS])))
  refine post_row rfl agg127 size127 rfl H mE rfl rfl ⟨_, rfl, rfl, H.below⟩
/-- The lowest bits. -/
def low (n : Int) : Nat := 2 ^ (min n.toNat 64) - 1
theorem low_wrap (k : Nat) (hk : k ≤ 64) : IntKind.u64.wrap (IntKind.u64.wrap ((2 : Int) ^ k) - 1) = ((2 ^ k - 1 : Nat) : Int) := by
  rcases Nat.lt_or_ge k 64 with h | h
  · have h1 : (2 : Nat) ^ k ≤ 2 ^ 63 := Nat.pow_le_pow_right (by omega) (by omega)
    have h2 := Nat.two_pow_pos k
    have e : ((2 : Int) ^ k) = ((2 ^ k : Nat) : Int) := by push_cast; rfl
    rw [e, wrap_u64_in ((2 ^ k : Nat) : Int) (by omega) (by omega), wrap_u64_in _ (by omega) (by omega)]
    omega
  · obtain rfl : k = 64 := by omega
    decide +kernel
theorem low_lt (n : Int) : low n < 18446744073709551616 := by
  unfold low
  have h1 : (2 : Nat) ^ (min n.toNat 64) ≤ 2 ^ 64 := Nat.pow_le_pow_right (by omega) (by omega)
  have h2 := Nat.two_pow_pos (min n.toNat 64)
  omega
set_option maxRecDepth 100000 in
theorem low_ok (n : Int) (w : World) : Calls Try.prog 145 #[.int .i64 n] w (Ret fun v w' => v = .int .u64 ((low n : Nat) : Int) ∧ Below w.heap.size w w') := by
  have H := St.init w
  rcases Int.lt_or_le 64 n with h | h
  · have e : low n = 2 ^ 64 - 1 := by unfold low; rw [show min n.toNat 64 = 64 by omega]
    have hm : (if 64 < n then (64 : Int) else n) = 64 := if_pos h
    have HE := Lib.hid e
    clear e
    go_enter Try.func145, Try.ntmps145
    go_wp2
    go_ret
    refine ⟨_, rfl, ?_, H.below⟩
    rw [HE.out]
    exact congrArg (Value.int IntKind.u64) (low_wrap 64 (by omega))
  · rcases Int.lt_or_le 0 n with h0 | h0
    · obtain ⟨k, rfl⟩ : ∃ k : Nat, n = k := ⟨n.toNat, by omega⟩
      have e : low (k : Int) = 2 ^ k - 1 := by unfold low; rw [show min (k : Int).toNat 64 = k by omega]
      have hn : ¬ (64 : Int) < (k : Int) := by omega
      have hm : (if (64 : Int) < (k : Int) then (64 : Int) else (k : Int)) = (k : Int) := if_neg hn
      have HE := Lib.hid e
      clear e
      go_enter Try.func145, Try.ntmps145
      go_wp2
      go_ret
      refine ⟨_, rfl, ?_, H.below⟩
      rw [HE.out]
      exact congrArg (Value.int IntKind.u64) (low_wrap k (by omega))
    · have e : low n = 2 ^ 0 - 1 := by unfold low; rw [show min n.toNat 64 = 0 by omega]
      have hn : ¬ (64 : Int) < n := by omega
      have hm : (if (64 : Int) < n then (64 : Int) else n) = n := if_neg hn
      have hp : ¬ (0 : Int) < n := by omega
      have HE := Lib.hid e
      clear e
      go_enter Try.func145, Try.ntmps145
      go_wp2
      go_ret
      refine ⟨_, rfl, ?_, H.below⟩
      rw [HE.out]
      exact congrArg (Value.int IntKind.u64) (low_wrap 0 (by omega))
set_option maxRecDepth 100000 in
theorem first_ok (n : Int) (hn : n < 9223372036854775808) (w : World) : Calls Try.prog 137 #[.int .i64 n] w (Ret fun v w' => v = .agg #[.int .u64 ((low n : Nat) : Int), .int .u64 ((low (n - 64) : Nat) : Int)] ∧ Below w.heap.size w w') := by
  have H := St.init w
  rcases Int.lt_or_le 64 n with h | h
  · have hm : (if n < 64 then (64 : Int) else n) = n := if_neg (by omega)
    have hn2 : ¬ n < 64 := by omega
    go_enter Try.func137, Try.ntmps137
    go_wp2_with (first | (go_at_call 145; refine (low_ok _ _).mono ?_; rintro e w1 ⟨v, rfl, hr⟩; obtain ⟨rfl, hb1⟩ := hr; replace H := H.grow hb1; clear hb1) | (with_reducible refine wpl rfl (dQ 2 rfl ?_); with_reducible refine (Stp.alloc 2 rfl rfl zero127 H ?_); clear H; intro g2 w1 H; simp only [pS]; simp only [nC] at H) | (with_reducible refine wpl rfl (stQ (ty := 127) rfl ?_); first | (with_reducible refine (Stp.str rfl size127 rfl rfl (by first | rfl | (simp [Value.oneCell']; done) | assumption) H uP sZ sZ ?_); clear H; intro w1 H; simp only [pS])))
    refine post_row rfl agg127 size127 rfl H mE rfl rfl ⟨_, rfl, ?_, H.below⟩
    rfl
  · have hm : (if n < 64 then (64 : Int) else n) = 64 := by split <;> omega
    have e : low (n - 64) = low 0 := by unfold low; rw [show (n - 64).toNat = (0 : Int).toNat by omega]
    have HE := Lib.hid e
    clear e
    go_enter Try.func137, Try.ntmps137
    go_wp2_with (first | (go_at_call 145; refine (low_ok _ _).mono ?_; rintro e w1 ⟨v, rfl, hr⟩; obtain ⟨rfl, hb1⟩ := hr; replace H := H.grow hb1; clear hb1) | (with_reducible refine wpl rfl (dQ 2 rfl ?_); with_reducible refine (Stp.alloc 2 rfl rfl zero127 H ?_); clear H; intro g2 w1 H; simp only [pS]; simp only [nC] at H) | (with_reducible refine wpl rfl (stQ (ty := 127) rfl ?_); first | (with_reducible refine (Stp.str rfl size127 rfl rfl (by first | rfl | (simp [Value.oneCell']; done) | assumption) H uP sZ sZ ?_); clear H; intro w1 H; simp only [pS])))
    refine post_row rfl agg127 size127 rfl H mE rfl rfl ⟨_, rfl, ?_, H.below⟩
    rw [HE.out]
end
section
theorem equalIn_M (a b c d : Int) (w : World) : (Op.equalIn 10000 127 (.agg #[.int .u64 a, .int .u64 b]) (.agg #[.int .u64 c, .int .u64 d])).run Try.prog w = .ok (a == c && b == d) w := by
  have h := run_equalIn_ints (P := Try.prog) w 127 22 .u64 2 9998 Try.underlying127 Try.underlying22 agg22 size22 #[.int .u64 a, .int .u64 b] #[.int .u64 c, .int .u64 d] (fun i => if i = 0 then a else b) (fun i => if i = 0 then c else d) (fun i hi => by
    have : i = 0 ∨ i = 1 := by omega
    rcases this with rfl | rfl <;> exact ⟨rfl, rfl⟩)
  rw [h]
  simp [List.range_succ]
theorem eqg_M : Try.prog.eqGuardType Try.prog.depth 127 = false := by kernel_rfl
attribute [local go_sem] equalIn_M eqg_M
attribute [local irreducible] pop
theorem bit_no (r : Int) (h : r < 0 ∨ 128 ≤ r) (w : World) : Calls Try.prog 120 #[.int .i64 r] w (Ret fun v w' => v = .tuple #[.int .i64 0, .int .u64 0, .bool false] ∧ Below w.heap.size w w') := by
  have H := St.init w
  rcases Int.lt_or_le r 0 with h0 | h0
  · go_enter Try.func120, Try.ntmps120
    go_wp2
    go_ret3
    exact ⟨_, rfl, rfl, H.below⟩
  · have h1 : 128 ≤ r := by omega
    have hn : ¬ r < 0 := by omega
    go_enter Try.func120, Try.ntmps120
    go_wp2
    go_ret3
    exact ⟨_, rfl, rfl, H.below⟩
theorem and63 (r : Nat) (h : r < 128) : bits .and .u64 (r : Int) 63 = ((r % 64 : Nat) : Int) := by
  have := bits_and_u64_nat r 63 (by omega) (by omega)
  rw [show (63 : Nat) = 2 ^ 6 - 1 by rfl, Nat.and_two_pow_sub_one_eq_mod] at this
  exact this
theorem bit_yes (r : Nat) (h : r < 128) (q s : Nat) (hq : r / 64 = q) (hs : 2 ^ (r % 64) = s) (w : World) : Calls Try.prog 120 #[.int .i64 (r : Int)] w (Ret fun v w' => v = .tuple #[.int .i64 (q : Int), .int .u64 (s : Int), .bool true] ∧ Below w.heap.size w w') := by
  have H := St.init w
  have h0 : ¬ (r : Int) < 0 := by omega
  have h1 : ¬ (128 : Int) ≤ (r : Int) := by omega
  have hw : IntKind.u64.wrap (r : Int) = (r : Int) := wrap_u64_in _ (by omega) (by omega)
  obtain ⟨m, hm⟩ : ∃ m, r % 64 = m := ⟨_, rfl⟩
  have ha := and63 r h
  rw [hm] at ha hs
  have hm64 : m < 64 := by omega
  have h2 : (2 : Nat) ^ m ≤ 2 ^ 63 := Nat.pow_le_pow_right (by omega) (by omega)
  have h3 := Nat.two_pow_pos m
  have hp : IntKind.u64.wrap ((2 : Int) ^ m) = (s : Int) := by
    rw [show ((2 : Int) ^ m) = ((2 ^ m : Nat) : Int) by push_cast; rfl, wrap_u64_in _ (by omega) (by omega), hs]
  have hp1 : IntKind.u64.wrap (1 * (2 : Int) ^ m) = (s : Int) := by rw [Int.one_mul, hp]
  have hdi : (r : Int) / 64 = (q : Int) := by omega
  have hmn : ((m : Int)).toNat = m := by omega
  clear h2 h3 hs
  go_enter Try.func120, Try.ntmps120
  go_wp2
  go_ret3
  exact ⟨_, rfl, rfl, H.below⟩
/-- A rank is laid into a mask. -/
def setM (m : Nat × Nat) (r : Int) : Nat × Nat := if r < 0 ∨ 128 ≤ r then m else if r < 64 then (m.1 ||| 2 ^ r.toNat, m.2) else (m.1, m.2 ||| 2 ^ (r.toNat - 64))
theorem p2_lt {k : Nat} (h : k < 64) : 2 ^ k < 18446744073709551616 := by
  have h2 : (2 : Nat) ^ k ≤ 2 ^ 63 := Nat.pow_le_pow_right (by omega) (by omega)
  omega
set_option maxRecDepth 100000 in
theorem with_ok (a b : Nat) (r : Int) (ha : a < 18446744073709551616) (hb : b < 18446744073709551616) (c d : Nat) (hcd : setM (a, b) r = (c, d)) (w : World) :
    Calls Try.prog 118 #[.agg #[.int .u64 (a : Int), .int .u64 (b : Int)], .int .i64 r] w (Ret fun v w' => v = .agg #[.int .u64 (c : Int), .int .u64 (d : Int)] ∧ Below w.heap.size w w') := by
  have H := St.init w
  by_cases hr : r < 0 ∨ 128 ≤ r
  · rw [setM, if_pos hr] at hcd
    cases hcd
    go_enter Try.func118, Try.ntmps118
    go_wp2_with (first | (go_at_call 120; refine (bit_no r hr _).mono ?_; rintro e w1 ⟨v, rfl, hr⟩; obtain ⟨rfl, hb1⟩ := hr; replace H := H.grow hb1; clear hb1) | (with_reducible refine wpl rfl (dQ 2 rfl ?_); with_reducible refine (Stp.box 2 rfl rfl rfl H ?_); clear H; intro g2 w1 H; simp only [pS]; simp only [pE, nC, pS] at H) | (with_reducible refine wpl rfl (dQ 4 rfl ?_); with_reducible refine (Stp.alloc 4 rfl rfl zero127 H ?_); clear H; intro g4 w1 H; simp only [pS]; simp only [nC] at H) | (with_reducible refine wpl rfl (ldQ (ty := 22) rfl ?_); first | (with_reducible refine (Stp.ldo rfl agg22 rfl H (by assumption) (by assumption) ?_); simp only [pS]) | (with_reducible refine (Stp.ldc rfl agg22 rfl H mR cE ?_); simp only [pS])) | (with_reducible refine wpl rfl (stQ (ty := 22) rfl ?_); first | (with_reducible refine (Stp.stc rfl size22 rfl rfl rfl rfl H uP (by first | omega | (simp; done) | (simp; omega)) ?_); clear H; intro w1 H; simp only [pS]; simp only [pE, nC, pS] at H)) | (with_reducible refine wpl rfl (ldQ (ty := 127) rfl ?_); first | (with_reducible refine (Stp.ldor rfl agg127 size127 rfl H (by assumption) sZ (by assumption) ?_); simp only [pS]) | (with_reducible refine (Stp.ldr rfl agg127 size127 rfl H mR sZ ?_); simp only [pS])) | (with_reducible refine wpl rfl (stQ (ty := 127) rfl ?_); first | (with_reducible refine (Stp.str rfl size127 rfl rfl (by first | rfl | (simp [Value.oneCell']; done) | assumption) H uP sZ sZ ?_); clear H; intro w1 H; simp only [pS])))
    refine post_row rfl agg127 size127 rfl H mE rfl rfl ⟨_, rfl, rfl, H.below⟩
  · rw [setM, if_neg hr] at hcd
    obtain ⟨k, rfl⟩ : ∃ k : Nat, r = k := ⟨r.toNat, by omega⟩
    have hk : k < 128 := by omega
    rw [Int.toNat_natCast] at hcd
    by_cases h64 : (k : Int) < 64
    · rw [if_pos h64] at hcd
      have hm : k % 64 = k := Nat.mod_eq_of_lt (by omega)
      have hp := p2_lt (show k < 64 by omega)
      have HB := Lib.hid (show 2 ^ (k % 64) = 2 ^ k by rw [hm])
      obtain ⟨s, hs⟩ : ∃ s, 2 ^ k = s := ⟨_, rfl⟩
      rw [hs] at hcd hp HB
      have e := bits_or_u64_nat a s ha hp
      cases hcd
      clear hm
      go_enter Try.func118, Try.ntmps118
      go_wp2_with (first | (go_at_call 120; refine (bit_yes k hk 0 s (by omega) HB.out _).mono ?_; rintro e w1 ⟨v, rfl, hr⟩; obtain ⟨rfl, hb1⟩ := hr; replace H := H.grow hb1; clear hb1) | (with_reducible refine wpl rfl (dQ 2 rfl ?_); with_reducible refine (Stp.box 2 rfl rfl rfl H ?_); clear H; intro g2 w1 H; simp only [pS]; simp only [pE, nC, pS] at H) | (with_reducible refine wpl rfl (dQ 4 rfl ?_); with_reducible refine (Stp.alloc 4 rfl rfl zero127 H ?_); clear H; intro g4 w1 H; simp only [pS]; simp only [nC] at H) | (with_reducible refine wpl rfl (ldQ (ty := 22) rfl ?_); first | (with_reducible refine (Stp.ldo rfl agg22 rfl H (by assumption) (by assumption) ?_); simp only [pS]) | (with_reducible refine (Stp.ldc rfl agg22 rfl H mR cE ?_); simp only [pS])) | (with_reducible refine wpl rfl (stQ (ty := 22) rfl ?_); first | (with_reducible refine (Stp.stc rfl size22 rfl rfl rfl rfl H uP (by first | omega | (simp; done) | (simp; omega)) ?_); clear H; intro w1 H; simp only [pS]; simp only [pE, nC, pS] at H)) | (with_reducible refine wpl rfl (ldQ (ty := 127) rfl ?_); first | (with_reducible refine (Stp.ldor rfl agg127 size127 rfl H (by assumption) sZ (by assumption) ?_); simp only [pS]) | (with_reducible refine (Stp.ldr rfl agg127 size127 rfl H mR sZ ?_); simp only [pS])) | (with_reducible refine wpl rfl (stQ (ty := 127) rfl ?_); first | (with_reducible refine (Stp.str rfl size127 rfl rfl (by first | rfl | (simp [Value.oneCell']; done) | assumption) H uP sZ sZ ?_); clear H; intro w1 H; simp only [pS])))
      refine post_row rfl agg127 size127 rfl H mE rfl rfl ⟨_, rfl, rfl, H.below⟩
    · rw [if_neg h64] at hcd
      have hm : k % 64 = k - 64 := by omega
      have hp := p2_lt (show k - 64 < 64 by omega)
      have HB := Lib.hid (show 2 ^ (k % 64) = 2 ^ (k - 64) by rw [hm])
      obtain ⟨s, hs⟩ : ∃ s, 2 ^ (k - 64) = s := ⟨_, rfl⟩
      rw [hs] at hcd hp HB
      have e := bits_or_u64_nat b s hb hp
      cases hcd
      clear hm
      go_enter Try.func118, Try.ntmps118
      go_wp2_with (first | (go_at_call 120; refine (bit_yes k hk 1 s (by omega) HB.out _).mono ?_; rintro e w1 ⟨v, rfl, hr⟩; obtain ⟨rfl, hb1⟩ := hr; replace H := H.grow hb1; clear hb1) | (with_reducible refine wpl rfl (dQ 2 rfl ?_); with_reducible refine (Stp.box 2 rfl rfl rfl H ?_); clear H; intro g2 w1 H; simp only [pS]; simp only [pE, nC, pS] at H) | (with_reducible refine wpl rfl (dQ 4 rfl ?_); with_reducible refine (Stp.alloc 4 rfl rfl zero127 H ?_); clear H; intro g4 w1 H; simp only [pS]; simp only [nC] at H) | (with_reducible refine wpl rfl (ldQ (ty := 22) rfl ?_); first | (with_reducible refine (Stp.ldo rfl agg22 rfl H (by assumption) (by assumption) ?_); simp only [pS]) | (with_reducible refine (Stp.ldc rfl agg22 rfl H mR cE ?_); simp only [pS])) | (with_reducible refine wpl rfl (stQ (ty := 22) rfl ?_); first | (with_reducible refine (Stp.stc rfl size22 rfl rfl rfl rfl H uP (by first | omega | (simp; done) | (simp; omega)) ?_); clear H; intro w1 H; simp only [pS]; simp only [pE, nC, pS] at H)) | (with_reducible refine wpl rfl (ldQ (ty := 127) rfl ?_); first | (with_reducible refine (Stp.ldor rfl agg127 size127 rfl H (by assumption) sZ (by assumption) ?_); simp only [pS]) | (with_reducible refine (Stp.ldr rfl agg127 size127 rfl H mR sZ ?_); simp only [pS])) | (with_reducible refine wpl rfl (stQ (ty := 127) rfl ?_); first | (with_reducible refine (Stp.str rfl size127 rfl rfl (by first | rfl | (simp [Value.oneCell']; done) | assumption) H uP sZ sZ ?_); clear H; intro w1 H; simp only [pS])))
      refine post_row rfl agg127 size127 rfl H mE rfl rfl ⟨_, rfl, rfl, H.below⟩
theorem setM_lt {m : Nat × Nat} {r : Int} (h : m.1 < 18446744073709551616 ∧ m.2 < 18446744073709551616) : (setM m r).1 < 18446744073709551616 ∧ (setM m r).2 < 18446744073709551616 := by
  unfold setM
  split
  · exact h
  · split
    · exact ⟨Nat.or_lt_two_pow (n := 64) h.1 (p2_lt (by omega)), h.2⟩
    · exact ⟨h.1, Nat.or_lt_two_pow (n := 64) h.2 (p2_lt (by omega))⟩
/-- Are more than half of the first n in it? -/
def majM (a b : Nat) (n : Int) : Bool := decide (n / 2 < ((pop 64 (a &&& low n) + pop 64 (b &&& low (n - 64)) : Nat) : Int))
theorem and_lt {a b : Nat} (h : a < 18446744073709551616) : a &&& b < 18446744073709551616 := Nat.lt_of_le_of_lt Nat.and_le_left h
set_option maxRecDepth 100000 in
theorem majority_ok (a b : Nat) (n : Int) (ha : a < 18446744073709551616) (hb : b < 18446744073709551616) (hn : 0 < n) (hn2 : n < 1000) (x : Bool) (hx : majM a b n = x) (w : World) :
    Calls Try.prog 119 #[.agg #[.int .u64 (a : Int), .int .u64 (b : Int)], .int .i64 n] w (Ret fun v w' => v = .bool x ∧ Below w.heap.size w w') := by
  have H := St.init w
  subst hx
  obtain ⟨p, hp⟩ : ∃ p, pop 64 (a &&& low n) + pop 64 (b &&& low (n - 64)) = p := ⟨_, rfl⟩
  have hlp : p ≤ 128 := by
    have h1 := pop_le 64 (a &&& low n)
    have h2 := pop_le 64 (b &&& low (n - 64))
    omega
  unfold majM
  rw [hp]
  have HA := Lib.hid ha
  have HB := Lib.hid hb
  have HP := Lib.hid hp
  have h1 : ¬ n < 1 := by omega
  clear ha hb hp
  go_enter Try.func119, Try.ntmps119
  go_wp2_with (first | (with_reducible refine wpl rfl (dQ 2 rfl ?_); with_reducible refine (Stp.box 2 rfl rfl rfl H ?_); clear H; intro g2 w1 H; simp only [pS]; simp only [pE, nC, pS] at H))
  refine rg_begin 9 rfl (S := fun W => St _ _ W _) (by kernel_rfl) H.drew ?_
  replace H := H.drew
  have HS := H
  first | (refine rg_take (i := 0) rfl kR kR kR (Yld.ldor rfl rfl agg127 size127 rfl (by assumption) sZ (by assumption)) HS ?_; simp only [pS]) | (refine rg_take (i := 0) rfl kR kR kR (Yld.ldr rfl rfl agg127 size127 rfl mR sZ) HS ?_; simp only [pS])
  refine rg_take (i := 1) rfl kR kR kR (Yld.move rfl rfl) HS ?_; simp only [pS, pE]
  refine rg_take (i := 5) rfl kR kR kR (Yld.move rfl rfl) HS ?_; simp only [pS, pE]
  refine rg_take (i := 6) rfl kR kR kR (Yld.o rfl) HS ?_; simp only [pS]
  refine rg_one (i := 2) (by kernel_rfl) rfl rfl (fun K hK => ?_)
  refine wp_callf rfl ent137 (first_ok n (by omega) _) rfl (fun v w1 hr => ?_)
  obtain ⟨rfl, hb1⟩ := hr
  replace H := H.grow hb1
  clear hb1
  clear HS
  have HS := H
  refine hK.out _ _ HS ?_
  clear hK K
  simp only [pS]
  refine rg_one (i := 3) (by kernel_rfl) rfl rfl (fun K hK => ?_)
  refine wp_callf rfl ent136 (and_ok a b (low n) (low (n - 64)) HA.out HB.out (low_lt _) (low_lt _) _) rfl (fun v w1 hr => ?_)
  obtain ⟨rfl, hb1⟩ := hr
  replace H := H.grow hb1
  clear hb1
  clear HS
  have HS := H
  refine hK.out _ _ HS ?_
  clear hK K
  simp only [pS]
  refine rg_one (i := 4) (by kernel_rfl) rfl rfl (fun K hK => ?_)
  refine wp_callf rfl ent135 (count_ok (a &&& low n) (b &&& low (n - 64)) p (and_lt HA.out) (and_lt HB.out) HP.out _) rfl (fun v w1 hr => ?_)
  obtain ⟨rfl, hb1⟩ := hr
  replace H := H.grow hb1
  clear hb1
  clear HS
  have HS := H
  refine hK.out _ _ HS ?_
  clear hK K
  simp only [pS]
  refine rg_take (i := 7) rfl kR kR kR (Yld.o rfl) HS ?_; simp only [pS]
  refine rg_take (i := 8) rfl kR kR kR (Yld.assign rfl rfl) HS ?_; simp only [pS, pE]
  refine rg_done (by kernel_rfl) ?_
  go_wp2
  go_ret
  have hq : IntKind.i64.wrap (n.tdiv 2) = n / 2 := by
    rw [Int.tdiv_eq_ediv_of_nonneg (by omega)]
    simp [IntKind.wrap, IntKind.bits, IntKind.signed]
    omega
  exact ⟨_, rfl, congrArg (fun z : Int => Value.bool (decide (z < (p : Int)))) hq, H.below⟩
end
section
theorem ones_pop : ∀ (f k : Nat), k ≤ f → pop f (2 ^ k - 1) = k
  | 0, k, h => by obtain rfl : k = 0 := by omega
                  rfl
  | f + 1, 0, _ => by
    have := ones_pop f 0 (by omega)
    simpa [pop] using this
  | f + 1, k + 1, h => by
    have h2 := Nat.two_pow_pos k
    have e : 2 ^ (k + 1) = 2 * 2 ^ k := by rw [Nat.pow_succ, Nat.mul_comm]
    simp only [pop]
    rw [show (2 ^ (k + 1) - 1) / 2 = 2 ^ k - 1 by omega, ones_pop f k (by omega), show (2 ^ (k + 1) - 1) % 2 = 1 by omega]
    omega
theorem low_pop (n : Int) : pop 64 (low n) = min n.toNat 64 := ones_pop 64 _ (by omega)
theorem meet_and (a b c : Nat) : (a &&& c) &&& (b &&& c) = (a &&& b) &&& c := by
  refine Nat.eq_of_testBit_eq fun i => ?_
  simp only [Nat.testBit_and]
  cases a.testBit i <;> cases b.testBit i <;> cases c.testBit i <;> rfl
theorem meet_or (a b c : Nat) : ((a &&& c) ||| (b &&& c)) &&& c = (a &&& c) ||| (b &&& c) := by
  refine Nat.eq_of_testBit_eq fun i => ?_
  simp only [Nat.testBit_and, Nat.testBit_or]
  cases a.testBit i <;> cases b.testBit i <;> cases c.testBit i <;> rfl
theorem meet_one (a b c : Nat) : pop 64 (a &&& c) + pop 64 (b &&& c) ≤ pop 64 ((a &&& b) &&& c) + pop 64 c := by
  have h1 := pop_split 64 (a &&& c) (b &&& c)
  have h2 := pop_mono 64 _ _ (meet_or a b c)
  rw [meet_and] at h1
  omega
theorem meet (a1 a2 b1 b2 : Nat) (n : Int) (hn : 1 ≤ n) (hn2 : n ≤ 128) (ha : majM a1 a2 n = true) (hb : majM b1 b2 n = true) :
    0 < pop 64 ((a1 &&& b1) &&& low n) + pop 64 ((a2 &&& b2) &&& low (n - 64)) := by
  unfold majM at ha hb
  simp only [decide_eq_true_eq] at ha hb
  have h1 := meet_one a1 b1 (low n)
  have h2 := meet_one a2 b2 (low (n - 64))
  rw [low_pop] at h1 h2
  omega
attribute [local irreducible] pop low
end
section
attribute [local irreducible] pop low
/-- Is a rank in a mask? -/
def hasM (m : Nat × Nat) (r : Int) : Bool := !(decide (r < 0 ∨ 128 ≤ r)) && (if r < 64 then m.1.testBit r.toNat else m.2.testBit (r.toNat - 64))
theorem and_p2 (a k : Nat) : ((((a &&& 2 ^ k : Nat) : Int) != 0)) = a.testBit k := by
  have h : a &&& 2 ^ k = if a.testBit k then 2 ^ k else 0 := by
    refine Nat.eq_of_testBit_eq fun i => ?_
    rw [Nat.testBit_and, Nat.testBit_two_pow]
    by_cases e : k = i
    · subst e
      cases hb : a.testBit k
      · simp
      · simp [Nat.testBit_two_pow]
    · cases hb : a.testBit k
      · simp [e]
      · simp [e, Nat.testBit_two_pow]
  rw [h]
  have := Nat.two_pow_pos k
  clear h
  cases a.testBit k
  · rfl
  · rw [if_pos rfl]; exact bne_iff_ne.2 (by omega)
set_option maxRecDepth 100000 in
theorem has_ok (a b : Nat) (r : Int) (ha : a < 18446744073709551616) (hb : b < 18446744073709551616) (x : Bool) (hx : hasM (a, b) r = x) (w : World) :
    Calls Try.prog 87 #[.agg #[.int .u64 (a : Int), .int .u64 (b : Int)], .int .i64 r] w (Ret fun v w' => v = .bool x ∧ Below w.heap.size w w') := by
  have H := St.init w
  by_cases hr : r < 0 ∨ 128 ≤ r
  · have hf : x = false := by rw [← hx]; simp [hasM, hr]
    subst hf
    clear hx
    go_enter Try.func87, Try.ntmps87
    go_wp2_with (first | (go_at_call 120; refine (bit_no r hr _).mono ?_; rintro e w1 ⟨v, rfl, hr⟩; obtain ⟨rfl, hb1⟩ := hr; replace H := H.grow hb1; clear hb1) | (with_reducible refine wpl rfl (dQ 2 rfl ?_); with_reducible refine (Stp.box 2 rfl rfl rfl H ?_); clear H; intro g2 w1 H; simp only [pS]; simp only [pE, nC, pS] at H) | (with_reducible refine wpl rfl (ldQ (ty := 22) rfl ?_); first | (with_reducible refine (Stp.ldo rfl agg22 rfl H (by assumption) (by assumption) ?_); simp only [pS]) | (with_reducible refine (Stp.ldc rfl agg22 rfl H mR cE ?_); simp only [pS])))
    go_ret
    exact ⟨_, rfl, rfl, H.below⟩
  · obtain ⟨k, rfl⟩ : ∃ k : Nat, r = k := ⟨r.toNat, by omega⟩
    have hk : k < 128 := by omega
    by_cases h64 : (k : Int) < 64
    · have hm : k % 64 = k := Nat.mod_eq_of_lt (by omega)
      have hp := p2_lt (show k < 64 by omega)
      have hv : x = a.testBit k := by rw [← hx]; simp [hasM, hr, h64]
      have he := and_p2 a k
      rw [← hv] at he
      obtain ⟨s, hs⟩ : ∃ s, 2 ^ k = s := ⟨_, rfl⟩
      rw [hs] at hp he
      have HB := Lib.hid (show 2 ^ (k % 64) = s by rw [hm, hs])
      have e := bits_and_u64_nat a s ha hp
      have HE := Lib.hid he
      obtain ⟨z, hz⟩ : ∃ z, a &&& s = z := ⟨_, rfl⟩
      rw [hz] at e he
      clear hm hx hv hs HE hz
      go_enter Try.func87, Try.ntmps87
      go_wp2_with (first | (go_at_call 120; refine (bit_yes k hk 0 s (by omega) HB.out _).mono ?_; rintro e w1 ⟨v, rfl, hr⟩; obtain ⟨rfl, hb1⟩ := hr; replace H := H.grow hb1; clear hb1) | (with_reducible refine wpl rfl (dQ 2 rfl ?_); with_reducible refine (Stp.box 2 rfl rfl rfl H ?_); clear H; intro g2 w1 H; simp only [pS]; simp only [pE, nC, pS] at H) | (with_reducible refine wpl rfl (ldQ (ty := 22) rfl ?_); first | (with_reducible refine (Stp.ldo rfl agg22 rfl H (by assumption) (by assumption) ?_); simp only [pS]) | (with_reducible refine (Stp.ldc rfl agg22 rfl H mR cE ?_); simp only [pS])))
      go_ret
      exact ⟨_, rfl, by first | rfl | (rw [← he]; rfl), H.below⟩
    · have hm : k % 64 = k - 64 := by omega
      have hp := p2_lt (show k - 64 < 64 by omega)
      have hv : x = b.testBit (k - 64) := by rw [← hx]; simp [hasM, hr, h64]
      have he := and_p2 b (k - 64)
      rw [← hv] at he
      obtain ⟨s, hs⟩ : ∃ s, 2 ^ (k - 64) = s := ⟨_, rfl⟩
      rw [hs] at hp he
      have HB := Lib.hid (show 2 ^ (k % 64) = s by rw [hm, hs])
      have e := bits_and_u64_nat b s hb hp
      obtain ⟨z, hz⟩ : ∃ z, b &&& s = z := ⟨_, rfl⟩
      rw [hz] at e he
      clear hm hx hv hs hz
      go_enter Try.func87, Try.ntmps87
      go_wp2_with (first | (go_at_call 120; refine (bit_yes k hk 1 s (by omega) HB.out _).mono ?_; rintro e w1 ⟨v, rfl, hr⟩; obtain ⟨rfl, hb1⟩ := hr; replace H := H.grow hb1; clear hb1) | (with_reducible refine wpl rfl (dQ 2 rfl ?_); with_reducible refine (Stp.box 2 rfl rfl rfl H ?_); clear H; intro g2 w1 H; simp only [pS]; simp only [pE, nC, pS] at H) | (with_reducible refine wpl rfl (ldQ (ty := 22) rfl ?_); first | (with_reducible refine (Stp.ldo rfl agg22 rfl H (by assumption) (by assumption) ?_); simp only [pS]) | (with_reducible refine (Stp.ldc rfl agg22 rfl H mR cE ?_); simp only [pS])))
      go_ret
      exact ⟨_, rfl, by first | rfl | (rw [← he]; rfl), H.below⟩
end
end Go.Proofs.Ytjghcmejmdllbaa
namespace Go.Proofs.Ytjghcmejmdllbaa
open Go.ChangeShapes Go.WideShapes Go.ChangeAt Go.RowKit
set_option linter.unusedVariables false
set_option linter.unusedSimpArgs false
section
variable {P : Program} {ops : Array Oper} {Q : Exit → Act → World → Prop} {S S' : World → Prop}
end
def sep (r s : Res) : Res := (fun g => r.1 g ∨ s.1 g, fun w => Sound r w ∧ Sound s w ∧ ∀ g, r.1 g → ¬ s.1 g)
theorem Sound.heap {r : Res} {w1 w2 : World} (h : Sound r w1) (hb : ∀ g, r.1 g → w2.heap[g]? = w1.heap[g]?) : Sound r w2 :=
  ⟨h.loc w1 w2 hb h.here, fun g hg => by
    have h1 := h.lt g hg
    have h2 := hb g hg
    rw [Array.getElem?_eq_getElem h1] at h2
    exact (Array.getElem?_eq_some_iff.1 h2).1, h.loc⟩
theorem sep_loc (r s : Res) : Loc (sep r s) := fun w1 w2 hb h => ⟨h.1.heap (fun g hg => hb g (.inl hg)), h.2.1.heap (fun g hg => hb g (.inr hg)), h.2.2⟩
theorem St.sep {B : Nat} {w0 w : World} {L : List Res} {r s : Res} (H : St B w0 w (r :: s :: L)) : St B w0 w (sep r s :: L) := by
  have hr := H.sound r List.mem_cons_self
  have hs := H.sound s (List.mem_cons_of_mem _ List.mem_cons_self)
  obtain ⟨ha, hp⟩ := List.pairwise_cons.1 H.apart
  obtain ⟨hb, hq⟩ := List.pairwise_cons.1 hp
  refine ⟨H.below, H.size, ?_, ?_, List.pairwise_cons.2 ⟨fun x hx g hg => ?_, hq⟩⟩
  · intro x hx
    rcases List.mem_cons.1 hx with rfl | hx
    · exact ⟨⟨hr, hs, ha s List.mem_cons_self⟩, fun g hg => hg.elim (hr.lt g) (hs.lt g), sep_loc _ _⟩
    · exact H.sound x (List.mem_cons_of_mem _ (List.mem_cons_of_mem _ hx))
  · intro x hx
    rcases List.mem_cons.1 hx with rfl | hx
    · exact fun g hg => hg.elim (H.base r List.mem_cons_self g) (H.base s (List.mem_cons_of_mem _ List.mem_cons_self) g)
    · exact H.base x (List.mem_cons_of_mem _ (List.mem_cons_of_mem _ hx))
  · exact hg.elim (ha x (List.mem_cons_of_mem _ hx) g) (hb x hx g)
theorem St.part {B : Nat} {w0 w : World} {L : List Res} {r s : Res} (H : St B w0 w (Go.Proofs.Ytjghcmejmdllbaa.sep r s :: L)) : St B w0 w (r :: s :: L) := by
  obtain ⟨h1, h2, h3⟩ := (H.sound _ List.mem_cons_self).here
  have hb := H.base _ List.mem_cons_self
  obtain ⟨ha, hp⟩ := List.pairwise_cons.1 H.apart
  refine ⟨H.below, H.size, ?_, ?_, List.pairwise_cons.2 ⟨?_, List.pairwise_cons.2 ⟨fun x hx g hg => ha x hx g (.inr hg), hp⟩⟩⟩
  · intro x hx
    rcases List.mem_cons.1 hx with rfl | hx
    · exact h1
    · rcases List.mem_cons.1 hx with rfl | hx
      · exact h2
      · exact H.sound x (List.mem_cons_of_mem _ hx)
  · intro x hx g hg
    rcases List.mem_cons.1 hx with rfl | hx
    · exact hb g (.inl hg)
    · rcases List.mem_cons.1 hx with rfl | hx
      · exact hb g (.inr hg)
      · exact H.base x (List.mem_cons_of_mem _ hx) g hg
  · intro x hx g hg
    rcases List.mem_cons.1 hx with rfl | hx
    · exact h3 g hg
    · exact ha x hx g (.inl hg)
theorem collect {α : Type} (P : Nat → α → Prop) : ∀ (n : Nat), (∀ i, i < n → ∃ a, P i a) → ∃ l : List α, l.length = n ∧ ∀ i (hi : i < l.length), P i l[i]
  | 0, _ => ⟨[], rfl, fun i hi => absurd hi (Nat.not_lt_zero _)⟩
  | n + 1, h => by
    obtain ⟨l, hl, hP⟩ := collect P n (fun i hi => h i (by omega))
    obtain ⟨a, ha⟩ := h n (by omega)
    refine ⟨l ++ [a], by simp [hl], fun i hi => ?_⟩
    by_cases hin : i < l.length
    · rw [List.getElem_append_left hin]; exact hP i hin
    · have : i = l.length := by simp at hi; omega
      subst this
      rw [List.getElem_append_right (Nat.le_refl _)]
      simpa [hl] using ha
end Go.Proofs.Ytjghcmejmdllbaa
