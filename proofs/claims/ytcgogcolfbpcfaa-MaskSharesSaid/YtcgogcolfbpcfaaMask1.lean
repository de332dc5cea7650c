/- Layer 5's masks in numbers, and how many bits a number has; no condition. -/
import Derived.Test.YtcgogcolfbpcfaaBase
import Derived.Test.YtcgogcolfbpcfaaRows
import Derived.Laws.Bits64b
namespace Go.Proofs.Ytcgogcolfbpcfaa
open Go.ChangeShapes Go.WideShapes Go.ChangeAt Go.RowKit
set_option linter.unusedVariables false
set_option linter.unusedSimpArgs false
theorem agg3 : ∀ W : World, (isAgg 3).run Try.prog W = .ok false W := fun _ => by kernel_rfl
theorem size3 : ∀ W : World, (sizeOf 3).run Try.prog W = .ok 1 W := fun _ => by kernel_rfl
theorem agg4 : ∀ W : World, (isAgg 4).run Try.prog W = .ok false W := fun _ => by kernel_rfl
theorem size4 : ∀ W : World, (sizeOf 4).run Try.prog W = .ok 1 W := fun _ => by kernel_rfl
theorem agg22 : ∀ W : World, (isAgg 22).run Try.prog W = .ok false W := fun _ => by kernel_rfl
theorem size22 : ∀ W : World, (sizeOf 22).run Try.prog W = .ok 1 W := fun _ => by kernel_rfl
theorem agg24 : ∀ W : World, (isAgg 24).run Try.prog W = .ok true W := fun _ => by kernel_rfl
theorem size24 : ∀ W : World, (sizeOf 24).run Try.prog W = .ok 2 W := fun _ => by kernel_rfl
theorem agg32 : ∀ W : World, (isAgg 32).run Try.prog W = .ok true W := fun _ => by kernel_rfl
theorem size32 : ∀ W : World, (sizeOf 32).run Try.prog W = .ok 128 W := fun _ => by kernel_rfl
theorem agg46 : ∀ W : World, (isAgg 46).run Try.prog W = .ok true W := fun _ => by kernel_rfl
theorem size46 : ∀ W : World, (sizeOf 46).run Try.prog W = .ok 3 W := fun _ => by kernel_rfl
theorem zero24 : ∀ W : World, (zeroValue 24).run Try.prog W = .ok (.agg #[(.int .u64 0), (.int .u64 0)]) W := fun _ => by kernel_rfl
theorem zero32 : ∀ W : World, (zeroValue 32).run Try.prog W = .ok (.agg #[(.bool false), (.bool false), (.bool false), (.bool false), (.bool false), (.bool false), (.bool false), (.bool false), (.bool false), (.bool false), (.bool false), (.bool false), (.bool false), (.bool false), (.bool false), (.bool false), (.bool false), (.bool false), (.bool false), (.bool false), (.bool false), (.bool false), (.bool false), (.bool false), (.bool false), (.bool false), (.bool false), (.bool false), (.bool false), (.bool false), (.bool false), (.bool false), (.bool false), (.bool false), (.bool false), (.bool false), (.bool false), (.bool false), (.bool false), (.bool false), (.bool false), (.bool false), (.bool false), (.bool false), (.bool false), (.bool false), (.bool false), (.bool false), (.bool false), (.bool false), (.bool false), (.bool false), (.bool false), (.bool false), (.bool false), (.bool false), (.bool false), (.bool false), (.bool false), (.bool false), (.bool false), (.bool false), (.bool false), (.bool false), (.bool false), (.bool false), (.bool false), (.bool false), (.bool false), (.bool false), (.bool false), (.bool false), (.bool false), (.bool false), (.bool false), (.bool false), (.bool false), (.bool false), (.bool false), (.bool false), (.bool false), (.bool false), (.bool false), (.bool false), (.bool false), (.bool false), (.bool false), (.bool false), (.bool false), (.bool false), (.bool false), (.bool false), (.bool false), (.bool false), (.bool false), (.bool false), (.bool false), (.bool false), (.bool false), (.bool false), (.bool false), (.bool false), (.bool false), (.bool false), (.bool false), (.bool false), (.bool false), (.bool false), (.bool false), (.bool false), (.bool false), (.bool false), (.bool false), (.bool false), (.bool false), (.bool false), (.bool false), (.bool false), (.bool false), (.bool false), (.bool false), (.bool false), (.bool false), (.bool false), (.bool false), (.bool false), (.bool false), (.bool false)]) W := fun _ => by kernel_rfl
theorem info3 : (Try.prog.info? 3).map (fun i => (i.zero, i.size, i.bytes)) = some (some (.int .i64 0), 1, 8) := by kernel_rfl
theorem zero3 : ∀ W : World, (zeroValue 3).run Try.prog W = .ok (.int .i64 0) W := fun _ => by kernel_rfl
theorem info46 : (Try.prog.info? 46).map (fun i => (i.zero, i.size, i.bytes)) = some (some (.agg #[(.int .u64 0), (.int .u64 0), (.int .i64 0)]), 3, 24) := by kernel_rfl
theorem zero46 : ∀ W : World, (zeroValue 46).run Try.prog W = .ok (.agg #[(.int .u64 0), (.int .u64 0), (.int .i64 0)]) W := fun _ => by kernel_rfl
theorem ent8 : ∀ (xs : Array Value) (W : World), (callFunc 8 xs).run Try.prog W = .ok (.enter 8 xs) W := fun _ _ => by kernel_rfl
theorem ent9 : ∀ (xs : Array Value) (W : World), (callFunc 9 xs).run Try.prog W = .ok (.enter 9 xs) W := fun _ _ => by kernel_rfl
theorem ent10 : ∀ (xs : Array Value) (W : World), (callFunc 10 xs).run Try.prog W = .ok (.enter 10 xs) W := fun _ _ => by kernel_rfl
theorem ent11 : ∀ (xs : Array Value) (W : World), (callFunc 11 xs).run Try.prog W = .ok (.enter 11 xs) W := fun _ _ => by kernel_rfl
theorem ent12 : ∀ (xs : Array Value) (W : World), (callFunc 12 xs).run Try.prog W = .ok (.enter 12 xs) W := fun _ _ => by kernel_rfl
theorem ent13 : ∀ (xs : Array Value) (W : World), (callFunc 13 xs).run Try.prog W = .ok (.enter 13 xs) W := fun _ _ => by kernel_rfl
theorem ent14 : ∀ (xs : Array Value) (W : World), (callFunc 14 xs).run Try.prog W = .ok (.enter 14 xs) W := fun _ _ => by kernel_rfl
theorem ent15 : ∀ (xs : Array Value) (W : World), (callFunc 15 xs).run Try.prog W = .ok (.enter 15 xs) W := fun _ _ => by kernel_rfl
theorem ent16 : ∀ (xs : Array Value) (W : World), (callFunc 16 xs).run Try.prog W = .ok (.enter 16 xs) W := fun _ _ => by kernel_rfl
theorem ent17 : ∀ (xs : Array Value) (W : World), (callFunc 17 xs).run Try.prog W = .ok (.enter 17 xs) W := fun _ _ => by kernel_rfl
theorem ent18 : ∀ (xs : Array Value) (W : World), (callFunc 18 xs).run Try.prog W = .ok (.enter 18 xs) W := fun _ _ => by kernel_rfl
theorem ent19 : ∀ (xs : Array Value) (W : World), (callFunc 19 xs).run Try.prog W = .ok (.enter 19 xs) W := fun _ _ => by kernel_rfl
theorem ent20 : ∀ (xs : Array Value) (W : World), (callFunc 20 xs).run Try.prog W = .ok (.enter 20 xs) W := fun _ _ => by kernel_rfl
theorem ent21 : ∀ (xs : Array Value) (W : World), (callFunc 21 xs).run Try.prog W = .ok (.enter 21 xs) W := fun _ _ => by kernel_rfl
theorem ent22 : ∀ (xs : Array Value) (W : World), (callFunc 22 xs).run Try.prog W = .ok (.enter 22 xs) W := fun _ _ => by kernel_rfl
theorem ent23 : ∀ (xs : Array Value) (W : World), (callFunc 23 xs).run Try.prog W = .ok (.enter 23 xs) W := fun _ _ => by kernel_rfl
theorem ent24 : ∀ (xs : Array Value) (W : World), (callFunc 24 xs).run Try.prog W = .ok (.enter 24 xs) W := fun _ _ => by kernel_rfl
theorem ent25 : ∀ (xs : Array Value) (W : World), (callFunc 25 xs).run Try.prog W = .ok (.enter 25 xs) W := fun _ _ => by kernel_rfl
theorem ent26 : ∀ (xs : Array Value) (W : World), (callFunc 26 xs).run Try.prog W = .ok (.enter 26 xs) W := fun _ _ => by kernel_rfl
theorem ent28 : ∀ (xs : Array Value) (W : World), (callFunc 28 xs).run Try.prog W = .ok (.enter 28 xs) W := fun _ _ => by kernel_rfl
theorem ent29 : ∀ (xs : Array Value) (W : World), (callFunc 29 xs).run Try.prog W = .ok (.enter 29 xs) W := fun _ _ => by kernel_rfl
/-- How many of its first f bits are set. -/
def pop : Nat → Nat → Nat
  | 0, _ => 0
  | f + 1, n => n % 2 + pop f (n / 2)
theorem pop_le : ∀ f n, pop f n ≤ f
  | 0, _ => Nat.le_refl _
  | f + 1, n => by have := pop_le f (n / 2); have : n % 2 < 2 := Nat.mod_lt _ (by omega); simp only [pop]; omega
theorem pop_add : ∀ (a b n : Nat), pop (a + b) n = pop a n + pop b (n / 2 ^ a)
  | 0, b, n => by simp [pop]
  | a + 1, b, n => by
    rw [show a + 1 + b = (a + b) + 1 by omega]
    simp only [pop]
    rw [pop_add a b (n / 2), Nat.div_div_eq_div_mul, show 2 * 2 ^ a = 2 ^ (a + 1) by rw [Nat.pow_succ, Nat.mul_comm]]
    omega
theorem and_mod2 (x y : Nat) : (x &&& y) % 2 = if x % 2 = 1 ∧ y % 2 = 1 then 1 else 0 := by
  have h := Nat.testBit_and x y 0
  rw [Nat.testBit_zero, Nat.testBit_zero, Nat.testBit_zero] at h
  have h1 : (x &&& y) % 2 = 0 ∨ (x &&& y) % 2 = 1 := by omega
  have h2 : x % 2 = 0 ∨ x % 2 = 1 := by omega
  have h3 : y % 2 = 0 ∨ y % 2 = 1 := by omega
  rcases h1 with e1 | e1 <;> rcases h2 with e2 | e2 <;> rcases h3 with e3 | e3 <;> rw [e1, e2, e3] at h <;> rw [e1, e2, e3] <;> revert h <;> decide
theorem or_mod2 (x y : Nat) : (x ||| y) % 2 = if x % 2 = 1 ∨ y % 2 = 1 then 1 else 0 := by
  have h := Nat.testBit_or x y 0
  rw [Nat.testBit_zero, Nat.testBit_zero, Nat.testBit_zero] at h
  have h1 : (x ||| y) % 2 = 0 ∨ (x ||| y) % 2 = 1 := by omega
  have h2 : x % 2 = 0 ∨ x % 2 = 1 := by omega
  have h3 : y % 2 = 0 ∨ y % 2 = 1 := by omega
  rcases h1 with e1 | e1 <;> rcases h2 with e2 | e2 <;> rcases h3 with e3 | e3 <;> rw [e1, e2, e3] at h <;> rw [e1, e2, e3] <;> revert h <;> decide
theorem pop_split : ∀ (f x y : Nat), pop f (x &&& y) + pop f (x ||| y) = pop f x + pop f y
  | 0, _, _ => rfl
  | f + 1, x, y => by
    have ih := pop_split f (x / 2) (y / 2)
    simp only [pop]
    rw [Nat.and_div_two, Nat.or_div_two, and_mod2, or_mod2]
    have h1 : x % 2 < 2 := Nat.mod_lt _ (by omega)
    have h2 : y % 2 < 2 := Nat.mod_lt _ (by omega)
    have e1 : x % 2 = 0 ∨ x % 2 = 1 := by omega
    have e2 : y % 2 = 0 ∨ y % 2 = 1 := by omega
    rcases e1 with e1 | e1 <;> rcases e2 with e2 | e2 <;> simp [e1, e2] <;> omega
theorem pop_mono : ∀ (f x y : Nat), x &&& y = x → pop f x ≤ pop f y
  | 0, _, _, _ => Nat.le_refl _
  | f + 1, x, y, h => by
    have h2 : x / 2 &&& y / 2 = x / 2 := by rw [← Nat.and_div_two, h]
    have ih := pop_mono f (x / 2) (y / 2) h2
    have h0 := and_mod2 x y
    rw [h] at h0
    simp only [pop]
    have hy : y % 2 < 2 := Nat.mod_lt _ (by omega)
    split at h0 <;> omega
/-! ### Two, four, eight at a time -/
theorem and_digit (k x y : Nat) : x &&& y = (x % 2 ^ k &&& y % 2 ^ k) + 2 ^ k * (x / 2 ^ k &&& y / 2 ^ k) := by
  rw [← Nat.and_mod_two_pow, ← Nat.and_div_two_pow]
  have := Nat.mod_add_div (x &&& y) (2 ^ k)
  omega
/-- A mask of i digits of base 2 ^ k, each d. -/
def rep (k d : Nat) : Nat → Nat
  | 0 => 0
  | i + 1 => d + 2 ^ k * rep k d i
theorem rep_mod (k d i : Nat) (h : d < 2 ^ k) : rep k d (i + 1) % 2 ^ k = d := by
  simp only [rep]; rw [Nat.add_mul_mod_self_left, Nat.mod_eq_of_lt h]
theorem rep_div (k d i : Nat) (h : d < 2 ^ k) : rep k d (i + 1) / 2 ^ k = rep k d i := by
  simp only [rep]; rw [Nat.add_mul_div_left _ _ (Nat.two_pow_pos k), Nat.div_eq_of_lt h, Nat.zero_add]
/-- A step of the count: base B = 2 ^ (2 j); the halves of each digit are added. -/
def half (j : Nat) (i n : Nat) : Nat := (n &&& rep (2 * j) (2 ^ j - 1) i) + (n / 2 ^ j &&& rep (2 * j) (2 ^ j - 1) i)
theorem half_succ (j i n : Nat) (hj : 0 < j) : half j (i + 1) n = (n % 2 ^ j + n / 2 ^ j % 2 ^ j) + 2 ^ (2 * j) * half j i (n / 2 ^ (2 * j)) := by
  have hd : 2 ^ j - 1 < 2 ^ (2 * j) := by
    have h1 : 2 ^ j ≤ 2 ^ (2 * j) := Nat.pow_le_pow_right (by omega) (by omega)
    have := Nat.two_pow_pos j
    omega
  have hm : ∀ x, x % 2 ^ (2 * j) &&& (2 ^ j - 1) = x % 2 ^ j := fun x => by
    rw [Nat.and_two_pow_sub_one_eq_mod, Nat.mod_mod_of_dvd _ (Nat.pow_dvd_pow 2 (by omega))]
  unfold half
  rw [and_digit (2 * j) n, and_digit (2 * j) (n / 2 ^ j), rep_mod _ _ _ hd, rep_div _ _ _ hd, hm, hm]
  have e : n / 2 ^ j / 2 ^ (2 * j) = n / 2 ^ (2 * j) / 2 ^ j := by rw [Nat.div_div_eq_div_mul, Nat.div_div_eq_div_mul, Nat.mul_comm]
  rw [e, Nat.mul_add]
  omega
theorem half_zero (j n : Nat) : half j 0 n = 0 := by simp [half, rep]
theorem pop_two (n : Nat) : n % 2 + n / 2 % 2 = pop 2 n := by simp [pop]
theorem h1_mod (i n : Nat) : half 1 (i + 1) n % 4 = pop 2 n := by
  rw [half_succ 1 i n (by omega)]
  have : n % 2 ^ 1 + n / 2 ^ 1 % 2 ^ 1 = pop 2 n := pop_two n
  rw [this]
  have := pop_le 2 n
  show (pop 2 n + 4 * _) % 4 = _
  omega
theorem h1_div (i n : Nat) : half 1 (i + 1) n / 4 = half 1 i (n / 4) := by
  rw [half_succ 1 i n (by omega)]
  have : n % 2 ^ 1 + n / 2 ^ 1 % 2 ^ 1 = pop 2 n := pop_two n
  rw [this]
  have := pop_le 2 n
  show (pop 2 n + 4 * half 1 i (n / 4)) / 4 = _
  omega
theorem h2_succ (i n : Nat) : half 2 (i + 1) (half 1 (2 * i + 2) n) = pop 4 n + 16 * half 2 i (half 1 (2 * i) (n / 16)) := by
  rw [half_succ 2 i _ (by omega)]
  show half 1 (2 * i + 1 + 1) n % 4 + half 1 (2 * i + 1 + 1) n / 4 % 4 + 16 * half 2 i (half 1 (2 * i + 1 + 1) n / 16) = _
  have e16 : half 1 (2 * i + 1 + 1) n / 16 = half 1 (2 * i) (n / 16) := by
    rw [show (16 : Nat) = 4 * 4 by rfl, ← Nat.div_div_eq_div_mul, h1_div, h1_div, Nat.div_div_eq_div_mul]
  rw [h1_mod, h1_div, h1_mod, e16]
  have : pop 4 n = pop 2 n + pop 2 (n / 4) := pop_add 2 2 n
  rw [this]
theorem h2_mod (i n : Nat) : half 2 (i + 1) (half 1 (2 * i + 2) n) % 16 = pop 4 n := by
  rw [h2_succ]; have := pop_le 4 n; omega
theorem h2_div (i n : Nat) : half 2 (i + 1) (half 1 (2 * i + 2) n) / 16 = half 2 i (half 1 (2 * i) (n / 16)) := by
  rw [h2_succ]; have := pop_le 4 n; omega
theorem h3_succ (i n : Nat) : half 4 (i + 1) (half 2 (2 * i + 2) (half 1 (4 * i + 4) n)) = pop 8 n + 256 * half 4 i (half 2 (2 * i) (half 1 (4 * i) (n / 256))) := by
  rw [half_succ 4 i _ (by omega), show 4 * i + 4 = 2 * (2 * i + 1) + 2 by omega]
  show half 2 (2 * i + 1 + 1) (half 1 (2 * (2 * i + 1) + 2) n) % 16 + half 2 (2 * i + 1 + 1) (half 1 (2 * (2 * i + 1) + 2) n) / 16 % 16 + 256 * half 4 i (half 2 (2 * i + 1 + 1) (half 1 (2 * (2 * i + 1) + 2) n) / 256) = _
  have e16 : half 2 (2 * i + 1 + 1) (half 1 (2 * (2 * i + 1) + 2) n) / 256 = half 2 (2 * i) (half 1 (4 * i) (n / 256)) := by
    rw [show (256 : Nat) = 16 * 16 by rfl, ← Nat.div_div_eq_div_mul, h2_div]
    show half 2 (2 * i + 1) (half 1 (2 * (2 * i) + 2) (n / 16)) / 16 = _
    rw [h2_div, Nat.div_div_eq_div_mul, show 2 * (2 * i) = 4 * i by omega]
  rw [h2_mod, h2_div]
  show pop 4 n + half 2 (2 * i + 1) (half 1 (2 * (2 * i) + 2) (n / 16)) % 16 + _ = _
  rw [h2_mod, e16]
  have : pop 8 n = pop 4 n + pop 4 (n / 16) := pop_add 4 4 n
  rw [this]
/-- The number behind three steps: its bytes are the counts of the number's bytes. -/
def byt (n : Nat) : Nat := half 4 8 (half 2 16 (half 1 32 n))
theorem byt_eq (n : Nat) : byt n = pop 8 n + 256 * (pop 8 (n / 256) + 256 * (pop 8 (n / 256 / 256) + 256 * (pop 8 (n / 256 / 256 / 256) + 256 * (pop 8 (n / 256 / 256 / 256 / 256) + 256 * (pop 8 (n / 256 / 256 / 256 / 256 / 256) + 256 * (pop 8 (n / 256 / 256 / 256 / 256 / 256 / 256) + 256 * (pop 8 (n / 256 / 256 / 256 / 256 / 256 / 256 / 256)))))))) := by
  unfold byt
  rw [show half 4 8 (half 2 16 (half 1 32 n)) = half 4 (7 + 1) (half 2 (2 * 7 + 2) (half 1 (4 * 7 + 4) n)) from rfl, h3_succ]
  rw [show ∀ m, half 4 7 (half 2 (2 * 7) (half 1 (4 * 7) m)) = half 4 (6 + 1) (half 2 (2 * 6 + 2) (half 1 (4 * 6 + 4) m)) from fun _ => rfl, h3_succ]
  rw [show ∀ m, half 4 6 (half 2 (2 * 6) (half 1 (4 * 6) m)) = half 4 (5 + 1) (half 2 (2 * 5 + 2) (half 1 (4 * 5 + 4) m)) from fun _ => rfl, h3_succ]
  rw [show ∀ m, half 4 5 (half 2 (2 * 5) (half 1 (4 * 5) m)) = half 4 (4 + 1) (half 2 (2 * 4 + 2) (half 1 (4 * 4 + 4) m)) from fun _ => rfl, h3_succ]
  rw [show ∀ m, half 4 4 (half 2 (2 * 4) (half 1 (4 * 4) m)) = half 4 (3 + 1) (half 2 (2 * 3 + 2) (half 1 (4 * 3 + 4) m)) from fun _ => rfl, h3_succ]
  rw [show ∀ m, half 4 3 (half 2 (2 * 3) (half 1 (4 * 3) m)) = half 4 (2 + 1) (half 2 (2 * 2 + 2) (half 1 (4 * 2 + 4) m)) from fun _ => rfl, h3_succ]
  rw [show ∀ m, half 4 2 (half 2 (2 * 2) (half 1 (4 * 2) m)) = half 4 (1 + 1) (half 2 (2 * 1 + 2) (half 1 (4 * 1 + 4) m)) from fun _ => rfl, h3_succ]
  rw [show ∀ m, half 4 1 (half 2 (2 * 1) (half 1 (4 * 1) m)) = half 4 (0 + 1) (half 2 (2 * 0 + 2) (half 1 (4 * 0 + 4) m)) from fun _ => rfl, h3_succ]
  rw [show ∀ m, half 4 0 (half 2 (2 * 0) (half 1 (4 * 0) m)) = 0 from fun _ => half_zero _ _, Nat.mul_zero, Nat.add_zero]
theorem pop64 (n : Nat) : pop 64 n = pop 8 n + (pop 8 (n / 256) + (pop 8 (n / 256 / 256) + (pop 8 (n / 256 / 256 / 256) + (pop 8 (n / 256 / 256 / 256 / 256) + (pop 8 (n / 256 / 256 / 256 / 256 / 256) + (pop 8 (n / 256 / 256 / 256 / 256 / 256 / 256) + pop 8 (n / 256 / 256 / 256 / 256 / 256 / 256 / 256))))))) := by
  rw [show pop 64 n = pop (8 + 56) n from rfl, pop_add 8 56]
  rw [show ∀ m, pop 56 m = pop (8 + 48) m from fun _ => rfl, pop_add 8 48]
  rw [show ∀ m, pop 48 m = pop (8 + 40) m from fun _ => rfl, pop_add 8 40]
  rw [show ∀ m, pop 40 m = pop (8 + 32) m from fun _ => rfl, pop_add 8 32]
  rw [show ∀ m, pop 32 m = pop (8 + 24) m from fun _ => rfl, pop_add 8 24]
  rw [show ∀ m, pop 24 m = pop (8 + 16) m from fun _ => rfl, pop_add 8 16]
  rw [show ∀ m, pop 16 m = pop (8 + 8) m from fun _ => rfl, pop_add 8 8]
theorem dv256 (c q : Nat) (h : c < 256) : (c + 256 * q) / 256 = q := by omega
theorem fold_r (r q q' q'' b b' r' : Nat) (h1 : q + q' = r) (h2 : b + 256 * q' = q) (h3 : b' + 256 * q'' = q') (h4 : q' + q'' = r') : r = (b + b') + 256 * r' := by omega
theorem fold_s (s r r2 r1 r3 c c2 s1 : Nat) (h1 : r + r2 = s) (h2 : r = c + 256 * r1) (h3 : r2 = c2 + 256 * r3) (h4 : r1 + r3 = s1) : s = (c + c2) + 256 * s1 := by omega
theorem fold_b (q b q' B : Nat) (h : b + 256 * q' = q) (hb : b ≤ 8) (hq : q' ≤ B) : q ≤ 8 + 256 * B := by omega
theorem le16 {a b : Nat} (h : a ≤ 8) (h' : b ≤ 8) : a + b < 256 := by omega
theorem le32 {a b c d : Nat} (h : a ≤ 8) (h' : b ≤ 8) (h2 : c ≤ 8) (h3 : d ≤ 8) : a + b + (c + d) < 256 := by omega
theorem last_sum (b0 b1 b2 b3 b4 b5 b6 b7 s0 s1 s4 s5 : Nat) (h0 : b0 ≤ 8) (h1 : b1 ≤ 8) (h2 : b2 ≤ 8) (h3 : b3 ≤ 8) (h4 : b4 ≤ 8) (h5 : b5 ≤ 8) (h6 : b6 ≤ 8) (h7 : b7 ≤ 8) (k0 : s0 = (b0 + b1 + (b2 + b3)) + 256 * s1) (k4 : s4 = (b4 + b5 + (b6 + b7)) + 256 * s5) :
    (s0 + s4) % 256 = b0 + (b1 + (b2 + (b3 + (b4 + (b5 + (b6 + b7)))))) := by
  have : s0 + s4 = (b0 + (b1 + (b2 + (b3 + (b4 + (b5 + (b6 + b7))))))) + 256 * (s1 + s5) := by omega
  rw [this, Nat.add_mul_mod_self_left]
  exact Nat.mod_eq_of_lt (by omega)
theorem two_le {r q q' A B : Nat} (h : q + q' = r) (a : q ≤ A) (b : q' ≤ B) : r ≤ A + B := by omega
attribute [local irreducible] pop byt half
theorem fold8 (b0 b1 b2 b3 b4 b5 b6 b7 x y z : Nat) (h0 : b0 ≤ 8) (h1 : b1 ≤ 8) (h2 : b2 ≤ 8) (h3 : b3 ≤ 8) (h4 : b4 ≤ 8) (h5 : b5 ≤ 8) (h6 : b6 ≤ 8) (h7 : b7 ≤ 8)
    (hx : x = b0 + 256 * (b1 + 256 * (b2 + 256 * (b3 + 256 * (b4 + 256 * (b5 + 256 * (b6 + 256 * b7))))))) (hy : y = x + x / 256) (hz : z = y + y / 65536) :
    (z + z / 4294967296) % 256 = b0 + (b1 + (b2 + (b3 + (b4 + (b5 + (b6 + b7)))))) ∧ x < 1000000000000000000 ∧ y < 2000000000000000000 ∧ z < 4000000000000000000 := by
  obtain ⟨q7, hq7⟩ : ∃ q, b7 + 256 * 0 = q := ⟨_, rfl⟩
  obtain ⟨q6, hq6⟩ : ∃ q, b6 + 256 * q7 = q := ⟨_, rfl⟩
  obtain ⟨q5, hq5⟩ : ∃ q, b5 + 256 * q6 = q := ⟨_, rfl⟩
  obtain ⟨q4, hq4⟩ : ∃ q, b4 + 256 * q5 = q := ⟨_, rfl⟩
  obtain ⟨q3, hq3⟩ : ∃ q, b3 + 256 * q4 = q := ⟨_, rfl⟩
  obtain ⟨q2, hq2⟩ : ∃ q, b2 + 256 * q3 = q := ⟨_, rfl⟩
  obtain ⟨q1, hq1⟩ : ∃ q, b1 + 256 * q2 = q := ⟨_, rfl⟩
  obtain ⟨q0, hq0⟩ : ∃ q, b0 + 256 * q1 = q := ⟨_, rfl⟩
  have hxq : x = q0 := by rw [hx, ← hq0, ← hq1, ← hq2, ← hq3, ← hq4, ← hq5, ← hq6, ← hq7, Nat.mul_zero, Nat.add_zero]
  have u7 : q7 ≤ 8 := fold_b _ b7 0 0 hq7 h7 (Nat.le_refl 0)
  have u6 : q6 ≤ 2056 := fold_b _ b6 q7 8 hq6 h6 u7
  have u5 : q5 ≤ 526344 := fold_b _ b5 q6 2056 hq5 h5 u6
  have u4 : q4 ≤ 134744072 := fold_b _ b4 q5 526344 hq4 h4 u5
  have u3 : q3 ≤ 34494482440 := fold_b _ b3 q4 134744072 hq3 h3 u4
  have u2 : q2 ≤ 8830587504648 := fold_b _ b2 q3 34494482440 hq2 h2 u3
  have u1 : q1 ≤ 2260630401189896 := fold_b _ b1 q2 8830587504648 hq1 h1 u2
  have u0 : q0 ≤ 578721382704613384 := fold_b _ b0 q1 2260630401189896 hq0 h0 u1
  have e1 : x / 256 = q1 := by rw [hxq, ← hq0]; exact dv256 _ _ (by omega)
  rw [e1, hxq] at hy
  obtain ⟨r0, hr0⟩ : ∃ r, q0 + q1 = r := ⟨_, rfl⟩
  obtain ⟨r1, hr1⟩ : ∃ r, q1 + q2 = r := ⟨_, rfl⟩
  obtain ⟨r2, hr2⟩ : ∃ r, q2 + q3 = r := ⟨_, rfl⟩
  obtain ⟨r3, hr3⟩ : ∃ r, q3 + q4 = r := ⟨_, rfl⟩
  obtain ⟨r4, hr4⟩ : ∃ r, q4 + q5 = r := ⟨_, rfl⟩
  obtain ⟨r5, hr5⟩ : ∃ r, q5 + q6 = r := ⟨_, rfl⟩
  obtain ⟨r6, hr6⟩ : ∃ r, q6 + q7 = r := ⟨_, rfl⟩
  obtain ⟨r7, hr7⟩ : ∃ r, q7 + 0 = r := ⟨_, rfl⟩
  rw [hr0] at hy
  have f0 := fold_r r0 q0 q1 q2 b0 b1 r1 hr0 hq0 hq1 hr1
  have f1 := fold_r r1 q1 q2 q3 b1 b2 r2 hr1 hq1 hq2 hr2
  have f2 := fold_r r2 q2 q3 q4 b2 b3 r3 hr2 hq2 hq3 hr3
  have f3 := fold_r r3 q3 q4 q5 b3 b4 r4 hr3 hq3 hq4 hr4
  have f4 := fold_r r4 q4 q5 q6 b4 b5 r5 hr4 hq4 hq5 hr5
  have f5 := fold_r r5 q5 q6 q7 b5 b6 r6 hr5 hq5 hq6 hr6
  have f6 := fold_r r6 q6 q7 0 b6 b7 r7 hr6 hq6 hq7 hr7
  have f7 : r7 = (b7 + 0) + 256 * 0 := by rw [← hr7, ← hq7]
  have g0 : r0 / 256 = r1 := by rw [f0]; exact dv256 _ _ (le16 h0 h1)
  have g1 : r1 / 256 = r2 := by rw [f1]; exact dv256 _ _ (le16 h1 h2)
  have e2 : y / 65536 = r2 := by rw [hy, show (65536 : Nat) = 256 * 256 by rfl, ← Nat.div_div_eq_div_mul, g0, g1]
  rw [e2, hy] at hz
  obtain ⟨s0, hs0⟩ : ∃ s, r0 + r2 = s := ⟨_, rfl⟩
  obtain ⟨s1, hs1⟩ : ∃ s, r1 + r3 = s := ⟨_, rfl⟩
  obtain ⟨s2, hs2⟩ : ∃ s, r2 + r4 = s := ⟨_, rfl⟩
  obtain ⟨s3, hs3⟩ : ∃ s, r3 + r5 = s := ⟨_, rfl⟩
  obtain ⟨s4, hs4⟩ : ∃ s, r4 + r6 = s := ⟨_, rfl⟩
  obtain ⟨s5, hs5⟩ : ∃ s, r5 + r7 = s := ⟨_, rfl⟩
  rw [hs0] at hz
  have k0 := fold_s s0 r0 r2 r1 r3 (b0 + b1) (b2 + b3) s1 hs0 f0 f2 hs1
  have k1 := fold_s s1 r1 r3 r2 r4 (b1 + b2) (b3 + b4) s2 hs1 f1 f3 hs2
  have k2 := fold_s s2 r2 r4 r3 r5 (b2 + b3) (b4 + b5) s3 hs2 f2 f4 hs3
  have k3 := fold_s s3 r3 r5 r4 r6 (b3 + b4) (b5 + b6) s4 hs3 f3 f5 hs4
  have k4 := fold_s s4 r4 r6 r5 r7 (b4 + b5) (b6 + b7) s5 hs4 f4 f6 hs5
  have l0 : s0 / 256 = s1 := by rw [k0]; exact dv256 _ _ (le32 h0 h1 h2 h3)
  have l1 : s1 / 256 = s2 := by rw [k1]; exact dv256 _ _ (le32 h1 h2 h3 h4)
  have l2 : s2 / 256 = s3 := by rw [k2]; exact dv256 _ _ (le32 h2 h3 h4 h5)
  have l3 : s3 / 256 = s4 := by rw [k3]; exact dv256 _ _ (le32 h3 h4 h5 h6)
  have e3 : z / 4294967296 = s4 := by rw [hz, show (4294967296 : Nat) = 256 * 256 * 256 * 256 by rfl, ← Nat.div_div_eq_div_mul, ← Nat.div_div_eq_div_mul, ← Nat.div_div_eq_div_mul, l0, l1, l2, l3]
  rw [e3, hz]
  have v0 := two_le hr0 u0 u1
  have v2 := two_le hr2 u2 u3
  have v3 := two_le hs0 v0 v2
  refine ⟨last_sum b0 b1 b2 b3 b4 b5 b6 b7 s0 s1 s4 s5 h0 h1 h2 h3 h4 h5 h6 h7 k0 k4, ?_, ?_, ?_⟩
  · rw [hxq]; exact Nat.lt_of_le_of_lt u0 (by decide)
  · rw [hy]; exact Nat.lt_of_le_of_lt v0 (by decide)
  · exact Nat.lt_of_le_of_lt v3 (by decide)
theorem count_bits (n y z : Nat) (hy : y = byt n + byt n / 256) (hz : z = y + y / 65536) : (z + z / 4294967296) % 256 = pop 64 n ∧ byt n < 1000000000000000000 ∧ y < 2000000000000000000 ∧ z < 4000000000000000000 := by
  have := fold8 (pop 8 n) (pop 8 (n / 256)) (pop 8 (n / 256 / 256)) (pop 8 (n / 256 / 256 / 256)) (pop 8 (n / 256 / 256 / 256 / 256)) (pop 8 (n / 256 / 256 / 256 / 256 / 256)) (pop 8 (n / 256 / 256 / 256 / 256 / 256 / 256)) (pop 8 (n / 256 / 256 / 256 / 256 / 256 / 256 / 256)) (byt n) y z (pop_le 8 _) (pop_le 8 _) (pop_le 8 _) (pop_le 8 _) (pop_le 8 _) (pop_le 8 _) (pop_le 8 _) (pop_le 8 _) (byt_eq n) hy hz
  rw [pop64 n]; exact this
end Go.Proofs.Ytcgogcolfbpcfaa
