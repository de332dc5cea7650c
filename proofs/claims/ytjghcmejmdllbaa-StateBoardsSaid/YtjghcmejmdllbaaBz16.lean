/- Contracts of layer 1's readings of short forms: both read what gs says; the bounds stand in each. Short forms' bounds; a slice's reading from some place on; no condition. Layer 7's Reader (body), whatever is wrong: what it answers, as a function of the bytes that are left and of what stopped it; num, fail, Err, End; the bounds stand in each. Layer 7's Reader (body), whatever is wrong: Bytes, and what stands round each reading (whole); the bounds stand in each. -/
import Derived.Test.YtjghcmejmdllbaaBz15
import Derived.Test.YtjghcmejmdllbaaBz2
import Derived.Test.YtjghcmejmdllbaaBz3
import Derived.Test.YtjghcmejmdllbaaBz4
import Derived.Test.YtjghcmejmdllbaaBz6
import Derived.Defers
namespace Go.Proofs.Ytjghcmejmdllbaa
open Go.ChangeShapes Go.WideShapes Go.ChangeAt Go.RowKit
set_option linter.unusedVariables false
set_option linter.unusedSimpArgs false
/-- What is read from place i on, f steps at most. -/
def gs (l : List Nat) : Nat → Nat → Nat → Nat × Nat × Nat
  | 0, _, _ => (0, 0, 2)
  | f + 1, i, n =>
    if l.length ≤ i then (0, 0, 2)
    else if i = 9 ∧ 1 < l.getD i 0 then (0, 0, 5)
    else if l.getD i 0 < 128 then (if l.getD i 0 = 0 ∧ 0 < i then (0, 0, 5) else (n + l.getD i 0 % 128 * 2 ^ (7 * i), i + 1, 0))
    else gs l f (i + 1) (n + l.getD i 0 % 128 * 2 ^ (7 * i))
theorem gs_end {l : List Nat} {f i n : Nat} (h : l.length ≤ i) : gs l f i n = (0, 0, 2) := by
  cases f with
  | zero => rfl
  | succ f => rw [gs, if_pos h]
theorem gs_big {l : List Nat} {f i n : Nat} (h : i < l.length) (h9 : i = 9) (hc : 1 < l.getD i 0) : gs l (f + 1) i n = (0, 0, 5) := by
  rw [gs, if_neg (by omega), if_pos ⟨h9, hc⟩]
theorem gs_zero {l : List Nat} {f i n : Nat} (h : i < l.length) (h9 : ¬ (i = 9 ∧ 1 < l.getD i 0)) (hc : l.getD i 0 = 0) (hi : 0 < i) : gs l (f + 1) i n = (0, 0, 5) := by
  rw [gs, if_neg (by omega), if_neg h9, if_pos (by omega), if_pos ⟨hc, hi⟩]
theorem gs_last {l : List Nat} {f i n : Nat} (h : i < l.length) (h9 : ¬ (i = 9 ∧ 1 < l.getD i 0)) (hc : l.getD i 0 < 128) (hz : ¬ (l.getD i 0 = 0 ∧ 0 < i)) : gs l (f + 1) i n = (n + l.getD i 0 % 128 * 2 ^ (7 * i), i + 1, 0) := by
  rw [gs, if_neg (by omega), if_neg h9, if_pos hc, if_neg hz]
theorem gs_more {l : List Nat} {f i n : Nat} (h : i < l.length) (h9 : ¬ (i = 9 ∧ 1 < l.getD i 0)) (hc : ¬ l.getD i 0 < 128) : gs l (f + 1) i n = gs l f (i + 1) (n + l.getD i 0 % 128 * 2 ^ (7 * i)) := by
  rw [gs, if_neg (by omega), if_neg h9, if_neg hc]
theorem and127 (x : Nat) (h : x < 256) : bits .and .u8 (x : Int) 127 = ((x % 128 : Nat) : Int) := by
  have := (by decide +kernel : ∀ x : Fin 256, bits .and .u8 ((x.val : Nat) : Int) 127 = ((x.val % 128 : Nat) : Int))
  exact this ⟨x, h⟩
theorem or_at (n y k : Nat) (hn : n < 2 ^ k) (h : n + y * 2 ^ k < 18446744073709551616) : bits .or .u64 (n : Int) ((y : Int) * 2 ^ k) = ((n + y * 2 ^ k : Nat) : Int) := by
  have e : ((y : Int) * 2 ^ k) = ((y * 2 ^ k : Nat) : Int) := by push_cast; rfl
  rw [e]
  have h1 : n < 18446744073709551616 := by omega
  have h2 : y * 2 ^ k < 18446744073709551616 := by omega
  have := Nat.shiftLeft_add_eq_or_of_lt hn y
  rw [Nat.shiftLeft_eq] at this
  rw [bits_or_u64_nat _ _ h1 h2, Nat.or_comm, ← this, Nat.add_comm]
theorem sh_small (n y k : Nat) (hk : k ≤ 9) (hn : n < 2 ^ (7 * k)) (hy : y < 128) (h9 : k = 9 → y ≤ 1) : n + y * 2 ^ (7 * k) < 2 ^ (7 * (k + 1)) ∧ n + y * 2 ^ (7 * k) < 18446744073709551616 := by
  have e : (2 : Nat) ^ (7 * (k + 1)) = 128 * 2 ^ (7 * k) := by rw [show 7 * (k + 1) = 7 + 7 * k by omega, Nat.pow_add]
  have m1 : y * 2 ^ (7 * k) ≤ 127 * 2 ^ (7 * k) := Nat.mul_le_mul_right _ (by omega)
  have h1 : n + y * 2 ^ (7 * k) < 2 ^ (7 * (k + 1)) := by omega
  refine ⟨h1, ?_⟩
  rcases Nat.lt_or_ge k 9 with h | h
  · have : (2 : Nat) ^ (7 * (k + 1)) ≤ 2 ^ 63 := Nat.pow_le_pow_right (by omega) (by omega)
    omega
  · obtain rfl : k = 9 := by omega
    have m2 : y * 2 ^ (7 * 9) ≤ 1 * 2 ^ (7 * 9) := Nat.mul_le_mul_right _ (h9 rfl)
    omega
set_option maxRecDepth 100000 in
set_option maxHeartbeats 1000000 in
theorem getshort_ok (v : Value) (l : List Nat) (hl : l.length ≤ 1000000) (hx : ∀ x ∈ l, x < 256) (w : World) (hs : Sl w 1 l.length v (elB l)) (a b c : Nat) (hr : gs l 10 0 0 = (a, b, c)) :
    Calls Try.prog 139 #[v] w (Ret fun v w' => v = .tuple #[.int .u64 (a : Int), .int .i64 (b : Int), .int .i64 (c : Int)] ∧ Below w.heap.size w w') := by
  have hs' := hs
  obtain ⟨ad, cp, rfl, hm⟩ := hs'.len
  have H := St.init w
  have HX := Lib.hid hx
  have HR := Lib.hid hr
  clear hx hr
  go_enter Try.func139, Try.ntmps139
  go_wp2_with (first | (with_reducible refine wpl rfl (ldQ (ty := 5) rfl ?_); first | (with_reducible refine (Stp.ldo rfl agg5 rfl H (by assumption) (by assumption) ?_); simp only [pS]) | (with_reducible refine (Stp.ldc rfl agg5 rfl H mR cE ?_); simp only [pS])))
  go_loopw [9, 2] (fun i x wr => ∃ k n : Nat, k ≤ l.length ∧ k ≤ 9 ∧ x = .int .u64 (n : Int) ∧ i = .int .i64 (k : Int) ∧ Hid (n < 2 ^ (7 * k)) ∧ Hid (gs l (10 - k) k n = (a, b, c)) ∧ St w.heap.size w wr []) (fun i _ _ => l.length - (intOf i).toNat)
  case atStart => exact ⟨0, 0, Nat.zero_le _, by omega, rfl, rfl, Lib.hid (by decide), HR, H⟩
  case round =>
    clear H
    obtain ⟨k, n, hk, hk9, rfl, rfl, HN, HG, H⟩ := hrel
    by_cases hlt : k < l.length
    · obtain ⟨b1, o1, rfl, hb1, hc1⟩ := hs.byte hlt
      obtain ⟨y, hy⟩ : ∃ y : Nat, y = l.getD k 0 := ⟨_, rfl⟩
      have hy8 : y < 256 := by rw [hy]; exact getD_byte HX.out k
      rw [← hy] at hc1
      have ea := and127 y hy8
      have ef : 10 - k = (9 - k) + 1 := by omega
      have HF := Lib.hid ef
      clear ef
      have HY := Lib.hid hy
      clear hy
      by_cases e9 : k = 9
      · subst e9
        have y3 : y = 0 ∨ y = 1 ∨ 1 < y := by omega
        rcases y3 with rfl | rfl | h9y
        · have hh := HG.out
          rw [HF.out, gs_zero hlt (by rw [← HY.out]; omega) HY.out.symm (by omega)] at hh
          cases hh
          go_wp2_with (first | (with_reducible refine wpl rfl (ldQ (ty := 5) rfl ?_); first | (with_reducible refine (Stp.ldo rfl agg5 rfl H (by assumption) (by assumption) ?_); simp only [pS]) | (with_reducible refine (Stp.ldc rfl agg5 rfl H mR cE ?_); simp only [pS])))
          go_ret3
          exact ⟨_, rfl, rfl, H.below⟩
        · have hh := HG.out
          rw [HF.out, gs_last hlt (by rw [← HY.out]; omega) (by rw [← HY.out]; omega) (by rw [← HY.out]; omega), ← HY.out] at hh
          cases hh
          have hs9 := sh_small n 1 9 (by omega) HN.out (by omega) (by omega)
          have ho9 := or_at n 1 (7 * 9) HN.out hs9.2
          have ho : bits .or .u64 (n : Int) 9223372036854775808 = (n : Int) + 9223372036854775808 := by simpa using ho9
          have HSM := Lib.hid hs9
          clear ho9 hs9
          have e1 : bits .and .u8 1 127 = 1 := by decide +kernel
          go_wp2_with (first | (with_reducible refine wpl rfl (ldQ (ty := 5) rfl ?_); first | (with_reducible refine (Stp.ldo rfl agg5 rfl H (by assumption) (by assumption) ?_); simp only [pS]) | (with_reducible refine (Stp.ldc rfl agg5 rfl H mR cE ?_); simp only [pS])))
          go_ret3
          exact ⟨_, rfl, rfl, H.below⟩
        · have hh := HG.out
          rw [HF.out, gs_big hlt rfl (by rw [← HY.out]; exact h9y)] at hh
          have h1y : (1 : Int) < (y : Int) := by omega
          cases hh
          go_wp2_with (first | (with_reducible refine wpl rfl (ldQ (ty := 5) rfl ?_); first | (with_reducible refine (Stp.ldo rfl agg5 rfl H (by assumption) (by assumption) ?_); simp only [pS]) | (with_reducible refine (Stp.ldc rfl agg5 rfl H mR cE ?_); simp only [pS])))
          go_ret3
          exact ⟨_, rfl, rfl, H.below⟩
      · have h9' : ¬(k = 9 ∧ 1 < l.getD k 0) := fun h => e9 h.1
        have hsm := sh_small n (y % 128) k hk9 HN.out (Nat.mod_lt _ (by omega)) (fun h => absurd h e9)
        have ho := or_at n (y % 128) (7 * k) HN.out hsm.2
        have ow : IntKind.u64.wrap ((y : Int) % 128 * 2 ^ (7 * k)) = ((y % 128 : Nat) : Int) * 2 ^ (7 * k) := by
          have e : ((y : Int) % 128 * 2 ^ (7 * k)) = ((y % 128 * 2 ^ (7 * k) : Nat) : Int) := by push_cast; rfl
          have e' : ((y % 128 : Nat) : Int) * 2 ^ (7 * k) = ((y % 128 * 2 ^ (7 * k) : Nat) : Int) := by push_cast; rfl
          rw [e, e']
          exact wrap_u64_in _ (by omega) (by have := hsm.2; omega)
        rw [← ow] at ho
        have HO := Lib.hid ho
        have HSM := Lib.hid hsm
        clear ho hsm ow
        have H9 := Lib.hid h9'
        clear h9'
        have e9i : ¬ (k : Int) = 9 := by omega
        have eu : IntKind.u64.wrap (k : Int) = (k : Int) := wrap_u64_in _ (by omega) (by omega)
        have eu7 : IntKind.u64.wrap (7 * (k : Int)) = 7 * (k : Int) := wrap_u64_in _ (by omega) (by omega)
        have et : (7 * (k : Int)).toNat = 7 * k := by omega
        by_cases hz : y = 0 ∧ 0 < k
        · have hh := HG.out
          rw [HF.out, gs_zero hlt H9.out (by rw [← HY.out]; exact hz.1) hz.2] at hh
          obtain ⟨rfl, hk0⟩ := hz
          have hk0i : (0 : Int) < (k : Int) := by omega
          cases hh
          go_wp2_with (first | (with_reducible refine wpl rfl (ldQ (ty := 5) rfl ?_); first | (with_reducible refine (Stp.ldo rfl agg5 rfl H (by assumption) (by assumption) ?_); simp only [pS]) | (with_reducible refine (Stp.ldc rfl agg5 rfl H mR cE ?_); simp only [pS])))
          go_ret3
          exact ⟨_, rfl, rfl, H.below⟩
        · by_cases hc : y < 128
          · have hci : (y : Int) < 128 := by omega
            have hh := HG.out
            rw [HF.out, gs_last hlt H9.out (by rw [← HY.out]; exact hc) (by rw [← HY.out]; exact hz), ← HY.out] at hh
            cases hh
            by_cases hy0 : y = 0
            · obtain rfl : k = 0 := by omega
              subst hy0
              rw [Nat.add_zero] at hc1
              obtain rfl : n = 0 := by have := HN.out; simp at this; omega
              clear ea eu eu7 et
              go_wp2_with (first | (with_reducible refine wpl rfl (ldQ (ty := 5) rfl ?_); first | (with_reducible refine (Stp.ldo rfl agg5 rfl H (by assumption) (by assumption) ?_); simp only [pS]) | (with_reducible refine (Stp.ldc rfl agg5 rfl H mR cE ?_); simp only [pS])))
              go_ret3
              exact ⟨_, rfl, rfl, H.below⟩
            · have hy0i : ¬ (y : Int) = 0 := by omega
              go_wp2_with (first | (with_reducible refine wpl rfl (ldQ (ty := 5) rfl ?_); first | (with_reducible refine (Stp.ldo rfl agg5 rfl H (by assumption) (by assumption) ?_); simp only [pS]) | (with_reducible refine (Stp.ldc rfl agg5 rfl H mR cE ?_); simp only [pS])))
              go_ret3
              refine ⟨_, rfl, ?_, H.below⟩
              rw [← HO.out]
              rfl
          · have hci : ¬ (y : Int) < 128 := by omega
            go_wp2_with (first | (with_reducible refine wpl rfl (ldQ (ty := 5) rfl ?_); first | (with_reducible refine (Stp.ldo rfl agg5 rfl H (by assumption) (by assumption) ?_); simp only [pS]) | (with_reducible refine (Stp.ldc rfl agg5 rfl H mR cE ?_); simp only [pS])))
            go_roundw
            case rel =>
              refine ⟨k + 1, n + y % 128 * 2 ^ (7 * k), by omega, by omega, by rw [HO.out], by go_num, Lib.hid HSM.out.1, Lib.hid ?_, H⟩
              have hh := HG.out
              rw [HF.out, gs_more hlt H9.out (by rw [← HY.out]; exact hc), ← HY.out] at hh
              rw [show 10 - (k + 1) = 9 - k by omega]
              exact hh
            case measure => simp [intOf]; omega
    · obtain rfl : k = l.length := by omega
      have hh := HG.out
      rw [gs_end (Nat.le_refl _)] at hh
      cases hh
      go_wp2_with (first | (with_reducible refine wpl rfl (ldQ (ty := 5) rfl ?_); first | (with_reducible refine (Stp.ldo rfl agg5 rfl H (by assumption) (by assumption) ?_); simp only [pS]) | (with_reducible refine (Stp.ldc rfl agg5 rfl H mR cE ?_); simp only [pS])))
      go_ret3
      exact ⟨_, rfl, rfl, H.below⟩
set_option maxRecDepth 100000 in
set_option maxHeartbeats 1000000 in
theorem rgetshort_ok (v : Value) (l : List Nat) (hl : l.length ≤ 1000000) (hx : ∀ x ∈ l, x < 256) (w : World) (hs : Sl w 1 l.length v (elB l)) (a b c : Nat) (hr : gs l 10 0 0 = (a, b, c)) :
    Calls Try.prog 140 #[v] w (Ret fun v w' => v = .tuple #[.int .u64 (a : Int), .int .i64 (b : Int), .int .i64 (c : Int)] ∧ Below w.heap.size w w') := by
  have hs' := hs
  obtain ⟨ad, cp, rfl, hm⟩ := hs'.len
  have H := St.init w
  have HX := Lib.hid hx
  have HR := Lib.hid hr
  clear hx hr
  go_enter Try.func140, Try.ntmps140
  go_wp2_with (first | (with_reducible refine wpl rfl (ldQ (ty := 5) rfl ?_); first | (with_reducible refine (Stp.ldo rfl agg5 rfl H (by assumption) (by assumption) ?_); simp only [pS]) | (with_reducible refine (Stp.ldc rfl agg5 rfl H mR cE ?_); simp only [pS])))
  go_loopw [7, 5, 6] (fun i x u wr => ∃ k n : Nat, k ≤ l.length ∧ k ≤ 9 ∧ u = .int .u64 (((2 ^ (7 * k) : Nat)) : Int) ∧ x = .int .u64 (n : Int) ∧ i = .int .i64 (k : Int) ∧ Hid (n < 2 ^ (7 * k)) ∧ Hid (gs l (10 - k) k n = (a, b, c)) ∧ St w.heap.size w wr []) (fun i _ _ _ => l.length - (intOf i).toNat)
  case atStart => exact ⟨0, 0, Nat.zero_le _, by omega, rfl, rfl, rfl, Lib.hid (by decide), HR, H⟩
  case round =>
    clear H
    obtain ⟨k, n, hk, hk9, rfl, rfl, rfl, HN, HG, H⟩ := hrel
    have k10 : (k : Int) < 10 := by omega
    by_cases hlt : k < l.length
    · obtain ⟨b1, o1, rfl, hb1, hc1⟩ := hs.byte hlt
      obtain ⟨y, hy⟩ : ∃ y : Nat, y = l.getD k 0 := ⟨_, rfl⟩
      have hy8 : y < 256 := by rw [hy]; exact getD_byte HX.out k
      rw [← hy] at hc1
      have ea := and127 y hy8
      have ef : 10 - k = (9 - k) + 1 := by omega
      have HF := Lib.hid ef
      clear ef
      have HY := Lib.hid hy
      clear hy
      by_cases e9 : k = 9
      · subst e9
        have y3 : y = 0 ∨ y = 1 ∨ 1 < y := by omega
        rcases y3 with rfl | rfl | h9y
        · have hh := HG.out
          rw [HF.out, gs_zero hlt (by rw [← HY.out]; omega) HY.out.symm (by omega)] at hh
          cases hh
          go_wp2_with (first | (with_reducible refine wpl rfl (ldQ (ty := 5) rfl ?_); first | (with_reducible refine (Stp.ldo rfl agg5 rfl H (by assumption) (by assumption) ?_); simp only [pS]) | (with_reducible refine (Stp.ldc rfl agg5 rfl H mR cE ?_); simp only [pS])))
          go_ret3
          exact ⟨_, rfl, rfl, H.below⟩
        · have hh := HG.out
          rw [HF.out, gs_last hlt (by rw [← HY.out]; omega) (by rw [← HY.out]; omega) (by rw [← HY.out]; omega), ← HY.out] at hh
          cases hh
          have hs9 := sh_small n 1 9 (by omega) HN.out (by omega) (by omega)
          have ho : IntKind.u64.wrap ((n : Int) + 9223372036854775808) = (n : Int) + 9223372036854775808 := wrap_u64_in _ (by omega) (by have := hs9.2; omega)
          have HSM := Lib.hid hs9
          clear hs9
          have e1 : bits .and .u8 1 127 = 1 := by decide +kernel
          go_wp2_with (first | (with_reducible refine wpl rfl (ldQ (ty := 5) rfl ?_); first | (with_reducible refine (Stp.ldo rfl agg5 rfl H (by assumption) (by assumption) ?_); simp only [pS]) | (with_reducible refine (Stp.ldc rfl agg5 rfl H mR cE ?_); simp only [pS])))
          go_ret3
          exact ⟨_, rfl, rfl, H.below⟩
        · have hh := HG.out
          rw [HF.out, gs_big hlt rfl (by rw [← HY.out]; exact h9y)] at hh
          have h1y : (1 : Int) < (y : Int) := by omega
          cases hh
          go_wp2_with (first | (with_reducible refine wpl rfl (ldQ (ty := 5) rfl ?_); first | (with_reducible refine (Stp.ldo rfl agg5 rfl H (by assumption) (by assumption) ?_); simp only [pS]) | (with_reducible refine (Stp.ldc rfl agg5 rfl H mR cE ?_); simp only [pS])))
          go_ret3
          exact ⟨_, rfl, rfl, H.below⟩
      · have h9' : ¬(k = 9 ∧ 1 < l.getD k 0) := fun h => e9 h.1
        have hsm := sh_small n (y % 128) k hk9 HN.out (Nat.mod_lt _ (by omega)) (fun h => absurd h e9)
        have ho : IntKind.u64.wrap ((n : Int) + IntKind.u64.wrap ((y : Int) % 128 * 2 ^ (7 * k))) = ((n + y % 128 * 2 ^ (7 * k) : Nat) : Int) := by
          have e : ((y : Int) % 128 * 2 ^ (7 * k)) = ((y % 128 * 2 ^ (7 * k) : Nat) : Int) := by push_cast; rfl
          have := hsm.2
          rw [e, wrap_u64_in (((y % 128 * 2 ^ (7 * k) : Nat)) : Int) (by omega) (by omega), wrap_u64_in _ (by omega) (by omega)]
          push_cast; rfl
        have hu : IntKind.u64.wrap ((2 : Int) ^ (7 * k) * 128) = ((2 ^ (7 * (k + 1)) : Nat) : Int) := by
          have e : ((2 : Int) ^ (7 * k) * 128) = ((2 ^ (7 * (k + 1)) : Nat) : Int) := by
            rw [show 7 * (k + 1) = 7 * k + 7 by omega, Nat.pow_add]; push_cast; rfl
          have h2 : (2 : Nat) ^ (7 * (k + 1)) ≤ 2 ^ 63 := Nat.pow_le_pow_right (by omega) (by omega)
          rw [e]
          exact wrap_u64_in _ (by omega) (by omega)
        have HU := Lib.hid hu
        clear hu
        have HO := Lib.hid ho
        have HSM := Lib.hid hsm
        clear ho hsm
        have H9 := Lib.hid h9'
        clear h9'
        have e9i : ¬ (k : Int) = 9 := by omega
        have eu : IntKind.u64.wrap (k : Int) = (k : Int) := wrap_u64_in _ (by omega) (by omega)
        have eu7 : IntKind.u64.wrap (7 * (k : Int)) = 7 * (k : Int) := wrap_u64_in _ (by omega) (by omega)
        have et : (7 * (k : Int)).toNat = 7 * k := by omega
        by_cases hz : y = 0 ∧ 0 < k
        · have hh := HG.out
          rw [HF.out, gs_zero hlt H9.out (by rw [← HY.out]; exact hz.1) hz.2] at hh
          obtain ⟨rfl, hk0⟩ := hz
          have hk0i : (0 : Int) < (k : Int) := by omega
          cases hh
          go_wp2_with (first | (with_reducible refine wpl rfl (ldQ (ty := 5) rfl ?_); first | (with_reducible refine (Stp.ldo rfl agg5 rfl H (by assumption) (by assumption) ?_); simp only [pS]) | (with_reducible refine (Stp.ldc rfl agg5 rfl H mR cE ?_); simp only [pS])))
          go_ret3
          exact ⟨_, rfl, rfl, H.below⟩
        · by_cases hc : y < 128
          · have hci : (y : Int) < 128 := by omega
            have hh := HG.out
            rw [HF.out, gs_last hlt H9.out (by rw [← HY.out]; exact hc) (by rw [← HY.out]; exact hz), ← HY.out] at hh
            cases hh
            by_cases hy0 : y = 0
            · obtain rfl : k = 0 := by omega
              subst hy0
              rw [Nat.add_zero] at hc1
              obtain rfl : n = 0 := by have := HN.out; simp at this; omega
              clear ea eu eu7 et
              go_wp2_with (first | (with_reducible refine wpl rfl (ldQ (ty := 5) rfl ?_); first | (with_reducible refine (Stp.ldo rfl agg5 rfl H (by assumption) (by assumption) ?_); simp only [pS]) | (with_reducible refine (Stp.ldc rfl agg5 rfl H mR cE ?_); simp only [pS])))
              go_ret3
              exact ⟨_, rfl, rfl, H.below⟩
            · have hy0i : ¬ (y : Int) = 0 := by omega
              go_wp2_with (first | (with_reducible refine wpl rfl (ldQ (ty := 5) rfl ?_); first | (with_reducible refine (Stp.ldo rfl agg5 rfl H (by assumption) (by assumption) ?_); simp only [pS]) | (with_reducible refine (Stp.ldc rfl agg5 rfl H mR cE ?_); simp only [pS])))
              go_ret3
              refine ⟨_, rfl, ?_, H.below⟩
              rw [← HO.out]
              rfl
          · have hci : ¬ (y : Int) < 128 := by omega
            go_wp2_with (first | (with_reducible refine wpl rfl (ldQ (ty := 5) rfl ?_); first | (with_reducible refine (Stp.ldo rfl agg5 rfl H (by assumption) (by assumption) ?_); simp only [pS]) | (with_reducible refine (Stp.ldc rfl agg5 rfl H mR cE ?_); simp only [pS])))
            go_roundw
            case rel =>
              refine ⟨k + 1, n + y % 128 * 2 ^ (7 * k), by omega, by omega, by rw [HU.out], by rw [HO.out], by go_num, Lib.hid HSM.out.1, Lib.hid ?_, H⟩
              have hh := HG.out
              rw [HF.out, gs_more hlt H9.out (by rw [← HY.out]; exact hc), ← HY.out] at hh
              rw [show 10 - (k + 1) = 9 - k by omega]
              exact hh
            case measure => simp [intOf]; omega
    · obtain rfl : k = l.length := by omega
      have hh := HG.out
      rw [gs_end (Nat.le_refl _)] at hh
      cases hh
      go_wp2_with (first | (with_reducible refine wpl rfl (ldQ (ty := 5) rfl ?_); first | (with_reducible refine (Stp.ldo rfl agg5 rfl H (by assumption) (by assumption) ?_); simp only [pS]) | (with_reducible refine (Stp.ldc rfl agg5 rfl H mR cE ?_); simp only [pS])))
      go_ret3
      exact ⟨_, rfl, rfl, H.below⟩
theorem getDB_at (pre : List Nat) (x : Nat) (t : List Nat) : (pre ++ x :: t).getD pre.length 0 = x := by simp [List.getD]
theorem gs_short (behind : List Nat) : ∀ (f i m acc : Nat) (pre : List Nat), pre.length = i → i + f = 9 → m < 2 ^ (64 - 7 * i) → (0 < i → m ≠ 0) →
    gs (pre ++ (shortF f m ++ behind)) (f + 1) i acc = (acc + m * 2 ^ (7 * i), i + (shortF f m).length, 0) := by
  have small : ∀ (f i m acc : Nat) (pre : List Nat), pre.length = i → i + f = 9 → m < 2 ^ (64 - 7 * i) → (0 < i → m ≠ 0) → m < 128 →
      gs (pre ++ (shortF f m ++ behind)) (f + 1) i acc = (acc + m * 2 ^ (7 * i), i + (shortF f m).length, 0) := by
    intro f i m acc pre hp hi hm hz h
    subst hp
    have e1 : shortF f m = [m] := by rw [shortF_small _ _ h, Nat.mod_eq_of_lt (by omega)]
    rw [e1]
    have e2 : (pre ++ ([m] ++ behind)).getD pre.length 0 = m := getDB_at pre m behind
    have hl : pre.length < (pre ++ ([m] ++ behind)).length := by simp
    rw [gs_last hl (by
      rw [e2]; rintro ⟨h9, h1⟩
      rw [h9] at hm
      have : (2 : Nat) ^ (64 - 7 * 9) = 2 := by decide
      omega) (by rw [e2]; exact h) (by rw [e2]; rintro ⟨h0, h1⟩; exact hz h1 h0), e2, Nat.mod_eq_of_lt h]
    rfl
  intro f
  induction f with
  | zero =>
    intro i m acc pre hp hi hm hz
    refine small 0 i m acc pre hp hi hm hz ?_
    obtain rfl : i = 9 := by omega
    have : (2 : Nat) ^ (64 - 7 * 9) = 2 := by decide
    omega
  | succ f ih =>
    intro i m acc pre hp hi hm hz
    by_cases h : m < 128
    · exact small (f + 1) i m acc pre hp hi hm hz h
    · subst hp
      rw [shortF_big f m h]
      have e2 : (pre ++ ((m % 128 + 128) :: shortF f (m / 128) ++ behind)).getD pre.length 0 = m % 128 + 128 := getDB_at pre _ _
      have hl : pre.length < (pre ++ ((m % 128 + 128) :: shortF f (m / 128) ++ behind)).length := by simp
      rw [gs_more hl (by omega) (by rw [e2]; omega), e2]
      have h3 : (2 : Nat) ^ (64 - 7 * pre.length) = 128 * 2 ^ (64 - 7 * (pre.length + 1)) := by
        rw [show 64 - 7 * pre.length = 7 + (64 - 7 * (pre.length + 1)) by omega, Nat.pow_add]
      have := ih (pre.length + 1) (m / 128) (acc + (m % 128 + 128) % 128 * 2 ^ (7 * pre.length)) (pre ++ [m % 128 + 128]) (by simp) (by omega) (by
        rw [h3] at hm; exact Nat.div_lt_of_lt_mul hm) (fun _ => by omega)
      rw [List.append_assoc] at this
      refine (show _ = _ from this).trans ?_
      have e4 : (2 : Nat) ^ (7 * (pre.length + 1)) = 128 * 2 ^ (7 * pre.length) := by rw [show 7 * (pre.length + 1) = 7 + 7 * pre.length by omega, Nat.pow_add]
      have e5 : (m % 128 + 128) % 128 = m % 128 := by omega
      rw [e4, e5]
      refine Prod.ext ?_ (Prod.ext ?_ rfl)
      · show acc + m % 128 * 2 ^ (7 * pre.length) + m / 128 * (128 * 2 ^ (7 * pre.length)) = acc + m * 2 ^ (7 * pre.length)
        rw [← Nat.mul_assoc, Nat.add_assoc, ← Nat.add_mul]
        congr 2
        omega
      · simp; omega
theorem gs_back (n : Nat) (hn : n < 18446744073709551616) (behind : List Nat) : gs (shortB n ++ behind) 10 0 0 = (n, (shortB n).length, 0) := by
  have := gs_short behind 9 0 n 0 [] rfl rfl (by simpa using hn) (fun h => absurd h (by omega))
  simpa [shortB] using this
theorem short_mono : ∀ (f n m : Nat), n ≤ m → (shortF f n).length ≤ (shortF f m).length
  | 0, _, _, _ => by simp [shortF]
  | f + 1, n, m, h => by
    by_cases h1 : m < 128
    · rw [shortF_small _ _ h1, shortF_small _ _ (by omega : n < 128)]; simp
    · rw [shortF_big _ _ h1]
      by_cases h2 : n < 128
      · rw [shortF_small _ _ h2]; simp
      · rw [shortF_big _ _ h2]
        have := short_mono f (n / 128) (m / 128) (Nat.div_le_div_right h)
        simp; omega
end Go.Proofs.Ytjghcmejmdllbaa

namespace Go.Proofs.Ytjghcmejmdllbaa
open Go.ChangeShapes Go.WideShapes Go.ChangeAt Go.RowKit
set_option linter.unusedVariables false
set_option linter.unusedSimpArgs false
theorem sl_dropG {w : World} {b off c : Nat} {l : List Nat} (k c' : Nat) (h : Sl w 1 l.length (.slice (some ⟨b, off, none⟩) l.length c) (elB l)) (hk : k ≤ l.length) : Sl w 1 (l.drop k).length (.slice (some ⟨b, off + k, none⟩) (l.length - k) c') (elB (l.drop k)) := by
  have hm : (l.drop k).length = l.length - k := List.length_drop
  obtain ⟨a', c0, e, hml, hc⟩ := h
  injection e with e1 e2 e3
  subst e1
  rw [hm]
  refine ⟨_, c', rfl, Nat.le_trans (Nat.sub_le _ _) hml, fun h0 => ?_⟩
  obtain ⟨b', off', e, hb, hcell⟩ := hc (by omega)
  cases e
  refine ⟨b, off + k, rfl, hb, fun i hi j hj => ?_⟩
  have := hcell (k + i) (by omega) j hj
  rw [Nat.mul_one] at this ⊢
  rw [show off + k + i + j = off + (k + i) + j by omega, this]
  simp [elB, List.getD, List.getElem?_drop]
theorem gs_le (l : List Nat) : ∀ (f i n a b c : Nat), gs l f i n = (a, b, c) → (c ≠ 0 → a = 0 ∧ b = 0) ∧ (c = 0 → i < b ∧ b ≤ l.length)
  | 0, i, n, a, b, c, h => by
    simp only [gs, Prod.mk.injEq] at h
    obtain ⟨rfl, rfl, rfl⟩ := h
    exact ⟨fun _ => ⟨rfl, rfl⟩, fun h => absurd h (by omega)⟩
  | f + 1, i, n, a, b, c, h => by
    by_cases h1 : l.length ≤ i
    · rw [gs, if_pos h1] at h
      simp only [Prod.mk.injEq] at h
      obtain ⟨rfl, rfl, rfl⟩ := h
      exact ⟨fun _ => ⟨rfl, rfl⟩, fun h => absurd h (by omega)⟩
    · rw [gs, if_neg h1] at h
      by_cases h2 : i = 9 ∧ 1 < l.getD i 0
      · rw [if_pos h2] at h
        simp only [Prod.mk.injEq] at h
        obtain ⟨rfl, rfl, rfl⟩ := h
        exact ⟨fun _ => ⟨rfl, rfl⟩, fun h => absurd h (by omega)⟩
      · rw [if_neg h2] at h
        by_cases h3 : l.getD i 0 < 128
        · rw [if_pos h3] at h
          by_cases h4 : l.getD i 0 = 0 ∧ 0 < i
          · rw [if_pos h4] at h
            simp only [Prod.mk.injEq] at h
            obtain ⟨rfl, rfl, rfl⟩ := h
            exact ⟨fun _ => ⟨rfl, rfl⟩, fun h => absurd h (by omega)⟩
          · rw [if_neg h4] at h
            simp only [Prod.mk.injEq] at h
            obtain ⟨_, rfl, rfl⟩ := h
            exact ⟨fun h => absurd rfl h, fun _ => ⟨by omega, by omega⟩⟩
        · rw [if_neg h3] at h
          have := gs_le l f (i + 1) _ a b c h
          exact ⟨this.1, fun h => ⟨by have := (this.2 h).1; omega, (this.2 h).2⟩⟩
theorem gs_lt (l : List Nat) (hx : ∀ x ∈ l, x < 256) : ∀ (f i n a b c : Nat), i + f = 10 → n < 2 ^ (7 * i) → gs l f i n = (a, b, c) → a < 18446744073709551616
  | 0, i, n, a, b, c, _, _, h => by
    simp only [gs, Prod.mk.injEq] at h
    omega
  | f + 1, i, n, a, b, c, hi, hn, h => by
    by_cases h1 : l.length ≤ i
    · rw [gs, if_pos h1] at h
      simp only [Prod.mk.injEq] at h
      omega
    · rw [gs, if_neg h1] at h
      by_cases h2 : i = 9 ∧ 1 < l.getD i 0
      · rw [if_pos h2] at h
        simp only [Prod.mk.injEq] at h
        omega
      · rw [if_neg h2] at h
        have hy := Nat.mod_lt (l.getD i 0) (show 0 < 128 by omega)
        have hm : i = 9 → l.getD i 0 % 128 ≤ 1 := fun e => by
          have : ¬ 1 < l.getD i 0 := fun h => h2 ⟨e, h⟩
          exact Nat.le_trans (Nat.mod_le _ _) (by omega)
        have hs := sh_small n (l.getD i 0 % 128) i (by omega) hn hy hm
        by_cases h3 : l.getD i 0 < 128
        · rw [if_pos h3] at h
          by_cases h4 : l.getD i 0 = 0 ∧ 0 < i
          · rw [if_pos h4] at h
            simp only [Prod.mk.injEq] at h
            omega
          · rw [if_neg h4] at h
            simp only [Prod.mk.injEq] at h
            obtain ⟨rfl, _, _⟩ := h
            exact hs.2
        · rw [if_neg h3] at h
          exact gs_lt l hx f (i + 1) _ a b c (by omega) hs.1 h
theorem sl_from {w : World} {a A : Option Addr} {n c : Nat} {l : List Nat} (k : Nat) (h : Sl w 1 l.length (.slice a n c) (elB l)) (hl : l.length = n) (hk : k ≤ n) (hc : n ≤ c) (hA : A = (if c = k then a else a.map (·.add k))) : Sl w 1 (l.drop k).length (.slice A (n - k) (c - k)) (elB (l.drop k)) := by
  subst hl
  have hm : (l.drop k).length = l.length - k := List.length_drop
  rcases Nat.lt_or_ge k l.length with hlt | hge
  · obtain ⟨b, off, rfl, hb, _⟩ := h.byte hlt
    rw [if_neg (by omega)] at hA
    subst hA
    have := sl_dropG k (c - k) h hk
    have e : (Option.map (·.add k) (some (⟨b, off, none⟩ : Addr))) = some ⟨b, off + k, none⟩ := by
      simp [Addr.add]
    rw [e]
    exact this
  · rw [hm, show l.length - k = 0 by omega]
    exact ⟨_, _, rfl, by simp [maxLen], fun h => absurd h (Nat.lt_irrefl _)⟩
theorem lens {l : List Nat} (hx : ∀ x ∈ l, x < 256) (k : Nat) : ∀ x ∈ l.drop k, x < 256 := fun x h => hx x (List.mem_of_mem_drop h)
end Go.Proofs.Ytjghcmejmdllbaa

namespace Go.Proofs.Ytjghcmejmdllbaa
open Go.ChangeShapes Go.WideShapes Go.ChangeAt Go.RowKit Go.Deep
set_option linter.unusedVariables false
set_option linter.unusedSimpArgs false
set_option linter.unusedSectionVars false
set_option maxRecDepth 100000
set_option maxHeartbeats 2000000
/-- s is a slice of the bytes l, as long as L stays. -/
def Byt (B : Nat) (w0 : World) (L : List Res) (s : Value) (l : List Nat) : Prop := ∃ A n c, s = .slice A n c ∧ l.length = n ∧ n ≤ c ∧ (∀ x ∈ l, x < 256) ∧ n ≤ 100000 ∧ Rd B w0 L fun W => Sl W 1 l.length (.slice A n c) (elB l)
theorem Byt.drop {B : Nat} {w0 : World} {L : List Res} {A A' : Option Addr} {n c k : Nat} {l r : List Nat} (hl : l.length = n) (hc : n ≤ c) (hx : ∀ x ∈ l, x < 256) (hn : n ≤ 100000) (h : Rd B w0 L fun W => Sl W 1 l.length (.slice A n c) (elB l)) (hk : k ≤ n) (hA : A' = (if c = k then A else A.map (·.add k))) (hr : l.drop k = r) : Byt B w0 L (.slice A' (n - k) (c - k)) r := by
  subst hr
  exact ⟨A', n - k, c - k, rfl, by rw [List.length_drop, hl], by omega, lens hx k, by omega, fun W hb hr => sl_from k (h W hb hr) hl hk hc hA⟩
/-- The bytes that are left, and what stopped it. -/
abbrev Rs := List Nat × Nat
/-- A number is read, at most 'most'. -/
def numF (most : Nat) (s : Rs) : Nat × Rs :=
  if s.2 ≠ 0 then (0, s)
  else if (gs s.1 10 0 0).2.2 ≠ 0 then (0, (s.1, (gs s.1 10 0 0).2.2))
  else if most < (gs s.1 10 0 0).1 then (0, (s.1, 3))
  else ((gs s.1 10 0 0).1, (s.1.drop (gs s.1 10 0 0).2.1, 0))
theorem numF_bad {most : Nat} {l : List Nat} {e : Nat} (h : e ≠ 0) : numF most (l, e) = (0, (l, e)) := if_pos h
theorem numF_err {most : Nat} {l : List Nat} {a b c : Nat} (h : gs l 10 0 0 = (a, b, c)) (hc : c ≠ 0) : numF most (l, 0) = (0, (l, c)) := by
  unfold numF; simp only [h]; rw [if_neg (by simp), if_pos hc]
theorem numF_long {most : Nat} {l : List Nat} {a b : Nat} (h : gs l 10 0 0 = (a, b, 0)) (hm : most < a) : numF most (l, 0) = (0, (l, 3)) := by
  unfold numF; simp only [h]; rw [if_neg (by simp), if_neg (by simp), if_pos hm]
theorem numF_ok {most : Nat} {l : List Nat} {a b : Nat} (h : gs l 10 0 0 = (a, b, 0)) (hm : ¬ most < a) : numF most (l, 0) = (a, (l.drop b, 0)) := by
  unfold numF; simp only [h]; rw [if_neg (by simp), if_neg (by simp), if_neg hm]
/-- Is all read? -/
def endF (s : Rs) : Nat := if s.2 ≠ 0 then s.2 else if 0 < s.1.length then 5 else 0
theorem rerr_ok (g e : Nat) (s : Value) (w : World) (hc : w.heap[g]? = some (.cells #[s, .int .i64 (e : Int)] 177 (0, 0))) :
    Calls Try.prog 125 #[.pointer (some ⟨g, 0, none⟩)] w (Ret fun v w' => v = .int .i64 (e : Int) ∧ Below w.heap.size w w') := by
  have hc1 : w.cell? ⟨g, 1, none⟩ = some (.int .i64 (e : Int)) := by rw [cell_of_rowAt (rowAt_of hc)]; rfl
  have hg : g < w.heap.size := rowAt_lt (rowAt_of hc)
  clear hc
  have H := St.init w
  go_enter Try.func125, Try.ntmps125
  go_wp2_with (first | (with_reducible refine wpl rfl (ldQ (ty := 81) rfl ?_); first | (with_reducible refine (Stp.ldo rfl agg81 rfl H (by assumption) (by assumption) ?_); simp only [pS]) | (with_reducible refine (Stp.ldc rfl agg81 rfl H mR cE ?_); simp only [pS])))
  go_ret
  exact ⟨_, rfl, rfl, H.below⟩
theorem rfail_ok {B : Nat} {w0 : World} {M : List Res} (g : Nat) (s : Value) (e c : Nat) (he : e = 0) (w : World) (H : St B w0 w (row 177 g #[s, .int .i64 (e : Int)] :: M)) :
    Calls Try.prog 124 #[.pointer (some ⟨g, 0, none⟩), .int .i64 (c : Int)] w (Ret fun v w' => v = .tuple #[] ∧ St B w0 w' (row 177 g #[s, .int .i64 (c : Int)] :: M)) := by
  have hei : ((e : Int) == 0) = true := by simp [he]
  clear he
  go_enter Try.func124, Try.ntmps124
  go_wp2_with (first | (with_reducible refine wpl rfl (ldQ (ty := 81) rfl ?_); first | (with_reducible refine (Stp.ldo rfl agg81 rfl H (by assumption) (by assumption) ?_); simp only [pS]) | (with_reducible refine (Stp.ldc rfl agg81 rfl H mR cE ?_); simp only [pS])) | (with_reducible refine wpl rfl (stQ (ty := 81) rfl ?_); first | (with_reducible refine (Stp.stc rfl size81 rfl rfl rfl rfl H uP (by first | omega | (simp; done) | (simp; omega)) ?_); clear H; intro w1 H; simp only [pS]; simp only [pE, nC, pS] at H)))
  go_end0
  exact ⟨_, rfl, rfl, H⟩
theorem rfail2_ok {B : Nat} {w0 : World} {M : List Res} (g : Nat) (s : Value) (e : Nat) (he : e = 0) (w : World) (H : St B w0 w (row 177 g #[s, .int .i64 (e : Int)] :: M)) :
    Calls Try.prog 124 #[.pointer (some ⟨g, 0, none⟩), .int .i64 2] w (Ret fun v w' => v = .tuple #[] ∧ St B w0 w' (row 177 g #[s, .int .i64 ((2 : Nat) : Int)] :: M)) := rfail_ok g s e 2 he w H
theorem rfail3_ok {B : Nat} {w0 : World} {M : List Res} (g : Nat) (s : Value) (e : Nat) (he : e = 0) (w : World) (H : St B w0 w (row 177 g #[s, .int .i64 (e : Int)] :: M)) :
    Calls Try.prog 124 #[.pointer (some ⟨g, 0, none⟩), .int .i64 3] w (Ret fun v w' => v = .tuple #[] ∧ St B w0 w' (row 177 g #[s, .int .i64 ((3 : Nat) : Int)] :: M)) := rfail_ok g s e 3 he w H
theorem numG_ok {B : Nat} {w0 : World} {L M : List Res} (g : Nat) (s : Value) (l : List Nat) (e most : Nat) (hb : Byt B w0 L s l) (hML : L.Sublist M) (w : World) (H : St B w0 w (row 177 g #[s, .int .i64 (e : Int)] :: M)) :
    Calls Try.prog 123 #[.pointer (some ⟨g, 0, none⟩), .int .u64 (most : Int)] w (Ret fun v w' => v = .int .u64 ((numF most (l, e)).1 : Int) ∧ ∃ s', Byt B w0 L s' (numF most (l, e)).2.1 ∧ St B w0 w' (row 177 g #[s', .int .i64 ((numF most (l, e)).2.2 : Int)] :: M)) := by
  by_cases he : e ≠ 0
  · have hei : ((e : Int) != 0) = true := by simp; omega
    rw [numF_bad he]
    clear he
    go_enter Try.func123, Try.ntmps123
    go_wp2_with (first | (with_reducible refine wpl rfl (ldQ (ty := 81) rfl ?_); first | (with_reducible refine (Stp.ldo rfl agg81 rfl H (by assumption) (by assumption) ?_); simp only [pS]) | (with_reducible refine (Stp.ldc rfl agg81 rfl H mR cE ?_); simp only [pS])) | (with_reducible refine wpl rfl (ldQ (ty := 37) rfl ?_); first | (with_reducible refine (Stp.ldo rfl agg37 rfl H (by assumption) (by assumption) ?_); simp only [pS]) | (with_reducible refine (Stp.ldc rfl agg37 rfl H mR cE ?_); simp only [pS])) | (with_reducible refine wpl rfl (stQ (ty := 37) rfl ?_); first | (with_reducible refine (Stp.stc rfl size37 rfl rfl rfl rfl H uP (by first | omega | (simp; done) | (simp; omega)) ?_); clear H; intro w1 H; simp only [pS]; simp only [pE, nC, pS] at H)))
    go_ret
    exact ⟨_, rfl, rfl, s, hb, H⟩
  obtain rfl : e = 0 := by omega
  have hei : (((0 : Nat) : Int) != 0) = false := by simp
  have HE0 : Hid ((0 : Nat) = 0) := Lib.hid rfl
  clear he
  obtain ⟨a, b, c, hg⟩ : ∃ a b c, gs l 10 0 0 = (a, b, c) := ⟨_, _, _, rfl⟩
  have hb0 := hb
  obtain ⟨A, m, cc, rfl, hlm, hmc, hx, hm1, hrd⟩ := hb
  have hle := gs_le l 10 0 0 a b c hg
  have HG := Lib.hid hg
  have HX := Lib.hid hx
  have HL := Lib.hid hlm
  clear hx hlm
  by_cases hc : c ≠ 0
  · have hci : ((c : Int) != 0) = true := by simp; omega
    rw [numF_err hg hc]
    clear hc hle hg
    go_enter Try.func123, Try.ntmps123
    go_wp2_with (first | (go_at_call 139; (with_reducible refine (getshort_ok _ l (by have := HL.out; omega) HX.out _ (hrd.at H (.cons _ hML)) a b c HG.out).mono ?_); rintro e w1 ⟨v, rfl, hr⟩; obtain ⟨rfl, hb1⟩ := hr; replace H := H.grow hb1; clear hb1) | (go_at_call 124; (with_reducible refine (rfail_ok g _ 0 c rfl _ H).mono ?_); rintro e w1 ⟨v, rfl, hr⟩; obtain ⟨rfl, H2⟩ := hr; clear H; have H := H2; clear H2) | (with_reducible refine wpl rfl (ldQ (ty := 81) rfl ?_); first | (with_reducible refine (Stp.ldo rfl agg81 rfl H (by assumption) (by assumption) ?_); simp only [pS]) | (with_reducible refine (Stp.ldc rfl agg81 rfl H mR cE ?_); simp only [pS])) | (with_reducible refine wpl rfl (ldQ (ty := 37) rfl ?_); first | (with_reducible refine (Stp.ldo rfl agg37 rfl H (by assumption) (by assumption) ?_); simp only [pS]) | (with_reducible refine (Stp.ldc rfl agg37 rfl H mR cE ?_); simp only [pS])) | (with_reducible refine wpl rfl (stQ (ty := 37) rfl ?_); first | (with_reducible refine (Stp.stc rfl size37 rfl rfl rfl rfl H uP (by first | omega | (simp; done) | (simp; omega)) ?_); clear H; intro w1 H; simp only [pS]; simp only [pE, nC, pS] at H)))
    go_ret
    exact ⟨_, rfl, rfl, _, hb0, H⟩
  obtain rfl : c = 0 := by omega
  have hci : (((0 : Nat) : Int) != 0) = false := by simp
  by_cases hm : most < a
  · have hmi : (most : Int) < (a : Int) := by omega
    rw [numF_long hg hm]
    clear hc hle hg hm
    go_enter Try.func123, Try.ntmps123
    go_wp2_with (first | (go_at_call 139; (with_reducible refine (getshort_ok _ l (by have := HL.out; omega) HX.out _ (hrd.at H (.cons _ hML)) a b 0 HG.out).mono ?_); rintro e w1 ⟨v, rfl, hr⟩; obtain ⟨rfl, hb1⟩ := hr; replace H := H.grow hb1; clear hb1) | (go_at_call 124; (with_reducible refine (rfail3_ok g _ 0 rfl _ H).mono ?_); rintro e w1 ⟨v, rfl, hr⟩; obtain ⟨rfl, H2⟩ := hr; clear H; have H := H2; clear H2) | (with_reducible refine wpl rfl (ldQ (ty := 81) rfl ?_); first | (with_reducible refine (Stp.ldo rfl agg81 rfl H (by assumption) (by assumption) ?_); simp only [pS]) | (with_reducible refine (Stp.ldc rfl agg81 rfl H mR cE ?_); simp only [pS])) | (with_reducible refine wpl rfl (ldQ (ty := 37) rfl ?_); first | (with_reducible refine (Stp.ldo rfl agg37 rfl H (by assumption) (by assumption) ?_); simp only [pS]) | (with_reducible refine (Stp.ldc rfl agg37 rfl H mR cE ?_); simp only [pS])) | (with_reducible refine wpl rfl (stQ (ty := 37) rfl ?_); first | (with_reducible refine (Stp.stc rfl size37 rfl rfl rfl rfl H uP (by first | omega | (simp; done) | (simp; omega)) ?_); clear H; intro w1 H; simp only [pS]; simp only [pE, nC, pS] at H)))
    go_ret
    exact ⟨_, rfl, rfl, _, hb0, H⟩
  · have hmi : ¬ (most : Int) < (a : Int) := by omega
    have hbm : b ≤ m := by have := (hle.2 rfl).2; have := HL.out; omega
    rw [numF_ok hg hm]
    clear hc hle hg hm
    go_enter Try.func123, Try.ntmps123
    go_wp2_with (first | (go_at_call 139; (with_reducible refine (getshort_ok _ l (by have := HL.out; omega) HX.out _ (hrd.at H (.cons _ hML)) a b 0 HG.out).mono ?_); rintro e w1 ⟨v, rfl, hr⟩; obtain ⟨rfl, hb1⟩ := hr; replace H := H.grow hb1; clear hb1) | (with_reducible refine wpl rfl (dQ 40 rfl ?_); with_reducible refine (Stp.slfrom (k := b) 40 rfl rfl Try.underlying37 size5 rfl rfl (by omega) (by omega) ?_); intro A8 hA8; have H8 := Lib.hid hA8; clear hA8; simp only [pS]) | (with_reducible refine wpl rfl (ldQ (ty := 81) rfl ?_); first | (with_reducible refine (Stp.ldo rfl agg81 rfl H (by assumption) (by assumption) ?_); simp only [pS]) | (with_reducible refine (Stp.ldc rfl agg81 rfl H mR cE ?_); simp only [pS])) | (with_reducible refine wpl rfl (ldQ (ty := 37) rfl ?_); first | (with_reducible refine (Stp.ldo rfl agg37 rfl H (by assumption) (by assumption) ?_); simp only [pS]) | (with_reducible refine (Stp.ldc rfl agg37 rfl H mR cE ?_); simp only [pS])) | (with_reducible refine wpl rfl (stQ (ty := 37) rfl ?_); first | (with_reducible refine (Stp.stc rfl size37 rfl rfl rfl rfl H uP (by first | omega | (simp; done) | (simp; omega)) ?_); clear H; intro w1 H; simp only [pS]; simp only [pE, nC, pS] at H)))
    go_ret
    exact ⟨_, rfl, rfl, _, Byt.drop HL.out hmc HX.out hm1 hrd hbm H8.out rfl, H⟩
theorem rendG_ok {B : Nat} {w0 : World} {L M : List Res} (g : Nat) (s : Value) (l : List Nat) (e : Nat) (hb : Byt B w0 L s l) (w : World) (H : St B w0 w (row 177 g #[s, .int .i64 (e : Int)] :: M)) :
    Calls Try.prog 90 #[.pointer (some ⟨g, 0, none⟩)] w (Ret fun v w' => v = .int .i64 (endF (l, e) : Int) ∧ St B w0 w' (row 177 g #[s, .int .i64 (e : Int)] :: M)) := by
  obtain ⟨A, m, cc, rfl, hlm, hmc, hx, hm1, hrd⟩ := hb
  by_cases he : e ≠ 0
  · have hei : ((e : Int) != 0) = true := by simp; omega
    have HV : Hid (endF (l, e) = e) := Lib.hid (if_pos he)
    clear he hlm hx hrd
    go_enter Try.func90, Try.ntmps90
    go_wp2_with (first | (go_at_call 125; (with_reducible refine (rerr_ok _ _ _ _ (H.getHeap mE)).mono ?_); rintro e w1 ⟨v, rfl, hr⟩; obtain ⟨rfl, hb1⟩ := hr; replace H := H.grow hb1; clear hb1) | (with_reducible refine wpl rfl (ldQ (ty := 37) rfl ?_); first | (with_reducible refine (Stp.ldo rfl agg37 rfl H (by assumption) (by assumption) ?_); simp only [pS]) | (with_reducible refine (Stp.ldc rfl agg37 rfl H mR cE ?_); simp only [pS])))
    go_ret
    exact ⟨_, rfl, by rw [HV.out]; rfl, H⟩
  obtain rfl : e = 0 := by omega
  have hei : (((0 : Nat) : Int) != 0) = false := by simp
  by_cases hm : 0 < m
  · have hmi : (0 : Int) < (m : Int) := by omega
    have HV : Hid (endF (l, 0) = 5) := Lib.hid (by unfold endF; rw [if_neg (by simp), if_pos (by rw [hlm]; exact hm)])
    clear he hlm hx hrd hm
    go_enter Try.func90, Try.ntmps90
    go_wp2_with (first | (go_at_call 125; (with_reducible refine (rerr_ok _ _ _ _ (H.getHeap mE)).mono ?_); rintro e w1 ⟨v, rfl, hr⟩; obtain ⟨rfl, hb1⟩ := hr; replace H := H.grow hb1; clear hb1) | (with_reducible refine wpl rfl (ldQ (ty := 37) rfl ?_); first | (with_reducible refine (Stp.ldo rfl agg37 rfl H (by assumption) (by assumption) ?_); simp only [pS]) | (with_reducible refine (Stp.ldc rfl agg37 rfl H mR cE ?_); simp only [pS])))
    go_ret
    exact ⟨_, rfl, by rw [HV.out]; rfl, H⟩
  · have hmi : ¬ (0 : Int) < (m : Int) := by omega
    have HV : Hid (endF (l, 0) = 0) := Lib.hid (by unfold endF; rw [if_neg (by simp), if_neg (by rw [hlm]; exact hm)])
    clear he hlm hx hrd hm
    go_enter Try.func90, Try.ntmps90
    go_wp2_with (first | (go_at_call 125; (with_reducible refine (rerr_ok _ _ _ _ (H.getHeap mE)).mono ?_); rintro e w1 ⟨v, rfl, hr⟩; obtain ⟨rfl, hb1⟩ := hr; replace H := H.grow hb1; clear hb1) | (with_reducible refine wpl rfl (ldQ (ty := 37) rfl ?_); first | (with_reducible refine (Stp.ldo rfl agg37 rfl H (by assumption) (by assumption) ?_); simp only [pS]) | (with_reducible refine (Stp.ldc rfl agg37 rfl H mR cE ?_); simp only [pS])))
    go_ret
    exact ⟨_, rfl, by rw [HV.out]; rfl, H⟩
end Go.Proofs.Ytjghcmejmdllbaa

namespace Go.Proofs.Ytjghcmejmdllbaa
open Go.ChangeShapes Go.WideShapes Go.ChangeAt Go.RowKit Go.Deep
set_option linter.unusedVariables false
set_option linter.unusedSimpArgs false
set_option linter.unusedSectionVars false
set_option maxRecDepth 100000
set_option maxHeartbeats 2000000
section
variable {P : Program} {ops : Array Oper} {a : Act} {o : Oper} {S : World → Prop}
theorem run_toG {ty e : TypeId} {A : Option Addr} {n c k : Nat} {kd : IntKind} (ht : P.underlying ty = some (.slice e)) (hs : ∀ W : World, (sizeOf e).run P W = .ok 1 W) (hk : k ≤ c) (W : World) :
    (Instr.slice ty (.slice A n c) none (some (.int kd (k : Int))) none).run P W = .ok (.slice A k c) W := by
  have : (if c = 0 then A else A.map (·.add (0 * 1))) = A := by
    split
    · rfl
    · cases A <;> simp [Addr.add]
  simp [Instr.slice, Instr.sliceBounds, Instr.sliceBound, asIntOf, run_underlying ht, hs, hk]
  intro _
  cases A <;> simp [Addr.add]
theorem Yld.sltoG {ty e : TypeId} {x y : Operand} {A : Option Addr} {n c k : Nat} {kd : IntKind} {z : Int} (hw : Region.wanted o (yielded ops a.tmps) = true) (ho : o.op = .slice ty x none (some y) none) (ht : P.underlying ty = some (.slice e)) (hs : ∀ W : World, (sizeOf e).run P W = .ok 1 W)
    (hx : a.eval x = .slice A n c) (hy : a.eval y = .int kd z) (hz : z = (k : Int)) (hk : k ≤ c) : YieldsIf P ops S o (.slice A k c) a := by
  subst hz
  refine .inl ⟨hw, fun W _ => ?_⟩
  unfold execOp; simp only [ho]
  simp [hx, hy, Instr.sliceAt, run_underlying ht, run_toG ht hs hk]
end
theorem Rd.takeG {B : Nat} {w0 : World} {L : List Res} {A : Option Addr} {n c k : Nat} {l d : List Nat} (h : Rd B w0 L fun W => Sl W 1 l.length (.slice A n c) (elB l)) (hl : l.length = n) (hk : k ≤ n) (hd : l.take k = d) : Rd B w0 L fun W => Sl W 1 d.length (.slice A k c) (elB d) := fun W hb hr => by
  subst hl hd
  have := take_sl k (h W hb hr) hk
  rw [List.length_take, Nat.min_eq_left hk] at this ⊢
  exact this
/-- Bytes are read, at most 'most'. -/
def bytesF (most : Nat) (s : Rs) : List Nat × Rs :=
  if s.2 ≠ 0 then ([], s)
  else if (numF most s).2.2 ≠ 0 then ([], (s.1, (numF most s).2.2))
  else if (numF most s).2.1.length < (numF most s).1 then ([], (s.1, 2))
  else ((numF most s).2.1.take (numF most s).1, ((numF most s).2.1.drop (numF most s).1, 0))
theorem bytesF_keep {most : Nat} {l : List Nat} (h : (bytesF most (l, 0)).2.2 ≠ 0) : (bytesF most (l, 0)).2.1 = l := by
  unfold bytesF at h ⊢
  rw [if_neg (by simp)] at h ⊢
  split
  · rfl
  · rename_i h1
    rw [if_neg h1] at h
    split
    · rfl
    · rename_i h2
      rw [if_neg h2] at h
      exact absurd rfl h
theorem numF_zero {most : Nat} {s : Rs} (h : (numF most s).2.2 ≠ 0) : (numF most s).1 = 0 := by
  unfold numF at h ⊢
  split
  · rfl
  · split
    · rfl
    · split
      · rfl
      · rename_i h1 h2 h3
        rw [if_neg h1, if_neg h2, if_neg h3] at h
        exact absurd rfl h
theorem numF_most {most : Nat} {s : Rs} : (numF most s).1 ≤ most := by
  unfold numF
  split
  · exact Nat.zero_le _
  · split
    · exact Nat.zero_le _
    · split
      · exact Nat.zero_le _
      · rename_i h; exact Nat.le_of_not_lt h
theorem bytes_permG {B : Nat} {w0 w : World} {M : List Res} {a b c d e : Res} (H : St B w0 w (e :: a :: b :: c :: d :: M)) : St B w0 w (a :: b :: c :: d :: e :: M) :=
  H.perm ((List.Perm.swap a e _).trans (((List.Perm.swap b e _).trans (((List.Perm.swap c e _).trans ((List.Perm.swap d e _).cons _)).cons _)).cons _))
theorem bytescG_ok {B : Nat} {w0 : World} {L M : List Res} (g rb mb nb : Nat) (s : Value) (l : List Nat) (most : Nat) (hb : Byt B w0 L s l) (hmo2 : most ≤ 100000) (hML : L.Sublist M) (w : World)
    (H : St B w0 w (row 177 g #[s, .int .i64 ((0 : Nat) : Int)] :: row 143 rb #[.pointer (some ⟨g, 0, none⟩)] :: row 3 mb #[.int .i64 (most : Int)] :: row 37 nb #[.slice none 0 0] :: M)) :
    Calls Try.prog 122 #[.pointer (some ⟨rb, 0, none⟩), .pointer (some ⟨mb, 0, none⟩), .pointer (some ⟨nb, 0, none⟩)] w (Ret fun v w' => v = .tuple #[] ∧ ∃ s' e' ab cb d, bytesF most (l, 0) = (d, ((bytesF most (l, 0)).2.1, e')) ∧ (e' = 0 → Byt B w0 L s' (bytesF most (l, 0)).2.1) ∧ St B w0 w' (row 177 g #[s', .int .i64 (e' : Int)] :: row 143 rb #[.pointer (some ⟨g, 0, none⟩)] :: row 3 mb #[.int .i64 (most : Int)] :: row 37 nb #[.slice ab d.length cb] :: slc 5 1 (.slice ab d.length cb) d.length (bv d) :: M)) := by
  have wm : IntKind.u64.wrap (most : Int) = (most : Int) := wrap_u64_in _ (by omega) (by omega)
  have mm : (if (most : Int) ≥ 0 then (most : Int) else 0) = (most : Int) := if_pos (by omega)
  go_enter Try.func122, Try.ntmps122
  go_wp2_with (first | (with_reducible refine wpl rfl (ldQ (ty := 143) rfl ?_); first | (with_reducible refine (Stp.ldo rfl agg143 rfl H (by assumption) (by assumption) ?_); simp only [pS]) | (with_reducible refine (Stp.ldc rfl agg143 rfl H mR cE ?_); simp only [pS])) | (with_reducible refine wpl rfl (ldQ (ty := 3) rfl ?_); first | (with_reducible refine (Stp.ldo rfl agg3 rfl H (by assumption) (by assumption) ?_); simp only [pS]) | (with_reducible refine (Stp.ldc rfl agg3 rfl H mR cE ?_); simp only [pS])) | (with_reducible refine wpl rfl (ldQ (ty := 37) rfl ?_); first | (with_reducible refine (Stp.ldo rfl agg37 rfl H (by assumption) (by assumption) ?_); simp only [pS]) | (with_reducible refine (Stp.ldc rfl agg37 rfl H mR cE ?_); simp only [pS])) | (with_reducible refine wpl rfl (ldQ (ty := 81) rfl ?_); first | (with_reducible refine (Stp.ldo rfl agg81 rfl H (by assumption) (by assumption) ?_); simp only [pS]) | (with_reducible refine (Stp.ldc rfl agg81 rfl H mR cE ?_); simp only [pS])))
  refine (numG_ok g s l 0 most hb (.cons _ (.cons _ (.cons _ hML))) _ H).mono ?_
  rintro e w1 ⟨v, rfl, rfl, s2, hb2, H2⟩
  clear H hb
  have H := H2
  clear H2
  have hz1 := numF_zero (most := most) (s := (l, 0))
  have hz2 := numF_most (most := most) (s := (l, 0))
  have hBF : bytesF most (l, 0) = if (numF most (l, 0)).2.2 ≠ 0 then ([], (l, (numF most (l, 0)).2.2)) else if (numF most (l, 0)).2.1.length < (numF most (l, 0)).1 then ([], (l, 2)) else ((numF most (l, 0)).2.1.take (numF most (l, 0)).1, ((numF most (l, 0)).2.1.drop (numF most (l, 0)).1, 0)) := if_neg (by simp)
  obtain ⟨⟨n1, l1, e1⟩, hz⟩ : ∃ z, numF most (l, 0) = z := ⟨_, rfl⟩
  rw [hz] at hz1 hz2 hBF hb2 H ⊢
  simp only at hz1 hz2 hBF hb2 H ⊢
  clear hz
  obtain ⟨A, m, c, rfl, hlm, hmc, hx, hm1, hrd⟩ := hb2
  have wm2 : IntKind.u64.wrap (m : Int) = (m : Int) := wrap_u64_in _ (by omega) (by omega)
  by_cases he1 : e1 ≠ 0
  · have hn0 := hz1 he1
    subst hn0
    rw [if_pos he1] at hBF
    have HBF := Lib.hid hBF
    have hdm : ¬ (m : Int) < ((0 : Nat) : Int) := by omega
    have hei : ((e1 : Int) == 0) = false := by simp; omega
    clear hz1 hz2 hBF he1 hlm hx hrd
    go_wp2_with (first | (with_reducible refine wpl rfl (ldQ (ty := 143) rfl ?_); first | (with_reducible refine (Stp.ldo rfl agg143 rfl H (by assumption) (by assumption) ?_); simp only [pS]) | (with_reducible refine (Stp.ldc rfl agg143 rfl H mR cE ?_); simp only [pS])) | (with_reducible refine wpl rfl (ldQ (ty := 3) rfl ?_); first | (with_reducible refine (Stp.ldo rfl agg3 rfl H (by assumption) (by assumption) ?_); simp only [pS]) | (with_reducible refine (Stp.ldc rfl agg3 rfl H mR cE ?_); simp only [pS])) | (with_reducible refine wpl rfl (ldQ (ty := 37) rfl ?_); first | (with_reducible refine (Stp.ldo rfl agg37 rfl H (by assumption) (by assumption) ?_); simp only [pS]) | (with_reducible refine (Stp.ldc rfl agg37 rfl H mR cE ?_); simp only [pS])) | (with_reducible refine wpl rfl (ldQ (ty := 81) rfl ?_); first | (with_reducible refine (Stp.ldo rfl agg81 rfl H (by assumption) (by assumption) ?_); simp only [pS]) | (with_reducible refine (Stp.ldc rfl agg81 rfl H mR cE ?_); simp only [pS])))
    go_end0
    exact ⟨_, rfl, rfl, _, e1, none, 0, [], by rw [HBF.out], (fun h => by rw [h] at hei; simp at hei), bytes_permG (H.nil 5 1)⟩
  obtain rfl : e1 = 0 := by omega
  rw [if_neg (by simp)] at hBF
  clear hz1 he1
  by_cases hlt : l1.length < n1
  · rw [if_pos hlt] at hBF
    have HBF := Lib.hid hBF
    rw [hlm] at hlt
    have hdm : (m : Int) < (n1 : Int) := by omega
    have HE1 : True := trivial
    clear hBF hlt hlm hx hrd hz2
    go_wp2_with (first | (go_at_call 124; (with_reducible refine (rfail2_ok g _ 0 rfl _ H).mono ?_); rintro e w1 ⟨v, rfl, hr⟩; obtain ⟨rfl, H2⟩ := hr; clear H; have H := H2; clear H2) | (with_reducible refine wpl rfl (ldQ (ty := 143) rfl ?_); first | (with_reducible refine (Stp.ldo rfl agg143 rfl H (by assumption) (by assumption) ?_); simp only [pS]) | (with_reducible refine (Stp.ldc rfl agg143 rfl H mR cE ?_); simp only [pS])) | (with_reducible refine wpl rfl (ldQ (ty := 3) rfl ?_); first | (with_reducible refine (Stp.ldo rfl agg3 rfl H (by assumption) (by assumption) ?_); simp only [pS]) | (with_reducible refine (Stp.ldc rfl agg3 rfl H mR cE ?_); simp only [pS])) | (with_reducible refine wpl rfl (ldQ (ty := 37) rfl ?_); first | (with_reducible refine (Stp.ldo rfl agg37 rfl H (by assumption) (by assumption) ?_); simp only [pS]) | (with_reducible refine (Stp.ldc rfl agg37 rfl H mR cE ?_); simp only [pS])) | (with_reducible refine wpl rfl (ldQ (ty := 81) rfl ?_); first | (with_reducible refine (Stp.ldo rfl agg81 rfl H (by assumption) (by assumption) ?_); simp only [pS]) | (with_reducible refine (Stp.ldc rfl agg81 rfl H mR cE ?_); simp only [pS])))
    go_end0
    exact ⟨_, rfl, rfl, _, 2, none, 0, [], by rw [HBF.out], (fun h => by cases h), bytes_permG (H.nil 5 1)⟩
  · rw [if_neg hlt] at hBF
    have HBF := Lib.hid hBF
    have hkm : n1 ≤ m := by omega
    obtain ⟨d, hd⟩ : ∃ d, l1.take n1 = d := ⟨_, rfl⟩
    have hdl : d.length = n1 := by rw [← hd, List.length_take]; omega
    have hdm : ¬ (m : Int) < (n1 : Int) := by omega
    have HX := Lib.hid hx
    have HL := Lib.hid hlm
    have HD := Lib.hid hd
    have HDL := Lib.hid hdl
    clear hx hlm hd hdl hBF hlt
    go_wp2_with (first | (with_reducible refine wpl rfl (ldQ (ty := 143) rfl ?_); first | (with_reducible refine (Stp.ldo rfl agg143 rfl H (by assumption) (by assumption) ?_); simp only [pS]) | (with_reducible refine (Stp.ldc rfl agg143 rfl H mR cE ?_); simp only [pS])) | (with_reducible refine wpl rfl (ldQ (ty := 3) rfl ?_); first | (with_reducible refine (Stp.ldo rfl agg3 rfl H (by assumption) (by assumption) ?_); simp only [pS]) | (with_reducible refine (Stp.ldc rfl agg3 rfl H mR cE ?_); simp only [pS])) | (with_reducible refine wpl rfl (ldQ (ty := 37) rfl ?_); first | (with_reducible refine (Stp.ldo rfl agg37 rfl H (by assumption) (by assumption) ?_); simp only [pS]) | (with_reducible refine (Stp.ldc rfl agg37 rfl H mR cE ?_); simp only [pS])) | (with_reducible refine wpl rfl (ldQ (ty := 81) rfl ?_); first | (with_reducible refine (Stp.ldo rfl agg81 rfl H (by assumption) (by assumption) ?_); simp only [pS]) | (with_reducible refine (Stp.ldc rfl agg81 rfl H mR cE ?_); simp only [pS])))
    have hrt := hrd.takeG HL.out hkm HD.out
    obtain ⟨A8, hA8⟩ : ∃ A', A' = (if c = n1 then A else A.map (·.add n1)) := ⟨_, rfl⟩
    have H8 := Lib.hid hA8
    clear hA8
    refine rk_begin 17 18 (fun W => St B w0 W (row 177 g #[.slice A m c, .int .i64 ((0 : Nat) : Int)] :: row 143 rb #[.pointer (some ⟨g, 0, none⟩)] :: M)) rfl (by kernel_rfl) ?_
    replace H := H.drew
    have HS := H
    first | (refine rk_take (i := 0) rfl kR kR kR kR kR kR (Yld.ldc rfl rfl agg143 rfl mR cE) (H.sub sU) ?_; simp only [pS]) | (refine rk_take (i := 0) rfl kR kR kR kR kR kR (Yld.ldo rfl rfl agg143 rfl (by assumption) (by assumption)) (H.sub sU) ?_; simp only [pS])
    first | (refine rk_take (i := 1) rfl kR kR kR kR kR kR (Yld.ldc rfl rfl agg143 rfl mR cE) (H.sub sU) ?_; simp only [pS]) | (refine rk_take (i := 1) rfl kR kR kR kR kR kR (Yld.ldo rfl rfl agg143 rfl (by assumption) (by assumption)) (H.sub sU) ?_; simp only [pS])
    refine rk_free (i := 2) rfl kR kR kR kR (Yld.o rfl) (fun _ => (H.sub sU)) ?_; simp only [pS]
    refine rk_free (i := 3) rfl kR kR kR kR (Yld.o rfl) (fun _ => (H.sub sU)) ?_; simp only [pS]
    first | (refine rk_take (i := 4) rfl kR kR kR kR kR kR (Yld.ldc rfl rfl agg37 rfl mR cE) (H.sub sU) ?_; simp only [pS]) | (refine rk_take (i := 4) rfl kR kR kR kR kR kR (Yld.ldo rfl rfl agg37 rfl (by assumption) (by assumption)) (H.sub sU) ?_; simp only [pS])
    refine rk_free (i := 5) rfl kR kR kR kR (Yld.move rfl rfl) (fun _ => (H.sub sU)) ?_; simp only [pS, pE]
    refine rk_free (i := 6) rfl kR kR kR kR (Yld.sltoG (A := A) (k := n1) rfl rfl Try.underlying37 size5 rfl rfl rfl (by omega)) (fun _ => (H.sub sU)) ?_; simp only [pS, pE]
    first | (refine rk_take (i := 8) rfl kR kR kR kR kR kR (Yld.ldc rfl rfl agg143 rfl mR cE) (H.sub sU) ?_; simp only [pS]) | (refine rk_take (i := 8) rfl kR kR kR kR kR kR (Yld.ldo rfl rfl agg143 rfl (by assumption) (by assumption)) (H.sub sU) ?_; simp only [pS])
    refine rk_free (i := 9) rfl kR kR kR kR (Yld.o rfl) (fun _ => (H.sub sU)) ?_; simp only [pS]
    refine rk_free (i := 10) rfl kR kR kR kR (Yld.o rfl) (fun _ => (H.sub sU)) ?_; simp only [pS]
    first | (refine rk_take (i := 11) rfl kR kR kR kR kR kR (Yld.ldc rfl rfl agg37 rfl mR cE) (H.sub sU) ?_; simp only [pS]) | (refine rk_take (i := 11) rfl kR kR kR kR kR kR (Yld.ldo rfl rfl agg37 rfl (by assumption) (by assumption)) (H.sub sU) ?_; simp only [pS])
    refine rk_free (i := 12) rfl kR kR kR kR (Yld.move rfl rfl) (fun _ => (H.sub sU)) ?_; simp only [pS, pE]
    refine rk_free (i := 13) rfl kR kR kR kR (Yld.slfrom (A := A) (k := n1) rfl rfl Try.underlying37 size5 rfl rfl (by omega) (by omega) H8.out) (fun _ => (H.sub sU)) ?_; simp only [pS, pE]
    refine rk_one (i := 7) (by kernel_rfl) rfl rfl (fun K hK => ?_)
    refine wp_callf rfl ent61 (clone_any _ d n1 HDL.out (by omega) _ (hrt.at H (by repeat (first | exact hML | apply List.Sublist.cons)))) rfl (fun v w1 hr => ?_)
    obtain ⟨⟨ab, cb, rfl⟩, ho, hb1⟩ := hr
    replace H := H.new hb1 (slc_sound ho) (fun g hg => (ho.lt g hg).1)
    clear hb1 ho
    clear HS
    have HS := H
    refine hK.out _ _ (fun _ => (H.sub sU)) ?_
    clear hK K
    simp only [pS]
    refine rk_one (i := 14) (by kernel_rfl) rfl rfl (fun K hK => ?_)
    refine Stp.wp (Stp.stc rfl size37 rfl rfl rfl rfl H uP (by simp) ?_)
    clear H
    intro w1 H
    simp only [pE, nC, pS] at H
    clear HS
    have HS := H
    refine hK.out _ _ (fun _ => (H.sub sU)) ?_
    clear hK K
    simp only [pS]
    refine rk_free (i := 15) rfl kR kR kR kR (Yld.o rfl) (fun _ => (H.sub sU)) ?_; simp only [pS]
    refine rk_free (i := 16) rfl kR kR kR kR (Yld.o rfl) (fun _ => (H.sub sU)) ?_; simp only [pS]
    refine rk_one (i := 17) (by kernel_rfl) rfl rfl (fun K hK => ?_)
    refine Stp.wp (Stp.stc rfl size37 rfl rfl rfl rfl H uP (by simp) ?_)
    clear H
    intro w1 H
    simp only [pE, nC, pS] at H
    clear HS
    have HS := H
    refine hK.out _ _ (fun h => by cases (show true = false from h)) ?_
    clear hK K
    simp only [pS]
    refine rk_done (by kernel_rfl) ?_
    go_wp2_with (first | (with_reducible refine wpl rfl (ldQ (ty := 143) rfl ?_); first | (with_reducible refine (Stp.ldo rfl agg143 rfl H (by assumption) (by assumption) ?_); simp only [pS]) | (with_reducible refine (Stp.ldc rfl agg143 rfl H mR cE ?_); simp only [pS])) | (with_reducible refine wpl rfl (ldQ (ty := 3) rfl ?_); first | (with_reducible refine (Stp.ldo rfl agg3 rfl H (by assumption) (by assumption) ?_); simp only [pS]) | (with_reducible refine (Stp.ldc rfl agg3 rfl H mR cE ?_); simp only [pS])) | (with_reducible refine wpl rfl (ldQ (ty := 37) rfl ?_); first | (with_reducible refine (Stp.ldo rfl agg37 rfl H (by assumption) (by assumption) ?_); simp only [pS]) | (with_reducible refine (Stp.ldc rfl agg37 rfl H mR cE ?_); simp only [pS])) | (with_reducible refine wpl rfl (ldQ (ty := 81) rfl ?_); first | (with_reducible refine (Stp.ldo rfl agg81 rfl H (by assumption) (by assumption) ?_); simp only [pS]) | (with_reducible refine (Stp.ldc rfl agg81 rfl H mR cE ?_); simp only [pS])))
    go_end0
    refine ⟨_, rfl, rfl, _, 0, ab, cb, d, by rw [HBF.out, HD.out], fun _ => by rw [HBF.out]; exact Byt.drop HL.out hmc HX.out hm1 hrd hkm H8.out rfl, ?_⟩
    rw [HDL.out]
    exact bytes_permG H
end Go.Proofs.Ytjghcmejmdllbaa
