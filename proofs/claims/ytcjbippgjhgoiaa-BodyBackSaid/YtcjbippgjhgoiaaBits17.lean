/- Contracts of layer 1's readings of short forms: both read what gs says; the bounds stand in each. -/
import Derived.Test.YtcjbippgjhgoiaaBits6
import Derived.Test.YtcjbippgjhgoiaaBits9
namespace Go.Proofs.Ytcjbippgjhgoiaa
open Go.ChangeShapes Go.WideShapes Go.ChangeAt Go.RowKit
set_option linter.unusedVariables false
set_option linter.unusedSimpArgs false
/-- What is read from place i on, f steps at most. -/
def gs (l : List Nat) : Nat → Nat → Nat → Nat × Nat × Nat
  | 0, _, _ => (0, 0, 2)
  | f + 1, i, n =>
    if l.length ≤ i then (0, 0, 2)
    else if i = 9 ∧ 1 < l.getD i 0 then (0, 0, 5)
    else if l.getD i 0 < 128 then (if l.getD i 0 = 0 ∧ 0 < i then (0, 0, 5) else (n + l.getD i 0 % 128 * 2 ^ (7 * i), i + 1, 0))
    else gs l f (i + 1) (n + l.getD i 0 % 128 * 2 ^ (7 * i))
theorem gs_end {l : List Nat} {f i n : Nat} (h : l.length ≤ i) : gs l f i n = (0, 0, 2) := by
  cases f with
  | zero => rfl
  | succ f => rw [gs, if_pos h]
theorem gs_big {l : List Nat} {f i n : Nat} (h : i < l.length) (h9 : i = 9) (hc : 1 < l.getD i 0) : gs l (f + 1) i n = (0, 0, 5) := by
  rw [gs, if_neg (by omega), if_pos ⟨h9, hc⟩]
theorem gs_zero {l : List Nat} {f i n : Nat} (h : i < l.length) (h9 : ¬ (i = 9 ∧ 1 < l.getD i 0)) (hc : l.getD i 0 = 0) (hi : 0 < i) : gs l (f + 1) i n = (0, 0, 5) := by
  rw [gs, if_neg (by omega), if_neg h9, if_pos (by omega), if_pos ⟨hc, hi⟩]
theorem gs_last {l : List Nat} {f i n : Nat} (h : i < l.length) (h9 : ¬ (i = 9 ∧ 1 < l.getD i 0)) (hc : l.getD i 0 < 128) (hz : ¬ (l.getD i 0 = 0 ∧ 0 < i)) : gs l (f + 1) i n = (n + l.getD i 0 % 128 * 2 ^ (7 * i), i + 1, 0) := by
  rw [gs, if_neg (by omega), if_neg h9, if_pos hc, if_neg hz]
theorem gs_more {l : List Nat} {f i n : Nat} (h : i < l.length) (h9 : ¬ (i = 9 ∧ 1 < l.getD i 0)) (hc : ¬ l.getD i 0 < 128) : gs l (f + 1) i n = gs l f (i + 1) (n + l.getD i 0 % 128 * 2 ^ (7 * i)) := by
  rw [gs, if_neg (by omega), if_neg h9, if_neg hc]
theorem and127 (x : Nat) (h : x < 256) : bits .and .u8 (x : Int) 127 = ((x % 128 : Nat) : Int) := by
  have := (by decide +kernel : ∀ x : Fin 256, bits .and .u8 ((x.val : Nat) : Int) 127 = ((x.val % 128 : Nat) : Int))
  exact this ⟨x, h⟩
theorem or_at (n y k : Nat) (hn : n < 2 ^ k) (h : n + y * 2 ^ k < 18446744073709551616) : bits .or .u64 (n : Int) ((y : Int) * 2 ^ k) = ((n + y * 2 ^ k : Nat) : Int) := by
  have e : ((y : Int) * 2 ^ k) = ((y * 2 ^ k : Nat) : Int) := by push_cast; rfl
  rw [e]
  have h1 : n < 18446744073709551616 := by omega
  have h2 : y * 2 ^ k < 18446744073709551616 := by omega
  have := Nat.shiftLeft_add_eq_or_of_lt hn y
  rw [Nat.shiftLeft_eq] at this
  rw [bits_or_u64_nat _ _ h1 h2, Nat.or_comm, ← this, Nat.add_comm]
theorem sh_small (n y k : Nat) (hk : k ≤ 9) (hn : n < 2 ^ (7 * k)) (hy : y < 128) (h9 : k = 9 → y ≤ 1) : n + y * 2 ^ (7 * k) < 2 ^ (7 * (k + 1)) ∧ n + y * 2 ^ (7 * k) < 18446744073709551616 := by
  have e : (2 : Nat) ^ (7 * (k + 1)) = 128 * 2 ^ (7 * k) := by rw [show 7 * (k + 1) = 7 + 7 * k by omega, Nat.pow_add]
  have m1 : y * 2 ^ (7 * k) ≤ 127 * 2 ^ (7 * k) := Nat.mul_le_mul_right _ (by omega)
  have h1 : n + y * 2 ^ (7 * k) < 2 ^ (7 * (k + 1)) := by omega
  refine ⟨h1, ?_⟩
  rcases Nat.lt_or_ge k 9 with h | h
  · have : (2 : Nat) ^ (7 * (k + 1)) ≤ 2 ^ 63 := Nat.pow_le_pow_right (by omega) (by omega)
    omega
  · obtain rfl : k = 9 := by omega
    have m2 : y * 2 ^ (7 * 9) ≤ 1 * 2 ^ (7 * 9) := Nat.mul_le_mul_right _ (h9 rfl)
    omega
set_option maxRecDepth 100000 in
set_option maxHeartbeats 1000000 in
theorem getshort_ok (v : Value) (l : List Nat) (hl : l.length ≤ 1000000) (hx : ∀ x ∈ l, x < 256) (w : World) (hs : Sl w 1 l.length v (elB l)) (a b c : Nat) (hr : gs l 10 0 0 = (a, b, c)) :
    Calls Try.prog 62 #[v] w (Ret fun v w' => v = .tuple #[.int .u64 (a : Int), .int .i64 (b : Int), .int .i64 (c : Int)] ∧ Below w.heap.size w w') := by
  have hs' := hs
  obtain ⟨ad, cp, rfl, hm⟩ := hs'.len
  have H := St.init w
  have HX := Lib.hid hx
  have HR := Lib.hid hr
  clear hx hr
  go_enter Try.func62, Try.ntmps62
  go_wp2_with (first | (with_reducible refine wpl rfl (Stp.ldc rfl agg5 rfl H (by repeat (first | exact List.mem_cons_self | apply List.mem_cons_of_mem)) (by first | (repeat (first | exact lit0 _ _ | apply lits)) | rfl | assumption) ?_); simp only [Act.put, List.setIfInBounds_toArray, List.set_cons_zero, List.set_cons_succ]) | (with_reducible refine wpl rfl (Stp.ldo rfl agg5 rfl H (by assumption) (by assumption) ?_); simp only [Act.put, List.setIfInBounds_toArray, List.set_cons_zero, List.set_cons_succ]))
  go_loopw [9, 2] (fun i x wr => ∃ k n : Nat, k ≤ l.length ∧ k ≤ 9 ∧ x = .int .u64 (n : Int) ∧ i = .int .i64 (k : Int) ∧ Hid (n < 2 ^ (7 * k)) ∧ Hid (gs l (10 - k) k n = (a, b, c)) ∧ St w.heap.size w wr []) (fun i _ _ => l.length - (intOf i).toNat)
  case atStart => exact ⟨0, 0, Nat.zero_le _, by omega, rfl, rfl, Lib.hid (by decide), HR, H⟩
  case round =>
    clear H
    obtain ⟨k, n, hk, hk9, rfl, rfl, HN, HG, H⟩ := hrel
    by_cases hlt : k < l.length
    · obtain ⟨b1, o1, rfl, hb1, hc1⟩ := hs.byte hlt
      obtain ⟨y, hy⟩ : ∃ y : Nat, y = l.getD k 0 := ⟨_, rfl⟩
      have hy8 : y < 256 := by rw [hy]; exact getD_byte HX.out k
      rw [← hy] at hc1
      have ea := and127 y hy8
      have ef : 10 - k = (9 - k) + 1 := by omega
      have HF := Lib.hid ef
      clear ef
      have HY := Lib.hid hy
      clear hy
      by_cases e9 : k = 9
      · subst e9
        have y3 : y = 0 ∨ y = 1 ∨ 1 < y := by omega
        rcases y3 with rfl | rfl | h9y
        · have hh := HG.out
          rw [HF.out, gs_zero hlt (by rw [← HY.out]; omega) HY.out.symm (by omega)] at hh
          cases hh
          go_wp2_with (first | (with_reducible refine wpl rfl (Stp.ldc rfl agg5 rfl H (by repeat (first | exact List.mem_cons_self | apply List.mem_cons_of_mem)) (by first | (repeat (first | exact lit0 _ _ | apply lits)) | rfl | assumption) ?_); simp only [Act.put, List.setIfInBounds_toArray, List.set_cons_zero, List.set_cons_succ]) | (with_reducible refine wpl rfl (Stp.ldo rfl agg5 rfl H (by assumption) (by assumption) ?_); simp only [Act.put, List.setIfInBounds_toArray, List.set_cons_zero, List.set_cons_succ]))
          go_ret3
          exact ⟨_, rfl, rfl, H.below⟩
        · have hh := HG.out
          rw [HF.out, gs_last hlt (by rw [← HY.out]; omega) (by rw [← HY.out]; omega) (by rw [← HY.out]; omega), ← HY.out] at hh
          cases hh
          have hs9 := sh_small n 1 9 (by omega) HN.out (by omega) (by omega)
          have ho9 := or_at n 1 (7 * 9) HN.out hs9.2
          have ho : bits .or .u64 (n : Int) 9223372036854775808 = (n : Int) + 9223372036854775808 := by simpa using ho9
          have HSM := Lib.hid hs9
          clear ho9 hs9
          have e1 : bits .and .u8 1 127 = 1 := by decide +kernel
          go_wp2_with (first | (with_reducible refine wpl rfl (Stp.ldc rfl agg5 rfl H (by repeat (first | exact List.mem_cons_self | apply List.mem_cons_of_mem)) (by first | (repeat (first | exact lit0 _ _ | apply lits)) | rfl | assumption) ?_); simp only [Act.put, List.setIfInBounds_toArray, List.set_cons_zero, List.set_cons_succ]) | (with_reducible refine wpl rfl (Stp.ldo rfl agg5 rfl H (by assumption) (by assumption) ?_); simp only [Act.put, List.setIfInBounds_toArray, List.set_cons_zero, List.set_cons_succ]))
          go_ret3
          exact ⟨_, rfl, rfl, H.below⟩
        · have hh := HG.out
          rw [HF.out, gs_big hlt rfl (by rw [← HY.out]; exact h9y)] at hh
          have h1y : (1 : Int) < (y : Int) := by omega
          cases hh
          go_wp2_with (first | (with_reducible refine wpl rfl (Stp.ldc rfl agg5 rfl H (by repeat (first | exact List.mem_cons_self | apply List.mem_cons_of_mem)) (by first | (repeat (first | exact lit0 _ _ | apply lits)) | rfl | assumption) ?_); simp only [Act.put, List.setIfInBounds_toArray, List.set_cons_zero, List.set_cons_succ]) | (with_reducible refine wpl rfl (Stp.ldo rfl agg5 rfl H (by assumption) (by assumption) ?_); simp only [Act.put, List.setIfInBounds_toArray, List.set_cons_zero, List.set_cons_succ]))
          go_ret3
          exact ⟨_, rfl, rfl, H.below⟩
      · have h9' : ¬(k = 9 ∧ 1 < l.getD k 0) := fun h => e9 h.1
        have hsm := sh_small n (y % 128) k hk9 HN.out (Nat.mod_lt _ (by omega)) (fun h => absurd h e9)
        have ho := or_at n (y % 128) (7 * k) HN.out hsm.2
        have ow : IntKind.u64.wrap ((y : Int) % 128 * 2 ^ (7 * k)) = ((y % 128 : Nat) : Int) * 2 ^ (7 * k) := by
          have e : ((y : Int) % 128 * 2 ^ (7 * k)) = ((y % 128 * 2 ^ (7 * k) : Nat) : Int) := by push_cast; rfl
          have e' : ((y % 128 : Nat) : Int) * 2 ^ (7 * k) = ((y % 128 * 2 ^ (7 * k) : Nat) : Int) := by push_cast; rfl
          rw [e, e']
          exact wrap_u64_in _ (by omega) (by have := hsm.2; omega)
        rw [← ow] at ho
        have HO := Lib.hid ho
        have HSM := Lib.hid hsm
        clear ho hsm ow
        have H9 := Lib.hid h9'
        clear h9'
        have e9i : ¬ (k : Int) = 9 := by omega
        have eu : IntKind.u64.wrap (k : Int) = (k : Int) := wrap_u64_in _ (by omega) (by omega)
        have eu7 : IntKind.u64.wrap (7 * (k : Int)) = 7 * (k : Int) := wrap_u64_in _ (by omega) (by omega)
        have et : (7 * (k : Int)).toNat = 7 * k := by omega
        by_cases hz : y = 0 ∧ 0 < k
        · have hh := HG.out
          rw [HF.out, gs_zero hlt H9.out (by rw [← HY.out]; exact hz.1) hz.2] at hh
          obtain ⟨rfl, hk0⟩ := hz
          have hk0i : (0 : Int) < (k : Int) := by omega
          cases hh
          go_wp2_with (first | (with_reducible refine wpl rfl (Stp.ldc rfl agg5 rfl H (by repeat (first | exact List.mem_cons_self | apply List.mem_cons_of_mem)) (by first | (repeat (first | exact lit0 _ _ | apply lits)) | rfl | assumption) ?_); simp only [Act.put, List.setIfInBounds_toArray, List.set_cons_zero, List.set_cons_succ]) | (with_reducible refine wpl rfl (Stp.ldo rfl agg5 rfl H (by assumption) (by assumption) ?_); simp only [Act.put, List.setIfInBounds_toArray, List.set_cons_zero, List.set_cons_succ]))
          go_ret3
          exact ⟨_, rfl, rfl, H.below⟩
        · by_cases hc : y < 128
          · have hci : (y : Int) < 128 := by omega
            have hh := HG.out
            rw [HF.out, gs_last hlt H9.out (by rw [← HY.out]; exact hc) (by rw [← HY.out]; exact hz), ← HY.out] at hh
            cases hh
            by_cases hy0 : y = 0
            · obtain rfl : k = 0 := by omega
              subst hy0
              rw [Nat.add_zero] at hc1
              obtain rfl : n = 0 := by have := HN.out; simp at this; omega
              clear ea eu eu7 et
              go_wp2_with (first | (with_reducible refine wpl rfl (Stp.ldc rfl agg5 rfl H (by repeat (first | exact List.mem_cons_self | apply List.mem_cons_of_mem)) (by first | (repeat (first | exact lit0 _ _ | apply lits)) | rfl | assumption) ?_); simp only [Act.put, List.setIfInBounds_toArray, List.set_cons_zero, List.set_cons_succ]) | (with_reducible refine wpl rfl (Stp.ldo rfl agg5 rfl H (by assumption) (by assumption) ?_); simp only [Act.put, List.setIfInBounds_toArray, List.set_cons_zero, List.set_cons_succ]))
              go_ret3
              exact ⟨_, rfl, rfl, H.below⟩
            · have hy0i : ¬ (y : Int) = 0 := by omega
              go_wp2_with (first | (with_reducible refine wpl rfl (Stp.ldc rfl agg5 rfl H (by repeat (first | exact List.mem_cons_self | apply List.mem_cons_of_mem)) (by first | (repeat (first | exact lit0 _ _ | apply lits)) | rfl | assumption) ?_); simp only [Act.put, List.setIfInBounds_toArray, List.set_cons_zero, List.set_cons_succ]) | (with_reducible refine wpl rfl (Stp.ldo rfl agg5 rfl H (by assumption) (by assumption) ?_); simp only [Act.put, List.setIfInBounds_toArray, List.set_cons_zero, List.set_cons_succ]))
              go_ret3
              refine ⟨_, rfl, ?_, H.below⟩
              rw [← HO.out]
              rfl
          · have hci : ¬ (y : Int) < 128 := by omega
            go_wp2_with (first | (with_reducible refine wpl rfl (Stp.ldc rfl agg5 rfl H (by repeat (first | exact List.mem_cons_self | apply List.mem_cons_of_mem)) (by first | (repeat (first | exact lit0 _ _ | apply lits)) | rfl | assumption) ?_); simp only [Act.put, List.setIfInBounds_toArray, List.set_cons_zero, List.set_cons_succ]) | (with_reducible refine wpl rfl (Stp.ldo rfl agg5 rfl H (by assumption) (by assumption) ?_); simp only [Act.put, List.setIfInBounds_toArray, List.set_cons_zero, List.set_cons_succ]))
            go_roundw
            case rel =>
              refine ⟨k + 1, n + y % 128 * 2 ^ (7 * k), by omega, by omega, by rw [HO.out], by go_num, Lib.hid HSM.out.1, Lib.hid ?_, H⟩
              have hh := HG.out
              rw [HF.out, gs_more hlt H9.out (by rw [← HY.out]; exact hc), ← HY.out] at hh
              rw [show 10 - (k + 1) = 9 - k by omega]
              exact hh
            case measure => simp [intOf]; omega
    · obtain rfl : k = l.length := by omega
      have hh := HG.out
      rw [gs_end (Nat.le_refl _)] at hh
      cases hh
      go_wp2_with (first | (with_reducible refine wpl rfl (Stp.ldc rfl agg5 rfl H (by repeat (first | exact List.mem_cons_self | apply List.mem_cons_of_mem)) (by first | (repeat (first | exact lit0 _ _ | apply lits)) | rfl | assumption) ?_); simp only [Act.put, List.setIfInBounds_toArray, List.set_cons_zero, List.set_cons_succ]) | (with_reducible refine wpl rfl (Stp.ldo rfl agg5 rfl H (by assumption) (by assumption) ?_); simp only [Act.put, List.setIfInBounds_toArray, List.set_cons_zero, List.set_cons_succ]))
      go_ret3
      exact ⟨_, rfl, rfl, H.below⟩
set_option maxRecDepth 100000 in
set_option maxHeartbeats 1000000 in
theorem rgetshort_ok (v : Value) (l : List Nat) (hl : l.length ≤ 1000000) (hx : ∀ x ∈ l, x < 256) (w : World) (hs : Sl w 1 l.length v (elB l)) (a b c : Nat) (hr : gs l 10 0 0 = (a, b, c)) :
    Calls Try.prog 66 #[v] w (Ret fun v w' => v = .tuple #[.int .u64 (a : Int), .int .i64 (b : Int), .int .i64 (c : Int)] ∧ Below w.heap.size w w') := by
  have hs' := hs
  obtain ⟨ad, cp, rfl, hm⟩ := hs'.len
  have H := St.init w
  have HX := Lib.hid hx
  have HR := Lib.hid hr
  clear hx hr
  go_enter Try.func66, Try.ntmps66
  go_wp2_with (first | (with_reducible refine wpl rfl (Stp.ldc rfl agg5 rfl H (by repeat (first | exact List.mem_cons_self | apply List.mem_cons_of_mem)) (by first | (repeat (first | exact lit0 _ _ | apply lits)) | rfl | assumption) ?_); simp only [Act.put, List.setIfInBounds_toArray, List.set_cons_zero, List.set_cons_succ]) | (with_reducible refine wpl rfl (Stp.ldo rfl agg5 rfl H (by assumption) (by assumption) ?_); simp only [Act.put, List.setIfInBounds_toArray, List.set_cons_zero, List.set_cons_succ]))
  go_loopw [7, 5, 6] (fun i x u wr => ∃ k n : Nat, k ≤ l.length ∧ k ≤ 9 ∧ u = .int .u64 (((2 ^ (7 * k) : Nat)) : Int) ∧ x = .int .u64 (n : Int) ∧ i = .int .i64 (k : Int) ∧ Hid (n < 2 ^ (7 * k)) ∧ Hid (gs l (10 - k) k n = (a, b, c)) ∧ St w.heap.size w wr []) (fun i _ _ _ => l.length - (intOf i).toNat)
  case atStart => exact ⟨0, 0, Nat.zero_le _, by omega, rfl, rfl, rfl, Lib.hid (by decide), HR, H⟩
  case round =>
    clear H
    obtain ⟨k, n, hk, hk9, rfl, rfl, rfl, HN, HG, H⟩ := hrel
    have k10 : (k : Int) < 10 := by omega
    by_cases hlt : k < l.length
    · obtain ⟨b1, o1, rfl, hb1, hc1⟩ := hs.byte hlt
      obtain ⟨y, hy⟩ : ∃ y : Nat, y = l.getD k 0 := ⟨_, rfl⟩
      have hy8 : y < 256 := by rw [hy]; exact getD_byte HX.out k
      rw [← hy] at hc1
      have ea := and127 y hy8
      have ef : 10 - k = (9 - k) + 1 := by omega
      have HF := Lib.hid ef
      clear ef
      have HY := Lib.hid hy
      clear hy
      by_cases e9 : k = 9
      · subst e9
        have y3 : y = 0 ∨ y = 1 ∨ 1 < y := by omega
        rcases y3 with rfl | rfl | h9y
        · have hh := HG.out
          rw [HF.out, gs_zero hlt (by rw [← HY.out]; omega) HY.out.symm (by omega)] at hh
          cases hh
          go_wp2_with (first | (with_reducible refine wpl rfl (Stp.ldc rfl agg5 rfl H (by repeat (first | exact List.mem_cons_self | apply List.mem_cons_of_mem)) (by first | (repeat (first | exact lit0 _ _ | apply lits)) | rfl | assumption) ?_); simp only [Act.put, List.setIfInBounds_toArray, List.set_cons_zero, List.set_cons_succ]) | (with_reducible refine wpl rfl (Stp.ldo rfl agg5 rfl H (by assumption) (by assumption) ?_); simp only [Act.put, List.setIfInBounds_toArray, List.set_cons_zero, List.set_cons_succ]))
          go_ret3
          exact ⟨_, rfl, rfl, H.below⟩
        · have hh := HG.out
          rw [HF.out, gs_last hlt (by rw [← HY.out]; omega) (by rw [← HY.out]; omega) (by rw [← HY.out]; omega), ← HY.out] at hh
          cases hh
          have hs9 := sh_small n 1 9 (by omega) HN.out (by omega) (by omega)
          have ho : IntKind.u64.wrap ((n : Int) + 9223372036854775808) = (n : Int) + 9223372036854775808 := wrap_u64_in _ (by omega) (by have := hs9.2; omega)
          have HSM := Lib.hid hs9
          clear hs9
          have e1 : bits .and .u8 1 127 = 1 := by decide +kernel
          go_wp2_with (first | (with_reducible refine wpl rfl (Stp.ldc rfl agg5 rfl H (by repeat (first | exact List.mem_cons_self | apply List.mem_cons_of_mem)) (by first | (repeat (first | exact lit0 _ _ | apply lits)) | rfl | assumption) ?_); simp only [Act.put, List.setIfInBounds_toArray, List.set_cons_zero, List.set_cons_succ]) | (with_reducible refine wpl rfl (Stp.ldo rfl agg5 rfl H (by assumption) (by assumption) ?_); simp only [Act.put, List.setIfInBounds_toArray, List.set_cons_zero, List.set_cons_succ]))
          go_ret3
          exact ⟨_, rfl, rfl, H.below⟩
        · have hh := HG.out
          rw [HF.out, gs_big hlt rfl (by rw [← HY.out]; exact h9y)] at hh
          have h1y : (1 : Int) < (y : Int) := by omega
          cases hh
          go_wp2_with (first | (with_reducible refine wpl rfl (Stp.ldc rfl agg5 rfl H (by repeat (first | exact List.mem_cons_self | apply List.mem_cons_of_mem)) (by first | (repeat (first | exact lit0 _ _ | apply lits)) | rfl | assumption) ?_); simp only [Act.put, List.setIfInBounds_toArray, List.set_cons_zero, List.set_cons_succ]) | (with_reducible refine wpl rfl (Stp.ldo rfl agg5 rfl H (by assumption) (by assumption) ?_); simp only [Act.put, List.setIfInBounds_toArray, List.set_cons_zero, List.set_cons_succ]))
          go_ret3
          exact ⟨_, rfl, rfl, H.below⟩
      · have h9' : ¬(k = 9 ∧ 1 < l.getD k 0) := fun h => e9 h.1
        have hsm := sh_small n (y % 128) k hk9 HN.out (Nat.mod_lt _ (by omega)) (fun h => absurd h e9)
        have ho : IntKind.u64.wrap ((n : Int) + IntKind.u64.wrap ((y : Int) % 128 * 2 ^ (7 * k))) = ((n + y % 128 * 2 ^ (7 * k) : Nat) : Int) := by
          have e : ((y : Int) % 128 * 2 ^ (7 * k)) = ((y % 128 * 2 ^ (7 * k) : Nat) : Int) := by push_cast; rfl
          have := hsm.2
          rw [e, wrap_u64_in (((y % 128 * 2 ^ (7 * k) : Nat)) : Int) (by omega) (by omega), wrap_u64_in _ (by omega) (by omega)]
          push_cast; rfl
        have hu : IntKind.u64.wrap ((2 : Int) ^ (7 * k) * 128) = ((2 ^ (7 * (k + 1)) : Nat) : Int) := by
          have e : ((2 : Int) ^ (7 * k) * 128) = ((2 ^ (7 * (k + 1)) : Nat) : Int) := by
            rw [show 7 * (k + 1) = 7 * k + 7 by omega, Nat.pow_add]; push_cast; rfl
          have h2 : (2 : Nat) ^ (7 * (k + 1)) ≤ 2 ^ 63 := Nat.pow_le_pow_right (by omega) (by omega)
          rw [e]
          exact wrap_u64_in _ (by omega) (by omega)
        have HU := Lib.hid hu
        clear hu
        have HO := Lib.hid ho
        have HSM := Lib.hid hsm
        clear ho hsm
        have H9 := Lib.hid h9'
        clear h9'
        have e9i : ¬ (k : Int) = 9 := by omega
        have eu : IntKind.u64.wrap (k : Int) = (k : Int) := wrap_u64_in _ (by omega) (by omega)
        have eu7 : IntKind.u64.wrap (7 * (k : Int)) = 7 * (k : Int) := wrap_u64_in _ (by omega) (by omega)
        have et : (7 * (k : Int)).toNat = 7 * k := by omega
        by_cases hz : y = 0 ∧ 0 < k
        · have hh := HG.out
          rw [HF.out, gs_zero hlt H9.out (by rw [← HY.out]; exact hz.1) hz.2] at hh
          obtain ⟨rfl, hk0⟩ := hz
          have hk0i : (0 : Int) < (k : Int) := by omega
          cases hh
          go_wp2_with (first | (with_reducible refine wpl rfl (Stp.ldc rfl agg5 rfl H (by repeat (first | exact List.mem_cons_self | apply List.mem_cons_of_mem)) (by first | (repeat (first | exact lit0 _ _ | apply lits)) | rfl | assumption) ?_); simp only [Act.put, List.setIfInBounds_toArray, List.set_cons_zero, List.set_cons_succ]) | (with_reducible refine wpl rfl (Stp.ldo rfl agg5 rfl H (by assumption) (by assumption) ?_); simp only [Act.put, List.setIfInBounds_toArray, List.set_cons_zero, List.set_cons_succ]))
          go_ret3
          exact ⟨_, rfl, rfl, H.below⟩
        · by_cases hc : y < 128
          · have hci : (y : Int) < 128 := by omega
            have hh := HG.out
            rw [HF.out, gs_last hlt H9.out (by rw [← HY.out]; exact hc) (by rw [← HY.out]; exact hz), ← HY.out] at hh
            cases hh
            by_cases hy0 : y = 0
            · obtain rfl : k = 0 := by omega
              subst hy0
              rw [Nat.add_zero] at hc1
              obtain rfl : n = 0 := by have := HN.out; simp at this; omega
              clear ea eu eu7 et
              go_wp2_with (first | (with_reducible refine wpl rfl (Stp.ldc rfl agg5 rfl H (by repeat (first | exact List.mem_cons_self | apply List.mem_cons_of_mem)) (by first | (repeat (first | exact lit0 _ _ | apply lits)) | rfl | assumption) ?_); simp only [Act.put, List.setIfInBounds_toArray, List.set_cons_zero, List.set_cons_succ]) | (with_reducible refine wpl rfl (Stp.ldo rfl agg5 rfl H (by assumption) (by assumption) ?_); simp only [Act.put, List.setIfInBounds_toArray, List.set_cons_zero, List.set_cons_succ]))
              go_ret3
              exact ⟨_, rfl, rfl, H.below⟩
            · have hy0i : ¬ (y : Int) = 0 := by omega
              go_wp2_with (first | (with_reducible refine wpl rfl (Stp.ldc rfl agg5 rfl H (by repeat (first | exact List.mem_cons_self | apply List.mem_cons_of_mem)) (by first | (repeat (first | exact lit0 _ _ | apply lits)) | rfl | assumption) ?_); simp only [Act.put, List.setIfInBounds_toArray, List.set_cons_zero, List.set_cons_succ]) | (with_reducible refine wpl rfl (Stp.ldo rfl agg5 rfl H (by assumption) (by assumption) ?_); simp only [Act.put, List.setIfInBounds_toArray, List.set_cons_zero, List.set_cons_succ]))
              go_ret3
              refine ⟨_, rfl, ?_, H.below⟩
              rw [← HO.out]
              rfl
          · have hci : ¬ (y : Int) < 128 := by omega
            go_wp2_with (first | (with_reducible refine wpl rfl (Stp.ldc rfl agg5 rfl H (by repeat (first | exact List.mem_cons_self | apply List.mem_cons_of_mem)) (by first | (repeat (first | exact lit0 _ _ | apply lits)) | rfl | assumption) ?_); simp only [Act.put, List.setIfInBounds_toArray, List.set_cons_zero, List.set_cons_succ]) | (with_reducible refine wpl rfl (Stp.ldo rfl agg5 rfl H (by assumption) (by assumption) ?_); simp only [Act.put, List.setIfInBounds_toArray, List.set_cons_zero, List.set_cons_succ]))
            go_roundw
            case rel =>
              refine ⟨k + 1, n + y % 128 * 2 ^ (7 * k), by omega, by omega, by rw [HU.out], by rw [HO.out], by go_num, Lib.hid HSM.out.1, Lib.hid ?_, H⟩
              have hh := HG.out
              rw [HF.out, gs_more hlt H9.out (by rw [← HY.out]; exact hc), ← HY.out] at hh
              rw [show 10 - (k + 1) = 9 - k by omega]
              exact hh
            case measure => simp [intOf]; omega
    · obtain rfl : k = l.length := by omega
      have hh := HG.out
      rw [gs_end (Nat.le_refl _)] at hh
      cases hh
      go_wp2_with (first | (with_reducible refine wpl rfl (Stp.ldc rfl agg5 rfl H (by repeat (first | exact List.mem_cons_self | apply List.mem_cons_of_mem)) (by first | (repeat (first | exact lit0 _ _ | apply lits)) | rfl | assumption) ?_); simp only [Act.put, List.setIfInBounds_toArray, List.set_cons_zero, List.set_cons_succ]) | (with_reducible refine wpl rfl (Stp.ldo rfl agg5 rfl H (by assumption) (by assumption) ?_); simp only [Act.put, List.setIfInBounds_toArray, List.set_cons_zero, List.set_cons_succ]))
      go_ret3
      exact ⟨_, rfl, rfl, H.below⟩
theorem getD_at (pre : List Nat) (x : Nat) (t : List Nat) : (pre ++ x :: t).getD pre.length 0 = x := by simp [List.getD]
theorem gs_short (behind : List Nat) : ∀ (f i m acc : Nat) (pre : List Nat), pre.length = i → i + f = 9 → m < 2 ^ (64 - 7 * i) → (0 < i → m ≠ 0) →
    gs (pre ++ (shortF f m ++ behind)) (f + 1) i acc = (acc + m * 2 ^ (7 * i), i + (shortF f m).length, 0) := by
  have small : ∀ (f i m acc : Nat) (pre : List Nat), pre.length = i → i + f = 9 → m < 2 ^ (64 - 7 * i) → (0 < i → m ≠ 0) → m < 128 →
      gs (pre ++ (shortF f m ++ behind)) (f + 1) i acc = (acc + m * 2 ^ (7 * i), i + (shortF f m).length, 0) := by
    intro f i m acc pre hp hi hm hz h
    subst hp
    have e1 : shortF f m = [m] := by rw [shortF_small _ _ h, Nat.mod_eq_of_lt (by omega)]
    rw [e1]
    have e2 : (pre ++ ([m] ++ behind)).getD pre.length 0 = m := getD_at pre m behind
    have hl : pre.length < (pre ++ ([m] ++ behind)).length := by simp
    rw [gs_last hl (by
      rw [e2]; rintro ⟨h9, h1⟩
      rw [h9] at hm
      have : (2 : Nat) ^ (64 - 7 * 9) = 2 := by decide
      omega) (by rw [e2]; exact h) (by rw [e2]; rintro ⟨h0, h1⟩; exact hz h1 h0), e2, Nat.mod_eq_of_lt h]
    rfl
  intro f
  induction f with
  | zero =>
    intro i m acc pre hp hi hm hz
    refine small 0 i m acc pre hp hi hm hz ?_
    obtain rfl : i = 9 := by omega
    have : (2 : Nat) ^ (64 - 7 * 9) = 2 := by decide
    omega
  | succ f ih =>
    intro i m acc pre hp hi hm hz
    by_cases h : m < 128
    · exact small (f + 1) i m acc pre hp hi hm hz h
    · subst hp
      rw [shortF_big f m h]
      have e2 : (pre ++ ((m % 128 + 128) :: shortF f (m / 128) ++ behind)).getD pre.length 0 = m % 128 + 128 := getD_at pre _ _
      have hl : pre.length < (pre ++ ((m % 128 + 128) :: shortF f (m / 128) ++ behind)).length := by simp
      rw [gs_more hl (by omega) (by rw [e2]; omega), e2]
      have h3 : (2 : Nat) ^ (64 - 7 * pre.length) = 128 * 2 ^ (64 - 7 * (pre.length + 1)) := by
        rw [show 64 - 7 * pre.length = 7 + (64 - 7 * (pre.length + 1)) by omega, Nat.pow_add]
      have := ih (pre.length + 1) (m / 128) (acc + (m % 128 + 128) % 128 * 2 ^ (7 * pre.length)) (pre ++ [m % 128 + 128]) (by simp) (by omega) (by
        rw [h3] at hm; exact Nat.div_lt_of_lt_mul hm) (fun _ => by omega)
      rw [List.append_assoc] at this
      refine (show _ = _ from this).trans ?_
      have e4 : (2 : Nat) ^ (7 * (pre.length + 1)) = 128 * 2 ^ (7 * pre.length) := by rw [show 7 * (pre.length + 1) = 7 + 7 * pre.length by omega, Nat.pow_add]
      have e5 : (m % 128 + 128) % 128 = m % 128 := by omega
      rw [e4, e5]
      refine Prod.ext ?_ (Prod.ext ?_ rfl)
      · show acc + m % 128 * 2 ^ (7 * pre.length) + m / 128 * (128 * 2 ^ (7 * pre.length)) = acc + m * 2 ^ (7 * pre.length)
        rw [← Nat.mul_assoc, Nat.add_assoc, ← Nat.add_mul]
        congr 2
        omega
      · simp; omega
theorem gs_back (n : Nat) (hn : n < 18446744073709551616) (behind : List Nat) : gs (shortB n ++ behind) 10 0 0 = (n, (shortB n).length, 0) := by
  have := gs_short behind 9 0 n 0 [] rfl rfl (by simpa using hn) (fun h => absurd h (by omega))
  simpa [shortB] using this
theorem short_mono : ∀ (f n m : Nat), n ≤ m → (shortF f n).length ≤ (shortF f m).length
  | 0, _, _, _ => by simp [shortF]
  | f + 1, n, m, h => by
    by_cases h1 : m < 128
    · rw [shortF_small _ _ h1, shortF_small _ _ (by omega : n < 128)]; simp
    · rw [shortF_big _ _ h1]
      by_cases h2 : n < 128
      · rw [shortF_small _ _ h2]; simp
      · rw [shortF_big _ _ h2]
        have := short_mono f (n / 128) (m / 128) (Nat.div_le_div_right h)
        simp; omega
end Go.Proofs.Ytcjbippgjhgoiaa
