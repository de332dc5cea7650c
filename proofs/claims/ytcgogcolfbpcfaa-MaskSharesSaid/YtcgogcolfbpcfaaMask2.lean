/- Contracts of layer 5's functions (mask) that count, and, or and take away; no condition. -/
import Derived.Test.YtcgogcolfbpcfaaMask1
import Derived.Test.YtcgogcolfbpcfaaWords
namespace Go.Proofs.Ytcgogcolfbpcfaa
open Go.ChangeShapes Go.WideShapes Go.ChangeAt Go.RowKit
set_option linter.unusedVariables false
set_option linter.unusedSimpArgs false
theorem wrap_u64_in (x : Int) (h0 : 0 ≤ x) (h1 : x < 18446744073709551616) : IntKind.u64.wrap x = x := by
  rw [IntKind.wrap_u64]; exact Int.emod_eq_of_lt h0 h1
theorem and_nat (a b : Nat) (z : Int) (hz : z = a) (ha : a < 18446744073709551616) (hb : b < 18446744073709551616) : bits .and .u64 z (b : Int) = ((a &&& b : Nat) : Int) := by
  subst hz; exact bits_and_u64_nat a b ha hb
theorem mask_step (n k A : Nat) (x : Nat) (hn : n < 18446744073709551616) (hA : A < 9223372036854775808) (hx : (n &&& A) + (n / k &&& A) = x) :
    ∃ p q : Nat, bits .and .u64 (n : Int) (A : Int) = (p : Int) ∧ bits .and .u64 ((n : Int) / (k : Int)) (A : Int) = (q : Int) ∧ IntKind.u64.wrap ((p : Int) + (q : Int)) = (x : Int) ∧ x < 18446744073709551616 := by
  have h1 : n &&& A ≤ A := Nat.and_le_right
  have h2 : n / k &&& A ≤ A := Nat.and_le_right
  have h3 : n / k < 18446744073709551616 := Nat.lt_of_le_of_lt (Nat.div_le_self _ _) hn
  refine ⟨n &&& A, n / k &&& A, bits_and_u64_nat n A hn (by omega), and_nat (n / k) A _ (by rw [Int.natCast_ediv]) h3 (by omega), ?_, by omega⟩
  rw [wrap_u64_in _ (by omega) (by omega)]
  omega
set_option maxRecDepth 100000 in
theorem ones_ok (n : Nat) (hn : n < 18446744073709551616) (w : World) : Calls Try.prog 26 #[.int .u64 (n : Int)] w (Ret fun v w' => v = .int .i64 ((pop 64 n : Nat) : Int) ∧ Below w.heap.size w w') := by
  have H := St.init w
  obtain ⟨x1, hx1⟩ : ∃ x, half 1 32 n = x := ⟨_, rfl⟩
  obtain ⟨x2, hx2⟩ : ∃ x, half 2 16 x1 = x := ⟨_, rfl⟩
  obtain ⟨x3, hx3⟩ : ∃ x, half 4 8 x2 = x := ⟨_, rfl⟩
  obtain ⟨p1, q1, a1, b1, c1, d1⟩ := mask_step n 2 6148914691236517205 x1 hn (by omega) (by rw [← hx1]; unfold half; rw [show rep (2 * 1) (2 ^ 1 - 1) 32 = 6148914691236517205 by decide +kernel])
  obtain ⟨p2, q2, a2, b2, c2, d2⟩ := mask_step x1 4 3689348814741910323 x2 d1 (by omega) (by rw [← hx2]; unfold half; rw [show rep (2 * 2) (2 ^ 2 - 1) 16 = 3689348814741910323 by decide +kernel])
  obtain ⟨p3, q3, a3, b3, c3, d3⟩ := mask_step x2 16 1085102592571150095 x3 d2 (by omega) (by rw [← hx3]; unfold half; rw [show rep (2 * 4) (2 ^ 4 - 1) 8 = 1085102592571150095 by decide +kernel])
  simp only [Int.cast_ofNat_Int] at a1 b1 a2 b2 a3 b3
  have hbyt : byt n = x3 := by rw [byt, hx1, hx2, hx3]
  obtain ⟨y, hy⟩ : ∃ y, x3 + x3 / 256 = y := ⟨_, rfl⟩
  obtain ⟨z, hz⟩ : ∃ z, y + y / 65536 = z := ⟨_, rfl⟩
  obtain ⟨e1, e2, e3, e4⟩ := count_bits n y z (by rw [hbyt, hy]) hz.symm
  rw [hbyt] at e2
  have k1 : IntKind.u64.wrap ((x3 : Int) + (x3 : Int) / 256) = (y : Int) := by rw [wrap_u64_in _ (by omega) (by omega)]; omega
  have k2 : IntKind.u64.wrap ((y : Int) + (y : Int) / 65536) = (z : Int) := by rw [wrap_u64_in _ (by omega) (by omega)]; omega
  obtain ⟨t, ht⟩ : ∃ t, z + z / 4294967296 = t := ⟨_, rfl⟩
  have k3 : IntKind.u64.wrap ((z : Int) + (z : Int) / 4294967296) = (t : Int) := by rw [wrap_u64_in _ (by omega) (by omega)]; omega
  rw [ht] at e1
  have HE := Lib.hid e1
  clear hx1 hx2 hx3 hbyt hy hz e1 e2 e3 e4 d1 d2 d3 ht hn
  go_enter Try.func26, Try.ntmps26
  go_wp2
  go_ret
  refine ⟨_, rfl, ?_, H.below⟩
  rw [← HE.out]
  rfl
attribute [local irreducible] pop
theorem ones_as (n p : Nat) (hn : n < 18446744073709551616) (hp : pop 64 n = p) (w : World) : Calls Try.prog 26 #[.int .u64 (n : Int)] w (Ret fun v w' => v = .int .i64 (p : Int) ∧ Below w.heap.size w w') := by
  subst hp; exact ones_ok n hn w
set_option maxRecDepth 100000 in
theorem count_ok (a b p : Nat) (ha : a < 18446744073709551616) (hb : b < 18446744073709551616) (hp : pop 64 a + pop 64 b = p) (w : World) : Calls Try.prog 10 #[.agg #[.int .u64 (a : Int), .int .u64 (b : Int)]] w (Ret fun v w' => v = .int .i64 (p : Int) ∧ Below w.heap.size w w') := by
  subst hp
  have H := St.init w
  have HA := Lib.hid ha
  have HB := Lib.hid hb
  have h1 := pop_le 64 a
  have h2 := pop_le 64 b
  obtain ⟨x, hx⟩ : ∃ x, pop 64 a = x := ⟨_, rfl⟩
  obtain ⟨y, hy⟩ : ∃ y, pop 64 b = y := ⟨_, rfl⟩
  rw [hx] at h1
  rw [hy] at h2
  rw [hx, hy]
  have HX := Lib.hid hx
  have HY := Lib.hid hy
  have hw : IntKind.i64.wrap ((x : Int) + (y : Int)) = ((x + y : Nat) : Int) := by
    simp [IntKind.wrap, IntKind.bits, IntKind.signed]
    omega
  clear ha hb hx hy
  go_enter Try.func10, Try.ntmps10
  go_wp2_with (first | (with_reducible refine wpl rfl (Stp.box 1 rfl rfl rfl H ?_); clear H; intro g1 w1 H; simp only [Act.put, List.setIfInBounds_toArray, List.set_cons_zero, List.set_cons_succ]; simp only [eval_tmp, eval_const, getD_lit0, getD_lits, cells_agg, cells_int, cells_bool, cells_string, cells_pointer, cells_slice, cells_map, List.setIfInBounds_toArray, List.set_cons_zero, List.set_cons_succ] at H))
  refine rg_begin 8 rfl (S := fun W => St _ _ W _) (by kernel_rfl) H.drew ?_
  replace H := H.drew
  have HS := H
  refine rg_take (i := 0) rfl (by kernel_rfl) (by kernel_rfl) (by kernel_rfl) (Yld.of rfl (fun W _ => by go_simp; first | done | with_reducible rfl)) HS ?_; simp only [Act.put, List.setIfInBounds_toArray, List.set_cons_zero, List.set_cons_succ]
  first | (refine rg_take (i := 1) rfl (by kernel_rfl) (by kernel_rfl) (by kernel_rfl) (Yld.ldc rfl rfl agg22 rfl (by repeat (first | exact List.mem_cons_self | apply List.mem_cons_of_mem)) (by first | (repeat (first | exact lit0 _ _ | apply lits)) | rfl | assumption)) HS ?_; simp only [Act.put, List.setIfInBounds_toArray, List.set_cons_zero, List.set_cons_succ]) | (refine rg_take (i := 1) rfl (by kernel_rfl) (by kernel_rfl) (by kernel_rfl) (Yld.ldo rfl rfl agg22 rfl (by assumption) (by assumption)) HS ?_; simp only [Act.put, List.setIfInBounds_toArray, List.set_cons_zero, List.set_cons_succ])
  refine rg_take (i := 3) rfl (by kernel_rfl) (by kernel_rfl) (by kernel_rfl) (Yld.of rfl (fun W _ => by go_simp; first | done | with_reducible rfl)) HS ?_; simp only [Act.put, List.setIfInBounds_toArray, List.set_cons_zero, List.set_cons_succ]
  first | (refine rg_take (i := 4) rfl (by kernel_rfl) (by kernel_rfl) (by kernel_rfl) (Yld.ldc rfl rfl agg22 rfl (by repeat (first | exact List.mem_cons_self | apply List.mem_cons_of_mem)) (by first | (repeat (first | exact lit0 _ _ | apply lits)) | rfl | assumption)) HS ?_; simp only [Act.put, List.setIfInBounds_toArray, List.set_cons_zero, List.set_cons_succ]) | (refine rg_take (i := 4) rfl (by kernel_rfl) (by kernel_rfl) (by kernel_rfl) (Yld.ldo rfl rfl agg22 rfl (by assumption) (by assumption)) HS ?_; simp only [Act.put, List.setIfInBounds_toArray, List.set_cons_zero, List.set_cons_succ])
  refine rg_one (i := 2) (by kernel_rfl) rfl rfl (fun K hK => ?_)
  refine wp_callf rfl ent26 (ones_as a x HA.out HX.out _) rfl (fun v w1 hr => ?_)
  obtain ⟨rfl, hb1⟩ := hr
  replace H := H.grow hb1
  clear hb1
  clear HS
  have HS := H
  refine hK.out _ _ HS ?_
  clear hK K
  simp only [Act.put, List.setIfInBounds_toArray, List.set_cons_zero, List.set_cons_succ]
  refine rg_one (i := 5) (by kernel_rfl) rfl rfl (fun K hK => ?_)
  refine wp_callf rfl ent26 (ones_as b y HB.out HY.out _) rfl (fun v w1 hr => ?_)
  obtain ⟨rfl, hb1⟩ := hr
  replace H := H.grow hb1
  clear hb1
  clear HS
  have HS := H
  refine hK.out _ _ HS ?_
  clear hK K
  simp only [Act.put, List.setIfInBounds_toArray, List.set_cons_zero, List.set_cons_succ]
  refine rg_take (i := 6) rfl (by kernel_rfl) (by kernel_rfl) (by kernel_rfl) (Yld.of rfl (fun W _ => by go_simp; first | done | with_reducible rfl)) HS ?_; simp only [Act.put, List.setIfInBounds_toArray, List.set_cons_zero, List.set_cons_succ]
  refine rg_take (i := 7) rfl (by kernel_rfl) (by kernel_rfl) (by kernel_rfl) (Yld.assign rfl rfl) HS ?_; simp only [Act.put, eval_tmp, eval_const, getD_lit0, getD_lits, if_true, if_false, List.setIfInBounds_toArray, List.set_cons_zero, List.set_cons_succ]
  refine rg_done (by kernel_rfl) ?_
  go_wp2
  go_ret
  exact ⟨_, rfl, by first | rfl | exact congrArg (Value.int IntKind.i64) hw, H.below⟩
set_option maxRecDepth 100000 in
theorem and_ok (a b c d : Nat) (ha : a < 18446744073709551616) (hb : b < 18446744073709551616) (hc : c < 18446744073709551616) (hd : d < 18446744073709551616) (w : World) :
    Calls Try.prog 11 #[.agg #[.int .u64 (a : Int), .int .u64 (b : Int)], .agg #[.int .u64 (c : Int), .int .u64 (d : Int)]] w (Ret fun v w' => v = .agg #[.int .u64 ((a &&& c : Nat) : Int), .int .u64 ((b &&& d : Nat) : Int)] ∧ Below w.heap.size w w') := by
  have H := St.init w
  have e1 := bits_and_u64_nat a c ha hc
  have e2 := bits_and_u64_nat b d hb hd
  clear ha hb hc hd
  go_enter Try.func11, Try.ntmps11
  go_wp2_with (first | (with_reducible refine wpl rfl (Stp.box 2 rfl rfl rfl H ?_); clear H; intro g2 w1 H; simp only [Act.put, List.setIfInBounds_toArray, List.set_cons_zero, List.set_cons_succ]; simp only [eval_tmp, eval_const, getD_lit0, getD_lits, cells_agg, cells_int, cells_bool, cells_string, cells_pointer, cells_slice, cells_map, List.setIfInBounds_toArray, List.set_cons_zero, List.set_cons_succ] at H) | (with_reducible refine wpl rfl (Stp.box 3 rfl rfl rfl H ?_); clear H; intro g3 w1 H; simp only [Act.put, List.setIfInBounds_toArray, List.set_cons_zero, List.set_cons_succ]; simp only [eval_tmp, eval_const, getD_lit0, getD_lits, cells_agg, cells_int, cells_bool, cells_string, cells_pointer, cells_slice, cells_map, List.setIfInBounds_toArray, List.set_cons_zero, List.set_cons_succ] at H) | (with_reducible refine wpl rfl (Stp.alloc 4 rfl rfl zero24 H ?_); clear H; intro g4 w1 H; simp only [Act.put, List.setIfInBounds_toArray, List.set_cons_zero, List.set_cons_succ]; simp only [cells_agg, cells_int, cells_bool, cells_string, cells_pointer, cells_slice, cells_map] at H) | (with_reducible refine wpl rfl (Stp.ldc rfl agg22 rfl H (by repeat (first | exact List.mem_cons_self | apply List.mem_cons_of_mem)) (by first | (repeat (first | exact lit0 _ _ | apply lits)) | rfl | assumption) ?_); simp only [Act.put, List.setIfInBounds_toArray, List.set_cons_zero, List.set_cons_succ]) | (with_reducible refine wpl rfl (Stp.ldo rfl agg22 rfl H (by assumption) (by assumption) ?_); simp only [Act.put, List.setIfInBounds_toArray, List.set_cons_zero, List.set_cons_succ]) | (with_reducible refine wpl rfl (Stp.str rfl size24 rfl rfl (by first | rfl | (simp [Value.oneCell']; done) | assumption) H (by repeat (first | exact Upd.head | apply Upd.tail)) (by first | rfl | (simp; done) | assumption) (by first | rfl | (simp; done) | assumption) ?_); clear H; intro w1 H; simp only [Act.put, List.setIfInBounds_toArray, List.set_cons_zero, List.set_cons_succ]))
  refine post_row rfl agg24 size24 rfl H (by repeat (first | exact List.mem_cons_self | apply List.mem_cons_of_mem)) rfl rfl ⟨_, rfl, rfl, H.below⟩
/-- The lowest bits. -/
def low (n : Int) : Nat := 2 ^ (min n.toNat 64) - 1
theorem low_wrap (k : Nat) (hk : k ≤ 64) : IntKind.u64.wrap (IntKind.u64.wrap ((2 : Int) ^ k) - 1) = ((2 ^ k - 1 : Nat) : Int) := by
  rcases Nat.lt_or_ge k 64 with h | h
  · have h1 : (2 : Nat) ^ k ≤ 2 ^ 63 := Nat.pow_le_pow_right (by omega) (by omega)
    have h2 := Nat.two_pow_pos k
    have e : ((2 : Int) ^ k) = ((2 ^ k : Nat) : Int) := by push_cast; rfl
    rw [e, wrap_u64_in ((2 ^ k : Nat) : Int) (by omega) (by omega), wrap_u64_in _ (by omega) (by omega)]
    omega
  · obtain rfl : k = 64 := by omega
    decide +kernel
theorem low_lt (n : Int) : low n < 18446744073709551616 := by
  unfold low
  have h1 : (2 : Nat) ^ (min n.toNat 64) ≤ 2 ^ 64 := Nat.pow_le_pow_right (by omega) (by omega)
  have h2 := Nat.two_pow_pos (min n.toNat 64)
  omega
set_option maxRecDepth 100000 in
theorem low_ok (n : Int) (w : World) : Calls Try.prog 27 #[.int .i64 n] w (Ret fun v w' => v = .int .u64 ((low n : Nat) : Int) ∧ Below w.heap.size w w') := by
  have H := St.init w
  rcases Int.lt_or_le 64 n with h | h
  · have e : low n = 2 ^ 64 - 1 := by unfold low; rw [show min n.toNat 64 = 64 by omega]
    have hm : (if 64 < n then (64 : Int) else n) = 64 := if_pos h
    have HE := Lib.hid e
    clear e
    go_enter Try.func27, Try.ntmps27
    go_wp2
    go_ret
    refine ⟨_, rfl, ?_, H.below⟩
    rw [HE.out]
    exact congrArg (Value.int IntKind.u64) (low_wrap 64 (by omega))
  · rcases Int.lt_or_le 0 n with h0 | h0
    · obtain ⟨k, rfl⟩ : ∃ k : Nat, n = k := ⟨n.toNat, by omega⟩
      have e : low (k : Int) = 2 ^ k - 1 := by unfold low; rw [show min (k : Int).toNat 64 = k by omega]
      have hn : ¬ (64 : Int) < (k : Int) := by omega
      have hm : (if (64 : Int) < (k : Int) then (64 : Int) else (k : Int)) = (k : Int) := if_neg hn
      have HE := Lib.hid e
      clear e
      go_enter Try.func27, Try.ntmps27
      go_wp2
      go_ret
      refine ⟨_, rfl, ?_, H.below⟩
      rw [HE.out]
      exact congrArg (Value.int IntKind.u64) (low_wrap k (by omega))
    · have e : low n = 2 ^ 0 - 1 := by unfold low; rw [show min n.toNat 64 = 0 by omega]
      have hn : ¬ (64 : Int) < n := by omega
      have hm : (if (64 : Int) < n then (64 : Int) else n) = n := if_neg hn
      have hp : ¬ (0 : Int) < n := by omega
      have HE := Lib.hid e
      clear e
      go_enter Try.func27, Try.ntmps27
      go_wp2
      go_ret
      refine ⟨_, rfl, ?_, H.below⟩
      rw [HE.out]
      exact congrArg (Value.int IntKind.u64) (low_wrap 0 (by omega))
set_option maxRecDepth 100000 in
theorem first_ok (n : Int) (hn : n < 9223372036854775808) (w : World) : Calls Try.prog 12 #[.int .i64 n] w (Ret fun v w' => v = .agg #[.int .u64 ((low n : Nat) : Int), .int .u64 ((low (n - 64) : Nat) : Int)] ∧ Below w.heap.size w w') := by
  have H := St.init w
  rcases Int.lt_or_le 64 n with h | h
  · have hm : (if n < 64 then (64 : Int) else n) = n := if_neg (by omega)
    have hn2 : ¬ n < 64 := by omega
    go_enter Try.func12, Try.ntmps12
    go_wp2_with (first | (go_at_call 27; refine (low_ok _ _).mono ?_; rintro e w1 ⟨v, rfl, hr⟩; obtain ⟨rfl, hb1⟩ := hr; replace H := H.grow hb1; clear hb1) | (with_reducible refine wpl rfl (Stp.alloc 2 rfl rfl zero24 H ?_); clear H; intro g2 w1 H; simp only [Act.put, List.setIfInBounds_toArray, List.set_cons_zero, List.set_cons_succ]; simp only [cells_agg, cells_int, cells_bool, cells_string, cells_pointer, cells_slice, cells_map] at H) | (with_reducible refine wpl rfl (Stp.str rfl size24 rfl rfl (by first | rfl | (simp [Value.oneCell']; done) | assumption) H (by repeat (first | exact Upd.head | apply Upd.tail)) (by first | rfl | (simp; done) | assumption) (by first | rfl | (simp; done) | assumption) ?_); clear H; intro w1 H; simp only [Act.put, List.setIfInBounds_toArray, List.set_cons_zero, List.set_cons_succ]))
    refine post_row rfl agg24 size24 rfl H (by repeat (first | exact List.mem_cons_self | apply List.mem_cons_of_mem)) rfl rfl ⟨_, rfl, ?_, H.below⟩
    rfl
  · have hm : (if n < 64 then (64 : Int) else n) = 64 := by split <;> omega
    have e : low (n - 64) = low 0 := by unfold low; rw [show (n - 64).toNat = (0 : Int).toNat by omega]
    have HE := Lib.hid e
    clear e
    go_enter Try.func12, Try.ntmps12
    go_wp2_with (first | (go_at_call 27; refine (low_ok _ _).mono ?_; rintro e w1 ⟨v, rfl, hr⟩; obtain ⟨rfl, hb1⟩ := hr; replace H := H.grow hb1; clear hb1) | (with_reducible refine wpl rfl (Stp.alloc 2 rfl rfl zero24 H ?_); clear H; intro g2 w1 H; simp only [Act.put, List.setIfInBounds_toArray, List.set_cons_zero, List.set_cons_succ]; simp only [cells_agg, cells_int, cells_bool, cells_string, cells_pointer, cells_slice, cells_map] at H) | (with_reducible refine wpl rfl (Stp.str rfl size24 rfl rfl (by first | rfl | (simp [Value.oneCell']; done) | assumption) H (by repeat (first | exact Upd.head | apply Upd.tail)) (by first | rfl | (simp; done) | assumption) (by first | rfl | (simp; done) | assumption) ?_); clear H; intro w1 H; simp only [Act.put, List.setIfInBounds_toArray, List.set_cons_zero, List.set_cons_succ]))
    refine post_row rfl agg24 size24 rfl H (by repeat (first | exact List.mem_cons_self | apply List.mem_cons_of_mem)) rfl rfl ⟨_, rfl, ?_, H.below⟩
    rw [HE.out]
end Go.Proofs.Ytcgogcolfbpcfaa
