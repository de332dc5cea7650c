/- Contract of layer 5's Ranks; no condition. -/
import Derived.Test.YtcgogcolfbpcfaaMask10
namespace Go.Proofs.Ytcgogcolfbpcfaa
open Go.ChangeShapes Go.WideShapes Go.ChangeAt Go.RowKit
set_option linter.unusedVariables false
set_option linter.unusedSimpArgs false
attribute [local irreducible] pop low mn hasM
theorem rk_stay (m : Nat × Nat) (s : Nat) : ∀ d, (∀ i, s ≤ i → i < s + d → hasM m (i : Int) = false) → rkN m (s + d) = rkN m s
  | 0, _ => rfl
  | d + 1, h => by
    rw [show s + (d + 1) = (s + d) + 1 by omega, rkN_succ, h (s + d) (by omega) (by omega), if_neg (by decide), List.append_nil]
    exact rk_stay m s d (fun i h1 h2 => h i h1 (by omega))
theorem high_zero (W j i : Nat) (h : W / 2 ^ j = 0) (hi : j ≤ i) : W.testBit i = false := by
  rw [Nat.testBit_eq_decide_div_mod_eq, show i = j + (i - j) by omega, Nat.pow_add, ← Nat.div_div_eq_div_mul, h]
  simp
theorem rk_0 (a b j : Nat) (hj : j ≤ 64) (h : a / 2 ^ j = 0) : rkN (a, b) j = rkN (a, b) (64 * 0 + 64) := by
  have := rk_stay (a, b) j (64 - j) (fun i h1 h2 => by rw [(has_bit a b i (by omega)).1]; exact high_zero a j i h h1)
  rw [← this]; congr 1; omega
theorem rk_1 (a b j : Nat) (hj : j ≤ 64) (h : b / 2 ^ j = 0) : rkN (a, b) (64 + j) = rkN (a, b) (64 * 1 + 64) := by
  have := rk_stay (a, b) (64 + j) (64 - j) (fun i h1 h2 => by
    have e := (has_bit a b (i - 64) (by omega)).2
    rw [show 64 + (i - 64) = i by omega] at e
    rw [e]; exact high_zero b j (i - 64) h (by omega))
  rw [← this]; congr 1; omega
theorem index_M0 (x y : Int) (k : IntKind) (w : World) : (Instr.index 24 (.agg #[.int .u64 x, .int .u64 y]) (.int k 0)).run Try.prog w = .ok (.int .u64 x) w := by
  have hp : (part 22 #[.int .u64 x, .int .u64 y] 0).run Try.prog w = .ok (.int .u64 x) w := by simp [part, isAgg, run_underlying Try.underlying22]
  have hsz : (sizeOf 22).run Try.prog w = .ok 1 w := by kernel_rfl
  simp [Instr.index, asIntOf, run_underlying Try.underlying24, hsz, hp]
theorem index_M1 (x y : Int) (k : IntKind) (w : World) : (Instr.index 24 (.agg #[.int .u64 x, .int .u64 y]) (.int k 1)).run Try.prog w = .ok (.int .u64 y) w := by
  have hp : (part 22 #[.int .u64 x, .int .u64 y] 1).run Try.prog w = .ok (.int .u64 y) w := by simp [part, isAgg, run_underlying Try.underlying22]
  have hsz : (sizeOf 22).run Try.prog w = .ok 1 w := by kernel_rfl
  simp [Instr.index, asIntOf, run_underlying Try.underlying24, hsz, hp]
attribute [local go_sem] index_M0 index_M1
attribute [local irreducible] rkN
set_option maxRecDepth 100000 in
set_option maxHeartbeats 1000000 in
theorem ranks_ok (a b : Nat) (ha : a < 18446744073709551616) (hb : b < 18446744073709551616) (w : World) :
    Calls Try.prog 22 #[.agg #[.int .u64 (a : Int), .int .u64 (b : Int)]] w (Ret fun v w' => (∃ ap cp n, v = .slice ap n cp ∧ w'.ownsRow w.heap.size 3 1 (.slice ap n cp) n (iv (rkN (a, b) 128))) ∧ Below w.heap.size w w') := by
  have ha' := ha
  have hb' := hb
  have ha := Lib.hid ha'
  have hb := Lib.hid hb'
  clear ha' hb'
  have H := (St.init w).nil 3 1
  go_enter Try.func22, Try.ntmps22
  go_wp2_with (first | (with_reducible refine wpl rfl (Stp.box 1 rfl rfl rfl H ?_); clear H; intro g1 w1 H; simp only [Act.put, List.setIfInBounds_toArray, List.set_cons_zero, List.set_cons_succ]; simp only [eval_tmp, eval_const, getD_lit0, getD_lits, cells_agg, cells_int, cells_bool, cells_string, cells_pointer, cells_slice, cells_map, List.setIfInBounds_toArray, List.set_cons_zero, List.set_cons_succ] at H) | (with_reducible refine wpl rfl (Stp.ldr rfl agg24 size24 rfl H (by repeat (first | exact List.mem_cons_self | apply List.mem_cons_of_mem)) (by first | rfl | (simp; done) | assumption) ?_); simp only [Act.put, List.setIfInBounds_toArray, List.set_cons_zero, List.set_cons_succ]) | (with_reducible refine wpl rfl (Stp.ldor rfl agg24 size24 rfl H (by assumption) (by first | rfl | (simp; done) | assumption) (by assumption) ?_); simp only [Act.put, List.setIfInBounds_toArray, List.set_cons_zero, List.set_cons_succ]))
  go_loopw [8, 3] (fun i y wr => ∃ (q n : Nat) (ap : Option Addr) (cp : Nat), q ≤ 2 ∧ n ≤ 64 * q ∧ i = .int .i64 (q : Int) ∧ y = .slice ap n cp ∧ St w.heap.size w wr [slc 3 1 (.slice ap n cp) n (iv (rkN (a, b) (64 * q))), row 24 g1 #[.int .u64 (a : Int), .int .u64 (b : Int)]]) (fun i _ _ => 2 - (intOf i).toNat)
  case atStart =>
    have e : iv (rkN (a, b) (64 * 0)) = [] := by unfold rkN; rfl
    refine ⟨0, 0, none, 0, by omega, by omega, rfl, rfl, ?_⟩
    rw [e]
    exact H.swap
  case round =>
    clear H
    obtain ⟨q, n, ap, cp, hq, hn, rfl, rfl, H⟩ := hrel
    have hq3 : q = 0 ∨ q = 1 ∨ q = 2 := by omega
    rcases hq3 with rfl | rfl | rfl
    · go_wp2_with (first | (with_reducible refine wpl rfl (Stp.box 1 rfl rfl rfl H ?_); clear H; intro g1 w1 H; simp only [Act.put, List.setIfInBounds_toArray, List.set_cons_zero, List.set_cons_succ]; simp only [eval_tmp, eval_const, getD_lit0, getD_lits, cells_agg, cells_int, cells_bool, cells_string, cells_pointer, cells_slice, cells_map, List.setIfInBounds_toArray, List.set_cons_zero, List.set_cons_succ] at H) | (with_reducible refine wpl rfl (Stp.ldr rfl agg24 size24 rfl H (by repeat (first | exact List.mem_cons_self | apply List.mem_cons_of_mem)) (by first | rfl | (simp; done) | assumption) ?_); simp only [Act.put, List.setIfInBounds_toArray, List.set_cons_zero, List.set_cons_succ]) | (with_reducible refine wpl rfl (Stp.ldor rfl agg24 size24 rfl H (by assumption) (by first | rfl | (simp; done) | assumption) (by assumption) ?_); simp only [Act.put, List.setIfInBounds_toArray, List.set_cons_zero, List.set_cons_succ]))
      go_loopw [5, 6, 3] (fun x i y wr => ∃ (j m n : Nat) (ap : Option Addr) (cp : Nat), j ≤ 64 ∧ n ≤ j ∧ x = .int .u64 (m : Int) ∧ i = .int .i64 (j : Int) ∧ y = .slice ap n cp ∧ Hid (a / 2 ^ j = m) ∧ St w.heap.size w wr [slc 3 1 (.slice ap n cp) n (iv (rkN (a, b) (j))), row 24 g1 #[.int .u64 (a : Int), .int .u64 (b : Int)]]) (fun x _ _ _ => (intOf x).toNat)
      case atStart => exact ⟨0, a, n, ap, cp, by omega, by omega, rfl, rfl, rfl, Lib.hid (by simp), H⟩
      case round =>
        clear H
        obtain ⟨j, m, n, ap, cp, hj0, hn, rfl, rfl, rfl, HM, H⟩ := hrel
        rcases Nat.eq_zero_or_pos m with rfl | hm0
        · go_wp2_with (first | (with_reducible refine wpl rfl (Stp.box 1 rfl rfl rfl H ?_); clear H; intro g1 w1 H; simp only [Act.put, List.setIfInBounds_toArray, List.set_cons_zero, List.set_cons_succ]; simp only [eval_tmp, eval_const, getD_lit0, getD_lits, cells_agg, cells_int, cells_bool, cells_string, cells_pointer, cells_slice, cells_map, List.setIfInBounds_toArray, List.set_cons_zero, List.set_cons_succ] at H) | (with_reducible refine wpl rfl (Stp.ldr rfl agg24 size24 rfl H (by repeat (first | exact List.mem_cons_self | apply List.mem_cons_of_mem)) (by first | rfl | (simp; done) | assumption) ?_); simp only [Act.put, List.setIfInBounds_toArray, List.set_cons_zero, List.set_cons_succ]) | (with_reducible refine wpl rfl (Stp.ldor rfl agg24 size24 rfl H (by assumption) (by first | rfl | (simp; done) | assumption) (by assumption) ?_); simp only [Act.put, List.setIfInBounds_toArray, List.set_cons_zero, List.set_cons_succ]))
          go_roundw
          case rel =>
            rw [show rkN (a, b) (j) = rkN (a, b) (64 * 0 + 64) from rk_0 a b j hj0 HM.out] at H
            exact ⟨1, n, ap, cp, by omega, by omega, rfl, rfl, H⟩
          case measure => simp [intOf]
        · have hm64 : m < 18446744073709551616 := by rw [← HM.out]; exact Nat.lt_of_le_of_lt (Nat.div_le_self _ _) ha.out
          have hj : j < 64 := by
            rcases Nat.lt_or_ge j 64 with h | h
            · exact h
            · have e : j = 64 := by omega
              have := HM.out
              rw [e, Nat.div_eq_of_lt (show a < 2 ^ 64 by have := ha.out; simpa using this)] at this
              omega
          have hne : ¬ (m : Int) = 0 := by omega
          have oj := or64 j hj
          have HO := Lib.hid oj
          clear oj
          have oj := HO.out.2
          have hbit : hasM (a, b) ((j : Nat) : Int) = decide (m % 2 = 1) := by
            rw [(has_bit a b j hj).1, Nat.testBit_eq_decide_div_mod_eq, HM.out]
          have HB := Lib.hid hbit
          have hdm : IntKind.u64.wrap ((m : Int) / 2) = ((m / 2 : Nat) : Int) := by rw [wrap_u64_in _ (by omega) (by omega)]; omega
          have hnx : Hid (a / 2 ^ (j + 1) = m / 2) := Lib.hid (by rw [Nat.pow_succ, ← Nat.div_div_eq_div_mul, HM.out])
          have ea := bits_and_u64_nat m 1 hm64 (by omega)
          rw [Nat.and_one_is_mod] at ea
          have ea' : bits .and .u64 (m : Int) 1 = ((m % 2 : Nat) : Int) := ea
          clear ea hbit
          by_cases ho : m % 2 = 1
          · rw [ho] at ea'
            have ea2 : bits .and .u64 (m : Int) 1 = 1 := ea'
            clear ea'
            go_wp2_with (first | (with_reducible refine wpl rfl (Stp.bsl1 24 rfl rfl Try.underlying37 size3 zero3 rfl rfl H ?_); clear H; intro g24 w1 H; simp only [Act.put, List.setIfInBounds_toArray, List.set_cons_zero, List.set_cons_succ]) | (with_reducible refine wpl rfl (Stp.app 25 rfl rfl Try.underlying37 info3 rfl (by decide) rfl rfl H (fun _ => (by repeat (first | exact Upd.head | apply Upd.tail))) rfl (new1 (H.getRow (by repeat (first | exact List.mem_cons_self | apply List.mem_cons_of_mem)))) (by simp [Value.oneCell']) (by unfold maxLen; omega) (by omega) ?_); clear H; intro a25 c25 w1 H; simp only [Act.put, List.setIfInBounds_toArray, List.set_cons_zero, List.set_cons_succ]) | (with_reducible refine wpl rfl (Stp.box 1 rfl rfl rfl H ?_); clear H; intro g1 w1 H; simp only [Act.put, List.setIfInBounds_toArray, List.set_cons_zero, List.set_cons_succ]; simp only [eval_tmp, eval_const, getD_lit0, getD_lits, cells_agg, cells_int, cells_bool, cells_string, cells_pointer, cells_slice, cells_map, List.setIfInBounds_toArray, List.set_cons_zero, List.set_cons_succ] at H) | (with_reducible refine wpl rfl (Stp.ldr rfl agg24 size24 rfl H (by repeat (first | exact List.mem_cons_self | apply List.mem_cons_of_mem)) (by first | rfl | (simp; done) | assumption) ?_); simp only [Act.put, List.setIfInBounds_toArray, List.set_cons_zero, List.set_cons_succ]) | (with_reducible refine wpl rfl (Stp.ldor rfl agg24 size24 rfl H (by assumption) (by first | rfl | (simp; done) | assumption) (by assumption) ?_); simp only [Act.put, List.setIfInBounds_toArray, List.set_cons_zero, List.set_cons_succ]))
            go_roundw
            case rel =>
              refine ⟨j + 1, m / 2, n + 1, a25, c25, by omega, by omega, congrArg _ (by omega), by go_num, rfl, hnx, ?_⟩
              rw [show (j + 1) = (j) + 1 by omega, rkN_succ, HB.out, if_pos (by simpa using ho)]
              have e : iv (rkN (a, b) (j) ++ [j]) = iv (rkN (a, b) (j)) ++ [.int .i64 ((j : Nat) : Int)] := by simp [iv]
              rw [e]
              exact H.tl
            case measure => simp [intOf]; omega
          · rw [show m % 2 = 0 by omega] at ea'
            have ea2 : bits .and .u64 (m : Int) 1 = 0 := ea'
            clear ea'
            go_wp2_with (first | (with_reducible refine wpl rfl (Stp.bsl1 24 rfl rfl Try.underlying37 size3 zero3 rfl rfl H ?_); clear H; intro g24 w1 H; simp only [Act.put, List.setIfInBounds_toArray, List.set_cons_zero, List.set_cons_succ]) | (with_reducible refine wpl rfl (Stp.app 25 rfl rfl Try.underlying37 info3 rfl (by decide) rfl rfl H (fun _ => (by repeat (first | exact Upd.head | apply Upd.tail))) rfl (new1 (H.getRow (by repeat (first | exact List.mem_cons_self | apply List.mem_cons_of_mem)))) (by simp [Value.oneCell']) (by unfold maxLen; omega) (by omega) ?_); clear H; intro a25 c25 w1 H; simp only [Act.put, List.setIfInBounds_toArray, List.set_cons_zero, List.set_cons_succ]) | (with_reducible refine wpl rfl (Stp.box 1 rfl rfl rfl H ?_); clear H; intro g1 w1 H; simp only [Act.put, List.setIfInBounds_toArray, List.set_cons_zero, List.set_cons_succ]; simp only [eval_tmp, eval_const, getD_lit0, getD_lits, cells_agg, cells_int, cells_bool, cells_string, cells_pointer, cells_slice, cells_map, List.setIfInBounds_toArray, List.set_cons_zero, List.set_cons_succ] at H) | (with_reducible refine wpl rfl (Stp.ldr rfl agg24 size24 rfl H (by repeat (first | exact List.mem_cons_self | apply List.mem_cons_of_mem)) (by first | rfl | (simp; done) | assumption) ?_); simp only [Act.put, List.setIfInBounds_toArray, List.set_cons_zero, List.set_cons_succ]) | (with_reducible refine wpl rfl (Stp.ldor rfl agg24 size24 rfl H (by assumption) (by first | rfl | (simp; done) | assumption) (by assumption) ?_); simp only [Act.put, List.setIfInBounds_toArray, List.set_cons_zero, List.set_cons_succ]))
            go_roundw
            case rel =>
              refine ⟨j + 1, m / 2, n, ap, cp, by omega, by omega, congrArg _ (by omega), by go_num, rfl, hnx, ?_⟩
              rw [show (j + 1) = (j) + 1 by omega, rkN_succ, HB.out, if_neg (by simpa using ho), List.append_nil]
              exact H
            case measure => simp [intOf]; omega
    · go_wp2_with (first | (with_reducible refine wpl rfl (Stp.box 1 rfl rfl rfl H ?_); clear H; intro g1 w1 H; simp only [Act.put, List.setIfInBounds_toArray, List.set_cons_zero, List.set_cons_succ]; simp only [eval_tmp, eval_const, getD_lit0, getD_lits, cells_agg, cells_int, cells_bool, cells_string, cells_pointer, cells_slice, cells_map, List.setIfInBounds_toArray, List.set_cons_zero, List.set_cons_succ] at H) | (with_reducible refine wpl rfl (Stp.ldr rfl agg24 size24 rfl H (by repeat (first | exact List.mem_cons_self | apply List.mem_cons_of_mem)) (by first | rfl | (simp; done) | assumption) ?_); simp only [Act.put, List.setIfInBounds_toArray, List.set_cons_zero, List.set_cons_succ]) | (with_reducible refine wpl rfl (Stp.ldor rfl agg24 size24 rfl H (by assumption) (by first | rfl | (simp; done) | assumption) (by assumption) ?_); simp only [Act.put, List.setIfInBounds_toArray, List.set_cons_zero, List.set_cons_succ]))
      go_loopw [5, 6, 3] (fun x i y wr => ∃ (j m n : Nat) (ap : Option Addr) (cp : Nat), j ≤ 64 ∧ n ≤ 64 + j ∧ x = .int .u64 (m : Int) ∧ i = .int .i64 (j : Int) ∧ y = .slice ap n cp ∧ Hid (b / 2 ^ j = m) ∧ St w.heap.size w wr [slc 3 1 (.slice ap n cp) n (iv (rkN (a, b) (64 + j))), row 24 g1 #[.int .u64 (a : Int), .int .u64 (b : Int)]]) (fun x _ _ _ => (intOf x).toNat)
      case atStart => exact ⟨0, b, n, ap, cp, by omega, by omega, rfl, rfl, rfl, Lib.hid (by simp), H⟩
      case round =>
        clear H
        obtain ⟨j, m, n, ap, cp, hj0, hn, rfl, rfl, rfl, HM, H⟩ := hrel
        rcases Nat.eq_zero_or_pos m with rfl | hm0
        · go_wp2_with (first | (with_reducible refine wpl rfl (Stp.box 1 rfl rfl rfl H ?_); clear H; intro g1 w1 H; simp only [Act.put, List.setIfInBounds_toArray, List.set_cons_zero, List.set_cons_succ]; simp only [eval_tmp, eval_const, getD_lit0, getD_lits, cells_agg, cells_int, cells_bool, cells_string, cells_pointer, cells_slice, cells_map, List.setIfInBounds_toArray, List.set_cons_zero, List.set_cons_succ] at H) | (with_reducible refine wpl rfl (Stp.ldr rfl agg24 size24 rfl H (by repeat (first | exact List.mem_cons_self | apply List.mem_cons_of_mem)) (by first | rfl | (simp; done) | assumption) ?_); simp only [Act.put, List.setIfInBounds_toArray, List.set_cons_zero, List.set_cons_succ]) | (with_reducible refine wpl rfl (Stp.ldor rfl agg24 size24 rfl H (by assumption) (by first | rfl | (simp; done) | assumption) (by assumption) ?_); simp only [Act.put, List.setIfInBounds_toArray, List.set_cons_zero, List.set_cons_succ]))
          go_roundw
          case rel =>
            rw [show rkN (a, b) (64 + j) = rkN (a, b) (64 * 1 + 64) from rk_1 a b j hj0 HM.out] at H
            exact ⟨2, n, ap, cp, by omega, by omega, rfl, rfl, H⟩
          case measure => simp [intOf]
        · have hm64 : m < 18446744073709551616 := by rw [← HM.out]; exact Nat.lt_of_le_of_lt (Nat.div_le_self _ _) hb.out
          have hj : j < 64 := by
            rcases Nat.lt_or_ge j 64 with h | h
            · exact h
            · have e : j = 64 := by omega
              have := HM.out
              rw [e, Nat.div_eq_of_lt (show b < 2 ^ 64 by have := hb.out; simpa using this)] at this
              omega
          have hne : ¬ (m : Int) = 0 := by omega
          have oj := or64 j hj
          have HO := Lib.hid oj
          clear oj
          have oj := HO.out.1
          have hbit : hasM (a, b) ((64 + j : Nat) : Int) = decide (m % 2 = 1) := by
            rw [(has_bit a b j hj).2, Nat.testBit_eq_decide_div_mod_eq, HM.out]
          have HB := Lib.hid hbit
          have hdm : IntKind.u64.wrap ((m : Int) / 2) = ((m / 2 : Nat) : Int) := by rw [wrap_u64_in _ (by omega) (by omega)]; omega
          have hnx : Hid (b / 2 ^ (j + 1) = m / 2) := Lib.hid (by rw [Nat.pow_succ, ← Nat.div_div_eq_div_mul, HM.out])
          have ea := bits_and_u64_nat m 1 hm64 (by omega)
          rw [Nat.and_one_is_mod] at ea
          have ea' : bits .and .u64 (m : Int) 1 = ((m % 2 : Nat) : Int) := ea
          clear ea hbit
          by_cases ho : m % 2 = 1
          · rw [ho] at ea'
            have ea2 : bits .and .u64 (m : Int) 1 = 1 := ea'
            clear ea'
            go_wp2_with (first | (with_reducible refine wpl rfl (Stp.bsl1 24 rfl rfl Try.underlying37 size3 zero3 rfl rfl H ?_); clear H; intro g24 w1 H; simp only [Act.put, List.setIfInBounds_toArray, List.set_cons_zero, List.set_cons_succ]) | (with_reducible refine wpl rfl (Stp.app 25 rfl rfl Try.underlying37 info3 rfl (by decide) rfl rfl H (fun _ => (by repeat (first | exact Upd.head | apply Upd.tail))) rfl (new1 (H.getRow (by repeat (first | exact List.mem_cons_self | apply List.mem_cons_of_mem)))) (by simp [Value.oneCell']) (by unfold maxLen; omega) (by omega) ?_); clear H; intro a25 c25 w1 H; simp only [Act.put, List.setIfInBounds_toArray, List.set_cons_zero, List.set_cons_succ]) | (with_reducible refine wpl rfl (Stp.box 1 rfl rfl rfl H ?_); clear H; intro g1 w1 H; simp only [Act.put, List.setIfInBounds_toArray, List.set_cons_zero, List.set_cons_succ]; simp only [eval_tmp, eval_const, getD_lit0, getD_lits, cells_agg, cells_int, cells_bool, cells_string, cells_pointer, cells_slice, cells_map, List.setIfInBounds_toArray, List.set_cons_zero, List.set_cons_succ] at H) | (with_reducible refine wpl rfl (Stp.ldr rfl agg24 size24 rfl H (by repeat (first | exact List.mem_cons_self | apply List.mem_cons_of_mem)) (by first | rfl | (simp; done) | assumption) ?_); simp only [Act.put, List.setIfInBounds_toArray, List.set_cons_zero, List.set_cons_succ]) | (with_reducible refine wpl rfl (Stp.ldor rfl agg24 size24 rfl H (by assumption) (by first | rfl | (simp; done) | assumption) (by assumption) ?_); simp only [Act.put, List.setIfInBounds_toArray, List.set_cons_zero, List.set_cons_succ]))
            go_roundw
            case rel =>
              refine ⟨j + 1, m / 2, n + 1, a25, c25, by omega, by omega, congrArg _ (by omega), by go_num, rfl, hnx, ?_⟩
              rw [show 64 + (j + 1) = (64 + j) + 1 by omega, rkN_succ, HB.out, if_pos (by simpa using ho)]
              have e : iv (rkN (a, b) (64 + j) ++ [64 + j]) = iv (rkN (a, b) (64 + j)) ++ [.int .i64 ((64 + j : Nat) : Int)] := by simp [iv]
              rw [e]
              exact H.tl
            case measure => simp [intOf]; omega
          · rw [show m % 2 = 0 by omega] at ea'
            have ea2 : bits .and .u64 (m : Int) 1 = 0 := ea'
            clear ea'
            go_wp2_with (first | (with_reducible refine wpl rfl (Stp.bsl1 24 rfl rfl Try.underlying37 size3 zero3 rfl rfl H ?_); clear H; intro g24 w1 H; simp only [Act.put, List.setIfInBounds_toArray, List.set_cons_zero, List.set_cons_succ]) | (with_reducible refine wpl rfl (Stp.app 25 rfl rfl Try.underlying37 info3 rfl (by decide) rfl rfl H (fun _ => (by repeat (first | exact Upd.head | apply Upd.tail))) rfl (new1 (H.getRow (by repeat (first | exact List.mem_cons_self | apply List.mem_cons_of_mem)))) (by simp [Value.oneCell']) (by unfold maxLen; omega) (by omega) ?_); clear H; intro a25 c25 w1 H; simp only [Act.put, List.setIfInBounds_toArray, List.set_cons_zero, List.set_cons_succ]) | (with_reducible refine wpl rfl (Stp.box 1 rfl rfl rfl H ?_); clear H; intro g1 w1 H; simp only [Act.put, List.setIfInBounds_toArray, List.set_cons_zero, List.set_cons_succ]; simp only [eval_tmp, eval_const, getD_lit0, getD_lits, cells_agg, cells_int, cells_bool, cells_string, cells_pointer, cells_slice, cells_map, List.setIfInBounds_toArray, List.set_cons_zero, List.set_cons_succ] at H) | (with_reducible refine wpl rfl (Stp.ldr rfl agg24 size24 rfl H (by repeat (first | exact List.mem_cons_self | apply List.mem_cons_of_mem)) (by first | rfl | (simp; done) | assumption) ?_); simp only [Act.put, List.setIfInBounds_toArray, List.set_cons_zero, List.set_cons_succ]) | (with_reducible refine wpl rfl (Stp.ldor rfl agg24 size24 rfl H (by assumption) (by first | rfl | (simp; done) | assumption) (by assumption) ?_); simp only [Act.put, List.setIfInBounds_toArray, List.set_cons_zero, List.set_cons_succ]))
            go_roundw
            case rel =>
              refine ⟨j + 1, m / 2, n, ap, cp, by omega, by omega, congrArg _ (by omega), by go_num, rfl, hnx, ?_⟩
              rw [show 64 + (j + 1) = (64 + j) + 1 by omega, rkN_succ, HB.out, if_neg (by simpa using ho), List.append_nil]
              exact H
            case measure => simp [intOf]; omega
    · go_wp2_with (first | (with_reducible refine wpl rfl (Stp.box 1 rfl rfl rfl H ?_); clear H; intro g1 w1 H; simp only [Act.put, List.setIfInBounds_toArray, List.set_cons_zero, List.set_cons_succ]; simp only [eval_tmp, eval_const, getD_lit0, getD_lits, cells_agg, cells_int, cells_bool, cells_string, cells_pointer, cells_slice, cells_map, List.setIfInBounds_toArray, List.set_cons_zero, List.set_cons_succ] at H) | (with_reducible refine wpl rfl (Stp.ldr rfl agg24 size24 rfl H (by repeat (first | exact List.mem_cons_self | apply List.mem_cons_of_mem)) (by first | rfl | (simp; done) | assumption) ?_); simp only [Act.put, List.setIfInBounds_toArray, List.set_cons_zero, List.set_cons_succ]) | (with_reducible refine wpl rfl (Stp.ldor rfl agg24 size24 rfl H (by assumption) (by first | rfl | (simp; done) | assumption) (by assumption) ?_); simp only [Act.put, List.setIfInBounds_toArray, List.set_cons_zero, List.set_cons_succ]))
      go_ret
      exact ⟨_, rfl, ⟨ap, cp, n, rfl, H.getSlc (by repeat (first | exact List.mem_cons_self | apply List.mem_cons_of_mem))⟩, H.below⟩
end Go.Proofs.Ytcgogcolfbpcfaa
