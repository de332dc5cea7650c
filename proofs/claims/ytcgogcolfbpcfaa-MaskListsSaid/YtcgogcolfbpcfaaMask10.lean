/- Contracts of layer 5: Ranks, and the reference's Count; no condition. -/
import Derived.Test.YtcgogcolfbpcfaaMask8
namespace Go.Proofs.Ytcgogcolfbpcfaa
open Go.ChangeShapes Go.WideShapes Go.ChangeAt Go.RowKit
set_option linter.unusedVariables false
set_option linter.unusedSimpArgs false
/-- The ranks below k of a mask, rising. -/
def rkN (m : Nat × Nat) (k : Nat) : List Nat := (List.range k).filter fun i => hasM m (i : Int)
theorem rkN_succ (m : Nat × Nat) (k : Nat) : rkN m (k + 1) = rkN m k ++ (if hasM m (k : Int) = true then [k] else []) := by
  unfold rkN
  rw [List.range_succ, List.filter_append]
  by_cases h : hasM m (k : Int) = true
  · simp [h]
  · simp [h]
theorem rkN_len (m : Nat × Nat) : ∀ k, (rkN m k).length ≤ k
  | 0 => by simp [rkN]
  | k + 1 => by
    have := rkN_len m k
    rw [rkN_succ, List.length_append]
    split <;> simp <;> omega
def iv (l : List Nat) : List Value := l.map fun (x : Nat) => .int .i64 (x : Int)
theorem pop_filter (x : Nat) : ∀ f, pop f x = ((List.range f).filter fun i => x.testBit i).length
  | 0 => rfl
  | f + 1 => by
    rw [pop_add f 1, List.range_succ, List.filter_append, List.length_append, pop_filter x f]
    congr 1
    have h := Nat.testBit_eq_decide_div_mod_eq (x := x) (i := f)
    have h1 : x / 2 ^ f % 2 = 0 ∨ x / 2 ^ f % 2 = 1 := by omega
    rcases h1 with e | e
    · rw [e] at h
      simp [pop, e, h]
    · rw [e] at h
      simp [pop, e, h]
attribute [local irreducible] pop low mn hasM rkN
set_option maxRecDepth 100000 in
theorem rcount_ok (a b : Nat) (ha : a < 18446744073709551616) (hb : b < 18446744073709551616) (w : World) :
    Calls Try.prog 21 #[.agg #[.int .u64 (a : Int), .int .u64 (b : Int)], .int .i64 128] w (Ret fun v w' => v = .int .i64 (((rkN (a, b) 128).length : Nat) : Int) ∧ Below w.heap.size w w') := by
  have H := St.init w
  go_enter Try.func21, Try.ntmps21
  go_wp2_with (first | (with_reducible refine wpl rfl (Stp.box 2 rfl rfl rfl H ?_); clear H; intro g2 w1 H; simp only [Act.put, List.setIfInBounds_toArray, List.set_cons_zero, List.set_cons_succ]; simp only [eval_tmp, eval_const, getD_lit0, getD_lits, cells_agg, cells_int, cells_bool, cells_string, cells_pointer, cells_slice, cells_map, List.setIfInBounds_toArray, List.set_cons_zero, List.set_cons_succ] at H) | (with_reducible refine wpl rfl (Stp.ldr rfl agg24 size24 rfl H (by repeat (first | exact List.mem_cons_self | apply List.mem_cons_of_mem)) (by first | rfl | (simp; done) | assumption) ?_); simp only [Act.put, List.setIfInBounds_toArray, List.set_cons_zero, List.set_cons_succ]) | (with_reducible refine wpl rfl (Stp.ldor rfl agg24 size24 rfl H (by assumption) (by first | rfl | (simp; done) | assumption) (by assumption) ?_); simp only [Act.put, List.setIfInBounds_toArray, List.set_cons_zero, List.set_cons_succ]))
  go_loopw [6, 5] (fun i x wr => ∃ k n : Nat, k ≤ 128 ∧ n ≤ k ∧ i = .int .i64 (k : Int) ∧ x = .int .i64 (n : Int) ∧ Hid ((rkN (a, b) k).length = n) ∧ St w.heap.size w wr [row 24 g2 #[.int .u64 (a : Int), .int .u64 (b : Int)]]) (fun i _ _ => 128 - (intOf i).toNat)
  case atStart => exact ⟨0, 0, by omega, by omega, rfl, rfl, Lib.hid (by unfold rkN; rfl), H⟩
  case round =>
    clear H
    obtain ⟨k, n, hk, hnk, rfl, rfl, HN, H⟩ := hrel
    by_cases hlt : k < 128
    · obtain ⟨x, hx⟩ : ∃ x, hasM (a, b) (k : Int) = x := ⟨_, rfl⟩
      have HX := Lib.hid hx
      clear hx
      cases x
      · go_wp2_with (first | (go_at_call 16; refine (set_ok a b (k : Int) ha hb false HX.out _).mono ?_; rintro e w1 ⟨v, rfl, hr⟩; obtain ⟨rfl, hb1⟩ := hr; replace H := H.grow hb1; clear hb1) | (with_reducible refine wpl rfl (Stp.box 2 rfl rfl rfl H ?_); clear H; intro g2 w1 H; simp only [Act.put, List.setIfInBounds_toArray, List.set_cons_zero, List.set_cons_succ]; simp only [eval_tmp, eval_const, getD_lit0, getD_lits, cells_agg, cells_int, cells_bool, cells_string, cells_pointer, cells_slice, cells_map, List.setIfInBounds_toArray, List.set_cons_zero, List.set_cons_succ] at H) | (with_reducible refine wpl rfl (Stp.ldr rfl agg24 size24 rfl H (by repeat (first | exact List.mem_cons_self | apply List.mem_cons_of_mem)) (by first | rfl | (simp; done) | assumption) ?_); simp only [Act.put, List.setIfInBounds_toArray, List.set_cons_zero, List.set_cons_succ]) | (with_reducible refine wpl rfl (Stp.ldor rfl agg24 size24 rfl H (by assumption) (by first | rfl | (simp; done) | assumption) (by assumption) ?_); simp only [Act.put, List.setIfInBounds_toArray, List.set_cons_zero, List.set_cons_succ]))
        go_roundw
        case rel => exact ⟨k + 1, n, by omega, by omega, by go_num, rfl, Lib.hid (by rw [rkN_succ, HX.out, if_neg (by decide), List.append_nil, HN.out]), H⟩
        case measure => simp [intOf]; omega
      · go_wp2_with (first | (go_at_call 16; refine (set_ok a b (k : Int) ha hb true HX.out _).mono ?_; rintro e w1 ⟨v, rfl, hr⟩; obtain ⟨rfl, hb1⟩ := hr; replace H := H.grow hb1; clear hb1) | (with_reducible refine wpl rfl (Stp.box 2 rfl rfl rfl H ?_); clear H; intro g2 w1 H; simp only [Act.put, List.setIfInBounds_toArray, List.set_cons_zero, List.set_cons_succ]; simp only [eval_tmp, eval_const, getD_lit0, getD_lits, cells_agg, cells_int, cells_bool, cells_string, cells_pointer, cells_slice, cells_map, List.setIfInBounds_toArray, List.set_cons_zero, List.set_cons_succ] at H) | (with_reducible refine wpl rfl (Stp.ldr rfl agg24 size24 rfl H (by repeat (first | exact List.mem_cons_self | apply List.mem_cons_of_mem)) (by first | rfl | (simp; done) | assumption) ?_); simp only [Act.put, List.setIfInBounds_toArray, List.set_cons_zero, List.set_cons_succ]) | (with_reducible refine wpl rfl (Stp.ldor rfl agg24 size24 rfl H (by assumption) (by first | rfl | (simp; done) | assumption) (by assumption) ?_); simp only [Act.put, List.setIfInBounds_toArray, List.set_cons_zero, List.set_cons_succ]))
        go_roundw
        case rel => exact ⟨k + 1, n + 1, by omega, by omega, by go_num, by go_num, Lib.hid (by rw [rkN_succ, HX.out, if_pos rfl, List.length_append, HN.out]; rfl), H⟩
        case measure => simp [intOf]; omega
    · obtain rfl : k = 128 := by omega
      go_wp2_with (first | (with_reducible refine wpl rfl (Stp.box 2 rfl rfl rfl H ?_); clear H; intro g2 w1 H; simp only [Act.put, List.setIfInBounds_toArray, List.set_cons_zero, List.set_cons_succ]; simp only [eval_tmp, eval_const, getD_lit0, getD_lits, cells_agg, cells_int, cells_bool, cells_string, cells_pointer, cells_slice, cells_map, List.setIfInBounds_toArray, List.set_cons_zero, List.set_cons_succ] at H) | (with_reducible refine wpl rfl (Stp.ldr rfl agg24 size24 rfl H (by repeat (first | exact List.mem_cons_self | apply List.mem_cons_of_mem)) (by first | rfl | (simp; done) | assumption) ?_); simp only [Act.put, List.setIfInBounds_toArray, List.set_cons_zero, List.set_cons_succ]) | (with_reducible refine wpl rfl (Stp.ldor rfl agg24 size24 rfl H (by assumption) (by first | rfl | (simp; done) | assumption) (by assumption) ?_); simp only [Act.put, List.setIfInBounds_toArray, List.set_cons_zero, List.set_cons_succ]))
      go_ret
      exact ⟨_, rfl, by rw [HN.out]; rfl, H.below⟩
theorem or64 (j : Nat) (h : j < 64) : bits .or .i64 64 (j : Int) = ((64 + j : Nat) : Int) ∧ bits .or .i64 0 (j : Int) = (j : Int) := by
  have := (by decide +kernel : ∀ j : Fin 64, bits .or .i64 64 ((j.val : Nat) : Int) = ((64 + j.val : Nat) : Int) ∧ bits .or .i64 0 ((j.val : Nat) : Int) = ((j.val : Nat) : Int))
  exact this ⟨j, h⟩
end Go.Proofs.Ytcgogcolfbpcfaa
