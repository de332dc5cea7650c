/- Contracts of layer 5's functions (mask): Has, Without, Or, Minus; no condition. -/
import Derived.Test.YtcgogcolfbpcfaaMask4
import Derived.Laws.BitsAllLaws
namespace Go.Proofs.Ytcgogcolfbpcfaa
open Go.ChangeShapes Go.WideShapes Go.ChangeAt Go.RowKit
set_option linter.unusedVariables false
set_option linter.unusedSimpArgs false
attribute [local irreducible] pop low
/-- What is in the first one alone. -/
def mn (a b : Nat) : Nat := a &&& (18446744073709551615 - b)
def unM (m : Nat × Nat) (r : Int) : Nat × Nat := if r < 0 ∨ 128 ≤ r then m else if r < 64 then (mn m.1 (2 ^ r.toNat), m.2) else (m.1, mn m.2 (2 ^ (r.toNat - 64)))
/-- Is a rank in a mask? -/
def hasM (m : Nat × Nat) (r : Int) : Bool := !(decide (r < 0 ∨ 128 ≤ r)) && (if r < 64 then m.1.testBit r.toNat else m.2.testBit (r.toNat - 64))
theorem and_p2 (a k : Nat) : ((((a &&& 2 ^ k : Nat) : Int) != 0)) = a.testBit k := by
  have h : a &&& 2 ^ k = if a.testBit k then 2 ^ k else 0 := by
    refine Nat.eq_of_testBit_eq fun i => ?_
    rw [Nat.testBit_and, Nat.testBit_two_pow]
    by_cases e : k = i
    · subst e
      cases hb : a.testBit k
      · simp
      · simp [Nat.testBit_two_pow]
    · cases hb : a.testBit k
      · simp [e]
      · simp [e, Nat.testBit_two_pow]
  rw [h]
  have := Nat.two_pow_pos k
  clear h
  cases a.testBit k
  · rfl
  · rw [if_pos rfl]; exact bne_iff_ne.2 (by omega)
set_option maxRecDepth 100000 in
theorem has_ok (a b : Nat) (r : Int) (ha : a < 18446744073709551616) (hb : b < 18446744073709551616) (x : Bool) (hx : hasM (a, b) r = x) (w : World) :
    Calls Try.prog 15 #[.agg #[.int .u64 (a : Int), .int .u64 (b : Int)], .int .i64 r] w (Ret fun v w' => v = .bool x ∧ Below w.heap.size w w') := by
  have H := St.init w
  by_cases hr : r < 0 ∨ 128 ≤ r
  · have hf : x = false := by rw [← hx]; simp [hasM, hr]
    subst hf
    clear hx
    go_enter Try.func15, Try.ntmps15
    go_wp2_with (first | (go_at_call 28; refine (bit_no r hr _).mono ?_; rintro e w1 ⟨v, rfl, hr⟩; obtain ⟨rfl, hb1⟩ := hr; replace H := H.grow hb1; clear hb1) | (with_reducible refine wpl rfl (Stp.box 2 rfl rfl rfl H ?_); clear H; intro g2 w1 H; simp only [Act.put, List.setIfInBounds_toArray, List.set_cons_zero, List.set_cons_succ]; simp only [eval_tmp, eval_const, getD_lit0, getD_lits, cells_agg, cells_int, cells_bool, cells_string, cells_pointer, cells_slice, cells_map, List.setIfInBounds_toArray, List.set_cons_zero, List.set_cons_succ] at H) | (with_reducible refine wpl rfl (Stp.ldc rfl agg22 rfl H (by repeat (first | exact List.mem_cons_self | apply List.mem_cons_of_mem)) (by first | (repeat (first | exact lit0 _ _ | apply lits)) | rfl | assumption) ?_); simp only [Act.put, List.setIfInBounds_toArray, List.set_cons_zero, List.set_cons_succ]) | (with_reducible refine wpl rfl (Stp.ldo rfl agg22 rfl H (by assumption) (by assumption) ?_); simp only [Act.put, List.setIfInBounds_toArray, List.set_cons_zero, List.set_cons_succ]))
    go_ret
    exact ⟨_, rfl, rfl, H.below⟩
  · obtain ⟨k, rfl⟩ : ∃ k : Nat, r = k := ⟨r.toNat, by omega⟩
    have hk : k < 128 := by omega
    by_cases h64 : (k : Int) < 64
    · have hm : k % 64 = k := Nat.mod_eq_of_lt (by omega)
      have hp := p2_lt (show k < 64 by omega)
      have hv : x = a.testBit k := by rw [← hx]; simp [hasM, hr, h64]
      have he := and_p2 a k
      rw [← hv] at he
      obtain ⟨s, hs⟩ : ∃ s, 2 ^ k = s := ⟨_, rfl⟩
      rw [hs] at hp he
      have HB := Lib.hid (show 2 ^ (k % 64) = s by rw [hm, hs])
      have e := bits_and_u64_nat a s ha hp
      have HE := Lib.hid he
      obtain ⟨z, hz⟩ : ∃ z, a &&& s = z := ⟨_, rfl⟩
      rw [hz] at e he
      clear hm hx hv hs HE hz
      go_enter Try.func15, Try.ntmps15
      go_wp2_with (first | (go_at_call 28; refine (bit_yes k hk 0 s (by omega) HB.out _).mono ?_; rintro e w1 ⟨v, rfl, hr⟩; obtain ⟨rfl, hb1⟩ := hr; replace H := H.grow hb1; clear hb1) | (with_reducible refine wpl rfl (Stp.box 2 rfl rfl rfl H ?_); clear H; intro g2 w1 H; simp only [Act.put, List.setIfInBounds_toArray, List.set_cons_zero, List.set_cons_succ]; simp only [eval_tmp, eval_const, getD_lit0, getD_lits, cells_agg, cells_int, cells_bool, cells_string, cells_pointer, cells_slice, cells_map, List.setIfInBounds_toArray, List.set_cons_zero, List.set_cons_succ] at H) | (with_reducible refine wpl rfl (Stp.ldc rfl agg22 rfl H (by repeat (first | exact List.mem_cons_self | apply List.mem_cons_of_mem)) (by first | (repeat (first | exact lit0 _ _ | apply lits)) | rfl | assumption) ?_); simp only [Act.put, List.setIfInBounds_toArray, List.set_cons_zero, List.set_cons_succ]) | (with_reducible refine wpl rfl (Stp.ldo rfl agg22 rfl H (by assumption) (by assumption) ?_); simp only [Act.put, List.setIfInBounds_toArray, List.set_cons_zero, List.set_cons_succ]))
      go_ret
      exact ⟨_, rfl, by first | rfl | (rw [← he]; rfl), H.below⟩
    · have hm : k % 64 = k - 64 := by omega
      have hp := p2_lt (show k - 64 < 64 by omega)
      have hv : x = b.testBit (k - 64) := by rw [← hx]; simp [hasM, hr, h64]
      have he := and_p2 b (k - 64)
      rw [← hv] at he
      obtain ⟨s, hs⟩ : ∃ s, 2 ^ (k - 64) = s := ⟨_, rfl⟩
      rw [hs] at hp he
      have HB := Lib.hid (show 2 ^ (k % 64) = s by rw [hm, hs])
      have e := bits_and_u64_nat b s hb hp
      obtain ⟨z, hz⟩ : ∃ z, b &&& s = z := ⟨_, rfl⟩
      rw [hz] at e he
      clear hm hx hv hs hz
      go_enter Try.func15, Try.ntmps15
      go_wp2_with (first | (go_at_call 28; refine (bit_yes k hk 1 s (by omega) HB.out _).mono ?_; rintro e w1 ⟨v, rfl, hr⟩; obtain ⟨rfl, hb1⟩ := hr; replace H := H.grow hb1; clear hb1) | (with_reducible refine wpl rfl (Stp.box 2 rfl rfl rfl H ?_); clear H; intro g2 w1 H; simp only [Act.put, List.setIfInBounds_toArray, List.set_cons_zero, List.set_cons_succ]; simp only [eval_tmp, eval_const, getD_lit0, getD_lits, cells_agg, cells_int, cells_bool, cells_string, cells_pointer, cells_slice, cells_map, List.setIfInBounds_toArray, List.set_cons_zero, List.set_cons_succ] at H) | (with_reducible refine wpl rfl (Stp.ldc rfl agg22 rfl H (by repeat (first | exact List.mem_cons_self | apply List.mem_cons_of_mem)) (by first | (repeat (first | exact lit0 _ _ | apply lits)) | rfl | assumption) ?_); simp only [Act.put, List.setIfInBounds_toArray, List.set_cons_zero, List.set_cons_succ]) | (with_reducible refine wpl rfl (Stp.ldo rfl agg22 rfl H (by assumption) (by assumption) ?_); simp only [Act.put, List.setIfInBounds_toArray, List.set_cons_zero, List.set_cons_succ]))
      go_ret
      exact ⟨_, rfl, by first | rfl | (rw [← he]; rfl), H.below⟩
set_option maxRecDepth 100000 in
theorem without_ok (a b : Nat) (r : Int) (ha : a < 18446744073709551616) (hb : b < 18446744073709551616) (c d : Nat) (hcd : unM (a, b) r = (c, d)) (w : World) :
    Calls Try.prog 19 #[.agg #[.int .u64 (a : Int), .int .u64 (b : Int)], .int .i64 r] w (Ret fun v w' => v = .agg #[.int .u64 (c : Int), .int .u64 (d : Int)] ∧ Below w.heap.size w w') := by
  have H := St.init w
  by_cases hr : r < 0 ∨ 128 ≤ r
  · rw [unM, if_pos hr] at hcd
    cases hcd
    go_enter Try.func19, Try.ntmps19
    go_wp2_with (first | (go_at_call 28; refine (bit_no r hr _).mono ?_; rintro e w1 ⟨v, rfl, hr⟩; obtain ⟨rfl, hb1⟩ := hr; replace H := H.grow hb1; clear hb1) | (with_reducible refine wpl rfl (Stp.box 2 rfl rfl rfl H ?_); clear H; intro g2 w1 H; simp only [Act.put, List.setIfInBounds_toArray, List.set_cons_zero, List.set_cons_succ]; simp only [eval_tmp, eval_const, getD_lit0, getD_lits, cells_agg, cells_int, cells_bool, cells_string, cells_pointer, cells_slice, cells_map, List.setIfInBounds_toArray, List.set_cons_zero, List.set_cons_succ] at H) | (with_reducible refine wpl rfl (Stp.alloc 4 rfl rfl zero24 H ?_); clear H; intro g4 w1 H; simp only [Act.put, List.setIfInBounds_toArray, List.set_cons_zero, List.set_cons_succ]; simp only [cells_agg, cells_int, cells_bool, cells_string, cells_pointer, cells_slice, cells_map] at H) | (with_reducible refine wpl rfl (Stp.ldc rfl agg22 rfl H (by repeat (first | exact List.mem_cons_self | apply List.mem_cons_of_mem)) (by first | (repeat (first | exact lit0 _ _ | apply lits)) | rfl | assumption) ?_); simp only [Act.put, List.setIfInBounds_toArray, List.set_cons_zero, List.set_cons_succ]) | (with_reducible refine wpl rfl (Stp.ldo rfl agg22 rfl H (by assumption) (by assumption) ?_); simp only [Act.put, List.setIfInBounds_toArray, List.set_cons_zero, List.set_cons_succ]) | (with_reducible refine wpl rfl (Stp.stc rfl size22 rfl rfl rfl rfl H (by repeat (first | exact Upd.head | apply Upd.tail)) (by first | omega | (simp; done) | (simp; omega)) ?_); clear H; intro w1 H; simp only [Act.put, List.setIfInBounds_toArray, List.set_cons_zero, List.set_cons_succ]; simp only [eval_tmp, eval_const, getD_lit0, getD_lits, cells_agg, cells_int, cells_bool, cells_string, cells_pointer, cells_slice, cells_map, List.setIfInBounds_toArray, List.set_cons_zero, List.set_cons_succ] at H) | (with_reducible refine wpl rfl (Stp.ldr rfl agg24 size24 rfl H (by repeat (first | exact List.mem_cons_self | apply List.mem_cons_of_mem)) (by first | rfl | (simp; done) | assumption) ?_); simp only [Act.put, List.setIfInBounds_toArray, List.set_cons_zero, List.set_cons_succ]) | (with_reducible refine wpl rfl (Stp.ldor rfl agg24 size24 rfl H (by assumption) (by first | rfl | (simp; done) | assumption) (by assumption) ?_); simp only [Act.put, List.setIfInBounds_toArray, List.set_cons_zero, List.set_cons_succ]) | (with_reducible refine wpl rfl (Stp.str rfl size24 rfl rfl (by first | rfl | (simp [Value.oneCell']; done) | assumption) H (by repeat (first | exact Upd.head | apply Upd.tail)) (by first | rfl | (simp; done) | assumption) (by first | rfl | (simp; done) | assumption) ?_); clear H; intro w1 H; simp only [Act.put, List.setIfInBounds_toArray, List.set_cons_zero, List.set_cons_succ]))
    refine post_row rfl agg24 size24 rfl H (by repeat (first | exact List.mem_cons_self | apply List.mem_cons_of_mem)) rfl rfl ⟨_, rfl, rfl, H.below⟩
  · rw [unM, if_neg hr] at hcd
    obtain ⟨k, rfl⟩ : ∃ k : Nat, r = k := ⟨r.toNat, by omega⟩
    have hk : k < 128 := by omega
    rw [Int.toNat_natCast] at hcd
    by_cases h64 : (k : Int) < 64
    · rw [if_pos h64] at hcd
      have hm : k % 64 = k := Nat.mod_eq_of_lt (by omega)
      have hp := p2_lt (show k < 64 by omega)
      have HB := Lib.hid (show 2 ^ (k % 64) = 2 ^ k by rw [hm])
      obtain ⟨s, hs⟩ : ∃ s, 2 ^ k = s := ⟨_, rfl⟩
      rw [hs] at hcd hp HB
      have e := u64_andNot_nat a s ha hp
      cases hcd
      clear hm
      go_enter Try.func19, Try.ntmps19
      go_wp2_with (first | (go_at_call 28; refine (bit_yes k hk 0 s (by omega) HB.out _).mono ?_; rintro e w1 ⟨v, rfl, hr⟩; obtain ⟨rfl, hb1⟩ := hr; replace H := H.grow hb1; clear hb1) | (with_reducible refine wpl rfl (Stp.box 2 rfl rfl rfl H ?_); clear H; intro g2 w1 H; simp only [Act.put, List.setIfInBounds_toArray, List.set_cons_zero, List.set_cons_succ]; simp only [eval_tmp, eval_const, getD_lit0, getD_lits, cells_agg, cells_int, cells_bool, cells_string, cells_pointer, cells_slice, cells_map, List.setIfInBounds_toArray, List.set_cons_zero, List.set_cons_succ] at H) | (with_reducible refine wpl rfl (Stp.alloc 4 rfl rfl zero24 H ?_); clear H; intro g4 w1 H; simp only [Act.put, List.setIfInBounds_toArray, List.set_cons_zero, List.set_cons_succ]; simp only [cells_agg, cells_int, cells_bool, cells_string, cells_pointer, cells_slice, cells_map] at H) | (with_reducible refine wpl rfl (Stp.ldc rfl agg22 rfl H (by repeat (first | exact List.mem_cons_self | apply List.mem_cons_of_mem)) (by first | (repeat (first | exact lit0 _ _ | apply lits)) | rfl | assumption) ?_); simp only [Act.put, List.setIfInBounds_toArray, List.set_cons_zero, List.set_cons_succ]) | (with_reducible refine wpl rfl (Stp.ldo rfl agg22 rfl H (by assumption) (by assumption) ?_); simp only [Act.put, List.setIfInBounds_toArray, List.set_cons_zero, List.set_cons_succ]) | (with_reducible refine wpl rfl (Stp.stc rfl size22 rfl rfl rfl rfl H (by repeat (first | exact Upd.head | apply Upd.tail)) (by first | omega | (simp; done) | (simp; omega)) ?_); clear H; intro w1 H; simp only [Act.put, List.setIfInBounds_toArray, List.set_cons_zero, List.set_cons_succ]; simp only [eval_tmp, eval_const, getD_lit0, getD_lits, cells_agg, cells_int, cells_bool, cells_string, cells_pointer, cells_slice, cells_map, List.setIfInBounds_toArray, List.set_cons_zero, List.set_cons_succ] at H) | (with_reducible refine wpl rfl (Stp.ldr rfl agg24 size24 rfl H (by repeat (first | exact List.mem_cons_self | apply List.mem_cons_of_mem)) (by first | rfl | (simp; done) | assumption) ?_); simp only [Act.put, List.setIfInBounds_toArray, List.set_cons_zero, List.set_cons_succ]) | (with_reducible refine wpl rfl (Stp.ldor rfl agg24 size24 rfl H (by assumption) (by first | rfl | (simp; done) | assumption) (by assumption) ?_); simp only [Act.put, List.setIfInBounds_toArray, List.set_cons_zero, List.set_cons_succ]) | (with_reducible refine wpl rfl (Stp.str rfl size24 rfl rfl (by first | rfl | (simp [Value.oneCell']; done) | assumption) H (by repeat (first | exact Upd.head | apply Upd.tail)) (by first | rfl | (simp; done) | assumption) (by first | rfl | (simp; done) | assumption) ?_); clear H; intro w1 H; simp only [Act.put, List.setIfInBounds_toArray, List.set_cons_zero, List.set_cons_succ]))
      refine post_row rfl agg24 size24 rfl H (by repeat (first | exact List.mem_cons_self | apply List.mem_cons_of_mem)) rfl rfl ⟨_, rfl, rfl, H.below⟩
    · rw [if_neg h64] at hcd
      have hm : k % 64 = k - 64 := by omega
      have hp := p2_lt (show k - 64 < 64 by omega)
      have HB := Lib.hid (show 2 ^ (k % 64) = 2 ^ (k - 64) by rw [hm])
      obtain ⟨s, hs⟩ : ∃ s, 2 ^ (k - 64) = s := ⟨_, rfl⟩
      rw [hs] at hcd hp HB
      have e := u64_andNot_nat b s hb hp
      cases hcd
      clear hm
      go_enter Try.func19, Try.ntmps19
      go_wp2_with (first | (go_at_call 28; refine (bit_yes k hk 1 s (by omega) HB.out _).mono ?_; rintro e w1 ⟨v, rfl, hr⟩; obtain ⟨rfl, hb1⟩ := hr; replace H := H.grow hb1; clear hb1) | (with_reducible refine wpl rfl (Stp.box 2 rfl rfl rfl H ?_); clear H; intro g2 w1 H; simp only [Act.put, List.setIfInBounds_toArray, List.set_cons_zero, List.set_cons_succ]; simp only [eval_tmp, eval_const, getD_lit0, getD_lits, cells_agg, cells_int, cells_bool, cells_string, cells_pointer, cells_slice, cells_map, List.setIfInBounds_toArray, List.set_cons_zero, List.set_cons_succ] at H) | (with_reducible refine wpl rfl (Stp.alloc 4 rfl rfl zero24 H ?_); clear H; intro g4 w1 H; simp only [Act.put, List.setIfInBounds_toArray, List.set_cons_zero, List.set_cons_succ]; simp only [cells_agg, cells_int, cells_bool, cells_string, cells_pointer, cells_slice, cells_map] at H) | (with_reducible refine wpl rfl (Stp.ldc rfl agg22 rfl H (by repeat (first | exact List.mem_cons_self | apply List.mem_cons_of_mem)) (by first | (repeat (first | exact lit0 _ _ | apply lits)) | rfl | assumption) ?_); simp only [Act.put, List.setIfInBounds_toArray, List.set_cons_zero, List.set_cons_succ]) | (with_reducible refine wpl rfl (Stp.ldo rfl agg22 rfl H (by assumption) (by assumption) ?_); simp only [Act.put, List.setIfInBounds_toArray, List.set_cons_zero, List.set_cons_succ]) | (with_reducible refine wpl rfl (Stp.stc rfl size22 rfl rfl rfl rfl H (by repeat (first | exact Upd.head | apply Upd.tail)) (by first | omega | (simp; done) | (simp; omega)) ?_); clear H; intro w1 H; simp only [Act.put, List.setIfInBounds_toArray, List.set_cons_zero, List.set_cons_succ]; simp only [eval_tmp, eval_const, getD_lit0, getD_lits, cells_agg, cells_int, cells_bool, cells_string, cells_pointer, cells_slice, cells_map, List.setIfInBounds_toArray, List.set_cons_zero, List.set_cons_succ] at H) | (with_reducible refine wpl rfl (Stp.ldr rfl agg24 size24 rfl H (by repeat (first | exact List.mem_cons_self | apply List.mem_cons_of_mem)) (by first | rfl | (simp; done) | assumption) ?_); simp only [Act.put, List.setIfInBounds_toArray, List.set_cons_zero, List.set_cons_succ]) | (with_reducible refine wpl rfl (Stp.ldor rfl agg24 size24 rfl H (by assumption) (by first | rfl | (simp; done) | assumption) (by assumption) ?_); simp only [Act.put, List.setIfInBounds_toArray, List.set_cons_zero, List.set_cons_succ]) | (with_reducible refine wpl rfl (Stp.str rfl size24 rfl rfl (by first | rfl | (simp [Value.oneCell']; done) | assumption) H (by repeat (first | exact Upd.head | apply Upd.tail)) (by first | rfl | (simp; done) | assumption) (by first | rfl | (simp; done) | assumption) ?_); clear H; intro w1 H; simp only [Act.put, List.setIfInBounds_toArray, List.set_cons_zero, List.set_cons_succ]))
      refine post_row rfl agg24 size24 rfl H (by repeat (first | exact List.mem_cons_self | apply List.mem_cons_of_mem)) rfl rfl ⟨_, rfl, rfl, H.below⟩
set_option maxRecDepth 100000 in
theorem or_ok (a b c d : Nat) (ha : a < 18446744073709551616) (hb : b < 18446744073709551616) (hc : c < 18446744073709551616) (hd : d < 18446744073709551616) (w : World) :
    Calls Try.prog 24 #[.agg #[.int .u64 (a : Int), .int .u64 (b : Int)], .agg #[.int .u64 (c : Int), .int .u64 (d : Int)]] w (Ret fun v w' => v = .agg #[.int .u64 ((a ||| c : Nat) : Int), .int .u64 ((b ||| d : Nat) : Int)] ∧ Below w.heap.size w w') := by
  have H := St.init w
  have e1 := bits_or_u64_nat a c ha hc
  have e2 := bits_or_u64_nat b d hb hd
  clear ha hb hc hd
  go_enter Try.func24, Try.ntmps24
  go_wp2_with (first | (with_reducible refine wpl rfl (Stp.box 2 rfl rfl rfl H ?_); clear H; intro g2 w1 H; simp only [Act.put, List.setIfInBounds_toArray, List.set_cons_zero, List.set_cons_succ]; simp only [eval_tmp, eval_const, getD_lit0, getD_lits, cells_agg, cells_int, cells_bool, cells_string, cells_pointer, cells_slice, cells_map, List.setIfInBounds_toArray, List.set_cons_zero, List.set_cons_succ] at H) | (with_reducible refine wpl rfl (Stp.box 3 rfl rfl rfl H ?_); clear H; intro g3 w1 H; simp only [Act.put, List.setIfInBounds_toArray, List.set_cons_zero, List.set_cons_succ]; simp only [eval_tmp, eval_const, getD_lit0, getD_lits, cells_agg, cells_int, cells_bool, cells_string, cells_pointer, cells_slice, cells_map, List.setIfInBounds_toArray, List.set_cons_zero, List.set_cons_succ] at H) | (with_reducible refine wpl rfl (Stp.alloc 4 rfl rfl zero24 H ?_); clear H; intro g4 w1 H; simp only [Act.put, List.setIfInBounds_toArray, List.set_cons_zero, List.set_cons_succ]; simp only [cells_agg, cells_int, cells_bool, cells_string, cells_pointer, cells_slice, cells_map] at H) | (with_reducible refine wpl rfl (Stp.ldc rfl agg22 rfl H (by repeat (first | exact List.mem_cons_self | apply List.mem_cons_of_mem)) (by first | (repeat (first | exact lit0 _ _ | apply lits)) | rfl | assumption) ?_); simp only [Act.put, List.setIfInBounds_toArray, List.set_cons_zero, List.set_cons_succ]) | (with_reducible refine wpl rfl (Stp.ldo rfl agg22 rfl H (by assumption) (by assumption) ?_); simp only [Act.put, List.setIfInBounds_toArray, List.set_cons_zero, List.set_cons_succ]) | (with_reducible refine wpl rfl (Stp.str rfl size24 rfl rfl (by first | rfl | (simp [Value.oneCell']; done) | assumption) H (by repeat (first | exact Upd.head | apply Upd.tail)) (by first | rfl | (simp; done) | assumption) (by first | rfl | (simp; done) | assumption) ?_); clear H; intro w1 H; simp only [Act.put, List.setIfInBounds_toArray, List.set_cons_zero, List.set_cons_succ]))
  refine post_row rfl agg24 size24 rfl H (by repeat (first | exact List.mem_cons_self | apply List.mem_cons_of_mem)) rfl rfl ⟨_, rfl, rfl, H.below⟩
set_option maxRecDepth 100000 in
theorem minus_ok (a b c d : Nat) (ha : a < 18446744073709551616) (hb : b < 18446744073709551616) (hc : c < 18446744073709551616) (hd : d < 18446744073709551616) (w : World) :
    Calls Try.prog 23 #[.agg #[.int .u64 (a : Int), .int .u64 (b : Int)], .agg #[.int .u64 (c : Int), .int .u64 (d : Int)]] w (Ret fun v w' => v = .agg #[.int .u64 ((mn a c : Nat) : Int), .int .u64 ((mn b d : Nat) : Int)] ∧ Below w.heap.size w w') := by
  have H := St.init w
  have e1 := u64_andNot_nat a c ha hc
  have e2 := u64_andNot_nat b d hb hd
  clear ha hb hc hd
  go_enter Try.func23, Try.ntmps23
  go_wp2_with (first | (with_reducible refine wpl rfl (Stp.box 2 rfl rfl rfl H ?_); clear H; intro g2 w1 H; simp only [Act.put, List.setIfInBounds_toArray, List.set_cons_zero, List.set_cons_succ]; simp only [eval_tmp, eval_const, getD_lit0, getD_lits, cells_agg, cells_int, cells_bool, cells_string, cells_pointer, cells_slice, cells_map, List.setIfInBounds_toArray, List.set_cons_zero, List.set_cons_succ] at H) | (with_reducible refine wpl rfl (Stp.box 3 rfl rfl rfl H ?_); clear H; intro g3 w1 H; simp only [Act.put, List.setIfInBounds_toArray, List.set_cons_zero, List.set_cons_succ]; simp only [eval_tmp, eval_const, getD_lit0, getD_lits, cells_agg, cells_int, cells_bool, cells_string, cells_pointer, cells_slice, cells_map, List.setIfInBounds_toArray, List.set_cons_zero, List.set_cons_succ] at H) | (with_reducible refine wpl rfl (Stp.alloc 4 rfl rfl zero24 H ?_); clear H; intro g4 w1 H; simp only [Act.put, List.setIfInBounds_toArray, List.set_cons_zero, List.set_cons_succ]; simp only [cells_agg, cells_int, cells_bool, cells_string, cells_pointer, cells_slice, cells_map] at H) | (with_reducible refine wpl rfl (Stp.ldc rfl agg22 rfl H (by repeat (first | exact List.mem_cons_self | apply List.mem_cons_of_mem)) (by first | (repeat (first | exact lit0 _ _ | apply lits)) | rfl | assumption) ?_); simp only [Act.put, List.setIfInBounds_toArray, List.set_cons_zero, List.set_cons_succ]) | (with_reducible refine wpl rfl (Stp.ldo rfl agg22 rfl H (by assumption) (by assumption) ?_); simp only [Act.put, List.setIfInBounds_toArray, List.set_cons_zero, List.set_cons_succ]) | (with_reducible refine wpl rfl (Stp.str rfl size24 rfl rfl (by first | rfl | (simp [Value.oneCell']; done) | assumption) H (by repeat (first | exact Upd.head | apply Upd.tail)) (by first | rfl | (simp; done) | assumption) (by first | rfl | (simp; done) | assumption) ?_); clear H; intro w1 H; simp only [Act.put, List.setIfInBounds_toArray, List.set_cons_zero, List.set_cons_succ]))
  refine post_row rfl agg24 size24 rfl H (by repeat (first | exact List.mem_cons_self | apply List.mem_cons_of_mem)) rfl rfl ⟨_, rfl, rfl, H.below⟩
/-! ### Laws of one word -/
theorem mn_bit (a b i : Nat) (hb : b < 18446744073709551616) (ha : a < 18446744073709551616) : (mn a b).testBit i = (a.testBit i && !(b.testBit i)) := by
  unfold mn
  rw [Nat.testBit_and, show 18446744073709551615 - b = 2 ^ 64 - (b + 1) by omega, Nat.testBit_two_pow_sub_succ (by simpa using hb)]
  by_cases h : i < 64
  · simp [h]
  · have : a.testBit i = false := Nat.testBit_lt_two_pow (Nat.lt_of_lt_of_le (show a < 2 ^ 64 by simpa using ha) (Nat.pow_le_pow_right (by omega) (by omega)))
    simp [this]
theorem mn_lt {a b : Nat} (h : a < 18446744073709551616) : mn a b < 18446744073709551616 := and_lt h
theorem back_has (a k : Nat) (ha : a < 18446744073709551616) (hk : k < 64) (h : a.testBit k = true) : mn a (2 ^ k) ||| 2 ^ k = a := by
  refine Nat.eq_of_testBit_eq fun i => ?_
  rw [Nat.testBit_or, mn_bit _ _ _ (p2_lt hk) ha, Nat.testBit_two_pow]
  by_cases e : k = i
  · subst e; simp [h]
  · simp [e]
theorem back_not (a k : Nat) (ha : a < 18446744073709551616) (hk : k < 64) (h : a.testBit k = false) : mn (a ||| 2 ^ k) (2 ^ k) = a := by
  refine Nat.eq_of_testBit_eq fun i => ?_
  rw [mn_bit _ _ _ (p2_lt hk) (Nat.or_lt_two_pow (n := 64) ha (p2_lt hk)), Nat.testBit_or, Nat.testBit_two_pow]
  by_cases e : k = i
  · subst e; simp [h]
  · simp [e]
theorem parts_or (a b : Nat) (ha : a < 18446744073709551616) (hb : b < 18446744073709551616) : (a &&& b) ||| mn a b = a := by
  refine Nat.eq_of_testBit_eq fun i => ?_
  rw [Nat.testBit_or, Nat.testBit_and, mn_bit _ _ _ hb ha]
  cases a.testBit i <;> cases b.testBit i <;> rfl
theorem parts_and (a b : Nat) (ha : a < 18446744073709551616) (hb : b < 18446744073709551616) : (a &&& b) &&& mn a b = 0 := by
  refine Nat.eq_of_testBit_eq fun i => ?_
  rw [Nat.testBit_and, Nat.testBit_and, mn_bit _ _ _ hb ha, Nat.zero_testBit]
  cases a.testBit i <;> cases b.testBit i <;> rfl
theorem pop_zero : ∀ f, pop f 0 = 0 := fun f => by
  have := ones_pop f 0 (by omega)
  simpa using this
theorem parts_pop (a b : Nat) (ha : a < 18446744073709551616) (hb : b < 18446744073709551616) : pop 64 (a &&& b) + pop 64 (mn a b) = pop 64 a := by
  have h := pop_split 64 (a &&& b) (mn a b)
  rw [parts_or a b ha hb, parts_and a b ha hb, pop_zero] at h
  omega
theorem flip_has (m : Nat × Nat) (k : Nat) (hk : k < 128) (h1 : m.1 < 18446744073709551616) (h2 : m.2 < 18446744073709551616) (h : hasM m k = true) : setM (unM m k) k = m := by
  have hr : ¬ ((k : Int) < 0 ∨ 128 ≤ (k : Int)) := by omega
  unfold setM unM
  unfold hasM at h
  rw [if_neg hr, if_neg hr]
  simp only [hr, decide_false, Bool.not_false, Bool.true_and, Int.toNat_natCast] at h ⊢
  by_cases h64 : (k : Int) < 64
  · rw [if_pos h64] at h ⊢
    rw [if_pos h64, back_has _ _ h1 (by omega) h]
  · rw [if_neg h64] at h ⊢
    rw [if_neg h64, back_has _ _ h2 (by omega) h]
theorem flip_not (m : Nat × Nat) (k : Nat) (hk : k < 128) (h1 : m.1 < 18446744073709551616) (h2 : m.2 < 18446744073709551616) (h : hasM m k = false) : unM (setM m k) k = m := by
  have hr : ¬ ((k : Int) < 0 ∨ 128 ≤ (k : Int)) := by omega
  unfold setM unM
  unfold hasM at h
  rw [if_neg hr, if_neg hr]
  simp only [hr, decide_false, Bool.not_false, Bool.true_and, Int.toNat_natCast] at h ⊢
  by_cases h64 : (k : Int) < 64
  · rw [if_pos h64] at h ⊢
    rw [if_pos h64, back_not _ _ h1 (by omega) h]
  · rw [if_neg h64] at h ⊢
    rw [if_neg h64, back_not _ _ h2 (by omega) h]
theorem unM_lt {m : Nat × Nat} {r : Int} (h : m.1 < 18446744073709551616 ∧ m.2 < 18446744073709551616) : (unM m r).1 < 18446744073709551616 ∧ (unM m r).2 < 18446744073709551616 := by
  unfold unM
  split
  · exact h
  · split
    · exact ⟨mn_lt h.1, h.2⟩
    · exact ⟨h.1, mn_lt h.2⟩
end Go.Proofs.Ytcgogcolfbpcfaa
