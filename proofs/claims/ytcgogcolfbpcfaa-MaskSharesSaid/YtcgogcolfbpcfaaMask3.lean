/- Contracts of layer 5's functions (mask): bit, With, Of, Majority, and the document's examples of that layer; no condition. -/
import Derived.Test.YtcgogcolfbpcfaaMask2
import Derived.Test.YtcgogcolfbpcfaaBase3
namespace Go.Proofs.Ytcgogcolfbpcfaa
open Go.ChangeShapes Go.WideShapes Go.ChangeAt Go.RowKit
set_option linter.unusedVariables false
set_option linter.unusedSimpArgs false
theorem equalIn_M (a b c d : Int) (w : World) : (Op.equalIn 10000 24 (.agg #[.int .u64 a, .int .u64 b]) (.agg #[.int .u64 c, .int .u64 d])).run Try.prog w = .ok (a == c && b == d) w := by
  have h := run_equalIn_ints (P := Try.prog) w 24 22 .u64 2 9998 Try.underlying24 Try.underlying22 agg22 size22 #[.int .u64 a, .int .u64 b] #[.int .u64 c, .int .u64 d] (fun i => if i = 0 then a else b) (fun i => if i = 0 then c else d) (fun i hi => by
    have : i = 0 ∨ i = 1 := by omega
    rcases this with rfl | rfl <;> exact ⟨rfl, rfl⟩)
  rw [h]
  simp [List.range_succ]
theorem eqg_M : Try.prog.eqGuardType Try.prog.depth 24 = false := by kernel_rfl
attribute [local go_sem] equalIn_M eqg_M
attribute [local irreducible] pop
theorem bit_no (r : Int) (h : r < 0 ∨ 128 ≤ r) (w : World) : Calls Try.prog 28 #[.int .i64 r] w (Ret fun v w' => v = .tuple #[.int .i64 0, .int .u64 0, .bool false] ∧ Below w.heap.size w w') := by
  have H := St.init w
  rcases Int.lt_or_le r 0 with h0 | h0
  · go_enter Try.func28, Try.ntmps28
    go_wp2
    go_ret3
    exact ⟨_, rfl, rfl, H.below⟩
  · have h1 : 128 ≤ r := by omega
    have hn : ¬ r < 0 := by omega
    go_enter Try.func28, Try.ntmps28
    go_wp2
    go_ret3
    exact ⟨_, rfl, rfl, H.below⟩
theorem and63 (r : Nat) (h : r < 128) : bits .and .u64 (r : Int) 63 = ((r % 64 : Nat) : Int) := by
  have := bits_and_u64_nat r 63 (by omega) (by omega)
  rw [show (63 : Nat) = 2 ^ 6 - 1 by rfl, Nat.and_two_pow_sub_one_eq_mod] at this
  exact this
theorem bit_yes (r : Nat) (h : r < 128) (q s : Nat) (hq : r / 64 = q) (hs : 2 ^ (r % 64) = s) (w : World) : Calls Try.prog 28 #[.int .i64 (r : Int)] w (Ret fun v w' => v = .tuple #[.int .i64 (q : Int), .int .u64 (s : Int), .bool true] ∧ Below w.heap.size w w') := by
  have H := St.init w
  have h0 : ¬ (r : Int) < 0 := by omega
  have h1 : ¬ (128 : Int) ≤ (r : Int) := by omega
  have hw : IntKind.u64.wrap (r : Int) = (r : Int) := wrap_u64_in _ (by omega) (by omega)
  obtain ⟨m, hm⟩ : ∃ m, r % 64 = m := ⟨_, rfl⟩
  have ha := and63 r h
  rw [hm] at ha hs
  have hm64 : m < 64 := by omega
  have h2 : (2 : Nat) ^ m ≤ 2 ^ 63 := Nat.pow_le_pow_right (by omega) (by omega)
  have h3 := Nat.two_pow_pos m
  have hp : IntKind.u64.wrap ((2 : Int) ^ m) = (s : Int) := by
    rw [show ((2 : Int) ^ m) = ((2 ^ m : Nat) : Int) by push_cast; rfl, wrap_u64_in _ (by omega) (by omega), hs]
  have hp1 : IntKind.u64.wrap (1 * (2 : Int) ^ m) = (s : Int) := by rw [Int.one_mul, hp]
  have hdi : (r : Int) / 64 = (q : Int) := by omega
  have hmn : ((m : Int)).toNat = m := by omega
  clear h2 h3 hs
  go_enter Try.func28, Try.ntmps28
  go_wp2
  go_ret3
  exact ⟨_, rfl, rfl, H.below⟩
/-- A rank is laid into a mask. -/
def setM (m : Nat × Nat) (r : Int) : Nat × Nat := if r < 0 ∨ 128 ≤ r then m else if r < 64 then (m.1 ||| 2 ^ r.toNat, m.2) else (m.1, m.2 ||| 2 ^ (r.toNat - 64))
theorem p2_lt {k : Nat} (h : k < 64) : 2 ^ k < 18446744073709551616 := by
  have h2 : (2 : Nat) ^ k ≤ 2 ^ 63 := Nat.pow_le_pow_right (by omega) (by omega)
  omega
set_option maxRecDepth 100000 in
theorem with_ok (a b : Nat) (r : Int) (ha : a < 18446744073709551616) (hb : b < 18446744073709551616) (c d : Nat) (hcd : setM (a, b) r = (c, d)) (w : World) :
    Calls Try.prog 17 #[.agg #[.int .u64 (a : Int), .int .u64 (b : Int)], .int .i64 r] w (Ret fun v w' => v = .agg #[.int .u64 (c : Int), .int .u64 (d : Int)] ∧ Below w.heap.size w w') := by
  have H := St.init w
  by_cases hr : r < 0 ∨ 128 ≤ r
  · rw [setM, if_pos hr] at hcd
    cases hcd
    go_enter Try.func17, Try.ntmps17
    go_wp2_with (first | (go_at_call 28; refine (bit_no r hr _).mono ?_; rintro e w1 ⟨v, rfl, hr⟩; obtain ⟨rfl, hb1⟩ := hr; replace H := H.grow hb1; clear hb1) | (with_reducible refine wpl rfl (Stp.box 2 rfl rfl rfl H ?_); clear H; intro g2 w1 H; simp only [Act.put, List.setIfInBounds_toArray, List.set_cons_zero, List.set_cons_succ]; simp only [eval_tmp, eval_const, getD_lit0, getD_lits, cells_agg, cells_int, cells_bool, cells_string, cells_pointer, cells_slice, cells_map, List.setIfInBounds_toArray, List.set_cons_zero, List.set_cons_succ] at H) | (with_reducible refine wpl rfl (Stp.alloc 4 rfl rfl zero24 H ?_); clear H; intro g4 w1 H; simp only [Act.put, List.setIfInBounds_toArray, List.set_cons_zero, List.set_cons_succ]; simp only [cells_agg, cells_int, cells_bool, cells_string, cells_pointer, cells_slice, cells_map] at H) | (with_reducible refine wpl rfl (Stp.ldc rfl agg22 rfl H (by repeat (first | exact List.mem_cons_self | apply List.mem_cons_of_mem)) (by first | (repeat (first | exact lit0 _ _ | apply lits)) | rfl | assumption) ?_); simp only [Act.put, List.setIfInBounds_toArray, List.set_cons_zero, List.set_cons_succ]) | (with_reducible refine wpl rfl (Stp.ldo rfl agg22 rfl H (by assumption) (by assumption) ?_); simp only [Act.put, List.setIfInBounds_toArray, List.set_cons_zero, List.set_cons_succ]) | (with_reducible refine wpl rfl (Stp.stc rfl size22 rfl rfl rfl rfl H (by repeat (first | exact Upd.head | apply Upd.tail)) (by first | omega | (simp; done) | (simp; omega)) ?_); clear H; intro w1 H; simp only [Act.put, List.setIfInBounds_toArray, List.set_cons_zero, List.set_cons_succ]; simp only [eval_tmp, eval_const, getD_lit0, getD_lits, cells_agg, cells_int, cells_bool, cells_string, cells_pointer, cells_slice, cells_map, List.setIfInBounds_toArray, List.set_cons_zero, List.set_cons_succ] at H) | (with_reducible refine wpl rfl (Stp.ldr rfl agg24 size24 rfl H (by repeat (first | exact List.mem_cons_self | apply List.mem_cons_of_mem)) (by first | rfl | (simp; done) | assumption) ?_); simp only [Act.put, List.setIfInBounds_toArray, List.set_cons_zero, List.set_cons_succ]) | (with_reducible refine wpl rfl (Stp.ldor rfl agg24 size24 rfl H (by assumption) (by first | rfl | (simp; done) | assumption) (by assumption) ?_); simp only [Act.put, List.setIfInBounds_toArray, List.set_cons_zero, List.set_cons_succ]) | (with_reducible refine wpl rfl (Stp.str rfl size24 rfl rfl (by first | rfl | (simp [Value.oneCell']; done) | assumption) H (by repeat (first | exact Upd.head | apply Upd.tail)) (by first | rfl | (simp; done) | assumption) (by first | rfl | (simp; done) | assumption) ?_); clear H; intro w1 H; simp only [Act.put, List.setIfInBounds_toArray, List.set_cons_zero, List.set_cons_succ]))
    refine post_row rfl agg24 size24 rfl H (by repeat (first | exact List.mem_cons_self | apply List.mem_cons_of_mem)) rfl rfl ⟨_, rfl, rfl, H.below⟩
  · rw [setM, if_neg hr] at hcd
    obtain ⟨k, rfl⟩ : ∃ k : Nat, r = k := ⟨r.toNat, by omega⟩
    have hk : k < 128 := by omega
    rw [Int.toNat_natCast] at hcd
    by_cases h64 : (k : Int) < 64
    · rw [if_pos h64] at hcd
      have hm : k % 64 = k := Nat.mod_eq_of_lt (by omega)
      have hp := p2_lt (show k < 64 by omega)
      have HB := Lib.hid (show 2 ^ (k % 64) = 2 ^ k by rw [hm])
      obtain ⟨s, hs⟩ : ∃ s, 2 ^ k = s := ⟨_, rfl⟩
      rw [hs] at hcd hp HB
      have e := bits_or_u64_nat a s ha hp
      cases hcd
      clear hm
      go_enter Try.func17, Try.ntmps17
      go_wp2_with (first | (go_at_call 28; refine (bit_yes k hk 0 s (by omega) HB.out _).mono ?_; rintro e w1 ⟨v, rfl, hr⟩; obtain ⟨rfl, hb1⟩ := hr; replace H := H.grow hb1; clear hb1) | (with_reducible refine wpl rfl (Stp.box 2 rfl rfl rfl H ?_); clear H; intro g2 w1 H; simp only [Act.put, List.setIfInBounds_toArray, List.set_cons_zero, List.set_cons_succ]; simp only [eval_tmp, eval_const, getD_lit0, getD_lits, cells_agg, cells_int, cells_bool, cells_string, cells_pointer, cells_slice, cells_map, List.setIfInBounds_toArray, List.set_cons_zero, List.set_cons_succ] at H) | (with_reducible refine wpl rfl (Stp.alloc 4 rfl rfl zero24 H ?_); clear H; intro g4 w1 H; simp only [Act.put, List.setIfInBounds_toArray, List.set_cons_zero, List.set_cons_succ]; simp only [cells_agg, cells_int, cells_bool, cells_string, cells_pointer, cells_slice, cells_map] at H) | (with_reducible refine wpl rfl (Stp.ldc rfl agg22 rfl H (by repeat (first | exact List.mem_cons_self | apply List.mem_cons_of_mem)) (by first | (repeat (first | exact lit0 _ _ | apply lits)) | rfl | assumption) ?_); simp only [Act.put, List.setIfInBounds_toArray, List.set_cons_zero, List.set_cons_succ]) | (with_reducible refine wpl rfl (Stp.ldo rfl agg22 rfl H (by assumption) (by assumption) ?_); simp only [Act.put, List.setIfInBounds_toArray, List.set_cons_zero, List.set_cons_succ]) | (with_reducible refine wpl rfl (Stp.stc rfl size22 rfl rfl rfl rfl H (by repeat (first | exact Upd.head | apply Upd.tail)) (by first | omega | (simp; done) | (simp; omega)) ?_); clear H; intro w1 H; simp only [Act.put, List.setIfInBounds_toArray, List.set_cons_zero, List.set_cons_succ]; simp only [eval_tmp, eval_const, getD_lit0, getD_lits, cells_agg, cells_int, cells_bool, cells_string, cells_pointer, cells_slice, cells_map, List.setIfInBounds_toArray, List.set_cons_zero, List.set_cons_succ] at H) | (with_reducible refine wpl rfl (Stp.ldr rfl agg24 size24 rfl H (by repeat (first | exact List.mem_cons_self | apply List.mem_cons_of_mem)) (by first | rfl | (simp; done) | assumption) ?_); simp only [Act.put, List.setIfInBounds_toArray, List.set_cons_zero, List.set_cons_succ]) | (with_reducible refine wpl rfl (Stp.ldor rfl agg24 size24 rfl H (by assumption) (by first | rfl | (simp; done) | assumption) (by assumption) ?_); simp only [Act.put, List.setIfInBounds_toArray, List.set_cons_zero, List.set_cons_succ]) | (with_reducible refine wpl rfl (Stp.str rfl size24 rfl rfl (by first | rfl | (simp [Value.oneCell']; done) | assumption) H (by repeat (first | exact Upd.head | apply Upd.tail)) (by first | rfl | (simp; done) | assumption) (by first | rfl | (simp; done) | assumption) ?_); clear H; intro w1 H; simp only [Act.put, List.setIfInBounds_toArray, List.set_cons_zero, List.set_cons_succ]))
      refine post_row rfl agg24 size24 rfl H (by repeat (first | exact List.mem_cons_self | apply List.mem_cons_of_mem)) rfl rfl ⟨_, rfl, rfl, H.below⟩
    · rw [if_neg h64] at hcd
      have hm : k % 64 = k - 64 := by omega
      have hp := p2_lt (show k - 64 < 64 by omega)
      have HB := Lib.hid (show 2 ^ (k % 64) = 2 ^ (k - 64) by rw [hm])
      obtain ⟨s, hs⟩ : ∃ s, 2 ^ (k - 64) = s := ⟨_, rfl⟩
      rw [hs] at hcd hp HB
      have e := bits_or_u64_nat b s hb hp
      cases hcd
      clear hm
      go_enter Try.func17, Try.ntmps17
      go_wp2_with (first | (go_at_call 28; refine (bit_yes k hk 1 s (by omega) HB.out _).mono ?_; rintro e w1 ⟨v, rfl, hr⟩; obtain ⟨rfl, hb1⟩ := hr; replace H := H.grow hb1; clear hb1) | (with_reducible refine wpl rfl (Stp.box 2 rfl rfl rfl H ?_); clear H; intro g2 w1 H; simp only [Act.put, List.setIfInBounds_toArray, List.set_cons_zero, List.set_cons_succ]; simp only [eval_tmp, eval_const, getD_lit0, getD_lits, cells_agg, cells_int, cells_bool, cells_string, cells_pointer, cells_slice, cells_map, List.setIfInBounds_toArray, List.set_cons_zero, List.set_cons_succ] at H) | (with_reducible refine wpl rfl (Stp.alloc 4 rfl rfl zero24 H ?_); clear H; intro g4 w1 H; simp only [Act.put, List.setIfInBounds_toArray, List.set_cons_zero, List.set_cons_succ]; simp only [cells_agg, cells_int, cells_bool, cells_string, cells_pointer, cells_slice, cells_map] at H) | (with_reducible refine wpl rfl (Stp.ldc rfl agg22 rfl H (by repeat (first | exact List.mem_cons_self | apply List.mem_cons_of_mem)) (by first | (repeat (first | exact lit0 _ _ | apply lits)) | rfl | assumption) ?_); simp only [Act.put, List.setIfInBounds_toArray, List.set_cons_zero, List.set_cons_succ]) | (with_reducible refine wpl rfl (Stp.ldo rfl agg22 rfl H (by assumption) (by assumption) ?_); simp only [Act.put, List.setIfInBounds_toArray, List.set_cons_zero, List.set_cons_succ]) | (with_reducible refine wpl rfl (Stp.stc rfl size22 rfl rfl rfl rfl H (by repeat (first | exact Upd.head | apply Upd.tail)) (by first | omega | (simp; done) | (simp; omega)) ?_); clear H; intro w1 H; simp only [Act.put, List.setIfInBounds_toArray, List.set_cons_zero, List.set_cons_succ]; simp only [eval_tmp, eval_const, getD_lit0, getD_lits, cells_agg, cells_int, cells_bool, cells_string, cells_pointer, cells_slice, cells_map, List.setIfInBounds_toArray, List.set_cons_zero, List.set_cons_succ] at H) | (with_reducible refine wpl rfl (Stp.ldr rfl agg24 size24 rfl H (by repeat (first | exact List.mem_cons_self | apply List.mem_cons_of_mem)) (by first | rfl | (simp; done) | assumption) ?_); simp only [Act.put, List.setIfInBounds_toArray, List.set_cons_zero, List.set_cons_succ]) | (with_reducible refine wpl rfl (Stp.ldor rfl agg24 size24 rfl H (by assumption) (by first | rfl | (simp; done) | assumption) (by assumption) ?_); simp only [Act.put, List.setIfInBounds_toArray, List.set_cons_zero, List.set_cons_succ]) | (with_reducible refine wpl rfl (Stp.str rfl size24 rfl rfl (by first | rfl | (simp [Value.oneCell']; done) | assumption) H (by repeat (first | exact Upd.head | apply Upd.tail)) (by first | rfl | (simp; done) | assumption) (by first | rfl | (simp; done) | assumption) ?_); clear H; intro w1 H; simp only [Act.put, List.setIfInBounds_toArray, List.set_cons_zero, List.set_cons_succ]))
      refine post_row rfl agg24 size24 rfl H (by repeat (first | exact List.mem_cons_self | apply List.mem_cons_of_mem)) rfl rfl ⟨_, rfl, rfl, H.below⟩
theorem setM_lt {m : Nat × Nat} {r : Int} (h : m.1 < 18446744073709551616 ∧ m.2 < 18446744073709551616) : (setM m r).1 < 18446744073709551616 ∧ (setM m r).2 < 18446744073709551616 := by
  unfold setM
  split
  · exact h
  · split
    · exact ⟨Nat.or_lt_two_pow (n := 64) h.1 (p2_lt (by omega)), h.2⟩
    · exact ⟨h.1, Nat.or_lt_two_pow (n := 64) h.2 (p2_lt (by omega))⟩
/-- The mask of some ranks. -/
def ofM (l : List Int) : Nat × Nat := l.foldl setM (0, 0)
def elI (l : List Int) (i : Nat) : Array Value := #[.int .i64 (l.getD i 0)]
theorem ofM_succ (l : List Int) (k : Nat) (h : k < l.length) : ofM (l.take (k + 1)) = setM (ofM (l.take k)) (l.getD k 0) := by
  unfold ofM
  rw [List.take_succ_eq_append_getElem h, List.foldl_append]
  simp [List.getD, h]
theorem fold_lt : ∀ (l : List Int) (m : Nat × Nat), (m.1 < 18446744073709551616 ∧ m.2 < 18446744073709551616) → (l.foldl setM m).1 < 18446744073709551616 ∧ (l.foldl setM m).2 < 18446744073709551616
  | [], _, h => h
  | r :: l, m, h => fold_lt l (setM m r) (setM_lt h)
theorem ofM_lt (l : List Int) : (ofM l).1 < 18446744073709551616 ∧ (ofM l).2 < 18446744073709551616 := fold_lt l _ ⟨by simp, by simp⟩
set_option maxRecDepth 100000 in
theorem of_ok (v : Value) (l : List Int) (c d : Nat) (hcd : ofM l = (c, d)) (w : World) (hs : Sl w 1 l.length v (elI l)) :
    Calls Try.prog 20 #[v] w (Ret fun v w' => v = .agg #[.int .u64 (c : Int), .int .u64 (d : Int)] ∧ Below w.heap.size w w') := by
  obtain ⟨a0, c0, rfl, hm, hE⟩ := hs
  have HE := Lib.hid hE
  clear hE
  unfold maxLen at hm
  have H := St.init w
  have HCD := Lib.hid hcd
  clear hcd
  go_enter Try.func20, Try.ntmps20
  go_wp2_with (first | (with_reducible refine wpl rfl (Stp.alloc 2 rfl rfl zero24 H ?_); clear H; intro g2 w1 H; simp only [Act.put, List.setIfInBounds_toArray, List.set_cons_zero, List.set_cons_succ]; simp only [cells_agg, cells_int, cells_bool, cells_string, cells_pointer, cells_slice, cells_map] at H) | (with_reducible refine wpl rfl (Stp.alloc 3 rfl rfl zero24 H ?_); clear H; intro g3 w1 H; simp only [Act.put, List.setIfInBounds_toArray, List.set_cons_zero, List.set_cons_succ]; simp only [cells_agg, cells_int, cells_bool, cells_string, cells_pointer, cells_slice, cells_map] at H) | (with_reducible refine wpl rfl (Stp.ldc rfl agg3 rfl H (by repeat (first | exact List.mem_cons_self | apply List.mem_cons_of_mem)) (by first | (repeat (first | exact lit0 _ _ | apply lits)) | rfl | assumption) ?_); simp only [Act.put, List.setIfInBounds_toArray, List.set_cons_zero, List.set_cons_succ]) | (with_reducible refine wpl rfl (Stp.ldo rfl agg3 rfl H (by assumption) (by assumption) ?_); simp only [Act.put, List.setIfInBounds_toArray, List.set_cons_zero, List.set_cons_succ]) | (with_reducible refine wpl rfl (Stp.ldr rfl agg24 size24 rfl H (by repeat (first | exact List.mem_cons_self | apply List.mem_cons_of_mem)) (by first | rfl | (simp; done) | assumption) ?_); simp only [Act.put, List.setIfInBounds_toArray, List.set_cons_zero, List.set_cons_succ]) | (with_reducible refine wpl rfl (Stp.ldor rfl agg24 size24 rfl H (by assumption) (by first | rfl | (simp; done) | assumption) (by assumption) ?_); simp only [Act.put, List.setIfInBounds_toArray, List.set_cons_zero, List.set_cons_succ]) | (with_reducible refine wpl rfl (Stp.str rfl size24 rfl rfl (by first | rfl | (simp [Value.oneCell']; done) | assumption) H (by repeat (first | exact Upd.head | apply Upd.tail)) (by first | rfl | (simp; done) | assumption) (by first | rfl | (simp; done) | assumption) ?_); clear H; intro w1 H; simp only [Act.put, List.setIfInBounds_toArray, List.set_cons_zero, List.set_cons_succ]))
  go_loopw [8] (fun i wr => ∃ k x y : Nat, k ≤ l.length ∧ i = .int .i64 k ∧ Hid (ofM (l.take k) = (x, y)) ∧ St w.heap.size w wr [row 24 g3 #[.int .u64 (x : Int), .int .u64 (y : Int)], row 24 g2 #[.int .u64 0, .int .u64 0]]) (fun i _ => l.length - (intOf i).toNat)
  case atStart => exact ⟨0, 0, 0, Nat.zero_le _, rfl, Lib.hid rfl, H⟩
  case round =>
    clear H
    obtain ⟨k, x, y, hk, rfl, HO, H⟩ := hrel
    by_cases hlt : k < l.length
    · obtain ⟨b, off, rfl, hb, hc⟩ := HE.out (by omega)
      clear HE
      have hc1 := hc k hlt 0 (by omega)
      rw [Nat.mul_one, Nat.add_zero] at hc1
      have hc2 : w.cell? ⟨b, off + k, none⟩ = some (.int .i64 (l.getD k 0)) := hc1
      have hnx := ofM_succ l k hlt
      have hlt64 := ofM_lt (l.take k)
      rw [HO.out] at hnx hlt64
      obtain ⟨r, hr⟩ : ∃ r, l.getD k 0 = r := ⟨_, rfl⟩
      rw [hr] at hc2 hnx
      obtain ⟨⟨x', y'⟩, hxy⟩ : ∃ p, setM (x, y) r = p := ⟨_, rfl⟩
      have HXY := Lib.hid hxy
      have HN := Lib.hid hnx
      have hx := hlt64.1
      have hy := hlt64.2
      clear hc hc1 hr hxy hnx hlt64
      go_wp2_with (first | (go_at_call 17; refine (with_ok x y r hx hy x' y' HXY.out _).mono ?_; rintro e w1 ⟨v, rfl, hr⟩; obtain ⟨rfl, hb1⟩ := hr; replace H := H.grow hb1; clear hb1) | (with_reducible refine wpl rfl (Stp.alloc 2 rfl rfl zero24 H ?_); clear H; intro g2 w1 H; simp only [Act.put, List.setIfInBounds_toArray, List.set_cons_zero, List.set_cons_succ]; simp only [cells_agg, cells_int, cells_bool, cells_string, cells_pointer, cells_slice, cells_map] at H) | (with_reducible refine wpl rfl (Stp.alloc 3 rfl rfl zero24 H ?_); clear H; intro g3 w1 H; simp only [Act.put, List.setIfInBounds_toArray, List.set_cons_zero, List.set_cons_succ]; simp only [cells_agg, cells_int, cells_bool, cells_string, cells_pointer, cells_slice, cells_map] at H) | (with_reducible refine wpl rfl (Stp.ldc rfl agg3 rfl H (by repeat (first | exact List.mem_cons_self | apply List.mem_cons_of_mem)) (by first | (repeat (first | exact lit0 _ _ | apply lits)) | rfl | assumption) ?_); simp only [Act.put, List.setIfInBounds_toArray, List.set_cons_zero, List.set_cons_succ]) | (with_reducible refine wpl rfl (Stp.ldo rfl agg3 rfl H (by assumption) (by assumption) ?_); simp only [Act.put, List.setIfInBounds_toArray, List.set_cons_zero, List.set_cons_succ]) | (with_reducible refine wpl rfl (Stp.ldr rfl agg24 size24 rfl H (by repeat (first | exact List.mem_cons_self | apply List.mem_cons_of_mem)) (by first | rfl | (simp; done) | assumption) ?_); simp only [Act.put, List.setIfInBounds_toArray, List.set_cons_zero, List.set_cons_succ]) | (with_reducible refine wpl rfl (Stp.ldor rfl agg24 size24 rfl H (by assumption) (by first | rfl | (simp; done) | assumption) (by assumption) ?_); simp only [Act.put, List.setIfInBounds_toArray, List.set_cons_zero, List.set_cons_succ]) | (with_reducible refine wpl rfl (Stp.str rfl size24 rfl rfl (by first | rfl | (simp [Value.oneCell']; done) | assumption) H (by repeat (first | exact Upd.head | apply Upd.tail)) (by first | rfl | (simp; done) | assumption) (by first | rfl | (simp; done) | assumption) ?_); clear H; intro w1 H; simp only [Act.put, List.setIfInBounds_toArray, List.set_cons_zero, List.set_cons_succ]))
      go_roundw
      case rel => exact ⟨k + 1, x', y', by omega, by go_num, Lib.hid (by rw [HN.out, HXY.out]), H⟩
      case measure => simp [intOf]; omega
    · obtain rfl : k = l.length := by omega
      have hfin := HO.out
      rw [List.take_length, HCD.out] at hfin
      cases hfin
      go_wp2_with (first | (with_reducible refine wpl rfl (Stp.alloc 2 rfl rfl zero24 H ?_); clear H; intro g2 w1 H; simp only [Act.put, List.setIfInBounds_toArray, List.set_cons_zero, List.set_cons_succ]; simp only [cells_agg, cells_int, cells_bool, cells_string, cells_pointer, cells_slice, cells_map] at H) | (with_reducible refine wpl rfl (Stp.alloc 3 rfl rfl zero24 H ?_); clear H; intro g3 w1 H; simp only [Act.put, List.setIfInBounds_toArray, List.set_cons_zero, List.set_cons_succ]; simp only [cells_agg, cells_int, cells_bool, cells_string, cells_pointer, cells_slice, cells_map] at H) | (with_reducible refine wpl rfl (Stp.ldc rfl agg3 rfl H (by repeat (first | exact List.mem_cons_self | apply List.mem_cons_of_mem)) (by first | (repeat (first | exact lit0 _ _ | apply lits)) | rfl | assumption) ?_); simp only [Act.put, List.setIfInBounds_toArray, List.set_cons_zero, List.set_cons_succ]) | (with_reducible refine wpl rfl (Stp.ldo rfl agg3 rfl H (by assumption) (by assumption) ?_); simp only [Act.put, List.setIfInBounds_toArray, List.set_cons_zero, List.set_cons_succ]) | (with_reducible refine wpl rfl (Stp.ldr rfl agg24 size24 rfl H (by repeat (first | exact List.mem_cons_self | apply List.mem_cons_of_mem)) (by first | rfl | (simp; done) | assumption) ?_); simp only [Act.put, List.setIfInBounds_toArray, List.set_cons_zero, List.set_cons_succ]) | (with_reducible refine wpl rfl (Stp.ldor rfl agg24 size24 rfl H (by assumption) (by first | rfl | (simp; done) | assumption) (by assumption) ?_); simp only [Act.put, List.setIfInBounds_toArray, List.set_cons_zero, List.set_cons_succ]) | (with_reducible refine wpl rfl (Stp.str rfl size24 rfl rfl (by first | rfl | (simp [Value.oneCell']; done) | assumption) H (by repeat (first | exact Upd.head | apply Upd.tail)) (by first | rfl | (simp; done) | assumption) (by first | rfl | (simp; done) | assumption) ?_); clear H; intro w1 H; simp only [Act.put, List.setIfInBounds_toArray, List.set_cons_zero, List.set_cons_succ]))
      refine post_row rfl agg24 size24 rfl H (by repeat (first | exact List.mem_cons_self | apply List.mem_cons_of_mem)) rfl rfl ⟨_, rfl, rfl, H.below⟩
/-- Are more than half of the first n in it? -/
def majM (a b : Nat) (n : Int) : Bool := decide (n / 2 < ((pop 64 (a &&& low n) + pop 64 (b &&& low (n - 64)) : Nat) : Int))
theorem and_lt {a b : Nat} (h : a < 18446744073709551616) : a &&& b < 18446744073709551616 := Nat.lt_of_le_of_lt Nat.and_le_left h
set_option maxRecDepth 100000 in
theorem majority_ok (a b : Nat) (n : Int) (ha : a < 18446744073709551616) (hb : b < 18446744073709551616) (hn : 0 < n) (hn2 : n < 1000) (x : Bool) (hx : majM a b n = x) (w : World) :
    Calls Try.prog 8 #[.agg #[.int .u64 (a : Int), .int .u64 (b : Int)], .int .i64 n] w (Ret fun v w' => v = .bool x ∧ Below w.heap.size w w') := by
  have H := St.init w
  subst hx
  obtain ⟨p, hp⟩ : ∃ p, pop 64 (a &&& low n) + pop 64 (b &&& low (n - 64)) = p := ⟨_, rfl⟩
  have hlp : p ≤ 128 := by
    have h1 := pop_le 64 (a &&& low n)
    have h2 := pop_le 64 (b &&& low (n - 64))
    omega
  unfold majM
  rw [hp]
  have HA := Lib.hid ha
  have HB := Lib.hid hb
  have HP := Lib.hid hp
  have h1 : ¬ n < 1 := by omega
  clear ha hb hp
  go_enter Try.func8, Try.ntmps8
  go_wp2_with (first | (with_reducible refine wpl rfl (Stp.box 2 rfl rfl rfl H ?_); clear H; intro g2 w1 H; simp only [Act.put, List.setIfInBounds_toArray, List.set_cons_zero, List.set_cons_succ]; simp only [eval_tmp, eval_const, getD_lit0, getD_lits, cells_agg, cells_int, cells_bool, cells_string, cells_pointer, cells_slice, cells_map, List.setIfInBounds_toArray, List.set_cons_zero, List.set_cons_succ] at H))
  refine rg_begin 9 rfl (S := fun W => St _ _ W _) (by kernel_rfl) H.drew ?_
  replace H := H.drew
  have HS := H
  first | (refine rg_take (i := 0) rfl (by kernel_rfl) (by kernel_rfl) (by kernel_rfl) (Yld.ldr rfl rfl agg24 size24 rfl (by repeat (first | exact List.mem_cons_self | apply List.mem_cons_of_mem)) (by first | rfl | (simp; done) | assumption)) HS ?_; simp only [Act.put, List.setIfInBounds_toArray, List.set_cons_zero, List.set_cons_succ]) | (refine rg_take (i := 0) rfl (by kernel_rfl) (by kernel_rfl) (by kernel_rfl) (Yld.ldor rfl rfl agg24 size24 rfl (by assumption) (by first | rfl | (simp; done) | assumption) (by assumption)) HS ?_; simp only [Act.put, List.setIfInBounds_toArray, List.set_cons_zero, List.set_cons_succ])
  refine rg_take (i := 1) rfl (by kernel_rfl) (by kernel_rfl) (by kernel_rfl) (Yld.move rfl rfl) HS ?_; simp only [Act.put, eval_tmp, eval_const, getD_lit0, getD_lits, if_true, if_false, List.setIfInBounds_toArray, List.set_cons_zero, List.set_cons_succ]
  refine rg_take (i := 5) rfl (by kernel_rfl) (by kernel_rfl) (by kernel_rfl) (Yld.move rfl rfl) HS ?_; simp only [Act.put, eval_tmp, eval_const, getD_lit0, getD_lits, if_true, if_false, List.setIfInBounds_toArray, List.set_cons_zero, List.set_cons_succ]
  refine rg_take (i := 6) rfl (by kernel_rfl) (by kernel_rfl) (by kernel_rfl) (Yld.of rfl (fun W _ => by go_simp; first | done | with_reducible rfl)) HS ?_; simp only [Act.put, List.setIfInBounds_toArray, List.set_cons_zero, List.set_cons_succ]
  refine rg_one (i := 2) (by kernel_rfl) rfl rfl (fun K hK => ?_)
  refine wp_callf rfl ent12 (first_ok n (by omega) _) rfl (fun v w1 hr => ?_)
  obtain ⟨rfl, hb1⟩ := hr
  replace H := H.grow hb1
  clear hb1
  clear HS
  have HS := H
  refine hK.out _ _ HS ?_
  clear hK K
  simp only [Act.put, List.setIfInBounds_toArray, List.set_cons_zero, List.set_cons_succ]
  refine rg_one (i := 3) (by kernel_rfl) rfl rfl (fun K hK => ?_)
  refine wp_callf rfl ent11 (and_ok a b (low n) (low (n - 64)) HA.out HB.out (low_lt _) (low_lt _) _) rfl (fun v w1 hr => ?_)
  obtain ⟨rfl, hb1⟩ := hr
  replace H := H.grow hb1
  clear hb1
  clear HS
  have HS := H
  refine hK.out _ _ HS ?_
  clear hK K
  simp only [Act.put, List.setIfInBounds_toArray, List.set_cons_zero, List.set_cons_succ]
  refine rg_one (i := 4) (by kernel_rfl) rfl rfl (fun K hK => ?_)
  refine wp_callf rfl ent10 (count_ok (a &&& low n) (b &&& low (n - 64)) p (and_lt HA.out) (and_lt HB.out) HP.out _) rfl (fun v w1 hr => ?_)
  obtain ⟨rfl, hb1⟩ := hr
  replace H := H.grow hb1
  clear hb1
  clear HS
  have HS := H
  refine hK.out _ _ HS ?_
  clear hK K
  simp only [Act.put, List.setIfInBounds_toArray, List.set_cons_zero, List.set_cons_succ]
  refine rg_take (i := 7) rfl (by kernel_rfl) (by kernel_rfl) (by kernel_rfl) (Yld.of rfl (fun W _ => by go_simp; first | done | with_reducible rfl)) HS ?_; simp only [Act.put, List.setIfInBounds_toArray, List.set_cons_zero, List.set_cons_succ]
  refine rg_take (i := 8) rfl (by kernel_rfl) (by kernel_rfl) (by kernel_rfl) (Yld.assign rfl rfl) HS ?_; simp only [Act.put, eval_tmp, eval_const, getD_lit0, getD_lits, if_true, if_false, List.setIfInBounds_toArray, List.set_cons_zero, List.set_cons_succ]
  refine rg_done (by kernel_rfl) ?_
  go_wp2
  go_ret
  have hq : IntKind.i64.wrap (n.tdiv 2) = n / 2 := by
    rw [Int.tdiv_eq_ediv_of_nonneg (by omega)]
    simp [IntKind.wrap, IntKind.bits, IntKind.signed]
    omega
  exact ⟨_, rfl, congrArg (fun z : Int => Value.bool (decide (z < (p : Int)))) hq, H.below⟩
theorem majority_no (a b : Nat) (n : Int) (hn : n < 1) (w : World) :
    Calls Try.prog 8 #[.agg #[.int .u64 (a : Int), .int .u64 (b : Int)], .int .i64 n] w (Ret fun v w' => v = .bool false ∧ Below w.heap.size w w') := by
  have H := St.init w
  go_enter Try.func8, Try.ntmps8
  go_wp2_with (first | (with_reducible refine wpl rfl (Stp.box 2 rfl rfl rfl H ?_); clear H; intro g2 w1 H; simp only [Act.put, List.setIfInBounds_toArray, List.set_cons_zero, List.set_cons_succ]; simp only [eval_tmp, eval_const, getD_lit0, getD_lits, cells_agg, cells_int, cells_bool, cells_string, cells_pointer, cells_slice, cells_map, List.setIfInBounds_toArray, List.set_cons_zero, List.set_cons_succ] at H))
  go_ret
  exact ⟨_, rfl, rfl, H.below⟩
set_option maxRecDepth 100000 in
theorem awake_ok (w : World) : Calls Try.prog 9 #[] w (Ret fun v w' => v = .bool true ∧ Below w.heap.size w w') := by
  have H := St.init w
  have m1 := Lib.hid (show ofM [0, 64] = (1, 1) by decide +kernel)
  have m2 := Lib.hid (show ofM [0, 1] = (3, 0) by decide +kernel)
  have k3 := Lib.hid (show majM 3 0 3 = true by decide +kernel)
  have k4 := Lib.hid (show majM 3 0 4 = false by decide +kernel)
  have h3 : ∀ w, Calls Try.prog 8 #[.agg #[.int .u64 3, .int .u64 0], .int .i64 3] w (Ret fun v w' => v = .bool true ∧ Below w.heap.size w w') := fun w => majority_ok 3 0 3 (by omega) (by omega) (by omega) (by omega) true k3.out w
  have h4 : ∀ w, Calls Try.prog 8 #[.agg #[.int .u64 3, .int .u64 0], .int .i64 4] w (Ret fun v w' => v = .bool false ∧ Below w.heap.size w w') := fun w => majority_ok 3 0 4 (by omega) (by omega) (by omega) (by omega) false k4.out w
  have maj3 := Lib.hid h3
  have maj4 := Lib.hid h4
  clear h3 h4
  have two : ∀ (x y : Int) (W : World) (g : Nat), rowAt W g = some #[.int .i64 x, .int .i64 y] → Sl W 1 [x, y].length (.slice (some ⟨g, 0, none⟩) 2 2) (elI [x, y]) := fun x y W g h =>
    Sl.of_row h (by simp [maxLen]) (fun i hi j hj => by
      obtain rfl : j = 0 := by omega
      have hi' : i = 0 ∨ i = 1 := by simp at hi; omega
      rcases hi' with rfl | rfl <;> simp [elI])
  have TWO := Lib.hid two
  clear two
  go_enter Try.func9, Try.ntmps9
  go_wp2_with (first | (with_reducible refine wpl rfl (Stp.bsl (e := 3) (cs := #[.int .i64 0, .int .i64 64]) 1 rfl rfl (fun W => by kernel_rfl) H ?_); clear H; intro g1 w1 H; simp only [Act.put, List.setIfInBounds_toArray, List.set_cons_zero, List.set_cons_succ]) | (with_reducible refine wpl rfl (Stp.bsl (e := 3) (cs := #[.int .i64 0, .int .i64 1]) 6 rfl rfl (fun W => by kernel_rfl) H ?_); clear H; intro g6 w1 H; simp only [Act.put, List.setIfInBounds_toArray, List.set_cons_zero, List.set_cons_succ]) | (with_reducible refine wpl rfl (Stp.bsl (e := 3) (cs := #[.int .i64 0, .int .i64 1]) 11 rfl rfl (fun W => by kernel_rfl) H ?_); clear H; intro g11 w1 H; simp only [Act.put, List.setIfInBounds_toArray, List.set_cons_zero, List.set_cons_succ]) | (go_at_call 20; (first | with_reducible refine (of_ok (.slice (some ⟨g1, 0, none⟩) 2 2) [0, 64] 1 1 m1.out _ (TWO.out _ _ _ _ (H.getRow (t := 3) List.mem_cons_self))).mono ?_ | with_reducible refine (of_ok (.slice (some ⟨g6, 0, none⟩) 2 2) [0, 1] 3 0 m2.out _ (TWO.out _ _ _ _ (H.getRow (t := 3) List.mem_cons_self))).mono ?_ | with_reducible refine (of_ok (.slice (some ⟨g11, 0, none⟩) 2 2) [0, 1] 3 0 m2.out _ (TWO.out _ _ _ _ (H.getRow (t := 3) List.mem_cons_self))).mono ?_); rintro e w1 ⟨v, rfl, hr⟩; obtain ⟨rfl, hb1⟩ := hr; replace H := H.grow hb1; clear hb1) | (go_at_call 8; (first | with_reducible refine (maj3.out _).mono ?_ | with_reducible refine (maj4.out _).mono ?_); rintro e w1 ⟨v, rfl, hr⟩; obtain ⟨rfl, hb1⟩ := hr; replace H := H.grow hb1; clear hb1))
  go_ret
  exact ⟨_, rfl, rfl, H.below⟩
end Go.Proofs.Ytcgogcolfbpcfaa
