/- Contracts of layer 5's reference: Bit, Set, Flags, Of; no condition. -/
import Derived.Test.YtcgogcolfbpcfaaMask5
namespace Go.Proofs.Ytcgogcolfbpcfaa
open Go.ChangeShapes Go.WideShapes Go.ChangeAt Go.RowKit
set_option linter.unusedVariables false
set_option linter.unusedSimpArgs false
attribute [local irreducible] pop low mn
/-! ### 128 flags -/
def BA (f : Nat → Bool) : Array Value := ((List.range 128).map fun i => Value.bool (f i)).toArray
theorem BA_size (f : Nat → Bool) : (BA f).size = 128 := by simp [BA]
theorem BA_get (f : Nat → Bool) (i : Nat) (h : i < 128) : (BA f)[i]? = some (.bool (f i)) := by simp [BA, h]
theorem BA_ext {x : Array Value} {f : Nat → Bool} (hs : x.size = 128) (h : ∀ i, i < 128 → x[i]? = some (.bool (f i))) : x = BA f := by
  apply Array.ext_getElem?
  intro j
  by_cases hj : j < 128
  · rw [h j hj, BA_get f j hj]
  · rw [Array.getElem?_eq_none (by omega), Array.getElem?_eq_none (by rw [BA_size]; omega)]
theorem BA_congr {f g : Nat → Bool} (h : ∀ i, i < 128 → f i = g i) : BA f = BA g := BA_ext (BA_size f) fun i hi => by rw [BA_get f i hi, h i hi]
def updB (f : Nat → Bool) (k : Nat) (v : Bool) : Nat → Bool := fun j => if j = k then v else f j
theorem BA_set (f : Nat → Bool) (k : Nat) (v : Bool) : (BA f).setIfInBounds k (.bool v) = BA (updB f k v) := by
  refine BA_ext (by rw [Array.size_setIfInBounds, BA_size]) fun i hi => ?_
  rw [Array.getElem?_setIfInBounds, BA_size, BA_get f i hi]
  unfold updB
  by_cases h : k = i
  · subst h; simp [hi]
  · rw [if_neg h, if_neg (fun e => h e.symm)]
theorem BA_one (f : Nat → Bool) : (BA f).all (·.oneCell') = true := by
  rw [Array.all_eq_true]; intro i hi
  have h := BA_get f i (by rw [BA_size] at hi; exact hi)
  rw [Array.getElem?_eq_getElem hi] at h
  rw [Option.some.inj h]; rfl
theorem zeroBA : ∀ W : World, (zeroValue 32).run Try.prog W = .ok (.agg (BA fun _ => false)) W := fun _ => by kernel_rfl
attribute [local irreducible] BA
theorem bit_ok (n at' : Nat) (hn : n < 18446744073709551616) (ha : at' ≤ 64) (x : Bool) (h : (((n / 2 ^ at' % 2 : Nat) : Int) == 1) = x) (w : World) :
    Calls Try.prog 29 #[.int .u64 (n : Int), .int .i64 (at' : Int)] w (Ret fun v w' => v = .bool x ∧ Below w.heap.size w w') := by
  have H := St.init w
  have HX := Lib.hid h
  clear h
  go_enter Try.func29, Try.ntmps29
  go_wp2_with fail
  go_loopw [0, 5] (fun x i wr => ∃ k m : Nat, k ≤ at' ∧ m < 18446744073709551616 ∧ Hid (n / 2 ^ k = m) ∧ x = .int .u64 (m : Int) ∧ i = .int .i64 k ∧ St w.heap.size w wr []) (fun _ i _ => at' - (intOf i).toNat)
  case atStart => exact ⟨0, n, Nat.zero_le _, hn, Lib.hid (by simp), rfl, rfl, H⟩
  case round =>
    clear H
    obtain ⟨k, m, hk, hm, HM, rfl, rfl, H⟩ := hrel
    by_cases hlt : k < at'
    · go_wp2_with fail
      go_roundw
      case rel =>
        refine ⟨k + 1, m / 2, by omega, by omega, Lib.hid ?_, ?_, by go_num, H⟩
        · rw [Nat.pow_succ, ← Nat.div_div_eq_div_mul, HM.out]
        · refine congrArg (Value.int IntKind.u64) ?_
          first | omega | (rw [wrap_u64_in _ (by omega) (by omega)]; omega)
      case measure => simp [intOf]; omega
    · obtain rfl : k = at' := by omega
      have e : ((m : Int) % 2 == 1) = x := by
        have := HX.out
        rw [HM.out] at this
        rw [← this, Int.natCast_emod]; rfl
      go_wp2
      go_ret
      exact ⟨_, rfl, rfl, H.below⟩
theorem bitI (n i : Nat) : (((n / 2 ^ i % 2 : Nat) : Int) == 1) = n.testBit i := by
  rw [Nat.testBit_eq_decide_div_mod_eq]
  generalize n / 2 ^ i % 2 = m
  by_cases h : m = 1
  · subst h; rfl
  · have h2 : ¬ (m : Int) = 1 := by omega
    simp [h, h2]
theorem bit_at (n i : Nat) (z : Int) (hz : z = i) (hn : n < 18446744073709551616) (hi : i ≤ 64) (x : Bool) (hx : n.testBit i = x) (w : World) :
    Calls Try.prog 29 #[.int .u64 (n : Int), .int .i64 z] w (Ret fun v w' => v = .bool x ∧ Below w.heap.size w w') := by
  subst hz; exact bit_ok n i hn hi x ((bitI n i).trans hx) w
set_option maxRecDepth 100000 in
theorem set_ok (a b : Nat) (r : Int) (ha : a < 18446744073709551616) (hb : b < 18446744073709551616) (x : Bool) (hx : hasM (a, b) r = x) (w : World) :
    Calls Try.prog 16 #[.agg #[.int .u64 (a : Int), .int .u64 (b : Int)], .int .i64 r] w (Ret fun v w' => v = .bool x ∧ Below w.heap.size w w') := by
  have H := St.init w
  by_cases hr : r < 0 ∨ 128 ≤ r
  · have hf : x = false := by rw [← hx]; simp [hasM, hr]
    subst hf
    clear hx
    rcases Int.lt_or_le r 0 with h0 | h0
    · go_enter Try.func16, Try.ntmps16
      go_wp2_with (first | (with_reducible refine wpl rfl (Stp.box 2 rfl rfl rfl H ?_); clear H; intro g2 w1 H; simp only [Act.put, List.setIfInBounds_toArray, List.set_cons_zero, List.set_cons_succ]; simp only [eval_tmp, eval_const, getD_lit0, getD_lits, cells_agg, cells_int, cells_bool, cells_string, cells_pointer, cells_slice, cells_map, List.setIfInBounds_toArray, List.set_cons_zero, List.set_cons_succ] at H) | (with_reducible refine wpl rfl (Stp.ldc rfl agg22 rfl H (by repeat (first | exact List.mem_cons_self | apply List.mem_cons_of_mem)) (by first | exact BA_get _ _ (by omega) | (repeat (first | exact lit0 _ _ | apply lits)) | rfl | assumption) ?_); simp only [Act.put, List.setIfInBounds_toArray, List.set_cons_zero, List.set_cons_succ]) | (with_reducible refine wpl rfl (Stp.ldo rfl agg22 rfl H (by assumption) (by assumption) ?_); simp only [Act.put, List.setIfInBounds_toArray, List.set_cons_zero, List.set_cons_succ]))
      go_ret
      exact ⟨_, rfl, rfl, H.below⟩
    · have h1 : 127 < r := by omega
      have hn : ¬ r < 0 := by omega
      go_enter Try.func16, Try.ntmps16
      go_wp2_with (first | (with_reducible refine wpl rfl (Stp.box 2 rfl rfl rfl H ?_); clear H; intro g2 w1 H; simp only [Act.put, List.setIfInBounds_toArray, List.set_cons_zero, List.set_cons_succ]; simp only [eval_tmp, eval_const, getD_lit0, getD_lits, cells_agg, cells_int, cells_bool, cells_string, cells_pointer, cells_slice, cells_map, List.setIfInBounds_toArray, List.set_cons_zero, List.set_cons_succ] at H) | (with_reducible refine wpl rfl (Stp.ldc rfl agg22 rfl H (by repeat (first | exact List.mem_cons_self | apply List.mem_cons_of_mem)) (by first | exact BA_get _ _ (by omega) | (repeat (first | exact lit0 _ _ | apply lits)) | rfl | assumption) ?_); simp only [Act.put, List.setIfInBounds_toArray, List.set_cons_zero, List.set_cons_succ]) | (with_reducible refine wpl rfl (Stp.ldo rfl agg22 rfl H (by assumption) (by assumption) ?_); simp only [Act.put, List.setIfInBounds_toArray, List.set_cons_zero, List.set_cons_succ]))
      go_ret
      exact ⟨_, rfl, rfl, H.below⟩
  · obtain ⟨k, rfl⟩ : ∃ k : Nat, r = k := ⟨r.toNat, by omega⟩
    have hk : k < 128 := by omega
    have hn : ¬ (k : Int) < 0 := by omega
    have hn2 : ¬ (127 : Int) < (k : Int) := by omega
    by_cases h64 : (k : Int) < 64
    · have hv : a.testBit k = x := by rw [← hx]; simp [hasM, hr, h64]
      have hq : (k : Int) / 64 = 0 := by omega
      have hm : (k : Int) % 64 = (k : Int) := by omega
      have HV := Lib.hid hv
      clear hv hx
      go_enter Try.func16, Try.ntmps16
      go_wp2_with (first | (go_at_call 29; refine (bit_at a k _ (by omega) ha (by omega) x HV.out _).mono ?_; rintro e w1 ⟨v, rfl, hr⟩; obtain ⟨rfl, hb1⟩ := hr; replace H := H.grow hb1; clear hb1) | (with_reducible refine wpl rfl (Stp.box 2 rfl rfl rfl H ?_); clear H; intro g2 w1 H; simp only [Act.put, List.setIfInBounds_toArray, List.set_cons_zero, List.set_cons_succ]; simp only [eval_tmp, eval_const, getD_lit0, getD_lits, cells_agg, cells_int, cells_bool, cells_string, cells_pointer, cells_slice, cells_map, List.setIfInBounds_toArray, List.set_cons_zero, List.set_cons_succ] at H) | (with_reducible refine wpl rfl (Stp.ldc rfl agg22 rfl H (by repeat (first | exact List.mem_cons_self | apply List.mem_cons_of_mem)) (by first | exact BA_get _ _ (by omega) | (repeat (first | exact lit0 _ _ | apply lits)) | rfl | assumption) ?_); simp only [Act.put, List.setIfInBounds_toArray, List.set_cons_zero, List.set_cons_succ]) | (with_reducible refine wpl rfl (Stp.ldo rfl agg22 rfl H (by assumption) (by assumption) ?_); simp only [Act.put, List.setIfInBounds_toArray, List.set_cons_zero, List.set_cons_succ]))
      go_ret
      exact ⟨_, rfl, rfl, H.below⟩
    · have hv : b.testBit (k - 64) = x := by rw [← hx]; simp [hasM, hr, h64]
      have hq : (k : Int) / 64 = 1 := by omega
      have hm : (k : Int) % 64 = (k : Int) - 64 := by omega
      have HV := Lib.hid hv
      clear hv hx
      go_enter Try.func16, Try.ntmps16
      go_wp2_with (first | (go_at_call 29; refine (bit_at b (k - 64) _ (by omega) hb (by omega) x HV.out _).mono ?_; rintro e w1 ⟨v, rfl, hr⟩; obtain ⟨rfl, hb1⟩ := hr; replace H := H.grow hb1; clear hb1) | (with_reducible refine wpl rfl (Stp.box 2 rfl rfl rfl H ?_); clear H; intro g2 w1 H; simp only [Act.put, List.setIfInBounds_toArray, List.set_cons_zero, List.set_cons_succ]; simp only [eval_tmp, eval_const, getD_lit0, getD_lits, cells_agg, cells_int, cells_bool, cells_string, cells_pointer, cells_slice, cells_map, List.setIfInBounds_toArray, List.set_cons_zero, List.set_cons_succ] at H) | (with_reducible refine wpl rfl (Stp.ldc rfl agg22 rfl H (by repeat (first | exact List.mem_cons_self | apply List.mem_cons_of_mem)) (by first | exact BA_get _ _ (by omega) | (repeat (first | exact lit0 _ _ | apply lits)) | rfl | assumption) ?_); simp only [Act.put, List.setIfInBounds_toArray, List.set_cons_zero, List.set_cons_succ]) | (with_reducible refine wpl rfl (Stp.ldo rfl agg22 rfl H (by assumption) (by assumption) ?_); simp only [Act.put, List.setIfInBounds_toArray, List.set_cons_zero, List.set_cons_succ]))
      go_ret
      exact ⟨_, rfl, rfl, H.below⟩
/-- The flags of the first k ranks. -/
def flagsTo (m : Nat × Nat) (k : Nat) : Nat → Bool := fun i => decide (i < k) && hasM m (i : Int)
set_option maxRecDepth 100000 in
theorem flags_ok (a b : Nat) (ha : a < 18446744073709551616) (hb : b < 18446744073709551616) (w : World) :
    Calls Try.prog 14 #[.agg #[.int .u64 (a : Int), .int .u64 (b : Int)]] w (Ret fun v w' => v = .agg (BA fun i => hasM (a, b) (i : Int)) ∧ Below w.heap.size w w') := by
  have H := St.init w
  go_enter Try.func14, Try.ntmps14
  go_wp2_with (first | (with_reducible refine wpl rfl (Stp.alloc 2 rfl rfl zeroBA H ?_); clear H; intro g2 w1 H; simp only [Act.put, List.setIfInBounds_toArray, List.set_cons_zero, List.set_cons_succ]; (try simp only [cells_agg] at H)) | (with_reducible refine wpl rfl (Stp.alloc 3 rfl rfl zeroBA H ?_); clear H; intro g3 w1 H; simp only [Act.put, List.setIfInBounds_toArray, List.set_cons_zero, List.set_cons_succ]; (try simp only [cells_agg] at H)) | (with_reducible refine wpl rfl (Stp.box 1 rfl rfl rfl H ?_); clear H; intro g1 w1 H; simp only [Act.put, List.setIfInBounds_toArray, List.set_cons_zero, List.set_cons_succ]; simp only [eval_tmp, eval_const, getD_lit0, getD_lits, cells_agg, cells_int, cells_bool, cells_string, cells_pointer, cells_slice, cells_map, List.setIfInBounds_toArray, List.set_cons_zero, List.set_cons_succ] at H) | (with_reducible refine wpl rfl (Stp.alloc 2 rfl rfl zero32 H ?_); clear H; intro g2 w1 H; simp only [Act.put, List.setIfInBounds_toArray, List.set_cons_zero, List.set_cons_succ]; simp only [cells_agg, cells_int, cells_bool, cells_string, cells_pointer, cells_slice, cells_map] at H) | (with_reducible refine wpl rfl (Stp.alloc 3 rfl rfl zero32 H ?_); clear H; intro g3 w1 H; simp only [Act.put, List.setIfInBounds_toArray, List.set_cons_zero, List.set_cons_succ]; simp only [cells_agg, cells_int, cells_bool, cells_string, cells_pointer, cells_slice, cells_map] at H) | (with_reducible refine wpl rfl (Stp.ldr rfl agg24 size24 rfl H (by repeat (first | exact List.mem_cons_self | apply List.mem_cons_of_mem)) (by first | exact BA_size _ | rfl | (simp; done) | assumption) ?_); simp only [Act.put, List.setIfInBounds_toArray, List.set_cons_zero, List.set_cons_succ]) | (with_reducible refine wpl rfl (Stp.ldor rfl agg24 size24 rfl H (by assumption) (by first | exact BA_size _ | rfl | (simp; done) | assumption) (by assumption) ?_); simp only [Act.put, List.setIfInBounds_toArray, List.set_cons_zero, List.set_cons_succ]) | (with_reducible refine wpl rfl (Stp.stc rfl size4 rfl rfl rfl rfl H (by repeat (first | exact Upd.head | apply Upd.tail)) (by first | (rw [BA_size]; omega) | omega | (simp; done) | (simp; omega)) ?_); clear H; intro w1 H; simp only [Act.put, List.setIfInBounds_toArray, List.set_cons_zero, List.set_cons_succ]; simp only [eval_tmp, eval_const, getD_lit0, getD_lits, cells_agg, cells_int, cells_bool, cells_string, cells_pointer, cells_slice, cells_map, List.setIfInBounds_toArray, List.set_cons_zero, List.set_cons_succ] at H) | (with_reducible refine wpl rfl (Stp.ldr rfl agg32 size32 rfl H (by repeat (first | exact List.mem_cons_self | apply List.mem_cons_of_mem)) (by first | exact BA_size _ | rfl | (simp; done) | assumption) ?_); simp only [Act.put, List.setIfInBounds_toArray, List.set_cons_zero, List.set_cons_succ]) | (with_reducible refine wpl rfl (Stp.ldor rfl agg32 size32 rfl H (by assumption) (by first | exact BA_size _ | rfl | (simp; done) | assumption) (by assumption) ?_); simp only [Act.put, List.setIfInBounds_toArray, List.set_cons_zero, List.set_cons_succ]) | (with_reducible refine wpl rfl (Stp.str rfl size32 rfl rfl (by first | exact BA_one _ | rfl | (simp [Value.oneCell']; done) | assumption) H (by repeat (first | exact Upd.head | apply Upd.tail)) (by first | exact BA_size _ | rfl | (simp; done) | assumption) (by first | exact BA_size _ | rfl | (simp; done) | assumption) ?_); clear H; intro w1 H; simp only [Act.put, List.setIfInBounds_toArray, List.set_cons_zero, List.set_cons_succ]))
  go_loopw [4] (fun i wr => ∃ k : Nat, k ≤ 128 ∧ i = .int .i64 k ∧ St w.heap.size w wr [row 32 g3 (BA (flagsTo (a, b) k)), row 32 g2 (BA fun _ => false), row 24 g1 #[.int .u64 (a : Int), .int .u64 (b : Int)]]) (fun i _ => 128 - (intOf i).toNat)
  case atStart =>
    refine ⟨0, Nat.zero_le _, rfl, ?_⟩
    rw [show BA (flagsTo (a, b) 0) = BA fun _ => false from BA_congr fun i _ => by simp [flagsTo]]
    exact H
  case round =>
    clear H
    obtain ⟨k, hk, rfl, H⟩ := hrel
    by_cases hlt : k < 128
    · obtain ⟨x, hx⟩ : ∃ x, hasM (a, b) (k : Int) = x := ⟨_, rfl⟩
      have HX := Lib.hid hx
      clear hx
      go_wp2_with (first | (go_at_call 16; refine (set_ok a b (k : Int) ha hb x HX.out _).mono ?_; rintro e w1 ⟨v, rfl, hr⟩; obtain ⟨rfl, hb1⟩ := hr; replace H := H.grow hb1; clear hb1) | (with_reducible refine wpl rfl (Stp.box 1 rfl rfl rfl H ?_); clear H; intro g1 w1 H; simp only [Act.put, List.setIfInBounds_toArray, List.set_cons_zero, List.set_cons_succ]; simp only [eval_tmp, eval_const, getD_lit0, getD_lits, cells_agg, cells_int, cells_bool, cells_string, cells_pointer, cells_slice, cells_map, List.setIfInBounds_toArray, List.set_cons_zero, List.set_cons_succ] at H) | (with_reducible refine wpl rfl (Stp.alloc 2 rfl rfl zero32 H ?_); clear H; intro g2 w1 H; simp only [Act.put, List.setIfInBounds_toArray, List.set_cons_zero, List.set_cons_succ]; simp only [cells_agg, cells_int, cells_bool, cells_string, cells_pointer, cells_slice, cells_map] at H) | (with_reducible refine wpl rfl (Stp.alloc 3 rfl rfl zero32 H ?_); clear H; intro g3 w1 H; simp only [Act.put, List.setIfInBounds_toArray, List.set_cons_zero, List.set_cons_succ]; simp only [cells_agg, cells_int, cells_bool, cells_string, cells_pointer, cells_slice, cells_map] at H) | (with_reducible refine wpl rfl (Stp.ldr rfl agg24 size24 rfl H (by repeat (first | exact List.mem_cons_self | apply List.mem_cons_of_mem)) (by first | exact BA_size _ | rfl | (simp; done) | assumption) ?_); simp only [Act.put, List.setIfInBounds_toArray, List.set_cons_zero, List.set_cons_succ]) | (with_reducible refine wpl rfl (Stp.ldor rfl agg24 size24 rfl H (by assumption) (by first | exact BA_size _ | rfl | (simp; done) | assumption) (by assumption) ?_); simp only [Act.put, List.setIfInBounds_toArray, List.set_cons_zero, List.set_cons_succ]) | (with_reducible refine wpl rfl (Stp.stc rfl size4 rfl rfl rfl rfl H (by repeat (first | exact Upd.head | apply Upd.tail)) (by first | (rw [BA_size]; omega) | omega | (simp; done) | (simp; omega)) ?_); clear H; intro w1 H; simp only [Act.put, List.setIfInBounds_toArray, List.set_cons_zero, List.set_cons_succ]; simp only [eval_tmp, eval_const, getD_lit0, getD_lits, cells_agg, cells_int, cells_bool, cells_string, cells_pointer, cells_slice, cells_map, List.setIfInBounds_toArray, List.set_cons_zero, List.set_cons_succ] at H) | (with_reducible refine wpl rfl (Stp.ldr rfl agg32 size32 rfl H (by repeat (first | exact List.mem_cons_self | apply List.mem_cons_of_mem)) (by first | exact BA_size _ | rfl | (simp; done) | assumption) ?_); simp only [Act.put, List.setIfInBounds_toArray, List.set_cons_zero, List.set_cons_succ]) | (with_reducible refine wpl rfl (Stp.ldor rfl agg32 size32 rfl H (by assumption) (by first | exact BA_size _ | rfl | (simp; done) | assumption) (by assumption) ?_); simp only [Act.put, List.setIfInBounds_toArray, List.set_cons_zero, List.set_cons_succ]) | (with_reducible refine wpl rfl (Stp.str rfl size32 rfl rfl (by first | exact BA_one _ | rfl | (simp [Value.oneCell']; done) | assumption) H (by repeat (first | exact Upd.head | apply Upd.tail)) (by first | exact BA_size _ | rfl | (simp; done) | assumption) (by first | exact BA_size _ | rfl | (simp; done) | assumption) ?_); clear H; intro w1 H; simp only [Act.put, List.setIfInBounds_toArray, List.set_cons_zero, List.set_cons_succ]))
      go_roundw
      case rel =>
        refine ⟨k + 1, by omega, by go_num, ?_⟩
        rw [BA_set, show BA (updB (flagsTo (a, b) k) k x) = BA (flagsTo (a, b) (k + 1)) from BA_congr fun i _ => by
          unfold updB flagsTo
          by_cases h : i = k
          · subst h; simp [HX.out]
          · rw [if_neg h, show (decide (i < k + 1)) = decide (i < k) from by simp; omega]] at H
        exact H
      case measure => simp [intOf]; omega
    · obtain rfl : k = 128 := by omega
      go_wp2_with (first | (with_reducible refine wpl rfl (Stp.box 1 rfl rfl rfl H ?_); clear H; intro g1 w1 H; simp only [Act.put, List.setIfInBounds_toArray, List.set_cons_zero, List.set_cons_succ]; simp only [eval_tmp, eval_const, getD_lit0, getD_lits, cells_agg, cells_int, cells_bool, cells_string, cells_pointer, cells_slice, cells_map, List.setIfInBounds_toArray, List.set_cons_zero, List.set_cons_succ] at H) | (with_reducible refine wpl rfl (Stp.alloc 2 rfl rfl zero32 H ?_); clear H; intro g2 w1 H; simp only [Act.put, List.setIfInBounds_toArray, List.set_cons_zero, List.set_cons_succ]; simp only [cells_agg, cells_int, cells_bool, cells_string, cells_pointer, cells_slice, cells_map] at H) | (with_reducible refine wpl rfl (Stp.alloc 3 rfl rfl zero32 H ?_); clear H; intro g3 w1 H; simp only [Act.put, List.setIfInBounds_toArray, List.set_cons_zero, List.set_cons_succ]; simp only [cells_agg, cells_int, cells_bool, cells_string, cells_pointer, cells_slice, cells_map] at H) | (with_reducible refine wpl rfl (Stp.ldr rfl agg24 size24 rfl H (by repeat (first | exact List.mem_cons_self | apply List.mem_cons_of_mem)) (by first | exact BA_size _ | rfl | (simp; done) | assumption) ?_); simp only [Act.put, List.setIfInBounds_toArray, List.set_cons_zero, List.set_cons_succ]) | (with_reducible refine wpl rfl (Stp.ldor rfl agg24 size24 rfl H (by assumption) (by first | exact BA_size _ | rfl | (simp; done) | assumption) (by assumption) ?_); simp only [Act.put, List.setIfInBounds_toArray, List.set_cons_zero, List.set_cons_succ]) | (with_reducible refine wpl rfl (Stp.stc rfl size4 rfl rfl rfl rfl H (by repeat (first | exact Upd.head | apply Upd.tail)) (by first | (rw [BA_size]; omega) | omega | (simp; done) | (simp; omega)) ?_); clear H; intro w1 H; simp only [Act.put, List.setIfInBounds_toArray, List.set_cons_zero, List.set_cons_succ]; simp only [eval_tmp, eval_const, getD_lit0, getD_lits, cells_agg, cells_int, cells_bool, cells_string, cells_pointer, cells_slice, cells_map, List.setIfInBounds_toArray, List.set_cons_zero, List.set_cons_succ] at H) | (with_reducible refine wpl rfl (Stp.ldr rfl agg32 size32 rfl H (by repeat (first | exact List.mem_cons_self | apply List.mem_cons_of_mem)) (by first | exact BA_size _ | rfl | (simp; done) | assumption) ?_); simp only [Act.put, List.setIfInBounds_toArray, List.set_cons_zero, List.set_cons_succ]) | (with_reducible refine wpl rfl (Stp.ldor rfl agg32 size32 rfl H (by assumption) (by first | exact BA_size _ | rfl | (simp; done) | assumption) (by assumption) ?_); simp only [Act.put, List.setIfInBounds_toArray, List.set_cons_zero, List.set_cons_succ]) | (with_reducible refine wpl rfl (Stp.str rfl size32 rfl rfl (by first | exact BA_one _ | rfl | (simp [Value.oneCell']; done) | assumption) H (by repeat (first | exact Upd.head | apply Upd.tail)) (by first | exact BA_size _ | rfl | (simp; done) | assumption) (by first | exact BA_size _ | rfl | (simp; done) | assumption) ?_); clear H; intro w1 H; simp only [Act.put, List.setIfInBounds_toArray, List.set_cons_zero, List.set_cons_succ]))
      refine post_row rfl agg32 size32 rfl H (by repeat (first | exact List.mem_cons_self | apply List.mem_cons_of_mem)) (BA_size _) rfl ⟨_, rfl, ?_, H.below⟩
      rw [show BA (flagsTo (a, b) 128) = BA fun i => hasM (a, b) (i : Int) from BA_congr fun i hi => by simp [flagsTo, hi]]
/-- The number whose bits are c flags, from s on. -/
def numF (f : Nat → Bool) : Nat → Nat → Nat
  | _, 0 => 0
  | s, c + 1 => (if f s then 1 else 0) + 2 * numF f (s + 1) c
theorem numF_lt (f : Nat → Bool) : ∀ (c s : Nat), numF f s c < 2 ^ c
  | 0, _ => by simp [numF]
  | c + 1, s => by
    have := numF_lt f c (s + 1)
    simp only [numF]
    rw [Nat.pow_succ]
    split <;> omega
theorem numF_bit (f : Nat → Bool) : ∀ (c s i : Nat), (numF f s c).testBit i = (decide (i < c) && f (s + i))
  | 0, s, i => by simp [numF]
  | c + 1, s, 0 => by
    simp only [numF]
    rw [Nat.testBit_zero]
    have h2 : numF f (s + 1) c * 2 % 2 = 0 := by omega
    cases h : f s
    · simp [h]
    · simp [h]
  | c + 1, s, i + 1 => by
    rw [Nat.testBit_succ]
    simp only [numF]
    have e : ((if f s = true then 1 else 0) + 2 * numF f (s + 1) c) / 2 = numF f (s + 1) c := by split <;> omega
    rw [e, numF_bit f c (s + 1) i, show s + 1 + i = s + (i + 1) by omega]
    simp
theorem of_eq {f : Nat → Bool} {c d : Nat} (hc : c < 18446744073709551616) (hd : d < 18446744073709551616) (h0 : ∀ i, i < 64 → f i = c.testBit i) (h1 : ∀ i, i < 64 → f (64 + i) = d.testBit i) : numF f 0 64 = c ∧ numF f 64 64 = d := by
  have far : ∀ (e i : Nat), e < 18446744073709551616 → ¬ i < 64 → e.testBit i = false := fun e i he hi =>
    Nat.testBit_lt_two_pow (Nat.lt_of_lt_of_le (show e < 2 ^ 64 by simpa using he) (Nat.pow_le_pow_right (by omega) (by omega)))
  constructor
  · refine Nat.eq_of_testBit_eq fun i => ?_
    rw [numF_bit, Nat.zero_add]
    by_cases hi : i < 64
    · simp [hi, h0 i hi]
    · simp [hi, far c i hc hi]
  · refine Nat.eq_of_testBit_eq fun i => ?_
    rw [numF_bit]
    by_cases hi : i < 64
    · simp [hi, h1 i hi]
    · simp [hi, far d i hd hi]
/-- The mask's words, when the flags from k on are laid. -/
def w0 (f : Nat → Bool) (k : Nat) : Nat := numF f k (64 - k)
def w1' (f : Nat → Bool) (k : Nat) : Nat := if 64 ≤ k then numF f k (128 - k) else numF f 64 64
theorem numF_zero (f : Nat → Bool) (s : Nat) : numF f s 0 = 0 := rfl
theorem numF_succ (f : Nat → Bool) (s c : Nat) : numF f s (c + 1) = (if f s then 1 else 0) + 2 * numF f (s + 1) c := rfl
attribute [local irreducible] numF
theorem w1_hi (f : Nat → Bool) (j : Nat) (h : 64 ≤ j) (h2 : j < 128) : w1' f j = (if f j then 1 else 0) + 2 * w1' f (j + 1) ∧ w0 f j = w0 f (j + 1) ∧ w1' f (j + 1) < 9223372036854775808 ∧ w0 f (j + 1) = 0 := by
  have e1 : w1' f j = numF f j (128 - j) := by unfold w1'; exact if_pos h
  have e2 : w1' f (j + 1) = numF f (j + 1) (128 - (j + 1)) := by unfold w1'; exact if_pos (by omega)
  have e3 : w0 f j = 0 := by unfold w0; rw [show 64 - j = 0 by omega, numF_zero]
  have e4 : w0 f (j + 1) = 0 := by unfold w0; rw [show 64 - (j + 1) = 0 by omega, numF_zero]
  have hb := numF_lt f (128 - (j + 1)) (j + 1)
  have hp : (2 : Nat) ^ (128 - (j + 1)) ≤ 2 ^ 63 := Nat.pow_le_pow_right (by omega) (by omega)
  refine ⟨?_, by rw [e3, e4], by rw [e2]; omega, e4⟩
  rw [e1, e2, show 128 - j = (128 - (j + 1)) + 1 by omega, numF_succ]
theorem w0_lo (f : Nat → Bool) (j : Nat) (h : j < 64) : w0 f j = (if f j then 1 else 0) + 2 * w0 f (j + 1) ∧ w1' f j = w1' f (j + 1) ∧ w0 f (j + 1) < 9223372036854775808 := by
  have hb := numF_lt f (64 - (j + 1)) (j + 1)
  have hp : (2 : Nat) ^ (64 - (j + 1)) ≤ 2 ^ 63 := Nat.pow_le_pow_right (by omega) (by omega)
  have e1 : w0 f j = numF f j (64 - j) := rfl
  have e2 : w0 f (j + 1) = numF f (j + 1) (64 - (j + 1)) := rfl
  have e3 : w1' f j = numF f 64 64 := by unfold w1'; exact if_neg (by omega)
  refine ⟨?_, ?_, by rw [e2]; omega⟩
  · rw [e1, e2, show 64 - j = (64 - (j + 1)) + 1 by omega, numF_succ]
  · rw [e3]
    unfold w1'
    by_cases h2 : 64 ≤ j + 1
    · rw [if_pos h2, show j + 1 = 64 by omega]
    · rw [if_neg h2]
attribute [local irreducible] w0 w1'
set_option maxRecDepth 100000 in
set_option maxHeartbeats 1000000 in
theorem rof_ok (f0 : Nat → Bool) (c d : Nat) (hc : numF f0 0 64 = c) (hd : numF f0 64 64 = d) (w : World) :
    Calls Try.prog 18 #[.agg (BA f0)] w (Ret fun v w' => v = .agg #[.int .u64 (c : Int), .int .u64 (d : Int)] ∧ Below w.heap.size w w') := by
  have H := St.init w
  have HC := Lib.hid hc
  have HD := Lib.hid hd
  clear hc hd
  go_enter Try.func18, Try.ntmps18
  go_wp2_with (first | (with_reducible refine wpl rfl (Stp.box 1 rfl rfl rfl H ?_); clear H; intro g1 w1 H; simp only [Act.put, List.setIfInBounds_toArray, List.set_cons_zero, List.set_cons_succ]; simp only [eval_tmp, eval_const, getD_lit0, getD_lits, cells_agg, cells_int, cells_bool, cells_string, cells_pointer, cells_slice, cells_map, List.setIfInBounds_toArray, List.set_cons_zero, List.set_cons_succ] at H) | (with_reducible refine wpl rfl (Stp.alloc 2 rfl rfl zero24 H ?_); clear H; intro g2 w1 H; simp only [Act.put, List.setIfInBounds_toArray, List.set_cons_zero, List.set_cons_succ]; simp only [cells_agg, cells_int, cells_bool, cells_string, cells_pointer, cells_slice, cells_map] at H) | (with_reducible refine wpl rfl (Stp.alloc 3 rfl rfl zero24 H ?_); clear H; intro g3 w1 H; simp only [Act.put, List.setIfInBounds_toArray, List.set_cons_zero, List.set_cons_succ]; simp only [cells_agg, cells_int, cells_bool, cells_string, cells_pointer, cells_slice, cells_map] at H) | (with_reducible refine wpl rfl (Stp.ldc rfl agg22 rfl H (by repeat (first | exact List.mem_cons_self | apply List.mem_cons_of_mem)) (by first | exact BA_get _ _ (by omega) | (repeat (first | exact lit0 _ _ | apply lits)) | rfl | assumption) ?_); simp only [Act.put, List.setIfInBounds_toArray, List.set_cons_zero, List.set_cons_succ]) | (with_reducible refine wpl rfl (Stp.ldo rfl agg22 rfl H (by assumption) (by assumption) ?_); simp only [Act.put, List.setIfInBounds_toArray, List.set_cons_zero, List.set_cons_succ]) | (with_reducible refine wpl rfl (Stp.stc rfl size22 rfl rfl rfl rfl H (by repeat (first | exact Upd.head | apply Upd.tail)) (by first | (rw [BA_size]; omega) | omega | (simp; done) | (simp; omega)) ?_); clear H; intro w1 H; simp only [Act.put, List.setIfInBounds_toArray, List.set_cons_zero, List.set_cons_succ]; simp only [eval_tmp, eval_const, getD_lit0, getD_lits, cells_agg, cells_int, cells_bool, cells_string, cells_pointer, cells_slice, cells_map, List.setIfInBounds_toArray, List.set_cons_zero, List.set_cons_succ] at H) | (with_reducible refine wpl rfl (Stp.ldc rfl agg4 rfl H (by repeat (first | exact List.mem_cons_self | apply List.mem_cons_of_mem)) (by first | exact BA_get _ _ (by omega) | (repeat (first | exact lit0 _ _ | apply lits)) | rfl | assumption) ?_); simp only [Act.put, List.setIfInBounds_toArray, List.set_cons_zero, List.set_cons_succ]) | (with_reducible refine wpl rfl (Stp.ldo rfl agg4 rfl H (by assumption) (by assumption) ?_); simp only [Act.put, List.setIfInBounds_toArray, List.set_cons_zero, List.set_cons_succ]) | (with_reducible refine wpl rfl (Stp.ldr rfl agg24 size24 rfl H (by repeat (first | exact List.mem_cons_self | apply List.mem_cons_of_mem)) (by first | exact BA_size _ | rfl | (simp; done) | assumption) ?_); simp only [Act.put, List.setIfInBounds_toArray, List.set_cons_zero, List.set_cons_succ]) | (with_reducible refine wpl rfl (Stp.ldor rfl agg24 size24 rfl H (by assumption) (by first | exact BA_size _ | rfl | (simp; done) | assumption) (by assumption) ?_); simp only [Act.put, List.setIfInBounds_toArray, List.set_cons_zero, List.set_cons_succ]) | (with_reducible refine wpl rfl (Stp.str rfl size24 rfl rfl (by first | exact BA_one _ | rfl | (simp [Value.oneCell']; done) | assumption) H (by repeat (first | exact Upd.head | apply Upd.tail)) (by first | exact BA_size _ | rfl | (simp; done) | assumption) (by first | exact BA_size _ | rfl | (simp; done) | assumption) ?_); clear H; intro w1 H; simp only [Act.put, List.setIfInBounds_toArray, List.set_cons_zero, List.set_cons_succ]))
  go_loopw [4] (fun i wr => ∃ k x y : Nat, k ≤ 128 ∧ i = .int .i64 ((k : Int) - 1) ∧ Hid (w0 f0 k = x) ∧ Hid (w1' f0 k = y) ∧ St w.heap.size w wr [row 24 g3 #[.int .u64 (x : Int), .int .u64 (y : Int)], row 24 g2 #[.int .u64 0, .int .u64 0], row 32 g1 (BA f0)]) (fun i _ => (intOf i + 1).toNat)
  case atStart => exact ⟨128, 0, 0, by omega, rfl, Lib.hid (by unfold w0; exact numF_zero _ _), Lib.hid (by unfold w1'; rw [if_pos (by omega)]; exact numF_zero _ _), H⟩
  case round =>
    clear H
    obtain ⟨k, x, y, hk, rfl, HX, HY, H⟩ := hrel
    rcases Nat.eq_zero_or_pos k with rfl | hpos
    · go_wp2_with (first | (with_reducible refine wpl rfl (Stp.box 1 rfl rfl rfl H ?_); clear H; intro g1 w1 H; simp only [Act.put, List.setIfInBounds_toArray, List.set_cons_zero, List.set_cons_succ]; simp only [eval_tmp, eval_const, getD_lit0, getD_lits, cells_agg, cells_int, cells_bool, cells_string, cells_pointer, cells_slice, cells_map, List.setIfInBounds_toArray, List.set_cons_zero, List.set_cons_succ] at H) | (with_reducible refine wpl rfl (Stp.alloc 2 rfl rfl zero24 H ?_); clear H; intro g2 w1 H; simp only [Act.put, List.setIfInBounds_toArray, List.set_cons_zero, List.set_cons_succ]; simp only [cells_agg, cells_int, cells_bool, cells_string, cells_pointer, cells_slice, cells_map] at H) | (with_reducible refine wpl rfl (Stp.alloc 3 rfl rfl zero24 H ?_); clear H; intro g3 w1 H; simp only [Act.put, List.setIfInBounds_toArray, List.set_cons_zero, List.set_cons_succ]; simp only [cells_agg, cells_int, cells_bool, cells_string, cells_pointer, cells_slice, cells_map] at H) | (with_reducible refine wpl rfl (Stp.ldc rfl agg22 rfl H (by repeat (first | exact List.mem_cons_self | apply List.mem_cons_of_mem)) (by first | exact BA_get _ _ (by omega) | (repeat (first | exact lit0 _ _ | apply lits)) | rfl | assumption) ?_); simp only [Act.put, List.setIfInBounds_toArray, List.set_cons_zero, List.set_cons_succ]) | (with_reducible refine wpl rfl (Stp.ldo rfl agg22 rfl H (by assumption) (by assumption) ?_); simp only [Act.put, List.setIfInBounds_toArray, List.set_cons_zero, List.set_cons_succ]) | (with_reducible refine wpl rfl (Stp.stc rfl size22 rfl rfl rfl rfl H (by repeat (first | exact Upd.head | apply Upd.tail)) (by first | (rw [BA_size]; omega) | omega | (simp; done) | (simp; omega)) ?_); clear H; intro w1 H; simp only [Act.put, List.setIfInBounds_toArray, List.set_cons_zero, List.set_cons_succ]; simp only [eval_tmp, eval_const, getD_lit0, getD_lits, cells_agg, cells_int, cells_bool, cells_string, cells_pointer, cells_slice, cells_map, List.setIfInBounds_toArray, List.set_cons_zero, List.set_cons_succ] at H) | (with_reducible refine wpl rfl (Stp.ldc rfl agg4 rfl H (by repeat (first | exact List.mem_cons_self | apply List.mem_cons_of_mem)) (by first | exact BA_get _ _ (by omega) | (repeat (first | exact lit0 _ _ | apply lits)) | rfl | assumption) ?_); simp only [Act.put, List.setIfInBounds_toArray, List.set_cons_zero, List.set_cons_succ]) | (with_reducible refine wpl rfl (Stp.ldo rfl agg4 rfl H (by assumption) (by assumption) ?_); simp only [Act.put, List.setIfInBounds_toArray, List.set_cons_zero, List.set_cons_succ]) | (with_reducible refine wpl rfl (Stp.ldr rfl agg24 size24 rfl H (by repeat (first | exact List.mem_cons_self | apply List.mem_cons_of_mem)) (by first | exact BA_size _ | rfl | (simp; done) | assumption) ?_); simp only [Act.put, List.setIfInBounds_toArray, List.set_cons_zero, List.set_cons_succ]) | (with_reducible refine wpl rfl (Stp.ldor rfl agg24 size24 rfl H (by assumption) (by first | exact BA_size _ | rfl | (simp; done) | assumption) (by assumption) ?_); simp only [Act.put, List.setIfInBounds_toArray, List.set_cons_zero, List.set_cons_succ]) | (with_reducible refine wpl rfl (Stp.str rfl size24 rfl rfl (by first | exact BA_one _ | rfl | (simp [Value.oneCell']; done) | assumption) H (by repeat (first | exact Upd.head | apply Upd.tail)) (by first | exact BA_size _ | rfl | (simp; done) | assumption) (by first | exact BA_size _ | rfl | (simp; done) | assumption) ?_); clear H; intro w1 H; simp only [Act.put, List.setIfInBounds_toArray, List.set_cons_zero, List.set_cons_succ]))
      refine post_row rfl agg24 size24 rfl H (by repeat (first | exact List.mem_cons_self | apply List.mem_cons_of_mem)) rfl rfl ⟨_, rfl, ?_, H.below⟩
      rw [← HX.out, ← HY.out, ← HC.out, ← HD.out]
      have e1 : w0 f0 0 = numF f0 0 64 := by unfold w0; rfl
      have e2 : w1' f0 0 = numF f0 64 64 := by unfold w1'; exact if_neg (by omega)
      rw [e1, e2]
    · obtain ⟨j, rfl⟩ : ∃ j, k = j + 1 := ⟨k - 1, by omega⟩
      have hj : j < 128 := by omega
      rcases Nat.lt_or_ge j 64 with h | h
      · have hq : (j : Int) / 64 = 0 := by omega
        obtain ⟨e1, e2, e3⟩ := w0_lo f0 j h
        rw [HX.out] at e1 e3
        rw [HY.out] at e2
        have HE1 := Lib.hid e1
        have HE2 := Lib.hid e2
        have hw1 : IntKind.u64.wrap ((x : Int) * 2) = (x : Int) * 2 := wrap_u64_in _ (by omega) (by omega)
        have hw2 : IntKind.u64.wrap ((x : Int) * 2 + 1) = (x : Int) * 2 + 1 := wrap_u64_in _ (by omega) (by omega)
        clear e1 e2
        go_wp2_with (first | (with_reducible refine wpl rfl (Stp.box 1 rfl rfl rfl H ?_); clear H; intro g1 w1 H; simp only [Act.put, List.setIfInBounds_toArray, List.set_cons_zero, List.set_cons_succ]; simp only [eval_tmp, eval_const, getD_lit0, getD_lits, cells_agg, cells_int, cells_bool, cells_string, cells_pointer, cells_slice, cells_map, List.setIfInBounds_toArray, List.set_cons_zero, List.set_cons_succ] at H) | (with_reducible refine wpl rfl (Stp.alloc 2 rfl rfl zero24 H ?_); clear H; intro g2 w1 H; simp only [Act.put, List.setIfInBounds_toArray, List.set_cons_zero, List.set_cons_succ]; simp only [cells_agg, cells_int, cells_bool, cells_string, cells_pointer, cells_slice, cells_map] at H) | (with_reducible refine wpl rfl (Stp.alloc 3 rfl rfl zero24 H ?_); clear H; intro g3 w1 H; simp only [Act.put, List.setIfInBounds_toArray, List.set_cons_zero, List.set_cons_succ]; simp only [cells_agg, cells_int, cells_bool, cells_string, cells_pointer, cells_slice, cells_map] at H) | (with_reducible refine wpl rfl (Stp.ldc rfl agg22 rfl H (by repeat (first | exact List.mem_cons_self | apply List.mem_cons_of_mem)) (by first | exact BA_get _ _ (by omega) | (repeat (first | exact lit0 _ _ | apply lits)) | rfl | assumption) ?_); simp only [Act.put, List.setIfInBounds_toArray, List.set_cons_zero, List.set_cons_succ]) | (with_reducible refine wpl rfl (Stp.ldo rfl agg22 rfl H (by assumption) (by assumption) ?_); simp only [Act.put, List.setIfInBounds_toArray, List.set_cons_zero, List.set_cons_succ]) | (with_reducible refine wpl rfl (Stp.stc rfl size22 rfl rfl rfl rfl H (by repeat (first | exact Upd.head | apply Upd.tail)) (by first | (rw [BA_size]; omega) | omega | (simp; done) | (simp; omega)) ?_); clear H; intro w1 H; simp only [Act.put, List.setIfInBounds_toArray, List.set_cons_zero, List.set_cons_succ]; simp only [eval_tmp, eval_const, getD_lit0, getD_lits, cells_agg, cells_int, cells_bool, cells_string, cells_pointer, cells_slice, cells_map, List.setIfInBounds_toArray, List.set_cons_zero, List.set_cons_succ] at H) | (with_reducible refine wpl rfl (Stp.ldc rfl agg4 rfl H (by repeat (first | exact List.mem_cons_self | apply List.mem_cons_of_mem)) (by first | exact BA_get _ _ (by omega) | (repeat (first | exact lit0 _ _ | apply lits)) | rfl | assumption) ?_); simp only [Act.put, List.setIfInBounds_toArray, List.set_cons_zero, List.set_cons_succ]) | (with_reducible refine wpl rfl (Stp.ldo rfl agg4 rfl H (by assumption) (by assumption) ?_); simp only [Act.put, List.setIfInBounds_toArray, List.set_cons_zero, List.set_cons_succ]) | (with_reducible refine wpl rfl (Stp.ldr rfl agg24 size24 rfl H (by repeat (first | exact List.mem_cons_self | apply List.mem_cons_of_mem)) (by first | exact BA_size _ | rfl | (simp; done) | assumption) ?_); simp only [Act.put, List.setIfInBounds_toArray, List.set_cons_zero, List.set_cons_succ]) | (with_reducible refine wpl rfl (Stp.ldor rfl agg24 size24 rfl H (by assumption) (by first | exact BA_size _ | rfl | (simp; done) | assumption) (by assumption) ?_); simp only [Act.put, List.setIfInBounds_toArray, List.set_cons_zero, List.set_cons_succ]) | (with_reducible refine wpl rfl (Stp.str rfl size24 rfl rfl (by first | exact BA_one _ | rfl | (simp [Value.oneCell']; done) | assumption) H (by repeat (first | exact Upd.head | apply Upd.tail)) (by first | exact BA_size _ | rfl | (simp; done) | assumption) (by first | exact BA_size _ | rfl | (simp; done) | assumption) ?_); clear H; intro w1 H; simp only [Act.put, List.setIfInBounds_toArray, List.set_cons_zero, List.set_cons_succ]))
        · rename_i hfj
          have hfj : f0 j = true := hfj
          go_roundw
          case rel =>
            rw [show ((x : Int) * 2 + 1) = ((x * 2 + 1 : Nat) : Int) by omega] at H
            exact ⟨j, x * 2 + 1, y, by omega, rfl, Lib.hid (by rw [HE1.out, hfj]; simp; omega), Lib.hid HE2.out, H⟩
          case measure => simp [intOf]
        · rename_i hfj
          have hfj : f0 j = false := hfj
          go_roundw
          case rel =>
            rw [show ((x : Int) * 2) = ((x * 2 : Nat) : Int) by omega] at H
            exact ⟨j, x * 2, y, by omega, rfl, Lib.hid (by rw [HE1.out, hfj]; simp; omega), Lib.hid HE2.out, H⟩
          case measure => simp [intOf]
      · have hq : (j : Int) / 64 = 1 := by omega
        obtain ⟨e1, e2, e3, e4⟩ := w1_hi f0 j h hj
        rw [HY.out] at e1 e3
        rw [HX.out] at e2
        clear e4
        have HE1 := Lib.hid e1
        have HE2 := Lib.hid e2
        have hw1 : IntKind.u64.wrap ((y : Int) * 2) = (y : Int) * 2 := wrap_u64_in _ (by omega) (by omega)
        have hw2 : IntKind.u64.wrap ((y : Int) * 2 + 1) = (y : Int) * 2 + 1 := wrap_u64_in _ (by omega) (by omega)
        clear e1 e2
        go_wp2_with (first | (with_reducible refine wpl rfl (Stp.box 1 rfl rfl rfl H ?_); clear H; intro g1 w1 H; simp only [Act.put, List.setIfInBounds_toArray, List.set_cons_zero, List.set_cons_succ]; simp only [eval_tmp, eval_const, getD_lit0, getD_lits, cells_agg, cells_int, cells_bool, cells_string, cells_pointer, cells_slice, cells_map, List.setIfInBounds_toArray, List.set_cons_zero, List.set_cons_succ] at H) | (with_reducible refine wpl rfl (Stp.alloc 2 rfl rfl zero24 H ?_); clear H; intro g2 w1 H; simp only [Act.put, List.setIfInBounds_toArray, List.set_cons_zero, List.set_cons_succ]; simp only [cells_agg, cells_int, cells_bool, cells_string, cells_pointer, cells_slice, cells_map] at H) | (with_reducible refine wpl rfl (Stp.alloc 3 rfl rfl zero24 H ?_); clear H; intro g3 w1 H; simp only [Act.put, List.setIfInBounds_toArray, List.set_cons_zero, List.set_cons_succ]; simp only [cells_agg, cells_int, cells_bool, cells_string, cells_pointer, cells_slice, cells_map] at H) | (with_reducible refine wpl rfl (Stp.ldc rfl agg22 rfl H (by repeat (first | exact List.mem_cons_self | apply List.mem_cons_of_mem)) (by first | exact BA_get _ _ (by omega) | (repeat (first | exact lit0 _ _ | apply lits)) | rfl | assumption) ?_); simp only [Act.put, List.setIfInBounds_toArray, List.set_cons_zero, List.set_cons_succ]) | (with_reducible refine wpl rfl (Stp.ldo rfl agg22 rfl H (by assumption) (by assumption) ?_); simp only [Act.put, List.setIfInBounds_toArray, List.set_cons_zero, List.set_cons_succ]) | (with_reducible refine wpl rfl (Stp.stc rfl size22 rfl rfl rfl rfl H (by repeat (first | exact Upd.head | apply Upd.tail)) (by first | (rw [BA_size]; omega) | omega | (simp; done) | (simp; omega)) ?_); clear H; intro w1 H; simp only [Act.put, List.setIfInBounds_toArray, List.set_cons_zero, List.set_cons_succ]; simp only [eval_tmp, eval_const, getD_lit0, getD_lits, cells_agg, cells_int, cells_bool, cells_string, cells_pointer, cells_slice, cells_map, List.setIfInBounds_toArray, List.set_cons_zero, List.set_cons_succ] at H) | (with_reducible refine wpl rfl (Stp.ldc rfl agg4 rfl H (by repeat (first | exact List.mem_cons_self | apply List.mem_cons_of_mem)) (by first | exact BA_get _ _ (by omega) | (repeat (first | exact lit0 _ _ | apply lits)) | rfl | assumption) ?_); simp only [Act.put, List.setIfInBounds_toArray, List.set_cons_zero, List.set_cons_succ]) | (with_reducible refine wpl rfl (Stp.ldo rfl agg4 rfl H (by assumption) (by assumption) ?_); simp only [Act.put, List.setIfInBounds_toArray, List.set_cons_zero, List.set_cons_succ]) | (with_reducible refine wpl rfl (Stp.ldr rfl agg24 size24 rfl H (by repeat (first | exact List.mem_cons_self | apply List.mem_cons_of_mem)) (by first | exact BA_size _ | rfl | (simp; done) | assumption) ?_); simp only [Act.put, List.setIfInBounds_toArray, List.set_cons_zero, List.set_cons_succ]) | (with_reducible refine wpl rfl (Stp.ldor rfl agg24 size24 rfl H (by assumption) (by first | exact BA_size _ | rfl | (simp; done) | assumption) (by assumption) ?_); simp only [Act.put, List.setIfInBounds_toArray, List.set_cons_zero, List.set_cons_succ]) | (with_reducible refine wpl rfl (Stp.str rfl size24 rfl rfl (by first | exact BA_one _ | rfl | (simp [Value.oneCell']; done) | assumption) H (by repeat (first | exact Upd.head | apply Upd.tail)) (by first | exact BA_size _ | rfl | (simp; done) | assumption) (by first | exact BA_size _ | rfl | (simp; done) | assumption) ?_); clear H; intro w1 H; simp only [Act.put, List.setIfInBounds_toArray, List.set_cons_zero, List.set_cons_succ]))
        · rename_i hfj
          have hfj : f0 j = true := hfj
          go_roundw
          case rel =>
            rw [show ((y : Int) * 2 + 1) = ((y * 2 + 1 : Nat) : Int) by omega] at H
            exact ⟨j, x, y * 2 + 1, by omega, rfl, Lib.hid HE2.out, Lib.hid (by rw [HE1.out, hfj]; simp; omega), H⟩
          case measure => simp [intOf]
        · rename_i hfj
          have hfj : f0 j = false := hfj
          go_roundw
          case rel =>
            rw [show ((y : Int) * 2) = ((y * 2 : Nat) : Int) by omega] at H
            exact ⟨j, x, y * 2, by omega, rfl, Lib.hid HE2.out, Lib.hid (by rw [HE1.out, hfj]; simp; omega), H⟩
          case measure => simp [intOf]
end Go.Proofs.Ytcgogcolfbpcfaa
