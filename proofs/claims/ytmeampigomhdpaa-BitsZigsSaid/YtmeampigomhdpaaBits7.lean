/- The statement BitsZigs of layer 1 (bits), proved; no condition: the walks of the zigzags, the law's walk, and the row round it. -/
import Derived.Test.YtmeampigomhdpaaBits6
import Derived.Test.YtmeampigomhdpaaLaw
import Derived.Laws.Bits64
import Derived.Laws.Bits64b
import Derived.Laws.BitsLemmas
namespace Go.Proofs.Ytmeampigomhdpaa
open Go.ChangeShapes Go.WideShapes Go.ChangeAt Go.RowKit Go.Deep
set_option linter.unusedVariables false
set_option linter.unusedSimpArgs false
def zz (n : Int) : Int := if 0 ≤ n then n * 2 else -(n * 2) - 1
def zg (m : Int) : Int := if m % 2 = 0 then m / 2 else -(m / 2) - 1
theorem xor_zero_u64 (x : Int) (h0 : 0 ≤ x) (h1 : x < 18446744073709551616) : bits .xor .u64 x 0 = x := by
  obtain ⟨n, rfl⟩ : ∃ n : Nat, x = n := ⟨x.toNat, by omega⟩
  have := bits_xor_u64_nat n 0 (by omega) (by omega)
  simpa using this
theorem xor_ones (n : Nat) (h : n < 18446744073709551616) : n ^^^ 18446744073709551615 = 18446744073709551615 - n := by
  have h1 := congrArg BitVec.toNat (BitVec.xor_allOnes (x := BitVec.ofNat 64 n))
  rw [BitVec.toNat_xor, BitVec.toNat_not, BitVec.toNat_ofNat, BitVec.toNat_allOnes, Nat.mod_eq_of_lt (by simpa using h)] at h1
  simpa using h1
theorem xor_ones_u64 (x : Int) (h0 : 0 ≤ x) (h1 : x < 18446744073709551616) : bits .xor .u64 x 18446744073709551615 = 18446744073709551615 - x := by
  obtain ⟨n, rfl⟩ : ∃ n : Nat, x = n := ⟨x.toNat, by omega⟩
  have := bits_xor_u64_nat n 18446744073709551615 (by omega) (by omega)
  rw [xor_ones n (by omega)] at this
  rw [show (18446744073709551615 : Int) = ((18446744073709551615 : Nat) : Int) from rfl, this]
  omega
theorem xor_i64 (x : Nat) (y : Int) (h : x < 9223372036854775808) : bits .xor .i64 (x : Int) 0 = x ∧ bits .xor .i64 (x : Int) (-1) = -(x : Int) - 1 := by
  have h1 : (BitVec.ofInt 64 (x : Int)).toNat = x := by
    rw [BitVec.ofInt_natCast, BitVec.toNat_ofNat]; exact Nat.mod_eq_of_lt (by omega)
  constructor
  · show IntKind.i64.wrap ((BitVec.ofInt 64 (x : Int) ^^^ BitVec.ofInt 64 0).toNat : Int) = _
    rw [BitVec.toNat_xor, h1, show (BitVec.ofInt 64 0).toNat = 0 by decide, Nat.xor_zero, IntKind.wrap_i64]
    omega
  · show IntKind.i64.wrap ((BitVec.ofInt 64 (x : Int) ^^^ BitVec.ofInt 64 (-1)).toNat : Int) = _
    rw [BitVec.toNat_xor, h1, show (BitVec.ofInt 64 (-1)).toNat = 18446744073709551615 by decide, xor_ones x (by omega), IntKind.wrap_i64]
    omega
theorem zig_law (n : Int) (h0 : -9223372036854775808 ≤ n) (h1 : n < 9223372036854775808) : bits .xor .u64 (IntKind.u64.wrap (IntKind.u64.wrap n * 2)) (IntKind.u64.wrap (n / 9223372036854775808)) = zz n := by
  unfold zz
  simp only [IntKind.wrap_u64]
  split
  · rw [show n / 9223372036854775808 % 18446744073709551616 = 0 by omega, xor_zero_u64 _ (by omega) (by omega)]; omega
  · rw [show n / 9223372036854775808 % 18446744073709551616 = 18446744073709551615 by omega, xor_ones_u64 _ (by omega) (by omega)]; omega
theorem zz_lo (n : Int) (h0 : -9223372036854775808 ≤ n) (h1 : n < 9223372036854775808) : 0 ≤ zz n ∧ zz n < 18446744073709551616 := by unfold zz; split <;> omega
theorem zg_lo (m : Int) (h0 : 0 ≤ m) (h1 : m < 18446744073709551616) : -9223372036854775808 ≤ zg m ∧ zg m < 9223372036854775808 := by unfold zg; split <;> omega
theorem zg_zz (n : Int) : zg (zz n) = n := by unfold zg zz; split <;> split <;> omega
theorem zz_zg (m : Int) (h0 : 0 ≤ m) : zz (zg m) = m := by unfold zg zz; split <;> split <;> omega
theorem zig_ok (n x : Int) (h0 : -9223372036854775808 ≤ n) (h1 : n < 9223372036854775808) (hx : zz n = x) (w : World) : Calls Try.prog 23 #[.int .i64 n] w (Ret fun v w' => v = .int .u64 x ∧ Below w.heap.size w w') := by
  have hL := Lib.hid (zig_law n h0 h1)
  clear h0 h1
  have H := St.init w
  go_enter Try.func23, Try.ntmps23
  go_wp2
  go_ret
  subst hx
  exact ⟨_, rfl, congrArg (Value.int IntKind.u64) hL.out, H.below⟩
theorem rzig_ok (n x : Int) (h0 : -9223372036854775808 ≤ n) (h1 : n < 9223372036854775808) (hx : zz n = x) (w : World) : Calls Try.prog 24 #[.int .i64 n] w (Ret fun v w' => v = .int .u64 x ∧ Below w.heap.size w w') := by
  have H := St.init w
  rcases Int.lt_or_le n 0 with hn | hn
  · have hd : decide (0 ≤ n) = false := by simpa using hn
    go_enter Try.func24, Try.ntmps24
    go_wp2
    go_ret
    refine ⟨_, rfl, ?_, H.below⟩
    refine congrArg (Value.int IntKind.u64) ?_
    rw [← hx]; unfold zz
    try simp only [IntKind.wrap_u64]
    omega
  · have hd : decide (0 ≤ n) = true := by simpa using hn
    go_enter Try.func24, Try.ntmps24
    go_wp2
    go_ret
    refine ⟨_, rfl, ?_, H.below⟩
    refine congrArg (Value.int IntKind.u64) ?_
    rw [← hx]; unfold zz
    try simp only [IntKind.wrap_u64]
    omega
theorem and_one (m : Int) (h0 : 0 ≤ m) (h1 : m < 18446744073709551616) : bits .and .u64 m 1 = m % 2 := by
  obtain ⟨k, rfl⟩ : ∃ k : Nat, m = k := ⟨m.toNat, by omega⟩
  have := bits_and_u64_nat k 1 (by omega) (by omega)
  rw [Nat.and_one_is_mod] at this
  exact this.trans (by omega)
theorem zag_law (m : Int) (h0 : 0 ≤ m) (h1 : m < 18446744073709551616) : bits .xor .i64 (m / 2) (wrap64 (-(wrap64 (bits .and .u64 m 1)))) = zg m := by
  obtain ⟨k, hk⟩ : ∃ k : Nat, m / 2 = k := ⟨(m / 2).toNat, by omega⟩
  have hk2 : k < 9223372036854775808 := by omega
  unfold zg
  rw [hk, and_one m h0 h1]
  split
  · rw [show wrap64 (-(wrap64 (m % 2))) = 0 by unfold wrap64; omega, (xor_i64 k 0 hk2).1]
  · rw [show wrap64 (-(wrap64 (m % 2))) = -1 by unfold wrap64; omega, (xor_i64 k 0 hk2).2]
theorem zag_ok (m x : Int) (h0 : 0 ≤ m) (h1 : m < 18446744073709551616) (hx : zg m = x) (w : World) : Calls Try.prog 25 #[.int .u64 m] w (Ret fun v w' => v = .int .i64 x ∧ Below w.heap.size w w') := by
  have hL := Lib.hid (zag_law m h0 h1)
  have H := St.init w
  go_enter Try.func25, Try.ntmps25
  go_wp2
  go_ret
  subst hx
  exact ⟨_, rfl, congrArg (Value.int IntKind.i64) hL.out, H.below⟩
theorem law_zigs (n m : Int) (h0 : -9223372036854775808 ≤ n) (h1 : n < 9223372036854775808) (m0 : 0 ≤ m) (m1 : m < 18446744073709551616) (w : World) :
    Calls Try.prog 6 #[.int .i64 n, .int .u64 m] w (Ret fun v w' => v = .bool true ∧ Below w.heap.size w w') := by
  have H := St.init w
  have a1 := Lib.hid (zz_lo n h0 h1)
  have a2 := Lib.hid (zg_lo m m0 m1)
  have e1 := Lib.hid (zg_zz n)
  have e2 := Lib.hid (zz_zg m m0)
  go_enter Try.func6, Try.ntmps6
  go_wp2_with (first | (go_at_call 24; refine (rzig_ok n _ h0 h1 rfl _).mono ?_; rintro e w1 ⟨v, rfl, hr⟩; obtain ⟨rfl, hb1⟩ := hr; replace H := H.grow hb1; clear hb1) | (go_at_call 23; (first | with_reducible refine (zig_ok n _ h0 h1 rfl _).mono ?_ | with_reducible refine (zig_ok (zg m) m a2.out.1 a2.out.2 e2.out _).mono ?_); rintro e w1 ⟨v, rfl, hr⟩; obtain ⟨rfl, hb1⟩ := hr; replace H := H.grow hb1; clear hb1) | (go_at_call 25; (first | with_reducible refine (zag_ok m _ m0 m1 rfl _).mono ?_ | with_reducible refine (zag_ok (zz n) n a1.out.1 a1.out.2 e1.out _).mono ?_); rintro e w1 ⟨v, rfl, hr⟩; obtain ⟨rfl, hb1⟩ := hr; replace H := H.grow hb1; clear hb1) | (go_at_call 13; refine (awake_ok _).mono ?_; rintro e w1 ⟨v, rfl, hr⟩; obtain ⟨rfl, hb1⟩ := hr; replace H := H.grow hb1; clear hb1))
  go_ret
  exact ⟨_, rfl, rfl, H.below⟩
theorem own : ownKnob Try.prog.godebug = none := by kernel_rfl
theorem laidOut : laidOutB Try.prog = true := by kernel_rfl
set_option maxRecDepth 100000 in
theorem bitsZigs_lifted (os : Os) (started : os.Started) (H : Type) (enc : TypeId × Value → H) :
    ReturnsInHanded {} Try.checked os 6 .any (Rows.bitsZigsSpec.pre6 enc Try.prog Try.f6 Rows.bitsZigsRow.domain false) (Rows.bitsZigsSpec.post enc Try.prog Try.f6 false true false false) := by
  refine law_lifted (C := Try.checked) own started (by kernel_rfl) Try.func6 laidOut rfl Try.underlying4 rfl (by kernel_rfl) (fun ds hd => ?_)
    (ChangeSpec.witness6 (enc := enc) (C := Try.checked) false ⟨#[], #[.int .i64 0, .int .u64 0], []⟩ 8 (by kernel_rfl) (by kernel_rfl) (by kernel_rfl) (by kernel_rfl)) ?_
  · match ds, hd with
    | [d0, d1], _ => exact ⟨rfl, rfl, rfl⟩
  intro W base args ds p hval hA
  rw [Try.params6] at hA hval
  obtain ⟨v0, vs0, d0, ds0, p0, q0, hargs, rfl, rfl, h0, r0⟩ := trodAll_cons hA
  obtain ⟨v1, vs1, d1, ds1, p1, q1, rfl, rfl, rfl, h1, r1⟩ := trodAll_cons r0
  obtain ⟨rfl, rfl, rfl⟩ := trodAll_nil r1
  obtain rfl : args = #[v0, v1] := by cases args; simp_all
  obtain ⟨n, rfl, _, _, nw⟩ := open_int Try.underlying2 (hval 0 2 v0 rfl rfl) h0
  obtain ⟨m, rfl, _, _, mw⟩ := open_int Try.underlying23 (hval 1 23 v1 rfl rfl) h1
  exact law_zigs n m (bounds_i64 nw).1 (Int.lt_add_one_of_le (bounds_i64 nw).2) (bounds_u64 mw).1 (Int.lt_add_one_of_le (bounds_u64 mw).2) W
theorem bitsZigs_over : Rows.bitsZigsRow.holds Try.pinned (OpenSpec.ofChange Rows.bitsZigsSpec) :=
  OpenClaim.holds_of_wide 6 Try.f6 rfl rfl rfl rfl rfl rfl rfl ⟨rfl, rfl, rfl, rfl, rfl⟩ rfl rfl rfl rfl rfl (by kernel_rfl) Try.func6 (by kernel_rfl)
    (of_decide_eq_true (by kernel_rfl)) (by unfold Func.isWrapper; first | (rw [if_pos (by decide +kernel)]; kernel_rfl) | (rw [if_neg (by decide +kernel)]; exact ⟨rfl, rfl⟩))
    (fun os started H enc _ => bitsZigs_lifted os started H enc)
theorem bitsZigs_holds : Rows.BitsZigsSaid := bitsZigs_over
#print axioms bitsZigs_holds
end Go.Proofs.Ytmeampigomhdpaa
