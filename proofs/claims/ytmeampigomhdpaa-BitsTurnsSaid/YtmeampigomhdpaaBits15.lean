/- The statement BitsTurns of layer 1 (bits), proved; no condition: the walks of Turn and Pick, the law's walk, and the row round it. -/
import Derived.Test.YtmeampigomhdpaaBits14
import Derived.Laws.Bits64b
namespace Go.Proofs.Ytmeampigomhdpaa
open Go.ChangeShapes Go.WideShapes Go.ChangeAt Go.RowKit Go.Deep
set_option linter.unusedVariables false
set_option linter.unusedSimpArgs false
theorem and_63 (b : Int) (k : Nat) (hb : b % 64 = k) : bits .and .u64 (IntKind.u64.wrap b) 63 = (k : Int) := by
  rw [IntKind.wrap_u64]
  obtain ⟨x, hx⟩ : ∃ x : Nat, b % 18446744073709551616 = x := ⟨(b % 18446744073709551616).toNat, by omega⟩
  have hx2 : x < 18446744073709551616 := by omega
  have h := bits_and_u64_nat x 63 hx2 (by omega)
  rw [Nat.and_two_pow_sub_one_eq_mod x 6] at h
  rw [hx]
  refine h.trans ?_
  have : (2 : Nat) ^ 6 = 64 := by decide
  rw [this]
  omega
theorem or_rot (n k : Nat) (hn : n < 18446744073709551616) (hk : k < 64) : bits .or .u64 (IntKind.u64.wrap ((n : Int) * 2 ^ k)) ((n : Int) / 2 ^ (64 - k)) = ((rot n k : Nat) : Int) := by
  have h1 := hi_lt n k hn (by omega)
  have h2 := rot_lt n k hn (by omega)
  have e1 : IntKind.u64.wrap ((n : Int) * 2 ^ k) = ((n % 2 ^ (64 - k) * 2 ^ k : Nat) : Int) := by
    rw [IntKind.wrap_u64, ← Nat.mul_mod_mul_right, two64 k (by omega)]
    simp
  have e2 : (n : Int) / 2 ^ (64 - k) = ((n / 2 ^ (64 - k) : Nat) : Int) := by simp
  rw [e1, e2]
  unfold rot at h2 ⊢
  have h3 : n % 2 ^ (64 - k) * 2 ^ k < 18446744073709551616 := Nat.lt_of_le_of_lt (Nat.le_add_right _ _) h2
  have h4 : n / 2 ^ (64 - k) < 18446744073709551616 := Nat.lt_of_le_of_lt (Nat.le_add_left _ _) h2
  rw [bits_or_u64_nat _ _ h3 h4]
  congr 1
  rw [Nat.mul_comm]
  exact (Nat.two_pow_add_eq_or_of_lt h1 _).symm
theorem turn_at (n : Nat) (hn : n < 18446744073709551616) (b : Int) (k : Nat) (hk : k < 64) (hb : b % 64 = k) (x : Nat) (hx : rot n k = x) (w : World) :
    Calls Try.prog 20 #[.int .u64 (n : Int), .int .i64 b] w (Ret fun v w' => v = .int .u64 (x : Int) ∧ Below w.heap.size w w') := by
  have := turn_ok n hn b k hk (and_63 b k hb) w
  rw [or_rot n k hn hk, hx] at this
  exact this
theorem tmod_64 (b : Int) : (b.tmod 64 = b % 64 ∧ 0 ≤ b.tmod 64) ∨ (b.tmod 64 = b % 64 - 64 ∧ b.tmod 64 < 0) := by
  have h := Int.tmod_eq_emod (a := b) (b := 64)
  split at h
  · left; omega
  · right
    rw [show ((64 : Int).natAbs : Int) = 64 by decide] at h
    omega
theorem pick_ok (b : Int) (k : Nat) (hk : b % 64 = k) (w : World) :
    Calls Try.prog 21 #[.int .i64 b, .int .i64 64] w (Ret fun v w' => v = .int .i64 (k : Int) ∧ Below w.heap.size w w') := by
  have H := St.init w
  rcases tmod_64 b with ⟨e, h0⟩ | ⟨e, h0⟩
  · have e' : b.tmod 64 = (k : Int) := by omega
    have hd : decide ((k : Int) < 0) = false := by simp
    clear e h0 hk
    go_enter Try.func21, Try.ntmps21
    go_wp2
    go_ret
    exact ⟨_, rfl, by first | rfl | (simp [e']; done) | (rw [e']; done) | (congr 1; omega), H.below⟩
  · have hd : decide (b.tmod 64 < 0) = true := by simpa using h0
    go_enter Try.func21, Try.ntmps21
    go_wp2
    go_ret
    refine ⟨_, rfl, ?_, H.below⟩
    refine congrArg (Value.int IntKind.i64) ?_
    omega
theorem rot_home (n k : Nat) (hn : n < 18446744073709551616) (hk : k < 64) : rot (rot n k) ((64 - k) % 64) = n := by
  rcases Nat.eq_zero_or_pos k with h | h
  · subst h
    rw [show (64 - 0) % 64 = 0 by decide, rot_zero n hn, rot_zero n hn]
  · rw [Nat.mod_eq_of_lt (by omega : 64 - k < 64)]
    exact rot_back n k hn (by omega)
set_option maxRecDepth 100000 in
set_option maxHeartbeats 1000000 in
theorem law_turns (n : Nat) (hn : n < 18446744073709551616) (b : Int) (w : World) :
    Calls Try.prog 4 #[.int .u64 (n : Int), .int .i64 b] w (Ret fun v w' => v = .bool true ∧ Below w.heap.size w w') := by
  have H := St.init w
  obtain ⟨k, hb⟩ : ∃ k : Nat, b % 64 = k := ⟨(b % 64).toNat, by omega⟩
  have hk : k < 64 := by omega
  obtain ⟨r, hr⟩ : ∃ r : Nat, rot n k = r := ⟨_, rfl⟩
  have hn1 := Lib.hid hn
  have hr1 := Lib.hid hr
  have hr0 := Lib.hid (rot_zero n hn)
  have hr2 := Lib.hid (hr ▸ rot_lt n k hn (by omega))
  have hr3 := Lib.hid (hr ▸ rot_home n k hn hk)
  have hbit : ∀ q, q < 64 → r / 2 ^ ((q + k) % 64) % 2 = n / 2 ^ q % 2 := fun q hq => hr ▸ rot_bit n k q hn hk hq
  have HBIT := Lib.hid hbit
  clear hn hr hbit
  go_enter Try.func4, Try.ntmps4
  go_wp2_with (first | (go_at_call 13; refine (awake_ok _).mono ?_; rintro e w1 ⟨v, rfl, hr⟩; obtain ⟨rfl, hb1⟩ := hr; replace H := H.grow hb1; clear hb1) | (go_at_call 20; (first | with_reducible refine (turn_at n hn1.out b k hk hb r hr1.out _).mono ?_ | with_reducible refine (turn_at n hn1.out 0 0 (by omega) rfl n hr0.out _).mono ?_ | with_reducible refine (turn_at r hr2.out _ ((64 - k) % 64) (by omega) (by omega) n hr3.out _).mono ?_); rintro e w1 ⟨v, rfl, hr⟩; obtain ⟨rfl, hb1⟩ := hr; replace H := H.grow hb1; clear hb1) | (go_at_call 21; refine (pick_ok b k hb _).mono ?_; rintro e w1 ⟨v, rfl, hr⟩; obtain ⟨rfl, hb1⟩ := hr; replace H := H.grow hb1; clear hb1))
  go_loopw [7] (fun i wr => ∃ q : Nat, q ≤ 64 ∧ i = .int .i64 q ∧ St w.heap.size w wr []) (fun i _ => 64 - (intOf i).toNat)
  case atStart => exact ⟨0, by omega, rfl, H⟩
  case round =>
    clear H
    obtain ⟨q, hq, rfl, H⟩ := hrel
    by_cases hlt : q < 64
    · have hbq := HBIT.out q hlt
      cases hx : (((n / 2 ^ q % 2 : Nat) : Int) == 1)
      · have hx2 := hx
        rw [← hbq] at hx2
        have HB := Lib.hid hx
        have HB2 := Lib.hid hx2
        clear hx hx2 hbq
        go_wp2_with (first | (go_at_call 13; refine (awake_ok _).mono ?_; rintro e w1 ⟨v, rfl, hr⟩; obtain ⟨rfl, hb1⟩ := hr; replace H := H.grow hb1; clear hb1) | (go_at_call 22; (first | with_reducible refine (bit_ok n q hn1.out (by omega) false HB.out _).mono ?_ | with_reducible refine (bit_at r _ ((q + k) % 64) (by first | omega | (rw [Int.tmod_eq_emod_of_nonneg (by omega)]; omega)) hr2.out (by omega) false HB2.out _).mono ?_); rintro e w1 ⟨v, rfl, hr⟩; obtain ⟨rfl, hb1⟩ := hr; replace H := H.grow hb1; clear hb1))
        go_roundw
        case rel => exact ⟨q + 1, by omega, by go_num, H⟩
        case measure => simp [intOf]; omega
      · have hx2 := hx
        rw [← hbq] at hx2
        have HB := Lib.hid hx
        have HB2 := Lib.hid hx2
        clear hx hx2 hbq
        go_wp2_with (first | (go_at_call 13; refine (awake_ok _).mono ?_; rintro e w1 ⟨v, rfl, hr⟩; obtain ⟨rfl, hb1⟩ := hr; replace H := H.grow hb1; clear hb1) | (go_at_call 22; (first | with_reducible refine (bit_ok n q hn1.out (by omega) true HB.out _).mono ?_ | with_reducible refine (bit_at r _ ((q + k) % 64) (by first | omega | (rw [Int.tmod_eq_emod_of_nonneg (by omega)]; omega)) hr2.out (by omega) true HB2.out _).mono ?_); rintro e w1 ⟨v, rfl, hr⟩; obtain ⟨rfl, hb1⟩ := hr; replace H := H.grow hb1; clear hb1))
        go_roundw
        case rel => exact ⟨q + 1, by omega, by go_num, H⟩
        case measure => simp [intOf]; omega
    · obtain rfl : q = 64 := by omega
      go_wp2_with (first | (go_at_call 13; refine (awake_ok _).mono ?_; rintro e w1 ⟨v, rfl, hr⟩; obtain ⟨rfl, hb1⟩ := hr; replace H := H.grow hb1; clear hb1) | (go_at_call 20; (first | with_reducible refine (turn_at n hn1.out b k hk hb r hr1.out _).mono ?_ | with_reducible refine (turn_at n hn1.out 0 0 (by omega) rfl n hr0.out _).mono ?_ | with_reducible refine (turn_at r hr2.out _ ((64 - k) % 64) (by omega) (by omega) n hr3.out _).mono ?_); rintro e w1 ⟨v, rfl, hr⟩; obtain ⟨rfl, hb1⟩ := hr; replace H := H.grow hb1; clear hb1))
      go_ret
      exact ⟨_, rfl, rfl, H.below⟩
set_option maxRecDepth 100000 in
theorem bitsTurns_lifted (os : Os) (started : os.Started) (H : Type) (enc : TypeId × Value → H) :
    ReturnsInHanded {} Try.checked os 4 .any (Rows.bitsTurnsSpec.pre6 enc Try.prog Try.f4 Rows.bitsTurnsRow.domain false) (Rows.bitsTurnsSpec.post enc Try.prog Try.f4 false true false false) := by
  refine law_lifted (C := Try.checked) own started (by kernel_rfl) Try.func4 laidOut rfl Try.underlying4 rfl (by kernel_rfl) (fun ds hd => ?_)
    (ChangeSpec.witness6 (enc := enc) (C := Try.checked) false ⟨#[], #[.int .u64 0, .int .i64 0], []⟩ 8 (by kernel_rfl) (by kernel_rfl) (by kernel_rfl) (by kernel_rfl)) ?_
  · match ds, hd with
    | [d0, d1], _ => exact ⟨rfl, rfl, rfl⟩
  intro W base args ds p hval hA
  rw [Try.params4] at hA hval
  obtain ⟨v0, vs0, d0, ds0, p0, q0, hargs, rfl, rfl, h0, r0⟩ := trodAll_cons hA
  obtain ⟨v1, vs1, d1, ds1, p1, q1, rfl, rfl, rfl, h1, r1⟩ := trodAll_cons r0
  obtain ⟨rfl, rfl, rfl⟩ := trodAll_nil r1
  obtain rfl : args = #[v0, v1] := by cases args; simp_all
  obtain ⟨n, rfl, _, _, nw⟩ := open_int Try.underlying23 (hval 0 23 v0 rfl rfl) h0
  obtain ⟨b, rfl, _, _, bw⟩ := open_int Try.underlying3 (hval 1 3 v1 rfl rfl) h1
  exact by obtain ⟨k, rfl, hk⟩ := nat_u64 nw; exact law_turns k hk b W
theorem bitsTurns_over : Rows.bitsTurnsRow.holds Try.pinned (OpenSpec.ofChange Rows.bitsTurnsSpec) :=
  OpenClaim.holds_of_wide 4 Try.f4 rfl rfl rfl rfl rfl rfl rfl ⟨rfl, rfl, rfl, rfl, rfl⟩ rfl rfl rfl rfl rfl (by kernel_rfl) Try.func4 (by kernel_rfl)
    (of_decide_eq_true (by kernel_rfl)) (by unfold Func.isWrapper; first | (rw [if_pos (by decide +kernel)]; kernel_rfl) | (rw [if_neg (by decide +kernel)]; exact ⟨rfl, rfl⟩))
    (fun os started H enc _ => bitsTurns_lifted os started H enc)
theorem bitsTurns_holds : Rows.BitsTurnsSaid := bitsTurns_over
#print axioms bitsTurns_holds
end Go.Proofs.Ytmeampigomhdpaa
