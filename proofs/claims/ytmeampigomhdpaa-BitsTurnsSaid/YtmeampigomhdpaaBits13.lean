/- The statement BitsTops of layer 1 (bits), proved; no condition: the law's walk, and the row round it. -/
import Derived.Test.YtmeampigomhdpaaBits12
namespace Go.Proofs.Ytmeampigomhdpaa
open Go.ChangeShapes Go.WideShapes Go.ChangeAt Go.RowKit Go.Deep
set_option linter.unusedVariables false
set_option linter.unusedSimpArgs false
theorem top_ex (n : Nat) : ∀ m, n < 2 ^ m → ∃ k, k ≤ m ∧ n < 2 ^ k ∧ (0 < k → 2 ^ (k - 1) ≤ n)
  | 0, h => ⟨0, Nat.le_refl _, h, fun h => absurd h (Nat.lt_irrefl _)⟩
  | m + 1, h => by
    rcases Nat.lt_or_ge n (2 ^ m) with h1 | h1
    · obtain ⟨k, a, b⟩ := top_ex n m h1
      exact ⟨k, by omega, b⟩
    · exact ⟨m + 1, Nat.le_refl _, h, fun _ => h1⟩
theorem top_le {n k k' : Nat} (h : isTop n k) (h' : isTop n k') : k' ≤ k := by
  rcases Nat.lt_or_ge k k' with h1 | h1
  · have h2 := h'.2.2 (by omega)
    have h3 := h.2.1
    have h4 : 2 ^ k ≤ 2 ^ (k' - 1) := Nat.pow_le_pow_right (by omega) (by omega)
    omega
  · exact h1
theorem top_fix (n k : Nat) (hn : n < 18446744073709551616) (hk : isTop n k) (w : World) :
    Calls Try.prog 26 #[.int .u64 (n : Int)] w (Ret fun v w' => v = .int .i64 (k : Int) ∧ Below w.heap.size w w') := by
  refine (top_ok n hn w).mono fun e w' hr => ?_
  obtain ⟨v, rfl, k', rfl, hk', hb⟩ := hr
  have e : k' = k := Nat.le_antisymm (top_le hk hk') (top_le hk' hk)
  subst e
  exact ⟨_, rfl, rfl, hb⟩
theorem bit_at (n : Nat) (z : Int) (at' : Nat) (hz : z = at') (hn : n < 18446744073709551616) (ha : at' ≤ 64) (x : Bool) (h : (((n / 2 ^ at' % 2 : Nat) : Int) == 1) = x) (w : World) :
    Calls Try.prog 22 #[.int .u64 (n : Int), .int .i64 z] w (Ret fun v w' => v = .bool x ∧ Below w.heap.size w w') := by
  subst hz; exact bit_ok n at' hn ha x h w
theorem top_high {n k q : Nat} (h : isTop n k) (hq : k ≤ q) : (((n / 2 ^ q % 2 : Nat) : Int) == 1) = false := by
  have h1 : n < 2 ^ q := Nat.lt_of_lt_of_le h.2.1 (Nat.pow_le_pow_right (by omega) hq)
  rw [Nat.div_eq_of_lt h1]; rfl
theorem top_bit {n k : Nat} (h : isTop n k) (hk : 0 < k) : (((n / 2 ^ (k - 1) % 2 : Nat) : Int) == 1) = true := by
  have h3 : 0 < 2 ^ (k - 1) := Nat.two_pow_pos _
  have h1 : 1 ≤ n / 2 ^ (k - 1) := (Nat.le_div_iff_mul_le h3).2 (by have := h.2.2 hk; omega)
  have h2 : n / 2 ^ (k - 1) < 2 := (Nat.div_lt_iff_lt_mul h3).2 (by
    have := h.2.1
    rw [show k = (k - 1) + 1 by omega, Nat.pow_succ] at this
    rw [Nat.mul_comm]; exact this)
  have h4 : n / 2 ^ (k - 1) = 1 := by omega
  rw [h4]; rfl
set_option maxRecDepth 100000 in
set_option maxHeartbeats 1000000 in
theorem law_tops (n : Nat) (hn : n < 18446744073709551616) (w : World) :
    Calls Try.prog 7 #[.int .u64 (n : Int)] w (Ret fun v w' => v = .bool true ∧ Below w.heap.size w w') := by
  have H := St.init w
  obtain ⟨k, hk⟩ : ∃ k, isTop n k := top_ex n 64 (by rw [show (2 : Nat) ^ 64 = 18446744073709551616 by decide +kernel]; exact hn)
  have hk64 : k ≤ 64 := hk.1
  have hhi : ∀ q, k ≤ q → (((n / 2 ^ q % 2 : Nat) : Int) == 1) = false := fun q hq => top_high hk hq
  have HH := Lib.hid hhi
  have HN := Lib.hid hn
  have HK := Lib.hid hk
  clear hhi hn
  rcases Nat.eq_zero_or_pos k with h0 | h0
  · have hn0 : n = 0 := by
      have := hk.2.1
      rw [h0] at this; simpa using this
    clear hk
    subst h0
    subst hn0
    go_enter Try.func7, Try.ntmps7
    go_wp2_with (first | (go_at_call 13; refine (awake_ok _).mono ?_; rintro e w1 ⟨v, rfl, hr⟩; obtain ⟨rfl, hb1⟩ := hr; replace H := H.grow hb1; clear hb1) | (go_at_call 26; refine (top_fix 0 0 HN.out HK.out _).mono ?_; rintro e w1 ⟨v, rfl, hr⟩; obtain ⟨rfl, hb1⟩ := hr; replace H := H.grow hb1; clear hb1))
    go_loopw [4] (fun i wr => ∃ q : Nat, q ≤ 64 ∧ i = .int .i64 q ∧ St w.heap.size w wr []) (fun i _ => 64 - (intOf i).toNat)
    case atStart => exact ⟨0, by omega, rfl, H⟩
    case round =>
      clear H
      obtain ⟨q, hq, rfl, H⟩ := hrel
      by_cases hlt : q < 64
      · go_wp2_with (first | (go_at_call 13; refine (awake_ok _).mono ?_; rintro e w1 ⟨v, rfl, hr⟩; obtain ⟨rfl, hb1⟩ := hr; replace H := H.grow hb1; clear hb1) | (go_at_call 22; refine (bit_ok 0 q HN.out (by omega) false (HH.out q (Nat.zero_le _)) _).mono ?_; rintro e w1 ⟨v, rfl, hr⟩; obtain ⟨rfl, hb1⟩ := hr; replace H := H.grow hb1; clear hb1))
        go_roundw
        case rel => exact ⟨q + 1, by omega, by go_num, H⟩
        case measure => simp [intOf]; omega
      · obtain rfl : q = 64 := by omega
        go_wp2_with (first | (go_at_call 13; refine (awake_ok _).mono ?_; rintro e w1 ⟨v, rfl, hr⟩; obtain ⟨rfl, hb1⟩ := hr; replace H := H.grow hb1; clear hb1))
        go_ret
        exact ⟨_, rfl, rfl, H.below⟩
  · have hn0 : n ≠ 0 := by
      have := hk.2.2 h0
      have h3 : 0 < 2 ^ (k - 1) := Nat.two_pow_pos _
      omega
    have e1 : ((n : Int) == 0) = false := by simpa using hn0
    have e2 : ((k : Int) == 0) = false := by simp; omega
    have HB := Lib.hid (top_bit hk h0)
    clear hk
    go_enter Try.func7, Try.ntmps7
    go_wp2_with (first | (go_at_call 13; refine (awake_ok _).mono ?_; rintro e w1 ⟨v, rfl, hr⟩; obtain ⟨rfl, hb1⟩ := hr; replace H := H.grow hb1; clear hb1) | (go_at_call 26; refine (top_fix n k HN.out HK.out _).mono ?_; rintro e w1 ⟨v, rfl, hr⟩; obtain ⟨rfl, hb1⟩ := hr; replace H := H.grow hb1; clear hb1) | (go_at_call 22; refine (bit_at n _ (k - 1) (by omega) HN.out (by omega) true HB.out _).mono ?_; rintro e w1 ⟨v, rfl, hr⟩; obtain ⟨rfl, hb1⟩ := hr; replace H := H.grow hb1; clear hb1))
    go_loopw [4] (fun i wr => ∃ q : Nat, k ≤ q ∧ q ≤ 64 ∧ i = .int .i64 q ∧ St w.heap.size w wr []) (fun i _ => 64 - (intOf i).toNat)
    case atStart => exact ⟨k, by omega, by omega, rfl, H⟩
    case round =>
      clear H
      obtain ⟨q, hkq, hq, rfl, H⟩ := hrel
      by_cases hlt : q < 64
      · go_wp2_with (first | (go_at_call 13; refine (awake_ok _).mono ?_; rintro e w1 ⟨v, rfl, hr⟩; obtain ⟨rfl, hb1⟩ := hr; replace H := H.grow hb1; clear hb1) | (go_at_call 22; refine (bit_ok n q HN.out (by omega) false (HH.out q hkq) _).mono ?_; rintro e w1 ⟨v, rfl, hr⟩; obtain ⟨rfl, hb1⟩ := hr; replace H := H.grow hb1; clear hb1))
        go_roundw
        case rel => exact ⟨q + 1, by omega, by omega, by go_num, H⟩
        case measure => simp [intOf]; omega
      · obtain rfl : q = 64 := by omega
        go_wp2_with (first | (go_at_call 13; refine (awake_ok _).mono ?_; rintro e w1 ⟨v, rfl, hr⟩; obtain ⟨rfl, hb1⟩ := hr; replace H := H.grow hb1; clear hb1))
        go_ret
        exact ⟨_, rfl, rfl, H.below⟩
set_option maxRecDepth 100000 in
theorem bitsTops_lifted (os : Os) (started : os.Started) (H : Type) (enc : TypeId × Value → H) :
    ReturnsInHanded {} Try.checked os 7 .any (Rows.bitsTopsSpec.pre6 enc Try.prog Try.f7 Rows.bitsTopsRow.domain false) (Rows.bitsTopsSpec.post enc Try.prog Try.f7 false true false false) := by
  refine law_lifted (C := Try.checked) own started (by kernel_rfl) Try.func7 laidOut rfl Try.underlying4 rfl (by kernel_rfl) (fun ds hd => ?_)
    (ChangeSpec.witness6 (enc := enc) (C := Try.checked) false ⟨#[], #[.int .u64 0], []⟩ 8 (by kernel_rfl) (by kernel_rfl) (by kernel_rfl) (by kernel_rfl)) ?_
  · match ds, hd with
    | [d0], _ => exact ⟨rfl, rfl, rfl⟩
  intro W base args ds p hval hA
  rw [Try.params7] at hA hval
  obtain ⟨v0, vs0, d0, ds0, p0, q0, hargs, rfl, rfl, h0, r0⟩ := trodAll_cons hA
  obtain ⟨rfl, rfl, rfl⟩ := trodAll_nil r0
  obtain rfl : args = #[v0] := by cases args; simp_all
  obtain ⟨n, rfl, _, _, nw⟩ := open_int Try.underlying23 (hval 0 23 v0 rfl rfl) h0
  exact by obtain ⟨k, rfl, hk⟩ := nat_u64 nw; exact law_tops k hk W
theorem bitsTops_over : Rows.bitsTopsRow.holds Try.pinned (OpenSpec.ofChange Rows.bitsTopsSpec) :=
  OpenClaim.holds_of_wide 7 Try.f7 rfl rfl rfl rfl rfl rfl rfl ⟨rfl, rfl, rfl, rfl, rfl⟩ rfl rfl rfl rfl rfl (by kernel_rfl) Try.func7 (by kernel_rfl)
    (of_decide_eq_true (by kernel_rfl)) (by unfold Func.isWrapper; first | (rw [if_pos (by decide +kernel)]; kernel_rfl) | (rw [if_neg (by decide +kernel)]; exact ⟨rfl, rfl⟩))
    (fun os started H enc _ => bitsTops_lifted os started H enc)
theorem bitsTops_holds : Rows.BitsTopsSaid := bitsTops_over
#print axioms bitsTops_holds
end Go.Proofs.Ytmeampigomhdpaa
