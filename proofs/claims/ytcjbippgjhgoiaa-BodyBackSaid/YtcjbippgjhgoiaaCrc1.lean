/- Layer 2's sums (crc), in numbers, and the contracts of the functions that go bit by bit; the bounds stand in each. -/
import Derived.Test.YtcjbippgjhgoiaaBytes
import Derived.Laws.BitsAllLaws
import Derived.Test.YtcjbippgjhgoiaaWords
namespace Go.Proofs.Ytcjbippgjhgoiaa
open Go.ChangeShapes Go.WideShapes Go.ChangeAt Go.RowKit
set_option linter.unusedVariables false
set_option linter.unusedSimpArgs false
/-- One bit of a sum. -/
def stepC (s : Nat) : Nat := s / 2 ^^^ (if s % 2 = 1 then 3988292384 else 0)
def stepsC : Nat → Nat → Nat
  | 0, s => s
  | k + 1, s => stepC (stepsC k s)
/-- One byte. -/
def byteC (s c : Nat) : Nat := stepsC 8 (s ^^^ c)
/-- Bytes. -/
def goC (s : Nat) (l : List Nat) : Nat := l.foldl byteC s
def sumC (l : List Nat) : Nat := goC 4294967295 l ^^^ 4294967295
theorem wrap_u32_in (x : Int) (h0 : 0 ≤ x) (h1 : x < 4294967296) : IntKind.u32.wrap x = x := by
  rw [IntKind.wrap_u32]; exact Int.emod_eq_of_lt h0 h1
theorem xor32 {a b : Nat} (ha : a < 4294967296) (hb : b < 4294967296) : a ^^^ b < 4294967296 := Nat.xor_lt_two_pow (n := 32) ha hb
theorem stepC_lt {s : Nat} (h : s < 4294967296) : stepC s < 4294967296 := xor32 (by omega) (by split <;> omega)
theorem stepsC_lt {s : Nat} (h : s < 4294967296) : ∀ k, stepsC k s < 4294967296
  | 0 => h
  | k + 1 => stepC_lt (stepsC_lt h k)
theorem byteC_lt {s c : Nat} (h : s < 4294967296) (hc : c < 256) : byteC s c < 4294967296 := stepsC_lt (xor32 h (by omega)) 8
theorem goC_lt : ∀ {l : List Nat} {s : Nat}, s < 4294967296 → (∀ x ∈ l, x < 256) → goC s l < 4294967296
  | [], s, h, _ => h
  | c :: l, s, h, hx => by
    show goC (byteC s c) l < _
    exact goC_lt (byteC_lt h (hx c List.mem_cons_self)) (fun x hm => hx x (List.mem_cons_of_mem _ hm))
theorem goC_snoc (s : Nat) (l : List Nat) (c : Nat) : goC s (l ++ [c]) = byteC (goC s l) c := by simp [goC, List.foldl_append]
theorem goC_app (s : Nat) (l m : List Nat) : goC s (l ++ m) = goC (goC s l) m := by simp [goC, List.foldl_append]
theorem sumC_lt {l : List Nat} (hx : ∀ x ∈ l, x < 256) : sumC l < 4294967296 := xor32 (goC_lt (by omega) hx) (by omega)
theorem xor_bit (a b k : Nat) : (a ^^^ b) % 2 ^ (k + 1) = (a ^^^ b) % 2 ^ k + (if a / 2 ^ k % 2 = b / 2 ^ k % 2 then 0 else 2 ^ k) := by
  rw [Nat.mod_pow_succ]
  congr 1
  have h := Nat.testBit_xor (x := a) (y := b) (i := k)
  rw [Nat.testBit_eq_decide_div_mod_eq, Nat.testBit_eq_decide_div_mod_eq, Nat.testBit_eq_decide_div_mod_eq] at h
  have h1 : (a ^^^ b) / 2 ^ k % 2 < 2 := Nat.mod_lt _ (by omega)
  have h2 : a / 2 ^ k % 2 < 2 := Nat.mod_lt _ (by omega)
  have h3 : b / 2 ^ k % 2 < 2 := Nat.mod_lt _ (by omega)
  have e1 : (a ^^^ b) / 2 ^ k % 2 = 0 ∨ (a ^^^ b) / 2 ^ k % 2 = 1 := by omega
  have e2 : a / 2 ^ k % 2 = 0 ∨ a / 2 ^ k % 2 = 1 := by omega
  have e3 : b / 2 ^ k % 2 = 0 ∨ b / 2 ^ k % 2 = 1 := by omega
  rcases e1 with e1 | e1 <;> rcases e2 with e2 | e2 <;> rcases e3 with e3 | e3 <;> simp [e1, e2, e3] at h ⊢
set_option maxRecDepth 100000 in
theorem turned_ok (a b : Nat) (ha : a < 4294967296) (hb : b < 4294967296) (w : World) :
    Calls Try.prog 88 #[.int .u32 (a : Int), .int .u32 (b : Int)] w (Ret fun v w' => v = .int .u32 ((a ^^^ b : Nat) : Int) ∧ Below w.heap.size w w') := by
  have H := St.init w
  have HA := Lib.hid ha
  have HB := Lib.hid hb
  clear ha hb
  go_enter Try.func88, Try.ntmps88
  go_wp2_with fail
  go_loopw [7, 0, 1, 5, 6] (fun i x y o u wr => ∃ k p q m z : Nat, k ≤ 32 ∧ i = .int .i64 (k : Int) ∧ x = .int .u32 (p : Int) ∧ y = .int .u32 (q : Int) ∧ o = .int .u32 (m : Int) ∧ u = .int .u32 (z : Int) ∧ Hid (a / 2 ^ k = p) ∧ Hid (b / 2 ^ k = q) ∧ Hid ((a ^^^ b) % 2 ^ k = m) ∧ Hid (2 ^ k % 4294967296 = z) ∧ St w.heap.size w wr []) (fun i _ _ _ _ _ => 32 - (intOf i).toNat)
  case atStart => exact ⟨0, a, b, 0, 1, by omega, rfl, rfl, rfl, rfl, rfl, Lib.hid (by simp), Lib.hid (by simp), Lib.hid (by simp [Nat.mod_one]), Lib.hid (by decide), H⟩
  case round =>
    clear H
    obtain ⟨k, p, q, m, z, hk, rfl, rfl, rfl, rfl, rfl, HP, HQ, HM, HZ, H⟩ := hrel
    by_cases hlt : k < 32
    · have e2k : (2 : Nat) ^ k ≤ 2 ^ 31 := Nat.pow_le_pow_right (by omega) (by omega)
      have hz : 2 ^ k = z := by rw [← HZ.out]; exact (Nat.mod_eq_of_lt (by omega)).symm
      have hzz : z * 2 % 4294967296 = 2 ^ (k + 1) % 4294967296 := by rw [Nat.pow_succ, hz]
      have hm : m < z := by rw [← HM.out, ← hz]; exact Nat.mod_lt _ (Nat.two_pow_pos k)
      have hz31 : z ≤ 2147483648 := by rw [← hz]; exact e2k
      have hs := xor_bit a b k
      rw [HM.out, HP.out, HQ.out, hz] at hs
      have HS := Lib.hid hs
      have HZZ := Lib.hid hzz
      have HP2 : Hid (a / 2 ^ (k + 1) = p / 2) := Lib.hid (by rw [Nat.pow_succ, ← Nat.div_div_eq_div_mul, HP.out])
      have HQ2 : Hid (b / 2 ^ (k + 1) = q / 2) := Lib.hid (by rw [Nat.pow_succ, ← Nat.div_div_eq_div_mul, HQ.out])
      have hw : IntKind.u32.wrap ((m : Int) + (z : Int)) = (m : Int) + (z : Int) := wrap_u32_in _ (by omega) (by omega)
      clear hs hzz hz e2k
      have hpl : p < 4294967296 := by rw [← HP.out]; exact Nat.lt_of_le_of_lt (Nat.div_le_self _ _) HA.out
      have hql : q < 4294967296 := by rw [← HQ.out]; exact Nat.lt_of_le_of_lt (Nat.div_le_self _ _) HB.out
      by_cases hpq : p % 2 = q % 2
      · have hi : (p : Int) % 2 = (q : Int) % 2 := by omega
        go_wp2_with fail
        go_roundw
        case rel =>
          exact ⟨k + 1, p / 2, q / 2, m, z * 2 % 4294967296, by omega, by go_num, congrArg _ (by omega), congrArg _ (by omega), congrArg _ (by omega), congrArg _ (by omega), HP2, HQ2, Lib.hid (by rw [HS.out, if_pos hpq, Nat.add_zero]), Lib.hid HZZ.out.symm, H⟩
        case measure => simp [intOf]; omega
      · have hi : ¬ (p : Int) % 2 = (q : Int) % 2 := by omega
        go_wp2_with fail
        go_roundw
        case rel =>
          exact ⟨k + 1, p / 2, q / 2, m + z, z * 2 % 4294967296, by omega, by go_num, congrArg _ (by omega), congrArg _ (by omega), congrArg _ (by omega), congrArg _ (by omega), HP2, HQ2, Lib.hid (by rw [HS.out, if_neg hpq]), Lib.hid HZZ.out.symm, H⟩
        case measure => simp [intOf]; omega
    · obtain rfl : k = 32 := by omega
      go_wp2
      go_ret
      refine ⟨_, rfl, ?_, H.below⟩
      rw [← HM.out, Nat.mod_eq_of_lt (xor32 HA.out HB.out)]
      rfl
/-- A letter for a sum's bound. -/
theorem refgo_ok (s c : Nat) (hs : s < 4294967296) (hc : c < 256) (w : World) :
    Calls Try.prog 87 #[.int .u32 (s : Int), .int .u8 (c : Int)] w (Ret fun v w' => v = .int .u32 ((byteC s c : Nat) : Int) ∧ Below w.heap.size w w') := by
  have H := St.init w
  have hsc := xor32 hs (show c < 4294967296 by omega)
  have hwc : IntKind.u32.wrap (c : Int) = (c : Int) := wrap_u32_in _ (by omega) (by omega)
  have HSC := Lib.hid hsc
  clear hsc
  go_enter Try.func87, Try.ntmps87
  go_wp2_with (first | (go_at_call 88; refine (turned_ok s c (by omega) (by omega) _).mono ?_; rintro e w1 ⟨v, rfl, hr⟩; obtain ⟨rfl, hb1⟩ := hr; replace H := H.grow hb1; clear hb1))
  go_loopw [5, 0] (fun i x wr => ∃ k t : Nat, k ≤ 8 ∧ i = .int .i64 (k : Int) ∧ x = .int .u32 (t : Int) ∧ Hid (stepsC k (s ^^^ c) = t) ∧ St w.heap.size w wr []) (fun i _ _ => 8 - (intOf i).toNat)
  case atStart => exact ⟨0, s ^^^ c, by omega, rfl, rfl, Lib.hid rfl, H⟩
  case round =>
    clear H
    obtain ⟨k, t, hk, rfl, rfl, HT, H⟩ := hrel
    by_cases hlt : k < 8
    · have ht : t < 4294967296 := by rw [← HT.out]; exact stepsC_lt HSC.out k
      have hstep : stepsC (k + 1) (s ^^^ c) = stepC t := by rw [← HT.out]; rfl
      have hwt : IntKind.u32.wrap ((t : Int) / 2) = ((t / 2 : Nat) : Int) := by rw [wrap_u32_in _ (by omega) (by omega)]; omega
      by_cases ho : t % 2 = 1
      · have hi : (t : Int) % 2 = 1 := by omega
        rw [stepC, if_pos ho] at hstep
        have HST := Lib.hid hstep
        clear hstep
        go_wp2_with (first | (go_at_call 88; refine (turned_ok (t / 2) 3988292384 (by omega) (by omega) _).mono ?_; rintro e w1 ⟨v, rfl, hr⟩; obtain ⟨rfl, hb1⟩ := hr; replace H := H.grow hb1; clear hb1))
        go_roundw
        case rel => exact ⟨k + 1, _, by omega, by go_num, rfl, HST, H⟩
        case measure => simp [intOf]; omega
      · have hi : (t : Int) % 2 = 0 := by omega
        rw [stepC, if_neg ho, Nat.xor_zero] at hstep
        have HST := Lib.hid hstep
        clear hstep
        go_wp2_with fail
        go_roundw
        case rel => exact ⟨k + 1, t / 2, by omega, by go_num, congrArg _ (by omega), HST, H⟩
        case measure => simp [intOf]; omega
    · obtain rfl : k = 8 := by omega
      go_wp2
      go_ret
      refine ⟨_, rfl, ?_, H.below⟩
      rw [← HT.out]
      rfl
theorem begin_ok (w : World) : Calls Try.prog 84 #[] w (Ret fun v w' => v = .int .u32 4294967295 ∧ Below w.heap.size w w') := by
  have H := St.init w
  go_enter Try.func84, Try.ntmps84
  go_wp2
  go_ret
  exact ⟨_, rfl, rfl, H.below⟩
theorem end_ok (s : Nat) (hs : s < 4294967296) (w : World) : Calls Try.prog 86 #[.int .u32 (s : Int)] w (Ret fun v w' => v = .int .u32 ((s ^^^ 4294967295 : Nat) : Int) ∧ Below w.heap.size w w') := by
  have H := St.init w
  have HS := Lib.hid hs
  clear hs
  go_enter Try.func86, Try.ntmps86
  go_wp2
  go_ret
  refine ⟨_, rfl, ?_, H.below⟩
  have := bits_xor_u32 4294967295 s (by omega) HS.out
  rw [Nat.xor_comm]
  exact congrArg (Value.int IntKind.u32) this
set_option maxRecDepth 100000 in
set_option maxHeartbeats 1000000 in
theorem go_ok (s : Nat) (hs0 : s < 4294967296) (v : Value) (l : List Nat) (hl : l.length ≤ 1000000) (hx : ∀ x ∈ l, x < 256) (w : World) (hs : Sl w 1 l.length v (elB l)) :
    Calls Try.prog 85 #[.int .u32 (s : Int), v] w (Ret fun v w' => v = .int .u32 ((goC s l : Nat) : Int) ∧ Below w.heap.size w w') := by
  have hs' := hs
  obtain ⟨ad, cp, rfl, hm⟩ := hs'.len
  have H := St.init w
  have HX := Lib.hid hx
  have H0 := Lib.hid hs0
  clear hx hs0
  go_enter Try.func85, Try.ntmps85
  go_wp2_with (first | (with_reducible refine wpl rfl (Stp.ldc rfl agg5 rfl H (by repeat (first | exact List.mem_cons_self | apply List.mem_cons_of_mem)) (by first | (repeat (first | exact lit0 _ _ | apply lits)) | rfl | assumption) ?_); simp only [Act.put, List.setIfInBounds_toArray, List.set_cons_zero, List.set_cons_succ]) | (with_reducible refine wpl rfl (Stp.ldo rfl agg5 rfl H (by assumption) (by assumption) ?_); simp only [Act.put, List.setIfInBounds_toArray, List.set_cons_zero, List.set_cons_succ]))
  go_loopw [9, 0] (fun i x wr => ∃ k t : Nat, k ≤ l.length ∧ i = .int .i64 (k : Int) ∧ x = .int .u32 (t : Int) ∧ Hid (goC s (l.take k) = t) ∧ St w.heap.size w wr []) (fun i _ _ => l.length - (intOf i).toNat)
  case atStart => exact ⟨0, s, Nat.zero_le _, rfl, rfl, Lib.hid rfl, H⟩
  case round =>
    clear H
    obtain ⟨k, t, hk, rfl, rfl, HT, H⟩ := hrel
    by_cases hlt : k < l.length
    · obtain ⟨b1, o1, rfl, hb1, hc1⟩ := hs.byte hlt
      have ht : t < 4294967296 := by rw [← HT.out]; exact goC_lt H0.out (fun x hm => HX.out x (List.mem_of_mem_take hm))
      obtain ⟨y, hy⟩ : ∃ y : Nat, y = l.getD k 0 := ⟨_, rfl⟩
      have hy8 : y < 256 := by rw [hy]; exact getD_byte HX.out k
      rw [← hy] at hc1
      have hsn : goC s (l.take (k + 1)) = byteC t y := by rw [take_snoc l k hlt, goC_snoc, HT.out, hy]
      have HS := Lib.hid hsn
      have HY := Lib.hid hy
      clear hsn hy
      have hty := xor32 ht (show y < 4294967296 by omega)
      have exy := bits_xor_u32 t y ht (by omega)
      have ewy : IntKind.u32.wrap (y : Int) = (y : Int) := wrap_u32_in _ (by omega) (by omega)
      have HTY := Lib.hid hty
      clear hty
      go_wp2_with (first | (with_reducible refine wpl rfl (Stp.ldc rfl agg5 rfl H (by repeat (first | exact List.mem_cons_self | apply List.mem_cons_of_mem)) (by first | (repeat (first | exact lit0 _ _ | apply lits)) | rfl | assumption) ?_); simp only [Act.put, List.setIfInBounds_toArray, List.set_cons_zero, List.set_cons_succ]) | (with_reducible refine wpl rfl (Stp.ldo rfl agg5 rfl H (by assumption) (by assumption) ?_); simp only [Act.put, List.setIfInBounds_toArray, List.set_cons_zero, List.set_cons_succ]))
      go_loopw [17, 0] (fun i x wr => ∃ j r : Nat, j ≤ 8 ∧ i = .int .i64 (j : Int) ∧ x = .int .u32 (r : Int) ∧ Hid (stepsC j (t ^^^ y) = r) ∧ St w.heap.size w wr []) (fun i _ _ => 8 - (intOf i).toNat)
      case atStart => exact ⟨0, t ^^^ y, by omega, rfl, rfl, Lib.hid rfl, H⟩
      case round =>
        clear H
        obtain ⟨j, r, hj, rfl, rfl, HR, H⟩ := hrel
        by_cases hlt8 : j < 8
        · have hr : r < 4294967296 := by rw [← HR.out]; exact stepsC_lt HTY.out j
          have hstep : stepsC (j + 1) (t ^^^ y) = stepC r := by rw [← HR.out]; rfl
          have hw2 : IntKind.u32.wrap ((r : Int) / 2) = ((r / 2 : Nat) : Int) := by rw [wrap_u32_in _ (by omega) (by omega)]; omega
          have ea := bits_and_u32 r 1 hr (by omega)
          rw [Nat.and_one_is_mod] at ea
          have ea' : bits .and .u32 (r : Int) 1 = ((r % 2 : Nat) : Int) := ea
          clear ea
          by_cases ho : r % 2 = 1
          · rw [stepC, if_pos ho] at hstep
            rw [ho] at ea'
            have ea2 : bits .and .u32 (r : Int) 1 = 1 := ea'
            clear ea'
            have ex : bits .xor .u32 ((r / 2 : Nat) : Int) 3988292384 = ((r / 2 ^^^ 3988292384 : Nat) : Int) := bits_xor_u32 (r / 2) 3988292384 (by omega) (by omega)
            have en : bits .and .u32 3988292384 4294967295 = 3988292384 := by decide +kernel
            have HST := Lib.hid hstep
            have HEX := Lib.hid ex
            clear hstep ex
            go_wp2_with (first | (with_reducible refine wpl rfl (Stp.ldc rfl agg5 rfl H (by repeat (first | exact List.mem_cons_self | apply List.mem_cons_of_mem)) (by first | (repeat (first | exact lit0 _ _ | apply lits)) | rfl | assumption) ?_); simp only [Act.put, List.setIfInBounds_toArray, List.set_cons_zero, List.set_cons_succ]) | (with_reducible refine wpl rfl (Stp.ldo rfl agg5 rfl H (by assumption) (by assumption) ?_); simp only [Act.put, List.setIfInBounds_toArray, List.set_cons_zero, List.set_cons_succ]))
            go_roundw
            case rel => exact ⟨j + 1, _, by omega, by go_num, congrArg (Value.int IntKind.u32) HEX.out, HST, H⟩
            case measure => simp [intOf]; omega
          · rw [stepC, if_neg ho, Nat.xor_zero] at hstep
            rw [show r % 2 = 0 by omega] at ea'
            have ea2 : bits .and .u32 (r : Int) 1 = 0 := ea'
            clear ea'
            have ex : bits .xor .u32 ((r / 2 : Nat) : Int) 0 = ((r / 2 : Nat) : Int) := by
              have := bits_xor_u32 (r / 2) 0 (by omega) (by omega)
              rwa [Nat.xor_zero] at this
            have en : bits .and .u32 3988292384 0 = 0 := by decide +kernel
            have HST := Lib.hid hstep
            have HEX := Lib.hid ex
            clear hstep ex
            go_wp2_with (first | (with_reducible refine wpl rfl (Stp.ldc rfl agg5 rfl H (by repeat (first | exact List.mem_cons_self | apply List.mem_cons_of_mem)) (by first | (repeat (first | exact lit0 _ _ | apply lits)) | rfl | assumption) ?_); simp only [Act.put, List.setIfInBounds_toArray, List.set_cons_zero, List.set_cons_succ]) | (with_reducible refine wpl rfl (Stp.ldo rfl agg5 rfl H (by assumption) (by assumption) ?_); simp only [Act.put, List.setIfInBounds_toArray, List.set_cons_zero, List.set_cons_succ]))
            go_roundw
            case rel => exact ⟨j + 1, _, by omega, by go_num, congrArg (Value.int IntKind.u32) HEX.out, HST, H⟩
            case measure => simp [intOf]; omega
        · obtain rfl : j = 8 := by omega
          go_wp2_with (first | (with_reducible refine wpl rfl (Stp.ldc rfl agg5 rfl H (by repeat (first | exact List.mem_cons_self | apply List.mem_cons_of_mem)) (by first | (repeat (first | exact lit0 _ _ | apply lits)) | rfl | assumption) ?_); simp only [Act.put, List.setIfInBounds_toArray, List.set_cons_zero, List.set_cons_succ]) | (with_reducible refine wpl rfl (Stp.ldo rfl agg5 rfl H (by assumption) (by assumption) ?_); simp only [Act.put, List.setIfInBounds_toArray, List.set_cons_zero, List.set_cons_succ]))
          go_roundw
          case rel => exact ⟨k + 1, r, by omega, by go_num, rfl, Lib.hid (by rw [HS.out]; exact HR.out), H⟩
          case measure => simp [intOf]; omega
    · obtain rfl : k = l.length := by omega
      go_wp2
      go_ret
      refine ⟨_, rfl, ?_, H.below⟩
      rw [← HT.out, List.take_length]
      rfl
end Go.Proofs.Ytcjbippgjhgoiaa
