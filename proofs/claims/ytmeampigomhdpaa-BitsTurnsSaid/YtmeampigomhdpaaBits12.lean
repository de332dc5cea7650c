/- The statement BitsTops of layer 1 (bits), proved; no condition: the walks of Top and of the reference Bit, the law's walk, and the row round it. -/
import Derived.Test.YtmeampigomhdpaaBits10
import Derived.Laws.BitsAllLaws
namespace Go.Proofs.Ytmeampigomhdpaa
open Go.ChangeShapes Go.WideShapes Go.ChangeAt Go.RowKit Go.Deep
set_option linter.unusedVariables false
set_option linter.unusedSimpArgs false
theorem bit_ok (n at' : Nat) (hn : n < 18446744073709551616) (ha : at' ≤ 64) (x : Bool) (h : (((n / 2 ^ at' % 2 : Nat) : Int) == 1) = x) (w : World) :
    Calls Try.prog 22 #[.int .u64 (n : Int), .int .i64 (at' : Int)] w (Ret fun v w' => v = .bool x ∧ Below w.heap.size w w') := by
  have H := St.init w
  have HX := Lib.hid h
  clear h
  go_enter Try.func22, Try.ntmps22
  go_wp2_with fail
  go_loopw [0, 5] (fun x i wr => ∃ k m : Nat, k ≤ at' ∧ m < 18446744073709551616 ∧ Hid (n / 2 ^ k = m) ∧ x = .int .u64 (m : Int) ∧ i = .int .i64 k ∧ St w.heap.size w wr []) (fun _ i _ => at' - (intOf i).toNat)
  case atStart => exact ⟨0, n, Nat.zero_le _, hn, Lib.hid (by simp), rfl, rfl, H⟩
  case round =>
    clear H
    obtain ⟨k, m, hk, hm, HM, rfl, rfl, H⟩ := hrel
    by_cases hlt : k < at'
    · go_wp2_with fail
      go_roundw
      case rel =>
        refine ⟨k + 1, m / 2, by omega, by omega, Lib.hid ?_, ?_, by go_num, H⟩
        · rw [Nat.pow_succ, ← Nat.div_div_eq_div_mul, HM.out]
        · refine congrArg (Value.int IntKind.u64) ?_
          first | omega | (rw [wrap_u64_in _ (by omega) (by omega)]; omega)
      case measure => simp [intOf]; omega
    · obtain rfl : k = at' := by omega
      have e : ((m : Int) % 2 == 1) = x := by
        have := HX.out
        rw [HM.out] at this
        rw [← this, Int.natCast_emod]; rfl
      go_wp2
      go_ret
      exact ⟨_, rfl, rfl, H.below⟩
/-- What Top gives. -/
def isTop (n k : Nat) : Prop := k ≤ 64 ∧ n < 2 ^ k ∧ (0 < k → 2 ^ (k - 1) ≤ n)
theorem top_ok (n : Nat) (hn : n < 18446744073709551616) (w : World) :
    Calls Try.prog 26 #[.int .u64 (n : Int)] w (Ret fun v w' => ∃ k : Nat, v = .int .i64 (k : Int) ∧ isTop n k ∧ Below w.heap.size w w') := by
  have H := St.init w
  have HN := Lib.hid hn
  clear hn
  go_enter Try.func26, Try.ntmps26
  go_wp2_with fail
  go_loopw [0, 3, 4] (fun x k st wr => ∃ (m kk j : Nat), j ≤ 6 ∧ x = .int .u64 (m : Int) ∧ k = .int .i64 (kk : Int) ∧ Hid (m < 2 ^ (2 ^ (6 - j))) ∧ Hid (n / 2 ^ kk = m) ∧ Hid (kk + 2 ^ (6 - j) ≤ 64) ∧ Hid (0 < kk → m ≠ 0) ∧ st = .int .u64 (((2 ^ (6 - j) / 2 : Nat) : Int)) ∧ St w.heap.size w wr []) (fun _ _ st _ => (intOf st).toNat)
  case atStart => exact ⟨n, 0, 0, by omega, rfl, rfl, Lib.hid HN.out, Lib.hid (by simp), Lib.hid (by decide), Lib.hid (fun h => absurd h (by omega)), rfl, H⟩
  case round =>
    clear H
    obtain ⟨m, kk, j, hj, rfl, rfl, H1, H2, H3, H4, rfl, H⟩ := hrel
    have hj' : j = 0 ∨ j = 1 ∨ j = 2 ∨ j = 3 ∨ j = 4 ∨ j = 5 ∨ j = 6 := by omega
    rcases hj' with rfl | rfl | rfl | rfl | rfl | rfl | rfl
    · have e1 := H1.out
      have e3 : kk + 64 ≤ 64 := H3.out
      clear H1 H3
      have hm : m < 18446744073709551616 := e1
      clear e1
      have E4 := H4.out
      have es : (((2 ^ (6 - 0) / 2 : Nat)) : Int) = 32 := by decide
      rw [es]
      clear es
      by_cases hz : (m : Int) / 4294967296 = 0
      · have hd : ((m : Int) / 4294967296 != 0) = false := by rw [hz]; rfl
        have HD := Lib.hid hz
        clear hz E4
        go_wp2_with fail
        go_roundw
        case rel =>
          exact ⟨m, kk, 1, by omega, rfl, rfl, Lib.hid (by have := HD.out; show m < 4294967296; omega), H2, Lib.hid (by show kk + 32 ≤ 64; omega), H4, by first | rfl | (congr 1), H⟩
        case measure => simp [intOf]
      · have hd : ((m : Int) / 4294967296 != 0) = true := by simpa using hz
        have HD := Lib.hid hz
        clear hz E4
        go_wp2_with fail
        go_roundw
        case rel =>
          exact ⟨m / 4294967296, kk + 32, 1, by omega, by first | rfl | (congr 1), by first | rfl | (congr 1; omega) | go_num, Lib.hid (by show m / 4294967296 < 4294967296; omega), Lib.hid (by rw [Nat.pow_add, ← Nat.div_div_eq_div_mul, H2.out]), Lib.hid (by show kk + 32 + 32 ≤ 64; omega), Lib.hid (fun _ => by have := HD.out; omega), by first | rfl | (congr 1), H⟩
        case measure => simp [intOf]
    · have e1 := H1.out
      have e3 : kk + 32 ≤ 64 := H3.out
      clear H1 H3
      have hm : m < 4294967296 := e1
      clear e1
      have E4 := H4.out
      have es : (((2 ^ (6 - 1) / 2 : Nat)) : Int) = 16 := by decide
      rw [es]
      clear es
      by_cases hz : (m : Int) / 65536 = 0
      · have hd : ((m : Int) / 65536 != 0) = false := by rw [hz]; rfl
        have HD := Lib.hid hz
        clear hz E4
        go_wp2_with fail
        go_roundw
        case rel =>
          exact ⟨m, kk, 2, by omega, rfl, rfl, Lib.hid (by have := HD.out; show m < 65536; omega), H2, Lib.hid (by show kk + 16 ≤ 64; omega), H4, by first | rfl | (congr 1), H⟩
        case measure => simp [intOf]
      · have hd : ((m : Int) / 65536 != 0) = true := by simpa using hz
        have HD := Lib.hid hz
        clear hz E4
        go_wp2_with fail
        go_roundw
        case rel =>
          exact ⟨m / 65536, kk + 16, 2, by omega, by first | rfl | (congr 1), by first | rfl | (congr 1; omega) | go_num, Lib.hid (by show m / 65536 < 65536; omega), Lib.hid (by rw [Nat.pow_add, ← Nat.div_div_eq_div_mul, H2.out]), Lib.hid (by show kk + 16 + 16 ≤ 64; omega), Lib.hid (fun _ => by have := HD.out; omega), by first | rfl | (congr 1), H⟩
        case measure => simp [intOf]
    · have e1 := H1.out
      have e3 : kk + 16 ≤ 64 := H3.out
      clear H1 H3
      have hm : m < 65536 := e1
      clear e1
      have E4 := H4.out
      have es : (((2 ^ (6 - 2) / 2 : Nat)) : Int) = 8 := by decide
      rw [es]
      clear es
      by_cases hz : (m : Int) / 256 = 0
      · have hd : ((m : Int) / 256 != 0) = false := by rw [hz]; rfl
        have HD := Lib.hid hz
        clear hz E4
        go_wp2_with fail
        go_roundw
        case rel =>
          exact ⟨m, kk, 3, by omega, rfl, rfl, Lib.hid (by have := HD.out; show m < 256; omega), H2, Lib.hid (by show kk + 8 ≤ 64; omega), H4, by first | rfl | (congr 1), H⟩
        case measure => simp [intOf]
      · have hd : ((m : Int) / 256 != 0) = true := by simpa using hz
        have HD := Lib.hid hz
        clear hz E4
        go_wp2_with fail
        go_roundw
        case rel =>
          exact ⟨m / 256, kk + 8, 3, by omega, by first | rfl | (congr 1), by first | rfl | (congr 1; omega) | go_num, Lib.hid (by show m / 256 < 256; omega), Lib.hid (by rw [Nat.pow_add, ← Nat.div_div_eq_div_mul, H2.out]), Lib.hid (by show kk + 8 + 8 ≤ 64; omega), Lib.hid (fun _ => by have := HD.out; omega), by first | rfl | (congr 1), H⟩
        case measure => simp [intOf]
    · have e1 := H1.out
      have e3 : kk + 8 ≤ 64 := H3.out
      clear H1 H3
      have hm : m < 256 := e1
      clear e1
      have E4 := H4.out
      have es : (((2 ^ (6 - 3) / 2 : Nat)) : Int) = 4 := by decide
      rw [es]
      clear es
      by_cases hz : (m : Int) / 16 = 0
      · have hd : ((m : Int) / 16 != 0) = false := by rw [hz]; rfl
        have HD := Lib.hid hz
        clear hz E4
        go_wp2_with fail
        go_roundw
        case rel =>
          exact ⟨m, kk, 4, by omega, rfl, rfl, Lib.hid (by have := HD.out; show m < 16; omega), H2, Lib.hid (by show kk + 4 ≤ 64; omega), H4, by first | rfl | (congr 1), H⟩
        case measure => simp [intOf]
      · have hd : ((m : Int) / 16 != 0) = true := by simpa using hz
        have HD := Lib.hid hz
        clear hz E4
        go_wp2_with fail
        go_roundw
        case rel =>
          exact ⟨m / 16, kk + 4, 4, by omega, by first | rfl | (congr 1), by first | rfl | (congr 1; omega) | go_num, Lib.hid (by show m / 16 < 16; omega), Lib.hid (by rw [Nat.pow_add, ← Nat.div_div_eq_div_mul, H2.out]), Lib.hid (by show kk + 4 + 4 ≤ 64; omega), Lib.hid (fun _ => by have := HD.out; omega), by first | rfl | (congr 1), H⟩
        case measure => simp [intOf]
    · have e1 := H1.out
      have e3 : kk + 4 ≤ 64 := H3.out
      clear H1 H3
      have hm : m < 16 := e1
      clear e1
      have E4 := H4.out
      have es : (((2 ^ (6 - 4) / 2 : Nat)) : Int) = 2 := by decide
      rw [es]
      clear es
      by_cases hz : (m : Int) / 4 = 0
      · have hd : ((m : Int) / 4 != 0) = false := by rw [hz]; rfl
        have HD := Lib.hid hz
        clear hz E4
        go_wp2_with fail
        go_roundw
        case rel =>
          exact ⟨m, kk, 5, by omega, rfl, rfl, Lib.hid (by have := HD.out; show m < 4; omega), H2, Lib.hid (by show kk + 2 ≤ 64; omega), H4, by first | rfl | (congr 1), H⟩
        case measure => simp [intOf]
      · have hd : ((m : Int) / 4 != 0) = true := by simpa using hz
        have HD := Lib.hid hz
        clear hz E4
        go_wp2_with fail
        go_roundw
        case rel =>
          exact ⟨m / 4, kk + 2, 5, by omega, by first | rfl | (congr 1), by first | rfl | (congr 1; omega) | go_num, Lib.hid (by show m / 4 < 4; omega), Lib.hid (by rw [Nat.pow_add, ← Nat.div_div_eq_div_mul, H2.out]), Lib.hid (by show kk + 2 + 2 ≤ 64; omega), Lib.hid (fun _ => by have := HD.out; omega), by first | rfl | (congr 1), H⟩
        case measure => simp [intOf]
    · have e1 := H1.out
      have e3 : kk + 2 ≤ 64 := H3.out
      clear H1 H3
      have hm : m < 4 := e1
      clear e1
      have E4 := H4.out
      have es : (((2 ^ (6 - 5) / 2 : Nat)) : Int) = 1 := by decide
      rw [es]
      clear es
      by_cases hz : (m : Int) / 2 = 0
      · have hd : ((m : Int) / 2 != 0) = false := by rw [hz]; rfl
        have HD := Lib.hid hz
        clear hz E4
        go_wp2_with fail
        go_roundw
        case rel =>
          exact ⟨m, kk, 6, by omega, rfl, rfl, Lib.hid (by have := HD.out; show m < 2; omega), H2, Lib.hid (by show kk + 1 ≤ 64; omega), H4, by first | rfl | (congr 1), H⟩
        case measure => simp [intOf]
      · have hd : ((m : Int) / 2 != 0) = true := by simpa using hz
        have HD := Lib.hid hz
        clear hz E4
        go_wp2_with fail
        go_roundw
        case rel =>
          exact ⟨m / 2, kk + 1, 6, by omega, by first | rfl | (congr 1), by first | rfl | (congr 1; omega) | go_num, Lib.hid (by show m / 2 < 2; omega), Lib.hid (by rw [Nat.pow_add, ← Nat.div_div_eq_div_mul, H2.out]), Lib.hid (by show kk + 1 + 1 ≤ 64; omega), Lib.hid (fun _ => by have := HD.out; omega), by first | rfl | (congr 1), H⟩
        case measure => simp [intOf]
    · have e1 : m < 2 := H1.out
      have e3 : kk + 1 ≤ 64 := H3.out
      have es : (((2 ^ (6 - 6) / 2 : Nat)) : Int) = 0 := by decide
      rw [es]
      clear es
      go_wp2_with fail
      go_ret
      have hm : m = 0 ∨ m = 1 := by omega
      have e2 := H2.out
      have e4 := H4.out
      refine ⟨_, rfl, kk + m, by first | rfl | (congr 1) | go_num, ⟨by omega, ?_, ?_⟩, H.below⟩
      · rcases hm with rfl | rfl
        · have : kk = 0 := by
            rcases Nat.eq_zero_or_pos kk with h | h
            · exact h
            · exact absurd rfl (e4 h)
          subst this; simp at e2; simp [e2]
        · have h3 : 0 < 2 ^ kk := Nat.two_pow_pos kk
          rw [Nat.pow_succ]
          have := Nat.lt_mul_of_div_lt (show n / 2 ^ kk < 2 by omega) h3
          rw [Nat.mul_comm]; exact this
      · intro h0
        rcases hm with rfl | rfl
        · have := e4 h0; exact absurd rfl this
        · have h3 : 0 < 2 ^ kk := Nat.two_pow_pos kk
          rw [Nat.add_sub_cancel]
          have := Nat.mul_le_of_le_div _ _ _ (show 1 ≤ n / 2 ^ kk by omega)
          simpa using this
end Go.Proofs.Ytmeampigomhdpaa
