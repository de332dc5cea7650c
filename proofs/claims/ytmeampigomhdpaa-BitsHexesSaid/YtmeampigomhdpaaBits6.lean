/- Contracts of layer 1's reference Short, and the document's examples of that layer; no condition. -/
import Derived.Test.YtmeampigomhdpaaBits5
namespace Go.Proofs.Ytmeampigomhdpaa
open Go.ChangeShapes Go.WideShapes Go.ChangeAt Go.RowKit
set_option linter.unusedVariables false
set_option linter.unusedSimpArgs false
set_option maxRecDepth 100000 in
theorem rshort_ok (n : Nat) (hn : n < 18446744073709551616) (w : World) :
    Calls Try.prog 32 #[.int .u64 (n : Int)] w (Ret fun v' w' => (∃ ap cp, v' = .slice ap (shortB n).length cp) ∧ w'.ownsRow w.heap.size 5 1 v' (shortB n).length (bv (shortB n)) ∧ Below w.heap.size w w') := by
  have HN := Lib.hid hn
  clear hn
  have H := (St.init w).nil 5 1
  go_enter Try.func32, Try.ntmps32
  go_wp2_with fail
  go_loopw [0, 3] (fun x o wr => ∃ (k m : Nat) (pre : List Nat), k ≤ 9 ∧ pre.length = k ∧ x = .int .u64 (m : Int) ∧ Hid (m < 2 ^ (64 - 7 * k)) ∧ Hid (shortB n = pre ++ shortF (9 - k) m) ∧ ∃ ap cp, o = .slice ap pre.length cp ∧ St w.heap.size w wr [slc 5 1 (.slice ap pre.length cp) pre.length (bv pre)]) (fun x _ _ => (intOf x).toNat)
  case atStart => exact ⟨0, n, [], Nat.zero_le _, rfl, rfl, Lib.hid (by simpa using HN.out), Lib.hid (by simp [shortB]), _, _, rfl, H⟩
  case round =>
    clear H
    obtain ⟨k, m, pre, hk, hpl, rfl, HM, HS, ap, cp, rfl, H⟩ := hrel
    have hp9 : pre.length ≤ 9 := by omega
    have HP := Lib.hid hpl
    clear hpl
    by_cases hlt : m < 128
    · have hd : decide ((128 : Int) ≤ (m : Int)) = false := by simp; omega
      go_wp2_with (first | (with_reducible refine wpl rfl (Stp.bsl1 18 rfl rfl Try.underlying22 size5 zero5 rfl rfl H ?_); clear H; intro g18 w1 H; simp only [Act.put, List.setIfInBounds_toArray, List.set_cons_zero, List.set_cons_succ]) | (with_reducible refine wpl rfl (Stp.app 19 rfl rfl Try.underlying22 info5 rfl (by decide) rfl rfl H (fun _ => (by repeat (first | exact Upd.head | apply Upd.tail))) rfl (new1 (H.getRow (by repeat (first | exact List.mem_cons_self | apply List.mem_cons_of_mem)))) (by simp [Value.oneCell']) (by unfold maxLen; omega) (by omega) ?_); clear H; intro a19 c19 w1 H; simp only [Act.put, List.setIfInBounds_toArray, List.set_cons_zero, List.set_cons_succ]))
      go_ret
      have e : shortB n = pre ++ [m] := by rw [HS.out, shortF_small _ _ hlt, Nat.mod_eq_of_lt (by omega)]
      have hlen : (shortB n).length = pre.length + 1 := by rw [e]; simp
      have ho := H.getSlc (by repeat (first | exact List.mem_cons_self | apply List.mem_cons_of_mem))
      have e2 : bv pre ++ [Value.int .u8 (m : Int)] = bv (shortB n) := by rw [e]; simp [bv]
      rw [e2] at ho
      rw [hlen]
      exact ⟨_, rfl, ⟨_, _, rfl⟩, ho, H.below⟩
    · have hd : decide ((128 : Int) ≤ (m : Int)) = true := by simp; omega
      have hk8 : k ≤ 8 := by
        rcases Nat.lt_or_ge k 9 with h | h
        · omega
        · have h2 := HM.out
          have : k = 9 := by omega
          subst this
          have : (2 : Nat) ^ (64 - 7 * 9) = 2 := by decide
          omega
      go_wp2_with (first | (with_reducible refine wpl rfl (Stp.bsl1 11 rfl rfl Try.underlying22 size5 zero5 rfl rfl H ?_); clear H; intro g11 w1 H; simp only [Act.put, List.setIfInBounds_toArray, List.set_cons_zero, List.set_cons_succ]) | (with_reducible refine wpl rfl (Stp.app 12 rfl rfl Try.underlying22 info5 rfl (by decide) rfl rfl H (fun _ => (by repeat (first | exact Upd.head | apply Upd.tail))) rfl (new1 (H.getRow (by repeat (first | exact List.mem_cons_self | apply List.mem_cons_of_mem)))) (by simp [Value.oneCell']) (by unfold maxLen; omega) (by omega) ?_); clear H; intro a12 c12 w1 H; simp only [Act.put, List.setIfInBounds_toArray, List.set_cons_zero, List.set_cons_succ]))
      have hm64 : m < 18446744073709551616 := Nat.lt_of_lt_of_le HM.out (by
        have : (2 : Nat) ^ (64 - 7 * k) ≤ 2 ^ 64 := Nat.pow_le_pow_right (by omega) (by omega)
        simpa using this)
      have ew : IntKind.u64.wrap ((m : Int) / 128) = ((m / 128 : Nat) : Int) := by
        rw [Int.natCast_ediv]; exact wrap_u64_in _ (by omega) (by omega)
      have eo : ((m : Int) % 128 + 128) = ((m % 128 + 128 : Nat) : Int) := by omega
      rw [ew]
      rw [eo] at H
      clear hm64
      go_roundw
      case rel =>
        refine ⟨k + 1, m / 128, pre ++ [m % 128 + 128], by omega, by simp [HP.out], rfl, Lib.hid ?_, Lib.hid ?_, a12, c12, by simp, ?_⟩
        · have h2 := HM.out
          have h3 : (2 : Nat) ^ (64 - 7 * k) = 128 * 2 ^ (64 - 7 * (k + 1)) := by
            rw [show 64 - 7 * k = 7 + (64 - 7 * (k + 1)) by omega, Nat.pow_add]
          rw [h3] at h2
          exact Nat.div_lt_of_lt_mul h2
        · rw [HS.out, show 9 - k = (9 - (k + 1)) + 1 by omega, shortF_big _ _ hlt]; simp
        · have e2 : bv pre ++ [Value.int .u8 ((m % 128 + 128 : Nat) : Int)] = bv (pre ++ [m % 128 + 128]) := by simp [bv]
          rw [e2] at H
          have e3 : (pre ++ [m % 128 + 128]).length = pre.length + 1 := by simp
          rw [e3]
          exact H.tl
      case measure => simp [intOf]; omega
theorem zig_ex (w : World) : Calls Try.prog 23 #[.int .i64 (-1)] w (Ret fun v w' => v = .int .u64 1 ∧ Below w.heap.size w w') := by
  have H := St.init w
  go_enter Try.func23, Try.ntmps23
  go_wp2
  go_ret
  exact ⟨_, rfl, by kernel_rfl, H.below⟩
theorem turn_ok (n : Nat) (hn : n < 18446744073709551616) (b : Int) (k : Nat) (hk : k < 64) (hs : bits .and .u64 (IntKind.u64.wrap b) 63 = (k : Int)) (w : World) : Calls Try.prog 20 #[.int .u64 (n : Int), .int .i64 b] w (Ret fun v w' => v = .int .u64 (bits .or .u64 (IntKind.u64.wrap ((n : Int) * 2 ^ k)) ((n : Int) / 2 ^ (64 - k))) ∧ Below w.heap.size w w') := by
  have H := St.init w
  have HN := Lib.hid hn
  clear hn
  have e64 : ((64 : Int) - (k : Int)).toNat = 64 - k := by omega
  have ew : IntKind.u64.wrap ((64 : Int) - (k : Int)) = (64 : Int) - (k : Int) := wrap_u64_in _ (by omega) (by omega)
  go_enter Try.func20, Try.ntmps20
  go_wp2
  go_ret
  exact ⟨_, rfl, rfl, H.below⟩
theorem turn_ex (w : World) : Calls Try.prog 20 #[.int .u64 1, .int .i64 (-1)] w (Ret fun v w' => v = .int .u64 9223372036854775808 ∧ Below w.heap.size w w') := by
  have h := turn_ok 1 (by omega) (-1) 63 (by omega) (by kernel_rfl) w
  refine h.mono fun e w' hr => ?_
  obtain ⟨v, rfl, rfl, hb⟩ := hr
  exact ⟨_, rfl, by kernel_rfl, hb⟩
theorem own_sl {w : World} {b : Nat} {v : Value} {l : List Nat} (h : w.ownsRow b 5 1 v l.length (bv l)) (hm : l.length ≤ 1000000) : Sl w 1 l.length v (elB l) :=
  Sl.of_own h (fun i hi => by simp [bv, elB, List.getD, hi]) (by unfold maxLen; omega)
theorem row_sl {w : World} {g c : Nat} {l : List Nat} (h : rowAt w g = some (bv l).toArray) (hm : l.length ≤ 1000000) : Sl w 1 l.length (.slice (some ⟨g, 0, none⟩) l.length c) (elB l) :=
  Sl.of_row h (by unfold maxLen; omega) (fun i hi j hj => by
    obtain rfl : j = 0 := by omega
    simp [bv, elB, List.getD, hi])
theorem awake_ok (w : World) : Calls Try.prog 13 #[] w (Ret fun v w' => v = .bool true ∧ Below w.heap.size w w') := by
  have H := St.init w
  have hnil : Sl w 1 ([] : List Nat).length (.slice none 0 0) (elB []) := ⟨_, _, rfl, by simp [maxLen], fun h => absurd h (Nat.lt_irrefl _)⟩
  go_enter Try.func13, Try.ntmps13
  go_wp2_with (first | (with_reducible refine wpl rfl (Stp.bsl (e := 5) (cs := #[.int .u8 1, .int .u8 2]) 2 rfl rfl (fun W => by kernel_rfl) H ?_); clear H; intro g2 w1 H; simp only [Act.put, List.setIfInBounds_toArray, List.set_cons_zero, List.set_cons_succ]) | (with_reducible refine wpl rfl (Stp.bsl (e := 5) (cs := #[.int .u8 172, .int .u8 2]) 6 rfl rfl (fun W => by kernel_rfl) H ?_); clear H; intro g6 w1 H; simp only [Act.put, List.setIfInBounds_toArray, List.set_cons_zero, List.set_cons_succ]) | (go_at_call 15; refine (put_ok _ [] 258 (by omega) 2 (by decide) (by simp) _ (hnil.grow H.below)).mono ?_; rintro e w1 ⟨v, rfl, hr⟩; obtain ⟨⟨ap, cp, rfl⟩, ho, hb1⟩ := hr; replace H := H.new hb1 (slc_sound ho) (fun g hg => (ho.lt g hg).1); clear hb1 ho) | (go_at_call 29; refine (putshort_ok _ [] 300 (by omega) (by simp) _ (hnil.grow H.below)).mono ?_; rintro e w1 ⟨v, rfl, hr⟩; obtain ⟨⟨ap, cp, rfl⟩, ho, hb1⟩ := hr; replace H := H.new hb1 (slc_sound ho) (fun g hg => (ho.lt g hg).1); clear hb1 ho) | (go_at_call 23; refine (zig_ex _).mono ?_; rintro e w1 ⟨v, rfl, hr⟩; obtain ⟨rfl, hb1⟩ := hr; replace H := H.grow hb1; clear hb1) | (go_at_call 20; refine (turn_ex _).mono ?_; rintro e w1 ⟨v, rfl, hr⟩; obtain ⟨rfl, hb1⟩ := hr; replace H := H.grow hb1; clear hb1))
  have s1 : Sl w1 1 [1, 2].length (.slice ap 2 cp) (elB [1, 2]) := own_sl (l := [1, 2]) (H.getSlc (by repeat (first | exact List.mem_cons_self | apply List.mem_cons_of_mem))) (by decide)
  have s2 : Sl w1 1 [1, 2].length (.slice (some ⟨g2, 0, none⟩) 2 2) (elB [1, 2]) := row_sl (l := [1, 2]) (H.getRow (t := 5) (by repeat (first | exact List.mem_cons_self | apply List.mem_cons_of_mem))) (by decide)
  refine (same_ok _ _ [1, 2] [1, 2] _ s1 s2).mono ?_
  rintro e w1 ⟨v, rfl, rfl, hb1⟩
  replace H := H.grow hb1
  clear hb1 s1 s2
  rw [beq_self_eq_true]
  go_wp2_with (first | (with_reducible refine wpl rfl (Stp.bsl (e := 5) (cs := #[.int .u8 1, .int .u8 2]) 2 rfl rfl (fun W => by kernel_rfl) H ?_); clear H; intro g2 w1 H; simp only [Act.put, List.setIfInBounds_toArray, List.set_cons_zero, List.set_cons_succ]) | (with_reducible refine wpl rfl (Stp.bsl (e := 5) (cs := #[.int .u8 172, .int .u8 2]) 6 rfl rfl (fun W => by kernel_rfl) H ?_); clear H; intro g6 w1 H; simp only [Act.put, List.setIfInBounds_toArray, List.set_cons_zero, List.set_cons_succ]) | (go_at_call 15; refine (put_ok _ [] 258 (by omega) 2 (by decide) (by simp) _ (hnil.grow H.below)).mono ?_; rintro e w1 ⟨v, rfl, hr⟩; obtain ⟨⟨ap, cp, rfl⟩, ho, hb1⟩ := hr; replace H := H.new hb1 (slc_sound ho) (fun g hg => (ho.lt g hg).1); clear hb1 ho) | (go_at_call 29; refine (putshort_ok _ [] 300 (by omega) (by simp) _ (hnil.grow H.below)).mono ?_; rintro e w1 ⟨v, rfl, hr⟩; obtain ⟨⟨ap, cp, rfl⟩, ho, hb1⟩ := hr; replace H := H.new hb1 (slc_sound ho) (fun g hg => (ho.lt g hg).1); clear hb1 ho) | (go_at_call 23; refine (zig_ex _).mono ?_; rintro e w1 ⟨v, rfl, hr⟩; obtain ⟨rfl, hb1⟩ := hr; replace H := H.grow hb1; clear hb1) | (go_at_call 20; refine (turn_ex _).mono ?_; rintro e w1 ⟨v, rfl, hr⟩; obtain ⟨rfl, hb1⟩ := hr; replace H := H.grow hb1; clear hb1))
  have s1 : Sl w1 1 [172, 2].length (.slice ap 2 cp) (elB [172, 2]) := own_sl (l := [172, 2]) (H.getSlc (by repeat (first | exact List.mem_cons_self | apply List.mem_cons_of_mem))) (by decide)
  have s2 : Sl w1 1 [172, 2].length (.slice (some ⟨g6, 0, none⟩) 2 2) (elB [172, 2]) := row_sl (l := [172, 2]) (H.getRow (t := 5) (by repeat (first | exact List.mem_cons_self | apply List.mem_cons_of_mem))) (by decide)
  refine (same_ok _ _ [172, 2] [172, 2] _ s1 s2).mono ?_
  rintro e w1 ⟨v, rfl, rfl, hb1⟩
  replace H := H.grow hb1
  clear hb1 s1 s2
  rw [beq_self_eq_true]
  go_wp2_with (first | (with_reducible refine wpl rfl (Stp.bsl (e := 5) (cs := #[.int .u8 1, .int .u8 2]) 2 rfl rfl (fun W => by kernel_rfl) H ?_); clear H; intro g2 w1 H; simp only [Act.put, List.setIfInBounds_toArray, List.set_cons_zero, List.set_cons_succ]) | (with_reducible refine wpl rfl (Stp.bsl (e := 5) (cs := #[.int .u8 172, .int .u8 2]) 6 rfl rfl (fun W => by kernel_rfl) H ?_); clear H; intro g6 w1 H; simp only [Act.put, List.setIfInBounds_toArray, List.set_cons_zero, List.set_cons_succ]) | (go_at_call 15; refine (put_ok _ [] 258 (by omega) 2 (by decide) (by simp) _ (hnil.grow H.below)).mono ?_; rintro e w1 ⟨v, rfl, hr⟩; obtain ⟨⟨ap, cp, rfl⟩, ho, hb1⟩ := hr; replace H := H.new hb1 (slc_sound ho) (fun g hg => (ho.lt g hg).1); clear hb1 ho) | (go_at_call 29; refine (putshort_ok _ [] 300 (by omega) (by simp) _ (hnil.grow H.below)).mono ?_; rintro e w1 ⟨v, rfl, hr⟩; obtain ⟨⟨ap, cp, rfl⟩, ho, hb1⟩ := hr; replace H := H.new hb1 (slc_sound ho) (fun g hg => (ho.lt g hg).1); clear hb1 ho) | (go_at_call 23; refine (zig_ex _).mono ?_; rintro e w1 ⟨v, rfl, hr⟩; obtain ⟨rfl, hb1⟩ := hr; replace H := H.grow hb1; clear hb1) | (go_at_call 20; refine (turn_ex _).mono ?_; rintro e w1 ⟨v, rfl, hr⟩; obtain ⟨rfl, hb1⟩ := hr; replace H := H.grow hb1; clear hb1))
  go_ret
  exact ⟨_, rfl, rfl, H.below⟩
end Go.Proofs.Ytmeampigomhdpaa
