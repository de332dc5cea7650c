/- Contracts of layer 1's short forms; the bounds on lengths stand in each. -/
import Derived.Test.YtmeampigomhdpaaBits4
namespace Go.Proofs.Ytmeampigomhdpaa
open Go.ChangeShapes Go.WideShapes Go.ChangeAt Go.RowKit
set_option linter.unusedVariables false
set_option linter.unusedSimpArgs false
/-- A number's short form, f bytes more at most. -/
def shortF : Nat → Nat → List Nat
  | 0, n => [n % 256]
  | f + 1, n => if n < 128 then [n % 256] else (n % 128 + 128) :: shortF f (n / 128)
def shortB (n : Nat) : List Nat := shortF 9 n
theorem shortF_len : ∀ (f n : Nat), (shortF f n).length ≤ f + 1
  | 0, n => by simp [shortF]
  | f + 1, n => by
    unfold shortF; split
    · simp
    · have := shortF_len f (n / 128); simp; omega
theorem shortF_small (f n : Nat) (h : n < 128) : shortF f n = [n % 256] := by
  cases f with
  | zero => rfl
  | succ f => unfold shortF; rw [if_pos h]
theorem shortF_big (f n : Nat) (h : ¬ n < 128) : shortF (f + 1) n = (n % 128 + 128) :: shortF f (n / 128) := by
  rw [shortF, if_neg h]
theorem or128 (x : Nat) (h : x < 256) : bits .or .u8 (x : Int) 128 = ((x % 128 + 128 : Nat) : Int) := by
  have := (by decide +kernel : ∀ x : Fin 256, bits .or .u8 ((x.val : Nat) : Int) 128 = ((x.val % 128 + 128 : Nat) : Int))
  exact this ⟨x, h⟩
set_option maxRecDepth 100000 in
theorem putshort_ok (v : Value) (l : List Nat) (n : Nat) (hn : n < 18446744073709551616) (hl : l.length ≤ 900000) (w : World) (hs : Sl w 1 l.length v (elB l)) :
    Calls Try.prog 29 #[v, .int .u64 (n : Int)] w (Ret fun v' w' => (∃ ap cp, v' = .slice ap (l ++ shortB n).length cp) ∧ w'.ownsRow w.heap.size 5 1 v' (l ++ shortB n).length (bv (l ++ shortB n)) ∧ Below w.heap.size w w') := by
  have HN := Lib.hid hn
  clear hn
  have H := St.init w
  go_enter Try.func29, Try.ntmps29
  go_wp2_with (first | (go_at_call 38; refine (room_ok _ l _ (by omega) (by omega) (by omega) _ (hs.grow H.below)).mono ?_; rintro e w1 ⟨v, rfl, hr⟩; obtain ⟨⟨ap, cp, rfl⟩, ho, hb1⟩ := hr; replace H := H.new hb1 (slc_sound ho) (fun g hg => (ho.lt g hg).1); clear hb1 ho))
  go_loopw [1, 5] (fun x o wr => ∃ (k m : Nat) (pre : List Nat), k ≤ 9 ∧ pre.length = k ∧ x = .int .u64 (m : Int) ∧ Hid (m < 2 ^ (64 - 7 * k)) ∧ Hid (shortB n = pre ++ shortF (9 - k) m) ∧ ∃ ap cp, o = .slice ap (l.length + pre.length) cp ∧ St w.heap.size w wr [slc 5 1 (.slice ap (l.length + pre.length) cp) (l.length + pre.length) (bv (l ++ pre))]) (fun x _ _ => (intOf x).toNat)
  case atStart => exact ⟨0, n, [], Nat.zero_le _, rfl, rfl, Lib.hid (by simpa using HN.out), Lib.hid (by simp [shortB]), ap, cp, rfl, by simpa using H⟩
  case round =>
    clear H
    obtain ⟨k, m, pre, hk, hpl, rfl, HM, HS, ap, cp, rfl, H⟩ := hrel
    have hp9 : pre.length ≤ 9 := by omega
    have HP := Lib.hid hpl
    clear hpl
    by_cases hlt : m < 128
    · have hd : decide ((128 : Int) ≤ (m : Int)) = false := by simp; omega
      go_wp2_with (first | (with_reducible refine wpl rfl (Stp.bsl1 21 rfl rfl Try.underlying22 size5 zero5 rfl rfl H ?_); clear H; intro g21 w1 H; simp only [Act.put, List.setIfInBounds_toArray, List.set_cons_zero, List.set_cons_succ]) | (with_reducible refine wpl rfl (Stp.app 22 rfl rfl Try.underlying22 info5 rfl (by decide) rfl rfl H (fun _ => (by repeat (first | exact Upd.head | apply Upd.tail))) rfl (new1 (H.getRow (by repeat (first | exact List.mem_cons_self | apply List.mem_cons_of_mem)))) (by simp [Value.oneCell']) (by unfold maxLen; omega) (by omega) ?_); clear H; intro a22 c22 w1 H; simp only [Act.put, List.setIfInBounds_toArray, List.set_cons_zero, List.set_cons_succ]))
      go_ret
      have e : shortB n = pre ++ [m] := by rw [HS.out, shortF_small _ _ hlt, Nat.mod_eq_of_lt (by omega)]
      have hlen : (l ++ shortB n).length = l.length + pre.length + 1 := by rw [e]; simp; omega
      have ho := H.getSlc (by repeat (first | exact List.mem_cons_self | apply List.mem_cons_of_mem))
      have e2 : bv (l ++ pre) ++ [Value.int .u8 (m : Int)] = bv (l ++ shortB n) := by rw [e]; simp [bv]
      rw [e2] at ho
      rw [hlen]
      exact ⟨_, rfl, ⟨a22, c22, rfl⟩, ho, H.below⟩
    · have hd : decide ((128 : Int) ≤ (m : Int)) = true := by simp; omega
      have hk8 : k ≤ 8 := by
        rcases Nat.lt_or_ge k 9 with h | h
        · omega
        · have h2 := HM.out
          have : k = 9 := by omega
          subst this
          have : (2 : Nat) ^ (64 - 7 * 9) = 2 := by decide
          omega
      go_wp2_with (first | (with_reducible refine wpl rfl (Stp.bsl1 14 rfl rfl Try.underlying22 size5 zero5 rfl rfl H ?_); clear H; intro g14 w1 H; simp only [Act.put, List.setIfInBounds_toArray, List.set_cons_zero, List.set_cons_succ]) | (with_reducible refine wpl rfl (Stp.app 15 rfl rfl Try.underlying22 info5 rfl (by decide) rfl rfl H (fun _ => (by repeat (first | exact Upd.head | apply Upd.tail))) rfl (new1 (H.getRow (by repeat (first | exact List.mem_cons_self | apply List.mem_cons_of_mem)))) (by simp [Value.oneCell']) (by unfold maxLen; omega) (by omega) ?_); clear H; intro a15 c15 w1 H; simp only [Act.put, List.setIfInBounds_toArray, List.set_cons_zero, List.set_cons_succ]))
      have eo : bits .or .u8 ((m : Int) % 256) 128 = ((m % 128 + 128 : Nat) : Int) := by
        have h1 := or128 (m % 256) (Nat.mod_lt _ (by omega))
        rw [Int.natCast_emod] at h1
        rw [show ((256 : Nat) : Int) = 256 from rfl] at h1
        rw [h1]
        congr 2
        omega
      rw [eo] at H
      go_roundw
      case rel =>
        refine ⟨k + 1, m / 128, pre ++ [m % 128 + 128], by omega, by simp [HP.out], rfl, Lib.hid ?_, Lib.hid ?_, a15, c15, by simp; omega, ?_⟩
        · have h2 := HM.out
          have h3 : (2 : Nat) ^ (64 - 7 * k) = 128 * 2 ^ (64 - 7 * (k + 1)) := by
            rw [show 64 - 7 * k = 7 + (64 - 7 * (k + 1)) by omega, Nat.pow_add]
          rw [h3] at h2
          exact Nat.div_lt_of_lt_mul h2
        · rw [HS.out, show 9 - k = (9 - (k + 1)) + 1 by omega, shortF_big _ _ hlt]; simp
        · have e2 : bv (l ++ pre) ++ [Value.int .u8 ((m % 128 + 128 : Nat) : Int)] = bv (l ++ (pre ++ [m % 128 + 128])) := by simp [bv]
          rw [e2] at H
          have e3 : l.length + (pre ++ [m % 128 + 128]).length = l.length + pre.length + 1 := by simp; omega
          rw [e3]
          exact H.tl
      case measure => simp [intOf]; omega
end Go.Proofs.Ytmeampigomhdpaa
