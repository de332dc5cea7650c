/- Contracts of layer 1's Put and its references; the bounds on lengths stand in each. -/
import Derived.Test.YtmeampigomhdpaaBits1
namespace Go.Proofs.Ytmeampigomhdpaa
open Go.ChangeShapes Go.WideShapes Go.ChangeAt Go.RowKit
set_option linter.unusedVariables false
set_option linter.unusedSimpArgs false
/-- The first k bytes of n's form of W bytes. -/
def putB (n : Nat) (W k : Nat) : List Nat := (List.range k).map fun j => n / 256 ^ (W - 1 - j) % 256
theorem putB_len (n W k : Nat) : (putB n W k).length = k := by simp [putB]
theorem putB_succ (n W k : Nat) : putB n W (k + 1) = putB n W k ++ [n / 256 ^ (W - 1 - k) % 256] := by simp [putB, List.range_succ]
theorem byte_at (n m : Nat) : (n : Int) / 2 ^ (8 * m) % 256 = ((n / 256 ^ m % 256 : Nat) : Int) := by
  have h : (256 : Nat) ^ m = 2 ^ (8 * m) := by rw [Nat.pow_mul]
  rw [h, Int.natCast_emod, Int.natCast_ediv, Int.natCast_pow]; rfl
theorem put_ok (v : Value) (l : List Nat) (n : Nat) (hn : n < 18446744073709551616) (width : Nat) (hw : wide width = true) (hl : l.length ≤ 900000) (w : World) (hs : Sl w 1 l.length v (elB l)) :
    Calls Try.prog 15 #[v, .int .u64 (n : Int), .int .i64 (width : Int)] w (Ret fun v' w' => (∃ ap cp, v' = .slice ap (l.length + width) cp) ∧ w'.ownsRow w.heap.size 5 1 v' (l.length + width) (bv (l ++ putB n width width)) ∧ Below w.heap.size w w') := by
  have hw8 : width ≤ 8 ∧ 1 ≤ width := by simp [wide] at hw; omega
  have HW := Lib.hid hw
  clear hw
  obtain ⟨hw8, hw1⟩ := hw8
  have HN := Lib.hid hn
  clear hn
  have H := St.init w
  go_enter Try.func15, Try.ntmps15
  go_wp2_with (first | (go_at_call 38; refine (room_ok _ l _ (by omega) (by omega) (by omega) _ (hs.grow H.below)).mono ?_; rintro e w1 ⟨v, rfl, hr⟩; obtain ⟨⟨ap, cp, rfl⟩, ho, hb1⟩ := hr; replace H := H.new hb1 (slc_sound ho) (fun g hg => (ho.lt g hg).1); clear hb1 ho) | (go_at_call 39; refine (wide_ok _ _).mono ?_; rintro e w1 ⟨v, rfl, hr⟩; obtain ⟨rfl, hb1⟩ := hr; replace H := H.grow hb1; clear hb1; rw [HW.out]))
  go_loopw [7, 8] (fun o i wr => ∃ k : Nat, k ≤ width ∧ i = .int .i64 ((width : Int) - 1 - k) ∧ ∃ ap cp, o = .slice ap (l.length + k) cp ∧ St w.heap.size w wr [slc 5 1 (.slice ap (l.length + k) cp) (l.length + k) (bv (l ++ putB n width k))]) (fun _ i _ => (intOf i + 1).toNat)
  case atStart => exact ⟨0, Nat.zero_le _, by simp, ap, cp, rfl, by simpa [putB] using H⟩
  case round =>
    clear H
    obtain ⟨k, hk, rfl, ap, cp, rfl, H⟩ := hrel
    by_cases hlt : k < width
    · go_wp2_with (first | (with_reducible refine wpl rfl (Stp.bsl1 28 rfl rfl Try.underlying22 size5 zero5 rfl rfl H ?_); clear H; intro g28 w1 H; simp only [Act.put, List.setIfInBounds_toArray, List.set_cons_zero, List.set_cons_succ]) | (with_reducible refine wpl rfl (Stp.app 29 rfl rfl Try.underlying22 info5 rfl (by decide) rfl rfl H (fun _ => (by repeat (first | exact Upd.head | apply Upd.tail))) rfl (new1 (H.getRow (by repeat (first | exact List.mem_cons_self | apply List.mem_cons_of_mem)))) (by simp [Value.oneCell']) (by unfold maxLen; omega) (by omega) ?_); clear H; intro a29 c29 w1 H; simp only [Act.put, List.setIfInBounds_toArray, List.set_cons_zero, List.set_cons_succ]))
      rw [byte_at] at H
      go_roundw
      case rel =>
        refine ⟨k + 1, by omega, by congr 1; omega, a29, c29, by rw [Nat.add_assoc], ?_⟩
        have e : bv (l ++ putB n width k) ++ [Value.int .u8 ((n / 256 ^ (width - 1 - k) % 256 : Nat) : Int)] = bv (l ++ putB n width (k + 1)) := by
          rw [putB_succ]; simp [bv]
        rw [e, Nat.add_assoc] at H
        exact H.tl
      case measure => simp [intOf]; omega
    · obtain rfl : k = width := by omega
      go_wp2
      go_ret
      exact ⟨_, rfl, ⟨_, _, rfl⟩, H.getSlc List.mem_cons_self, H.below⟩
theorem put_no (v : Value) (l : List Nat) (n : Nat) (hn : n < 18446744073709551616) (width : Int) (hw : wide width = false) (hl : l.length ≤ 900000) (w : World) (hs : Sl w 1 l.length v (elB l)) :
    Calls Try.prog 15 #[v, .int .u64 (n : Int), .int .i64 width] w (Ret fun v' w' => (∃ ap cp, v' = .slice ap l.length cp) ∧ w'.ownsRow w.heap.size 5 1 v' l.length (bv l) ∧ Below w.heap.size w w') := by
  have HW := Lib.hid hw
  clear hw
  have HN := Lib.hid hn
  clear hn
  have H := St.init w
  go_enter Try.func15, Try.ntmps15
  go_wp2_with (first | (go_at_call 38; refine (room_ok _ l _ (by omega) (by omega) (by omega) _ (hs.grow H.below)).mono ?_; rintro e w1 ⟨v, rfl, hr⟩; obtain ⟨⟨ap, cp, rfl⟩, ho, hb1⟩ := hr; replace H := H.new hb1 (slc_sound ho) (fun g hg => (ho.lt g hg).1); clear hb1 ho) | (go_at_call 39; refine (wide_ok _ _).mono ?_; rintro e w1 ⟨v, rfl, hr⟩; obtain ⟨rfl, hb1⟩ := hr; replace H := H.grow hb1; clear hb1; rw [HW.out]))
  go_ret
  exact ⟨_, rfl, ⟨_, _, rfl⟩, H.getSlc List.mem_cons_self, H.below⟩
end Go.Proofs.Ytmeampigomhdpaa
