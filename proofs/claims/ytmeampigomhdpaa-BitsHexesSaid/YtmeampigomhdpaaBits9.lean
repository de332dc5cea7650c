/- Contracts of layer 1's Get and of its reference Number; the bounds on lengths stand in each. -/
import Derived.Test.YtmeampigomhdpaaBits3
import Derived.Laws.BitsLemmas
import Derived.Laws.Bits64b
namespace Go.Proofs.Ytmeampigomhdpaa
open Go.ChangeShapes Go.WideShapes Go.ChangeAt Go.RowKit
set_option linter.unusedVariables false
set_option linter.unusedSimpArgs false
/-- The number whose form bytes are. -/
def numB (l : List Nat) : Nat := l.foldl (fun a c => a * 256 + c) 0
theorem numB_snoc (l : List Nat) (c : Nat) : numB (l ++ [c]) = numB l * 256 + c := by simp [numB, List.foldl_append]
theorem foldl_lt (l : List Nat) : ∀ (a m : Nat), a < 256 ^ m → (∀ x ∈ l, x < 256) → l.foldl (fun a c => a * 256 + c) a < 256 ^ (m + l.length) := by
  induction l with
  | nil => intro a m h _; simpa using h
  | cons c l ih =>
    intro a m h hx
    have hc : c < 256 := hx c List.mem_cons_self
    have := ih (a * 256 + c) (m + 1) (by rw [Nat.pow_succ]; omega) (fun x hm => hx x (List.mem_cons_of_mem _ hm))
    simpa [Nat.add_assoc, Nat.add_comm 1] using this
theorem numB_lt (l : List Nat) (h : ∀ x ∈ l, x < 256) : numB l < 256 ^ l.length := by
  have := foldl_lt l 0 0 (by simp) h
  simpa [numB] using this
theorem numB_small (l : List Nat) (h : ∀ x ∈ l, x < 256) (h8 : l.length ≤ 8) : numB l < 18446744073709551616 := by
  refine Nat.lt_of_lt_of_le (numB_lt l h) ?_
  have h1 : (256 : Nat) ^ l.length ≤ 256 ^ 8 := Nat.pow_le_pow_right (by omega) h8
  have h2 : (256 : Nat) ^ 8 = 18446744073709551616 := by decide +kernel
  rw [h2] at h1
  exact h1
theorem or_byte (x c : Nat) (hx : x * 256 + c < 18446744073709551616) (hc : c < 256) : bits .or .u64 ((x : Int) * 256) (c : Int) = ((x * 256 + c : Nat) : Int) := by
  have h1 : x * 256 < 18446744073709551616 := Nat.lt_of_le_of_lt (Nat.le_add_right _ _) hx
  have h2 : c < 18446744073709551616 := Nat.lt_of_le_of_lt (Nat.le_add_left _ _) hx
  have h := bits_or_u64_nat (x * 256) c h1 h2
  rw [show (x * 256 ||| c) = x * 256 + c by
    have := Nat.two_pow_add_eq_or_of_lt (i := 8) (b := c) (by simpa using hc) x
    rw [Nat.mul_comm x 256]; exact this.symm] at h
  exact h
theorem getD_byte {l : List Nat} (h : ∀ x ∈ l, x < 256) (k : Nat) : l.getD k 0 < 256 := by
  by_cases hk : k < l.length
  · have : l.getD k 0 = l[k] := by simp [List.getD, hk]
    rw [this]; exact h _ (List.getElem_mem hk)
  · simp [List.getD, List.getElem?_eq_none (by omega : l.length ≤ k)]
theorem number_ok (v : Value) (l : List Nat) (hl : l.length ≤ 8) (hx : ∀ x ∈ l, x < 256) (w : World) (hs : Sl w 1 l.length v (elB l)) :
    Calls Try.prog 28 #[v] w (Ret fun v w' => v = .int .u64 ((numB l : Nat) : Int) ∧ Below w.heap.size w w') := by
  have hs' := hs
  obtain ⟨a, c, rfl, hm⟩ := hs'.len
  have H := St.init w
  have HX := Lib.hid hx
  clear hx
  go_enter Try.func28, Try.ntmps28
  go_wp2_with (first | (with_reducible refine wpl rfl (Stp.ldc rfl agg5 rfl H (by repeat (first | exact List.mem_cons_self | apply List.mem_cons_of_mem)) (by first | (repeat (first | exact lit0 _ _ | apply lits)) | rfl | assumption) ?_); simp only [Act.put, List.setIfInBounds_toArray, List.set_cons_zero, List.set_cons_succ]) | (with_reducible refine wpl rfl (Stp.ldo rfl agg5 rfl H (by assumption) (by assumption) ?_); simp only [Act.put, List.setIfInBounds_toArray, List.set_cons_zero, List.set_cons_succ]))
  go_loopw [3, 4] (fun x i wr => ∃ k : Nat, k ≤ l.length ∧ x = .int .u64 ((numB (l.take k) : Nat) : Int) ∧ i = .int .i64 k ∧ St w.heap.size w wr []) (fun _ i _ => l.length - (intOf i).toNat)
  case atStart => exact ⟨0, Nat.zero_le _, rfl, rfl, H⟩
  case round =>
    clear H
    obtain ⟨k, hk, rfl, rfl, H⟩ := hrel
    by_cases hlt : k < l.length
    · obtain ⟨b1, o1, rfl, hb1, hc1⟩ := hs.byte hlt
      have hsn : numB (l.take (k + 1)) = numB (l.take k) * 256 + l.getD k 0 := by rw [take_snoc l k hlt, numB_snoc]
      have hbig : numB (l.take (k + 1)) < 18446744073709551616 := numB_small _ (fun x hm => HX.out x (List.mem_of_mem_take hm)) (by rw [List.length_take]; exact Nat.le_trans (Nat.min_le_right _ _) hl)
      have HS := Lib.hid hsn
      clear hsn
      rw [HS.out] at hbig
      obtain ⟨x, hx⟩ : ∃ x : Nat, x = numB (l.take k) := ⟨_, rfl⟩
      obtain ⟨y, hy⟩ : ∃ y : Nat, y = l.getD k 0 := ⟨_, rfl⟩
      rw [← hx] at hbig ⊢
      rw [← hy] at hbig hc1
      have HXE := Lib.hid hx
      have HYE := Lib.hid hy
      clear hx hy
      go_wp2_with (first | (with_reducible refine wpl rfl (Stp.ldc rfl agg5 rfl H (by repeat (first | exact List.mem_cons_self | apply List.mem_cons_of_mem)) (by first | (repeat (first | exact lit0 _ _ | apply lits)) | rfl | assumption) ?_); simp only [Act.put, List.setIfInBounds_toArray, List.set_cons_zero, List.set_cons_succ]) | (with_reducible refine wpl rfl (Stp.ldo rfl agg5 rfl H (by assumption) (by assumption) ?_); simp only [Act.put, List.setIfInBounds_toArray, List.set_cons_zero, List.set_cons_succ]))
      go_roundw
      case rel =>
        refine ⟨k + 1, by omega, ?_, by go_num, H⟩
        rw [HS.out, ← HXE.out, ← HYE.out]
        refine congrArg (Value.int IntKind.u64) ?_
        first | rfl | omega | (simp only [IntKind.wrap_u64]; omega)
      case measure => simp [intOf]; omega
    · obtain rfl : k = l.length := by omega
      go_wp2
      go_ret
      exact ⟨_, rfl, by simp, H.below⟩
theorem get_ok (a : Option Addr) (c : Nat) (l : List Nat) (W : Nat) (hw : wide W = true) (hW : W ≤ l.length) (hc : l.length ≤ c) (hx : ∀ x ∈ l, x < 256) (w : World) (hs : Sl w 1 l.length (.slice a l.length c) (elB l)) :
    Calls Try.prog 27 #[.slice a l.length c, .int .i64 (W : Int)] w (Ret fun v w' => v = .tuple #[.int .u64 ((numB (l.take W) : Nat) : Int), .int .i64 0] ∧ Below w.heap.size w w') := by
  have hW8 : 1 ≤ W ∧ W ≤ 8 := by simp [wide] at hw; omega
  obtain ⟨hW1, hW8⟩ := hW8
  have HW := Lib.hid hw
  clear hw
  have hs' := hs
  obtain ⟨_, _, _, hm⟩ := hs'.len
  have H := St.init w
  have HX := Lib.hid hx
  clear hx
  go_enter Try.func27, Try.ntmps27
  go_wp2_with (first | (go_at_call 39; refine (wide_ok _ _).mono ?_; rintro e w1 ⟨v, rfl, hr⟩; obtain ⟨rfl, hb1⟩ := hr; replace H := H.grow hb1; clear hb1; rw [HW.out]) | (with_reducible refine wpl rfl (Stp.ldc rfl agg5 rfl H (by repeat (first | exact List.mem_cons_self | apply List.mem_cons_of_mem)) (by first | (repeat (first | exact lit0 _ _ | apply lits)) | rfl | assumption) ?_); simp only [Act.put, List.setIfInBounds_toArray, List.set_cons_zero, List.set_cons_succ]) | (with_reducible refine wpl rfl (Stp.ldo rfl agg5 rfl H (by assumption) (by assumption) ?_); simp only [Act.put, List.setIfInBounds_toArray, List.set_cons_zero, List.set_cons_succ]))
  go_loopw [6, 22] (fun x i wr => ∃ k : Nat, k ≤ W ∧ x = .int .u64 ((numB (l.take k) : Nat) : Int) ∧ i = .int .i64 k ∧ St w.heap.size w wr []) (fun _ i _ => W - (intOf i).toNat)
  case atStart => exact ⟨0, Nat.zero_le _, rfl, rfl, H⟩
  case round =>
    clear H
    obtain ⟨k, hk, rfl, rfl, H⟩ := hrel
    by_cases hlt : k < W
    · have hlt2 : k < l.length := by omega
      obtain ⟨b1, o1, rfl, hb1, hc1⟩ := hs.byte hlt2
      have hsn : numB (l.take (k + 1)) = numB (l.take k) * 256 + l.getD k 0 := by rw [take_snoc l k hlt2, numB_snoc]
      have hbig : numB (l.take (k + 1)) < 18446744073709551616 := numB_small _ (fun x hm => HX.out x (List.mem_of_mem_take hm)) (by rw [List.length_take]; exact Nat.le_trans (Nat.min_le_left _ _) (by omega))
      have hy8 := getD_byte HX.out k
      have HS := Lib.hid hsn
      clear hsn
      rw [HS.out] at hbig
      obtain ⟨x, hx⟩ : ∃ x : Nat, x = numB (l.take k) := ⟨_, rfl⟩
      obtain ⟨y, hy⟩ : ∃ y : Nat, y = l.getD k 0 := ⟨_, rfl⟩
      rw [← hx] at hbig ⊢
      rw [← hy] at hbig hc1 hy8
      have HXE := Lib.hid hx
      have HYE := Lib.hid hy
      clear hx hy
      have ho := or_byte x y hbig hy8
      have HO := Lib.hid ho
      clear ho
      go_wp2_with (first | (with_reducible refine wpl rfl (Stp.ldc rfl agg5 rfl H (by repeat (first | exact List.mem_cons_self | apply List.mem_cons_of_mem)) (by first | (repeat (first | exact lit0 _ _ | apply lits)) | rfl | assumption) ?_); simp only [Act.put, List.setIfInBounds_toArray, List.set_cons_zero, List.set_cons_succ]) | (with_reducible refine wpl rfl (Stp.ldo rfl agg5 rfl H (by assumption) (by assumption) ?_); simp only [Act.put, List.setIfInBounds_toArray, List.set_cons_zero, List.set_cons_succ]))
      go_roundw
      case rel =>
        refine ⟨k + 1, by omega, ?_, by go_num, H⟩
        rw [HS.out, ← HXE.out, ← HYE.out, ← HO.out]
        try rfl
      case measure => simp [intOf]; omega
    · obtain rfl : k = W := by omega
      go_wp2
      go_ret2
      exact ⟨_, rfl, rfl, H.below⟩
end Go.Proofs.Ytmeampigomhdpaa
