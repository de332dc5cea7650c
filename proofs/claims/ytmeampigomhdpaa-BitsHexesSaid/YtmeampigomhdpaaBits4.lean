/- Contracts of layer 1's references Lent and Kept; the bounds on lengths stand in each. -/
import Derived.Test.YtmeampigomhdpaaBits3
namespace Go.Proofs.Ytmeampigomhdpaa
open Go.ChangeShapes Go.WideShapes Go.ChangeAt Go.RowKit
set_option linter.unusedVariables false
set_option linter.unusedSimpArgs false
/-- What lent bytes' row holds. -/
def lent (l : List Nat) : List Nat := l ++ List.replicate 8 165
/-- The row after k bytes are laid. -/
def lentK (l : List Nat) (k : Nat) : List Nat := (lent l).take k ++ List.replicate (l.length + 8 - k) 0
theorem lent_len (l : List Nat) : (lent l).length = l.length + 8 := by simp [lent]
theorem lentK_zero (l : List Nat) : lentK l 0 = List.replicate (l.length + 8) 0 := by simp [lentK]
theorem lentK_full (l : List Nat) : lentK l (l.length + 8) = lent l := by
  unfold lentK
  rw [List.take_of_length_le (by rw [lent_len]; exact Nat.le_refl _)]; simp
theorem lentK_len (l : List Nat) (k : Nat) (hk : k ≤ l.length + 8) : (lentK l k).length = l.length + 8 := by simp [lentK, lent]; omega
theorem lentK_step (l : List Nat) (k x : Nat) (hk : k < l.length + 8) (hx : (lent l).getD k 0 = x) : (bv (lentK l k)).set k (.int .u8 (x : Int)) = bv (lentK l (k + 1)) := by
  have h1 : (lent l).take (k + 1) = (lent l).take k ++ [x] := by
    rw [← hx]; exact take_snoc _ _ (by rw [lent_len]; exact hk)
  have h2 : List.replicate (l.length + 8 - k) 0 = 0 :: List.replicate (l.length + 8 - (k + 1)) 0 := by
    rw [show l.length + 8 - k = (l.length + 8 - (k + 1)) + 1 by omega, List.replicate_succ]
  have h3 : ((lent l).take k).length = k := by rw [List.length_take, lent_len]; omega
  unfold lentK
  rw [h1, h2]
  simp only [bv, List.map_append, List.map_cons, List.map_nil]
  rw [List.set_append, if_neg (by rw [List.length_map, h3]; omega), List.length_map, h3, Nat.sub_self]
  simp
theorem lent_lt (l : List Nat) (k : Nat) (h : k < l.length) : (lent l).getD k 0 = l.getD k 0 := by
  simp only [lent, List.getD, List.getElem?_append_left h]
theorem lent_ge (l : List Nat) (k : Nat) (h : l.length ≤ k) (h2 : k < l.length + 8) : (lent l).getD k 0 = 165 := by
  simp only [lent, List.getD, List.getElem?_append_right h, List.getElem?_replicate]
  rw [if_pos (by omega)]; rfl
theorem lent_ok (v : Value) (l : List Nat) (hl : l.length ≤ 1000000) (w : World) (hs : Sl w 1 l.length v (elB l)) :
    Calls Try.prog 14 #[v] w (Ret fun v' w' => ∃ g, v' = .slice (some ⟨g, 0, none⟩) l.length (l.length + 8) ∧ w'.heap[g]? = some (.cells (bv (lent l)).toArray 5 (0, 0)) ∧ w.heap.size ≤ g ∧ Below w.heap.size w w') := by
  have hs' := hs
  obtain ⟨a, c, rfl, _⟩ := hs'.len
  have H := St.init w
  go_enter Try.func14, Try.ntmps14
  go_wp2_with (first | (with_reducible refine wpl rfl (Stp.mkr 8 rfl rfl Try.underlying22 info5 rfl rfl rfl (by omega) (by omega) (by omega) (by omega) H ?_); clear H; intro g8 w1 H; simp only [Act.put, List.setIfInBounds_toArray, List.set_cons_zero, List.set_cons_succ]; (try simp only [Int.toNat_natCast, toNat_add8] at H ⊢)) | (with_reducible refine wpl rfl (Stp.ldc rfl agg5 rfl H (by repeat (first | exact List.mem_cons_self | apply List.mem_cons_of_mem)) (by first | (repeat (first | exact lit0 _ _ | apply lits)) | rfl | assumption) ?_); simp only [Act.put, List.setIfInBounds_toArray, List.set_cons_zero, List.set_cons_succ]) | (with_reducible refine wpl rfl (Stp.ldo rfl agg5 rfl H (by assumption) (by assumption) ?_); simp only [Act.put, List.setIfInBounds_toArray, List.set_cons_zero, List.set_cons_succ]) | (with_reducible refine wpl rfl (Stp.stc rfl size5 rfl rfl rfl rfl H (by repeat (first | exact Upd.head | apply Upd.tail)) (by first | assumption | (simp; omega) | omega | omega | (simp; done) | (simp; omega)) ?_); clear H; intro w1 H; simp only [Act.put, List.setIfInBounds_toArray, List.set_cons_zero, List.set_cons_succ]; simp only [eval_tmp, eval_const, getD_lit0, getD_lits, cells_agg, cells_int, cells_bool, cells_string, cells_pointer, cells_slice, cells_map, List.setIfInBounds_toArray, List.set_cons_zero, List.set_cons_succ] at H))
  go_loopw [4] (fun i wr => ∃ k : Nat, k ≤ l.length + 8 ∧ i = .int .i64 k ∧ St w.heap.size w wr [row 5 g8 (bv (lentK l k)).toArray]) (fun i _ => l.length + 8 - (intOf i).toNat)
  case atStart =>
    refine ⟨0, Nat.zero_le _, rfl, ?_⟩
    rw [lentK_zero]
    simpa [bv] using H
  case round =>
    clear H
    obtain ⟨k, hk, rfl, H⟩ := hrel
    by_cases hlt : k < l.length + 8
    · have hsz : k < (bv (lentK l k)).toArray.size := by simp [bv, lentK_len l k hk]; omega
      by_cases hin : k < l.length
      · obtain ⟨b, off, rfl, hb, hc⟩ := hs.byte hin
        obtain ⟨x, hx⟩ : ∃ x : Nat, x = l.getD k 0 := ⟨_, rfl⟩
        rw [← hx] at hc
        have hst := lentK_step l k x hlt (by rw [hx]; exact lent_lt l k hin)
        have HST := Lib.hid hst
        clear hst hx
        go_wp2_with (first | (with_reducible refine wpl rfl (Stp.ldc rfl agg5 rfl H (by repeat (first | exact List.mem_cons_self | apply List.mem_cons_of_mem)) (by first | (repeat (first | exact lit0 _ _ | apply lits)) | rfl | assumption) ?_); simp only [Act.put, List.setIfInBounds_toArray, List.set_cons_zero, List.set_cons_succ]) | (with_reducible refine wpl rfl (Stp.ldo rfl agg5 rfl H (by assumption) (by assumption) ?_); simp only [Act.put, List.setIfInBounds_toArray, List.set_cons_zero, List.set_cons_succ]) | (with_reducible refine wpl rfl (Stp.stc rfl size5 rfl rfl rfl rfl H (by repeat (first | exact Upd.head | apply Upd.tail)) (by first | assumption | (simp; omega) | omega | omega | (simp; done) | (simp; omega)) ?_); clear H; intro w1 H; simp only [Act.put, List.setIfInBounds_toArray, List.set_cons_zero, List.set_cons_succ]; simp only [eval_tmp, eval_const, getD_lit0, getD_lits, cells_agg, cells_int, cells_bool, cells_string, cells_pointer, cells_slice, cells_map, List.setIfInBounds_toArray, List.set_cons_zero, List.set_cons_succ] at H))
        go_roundw
        case rel => exact ⟨k + 1, by omega, by go_num, by rw [HST.out] at H; exact H⟩
        case measure => simp [intOf]; omega
      · have hst := lentK_step l k 165 hlt (lent_ge l k (by omega) hlt)
        have HST := Lib.hid hst
        clear hst
        go_wp2_with (first | (with_reducible refine wpl rfl (Stp.ldc rfl agg5 rfl H (by repeat (first | exact List.mem_cons_self | apply List.mem_cons_of_mem)) (by first | (repeat (first | exact lit0 _ _ | apply lits)) | rfl | assumption) ?_); simp only [Act.put, List.setIfInBounds_toArray, List.set_cons_zero, List.set_cons_succ]) | (with_reducible refine wpl rfl (Stp.ldo rfl agg5 rfl H (by assumption) (by assumption) ?_); simp only [Act.put, List.setIfInBounds_toArray, List.set_cons_zero, List.set_cons_succ]) | (with_reducible refine wpl rfl (Stp.stc rfl size5 rfl rfl rfl rfl H (by repeat (first | exact Upd.head | apply Upd.tail)) (by first | assumption | (simp; omega) | omega | omega | (simp; done) | (simp; omega)) ?_); clear H; intro w1 H; simp only [Act.put, List.setIfInBounds_toArray, List.set_cons_zero, List.set_cons_succ]; simp only [eval_tmp, eval_const, getD_lit0, getD_lits, cells_agg, cells_int, cells_bool, cells_string, cells_pointer, cells_slice, cells_map, List.setIfInBounds_toArray, List.set_cons_zero, List.set_cons_succ] at H))
        go_roundw
        case rel => exact ⟨k + 1, by omega, by go_num, by have := HST.out; simp only [Int.cast_ofNat_Int] at this; rw [this] at H; exact H⟩
        case measure => simp [intOf]; omega
    · obtain rfl : k = l.length + 8 := by omega
      go_wp2_with (first | (with_reducible refine wpl rfl (Stp.ldc rfl agg5 rfl H (by repeat (first | exact List.mem_cons_self | apply List.mem_cons_of_mem)) (by first | (repeat (first | exact lit0 _ _ | apply lits)) | rfl | assumption) ?_); simp only [Act.put, List.setIfInBounds_toArray, List.set_cons_zero, List.set_cons_succ]) | (with_reducible refine wpl rfl (Stp.ldo rfl agg5 rfl H (by assumption) (by assumption) ?_); simp only [Act.put, List.setIfInBounds_toArray, List.set_cons_zero, List.set_cons_succ]) | (with_reducible refine wpl rfl (Stp.stc rfl size5 rfl rfl rfl rfl H (by repeat (first | exact Upd.head | apply Upd.tail)) (by first | assumption | (simp; omega) | omega | omega | (simp; done) | (simp; omega)) ?_); clear H; intro w1 H; simp only [Act.put, List.setIfInBounds_toArray, List.set_cons_zero, List.set_cons_succ]; simp only [eval_tmp, eval_const, getD_lit0, getD_lits, cells_agg, cells_int, cells_bool, cells_string, cells_pointer, cells_slice, cells_map, List.setIfInBounds_toArray, List.set_cons_zero, List.set_cons_succ] at H))
      go_ret
      refine ⟨_, rfl, g8, rfl, ?_, ?_, H.below⟩
      · have := H.getHeap List.mem_cons_self
        rw [lentK_full] at this; exact this
      · exact H.base _ List.mem_cons_self _ rfl
theorem kept_ok (v : Value) (l m : List Nat) (g : Nat) (hl : l.length ≤ 1000000) (w : World) (hg : w.heap[g]? = some (.cells (bv (lent l)).toArray 5 (0, 0))) (hs : Sl w 1 m.length v (elB m)) :
    Calls Try.prog 19 #[.slice (some ⟨g, 0, none⟩) l.length (l.length + 8), v] w (Ret fun v' w' => v' = .bool (l == m) ∧ Below w.heap.size w w') := by
  have hgl : g < w.heap.size := rowAt_lt (rowAt_of hg)
  have hsl : Sl w 1 l.length (.slice (some ⟨g, 0, none⟩) l.length (l.length + 8)) (elB l) := Sl.of_row (rowAt_of hg) (by unfold maxLen; omega) (fun i hi j hj => by
    obtain rfl : j = 0 := by omega
    have := lent_lt l i hi
    rw [Nat.mul_one, Nat.add_zero]
    simp only [elB, bv, List.getElem?_toArray, List.getElem?_map]
    rw [← this]
    have h2 : i < (lent l).length := by rw [lent_len]; omega
    simp [List.getD, h2])
  have hcell : ∀ k, k < l.length + 8 → w.cell? ⟨g, k, none⟩ = some (.int .u8 (((lent l).getD k 0 : Nat) : Int)) := fun k hk => by
    rw [cell_of_rowAt (rowAt_of hg)]
    have h2 : k < (lent l).length := by rw [lent_len]; omega
    simp [bv, List.getD, h2]
  have HC := Lib.hid hcell
  clear hcell hg
  have hs' := hs
  obtain ⟨a, c, rfl, _⟩ := hs'.len
  have H := St.init w
  cases he : (l == m)
  · have HE := Lib.hid he
    clear he
    go_enter Try.func19, Try.ntmps19
    go_wp2_with (first | (go_at_call 18; refine (same_ok _ _ l m _ hsl hs).mono ?_; rintro e w1 ⟨v, rfl, hr⟩; obtain ⟨rfl, hb1⟩ := hr; replace H := H.grow hb1; clear hb1; rw [HE.out]) | (with_reducible refine wpl rfl (Stp.ldc rfl agg5 rfl H (by repeat (first | exact List.mem_cons_self | apply List.mem_cons_of_mem)) (by first | (repeat (first | exact lit0 _ _ | apply lits)) | rfl | assumption) ?_); simp only [Act.put, List.setIfInBounds_toArray, List.set_cons_zero, List.set_cons_succ]) | (with_reducible refine wpl rfl (Stp.ldo rfl agg5 rfl H (by assumption) (by assumption) ?_); simp only [Act.put, List.setIfInBounds_toArray, List.set_cons_zero, List.set_cons_succ]))
    go_ret
    exact ⟨_, rfl, rfl, H.below⟩
  · have HE := Lib.hid he
    clear he
    go_enter Try.func19, Try.ntmps19
    go_wp2_with (first | (go_at_call 18; refine (same_ok _ _ l m _ hsl hs).mono ?_; rintro e w1 ⟨v, rfl, hr⟩; obtain ⟨rfl, hb1⟩ := hr; replace H := H.grow hb1; clear hb1; rw [HE.out]) | (with_reducible refine wpl rfl (Stp.ldc rfl agg5 rfl H (by repeat (first | exact List.mem_cons_self | apply List.mem_cons_of_mem)) (by first | (repeat (first | exact lit0 _ _ | apply lits)) | rfl | assumption) ?_); simp only [Act.put, List.setIfInBounds_toArray, List.set_cons_zero, List.set_cons_succ]) | (with_reducible refine wpl rfl (Stp.ldo rfl agg5 rfl H (by assumption) (by assumption) ?_); simp only [Act.put, List.setIfInBounds_toArray, List.set_cons_zero, List.set_cons_succ]))
    go_loopw [6] (fun i wr => ∃ k : Nat, l.length ≤ k ∧ k ≤ l.length + 8 ∧ i = .int .i64 k ∧ St w.heap.size w wr []) (fun i _ => l.length + 8 - (intOf i).toNat)
    case atStart => exact ⟨l.length, Nat.le_refl _, by omega, rfl, H⟩
    case round =>
      clear H
      obtain ⟨k, hk0, hk, rfl, H⟩ := hrel
      by_cases hlt : k < l.length + 8
      · have hc := HC.out k hlt
        rw [lent_ge l k hk0 hlt] at hc
        go_wp2_with (first | (with_reducible refine wpl rfl (Stp.ldc rfl agg5 rfl H (by repeat (first | exact List.mem_cons_self | apply List.mem_cons_of_mem)) (by first | (repeat (first | exact lit0 _ _ | apply lits)) | rfl | assumption) ?_); simp only [Act.put, List.setIfInBounds_toArray, List.set_cons_zero, List.set_cons_succ]) | (with_reducible refine wpl rfl (Stp.ldo rfl agg5 rfl H (by assumption) (by assumption) ?_); simp only [Act.put, List.setIfInBounds_toArray, List.set_cons_zero, List.set_cons_succ]))
        go_roundw
        case rel => exact ⟨k + 1, by omega, by omega, by go_num, H⟩
        case measure => simp [intOf]; omega
      · obtain rfl : k = l.length + 8 := by omega
        go_wp2_with (first | (with_reducible refine wpl rfl (Stp.ldc rfl agg5 rfl H (by repeat (first | exact List.mem_cons_self | apply List.mem_cons_of_mem)) (by first | (repeat (first | exact lit0 _ _ | apply lits)) | rfl | assumption) ?_); simp only [Act.put, List.setIfInBounds_toArray, List.set_cons_zero, List.set_cons_succ]) | (with_reducible refine wpl rfl (Stp.ldo rfl agg5 rfl H (by assumption) (by assumption) ?_); simp only [Act.put, List.setIfInBounds_toArray, List.set_cons_zero, List.set_cons_succ]))
        go_ret
        exact ⟨_, rfl, rfl, H.below⟩
end Go.Proofs.Ytmeampigomhdpaa
