/- Contracts of layer 16's parts: Within, Sound and List, by program and by reference, and Same of layer 3; bounds on lengths stand in each. -/
import Derived.Test.YtmgamjlebcnmiaaRumor2
import Derived.Test.YtmgamjlebcnmiaaBase3
namespace Go.Proofs.Ytmgamjlebcnmiaa
open Go.ChangeShapes Go.WideShapes Go.ChangeAt Go.RowKit
set_option linter.unusedVariables false
set_option linter.unusedSimpArgs false
attribute [local go_sem] index_R equalIn_R eqg_R
/-- The cells of some processes. -/
def pv (l : List (Int × Int)) : List Value := l.flatMap fun p => [.int .u16 p.1, .int .u32 p.2]
theorem pv_snoc (l : List (Int × Int)) (p : Int × Int) : pv (l ++ [p]) = pv l ++ [.int .u16 p.1, .int .u32 p.2] := by simp [pv]
theorem pv_len (l : List (Int × Int)) : (pv l).length = l.length * 2 := by
  induction l with
  | nil => rfl
  | cons p l ih => simp [pv] at ih ⊢; omega
theorem pv_get (l : List (Int × Int)) : ∀ i, i < l.length → ∀ j, j < 2 → (pv l)[i * 2 + j]? = (elE l i)[j]? := by
  induction l with
  | nil => intro i hi; exact absurd hi (Nat.not_lt_zero _)
  | cons p l ih =>
    intro i hi j hj
    cases i with
    | zero =>
      have hj' : j = 0 ∨ j = 1 := by omega
      rcases hj' with rfl | rfl <;> simp [pv, elE, pc]
    | succ i =>
      have := ih i (by simpa using hi) j hj
      rw [show (i + 1) * 2 + j = (i * 2 + j) + 2 by omega]
      simpa [pv, elE, List.getD] using this
theorem pown_sl {w : World} {b n : Nat} {v : Value} {l : List (Int × Int)} (h : w.ownsRow b 28 2 v n (pv l)) (hm : l.length ≤ 1000000) : Sl w 2 l.length v (elE l) := by
  have hn : n = l.length := by have := h.1; rw [pv_len] at this; omega
  subst hn
  exact Sl.of_ownN h (fun i hi j hj => pv_get l i hi j hj) (by unfold maxLen; omega)
theorem filter_snoc {α : Type} (q : α → Bool) (l : List α) (k : Nat) (d : α) (h : k < l.length) : (l.take (k + 1)).filter q = (l.take k).filter q ++ (if q (l.getD k d) then [l.getD k d] else []) := by
  rw [List.take_succ_eq_append_getElem h, List.filter_append]
  have : l.getD k d = l[k] := by simp [List.getD, h]
  rw [this]
  by_cases hq : q l[k] = true
  · simp [hq]
  · simp [hq]
/-- Those who are suspected, or who aren't. -/
def partR (r : Nat → Int) (l : List (Int × Int)) (q : Bool) : List (Int × Int) := l.filter fun p => has r p.1 p.2 == q
theorem partR_snoc (r : Nat → Int) (l : List (Int × Int)) (q : Bool) (k : Nat) (h : k < l.length) : partR r (l.take (k + 1)) q = partR r (l.take k) q ++ (if (has r (l.getD k (0, 0)).1 (l.getD k (0, 0)).2 == q) = true then [l.getD k (0, 0)] else []) := filter_snoc _ l k (0, 0) h
theorem partR_len (r : Nat → Int) (l : List (Int × Int)) (q : Bool) : (partR r l q).length ≤ l.length := List.length_filter_le _ _
/-- All that is told. -/
def listR (r : Nat → Int) (k : Nat) : List (Int × Int) := (List.range k).flatMap fun i => if 0 < r i then [((i : Int), r i)] else []
theorem listR_succ (r : Nat → Int) (k : Nat) : listR r (k + 1) = listR r k ++ (if 0 < r k then [((k : Int), r k)] else []) := by simp [listR, List.range_succ]
theorem listR_len (r : Nat → Int) : ∀ k, (listR r k).length ≤ k
  | 0 => by simp [listR]
  | k + 1 => by
    have := listR_len r k
    rw [listR_succ, List.length_append]
    split <;> simp <;> omega
set_option maxRecDepth 100000 in
set_option maxHeartbeats 1000000 in
theorem parted_ok (r : Nat → Int) (v : Value) (l : List (Int × Int)) (hl : nn l) (h60 : l.length ≤ 1000) (w : World) (hs : Sl w 2 l.length v (elE l)) :
    Calls Try.prog 23 #[.agg (R r), v] w (Ret fun v w' => ∃ ap cp aq cq n m, v = .tuple #[.slice ap n cp, .slice aq m cq] ∧ w'.ownsRow w.heap.size 28 2 (.slice ap n cp) n (pv (partR r l true)) ∧ w'.ownsRow w.heap.size 28 2 (.slice aq m cq) m (pv (partR r l false)) ∧ Below w.heap.size w w') := by
  obtain ⟨a, c, rfl, hm, hE⟩ := hs
  have HE := Lib.hid hE
  clear hE
  unfold maxLen at hm
  have H := ((St.init w).nil 28 2).nil 28 2
  go_enter Try.func23, Try.ntmps23
  go_wp2_with (first | (with_reducible refine wpl rfl (Stp.box 2 rfl rfl rfl H ?_); clear H; intro g2 w1 H; simp only [Act.put, List.setIfInBounds_toArray, List.set_cons_zero, List.set_cons_succ]; simp only [eval_tmp, eval_const, getD_lit0, getD_lits, cells_agg, cells_int, cells_bool, cells_string, cells_pointer, cells_slice, cells_map, List.setIfInBounds_toArray, List.set_cons_zero, List.set_cons_succ] at H) | (with_reducible refine wpl rfl (Stp.ldr rfl agg28 size28 rfl H (by repeat (first | exact List.mem_cons_self | apply List.mem_cons_of_mem)) (by first | exact R_size _ | rfl | (simp; done) | assumption) ?_); simp only [Act.put, List.setIfInBounds_toArray, List.set_cons_zero, List.set_cons_succ]) | (with_reducible refine wpl rfl (Stp.ldor rfl agg28 size28 rfl H (by assumption) (by first | exact R_size _ | rfl | (simp; done) | assumption) (by assumption) ?_); simp only [Act.put, List.setIfInBounds_toArray, List.set_cons_zero, List.set_cons_succ]) | (with_reducible refine wpl rfl (Stp.alloc 7 rfl rfl zero28 H ?_); clear H; intro g7 w1 H; simp only [Act.put, List.setIfInBounds_toArray, List.set_cons_zero, List.set_cons_succ]; simp only [cells_agg, cells_int, cells_bool, cells_string, cells_pointer, cells_slice, cells_map] at H) | (with_reducible refine wpl rfl (Stp.str rfl size28 rfl rfl (by first | exact R_one _ | rfl | (simp [Value.oneCell']; done) | assumption) H (by repeat (first | exact Upd.head | apply Upd.tail)) (by first | exact R_size _ | rfl | (simp; done) | assumption) (by first | exact R_size _ | rfl | (simp; done) | assumption) ?_); clear H; intro w1 H; simp only [Act.put, List.setIfInBounds_toArray, List.set_cons_zero, List.set_cons_succ]) | (with_reducible refine wpl rfl (Stp.ldr rfl agg24 size24 rfl H (by repeat (first | exact List.mem_cons_self | apply List.mem_cons_of_mem)) (by first | exact R_size _ | rfl | (simp; done) | assumption) ?_); simp only [Act.put, List.setIfInBounds_toArray, List.set_cons_zero, List.set_cons_succ]) | (with_reducible refine wpl rfl (Stp.ldor rfl agg24 size24 rfl H (by assumption) (by first | exact R_size _ | rfl | (simp; done) | assumption) (by assumption) ?_); simp only [Act.put, List.setIfInBounds_toArray, List.set_cons_zero, List.set_cons_succ]))
  go_loopw [10, 4, 5] (fun i x y wr => ∃ k : Nat, k ≤ l.length ∧ i = .int .i64 k ∧ ∃ ap cp aq cq n m, n ≤ k ∧ m ≤ k ∧ x = .slice ap n cp ∧ y = .slice aq m cq ∧ St w.heap.size w wr [row 24 g2 (R r), slc 28 2 (.slice ap n cp) n (pv (partR r (l.take k) true)), slc 28 2 (.slice aq m cq) m (pv (partR r (l.take k) false))]) (fun i _ _ _ => l.length - (intOf i).toNat)
  case atStart => exact ⟨0, Nat.zero_le _, rfl, _, _, _, _, 0, 0, by omega, by omega, rfl, rfl, by simpa [pv, partR] using H⟩
  case round =>
    clear H
    obtain ⟨k, hk, rfl, ap, cp, aq, cq, n, m, hn, hm', rfl, rfl, H⟩ := hrel
    by_cases hlt : k < l.length
    · obtain ⟨b, off, rfl, hb, hc⟩ := HE.out (by omega)
      clear HE
      have hnn := nn_at hl k hlt
      have hw1 := partR_snoc r l true k hlt
      have hw2 := partR_snoc r l false k hlt
      rcases hp : l.getD k (0, 0) with ⟨i0, c0⟩
      rw [hp] at hnn hw1 hw2
      obtain ⟨hi0, hc0⟩ := hnn
      have hck : ∀ j, j < 2 → w.cell? ⟨b, off + k * 2 + j, none⟩ = (#[Value.int .u16 i0, Value.int .u32 c0] : Array Value)[j]? := fun j hj => by
        rw [hc k hlt j hj]; simp only [elE, hp, pc]
      have HW1 := Lib.hid hw1
      have HW2 := Lib.hid hw2
      clear hc hp hw1 hw2
      cases hh : has r i0 c0
      · have HH := Lib.hid hh
        clear hh
        go_wp2_with (first | (go_at_call 10; refine (has_ok _ _ _ hi0 _).mono ?_; rintro e w1 ⟨v, rfl, hr⟩; obtain ⟨rfl, hb1⟩ := hr; replace H := H.grow hb1; clear hb1; rw [HH.out]) | (with_reducible refine wpl rfl (Stp.bsl (e := 28) (cs := #[.int .u16 i0, .int .u32 c0]) 23 rfl rfl (fun W => by kernel_rfl) H ?_); clear H; intro g23 w1 H; simp only [Act.put, List.setIfInBounds_toArray, List.set_cons_zero, List.set_cons_succ]) | (with_reducible refine wpl rfl (Stp.app 24 rfl rfl Try.underlying25 info28 rfl (by decide) rfl rfl H (fun _ => (by repeat (first | exact Upd.head | apply Upd.tail))) rfl (newN (H.getRow (by repeat (first | exact List.mem_cons_self | apply List.mem_cons_of_mem)))) (by simp [Value.oneCell']) (by unfold maxLen; omega) (by omega) ?_); clear H; intro a24 c24 w1 H; simp only [Act.put, List.setIfInBounds_toArray, List.set_cons_zero, List.set_cons_succ]) | (with_reducible refine wpl rfl (Stp.box 2 rfl rfl rfl H ?_); clear H; intro g2 w1 H; simp only [Act.put, List.setIfInBounds_toArray, List.set_cons_zero, List.set_cons_succ]; simp only [eval_tmp, eval_const, getD_lit0, getD_lits, cells_agg, cells_int, cells_bool, cells_string, cells_pointer, cells_slice, cells_map, List.setIfInBounds_toArray, List.set_cons_zero, List.set_cons_succ] at H) | (with_reducible refine wpl rfl (Stp.ldr rfl agg28 size28 rfl H (by repeat (first | exact List.mem_cons_self | apply List.mem_cons_of_mem)) (by first | exact R_size _ | rfl | (simp; done) | assumption) ?_); simp only [Act.put, List.setIfInBounds_toArray, List.set_cons_zero, List.set_cons_succ]) | (with_reducible refine wpl rfl (Stp.ldor rfl agg28 size28 rfl H (by assumption) (by first | exact R_size _ | rfl | (simp; done) | assumption) (by assumption) ?_); simp only [Act.put, List.setIfInBounds_toArray, List.set_cons_zero, List.set_cons_succ]) | (with_reducible refine wpl rfl (Stp.alloc 7 rfl rfl zero28 H ?_); clear H; intro g7 w1 H; simp only [Act.put, List.setIfInBounds_toArray, List.set_cons_zero, List.set_cons_succ]; simp only [cells_agg, cells_int, cells_bool, cells_string, cells_pointer, cells_slice, cells_map] at H) | (with_reducible refine wpl rfl (Stp.str rfl size28 rfl rfl (by first | exact R_one _ | rfl | (simp [Value.oneCell']; done) | assumption) H (by repeat (first | exact Upd.head | apply Upd.tail)) (by first | exact R_size _ | rfl | (simp; done) | assumption) (by first | exact R_size _ | rfl | (simp; done) | assumption) ?_); clear H; intro w1 H; simp only [Act.put, List.setIfInBounds_toArray, List.set_cons_zero, List.set_cons_succ]) | (with_reducible refine wpl rfl (Stp.ldr rfl agg24 size24 rfl H (by repeat (first | exact List.mem_cons_self | apply List.mem_cons_of_mem)) (by first | exact R_size _ | rfl | (simp; done) | assumption) ?_); simp only [Act.put, List.setIfInBounds_toArray, List.set_cons_zero, List.set_cons_succ]) | (with_reducible refine wpl rfl (Stp.ldor rfl agg24 size24 rfl H (by assumption) (by first | exact R_size _ | rfl | (simp; done) | assumption) (by assumption) ?_); simp only [Act.put, List.setIfInBounds_toArray, List.set_cons_zero, List.set_cons_succ]))
        go_roundw
        case rel =>
          refine ⟨k + 1, by omega, by go_num, ap, cp, a24, c24, n, m + 1, by omega, by omega, rfl, rfl, ?_⟩
          rw [HW1.out, HW2.out, HH.out, if_neg (by decide), if_pos (by decide), List.append_nil, pv_snoc]
          exact H.tl.tl
        case measure => simp [intOf]; omega
      · have HH := Lib.hid hh
        clear hh
        go_wp2_with (first | (go_at_call 10; refine (has_ok _ _ _ hi0 _).mono ?_; rintro e w1 ⟨v, rfl, hr⟩; obtain ⟨rfl, hb1⟩ := hr; replace H := H.grow hb1; clear hb1; rw [HH.out]) | (with_reducible refine wpl rfl (Stp.bsl (e := 28) (cs := #[.int .u16 i0, .int .u32 c0]) 19 rfl rfl (fun W => by kernel_rfl) H ?_); clear H; intro g19 w1 H; simp only [Act.put, List.setIfInBounds_toArray, List.set_cons_zero, List.set_cons_succ]) | (with_reducible refine wpl rfl (Stp.app 20 rfl rfl Try.underlying25 info28 rfl (by decide) rfl rfl H (fun _ => (by repeat (first | exact Upd.head | apply Upd.tail))) rfl (newN (H.getRow (by repeat (first | exact List.mem_cons_self | apply List.mem_cons_of_mem)))) (by simp [Value.oneCell']) (by unfold maxLen; omega) (by omega) ?_); clear H; intro a20 c20 w1 H; simp only [Act.put, List.setIfInBounds_toArray, List.set_cons_zero, List.set_cons_succ]) | (with_reducible refine wpl rfl (Stp.box 2 rfl rfl rfl H ?_); clear H; intro g2 w1 H; simp only [Act.put, List.setIfInBounds_toArray, List.set_cons_zero, List.set_cons_succ]; simp only [eval_tmp, eval_const, getD_lit0, getD_lits, cells_agg, cells_int, cells_bool, cells_string, cells_pointer, cells_slice, cells_map, List.setIfInBounds_toArray, List.set_cons_zero, List.set_cons_succ] at H) | (with_reducible refine wpl rfl (Stp.ldr rfl agg28 size28 rfl H (by repeat (first | exact List.mem_cons_self | apply List.mem_cons_of_mem)) (by first | exact R_size _ | rfl | (simp; done) | assumption) ?_); simp only [Act.put, List.setIfInBounds_toArray, List.set_cons_zero, List.set_cons_succ]) | (with_reducible refine wpl rfl (Stp.ldor rfl agg28 size28 rfl H (by assumption) (by first | exact R_size _ | rfl | (simp; done) | assumption) (by assumption) ?_); simp only [Act.put, List.setIfInBounds_toArray, List.set_cons_zero, List.set_cons_succ]) | (with_reducible refine wpl rfl (Stp.alloc 7 rfl rfl zero28 H ?_); clear H; intro g7 w1 H; simp only [Act.put, List.setIfInBounds_toArray, List.set_cons_zero, List.set_cons_succ]; simp only [cells_agg, cells_int, cells_bool, cells_string, cells_pointer, cells_slice, cells_map] at H) | (with_reducible refine wpl rfl (Stp.str rfl size28 rfl rfl (by first | exact R_one _ | rfl | (simp [Value.oneCell']; done) | assumption) H (by repeat (first | exact Upd.head | apply Upd.tail)) (by first | exact R_size _ | rfl | (simp; done) | assumption) (by first | exact R_size _ | rfl | (simp; done) | assumption) ?_); clear H; intro w1 H; simp only [Act.put, List.setIfInBounds_toArray, List.set_cons_zero, List.set_cons_succ]) | (with_reducible refine wpl rfl (Stp.ldr rfl agg24 size24 rfl H (by repeat (first | exact List.mem_cons_self | apply List.mem_cons_of_mem)) (by first | exact R_size _ | rfl | (simp; done) | assumption) ?_); simp only [Act.put, List.setIfInBounds_toArray, List.set_cons_zero, List.set_cons_succ]) | (with_reducible refine wpl rfl (Stp.ldor rfl agg24 size24 rfl H (by assumption) (by first | exact R_size _ | rfl | (simp; done) | assumption) (by assumption) ?_); simp only [Act.put, List.setIfInBounds_toArray, List.set_cons_zero, List.set_cons_succ]))
        go_roundw
        case rel =>
          refine ⟨k + 1, by omega, by go_num, a20, c20, aq, cq, n + 1, m, by omega, by omega, rfl, rfl, ?_⟩
          rw [HW1.out, HW2.out, HH.out, if_pos (by decide), if_neg (by decide), List.append_nil, pv_snoc]
          exact H.tl.tl
        case measure => simp [intOf]; omega
    · obtain rfl : k = l.length := by omega
      rw [List.take_length] at H
      go_wp2_with (first | (with_reducible refine wpl rfl (Stp.box 2 rfl rfl rfl H ?_); clear H; intro g2 w1 H; simp only [Act.put, List.setIfInBounds_toArray, List.set_cons_zero, List.set_cons_succ]; simp only [eval_tmp, eval_const, getD_lit0, getD_lits, cells_agg, cells_int, cells_bool, cells_string, cells_pointer, cells_slice, cells_map, List.setIfInBounds_toArray, List.set_cons_zero, List.set_cons_succ] at H) | (with_reducible refine wpl rfl (Stp.ldr rfl agg28 size28 rfl H (by repeat (first | exact List.mem_cons_self | apply List.mem_cons_of_mem)) (by first | exact R_size _ | rfl | (simp; done) | assumption) ?_); simp only [Act.put, List.setIfInBounds_toArray, List.set_cons_zero, List.set_cons_succ]) | (with_reducible refine wpl rfl (Stp.ldor rfl agg28 size28 rfl H (by assumption) (by first | exact R_size _ | rfl | (simp; done) | assumption) (by assumption) ?_); simp only [Act.put, List.setIfInBounds_toArray, List.set_cons_zero, List.set_cons_succ]) | (with_reducible refine wpl rfl (Stp.alloc 7 rfl rfl zero28 H ?_); clear H; intro g7 w1 H; simp only [Act.put, List.setIfInBounds_toArray, List.set_cons_zero, List.set_cons_succ]; simp only [cells_agg, cells_int, cells_bool, cells_string, cells_pointer, cells_slice, cells_map] at H) | (with_reducible refine wpl rfl (Stp.str rfl size28 rfl rfl (by first | exact R_one _ | rfl | (simp [Value.oneCell']; done) | assumption) H (by repeat (first | exact Upd.head | apply Upd.tail)) (by first | exact R_size _ | rfl | (simp; done) | assumption) (by first | exact R_size _ | rfl | (simp; done) | assumption) ?_); clear H; intro w1 H; simp only [Act.put, List.setIfInBounds_toArray, List.set_cons_zero, List.set_cons_succ]) | (with_reducible refine wpl rfl (Stp.ldr rfl agg24 size24 rfl H (by repeat (first | exact List.mem_cons_self | apply List.mem_cons_of_mem)) (by first | exact R_size _ | rfl | (simp; done) | assumption) ?_); simp only [Act.put, List.setIfInBounds_toArray, List.set_cons_zero, List.set_cons_succ]) | (with_reducible refine wpl rfl (Stp.ldor rfl agg24 size24 rfl H (by assumption) (by first | exact R_size _ | rfl | (simp; done) | assumption) (by assumption) ?_); simp only [Act.put, List.setIfInBounds_toArray, List.set_cons_zero, List.set_cons_succ]))
      go_ret2
      exact ⟨_, rfl, ap, cp, aq, cq, n, m, rfl, H.getSlc (by repeat (first | exact List.mem_cons_self | apply List.mem_cons_of_mem)), H.getSlc (by repeat (first | exact List.mem_cons_self | apply List.mem_cons_of_mem)), H.below⟩
theorem within_ok (r : Nat → Int) (v : Value) (l : List (Int × Int)) (hl : nn l) (h60 : l.length ≤ 1000) (w : World) (hs : Sl w 2 l.length v (elE l)) :
    Calls Try.prog 16 #[.agg (R r), v] w (Ret fun v w' => (∃ ap cp n, v = .slice ap n cp ∧ w'.ownsRow w.heap.size 28 2 (.slice ap n cp) n (pv (partR r l true))) ∧ Below w.heap.size w w') := by
  have H := St.init w
  go_enter Try.func16, Try.ntmps16
  go_wp2_with (first | (go_at_call 23; refine (parted_ok r _ l hl h60 _ (hs.grow H.below)).mono ?_; rintro e w1 ⟨v, rfl, hr⟩; obtain ⟨ap, cp, aq, cq, n, m, rfl, ho1, ho2, hb1⟩ := hr; replace H := H.new hb1 (slc_sound ho1) (fun g hg => (ho1.lt g hg).1); clear hb1 ho1 ho2) | (with_reducible refine wpl rfl (Stp.box 2 rfl rfl rfl H ?_); clear H; intro g2 w1 H; simp only [Act.put, List.setIfInBounds_toArray, List.set_cons_zero, List.set_cons_succ]; simp only [eval_tmp, eval_const, getD_lit0, getD_lits, cells_agg, cells_int, cells_bool, cells_string, cells_pointer, cells_slice, cells_map, List.setIfInBounds_toArray, List.set_cons_zero, List.set_cons_succ] at H) | (with_reducible refine wpl rfl (Stp.ldr rfl agg24 size24 rfl H (by repeat (first | exact List.mem_cons_self | apply List.mem_cons_of_mem)) (by first | exact R_size _ | rfl | (simp; done) | assumption) ?_); simp only [Act.put, List.setIfInBounds_toArray, List.set_cons_zero, List.set_cons_succ]) | (with_reducible refine wpl rfl (Stp.ldor rfl agg24 size24 rfl H (by assumption) (by first | exact R_size _ | rfl | (simp; done) | assumption) (by assumption) ?_); simp only [Act.put, List.setIfInBounds_toArray, List.set_cons_zero, List.set_cons_succ]))
  go_ret
  exact ⟨_, rfl, ⟨_, _, _, rfl, H.getSlc (by repeat (first | exact List.mem_cons_self | apply List.mem_cons_of_mem))⟩, H.below⟩
theorem sound_ok (r : Nat → Int) (v : Value) (l : List (Int × Int)) (hl : nn l) (h60 : l.length ≤ 1000) (w : World) (hs : Sl w 2 l.length v (elE l)) :
    Calls Try.prog 18 #[.agg (R r), v] w (Ret fun v w' => (∃ ap cp n, v = .slice ap n cp ∧ w'.ownsRow w.heap.size 28 2 (.slice ap n cp) n (pv (partR r l false))) ∧ Below w.heap.size w w') := by
  have H := St.init w
  go_enter Try.func18, Try.ntmps18
  go_wp2_with (first | (go_at_call 23; refine (parted_ok r _ l hl h60 _ (hs.grow H.below)).mono ?_; rintro e w1 ⟨v, rfl, hr⟩; obtain ⟨ap, cp, aq, cq, n, m, rfl, ho1, ho2, hb1⟩ := hr; replace H := H.new hb1 (slc_sound ho2) (fun g hg => (ho2.lt g hg).1); clear hb1 ho1 ho2) | (with_reducible refine wpl rfl (Stp.box 2 rfl rfl rfl H ?_); clear H; intro g2 w1 H; simp only [Act.put, List.setIfInBounds_toArray, List.set_cons_zero, List.set_cons_succ]; simp only [eval_tmp, eval_const, getD_lit0, getD_lits, cells_agg, cells_int, cells_bool, cells_string, cells_pointer, cells_slice, cells_map, List.setIfInBounds_toArray, List.set_cons_zero, List.set_cons_succ] at H) | (with_reducible refine wpl rfl (Stp.ldr rfl agg24 size24 rfl H (by repeat (first | exact List.mem_cons_self | apply List.mem_cons_of_mem)) (by first | exact R_size _ | rfl | (simp; done) | assumption) ?_); simp only [Act.put, List.setIfInBounds_toArray, List.set_cons_zero, List.set_cons_succ]) | (with_reducible refine wpl rfl (Stp.ldor rfl agg24 size24 rfl H (by assumption) (by first | exact R_size _ | rfl | (simp; done) | assumption) (by assumption) ?_); simp only [Act.put, List.setIfInBounds_toArray, List.set_cons_zero, List.set_cons_succ]))
  go_ret
  exact ⟨_, rfl, ⟨_, _, _, rfl, H.getSlc (by repeat (first | exact List.mem_cons_self | apply List.mem_cons_of_mem))⟩, H.below⟩
set_option maxRecDepth 100000 in
set_option maxHeartbeats 1000000 in
theorem part_true (r : Nat → Int) (v : Value) (l : List (Int × Int)) (hl : nn l) (h60 : l.length ≤ 1000) (w : World) (hs : Sl w 2 l.length v (elE l)) :
    Calls Try.prog 17 #[.agg (R r), v, .bool true] w (Ret fun v w' => (∃ ap cp n, v = .slice ap n cp ∧ w'.ownsRow w.heap.size 28 2 (.slice ap n cp) n (pv (partR r l true))) ∧ Below w.heap.size w w') := by
  obtain ⟨a, c, rfl, hm, hE⟩ := hs
  have HE := Lib.hid hE
  clear hE
  unfold maxLen at hm
  have H := (St.init w).nil 28 2
  go_enter Try.func17, Try.ntmps17
  go_wp2_with (first | (with_reducible refine wpl rfl (Stp.box 3 rfl rfl rfl H ?_); clear H; intro g3 w1 H; simp only [Act.put, List.setIfInBounds_toArray, List.set_cons_zero, List.set_cons_succ]; simp only [eval_tmp, eval_const, getD_lit0, getD_lits, cells_agg, cells_int, cells_bool, cells_string, cells_pointer, cells_slice, cells_map, List.setIfInBounds_toArray, List.set_cons_zero, List.set_cons_succ] at H) | (with_reducible refine wpl rfl (Stp.ldr rfl agg28 size28 rfl H (by repeat (first | exact List.mem_cons_self | apply List.mem_cons_of_mem)) (by first | exact R_size _ | rfl | (simp; done) | assumption) ?_); simp only [Act.put, List.setIfInBounds_toArray, List.set_cons_zero, List.set_cons_succ]) | (with_reducible refine wpl rfl (Stp.ldor rfl agg28 size28 rfl H (by assumption) (by first | exact R_size _ | rfl | (simp; done) | assumption) (by assumption) ?_); simp only [Act.put, List.setIfInBounds_toArray, List.set_cons_zero, List.set_cons_succ]))
  go_loopw [8, 7] (fun i x wr => ∃ k : Nat, k ≤ l.length ∧ i = .int .i64 k ∧ ∃ ap cp n, n ≤ k ∧ x = .slice ap n cp ∧ St w.heap.size w wr [row 24 g3 (R r), slc 28 2 (.slice ap n cp) n (pv (partR r (l.take k) true))]) (fun i _ _ => l.length - (intOf i).toNat)
  case atStart => exact ⟨0, Nat.zero_le _, rfl, _, _, 0, by omega, rfl, by simpa [pv, partR] using H⟩
  case round =>
    clear H
    obtain ⟨k, hk, rfl, ap, cp, n, hn, rfl, H⟩ := hrel
    by_cases hlt : k < l.length
    · obtain ⟨b, off, rfl, hb, hc⟩ := HE.out (by omega)
      clear HE
      have hnn := nn_at hl k hlt
      have hw1 := partR_snoc r l true k hlt
      rcases hp : l.getD k (0, 0) with ⟨i0, c0⟩
      rw [hp] at hnn hw1
      obtain ⟨hi0, hc0⟩ := hnn
      have hck : ∀ j, j < 2 → w.cell? ⟨b, off + k * 2 + j, none⟩ = (#[Value.int .u16 i0, Value.int .u32 c0] : Array Value)[j]? := fun j hj => by
        rw [hc k hlt j hj]; simp only [elE, hp, pc]
      have HW1 := Lib.hid hw1
      clear hc hp hw1
      cases hh : has r i0 c0
      · have HH := Lib.hid hh
        clear hh
        go_wp2_with (first | (with_reducible refine wpl rfl (Stp.box 3 rfl rfl rfl H ?_); clear H; intro g3 w1 H; simp only [Act.put, List.setIfInBounds_toArray, List.set_cons_zero, List.set_cons_succ]; simp only [eval_tmp, eval_const, getD_lit0, getD_lits, cells_agg, cells_int, cells_bool, cells_string, cells_pointer, cells_slice, cells_map, List.setIfInBounds_toArray, List.set_cons_zero, List.set_cons_succ] at H) | (with_reducible refine wpl rfl (Stp.ldr rfl agg28 size28 rfl H (by repeat (first | exact List.mem_cons_self | apply List.mem_cons_of_mem)) (by first | exact R_size _ | rfl | (simp; done) | assumption) ?_); simp only [Act.put, List.setIfInBounds_toArray, List.set_cons_zero, List.set_cons_succ]) | (with_reducible refine wpl rfl (Stp.ldor rfl agg28 size28 rfl H (by assumption) (by first | exact R_size _ | rfl | (simp; done) | assumption) (by assumption) ?_); simp only [Act.put, List.setIfInBounds_toArray, List.set_cons_zero, List.set_cons_succ]))
        refine rg_begin 8 rfl (S := fun W => St _ _ W _) (by kernel_rfl) H.drew ?_
        replace H := H.drew
        have HS := H
        first | (refine rg_take (i := 0) rfl (by kernel_rfl) (by kernel_rfl) (by kernel_rfl) (Yld.ldr rfl rfl agg24 size24 rfl (by repeat (first | exact List.mem_cons_self | apply List.mem_cons_of_mem)) (by first | exact R_size _ | rfl | (simp; done) | assumption)) HS ?_; simp only [Act.put, List.setIfInBounds_toArray, List.set_cons_zero, List.set_cons_succ]) | (refine rg_take (i := 0) rfl (by kernel_rfl) (by kernel_rfl) (by kernel_rfl) (Yld.ldor rfl rfl agg24 size24 rfl (by assumption) (by first | exact R_size _ | rfl | (simp; done) | assumption) (by assumption)) HS ?_; simp only [Act.put, List.setIfInBounds_toArray, List.set_cons_zero, List.set_cons_succ])
        refine rg_take (i := 1) rfl (by kernel_rfl) (by kernel_rfl) (by kernel_rfl) (Yld.move rfl rfl) HS ?_; simp only [Act.put, eval_tmp, eval_const, getD_lit0, getD_lits, if_true, if_false, List.setIfInBounds_toArray, List.set_cons_zero, List.set_cons_succ]
        refine rg_take (i := 2) rfl (by kernel_rfl) (by kernel_rfl) (by kernel_rfl) (Yld.move rfl rfl) HS ?_; simp only [Act.put, eval_tmp, eval_const, getD_lit0, getD_lits, if_true, if_false, List.setIfInBounds_toArray, List.set_cons_zero, List.set_cons_succ]
        refine rg_take (i := 3) rfl (by kernel_rfl) (by kernel_rfl) (by kernel_rfl) (Yld.of rfl (fun W _ => by go_simp; first | done | with_reducible rfl)) HS ?_; simp only [Act.put, List.setIfInBounds_toArray, List.set_cons_zero, List.set_cons_succ]
        first | (refine rg_take (i := 4) rfl (by kernel_rfl) (by kernel_rfl) (by kernel_rfl) (Yld.ldr rfl rfl agg28 size28 rfl (by repeat (first | exact List.mem_cons_self | apply List.mem_cons_of_mem)) (by first | exact R_size _ | rfl | (simp; done) | assumption)) HS ?_; simp only [Act.put, List.setIfInBounds_toArray, List.set_cons_zero, List.set_cons_succ]) | (refine rg_take (i := 4) rfl (by kernel_rfl) (by kernel_rfl) (by kernel_rfl) (Yld.ldor rfl rfl agg28 size28 rfl (by assumption) (by first | exact R_size _ | rfl | (simp; done) | assumption) (by assumption)) HS ?_; simp only [Act.put, List.setIfInBounds_toArray, List.set_cons_zero, List.set_cons_succ])
        refine rg_take (i := 6) rfl (by kernel_rfl) (by kernel_rfl) (by kernel_rfl) (Yld.move rfl rfl) HS ?_; simp only [Act.put, eval_tmp, eval_const, getD_lit0, getD_lits, if_true, if_false, List.setIfInBounds_toArray, List.set_cons_zero, List.set_cons_succ]
        refine rg_one (i := 5) (by kernel_rfl) rfl rfl (fun K hK => ?_)
        refine wp_callf rfl ent11 (rhas_ok _ _ _ hi0 hc0 _) rfl (fun v w1 hr => ?_)
        obtain ⟨rfl, hb1⟩ := hr
        replace H := H.grow hb1
        clear hb1
        rw [HH.out]
        clear HS
        have HS := H
        refine hK.out _ _ HS ?_
        clear hK K
        simp only [Act.put, List.setIfInBounds_toArray, List.set_cons_zero, List.set_cons_succ]
        refine rg_take (i := 7) rfl (by kernel_rfl) (by kernel_rfl) (by kernel_rfl) (Yld.of rfl (fun W _ => by go_simp; first | done | with_reducible rfl)) HS ?_; simp only [Act.put, List.setIfInBounds_toArray, List.set_cons_zero, List.set_cons_succ]
        refine rg_done (by kernel_rfl) ?_
        go_wp2_with (first | (with_reducible refine wpl rfl (Stp.bsl (e := 28) (cs := #[.int .u16 i0, .int .u32 c0]) 28 rfl rfl (fun W => by kernel_rfl) H ?_); clear H; intro g28 w1 H; simp only [Act.put, List.setIfInBounds_toArray, List.set_cons_zero, List.set_cons_succ]) | (with_reducible refine wpl rfl (Stp.app 29 rfl rfl Try.underlying25 info28 rfl (by decide) rfl rfl H (fun _ => (by repeat (first | exact Upd.head | apply Upd.tail))) rfl (newN (H.getRow (by repeat (first | exact List.mem_cons_self | apply List.mem_cons_of_mem)))) (by simp [Value.oneCell']) (by unfold maxLen; omega) (by omega) ?_); clear H; intro a29 c29 w1 H; simp only [Act.put, List.setIfInBounds_toArray, List.set_cons_zero, List.set_cons_succ]) | (with_reducible refine wpl rfl (Stp.box 3 rfl rfl rfl H ?_); clear H; intro g3 w1 H; simp only [Act.put, List.setIfInBounds_toArray, List.set_cons_zero, List.set_cons_succ]; simp only [eval_tmp, eval_const, getD_lit0, getD_lits, cells_agg, cells_int, cells_bool, cells_string, cells_pointer, cells_slice, cells_map, List.setIfInBounds_toArray, List.set_cons_zero, List.set_cons_succ] at H) | (with_reducible refine wpl rfl (Stp.ldr rfl agg28 size28 rfl H (by repeat (first | exact List.mem_cons_self | apply List.mem_cons_of_mem)) (by first | exact R_size _ | rfl | (simp; done) | assumption) ?_); simp only [Act.put, List.setIfInBounds_toArray, List.set_cons_zero, List.set_cons_succ]) | (with_reducible refine wpl rfl (Stp.ldor rfl agg28 size28 rfl H (by assumption) (by first | exact R_size _ | rfl | (simp; done) | assumption) (by assumption) ?_); simp only [Act.put, List.setIfInBounds_toArray, List.set_cons_zero, List.set_cons_succ]))
        go_roundw
        case rel =>
          refine ⟨k + 1, by omega, by go_num, ap, cp, n, by omega, rfl, ?_⟩
          rw [HW1.out, HH.out, if_neg (by decide), List.append_nil]
          exact H
        case measure => simp [intOf]; omega
      · have HH := Lib.hid hh
        clear hh
        go_wp2_with (first | (with_reducible refine wpl rfl (Stp.box 3 rfl rfl rfl H ?_); clear H; intro g3 w1 H; simp only [Act.put, List.setIfInBounds_toArray, List.set_cons_zero, List.set_cons_succ]; simp only [eval_tmp, eval_const, getD_lit0, getD_lits, cells_agg, cells_int, cells_bool, cells_string, cells_pointer, cells_slice, cells_map, List.setIfInBounds_toArray, List.set_cons_zero, List.set_cons_succ] at H) | (with_reducible refine wpl rfl (Stp.ldr rfl agg28 size28 rfl H (by repeat (first | exact List.mem_cons_self | apply List.mem_cons_of_mem)) (by first | exact R_size _ | rfl | (simp; done) | assumption) ?_); simp only [Act.put, List.setIfInBounds_toArray, List.set_cons_zero, List.set_cons_succ]) | (with_reducible refine wpl rfl (Stp.ldor rfl agg28 size28 rfl H (by assumption) (by first | exact R_size _ | rfl | (simp; done) | assumption) (by assumption) ?_); simp only [Act.put, List.setIfInBounds_toArray, List.set_cons_zero, List.set_cons_succ]))
        refine rg_begin 8 rfl (S := fun W => St _ _ W _) (by kernel_rfl) H.drew ?_
        replace H := H.drew
        have HS := H
        first | (refine rg_take (i := 0) rfl (by kernel_rfl) (by kernel_rfl) (by kernel_rfl) (Yld.ldr rfl rfl agg24 size24 rfl (by repeat (first | exact List.mem_cons_self | apply List.mem_cons_of_mem)) (by first | exact R_size _ | rfl | (simp; done) | assumption)) HS ?_; simp only [Act.put, List.setIfInBounds_toArray, List.set_cons_zero, List.set_cons_succ]) | (refine rg_take (i := 0) rfl (by kernel_rfl) (by kernel_rfl) (by kernel_rfl) (Yld.ldor rfl rfl agg24 size24 rfl (by assumption) (by first | exact R_size _ | rfl | (simp; done) | assumption) (by assumption)) HS ?_; simp only [Act.put, List.setIfInBounds_toArray, List.set_cons_zero, List.set_cons_succ])
        refine rg_take (i := 1) rfl (by kernel_rfl) (by kernel_rfl) (by kernel_rfl) (Yld.move rfl rfl) HS ?_; simp only [Act.put, eval_tmp, eval_const, getD_lit0, getD_lits, if_true, if_false, List.setIfInBounds_toArray, List.set_cons_zero, List.set_cons_succ]
        refine rg_take (i := 2) rfl (by kernel_rfl) (by kernel_rfl) (by kernel_rfl) (Yld.move rfl rfl) HS ?_; simp only [Act.put, eval_tmp, eval_const, getD_lit0, getD_lits, if_true, if_false, List.setIfInBounds_toArray, List.set_cons_zero, List.set_cons_succ]
        refine rg_take (i := 3) rfl (by kernel_rfl) (by kernel_rfl) (by kernel_rfl) (Yld.of rfl (fun W _ => by go_simp; first | done | with_reducible rfl)) HS ?_; simp only [Act.put, List.setIfInBounds_toArray, List.set_cons_zero, List.set_cons_succ]
        first | (refine rg_take (i := 4) rfl (by kernel_rfl) (by kernel_rfl) (by kernel_rfl) (Yld.ldr rfl rfl agg28 size28 rfl (by repeat (first | exact List.mem_cons_self | apply List.mem_cons_of_mem)) (by first | exact R_size _ | rfl | (simp; done) | assumption)) HS ?_; simp only [Act.put, List.setIfInBounds_toArray, List.set_cons_zero, List.set_cons_succ]) | (refine rg_take (i := 4) rfl (by kernel_rfl) (by kernel_rfl) (by kernel_rfl) (Yld.ldor rfl rfl agg28 size28 rfl (by assumption) (by first | exact R_size _ | rfl | (simp; done) | assumption) (by assumption)) HS ?_; simp only [Act.put, List.setIfInBounds_toArray, List.set_cons_zero, List.set_cons_succ])
        refine rg_take (i := 6) rfl (by kernel_rfl) (by kernel_rfl) (by kernel_rfl) (Yld.move rfl rfl) HS ?_; simp only [Act.put, eval_tmp, eval_const, getD_lit0, getD_lits, if_true, if_false, List.setIfInBounds_toArray, List.set_cons_zero, List.set_cons_succ]
        refine rg_one (i := 5) (by kernel_rfl) rfl rfl (fun K hK => ?_)
        refine wp_callf rfl ent11 (rhas_ok _ _ _ hi0 hc0 _) rfl (fun v w1 hr => ?_)
        obtain ⟨rfl, hb1⟩ := hr
        replace H := H.grow hb1
        clear hb1
        rw [HH.out]
        clear HS
        have HS := H
        refine hK.out _ _ HS ?_
        clear hK K
        simp only [Act.put, List.setIfInBounds_toArray, List.set_cons_zero, List.set_cons_succ]
        refine rg_take (i := 7) rfl (by kernel_rfl) (by kernel_rfl) (by kernel_rfl) (Yld.of rfl (fun W _ => by go_simp; first | done | with_reducible rfl)) HS ?_; simp only [Act.put, List.setIfInBounds_toArray, List.set_cons_zero, List.set_cons_succ]
        refine rg_done (by kernel_rfl) ?_
        go_wp2_with (first | (with_reducible refine wpl rfl (Stp.bsl (e := 28) (cs := #[.int .u16 i0, .int .u32 c0]) 28 rfl rfl (fun W => by kernel_rfl) H ?_); clear H; intro g28 w1 H; simp only [Act.put, List.setIfInBounds_toArray, List.set_cons_zero, List.set_cons_succ]) | (with_reducible refine wpl rfl (Stp.app 29 rfl rfl Try.underlying25 info28 rfl (by decide) rfl rfl H (fun _ => (by repeat (first | exact Upd.head | apply Upd.tail))) rfl (newN (H.getRow (by repeat (first | exact List.mem_cons_self | apply List.mem_cons_of_mem)))) (by simp [Value.oneCell']) (by unfold maxLen; omega) (by omega) ?_); clear H; intro a29 c29 w1 H; simp only [Act.put, List.setIfInBounds_toArray, List.set_cons_zero, List.set_cons_succ]) | (with_reducible refine wpl rfl (Stp.box 3 rfl rfl rfl H ?_); clear H; intro g3 w1 H; simp only [Act.put, List.setIfInBounds_toArray, List.set_cons_zero, List.set_cons_succ]; simp only [eval_tmp, eval_const, getD_lit0, getD_lits, cells_agg, cells_int, cells_bool, cells_string, cells_pointer, cells_slice, cells_map, List.setIfInBounds_toArray, List.set_cons_zero, List.set_cons_succ] at H) | (with_reducible refine wpl rfl (Stp.ldr rfl agg28 size28 rfl H (by repeat (first | exact List.mem_cons_self | apply List.mem_cons_of_mem)) (by first | exact R_size _ | rfl | (simp; done) | assumption) ?_); simp only [Act.put, List.setIfInBounds_toArray, List.set_cons_zero, List.set_cons_succ]) | (with_reducible refine wpl rfl (Stp.ldor rfl agg28 size28 rfl H (by assumption) (by first | exact R_size _ | rfl | (simp; done) | assumption) (by assumption) ?_); simp only [Act.put, List.setIfInBounds_toArray, List.set_cons_zero, List.set_cons_succ]))
        go_roundw
        case rel =>
          refine ⟨k + 1, by omega, by go_num, a29, c29, n + 1, by omega, rfl, ?_⟩
          rw [HW1.out, HH.out, if_pos (by decide), pv_snoc]
          exact H.tl
        case measure => simp [intOf]; omega
    · obtain rfl : k = l.length := by omega
      rw [List.take_length] at H
      go_wp2_with (first | (with_reducible refine wpl rfl (Stp.box 3 rfl rfl rfl H ?_); clear H; intro g3 w1 H; simp only [Act.put, List.setIfInBounds_toArray, List.set_cons_zero, List.set_cons_succ]; simp only [eval_tmp, eval_const, getD_lit0, getD_lits, cells_agg, cells_int, cells_bool, cells_string, cells_pointer, cells_slice, cells_map, List.setIfInBounds_toArray, List.set_cons_zero, List.set_cons_succ] at H) | (with_reducible refine wpl rfl (Stp.ldr rfl agg28 size28 rfl H (by repeat (first | exact List.mem_cons_self | apply List.mem_cons_of_mem)) (by first | exact R_size _ | rfl | (simp; done) | assumption) ?_); simp only [Act.put, List.setIfInBounds_toArray, List.set_cons_zero, List.set_cons_succ]) | (with_reducible refine wpl rfl (Stp.ldor rfl agg28 size28 rfl H (by assumption) (by first | exact R_size _ | rfl | (simp; done) | assumption) (by assumption) ?_); simp only [Act.put, List.setIfInBounds_toArray, List.set_cons_zero, List.set_cons_succ]))
      go_ret
      exact ⟨_, rfl, ⟨ap, cp, n, rfl, H.getSlc (by repeat (first | exact List.mem_cons_self | apply List.mem_cons_of_mem))⟩, H.below⟩
set_option maxRecDepth 100000 in
set_option maxHeartbeats 1000000 in
theorem part_false (r : Nat → Int) (v : Value) (l : List (Int × Int)) (hl : nn l) (h60 : l.length ≤ 1000) (w : World) (hs : Sl w 2 l.length v (elE l)) :
    Calls Try.prog 17 #[.agg (R r), v, .bool false] w (Ret fun v w' => (∃ ap cp n, v = .slice ap n cp ∧ w'.ownsRow w.heap.size 28 2 (.slice ap n cp) n (pv (partR r l false))) ∧ Below w.heap.size w w') := by
  obtain ⟨a, c, rfl, hm, hE⟩ := hs
  have HE := Lib.hid hE
  clear hE
  unfold maxLen at hm
  have H := (St.init w).nil 28 2
  go_enter Try.func17, Try.ntmps17
  go_wp2_with (first | (with_reducible refine wpl rfl (Stp.box 3 rfl rfl rfl H ?_); clear H; intro g3 w1 H; simp only [Act.put, List.setIfInBounds_toArray, List.set_cons_zero, List.set_cons_succ]; simp only [eval_tmp, eval_const, getD_lit0, getD_lits, cells_agg, cells_int, cells_bool, cells_string, cells_pointer, cells_slice, cells_map, List.setIfInBounds_toArray, List.set_cons_zero, List.set_cons_succ] at H) | (with_reducible refine wpl rfl (Stp.ldr rfl agg28 size28 rfl H (by repeat (first | exact List.mem_cons_self | apply List.mem_cons_of_mem)) (by first | exact R_size _ | rfl | (simp; done) | assumption) ?_); simp only [Act.put, List.setIfInBounds_toArray, List.set_cons_zero, List.set_cons_succ]) | (with_reducible refine wpl rfl (Stp.ldor rfl agg28 size28 rfl H (by assumption) (by first | exact R_size _ | rfl | (simp; done) | assumption) (by assumption) ?_); simp only [Act.put, List.setIfInBounds_toArray, List.set_cons_zero, List.set_cons_succ]))
  go_loopw [8, 7] (fun i x wr => ∃ k : Nat, k ≤ l.length ∧ i = .int .i64 k ∧ ∃ ap cp n, n ≤ k ∧ x = .slice ap n cp ∧ St w.heap.size w wr [row 24 g3 (R r), slc 28 2 (.slice ap n cp) n (pv (partR r (l.take k) false))]) (fun i _ _ => l.length - (intOf i).toNat)
  case atStart => exact ⟨0, Nat.zero_le _, rfl, _, _, 0, by omega, rfl, by simpa [pv, partR] using H⟩
  case round =>
    clear H
    obtain ⟨k, hk, rfl, ap, cp, n, hn, rfl, H⟩ := hrel
    by_cases hlt : k < l.length
    · obtain ⟨b, off, rfl, hb, hc⟩ := HE.out (by omega)
      clear HE
      have hnn := nn_at hl k hlt
      have hw1 := partR_snoc r l false k hlt
      rcases hp : l.getD k (0, 0) with ⟨i0, c0⟩
      rw [hp] at hnn hw1
      obtain ⟨hi0, hc0⟩ := hnn
      have hck : ∀ j, j < 2 → w.cell? ⟨b, off + k * 2 + j, none⟩ = (#[Value.int .u16 i0, Value.int .u32 c0] : Array Value)[j]? := fun j hj => by
        rw [hc k hlt j hj]; simp only [elE, hp, pc]
      have HW1 := Lib.hid hw1
      clear hc hp hw1
      cases hh : has r i0 c0
      · have HH := Lib.hid hh
        clear hh
        go_wp2_with (first | (with_reducible refine wpl rfl (Stp.box 3 rfl rfl rfl H ?_); clear H; intro g3 w1 H; simp only [Act.put, List.setIfInBounds_toArray, List.set_cons_zero, List.set_cons_succ]; simp only [eval_tmp, eval_const, getD_lit0, getD_lits, cells_agg, cells_int, cells_bool, cells_string, cells_pointer, cells_slice, cells_map, List.setIfInBounds_toArray, List.set_cons_zero, List.set_cons_succ] at H) | (with_reducible refine wpl rfl (Stp.ldr rfl agg28 size28 rfl H (by repeat (first | exact List.mem_cons_self | apply List.mem_cons_of_mem)) (by first | exact R_size _ | rfl | (simp; done) | assumption) ?_); simp only [Act.put, List.setIfInBounds_toArray, List.set_cons_zero, List.set_cons_succ]) | (with_reducible refine wpl rfl (Stp.ldor rfl agg28 size28 rfl H (by assumption) (by first | exact R_size _ | rfl | (simp; done) | assumption) (by assumption) ?_); simp only [Act.put, List.setIfInBounds_toArray, List.set_cons_zero, List.set_cons_succ]))
        refine rg_begin 8 rfl (S := fun W => St _ _ W _) (by kernel_rfl) H.drew ?_
        replace H := H.drew
        have HS := H
        first | (refine rg_take (i := 0) rfl (by kernel_rfl) (by kernel_rfl) (by kernel_rfl) (Yld.ldr rfl rfl agg24 size24 rfl (by repeat (first | exact List.mem_cons_self | apply List.mem_cons_of_mem)) (by first | exact R_size _ | rfl | (simp; done) | assumption)) HS ?_; simp only [Act.put, List.setIfInBounds_toArray, List.set_cons_zero, List.set_cons_succ]) | (refine rg_take (i := 0) rfl (by kernel_rfl) (by kernel_rfl) (by kernel_rfl) (Yld.ldor rfl rfl agg24 size24 rfl (by assumption) (by first | exact R_size _ | rfl | (simp; done) | assumption) (by assumption)) HS ?_; simp only [Act.put, List.setIfInBounds_toArray, List.set_cons_zero, List.set_cons_succ])
        refine rg_take (i := 1) rfl (by kernel_rfl) (by kernel_rfl) (by kernel_rfl) (Yld.move rfl rfl) HS ?_; simp only [Act.put, eval_tmp, eval_const, getD_lit0, getD_lits, if_true, if_false, List.setIfInBounds_toArray, List.set_cons_zero, List.set_cons_succ]
        refine rg_take (i := 2) rfl (by kernel_rfl) (by kernel_rfl) (by kernel_rfl) (Yld.move rfl rfl) HS ?_; simp only [Act.put, eval_tmp, eval_const, getD_lit0, getD_lits, if_true, if_false, List.setIfInBounds_toArray, List.set_cons_zero, List.set_cons_succ]
        refine rg_take (i := 3) rfl (by kernel_rfl) (by kernel_rfl) (by kernel_rfl) (Yld.of rfl (fun W _ => by go_simp; first | done | with_reducible rfl)) HS ?_; simp only [Act.put, List.setIfInBounds_toArray, List.set_cons_zero, List.set_cons_succ]
        first | (refine rg_take (i := 4) rfl (by kernel_rfl) (by kernel_rfl) (by kernel_rfl) (Yld.ldr rfl rfl agg28 size28 rfl (by repeat (first | exact List.mem_cons_self | apply List.mem_cons_of_mem)) (by first | exact R_size _ | rfl | (simp; done) | assumption)) HS ?_; simp only [Act.put, List.setIfInBounds_toArray, List.set_cons_zero, List.set_cons_succ]) | (refine rg_take (i := 4) rfl (by kernel_rfl) (by kernel_rfl) (by kernel_rfl) (Yld.ldor rfl rfl agg28 size28 rfl (by assumption) (by first | exact R_size _ | rfl | (simp; done) | assumption) (by assumption)) HS ?_; simp only [Act.put, List.setIfInBounds_toArray, List.set_cons_zero, List.set_cons_succ])
        refine rg_take (i := 6) rfl (by kernel_rfl) (by kernel_rfl) (by kernel_rfl) (Yld.move rfl rfl) HS ?_; simp only [Act.put, eval_tmp, eval_const, getD_lit0, getD_lits, if_true, if_false, List.setIfInBounds_toArray, List.set_cons_zero, List.set_cons_succ]
        refine rg_one (i := 5) (by kernel_rfl) rfl rfl (fun K hK => ?_)
        refine wp_callf rfl ent11 (rhas_ok _ _ _ hi0 hc0 _) rfl (fun v w1 hr => ?_)
        obtain ⟨rfl, hb1⟩ := hr
        replace H := H.grow hb1
        clear hb1
        rw [HH.out]
        clear HS
        have HS := H
        refine hK.out _ _ HS ?_
        clear hK K
        simp only [Act.put, List.setIfInBounds_toArray, List.set_cons_zero, List.set_cons_succ]
        refine rg_take (i := 7) rfl (by kernel_rfl) (by kernel_rfl) (by kernel_rfl) (Yld.of rfl (fun W _ => by go_simp; first | done | with_reducible rfl)) HS ?_; simp only [Act.put, List.setIfInBounds_toArray, List.set_cons_zero, List.set_cons_succ]
        refine rg_done (by kernel_rfl) ?_
        go_wp2_with (first | (with_reducible refine wpl rfl (Stp.bsl (e := 28) (cs := #[.int .u16 i0, .int .u32 c0]) 28 rfl rfl (fun W => by kernel_rfl) H ?_); clear H; intro g28 w1 H; simp only [Act.put, List.setIfInBounds_toArray, List.set_cons_zero, List.set_cons_succ]) | (with_reducible refine wpl rfl (Stp.app 29 rfl rfl Try.underlying25 info28 rfl (by decide) rfl rfl H (fun _ => (by repeat (first | exact Upd.head | apply Upd.tail))) rfl (newN (H.getRow (by repeat (first | exact List.mem_cons_self | apply List.mem_cons_of_mem)))) (by simp [Value.oneCell']) (by unfold maxLen; omega) (by omega) ?_); clear H; intro a29 c29 w1 H; simp only [Act.put, List.setIfInBounds_toArray, List.set_cons_zero, List.set_cons_succ]) | (with_reducible refine wpl rfl (Stp.box 3 rfl rfl rfl H ?_); clear H; intro g3 w1 H; simp only [Act.put, List.setIfInBounds_toArray, List.set_cons_zero, List.set_cons_succ]; simp only [eval_tmp, eval_const, getD_lit0, getD_lits, cells_agg, cells_int, cells_bool, cells_string, cells_pointer, cells_slice, cells_map, List.setIfInBounds_toArray, List.set_cons_zero, List.set_cons_succ] at H) | (with_reducible refine wpl rfl (Stp.ldr rfl agg28 size28 rfl H (by repeat (first | exact List.mem_cons_self | apply List.mem_cons_of_mem)) (by first | exact R_size _ | rfl | (simp; done) | assumption) ?_); simp only [Act.put, List.setIfInBounds_toArray, List.set_cons_zero, List.set_cons_succ]) | (with_reducible refine wpl rfl (Stp.ldor rfl agg28 size28 rfl H (by assumption) (by first | exact R_size _ | rfl | (simp; done) | assumption) (by assumption) ?_); simp only [Act.put, List.setIfInBounds_toArray, List.set_cons_zero, List.set_cons_succ]))
        go_roundw
        case rel =>
          refine ⟨k + 1, by omega, by go_num, a29, c29, n + 1, by omega, rfl, ?_⟩
          rw [HW1.out, HH.out, if_pos (by decide), pv_snoc]
          exact H.tl
        case measure => simp [intOf]; omega
      · have HH := Lib.hid hh
        clear hh
        go_wp2_with (first | (with_reducible refine wpl rfl (Stp.box 3 rfl rfl rfl H ?_); clear H; intro g3 w1 H; simp only [Act.put, List.setIfInBounds_toArray, List.set_cons_zero, List.set_cons_succ]; simp only [eval_tmp, eval_const, getD_lit0, getD_lits, cells_agg, cells_int, cells_bool, cells_string, cells_pointer, cells_slice, cells_map, List.setIfInBounds_toArray, List.set_cons_zero, List.set_cons_succ] at H) | (with_reducible refine wpl rfl (Stp.ldr rfl agg28 size28 rfl H (by repeat (first | exact List.mem_cons_self | apply List.mem_cons_of_mem)) (by first | exact R_size _ | rfl | (simp; done) | assumption) ?_); simp only [Act.put, List.setIfInBounds_toArray, List.set_cons_zero, List.set_cons_succ]) | (with_reducible refine wpl rfl (Stp.ldor rfl agg28 size28 rfl H (by assumption) (by first | exact R_size _ | rfl | (simp; done) | assumption) (by assumption) ?_); simp only [Act.put, List.setIfInBounds_toArray, List.set_cons_zero, List.set_cons_succ]))
        refine rg_begin 8 rfl (S := fun W => St _ _ W _) (by kernel_rfl) H.drew ?_
        replace H := H.drew
        have HS := H
        first | (refine rg_take (i := 0) rfl (by kernel_rfl) (by kernel_rfl) (by kernel_rfl) (Yld.ldr rfl rfl agg24 size24 rfl (by repeat (first | exact List.mem_cons_self | apply List.mem_cons_of_mem)) (by first | exact R_size _ | rfl | (simp; done) | assumption)) HS ?_; simp only [Act.put, List.setIfInBounds_toArray, List.set_cons_zero, List.set_cons_succ]) | (refine rg_take (i := 0) rfl (by kernel_rfl) (by kernel_rfl) (by kernel_rfl) (Yld.ldor rfl rfl agg24 size24 rfl (by assumption) (by first | exact R_size _ | rfl | (simp; done) | assumption) (by assumption)) HS ?_; simp only [Act.put, List.setIfInBounds_toArray, List.set_cons_zero, List.set_cons_succ])
        refine rg_take (i := 1) rfl (by kernel_rfl) (by kernel_rfl) (by kernel_rfl) (Yld.move rfl rfl) HS ?_; simp only [Act.put, eval_tmp, eval_const, getD_lit0, getD_lits, if_true, if_false, List.setIfInBounds_toArray, List.set_cons_zero, List.set_cons_succ]
        refine rg_take (i := 2) rfl (by kernel_rfl) (by kernel_rfl) (by kernel_rfl) (Yld.move rfl rfl) HS ?_; simp only [Act.put, eval_tmp, eval_const, getD_lit0, getD_lits, if_true, if_false, List.setIfInBounds_toArray, List.set_cons_zero, List.set_cons_succ]
        refine rg_take (i := 3) rfl (by kernel_rfl) (by kernel_rfl) (by kernel_rfl) (Yld.of rfl (fun W _ => by go_simp; first | done | with_reducible rfl)) HS ?_; simp only [Act.put, List.setIfInBounds_toArray, List.set_cons_zero, List.set_cons_succ]
        first | (refine rg_take (i := 4) rfl (by kernel_rfl) (by kernel_rfl) (by kernel_rfl) (Yld.ldr rfl rfl agg28 size28 rfl (by repeat (first | exact List.mem_cons_self | apply List.mem_cons_of_mem)) (by first | exact R_size _ | rfl | (simp; done) | assumption)) HS ?_; simp only [Act.put, List.setIfInBounds_toArray, List.set_cons_zero, List.set_cons_succ]) | (refine rg_take (i := 4) rfl (by kernel_rfl) (by kernel_rfl) (by kernel_rfl) (Yld.ldor rfl rfl agg28 size28 rfl (by assumption) (by first | exact R_size _ | rfl | (simp; done) | assumption) (by assumption)) HS ?_; simp only [Act.put, List.setIfInBounds_toArray, List.set_cons_zero, List.set_cons_succ])
        refine rg_take (i := 6) rfl (by kernel_rfl) (by kernel_rfl) (by kernel_rfl) (Yld.move rfl rfl) HS ?_; simp only [Act.put, eval_tmp, eval_const, getD_lit0, getD_lits, if_true, if_false, List.setIfInBounds_toArray, List.set_cons_zero, List.set_cons_succ]
        refine rg_one (i := 5) (by kernel_rfl) rfl rfl (fun K hK => ?_)
        refine wp_callf rfl ent11 (rhas_ok _ _ _ hi0 hc0 _) rfl (fun v w1 hr => ?_)
        obtain ⟨rfl, hb1⟩ := hr
        replace H := H.grow hb1
        clear hb1
        rw [HH.out]
        clear HS
        have HS := H
        refine hK.out _ _ HS ?_
        clear hK K
        simp only [Act.put, List.setIfInBounds_toArray, List.set_cons_zero, List.set_cons_succ]
        refine rg_take (i := 7) rfl (by kernel_rfl) (by kernel_rfl) (by kernel_rfl) (Yld.of rfl (fun W _ => by go_simp; first | done | with_reducible rfl)) HS ?_; simp only [Act.put, List.setIfInBounds_toArray, List.set_cons_zero, List.set_cons_succ]
        refine rg_done (by kernel_rfl) ?_
        go_wp2_with (first | (with_reducible refine wpl rfl (Stp.bsl (e := 28) (cs := #[.int .u16 i0, .int .u32 c0]) 28 rfl rfl (fun W => by kernel_rfl) H ?_); clear H; intro g28 w1 H; simp only [Act.put, List.setIfInBounds_toArray, List.set_cons_zero, List.set_cons_succ]) | (with_reducible refine wpl rfl (Stp.app 29 rfl rfl Try.underlying25 info28 rfl (by decide) rfl rfl H (fun _ => (by repeat (first | exact Upd.head | apply Upd.tail))) rfl (newN (H.getRow (by repeat (first | exact List.mem_cons_self | apply List.mem_cons_of_mem)))) (by simp [Value.oneCell']) (by unfold maxLen; omega) (by omega) ?_); clear H; intro a29 c29 w1 H; simp only [Act.put, List.setIfInBounds_toArray, List.set_cons_zero, List.set_cons_succ]) | (with_reducible refine wpl rfl (Stp.box 3 rfl rfl rfl H ?_); clear H; intro g3 w1 H; simp only [Act.put, List.setIfInBounds_toArray, List.set_cons_zero, List.set_cons_succ]; simp only [eval_tmp, eval_const, getD_lit0, getD_lits, cells_agg, cells_int, cells_bool, cells_string, cells_pointer, cells_slice, cells_map, List.setIfInBounds_toArray, List.set_cons_zero, List.set_cons_succ] at H) | (with_reducible refine wpl rfl (Stp.ldr rfl agg28 size28 rfl H (by repeat (first | exact List.mem_cons_self | apply List.mem_cons_of_mem)) (by first | exact R_size _ | rfl | (simp; done) | assumption) ?_); simp only [Act.put, List.setIfInBounds_toArray, List.set_cons_zero, List.set_cons_succ]) | (with_reducible refine wpl rfl (Stp.ldor rfl agg28 size28 rfl H (by assumption) (by first | exact R_size _ | rfl | (simp; done) | assumption) (by assumption) ?_); simp only [Act.put, List.setIfInBounds_toArray, List.set_cons_zero, List.set_cons_succ]))
        go_roundw
        case rel =>
          refine ⟨k + 1, by omega, by go_num, ap, cp, n, by omega, rfl, ?_⟩
          rw [HW1.out, HH.out, if_neg (by decide), List.append_nil]
          exact H
        case measure => simp [intOf]; omega
    · obtain rfl : k = l.length := by omega
      rw [List.take_length] at H
      go_wp2_with (first | (with_reducible refine wpl rfl (Stp.box 3 rfl rfl rfl H ?_); clear H; intro g3 w1 H; simp only [Act.put, List.setIfInBounds_toArray, List.set_cons_zero, List.set_cons_succ]; simp only [eval_tmp, eval_const, getD_lit0, getD_lits, cells_agg, cells_int, cells_bool, cells_string, cells_pointer, cells_slice, cells_map, List.setIfInBounds_toArray, List.set_cons_zero, List.set_cons_succ] at H) | (with_reducible refine wpl rfl (Stp.ldr rfl agg28 size28 rfl H (by repeat (first | exact List.mem_cons_self | apply List.mem_cons_of_mem)) (by first | exact R_size _ | rfl | (simp; done) | assumption) ?_); simp only [Act.put, List.setIfInBounds_toArray, List.set_cons_zero, List.set_cons_succ]) | (with_reducible refine wpl rfl (Stp.ldor rfl agg28 size28 rfl H (by assumption) (by first | exact R_size _ | rfl | (simp; done) | assumption) (by assumption) ?_); simp only [Act.put, List.setIfInBounds_toArray, List.set_cons_zero, List.set_cons_succ]))
      go_ret
      exact ⟨_, rfl, ⟨ap, cp, n, rfl, H.getSlc (by repeat (first | exact List.mem_cons_self | apply List.mem_cons_of_mem))⟩, H.below⟩
set_option maxRecDepth 100000 in
set_option maxHeartbeats 1000000 in
theorem list_ok (r : Nat → Int) (w : World) :
    Calls Try.prog 19 #[.agg (R r)] w (Ret fun v w' => (∃ ap cp n, v = .slice ap n cp ∧ w'.ownsRow w.heap.size 28 2 (.slice ap n cp) n (pv (listR r 16))) ∧ Below w.heap.size w w') := by
  have H := (St.init w).nil 28 2
  go_enter Try.func19, Try.ntmps19
  go_wp2_with (first | (with_reducible refine wpl rfl (Stp.box 1 rfl rfl rfl H ?_); clear H; intro g1 w1 H; simp only [Act.put, List.setIfInBounds_toArray, List.set_cons_zero, List.set_cons_succ]; simp only [eval_tmp, eval_const, getD_lit0, getD_lits, cells_agg, cells_int, cells_bool, cells_string, cells_pointer, cells_slice, cells_map, List.setIfInBounds_toArray, List.set_cons_zero, List.set_cons_succ] at H) | (with_reducible refine wpl rfl (Stp.ldr rfl agg24 size24 rfl H (by repeat (first | exact List.mem_cons_self | apply List.mem_cons_of_mem)) (by first | exact R_size _ | rfl | (simp; done) | assumption) ?_); simp only [Act.put, List.setIfInBounds_toArray, List.set_cons_zero, List.set_cons_succ]) | (with_reducible refine wpl rfl (Stp.ldor rfl agg24 size24 rfl H (by assumption) (by first | exact R_size _ | rfl | (simp; done) | assumption) (by assumption) ?_); simp only [Act.put, List.setIfInBounds_toArray, List.set_cons_zero, List.set_cons_succ]))
  go_loopw [7, 3] (fun i x wr => ∃ k : Nat, k ≤ 16 ∧ i = .int .i64 k ∧ ∃ ap cp n, n ≤ k ∧ x = .slice ap n cp ∧ St w.heap.size w wr [row 24 g1 (R r), slc 28 2 (.slice ap n cp) n (pv (listR r k))]) (fun i _ _ => 16 - (intOf i).toNat)
  case atStart => exact ⟨0, Nat.zero_le _, rfl, _, _, 0, by omega, rfl, by simpa [pv, listR] using H⟩
  case round =>
    clear H
    obtain ⟨k, hk, rfl, ap, cp, n, hn, rfl, H⟩ := hrel
    by_cases hlt : k < 16
    · have hw1 := listR_succ r k
      have HW1 := Lib.hid hw1
      clear hw1
      have hwr : IntKind.u16.wrap (k : Int) = (k : Int) := by rw [IntKind.wrap_u16]; omega
      by_cases hpos : 0 < r k
      · go_wp2_with (first | (with_reducible refine wpl rfl (Stp.bsl (e := 28) (cs := #[.int .u16 (k : Int), .int .u32 (r k)]) 18 rfl rfl (fun W => by kernel_rfl) H ?_); clear H; intro g18 w1 H; simp only [Act.put, List.setIfInBounds_toArray, List.set_cons_zero, List.set_cons_succ]) | (with_reducible refine wpl rfl (Stp.app 19 rfl rfl Try.underlying25 info28 rfl (by decide) rfl rfl H (fun _ => (by repeat (first | exact Upd.head | apply Upd.tail))) rfl (newN (H.getRow (by repeat (first | exact List.mem_cons_self | apply List.mem_cons_of_mem)))) (by simp [Value.oneCell']) (by unfold maxLen; omega) (by omega) ?_); clear H; intro a19 c19 w1 H; simp only [Act.put, List.setIfInBounds_toArray, List.set_cons_zero, List.set_cons_succ]) | (with_reducible refine wpl rfl (Stp.box 1 rfl rfl rfl H ?_); clear H; intro g1 w1 H; simp only [Act.put, List.setIfInBounds_toArray, List.set_cons_zero, List.set_cons_succ]; simp only [eval_tmp, eval_const, getD_lit0, getD_lits, cells_agg, cells_int, cells_bool, cells_string, cells_pointer, cells_slice, cells_map, List.setIfInBounds_toArray, List.set_cons_zero, List.set_cons_succ] at H) | (with_reducible refine wpl rfl (Stp.ldr rfl agg24 size24 rfl H (by repeat (first | exact List.mem_cons_self | apply List.mem_cons_of_mem)) (by first | exact R_size _ | rfl | (simp; done) | assumption) ?_); simp only [Act.put, List.setIfInBounds_toArray, List.set_cons_zero, List.set_cons_succ]) | (with_reducible refine wpl rfl (Stp.ldor rfl agg24 size24 rfl H (by assumption) (by first | exact R_size _ | rfl | (simp; done) | assumption) (by assumption) ?_); simp only [Act.put, List.setIfInBounds_toArray, List.set_cons_zero, List.set_cons_succ]))
        go_roundw
        case rel =>
          refine ⟨k + 1, by omega, by go_num, a19, c19, n + 1, by omega, rfl, ?_⟩
          rw [HW1.out, if_pos hpos, pv_snoc]
          exact H.tl
        case measure => simp [intOf]; omega
      · go_wp2_with (first | (with_reducible refine wpl rfl (Stp.box 1 rfl rfl rfl H ?_); clear H; intro g1 w1 H; simp only [Act.put, List.setIfInBounds_toArray, List.set_cons_zero, List.set_cons_succ]; simp only [eval_tmp, eval_const, getD_lit0, getD_lits, cells_agg, cells_int, cells_bool, cells_string, cells_pointer, cells_slice, cells_map, List.setIfInBounds_toArray, List.set_cons_zero, List.set_cons_succ] at H) | (with_reducible refine wpl rfl (Stp.ldr rfl agg24 size24 rfl H (by repeat (first | exact List.mem_cons_self | apply List.mem_cons_of_mem)) (by first | exact R_size _ | rfl | (simp; done) | assumption) ?_); simp only [Act.put, List.setIfInBounds_toArray, List.set_cons_zero, List.set_cons_succ]) | (with_reducible refine wpl rfl (Stp.ldor rfl agg24 size24 rfl H (by assumption) (by first | exact R_size _ | rfl | (simp; done) | assumption) (by assumption) ?_); simp only [Act.put, List.setIfInBounds_toArray, List.set_cons_zero, List.set_cons_succ]))
        go_roundw
        case rel =>
          refine ⟨k + 1, by omega, by go_num, ap, cp, n, by omega, rfl, ?_⟩
          rw [HW1.out, if_neg hpos, List.append_nil]
          exact H
        case measure => simp [intOf]; omega
    · obtain rfl : k = 16 := by omega
      go_wp2_with (first | (with_reducible refine wpl rfl (Stp.box 1 rfl rfl rfl H ?_); clear H; intro g1 w1 H; simp only [Act.put, List.setIfInBounds_toArray, List.set_cons_zero, List.set_cons_succ]; simp only [eval_tmp, eval_const, getD_lit0, getD_lits, cells_agg, cells_int, cells_bool, cells_string, cells_pointer, cells_slice, cells_map, List.setIfInBounds_toArray, List.set_cons_zero, List.set_cons_succ] at H) | (with_reducible refine wpl rfl (Stp.ldr rfl agg24 size24 rfl H (by repeat (first | exact List.mem_cons_self | apply List.mem_cons_of_mem)) (by first | exact R_size _ | rfl | (simp; done) | assumption) ?_); simp only [Act.put, List.setIfInBounds_toArray, List.set_cons_zero, List.set_cons_succ]) | (with_reducible refine wpl rfl (Stp.ldor rfl agg24 size24 rfl H (by assumption) (by first | exact R_size _ | rfl | (simp; done) | assumption) (by assumption) ?_); simp only [Act.put, List.setIfInBounds_toArray, List.set_cons_zero, List.set_cons_succ]))
      go_ret
      exact ⟨_, rfl, ⟨ap, cp, n, rfl, H.getSlc (by repeat (first | exact List.mem_cons_self | apply List.mem_cons_of_mem))⟩, H.below⟩
set_option maxRecDepth 100000 in
set_option maxHeartbeats 1000000 in
theorem rlist_ok (r : Nat → Int) (w : World) :
    Calls Try.prog 20 #[.agg (R r)] w (Ret fun v w' => (∃ ap cp n, v = .slice ap n cp ∧ w'.ownsRow w.heap.size 28 2 (.slice ap n cp) n (pv (listR r 16))) ∧ Below w.heap.size w w') := by
  have H := (St.init w).nil 28 2
  go_enter Try.func20, Try.ntmps20
  go_wp2_with (first | (with_reducible refine wpl rfl (Stp.box 1 rfl rfl rfl H ?_); clear H; intro g1 w1 H; simp only [Act.put, List.setIfInBounds_toArray, List.set_cons_zero, List.set_cons_succ]; simp only [eval_tmp, eval_const, getD_lit0, getD_lits, cells_agg, cells_int, cells_bool, cells_string, cells_pointer, cells_slice, cells_map, List.setIfInBounds_toArray, List.set_cons_zero, List.set_cons_succ] at H) | (with_reducible refine wpl rfl (Stp.ldc rfl agg22 rfl H (by repeat (first | exact List.mem_cons_self | apply List.mem_cons_of_mem)) (by first | exact R_get _ _ (by omega) | (repeat (first | exact lit0 _ _ | apply lits)) | rfl | assumption) ?_); simp only [Act.put, List.setIfInBounds_toArray, List.set_cons_zero, List.set_cons_succ]) | (with_reducible refine wpl rfl (Stp.ldo rfl agg22 rfl H (by assumption) (by assumption) ?_); simp only [Act.put, List.setIfInBounds_toArray, List.set_cons_zero, List.set_cons_succ]))
  go_loopw [4, 3] (fun i x wr => ∃ k : Nat, k ≤ 16 ∧ i = .int .i64 k ∧ ∃ ap cp n, n ≤ k ∧ x = .slice ap n cp ∧ St w.heap.size w wr [row 24 g1 (R r), slc 28 2 (.slice ap n cp) n (pv (listR r k))]) (fun i _ _ => 16 - (intOf i).toNat)
  case atStart => exact ⟨0, Nat.zero_le _, rfl, _, _, 0, by omega, rfl, by simpa [pv, listR] using H⟩
  case round =>
    clear H
    obtain ⟨k, hk, rfl, ap, cp, n, hn, rfl, H⟩ := hrel
    by_cases hlt : k < 16
    · have hw1 := listR_succ r k
      have HW1 := Lib.hid hw1
      clear hw1
      have hwr : IntKind.u16.wrap (k : Int) = (k : Int) := by rw [IntKind.wrap_u16]; omega
      by_cases hpos : 0 < r k
      · go_wp2_with (first | (with_reducible refine wpl rfl (Stp.bsl (e := 28) (cs := #[.int .u16 (k : Int), .int .u32 (r k)]) 20 rfl rfl (fun W => by kernel_rfl) H ?_); clear H; intro g20 w1 H; simp only [Act.put, List.setIfInBounds_toArray, List.set_cons_zero, List.set_cons_succ]) | (with_reducible refine wpl rfl (Stp.app 21 rfl rfl Try.underlying25 info28 rfl (by decide) rfl rfl H (fun _ => (by repeat (first | exact Upd.head | apply Upd.tail))) rfl (newN (H.getRow (by repeat (first | exact List.mem_cons_self | apply List.mem_cons_of_mem)))) (by simp [Value.oneCell']) (by unfold maxLen; omega) (by omega) ?_); clear H; intro a21 c21 w1 H; simp only [Act.put, List.setIfInBounds_toArray, List.set_cons_zero, List.set_cons_succ]) | (with_reducible refine wpl rfl (Stp.box 1 rfl rfl rfl H ?_); clear H; intro g1 w1 H; simp only [Act.put, List.setIfInBounds_toArray, List.set_cons_zero, List.set_cons_succ]; simp only [eval_tmp, eval_const, getD_lit0, getD_lits, cells_agg, cells_int, cells_bool, cells_string, cells_pointer, cells_slice, cells_map, List.setIfInBounds_toArray, List.set_cons_zero, List.set_cons_succ] at H) | (with_reducible refine wpl rfl (Stp.ldc rfl agg22 rfl H (by repeat (first | exact List.mem_cons_self | apply List.mem_cons_of_mem)) (by first | exact R_get _ _ (by omega) | (repeat (first | exact lit0 _ _ | apply lits)) | rfl | assumption) ?_); simp only [Act.put, List.setIfInBounds_toArray, List.set_cons_zero, List.set_cons_succ]) | (with_reducible refine wpl rfl (Stp.ldo rfl agg22 rfl H (by assumption) (by assumption) ?_); simp only [Act.put, List.setIfInBounds_toArray, List.set_cons_zero, List.set_cons_succ]))
        go_roundw
        case rel =>
          refine ⟨k + 1, by omega, by go_num, a21, c21, n + 1, by omega, rfl, ?_⟩
          rw [HW1.out, if_pos hpos, pv_snoc]
          exact H.tl
        case measure => simp [intOf]; omega
      · go_wp2_with (first | (with_reducible refine wpl rfl (Stp.box 1 rfl rfl rfl H ?_); clear H; intro g1 w1 H; simp only [Act.put, List.setIfInBounds_toArray, List.set_cons_zero, List.set_cons_succ]; simp only [eval_tmp, eval_const, getD_lit0, getD_lits, cells_agg, cells_int, cells_bool, cells_string, cells_pointer, cells_slice, cells_map, List.setIfInBounds_toArray, List.set_cons_zero, List.set_cons_succ] at H) | (with_reducible refine wpl rfl (Stp.ldc rfl agg22 rfl H (by repeat (first | exact List.mem_cons_self | apply List.mem_cons_of_mem)) (by first | exact R_get _ _ (by omega) | (repeat (first | exact lit0 _ _ | apply lits)) | rfl | assumption) ?_); simp only [Act.put, List.setIfInBounds_toArray, List.set_cons_zero, List.set_cons_succ]) | (with_reducible refine wpl rfl (Stp.ldo rfl agg22 rfl H (by assumption) (by assumption) ?_); simp only [Act.put, List.setIfInBounds_toArray, List.set_cons_zero, List.set_cons_succ]))
        go_roundw
        case rel =>
          refine ⟨k + 1, by omega, by go_num, ap, cp, n, by omega, rfl, ?_⟩
          rw [HW1.out, if_neg hpos, List.append_nil]
          exact H
        case measure => simp [intOf]; omega
    · obtain rfl : k = 16 := by omega
      go_wp2_with (first | (with_reducible refine wpl rfl (Stp.box 1 rfl rfl rfl H ?_); clear H; intro g1 w1 H; simp only [Act.put, List.setIfInBounds_toArray, List.set_cons_zero, List.set_cons_succ]; simp only [eval_tmp, eval_const, getD_lit0, getD_lits, cells_agg, cells_int, cells_bool, cells_string, cells_pointer, cells_slice, cells_map, List.setIfInBounds_toArray, List.set_cons_zero, List.set_cons_succ] at H) | (with_reducible refine wpl rfl (Stp.ldc rfl agg22 rfl H (by repeat (first | exact List.mem_cons_self | apply List.mem_cons_of_mem)) (by first | exact R_get _ _ (by omega) | (repeat (first | exact lit0 _ _ | apply lits)) | rfl | assumption) ?_); simp only [Act.put, List.setIfInBounds_toArray, List.set_cons_zero, List.set_cons_succ]) | (with_reducible refine wpl rfl (Stp.ldo rfl agg22 rfl H (by assumption) (by assumption) ?_); simp only [Act.put, List.setIfInBounds_toArray, List.set_cons_zero, List.set_cons_succ]))
      go_ret
      exact ⟨_, rfl, ⟨ap, cp, n, rfl, H.getSlc (by repeat (first | exact List.mem_cons_self | apply List.mem_cons_of_mem))⟩, H.below⟩
set_option maxRecDepth 100000 in
set_option maxHeartbeats 1000000 in
theorem psame_ok (va vb : Value) (l : List (Int × Int)) (w : World) (ha : Sl w 2 l.length va (elE l)) (hb : Sl w 2 l.length vb (elE l)) :
    Calls Try.prog 15 #[va, vb] w (Ret fun v w' => v = .bool true ∧ Below w.heap.size w w') := by
  obtain ⟨a, c, rfl, hm, hE⟩ := ha
  obtain ⟨a', c', rfl, _, hE'⟩ := hb
  have HE := Lib.hid hE
  have HE' := Lib.hid hE'
  clear hE hE'
  unfold maxLen at hm
  have H := St.init w
  go_enter Try.func15, Try.ntmps15
  go_wp2_with fail
  go_loopw [5] (fun i wr => ∃ k : Nat, k ≤ l.length ∧ i = .int .i64 k ∧ St w.heap.size w wr []) (fun i _ => l.length - (intOf i).toNat)
  case atStart => exact ⟨0, Nat.zero_le _, rfl, H⟩
  case round =>
    clear H
    obtain ⟨k, hk, rfl, H⟩ := hrel
    by_cases hlt : k < l.length
    · obtain ⟨b, off, rfl, hb, hc⟩ := HE.out (by omega)
      obtain ⟨b', off', rfl, hb', hc'⟩ := HE'.out (by omega)
      clear HE HE'
      rcases hp : l.getD k (0, 0) with ⟨i0, c0⟩
      have hck : ∀ j, j < 2 → w.cell? ⟨b, off + k * 2 + j, none⟩ = (#[Value.int .u16 i0, Value.int .u32 c0] : Array Value)[j]? := fun j hj => by
        rw [hc k hlt j hj]; simp only [elE, hp, pc]
      have hck' : ∀ j, j < 2 → w.cell? ⟨b', off' + k * 2 + j, none⟩ = (#[Value.int .u16 i0, Value.int .u32 c0] : Array Value)[j]? := fun j hj => by
        rw [hc' k hlt j hj]; simp only [elE, hp, pc]
      clear hc hc' hp
      go_wp2_with fail
      refine rg_begin 9 rfl (S := fun W => St _ _ W _) (by kernel_rfl) H.drew ?_
      replace H := H.drew
      have HS := H
      refine rg_take (i := 0) rfl (by kernel_rfl) (by kernel_rfl) (by kernel_rfl) (Yld.move rfl rfl) HS ?_; simp only [Act.put, eval_tmp, eval_const, getD_lit0, getD_lits, if_true, if_false, List.setIfInBounds_toArray, List.set_cons_zero, List.set_cons_succ]
      refine rg_take (i := 1) rfl (by kernel_rfl) (by kernel_rfl) (by kernel_rfl) (Yld.move rfl rfl) HS ?_; simp only [Act.put, eval_tmp, eval_const, getD_lit0, getD_lits, if_true, if_false, List.setIfInBounds_toArray, List.set_cons_zero, List.set_cons_succ]
      refine rg_take (i := 2) rfl (by kernel_rfl) (by kernel_rfl) (by kernel_rfl) (Yld.of rfl (fun W _ => by go_simp; first | done | with_reducible rfl)) HS ?_; simp only [Act.put, List.setIfInBounds_toArray, List.set_cons_zero, List.set_cons_succ]
      first | (refine rg_take (i := 3) rfl (by kernel_rfl) (by kernel_rfl) (by kernel_rfl) (Yld.ldr rfl rfl agg28 size28 rfl (by repeat (first | exact List.mem_cons_self | apply List.mem_cons_of_mem)) (by first | exact R_size _ | rfl | (simp; done) | assumption)) HS ?_; simp only [Act.put, List.setIfInBounds_toArray, List.set_cons_zero, List.set_cons_succ]) | (refine rg_take (i := 3) rfl (by kernel_rfl) (by kernel_rfl) (by kernel_rfl) (Yld.ldor rfl rfl agg28 size28 rfl (by assumption) (by first | exact R_size _ | rfl | (simp; done) | assumption) (by assumption)) HS ?_; simp only [Act.put, List.setIfInBounds_toArray, List.set_cons_zero, List.set_cons_succ])
      refine rg_take (i := 4) rfl (by kernel_rfl) (by kernel_rfl) (by kernel_rfl) (Yld.move rfl rfl) HS ?_; simp only [Act.put, eval_tmp, eval_const, getD_lit0, getD_lits, if_true, if_false, List.setIfInBounds_toArray, List.set_cons_zero, List.set_cons_succ]
      refine rg_take (i := 5) rfl (by kernel_rfl) (by kernel_rfl) (by kernel_rfl) (Yld.move rfl rfl) HS ?_; simp only [Act.put, eval_tmp, eval_const, getD_lit0, getD_lits, if_true, if_false, List.setIfInBounds_toArray, List.set_cons_zero, List.set_cons_succ]
      refine rg_take (i := 6) rfl (by kernel_rfl) (by kernel_rfl) (by kernel_rfl) (Yld.of rfl (fun W _ => by go_simp; first | done | with_reducible rfl)) HS ?_; simp only [Act.put, List.setIfInBounds_toArray, List.set_cons_zero, List.set_cons_succ]
      first | (refine rg_take (i := 7) rfl (by kernel_rfl) (by kernel_rfl) (by kernel_rfl) (Yld.ldr rfl rfl agg28 size28 rfl (by repeat (first | exact List.mem_cons_self | apply List.mem_cons_of_mem)) (by first | exact R_size _ | rfl | (simp; done) | assumption)) HS ?_; simp only [Act.put, List.setIfInBounds_toArray, List.set_cons_zero, List.set_cons_succ]) | (refine rg_take (i := 7) rfl (by kernel_rfl) (by kernel_rfl) (by kernel_rfl) (Yld.ldor rfl rfl agg28 size28 rfl (by assumption) (by first | exact R_size _ | rfl | (simp; done) | assumption) (by assumption)) HS ?_; simp only [Act.put, List.setIfInBounds_toArray, List.set_cons_zero, List.set_cons_succ])
      refine rg_take (i := 8) rfl (by kernel_rfl) (by kernel_rfl) (by kernel_rfl) (Yld.of rfl (fun W _ => by go_simp; first | done | with_reducible rfl)) HS ?_; simp only [Act.put, List.setIfInBounds_toArray, List.set_cons_zero, List.set_cons_succ]
      refine rg_done (by kernel_rfl) ?_
      go_wp2_with fail
      go_roundw
      case rel => exact ⟨k + 1, by omega, by go_num, H⟩
      case measure => simp [intOf]; omega
    · obtain rfl : k = l.length := by omega
      go_wp2_with fail
      go_ret
      exact ⟨_, rfl, rfl, H.below⟩
end Go.Proofs.Ytmgamjlebcnmiaa
