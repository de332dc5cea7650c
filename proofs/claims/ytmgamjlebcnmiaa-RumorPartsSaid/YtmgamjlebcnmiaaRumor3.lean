/- The statement RumorGrown of layer 16 (rumor), proved; no condition: the law's walk, and the row round it. -/
import Derived.Test.YtmgamjlebcnmiaaRumor2
import Derived.Test.YtmgamjlebcnmiaaLaw
namespace Go.Proofs.Ytmgamjlebcnmiaa
open Go.ChangeShapes Go.WideShapes Go.ChangeAt Go.RowKit
set_option linter.unusedVariables false
set_option linter.unusedSimpArgs false
attribute [local go_sem] index_R equalIn_R eqg_R
theorem awake_ok (w : World) : Calls Try.prog 7 #[] w (Ret fun v w' => v = .bool true ∧ Below w.heap.size w w') := by
  have H := St.init w
  have h1 : has (withR (fun _ => 0) [(3, 2)]) 3 1 = true := by decide
  have h2 : has (withR (fun _ => 0) [(3, 2)]) 3 2 = true := by decide
  have h3 : has (withR (fun _ => 0) [(3, 2)]) 3 3 = false := by decide
  have H1 := Lib.hid h1
  have H2 := Lib.hid h2
  have H3 := Lib.hid h3
  clear h1 h2 h3
  go_enter Try.func7, Try.ntmps7
  go_wp2_with (first | (with_reducible refine wpl rfl (Stp.build (v := .agg (R fun _ => 0)) 2 rfl rfl (fun W => by kernel_rfl) ?_); simp only [Act.put, List.setIfInBounds_toArray, List.set_cons_zero, List.set_cons_succ]) | (with_reducible refine wpl rfl (Stp.bsl (e := 28) (cs := #[.int .u16 3, .int .u32 2]) 4 rfl rfl (fun W => by kernel_rfl) H ?_); clear H; intro g4 w1 H; simp only [Act.put, List.setIfInBounds_toArray, List.set_cons_zero, List.set_cons_succ]) | (with_reducible refine wpl rfl (Stp.alloc 1 rfl rfl zero24 H ?_); clear H; intro g1 w1 H; simp only [Act.put, List.setIfInBounds_toArray, List.set_cons_zero, List.set_cons_succ]; simp only [cells_agg, cells_int, cells_bool, cells_string, cells_pointer, cells_slice, cells_map] at H) | (with_reducible refine wpl rfl (Stp.str rfl size24 rfl rfl (by first | exact R_one _ | rfl | (simp [Value.oneCell']; done) | assumption) H (by repeat (first | exact Upd.head | apply Upd.tail)) (by first | exact R_size _ | rfl | (simp; done) | assumption) (by first | exact R_size _ | rfl | (simp; done) | assumption) ?_); clear H; intro w1 H; simp only [Act.put, List.setIfInBounds_toArray, List.set_cons_zero, List.set_cons_succ]) | (with_reducible refine wpl rfl (Stp.ldr rfl agg24 size24 rfl H (by repeat (first | exact List.mem_cons_self | apply List.mem_cons_of_mem)) (by first | exact R_size _ | rfl | (simp; done) | assumption) ?_); simp only [Act.put, List.setIfInBounds_toArray, List.set_cons_zero, List.set_cons_succ]) | (with_reducible refine wpl rfl (Stp.ldor rfl agg24 size24 rfl H (by assumption) (by first | exact R_size _ | rfl | (simp; done) | assumption) (by assumption) ?_); simp only [Act.put, List.setIfInBounds_toArray, List.set_cons_zero, List.set_cons_succ]))
  have hsl : Sl w1 2 [((3 : Int), (2 : Int))].length (.slice (some ⟨g4, 0, none⟩) 1 1) (elE [(3, 2)]) := Sl.of_row (H.getRow (by repeat (first | exact List.mem_cons_self | apply List.mem_cons_of_mem))) (by decide) (fun i hi j hj => by
    obtain rfl : i = 0 := by simp at hi; omega
    simp [elE, pc])
  refine (with_ok _ _ [(3, 2)] (by simp [nn]) _ hsl).mono ?_
  rintro e w1 ⟨v, rfl, rfl, hb1⟩
  replace H := H.grow hb1
  clear hb1 hsl
  go_wp2_with (first | (go_at_call 10; refine (has_ok _ _ _ (by decide) _).mono ?_; rintro e w1 ⟨v, rfl, hr⟩; obtain ⟨rfl, hb1⟩ := hr; replace H := H.grow hb1; clear hb1; first | rw [H1.out] | rw [H2.out] | rw [H3.out]) | (with_reducible refine wpl rfl (Stp.alloc 1 rfl rfl zero24 H ?_); clear H; intro g1 w1 H; simp only [Act.put, List.setIfInBounds_toArray, List.set_cons_zero, List.set_cons_succ]; simp only [cells_agg, cells_int, cells_bool, cells_string, cells_pointer, cells_slice, cells_map] at H) | (with_reducible refine wpl rfl (Stp.str rfl size24 rfl rfl (by first | exact R_one _ | rfl | (simp [Value.oneCell']; done) | assumption) H (by repeat (first | exact Upd.head | apply Upd.tail)) (by first | exact R_size _ | rfl | (simp; done) | assumption) (by first | exact R_size _ | rfl | (simp; done) | assumption) ?_); clear H; intro w1 H; simp only [Act.put, List.setIfInBounds_toArray, List.set_cons_zero, List.set_cons_succ]) | (with_reducible refine wpl rfl (Stp.ldr rfl agg24 size24 rfl H (by repeat (first | exact List.mem_cons_self | apply List.mem_cons_of_mem)) (by first | exact R_size _ | rfl | (simp; done) | assumption) ?_); simp only [Act.put, List.setIfInBounds_toArray, List.set_cons_zero, List.set_cons_succ]) | (with_reducible refine wpl rfl (Stp.ldor rfl agg24 size24 rfl H (by assumption) (by first | exact R_size _ | rfl | (simp; done) | assumption) (by assumption) ?_); simp only [Act.put, List.setIfInBounds_toArray, List.set_cons_zero, List.set_cons_succ]))
  go_ret
  exact ⟨_, rfl, rfl, H.below⟩
def allB (a b : Nat → Int) (k : Nat) : Bool := (List.range k).all fun i => decide (a i ≤ b i)
def anyB (a b : Nat → Int) (k : Nat) : Bool := (List.range k).any fun i => decide (a i < b i)
theorem allB_succ (a b) (k : Nat) : allB a b (k + 1) = (allB a b k && decide (a k ≤ b k)) := by simp [allB, List.range_succ]
theorem anyB_succ (a b) (k : Nat) : anyB a b (k + 1) = (anyB a b k || decide (a k < b k)) := by simp [anyB, List.range_succ]
theorem grown_key (a b : Nat → Int) : (!(eqR a b) && eqR (fun i => mx (a i) (b i)) b) = (allB a b 16 && anyB a b 16) := by
  have h1 : eqR (fun i => mx (a i) (b i)) b = allB a b 16 := by
    unfold eqR allB
    rw [Bool.eq_iff_iff]
    simp only [List.all_eq_true, List.mem_range, beq_iff_eq, decide_eq_true_eq]
    refine forall_congr' fun i => forall_congr' fun _ => ?_
    unfold mx; split <;> omega
  rw [h1]
  cases hA : allB a b 16
  · simp
  · simp only [Bool.and_true, Bool.true_and]
    unfold eqR anyB
    unfold allB at hA
    rw [Bool.eq_iff_iff]
    simp only [List.all_eq_true, List.mem_range, decide_eq_true_eq] at hA
    simp only [Bool.not_eq_true', List.any_eq_true, List.mem_range, decide_eq_true_eq, ← Bool.not_eq_true, List.all_eq_true, beq_iff_eq]
    constructor
    · intro h
      refine Classical.byContradiction fun hn => h fun i hi => ?_
      have h2 := hA i hi
      have h3 : ¬ a i < b i := fun h4 => hn ⟨i, hi, h4⟩
      omega
    · rintro ⟨i, hi, hlt⟩ h
      have := h i hi
      omega
theorem law_grown (a b : Nat → Int) (w : World) : Calls Try.prog 5 #[.agg (R a), .agg (R b)] w (Ret fun v w' => v = .bool true ∧ Below w.heap.size w w') := by
  have H := St.init w
  go_enter Try.func5, Try.ntmps5
  go_wp2_with (first | (with_reducible refine wpl rfl (Stp.box 2 rfl rfl rfl H ?_); clear H; intro g2 w1 H; simp only [Act.put, List.setIfInBounds_toArray, List.set_cons_zero, List.set_cons_succ]; simp only [eval_tmp, eval_const, getD_lit0, getD_lits, cells_agg, cells_int, cells_bool, cells_string, cells_pointer, cells_slice, cells_map, List.setIfInBounds_toArray, List.set_cons_zero, List.set_cons_succ] at H) | (with_reducible refine wpl rfl (Stp.box 3 rfl rfl rfl H ?_); clear H; intro g3 w1 H; simp only [Act.put, List.setIfInBounds_toArray, List.set_cons_zero, List.set_cons_succ]; simp only [eval_tmp, eval_const, getD_lit0, getD_lits, cells_agg, cells_int, cells_bool, cells_string, cells_pointer, cells_slice, cells_map, List.setIfInBounds_toArray, List.set_cons_zero, List.set_cons_succ] at H) | (with_reducible refine wpl rfl (Stp.ldr rfl agg24 size24 rfl H (by repeat (first | exact List.mem_cons_self | apply List.mem_cons_of_mem)) (by first | exact R_size _ | rfl | (simp; done) | assumption) ?_); simp only [Act.put, List.setIfInBounds_toArray, List.set_cons_zero, List.set_cons_succ]) | (with_reducible refine wpl rfl (Stp.ldor rfl agg24 size24 rfl H (by assumption) (by first | exact R_size _ | rfl | (simp; done) | assumption) (by assumption) ?_); simp only [Act.put, List.setIfInBounds_toArray, List.set_cons_zero, List.set_cons_succ]))
  go_loopw [5, 6, 7] (fun x y i wr => ∃ k : Nat, k ≤ 16 ∧ i = .int .i64 k ∧ x = .bool (allB a b k) ∧ y = .bool (anyB a b k) ∧ St w.heap.size w wr [row 24 g3 (R b), row 24 g2 (R a)]) (fun _ _ i _ => 16 - (intOf i).toNat)
  case atStart => exact ⟨0, Nat.zero_le _, rfl, rfl, rfl, H⟩
  case round =>
    clear H
    obtain ⟨k, hk, rfl, rfl, rfl, H⟩ := hrel
    by_cases hlt : k < 16
    · have hs1 := allB_succ a b k
      have hs2 := anyB_succ a b k
      cases hA : allB a b k <;> cases hM : anyB a b k
      all_goals
        rw [hA] at hs1
        rw [hM] at hs2
        have HS1 := Lib.hid hs1
        have HS2 := Lib.hid hs2
        clear hs1 hs2 hA hM
      · go_wp2_with (first | (with_reducible refine wpl rfl (Stp.box 2 rfl rfl rfl H ?_); clear H; intro g2 w1 H; simp only [Act.put, List.setIfInBounds_toArray, List.set_cons_zero, List.set_cons_succ]; simp only [eval_tmp, eval_const, getD_lit0, getD_lits, cells_agg, cells_int, cells_bool, cells_string, cells_pointer, cells_slice, cells_map, List.setIfInBounds_toArray, List.set_cons_zero, List.set_cons_succ] at H) | (with_reducible refine wpl rfl (Stp.box 3 rfl rfl rfl H ?_); clear H; intro g3 w1 H; simp only [Act.put, List.setIfInBounds_toArray, List.set_cons_zero, List.set_cons_succ]; simp only [eval_tmp, eval_const, getD_lit0, getD_lits, cells_agg, cells_int, cells_bool, cells_string, cells_pointer, cells_slice, cells_map, List.setIfInBounds_toArray, List.set_cons_zero, List.set_cons_succ] at H) | (with_reducible refine wpl rfl (Stp.ldr rfl agg24 size24 rfl H (by repeat (first | exact List.mem_cons_self | apply List.mem_cons_of_mem)) (by first | exact R_size _ | rfl | (simp; done) | assumption) ?_); simp only [Act.put, List.setIfInBounds_toArray, List.set_cons_zero, List.set_cons_succ]) | (with_reducible refine wpl rfl (Stp.ldor rfl agg24 size24 rfl H (by assumption) (by first | exact R_size _ | rfl | (simp; done) | assumption) (by assumption) ?_); simp only [Act.put, List.setIfInBounds_toArray, List.set_cons_zero, List.set_cons_succ]))
        refine rg_begin 11 rfl (S := fun W => St _ _ W _) (by kernel_rfl) H.drew ?_
        replace H := H.drew
        have HS := H
        refine rg_take (i := 0) rfl (by kernel_rfl) (by kernel_rfl) (by kernel_rfl) (Yld.move rfl rfl) HS ?_; simp only [Act.put, eval_tmp, eval_const, getD_lit0, getD_lits, if_true, if_false, List.setIfInBounds_toArray, List.set_cons_zero, List.set_cons_succ]
        refine rg_take (i := 1) rfl (by kernel_rfl) (by kernel_rfl) (by kernel_rfl) (Yld.move rfl rfl) HS ?_; simp only [Act.put, eval_tmp, eval_const, getD_lit0, getD_lits, if_true, if_false, List.setIfInBounds_toArray, List.set_cons_zero, List.set_cons_succ]
        refine rg_take (i := 2) rfl (by kernel_rfl) (by kernel_rfl) (by kernel_rfl) (Yld.skip rfl) HS ?_; simp only [Act.put, List.setIfInBounds_toArray, List.set_cons_zero, List.set_cons_succ]
        refine rg_take (i := 3) rfl (by kernel_rfl) (by kernel_rfl) (by kernel_rfl) (Yld.skip rfl) HS ?_; simp only [Act.put, List.setIfInBounds_toArray, List.set_cons_zero, List.set_cons_succ]
        refine rg_take (i := 4) rfl (by kernel_rfl) (by kernel_rfl) (by kernel_rfl) (Yld.skip rfl) HS ?_; simp only [Act.put, List.setIfInBounds_toArray, List.set_cons_zero, List.set_cons_succ]
        refine rg_take (i := 5) rfl (by kernel_rfl) (by kernel_rfl) (by kernel_rfl) (Yld.skip rfl) HS ?_; simp only [Act.put, List.setIfInBounds_toArray, List.set_cons_zero, List.set_cons_succ]
        refine rg_take (i := 6) rfl (by kernel_rfl) (by kernel_rfl) (by kernel_rfl) (Yld.skip rfl) HS ?_; simp only [Act.put, List.setIfInBounds_toArray, List.set_cons_zero, List.set_cons_succ]
        refine rg_take (i := 7) rfl (by kernel_rfl) (by kernel_rfl) (by kernel_rfl) (Yld.skip rfl) HS ?_; simp only [Act.put, List.setIfInBounds_toArray, List.set_cons_zero, List.set_cons_succ]
        refine rg_take (i := 8) rfl (by kernel_rfl) (by kernel_rfl) (by kernel_rfl) (Yld.skip rfl) HS ?_; simp only [Act.put, List.setIfInBounds_toArray, List.set_cons_zero, List.set_cons_succ]
        refine rg_take (i := 9) rfl (by kernel_rfl) (by kernel_rfl) (by kernel_rfl) (Yld.pick rfl rfl rfl) HS ?_; simp only [Act.put, eval_tmp, eval_const, getD_lit0, getD_lits, if_true, if_false, List.setIfInBounds_toArray, List.set_cons_zero, List.set_cons_succ]
        refine rg_take (i := 10) rfl (by kernel_rfl) (by kernel_rfl) (by kernel_rfl) (Yld.assign rfl rfl) HS ?_; simp only [Act.put, eval_tmp, eval_const, getD_lit0, getD_lits, if_true, if_false, List.setIfInBounds_toArray, List.set_cons_zero, List.set_cons_succ]
        refine rg_done (by kernel_rfl) ?_
        go_wp2_with (first | (with_reducible refine wpl rfl (Stp.box 2 rfl rfl rfl H ?_); clear H; intro g2 w1 H; simp only [Act.put, List.setIfInBounds_toArray, List.set_cons_zero, List.set_cons_succ]; simp only [eval_tmp, eval_const, getD_lit0, getD_lits, cells_agg, cells_int, cells_bool, cells_string, cells_pointer, cells_slice, cells_map, List.setIfInBounds_toArray, List.set_cons_zero, List.set_cons_succ] at H) | (with_reducible refine wpl rfl (Stp.box 3 rfl rfl rfl H ?_); clear H; intro g3 w1 H; simp only [Act.put, List.setIfInBounds_toArray, List.set_cons_zero, List.set_cons_succ]; simp only [eval_tmp, eval_const, getD_lit0, getD_lits, cells_agg, cells_int, cells_bool, cells_string, cells_pointer, cells_slice, cells_map, List.setIfInBounds_toArray, List.set_cons_zero, List.set_cons_succ] at H) | (with_reducible refine wpl rfl (Stp.ldr rfl agg24 size24 rfl H (by repeat (first | exact List.mem_cons_self | apply List.mem_cons_of_mem)) (by first | exact R_size _ | rfl | (simp; done) | assumption) ?_); simp only [Act.put, List.setIfInBounds_toArray, List.set_cons_zero, List.set_cons_succ]) | (with_reducible refine wpl rfl (Stp.ldor rfl agg24 size24 rfl H (by assumption) (by first | exact R_size _ | rfl | (simp; done) | assumption) (by assumption) ?_); simp only [Act.put, List.setIfInBounds_toArray, List.set_cons_zero, List.set_cons_succ]))
        refine rg_begin 11 rfl (S := fun W => St _ _ W _) (by kernel_rfl) H.drew ?_
        replace H := H.drew
        have HS := H
        refine rg_take (i := 0) rfl (by kernel_rfl) (by kernel_rfl) (by kernel_rfl) (Yld.move rfl rfl) HS ?_; simp only [Act.put, eval_tmp, eval_const, getD_lit0, getD_lits, if_true, if_false, List.setIfInBounds_toArray, List.set_cons_zero, List.set_cons_succ]
        refine rg_take (i := 1) rfl (by kernel_rfl) (by kernel_rfl) (by kernel_rfl) (Yld.move rfl rfl) HS ?_; simp only [Act.put, eval_tmp, eval_const, getD_lit0, getD_lits, if_true, if_false, List.setIfInBounds_toArray, List.set_cons_zero, List.set_cons_succ]
        refine rg_take (i := 2) rfl (by kernel_rfl) (by kernel_rfl) (by kernel_rfl) (Yld.move rfl rfl) HS ?_; simp only [Act.put, eval_tmp, eval_const, getD_lit0, getD_lits, if_true, if_false, List.setIfInBounds_toArray, List.set_cons_zero, List.set_cons_succ]
        refine rg_take (i := 3) rfl (by kernel_rfl) (by kernel_rfl) (by kernel_rfl) (Yld.of rfl (fun W _ => by go_simp; first | done | with_reducible rfl)) HS ?_; simp only [Act.put, List.setIfInBounds_toArray, List.set_cons_zero, List.set_cons_succ]
        first | (refine rg_take (i := 4) rfl (by kernel_rfl) (by kernel_rfl) (by kernel_rfl) (Yld.ldc rfl rfl agg22 rfl (by repeat (first | exact List.mem_cons_self | apply List.mem_cons_of_mem)) (by first | exact R_get _ _ (by omega) | (repeat (first | exact lit0 _ _ | apply lits)) | rfl | assumption)) HS ?_; simp only [Act.put, List.setIfInBounds_toArray, List.set_cons_zero, List.set_cons_succ]) | (refine rg_take (i := 4) rfl (by kernel_rfl) (by kernel_rfl) (by kernel_rfl) (Yld.ldo rfl rfl agg22 rfl (by assumption) (by assumption)) HS ?_; simp only [Act.put, List.setIfInBounds_toArray, List.set_cons_zero, List.set_cons_succ])
        refine rg_take (i := 5) rfl (by kernel_rfl) (by kernel_rfl) (by kernel_rfl) (Yld.move rfl rfl) HS ?_; simp only [Act.put, eval_tmp, eval_const, getD_lit0, getD_lits, if_true, if_false, List.setIfInBounds_toArray, List.set_cons_zero, List.set_cons_succ]
        refine rg_take (i := 6) rfl (by kernel_rfl) (by kernel_rfl) (by kernel_rfl) (Yld.of rfl (fun W _ => by go_simp; first | done | with_reducible rfl)) HS ?_; simp only [Act.put, List.setIfInBounds_toArray, List.set_cons_zero, List.set_cons_succ]
        first | (refine rg_take (i := 7) rfl (by kernel_rfl) (by kernel_rfl) (by kernel_rfl) (Yld.ldc rfl rfl agg22 rfl (by repeat (first | exact List.mem_cons_self | apply List.mem_cons_of_mem)) (by first | exact R_get _ _ (by omega) | (repeat (first | exact lit0 _ _ | apply lits)) | rfl | assumption)) HS ?_; simp only [Act.put, List.setIfInBounds_toArray, List.set_cons_zero, List.set_cons_succ]) | (refine rg_take (i := 7) rfl (by kernel_rfl) (by kernel_rfl) (by kernel_rfl) (Yld.ldo rfl rfl agg22 rfl (by assumption) (by assumption)) HS ?_; simp only [Act.put, List.setIfInBounds_toArray, List.set_cons_zero, List.set_cons_succ])
        refine rg_take (i := 8) rfl (by kernel_rfl) (by kernel_rfl) (by kernel_rfl) (Yld.of rfl (fun W _ => by go_simp; first | done | with_reducible rfl)) HS ?_; simp only [Act.put, List.setIfInBounds_toArray, List.set_cons_zero, List.set_cons_succ]
        refine rg_take (i := 9) rfl (by kernel_rfl) (by kernel_rfl) (by kernel_rfl) (Yld.pick rfl rfl rfl) HS ?_; simp only [Act.put, eval_tmp, eval_const, getD_lit0, getD_lits, if_true, if_false, List.setIfInBounds_toArray, List.set_cons_zero, List.set_cons_succ]
        refine rg_take (i := 10) rfl (by kernel_rfl) (by kernel_rfl) (by kernel_rfl) (Yld.assign rfl rfl) HS ?_; simp only [Act.put, eval_tmp, eval_const, getD_lit0, getD_lits, if_true, if_false, List.setIfInBounds_toArray, List.set_cons_zero, List.set_cons_succ]
        refine rg_done (by kernel_rfl) ?_
        go_wp2_with (first | (with_reducible refine wpl rfl (Stp.box 2 rfl rfl rfl H ?_); clear H; intro g2 w1 H; simp only [Act.put, List.setIfInBounds_toArray, List.set_cons_zero, List.set_cons_succ]; simp only [eval_tmp, eval_const, getD_lit0, getD_lits, cells_agg, cells_int, cells_bool, cells_string, cells_pointer, cells_slice, cells_map, List.setIfInBounds_toArray, List.set_cons_zero, List.set_cons_succ] at H) | (with_reducible refine wpl rfl (Stp.box 3 rfl rfl rfl H ?_); clear H; intro g3 w1 H; simp only [Act.put, List.setIfInBounds_toArray, List.set_cons_zero, List.set_cons_succ]; simp only [eval_tmp, eval_const, getD_lit0, getD_lits, cells_agg, cells_int, cells_bool, cells_string, cells_pointer, cells_slice, cells_map, List.setIfInBounds_toArray, List.set_cons_zero, List.set_cons_succ] at H) | (with_reducible refine wpl rfl (Stp.ldr rfl agg24 size24 rfl H (by repeat (first | exact List.mem_cons_self | apply List.mem_cons_of_mem)) (by first | exact R_size _ | rfl | (simp; done) | assumption) ?_); simp only [Act.put, List.setIfInBounds_toArray, List.set_cons_zero, List.set_cons_succ]) | (with_reducible refine wpl rfl (Stp.ldor rfl agg24 size24 rfl H (by assumption) (by first | exact R_size _ | rfl | (simp; done) | assumption) (by assumption) ?_); simp only [Act.put, List.setIfInBounds_toArray, List.set_cons_zero, List.set_cons_succ]))
        go_roundw
        case rel => exact ⟨k + 1, by omega, by go_num, by rw [HS1.out]; rfl, by rw [HS2.out]; rfl, H⟩
        case measure => simp [intOf]; omega
      · go_wp2_with (first | (with_reducible refine wpl rfl (Stp.box 2 rfl rfl rfl H ?_); clear H; intro g2 w1 H; simp only [Act.put, List.setIfInBounds_toArray, List.set_cons_zero, List.set_cons_succ]; simp only [eval_tmp, eval_const, getD_lit0, getD_lits, cells_agg, cells_int, cells_bool, cells_string, cells_pointer, cells_slice, cells_map, List.setIfInBounds_toArray, List.set_cons_zero, List.set_cons_succ] at H) | (with_reducible refine wpl rfl (Stp.box 3 rfl rfl rfl H ?_); clear H; intro g3 w1 H; simp only [Act.put, List.setIfInBounds_toArray, List.set_cons_zero, List.set_cons_succ]; simp only [eval_tmp, eval_const, getD_lit0, getD_lits, cells_agg, cells_int, cells_bool, cells_string, cells_pointer, cells_slice, cells_map, List.setIfInBounds_toArray, List.set_cons_zero, List.set_cons_succ] at H) | (with_reducible refine wpl rfl (Stp.ldr rfl agg24 size24 rfl H (by repeat (first | exact List.mem_cons_self | apply List.mem_cons_of_mem)) (by first | exact R_size _ | rfl | (simp; done) | assumption) ?_); simp only [Act.put, List.setIfInBounds_toArray, List.set_cons_zero, List.set_cons_succ]) | (with_reducible refine wpl rfl (Stp.ldor rfl agg24 size24 rfl H (by assumption) (by first | exact R_size _ | rfl | (simp; done) | assumption) (by assumption) ?_); simp only [Act.put, List.setIfInBounds_toArray, List.set_cons_zero, List.set_cons_succ]))
        refine rg_begin 11 rfl (S := fun W => St _ _ W _) (by kernel_rfl) H.drew ?_
        replace H := H.drew
        have HS := H
        refine rg_take (i := 0) rfl (by kernel_rfl) (by kernel_rfl) (by kernel_rfl) (Yld.move rfl rfl) HS ?_; simp only [Act.put, eval_tmp, eval_const, getD_lit0, getD_lits, if_true, if_false, List.setIfInBounds_toArray, List.set_cons_zero, List.set_cons_succ]
        refine rg_take (i := 1) rfl (by kernel_rfl) (by kernel_rfl) (by kernel_rfl) (Yld.move rfl rfl) HS ?_; simp only [Act.put, eval_tmp, eval_const, getD_lit0, getD_lits, if_true, if_false, List.setIfInBounds_toArray, List.set_cons_zero, List.set_cons_succ]
        refine rg_take (i := 2) rfl (by kernel_rfl) (by kernel_rfl) (by kernel_rfl) (Yld.skip rfl) HS ?_; simp only [Act.put, List.setIfInBounds_toArray, List.set_cons_zero, List.set_cons_succ]
        refine rg_take (i := 3) rfl (by kernel_rfl) (by kernel_rfl) (by kernel_rfl) (Yld.skip rfl) HS ?_; simp only [Act.put, List.setIfInBounds_toArray, List.set_cons_zero, List.set_cons_succ]
        refine rg_take (i := 4) rfl (by kernel_rfl) (by kernel_rfl) (by kernel_rfl) (Yld.skip rfl) HS ?_; simp only [Act.put, List.setIfInBounds_toArray, List.set_cons_zero, List.set_cons_succ]
        refine rg_take (i := 5) rfl (by kernel_rfl) (by kernel_rfl) (by kernel_rfl) (Yld.skip rfl) HS ?_; simp only [Act.put, List.setIfInBounds_toArray, List.set_cons_zero, List.set_cons_succ]
        refine rg_take (i := 6) rfl (by kernel_rfl) (by kernel_rfl) (by kernel_rfl) (Yld.skip rfl) HS ?_; simp only [Act.put, List.setIfInBounds_toArray, List.set_cons_zero, List.set_cons_succ]
        refine rg_take (i := 7) rfl (by kernel_rfl) (by kernel_rfl) (by kernel_rfl) (Yld.skip rfl) HS ?_; simp only [Act.put, List.setIfInBounds_toArray, List.set_cons_zero, List.set_cons_succ]
        refine rg_take (i := 8) rfl (by kernel_rfl) (by kernel_rfl) (by kernel_rfl) (Yld.skip rfl) HS ?_; simp only [Act.put, List.setIfInBounds_toArray, List.set_cons_zero, List.set_cons_succ]
        refine rg_take (i := 9) rfl (by kernel_rfl) (by kernel_rfl) (by kernel_rfl) (Yld.pick rfl rfl rfl) HS ?_; simp only [Act.put, eval_tmp, eval_const, getD_lit0, getD_lits, if_true, if_false, List.setIfInBounds_toArray, List.set_cons_zero, List.set_cons_succ]
        refine rg_take (i := 10) rfl (by kernel_rfl) (by kernel_rfl) (by kernel_rfl) (Yld.assign rfl rfl) HS ?_; simp only [Act.put, eval_tmp, eval_const, getD_lit0, getD_lits, if_true, if_false, List.setIfInBounds_toArray, List.set_cons_zero, List.set_cons_succ]
        refine rg_done (by kernel_rfl) ?_
        go_wp2_with (first | (with_reducible refine wpl rfl (Stp.box 2 rfl rfl rfl H ?_); clear H; intro g2 w1 H; simp only [Act.put, List.setIfInBounds_toArray, List.set_cons_zero, List.set_cons_succ]; simp only [eval_tmp, eval_const, getD_lit0, getD_lits, cells_agg, cells_int, cells_bool, cells_string, cells_pointer, cells_slice, cells_map, List.setIfInBounds_toArray, List.set_cons_zero, List.set_cons_succ] at H) | (with_reducible refine wpl rfl (Stp.box 3 rfl rfl rfl H ?_); clear H; intro g3 w1 H; simp only [Act.put, List.setIfInBounds_toArray, List.set_cons_zero, List.set_cons_succ]; simp only [eval_tmp, eval_const, getD_lit0, getD_lits, cells_agg, cells_int, cells_bool, cells_string, cells_pointer, cells_slice, cells_map, List.setIfInBounds_toArray, List.set_cons_zero, List.set_cons_succ] at H) | (with_reducible refine wpl rfl (Stp.ldr rfl agg24 size24 rfl H (by repeat (first | exact List.mem_cons_self | apply List.mem_cons_of_mem)) (by first | exact R_size _ | rfl | (simp; done) | assumption) ?_); simp only [Act.put, List.setIfInBounds_toArray, List.set_cons_zero, List.set_cons_succ]) | (with_reducible refine wpl rfl (Stp.ldor rfl agg24 size24 rfl H (by assumption) (by first | exact R_size _ | rfl | (simp; done) | assumption) (by assumption) ?_); simp only [Act.put, List.setIfInBounds_toArray, List.set_cons_zero, List.set_cons_succ]))
        refine rg_begin 11 rfl (S := fun W => St _ _ W _) (by kernel_rfl) H.drew ?_
        replace H := H.drew
        have HS := H
        refine rg_take (i := 0) rfl (by kernel_rfl) (by kernel_rfl) (by kernel_rfl) (Yld.move rfl rfl) HS ?_; simp only [Act.put, eval_tmp, eval_const, getD_lit0, getD_lits, if_true, if_false, List.setIfInBounds_toArray, List.set_cons_zero, List.set_cons_succ]
        refine rg_take (i := 1) rfl (by kernel_rfl) (by kernel_rfl) (by kernel_rfl) (Yld.move rfl rfl) HS ?_; simp only [Act.put, eval_tmp, eval_const, getD_lit0, getD_lits, if_true, if_false, List.setIfInBounds_toArray, List.set_cons_zero, List.set_cons_succ]
        refine rg_take (i := 2) rfl (by kernel_rfl) (by kernel_rfl) (by kernel_rfl) (Yld.skip rfl) HS ?_; simp only [Act.put, List.setIfInBounds_toArray, List.set_cons_zero, List.set_cons_succ]
        refine rg_take (i := 3) rfl (by kernel_rfl) (by kernel_rfl) (by kernel_rfl) (Yld.skip rfl) HS ?_; simp only [Act.put, List.setIfInBounds_toArray, List.set_cons_zero, List.set_cons_succ]
        refine rg_take (i := 4) rfl (by kernel_rfl) (by kernel_rfl) (by kernel_rfl) (Yld.skip rfl) HS ?_; simp only [Act.put, List.setIfInBounds_toArray, List.set_cons_zero, List.set_cons_succ]
        refine rg_take (i := 5) rfl (by kernel_rfl) (by kernel_rfl) (by kernel_rfl) (Yld.skip rfl) HS ?_; simp only [Act.put, List.setIfInBounds_toArray, List.set_cons_zero, List.set_cons_succ]
        refine rg_take (i := 6) rfl (by kernel_rfl) (by kernel_rfl) (by kernel_rfl) (Yld.skip rfl) HS ?_; simp only [Act.put, List.setIfInBounds_toArray, List.set_cons_zero, List.set_cons_succ]
        refine rg_take (i := 7) rfl (by kernel_rfl) (by kernel_rfl) (by kernel_rfl) (Yld.skip rfl) HS ?_; simp only [Act.put, List.setIfInBounds_toArray, List.set_cons_zero, List.set_cons_succ]
        refine rg_take (i := 8) rfl (by kernel_rfl) (by kernel_rfl) (by kernel_rfl) (Yld.skip rfl) HS ?_; simp only [Act.put, List.setIfInBounds_toArray, List.set_cons_zero, List.set_cons_succ]
        refine rg_take (i := 9) rfl (by kernel_rfl) (by kernel_rfl) (by kernel_rfl) (Yld.pick rfl rfl rfl) HS ?_; simp only [Act.put, eval_tmp, eval_const, getD_lit0, getD_lits, if_true, if_false, List.setIfInBounds_toArray, List.set_cons_zero, List.set_cons_succ]
        refine rg_take (i := 10) rfl (by kernel_rfl) (by kernel_rfl) (by kernel_rfl) (Yld.assign rfl rfl) HS ?_; simp only [Act.put, eval_tmp, eval_const, getD_lit0, getD_lits, if_true, if_false, List.setIfInBounds_toArray, List.set_cons_zero, List.set_cons_succ]
        refine rg_done (by kernel_rfl) ?_
        go_wp2_with (first | (with_reducible refine wpl rfl (Stp.box 2 rfl rfl rfl H ?_); clear H; intro g2 w1 H; simp only [Act.put, List.setIfInBounds_toArray, List.set_cons_zero, List.set_cons_succ]; simp only [eval_tmp, eval_const, getD_lit0, getD_lits, cells_agg, cells_int, cells_bool, cells_string, cells_pointer, cells_slice, cells_map, List.setIfInBounds_toArray, List.set_cons_zero, List.set_cons_succ] at H) | (with_reducible refine wpl rfl (Stp.box 3 rfl rfl rfl H ?_); clear H; intro g3 w1 H; simp only [Act.put, List.setIfInBounds_toArray, List.set_cons_zero, List.set_cons_succ]; simp only [eval_tmp, eval_const, getD_lit0, getD_lits, cells_agg, cells_int, cells_bool, cells_string, cells_pointer, cells_slice, cells_map, List.setIfInBounds_toArray, List.set_cons_zero, List.set_cons_succ] at H) | (with_reducible refine wpl rfl (Stp.ldr rfl agg24 size24 rfl H (by repeat (first | exact List.mem_cons_self | apply List.mem_cons_of_mem)) (by first | exact R_size _ | rfl | (simp; done) | assumption) ?_); simp only [Act.put, List.setIfInBounds_toArray, List.set_cons_zero, List.set_cons_succ]) | (with_reducible refine wpl rfl (Stp.ldor rfl agg24 size24 rfl H (by assumption) (by first | exact R_size _ | rfl | (simp; done) | assumption) (by assumption) ?_); simp only [Act.put, List.setIfInBounds_toArray, List.set_cons_zero, List.set_cons_succ]))
        go_roundw
        case rel => exact ⟨k + 1, by omega, by go_num, by rw [HS1.out]; rfl, by rw [HS2.out]; rfl, H⟩
        case measure => simp [intOf]; omega
      · go_wp2_with (first | (with_reducible refine wpl rfl (Stp.box 2 rfl rfl rfl H ?_); clear H; intro g2 w1 H; simp only [Act.put, List.setIfInBounds_toArray, List.set_cons_zero, List.set_cons_succ]; simp only [eval_tmp, eval_const, getD_lit0, getD_lits, cells_agg, cells_int, cells_bool, cells_string, cells_pointer, cells_slice, cells_map, List.setIfInBounds_toArray, List.set_cons_zero, List.set_cons_succ] at H) | (with_reducible refine wpl rfl (Stp.box 3 rfl rfl rfl H ?_); clear H; intro g3 w1 H; simp only [Act.put, List.setIfInBounds_toArray, List.set_cons_zero, List.set_cons_succ]; simp only [eval_tmp, eval_const, getD_lit0, getD_lits, cells_agg, cells_int, cells_bool, cells_string, cells_pointer, cells_slice, cells_map, List.setIfInBounds_toArray, List.set_cons_zero, List.set_cons_succ] at H) | (with_reducible refine wpl rfl (Stp.ldr rfl agg24 size24 rfl H (by repeat (first | exact List.mem_cons_self | apply List.mem_cons_of_mem)) (by first | exact R_size _ | rfl | (simp; done) | assumption) ?_); simp only [Act.put, List.setIfInBounds_toArray, List.set_cons_zero, List.set_cons_succ]) | (with_reducible refine wpl rfl (Stp.ldor rfl agg24 size24 rfl H (by assumption) (by first | exact R_size _ | rfl | (simp; done) | assumption) (by assumption) ?_); simp only [Act.put, List.setIfInBounds_toArray, List.set_cons_zero, List.set_cons_succ]))
        refine rg_begin 11 rfl (S := fun W => St _ _ W _) (by kernel_rfl) H.drew ?_
        replace H := H.drew
        have HS := H
        refine rg_take (i := 0) rfl (by kernel_rfl) (by kernel_rfl) (by kernel_rfl) (Yld.move rfl rfl) HS ?_; simp only [Act.put, eval_tmp, eval_const, getD_lit0, getD_lits, if_true, if_false, List.setIfInBounds_toArray, List.set_cons_zero, List.set_cons_succ]
        refine rg_take (i := 1) rfl (by kernel_rfl) (by kernel_rfl) (by kernel_rfl) (Yld.move rfl rfl) HS ?_; simp only [Act.put, eval_tmp, eval_const, getD_lit0, getD_lits, if_true, if_false, List.setIfInBounds_toArray, List.set_cons_zero, List.set_cons_succ]
        refine rg_take (i := 2) rfl (by kernel_rfl) (by kernel_rfl) (by kernel_rfl) (Yld.move rfl rfl) HS ?_; simp only [Act.put, eval_tmp, eval_const, getD_lit0, getD_lits, if_true, if_false, List.setIfInBounds_toArray, List.set_cons_zero, List.set_cons_succ]
        refine rg_take (i := 3) rfl (by kernel_rfl) (by kernel_rfl) (by kernel_rfl) (Yld.of rfl (fun W _ => by go_simp; first | done | with_reducible rfl)) HS ?_; simp only [Act.put, List.setIfInBounds_toArray, List.set_cons_zero, List.set_cons_succ]
        first | (refine rg_take (i := 4) rfl (by kernel_rfl) (by kernel_rfl) (by kernel_rfl) (Yld.ldc rfl rfl agg22 rfl (by repeat (first | exact List.mem_cons_self | apply List.mem_cons_of_mem)) (by first | exact R_get _ _ (by omega) | (repeat (first | exact lit0 _ _ | apply lits)) | rfl | assumption)) HS ?_; simp only [Act.put, List.setIfInBounds_toArray, List.set_cons_zero, List.set_cons_succ]) | (refine rg_take (i := 4) rfl (by kernel_rfl) (by kernel_rfl) (by kernel_rfl) (Yld.ldo rfl rfl agg22 rfl (by assumption) (by assumption)) HS ?_; simp only [Act.put, List.setIfInBounds_toArray, List.set_cons_zero, List.set_cons_succ])
        refine rg_take (i := 5) rfl (by kernel_rfl) (by kernel_rfl) (by kernel_rfl) (Yld.move rfl rfl) HS ?_; simp only [Act.put, eval_tmp, eval_const, getD_lit0, getD_lits, if_true, if_false, List.setIfInBounds_toArray, List.set_cons_zero, List.set_cons_succ]
        refine rg_take (i := 6) rfl (by kernel_rfl) (by kernel_rfl) (by kernel_rfl) (Yld.of rfl (fun W _ => by go_simp; first | done | with_reducible rfl)) HS ?_; simp only [Act.put, List.setIfInBounds_toArray, List.set_cons_zero, List.set_cons_succ]
        first | (refine rg_take (i := 7) rfl (by kernel_rfl) (by kernel_rfl) (by kernel_rfl) (Yld.ldc rfl rfl agg22 rfl (by repeat (first | exact List.mem_cons_self | apply List.mem_cons_of_mem)) (by first | exact R_get _ _ (by omega) | (repeat (first | exact lit0 _ _ | apply lits)) | rfl | assumption)) HS ?_; simp only [Act.put, List.setIfInBounds_toArray, List.set_cons_zero, List.set_cons_succ]) | (refine rg_take (i := 7) rfl (by kernel_rfl) (by kernel_rfl) (by kernel_rfl) (Yld.ldo rfl rfl agg22 rfl (by assumption) (by assumption)) HS ?_; simp only [Act.put, List.setIfInBounds_toArray, List.set_cons_zero, List.set_cons_succ])
        refine rg_take (i := 8) rfl (by kernel_rfl) (by kernel_rfl) (by kernel_rfl) (Yld.of rfl (fun W _ => by go_simp; first | done | with_reducible rfl)) HS ?_; simp only [Act.put, List.setIfInBounds_toArray, List.set_cons_zero, List.set_cons_succ]
        refine rg_take (i := 9) rfl (by kernel_rfl) (by kernel_rfl) (by kernel_rfl) (Yld.pick rfl rfl rfl) HS ?_; simp only [Act.put, eval_tmp, eval_const, getD_lit0, getD_lits, if_true, if_false, List.setIfInBounds_toArray, List.set_cons_zero, List.set_cons_succ]
        refine rg_take (i := 10) rfl (by kernel_rfl) (by kernel_rfl) (by kernel_rfl) (Yld.assign rfl rfl) HS ?_; simp only [Act.put, eval_tmp, eval_const, getD_lit0, getD_lits, if_true, if_false, List.setIfInBounds_toArray, List.set_cons_zero, List.set_cons_succ]
        refine rg_done (by kernel_rfl) ?_
        go_wp2_with (first | (with_reducible refine wpl rfl (Stp.box 2 rfl rfl rfl H ?_); clear H; intro g2 w1 H; simp only [Act.put, List.setIfInBounds_toArray, List.set_cons_zero, List.set_cons_succ]; simp only [eval_tmp, eval_const, getD_lit0, getD_lits, cells_agg, cells_int, cells_bool, cells_string, cells_pointer, cells_slice, cells_map, List.setIfInBounds_toArray, List.set_cons_zero, List.set_cons_succ] at H) | (with_reducible refine wpl rfl (Stp.box 3 rfl rfl rfl H ?_); clear H; intro g3 w1 H; simp only [Act.put, List.setIfInBounds_toArray, List.set_cons_zero, List.set_cons_succ]; simp only [eval_tmp, eval_const, getD_lit0, getD_lits, cells_agg, cells_int, cells_bool, cells_string, cells_pointer, cells_slice, cells_map, List.setIfInBounds_toArray, List.set_cons_zero, List.set_cons_succ] at H) | (with_reducible refine wpl rfl (Stp.ldr rfl agg24 size24 rfl H (by repeat (first | exact List.mem_cons_self | apply List.mem_cons_of_mem)) (by first | exact R_size _ | rfl | (simp; done) | assumption) ?_); simp only [Act.put, List.setIfInBounds_toArray, List.set_cons_zero, List.set_cons_succ]) | (with_reducible refine wpl rfl (Stp.ldor rfl agg24 size24 rfl H (by assumption) (by first | exact R_size _ | rfl | (simp; done) | assumption) (by assumption) ?_); simp only [Act.put, List.setIfInBounds_toArray, List.set_cons_zero, List.set_cons_succ]))
        refine rg_begin 11 rfl (S := fun W => St _ _ W _) (by kernel_rfl) H.drew ?_
        replace H := H.drew
        have HS := H
        refine rg_take (i := 0) rfl (by kernel_rfl) (by kernel_rfl) (by kernel_rfl) (Yld.move rfl rfl) HS ?_; simp only [Act.put, eval_tmp, eval_const, getD_lit0, getD_lits, if_true, if_false, List.setIfInBounds_toArray, List.set_cons_zero, List.set_cons_succ]
        refine rg_take (i := 1) rfl (by kernel_rfl) (by kernel_rfl) (by kernel_rfl) (Yld.move rfl rfl) HS ?_; simp only [Act.put, eval_tmp, eval_const, getD_lit0, getD_lits, if_true, if_false, List.setIfInBounds_toArray, List.set_cons_zero, List.set_cons_succ]
        refine rg_take (i := 2) rfl (by kernel_rfl) (by kernel_rfl) (by kernel_rfl) (Yld.move rfl rfl) HS ?_; simp only [Act.put, eval_tmp, eval_const, getD_lit0, getD_lits, if_true, if_false, List.setIfInBounds_toArray, List.set_cons_zero, List.set_cons_succ]
        refine rg_take (i := 3) rfl (by kernel_rfl) (by kernel_rfl) (by kernel_rfl) (Yld.of rfl (fun W _ => by go_simp; first | done | with_reducible rfl)) HS ?_; simp only [Act.put, List.setIfInBounds_toArray, List.set_cons_zero, List.set_cons_succ]
        first | (refine rg_take (i := 4) rfl (by kernel_rfl) (by kernel_rfl) (by kernel_rfl) (Yld.ldc rfl rfl agg22 rfl (by repeat (first | exact List.mem_cons_self | apply List.mem_cons_of_mem)) (by first | exact R_get _ _ (by omega) | (repeat (first | exact lit0 _ _ | apply lits)) | rfl | assumption)) HS ?_; simp only [Act.put, List.setIfInBounds_toArray, List.set_cons_zero, List.set_cons_succ]) | (refine rg_take (i := 4) rfl (by kernel_rfl) (by kernel_rfl) (by kernel_rfl) (Yld.ldo rfl rfl agg22 rfl (by assumption) (by assumption)) HS ?_; simp only [Act.put, List.setIfInBounds_toArray, List.set_cons_zero, List.set_cons_succ])
        refine rg_take (i := 5) rfl (by kernel_rfl) (by kernel_rfl) (by kernel_rfl) (Yld.move rfl rfl) HS ?_; simp only [Act.put, eval_tmp, eval_const, getD_lit0, getD_lits, if_true, if_false, List.setIfInBounds_toArray, List.set_cons_zero, List.set_cons_succ]
        refine rg_take (i := 6) rfl (by kernel_rfl) (by kernel_rfl) (by kernel_rfl) (Yld.of rfl (fun W _ => by go_simp; first | done | with_reducible rfl)) HS ?_; simp only [Act.put, List.setIfInBounds_toArray, List.set_cons_zero, List.set_cons_succ]
        first | (refine rg_take (i := 7) rfl (by kernel_rfl) (by kernel_rfl) (by kernel_rfl) (Yld.ldc rfl rfl agg22 rfl (by repeat (first | exact List.mem_cons_self | apply List.mem_cons_of_mem)) (by first | exact R_get _ _ (by omega) | (repeat (first | exact lit0 _ _ | apply lits)) | rfl | assumption)) HS ?_; simp only [Act.put, List.setIfInBounds_toArray, List.set_cons_zero, List.set_cons_succ]) | (refine rg_take (i := 7) rfl (by kernel_rfl) (by kernel_rfl) (by kernel_rfl) (Yld.ldo rfl rfl agg22 rfl (by assumption) (by assumption)) HS ?_; simp only [Act.put, List.setIfInBounds_toArray, List.set_cons_zero, List.set_cons_succ])
        refine rg_take (i := 8) rfl (by kernel_rfl) (by kernel_rfl) (by kernel_rfl) (Yld.of rfl (fun W _ => by go_simp; first | done | with_reducible rfl)) HS ?_; simp only [Act.put, List.setIfInBounds_toArray, List.set_cons_zero, List.set_cons_succ]
        refine rg_take (i := 9) rfl (by kernel_rfl) (by kernel_rfl) (by kernel_rfl) (Yld.pick rfl rfl rfl) HS ?_; simp only [Act.put, eval_tmp, eval_const, getD_lit0, getD_lits, if_true, if_false, List.setIfInBounds_toArray, List.set_cons_zero, List.set_cons_succ]
        refine rg_take (i := 10) rfl (by kernel_rfl) (by kernel_rfl) (by kernel_rfl) (Yld.assign rfl rfl) HS ?_; simp only [Act.put, eval_tmp, eval_const, getD_lit0, getD_lits, if_true, if_false, List.setIfInBounds_toArray, List.set_cons_zero, List.set_cons_succ]
        refine rg_done (by kernel_rfl) ?_
        go_wp2_with (first | (with_reducible refine wpl rfl (Stp.box 2 rfl rfl rfl H ?_); clear H; intro g2 w1 H; simp only [Act.put, List.setIfInBounds_toArray, List.set_cons_zero, List.set_cons_succ]; simp only [eval_tmp, eval_const, getD_lit0, getD_lits, cells_agg, cells_int, cells_bool, cells_string, cells_pointer, cells_slice, cells_map, List.setIfInBounds_toArray, List.set_cons_zero, List.set_cons_succ] at H) | (with_reducible refine wpl rfl (Stp.box 3 rfl rfl rfl H ?_); clear H; intro g3 w1 H; simp only [Act.put, List.setIfInBounds_toArray, List.set_cons_zero, List.set_cons_succ]; simp only [eval_tmp, eval_const, getD_lit0, getD_lits, cells_agg, cells_int, cells_bool, cells_string, cells_pointer, cells_slice, cells_map, List.setIfInBounds_toArray, List.set_cons_zero, List.set_cons_succ] at H) | (with_reducible refine wpl rfl (Stp.ldr rfl agg24 size24 rfl H (by repeat (first | exact List.mem_cons_self | apply List.mem_cons_of_mem)) (by first | exact R_size _ | rfl | (simp; done) | assumption) ?_); simp only [Act.put, List.setIfInBounds_toArray, List.set_cons_zero, List.set_cons_succ]) | (with_reducible refine wpl rfl (Stp.ldor rfl agg24 size24 rfl H (by assumption) (by first | exact R_size _ | rfl | (simp; done) | assumption) (by assumption) ?_); simp only [Act.put, List.setIfInBounds_toArray, List.set_cons_zero, List.set_cons_succ]))
        go_roundw
        case rel => exact ⟨k + 1, by omega, by go_num, by rw [HS1.out]; rfl, by rw [HS2.out]; rfl, H⟩
        case measure => simp [intOf]; omega
      · go_wp2_with (first | (with_reducible refine wpl rfl (Stp.box 2 rfl rfl rfl H ?_); clear H; intro g2 w1 H; simp only [Act.put, List.setIfInBounds_toArray, List.set_cons_zero, List.set_cons_succ]; simp only [eval_tmp, eval_const, getD_lit0, getD_lits, cells_agg, cells_int, cells_bool, cells_string, cells_pointer, cells_slice, cells_map, List.setIfInBounds_toArray, List.set_cons_zero, List.set_cons_succ] at H) | (with_reducible refine wpl rfl (Stp.box 3 rfl rfl rfl H ?_); clear H; intro g3 w1 H; simp only [Act.put, List.setIfInBounds_toArray, List.set_cons_zero, List.set_cons_succ]; simp only [eval_tmp, eval_const, getD_lit0, getD_lits, cells_agg, cells_int, cells_bool, cells_string, cells_pointer, cells_slice, cells_map, List.setIfInBounds_toArray, List.set_cons_zero, List.set_cons_succ] at H) | (with_reducible refine wpl rfl (Stp.ldr rfl agg24 size24 rfl H (by repeat (first | exact List.mem_cons_self | apply List.mem_cons_of_mem)) (by first | exact R_size _ | rfl | (simp; done) | assumption) ?_); simp only [Act.put, List.setIfInBounds_toArray, List.set_cons_zero, List.set_cons_succ]) | (with_reducible refine wpl rfl (Stp.ldor rfl agg24 size24 rfl H (by assumption) (by first | exact R_size _ | rfl | (simp; done) | assumption) (by assumption) ?_); simp only [Act.put, List.setIfInBounds_toArray, List.set_cons_zero, List.set_cons_succ]))
        refine rg_begin 11 rfl (S := fun W => St _ _ W _) (by kernel_rfl) H.drew ?_
        replace H := H.drew
        have HS := H
        refine rg_take (i := 0) rfl (by kernel_rfl) (by kernel_rfl) (by kernel_rfl) (Yld.move rfl rfl) HS ?_; simp only [Act.put, eval_tmp, eval_const, getD_lit0, getD_lits, if_true, if_false, List.setIfInBounds_toArray, List.set_cons_zero, List.set_cons_succ]
        refine rg_take (i := 1) rfl (by kernel_rfl) (by kernel_rfl) (by kernel_rfl) (Yld.move rfl rfl) HS ?_; simp only [Act.put, eval_tmp, eval_const, getD_lit0, getD_lits, if_true, if_false, List.setIfInBounds_toArray, List.set_cons_zero, List.set_cons_succ]
        refine rg_take (i := 2) rfl (by kernel_rfl) (by kernel_rfl) (by kernel_rfl) (Yld.move rfl rfl) HS ?_; simp only [Act.put, eval_tmp, eval_const, getD_lit0, getD_lits, if_true, if_false, List.setIfInBounds_toArray, List.set_cons_zero, List.set_cons_succ]
        refine rg_take (i := 3) rfl (by kernel_rfl) (by kernel_rfl) (by kernel_rfl) (Yld.of rfl (fun W _ => by go_simp; first | done | with_reducible rfl)) HS ?_; simp only [Act.put, List.setIfInBounds_toArray, List.set_cons_zero, List.set_cons_succ]
        first | (refine rg_take (i := 4) rfl (by kernel_rfl) (by kernel_rfl) (by kernel_rfl) (Yld.ldc rfl rfl agg22 rfl (by repeat (first | exact List.mem_cons_self | apply List.mem_cons_of_mem)) (by first | exact R_get _ _ (by omega) | (repeat (first | exact lit0 _ _ | apply lits)) | rfl | assumption)) HS ?_; simp only [Act.put, List.setIfInBounds_toArray, List.set_cons_zero, List.set_cons_succ]) | (refine rg_take (i := 4) rfl (by kernel_rfl) (by kernel_rfl) (by kernel_rfl) (Yld.ldo rfl rfl agg22 rfl (by assumption) (by assumption)) HS ?_; simp only [Act.put, List.setIfInBounds_toArray, List.set_cons_zero, List.set_cons_succ])
        refine rg_take (i := 5) rfl (by kernel_rfl) (by kernel_rfl) (by kernel_rfl) (Yld.move rfl rfl) HS ?_; simp only [Act.put, eval_tmp, eval_const, getD_lit0, getD_lits, if_true, if_false, List.setIfInBounds_toArray, List.set_cons_zero, List.set_cons_succ]
        refine rg_take (i := 6) rfl (by kernel_rfl) (by kernel_rfl) (by kernel_rfl) (Yld.of rfl (fun W _ => by go_simp; first | done | with_reducible rfl)) HS ?_; simp only [Act.put, List.setIfInBounds_toArray, List.set_cons_zero, List.set_cons_succ]
        first | (refine rg_take (i := 7) rfl (by kernel_rfl) (by kernel_rfl) (by kernel_rfl) (Yld.ldc rfl rfl agg22 rfl (by repeat (first | exact List.mem_cons_self | apply List.mem_cons_of_mem)) (by first | exact R_get _ _ (by omega) | (repeat (first | exact lit0 _ _ | apply lits)) | rfl | assumption)) HS ?_; simp only [Act.put, List.setIfInBounds_toArray, List.set_cons_zero, List.set_cons_succ]) | (refine rg_take (i := 7) rfl (by kernel_rfl) (by kernel_rfl) (by kernel_rfl) (Yld.ldo rfl rfl agg22 rfl (by assumption) (by assumption)) HS ?_; simp only [Act.put, List.setIfInBounds_toArray, List.set_cons_zero, List.set_cons_succ])
        refine rg_take (i := 8) rfl (by kernel_rfl) (by kernel_rfl) (by kernel_rfl) (Yld.of rfl (fun W _ => by go_simp; first | done | with_reducible rfl)) HS ?_; simp only [Act.put, List.setIfInBounds_toArray, List.set_cons_zero, List.set_cons_succ]
        refine rg_take (i := 9) rfl (by kernel_rfl) (by kernel_rfl) (by kernel_rfl) (Yld.pick rfl rfl rfl) HS ?_; simp only [Act.put, eval_tmp, eval_const, getD_lit0, getD_lits, if_true, if_false, List.setIfInBounds_toArray, List.set_cons_zero, List.set_cons_succ]
        refine rg_take (i := 10) rfl (by kernel_rfl) (by kernel_rfl) (by kernel_rfl) (Yld.assign rfl rfl) HS ?_; simp only [Act.put, eval_tmp, eval_const, getD_lit0, getD_lits, if_true, if_false, List.setIfInBounds_toArray, List.set_cons_zero, List.set_cons_succ]
        refine rg_done (by kernel_rfl) ?_
        go_wp2_with (first | (with_reducible refine wpl rfl (Stp.box 2 rfl rfl rfl H ?_); clear H; intro g2 w1 H; simp only [Act.put, List.setIfInBounds_toArray, List.set_cons_zero, List.set_cons_succ]; simp only [eval_tmp, eval_const, getD_lit0, getD_lits, cells_agg, cells_int, cells_bool, cells_string, cells_pointer, cells_slice, cells_map, List.setIfInBounds_toArray, List.set_cons_zero, List.set_cons_succ] at H) | (with_reducible refine wpl rfl (Stp.box 3 rfl rfl rfl H ?_); clear H; intro g3 w1 H; simp only [Act.put, List.setIfInBounds_toArray, List.set_cons_zero, List.set_cons_succ]; simp only [eval_tmp, eval_const, getD_lit0, getD_lits, cells_agg, cells_int, cells_bool, cells_string, cells_pointer, cells_slice, cells_map, List.setIfInBounds_toArray, List.set_cons_zero, List.set_cons_succ] at H) | (with_reducible refine wpl rfl (Stp.ldr rfl agg24 size24 rfl H (by repeat (first | exact List.mem_cons_self | apply List.mem_cons_of_mem)) (by first | exact R_size _ | rfl | (simp; done) | assumption) ?_); simp only [Act.put, List.setIfInBounds_toArray, List.set_cons_zero, List.set_cons_succ]) | (with_reducible refine wpl rfl (Stp.ldor rfl agg24 size24 rfl H (by assumption) (by first | exact R_size _ | rfl | (simp; done) | assumption) (by assumption) ?_); simp only [Act.put, List.setIfInBounds_toArray, List.set_cons_zero, List.set_cons_succ]))
        refine rg_begin 11 rfl (S := fun W => St _ _ W _) (by kernel_rfl) H.drew ?_
        replace H := H.drew
        have HS := H
        refine rg_take (i := 0) rfl (by kernel_rfl) (by kernel_rfl) (by kernel_rfl) (Yld.move rfl rfl) HS ?_; simp only [Act.put, eval_tmp, eval_const, getD_lit0, getD_lits, if_true, if_false, List.setIfInBounds_toArray, List.set_cons_zero, List.set_cons_succ]
        refine rg_take (i := 1) rfl (by kernel_rfl) (by kernel_rfl) (by kernel_rfl) (Yld.move rfl rfl) HS ?_; simp only [Act.put, eval_tmp, eval_const, getD_lit0, getD_lits, if_true, if_false, List.setIfInBounds_toArray, List.set_cons_zero, List.set_cons_succ]
        refine rg_take (i := 2) rfl (by kernel_rfl) (by kernel_rfl) (by kernel_rfl) (Yld.skip rfl) HS ?_; simp only [Act.put, List.setIfInBounds_toArray, List.set_cons_zero, List.set_cons_succ]
        refine rg_take (i := 3) rfl (by kernel_rfl) (by kernel_rfl) (by kernel_rfl) (Yld.skip rfl) HS ?_; simp only [Act.put, List.setIfInBounds_toArray, List.set_cons_zero, List.set_cons_succ]
        refine rg_take (i := 4) rfl (by kernel_rfl) (by kernel_rfl) (by kernel_rfl) (Yld.skip rfl) HS ?_; simp only [Act.put, List.setIfInBounds_toArray, List.set_cons_zero, List.set_cons_succ]
        refine rg_take (i := 5) rfl (by kernel_rfl) (by kernel_rfl) (by kernel_rfl) (Yld.skip rfl) HS ?_; simp only [Act.put, List.setIfInBounds_toArray, List.set_cons_zero, List.set_cons_succ]
        refine rg_take (i := 6) rfl (by kernel_rfl) (by kernel_rfl) (by kernel_rfl) (Yld.skip rfl) HS ?_; simp only [Act.put, List.setIfInBounds_toArray, List.set_cons_zero, List.set_cons_succ]
        refine rg_take (i := 7) rfl (by kernel_rfl) (by kernel_rfl) (by kernel_rfl) (Yld.skip rfl) HS ?_; simp only [Act.put, List.setIfInBounds_toArray, List.set_cons_zero, List.set_cons_succ]
        refine rg_take (i := 8) rfl (by kernel_rfl) (by kernel_rfl) (by kernel_rfl) (Yld.skip rfl) HS ?_; simp only [Act.put, List.setIfInBounds_toArray, List.set_cons_zero, List.set_cons_succ]
        refine rg_take (i := 9) rfl (by kernel_rfl) (by kernel_rfl) (by kernel_rfl) (Yld.pick rfl rfl rfl) HS ?_; simp only [Act.put, eval_tmp, eval_const, getD_lit0, getD_lits, if_true, if_false, List.setIfInBounds_toArray, List.set_cons_zero, List.set_cons_succ]
        refine rg_take (i := 10) rfl (by kernel_rfl) (by kernel_rfl) (by kernel_rfl) (Yld.assign rfl rfl) HS ?_; simp only [Act.put, eval_tmp, eval_const, getD_lit0, getD_lits, if_true, if_false, List.setIfInBounds_toArray, List.set_cons_zero, List.set_cons_succ]
        refine rg_done (by kernel_rfl) ?_
        go_wp2_with (first | (with_reducible refine wpl rfl (Stp.box 2 rfl rfl rfl H ?_); clear H; intro g2 w1 H; simp only [Act.put, List.setIfInBounds_toArray, List.set_cons_zero, List.set_cons_succ]; simp only [eval_tmp, eval_const, getD_lit0, getD_lits, cells_agg, cells_int, cells_bool, cells_string, cells_pointer, cells_slice, cells_map, List.setIfInBounds_toArray, List.set_cons_zero, List.set_cons_succ] at H) | (with_reducible refine wpl rfl (Stp.box 3 rfl rfl rfl H ?_); clear H; intro g3 w1 H; simp only [Act.put, List.setIfInBounds_toArray, List.set_cons_zero, List.set_cons_succ]; simp only [eval_tmp, eval_const, getD_lit0, getD_lits, cells_agg, cells_int, cells_bool, cells_string, cells_pointer, cells_slice, cells_map, List.setIfInBounds_toArray, List.set_cons_zero, List.set_cons_succ] at H) | (with_reducible refine wpl rfl (Stp.ldr rfl agg24 size24 rfl H (by repeat (first | exact List.mem_cons_self | apply List.mem_cons_of_mem)) (by first | exact R_size _ | rfl | (simp; done) | assumption) ?_); simp only [Act.put, List.setIfInBounds_toArray, List.set_cons_zero, List.set_cons_succ]) | (with_reducible refine wpl rfl (Stp.ldor rfl agg24 size24 rfl H (by assumption) (by first | exact R_size _ | rfl | (simp; done) | assumption) (by assumption) ?_); simp only [Act.put, List.setIfInBounds_toArray, List.set_cons_zero, List.set_cons_succ]))
        go_roundw
        case rel => exact ⟨k + 1, by omega, by go_num, by rw [HS1.out]; rfl, by rw [HS2.out]; rfl, H⟩
        case measure => simp [intOf]; omega
    · obtain rfl : k = 16 := by omega
      have hk := grown_key a b
      cases hA : allB a b 16 <;> cases hM : anyB a b 16
      all_goals
        rw [hA, hM] at hk
        have HK := Lib.hid hk
        clear hk hA hM
        go_wp2_with (first | (go_at_call 14; refine (grown_ok _ _ _).mono ?_; rintro e w1 ⟨v, rfl, hr⟩; obtain ⟨rfl, hb1⟩ := hr; replace H := H.grow hb1; clear hb1; rw [HK.out]) | (go_at_call 7; refine (awake_ok _).mono ?_; rintro e w1 ⟨v, rfl, hr⟩; obtain ⟨rfl, hb1⟩ := hr; replace H := H.grow hb1; clear hb1) | (with_reducible refine wpl rfl (Stp.box 2 rfl rfl rfl H ?_); clear H; intro g2 w1 H; simp only [Act.put, List.setIfInBounds_toArray, List.set_cons_zero, List.set_cons_succ]; simp only [eval_tmp, eval_const, getD_lit0, getD_lits, cells_agg, cells_int, cells_bool, cells_string, cells_pointer, cells_slice, cells_map, List.setIfInBounds_toArray, List.set_cons_zero, List.set_cons_succ] at H) | (with_reducible refine wpl rfl (Stp.box 3 rfl rfl rfl H ?_); clear H; intro g3 w1 H; simp only [Act.put, List.setIfInBounds_toArray, List.set_cons_zero, List.set_cons_succ]; simp only [eval_tmp, eval_const, getD_lit0, getD_lits, cells_agg, cells_int, cells_bool, cells_string, cells_pointer, cells_slice, cells_map, List.setIfInBounds_toArray, List.set_cons_zero, List.set_cons_succ] at H) | (with_reducible refine wpl rfl (Stp.ldr rfl agg24 size24 rfl H (by repeat (first | exact List.mem_cons_self | apply List.mem_cons_of_mem)) (by first | exact R_size _ | rfl | (simp; done) | assumption) ?_); simp only [Act.put, List.setIfInBounds_toArray, List.set_cons_zero, List.set_cons_succ]) | (with_reducible refine wpl rfl (Stp.ldor rfl agg24 size24 rfl H (by assumption) (by first | exact R_size _ | rfl | (simp; done) | assumption) (by assumption) ?_); simp only [Act.put, List.setIfInBounds_toArray, List.set_cons_zero, List.set_cons_succ]))
        go_ret
        exact ⟨_, rfl, rfl, H.below⟩

/-! ### The row -/
theorem own : ownKnob Try.prog.godebug = none := by kernel_rfl
theorem laidOut : laidOutB Try.prog = true := by kernel_rfl
theorem R_choose {cs : Array Value} (hs : cs.size = 16) (h : ∀ i, i < 16 → ∃ z : Int, cs[i]? = some (.int .u32 z) ∧ 0 ≤ z) : ∃ a : Nat → Int, cs = R a ∧ ∀ i, i < 16 → 0 ≤ a i := by
  have h' : ∀ i, ∃ z : Int, i < 16 → cs[i]? = some (.int .u32 z) ∧ 0 ≤ z := fun i => by
    by_cases hi : i < 16
    · obtain ⟨z, hz⟩ := h i hi; exact ⟨z, fun _ => hz⟩
    · exact ⟨0, fun hn => absurd hn hi⟩
  refine ⟨fun i => Classical.choose (h' i), R_ext hs fun i hi => (Classical.choose_spec (h' i) hi).1, fun i hi => (Classical.choose_spec (h' i) hi).2⟩
theorem open_R {H : Type} {enc : TypeId × Value → H} {W : World} {base : Nat} {v : Value} {d : DataW H} {p : List MemPlace} (hv : Value.okWide Try.prog W .any base 24 v) (h : DataW.Trod enc Try.prog W 0 (fun _ => true) true 24 v d p) :
    ∃ a : Nat → Int, v = .agg (R a) ∧ ∀ i, i < 16 → 0 ≤ a i := by
  have hc : Try.prog.cellsOf 24 = 16 := by kernel_rfl
  have hc1 : Try.prog.cellsOf 22 = 1 := by kernel_rfl
  unfold Value.okWide at hv
  simp only [Try.underlying24] at hv
  obtain ⟨cs, rfl, hs, _⟩ := hv
  obtain ⟨fuel, hf⟩ := h
  obtain ⟨xs, m, _, _, _, hl, hel⟩ := DataW.trod_array Try.underlying24 hf
  rw [hc] at hs
  obtain ⟨a, rfl, ha⟩ := R_choose hs (fun i hi => by
    have hE := hel i hi
    rw [hc1, Nat.mul_one, List.getElem?_eq_getElem (by omega)] at hE
    obtain ⟨z, e1, _, hz⟩ := DataW.trod_int Try.underlying22 hE
    have h0 : (((Value.agg cs).cells.toList.drop i).take 1)[0]? = some (.int .u32 z) := by rw [e1]; rfl
    refine ⟨z, by simpa [cells_agg] using h0, ?_⟩
    have := bounds_u32 hz
    omega)
  exact ⟨a, rfl, ha⟩
set_option maxRecDepth 100000 in
theorem grown_lifted (os : Os) (started : os.Started) (H : Type) (enc : TypeId × Value → H) :
    ReturnsInHanded {} Try.checked os 5 .any (Rows.rumorGrownSpec.pre6 enc Try.prog Try.f5 Rows.rumorGrownRow.domain false) (Rows.rumorGrownSpec.post enc Try.prog Try.f5 false true false false) := by
  refine law_lifted (C := Try.checked) own started (by kernel_rfl) Try.func5 laidOut rfl Try.underlying4 rfl (by kernel_rfl) (fun ds hd => ?_)
    (ChangeSpec.witness6 (enc := enc) (C := Try.checked) false ⟨#[], #[.agg (R fun _ => 0), .agg (R fun _ => 0)], []⟩ 8 (by kernel_rfl) (by kernel_rfl) (by kernel_rfl) (by kernel_rfl)) ?_
  · match ds, hd with
    | [d1, d2], _ => exact ⟨rfl, rfl, rfl⟩
  intro W base args ds p hval hA
  rw [Try.params5] at hA hval
  obtain ⟨v0, vs0, d0, ds0, p0, q0, hargs, rfl, rfl, h0, r0⟩ := trodAll_cons hA
  obtain ⟨v1, vs1, d1, ds1, p1, q1, rfl, rfl, rfl, h1, r1⟩ := trodAll_cons r0
  obtain ⟨rfl, rfl, rfl⟩ := trodAll_nil r1
  obtain rfl : args = #[v0, v1] := by cases args; simp_all
  obtain ⟨a, rfl, ha⟩ := open_R (hval 0 24 v0 rfl rfl) h0
  obtain ⟨b, rfl, hb⟩ := open_R (hval 1 24 v1 rfl rfl) h1
  exact law_grown a b W
theorem grown_over : Rows.rumorGrownRow.holds Try.pinned (OpenSpec.ofChange Rows.rumorGrownSpec) :=
  OpenClaim.holds_of_wide 5 Try.f5 rfl rfl rfl rfl rfl rfl rfl ⟨rfl, rfl, rfl, rfl, rfl⟩ rfl rfl rfl rfl rfl (by kernel_rfl) Try.func5 (by kernel_rfl)
    (of_decide_eq_true (by kernel_rfl)) (by unfold Func.isWrapper; first | (rw [if_pos (by decide +kernel)]; kernel_rfl) | (rw [if_neg (by decide +kernel)]; exact ⟨rfl, rfl⟩))
    (fun os started H enc _ => grown_lifted os started H enc)
theorem grown_holds : Rows.RumorGrownSaid := grown_over
#print axioms grown_holds
end Go.Proofs.Ytmgamjlebcnmiaa
