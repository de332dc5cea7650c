/- The statement MaskRanks of layer 5 (mask), proved; no condition: the law's walk, and the row round it. -/
import Derived.Test.YtcgogcolfbpcfaaMask8
namespace Go.Proofs.Ytcgogcolfbpcfaa
open Go.ChangeShapes Go.WideShapes Go.ChangeAt Go.RowKit Go.Deep
set_option linter.unusedVariables false
set_option linter.unusedSimpArgs false
attribute [local irreducible] pop low mn hasM BA numF
attribute [local go_sem] equalIn_M eqg_M
set_option maxRecDepth 100000 in
set_option maxHeartbeats 4000000 in
theorem law_near (a b : Nat) (r0 : Int) (ha : a < 18446744073709551616) (hb : b < 18446744073709551616) (w : World) :
    Calls Try.prog 4 #[.agg #[.int .u64 (a : Int), .int .u64 (b : Int)], .int .i64 r0, .bool true] w (Ret fun v w' => v = .bool true ∧ Below w.heap.size w w') := by
  have H := St.init w
  have la := Lib.hid ha
  have lb := Lib.hid hb
  clear ha hb
  go_enter Try.func4, Try.ntmps4
  go_wp2_with (first | (go_at_call 13; refine (pick_130 _ _).mono ?_; rintro e w1 ⟨v, rfl, hr⟩; obtain ⟨k, hk, rfl, hb1⟩ := hr; replace H := H.grow hb1; clear hb1) | (with_reducible refine wpl rfl (Stp.box 3 rfl rfl rfl H ?_); clear H; intro g3 w1 H; simp only [Act.put, List.setIfInBounds_toArray, List.set_cons_zero, List.set_cons_succ]; simp only [eval_tmp, eval_const, getD_lit0, getD_lits, cells_agg, cells_int, cells_bool, cells_string, cells_pointer, cells_slice, cells_map, List.setIfInBounds_toArray, List.set_cons_zero, List.set_cons_succ] at H) | (with_reducible refine wpl rfl (Stp.stc rfl size4 rfl rfl rfl rfl H (by repeat (first | exact Upd.head | apply Upd.tail)) (by first | (rw [BA_size]; omega) | omega | (simp; done) | (simp; omega)) ?_); clear H; intro w1 H; simp only [Act.put, List.setIfInBounds_toArray, List.set_cons_zero, List.set_cons_succ]; simp only [eval_tmp, eval_const, getD_lit0, getD_lits, cells_agg, cells_int, cells_bool, cells_string, cells_pointer, cells_slice, cells_map, List.setIfInBounds_toArray, List.set_cons_zero, List.set_cons_succ] at H))
  generalize (k : Int) - 1 = r
  obtain ⟨x, c, d, c', d', hf⟩ := fits a b r la.out lb.out
  have HX := Lib.hid hf.has
  have HW := Lib.hid hf.set
  have HO := Lib.hid hf.uns
  by_cases hr : r < 0 ∨ 128 ≤ r
  · obtain ⟨hn, hn2⟩ := hf.no hr
    have FC := Lib.hid hn
    have FD := Lib.hid hn2
    clear hn hn2 hf
    have hrd : (decide (0 ≤ r) && decide (r < 128)) = false := by
      rcases hr with h | h
      · rw [decide_eq_false (by omega : ¬ 0 ≤ r)]; rfl
      · rw [decide_eq_false (by omega : ¬ r < 128), Bool.and_false]
    rcases Int.lt_or_le r 0 with hneg | hneg
    · have hge : ¬ 0 ≤ r := by omega
      refine cut (fun a0 a' w' => ∃ g7 g8, a' = ((((((a0.put (some 13) (.agg #[.int .u64 (a : Int), .int .u64 (b : Int)])).put (some 14) (.agg (BA fun i => hasM (a, b) (i : Int)))).put (some 15) (.agg #[.int .u64 (a : Int), .int .u64 (b : Int)])).put (some 16) (.agg (BA fun i => hasM (a, b) (i : Int)))).put (some 7) (.pointer (some ⟨g7, 0, none⟩))).put (some 8) (.pointer (some ⟨g8, 0, none⟩))) ∧ St w.heap.size w w' [row 32 g8 (BA fun i => hasM (a, b) (i : Int)), row 32 g7 (BA fun i => hasM (a, b) (i : Int)), row 24 g3 #[.int .u64 (a : Int), .int .u64 (b : Int)]]) ?_ ?_
      · refine rg_begin 8 rfl (S := fun W => St _ _ W _) (by kernel_rfl) H.drew ?_
        replace H := H.drew
        have HS := H
        first | (refine rg_take (i := 0) rfl (by kernel_rfl) (by kernel_rfl) (by kernel_rfl) (Yld.ldr rfl rfl agg24 size24 rfl (by repeat (first | exact List.mem_cons_self | apply List.mem_cons_of_mem)) (by first | exact BA_size _ | rfl | (simp; done) | assumption)) (H.sub (by repeat (first | exact List.Sublist.refl _ | apply List.Sublist.cons))) ?_; simp only [Act.put, List.setIfInBounds_toArray, List.set_cons_zero, List.set_cons_succ]) | (refine rg_take (i := 0) rfl (by kernel_rfl) (by kernel_rfl) (by kernel_rfl) (Yld.ldor rfl rfl agg24 size24 rfl (by assumption) (by first | exact BA_size _ | rfl | (simp; done) | assumption) (by assumption)) (H.sub (by repeat (first | exact List.Sublist.refl _ | apply List.Sublist.cons))) ?_; simp only [Act.put, List.setIfInBounds_toArray, List.set_cons_zero, List.set_cons_succ])
        first | (refine rg_take (i := 2) rfl (by kernel_rfl) (by kernel_rfl) (by kernel_rfl) (Yld.ldr rfl rfl agg24 size24 rfl (by repeat (first | exact List.mem_cons_self | apply List.mem_cons_of_mem)) (by first | exact BA_size _ | rfl | (simp; done) | assumption)) (H.sub (by repeat (first | exact List.Sublist.refl _ | apply List.Sublist.cons))) ?_; simp only [Act.put, List.setIfInBounds_toArray, List.set_cons_zero, List.set_cons_succ]) | (refine rg_take (i := 2) rfl (by kernel_rfl) (by kernel_rfl) (by kernel_rfl) (Yld.ldor rfl rfl agg24 size24 rfl (by assumption) (by first | exact BA_size _ | rfl | (simp; done) | assumption) (by assumption)) (H.sub (by repeat (first | exact List.Sublist.refl _ | apply List.Sublist.cons))) ?_; simp only [Act.put, List.setIfInBounds_toArray, List.set_cons_zero, List.set_cons_succ])
        refine rg_all (rs := [1, 4, 5]) (by kernel_rfl) (by simp) ?_
        refine rg_cons (i := 1) rfl rfl (fun K hK => ?_) ?_
        · -- 1
          refine wp_callf rfl ent14 (flags_ok a b la.out lb.out _) rfl (fun v w1 hr => ?_)
          obtain ⟨rfl, hb1⟩ := hr
          replace H := H.grow hb1
          clear hb1
          clear HS
          have HS := H
          refine hK.out _ _ (H.sub (by repeat (first | exact List.Sublist.refl _ | apply List.Sublist.cons))) ?_
          clear hK K
          simp only [Act.put, List.setIfInBounds_toArray, List.set_cons_zero, List.set_cons_succ]
          refine rg_all (rs := [3, 4, 5]) (by kernel_rfl) (by simp) ?_
          refine rg_cons (i := 3) rfl rfl (fun K hK => ?_) ?_
          · -- 3
            refine wp_callf rfl ent14 (flags_ok a b la.out lb.out _) rfl (fun v w1 hr => ?_)
            obtain ⟨rfl, hb1⟩ := hr
            replace H := H.grow hb1
            clear hb1
            clear HS
            have HS := H
            refine hK.out _ _ (H.sub (by repeat (first | exact List.Sublist.refl _ | apply List.Sublist.cons))) ?_
            clear hK K
            simp only [Act.put, List.setIfInBounds_toArray, List.set_cons_zero, List.set_cons_succ]
            refine rg_all (rs := [4, 5]) (by kernel_rfl) (by simp) ?_
            refine rg_cons (i := 4) rfl rfl (fun K hK => ?_) ?_
            · -- 4
              refine Stp.wp (Stp.alloc 7 rfl rfl zeroBA H ?_)
              clear H
              intro g7 w1 H
              simp only [cells_agg] at H
              clear HS
              have HS := H
              refine hK.out _ _ (H.sub (by repeat (first | exact List.Sublist.refl _ | apply List.Sublist.cons))) ?_
              clear hK K
              simp only [Act.put, List.setIfInBounds_toArray, List.set_cons_zero, List.set_cons_succ]
              refine rg_one (i := 5) (by kernel_rfl) rfl rfl (fun K hK => ?_)
              refine Stp.wp (Stp.alloc 8 rfl rfl zeroBA H ?_)
              clear H
              intro g8 w1 H
              simp only [cells_agg] at H
              clear HS
              have HS := H
              refine hK.out _ _ (H.sub (by repeat (first | exact List.Sublist.refl _ | apply List.Sublist.cons))) ?_
              clear hK K
              simp only [Act.put, List.setIfInBounds_toArray, List.set_cons_zero, List.set_cons_succ]
              refine rg_one (i := 6) (by kernel_rfl) rfl rfl (fun K hK => ?_)
              refine Stp.wp (Stp.str rfl size32 rfl rfl (BA_one _) H (by repeat (first | exact Upd.head | apply Upd.tail)) (BA_size _) (BA_size _) ?_)
              clear H
              intro w1 H
              clear HS
              have HS := H
              refine hK.out _ _ (H.sub (by repeat (first | exact List.Sublist.refl _ | apply List.Sublist.cons))) ?_
              clear hK K
              simp only [Act.put, List.setIfInBounds_toArray, List.set_cons_zero, List.set_cons_succ]
              refine rg_one (i := 7) (by kernel_rfl) rfl rfl (fun K hK => ?_)
              refine Stp.wp (Stp.str rfl size32 rfl rfl (BA_one _) H (by repeat (first | exact Upd.head | apply Upd.tail)) (BA_size _) (BA_size _) ?_)
              clear H
              intro w1 H
              clear HS
              have HS := H
              refine hK.out _ _ (H.sub (by repeat (first | exact List.Sublist.refl _ | apply List.Sublist.cons))) ?_
              clear hK K
              simp only [Act.put, List.setIfInBounds_toArray, List.set_cons_zero, List.set_cons_succ]
              refine rg_done (by kernel_rfl) ?_
              exact ⟨rfl, g7, g8, by simp only [Act.put, List.setIfInBounds_toArray, List.set_cons_zero, List.set_cons_succ], by first | exact H | exact H.swap⟩
            refine rg_cons (i := 5) rfl rfl (fun K hK => ?_) ?_
            · -- 5
              refine Stp.wp (Stp.alloc 8 rfl rfl zeroBA H ?_)
              clear H
              intro g8 w1 H
              simp only [cells_agg] at H
              clear HS
              have HS := H
              refine hK.out _ _ (H.sub (by repeat (first | exact List.Sublist.refl _ | apply List.Sublist.cons))) ?_
              clear hK K
              simp only [Act.put, List.setIfInBounds_toArray, List.set_cons_zero, List.set_cons_succ]
              refine rg_one (i := 4) (by kernel_rfl) rfl rfl (fun K hK => ?_)
              refine Stp.wp (Stp.alloc 7 rfl rfl zeroBA H ?_)
              clear H
              intro g7 w1 H
              simp only [cells_agg] at H
              clear HS
              have HS := H
              refine hK.out _ _ (H.sub (by repeat (first | exact List.Sublist.refl _ | apply List.Sublist.cons))) ?_
              clear hK K
              simp only [Act.put, List.setIfInBounds_toArray, List.set_cons_zero, List.set_cons_succ]
              refine rg_one (i := 6) (by kernel_rfl) rfl rfl (fun K hK => ?_)
              refine Stp.wp (Stp.str rfl size32 rfl rfl (BA_one _) H (by repeat (first | exact Upd.head | apply Upd.tail)) (BA_size _) (BA_size _) ?_)
              clear H
              intro w1 H
              clear HS
              have HS := H
              refine hK.out _ _ (H.sub (by repeat (first | exact List.Sublist.refl _ | apply List.Sublist.cons))) ?_
              clear hK K
              simp only [Act.put, List.setIfInBounds_toArray, List.set_cons_zero, List.set_cons_succ]
              refine rg_one (i := 7) (by kernel_rfl) rfl rfl (fun K hK => ?_)
              refine Stp.wp (Stp.str rfl size32 rfl rfl (BA_one _) H (by repeat (first | exact Upd.head | apply Upd.tail)) (BA_size _) (BA_size _) ?_)
              clear H
              intro w1 H
              clear HS
              have HS := H
              refine hK.out _ _ (H.sub (by repeat (first | exact List.Sublist.refl _ | apply List.Sublist.cons))) ?_
              clear hK K
              simp only [Act.put, List.setIfInBounds_toArray, List.set_cons_zero, List.set_cons_succ]
              refine rg_done (by kernel_rfl) ?_
              exact ⟨rfl, g7, g8, by simp only [Act.put, List.setIfInBounds_toArray, List.set_cons_zero, List.set_cons_succ], by first | exact H | exact H.swap⟩
            exact AllReadyH.nil
          refine rg_cons (i := 4) rfl rfl (fun K hK => ?_) ?_
          · -- 4
            refine Stp.wp (Stp.alloc 7 rfl rfl zeroBA H ?_)
            clear H
            intro g7 w1 H
            simp only [cells_agg] at H
            clear HS
            have HS := H
            refine hK.out _ _ (H.sub (by repeat (first | exact List.Sublist.refl _ | apply List.Sublist.cons))) ?_
            clear hK K
            simp only [Act.put, List.setIfInBounds_toArray, List.set_cons_zero, List.set_cons_succ]
            refine rg_all (rs := [3, 5]) (by kernel_rfl) (by simp) ?_
            refine rg_cons (i := 3) rfl rfl (fun K hK => ?_) ?_
            · -- 3
              refine wp_callf rfl ent14 (flags_ok a b la.out lb.out _) rfl (fun v w1 hr => ?_)
              obtain ⟨rfl, hb1⟩ := hr
              replace H := H.grow hb1
              clear hb1
              clear HS
              have HS := H
              refine hK.out _ _ (H.sub (by repeat (first | exact List.Sublist.refl _ | apply List.Sublist.cons))) ?_
              clear hK K
              simp only [Act.put, List.setIfInBounds_toArray, List.set_cons_zero, List.set_cons_succ]
              refine rg_one (i := 5) (by kernel_rfl) rfl rfl (fun K hK => ?_)
              refine Stp.wp (Stp.alloc 8 rfl rfl zeroBA H ?_)
              clear H
              intro g8 w1 H
              simp only [cells_agg] at H
              clear HS
              have HS := H
              refine hK.out _ _ (H.sub (by repeat (first | exact List.Sublist.refl _ | apply List.Sublist.cons))) ?_
              clear hK K
              simp only [Act.put, List.setIfInBounds_toArray, List.set_cons_zero, List.set_cons_succ]
              refine rg_one (i := 6) (by kernel_rfl) rfl rfl (fun K hK => ?_)
              refine Stp.wp (Stp.str rfl size32 rfl rfl (BA_one _) H (by repeat (first | exact Upd.head | apply Upd.tail)) (BA_size _) (BA_size _) ?_)
              clear H
              intro w1 H
              clear HS
              have HS := H
              refine hK.out _ _ (H.sub (by repeat (first | exact List.Sublist.refl _ | apply List.Sublist.cons))) ?_
              clear hK K
              simp only [Act.put, List.setIfInBounds_toArray, List.set_cons_zero, List.set_cons_succ]
              refine rg_one (i := 7) (by kernel_rfl) rfl rfl (fun K hK => ?_)
              refine Stp.wp (Stp.str rfl size32 rfl rfl (BA_one _) H (by repeat (first | exact Upd.head | apply Upd.tail)) (BA_size _) (BA_size _) ?_)
              clear H
              intro w1 H
              clear HS
              have HS := H
              refine hK.out _ _ (H.sub (by repeat (first | exact List.Sublist.refl _ | apply List.Sublist.cons))) ?_
              clear hK K
              simp only [Act.put, List.setIfInBounds_toArray, List.set_cons_zero, List.set_cons_succ]
              refine rg_done (by kernel_rfl) ?_
              exact ⟨rfl, g7, g8, by simp only [Act.put, List.setIfInBounds_toArray, List.set_cons_zero, List.set_cons_succ], by first | exact H | exact H.swap⟩
            refine rg_cons (i := 5) rfl rfl (fun K hK => ?_) ?_
            · -- 5
              refine Stp.wp (Stp.alloc 8 rfl rfl zeroBA H ?_)
              clear H
              intro g8 w1 H
              simp only [cells_agg] at H
              clear HS
              have HS := H
              refine hK.out _ _ (H.sub (by repeat (first | exact List.Sublist.refl _ | apply List.Sublist.cons))) ?_
              clear hK K
              simp only [Act.put, List.setIfInBounds_toArray, List.set_cons_zero, List.set_cons_succ]
              refine rg_one (i := 3) (by kernel_rfl) rfl rfl (fun K hK => ?_)
              refine wp_callf rfl ent14 (flags_ok a b la.out lb.out _) rfl (fun v w1 hr => ?_)
              obtain ⟨rfl, hb1⟩ := hr
              replace H := H.grow hb1
              clear hb1
              clear HS
              have HS := H
              refine hK.out _ _ (H.sub (by repeat (first | exact List.Sublist.refl _ | apply List.Sublist.cons))) ?_
              clear hK K
              simp only [Act.put, List.setIfInBounds_toArray, List.set_cons_zero, List.set_cons_succ]
              refine rg_one (i := 6) (by kernel_rfl) rfl rfl (fun K hK => ?_)
              refine Stp.wp (Stp.str rfl size32 rfl rfl (BA_one _) H (by repeat (first | exact Upd.head | apply Upd.tail)) (BA_size _) (BA_size _) ?_)
              clear H
              intro w1 H
              clear HS
              have HS := H
              refine hK.out _ _ (H.sub (by repeat (first | exact List.Sublist.refl _ | apply List.Sublist.cons))) ?_
              clear hK K
              simp only [Act.put, List.setIfInBounds_toArray, List.set_cons_zero, List.set_cons_succ]
              refine rg_one (i := 7) (by kernel_rfl) rfl rfl (fun K hK => ?_)
              refine Stp.wp (Stp.str rfl size32 rfl rfl (BA_one _) H (by repeat (first | exact Upd.head | apply Upd.tail)) (BA_size _) (BA_size _) ?_)
              clear H
              intro w1 H
              clear HS
              have HS := H
              refine hK.out _ _ (H.sub (by repeat (first | exact List.Sublist.refl _ | apply List.Sublist.cons))) ?_
              clear hK K
              simp only [Act.put, List.setIfInBounds_toArray, List.set_cons_zero, List.set_cons_succ]
              refine rg_done (by kernel_rfl) ?_
              exact ⟨rfl, g7, g8, by simp only [Act.put, List.setIfInBounds_toArray, List.set_cons_zero, List.set_cons_succ], by first | exact H | exact H.swap⟩
            exact AllReadyH.nil
          refine rg_cons (i := 5) rfl rfl (fun K hK => ?_) ?_
          · -- 5
            refine Stp.wp (Stp.alloc 8 rfl rfl zeroBA H ?_)
            clear H
            intro g8 w1 H
            simp only [cells_agg] at H
            clear HS
            have HS := H
            refine hK.out _ _ (H.sub (by repeat (first | exact List.Sublist.refl _ | apply List.Sublist.cons))) ?_
            clear hK K
            simp only [Act.put, List.setIfInBounds_toArray, List.set_cons_zero, List.set_cons_succ]
            refine rg_all (rs := [3, 4]) (by kernel_rfl) (by simp) ?_
            refine rg_cons (i := 3) rfl rfl (fun K hK => ?_) ?_
            · -- 3
              refine wp_callf rfl ent14 (flags_ok a b la.out lb.out _) rfl (fun v w1 hr => ?_)
              obtain ⟨rfl, hb1⟩ := hr
              replace H := H.grow hb1
              clear hb1
              clear HS
              have HS := H
              refine hK.out _ _ (H.sub (by repeat (first | exact List.Sublist.refl _ | apply List.Sublist.cons))) ?_
              clear hK K
              simp only [Act.put, List.setIfInBounds_toArray, List.set_cons_zero, List.set_cons_succ]
              refine rg_one (i := 4) (by kernel_rfl) rfl rfl (fun K hK => ?_)
              refine Stp.wp (Stp.alloc 7 rfl rfl zeroBA H ?_)
              clear H
              intro g7 w1 H
              simp only [cells_agg] at H
              clear HS
              have HS := H
              refine hK.out _ _ (H.sub (by repeat (first | exact List.Sublist.refl _ | apply List.Sublist.cons))) ?_
              clear hK K
              simp only [Act.put, List.setIfInBounds_toArray, List.set_cons_zero, List.set_cons_succ]
              refine rg_one (i := 6) (by kernel_rfl) rfl rfl (fun K hK => ?_)
              refine Stp.wp (Stp.str rfl size32 rfl rfl (BA_one _) H (by repeat (first | exact Upd.head | apply Upd.tail)) (BA_size _) (BA_size _) ?_)
              clear H
              intro w1 H
              clear HS
              have HS := H
              refine hK.out _ _ (H.sub (by repeat (first | exact List.Sublist.refl _ | apply List.Sublist.cons))) ?_
              clear hK K
              simp only [Act.put, List.setIfInBounds_toArray, List.set_cons_zero, List.set_cons_succ]
              refine rg_one (i := 7) (by kernel_rfl) rfl rfl (fun K hK => ?_)
              refine Stp.wp (Stp.str rfl size32 rfl rfl (BA_one _) H (by repeat (first | exact Upd.head | apply Upd.tail)) (BA_size _) (BA_size _) ?_)
              clear H
              intro w1 H
              clear HS
              have HS := H
              refine hK.out _ _ (H.sub (by repeat (first | exact List.Sublist.refl _ | apply List.Sublist.cons))) ?_
              clear hK K
              simp only [Act.put, List.setIfInBounds_toArray, List.set_cons_zero, List.set_cons_succ]
              refine rg_done (by kernel_rfl) ?_
              exact ⟨rfl, g7, g8, by simp only [Act.put, List.setIfInBounds_toArray, List.set_cons_zero, List.set_cons_succ], by first | exact H | exact H.swap⟩
            refine rg_cons (i := 4) rfl rfl (fun K hK => ?_) ?_
            · -- 4
              refine Stp.wp (Stp.alloc 7 rfl rfl zeroBA H ?_)
              clear H
              intro g7 w1 H
              simp only [cells_agg] at H
              clear HS
              have HS := H
              refine hK.out _ _ (H.sub (by repeat (first | exact List.Sublist.refl _ | apply List.Sublist.cons))) ?_
              clear hK K
              simp only [Act.put, List.setIfInBounds_toArray, List.set_cons_zero, List.set_cons_succ]
              refine rg_one (i := 3) (by kernel_rfl) rfl rfl (fun K hK => ?_)
              refine wp_callf rfl ent14 (flags_ok a b la.out lb.out _) rfl (fun v w1 hr => ?_)
              obtain ⟨rfl, hb1⟩ := hr
              replace H := H.grow hb1
              clear hb1
              clear HS
              have HS := H
              refine hK.out _ _ (H.sub (by repeat (first | exact List.Sublist.refl _ | apply List.Sublist.cons))) ?_
              clear hK K
              simp only [Act.put, List.setIfInBounds_toArray, List.set_cons_zero, List.set_cons_succ]
              refine rg_one (i := 6) (by kernel_rfl) rfl rfl (fun K hK => ?_)
              refine Stp.wp (Stp.str rfl size32 rfl rfl (BA_one _) H (by repeat (first | exact Upd.head | apply Upd.tail)) (BA_size _) (BA_size _) ?_)
              clear H
              intro w1 H
              clear HS
              have HS := H
              refine hK.out _ _ (H.sub (by repeat (first | exact List.Sublist.refl _ | apply List.Sublist.cons))) ?_
              clear hK K
              simp only [Act.put, List.setIfInBounds_toArray, List.set_cons_zero, List.set_cons_succ]
              refine rg_one (i := 7) (by kernel_rfl) rfl rfl (fun K hK => ?_)
              refine Stp.wp (Stp.str rfl size32 rfl rfl (BA_one _) H (by repeat (first | exact Upd.head | apply Upd.tail)) (BA_size _) (BA_size _) ?_)
              clear H
              intro w1 H
              clear HS
              have HS := H
              refine hK.out _ _ (H.sub (by repeat (first | exact List.Sublist.refl _ | apply List.Sublist.cons))) ?_
              clear hK K
              simp only [Act.put, List.setIfInBounds_toArray, List.set_cons_zero, List.set_cons_succ]
              refine rg_done (by kernel_rfl) ?_
              exact ⟨rfl, g7, g8, by simp only [Act.put, List.setIfInBounds_toArray, List.set_cons_zero, List.set_cons_succ], by first | exact H | exact H.swap⟩
            exact AllReadyH.nil
          exact AllReadyH.nil
        refine rg_cons (i := 4) rfl rfl (fun K hK => ?_) ?_
        · -- 4
          refine Stp.wp (Stp.alloc 7 rfl rfl zeroBA H ?_)
          clear H
          intro g7 w1 H
          simp only [cells_agg] at H
          clear HS
          have HS := H
          refine hK.out _ _ (H.sub (by repeat (first | exact List.Sublist.refl _ | apply List.Sublist.cons))) ?_
          clear hK K
          simp only [Act.put, List.setIfInBounds_toArray, List.set_cons_zero, List.set_cons_succ]
          refine rg_all (rs := [1, 5]) (by kernel_rfl) (by simp) ?_
          refine rg_cons (i := 1) rfl rfl (fun K hK => ?_) ?_
          · -- 1
            refine wp_callf rfl ent14 (flags_ok a b la.out lb.out _) rfl (fun v w1 hr => ?_)
            obtain ⟨rfl, hb1⟩ := hr
            replace H := H.grow hb1
            clear hb1
            clear HS
            have HS := H
            refine hK.out _ _ (H.sub (by repeat (first | exact List.Sublist.refl _ | apply List.Sublist.cons))) ?_
            clear hK K
            simp only [Act.put, List.setIfInBounds_toArray, List.set_cons_zero, List.set_cons_succ]
            refine rg_all (rs := [3, 5]) (by kernel_rfl) (by simp) ?_
            refine rg_cons (i := 3) rfl rfl (fun K hK => ?_) ?_
            · -- 3
              refine wp_callf rfl ent14 (flags_ok a b la.out lb.out _) rfl (fun v w1 hr => ?_)
              obtain ⟨rfl, hb1⟩ := hr
              replace H := H.grow hb1
              clear hb1
              clear HS
              have HS := H
              refine hK.out _ _ (H.sub (by repeat (first | exact List.Sublist.refl _ | apply List.Sublist.cons))) ?_
              clear hK K
              simp only [Act.put, List.setIfInBounds_toArray, List.set_cons_zero, List.set_cons_succ]
              refine rg_one (i := 5) (by kernel_rfl) rfl rfl (fun K hK => ?_)
              refine Stp.wp (Stp.alloc 8 rfl rfl zeroBA H ?_)
              clear H
              intro g8 w1 H
              simp only [cells_agg] at H
              clear HS
              have HS := H
              refine hK.out _ _ (H.sub (by repeat (first | exact List.Sublist.refl _ | apply List.Sublist.cons))) ?_
              clear hK K
              simp only [Act.put, List.setIfInBounds_toArray, List.set_cons_zero, List.set_cons_succ]
              refine rg_one (i := 6) (by kernel_rfl) rfl rfl (fun K hK => ?_)
              refine Stp.wp (Stp.str rfl size32 rfl rfl (BA_one _) H (by repeat (first | exact Upd.head | apply Upd.tail)) (BA_size _) (BA_size _) ?_)
              clear H
              intro w1 H
              clear HS
              have HS := H
              refine hK.out _ _ (H.sub (by repeat (first | exact List.Sublist.refl _ | apply List.Sublist.cons))) ?_
              clear hK K
              simp only [Act.put, List.setIfInBounds_toArray, List.set_cons_zero, List.set_cons_succ]
              refine rg_one (i := 7) (by kernel_rfl) rfl rfl (fun K hK => ?_)
              refine Stp.wp (Stp.str rfl size32 rfl rfl (BA_one _) H (by repeat (first | exact Upd.head | apply Upd.tail)) (BA_size _) (BA_size _) ?_)
              clear H
              intro w1 H
              clear HS
              have HS := H
              refine hK.out _ _ (H.sub (by repeat (first | exact List.Sublist.refl _ | apply List.Sublist.cons))) ?_
              clear hK K
              simp only [Act.put, List.setIfInBounds_toArray, List.set_cons_zero, List.set_cons_succ]
              refine rg_done (by kernel_rfl) ?_
              exact ⟨rfl, g7, g8, by simp only [Act.put, List.setIfInBounds_toArray, List.set_cons_zero, List.set_cons_succ], by first | exact H | exact H.swap⟩
            refine rg_cons (i := 5) rfl rfl (fun K hK => ?_) ?_
            · -- 5
              refine Stp.wp (Stp.alloc 8 rfl rfl zeroBA H ?_)
              clear H
              intro g8 w1 H
              simp only [cells_agg] at H
              clear HS
              have HS := H
              refine hK.out _ _ (H.sub (by repeat (first | exact List.Sublist.refl _ | apply List.Sublist.cons))) ?_
              clear hK K
              simp only [Act.put, List.setIfInBounds_toArray, List.set_cons_zero, List.set_cons_succ]
              refine rg_one (i := 3) (by kernel_rfl) rfl rfl (fun K hK => ?_)
              refine wp_callf rfl ent14 (flags_ok a b la.out lb.out _) rfl (fun v w1 hr => ?_)
              obtain ⟨rfl, hb1⟩ := hr
              replace H := H.grow hb1
              clear hb1
              clear HS
              have HS := H
              refine hK.out _ _ (H.sub (by repeat (first | exact List.Sublist.refl _ | apply List.Sublist.cons))) ?_
              clear hK K
              simp only [Act.put, List.setIfInBounds_toArray, List.set_cons_zero, List.set_cons_succ]
              refine rg_one (i := 6) (by kernel_rfl) rfl rfl (fun K hK => ?_)
              refine Stp.wp (Stp.str rfl size32 rfl rfl (BA_one _) H (by repeat (first | exact Upd.head | apply Upd.tail)) (BA_size _) (BA_size _) ?_)
              clear H
              intro w1 H
              clear HS
              have HS := H
              refine hK.out _ _ (H.sub (by repeat (first | exact List.Sublist.refl _ | apply List.Sublist.cons))) ?_
              clear hK K
              simp only [Act.put, List.setIfInBounds_toArray, List.set_cons_zero, List.set_cons_succ]
              refine rg_one (i := 7) (by kernel_rfl) rfl rfl (fun K hK => ?_)
              refine Stp.wp (Stp.str rfl size32 rfl rfl (BA_one _) H (by repeat (first | exact Upd.head | apply Upd.tail)) (BA_size _) (BA_size _) ?_)
              clear H
              intro w1 H
              clear HS
              have HS := H
              refine hK.out _ _ (H.sub (by repeat (first | exact List.Sublist.refl _ | apply List.Sublist.cons))) ?_
              clear hK K
              simp only [Act.put, List.setIfInBounds_toArray, List.set_cons_zero, List.set_cons_succ]
              refine rg_done (by kernel_rfl) ?_
              exact ⟨rfl, g7, g8, by simp only [Act.put, List.setIfInBounds_toArray, List.set_cons_zero, List.set_cons_succ], by first | exact H | exact H.swap⟩
            exact AllReadyH.nil
          refine rg_cons (i := 5) rfl rfl (fun K hK => ?_) ?_
          · -- 5
            refine Stp.wp (Stp.alloc 8 rfl rfl zeroBA H ?_)
            clear H
            intro g8 w1 H
            simp only [cells_agg] at H
            clear HS
            have HS := H
            refine hK.out _ _ (H.sub (by repeat (first | exact List.Sublist.refl _ | apply List.Sublist.cons))) ?_
            clear hK K
            simp only [Act.put, List.setIfInBounds_toArray, List.set_cons_zero, List.set_cons_succ]
            refine rg_one (i := 1) (by kernel_rfl) rfl rfl (fun K hK => ?_)
            refine wp_callf rfl ent14 (flags_ok a b la.out lb.out _) rfl (fun v w1 hr => ?_)
            obtain ⟨rfl, hb1⟩ := hr
            replace H := H.grow hb1
            clear hb1
            clear HS
            have HS := H
            refine hK.out _ _ (H.sub (by repeat (first | exact List.Sublist.refl _ | apply List.Sublist.cons))) ?_
            clear hK K
            simp only [Act.put, List.setIfInBounds_toArray, List.set_cons_zero, List.set_cons_succ]
            refine rg_one (i := 3) (by kernel_rfl) rfl rfl (fun K hK => ?_)
            refine wp_callf rfl ent14 (flags_ok a b la.out lb.out _) rfl (fun v w1 hr => ?_)
            obtain ⟨rfl, hb1⟩ := hr
            replace H := H.grow hb1
            clear hb1
            clear HS
            have HS := H
            refine hK.out _ _ (H.sub (by repeat (first | exact List.Sublist.refl _ | apply List.Sublist.cons))) ?_
            clear hK K
            simp only [Act.put, List.setIfInBounds_toArray, List.set_cons_zero, List.set_cons_succ]
            refine rg_one (i := 6) (by kernel_rfl) rfl rfl (fun K hK => ?_)
            refine Stp.wp (Stp.str rfl size32 rfl rfl (BA_one _) H (by repeat (first | exact Upd.head | apply Upd.tail)) (BA_size _) (BA_size _) ?_)
            clear H
            intro w1 H
            clear HS
            have HS := H
            refine hK.out _ _ (H.sub (by repeat (first | exact List.Sublist.refl _ | apply List.Sublist.cons))) ?_
            clear hK K
            simp only [Act.put, List.setIfInBounds_toArray, List.set_cons_zero, List.set_cons_succ]
            refine rg_one (i := 7) (by kernel_rfl) rfl rfl (fun K hK => ?_)
            refine Stp.wp (Stp.str rfl size32 rfl rfl (BA_one _) H (by repeat (first | exact Upd.head | apply Upd.tail)) (BA_size _) (BA_size _) ?_)
            clear H
            intro w1 H
            clear HS
            have HS := H
            refine hK.out _ _ (H.sub (by repeat (first | exact List.Sublist.refl _ | apply List.Sublist.cons))) ?_
            clear hK K
            simp only [Act.put, List.setIfInBounds_toArray, List.set_cons_zero, List.set_cons_succ]
            refine rg_done (by kernel_rfl) ?_
            exact ⟨rfl, g7, g8, by simp only [Act.put, List.setIfInBounds_toArray, List.set_cons_zero, List.set_cons_succ], by first | exact H | exact H.swap⟩
          exact AllReadyH.nil
        refine rg_cons (i := 5) rfl rfl (fun K hK => ?_) ?_
        · -- 5
          refine Stp.wp (Stp.alloc 8 rfl rfl zeroBA H ?_)
          clear H
          intro g8 w1 H
          simp only [cells_agg] at H
          clear HS
          have HS := H
          refine hK.out _ _ (H.sub (by repeat (first | exact List.Sublist.refl _ | apply List.Sublist.cons))) ?_
          clear hK K
          simp only [Act.put, List.setIfInBounds_toArray, List.set_cons_zero, List.set_cons_succ]
          refine rg_all (rs := [1, 4]) (by kernel_rfl) (by simp) ?_
          refine rg_cons (i := 1) rfl rfl (fun K hK => ?_) ?_
          · -- 1
            refine wp_callf rfl ent14 (flags_ok a b la.out lb.out _) rfl (fun v w1 hr => ?_)
            obtain ⟨rfl, hb1⟩ := hr
            replace H := H.grow hb1
            clear hb1
            clear HS
            have HS := H
            refine hK.out _ _ (H.sub (by repeat (first | exact List.Sublist.refl _ | apply List.Sublist.cons))) ?_
            clear hK K
            simp only [Act.put, List.setIfInBounds_toArray, List.set_cons_zero, List.set_cons_succ]
            refine rg_all (rs := [3, 4]) (by kernel_rfl) (by simp) ?_
            refine rg_cons (i := 3) rfl rfl (fun K hK => ?_) ?_
            · -- 3
              refine wp_callf rfl ent14 (flags_ok a b la.out lb.out _) rfl (fun v w1 hr => ?_)
              obtain ⟨rfl, hb1⟩ := hr
              replace H := H.grow hb1
              clear hb1
              clear HS
              have HS := H
              refine hK.out _ _ (H.sub (by repeat (first | exact List.Sublist.refl _ | apply List.Sublist.cons))) ?_
              clear hK K
              simp only [Act.put, List.setIfInBounds_toArray, List.set_cons_zero, List.set_cons_succ]
              refine rg_one (i := 4) (by kernel_rfl) rfl rfl (fun K hK => ?_)
              refine Stp.wp (Stp.alloc 7 rfl rfl zeroBA H ?_)
              clear H
              intro g7 w1 H
              simp only [cells_agg] at H
              clear HS
              have HS := H
              refine hK.out _ _ (H.sub (by repeat (first | exact List.Sublist.refl _ | apply List.Sublist.cons))) ?_
              clear hK K
              simp only [Act.put, List.setIfInBounds_toArray, List.set_cons_zero, List.set_cons_succ]
              refine rg_one (i := 6) (by kernel_rfl) rfl rfl (fun K hK => ?_)
              refine Stp.wp (Stp.str rfl size32 rfl rfl (BA_one _) H (by repeat (first | exact Upd.head | apply Upd.tail)) (BA_size _) (BA_size _) ?_)
              clear H
              intro w1 H
              clear HS
              have HS := H
              refine hK.out _ _ (H.sub (by repeat (first | exact List.Sublist.refl _ | apply List.Sublist.cons))) ?_
              clear hK K
              simp only [Act.put, List.setIfInBounds_toArray, List.set_cons_zero, List.set_cons_succ]
              refine rg_one (i := 7) (by kernel_rfl) rfl rfl (fun K hK => ?_)
              refine Stp.wp (Stp.str rfl size32 rfl rfl (BA_one _) H (by repeat (first | exact Upd.head | apply Upd.tail)) (BA_size _) (BA_size _) ?_)
              clear H
              intro w1 H
              clear HS
              have HS := H
              refine hK.out _ _ (H.sub (by repeat (first | exact List.Sublist.refl _ | apply List.Sublist.cons))) ?_
              clear hK K
              simp only [Act.put, List.setIfInBounds_toArray, List.set_cons_zero, List.set_cons_succ]
              refine rg_done (by kernel_rfl) ?_
              exact ⟨rfl, g7, g8, by simp only [Act.put, List.setIfInBounds_toArray, List.set_cons_zero, List.set_cons_succ], by first | exact H | exact H.swap⟩
            refine rg_cons (i := 4) rfl rfl (fun K hK => ?_) ?_
            · -- 4
              refine Stp.wp (Stp.alloc 7 rfl rfl zeroBA H ?_)
              clear H
              intro g7 w1 H
              simp only [cells_agg] at H
              clear HS
              have HS := H
              refine hK.out _ _ (H.sub (by repeat (first | exact List.Sublist.refl _ | apply List.Sublist.cons))) ?_
              clear hK K
              simp only [Act.put, List.setIfInBounds_toArray, List.set_cons_zero, List.set_cons_succ]
              refine rg_one (i := 3) (by kernel_rfl) rfl rfl (fun K hK => ?_)
              refine wp_callf rfl ent14 (flags_ok a b la.out lb.out _) rfl (fun v w1 hr => ?_)
              obtain ⟨rfl, hb1⟩ := hr
              replace H := H.grow hb1
              clear hb1
              clear HS
              have HS := H
              refine hK.out _ _ (H.sub (by repeat (first | exact List.Sublist.refl _ | apply List.Sublist.cons))) ?_
              clear hK K
              simp only [Act.put, List.setIfInBounds_toArray, List.set_cons_zero, List.set_cons_succ]
              refine rg_one (i := 6) (by kernel_rfl) rfl rfl (fun K hK => ?_)
              refine Stp.wp (Stp.str rfl size32 rfl rfl (BA_one _) H (by repeat (first | exact Upd.head | apply Upd.tail)) (BA_size _) (BA_size _) ?_)
              clear H
              intro w1 H
              clear HS
              have HS := H
              refine hK.out _ _ (H.sub (by repeat (first | exact List.Sublist.refl _ | apply List.Sublist.cons))) ?_
              clear hK K
              simp only [Act.put, List.setIfInBounds_toArray, List.set_cons_zero, List.set_cons_succ]
              refine rg_one (i := 7) (by kernel_rfl) rfl rfl (fun K hK => ?_)
              refine Stp.wp (Stp.str rfl size32 rfl rfl (BA_one _) H (by repeat (first | exact Upd.head | apply Upd.tail)) (BA_size _) (BA_size _) ?_)
              clear H
              intro w1 H
              clear HS
              have HS := H
              refine hK.out _ _ (H.sub (by repeat (first | exact List.Sublist.refl _ | apply List.Sublist.cons))) ?_
              clear hK K
              simp only [Act.put, List.setIfInBounds_toArray, List.set_cons_zero, List.set_cons_succ]
              refine rg_done (by kernel_rfl) ?_
              exact ⟨rfl, g7, g8, by simp only [Act.put, List.setIfInBounds_toArray, List.set_cons_zero, List.set_cons_succ], by first | exact H | exact H.swap⟩
            exact AllReadyH.nil
          refine rg_cons (i := 4) rfl rfl (fun K hK => ?_) ?_
          · -- 4
            refine Stp.wp (Stp.alloc 7 rfl rfl zeroBA H ?_)
            clear H
            intro g7 w1 H
            simp only [cells_agg] at H
            clear HS
            have HS := H
            refine hK.out _ _ (H.sub (by repeat (first | exact List.Sublist.refl _ | apply List.Sublist.cons))) ?_
            clear hK K
            simp only [Act.put, List.setIfInBounds_toArray, List.set_cons_zero, List.set_cons_succ]
            refine rg_one (i := 1) (by kernel_rfl) rfl rfl (fun K hK => ?_)
            refine wp_callf rfl ent14 (flags_ok a b la.out lb.out _) rfl (fun v w1 hr => ?_)
            obtain ⟨rfl, hb1⟩ := hr
            replace H := H.grow hb1
            clear hb1
            clear HS
            have HS := H
            refine hK.out _ _ (H.sub (by repeat (first | exact List.Sublist.refl _ | apply List.Sublist.cons))) ?_
            clear hK K
            simp only [Act.put, List.setIfInBounds_toArray, List.set_cons_zero, List.set_cons_succ]
            refine rg_one (i := 3) (by kernel_rfl) rfl rfl (fun K hK => ?_)
            refine wp_callf rfl ent14 (flags_ok a b la.out lb.out _) rfl (fun v w1 hr => ?_)
            obtain ⟨rfl, hb1⟩ := hr
            replace H := H.grow hb1
            clear hb1
            clear HS
            have HS := H
            refine hK.out _ _ (H.sub (by repeat (first | exact List.Sublist.refl _ | apply List.Sublist.cons))) ?_
            clear hK K
            simp only [Act.put, List.setIfInBounds_toArray, List.set_cons_zero, List.set_cons_succ]
            refine rg_one (i := 6) (by kernel_rfl) rfl rfl (fun K hK => ?_)
            refine Stp.wp (Stp.str rfl size32 rfl rfl (BA_one _) H (by repeat (first | exact Upd.head | apply Upd.tail)) (BA_size _) (BA_size _) ?_)
            clear H
            intro w1 H
            clear HS
            have HS := H
            refine hK.out _ _ (H.sub (by repeat (first | exact List.Sublist.refl _ | apply List.Sublist.cons))) ?_
            clear hK K
            simp only [Act.put, List.setIfInBounds_toArray, List.set_cons_zero, List.set_cons_succ]
            refine rg_one (i := 7) (by kernel_rfl) rfl rfl (fun K hK => ?_)
            refine Stp.wp (Stp.str rfl size32 rfl rfl (BA_one _) H (by repeat (first | exact Upd.head | apply Upd.tail)) (BA_size _) (BA_size _) ?_)
            clear H
            intro w1 H
            clear HS
            have HS := H
            refine hK.out _ _ (H.sub (by repeat (first | exact List.Sublist.refl _ | apply List.Sublist.cons))) ?_
            clear hK K
            simp only [Act.put, List.setIfInBounds_toArray, List.set_cons_zero, List.set_cons_succ]
            refine rg_done (by kernel_rfl) ?_
            exact ⟨rfl, g7, g8, by simp only [Act.put, List.setIfInBounds_toArray, List.set_cons_zero, List.set_cons_succ], by first | exact H | exact H.swap⟩
          exact AllReadyH.nil
        exact AllReadyH.nil
      rintro a' w' ⟨g7, g8, rfl, H⟩
      simp only [Act.put, List.setIfInBounds_toArray, List.set_cons_zero, List.set_cons_succ]
      go_wp2_with (first | (with_reducible refine wpl rfl (Stp.box 3 rfl rfl rfl H ?_); clear H; intro g3 w1 H; simp only [Act.put, List.setIfInBounds_toArray, List.set_cons_zero, List.set_cons_succ]; simp only [eval_tmp, eval_const, getD_lit0, getD_lits, cells_agg, cells_int, cells_bool, cells_string, cells_pointer, cells_slice, cells_map, List.setIfInBounds_toArray, List.set_cons_zero, List.set_cons_succ] at H) | (with_reducible refine wpl rfl (Stp.stc rfl size4 rfl rfl rfl rfl H (by repeat (first | exact Upd.head | apply Upd.tail)) (by first | (rw [BA_size]; omega) | omega | (simp; done) | (simp; omega)) ?_); clear H; intro w1 H; simp only [Act.put, List.setIfInBounds_toArray, List.set_cons_zero, List.set_cons_succ]; simp only [eval_tmp, eval_const, getD_lit0, getD_lits, cells_agg, cells_int, cells_bool, cells_string, cells_pointer, cells_slice, cells_map, List.setIfInBounds_toArray, List.set_cons_zero, List.set_cons_succ] at H))
      refine rg_begin 27 rfl (S := fun W => St _ _ W _) (by kernel_rfl) H.drew ?_
      replace H := H.drew
      have HS := H
      first | (refine rg_take (i := 0) rfl (by kernel_rfl) (by kernel_rfl) (by kernel_rfl) (Yld.ldr rfl rfl agg24 size24 rfl (by repeat (first | exact List.mem_cons_self | apply List.mem_cons_of_mem)) (by first | exact BA_size _ | rfl | (simp; done) | assumption)) HS ?_; simp only [Act.put, List.setIfInBounds_toArray, List.set_cons_zero, List.set_cons_succ]) | (refine rg_take (i := 0) rfl (by kernel_rfl) (by kernel_rfl) (by kernel_rfl) (Yld.ldor rfl rfl agg24 size24 rfl (by assumption) (by first | exact BA_size _ | rfl | (simp; done) | assumption) (by assumption)) HS ?_; simp only [Act.put, List.setIfInBounds_toArray, List.set_cons_zero, List.set_cons_succ])
      refine rg_take (i := 1) rfl (by kernel_rfl) (by kernel_rfl) (by kernel_rfl) (Yld.move rfl rfl) HS ?_; simp only [Act.put, eval_tmp, eval_const, getD_lit0, getD_lits, if_true, if_false, List.setIfInBounds_toArray, List.set_cons_zero, List.set_cons_succ]
      first | (refine rg_take (i := 3) rfl (by kernel_rfl) (by kernel_rfl) (by kernel_rfl) (Yld.ldr rfl rfl agg24 size24 rfl (by repeat (first | exact List.mem_cons_self | apply List.mem_cons_of_mem)) (by first | exact BA_size _ | rfl | (simp; done) | assumption)) HS ?_; simp only [Act.put, List.setIfInBounds_toArray, List.set_cons_zero, List.set_cons_succ]) | (refine rg_take (i := 3) rfl (by kernel_rfl) (by kernel_rfl) (by kernel_rfl) (Yld.ldor rfl rfl agg24 size24 rfl (by assumption) (by first | exact BA_size _ | rfl | (simp; done) | assumption) (by assumption)) HS ?_; simp only [Act.put, List.setIfInBounds_toArray, List.set_cons_zero, List.set_cons_succ])
      refine rg_take (i := 4) rfl (by kernel_rfl) (by kernel_rfl) (by kernel_rfl) (Yld.move rfl rfl) HS ?_; simp only [Act.put, eval_tmp, eval_const, getD_lit0, getD_lits, if_true, if_false, List.setIfInBounds_toArray, List.set_cons_zero, List.set_cons_succ]
      refine rg_one (i := 2) (by kernel_rfl) rfl rfl (fun K hK => ?_)
      refine wp_callf rfl ent15 (has_ok a b (r) la.out lb.out x HX.out _) rfl (fun v w1 hr => ?_)
      obtain ⟨rfl, hb1⟩ := hr
      replace H := H.grow hb1
      clear hb1
      clear HS
      have HS := H
      refine hK.out _ _ HS ?_
      clear hK K
      simp only [Act.put, List.setIfInBounds_toArray, List.set_cons_zero, List.set_cons_succ]
      refine rg_one (i := 5) (by kernel_rfl) rfl rfl (fun K hK => ?_)
      refine wp_callf rfl ent16 (set_ok a b (r) la.out lb.out x HX.out _) rfl (fun v w1 hr => ?_)
      obtain ⟨rfl, hb1⟩ := hr
      replace H := H.grow hb1
      clear hb1
      clear HS
      have HS := H
      refine hK.out _ _ HS ?_
      clear hK K
      simp only [Act.put, List.setIfInBounds_toArray, List.set_cons_zero, List.set_cons_succ]
      refine rg_take (i := 6) rfl (by kernel_rfl) (by kernel_rfl) (by kernel_rfl) (Yld.of rfl (fun W _ => by go_simp; first | done | with_reducible rfl)) HS ?_; simp only [Act.put, List.setIfInBounds_toArray, List.set_cons_zero, List.set_cons_succ]
      refine rg_take (i := 7) rfl (by kernel_rfl) (by kernel_rfl) (by kernel_rfl) (Yld.move rfl rfl) HS ?_; simp only [Act.put, eval_tmp, eval_const, getD_lit0, getD_lits, if_true, if_false, List.setIfInBounds_toArray, List.set_cons_zero, List.set_cons_succ]
      first | (refine rg_take (i := 8) rfl (by kernel_rfl) (by kernel_rfl) (by kernel_rfl) (Yld.ldr rfl rfl agg24 size24 rfl (by repeat (first | exact List.mem_cons_self | apply List.mem_cons_of_mem)) (by first | exact BA_size _ | rfl | (simp; done) | assumption)) HS ?_; simp only [Act.put, List.setIfInBounds_toArray, List.set_cons_zero, List.set_cons_succ]) | (refine rg_take (i := 8) rfl (by kernel_rfl) (by kernel_rfl) (by kernel_rfl) (Yld.ldor rfl rfl agg24 size24 rfl (by assumption) (by first | exact BA_size _ | rfl | (simp; done) | assumption) (by assumption)) HS ?_; simp only [Act.put, List.setIfInBounds_toArray, List.set_cons_zero, List.set_cons_succ])
      refine rg_take (i := 9) rfl (by kernel_rfl) (by kernel_rfl) (by kernel_rfl) (Yld.move rfl rfl) HS ?_; simp only [Act.put, eval_tmp, eval_const, getD_lit0, getD_lits, if_true, if_false, List.setIfInBounds_toArray, List.set_cons_zero, List.set_cons_succ]
      first | (refine rg_take (i := 11) rfl (by kernel_rfl) (by kernel_rfl) (by kernel_rfl) (Yld.ldr rfl rfl agg32 size32 rfl (by repeat (first | exact List.mem_cons_self | apply List.mem_cons_of_mem)) (by first | exact BA_size _ | rfl | (simp; done) | assumption)) HS ?_; simp only [Act.put, List.setIfInBounds_toArray, List.set_cons_zero, List.set_cons_succ]) | (refine rg_take (i := 11) rfl (by kernel_rfl) (by kernel_rfl) (by kernel_rfl) (Yld.ldor rfl rfl agg32 size32 rfl (by assumption) (by first | exact BA_size _ | rfl | (simp; done) | assumption) (by assumption)) HS ?_; simp only [Act.put, List.setIfInBounds_toArray, List.set_cons_zero, List.set_cons_succ])
      refine rg_one (i := 10) (by kernel_rfl) rfl rfl (fun K hK => ?_)
      refine wp_callf rfl ent17 (with_ok a b (r) la.out lb.out c d HW.out _) rfl (fun v w1 hr => ?_)
      obtain ⟨rfl, hb1⟩ := hr
      replace H := H.grow hb1
      clear hb1
      clear HS
      have HS := H
      refine hK.out _ _ HS ?_
      clear hK K
      simp only [Act.put, List.setIfInBounds_toArray, List.set_cons_zero, List.set_cons_succ]
      refine rg_one (i := 12) (by kernel_rfl) rfl rfl (fun K hK => ?_)
      refine wp_callf rfl ent18 (rof_ok (fun i => hasM (a, b) (i : Int)) c d FC.out.1 FC.out.2 _) rfl (fun v w1 hr => ?_)
      obtain ⟨rfl, hb1⟩ := hr
      replace H := H.grow hb1
      clear hb1
      clear HS
      have HS := H
      refine hK.out _ _ HS ?_
      clear hK K
      simp only [Act.put, List.setIfInBounds_toArray, List.set_cons_zero, List.set_cons_succ]
      refine rg_take (i := 13) rfl (by kernel_rfl) (by kernel_rfl) (by kernel_rfl) (Yld.of rfl (fun W _ => by go_simp; first | done | with_reducible rfl)) HS ?_; simp only [Act.put, List.setIfInBounds_toArray, List.set_cons_zero, List.set_cons_succ]
      refine rg_take (i := 14) rfl (by kernel_rfl) (by kernel_rfl) (by kernel_rfl) (Yld.pick rfl rfl rfl) HS ?_; simp only [Act.put, eval_tmp, eval_const, getD_lit0, getD_lits, if_true, if_false, List.setIfInBounds_toArray, List.set_cons_zero, List.set_cons_succ]
      refine rg_take (i := 15) rfl (by kernel_rfl) (by kernel_rfl) (by kernel_rfl) (Yld.move rfl rfl) HS ?_; simp only [Act.put, eval_tmp, eval_const, getD_lit0, getD_lits, if_true, if_false, List.setIfInBounds_toArray, List.set_cons_zero, List.set_cons_succ]
      first | (refine rg_take (i := 16) rfl (by kernel_rfl) (by kernel_rfl) (by kernel_rfl) (Yld.ldr rfl rfl agg24 size24 rfl (by repeat (first | exact List.mem_cons_self | apply List.mem_cons_of_mem)) (by first | exact BA_size _ | rfl | (simp; done) | assumption)) HS ?_; simp only [Act.put, List.setIfInBounds_toArray, List.set_cons_zero, List.set_cons_succ]) | (refine rg_take (i := 16) rfl (by kernel_rfl) (by kernel_rfl) (by kernel_rfl) (Yld.ldor rfl rfl agg24 size24 rfl (by assumption) (by first | exact BA_size _ | rfl | (simp; done) | assumption) (by assumption)) HS ?_; simp only [Act.put, List.setIfInBounds_toArray, List.set_cons_zero, List.set_cons_succ])
      refine rg_take (i := 17) rfl (by kernel_rfl) (by kernel_rfl) (by kernel_rfl) (Yld.move rfl rfl) HS ?_; simp only [Act.put, eval_tmp, eval_const, getD_lit0, getD_lits, if_true, if_false, List.setIfInBounds_toArray, List.set_cons_zero, List.set_cons_succ]
      first | (refine rg_take (i := 19) rfl (by kernel_rfl) (by kernel_rfl) (by kernel_rfl) (Yld.ldr rfl rfl agg32 size32 rfl (by repeat (first | exact List.mem_cons_self | apply List.mem_cons_of_mem)) (by first | exact BA_size _ | rfl | (simp; done) | assumption)) HS ?_; simp only [Act.put, List.setIfInBounds_toArray, List.set_cons_zero, List.set_cons_succ]) | (refine rg_take (i := 19) rfl (by kernel_rfl) (by kernel_rfl) (by kernel_rfl) (Yld.ldor rfl rfl agg32 size32 rfl (by assumption) (by first | exact BA_size _ | rfl | (simp; done) | assumption) (by assumption)) HS ?_; simp only [Act.put, List.setIfInBounds_toArray, List.set_cons_zero, List.set_cons_succ])
      refine rg_one (i := 18) (by kernel_rfl) rfl rfl (fun K hK => ?_)
      refine wp_callf rfl ent19 (without_ok a b (r) la.out lb.out c' d' HO.out _) rfl (fun v w1 hr => ?_)
      obtain ⟨rfl, hb1⟩ := hr
      replace H := H.grow hb1
      clear hb1
      clear HS
      have HS := H
      refine hK.out _ _ HS ?_
      clear hK K
      simp only [Act.put, List.setIfInBounds_toArray, List.set_cons_zero, List.set_cons_succ]
      refine rg_one (i := 20) (by kernel_rfl) rfl rfl (fun K hK => ?_)
      refine wp_callf rfl ent18 (rof_ok (fun i => hasM (a, b) (i : Int)) c' d' FD.out.1 FD.out.2 _) rfl (fun v w1 hr => ?_)
      obtain ⟨rfl, hb1⟩ := hr
      replace H := H.grow hb1
      clear hb1
      clear HS
      have HS := H
      refine hK.out _ _ HS ?_
      clear hK K
      simp only [Act.put, List.setIfInBounds_toArray, List.set_cons_zero, List.set_cons_succ]
      refine rg_take (i := 21) rfl (by kernel_rfl) (by kernel_rfl) (by kernel_rfl) (Yld.of rfl (fun W _ => by go_simp; first | done | with_reducible rfl)) HS ?_; simp only [Act.put, List.setIfInBounds_toArray, List.set_cons_zero, List.set_cons_succ]
      refine rg_take (i := 22) rfl (by kernel_rfl) (by kernel_rfl) (by kernel_rfl) (Yld.pick rfl rfl rfl) HS ?_; simp only [Act.put, eval_tmp, eval_const, getD_lit0, getD_lits, if_true, if_false, List.setIfInBounds_toArray, List.set_cons_zero, List.set_cons_succ]
      refine rg_take (i := 23) rfl (by kernel_rfl) (by kernel_rfl) (by kernel_rfl) (Yld.move rfl rfl) HS ?_; simp only [Act.put, eval_tmp, eval_const, getD_lit0, getD_lits, if_true, if_false, List.setIfInBounds_toArray, List.set_cons_zero, List.set_cons_succ]
      refine rg_one (i := 24) (by kernel_rfl) rfl rfl (fun K hK => ?_)
      refine wp_callf rfl ent9 (awake_ok _) rfl (fun v w1 hr => ?_)
      obtain ⟨rfl, hb1⟩ := hr
      replace H := H.grow hb1
      clear hb1
      clear HS
      have HS := H
      refine hK.out _ _ HS ?_
      clear hK K
      simp only [Act.put, List.setIfInBounds_toArray, List.set_cons_zero, List.set_cons_succ]
      refine rg_take (i := 25) rfl (by kernel_rfl) (by kernel_rfl) (by kernel_rfl) (Yld.pick rfl rfl rfl) HS ?_; simp only [Act.put, eval_tmp, eval_const, getD_lit0, getD_lits, if_true, if_false, List.setIfInBounds_toArray, List.set_cons_zero, List.set_cons_succ]
      refine rg_take (i := 26) rfl (by kernel_rfl) (by kernel_rfl) (by kernel_rfl) (Yld.assign rfl rfl) HS ?_; simp only [Act.put, eval_tmp, eval_const, getD_lit0, getD_lits, if_true, if_false, List.setIfInBounds_toArray, List.set_cons_zero, List.set_cons_succ]
      refine rg_done (by kernel_rfl) ?_
      go_wp2
      go_ret
      exact ⟨_, rfl, rfl, H.below⟩
    · have hlt : ¬ r < 128 := by omega
      refine cut (fun a0 a' w' => ∃ g7 g8, a' = ((((((a0.put (some 13) (.agg #[.int .u64 (a : Int), .int .u64 (b : Int)])).put (some 14) (.agg (BA fun i => hasM (a, b) (i : Int)))).put (some 15) (.agg #[.int .u64 (a : Int), .int .u64 (b : Int)])).put (some 16) (.agg (BA fun i => hasM (a, b) (i : Int)))).put (some 7) (.pointer (some ⟨g7, 0, none⟩))).put (some 8) (.pointer (some ⟨g8, 0, none⟩))) ∧ St w.heap.size w w' [row 32 g8 (BA fun i => hasM (a, b) (i : Int)), row 32 g7 (BA fun i => hasM (a, b) (i : Int)), row 24 g3 #[.int .u64 (a : Int), .int .u64 (b : Int)]]) ?_ ?_
      · refine rg_begin 8 rfl (S := fun W => St _ _ W _) (by kernel_rfl) H.drew ?_
        replace H := H.drew
        have HS := H
        first | (refine rg_take (i := 0) rfl (by kernel_rfl) (by kernel_rfl) (by kernel_rfl) (Yld.ldr rfl rfl agg24 size24 rfl (by repeat (first | exact List.mem_cons_self | apply List.mem_cons_of_mem)) (by first | exact BA_size _ | rfl | (simp; done) | assumption)) (H.sub (by repeat (first | exact List.Sublist.refl _ | apply List.Sublist.cons))) ?_; simp only [Act.put, List.setIfInBounds_toArray, List.set_cons_zero, List.set_cons_succ]) | (refine rg_take (i := 0) rfl (by kernel_rfl) (by kernel_rfl) (by kernel_rfl) (Yld.ldor rfl rfl agg24 size24 rfl (by assumption) (by first | exact BA_size _ | rfl | (simp; done) | assumption) (by assumption)) (H.sub (by repeat (first | exact List.Sublist.refl _ | apply List.Sublist.cons))) ?_; simp only [Act.put, List.setIfInBounds_toArray, List.set_cons_zero, List.set_cons_succ])
        first | (refine rg_take (i := 2) rfl (by kernel_rfl) (by kernel_rfl) (by kernel_rfl) (Yld.ldr rfl rfl agg24 size24 rfl (by repeat (first | exact List.mem_cons_self | apply List.mem_cons_of_mem)) (by first | exact BA_size _ | rfl | (simp; done) | assumption)) (H.sub (by repeat (first | exact List.Sublist.refl _ | apply List.Sublist.cons))) ?_; simp only [Act.put, List.setIfInBounds_toArray, List.set_cons_zero, List.set_cons_succ]) | (refine rg_take (i := 2) rfl (by kernel_rfl) (by kernel_rfl) (by kernel_rfl) (Yld.ldor rfl rfl agg24 size24 rfl (by assumption) (by first | exact BA_size _ | rfl | (simp; done) | assumption) (by assumption)) (H.sub (by repeat (first | exact List.Sublist.refl _ | apply List.Sublist.cons))) ?_; simp only [Act.put, List.setIfInBounds_toArray, List.set_cons_zero, List.set_cons_succ])
        refine rg_all (rs := [1, 4, 5]) (by kernel_rfl) (by simp) ?_
        refine rg_cons (i := 1) rfl rfl (fun K hK => ?_) ?_
        · -- 1
          refine wp_callf rfl ent14 (flags_ok a b la.out lb.out _) rfl (fun v w1 hr => ?_)
          obtain ⟨rfl, hb1⟩ := hr
          replace H := H.grow hb1
          clear hb1
          clear HS
          have HS := H
          refine hK.out _ _ (H.sub (by repeat (first | exact List.Sublist.refl _ | apply List.Sublist.cons))) ?_
          clear hK K
          simp only [Act.put, List.setIfInBounds_toArray, List.set_cons_zero, List.set_cons_succ]
          refine rg_all (rs := [3, 4, 5]) (by kernel_rfl) (by simp) ?_
          refine rg_cons (i := 3) rfl rfl (fun K hK => ?_) ?_
          · -- 3
            refine wp_callf rfl ent14 (flags_ok a b la.out lb.out _) rfl (fun v w1 hr => ?_)
            obtain ⟨rfl, hb1⟩ := hr
            replace H := H.grow hb1
            clear hb1
            clear HS
            have HS := H
            refine hK.out _ _ (H.sub (by repeat (first | exact List.Sublist.refl _ | apply List.Sublist.cons))) ?_
            clear hK K
            simp only [Act.put, List.setIfInBounds_toArray, List.set_cons_zero, List.set_cons_succ]
            refine rg_all (rs := [4, 5]) (by kernel_rfl) (by simp) ?_
            refine rg_cons (i := 4) rfl rfl (fun K hK => ?_) ?_
            · -- 4
              refine Stp.wp (Stp.alloc 7 rfl rfl zeroBA H ?_)
              clear H
              intro g7 w1 H
              simp only [cells_agg] at H
              clear HS
              have HS := H
              refine hK.out _ _ (H.sub (by repeat (first | exact List.Sublist.refl _ | apply List.Sublist.cons))) ?_
              clear hK K
              simp only [Act.put, List.setIfInBounds_toArray, List.set_cons_zero, List.set_cons_succ]
              refine rg_one (i := 5) (by kernel_rfl) rfl rfl (fun K hK => ?_)
              refine Stp.wp (Stp.alloc 8 rfl rfl zeroBA H ?_)
              clear H
              intro g8 w1 H
              simp only [cells_agg] at H
              clear HS
              have HS := H
              refine hK.out _ _ (H.sub (by repeat (first | exact List.Sublist.refl _ | apply List.Sublist.cons))) ?_
              clear hK K
              simp only [Act.put, List.setIfInBounds_toArray, List.set_cons_zero, List.set_cons_succ]
              refine rg_one (i := 6) (by kernel_rfl) rfl rfl (fun K hK => ?_)
              refine Stp.wp (Stp.str rfl size32 rfl rfl (BA_one _) H (by repeat (first | exact Upd.head | apply Upd.tail)) (BA_size _) (BA_size _) ?_)
              clear H
              intro w1 H
              clear HS
              have HS := H
              refine hK.out _ _ (H.sub (by repeat (first | exact List.Sublist.refl _ | apply List.Sublist.cons))) ?_
              clear hK K
              simp only [Act.put, List.setIfInBounds_toArray, List.set_cons_zero, List.set_cons_succ]
              refine rg_one (i := 7) (by kernel_rfl) rfl rfl (fun K hK => ?_)
              refine Stp.wp (Stp.str rfl size32 rfl rfl (BA_one _) H (by repeat (first | exact Upd.head | apply Upd.tail)) (BA_size _) (BA_size _) ?_)
              clear H
              intro w1 H
              clear HS
              have HS := H
              refine hK.out _ _ (H.sub (by repeat (first | exact List.Sublist.refl _ | apply List.Sublist.cons))) ?_
              clear hK K
              simp only [Act.put, List.setIfInBounds_toArray, List.set_cons_zero, List.set_cons_succ]
              refine rg_done (by kernel_rfl) ?_
              exact ⟨rfl, g7, g8, by simp only [Act.put, List.setIfInBounds_toArray, List.set_cons_zero, List.set_cons_succ], by first | exact H | exact H.swap⟩
            refine rg_cons (i := 5) rfl rfl (fun K hK => ?_) ?_
            · -- 5
              refine Stp.wp (Stp.alloc 8 rfl rfl zeroBA H ?_)
              clear H
              intro g8 w1 H
              simp only [cells_agg] at H
              clear HS
              have HS := H
              refine hK.out _ _ (H.sub (by repeat (first | exact List.Sublist.refl _ | apply List.Sublist.cons))) ?_
              clear hK K
              simp only [Act.put, List.setIfInBounds_toArray, List.set_cons_zero, List.set_cons_succ]
              refine rg_one (i := 4) (by kernel_rfl) rfl rfl (fun K hK => ?_)
              refine Stp.wp (Stp.alloc 7 rfl rfl zeroBA H ?_)
              clear H
              intro g7 w1 H
              simp only [cells_agg] at H
              clear HS
              have HS := H
              refine hK.out _ _ (H.sub (by repeat (first | exact List.Sublist.refl _ | apply List.Sublist.cons))) ?_
              clear hK K
              simp only [Act.put, List.setIfInBounds_toArray, List.set_cons_zero, List.set_cons_succ]
              refine rg_one (i := 6) (by kernel_rfl) rfl rfl (fun K hK => ?_)
              refine Stp.wp (Stp.str rfl size32 rfl rfl (BA_one _) H (by repeat (first | exact Upd.head | apply Upd.tail)) (BA_size _) (BA_size _) ?_)
              clear H
              intro w1 H
              clear HS
              have HS := H
              refine hK.out _ _ (H.sub (by repeat (first | exact List.Sublist.refl _ | apply List.Sublist.cons))) ?_
              clear hK K
              simp only [Act.put, List.setIfInBounds_toArray, List.set_cons_zero, List.set_cons_succ]
              refine rg_one (i := 7) (by kernel_rfl) rfl rfl (fun K hK => ?_)
              refine Stp.wp (Stp.str rfl size32 rfl rfl (BA_one _) H (by repeat (first | exact Upd.head | apply Upd.tail)) (BA_size _) (BA_size _) ?_)
              clear H
              intro w1 H
              clear HS
              have HS := H
              refine hK.out _ _ (H.sub (by repeat (first | exact List.Sublist.refl _ | apply List.Sublist.cons))) ?_
              clear hK K
              simp only [Act.put, List.setIfInBounds_toArray, List.set_cons_zero, List.set_cons_succ]
              refine rg_done (by kernel_rfl) ?_
              exact ⟨rfl, g7, g8, by simp only [Act.put, List.setIfInBounds_toArray, List.set_cons_zero, List.set_cons_succ], by first | exact H | exact H.swap⟩
            exact AllReadyH.nil
          refine rg_cons (i := 4) rfl rfl (fun K hK => ?_) ?_
          · -- 4
            refine Stp.wp (Stp.alloc 7 rfl rfl zeroBA H ?_)
            clear H
            intro g7 w1 H
            simp only [cells_agg] at H
            clear HS
            have HS := H
            refine hK.out _ _ (H.sub (by repeat (first | exact List.Sublist.refl _ | apply List.Sublist.cons))) ?_
            clear hK K
            simp only [Act.put, List.setIfInBounds_toArray, List.set_cons_zero, List.set_cons_succ]
            refine rg_all (rs := [3, 5]) (by kernel_rfl) (by simp) ?_
            refine rg_cons (i := 3) rfl rfl (fun K hK => ?_) ?_
            · -- 3
              refine wp_callf rfl ent14 (flags_ok a b la.out lb.out _) rfl (fun v w1 hr => ?_)
              obtain ⟨rfl, hb1⟩ := hr
              replace H := H.grow hb1
              clear hb1
              clear HS
              have HS := H
              refine hK.out _ _ (H.sub (by repeat (first | exact List.Sublist.refl _ | apply List.Sublist.cons))) ?_
              clear hK K
              simp only [Act.put, List.setIfInBounds_toArray, List.set_cons_zero, List.set_cons_succ]
              refine rg_one (i := 5) (by kernel_rfl) rfl rfl (fun K hK => ?_)
              refine Stp.wp (Stp.alloc 8 rfl rfl zeroBA H ?_)
              clear H
              intro g8 w1 H
              simp only [cells_agg] at H
              clear HS
              have HS := H
              refine hK.out _ _ (H.sub (by repeat (first | exact List.Sublist.refl _ | apply List.Sublist.cons))) ?_
              clear hK K
              simp only [Act.put, List.setIfInBounds_toArray, List.set_cons_zero, List.set_cons_succ]
              refine rg_one (i := 6) (by kernel_rfl) rfl rfl (fun K hK => ?_)
              refine Stp.wp (Stp.str rfl size32 rfl rfl (BA_one _) H (by repeat (first | exact Upd.head | apply Upd.tail)) (BA_size _) (BA_size _) ?_)
              clear H
              intro w1 H
              clear HS
              have HS := H
              refine hK.out _ _ (H.sub (by repeat (first | exact List.Sublist.refl _ | apply List.Sublist.cons))) ?_
              clear hK K
              simp only [Act.put, List.setIfInBounds_toArray, List.set_cons_zero, List.set_cons_succ]
              refine rg_one (i := 7) (by kernel_rfl) rfl rfl (fun K hK => ?_)
              refine Stp.wp (Stp.str rfl size32 rfl rfl (BA_one _) H (by repeat (first | exact Upd.head | apply Upd.tail)) (BA_size _) (BA_size _) ?_)
              clear H
              intro w1 H
              clear HS
              have HS := H
              refine hK.out _ _ (H.sub (by repeat (first | exact List.Sublist.refl _ | apply List.Sublist.cons))) ?_
              clear hK K
              simp only [Act.put, List.setIfInBounds_toArray, List.set_cons_zero, List.set_cons_succ]
              refine rg_done (by kernel_rfl) ?_
              exact ⟨rfl, g7, g8, by simp only [Act.put, List.setIfInBounds_toArray, List.set_cons_zero, List.set_cons_succ], by first | exact H | exact H.swap⟩
            refine rg_cons (i := 5) rfl rfl (fun K hK => ?_) ?_
            · -- 5
              refine Stp.wp (Stp.alloc 8 rfl rfl zeroBA H ?_)
              clear H
              intro g8 w1 H
              simp only [cells_agg] at H
              clear HS
              have HS := H
              refine hK.out _ _ (H.sub (by repeat (first | exact List.Sublist.refl _ | apply List.Sublist.cons))) ?_
              clear hK K
              simp only [Act.put, List.setIfInBounds_toArray, List.set_cons_zero, List.set_cons_succ]
              refine rg_one (i := 3) (by kernel_rfl) rfl rfl (fun K hK => ?_)
              refine wp_callf rfl ent14 (flags_ok a b la.out lb.out _) rfl (fun v w1 hr => ?_)
              obtain ⟨rfl, hb1⟩ := hr
              replace H := H.grow hb1
              clear hb1
              clear HS
              have HS := H
              refine hK.out _ _ (H.sub (by repeat (first | exact List.Sublist.refl _ | apply List.Sublist.cons))) ?_
              clear hK K
              simp only [Act.put, List.setIfInBounds_toArray, List.set_cons_zero, List.set_cons_succ]
              refine rg_one (i := 6) (by kernel_rfl) rfl rfl (fun K hK => ?_)
              refine Stp.wp (Stp.str rfl size32 rfl rfl (BA_one _) H (by repeat (first | exact Upd.head | apply Upd.tail)) (BA_size _) (BA_size _) ?_)
              clear H
              intro w1 H
              clear HS
              have HS := H
              refine hK.out _ _ (H.sub (by repeat (first | exact List.Sublist.refl _ | apply List.Sublist.cons))) ?_
              clear hK K
              simp only [Act.put, List.setIfInBounds_toArray, List.set_cons_zero, List.set_cons_succ]
              refine rg_one (i := 7) (by kernel_rfl) rfl rfl (fun K hK => ?_)
              refine Stp.wp (Stp.str rfl size32 rfl rfl (BA_one _) H (by repeat (first | exact Upd.head | apply Upd.tail)) (BA_size _) (BA_size _) ?_)
              clear H
              intro w1 H
              clear HS
              have HS := H
              refine hK.out _ _ (H.sub (by repeat (first | exact List.Sublist.refl _ | apply List.Sublist.cons))) ?_
              clear hK K
              simp only [Act.put, List.setIfInBounds_toArray, List.set_cons_zero, List.set_cons_succ]
              refine rg_done (by kernel_rfl) ?_
              exact ⟨rfl, g7, g8, by simp only [Act.put, List.setIfInBounds_toArray, List.set_cons_zero, List.set_cons_succ], by first | exact H | exact H.swap⟩
            exact AllReadyH.nil
          refine rg_cons (i := 5) rfl rfl (fun K hK => ?_) ?_
          · -- 5
            refine Stp.wp (Stp.alloc 8 rfl rfl zeroBA H ?_)
            clear H
            intro g8 w1 H
            simp only [cells_agg] at H
            clear HS
            have HS := H
            refine hK.out _ _ (H.sub (by repeat (first | exact List.Sublist.refl _ | apply List.Sublist.cons))) ?_
            clear hK K
            simp only [Act.put, List.setIfInBounds_toArray, List.set_cons_zero, List.set_cons_succ]
            refine rg_all (rs := [3, 4]) (by kernel_rfl) (by simp) ?_
            refine rg_cons (i := 3) rfl rfl (fun K hK => ?_) ?_
            · -- 3
              refine wp_callf rfl ent14 (flags_ok a b la.out lb.out _) rfl (fun v w1 hr => ?_)
              obtain ⟨rfl, hb1⟩ := hr
              replace H := H.grow hb1
              clear hb1
              clear HS
              have HS := H
              refine hK.out _ _ (H.sub (by repeat (first | exact List.Sublist.refl _ | apply List.Sublist.cons))) ?_
              clear hK K
              simp only [Act.put, List.setIfInBounds_toArray, List.set_cons_zero, List.set_cons_succ]
              refine rg_one (i := 4) (by kernel_rfl) rfl rfl (fun K hK => ?_)
              refine Stp.wp (Stp.alloc 7 rfl rfl zeroBA H ?_)
              clear H
              intro g7 w1 H
              simp only [cells_agg] at H
              clear HS
              have HS := H
              refine hK.out _ _ (H.sub (by repeat (first | exact List.Sublist.refl _ | apply List.Sublist.cons))) ?_
              clear hK K
              simp only [Act.put, List.setIfInBounds_toArray, List.set_cons_zero, List.set_cons_succ]
              refine rg_one (i := 6) (by kernel_rfl) rfl rfl (fun K hK => ?_)
              refine Stp.wp (Stp.str rfl size32 rfl rfl (BA_one _) H (by repeat (first | exact Upd.head | apply Upd.tail)) (BA_size _) (BA_size _) ?_)
              clear H
              intro w1 H
              clear HS
              have HS := H
              refine hK.out _ _ (H.sub (by repeat (first | exact List.Sublist.refl _ | apply List.Sublist.cons))) ?_
              clear hK K
              simp only [Act.put, List.setIfInBounds_toArray, List.set_cons_zero, List.set_cons_succ]
              refine rg_one (i := 7) (by kernel_rfl) rfl rfl (fun K hK => ?_)
              refine Stp.wp (Stp.str rfl size32 rfl rfl (BA_one _) H (by repeat (first | exact Upd.head | apply Upd.tail)) (BA_size _) (BA_size _) ?_)
              clear H
              intro w1 H
              clear HS
              have HS := H
              refine hK.out _ _ (H.sub (by repeat (first | exact List.Sublist.refl _ | apply List.Sublist.cons))) ?_
              clear hK K
              simp only [Act.put, List.setIfInBounds_toArray, List.set_cons_zero, List.set_cons_succ]
              refine rg_done (by kernel_rfl) ?_
              exact ⟨rfl, g7, g8, by simp only [Act.put, List.setIfInBounds_toArray, List.set_cons_zero, List.set_cons_succ], by first | exact H | exact H.swap⟩
            refine rg_cons (i := 4) rfl rfl (fun K hK => ?_) ?_
            · -- 4
              refine Stp.wp (Stp.alloc 7 rfl rfl zeroBA H ?_)
              clear H
              intro g7 w1 H
              simp only [cells_agg] at H
              clear HS
              have HS := H
              refine hK.out _ _ (H.sub (by repeat (first | exact List.Sublist.refl _ | apply List.Sublist.cons))) ?_
              clear hK K
              simp only [Act.put, List.setIfInBounds_toArray, List.set_cons_zero, List.set_cons_succ]
              refine rg_one (i := 3) (by kernel_rfl) rfl rfl (fun K hK => ?_)
              refine wp_callf rfl ent14 (flags_ok a b la.out lb.out _) rfl (fun v w1 hr => ?_)
              obtain ⟨rfl, hb1⟩ := hr
              replace H := H.grow hb1
              clear hb1
              clear HS
              have HS := H
              refine hK.out _ _ (H.sub (by repeat (first | exact List.Sublist.refl _ | apply List.Sublist.cons))) ?_
              clear hK K
              simp only [Act.put, List.setIfInBounds_toArray, List.set_cons_zero, List.set_cons_succ]
              refine rg_one (i := 6) (by kernel_rfl) rfl rfl (fun K hK => ?_)
              refine Stp.wp (Stp.str rfl size32 rfl rfl (BA_one _) H (by repeat (first | exact Upd.head | apply Upd.tail)) (BA_size _) (BA_size _) ?_)
              clear H
              intro w1 H
              clear HS
              have HS := H
              refine hK.out _ _ (H.sub (by repeat (first | exact List.Sublist.refl _ | apply List.Sublist.cons))) ?_
              clear hK K
              simp only [Act.put, List.setIfInBounds_toArray, List.set_cons_zero, List.set_cons_succ]
              refine rg_one (i := 7) (by kernel_rfl) rfl rfl (fun K hK => ?_)
              refine Stp.wp (Stp.str rfl size32 rfl rfl (BA_one _) H (by repeat (first | exact Upd.head | apply Upd.tail)) (BA_size _) (BA_size _) ?_)
              clear H
              intro w1 H
              clear HS
              have HS := H
              refine hK.out _ _ (H.sub (by repeat (first | exact List.Sublist.refl _ | apply List.Sublist.cons))) ?_
              clear hK K
              simp only [Act.put, List.setIfInBounds_toArray, List.set_cons_zero, List.set_cons_succ]
              refine rg_done (by kernel_rfl) ?_
              exact ⟨rfl, g7, g8, by simp only [Act.put, List.setIfInBounds_toArray, List.set_cons_zero, List.set_cons_succ], by first | exact H | exact H.swap⟩
            exact AllReadyH.nil
          exact AllReadyH.nil
        refine rg_cons (i := 4) rfl rfl (fun K hK => ?_) ?_
        · -- 4
          refine Stp.wp (Stp.alloc 7 rfl rfl zeroBA H ?_)
          clear H
          intro g7 w1 H
          simp only [cells_agg] at H
          clear HS
          have HS := H
          refine hK.out _ _ (H.sub (by repeat (first | exact List.Sublist.refl _ | apply List.Sublist.cons))) ?_
          clear hK K
          simp only [Act.put, List.setIfInBounds_toArray, List.set_cons_zero, List.set_cons_succ]
          refine rg_all (rs := [1, 5]) (by kernel_rfl) (by simp) ?_
          refine rg_cons (i := 1) rfl rfl (fun K hK => ?_) ?_
          · -- 1
            refine wp_callf rfl ent14 (flags_ok a b la.out lb.out _) rfl (fun v w1 hr => ?_)
            obtain ⟨rfl, hb1⟩ := hr
            replace H := H.grow hb1
            clear hb1
            clear HS
            have HS := H
            refine hK.out _ _ (H.sub (by repeat (first | exact List.Sublist.refl _ | apply List.Sublist.cons))) ?_
            clear hK K
            simp only [Act.put, List.setIfInBounds_toArray, List.set_cons_zero, List.set_cons_succ]
            refine rg_all (rs := [3, 5]) (by kernel_rfl) (by simp) ?_
            refine rg_cons (i := 3) rfl rfl (fun K hK => ?_) ?_
            · -- 3
              refine wp_callf rfl ent14 (flags_ok a b la.out lb.out _) rfl (fun v w1 hr => ?_)
              obtain ⟨rfl, hb1⟩ := hr
              replace H := H.grow hb1
              clear hb1
              clear HS
              have HS := H
              refine hK.out _ _ (H.sub (by repeat (first | exact List.Sublist.refl _ | apply List.Sublist.cons))) ?_
              clear hK K
              simp only [Act.put, List.setIfInBounds_toArray, List.set_cons_zero, List.set_cons_succ]
              refine rg_one (i := 5) (by kernel_rfl) rfl rfl (fun K hK => ?_)
              refine Stp.wp (Stp.alloc 8 rfl rfl zeroBA H ?_)
              clear H
              intro g8 w1 H
              simp only [cells_agg] at H
              clear HS
              have HS := H
              refine hK.out _ _ (H.sub (by repeat (first | exact List.Sublist.refl _ | apply List.Sublist.cons))) ?_
              clear hK K
              simp only [Act.put, List.setIfInBounds_toArray, List.set_cons_zero, List.set_cons_succ]
              refine rg_one (i := 6) (by kernel_rfl) rfl rfl (fun K hK => ?_)
              refine Stp.wp (Stp.str rfl size32 rfl rfl (BA_one _) H (by repeat (first | exact Upd.head | apply Upd.tail)) (BA_size _) (BA_size _) ?_)
              clear H
              intro w1 H
              clear HS
              have HS := H
              refine hK.out _ _ (H.sub (by repeat (first | exact List.Sublist.refl _ | apply List.Sublist.cons))) ?_
              clear hK K
              simp only [Act.put, List.setIfInBounds_toArray, List.set_cons_zero, List.set_cons_succ]
              refine rg_one (i := 7) (by kernel_rfl) rfl rfl (fun K hK => ?_)
              refine Stp.wp (Stp.str rfl size32 rfl rfl (BA_one _) H (by repeat (first | exact Upd.head | apply Upd.tail)) (BA_size _) (BA_size _) ?_)
              clear H
              intro w1 H
              clear HS
              have HS := H
              refine hK.out _ _ (H.sub (by repeat (first | exact List.Sublist.refl _ | apply List.Sublist.cons))) ?_
              clear hK K
              simp only [Act.put, List.setIfInBounds_toArray, List.set_cons_zero, List.set_cons_succ]
              refine rg_done (by kernel_rfl) ?_
              exact ⟨rfl, g7, g8, by simp only [Act.put, List.setIfInBounds_toArray, List.set_cons_zero, List.set_cons_succ], by first | exact H | exact H.swap⟩
            refine rg_cons (i := 5) rfl rfl (fun K hK => ?_) ?_
            · -- 5
              refine Stp.wp (Stp.alloc 8 rfl rfl zeroBA H ?_)
              clear H
              intro g8 w1 H
              simp only [cells_agg] at H
              clear HS
              have HS := H
              refine hK.out _ _ (H.sub (by repeat (first | exact List.Sublist.refl _ | apply List.Sublist.cons))) ?_
              clear hK K
              simp only [Act.put, List.setIfInBounds_toArray, List.set_cons_zero, List.set_cons_succ]
              refine rg_one (i := 3) (by kernel_rfl) rfl rfl (fun K hK => ?_)
              refine wp_callf rfl ent14 (flags_ok a b la.out lb.out _) rfl (fun v w1 hr => ?_)
              obtain ⟨rfl, hb1⟩ := hr
              replace H := H.grow hb1
              clear hb1
              clear HS
              have HS := H
              refine hK.out _ _ (H.sub (by repeat (first | exact List.Sublist.refl _ | apply List.Sublist.cons))) ?_
              clear hK K
              simp only [Act.put, List.setIfInBounds_toArray, List.set_cons_zero, List.set_cons_succ]
              refine rg_one (i := 6) (by kernel_rfl) rfl rfl (fun K hK => ?_)
              refine Stp.wp (Stp.str rfl size32 rfl rfl (BA_one _) H (by repeat (first | exact Upd.head | apply Upd.tail)) (BA_size _) (BA_size _) ?_)
              clear H
              intro w1 H
              clear HS
              have HS := H
              refine hK.out _ _ (H.sub (by repeat (first | exact List.Sublist.refl _ | apply List.Sublist.cons))) ?_
              clear hK K
              simp only [Act.put, List.setIfInBounds_toArray, List.set_cons_zero, List.set_cons_succ]
              refine rg_one (i := 7) (by kernel_rfl) rfl rfl (fun K hK => ?_)
              refine Stp.wp (Stp.str rfl size32 rfl rfl (BA_one _) H (by repeat (first | exact Upd.head | apply Upd.tail)) (BA_size _) (BA_size _) ?_)
              clear H
              intro w1 H
              clear HS
              have HS := H
              refine hK.out _ _ (H.sub (by repeat (first | exact List.Sublist.refl _ | apply List.Sublist.cons))) ?_
              clear hK K
              simp only [Act.put, List.setIfInBounds_toArray, List.set_cons_zero, List.set_cons_succ]
              refine rg_done (by kernel_rfl) ?_
              exact ⟨rfl, g7, g8, by simp only [Act.put, List.setIfInBounds_toArray, List.set_cons_zero, List.set_cons_succ], by first | exact H | exact H.swap⟩
            exact AllReadyH.nil
          refine rg_cons (i := 5) rfl rfl (fun K hK => ?_) ?_
          · -- 5
            refine Stp.wp (Stp.alloc 8 rfl rfl zeroBA H ?_)
            clear H
            intro g8 w1 H
            simp only [cells_agg] at H
            clear HS
            have HS := H
            refine hK.out _ _ (H.sub (by repeat (first | exact List.Sublist.refl _ | apply List.Sublist.cons))) ?_
            clear hK K
            simp only [Act.put, List.setIfInBounds_toArray, List.set_cons_zero, List.set_cons_succ]
            refine rg_one (i := 1) (by kernel_rfl) rfl rfl (fun K hK => ?_)
            refine wp_callf rfl ent14 (flags_ok a b la.out lb.out _) rfl (fun v w1 hr => ?_)
            obtain ⟨rfl, hb1⟩ := hr
            replace H := H.grow hb1
            clear hb1
            clear HS
            have HS := H
            refine hK.out _ _ (H.sub (by repeat (first | exact List.Sublist.refl _ | apply List.Sublist.cons))) ?_
            clear hK K
            simp only [Act.put, List.setIfInBounds_toArray, List.set_cons_zero, List.set_cons_succ]
            refine rg_one (i := 3) (by kernel_rfl) rfl rfl (fun K hK => ?_)
            refine wp_callf rfl ent14 (flags_ok a b la.out lb.out _) rfl (fun v w1 hr => ?_)
            obtain ⟨rfl, hb1⟩ := hr
            replace H := H.grow hb1
            clear hb1
            clear HS
            have HS := H
            refine hK.out _ _ (H.sub (by repeat (first | exact List.Sublist.refl _ | apply List.Sublist.cons))) ?_
            clear hK K
            simp only [Act.put, List.setIfInBounds_toArray, List.set_cons_zero, List.set_cons_succ]
            refine rg_one (i := 6) (by kernel_rfl) rfl rfl (fun K hK => ?_)
            refine Stp.wp (Stp.str rfl size32 rfl rfl (BA_one _) H (by repeat (first | exact Upd.head | apply Upd.tail)) (BA_size _) (BA_size _) ?_)
            clear H
            intro w1 H
            clear HS
            have HS := H
            refine hK.out _ _ (H.sub (by repeat (first | exact List.Sublist.refl _ | apply List.Sublist.cons))) ?_
            clear hK K
            simp only [Act.put, List.setIfInBounds_toArray, List.set_cons_zero, List.set_cons_succ]
            refine rg_one (i := 7) (by kernel_rfl) rfl rfl (fun K hK => ?_)
            refine Stp.wp (Stp.str rfl size32 rfl rfl (BA_one _) H (by repeat (first | exact Upd.head | apply Upd.tail)) (BA_size _) (BA_size _) ?_)
            clear H
            intro w1 H
            clear HS
            have HS := H
            refine hK.out _ _ (H.sub (by repeat (first | exact List.Sublist.refl _ | apply List.Sublist.cons))) ?_
            clear hK K
            simp only [Act.put, List.setIfInBounds_toArray, List.set_cons_zero, List.set_cons_succ]
            refine rg_done (by kernel_rfl) ?_
            exact ⟨rfl, g7, g8, by simp only [Act.put, List.setIfInBounds_toArray, List.set_cons_zero, List.set_cons_succ], by first | exact H | exact H.swap⟩
          exact AllReadyH.nil
        refine rg_cons (i := 5) rfl rfl (fun K hK => ?_) ?_
        · -- 5
          refine Stp.wp (Stp.alloc 8 rfl rfl zeroBA H ?_)
          clear H
          intro g8 w1 H
          simp only [cells_agg] at H
          clear HS
          have HS := H
          refine hK.out _ _ (H.sub (by repeat (first | exact List.Sublist.refl _ | apply List.Sublist.cons))) ?_
          clear hK K
          simp only [Act.put, List.setIfInBounds_toArray, List.set_cons_zero, List.set_cons_succ]
          refine rg_all (rs := [1, 4]) (by kernel_rfl) (by simp) ?_
          refine rg_cons (i := 1) rfl rfl (fun K hK => ?_) ?_
          · -- 1
            refine wp_callf rfl ent14 (flags_ok a b la.out lb.out _) rfl (fun v w1 hr => ?_)
            obtain ⟨rfl, hb1⟩ := hr
            replace H := H.grow hb1
            clear hb1
            clear HS
            have HS := H
            refine hK.out _ _ (H.sub (by repeat (first | exact List.Sublist.refl _ | apply List.Sublist.cons))) ?_
            clear hK K
            simp only [Act.put, List.setIfInBounds_toArray, List.set_cons_zero, List.set_cons_succ]
            refine rg_all (rs := [3, 4]) (by kernel_rfl) (by simp) ?_
            refine rg_cons (i := 3) rfl rfl (fun K hK => ?_) ?_
            · -- 3
              refine wp_callf rfl ent14 (flags_ok a b la.out lb.out _) rfl (fun v w1 hr => ?_)
              obtain ⟨rfl, hb1⟩ := hr
              replace H := H.grow hb1
              clear hb1
              clear HS
              have HS := H
              refine hK.out _ _ (H.sub (by repeat (first | exact List.Sublist.refl _ | apply List.Sublist.cons))) ?_
              clear hK K
              simp only [Act.put, List.setIfInBounds_toArray, List.set_cons_zero, List.set_cons_succ]
              refine rg_one (i := 4) (by kernel_rfl) rfl rfl (fun K hK => ?_)
              refine Stp.wp (Stp.alloc 7 rfl rfl zeroBA H ?_)
              clear H
              intro g7 w1 H
              simp only [cells_agg] at H
              clear HS
              have HS := H
              refine hK.out _ _ (H.sub (by repeat (first | exact List.Sublist.refl _ | apply List.Sublist.cons))) ?_
              clear hK K
              simp only [Act.put, List.setIfInBounds_toArray, List.set_cons_zero, List.set_cons_succ]
              refine rg_one (i := 6) (by kernel_rfl) rfl rfl (fun K hK => ?_)
              refine Stp.wp (Stp.str rfl size32 rfl rfl (BA_one _) H (by repeat (first | exact Upd.head | apply Upd.tail)) (BA_size _) (BA_size _) ?_)
              clear H
              intro w1 H
              clear HS
              have HS := H
              refine hK.out _ _ (H.sub (by repeat (first | exact List.Sublist.refl _ | apply List.Sublist.cons))) ?_
              clear hK K
              simp only [Act.put, List.setIfInBounds_toArray, List.set_cons_zero, List.set_cons_succ]
              refine rg_one (i := 7) (by kernel_rfl) rfl rfl (fun K hK => ?_)
              refine Stp.wp (Stp.str rfl size32 rfl rfl (BA_one _) H (by repeat (first | exact Upd.head | apply Upd.tail)) (BA_size _) (BA_size _) ?_)
              clear H
              intro w1 H
              clear HS
              have HS := H
              refine hK.out _ _ (H.sub (by repeat (first | exact List.Sublist.refl _ | apply List.Sublist.cons))) ?_
              clear hK K
              simp only [Act.put, List.setIfInBounds_toArray, List.set_cons_zero, List.set_cons_succ]
              refine rg_done (by kernel_rfl) ?_
              exact ⟨rfl, g7, g8, by simp only [Act.put, List.setIfInBounds_toArray, List.set_cons_zero, List.set_cons_succ], by first | exact H | exact H.swap⟩
            refine rg_cons (i := 4) rfl rfl (fun K hK => ?_) ?_
            · -- 4
              refine Stp.wp (Stp.alloc 7 rfl rfl zeroBA H ?_)
              clear H
              intro g7 w1 H
              simp only [cells_agg] at H
              clear HS
              have HS := H
              refine hK.out _ _ (H.sub (by repeat (first | exact List.Sublist.refl _ | apply List.Sublist.cons))) ?_
              clear hK K
              simp only [Act.put, List.setIfInBounds_toArray, List.set_cons_zero, List.set_cons_succ]
              refine rg_one (i := 3) (by kernel_rfl) rfl rfl (fun K hK => ?_)
              refine wp_callf rfl ent14 (flags_ok a b la.out lb.out _) rfl (fun v w1 hr => ?_)
              obtain ⟨rfl, hb1⟩ := hr
              replace H := H.grow hb1
              clear hb1
              clear HS
              have HS := H
              refine hK.out _ _ (H.sub (by repeat (first | exact List.Sublist.refl _ | apply List.Sublist.cons))) ?_
              clear hK K
              simp only [Act.put, List.setIfInBounds_toArray, List.set_cons_zero, List.set_cons_succ]
              refine rg_one (i := 6) (by kernel_rfl) rfl rfl (fun K hK => ?_)
              refine Stp.wp (Stp.str rfl size32 rfl rfl (BA_one _) H (by repeat (first | exact Upd.head | apply Upd.tail)) (BA_size _) (BA_size _) ?_)
              clear H
              intro w1 H
              clear HS
              have HS := H
              refine hK.out _ _ (H.sub (by repeat (first | exact List.Sublist.refl _ | apply List.Sublist.cons))) ?_
              clear hK K
              simp only [Act.put, List.setIfInBounds_toArray, List.set_cons_zero, List.set_cons_succ]
              refine rg_one (i := 7) (by kernel_rfl) rfl rfl (fun K hK => ?_)
              refine Stp.wp (Stp.str rfl size32 rfl rfl (BA_one _) H (by repeat (first | exact Upd.head | apply Upd.tail)) (BA_size _) (BA_size _) ?_)
              clear H
              intro w1 H
              clear HS
              have HS := H
              refine hK.out _ _ (H.sub (by repeat (first | exact List.Sublist.refl _ | apply List.Sublist.cons))) ?_
              clear hK K
              simp only [Act.put, List.setIfInBounds_toArray, List.set_cons_zero, List.set_cons_succ]
              refine rg_done (by kernel_rfl) ?_
              exact ⟨rfl, g7, g8, by simp only [Act.put, List.setIfInBounds_toArray, List.set_cons_zero, List.set_cons_succ], by first | exact H | exact H.swap⟩
            exact AllReadyH.nil
          refine rg_cons (i := 4) rfl rfl (fun K hK => ?_) ?_
          · -- 4
            refine Stp.wp (Stp.alloc 7 rfl rfl zeroBA H ?_)
            clear H
            intro g7 w1 H
            simp only [cells_agg] at H
            clear HS
            have HS := H
            refine hK.out _ _ (H.sub (by repeat (first | exact List.Sublist.refl _ | apply List.Sublist.cons))) ?_
            clear hK K
            simp only [Act.put, List.setIfInBounds_toArray, List.set_cons_zero, List.set_cons_succ]
            refine rg_one (i := 1) (by kernel_rfl) rfl rfl (fun K hK => ?_)
            refine wp_callf rfl ent14 (flags_ok a b la.out lb.out _) rfl (fun v w1 hr => ?_)
            obtain ⟨rfl, hb1⟩ := hr
            replace H := H.grow hb1
            clear hb1
            clear HS
            have HS := H
            refine hK.out _ _ (H.sub (by repeat (first | exact List.Sublist.refl _ | apply List.Sublist.cons))) ?_
            clear hK K
            simp only [Act.put, List.setIfInBounds_toArray, List.set_cons_zero, List.set_cons_succ]
            refine rg_one (i := 3) (by kernel_rfl) rfl rfl (fun K hK => ?_)
            refine wp_callf rfl ent14 (flags_ok a b la.out lb.out _) rfl (fun v w1 hr => ?_)
            obtain ⟨rfl, hb1⟩ := hr
            replace H := H.grow hb1
            clear hb1
            clear HS
            have HS := H
            refine hK.out _ _ (H.sub (by repeat (first | exact List.Sublist.refl _ | apply List.Sublist.cons))) ?_
            clear hK K
            simp only [Act.put, List.setIfInBounds_toArray, List.set_cons_zero, List.set_cons_succ]
            refine rg_one (i := 6) (by kernel_rfl) rfl rfl (fun K hK => ?_)
            refine Stp.wp (Stp.str rfl size32 rfl rfl (BA_one _) H (by repeat (first | exact Upd.head | apply Upd.tail)) (BA_size _) (BA_size _) ?_)
            clear H
            intro w1 H
            clear HS
            have HS := H
            refine hK.out _ _ (H.sub (by repeat (first | exact List.Sublist.refl _ | apply List.Sublist.cons))) ?_
            clear hK K
            simp only [Act.put, List.setIfInBounds_toArray, List.set_cons_zero, List.set_cons_succ]
            refine rg_one (i := 7) (by kernel_rfl) rfl rfl (fun K hK => ?_)
            refine Stp.wp (Stp.str rfl size32 rfl rfl (BA_one _) H (by repeat (first | exact Upd.head | apply Upd.tail)) (BA_size _) (BA_size _) ?_)
            clear H
            intro w1 H
            clear HS
            have HS := H
            refine hK.out _ _ (H.sub (by repeat (first | exact List.Sublist.refl _ | apply List.Sublist.cons))) ?_
            clear hK K
            simp only [Act.put, List.setIfInBounds_toArray, List.set_cons_zero, List.set_cons_succ]
            refine rg_done (by kernel_rfl) ?_
            exact ⟨rfl, g7, g8, by simp only [Act.put, List.setIfInBounds_toArray, List.set_cons_zero, List.set_cons_succ], by first | exact H | exact H.swap⟩
          exact AllReadyH.nil
        exact AllReadyH.nil
      rintro a' w' ⟨g7, g8, rfl, H⟩
      simp only [Act.put, List.setIfInBounds_toArray, List.set_cons_zero, List.set_cons_succ]
      go_wp2_with (first | (with_reducible refine wpl rfl (Stp.box 3 rfl rfl rfl H ?_); clear H; intro g3 w1 H; simp only [Act.put, List.setIfInBounds_toArray, List.set_cons_zero, List.set_cons_succ]; simp only [eval_tmp, eval_const, getD_lit0, getD_lits, cells_agg, cells_int, cells_bool, cells_string, cells_pointer, cells_slice, cells_map, List.setIfInBounds_toArray, List.set_cons_zero, List.set_cons_succ] at H) | (with_reducible refine wpl rfl (Stp.stc rfl size4 rfl rfl rfl rfl H (by repeat (first | exact Upd.head | apply Upd.tail)) (by first | (rw [BA_size]; omega) | omega | (simp; done) | (simp; omega)) ?_); clear H; intro w1 H; simp only [Act.put, List.setIfInBounds_toArray, List.set_cons_zero, List.set_cons_succ]; simp only [eval_tmp, eval_const, getD_lit0, getD_lits, cells_agg, cells_int, cells_bool, cells_string, cells_pointer, cells_slice, cells_map, List.setIfInBounds_toArray, List.set_cons_zero, List.set_cons_succ] at H))
      refine rg_begin 27 rfl (S := fun W => St _ _ W _) (by kernel_rfl) H.drew ?_
      replace H := H.drew
      have HS := H
      first | (refine rg_take (i := 0) rfl (by kernel_rfl) (by kernel_rfl) (by kernel_rfl) (Yld.ldr rfl rfl agg24 size24 rfl (by repeat (first | exact List.mem_cons_self | apply List.mem_cons_of_mem)) (by first | exact BA_size _ | rfl | (simp; done) | assumption)) HS ?_; simp only [Act.put, List.setIfInBounds_toArray, List.set_cons_zero, List.set_cons_succ]) | (refine rg_take (i := 0) rfl (by kernel_rfl) (by kernel_rfl) (by kernel_rfl) (Yld.ldor rfl rfl agg24 size24 rfl (by assumption) (by first | exact BA_size _ | rfl | (simp; done) | assumption) (by assumption)) HS ?_; simp only [Act.put, List.setIfInBounds_toArray, List.set_cons_zero, List.set_cons_succ])
      refine rg_take (i := 1) rfl (by kernel_rfl) (by kernel_rfl) (by kernel_rfl) (Yld.move rfl rfl) HS ?_; simp only [Act.put, eval_tmp, eval_const, getD_lit0, getD_lits, if_true, if_false, List.setIfInBounds_toArray, List.set_cons_zero, List.set_cons_succ]
      first | (refine rg_take (i := 3) rfl (by kernel_rfl) (by kernel_rfl) (by kernel_rfl) (Yld.ldr rfl rfl agg24 size24 rfl (by repeat (first | exact List.mem_cons_self | apply List.mem_cons_of_mem)) (by first | exact BA_size _ | rfl | (simp; done) | assumption)) HS ?_; simp only [Act.put, List.setIfInBounds_toArray, List.set_cons_zero, List.set_cons_succ]) | (refine rg_take (i := 3) rfl (by kernel_rfl) (by kernel_rfl) (by kernel_rfl) (Yld.ldor rfl rfl agg24 size24 rfl (by assumption) (by first | exact BA_size _ | rfl | (simp; done) | assumption) (by assumption)) HS ?_; simp only [Act.put, List.setIfInBounds_toArray, List.set_cons_zero, List.set_cons_succ])
      refine rg_take (i := 4) rfl (by kernel_rfl) (by kernel_rfl) (by kernel_rfl) (Yld.move rfl rfl) HS ?_; simp only [Act.put, eval_tmp, eval_const, getD_lit0, getD_lits, if_true, if_false, List.setIfInBounds_toArray, List.set_cons_zero, List.set_cons_succ]
      refine rg_one (i := 2) (by kernel_rfl) rfl rfl (fun K hK => ?_)
      refine wp_callf rfl ent15 (has_ok a b (r) la.out lb.out x HX.out _) rfl (fun v w1 hr => ?_)
      obtain ⟨rfl, hb1⟩ := hr
      replace H := H.grow hb1
      clear hb1
      clear HS
      have HS := H
      refine hK.out _ _ HS ?_
      clear hK K
      simp only [Act.put, List.setIfInBounds_toArray, List.set_cons_zero, List.set_cons_succ]
      refine rg_one (i := 5) (by kernel_rfl) rfl rfl (fun K hK => ?_)
      refine wp_callf rfl ent16 (set_ok a b (r) la.out lb.out x HX.out _) rfl (fun v w1 hr => ?_)
      obtain ⟨rfl, hb1⟩ := hr
      replace H := H.grow hb1
      clear hb1
      clear HS
      have HS := H
      refine hK.out _ _ HS ?_
      clear hK K
      simp only [Act.put, List.setIfInBounds_toArray, List.set_cons_zero, List.set_cons_succ]
      refine rg_take (i := 6) rfl (by kernel_rfl) (by kernel_rfl) (by kernel_rfl) (Yld.of rfl (fun W _ => by go_simp; first | done | with_reducible rfl)) HS ?_; simp only [Act.put, List.setIfInBounds_toArray, List.set_cons_zero, List.set_cons_succ]
      refine rg_take (i := 7) rfl (by kernel_rfl) (by kernel_rfl) (by kernel_rfl) (Yld.move rfl rfl) HS ?_; simp only [Act.put, eval_tmp, eval_const, getD_lit0, getD_lits, if_true, if_false, List.setIfInBounds_toArray, List.set_cons_zero, List.set_cons_succ]
      first | (refine rg_take (i := 8) rfl (by kernel_rfl) (by kernel_rfl) (by kernel_rfl) (Yld.ldr rfl rfl agg24 size24 rfl (by repeat (first | exact List.mem_cons_self | apply List.mem_cons_of_mem)) (by first | exact BA_size _ | rfl | (simp; done) | assumption)) HS ?_; simp only [Act.put, List.setIfInBounds_toArray, List.set_cons_zero, List.set_cons_succ]) | (refine rg_take (i := 8) rfl (by kernel_rfl) (by kernel_rfl) (by kernel_rfl) (Yld.ldor rfl rfl agg24 size24 rfl (by assumption) (by first | exact BA_size _ | rfl | (simp; done) | assumption) (by assumption)) HS ?_; simp only [Act.put, List.setIfInBounds_toArray, List.set_cons_zero, List.set_cons_succ])
      refine rg_take (i := 9) rfl (by kernel_rfl) (by kernel_rfl) (by kernel_rfl) (Yld.move rfl rfl) HS ?_; simp only [Act.put, eval_tmp, eval_const, getD_lit0, getD_lits, if_true, if_false, List.setIfInBounds_toArray, List.set_cons_zero, List.set_cons_succ]
      first | (refine rg_take (i := 11) rfl (by kernel_rfl) (by kernel_rfl) (by kernel_rfl) (Yld.ldr rfl rfl agg32 size32 rfl (by repeat (first | exact List.mem_cons_self | apply List.mem_cons_of_mem)) (by first | exact BA_size _ | rfl | (simp; done) | assumption)) HS ?_; simp only [Act.put, List.setIfInBounds_toArray, List.set_cons_zero, List.set_cons_succ]) | (refine rg_take (i := 11) rfl (by kernel_rfl) (by kernel_rfl) (by kernel_rfl) (Yld.ldor rfl rfl agg32 size32 rfl (by assumption) (by first | exact BA_size _ | rfl | (simp; done) | assumption) (by assumption)) HS ?_; simp only [Act.put, List.setIfInBounds_toArray, List.set_cons_zero, List.set_cons_succ])
      refine rg_one (i := 10) (by kernel_rfl) rfl rfl (fun K hK => ?_)
      refine wp_callf rfl ent17 (with_ok a b (r) la.out lb.out c d HW.out _) rfl (fun v w1 hr => ?_)
      obtain ⟨rfl, hb1⟩ := hr
      replace H := H.grow hb1
      clear hb1
      clear HS
      have HS := H
      refine hK.out _ _ HS ?_
      clear hK K
      simp only [Act.put, List.setIfInBounds_toArray, List.set_cons_zero, List.set_cons_succ]
      refine rg_one (i := 12) (by kernel_rfl) rfl rfl (fun K hK => ?_)
      refine wp_callf rfl ent18 (rof_ok (fun i => hasM (a, b) (i : Int)) c d FC.out.1 FC.out.2 _) rfl (fun v w1 hr => ?_)
      obtain ⟨rfl, hb1⟩ := hr
      replace H := H.grow hb1
      clear hb1
      clear HS
      have HS := H
      refine hK.out _ _ HS ?_
      clear hK K
      simp only [Act.put, List.setIfInBounds_toArray, List.set_cons_zero, List.set_cons_succ]
      refine rg_take (i := 13) rfl (by kernel_rfl) (by kernel_rfl) (by kernel_rfl) (Yld.of rfl (fun W _ => by go_simp; first | done | with_reducible rfl)) HS ?_; simp only [Act.put, List.setIfInBounds_toArray, List.set_cons_zero, List.set_cons_succ]
      refine rg_take (i := 14) rfl (by kernel_rfl) (by kernel_rfl) (by kernel_rfl) (Yld.pick rfl rfl rfl) HS ?_; simp only [Act.put, eval_tmp, eval_const, getD_lit0, getD_lits, if_true, if_false, List.setIfInBounds_toArray, List.set_cons_zero, List.set_cons_succ]
      refine rg_take (i := 15) rfl (by kernel_rfl) (by kernel_rfl) (by kernel_rfl) (Yld.move rfl rfl) HS ?_; simp only [Act.put, eval_tmp, eval_const, getD_lit0, getD_lits, if_true, if_false, List.setIfInBounds_toArray, List.set_cons_zero, List.set_cons_succ]
      first | (refine rg_take (i := 16) rfl (by kernel_rfl) (by kernel_rfl) (by kernel_rfl) (Yld.ldr rfl rfl agg24 size24 rfl (by repeat (first | exact List.mem_cons_self | apply List.mem_cons_of_mem)) (by first | exact BA_size _ | rfl | (simp; done) | assumption)) HS ?_; simp only [Act.put, List.setIfInBounds_toArray, List.set_cons_zero, List.set_cons_succ]) | (refine rg_take (i := 16) rfl (by kernel_rfl) (by kernel_rfl) (by kernel_rfl) (Yld.ldor rfl rfl agg24 size24 rfl (by assumption) (by first | exact BA_size _ | rfl | (simp; done) | assumption) (by assumption)) HS ?_; simp only [Act.put, List.setIfInBounds_toArray, List.set_cons_zero, List.set_cons_succ])
      refine rg_take (i := 17) rfl (by kernel_rfl) (by kernel_rfl) (by kernel_rfl) (Yld.move rfl rfl) HS ?_; simp only [Act.put, eval_tmp, eval_const, getD_lit0, getD_lits, if_true, if_false, List.setIfInBounds_toArray, List.set_cons_zero, List.set_cons_succ]
      first | (refine rg_take (i := 19) rfl (by kernel_rfl) (by kernel_rfl) (by kernel_rfl) (Yld.ldr rfl rfl agg32 size32 rfl (by repeat (first | exact List.mem_cons_self | apply List.mem_cons_of_mem)) (by first | exact BA_size _ | rfl | (simp; done) | assumption)) HS ?_; simp only [Act.put, List.setIfInBounds_toArray, List.set_cons_zero, List.set_cons_succ]) | (refine rg_take (i := 19) rfl (by kernel_rfl) (by kernel_rfl) (by kernel_rfl) (Yld.ldor rfl rfl agg32 size32 rfl (by assumption) (by first | exact BA_size _ | rfl | (simp; done) | assumption) (by assumption)) HS ?_; simp only [Act.put, List.setIfInBounds_toArray, List.set_cons_zero, List.set_cons_succ])
      refine rg_one (i := 18) (by kernel_rfl) rfl rfl (fun K hK => ?_)
      refine wp_callf rfl ent19 (without_ok a b (r) la.out lb.out c' d' HO.out _) rfl (fun v w1 hr => ?_)
      obtain ⟨rfl, hb1⟩ := hr
      replace H := H.grow hb1
      clear hb1
      clear HS
      have HS := H
      refine hK.out _ _ HS ?_
      clear hK K
      simp only [Act.put, List.setIfInBounds_toArray, List.set_cons_zero, List.set_cons_succ]
      refine rg_one (i := 20) (by kernel_rfl) rfl rfl (fun K hK => ?_)
      refine wp_callf rfl ent18 (rof_ok (fun i => hasM (a, b) (i : Int)) c' d' FD.out.1 FD.out.2 _) rfl (fun v w1 hr => ?_)
      obtain ⟨rfl, hb1⟩ := hr
      replace H := H.grow hb1
      clear hb1
      clear HS
      have HS := H
      refine hK.out _ _ HS ?_
      clear hK K
      simp only [Act.put, List.setIfInBounds_toArray, List.set_cons_zero, List.set_cons_succ]
      refine rg_take (i := 21) rfl (by kernel_rfl) (by kernel_rfl) (by kernel_rfl) (Yld.of rfl (fun W _ => by go_simp; first | done | with_reducible rfl)) HS ?_; simp only [Act.put, List.setIfInBounds_toArray, List.set_cons_zero, List.set_cons_succ]
      refine rg_take (i := 22) rfl (by kernel_rfl) (by kernel_rfl) (by kernel_rfl) (Yld.pick rfl rfl rfl) HS ?_; simp only [Act.put, eval_tmp, eval_const, getD_lit0, getD_lits, if_true, if_false, List.setIfInBounds_toArray, List.set_cons_zero, List.set_cons_succ]
      refine rg_take (i := 23) rfl (by kernel_rfl) (by kernel_rfl) (by kernel_rfl) (Yld.move rfl rfl) HS ?_; simp only [Act.put, eval_tmp, eval_const, getD_lit0, getD_lits, if_true, if_false, List.setIfInBounds_toArray, List.set_cons_zero, List.set_cons_succ]
      refine rg_one (i := 24) (by kernel_rfl) rfl rfl (fun K hK => ?_)
      refine wp_callf rfl ent9 (awake_ok _) rfl (fun v w1 hr => ?_)
      obtain ⟨rfl, hb1⟩ := hr
      replace H := H.grow hb1
      clear hb1
      clear HS
      have HS := H
      refine hK.out _ _ HS ?_
      clear hK K
      simp only [Act.put, List.setIfInBounds_toArray, List.set_cons_zero, List.set_cons_succ]
      refine rg_take (i := 25) rfl (by kernel_rfl) (by kernel_rfl) (by kernel_rfl) (Yld.pick rfl rfl rfl) HS ?_; simp only [Act.put, eval_tmp, eval_const, getD_lit0, getD_lits, if_true, if_false, List.setIfInBounds_toArray, List.set_cons_zero, List.set_cons_succ]
      refine rg_take (i := 26) rfl (by kernel_rfl) (by kernel_rfl) (by kernel_rfl) (Yld.assign rfl rfl) HS ?_; simp only [Act.put, eval_tmp, eval_const, getD_lit0, getD_lits, if_true, if_false, List.setIfInBounds_toArray, List.set_cons_zero, List.set_cons_succ]
      refine rg_done (by kernel_rfl) ?_
      go_wp2
      go_ret
      exact ⟨_, rfl, rfl, H.below⟩
  · obtain ⟨kq, rfl⟩ : ∃ kq : Nat, r = kq := ⟨r.toNat, by omega⟩
    have hkq : kq < 128 := by omega
    obtain ⟨hc, hd⟩ := hf.yes kq rfl hkq
    have FC := Lib.hid hc
    have FD := Lib.hid hd
    have hge : (0 : Int) ≤ (kq : Int) := by omega
    have hlt : (kq : Int) < 128 := by omega
    clear hc hd hf hr
    refine cut (fun a0 a' w' => ∃ g7 g8, a' = ((((((a0.put (some 13) (.agg #[.int .u64 (a : Int), .int .u64 (b : Int)])).put (some 14) (.agg (BA fun i => hasM (a, b) (i : Int)))).put (some 15) (.agg #[.int .u64 (a : Int), .int .u64 (b : Int)])).put (some 16) (.agg (BA fun i => hasM (a, b) (i : Int)))).put (some 7) (.pointer (some ⟨g7, 0, none⟩))).put (some 8) (.pointer (some ⟨g8, 0, none⟩))) ∧ St w.heap.size w w' [row 32 g8 (BA fun i => hasM (a, b) (i : Int)), row 32 g7 (BA fun i => hasM (a, b) (i : Int)), row 24 g3 #[.int .u64 (a : Int), .int .u64 (b : Int)]]) ?_ ?_
    · refine rg_begin 8 rfl (S := fun W => St _ _ W _) (by kernel_rfl) H.drew ?_
      replace H := H.drew
      have HS := H
      first | (refine rg_take (i := 0) rfl (by kernel_rfl) (by kernel_rfl) (by kernel_rfl) (Yld.ldr rfl rfl agg24 size24 rfl (by repeat (first | exact List.mem_cons_self | apply List.mem_cons_of_mem)) (by first | exact BA_size _ | rfl | (simp; done) | assumption)) (H.sub (by repeat (first | exact List.Sublist.refl _ | apply List.Sublist.cons))) ?_; simp only [Act.put, List.setIfInBounds_toArray, List.set_cons_zero, List.set_cons_succ]) | (refine rg_take (i := 0) rfl (by kernel_rfl) (by kernel_rfl) (by kernel_rfl) (Yld.ldor rfl rfl agg24 size24 rfl (by assumption) (by first | exact BA_size _ | rfl | (simp; done) | assumption) (by assumption)) (H.sub (by repeat (first | exact List.Sublist.refl _ | apply List.Sublist.cons))) ?_; simp only [Act.put, List.setIfInBounds_toArray, List.set_cons_zero, List.set_cons_succ])
      first | (refine rg_take (i := 2) rfl (by kernel_rfl) (by kernel_rfl) (by kernel_rfl) (Yld.ldr rfl rfl agg24 size24 rfl (by repeat (first | exact List.mem_cons_self | apply List.mem_cons_of_mem)) (by first | exact BA_size _ | rfl | (simp; done) | assumption)) (H.sub (by repeat (first | exact List.Sublist.refl _ | apply List.Sublist.cons))) ?_; simp only [Act.put, List.setIfInBounds_toArray, List.set_cons_zero, List.set_cons_succ]) | (refine rg_take (i := 2) rfl (by kernel_rfl) (by kernel_rfl) (by kernel_rfl) (Yld.ldor rfl rfl agg24 size24 rfl (by assumption) (by first | exact BA_size _ | rfl | (simp; done) | assumption) (by assumption)) (H.sub (by repeat (first | exact List.Sublist.refl _ | apply List.Sublist.cons))) ?_; simp only [Act.put, List.setIfInBounds_toArray, List.set_cons_zero, List.set_cons_succ])
      refine rg_all (rs := [1, 4, 5]) (by kernel_rfl) (by simp) ?_
      refine rg_cons (i := 1) rfl rfl (fun K hK => ?_) ?_
      · -- 1
        refine wp_callf rfl ent14 (flags_ok a b la.out lb.out _) rfl (fun v w1 hr => ?_)
        obtain ⟨rfl, hb1⟩ := hr
        replace H := H.grow hb1
        clear hb1
        clear HS
        have HS := H
        refine hK.out _ _ (H.sub (by repeat (first | exact List.Sublist.refl _ | apply List.Sublist.cons))) ?_
        clear hK K
        simp only [Act.put, List.setIfInBounds_toArray, List.set_cons_zero, List.set_cons_succ]
        refine rg_all (rs := [3, 4, 5]) (by kernel_rfl) (by simp) ?_
        refine rg_cons (i := 3) rfl rfl (fun K hK => ?_) ?_
        · -- 3
          refine wp_callf rfl ent14 (flags_ok a b la.out lb.out _) rfl (fun v w1 hr => ?_)
          obtain ⟨rfl, hb1⟩ := hr
          replace H := H.grow hb1
          clear hb1
          clear HS
          have HS := H
          refine hK.out _ _ (H.sub (by repeat (first | exact List.Sublist.refl _ | apply List.Sublist.cons))) ?_
          clear hK K
          simp only [Act.put, List.setIfInBounds_toArray, List.set_cons_zero, List.set_cons_succ]
          refine rg_all (rs := [4, 5]) (by kernel_rfl) (by simp) ?_
          refine rg_cons (i := 4) rfl rfl (fun K hK => ?_) ?_
          · -- 4
            refine Stp.wp (Stp.alloc 7 rfl rfl zeroBA H ?_)
            clear H
            intro g7 w1 H
            simp only [cells_agg] at H
            clear HS
            have HS := H
            refine hK.out _ _ (H.sub (by repeat (first | exact List.Sublist.refl _ | apply List.Sublist.cons))) ?_
            clear hK K
            simp only [Act.put, List.setIfInBounds_toArray, List.set_cons_zero, List.set_cons_succ]
            refine rg_one (i := 5) (by kernel_rfl) rfl rfl (fun K hK => ?_)
            refine Stp.wp (Stp.alloc 8 rfl rfl zeroBA H ?_)
            clear H
            intro g8 w1 H
            simp only [cells_agg] at H
            clear HS
            have HS := H
            refine hK.out _ _ (H.sub (by repeat (first | exact List.Sublist.refl _ | apply List.Sublist.cons))) ?_
            clear hK K
            simp only [Act.put, List.setIfInBounds_toArray, List.set_cons_zero, List.set_cons_succ]
            refine rg_one (i := 6) (by kernel_rfl) rfl rfl (fun K hK => ?_)
            refine Stp.wp (Stp.str rfl size32 rfl rfl (BA_one _) H (by repeat (first | exact Upd.head | apply Upd.tail)) (BA_size _) (BA_size _) ?_)
            clear H
            intro w1 H
            clear HS
            have HS := H
            refine hK.out _ _ (H.sub (by repeat (first | exact List.Sublist.refl _ | apply List.Sublist.cons))) ?_
            clear hK K
            simp only [Act.put, List.setIfInBounds_toArray, List.set_cons_zero, List.set_cons_succ]
            refine rg_one (i := 7) (by kernel_rfl) rfl rfl (fun K hK => ?_)
            refine Stp.wp (Stp.str rfl size32 rfl rfl (BA_one _) H (by repeat (first | exact Upd.head | apply Upd.tail)) (BA_size _) (BA_size _) ?_)
            clear H
            intro w1 H
            clear HS
            have HS := H
            refine hK.out _ _ (H.sub (by repeat (first | exact List.Sublist.refl _ | apply List.Sublist.cons))) ?_
            clear hK K
            simp only [Act.put, List.setIfInBounds_toArray, List.set_cons_zero, List.set_cons_succ]
            refine rg_done (by kernel_rfl) ?_
            exact ⟨rfl, g7, g8, by simp only [Act.put, List.setIfInBounds_toArray, List.set_cons_zero, List.set_cons_succ], by first | exact H | exact H.swap⟩
          refine rg_cons (i := 5) rfl rfl (fun K hK => ?_) ?_
          · -- 5
            refine Stp.wp (Stp.alloc 8 rfl rfl zeroBA H ?_)
            clear H
            intro g8 w1 H
            simp only [cells_agg] at H
            clear HS
            have HS := H
            refine hK.out _ _ (H.sub (by repeat (first | exact List.Sublist.refl _ | apply List.Sublist.cons))) ?_
            clear hK K
            simp only [Act.put, List.setIfInBounds_toArray, List.set_cons_zero, List.set_cons_succ]
            refine rg_one (i := 4) (by kernel_rfl) rfl rfl (fun K hK => ?_)
            refine Stp.wp (Stp.alloc 7 rfl rfl zeroBA H ?_)
            clear H
            intro g7 w1 H
            simp only [cells_agg] at H
            clear HS
            have HS := H
            refine hK.out _ _ (H.sub (by repeat (first | exact List.Sublist.refl _ | apply List.Sublist.cons))) ?_
            clear hK K
            simp only [Act.put, List.setIfInBounds_toArray, List.set_cons_zero, List.set_cons_succ]
            refine rg_one (i := 6) (by kernel_rfl) rfl rfl (fun K hK => ?_)
            refine Stp.wp (Stp.str rfl size32 rfl rfl (BA_one _) H (by repeat (first | exact Upd.head | apply Upd.tail)) (BA_size _) (BA_size _) ?_)
            clear H
            intro w1 H
            clear HS
            have HS := H
            refine hK.out _ _ (H.sub (by repeat (first | exact List.Sublist.refl _ | apply List.Sublist.cons))) ?_
            clear hK K
            simp only [Act.put, List.setIfInBounds_toArray, List.set_cons_zero, List.set_cons_succ]
            refine rg_one (i := 7) (by kernel_rfl) rfl rfl (fun K hK => ?_)
            refine Stp.wp (Stp.str rfl size32 rfl rfl (BA_one _) H (by repeat (first | exact Upd.head | apply Upd.tail)) (BA_size _) (BA_size _) ?_)
            clear H
            intro w1 H
            clear HS
            have HS := H
            refine hK.out _ _ (H.sub (by repeat (first | exact List.Sublist.refl _ | apply List.Sublist.cons))) ?_
            clear hK K
            simp only [Act.put, List.setIfInBounds_toArray, List.set_cons_zero, List.set_cons_succ]
            refine rg_done (by kernel_rfl) ?_
            exact ⟨rfl, g7, g8, by simp only [Act.put, List.setIfInBounds_toArray, List.set_cons_zero, List.set_cons_succ], by first | exact H | exact H.swap⟩
          exact AllReadyH.nil
        refine rg_cons (i := 4) rfl rfl (fun K hK => ?_) ?_
        · -- 4
          refine Stp.wp (Stp.alloc 7 rfl rfl zeroBA H ?_)
          clear H
          intro g7 w1 H
          simp only [cells_agg] at H
          clear HS
          have HS := H
          refine hK.out _ _ (H.sub (by repeat (first | exact List.Sublist.refl _ | apply List.Sublist.cons))) ?_
          clear hK K
          simp only [Act.put, List.setIfInBounds_toArray, List.set_cons_zero, List.set_cons_succ]
          refine rg_all (rs := [3, 5]) (by kernel_rfl) (by simp) ?_
          refine rg_cons (i := 3) rfl rfl (fun K hK => ?_) ?_
          · -- 3
            refine wp_callf rfl ent14 (flags_ok a b la.out lb.out _) rfl (fun v w1 hr => ?_)
            obtain ⟨rfl, hb1⟩ := hr
            replace H := H.grow hb1
            clear hb1
            clear HS
            have HS := H
            refine hK.out _ _ (H.sub (by repeat (first | exact List.Sublist.refl _ | apply List.Sublist.cons))) ?_
            clear hK K
            simp only [Act.put, List.setIfInBounds_toArray, List.set_cons_zero, List.set_cons_succ]
            refine rg_one (i := 5) (by kernel_rfl) rfl rfl (fun K hK => ?_)
            refine Stp.wp (Stp.alloc 8 rfl rfl zeroBA H ?_)
            clear H
            intro g8 w1 H
            simp only [cells_agg] at H
            clear HS
            have HS := H
            refine hK.out _ _ (H.sub (by repeat (first | exact List.Sublist.refl _ | apply List.Sublist.cons))) ?_
            clear hK K
            simp only [Act.put, List.setIfInBounds_toArray, List.set_cons_zero, List.set_cons_succ]
            refine rg_one (i := 6) (by kernel_rfl) rfl rfl (fun K hK => ?_)
            refine Stp.wp (Stp.str rfl size32 rfl rfl (BA_one _) H (by repeat (first | exact Upd.head | apply Upd.tail)) (BA_size _) (BA_size _) ?_)
            clear H
            intro w1 H
            clear HS
            have HS := H
            refine hK.out _ _ (H.sub (by repeat (first | exact List.Sublist.refl _ | apply List.Sublist.cons))) ?_
            clear hK K
            simp only [Act.put, List.setIfInBounds_toArray, List.set_cons_zero, List.set_cons_succ]
            refine rg_one (i := 7) (by kernel_rfl) rfl rfl (fun K hK => ?_)
            refine Stp.wp (Stp.str rfl size32 rfl rfl (BA_one _) H (by repeat (first | exact Upd.head | apply Upd.tail)) (BA_size _) (BA_size _) ?_)
            clear H
            intro w1 H
            clear HS
            have HS := H
            refine hK.out _ _ (H.sub (by repeat (first | exact List.Sublist.refl _ | apply List.Sublist.cons))) ?_
            clear hK K
            simp only [Act.put, List.setIfInBounds_toArray, List.set_cons_zero, List.set_cons_succ]
            refine rg_done (by kernel_rfl) ?_
            exact ⟨rfl, g7, g8, by simp only [Act.put, List.setIfInBounds_toArray, List.set_cons_zero, List.set_cons_succ], by first | exact H | exact H.swap⟩
          refine rg_cons (i := 5) rfl rfl (fun K hK => ?_) ?_
          · -- 5
            refine Stp.wp (Stp.alloc 8 rfl rfl zeroBA H ?_)
            clear H
            intro g8 w1 H
            simp only [cells_agg] at H
            clear HS
            have HS := H
            refine hK.out _ _ (H.sub (by repeat (first | exact List.Sublist.refl _ | apply List.Sublist.cons))) ?_
            clear hK K
            simp only [Act.put, List.setIfInBounds_toArray, List.set_cons_zero, List.set_cons_succ]
            refine rg_one (i := 3) (by kernel_rfl) rfl rfl (fun K hK => ?_)
            refine wp_callf rfl ent14 (flags_ok a b la.out lb.out _) rfl (fun v w1 hr => ?_)
            obtain ⟨rfl, hb1⟩ := hr
            replace H := H.grow hb1
            clear hb1
            clear HS
            have HS := H
            refine hK.out _ _ (H.sub (by repeat (first | exact List.Sublist.refl _ | apply List.Sublist.cons))) ?_
            clear hK K
            simp only [Act.put, List.setIfInBounds_toArray, List.set_cons_zero, List.set_cons_succ]
            refine rg_one (i := 6) (by kernel_rfl) rfl rfl (fun K hK => ?_)
            refine Stp.wp (Stp.str rfl size32 rfl rfl (BA_one _) H (by repeat (first | exact Upd.head | apply Upd.tail)) (BA_size _) (BA_size _) ?_)
            clear H
            intro w1 H
            clear HS
            have HS := H
            refine hK.out _ _ (H.sub (by repeat (first | exact List.Sublist.refl _ | apply List.Sublist.cons))) ?_
            clear hK K
            simp only [Act.put, List.setIfInBounds_toArray, List.set_cons_zero, List.set_cons_succ]
            refine rg_one (i := 7) (by kernel_rfl) rfl rfl (fun K hK => ?_)
            refine Stp.wp (Stp.str rfl size32 rfl rfl (BA_one _) H (by repeat (first | exact Upd.head | apply Upd.tail)) (BA_size _) (BA_size _) ?_)
            clear H
            intro w1 H
            clear HS
            have HS := H
            refine hK.out _ _ (H.sub (by repeat (first | exact List.Sublist.refl _ | apply List.Sublist.cons))) ?_
            clear hK K
            simp only [Act.put, List.setIfInBounds_toArray, List.set_cons_zero, List.set_cons_succ]
            refine rg_done (by kernel_rfl) ?_
            exact ⟨rfl, g7, g8, by simp only [Act.put, List.setIfInBounds_toArray, List.set_cons_zero, List.set_cons_succ], by first | exact H | exact H.swap⟩
          exact AllReadyH.nil
        refine rg_cons (i := 5) rfl rfl (fun K hK => ?_) ?_
        · -- 5
          refine Stp.wp (Stp.alloc 8 rfl rfl zeroBA H ?_)
          clear H
          intro g8 w1 H
          simp only [cells_agg] at H
          clear HS
          have HS := H
          refine hK.out _ _ (H.sub (by repeat (first | exact List.Sublist.refl _ | apply List.Sublist.cons))) ?_
          clear hK K
          simp only [Act.put, List.setIfInBounds_toArray, List.set_cons_zero, List.set_cons_succ]
          refine rg_all (rs := [3, 4]) (by kernel_rfl) (by simp) ?_
          refine rg_cons (i := 3) rfl rfl (fun K hK => ?_) ?_
          · -- 3
            refine wp_callf rfl ent14 (flags_ok a b la.out lb.out _) rfl (fun v w1 hr => ?_)
            obtain ⟨rfl, hb1⟩ := hr
            replace H := H.grow hb1
            clear hb1
            clear HS
            have HS := H
            refine hK.out _ _ (H.sub (by repeat (first | exact List.Sublist.refl _ | apply List.Sublist.cons))) ?_
            clear hK K
            simp only [Act.put, List.setIfInBounds_toArray, List.set_cons_zero, List.set_cons_succ]
            refine rg_one (i := 4) (by kernel_rfl) rfl rfl (fun K hK => ?_)
            refine Stp.wp (Stp.alloc 7 rfl rfl zeroBA H ?_)
            clear H
            intro g7 w1 H
            simp only [cells_agg] at H
            clear HS
            have HS := H
            refine hK.out _ _ (H.sub (by repeat (first | exact List.Sublist.refl _ | apply List.Sublist.cons))) ?_
            clear hK K
            simp only [Act.put, List.setIfInBounds_toArray, List.set_cons_zero, List.set_cons_succ]
            refine rg_one (i := 6) (by kernel_rfl) rfl rfl (fun K hK => ?_)
            refine Stp.wp (Stp.str rfl size32 rfl rfl (BA_one _) H (by repeat (first | exact Upd.head | apply Upd.tail)) (BA_size _) (BA_size _) ?_)
            clear H
            intro w1 H
            clear HS
            have HS := H
            refine hK.out _ _ (H.sub (by repeat (first | exact List.Sublist.refl _ | apply List.Sublist.cons))) ?_
            clear hK K
            simp only [Act.put, List.setIfInBounds_toArray, List.set_cons_zero, List.set_cons_succ]
            refine rg_one (i := 7) (by kernel_rfl) rfl rfl (fun K hK => ?_)
            refine Stp.wp (Stp.str rfl size32 rfl rfl (BA_one _) H (by repeat (first | exact Upd.head | apply Upd.tail)) (BA_size _) (BA_size _) ?_)
            clear H
            intro w1 H
            clear HS
            have HS := H
            refine hK.out _ _ (H.sub (by repeat (first | exact List.Sublist.refl _ | apply List.Sublist.cons))) ?_
            clear hK K
            simp only [Act.put, List.setIfInBounds_toArray, List.set_cons_zero, List.set_cons_succ]
            refine rg_done (by kernel_rfl) ?_
            exact ⟨rfl, g7, g8, by simp only [Act.put, List.setIfInBounds_toArray, List.set_cons_zero, List.set_cons_succ], by first | exact H | exact H.swap⟩
          refine rg_cons (i := 4) rfl rfl (fun K hK => ?_) ?_
          · -- 4
            refine Stp.wp (Stp.alloc 7 rfl rfl zeroBA H ?_)
            clear H
            intro g7 w1 H
            simp only [cells_agg] at H
            clear HS
            have HS := H
            refine hK.out _ _ (H.sub (by repeat (first | exact List.Sublist.refl _ | apply List.Sublist.cons))) ?_
            clear hK K
            simp only [Act.put, List.setIfInBounds_toArray, List.set_cons_zero, List.set_cons_succ]
            refine rg_one (i := 3) (by kernel_rfl) rfl rfl (fun K hK => ?_)
            refine wp_callf rfl ent14 (flags_ok a b la.out lb.out _) rfl (fun v w1 hr => ?_)
            obtain ⟨rfl, hb1⟩ := hr
            replace H := H.grow hb1
            clear hb1
            clear HS
            have HS := H
            refine hK.out _ _ (H.sub (by repeat (first | exact List.Sublist.refl _ | apply List.Sublist.cons))) ?_
            clear hK K
            simp only [Act.put, List.setIfInBounds_toArray, List.set_cons_zero, List.set_cons_succ]
            refine rg_one (i := 6) (by kernel_rfl) rfl rfl (fun K hK => ?_)
            refine Stp.wp (Stp.str rfl size32 rfl rfl (BA_one _) H (by repeat (first | exact Upd.head | apply Upd.tail)) (BA_size _) (BA_size _) ?_)
            clear H
            intro w1 H
            clear HS
            have HS := H
            refine hK.out _ _ (H.sub (by repeat (first | exact List.Sublist.refl _ | apply List.Sublist.cons))) ?_
            clear hK K
            simp only [Act.put, List.setIfInBounds_toArray, List.set_cons_zero, List.set_cons_succ]
            refine rg_one (i := 7) (by kernel_rfl) rfl rfl (fun K hK => ?_)
            refine Stp.wp (Stp.str rfl size32 rfl rfl (BA_one _) H (by repeat (first | exact Upd.head | apply Upd.tail)) (BA_size _) (BA_size _) ?_)
            clear H
            intro w1 H
            clear HS
            have HS := H
            refine hK.out _ _ (H.sub (by repeat (first | exact List.Sublist.refl _ | apply List.Sublist.cons))) ?_
            clear hK K
            simp only [Act.put, List.setIfInBounds_toArray, List.set_cons_zero, List.set_cons_succ]
            refine rg_done (by kernel_rfl) ?_
            exact ⟨rfl, g7, g8, by simp only [Act.put, List.setIfInBounds_toArray, List.set_cons_zero, List.set_cons_succ], by first | exact H | exact H.swap⟩
          exact AllReadyH.nil
        exact AllReadyH.nil
      refine rg_cons (i := 4) rfl rfl (fun K hK => ?_) ?_
      · -- 4
        refine Stp.wp (Stp.alloc 7 rfl rfl zeroBA H ?_)
        clear H
        intro g7 w1 H
        simp only [cells_agg] at H
        clear HS
        have HS := H
        refine hK.out _ _ (H.sub (by repeat (first | exact List.Sublist.refl _ | apply List.Sublist.cons))) ?_
        clear hK K
        simp only [Act.put, List.setIfInBounds_toArray, List.set_cons_zero, List.set_cons_succ]
        refine rg_all (rs := [1, 5]) (by kernel_rfl) (by simp) ?_
        refine rg_cons (i := 1) rfl rfl (fun K hK => ?_) ?_
        · -- 1
          refine wp_callf rfl ent14 (flags_ok a b la.out lb.out _) rfl (fun v w1 hr => ?_)
          obtain ⟨rfl, hb1⟩ := hr
          replace H := H.grow hb1
          clear hb1
          clear HS
          have HS := H
          refine hK.out _ _ (H.sub (by repeat (first | exact List.Sublist.refl _ | apply List.Sublist.cons))) ?_
          clear hK K
          simp only [Act.put, List.setIfInBounds_toArray, List.set_cons_zero, List.set_cons_succ]
          refine rg_all (rs := [3, 5]) (by kernel_rfl) (by simp) ?_
          refine rg_cons (i := 3) rfl rfl (fun K hK => ?_) ?_
          · -- 3
            refine wp_callf rfl ent14 (flags_ok a b la.out lb.out _) rfl (fun v w1 hr => ?_)
            obtain ⟨rfl, hb1⟩ := hr
            replace H := H.grow hb1
            clear hb1
            clear HS
            have HS := H
            refine hK.out _ _ (H.sub (by repeat (first | exact List.Sublist.refl _ | apply List.Sublist.cons))) ?_
            clear hK K
            simp only [Act.put, List.setIfInBounds_toArray, List.set_cons_zero, List.set_cons_succ]
            refine rg_one (i := 5) (by kernel_rfl) rfl rfl (fun K hK => ?_)
            refine Stp.wp (Stp.alloc 8 rfl rfl zeroBA H ?_)
            clear H
            intro g8 w1 H
            simp only [cells_agg] at H
            clear HS
            have HS := H
            refine hK.out _ _ (H.sub (by repeat (first | exact List.Sublist.refl _ | apply List.Sublist.cons))) ?_
            clear hK K
            simp only [Act.put, List.setIfInBounds_toArray, List.set_cons_zero, List.set_cons_succ]
            refine rg_one (i := 6) (by kernel_rfl) rfl rfl (fun K hK => ?_)
            refine Stp.wp (Stp.str rfl size32 rfl rfl (BA_one _) H (by repeat (first | exact Upd.head | apply Upd.tail)) (BA_size _) (BA_size _) ?_)
            clear H
            intro w1 H
            clear HS
            have HS := H
            refine hK.out _ _ (H.sub (by repeat (first | exact List.Sublist.refl _ | apply List.Sublist.cons))) ?_
            clear hK K
            simp only [Act.put, List.setIfInBounds_toArray, List.set_cons_zero, List.set_cons_succ]
            refine rg_one (i := 7) (by kernel_rfl) rfl rfl (fun K hK => ?_)
            refine Stp.wp (Stp.str rfl size32 rfl rfl (BA_one _) H (by repeat (first | exact Upd.head | apply Upd.tail)) (BA_size _) (BA_size _) ?_)
            clear H
            intro w1 H
            clear HS
            have HS := H
            refine hK.out _ _ (H.sub (by repeat (first | exact List.Sublist.refl _ | apply List.Sublist.cons))) ?_
            clear hK K
            simp only [Act.put, List.setIfInBounds_toArray, List.set_cons_zero, List.set_cons_succ]
            refine rg_done (by kernel_rfl) ?_
            exact ⟨rfl, g7, g8, by simp only [Act.put, List.setIfInBounds_toArray, List.set_cons_zero, List.set_cons_succ], by first | exact H | exact H.swap⟩
          refine rg_cons (i := 5) rfl rfl (fun K hK => ?_) ?_
          · -- 5
            refine Stp.wp (Stp.alloc 8 rfl rfl zeroBA H ?_)
            clear H
            intro g8 w1 H
            simp only [cells_agg] at H
            clear HS
            have HS := H
            refine hK.out _ _ (H.sub (by repeat (first | exact List.Sublist.refl _ | apply List.Sublist.cons))) ?_
            clear hK K
            simp only [Act.put, List.setIfInBounds_toArray, List.set_cons_zero, List.set_cons_succ]
            refine rg_one (i := 3) (by kernel_rfl) rfl rfl (fun K hK => ?_)
            refine wp_callf rfl ent14 (flags_ok a b la.out lb.out _) rfl (fun v w1 hr => ?_)
            obtain ⟨rfl, hb1⟩ := hr
            replace H := H.grow hb1
            clear hb1
            clear HS
            have HS := H
            refine hK.out _ _ (H.sub (by repeat (first | exact List.Sublist.refl _ | apply List.Sublist.cons))) ?_
            clear hK K
            simp only [Act.put, List.setIfInBounds_toArray, List.set_cons_zero, List.set_cons_succ]
            refine rg_one (i := 6) (by kernel_rfl) rfl rfl (fun K hK => ?_)
            refine Stp.wp (Stp.str rfl size32 rfl rfl (BA_one _) H (by repeat (first | exact Upd.head | apply Upd.tail)) (BA_size _) (BA_size _) ?_)
            clear H
            intro w1 H
            clear HS
            have HS := H
            refine hK.out _ _ (H.sub (by repeat (first | exact List.Sublist.refl _ | apply List.Sublist.cons))) ?_
            clear hK K
            simp only [Act.put, List.setIfInBounds_toArray, List.set_cons_zero, List.set_cons_succ]
            refine rg_one (i := 7) (by kernel_rfl) rfl rfl (fun K hK => ?_)
            refine Stp.wp (Stp.str rfl size32 rfl rfl (BA_one _) H (by repeat (first | exact Upd.head | apply Upd.tail)) (BA_size _) (BA_size _) ?_)
            clear H
            intro w1 H
            clear HS
            have HS := H
            refine hK.out _ _ (H.sub (by repeat (first | exact List.Sublist.refl _ | apply List.Sublist.cons))) ?_
            clear hK K
            simp only [Act.put, List.setIfInBounds_toArray, List.set_cons_zero, List.set_cons_succ]
            refine rg_done (by kernel_rfl) ?_
            exact ⟨rfl, g7, g8, by simp only [Act.put, List.setIfInBounds_toArray, List.set_cons_zero, List.set_cons_succ], by first | exact H | exact H.swap⟩
          exact AllReadyH.nil
        refine rg_cons (i := 5) rfl rfl (fun K hK => ?_) ?_
        · -- 5
          refine Stp.wp (Stp.alloc 8 rfl rfl zeroBA H ?_)
          clear H
          intro g8 w1 H
          simp only [cells_agg] at H
          clear HS
          have HS := H
          refine hK.out _ _ (H.sub (by repeat (first | exact List.Sublist.refl _ | apply List.Sublist.cons))) ?_
          clear hK K
          simp only [Act.put, List.setIfInBounds_toArray, List.set_cons_zero, List.set_cons_succ]
          refine rg_one (i := 1) (by kernel_rfl) rfl rfl (fun K hK => ?_)
          refine wp_callf rfl ent14 (flags_ok a b la.out lb.out _) rfl (fun v w1 hr => ?_)
          obtain ⟨rfl, hb1⟩ := hr
          replace H := H.grow hb1
          clear hb1
          clear HS
          have HS := H
          refine hK.out _ _ (H.sub (by repeat (first | exact List.Sublist.refl _ | apply List.Sublist.cons))) ?_
          clear hK K
          simp only [Act.put, List.setIfInBounds_toArray, List.set_cons_zero, List.set_cons_succ]
          refine rg_one (i := 3) (by kernel_rfl) rfl rfl (fun K hK => ?_)
          refine wp_callf rfl ent14 (flags_ok a b la.out lb.out _) rfl (fun v w1 hr => ?_)
          obtain ⟨rfl, hb1⟩ := hr
          replace H := H.grow hb1
          clear hb1
          clear HS
          have HS := H
          refine hK.out _ _ (H.sub (by repeat (first | exact List.Sublist.refl _ | apply List.Sublist.cons))) ?_
          clear hK K
          simp only [Act.put, List.setIfInBounds_toArray, List.set_cons_zero, List.set_cons_succ]
          refine rg_one (i := 6) (by kernel_rfl) rfl rfl (fun K hK => ?_)
          refine Stp.wp (Stp.str rfl size32 rfl rfl (BA_one _) H (by repeat (first | exact Upd.head | apply Upd.tail)) (BA_size _) (BA_size _) ?_)
          clear H
          intro w1 H
          clear HS
          have HS := H
          refine hK.out _ _ (H.sub (by repeat (first | exact List.Sublist.refl _ | apply List.Sublist.cons))) ?_
          clear hK K
          simp only [Act.put, List.setIfInBounds_toArray, List.set_cons_zero, List.set_cons_succ]
          refine rg_one (i := 7) (by kernel_rfl) rfl rfl (fun K hK => ?_)
          refine Stp.wp (Stp.str rfl size32 rfl rfl (BA_one _) H (by repeat (first | exact Upd.head | apply Upd.tail)) (BA_size _) (BA_size _) ?_)
          clear H
          intro w1 H
          clear HS
          have HS := H
          refine hK.out _ _ (H.sub (by repeat (first | exact List.Sublist.refl _ | apply List.Sublist.cons))) ?_
          clear hK K
          simp only [Act.put, List.setIfInBounds_toArray, List.set_cons_zero, List.set_cons_succ]
          refine rg_done (by kernel_rfl) ?_
          exact ⟨rfl, g7, g8, by simp only [Act.put, List.setIfInBounds_toArray, List.set_cons_zero, List.set_cons_succ], by first | exact H | exact H.swap⟩
        exact AllReadyH.nil
      refine rg_cons (i := 5) rfl rfl (fun K hK => ?_) ?_
      · -- 5
        refine Stp.wp (Stp.alloc 8 rfl rfl zeroBA H ?_)
        clear H
        intro g8 w1 H
        simp only [cells_agg] at H
        clear HS
        have HS := H
        refine hK.out _ _ (H.sub (by repeat (first | exact List.Sublist.refl _ | apply List.Sublist.cons))) ?_
        clear hK K
        simp only [Act.put, List.setIfInBounds_toArray, List.set_cons_zero, List.set_cons_succ]
        refine rg_all (rs := [1, 4]) (by kernel_rfl) (by simp) ?_
        refine rg_cons (i := 1) rfl rfl (fun K hK => ?_) ?_
        · -- 1
          refine wp_callf rfl ent14 (flags_ok a b la.out lb.out _) rfl (fun v w1 hr => ?_)
          obtain ⟨rfl, hb1⟩ := hr
          replace H := H.grow hb1
          clear hb1
          clear HS
          have HS := H
          refine hK.out _ _ (H.sub (by repeat (first | exact List.Sublist.refl _ | apply List.Sublist.cons))) ?_
          clear hK K
          simp only [Act.put, List.setIfInBounds_toArray, List.set_cons_zero, List.set_cons_succ]
          refine rg_all (rs := [3, 4]) (by kernel_rfl) (by simp) ?_
          refine rg_cons (i := 3) rfl rfl (fun K hK => ?_) ?_
          · -- 3
            refine wp_callf rfl ent14 (flags_ok a b la.out lb.out _) rfl (fun v w1 hr => ?_)
            obtain ⟨rfl, hb1⟩ := hr
            replace H := H.grow hb1
            clear hb1
            clear HS
            have HS := H
            refine hK.out _ _ (H.sub (by repeat (first | exact List.Sublist.refl _ | apply List.Sublist.cons))) ?_
            clear hK K
            simp only [Act.put, List.setIfInBounds_toArray, List.set_cons_zero, List.set_cons_succ]
            refine rg_one (i := 4) (by kernel_rfl) rfl rfl (fun K hK => ?_)
            refine Stp.wp (Stp.alloc 7 rfl rfl zeroBA H ?_)
            clear H
            intro g7 w1 H
            simp only [cells_agg] at H
            clear HS
            have HS := H
            refine hK.out _ _ (H.sub (by repeat (first | exact List.Sublist.refl _ | apply List.Sublist.cons))) ?_
            clear hK K
            simp only [Act.put, List.setIfInBounds_toArray, List.set_cons_zero, List.set_cons_succ]
            refine rg_one (i := 6) (by kernel_rfl) rfl rfl (fun K hK => ?_)
            refine Stp.wp (Stp.str rfl size32 rfl rfl (BA_one _) H (by repeat (first | exact Upd.head | apply Upd.tail)) (BA_size _) (BA_size _) ?_)
            clear H
            intro w1 H
            clear HS
            have HS := H
            refine hK.out _ _ (H.sub (by repeat (first | exact List.Sublist.refl _ | apply List.Sublist.cons))) ?_
            clear hK K
            simp only [Act.put, List.setIfInBounds_toArray, List.set_cons_zero, List.set_cons_succ]
            refine rg_one (i := 7) (by kernel_rfl) rfl rfl (fun K hK => ?_)
            refine Stp.wp (Stp.str rfl size32 rfl rfl (BA_one _) H (by repeat (first | exact Upd.head | apply Upd.tail)) (BA_size _) (BA_size _) ?_)
            clear H
            intro w1 H
            clear HS
            have HS := H
            refine hK.out _ _ (H.sub (by repeat (first | exact List.Sublist.refl _ | apply List.Sublist.cons))) ?_
            clear hK K
            simp only [Act.put, List.setIfInBounds_toArray, List.set_cons_zero, List.set_cons_succ]
            refine rg_done (by kernel_rfl) ?_
            exact ⟨rfl, g7, g8, by simp only [Act.put, List.setIfInBounds_toArray, List.set_cons_zero, List.set_cons_succ], by first | exact H | exact H.swap⟩
          refine rg_cons (i := 4) rfl rfl (fun K hK => ?_) ?_
          · -- 4
            refine Stp.wp (Stp.alloc 7 rfl rfl zeroBA H ?_)
            clear H
            intro g7 w1 H
            simp only [cells_agg] at H
            clear HS
            have HS := H
            refine hK.out _ _ (H.sub (by repeat (first | exact List.Sublist.refl _ | apply List.Sublist.cons))) ?_
            clear hK K
            simp only [Act.put, List.setIfInBounds_toArray, List.set_cons_zero, List.set_cons_succ]
            refine rg_one (i := 3) (by kernel_rfl) rfl rfl (fun K hK => ?_)
            refine wp_callf rfl ent14 (flags_ok a b la.out lb.out _) rfl (fun v w1 hr => ?_)
            obtain ⟨rfl, hb1⟩ := hr
            replace H := H.grow hb1
            clear hb1
            clear HS
            have HS := H
            refine hK.out _ _ (H.sub (by repeat (first | exact List.Sublist.refl _ | apply List.Sublist.cons))) ?_
            clear hK K
            simp only [Act.put, List.setIfInBounds_toArray, List.set_cons_zero, List.set_cons_succ]
            refine rg_one (i := 6) (by kernel_rfl) rfl rfl (fun K hK => ?_)
            refine Stp.wp (Stp.str rfl size32 rfl rfl (BA_one _) H (by repeat (first | exact Upd.head | apply Upd.tail)) (BA_size _) (BA_size _) ?_)
            clear H
            intro w1 H
            clear HS
            have HS := H
            refine hK.out _ _ (H.sub (by repeat (first | exact List.Sublist.refl _ | apply List.Sublist.cons))) ?_
            clear hK K
            simp only [Act.put, List.setIfInBounds_toArray, List.set_cons_zero, List.set_cons_succ]
            refine rg_one (i := 7) (by kernel_rfl) rfl rfl (fun K hK => ?_)
            refine Stp.wp (Stp.str rfl size32 rfl rfl (BA_one _) H (by repeat (first | exact Upd.head | apply Upd.tail)) (BA_size _) (BA_size _) ?_)
            clear H
            intro w1 H
            clear HS
            have HS := H
            refine hK.out _ _ (H.sub (by repeat (first | exact List.Sublist.refl _ | apply List.Sublist.cons))) ?_
            clear hK K
            simp only [Act.put, List.setIfInBounds_toArray, List.set_cons_zero, List.set_cons_succ]
            refine rg_done (by kernel_rfl) ?_
            exact ⟨rfl, g7, g8, by simp only [Act.put, List.setIfInBounds_toArray, List.set_cons_zero, List.set_cons_succ], by first | exact H | exact H.swap⟩
          exact AllReadyH.nil
        refine rg_cons (i := 4) rfl rfl (fun K hK => ?_) ?_
        · -- 4
          refine Stp.wp (Stp.alloc 7 rfl rfl zeroBA H ?_)
          clear H
          intro g7 w1 H
          simp only [cells_agg] at H
          clear HS
          have HS := H
          refine hK.out _ _ (H.sub (by repeat (first | exact List.Sublist.refl _ | apply List.Sublist.cons))) ?_
          clear hK K
          simp only [Act.put, List.setIfInBounds_toArray, List.set_cons_zero, List.set_cons_succ]
          refine rg_one (i := 1) (by kernel_rfl) rfl rfl (fun K hK => ?_)
          refine wp_callf rfl ent14 (flags_ok a b la.out lb.out _) rfl (fun v w1 hr => ?_)
          obtain ⟨rfl, hb1⟩ := hr
          replace H := H.grow hb1
          clear hb1
          clear HS
          have HS := H
          refine hK.out _ _ (H.sub (by repeat (first | exact List.Sublist.refl _ | apply List.Sublist.cons))) ?_
          clear hK K
          simp only [Act.put, List.setIfInBounds_toArray, List.set_cons_zero, List.set_cons_succ]
          refine rg_one (i := 3) (by kernel_rfl) rfl rfl (fun K hK => ?_)
          refine wp_callf rfl ent14 (flags_ok a b la.out lb.out _) rfl (fun v w1 hr => ?_)
          obtain ⟨rfl, hb1⟩ := hr
          replace H := H.grow hb1
          clear hb1
          clear HS
          have HS := H
          refine hK.out _ _ (H.sub (by repeat (first | exact List.Sublist.refl _ | apply List.Sublist.cons))) ?_
          clear hK K
          simp only [Act.put, List.setIfInBounds_toArray, List.set_cons_zero, List.set_cons_succ]
          refine rg_one (i := 6) (by kernel_rfl) rfl rfl (fun K hK => ?_)
          refine Stp.wp (Stp.str rfl size32 rfl rfl (BA_one _) H (by repeat (first | exact Upd.head | apply Upd.tail)) (BA_size _) (BA_size _) ?_)
          clear H
          intro w1 H
          clear HS
          have HS := H
          refine hK.out _ _ (H.sub (by repeat (first | exact List.Sublist.refl _ | apply List.Sublist.cons))) ?_
          clear hK K
          simp only [Act.put, List.setIfInBounds_toArray, List.set_cons_zero, List.set_cons_succ]
          refine rg_one (i := 7) (by kernel_rfl) rfl rfl (fun K hK => ?_)
          refine Stp.wp (Stp.str rfl size32 rfl rfl (BA_one _) H (by repeat (first | exact Upd.head | apply Upd.tail)) (BA_size _) (BA_size _) ?_)
          clear H
          intro w1 H
          clear HS
          have HS := H
          refine hK.out _ _ (H.sub (by repeat (first | exact List.Sublist.refl _ | apply List.Sublist.cons))) ?_
          clear hK K
          simp only [Act.put, List.setIfInBounds_toArray, List.set_cons_zero, List.set_cons_succ]
          refine rg_done (by kernel_rfl) ?_
          exact ⟨rfl, g7, g8, by simp only [Act.put, List.setIfInBounds_toArray, List.set_cons_zero, List.set_cons_succ], by first | exact H | exact H.swap⟩
        exact AllReadyH.nil
      exact AllReadyH.nil
    rintro a' w' ⟨g7, g8, rfl, H⟩
    simp only [Act.put, List.setIfInBounds_toArray, List.set_cons_zero, List.set_cons_succ]
    go_wp2_with (first | (with_reducible refine wpl rfl (Stp.box 3 rfl rfl rfl H ?_); clear H; intro g3 w1 H; simp only [Act.put, List.setIfInBounds_toArray, List.set_cons_zero, List.set_cons_succ]; simp only [eval_tmp, eval_const, getD_lit0, getD_lits, cells_agg, cells_int, cells_bool, cells_string, cells_pointer, cells_slice, cells_map, List.setIfInBounds_toArray, List.set_cons_zero, List.set_cons_succ] at H) | (with_reducible refine wpl rfl (Stp.stc rfl size4 rfl rfl rfl rfl H (by repeat (first | exact Upd.head | apply Upd.tail)) (by first | (rw [BA_size]; omega) | omega | (simp; done) | (simp; omega)) ?_); clear H; intro w1 H; simp only [Act.put, List.setIfInBounds_toArray, List.set_cons_zero, List.set_cons_succ]; simp only [eval_tmp, eval_const, getD_lit0, getD_lits, cells_agg, cells_int, cells_bool, cells_string, cells_pointer, cells_slice, cells_map, List.setIfInBounds_toArray, List.set_cons_zero, List.set_cons_succ] at H))
    rw [BA_set, BA_set] at H
    refine rg_begin 27 rfl (S := fun W => St _ _ W _) (by kernel_rfl) H.drew ?_
    replace H := H.drew
    have HS := H
    first | (refine rg_take (i := 0) rfl (by kernel_rfl) (by kernel_rfl) (by kernel_rfl) (Yld.ldr rfl rfl agg24 size24 rfl (by repeat (first | exact List.mem_cons_self | apply List.mem_cons_of_mem)) (by first | exact BA_size _ | rfl | (simp; done) | assumption)) HS ?_; simp only [Act.put, List.setIfInBounds_toArray, List.set_cons_zero, List.set_cons_succ]) | (refine rg_take (i := 0) rfl (by kernel_rfl) (by kernel_rfl) (by kernel_rfl) (Yld.ldor rfl rfl agg24 size24 rfl (by assumption) (by first | exact BA_size _ | rfl | (simp; done) | assumption) (by assumption)) HS ?_; simp only [Act.put, List.setIfInBounds_toArray, List.set_cons_zero, List.set_cons_succ])
    refine rg_take (i := 1) rfl (by kernel_rfl) (by kernel_rfl) (by kernel_rfl) (Yld.move rfl rfl) HS ?_; simp only [Act.put, eval_tmp, eval_const, getD_lit0, getD_lits, if_true, if_false, List.setIfInBounds_toArray, List.set_cons_zero, List.set_cons_succ]
    first | (refine rg_take (i := 3) rfl (by kernel_rfl) (by kernel_rfl) (by kernel_rfl) (Yld.ldr rfl rfl agg24 size24 rfl (by repeat (first | exact List.mem_cons_self | apply List.mem_cons_of_mem)) (by first | exact BA_size _ | rfl | (simp; done) | assumption)) HS ?_; simp only [Act.put, List.setIfInBounds_toArray, List.set_cons_zero, List.set_cons_succ]) | (refine rg_take (i := 3) rfl (by kernel_rfl) (by kernel_rfl) (by kernel_rfl) (Yld.ldor rfl rfl agg24 size24 rfl (by assumption) (by first | exact BA_size _ | rfl | (simp; done) | assumption) (by assumption)) HS ?_; simp only [Act.put, List.setIfInBounds_toArray, List.set_cons_zero, List.set_cons_succ])
    refine rg_take (i := 4) rfl (by kernel_rfl) (by kernel_rfl) (by kernel_rfl) (Yld.move rfl rfl) HS ?_; simp only [Act.put, eval_tmp, eval_const, getD_lit0, getD_lits, if_true, if_false, List.setIfInBounds_toArray, List.set_cons_zero, List.set_cons_succ]
    refine rg_one (i := 2) (by kernel_rfl) rfl rfl (fun K hK => ?_)
    refine wp_callf rfl ent15 (has_ok a b (kq : Int) la.out lb.out x HX.out _) rfl (fun v w1 hr => ?_)
    obtain ⟨rfl, hb1⟩ := hr
    replace H := H.grow hb1
    clear hb1
    clear HS
    have HS := H
    refine hK.out _ _ HS ?_
    clear hK K
    simp only [Act.put, List.setIfInBounds_toArray, List.set_cons_zero, List.set_cons_succ]
    refine rg_one (i := 5) (by kernel_rfl) rfl rfl (fun K hK => ?_)
    refine wp_callf rfl ent16 (set_ok a b (kq : Int) la.out lb.out x HX.out _) rfl (fun v w1 hr => ?_)
    obtain ⟨rfl, hb1⟩ := hr
    replace H := H.grow hb1
    clear hb1
    clear HS
    have HS := H
    refine hK.out _ _ HS ?_
    clear hK K
    simp only [Act.put, List.setIfInBounds_toArray, List.set_cons_zero, List.set_cons_succ]
    refine rg_take (i := 6) rfl (by kernel_rfl) (by kernel_rfl) (by kernel_rfl) (Yld.of rfl (fun W _ => by go_simp; first | done | with_reducible rfl)) HS ?_; simp only [Act.put, List.setIfInBounds_toArray, List.set_cons_zero, List.set_cons_succ]
    refine rg_take (i := 7) rfl (by kernel_rfl) (by kernel_rfl) (by kernel_rfl) (Yld.move rfl rfl) HS ?_; simp only [Act.put, eval_tmp, eval_const, getD_lit0, getD_lits, if_true, if_false, List.setIfInBounds_toArray, List.set_cons_zero, List.set_cons_succ]
    first | (refine rg_take (i := 8) rfl (by kernel_rfl) (by kernel_rfl) (by kernel_rfl) (Yld.ldr rfl rfl agg24 size24 rfl (by repeat (first | exact List.mem_cons_self | apply List.mem_cons_of_mem)) (by first | exact BA_size _ | rfl | (simp; done) | assumption)) HS ?_; simp only [Act.put, List.setIfInBounds_toArray, List.set_cons_zero, List.set_cons_succ]) | (refine rg_take (i := 8) rfl (by kernel_rfl) (by kernel_rfl) (by kernel_rfl) (Yld.ldor rfl rfl agg24 size24 rfl (by assumption) (by first | exact BA_size _ | rfl | (simp; done) | assumption) (by assumption)) HS ?_; simp only [Act.put, List.setIfInBounds_toArray, List.set_cons_zero, List.set_cons_succ])
    refine rg_take (i := 9) rfl (by kernel_rfl) (by kernel_rfl) (by kernel_rfl) (Yld.move rfl rfl) HS ?_; simp only [Act.put, eval_tmp, eval_const, getD_lit0, getD_lits, if_true, if_false, List.setIfInBounds_toArray, List.set_cons_zero, List.set_cons_succ]
    first | (refine rg_take (i := 11) rfl (by kernel_rfl) (by kernel_rfl) (by kernel_rfl) (Yld.ldr rfl rfl agg32 size32 rfl (by repeat (first | exact List.mem_cons_self | apply List.mem_cons_of_mem)) (by first | exact BA_size _ | rfl | (simp; done) | assumption)) HS ?_; simp only [Act.put, List.setIfInBounds_toArray, List.set_cons_zero, List.set_cons_succ]) | (refine rg_take (i := 11) rfl (by kernel_rfl) (by kernel_rfl) (by kernel_rfl) (Yld.ldor rfl rfl agg32 size32 rfl (by assumption) (by first | exact BA_size _ | rfl | (simp; done) | assumption) (by assumption)) HS ?_; simp only [Act.put, List.setIfInBounds_toArray, List.set_cons_zero, List.set_cons_succ])
    refine rg_one (i := 10) (by kernel_rfl) rfl rfl (fun K hK => ?_)
    refine wp_callf rfl ent17 (with_ok a b (kq : Int) la.out lb.out c d HW.out _) rfl (fun v w1 hr => ?_)
    obtain ⟨rfl, hb1⟩ := hr
    replace H := H.grow hb1
    clear hb1
    clear HS
    have HS := H
    refine hK.out _ _ HS ?_
    clear hK K
    simp only [Act.put, List.setIfInBounds_toArray, List.set_cons_zero, List.set_cons_succ]
    refine rg_one (i := 12) (by kernel_rfl) rfl rfl (fun K hK => ?_)
    refine wp_callf rfl ent18 (rof_ok (updB (fun i => hasM (a, b) (i : Int)) kq true) c d FC.out.1 FC.out.2 _) rfl (fun v w1 hr => ?_)
    obtain ⟨rfl, hb1⟩ := hr
    replace H := H.grow hb1
    clear hb1
    clear HS
    have HS := H
    refine hK.out _ _ HS ?_
    clear hK K
    simp only [Act.put, List.setIfInBounds_toArray, List.set_cons_zero, List.set_cons_succ]
    refine rg_take (i := 13) rfl (by kernel_rfl) (by kernel_rfl) (by kernel_rfl) (Yld.of rfl (fun W _ => by go_simp; first | done | with_reducible rfl)) HS ?_; simp only [Act.put, List.setIfInBounds_toArray, List.set_cons_zero, List.set_cons_succ]
    refine rg_take (i := 14) rfl (by kernel_rfl) (by kernel_rfl) (by kernel_rfl) (Yld.pick rfl rfl rfl) HS ?_; simp only [Act.put, eval_tmp, eval_const, getD_lit0, getD_lits, if_true, if_false, List.setIfInBounds_toArray, List.set_cons_zero, List.set_cons_succ]
    refine rg_take (i := 15) rfl (by kernel_rfl) (by kernel_rfl) (by kernel_rfl) (Yld.move rfl rfl) HS ?_; simp only [Act.put, eval_tmp, eval_const, getD_lit0, getD_lits, if_true, if_false, List.setIfInBounds_toArray, List.set_cons_zero, List.set_cons_succ]
    first | (refine rg_take (i := 16) rfl (by kernel_rfl) (by kernel_rfl) (by kernel_rfl) (Yld.ldr rfl rfl agg24 size24 rfl (by repeat (first | exact List.mem_cons_self | apply List.mem_cons_of_mem)) (by first | exact BA_size _ | rfl | (simp; done) | assumption)) HS ?_; simp only [Act.put, List.setIfInBounds_toArray, List.set_cons_zero, List.set_cons_succ]) | (refine rg_take (i := 16) rfl (by kernel_rfl) (by kernel_rfl) (by kernel_rfl) (Yld.ldor rfl rfl agg24 size24 rfl (by assumption) (by first | exact BA_size _ | rfl | (simp; done) | assumption) (by assumption)) HS ?_; simp only [Act.put, List.setIfInBounds_toArray, List.set_cons_zero, List.set_cons_succ])
    refine rg_take (i := 17) rfl (by kernel_rfl) (by kernel_rfl) (by kernel_rfl) (Yld.move rfl rfl) HS ?_; simp only [Act.put, eval_tmp, eval_const, getD_lit0, getD_lits, if_true, if_false, List.setIfInBounds_toArray, List.set_cons_zero, List.set_cons_succ]
    first | (refine rg_take (i := 19) rfl (by kernel_rfl) (by kernel_rfl) (by kernel_rfl) (Yld.ldr rfl rfl agg32 size32 rfl (by repeat (first | exact List.mem_cons_self | apply List.mem_cons_of_mem)) (by first | exact BA_size _ | rfl | (simp; done) | assumption)) HS ?_; simp only [Act.put, List.setIfInBounds_toArray, List.set_cons_zero, List.set_cons_succ]) | (refine rg_take (i := 19) rfl (by kernel_rfl) (by kernel_rfl) (by kernel_rfl) (Yld.ldor rfl rfl agg32 size32 rfl (by assumption) (by first | exact BA_size _ | rfl | (simp; done) | assumption) (by assumption)) HS ?_; simp only [Act.put, List.setIfInBounds_toArray, List.set_cons_zero, List.set_cons_succ])
    refine rg_one (i := 18) (by kernel_rfl) rfl rfl (fun K hK => ?_)
    refine wp_callf rfl ent19 (without_ok a b (kq : Int) la.out lb.out c' d' HO.out _) rfl (fun v w1 hr => ?_)
    obtain ⟨rfl, hb1⟩ := hr
    replace H := H.grow hb1
    clear hb1
    clear HS
    have HS := H
    refine hK.out _ _ HS ?_
    clear hK K
    simp only [Act.put, List.setIfInBounds_toArray, List.set_cons_zero, List.set_cons_succ]
    refine rg_one (i := 20) (by kernel_rfl) rfl rfl (fun K hK => ?_)
    refine wp_callf rfl ent18 (rof_ok (updB (fun i => hasM (a, b) (i : Int)) kq false) c' d' FD.out.1 FD.out.2 _) rfl (fun v w1 hr => ?_)
    obtain ⟨rfl, hb1⟩ := hr
    replace H := H.grow hb1
    clear hb1
    clear HS
    have HS := H
    refine hK.out _ _ HS ?_
    clear hK K
    simp only [Act.put, List.setIfInBounds_toArray, List.set_cons_zero, List.set_cons_succ]
    refine rg_take (i := 21) rfl (by kernel_rfl) (by kernel_rfl) (by kernel_rfl) (Yld.of rfl (fun W _ => by go_simp; first | done | with_reducible rfl)) HS ?_; simp only [Act.put, List.setIfInBounds_toArray, List.set_cons_zero, List.set_cons_succ]
    refine rg_take (i := 22) rfl (by kernel_rfl) (by kernel_rfl) (by kernel_rfl) (Yld.pick rfl rfl rfl) HS ?_; simp only [Act.put, eval_tmp, eval_const, getD_lit0, getD_lits, if_true, if_false, List.setIfInBounds_toArray, List.set_cons_zero, List.set_cons_succ]
    refine rg_take (i := 23) rfl (by kernel_rfl) (by kernel_rfl) (by kernel_rfl) (Yld.move rfl rfl) HS ?_; simp only [Act.put, eval_tmp, eval_const, getD_lit0, getD_lits, if_true, if_false, List.setIfInBounds_toArray, List.set_cons_zero, List.set_cons_succ]
    refine rg_one (i := 24) (by kernel_rfl) rfl rfl (fun K hK => ?_)
    refine wp_callf rfl ent9 (awake_ok _) rfl (fun v w1 hr => ?_)
    obtain ⟨rfl, hb1⟩ := hr
    replace H := H.grow hb1
    clear hb1
    clear HS
    have HS := H
    refine hK.out _ _ HS ?_
    clear hK K
    simp only [Act.put, List.setIfInBounds_toArray, List.set_cons_zero, List.set_cons_succ]
    refine rg_take (i := 25) rfl (by kernel_rfl) (by kernel_rfl) (by kernel_rfl) (Yld.pick rfl rfl rfl) HS ?_; simp only [Act.put, eval_tmp, eval_const, getD_lit0, getD_lits, if_true, if_false, List.setIfInBounds_toArray, List.set_cons_zero, List.set_cons_succ]
    refine rg_take (i := 26) rfl (by kernel_rfl) (by kernel_rfl) (by kernel_rfl) (Yld.assign rfl rfl) HS ?_; simp only [Act.put, eval_tmp, eval_const, getD_lit0, getD_lits, if_true, if_false, List.setIfInBounds_toArray, List.set_cons_zero, List.set_cons_succ]
    refine rg_done (by kernel_rfl) ?_
    go_wp2
    go_ret
    exact ⟨_, rfl, rfl, H.below⟩
set_option maxRecDepth 100000 in
theorem maskRanks_lifted (os : Os) (started : os.Started) (H : Type) (enc : TypeId × Value → H) :
    ReturnsInHanded {} Try.checked os 4 .any (Rows.maskRanksSpec.pre6 enc Try.prog Try.f4 Rows.maskRanksRow.domain false) (Rows.maskRanksSpec.post enc Try.prog Try.f4 false true false false) := by
  refine law_lifted (C := Try.checked) own started (by kernel_rfl) Try.func4 laidOut rfl Try.underlying4 rfl (by kernel_rfl) (fun ds hd => ?_)
    (ChangeSpec.witness6 (enc := enc) (C := Try.checked) false ⟨#[], #[.agg #[.int .u64 0, .int .u64 0], .int .i64 0, .bool false], []⟩ 8 (by kernel_rfl) (by kernel_rfl) (by kernel_rfl) (by kernel_rfl)) ?_
  · match ds, hd with
    | [d0, d1, d2], _ => exact ⟨rfl, rfl, rfl⟩
  intro W base args ds p hval hA
  rw [Try.params4] at hA hval
  obtain ⟨v0, vs0, d0, ds0, p0, q0, hargs, rfl, rfl, h0, r0⟩ := trodAll_cons hA
  obtain ⟨v1, vs1, d1, ds1, p1, q1, rfl, rfl, rfl, h1, r1⟩ := trodAll_cons r0
  obtain ⟨v2, vs2, d2, ds2, p2, q2, rfl, rfl, rfl, h2, r2⟩ := trodAll_cons r1
  obtain ⟨rfl, rfl, rfl⟩ := trodAll_nil r2
  obtain rfl : args = #[v0, v1, v2] := by cases args; simp_all
  obtain ⟨a, b, rfl, al, bl⟩ := open_M (hval 0 24 v0 rfl rfl) h0
  obtain ⟨rk, rfl, _, _, rkw⟩ := open_int Try.underlying3 (hval 1 3 v1 rfl rfl) h1
  obtain ⟨nr, rfl, _⟩ := open_bool Try.underlying4 (hval 2 4 v2 rfl rfl) h2
  exact by cases nr; exact law_far a b rk al bl W; exact law_near a b rk al bl W
theorem maskRanks_over : Rows.maskRanksRow.holds Try.pinned (OpenSpec.ofChange Rows.maskRanksSpec) :=
  OpenClaim.holds_of_wide 4 Try.f4 rfl rfl rfl rfl rfl rfl rfl ⟨rfl, rfl, rfl, rfl, rfl⟩ rfl rfl rfl rfl rfl (by kernel_rfl) Try.func4 (by kernel_rfl)
    (of_decide_eq_true (by kernel_rfl)) (by unfold Func.isWrapper; first | (rw [if_pos (by decide +kernel)]; kernel_rfl) | (rw [if_neg (by decide +kernel)]; exact ⟨rfl, rfl⟩))
    (fun os started H enc _ => maskRanks_lifted os started H enc)
theorem maskRanks_holds : Rows.MaskRanksSaid := maskRanks_over
#print axioms maskRanks_holds
end Go.Proofs.Ytcgogcolfbpcfaa
