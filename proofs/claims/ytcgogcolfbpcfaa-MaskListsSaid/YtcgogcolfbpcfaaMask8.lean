/- The statement MaskRanks of layer 5 (mask): what it comes to in bits, and the law's walk at a rank as it is; no condition. -/
import Derived.Test.YtcgogcolfbpcfaaMask7
namespace Go.Proofs.Ytcgogcolfbpcfaa
open Go.ChangeShapes Go.WideShapes Go.ChangeAt Go.RowKit Go.Deep
set_option linter.unusedVariables false
set_option linter.unusedSimpArgs false
theorem set_bit (a b : Nat) (k : Nat) (hk : k < 128) (i : Nat) (hi : i < 64) : (setM (a, b) (k : Int)).1.testBit i = (if i = k then true else hasM (a, b) (i : Int)) ∧ (setM (a, b) (k : Int)).2.testBit i = (if 64 + i = k then true else hasM (a, b) ((64 + i : Nat) : Int)) := by
  have hr : ¬ ((k : Int) < 0 ∨ 128 ≤ (k : Int)) := by omega
  have h1 : ¬ ((i : Int) < 0 ∨ 128 ≤ (i : Int)) := by omega
  have h2 : ¬ (((64 + i : Nat) : Int) < 0 ∨ 128 ≤ ((64 + i : Nat) : Int)) := by omega
  have h3 : (i : Int) < 64 := by omega
  have h4 : ¬ ((64 + i : Nat) : Int) < 64 := by omega
  have e1 : hasM (a, b) (i : Int) = a.testBit i := by unfold hasM; simp only [h1, h3, if_true, decide_false, Bool.not_false, Bool.true_and, Int.toNat_natCast]
  have e2 : hasM (a, b) ((64 + i : Nat) : Int) = b.testBit i := by
    unfold hasM
    simp only [h2, h4, if_false, decide_false, Bool.not_false, Bool.true_and, Int.toNat_natCast]
    rw [show 64 + i - 64 = i by omega]
  rw [e1, e2]
  unfold setM
  rw [if_neg hr, Int.toNat_natCast]
  by_cases h64 : (k : Int) < 64
  · rw [if_pos h64]
    refine ⟨?_, ?_⟩
    · simp only [Nat.testBit_or, Nat.testBit_two_pow]
      by_cases e : i = k
      · subst e; simp
      · have : ¬ k = i := fun h => e h.symm
        simp [e, this]
    · rw [if_neg (by omega)]
  · rw [if_neg h64]
    refine ⟨?_, ?_⟩
    · rw [if_neg (by omega)]
    · simp only [Nat.testBit_or, Nat.testBit_two_pow]
      by_cases e : 64 + i = k
      · have : k - 64 = i := by omega
        simp [e, this]
      · have : ¬ k - 64 = i := by omega
        simp [e, this]
theorem unset_bit (a b : Nat) (ha : a < 18446744073709551616) (hb : b < 18446744073709551616) (k : Nat) (hk : k < 128) (i : Nat) (hi : i < 64) : (unM (a, b) (k : Int)).1.testBit i = (if i = k then false else hasM (a, b) (i : Int)) ∧ (unM (a, b) (k : Int)).2.testBit i = (if 64 + i = k then false else hasM (a, b) ((64 + i : Nat) : Int)) := by
  have hr : ¬ ((k : Int) < 0 ∨ 128 ≤ (k : Int)) := by omega
  have h1 : ¬ ((i : Int) < 0 ∨ 128 ≤ (i : Int)) := by omega
  have h2 : ¬ (((64 + i : Nat) : Int) < 0 ∨ 128 ≤ ((64 + i : Nat) : Int)) := by omega
  have h3 : (i : Int) < 64 := by omega
  have h4 : ¬ ((64 + i : Nat) : Int) < 64 := by omega
  have e1 : hasM (a, b) (i : Int) = a.testBit i := by unfold hasM; simp only [h1, h3, if_true, decide_false, Bool.not_false, Bool.true_and, Int.toNat_natCast]
  have e2 : hasM (a, b) ((64 + i : Nat) : Int) = b.testBit i := by
    unfold hasM
    simp only [h2, h4, if_false, decide_false, Bool.not_false, Bool.true_and, Int.toNat_natCast]
    rw [show 64 + i - 64 = i by omega]
  rw [e1, e2]
  unfold unM
  rw [if_neg hr, Int.toNat_natCast]
  by_cases h64 : (k : Int) < 64
  · rw [if_pos h64]
    refine ⟨?_, ?_⟩
    · show (mn a (2 ^ k)).testBit i = _
      rw [mn_bit _ _ _ (p2_lt (by omega)) ha, Nat.testBit_two_pow]
      by_cases e : i = k
      · subst e; simp
      · have : ¬ k = i := fun h => e h.symm
        simp [e, this]
    · rw [if_neg (by omega)]
  · rw [if_neg h64]
    refine ⟨?_, ?_⟩
    · rw [if_neg (by omega)]
    · show (mn b (2 ^ (k - 64))).testBit i = _
      rw [mn_bit _ _ _ (p2_lt (by omega)) hb, Nat.testBit_two_pow]
      by_cases e : 64 + i = k
      · have : k - 64 = i := by omega
        simp [e, this]
      · have : ¬ k - 64 = i := by omega
        simp [e, this]
theorem has_bit (a b i : Nat) (hi : i < 64) : hasM (a, b) (i : Int) = a.testBit i ∧ hasM (a, b) ((64 + i : Nat) : Int) = b.testBit i := by
  have h1 : ¬ ((i : Int) < 0 ∨ 128 ≤ (i : Int)) := by omega
  have h2 : ¬ (((64 + i : Nat) : Int) < 0 ∨ 128 ≤ ((64 + i : Nat) : Int)) := by omega
  have h3 : (i : Int) < 64 := by omega
  have h4 : ¬ ((64 + i : Nat) : Int) < 64 := by omega
  refine ⟨?_, ?_⟩
  · unfold hasM; simp only [h1, h3, if_true, decide_false, Bool.not_false, Bool.true_and, Int.toNat_natCast]
  · unfold hasM
    simp only [h2, h4, if_false, decide_false, Bool.not_false, Bool.true_and, Int.toNat_natCast]
    rw [show 64 + i - 64 = i by omega]
attribute [local irreducible] pop low mn hasM BA numF
attribute [local go_sem] equalIn_M eqg_M
theorem pick_any (b : Int) (n : Nat) (hn : 0 < n) (hn2 : n ≤ 1000000) (w : World) :
    Calls Try.prog 13 #[.int .i64 b, .int .i64 (n : Int)] w (Ret fun v w' => ∃ k : Nat, k < n ∧ v = .int .i64 (k : Int) ∧ Below w.heap.size w w') := by
  have H := St.init w
  have hr : -(n : Int) < b.tmod n ∧ b.tmod n < n := by
    have h1 := Int.emod_nonneg b (show (n : Int) ≠ 0 by omega)
    have h2 := Int.emod_lt_of_pos b (show (0 : Int) < n by omega)
    have h := Int.tmod_eq_emod (a := b) (b := (n : Int))
    rw [Int.natAbs_natCast] at h
    split at h <;> omega
  obtain ⟨e, he⟩ : ∃ e, b.tmod n = e := ⟨_, rfl⟩
  rw [he] at hr
  obtain ⟨h1, h2⟩ := hr
  have n1 : ¬ (n : Int) < 1 := by omega
  have nz : ((n : Int) == 0) = false := by simp; omega
  by_cases h0 : e < 0
  · go_enter Try.func13, Try.ntmps13
    go_wp2
    go_ret
    exact ⟨_, rfl, (e + n).toNat, by omega, congrArg (Value.int IntKind.i64) (show e + (n : Int) = _ by omega), H.below⟩
  · go_enter Try.func13, Try.ntmps13
    go_wp2
    go_ret
    exact ⟨_, rfl, e.toNat, by omega, congrArg (Value.int IntKind.i64) (show e = _ by omega), H.below⟩
theorem pick_130 (b : Int) (w : World) :
    Calls Try.prog 13 #[.int .i64 b, .int .i64 130] w (Ret fun v w' => ∃ k : Nat, k < 130 ∧ v = .int .i64 (k : Int) ∧ Below w.heap.size w w') := pick_any b 130 (by omega) (by omega) w
/-- What the walk needs of a rank. -/
structure Fits (a b : Nat) (r : Int) (x : Bool) (c d c' d' : Nat) : Prop where
  has : hasM (a, b) r = x
  set : setM (a, b) r = (c, d)
  uns : unM (a, b) r = (c', d')
  yes : ∀ k : Nat, r = k → k < 128 → (numF (updB (fun i => hasM (a, b) (i : Int)) k true) 0 64 = c ∧ numF (updB (fun i => hasM (a, b) (i : Int)) k true) 64 64 = d) ∧ (numF (updB (fun i => hasM (a, b) (i : Int)) k false) 0 64 = c' ∧ numF (updB (fun i => hasM (a, b) (i : Int)) k false) 64 64 = d')
  no : (r < 0 ∨ 128 ≤ r) → (numF (fun i => hasM (a, b) (i : Int)) 0 64 = c ∧ numF (fun i => hasM (a, b) (i : Int)) 64 64 = d) ∧ (numF (fun i => hasM (a, b) (i : Int)) 0 64 = c' ∧ numF (fun i => hasM (a, b) (i : Int)) 64 64 = d')
theorem fits (a b : Nat) (r : Int) (ha : a < 18446744073709551616) (hb : b < 18446744073709551616) : ∃ x c d c' d', Fits a b r x c d c' d' := by
  have hs := setM_lt (m := (a, b)) (r := r) ⟨ha, hb⟩
  have hu := unM_lt (m := (a, b)) (r := r) ⟨ha, hb⟩
  refine ⟨_, (setM (a, b) r).1, (setM (a, b) r).2, (unM (a, b) r).1, (unM (a, b) r).2, ⟨rfl, rfl, rfl, ?_, ?_⟩⟩
  · rintro k rfl hk
    refine ⟨of_eq hs.1 hs.2 (fun i hi => ?_) (fun i hi => ?_), of_eq hu.1 hu.2 (fun i hi => ?_) (fun i hi => ?_)⟩
    · rw [(set_bit a b k hk i hi).1]; rfl
    · rw [(set_bit a b k hk i hi).2]; rfl
    · rw [(unset_bit a b ha hb k hk i hi).1]; rfl
    · rw [(unset_bit a b ha hb k hk i hi).2]; rfl
  · intro h
    have e1 : setM (a, b) r = (a, b) := by unfold setM; exact if_pos h
    have e2 : unM (a, b) r = (a, b) := by unfold unM; exact if_pos h
    rw [e1, e2]
    exact ⟨of_eq ha hb (fun i hi => (has_bit a b i hi).1) (fun i hi => (has_bit a b i hi).2), of_eq ha hb (fun i hi => (has_bit a b i hi).1) (fun i hi => (has_bit a b i hi).2)⟩
set_option maxRecDepth 100000 in
set_option maxHeartbeats 4000000 in
theorem law_far (a b : Nat) (r0 : Int) (ha : a < 18446744073709551616) (hb : b < 18446744073709551616) (w : World) :
    Calls Try.prog 4 #[.agg #[.int .u64 (a : Int), .int .u64 (b : Int)], .int .i64 r0, .bool false] w (Ret fun v w' => v = .bool true ∧ Below w.heap.size w w') := by
  have H := St.init w
  have la := Lib.hid ha
  have lb := Lib.hid hb
  clear ha hb
  go_enter Try.func4, Try.ntmps4
  go_wp2_with (first | (with_reducible refine wpl rfl (Stp.box 3 rfl rfl rfl H ?_); clear H; intro g3 w1 H; simp only [Act.put, List.setIfInBounds_toArray, List.set_cons_zero, List.set_cons_succ]; simp only [eval_tmp, eval_const, getD_lit0, getD_lits, cells_agg, cells_int, cells_bool, cells_string, cells_pointer, cells_slice, cells_map, List.setIfInBounds_toArray, List.set_cons_zero, List.set_cons_succ] at H) | (with_reducible refine wpl rfl (Stp.stc rfl size4 rfl rfl rfl rfl H (by repeat (first | exact Upd.head | apply Upd.tail)) (by first | (rw [BA_size]; omega) | omega | (simp; done) | (simp; omega)) ?_); clear H; intro w1 H; simp only [Act.put, List.setIfInBounds_toArray, List.set_cons_zero, List.set_cons_succ]; simp only [eval_tmp, eval_const, getD_lit0, getD_lits, cells_agg, cells_int, cells_bool, cells_string, cells_pointer, cells_slice, cells_map, List.setIfInBounds_toArray, List.set_cons_zero, List.set_cons_succ] at H))
  generalize r0 = r
  obtain ⟨x, c, d, c', d', hf⟩ := fits a b r la.out lb.out
  have HX := Lib.hid hf.has
  have HW := Lib.hid hf.set
  have HO := Lib.hid hf.uns
  by_cases hr : r < 0 ∨ 128 ≤ r
  · obtain ⟨hn, hn2⟩ := hf.no hr
    have FC := Lib.hid hn
    have FD := Lib.hid hn2
    clear hn hn2 hf
    have hrd : (decide (0 ≤ r) && decide (r < 128)) = false := by
      rcases hr with h | h
      · rw [decide_eq_false (by omega : ¬ 0 ≤ r)]; rfl
      · rw [decide_eq_false (by omega : ¬ r < 128), Bool.and_false]
    rcases Int.lt_or_le r 0 with hneg | hneg
    · have hge : ¬ 0 ≤ r := by omega
      refine cut (fun a0 a' w' => ∃ g7 g8, a' = ((((((a0.put (some 13) (.agg #[.int .u64 (a : Int), .int .u64 (b : Int)])).put (some 14) (.agg (BA fun i => hasM (a, b) (i : Int)))).put (some 15) (.agg #[.int .u64 (a : Int), .int .u64 (b : Int)])).put (some 16) (.agg (BA fun i => hasM (a, b) (i : Int)))).put (some 7) (.pointer (some ⟨g7, 0, none⟩))).put (some 8) (.pointer (some ⟨g8, 0, none⟩))) ∧ St w.heap.size w w' [row 32 g8 (BA fun i => hasM (a, b) (i : Int)), row 32 g7 (BA fun i => hasM (a, b) (i : Int)), row 24 g3 #[.int .u64 (a : Int), .int .u64 (b : Int)]]) ?_ ?_
      · refine rg_begin 8 rfl (S := fun W => St _ _ W _) (by kernel_rfl) H.drew ?_
        replace H := H.drew
        have HS := H
        first | (refine rg_take (i := 0) rfl (by kernel_rfl) (by kernel_rfl) (by kernel_rfl) (Yld.ldr rfl rfl agg24 size24 rfl (by repeat (first | exact List.mem_cons_self | apply List.mem_cons_of_mem)) (by first | exact BA_size _ | rfl | (simp; done) | assumption)) (H.sub (by repeat (first | exact List.Sublist.refl _ | apply List.Sublist.cons))) ?_; simp only [Act.put, List.setIfInBounds_toArray, List.set_cons_zero, List.set_cons_succ]) | (refine rg_take (i := 0) rfl (by kernel_rfl) (by kernel_rfl) (by kernel_rfl) (Yld.ldor rfl rfl agg24 size24 rfl (by assumption) (by first | exact BA_size _ | rfl | (simp; done) | assumption) (by assumption)) (H.sub (by repeat (first | exact List.Sublist.refl _ | apply List.Sublist.cons))) ?_; simp only [Act.put, List.setIfInBounds_toArray, List.set_cons_zero, List.set_cons_succ])
        first | (refine rg_take (i := 2) rfl (by kernel_rfl) (by kernel_rfl) (by kernel_rfl) (Yld.ldr rfl rfl agg24 size24 rfl (by repeat (first | exact List.mem_cons_self | apply List.mem_cons_of_mem)) (by first | exact BA_size _ | rfl | (simp; done) | assumption)) (H.sub (by repeat (first | exact List.Sublist.refl _ | apply List.Sublist.cons))) ?_; simp only [Act.put, List.setIfInBounds_toArray, List.set_cons_zero, List.set_cons_succ]) | (refine rg_take (i := 2) rfl (by kernel_rfl) (by kernel_rfl) (by kernel_rfl) (Yld.ldor rfl rfl agg24 size24 rfl (by assumption) (by first | exact BA_size _ | rfl | (simp; done) | assumption) (by assumption)) (H.sub (by repeat (first | exact List.Sublist.refl _ | apply List.Sublist.cons))) ?_; simp only [Act.put, List.setIfInBounds_toArray, List.set_cons_zero, List.set_cons_succ])
        refine rg_all (rs := [1, 4, 5]) (by kernel_rfl) (by simp) ?_
        refine rg_cons (i := 1) rfl rfl (fun K hK => ?_) ?_
        · -- 1
          refine wp_callf rfl ent14 (flags_ok a b la.out lb.out _) rfl (fun v w1 hr => ?_)
          obtain ⟨rfl, hb1⟩ := hr
          replace H := H.grow hb1
          clear hb1
          clear HS
          have HS := H
          refine hK.out _ _ (H.sub (by repeat (first | exact List.Sublist.refl _ | apply List.Sublist.cons))) ?_
          clear hK K
          simp only [Act.put, List.setIfInBounds_toArray, List.set_cons_zero, List.set_cons_succ]
          refine rg_all (rs := [3, 4, 5]) (by kernel_rfl) (by simp) ?_
          refine rg_cons (i := 3) rfl rfl (fun K hK => ?_) ?_
          · -- 3
            refine wp_callf rfl ent14 (flags_ok a b la.out lb.out _) rfl (fun v w1 hr => ?_)
            obtain ⟨rfl, hb1⟩ := hr
            replace H := H.grow hb1
            clear hb1
            clear HS
            have HS := H
            refine hK.out _ _ (H.sub (by repeat (first | exact List.Sublist.refl _ | apply List.Sublist.cons))) ?_
            clear hK K
            simp only [Act.put, List.setIfInBounds_toArray, List.set_cons_zero, List.set_cons_succ]
            refine rg_all (rs := [4, 5]) (by kernel_rfl) (by simp) ?_
            refine rg_cons (i := 4) rfl rfl (fun K hK => ?_) ?_
            · -- 4
              refine Stp.wp (Stp.alloc 7 rfl rfl zeroBA H ?_)
              clear H
              intro g7 w1 H
              simp only [cells_agg] at H
              clear HS
              have HS := H
              refine hK.out _ _ (H.sub (by repeat (first | exact List.Sublist.refl _ | apply List.Sublist.cons))) ?_
              clear hK K
              simp only [Act.put, List.setIfInBounds_toArray, List.set_cons_zero, List.set_cons_succ]
              refine rg_one (i := 5) (by kernel_rfl) rfl rfl (fun K hK => ?_)
              refine Stp.wp (Stp.alloc 8 rfl rfl zeroBA H ?_)
              clear H
              intro g8 w1 H
              simp only [cells_agg] at H
              clear HS
              have HS := H
              refine hK.out _ _ (H.sub (by repeat (first | exact List.Sublist.refl _ | apply List.Sublist.cons))) ?_
              clear hK K
              simp only [Act.put, List.setIfInBounds_toArray, List.set_cons_zero, List.set_cons_succ]
              refine rg_one (i := 6) (by kernel_rfl) rfl rfl (fun K hK => ?_)
              refine Stp.wp (Stp.str rfl size32 rfl rfl (BA_one _) H (by repeat (first | exact Upd.head | apply Upd.tail)) (BA_size _) (BA_size _) ?_)
              clear H
              intro w1 H
              clear HS
              have HS := H
              refine hK.out _ _ (H.sub (by repeat (first | exact List.Sublist.refl _ | apply List.Sublist.cons))) ?_
              clear hK K
              simp only [Act.put, List.setIfInBounds_toArray, List.set_cons_zero, List.set_cons_succ]
              refine rg_one (i := 7) (by kernel_rfl) rfl rfl (fun K hK => ?_)
              refine Stp.wp (Stp.str rfl size32 rfl rfl (BA_one _) H (by repeat (first | exact Upd.head | apply Upd.tail)) (BA_size _) (BA_size _) ?_)
              clear H
              intro w1 H
              clear HS
              have HS := H
              refine hK.out _ _ (H.sub (by repeat (first | exact List.Sublist.refl _ | apply List.Sublist.cons))) ?_
              clear hK K
              simp only [Act.put, List.setIfInBounds_toArray, List.set_cons_zero, List.set_cons_succ]
              refine rg_done (by kernel_rfl) ?_
              exact ⟨rfl, g7, g8, by simp only [Act.put, List.setIfInBounds_toArray, List.set_cons_zero, List.set_cons_succ], by first | exact H | exact H.swap⟩
            refine rg_cons (i := 5) rfl rfl (fun K hK => ?_) ?_
            · -- 5
              refine Stp.wp (Stp.alloc 8 rfl rfl zeroBA H ?_)
              clear H
              intro g8 w1 H
              simp only [cells_agg] at H
              clear HS
              have HS := H
              refine hK.out _ _ (H.sub (by repeat (first | exact List.Sublist.refl _ | apply List.Sublist.cons))) ?_
              clear hK K
              simp only [Act.put, List.setIfInBounds_toArray, List.set_cons_zero, List.set_cons_succ]
              refine rg_one (i := 4) (by kernel_rfl) rfl rfl (fun K hK => ?_)
              refine Stp.wp (Stp.alloc 7 rfl rfl zeroBA H ?_)
              clear H
              intro g7 w1 H
              simp only [cells_agg] at H
              clear HS
              have HS := H
              refine hK.out _ _ (H.sub (by repeat (first | exact List.Sublist.refl _ | apply List.Sublist.cons))) ?_
              clear hK K
              simp only [Act.put, List.setIfInBounds_toArray, List.set_cons_zero, List.set_cons_succ]
              refine rg_one (i := 6) (by kernel_rfl) rfl rfl (fun K hK => ?_)
              refine Stp.wp (Stp.str rfl size32 rfl rfl (BA_one _) H (by repeat (first | exact Upd.head | apply Upd.tail)) (BA_size _) (BA_size _) ?_)
              clear H
              intro w1 H
              clear HS
              have HS := H
              refine hK.out _ _ (H.sub (by repeat (first | exact List.Sublist.refl _ | apply List.Sublist.cons))) ?_
              clear hK K
              simp only [Act.put, List.setIfInBounds_toArray, List.set_cons_zero, List.set_cons_succ]
              refine rg_one (i := 7) (by kernel_rfl) rfl rfl (fun K hK => ?_)
              refine Stp.wp (Stp.str rfl size32 rfl rfl (BA_one _) H (by repeat (first | exact Upd.head | apply Upd.tail)) (BA_size _) (BA_size _) ?_)
              clear H
              intro w1 H
              clear HS
              have HS := H
              refine hK.out _ _ (H.sub (by repeat (first | exact List.Sublist.refl _ | apply List.Sublist.cons))) ?_
              clear hK K
              simp only [Act.put, List.setIfInBounds_toArray, List.set_cons_zero, List.set_cons_succ]
              refine rg_done (by kernel_rfl) ?_
              exact ⟨rfl, g7, g8, by simp only [Act.put, List.setIfInBounds_toArray, List.set_cons_zero, List.set_cons_succ], by first | exact H | exact H.swap⟩
            exact AllReadyH.nil
          refine rg_cons (i := 4) rfl rfl (fun K hK => ?_) ?_
          · -- 4
            refine Stp.wp (Stp.alloc 7 rfl rfl zeroBA H ?_)
            clear H
            intro g7 w1 H
            simp only [cells_agg] at H
            clear HS
            have HS := H
            refine hK.out _ _ (H.sub (by repeat (first | exact List.Sublist.refl _ | apply List.Sublist.cons))) ?_
            clear hK K
            simp only [Act.put, List.setIfInBounds_toArray, List.set_cons_zero, List.set_cons_succ]
            refine rg_all (rs := [3, 5]) (by kernel_rfl) (by simp) ?_
            refine rg_cons (i := 3) rfl rfl (fun K hK => ?_) ?_
            · -- 3
              refine wp_callf rfl ent14 (flags_ok a b la.out lb.out _) rfl (fun v w1 hr => ?_)
              obtain ⟨rfl, hb1⟩ := hr
              replace H := H.grow hb1
              clear hb1
              clear HS
              have HS := H
              refine hK.out _ _ (H.sub (by repeat (first | exact List.Sublist.refl _ | apply List.Sublist.cons))) ?_
              clear hK K
              simp only [Act.put, List.setIfInBounds_toArray, List.set_cons_zero, List.set_cons_succ]
              refine rg_one (i := 5) (by kernel_rfl) rfl rfl (fun K hK => ?_)
              refine Stp.wp (Stp.alloc 8 rfl rfl zeroBA H ?_)
              clear H
              intro g8 w1 H
              simp only [cells_agg] at H
              clear HS
              have HS := H
              refine hK.out _ _ (H.sub (by repeat (first | exact List.Sublist.refl _ | apply List.Sublist.cons))) ?_
              clear hK K
              simp only [Act.put, List.setIfInBounds_toArray, List.set_cons_zero, List.set_cons_succ]
              refine rg_one (i := 6) (by kernel_rfl) rfl rfl (fun K hK => ?_)
              refine Stp.wp (Stp.str rfl size32 rfl rfl (BA_one _) H (by repeat (first | exact Upd.head | apply Upd.tail)) (BA_size _) (BA_size _) ?_)
              clear H
              intro w1 H
              clear HS
              have HS := H
              refine hK.out _ _ (H.sub (by repeat (first | exact List.Sublist.refl _ | apply List.Sublist.cons))) ?_
              clear hK K
              simp only [Act.put, List.setIfInBounds_toArray, List.set_cons_zero, List.set_cons_succ]
              refine rg_one (i := 7) (by kernel_rfl) rfl rfl (fun K hK => ?_)
              refine Stp.wp (Stp.str rfl size32 rfl rfl (BA_one _) H (by repeat (first | exact Upd.head | apply Upd.tail)) (BA_size _) (BA_size _) ?_)
              clear H
              intro w1 H
              clear HS
              have HS := H
              refine hK.out _ _ (H.sub (by repeat (first | exact List.Sublist.refl _ | apply List.Sublist.cons))) ?_
              clear hK K
              simp only [Act.put, List.setIfInBounds_toArray, List.set_cons_zero, List.set_cons_succ]
              refine rg_done (by kernel_rfl) ?_
              exact ⟨rfl, g7, g8, by simp only [Act.put, List.setIfInBounds_toArray, List.set_cons_zero, List.set_cons_succ], by first | exact H | exact H.swap⟩
            refine rg_cons (i := 5) rfl rfl (fun K hK => ?_) ?_
            · -- 5
              refine Stp.wp (Stp.alloc 8 rfl rfl zeroBA H ?_)
              clear H
              intro g8 w1 H
              simp only [cells_agg] at H
              clear HS
              have HS := H
              refine hK.out _ _ (H.sub (by repeat (first | exact List.Sublist.refl _ | apply List.Sublist.cons))) ?_
              clear hK K
              simp only [Act.put, List.setIfInBounds_toArray, List.set_cons_zero, List.set_cons_succ]
              refine rg_one (i := 3) (by kernel_rfl) rfl rfl (fun K hK => ?_)
              refine wp_callf rfl ent14 (flags_ok a b la.out lb.out _) rfl (fun v w1 hr => ?_)
              obtain ⟨rfl, hb1⟩ := hr
              replace H := H.grow hb1
              clear hb1
              clear HS
              have HS := H
              refine hK.out _ _ (H.sub (by repeat (first | exact List.Sublist.refl _ | apply List.Sublist.cons))) ?_
              clear hK K
              simp only [Act.put, List.setIfInBounds_toArray, List.set_cons_zero, List.set_cons_succ]
              refine rg_one (i := 6) (by kernel_rfl) rfl rfl (fun K hK => ?_)
              refine Stp.wp (Stp.str rfl size32 rfl rfl (BA_one _) H (by repeat (first | exact Upd.head | apply Upd.tail)) (BA_size _) (BA_size _) ?_)
              clear H
              intro w1 H
              clear HS
              have HS := H
              refine hK.out _ _ (H.sub (by repeat (first | exact List.Sublist.refl _ | apply List.Sublist.cons))) ?_
              clear hK K
              simp only [Act.put, List.setIfInBounds_toArray, List.set_cons_zero, List.set_cons_succ]
              refine rg_one (i := 7) (by kernel_rfl) rfl rfl (fun K hK => ?_)
              refine Stp.wp (Stp.str rfl size32 rfl rfl (BA_one _) H (by repeat (first | exact Upd.head | apply Upd.tail)) (BA_size _) (BA_size _) ?_)
              clear H
              intro w1 H
              clear HS
              have HS := H
              refine hK.out _ _ (H.sub (by repeat (first | exact List.Sublist.refl _ | apply List.Sublist.cons))) ?_
              clear hK K
              simp only [Act.put, List.setIfInBounds_toArray, List.set_cons_zero, List.set_cons_succ]
              refine rg_done (by kernel_rfl) ?_
              exact ⟨rfl, g7, g8, by simp only [Act.put, List.setIfInBounds_toArray, List.set_cons_zero, List.set_cons_succ], by first | exact H | exact H.swap⟩
            exact AllReadyH.nil
          refine rg_cons (i := 5) rfl rfl (fun K hK => ?_) ?_
          · -- 5
            refine Stp.wp (Stp.alloc 8 rfl rfl zeroBA H ?_)
            clear H
            intro g8 w1 H
            simp only [cells_agg] at H
            clear HS
            have HS := H
            refine hK.out _ _ (H.sub (by repeat (first | exact List.Sublist.refl _ | apply List.Sublist.cons))) ?_
            clear hK K
            simp only [Act.put, List.setIfInBounds_toArray, List.set_cons_zero, List.set_cons_succ]
            refine rg_all (rs := [3, 4]) (by kernel_rfl) (by simp) ?_
            refine rg_cons (i := 3) rfl rfl (fun K hK => ?_) ?_
            · -- 3
              refine wp_callf rfl ent14 (flags_ok a b la.out lb.out _) rfl (fun v w1 hr => ?_)
              obtain ⟨rfl, hb1⟩ := hr
              replace H := H.grow hb1
              clear hb1
              clear HS
              have HS := H
              refine hK.out _ _ (H.sub (by repeat (first | exact List.Sublist.refl _ | apply List.Sublist.cons))) ?_
              clear hK K
              simp only [Act.put, List.setIfInBounds_toArray, List.set_cons_zero, List.set_cons_succ]
              refine rg_one (i := 4) (by kernel_rfl) rfl rfl (fun K hK => ?_)
              refine Stp.wp (Stp.alloc 7 rfl rfl zeroBA H ?_)
              clear H
              intro g7 w1 H
              simp only [cells_agg] at H
              clear HS
              have HS := H
              refine hK.out _ _ (H.sub (by repeat (first | exact List.Sublist.refl _ | apply List.Sublist.cons))) ?_
              clear hK K
              simp only [Act.put, List.setIfInBounds_toArray, List.set_cons_zero, List.set_cons_succ]
              refine rg_one (i := 6) (by kernel_rfl) rfl rfl (fun K hK => ?_)
              refine Stp.wp (Stp.str rfl size32 rfl rfl (BA_one _) H (by repeat (first | exact Upd.head | apply Upd.tail)) (BA_size _) (BA_size _) ?_)
              clear H
              intro w1 H
              clear HS
              have HS := H
              refine hK.out _ _ (H.sub (by repeat (first | exact List.Sublist.refl _ | apply List.Sublist.cons))) ?_
              clear hK K
              simp only [Act.put, List.setIfInBounds_toArray, List.set_cons_zero, List.set_cons_succ]
              refine rg_one (i := 7) (by kernel_rfl) rfl rfl (fun K hK => ?_)
              refine Stp.wp (Stp.str rfl size32 rfl rfl (BA_one _) H (by repeat (first | exact Upd.head | apply Upd.tail)) (BA_size _) (BA_size _) ?_)
              clear H
              intro w1 H
              clear HS
              have HS := H
              refine hK.out _ _ (H.sub (by repeat (first | exact List.Sublist.refl _ | apply List.Sublist.cons))) ?_
              clear hK K
              simp only [Act.put, List.setIfInBounds_toArray, List.set_cons_zero, List.set_cons_succ]
              refine rg_done (by kernel_rfl) ?_
              exact ⟨rfl, g7, g8, by simp only [Act.put, List.setIfInBounds_toArray, List.set_cons_zero, List.set_cons_succ], by first | exact H | exact H.swap⟩
            refine rg_cons (i := 4) rfl rfl (fun K hK => ?_) ?_
            · -- 4
              refine Stp.wp (Stp.alloc 7 rfl rfl zeroBA H ?_)
              clear H
              intro g7 w1 H
              simp only [cells_agg] at H
              clear HS
              have HS := H
              refine hK.out _ _ (H.sub (by repeat (first | exact List.Sublist.refl _ | apply List.Sublist.cons))) ?_
              clear hK K
              simp only [Act.put, List.setIfInBounds_toArray, List.set_cons_zero, List.set_cons_succ]
              refine rg_one (i := 3) (by kernel_rfl) rfl rfl (fun K hK => ?_)
              refine wp_callf rfl ent14 (flags_ok a b la.out lb.out _) rfl (fun v w1 hr => ?_)
              obtain ⟨rfl, hb1⟩ := hr
              replace H := H.grow hb1
              clear hb1
              clear HS
              have HS := H
              refine hK.out _ _ (H.sub (by repeat (first | exact List.Sublist.refl _ | apply List.Sublist.cons))) ?_
              clear hK K
              simp only [Act.put, List.setIfInBounds_toArray, List.set_cons_zero, List.set_cons_succ]
              refine rg_one (i := 6) (by kernel_rfl) rfl rfl (fun K hK => ?_)
              refine Stp.wp (Stp.str rfl size32 rfl rfl (BA_one _) H (by repeat (first | exact Upd.head | apply Upd.tail)) (BA_size _) (BA_size _) ?_)
              clear H
              intro w1 H
              clear HS
              have HS := H
              refine hK.out _ _ (H.sub (by repeat (first | exact List.Sublist.refl _ | apply List.Sublist.cons))) ?_
              clear hK K
              simp only [Act.put, List.setIfInBounds_toArray, List.set_cons_zero, List.set_cons_succ]
              refine rg_one (i := 7) (by kernel_rfl) rfl rfl (fun K hK => ?_)
              refine Stp.wp (Stp.str rfl size32 rfl rfl (BA_one _) H (by repeat (first | exact Upd.head | apply Upd.tail)) (BA_size _) (BA_size _) ?_)
              clear H
              intro w1 H
              clear HS
              have HS := H
              refine hK.out _ _ (H.sub (by repeat (first | exact List.Sublist.refl _ | apply List.Sublist.cons))) ?_
              clear hK K
              simp only [Act.put, List.setIfInBounds_toArray, List.set_cons_zero, List.set_cons_succ]
              refine rg_done (by kernel_rfl) ?_
              exact ⟨rfl, g7, g8, by simp only [Act.put, List.setIfInBounds_toArray, List.set_cons_zero, List.set_cons_succ], by first | exact H | exact H.swap⟩
            exact AllReadyH.nil
          exact AllReadyH.nil
        refine rg_cons (i := 4) rfl rfl (fun K hK => ?_) ?_
        · -- 4
          refine Stp.wp (Stp.alloc 7 rfl rfl zeroBA H ?_)
          clear H
          intro g7 w1 H
          simp only [cells_agg] at H
          clear HS
          have HS := H
          refine hK.out _ _ (H.sub (by repeat (first | exact List.Sublist.refl _ | apply List.Sublist.cons))) ?_
          clear hK K
          simp only [Act.put, List.setIfInBounds_toArray, List.set_cons_zero, List.set_cons_succ]
          refine rg_all (rs := [1, 5]) (by kernel_rfl) (by simp) ?_
          refine rg_cons (i := 1) rfl rfl (fun K hK => ?_) ?_
          · -- 1
            refine wp_callf rfl ent14 (flags_ok a b la.out lb.out _) rfl (fun v w1 hr => ?_)
            obtain ⟨rfl, hb1⟩ := hr
            replace H := H.grow hb1
            clear hb1
            clear HS
            have HS := H
            refine hK.out _ _ (H.sub (by repeat (first | exact List.Sublist.refl _ | apply List.Sublist.cons))) ?_
            clear hK K
            simp only [Act.put, List.setIfInBounds_toArray, List.set_cons_zero, List.set_cons_succ]
            refine rg_all (rs := [3, 5]) (by kernel_rfl) (by simp) ?_
            refine rg_cons (i := 3) rfl rfl (fun K hK => ?_) ?_
            · -- 3
              refine wp_callf rfl ent14 (flags_ok a b la.out lb.out _) rfl (fun v w1 hr => ?_)
              obtain ⟨rfl, hb1⟩ := hr
              replace H := H.grow hb1
              clear hb1
              clear HS
              have HS := H
              refine hK.out _ _ (H.sub (by repeat (first | exact List.Sublist.refl _ | apply List.Sublist.cons))) ?_
              clear hK K
              simp only [Act.put, List.setIfInBounds_toArray, List.set_cons_zero, List.set_cons_succ]
              refine rg_one (i := 5) (by kernel_rfl) rfl rfl (fun K hK => ?_)
              refine Stp.wp (Stp.alloc 8 rfl rfl zeroBA H ?_)
              clear H
              intro g8 w1 H
              simp only [cells_agg] at H
              clear HS
              have HS := H
              refine hK.out _ _ (H.sub (by repeat (first | exact List.Sublist.refl _ | apply List.Sublist.cons))) ?_
              clear hK K
              simp only [Act.put, List.setIfInBounds_toArray, List.set_cons_zero, List.set_cons_succ]
              refine rg_one (i := 6) (by kernel_rfl) rfl rfl (fun K hK => ?_)
              refine Stp.wp (Stp.str rfl size32 rfl rfl (BA_one _) H (by repeat (first | exact Upd.head | apply Upd.tail)) (BA_size _) (BA_size _) ?_)
              clear H
              intro w1 H
              clear HS
              have HS := H
              refine hK.out _ _ (H.sub (by repeat (first | exact List.Sublist.refl _ | apply List.Sublist.cons))) ?_
              clear hK K
              simp only [Act.put, List.setIfInBounds_toArray, List.set_cons_zero, List.set_cons_succ]
              refine rg_one (i := 7) (by kernel_rfl) rfl rfl (fun K hK => ?_)
              refine Stp.wp (Stp.str rfl size32 rfl rfl (BA_one _) H (by repeat (first | exact Upd.head | apply Upd.tail)) (BA_size _) (BA_size _) ?_)
              clear H
              intro w1 H
              clear HS
              have HS := H
              refine hK.out _ _ (H.sub (by repeat (first | exact List.Sublist.refl _ | apply List.Sublist.cons))) ?_
              clear hK K
              simp only [Act.put, List.setIfInBounds_toArray, List.set_cons_zero, List.set_cons_succ]
              refine rg_done (by kernel_rfl) ?_
              exact ⟨rfl, g7, g8, by simp only [Act.put, List.setIfInBounds_toArray, List.set_cons_zero, List.set_cons_succ], by first | exact H | exact H.swap⟩
            refine rg_cons (i := 5) rfl rfl (fun K hK => ?_) ?_
            · -- 5
              refine Stp.wp (Stp.alloc 8 rfl rfl zeroBA H ?_)
              clear H
              intro g8 w1 H
              simp only [cells_agg] at H
              clear HS
              have HS := H
              refine hK.out _ _ (H.sub (by repeat (first | exact List.Sublist.refl _ | apply List.Sublist.cons))) ?_
              clear hK K
              simp only [Act.put, List.setIfInBounds_toArray, List.set_cons_zero, List.set_cons_succ]
              refine rg_one (i := 3) (by kernel_rfl) rfl rfl (fun K hK => ?_)
              refine wp_callf rfl ent14 (flags_ok a b la.out lb.out _) rfl (fun v w1 hr => ?_)
              obtain ⟨rfl, hb1⟩ := hr
              replace H := H.grow hb1
              clear hb1
              clear HS
              have HS := H
              refine hK.out _ _ (H.sub (by repeat (first | exact List.Sublist.refl _ | apply List.Sublist.cons))) ?_
              clear hK K
              simp only [Act.put, List.setIfInBounds_toArray, List.set_cons_zero, List.set_cons_succ]
              refine rg_one (i := 6) (by kernel_rfl) rfl rfl (fun K hK => ?_)
              refine Stp.wp (Stp.str rfl size32 rfl rfl (BA_one _) H (by repeat (first | exact Upd.head | apply Upd.tail)) (BA_size _) (BA_size _) ?_)
              clear H
              intro w1 H
              clear HS
              have HS := H
              refine hK.out _ _ (H.sub (by repeat (first | exact List.Sublist.refl _ | apply List.Sublist.cons))) ?_
              clear hK K
              simp only [Act.put, List.setIfInBounds_toArray, List.set_cons_zero, List.set_cons_succ]
              refine rg_one (i := 7) (by kernel_rfl) rfl rfl (fun K hK => ?_)
              refine Stp.wp (Stp.str rfl size32 rfl rfl (BA_one _) H (by repeat (first | exact Upd.head | apply Upd.tail)) (BA_size _) (BA_size _) ?_)
              clear H
              intro w1 H
              clear HS
              have HS := H
              refine hK.out _ _ (H.sub (by repeat (first | exact List.Sublist.refl _ | apply List.Sublist.cons))) ?_
              clear hK K
              simp only [Act.put, List.setIfInBounds_toArray, List.set_cons_zero, List.set_cons_succ]
              refine rg_done (by kernel_rfl) ?_
              exact ⟨rfl, g7, g8, by simp only [Act.put, List.setIfInBounds_toArray, List.set_cons_zero, List.set_cons_succ], by first | exact H | exact H.swap⟩
            exact AllReadyH.nil
          refine rg_cons (i := 5) rfl rfl (fun K hK => ?_) ?_
          · -- 5
            refine Stp.wp (Stp.alloc 8 rfl rfl zeroBA H ?_)
            clear H
            intro g8 w1 H
            simp only [cells_agg] at H
            clear HS
            have HS := H
            refine hK.out _ _ (H.sub (by repeat (first | exact List.Sublist.refl _ | apply List.Sublist.cons))) ?_
            clear hK K
            simp only [Act.put, List.setIfInBounds_toArray, List.set_cons_zero, List.set_cons_succ]
            refine rg_one (i := 1) (by kernel_rfl) rfl rfl (fun K hK => ?_)
            refine wp_callf rfl ent14 (flags_ok a b la.out lb.out _) rfl (fun v w1 hr => ?_)
            obtain ⟨rfl, hb1⟩ := hr
            replace H := H.grow hb1
            clear hb1
            clear HS
            have HS := H
            refine hK.out _ _ (H.sub (by repeat (first | exact List.Sublist.refl _ | apply List.Sublist.cons))) ?_
            clear hK K
            simp only [Act.put, List.setIfInBounds_toArray, List.set_cons_zero, List.set_cons_succ]
            refine rg_one (i := 3) (by kernel_rfl) rfl rfl (fun K hK => ?_)
            refine wp_callf rfl ent14 (flags_ok a b la.out lb.out _) rfl (fun v w1 hr => ?_)
            obtain ⟨rfl, hb1⟩ := hr
            replace H := H.grow hb1
            clear hb1
            clear HS
            have HS := H
            refine hK.out _ _ (H.sub (by repeat (first | exact List.Sublist.refl _ | apply List.Sublist.cons))) ?_
            clear hK K
            simp only [Act.put, List.setIfInBounds_toArray, List.set_cons_zero, List.set_cons_succ]
            refine rg_one (i := 6) (by kernel_rfl) rfl rfl (fun K hK => ?_)
            refine Stp.wp (Stp.str rfl size32 rfl rfl (BA_one _) H (by repeat (first | exact Upd.head | apply Upd.tail)) (BA_size _) (BA_size _) ?_)
            clear H
            intro w1 H
            clear HS
            have HS := H
            refine hK.out _ _ (H.sub (by repeat (first | exact List.Sublist.refl _ | apply List.Sublist.cons))) ?_
            clear hK K
            simp only [Act.put, List.setIfInBounds_toArray, List.set_cons_zero, List.set_cons_succ]
            refine rg_one (i := 7) (by kernel_rfl) rfl rfl (fun K hK => ?_)
            refine Stp.wp (Stp.str rfl size32 rfl rfl (BA_one _) H (by repeat (first | exact Upd.head | apply Upd.tail)) (BA_size _) (BA_size _) ?_)
            clear H
            intro w1 H
            clear HS
            have HS := H
            refine hK.out _ _ (H.sub (by repeat (first | exact List.Sublist.refl _ | apply List.Sublist.cons))) ?_
            clear hK K
            simp only [Act.put, List.setIfInBounds_toArray, List.set_cons_zero, List.set_cons_succ]
            refine rg_done (by kernel_rfl) ?_
            exact ⟨rfl, g7, g8, by simp only [Act.put, List.setIfInBounds_toArray, List.set_cons_zero, List.set_cons_succ], by first | exact H | exact H.swap⟩
          exact AllReadyH.nil
        refine rg_cons (i := 5) rfl rfl (fun K hK => ?_) ?_
        · -- 5
          refine Stp.wp (Stp.alloc 8 rfl rfl zeroBA H ?_)
          clear H
          intro g8 w1 H
          simp only [cells_agg] at H
          clear HS
          have HS := H
          refine hK.out _ _ (H.sub (by repeat (first | exact List.Sublist.refl _ | apply List.Sublist.cons))) ?_
          clear hK K
          simp only [Act.put, List.setIfInBounds_toArray, List.set_cons_zero, List.set_cons_succ]
          refine rg_all (rs := [1, 4]) (by kernel_rfl) (by simp) ?_
          refine rg_cons (i := 1) rfl rfl (fun K hK => ?_) ?_
          · -- 1
            refine wp_callf rfl ent14 (flags_ok a b la.out lb.out _) rfl (fun v w1 hr => ?_)
            obtain ⟨rfl, hb1⟩ := hr
            replace H := H.grow hb1
            clear hb1
            clear HS
            have HS := H
            refine hK.out _ _ (H.sub (by repeat (first | exact List.Sublist.refl _ | apply List.Sublist.cons))) ?_
            clear hK K
            simp only [Act.put, List.setIfInBounds_toArray, List.set_cons_zero, List.set_cons_succ]
            refine rg_all (rs := [3, 4]) (by kernel_rfl) (by simp) ?_
            refine rg_cons (i := 3) rfl rfl (fun K hK => ?_) ?_
            · -- 3
              refine wp_callf rfl ent14 (flags_ok a b la.out lb.out _) rfl (fun v w1 hr => ?_)
              obtain ⟨rfl, hb1⟩ := hr
              replace H := H.grow hb1
              clear hb1
              clear HS
              have HS := H
              refine hK.out _ _ (H.sub (by repeat (first | exact List.Sublist.refl _ | apply List.Sublist.cons))) ?_
              clear hK K
              simp only [Act.put, List.setIfInBounds_toArray, List.set_cons_zero, List.set_cons_succ]
              refine rg_one (i := 4) (by kernel_rfl) rfl rfl (fun K hK => ?_)
              refine Stp.wp (Stp.alloc 7 rfl rfl zeroBA H ?_)
              clear H
              intro g7 w1 H
              simp only [cells_agg] at H
              clear HS
              have HS := H
              refine hK.out _ _ (H.sub (by repeat (first | exact List.Sublist.refl _ | apply List.Sublist.cons))) ?_
              clear hK K
              simp only [Act.put, List.setIfInBounds_toArray, List.set_cons_zero, List.set_cons_succ]
              refine rg_one (i := 6) (by kernel_rfl) rfl rfl (fun K hK => ?_)
              refine Stp.wp (Stp.str rfl size32 rfl rfl (BA_one _) H (by repeat (first | exact Upd.head | apply Upd.tail)) (BA_size _) (BA_size _) ?_)
              clear H
              intro w1 H
              clear HS
              have HS := H
              refine hK.out _ _ (H.sub (by repeat (first | exact List.Sublist.refl _ | apply List.Sublist.cons))) ?_
              clear hK K
              simp only [Act.put, List.setIfInBounds_toArray, List.set_cons_zero, List.set_cons_succ]
              refine rg_one (i := 7) (by kernel_rfl) rfl rfl (fun K hK => ?_)
              refine Stp.wp (Stp.str rfl size32 rfl rfl (BA_one _) H (by repeat (first | exact Upd.head | apply Upd.tail)) (BA_size _) (BA_size _) ?_)
              clear H
              intro w1 H
              clear HS
              have HS := H
              refine hK.out _ _ (H.sub (by repeat (first | exact List.Sublist.refl _ | apply List.Sublist.cons))) ?_
              clear hK K
              simp only [Act.put, List.setIfInBounds_toArray, List.set_cons_zero, List.set_cons_succ]
              refine rg_done (by kernel_rfl) ?_
              exact ⟨rfl, g7, g8, by simp only [Act.put, List.setIfInBounds_toArray, List.set_cons_zero, List.set_cons_succ], by first | exact H | exact H.swap⟩
            refine rg_cons (i := 4) rfl rfl (fun K hK => ?_) ?_
            · -- 4
              refine Stp.wp (Stp.alloc 7 rfl rfl zeroBA H ?_)
              clear H
              intro g7 w1 H
              simp only [cells_agg] at H
              clear HS
              have HS := H
              refine hK.out _ _ (H.sub (by repeat (first | exact List.Sublist.refl _ | apply List.Sublist.cons))) ?_
              clear hK K
              simp only [Act.put, List.setIfInBounds_toArray, List.set_cons_zero, List.set_cons_succ]
              refine rg_one (i := 3) (by kernel_rfl) rfl rfl (fun K hK => ?_)
              refine wp_callf rfl ent14 (flags_ok a b la.out lb.out _) rfl (fun v w1 hr => ?_)
              obtain ⟨rfl, hb1⟩ := hr
              replace H := H.grow hb1
              clear hb1
              clear HS
              have HS := H
              refine hK.out _ _ (H.sub (by repeat (first | exact List.Sublist.refl _ | apply List.Sublist.cons))) ?_
              clear hK K
              simp only [Act.put, List.setIfInBounds_toArray, List.set_cons_zero, List.set_cons_succ]
              refine rg_one (i := 6) (by kernel_rfl) rfl rfl (fun K hK => ?_)
              refine Stp.wp (Stp.str rfl size32 rfl rfl (BA_one _) H (by repeat (first | exact Upd.head | apply Upd.tail)) (BA_size _) (BA_size _) ?_)
              clear H
              intro w1 H
              clear HS
              have HS := H
              refine hK.out _ _ (H.sub (by repeat (first | exact List.Sublist.refl _ | apply List.Sublist.cons))) ?_
              clear hK K
              simp only [Act.put, List.setIfInBounds_toArray, List.set_cons_zero, List.set_cons_succ]
              refine rg_one (i := 7) (by kernel_rfl) rfl rfl (fun K hK => ?_)
              refine Stp.wp (Stp.str rfl size32 rfl rfl (BA_one _) H (by repeat (first | exact Upd.head | apply Upd.tail)) (BA_size _) (BA_size _) ?_)
              clear H
              intro w1 H
              clear HS
              have HS := H
              refine hK.out _ _ (H.sub (by repeat (first | exact List.Sublist.refl _ | apply List.Sublist.cons))) ?_
              clear hK K
              simp only [Act.put, List.setIfInBounds_toArray, List.set_cons_zero, List.set_cons_succ]
              refine rg_done (by kernel_rfl) ?_
              exact ⟨rfl, g7, g8, by simp only [Act.put, List.setIfInBounds_toArray, List.set_cons_zero, List.set_cons_succ], by first | exact H | exact H.swap⟩
            exact AllReadyH.nil
          refine rg_cons (i := 4) rfl rfl (fun K hK => ?_) ?_
          · -- 4
            refine Stp.wp (Stp.alloc 7 rfl rfl zeroBA H ?_)
            clear H
            intro g7 w1 H
            simp only [cells_agg] at H
            clear HS
            have HS := H
            refine hK.out _ _ (H.sub (by repeat (first | exact List.Sublist.refl _ | apply List.Sublist.cons))) ?_
            clear hK K
            simp only [Act.put, List.setIfInBounds_toArray, List.set_cons_zero, List.set_cons_succ]
            refine rg_one (i := 1) (by kernel_rfl) rfl rfl (fun K hK => ?_)
            refine wp_callf rfl ent14 (flags_ok a b la.out lb.out _) rfl (fun v w1 hr => ?_)
            obtain ⟨rfl, hb1⟩ := hr
            replace H := H.grow hb1
            clear hb1
            clear HS
            have HS := H
            refine hK.out _ _ (H.sub (by repeat (first | exact List.Sublist.refl _ | apply List.Sublist.cons))) ?_
            clear hK K
            simp only [Act.put, List.setIfInBounds_toArray, List.set_cons_zero, List.set_cons_succ]
            refine rg_one (i := 3) (by kernel_rfl) rfl rfl (fun K hK => ?_)
            refine wp_callf rfl ent14 (flags_ok a b la.out lb.out _) rfl (fun v w1 hr => ?_)
            obtain ⟨rfl, hb1⟩ := hr
            replace H := H.grow hb1
            clear hb1
            clear HS
            have HS := H
            refine hK.out _ _ (H.sub (by repeat (first | exact List.Sublist.refl _ | apply List.Sublist.cons))) ?_
            clear hK K
            simp only [Act.put, List.setIfInBounds_toArray, List.set_cons_zero, List.set_cons_succ]
            refine rg_one (i := 6) (by kernel_rfl) rfl rfl (fun K hK => ?_)
            refine Stp.wp (Stp.str rfl size32 rfl rfl (BA_one _) H (by repeat (first | exact Upd.head | apply Upd.tail)) (BA_size _) (BA_size _) ?_)
            clear H
            intro w1 H
            clear HS
            have HS := H
            refine hK.out _ _ (H.sub (by repeat (first | exact List.Sublist.refl _ | apply List.Sublist.cons))) ?_
            clear hK K
            simp only [Act.put, List.setIfInBounds_toArray, List.set_cons_zero, List.set_cons_succ]
            refine rg_one (i := 7) (by kernel_rfl) rfl rfl (fun K hK => ?_)
            refine Stp.wp (Stp.str rfl size32 rfl rfl (BA_one _) H (by repeat (first | exact Upd.head | apply Upd.tail)) (BA_size _) (BA_size _) ?_)
            clear H
            intro w1 H
            clear HS
            have HS := H
            refine hK.out _ _ (H.sub (by repeat (first | exact List.Sublist.refl _ | apply List.Sublist.cons))) ?_
            clear hK K
            simp only [Act.put, List.setIfInBounds_toArray, List.set_cons_zero, List.set_cons_succ]
            refine rg_done (by kernel_rfl) ?_
            exact ⟨rfl, g7, g8, by simp only [Act.put, List.setIfInBounds_toArray, List.set_cons_zero, List.set_cons_succ], by first | exact H | exact H.swap⟩
          exact AllReadyH.nil
        exact AllReadyH.nil
      rintro a' w' ⟨g7, g8, rfl, H⟩
      simp only [Act.put, List.setIfInBounds_toArray, List.set_cons_zero, List.set_cons_succ]
      go_wp2_with (first | (with_reducible refine wpl rfl (Stp.box 3 rfl rfl rfl H ?_); clear H; intro g3 w1 H; simp only [Act.put, List.setIfInBounds_toArray, List.set_cons_zero, List.set_cons_succ]; simp only [eval_tmp, eval_const, getD_lit0, getD_lits, cells_agg, cells_int, cells_bool, cells_string, cells_pointer, cells_slice, cells_map, List.setIfInBounds_toArray, List.set_cons_zero, List.set_cons_succ] at H) | (with_reducible refine wpl rfl (Stp.stc rfl size4 rfl rfl rfl rfl H (by repeat (first | exact Upd.head | apply Upd.tail)) (by first | (rw [BA_size]; omega) | omega | (simp; done) | (simp; omega)) ?_); clear H; intro w1 H; simp only [Act.put, List.setIfInBounds_toArray, List.set_cons_zero, List.set_cons_succ]; simp only [eval_tmp, eval_const, getD_lit0, getD_lits, cells_agg, cells_int, cells_bool, cells_string, cells_pointer, cells_slice, cells_map, List.setIfInBounds_toArray, List.set_cons_zero, List.set_cons_succ] at H))
      refine rg_begin 27 rfl (S := fun W => St _ _ W _) (by kernel_rfl) H.drew ?_
      replace H := H.drew
      have HS := H
      first | (refine rg_take (i := 0) rfl (by kernel_rfl) (by kernel_rfl) (by kernel_rfl) (Yld.ldr rfl rfl agg24 size24 rfl (by repeat (first | exact List.mem_cons_self | apply List.mem_cons_of_mem)) (by first | exact BA_size _ | rfl | (simp; done) | assumption)) HS ?_; simp only [Act.put, List.setIfInBounds_toArray, List.set_cons_zero, List.set_cons_succ]) | (refine rg_take (i := 0) rfl (by kernel_rfl) (by kernel_rfl) (by kernel_rfl) (Yld.ldor rfl rfl agg24 size24 rfl (by assumption) (by first | exact BA_size _ | rfl | (simp; done) | assumption) (by assumption)) HS ?_; simp only [Act.put, List.setIfInBounds_toArray, List.set_cons_zero, List.set_cons_succ])
      refine rg_take (i := 1) rfl (by kernel_rfl) (by kernel_rfl) (by kernel_rfl) (Yld.move rfl rfl) HS ?_; simp only [Act.put, eval_tmp, eval_const, getD_lit0, getD_lits, if_true, if_false, List.setIfInBounds_toArray, List.set_cons_zero, List.set_cons_succ]
      first | (refine rg_take (i := 3) rfl (by kernel_rfl) (by kernel_rfl) (by kernel_rfl) (Yld.ldr rfl rfl agg24 size24 rfl (by repeat (first | exact List.mem_cons_self | apply List.mem_cons_of_mem)) (by first | exact BA_size _ | rfl | (simp; done) | assumption)) HS ?_; simp only [Act.put, List.setIfInBounds_toArray, List.set_cons_zero, List.set_cons_succ]) | (refine rg_take (i := 3) rfl (by kernel_rfl) (by kernel_rfl) (by kernel_rfl) (Yld.ldor rfl rfl agg24 size24 rfl (by assumption) (by first | exact BA_size _ | rfl | (simp; done) | assumption) (by assumption)) HS ?_; simp only [Act.put, List.setIfInBounds_toArray, List.set_cons_zero, List.set_cons_succ])
      refine rg_take (i := 4) rfl (by kernel_rfl) (by kernel_rfl) (by kernel_rfl) (Yld.move rfl rfl) HS ?_; simp only [Act.put, eval_tmp, eval_const, getD_lit0, getD_lits, if_true, if_false, List.setIfInBounds_toArray, List.set_cons_zero, List.set_cons_succ]
      refine rg_one (i := 2) (by kernel_rfl) rfl rfl (fun K hK => ?_)
      refine wp_callf rfl ent15 (has_ok a b (r) la.out lb.out x HX.out _) rfl (fun v w1 hr => ?_)
      obtain ⟨rfl, hb1⟩ := hr
      replace H := H.grow hb1
      clear hb1
      clear HS
      have HS := H
      refine hK.out _ _ HS ?_
      clear hK K
      simp only [Act.put, List.setIfInBounds_toArray, List.set_cons_zero, List.set_cons_succ]
      refine rg_one (i := 5) (by kernel_rfl) rfl rfl (fun K hK => ?_)
      refine wp_callf rfl ent16 (set_ok a b (r) la.out lb.out x HX.out _) rfl (fun v w1 hr => ?_)
      obtain ⟨rfl, hb1⟩ := hr
      replace H := H.grow hb1
      clear hb1
      clear HS
      have HS := H
      refine hK.out _ _ HS ?_
      clear hK K
      simp only [Act.put, List.setIfInBounds_toArray, List.set_cons_zero, List.set_cons_succ]
      refine rg_take (i := 6) rfl (by kernel_rfl) (by kernel_rfl) (by kernel_rfl) (Yld.of rfl (fun W _ => by go_simp; first | done | with_reducible rfl)) HS ?_; simp only [Act.put, List.setIfInBounds_toArray, List.set_cons_zero, List.set_cons_succ]
      refine rg_take (i := 7) rfl (by kernel_rfl) (by kernel_rfl) (by kernel_rfl) (Yld.move rfl rfl) HS ?_; simp only [Act.put, eval_tmp, eval_const, getD_lit0, getD_lits, if_true, if_false, List.setIfInBounds_toArray, List.set_cons_zero, List.set_cons_succ]
      first | (refine rg_take (i := 8) rfl (by kernel_rfl) (by kernel_rfl) (by kernel_rfl) (Yld.ldr rfl rfl agg24 size24 rfl (by repeat (first | exact List.mem_cons_self | apply List.mem_cons_of_mem)) (by first | exact BA_size _ | rfl | (simp; done) | assumption)) HS ?_; simp only [Act.put, List.setIfInBounds_toArray, List.set_cons_zero, List.set_cons_succ]) | (refine rg_take (i := 8) rfl (by kernel_rfl) (by kernel_rfl) (by kernel_rfl) (Yld.ldor rfl rfl agg24 size24 rfl (by assumption) (by first | exact BA_size _ | rfl | (simp; done) | assumption) (by assumption)) HS ?_; simp only [Act.put, List.setIfInBounds_toArray, List.set_cons_zero, List.set_cons_succ])
      refine rg_take (i := 9) rfl (by kernel_rfl) (by kernel_rfl) (by kernel_rfl) (Yld.move rfl rfl) HS ?_; simp only [Act.put, eval_tmp, eval_const, getD_lit0, getD_lits, if_true, if_false, List.setIfInBounds_toArray, List.set_cons_zero, List.set_cons_succ]
      first | (refine rg_take (i := 11) rfl (by kernel_rfl) (by kernel_rfl) (by kernel_rfl) (Yld.ldr rfl rfl agg32 size32 rfl (by repeat (first | exact List.mem_cons_self | apply List.mem_cons_of_mem)) (by first | exact BA_size _ | rfl | (simp; done) | assumption)) HS ?_; simp only [Act.put, List.setIfInBounds_toArray, List.set_cons_zero, List.set_cons_succ]) | (refine rg_take (i := 11) rfl (by kernel_rfl) (by kernel_rfl) (by kernel_rfl) (Yld.ldor rfl rfl agg32 size32 rfl (by assumption) (by first | exact BA_size _ | rfl | (simp; done) | assumption) (by assumption)) HS ?_; simp only [Act.put, List.setIfInBounds_toArray, List.set_cons_zero, List.set_cons_succ])
      refine rg_one (i := 10) (by kernel_rfl) rfl rfl (fun K hK => ?_)
      refine wp_callf rfl ent17 (with_ok a b (r) la.out lb.out c d HW.out _) rfl (fun v w1 hr => ?_)
      obtain ⟨rfl, hb1⟩ := hr
      replace H := H.grow hb1
      clear hb1
      clear HS
      have HS := H
      refine hK.out _ _ HS ?_
      clear hK K
      simp only [Act.put, List.setIfInBounds_toArray, List.set_cons_zero, List.set_cons_succ]
      refine rg_one (i := 12) (by kernel_rfl) rfl rfl (fun K hK => ?_)
      refine wp_callf rfl ent18 (rof_ok (fun i => hasM (a, b) (i : Int)) c d FC.out.1 FC.out.2 _) rfl (fun v w1 hr => ?_)
      obtain ⟨rfl, hb1⟩ := hr
      replace H := H.grow hb1
      clear hb1
      clear HS
      have HS := H
      refine hK.out _ _ HS ?_
      clear hK K
      simp only [Act.put, List.setIfInBounds_toArray, List.set_cons_zero, List.set_cons_succ]
      refine rg_take (i := 13) rfl (by kernel_rfl) (by kernel_rfl) (by kernel_rfl) (Yld.of rfl (fun W _ => by go_simp; first | done | with_reducible rfl)) HS ?_; simp only [Act.put, List.setIfInBounds_toArray, List.set_cons_zero, List.set_cons_succ]
      refine rg_take (i := 14) rfl (by kernel_rfl) (by kernel_rfl) (by kernel_rfl) (Yld.pick rfl rfl rfl) HS ?_; simp only [Act.put, eval_tmp, eval_const, getD_lit0, getD_lits, if_true, if_false, List.setIfInBounds_toArray, List.set_cons_zero, List.set_cons_succ]
      refine rg_take (i := 15) rfl (by kernel_rfl) (by kernel_rfl) (by kernel_rfl) (Yld.move rfl rfl) HS ?_; simp only [Act.put, eval_tmp, eval_const, getD_lit0, getD_lits, if_true, if_false, List.setIfInBounds_toArray, List.set_cons_zero, List.set_cons_succ]
      first | (refine rg_take (i := 16) rfl (by kernel_rfl) (by kernel_rfl) (by kernel_rfl) (Yld.ldr rfl rfl agg24 size24 rfl (by repeat (first | exact List.mem_cons_self | apply List.mem_cons_of_mem)) (by first | exact BA_size _ | rfl | (simp; done) | assumption)) HS ?_; simp only [Act.put, List.setIfInBounds_toArray, List.set_cons_zero, List.set_cons_succ]) | (refine rg_take (i := 16) rfl (by kernel_rfl) (by kernel_rfl) (by kernel_rfl) (Yld.ldor rfl rfl agg24 size24 rfl (by assumption) (by first | exact BA_size _ | rfl | (simp; done) | assumption) (by assumption)) HS ?_; simp only [Act.put, List.setIfInBounds_toArray, List.set_cons_zero, List.set_cons_succ])
      refine rg_take (i := 17) rfl (by kernel_rfl) (by kernel_rfl) (by kernel_rfl) (Yld.move rfl rfl) HS ?_; simp only [Act.put, eval_tmp, eval_const, getD_lit0, getD_lits, if_true, if_false, List.setIfInBounds_toArray, List.set_cons_zero, List.set_cons_succ]
      first | (refine rg_take (i := 19) rfl (by kernel_rfl) (by kernel_rfl) (by kernel_rfl) (Yld.ldr rfl rfl agg32 size32 rfl (by repeat (first | exact List.mem_cons_self | apply List.mem_cons_of_mem)) (by first | exact BA_size _ | rfl | (simp; done) | assumption)) HS ?_; simp only [Act.put, List.setIfInBounds_toArray, List.set_cons_zero, List.set_cons_succ]) | (refine rg_take (i := 19) rfl (by kernel_rfl) (by kernel_rfl) (by kernel_rfl) (Yld.ldor rfl rfl agg32 size32 rfl (by assumption) (by first | exact BA_size _ | rfl | (simp; done) | assumption) (by assumption)) HS ?_; simp only [Act.put, List.setIfInBounds_toArray, List.set_cons_zero, List.set_cons_succ])
      refine rg_one (i := 18) (by kernel_rfl) rfl rfl (fun K hK => ?_)
      refine wp_callf rfl ent19 (without_ok a b (r) la.out lb.out c' d' HO.out _) rfl (fun v w1 hr => ?_)
      obtain ⟨rfl, hb1⟩ := hr
      replace H := H.grow hb1
      clear hb1
      clear HS
      have HS := H
      refine hK.out _ _ HS ?_
      clear hK K
      simp only [Act.put, List.setIfInBounds_toArray, List.set_cons_zero, List.set_cons_succ]
      refine rg_one (i := 20) (by kernel_rfl) rfl rfl (fun K hK => ?_)
      refine wp_callf rfl ent18 (rof_ok (fun i => hasM (a, b) (i : Int)) c' d' FD.out.1 FD.out.2 _) rfl (fun v w1 hr => ?_)
      obtain ⟨rfl, hb1⟩ := hr
      replace H := H.grow hb1
      clear hb1
      clear HS
      have HS := H
      refine hK.out _ _ HS ?_
      clear hK K
      simp only [Act.put, List.setIfInBounds_toArray, List.set_cons_zero, List.set_cons_succ]
      refine rg_take (i := 21) rfl (by kernel_rfl) (by kernel_rfl) (by kernel_rfl) (Yld.of rfl (fun W _ => by go_simp; first | done | with_reducible rfl)) HS ?_; simp only [Act.put, List.setIfInBounds_toArray, List.set_cons_zero, List.set_cons_succ]
      refine rg_take (i := 22) rfl (by kernel_rfl) (by kernel_rfl) (by kernel_rfl) (Yld.pick rfl rfl rfl) HS ?_; simp only [Act.put, eval_tmp, eval_const, getD_lit0, getD_lits, if_true, if_false, List.setIfInBounds_toArray, List.set_cons_zero, List.set_cons_succ]
      refine rg_take (i := 23) rfl (by kernel_rfl) (by kernel_rfl) (by kernel_rfl) (Yld.move rfl rfl) HS ?_; simp only [Act.put, eval_tmp, eval_const, getD_lit0, getD_lits, if_true, if_false, List.setIfInBounds_toArray, List.set_cons_zero, List.set_cons_succ]
      refine rg_one (i := 24) (by kernel_rfl) rfl rfl (fun K hK => ?_)
      refine wp_callf rfl ent9 (awake_ok _) rfl (fun v w1 hr => ?_)
      obtain ⟨rfl, hb1⟩ := hr
      replace H := H.grow hb1
      clear hb1
      clear HS
      have HS := H
      refine hK.out _ _ HS ?_
      clear hK K
      simp only [Act.put, List.setIfInBounds_toArray, List.set_cons_zero, List.set_cons_succ]
      refine rg_take (i := 25) rfl (by kernel_rfl) (by kernel_rfl) (by kernel_rfl) (Yld.pick rfl rfl rfl) HS ?_; simp only [Act.put, eval_tmp, eval_const, getD_lit0, getD_lits, if_true, if_false, List.setIfInBounds_toArray, List.set_cons_zero, List.set_cons_succ]
      refine rg_take (i := 26) rfl (by kernel_rfl) (by kernel_rfl) (by kernel_rfl) (Yld.assign rfl rfl) HS ?_; simp only [Act.put, eval_tmp, eval_const, getD_lit0, getD_lits, if_true, if_false, List.setIfInBounds_toArray, List.set_cons_zero, List.set_cons_succ]
      refine rg_done (by kernel_rfl) ?_
      go_wp2
      go_ret
      exact ⟨_, rfl, rfl, H.below⟩
    · have hlt : ¬ r < 128 := by omega
      refine cut (fun a0 a' w' => ∃ g7 g8, a' = ((((((a0.put (some 13) (.agg #[.int .u64 (a : Int), .int .u64 (b : Int)])).put (some 14) (.agg (BA fun i => hasM (a, b) (i : Int)))).put (some 15) (.agg #[.int .u64 (a : Int), .int .u64 (b : Int)])).put (some 16) (.agg (BA fun i => hasM (a, b) (i : Int)))).put (some 7) (.pointer (some ⟨g7, 0, none⟩))).put (some 8) (.pointer (some ⟨g8, 0, none⟩))) ∧ St w.heap.size w w' [row 32 g8 (BA fun i => hasM (a, b) (i : Int)), row 32 g7 (BA fun i => hasM (a, b) (i : Int)), row 24 g3 #[.int .u64 (a : Int), .int .u64 (b : Int)]]) ?_ ?_
      · refine rg_begin 8 rfl (S := fun W => St _ _ W _) (by kernel_rfl) H.drew ?_
        replace H := H.drew
        have HS := H
        first | (refine rg_take (i := 0) rfl (by kernel_rfl) (by kernel_rfl) (by kernel_rfl) (Yld.ldr rfl rfl agg24 size24 rfl (by repeat (first | exact List.mem_cons_self | apply List.mem_cons_of_mem)) (by first | exact BA_size _ | rfl | (simp; done) | assumption)) (H.sub (by repeat (first | exact List.Sublist.refl _ | apply List.Sublist.cons))) ?_; simp only [Act.put, List.setIfInBounds_toArray, List.set_cons_zero, List.set_cons_succ]) | (refine rg_take (i := 0) rfl (by kernel_rfl) (by kernel_rfl) (by kernel_rfl) (Yld.ldor rfl rfl agg24 size24 rfl (by assumption) (by first | exact BA_size _ | rfl | (simp; done) | assumption) (by assumption)) (H.sub (by repeat (first | exact List.Sublist.refl _ | apply List.Sublist.cons))) ?_; simp only [Act.put, List.setIfInBounds_toArray, List.set_cons_zero, List.set_cons_succ])
        first | (refine rg_take (i := 2) rfl (by kernel_rfl) (by kernel_rfl) (by kernel_rfl) (Yld.ldr rfl rfl agg24 size24 rfl (by repeat (first | exact List.mem_cons_self | apply List.mem_cons_of_mem)) (by first | exact BA_size _ | rfl | (simp; done) | assumption)) (H.sub (by repeat (first | exact List.Sublist.refl _ | apply List.Sublist.cons))) ?_; simp only [Act.put, List.setIfInBounds_toArray, List.set_cons_zero, List.set_cons_succ]) | (refine rg_take (i := 2) rfl (by kernel_rfl) (by kernel_rfl) (by kernel_rfl) (Yld.ldor rfl rfl agg24 size24 rfl (by assumption) (by first | exact BA_size _ | rfl | (simp; done) | assumption) (by assumption)) (H.sub (by repeat (first | exact List.Sublist.refl _ | apply List.Sublist.cons))) ?_; simp only [Act.put, List.setIfInBounds_toArray, List.set_cons_zero, List.set_cons_succ])
        refine rg_all (rs := [1, 4, 5]) (by kernel_rfl) (by simp) ?_
        refine rg_cons (i := 1) rfl rfl (fun K hK => ?_) ?_
        · -- 1
          refine wp_callf rfl ent14 (flags_ok a b la.out lb.out _) rfl (fun v w1 hr => ?_)
          obtain ⟨rfl, hb1⟩ := hr
          replace H := H.grow hb1
          clear hb1
          clear HS
          have HS := H
          refine hK.out _ _ (H.sub (by repeat (first | exact List.Sublist.refl _ | apply List.Sublist.cons))) ?_
          clear hK K
          simp only [Act.put, List.setIfInBounds_toArray, List.set_cons_zero, List.set_cons_succ]
          refine rg_all (rs := [3, 4, 5]) (by kernel_rfl) (by simp) ?_
          refine rg_cons (i := 3) rfl rfl (fun K hK => ?_) ?_
          · -- 3
            refine wp_callf rfl ent14 (flags_ok a b la.out lb.out _) rfl (fun v w1 hr => ?_)
            obtain ⟨rfl, hb1⟩ := hr
            replace H := H.grow hb1
            clear hb1
            clear HS
            have HS := H
            refine hK.out _ _ (H.sub (by repeat (first | exact List.Sublist.refl _ | apply List.Sublist.cons))) ?_
            clear hK K
            simp only [Act.put, List.setIfInBounds_toArray, List.set_cons_zero, List.set_cons_succ]
            refine rg_all (rs := [4, 5]) (by kernel_rfl) (by simp) ?_
            refine rg_cons (i := 4) rfl rfl (fun K hK => ?_) ?_
            · -- 4
              refine Stp.wp (Stp.alloc 7 rfl rfl zeroBA H ?_)
              clear H
              intro g7 w1 H
              simp only [cells_agg] at H
              clear HS
              have HS := H
              refine hK.out _ _ (H.sub (by repeat (first | exact List.Sublist.refl _ | apply List.Sublist.cons))) ?_
              clear hK K
              simp only [Act.put, List.setIfInBounds_toArray, List.set_cons_zero, List.set_cons_succ]
              refine rg_one (i := 5) (by kernel_rfl) rfl rfl (fun K hK => ?_)
              refine Stp.wp (Stp.alloc 8 rfl rfl zeroBA H ?_)
              clear H
              intro g8 w1 H
              simp only [cells_agg] at H
              clear HS
              have HS := H
              refine hK.out _ _ (H.sub (by repeat (first | exact List.Sublist.refl _ | apply List.Sublist.cons))) ?_
              clear hK K
              simp only [Act.put, List.setIfInBounds_toArray, List.set_cons_zero, List.set_cons_succ]
              refine rg_one (i := 6) (by kernel_rfl) rfl rfl (fun K hK => ?_)
              refine Stp.wp (Stp.str rfl size32 rfl rfl (BA_one _) H (by repeat (first | exact Upd.head | apply Upd.tail)) (BA_size _) (BA_size _) ?_)
              clear H
              intro w1 H
              clear HS
              have HS := H
              refine hK.out _ _ (H.sub (by repeat (first | exact List.Sublist.refl _ | apply List.Sublist.cons))) ?_
              clear hK K
              simp only [Act.put, List.setIfInBounds_toArray, List.set_cons_zero, List.set_cons_succ]
              refine rg_one (i := 7) (by kernel_rfl) rfl rfl (fun K hK => ?_)
              refine Stp.wp (Stp.str rfl size32 rfl rfl (BA_one _) H (by repeat (first | exact Upd.head | apply Upd.tail)) (BA_size _) (BA_size _) ?_)
              clear H
              intro w1 H
              clear HS
              have HS := H
              refine hK.out _ _ (H.sub (by repeat (first | exact List.Sublist.refl _ | apply List.Sublist.cons))) ?_
              clear hK K
              simp only [Act.put, List.setIfInBounds_toArray, List.set_cons_zero, List.set_cons_succ]
              refine rg_done (by kernel_rfl) ?_
              exact ⟨rfl, g7, g8, by simp only [Act.put, List.setIfInBounds_toArray, List.set_cons_zero, List.set_cons_succ], by first | exact H | exact H.swap⟩
            refine rg_cons (i := 5) rfl rfl (fun K hK => ?_) ?_
            · -- 5
              refine Stp.wp (Stp.alloc 8 rfl rfl zeroBA H ?_)
              clear H
              intro g8 w1 H
              simp only [cells_agg] at H
              clear HS
              have HS := H
              refine hK.out _ _ (H.sub (by repeat (first | exact List.Sublist.refl _ | apply List.Sublist.cons))) ?_
              clear hK K
              simp only [Act.put, List.setIfInBounds_toArray, List.set_cons_zero, List.set_cons_succ]
              refine rg_one (i := 4) (by kernel_rfl) rfl rfl (fun K hK => ?_)
              refine Stp.wp (Stp.alloc 7 rfl rfl zeroBA H ?_)
              clear H
              intro g7 w1 H
              simp only [cells_agg] at H
              clear HS
              have HS := H
              refine hK.out _ _ (H.sub (by repeat (first | exact List.Sublist.refl _ | apply List.Sublist.cons))) ?_
              clear hK K
              simp only [Act.put, List.setIfInBounds_toArray, List.set_cons_zero, List.set_cons_succ]
              refine rg_one (i := 6) (by kernel_rfl) rfl rfl (fun K hK => ?_)
              refine Stp.wp (Stp.str rfl size32 rfl rfl (BA_one _) H (by repeat (first | exact Upd.head | apply Upd.tail)) (BA_size _) (BA_size _) ?_)
              clear H
              intro w1 H
              clear HS
              have HS := H
              refine hK.out _ _ (H.sub (by repeat (first | exact List.Sublist.refl _ | apply List.Sublist.cons))) ?_
              clear hK K
              simp only [Act.put, List.setIfInBounds_toArray, List.set_cons_zero, List.set_cons_succ]
              refine rg_one (i := 7) (by kernel_rfl) rfl rfl (fun K hK => ?_)
              refine Stp.wp (Stp.str rfl size32 rfl rfl (BA_one _) H (by repeat (first | exact Upd.head | apply Upd.tail)) (BA_size _) (BA_size _) ?_)
              clear H
              intro w1 H
              clear HS
              have HS := H
              refine hK.out _ _ (H.sub (by repeat (first | exact List.Sublist.refl _ | apply List.Sublist.cons))) ?_
              clear hK K
              simp only [Act.put, List.setIfInBounds_toArray, List.set_cons_zero, List.set_cons_succ]
              refine rg_done (by kernel_rfl) ?_
              exact ⟨rfl, g7, g8, by simp only [Act.put, List.setIfInBounds_toArray, List.set_cons_zero, List.set_cons_succ], by first | exact H | exact H.swap⟩
            exact AllReadyH.nil
          refine rg_cons (i := 4) rfl rfl (fun K hK => ?_) ?_
          · -- 4
            refine Stp.wp (Stp.alloc 7 rfl rfl zeroBA H ?_)
            clear H
            intro g7 w1 H
            simp only [cells_agg] at H
            clear HS
            have HS := H
            refine hK.out _ _ (H.sub (by repeat (first | exact List.Sublist.refl _ | apply List.Sublist.cons))) ?_
            clear hK K
            simp only [Act.put, List.setIfInBounds_toArray, List.set_cons_zero, List.set_cons_succ]
            refine rg_all (rs := [3, 5]) (by kernel_rfl) (by simp) ?_
            refine rg_cons (i := 3) rfl rfl (fun K hK => ?_) ?_
            · -- 3
              refine wp_callf rfl ent14 (flags_ok a b la.out lb.out _) rfl (fun v w1 hr => ?_)
              obtain ⟨rfl, hb1⟩ := hr
              replace H := H.grow hb1
              clear hb1
              clear HS
              have HS := H
              refine hK.out _ _ (H.sub (by repeat (first | exact List.Sublist.refl _ | apply List.Sublist.cons))) ?_
              clear hK K
              simp only [Act.put, List.setIfInBounds_toArray, List.set_cons_zero, List.set_cons_succ]
              refine rg_one (i := 5) (by kernel_rfl) rfl rfl (fun K hK => ?_)
              refine Stp.wp (Stp.alloc 8 rfl rfl zeroBA H ?_)
              clear H
              intro g8 w1 H
              simp only [cells_agg] at H
              clear HS
              have HS := H
              refine hK.out _ _ (H.sub (by repeat (first | exact List.Sublist.refl _ | apply List.Sublist.cons))) ?_
              clear hK K
              simp only [Act.put, List.setIfInBounds_toArray, List.set_cons_zero, List.set_cons_succ]
              refine rg_one (i := 6) (by kernel_rfl) rfl rfl (fun K hK => ?_)
              refine Stp.wp (Stp.str rfl size32 rfl rfl (BA_one _) H (by repeat (first | exact Upd.head | apply Upd.tail)) (BA_size _) (BA_size _) ?_)
              clear H
              intro w1 H
              clear HS
              have HS := H
              refine hK.out _ _ (H.sub (by repeat (first | exact List.Sublist.refl _ | apply List.Sublist.cons))) ?_
              clear hK K
              simp only [Act.put, List.setIfInBounds_toArray, List.set_cons_zero, List.set_cons_succ]
              refine rg_one (i := 7) (by kernel_rfl) rfl rfl (fun K hK => ?_)
              refine Stp.wp (Stp.str rfl size32 rfl rfl (BA_one _) H (by repeat (first | exact Upd.head | apply Upd.tail)) (BA_size _) (BA_size _) ?_)
              clear H
              intro w1 H
              clear HS
              have HS := H
              refine hK.out _ _ (H.sub (by repeat (first | exact List.Sublist.refl _ | apply List.Sublist.cons))) ?_
              clear hK K
              simp only [Act.put, List.setIfInBounds_toArray, List.set_cons_zero, List.set_cons_succ]
              refine rg_done (by kernel_rfl) ?_
              exact ⟨rfl, g7, g8, by simp only [Act.put, List.setIfInBounds_toArray, List.set_cons_zero, List.set_cons_succ], by first | exact H | exact H.swap⟩
            refine rg_cons (i := 5) rfl rfl (fun K hK => ?_) ?_
            · -- 5
              refine Stp.wp (Stp.alloc 8 rfl rfl zeroBA H ?_)
              clear H
              intro g8 w1 H
              simp only [cells_agg] at H
              clear HS
              have HS := H
              refine hK.out _ _ (H.sub (by repeat (first | exact List.Sublist.refl _ | apply List.Sublist.cons))) ?_
              clear hK K
              simp only [Act.put, List.setIfInBounds_toArray, List.set_cons_zero, List.set_cons_succ]
              refine rg_one (i := 3) (by kernel_rfl) rfl rfl (fun K hK => ?_)
              refine wp_callf rfl ent14 (flags_ok a b la.out lb.out _) rfl (fun v w1 hr => ?_)
              obtain ⟨rfl, hb1⟩ := hr
              replace H := H.grow hb1
              clear hb1
              clear HS
              have HS := H
              refine hK.out _ _ (H.sub (by repeat (first | exact List.Sublist.refl _ | apply List.Sublist.cons))) ?_
              clear hK K
              simp only [Act.put, List.setIfInBounds_toArray, List.set_cons_zero, List.set_cons_succ]
              refine rg_one (i := 6) (by kernel_rfl) rfl rfl (fun K hK => ?_)
              refine Stp.wp (Stp.str rfl size32 rfl rfl (BA_one _) H (by repeat (first | exact Upd.head | apply Upd.tail)) (BA_size _) (BA_size _) ?_)
              clear H
              intro w1 H
              clear HS
              have HS := H
              refine hK.out _ _ (H.sub (by repeat (first | exact List.Sublist.refl _ | apply List.Sublist.cons))) ?_
              clear hK K
              simp only [Act.put, List.setIfInBounds_toArray, List.set_cons_zero, List.set_cons_succ]
              refine rg_one (i := 7) (by kernel_rfl) rfl rfl (fun K hK => ?_)
              refine Stp.wp (Stp.str rfl size32 rfl rfl (BA_one _) H (by repeat (first | exact Upd.head | apply Upd.tail)) (BA_size _) (BA_size _) ?_)
              clear H
              intro w1 H
              clear HS
              have HS := H
              refine hK.out _ _ (H.sub (by repeat (first | exact List.Sublist.refl _ | apply List.Sublist.cons))) ?_
              clear hK K
              simp only [Act.put, List.setIfInBounds_toArray, List.set_cons_zero, List.set_cons_succ]
              refine rg_done (by kernel_rfl) ?_
              exact ⟨rfl, g7, g8, by simp only [Act.put, List.setIfInBounds_toArray, List.set_cons_zero, List.set_cons_succ], by first | exact H | exact H.swap⟩
            exact AllReadyH.nil
          refine rg_cons (i := 5) rfl rfl (fun K hK => ?_) ?_
          · -- 5
            refine Stp.wp (Stp.alloc 8 rfl rfl zeroBA H ?_)
            clear H
            intro g8 w1 H
            simp only [cells_agg] at H
            clear HS
            have HS := H
            refine hK.out _ _ (H.sub (by repeat (first | exact List.Sublist.refl _ | apply List.Sublist.cons))) ?_
            clear hK K
            simp only [Act.put, List.setIfInBounds_toArray, List.set_cons_zero, List.set_cons_succ]
            refine rg_all (rs := [3, 4]) (by kernel_rfl) (by simp) ?_
            refine rg_cons (i := 3) rfl rfl (fun K hK => ?_) ?_
            · -- 3
              refine wp_callf rfl ent14 (flags_ok a b la.out lb.out _) rfl (fun v w1 hr => ?_)
              obtain ⟨rfl, hb1⟩ := hr
              replace H := H.grow hb1
              clear hb1
              clear HS
              have HS := H
              refine hK.out _ _ (H.sub (by repeat (first | exact List.Sublist.refl _ | apply List.Sublist.cons))) ?_
              clear hK K
              simp only [Act.put, List.setIfInBounds_toArray, List.set_cons_zero, List.set_cons_succ]
              refine rg_one (i := 4) (by kernel_rfl) rfl rfl (fun K hK => ?_)
              refine Stp.wp (Stp.alloc 7 rfl rfl zeroBA H ?_)
              clear H
              intro g7 w1 H
              simp only [cells_agg] at H
              clear HS
              have HS := H
              refine hK.out _ _ (H.sub (by repeat (first | exact List.Sublist.refl _ | apply List.Sublist.cons))) ?_
              clear hK K
              simp only [Act.put, List.setIfInBounds_toArray, List.set_cons_zero, List.set_cons_succ]
              refine rg_one (i := 6) (by kernel_rfl) rfl rfl (fun K hK => ?_)
              refine Stp.wp (Stp.str rfl size32 rfl rfl (BA_one _) H (by repeat (first | exact Upd.head | apply Upd.tail)) (BA_size _) (BA_size _) ?_)
              clear H
              intro w1 H
              clear HS
              have HS := H
              refine hK.out _ _ (H.sub (by repeat (first | exact List.Sublist.refl _ | apply List.Sublist.cons))) ?_
              clear hK K
              simp only [Act.put, List.setIfInBounds_toArray, List.set_cons_zero, List.set_cons_succ]
              refine rg_one (i := 7) (by kernel_rfl) rfl rfl (fun K hK => ?_)
              refine Stp.wp (Stp.str rfl size32 rfl rfl (BA_one _) H (by repeat (first | exact Upd.head | apply Upd.tail)) (BA_size _) (BA_size _) ?_)
              clear H
              intro w1 H
              clear HS
              have HS := H
              refine hK.out _ _ (H.sub (by repeat (first | exact List.Sublist.refl _ | apply List.Sublist.cons))) ?_
              clear hK K
              simp only [Act.put, List.setIfInBounds_toArray, List.set_cons_zero, List.set_cons_succ]
              refine rg_done (by kernel_rfl) ?_
              exact ⟨rfl, g7, g8, by simp only [Act.put, List.setIfInBounds_toArray, List.set_cons_zero, List.set_cons_succ], by first | exact H | exact H.swap⟩
            refine rg_cons (i := 4) rfl rfl (fun K hK => ?_) ?_
            · -- 4
              refine Stp.wp (Stp.alloc 7 rfl rfl zeroBA H ?_)
              clear H
              intro g7 w1 H
              simp only [cells_agg] at H
              clear HS
              have HS := H
              refine hK.out _ _ (H.sub (by repeat (first | exact List.Sublist.refl _ | apply List.Sublist.cons))) ?_
              clear hK K
              simp only [Act.put, List.setIfInBounds_toArray, List.set_cons_zero, List.set_cons_succ]
              refine rg_one (i := 3) (by kernel_rfl) rfl rfl (fun K hK => ?_)
              refine wp_callf rfl ent14 (flags_ok a b la.out lb.out _) rfl (fun v w1 hr => ?_)
              obtain ⟨rfl, hb1⟩ := hr
              replace H := H.grow hb1
              clear hb1
              clear HS
              have HS := H
              refine hK.out _ _ (H.sub (by repeat (first | exact List.Sublist.refl _ | apply List.Sublist.cons))) ?_
              clear hK K
              simp only [Act.put, List.setIfInBounds_toArray, List.set_cons_zero, List.set_cons_succ]
              refine rg_one (i := 6) (by kernel_rfl) rfl rfl (fun K hK => ?_)
              refine Stp.wp (Stp.str rfl size32 rfl rfl (BA_one _) H (by repeat (first | exact Upd.head | apply Upd.tail)) (BA_size _) (BA_size _) ?_)
              clear H
              intro w1 H
              clear HS
              have HS := H
              refine hK.out _ _ (H.sub (by repeat (first | exact List.Sublist.refl _ | apply List.Sublist.cons))) ?_
              clear hK K
              simp only [Act.put, List.setIfInBounds_toArray, List.set_cons_zero, List.set_cons_succ]
              refine rg_one (i := 7) (by kernel_rfl) rfl rfl (fun K hK => ?_)
              refine Stp.wp (Stp.str rfl size32 rfl rfl (BA_one _) H (by repeat (first | exact Upd.head | apply Upd.tail)) (BA_size _) (BA_size _) ?_)
              clear H
              intro w1 H
              clear HS
              have HS := H
              refine hK.out _ _ (H.sub (by repeat (first | exact List.Sublist.refl _ | apply List.Sublist.cons))) ?_
              clear hK K
              simp only [Act.put, List.setIfInBounds_toArray, List.set_cons_zero, List.set_cons_succ]
              refine rg_done (by kernel_rfl) ?_
              exact ⟨rfl, g7, g8, by simp only [Act.put, List.setIfInBounds_toArray, List.set_cons_zero, List.set_cons_succ], by first | exact H | exact H.swap⟩
            exact AllReadyH.nil
          exact AllReadyH.nil
        refine rg_cons (i := 4) rfl rfl (fun K hK => ?_) ?_
        · -- 4
          refine Stp.wp (Stp.alloc 7 rfl rfl zeroBA H ?_)
          clear H
          intro g7 w1 H
          simp only [cells_agg] at H
          clear HS
          have HS := H
          refine hK.out _ _ (H.sub (by repeat (first | exact List.Sublist.refl _ | apply List.Sublist.cons))) ?_
          clear hK K
          simp only [Act.put, List.setIfInBounds_toArray, List.set_cons_zero, List.set_cons_succ]
          refine rg_all (rs := [1, 5]) (by kernel_rfl) (by simp) ?_
          refine rg_cons (i := 1) rfl rfl (fun K hK => ?_) ?_
          · -- 1
            refine wp_callf rfl ent14 (flags_ok a b la.out lb.out _) rfl (fun v w1 hr => ?_)
            obtain ⟨rfl, hb1⟩ := hr
            replace H := H.grow hb1
            clear hb1
            clear HS
            have HS := H
            refine hK.out _ _ (H.sub (by repeat (first | exact List.Sublist.refl _ | apply List.Sublist.cons))) ?_
            clear hK K
            simp only [Act.put, List.setIfInBounds_toArray, List.set_cons_zero, List.set_cons_succ]
            refine rg_all (rs := [3, 5]) (by kernel_rfl) (by simp) ?_
            refine rg_cons (i := 3) rfl rfl (fun K hK => ?_) ?_
            · -- 3
              refine wp_callf rfl ent14 (flags_ok a b la.out lb.out _) rfl (fun v w1 hr => ?_)
              obtain ⟨rfl, hb1⟩ := hr
              replace H := H.grow hb1
              clear hb1
              clear HS
              have HS := H
              refine hK.out _ _ (H.sub (by repeat (first | exact List.Sublist.refl _ | apply List.Sublist.cons))) ?_
              clear hK K
              simp only [Act.put, List.setIfInBounds_toArray, List.set_cons_zero, List.set_cons_succ]
              refine rg_one (i := 5) (by kernel_rfl) rfl rfl (fun K hK => ?_)
              refine Stp.wp (Stp.alloc 8 rfl rfl zeroBA H ?_)
              clear H
              intro g8 w1 H
              simp only [cells_agg] at H
              clear HS
              have HS := H
              refine hK.out _ _ (H.sub (by repeat (first | exact List.Sublist.refl _ | apply List.Sublist.cons))) ?_
              clear hK K
              simp only [Act.put, List.setIfInBounds_toArray, List.set_cons_zero, List.set_cons_succ]
              refine rg_one (i := 6) (by kernel_rfl) rfl rfl (fun K hK => ?_)
              refine Stp.wp (Stp.str rfl size32 rfl rfl (BA_one _) H (by repeat (first | exact Upd.head | apply Upd.tail)) (BA_size _) (BA_size _) ?_)
              clear H
              intro w1 H
              clear HS
              have HS := H
              refine hK.out _ _ (H.sub (by repeat (first | exact List.Sublist.refl _ | apply List.Sublist.cons))) ?_
              clear hK K
              simp only [Act.put, List.setIfInBounds_toArray, List.set_cons_zero, List.set_cons_succ]
              refine rg_one (i := 7) (by kernel_rfl) rfl rfl (fun K hK => ?_)
              refine Stp.wp (Stp.str rfl size32 rfl rfl (BA_one _) H (by repeat (first | exact Upd.head | apply Upd.tail)) (BA_size _) (BA_size _) ?_)
              clear H
              intro w1 H
              clear HS
              have HS := H
              refine hK.out _ _ (H.sub (by repeat (first | exact List.Sublist.refl _ | apply List.Sublist.cons))) ?_
              clear hK K
              simp only [Act.put, List.setIfInBounds_toArray, List.set_cons_zero, List.set_cons_succ]
              refine rg_done (by kernel_rfl) ?_
              exact ⟨rfl, g7, g8, by simp only [Act.put, List.setIfInBounds_toArray, List.set_cons_zero, List.set_cons_succ], by first | exact H | exact H.swap⟩
            refine rg_cons (i := 5) rfl rfl (fun K hK => ?_) ?_
            · -- 5
              refine Stp.wp (Stp.alloc 8 rfl rfl zeroBA H ?_)
              clear H
              intro g8 w1 H
              simp only [cells_agg] at H
              clear HS
              have HS := H
              refine hK.out _ _ (H.sub (by repeat (first | exact List.Sublist.refl _ | apply List.Sublist.cons))) ?_
              clear hK K
              simp only [Act.put, List.setIfInBounds_toArray, List.set_cons_zero, List.set_cons_succ]
              refine rg_one (i := 3) (by kernel_rfl) rfl rfl (fun K hK => ?_)
              refine wp_callf rfl ent14 (flags_ok a b la.out lb.out _) rfl (fun v w1 hr => ?_)
              obtain ⟨rfl, hb1⟩ := hr
              replace H := H.grow hb1
              clear hb1
              clear HS
              have HS := H
              refine hK.out _ _ (H.sub (by repeat (first | exact List.Sublist.refl _ | apply List.Sublist.cons))) ?_
              clear hK K
              simp only [Act.put, List.setIfInBounds_toArray, List.set_cons_zero, List.set_cons_succ]
              refine rg_one (i := 6) (by kernel_rfl) rfl rfl (fun K hK => ?_)
              refine Stp.wp (Stp.str rfl size32 rfl rfl (BA_one _) H (by repeat (first | exact Upd.head | apply Upd.tail)) (BA_size _) (BA_size _) ?_)
              clear H
              intro w1 H
              clear HS
              have HS := H
              refine hK.out _ _ (H.sub (by repeat (first | exact List.Sublist.refl _ | apply List.Sublist.cons))) ?_
              clear hK K
              simp only [Act.put, List.setIfInBounds_toArray, List.set_cons_zero, List.set_cons_succ]
              refine rg_one (i := 7) (by kernel_rfl) rfl rfl (fun K hK => ?_)
              refine Stp.wp (Stp.str rfl size32 rfl rfl (BA_one _) H (by repeat (first | exact Upd.head | apply Upd.tail)) (BA_size _) (BA_size _) ?_)
              clear H
              intro w1 H
              clear HS
              have HS := H
              refine hK.out _ _ (H.sub (by repeat (first | exact List.Sublist.refl _ | apply List.Sublist.cons))) ?_
              clear hK K
              simp only [Act.put, List.setIfInBounds_toArray, List.set_cons_zero, List.set_cons_succ]
              refine rg_done (by kernel_rfl) ?_
              exact ⟨rfl, g7, g8, by simp only [Act.put, List.setIfInBounds_toArray, List.set_cons_zero, List.set_cons_succ], by first | exact H | exact H.swap⟩
            exact AllReadyH.nil
          refine rg_cons (i := 5) rfl rfl (fun K hK => ?_) ?_
          · -- 5
            refine Stp.wp (Stp.alloc 8 rfl rfl zeroBA H ?_)
            clear H
            intro g8 w1 H
            simp only [cells_agg] at H
            clear HS
            have HS := H
            refine hK.out _ _ (H.sub (by repeat (first | exact List.Sublist.refl _ | apply List.Sublist.cons))) ?_
            clear hK K
            simp only [Act.put, List.setIfInBounds_toArray, List.set_cons_zero, List.set_cons_succ]
            refine rg_one (i := 1) (by kernel_rfl) rfl rfl (fun K hK => ?_)
            refine wp_callf rfl ent14 (flags_ok a b la.out lb.out _) rfl (fun v w1 hr => ?_)
            obtain ⟨rfl, hb1⟩ := hr
            replace H := H.grow hb1
            clear hb1
            clear HS
            have HS := H
            refine hK.out _ _ (H.sub (by repeat (first | exact List.Sublist.refl _ | apply List.Sublist.cons))) ?_
            clear hK K
            simp only [Act.put, List.setIfInBounds_toArray, List.set_cons_zero, List.set_cons_succ]
            refine rg_one (i := 3) (by kernel_rfl) rfl rfl (fun K hK => ?_)
            refine wp_callf rfl ent14 (flags_ok a b la.out lb.out _) rfl (fun v w1 hr => ?_)
            obtain ⟨rfl, hb1⟩ := hr
            replace H := H.grow hb1
            clear hb1
            clear HS
            have HS := H
            refine hK.out _ _ (H.sub (by repeat (first | exact List.Sublist.refl _ | apply List.Sublist.cons))) ?_
            clear hK K
            simp only [Act.put, List.setIfInBounds_toArray, List.set_cons_zero, List.set_cons_succ]
            refine rg_one (i := 6) (by kernel_rfl) rfl rfl (fun K hK => ?_)
            refine Stp.wp (Stp.str rfl size32 rfl rfl (BA_one _) H (by repeat (first | exact Upd.head | apply Upd.tail)) (BA_size _) (BA_size _) ?_)
            clear H
            intro w1 H
            clear HS
            have HS := H
            refine hK.out _ _ (H.sub (by repeat (first | exact List.Sublist.refl _ | apply List.Sublist.cons))) ?_
            clear hK K
            simp only [Act.put, List.setIfInBounds_toArray, List.set_cons_zero, List.set_cons_succ]
            refine rg_one (i := 7) (by kernel_rfl) rfl rfl (fun K hK => ?_)
            refine Stp.wp (Stp.str rfl size32 rfl rfl (BA_one _) H (by repeat (first | exact Upd.head | apply Upd.tail)) (BA_size _) (BA_size _) ?_)
            clear H
            intro w1 H
            clear HS
            have HS := H
            refine hK.out _ _ (H.sub (by repeat (first | exact List.Sublist.refl _ | apply List.Sublist.cons))) ?_
            clear hK K
            simp only [Act.put, List.setIfInBounds_toArray, List.set_cons_zero, List.set_cons_succ]
            refine rg_done (by kernel_rfl) ?_
            exact ⟨rfl, g7, g8, by simp only [Act.put, List.setIfInBounds_toArray, List.set_cons_zero, List.set_cons_succ], by first | exact H | exact H.swap⟩
          exact AllReadyH.nil
        refine rg_cons (i := 5) rfl rfl (fun K hK => ?_) ?_
        · -- 5
          refine Stp.wp (Stp.alloc 8 rfl rfl zeroBA H ?_)
          clear H
          intro g8 w1 H
          simp only [cells_agg] at H
          clear HS
          have HS := H
          refine hK.out _ _ (H.sub (by repeat (first | exact List.Sublist.refl _ | apply List.Sublist.cons))) ?_
          clear hK K
          simp only [Act.put, List.setIfInBounds_toArray, List.set_cons_zero, List.set_cons_succ]
          refine rg_all (rs := [1, 4]) (by kernel_rfl) (by simp) ?_
          refine rg_cons (i := 1) rfl rfl (fun K hK => ?_) ?_
          · -- 1
            refine wp_callf rfl ent14 (flags_ok a b la.out lb.out _) rfl (fun v w1 hr => ?_)
            obtain ⟨rfl, hb1⟩ := hr
            replace H := H.grow hb1
            clear hb1
            clear HS
            have HS := H
            refine hK.out _ _ (H.sub (by repeat (first | exact List.Sublist.refl _ | apply List.Sublist.cons))) ?_
            clear hK K
            simp only [Act.put, List.setIfInBounds_toArray, List.set_cons_zero, List.set_cons_succ]
            refine rg_all (rs := [3, 4]) (by kernel_rfl) (by simp) ?_
            refine rg_cons (i := 3) rfl rfl (fun K hK => ?_) ?_
            · -- 3
              refine wp_callf rfl ent14 (flags_ok a b la.out lb.out _) rfl (fun v w1 hr => ?_)
              obtain ⟨rfl, hb1⟩ := hr
              replace H := H.grow hb1
              clear hb1
              clear HS
              have HS := H
              refine hK.out _ _ (H.sub (by repeat (first | exact List.Sublist.refl _ | apply List.Sublist.cons))) ?_
              clear hK K
              simp only [Act.put, List.setIfInBounds_toArray, List.set_cons_zero, List.set_cons_succ]
              refine rg_one (i := 4) (by kernel_rfl) rfl rfl (fun K hK => ?_)
              refine Stp.wp (Stp.alloc 7 rfl rfl zeroBA H ?_)
              clear H
              intro g7 w1 H
              simp only [cells_agg] at H
              clear HS
              have HS := H
              refine hK.out _ _ (H.sub (by repeat (first | exact List.Sublist.refl _ | apply List.Sublist.cons))) ?_
              clear hK K
              simp only [Act.put, List.setIfInBounds_toArray, List.set_cons_zero, List.set_cons_succ]
              refine rg_one (i := 6) (by kernel_rfl) rfl rfl (fun K hK => ?_)
              refine Stp.wp (Stp.str rfl size32 rfl rfl (BA_one _) H (by repeat (first | exact Upd.head | apply Upd.tail)) (BA_size _) (BA_size _) ?_)
              clear H
              intro w1 H
              clear HS
              have HS := H
              refine hK.out _ _ (H.sub (by repeat (first | exact List.Sublist.refl _ | apply List.Sublist.cons))) ?_
              clear hK K
              simp only [Act.put, List.setIfInBounds_toArray, List.set_cons_zero, List.set_cons_succ]
              refine rg_one (i := 7) (by kernel_rfl) rfl rfl (fun K hK => ?_)
              refine Stp.wp (Stp.str rfl size32 rfl rfl (BA_one _) H (by repeat (first | exact Upd.head | apply Upd.tail)) (BA_size _) (BA_size _) ?_)
              clear H
              intro w1 H
              clear HS
              have HS := H
              refine hK.out _ _ (H.sub (by repeat (first | exact List.Sublist.refl _ | apply List.Sublist.cons))) ?_
              clear hK K
              simp only [Act.put, List.setIfInBounds_toArray, List.set_cons_zero, List.set_cons_succ]
              refine rg_done (by kernel_rfl) ?_
              exact ⟨rfl, g7, g8, by simp only [Act.put, List.setIfInBounds_toArray, List.set_cons_zero, List.set_cons_succ], by first | exact H | exact H.swap⟩
            refine rg_cons (i := 4) rfl rfl (fun K hK => ?_) ?_
            · -- 4
              refine Stp.wp (Stp.alloc 7 rfl rfl zeroBA H ?_)
              clear H
              intro g7 w1 H
              simp only [cells_agg] at H
              clear HS
              have HS := H
              refine hK.out _ _ (H.sub (by repeat (first | exact List.Sublist.refl _ | apply List.Sublist.cons))) ?_
              clear hK K
              simp only [Act.put, List.setIfInBounds_toArray, List.set_cons_zero, List.set_cons_succ]
              refine rg_one (i := 3) (by kernel_rfl) rfl rfl (fun K hK => ?_)
              refine wp_callf rfl ent14 (flags_ok a b la.out lb.out _) rfl (fun v w1 hr => ?_)
              obtain ⟨rfl, hb1⟩ := hr
              replace H := H.grow hb1
              clear hb1
              clear HS
              have HS := H
              refine hK.out _ _ (H.sub (by repeat (first | exact List.Sublist.refl _ | apply List.Sublist.cons))) ?_
              clear hK K
              simp only [Act.put, List.setIfInBounds_toArray, List.set_cons_zero, List.set_cons_succ]
              refine rg_one (i := 6) (by kernel_rfl) rfl rfl (fun K hK => ?_)
              refine Stp.wp (Stp.str rfl size32 rfl rfl (BA_one _) H (by repeat (first | exact Upd.head | apply Upd.tail)) (BA_size _) (BA_size _) ?_)
              clear H
              intro w1 H
              clear HS
              have HS := H
              refine hK.out _ _ (H.sub (by repeat (first | exact List.Sublist.refl _ | apply List.Sublist.cons))) ?_
              clear hK K
              simp only [Act.put, List.setIfInBounds_toArray, List.set_cons_zero, List.set_cons_succ]
              refine rg_one (i := 7) (by kernel_rfl) rfl rfl (fun K hK => ?_)
              refine Stp.wp (Stp.str rfl size32 rfl rfl (BA_one _) H (by repeat (first | exact Upd.head | apply Upd.tail)) (BA_size _) (BA_size _) ?_)
              clear H
              intro w1 H
              clear HS
              have HS := H
              refine hK.out _ _ (H.sub (by repeat (first | exact List.Sublist.refl _ | apply List.Sublist.cons))) ?_
              clear hK K
              simp only [Act.put, List.setIfInBounds_toArray, List.set_cons_zero, List.set_cons_succ]
              refine rg_done (by kernel_rfl) ?_
              exact ⟨rfl, g7, g8, by simp only [Act.put, List.setIfInBounds_toArray, List.set_cons_zero, List.set_cons_succ], by first | exact H | exact H.swap⟩
            exact AllReadyH.nil
          refine rg_cons (i := 4) rfl rfl (fun K hK => ?_) ?_
          · -- 4
            refine Stp.wp (Stp.alloc 7 rfl rfl zeroBA H ?_)
            clear H
            intro g7 w1 H
            simp only [cells_agg] at H
            clear HS
            have HS := H
            refine hK.out _ _ (H.sub (by repeat (first | exact List.Sublist.refl _ | apply List.Sublist.cons))) ?_
            clear hK K
            simp only [Act.put, List.setIfInBounds_toArray, List.set_cons_zero, List.set_cons_succ]
            refine rg_one (i := 1) (by kernel_rfl) rfl rfl (fun K hK => ?_)
            refine wp_callf rfl ent14 (flags_ok a b la.out lb.out _) rfl (fun v w1 hr => ?_)
            obtain ⟨rfl, hb1⟩ := hr
            replace H := H.grow hb1
            clear hb1
            clear HS
            have HS := H
            refine hK.out _ _ (H.sub (by repeat (first | exact List.Sublist.refl _ | apply List.Sublist.cons))) ?_
            clear hK K
            simp only [Act.put, List.setIfInBounds_toArray, List.set_cons_zero, List.set_cons_succ]
            refine rg_one (i := 3) (by kernel_rfl) rfl rfl (fun K hK => ?_)
            refine wp_callf rfl ent14 (flags_ok a b la.out lb.out _) rfl (fun v w1 hr => ?_)
            obtain ⟨rfl, hb1⟩ := hr
            replace H := H.grow hb1
            clear hb1
            clear HS
            have HS := H
            refine hK.out _ _ (H.sub (by repeat (first | exact List.Sublist.refl _ | apply List.Sublist.cons))) ?_
            clear hK K
            simp only [Act.put, List.setIfInBounds_toArray, List.set_cons_zero, List.set_cons_succ]
            refine rg_one (i := 6) (by kernel_rfl) rfl rfl (fun K hK => ?_)
            refine Stp.wp (Stp.str rfl size32 rfl rfl (BA_one _) H (by repeat (first | exact Upd.head | apply Upd.tail)) (BA_size _) (BA_size _) ?_)
            clear H
            intro w1 H
            clear HS
            have HS := H
            refine hK.out _ _ (H.sub (by repeat (first | exact List.Sublist.refl _ | apply List.Sublist.cons))) ?_
            clear hK K
            simp only [Act.put, List.setIfInBounds_toArray, List.set_cons_zero, List.set_cons_succ]
            refine rg_one (i := 7) (by kernel_rfl) rfl rfl (fun K hK => ?_)
            refine Stp.wp (Stp.str rfl size32 rfl rfl (BA_one _) H (by repeat (first | exact Upd.head | apply Upd.tail)) (BA_size _) (BA_size _) ?_)
            clear H
            intro w1 H
            clear HS
            have HS := H
            refine hK.out _ _ (H.sub (by repeat (first | exact List.Sublist.refl _ | apply List.Sublist.cons))) ?_
            clear hK K
            simp only [Act.put, List.setIfInBounds_toArray, List.set_cons_zero, List.set_cons_succ]
            refine rg_done (by kernel_rfl) ?_
            exact ⟨rfl, g7, g8, by simp only [Act.put, List.setIfInBounds_toArray, List.set_cons_zero, List.set_cons_succ], by first | exact H | exact H.swap⟩
          exact AllReadyH.nil
        exact AllReadyH.nil
      rintro a' w' ⟨g7, g8, rfl, H⟩
      simp only [Act.put, List.setIfInBounds_toArray, List.set_cons_zero, List.set_cons_succ]
      go_wp2_with (first | (with_reducible refine wpl rfl (Stp.box 3 rfl rfl rfl H ?_); clear H; intro g3 w1 H; simp only [Act.put, List.setIfInBounds_toArray, List.set_cons_zero, List.set_cons_succ]; simp only [eval_tmp, eval_const, getD_lit0, getD_lits, cells_agg, cells_int, cells_bool, cells_string, cells_pointer, cells_slice, cells_map, List.setIfInBounds_toArray, List.set_cons_zero, List.set_cons_succ] at H) | (with_reducible refine wpl rfl (Stp.stc rfl size4 rfl rfl rfl rfl H (by repeat (first | exact Upd.head | apply Upd.tail)) (by first | (rw [BA_size]; omega) | omega | (simp; done) | (simp; omega)) ?_); clear H; intro w1 H; simp only [Act.put, List.setIfInBounds_toArray, List.set_cons_zero, List.set_cons_succ]; simp only [eval_tmp, eval_const, getD_lit0, getD_lits, cells_agg, cells_int, cells_bool, cells_string, cells_pointer, cells_slice, cells_map, List.setIfInBounds_toArray, List.set_cons_zero, List.set_cons_succ] at H))
      refine rg_begin 27 rfl (S := fun W => St _ _ W _) (by kernel_rfl) H.drew ?_
      replace H := H.drew
      have HS := H
      first | (refine rg_take (i := 0) rfl (by kernel_rfl) (by kernel_rfl) (by kernel_rfl) (Yld.ldr rfl rfl agg24 size24 rfl (by repeat (first | exact List.mem_cons_self | apply List.mem_cons_of_mem)) (by first | exact BA_size _ | rfl | (simp; done) | assumption)) HS ?_; simp only [Act.put, List.setIfInBounds_toArray, List.set_cons_zero, List.set_cons_succ]) | (refine rg_take (i := 0) rfl (by kernel_rfl) (by kernel_rfl) (by kernel_rfl) (Yld.ldor rfl rfl agg24 size24 rfl (by assumption) (by first | exact BA_size _ | rfl | (simp; done) | assumption) (by assumption)) HS ?_; simp only [Act.put, List.setIfInBounds_toArray, List.set_cons_zero, List.set_cons_succ])
      refine rg_take (i := 1) rfl (by kernel_rfl) (by kernel_rfl) (by kernel_rfl) (Yld.move rfl rfl) HS ?_; simp only [Act.put, eval_tmp, eval_const, getD_lit0, getD_lits, if_true, if_false, List.setIfInBounds_toArray, List.set_cons_zero, List.set_cons_succ]
      first | (refine rg_take (i := 3) rfl (by kernel_rfl) (by kernel_rfl) (by kernel_rfl) (Yld.ldr rfl rfl agg24 size24 rfl (by repeat (first | exact List.mem_cons_self | apply List.mem_cons_of_mem)) (by first | exact BA_size _ | rfl | (simp; done) | assumption)) HS ?_; simp only [Act.put, List.setIfInBounds_toArray, List.set_cons_zero, List.set_cons_succ]) | (refine rg_take (i := 3) rfl (by kernel_rfl) (by kernel_rfl) (by kernel_rfl) (Yld.ldor rfl rfl agg24 size24 rfl (by assumption) (by first | exact BA_size _ | rfl | (simp; done) | assumption) (by assumption)) HS ?_; simp only [Act.put, List.setIfInBounds_toArray, List.set_cons_zero, List.set_cons_succ])
      refine rg_take (i := 4) rfl (by kernel_rfl) (by kernel_rfl) (by kernel_rfl) (Yld.move rfl rfl) HS ?_; simp only [Act.put, eval_tmp, eval_const, getD_lit0, getD_lits, if_true, if_false, List.setIfInBounds_toArray, List.set_cons_zero, List.set_cons_succ]
      refine rg_one (i := 2) (by kernel_rfl) rfl rfl (fun K hK => ?_)
      refine wp_callf rfl ent15 (has_ok a b (r) la.out lb.out x HX.out _) rfl (fun v w1 hr => ?_)
      obtain ⟨rfl, hb1⟩ := hr
      replace H := H.grow hb1
      clear hb1
      clear HS
      have HS := H
      refine hK.out _ _ HS ?_
      clear hK K
      simp only [Act.put, List.setIfInBounds_toArray, List.set_cons_zero, List.set_cons_succ]
      refine rg_one (i := 5) (by kernel_rfl) rfl rfl (fun K hK => ?_)
      refine wp_callf rfl ent16 (set_ok a b (r) la.out lb.out x HX.out _) rfl (fun v w1 hr => ?_)
      obtain ⟨rfl, hb1⟩ := hr
      replace H := H.grow hb1
      clear hb1
      clear HS
      have HS := H
      refine hK.out _ _ HS ?_
      clear hK K
      simp only [Act.put, List.setIfInBounds_toArray, List.set_cons_zero, List.set_cons_succ]
      refine rg_take (i := 6) rfl (by kernel_rfl) (by kernel_rfl) (by kernel_rfl) (Yld.of rfl (fun W _ => by go_simp; first | done | with_reducible rfl)) HS ?_; simp only [Act.put, List.setIfInBounds_toArray, List.set_cons_zero, List.set_cons_succ]
      refine rg_take (i := 7) rfl (by kernel_rfl) (by kernel_rfl) (by kernel_rfl) (Yld.move rfl rfl) HS ?_; simp only [Act.put, eval_tmp, eval_const, getD_lit0, getD_lits, if_true, if_false, List.setIfInBounds_toArray, List.set_cons_zero, List.set_cons_succ]
      first | (refine rg_take (i := 8) rfl (by kernel_rfl) (by kernel_rfl) (by kernel_rfl) (Yld.ldr rfl rfl agg24 size24 rfl (by repeat (first | exact List.mem_cons_self | apply List.mem_cons_of_mem)) (by first | exact BA_size _ | rfl | (simp; done) | assumption)) HS ?_; simp only [Act.put, List.setIfInBounds_toArray, List.set_cons_zero, List.set_cons_succ]) | (refine rg_take (i := 8) rfl (by kernel_rfl) (by kernel_rfl) (by kernel_rfl) (Yld.ldor rfl rfl agg24 size24 rfl (by assumption) (by first | exact BA_size _ | rfl | (simp; done) | assumption) (by assumption)) HS ?_; simp only [Act.put, List.setIfInBounds_toArray, List.set_cons_zero, List.set_cons_succ])
      refine rg_take (i := 9) rfl (by kernel_rfl) (by kernel_rfl) (by kernel_rfl) (Yld.move rfl rfl) HS ?_; simp only [Act.put, eval_tmp, eval_const, getD_lit0, getD_lits, if_true, if_false, List.setIfInBounds_toArray, List.set_cons_zero, List.set_cons_succ]
      first | (refine rg_take (i := 11) rfl (by kernel_rfl) (by kernel_rfl) (by kernel_rfl) (Yld.ldr rfl rfl agg32 size32 rfl (by repeat (first | exact List.mem_cons_self | apply List.mem_cons_of_mem)) (by first | exact BA_size _ | rfl | (simp; done) | assumption)) HS ?_; simp only [Act.put, List.setIfInBounds_toArray, List.set_cons_zero, List.set_cons_succ]) | (refine rg_take (i := 11) rfl (by kernel_rfl) (by kernel_rfl) (by kernel_rfl) (Yld.ldor rfl rfl agg32 size32 rfl (by assumption) (by first | exact BA_size _ | rfl | (simp; done) | assumption) (by assumption)) HS ?_; simp only [Act.put, List.setIfInBounds_toArray, List.set_cons_zero, List.set_cons_succ])
      refine rg_one (i := 10) (by kernel_rfl) rfl rfl (fun K hK => ?_)
      refine wp_callf rfl ent17 (with_ok a b (r) la.out lb.out c d HW.out _) rfl (fun v w1 hr => ?_)
      obtain ⟨rfl, hb1⟩ := hr
      replace H := H.grow hb1
      clear hb1
      clear HS
      have HS := H
      refine hK.out _ _ HS ?_
      clear hK K
      simp only [Act.put, List.setIfInBounds_toArray, List.set_cons_zero, List.set_cons_succ]
      refine rg_one (i := 12) (by kernel_rfl) rfl rfl (fun K hK => ?_)
      refine wp_callf rfl ent18 (rof_ok (fun i => hasM (a, b) (i : Int)) c d FC.out.1 FC.out.2 _) rfl (fun v w1 hr => ?_)
      obtain ⟨rfl, hb1⟩ := hr
      replace H := H.grow hb1
      clear hb1
      clear HS
      have HS := H
      refine hK.out _ _ HS ?_
      clear hK K
      simp only [Act.put, List.setIfInBounds_toArray, List.set_cons_zero, List.set_cons_succ]
      refine rg_take (i := 13) rfl (by kernel_rfl) (by kernel_rfl) (by kernel_rfl) (Yld.of rfl (fun W _ => by go_simp; first | done | with_reducible rfl)) HS ?_; simp only [Act.put, List.setIfInBounds_toArray, List.set_cons_zero, List.set_cons_succ]
      refine rg_take (i := 14) rfl (by kernel_rfl) (by kernel_rfl) (by kernel_rfl) (Yld.pick rfl rfl rfl) HS ?_; simp only [Act.put, eval_tmp, eval_const, getD_lit0, getD_lits, if_true, if_false, List.setIfInBounds_toArray, List.set_cons_zero, List.set_cons_succ]
      refine rg_take (i := 15) rfl (by kernel_rfl) (by kernel_rfl) (by kernel_rfl) (Yld.move rfl rfl) HS ?_; simp only [Act.put, eval_tmp, eval_const, getD_lit0, getD_lits, if_true, if_false, List.setIfInBounds_toArray, List.set_cons_zero, List.set_cons_succ]
      first | (refine rg_take (i := 16) rfl (by kernel_rfl) (by kernel_rfl) (by kernel_rfl) (Yld.ldr rfl rfl agg24 size24 rfl (by repeat (first | exact List.mem_cons_self | apply List.mem_cons_of_mem)) (by first | exact BA_size _ | rfl | (simp; done) | assumption)) HS ?_; simp only [Act.put, List.setIfInBounds_toArray, List.set_cons_zero, List.set_cons_succ]) | (refine rg_take (i := 16) rfl (by kernel_rfl) (by kernel_rfl) (by kernel_rfl) (Yld.ldor rfl rfl agg24 size24 rfl (by assumption) (by first | exact BA_size _ | rfl | (simp; done) | assumption) (by assumption)) HS ?_; simp only [Act.put, List.setIfInBounds_toArray, List.set_cons_zero, List.set_cons_succ])
      refine rg_take (i := 17) rfl (by kernel_rfl) (by kernel_rfl) (by kernel_rfl) (Yld.move rfl rfl) HS ?_; simp only [Act.put, eval_tmp, eval_const, getD_lit0, getD_lits, if_true, if_false, List.setIfInBounds_toArray, List.set_cons_zero, List.set_cons_succ]
      first | (refine rg_take (i := 19) rfl (by kernel_rfl) (by kernel_rfl) (by kernel_rfl) (Yld.ldr rfl rfl agg32 size32 rfl (by repeat (first | exact List.mem_cons_self | apply List.mem_cons_of_mem)) (by first | exact BA_size _ | rfl | (simp; done) | assumption)) HS ?_; simp only [Act.put, List.setIfInBounds_toArray, List.set_cons_zero, List.set_cons_succ]) | (refine rg_take (i := 19) rfl (by kernel_rfl) (by kernel_rfl) (by kernel_rfl) (Yld.ldor rfl rfl agg32 size32 rfl (by assumption) (by first | exact BA_size _ | rfl | (simp; done) | assumption) (by assumption)) HS ?_; simp only [Act.put, List.setIfInBounds_toArray, List.set_cons_zero, List.set_cons_succ])
      refine rg_one (i := 18) (by kernel_rfl) rfl rfl (fun K hK => ?_)
      refine wp_callf rfl ent19 (without_ok a b (r) la.out lb.out c' d' HO.out _) rfl (fun v w1 hr => ?_)
      obtain ⟨rfl, hb1⟩ := hr
      replace H := H.grow hb1
      clear hb1
      clear HS
      have HS := H
      refine hK.out _ _ HS ?_
      clear hK K
      simp only [Act.put, List.setIfInBounds_toArray, List.set_cons_zero, List.set_cons_succ]
      refine rg_one (i := 20) (by kernel_rfl) rfl rfl (fun K hK => ?_)
      refine wp_callf rfl ent18 (rof_ok (fun i => hasM (a, b) (i : Int)) c' d' FD.out.1 FD.out.2 _) rfl (fun v w1 hr => ?_)
      obtain ⟨rfl, hb1⟩ := hr
      replace H := H.grow hb1
      clear hb1
      clear HS
      have HS := H
      refine hK.out _ _ HS ?_
      clear hK K
      simp only [Act.put, List.setIfInBounds_toArray, List.set_cons_zero, List.set_cons_succ]
      refine rg_take (i := 21) rfl (by kernel_rfl) (by kernel_rfl) (by kernel_rfl) (Yld.of rfl (fun W _ => by go_simp; first | done | with_reducible rfl)) HS ?_; simp only [Act.put, List.setIfInBounds_toArray, List.set_cons_zero, List.set_cons_succ]
      refine rg_take (i := 22) rfl (by kernel_rfl) (by kernel_rfl) (by kernel_rfl) (Yld.pick rfl rfl rfl) HS ?_; simp only [Act.put, eval_tmp, eval_const, getD_lit0, getD_lits, if_true, if_false, List.setIfInBounds_toArray, List.set_cons_zero, List.set_cons_succ]
      refine rg_take (i := 23) rfl (by kernel_rfl) (by kernel_rfl) (by kernel_rfl) (Yld.move rfl rfl) HS ?_; simp only [Act.put, eval_tmp, eval_const, getD_lit0, getD_lits, if_true, if_false, List.setIfInBounds_toArray, List.set_cons_zero, List.set_cons_succ]
      refine rg_one (i := 24) (by kernel_rfl) rfl rfl (fun K hK => ?_)
      refine wp_callf rfl ent9 (awake_ok _) rfl (fun v w1 hr => ?_)
      obtain ⟨rfl, hb1⟩ := hr
      replace H := H.grow hb1
      clear hb1
      clear HS
      have HS := H
      refine hK.out _ _ HS ?_
      clear hK K
      simp only [Act.put, List.setIfInBounds_toArray, List.set_cons_zero, List.set_cons_succ]
      refine rg_take (i := 25) rfl (by kernel_rfl) (by kernel_rfl) (by kernel_rfl) (Yld.pick rfl rfl rfl) HS ?_; simp only [Act.put, eval_tmp, eval_const, getD_lit0, getD_lits, if_true, if_false, List.setIfInBounds_toArray, List.set_cons_zero, List.set_cons_succ]
      refine rg_take (i := 26) rfl (by kernel_rfl) (by kernel_rfl) (by kernel_rfl) (Yld.assign rfl rfl) HS ?_; simp only [Act.put, eval_tmp, eval_const, getD_lit0, getD_lits, if_true, if_false, List.setIfInBounds_toArray, List.set_cons_zero, List.set_cons_succ]
      refine rg_done (by kernel_rfl) ?_
      go_wp2
      go_ret
      exact ⟨_, rfl, rfl, H.below⟩
  · obtain ⟨kq, rfl⟩ : ∃ kq : Nat, r = kq := ⟨r.toNat, by omega⟩
    have hkq : kq < 128 := by omega
    obtain ⟨hc, hd⟩ := hf.yes kq rfl hkq
    have FC := Lib.hid hc
    have FD := Lib.hid hd
    have hge : (0 : Int) ≤ (kq : Int) := by omega
    have hlt : (kq : Int) < 128 := by omega
    clear hc hd hf hr
    refine cut (fun a0 a' w' => ∃ g7 g8, a' = ((((((a0.put (some 13) (.agg #[.int .u64 (a : Int), .int .u64 (b : Int)])).put (some 14) (.agg (BA fun i => hasM (a, b) (i : Int)))).put (some 15) (.agg #[.int .u64 (a : Int), .int .u64 (b : Int)])).put (some 16) (.agg (BA fun i => hasM (a, b) (i : Int)))).put (some 7) (.pointer (some ⟨g7, 0, none⟩))).put (some 8) (.pointer (some ⟨g8, 0, none⟩))) ∧ St w.heap.size w w' [row 32 g8 (BA fun i => hasM (a, b) (i : Int)), row 32 g7 (BA fun i => hasM (a, b) (i : Int)), row 24 g3 #[.int .u64 (a : Int), .int .u64 (b : Int)]]) ?_ ?_
    · refine rg_begin 8 rfl (S := fun W => St _ _ W _) (by kernel_rfl) H.drew ?_
      replace H := H.drew
      have HS := H
      first | (refine rg_take (i := 0) rfl (by kernel_rfl) (by kernel_rfl) (by kernel_rfl) (Yld.ldr rfl rfl agg24 size24 rfl (by repeat (first | exact List.mem_cons_self | apply List.mem_cons_of_mem)) (by first | exact BA_size _ | rfl | (simp; done) | assumption)) (H.sub (by repeat (first | exact List.Sublist.refl _ | apply List.Sublist.cons))) ?_; simp only [Act.put, List.setIfInBounds_toArray, List.set_cons_zero, List.set_cons_succ]) | (refine rg_take (i := 0) rfl (by kernel_rfl) (by kernel_rfl) (by kernel_rfl) (Yld.ldor rfl rfl agg24 size24 rfl (by assumption) (by first | exact BA_size _ | rfl | (simp; done) | assumption) (by assumption)) (H.sub (by repeat (first | exact List.Sublist.refl _ | apply List.Sublist.cons))) ?_; simp only [Act.put, List.setIfInBounds_toArray, List.set_cons_zero, List.set_cons_succ])
      first | (refine rg_take (i := 2) rfl (by kernel_rfl) (by kernel_rfl) (by kernel_rfl) (Yld.ldr rfl rfl agg24 size24 rfl (by repeat (first | exact List.mem_cons_self | apply List.mem_cons_of_mem)) (by first | exact BA_size _ | rfl | (simp; done) | assumption)) (H.sub (by repeat (first | exact List.Sublist.refl _ | apply List.Sublist.cons))) ?_; simp only [Act.put, List.setIfInBounds_toArray, List.set_cons_zero, List.set_cons_succ]) | (refine rg_take (i := 2) rfl (by kernel_rfl) (by kernel_rfl) (by kernel_rfl) (Yld.ldor rfl rfl agg24 size24 rfl (by assumption) (by first | exact BA_size _ | rfl | (simp; done) | assumption) (by assumption)) (H.sub (by repeat (first | exact List.Sublist.refl _ | apply List.Sublist.cons))) ?_; simp only [Act.put, List.setIfInBounds_toArray, List.set_cons_zero, List.set_cons_succ])
      refine rg_all (rs := [1, 4, 5]) (by kernel_rfl) (by simp) ?_
      refine rg_cons (i := 1) rfl rfl (fun K hK => ?_) ?_
      · -- 1
        refine wp_callf rfl ent14 (flags_ok a b la.out lb.out _) rfl (fun v w1 hr => ?_)
        obtain ⟨rfl, hb1⟩ := hr
        replace H := H.grow hb1
        clear hb1
        clear HS
        have HS := H
        refine hK.out _ _ (H.sub (by repeat (first | exact List.Sublist.refl _ | apply List.Sublist.cons))) ?_
        clear hK K
        simp only [Act.put, List.setIfInBounds_toArray, List.set_cons_zero, List.set_cons_succ]
        refine rg_all (rs := [3, 4, 5]) (by kernel_rfl) (by simp) ?_
        refine rg_cons (i := 3) rfl rfl (fun K hK => ?_) ?_
        · -- 3
          refine wp_callf rfl ent14 (flags_ok a b la.out lb.out _) rfl (fun v w1 hr => ?_)
          obtain ⟨rfl, hb1⟩ := hr
          replace H := H.grow hb1
          clear hb1
          clear HS
          have HS := H
          refine hK.out _ _ (H.sub (by repeat (first | exact List.Sublist.refl _ | apply List.Sublist.cons))) ?_
          clear hK K
          simp only [Act.put, List.setIfInBounds_toArray, List.set_cons_zero, List.set_cons_succ]
          refine rg_all (rs := [4, 5]) (by kernel_rfl) (by simp) ?_
          refine rg_cons (i := 4) rfl rfl (fun K hK => ?_) ?_
          · -- 4
            refine Stp.wp (Stp.alloc 7 rfl rfl zeroBA H ?_)
            clear H
            intro g7 w1 H
            simp only [cells_agg] at H
            clear HS
            have HS := H
            refine hK.out _ _ (H.sub (by repeat (first | exact List.Sublist.refl _ | apply List.Sublist.cons))) ?_
            clear hK K
            simp only [Act.put, List.setIfInBounds_toArray, List.set_cons_zero, List.set_cons_succ]
            refine rg_one (i := 5) (by kernel_rfl) rfl rfl (fun K hK => ?_)
            refine Stp.wp (Stp.alloc 8 rfl rfl zeroBA H ?_)
            clear H
            intro g8 w1 H
            simp only [cells_agg] at H
            clear HS
            have HS := H
            refine hK.out _ _ (H.sub (by repeat (first | exact List.Sublist.refl _ | apply List.Sublist.cons))) ?_
            clear hK K
            simp only [Act.put, List.setIfInBounds_toArray, List.set_cons_zero, List.set_cons_succ]
            refine rg_one (i := 6) (by kernel_rfl) rfl rfl (fun K hK => ?_)
            refine Stp.wp (Stp.str rfl size32 rfl rfl (BA_one _) H (by repeat (first | exact Upd.head | apply Upd.tail)) (BA_size _) (BA_size _) ?_)
            clear H
            intro w1 H
            clear HS
            have HS := H
            refine hK.out _ _ (H.sub (by repeat (first | exact List.Sublist.refl _ | apply List.Sublist.cons))) ?_
            clear hK K
            simp only [Act.put, List.setIfInBounds_toArray, List.set_cons_zero, List.set_cons_succ]
            refine rg_one (i := 7) (by kernel_rfl) rfl rfl (fun K hK => ?_)
            refine Stp.wp (Stp.str rfl size32 rfl rfl (BA_one _) H (by repeat (first | exact Upd.head | apply Upd.tail)) (BA_size _) (BA_size _) ?_)
            clear H
            intro w1 H
            clear HS
            have HS := H
            refine hK.out _ _ (H.sub (by repeat (first | exact List.Sublist.refl _ | apply List.Sublist.cons))) ?_
            clear hK K
            simp only [Act.put, List.setIfInBounds_toArray, List.set_cons_zero, List.set_cons_succ]
            refine rg_done (by kernel_rfl) ?_
            exact ⟨rfl, g7, g8, by simp only [Act.put, List.setIfInBounds_toArray, List.set_cons_zero, List.set_cons_succ], by first | exact H | exact H.swap⟩
          refine rg_cons (i := 5) rfl rfl (fun K hK => ?_) ?_
          · -- 5
            refine Stp.wp (Stp.alloc 8 rfl rfl zeroBA H ?_)
            clear H
            intro g8 w1 H
            simp only [cells_agg] at H
            clear HS
            have HS := H
            refine hK.out _ _ (H.sub (by repeat (first | exact List.Sublist.refl _ | apply List.Sublist.cons))) ?_
            clear hK K
            simp only [Act.put, List.setIfInBounds_toArray, List.set_cons_zero, List.set_cons_succ]
            refine rg_one (i := 4) (by kernel_rfl) rfl rfl (fun K hK => ?_)
            refine Stp.wp (Stp.alloc 7 rfl rfl zeroBA H ?_)
            clear H
            intro g7 w1 H
            simp only [cells_agg] at H
            clear HS
            have HS := H
            refine hK.out _ _ (H.sub (by repeat (first | exact List.Sublist.refl _ | apply List.Sublist.cons))) ?_
            clear hK K
            simp only [Act.put, List.setIfInBounds_toArray, List.set_cons_zero, List.set_cons_succ]
            refine rg_one (i := 6) (by kernel_rfl) rfl rfl (fun K hK => ?_)
            refine Stp.wp (Stp.str rfl size32 rfl rfl (BA_one _) H (by repeat (first | exact Upd.head | apply Upd.tail)) (BA_size _) (BA_size _) ?_)
            clear H
            intro w1 H
            clear HS
            have HS := H
            refine hK.out _ _ (H.sub (by repeat (first | exact List.Sublist.refl _ | apply List.Sublist.cons))) ?_
            clear hK K
            simp only [Act.put, List.setIfInBounds_toArray, List.set_cons_zero, List.set_cons_succ]
            refine rg_one (i := 7) (by kernel_rfl) rfl rfl (fun K hK => ?_)
            refine Stp.wp (Stp.str rfl size32 rfl rfl (BA_one _) H (by repeat (first | exact Upd.head | apply Upd.tail)) (BA_size _) (BA_size _) ?_)
            clear H
            intro w1 H
            clear HS
            have HS := H
            refine hK.out _ _ (H.sub (by repeat (first | exact List.Sublist.refl _ | apply List.Sublist.cons))) ?_
            clear hK K
            simp only [Act.put, List.setIfInBounds_toArray, List.set_cons_zero, List.set_cons_succ]
            refine rg_done (by kernel_rfl) ?_
            exact ⟨rfl, g7, g8, by simp only [Act.put, List.setIfInBounds_toArray, List.set_cons_zero, List.set_cons_succ], by first | exact H | exact H.swap⟩
          exact AllReadyH.nil
        refine rg_cons (i := 4) rfl rfl (fun K hK => ?_) ?_
        · -- 4
          refine Stp.wp (Stp.alloc 7 rfl rfl zeroBA H ?_)
          clear H
          intro g7 w1 H
          simp only [cells_agg] at H
          clear HS
          have HS := H
          refine hK.out _ _ (H.sub (by repeat (first | exact List.Sublist.refl _ | apply List.Sublist.cons))) ?_
          clear hK K
          simp only [Act.put, List.setIfInBounds_toArray, List.set_cons_zero, List.set_cons_succ]
          refine rg_all (rs := [3, 5]) (by kernel_rfl) (by simp) ?_
          refine rg_cons (i := 3) rfl rfl (fun K hK => ?_) ?_
          · -- 3
            refine wp_callf rfl ent14 (flags_ok a b la.out lb.out _) rfl (fun v w1 hr => ?_)
            obtain ⟨rfl, hb1⟩ := hr
            replace H := H.grow hb1
            clear hb1
            clear HS
            have HS := H
            refine hK.out _ _ (H.sub (by repeat (first | exact List.Sublist.refl _ | apply List.Sublist.cons))) ?_
            clear hK K
            simp only [Act.put, List.setIfInBounds_toArray, List.set_cons_zero, List.set_cons_succ]
            refine rg_one (i := 5) (by kernel_rfl) rfl rfl (fun K hK => ?_)
            refine Stp.wp (Stp.alloc 8 rfl rfl zeroBA H ?_)
            clear H
            intro g8 w1 H
            simp only [cells_agg] at H
            clear HS
            have HS := H
            refine hK.out _ _ (H.sub (by repeat (first | exact List.Sublist.refl _ | apply List.Sublist.cons))) ?_
            clear hK K
            simp only [Act.put, List.setIfInBounds_toArray, List.set_cons_zero, List.set_cons_succ]
            refine rg_one (i := 6) (by kernel_rfl) rfl rfl (fun K hK => ?_)
            refine Stp.wp (Stp.str rfl size32 rfl rfl (BA_one _) H (by repeat (first | exact Upd.head | apply Upd.tail)) (BA_size _) (BA_size _) ?_)
            clear H
            intro w1 H
            clear HS
            have HS := H
            refine hK.out _ _ (H.sub (by repeat (first | exact List.Sublist.refl _ | apply List.Sublist.cons))) ?_
            clear hK K
            simp only [Act.put, List.setIfInBounds_toArray, List.set_cons_zero, List.set_cons_succ]
            refine rg_one (i := 7) (by kernel_rfl) rfl rfl (fun K hK => ?_)
            refine Stp.wp (Stp.str rfl size32 rfl rfl (BA_one _) H (by repeat (first | exact Upd.head | apply Upd.tail)) (BA_size _) (BA_size _) ?_)
            clear H
            intro w1 H
            clear HS
            have HS := H
            refine hK.out _ _ (H.sub (by repeat (first | exact List.Sublist.refl _ | apply List.Sublist.cons))) ?_
            clear hK K
            simp only [Act.put, List.setIfInBounds_toArray, List.set_cons_zero, List.set_cons_succ]
            refine rg_done (by kernel_rfl) ?_
            exact ⟨rfl, g7, g8, by simp only [Act.put, List.setIfInBounds_toArray, List.set_cons_zero, List.set_cons_succ], by first | exact H | exact H.swap⟩
          refine rg_cons (i := 5) rfl rfl (fun K hK => ?_) ?_
          · -- 5
            refine Stp.wp (Stp.alloc 8 rfl rfl zeroBA H ?_)
            clear H
            intro g8 w1 H
            simp only [cells_agg] at H
            clear HS
            have HS := H
            refine hK.out _ _ (H.sub (by repeat (first | exact List.Sublist.refl _ | apply List.Sublist.cons))) ?_
            clear hK K
            simp only [Act.put, List.setIfInBounds_toArray, List.set_cons_zero, List.set_cons_succ]
            refine rg_one (i := 3) (by kernel_rfl) rfl rfl (fun K hK => ?_)
            refine wp_callf rfl ent14 (flags_ok a b la.out lb.out _) rfl (fun v w1 hr => ?_)
            obtain ⟨rfl, hb1⟩ := hr
            replace H := H.grow hb1
            clear hb1
            clear HS
            have HS := H
            refine hK.out _ _ (H.sub (by repeat (first | exact List.Sublist.refl _ | apply List.Sublist.cons))) ?_
            clear hK K
            simp only [Act.put, List.setIfInBounds_toArray, List.set_cons_zero, List.set_cons_succ]
            refine rg_one (i := 6) (by kernel_rfl) rfl rfl (fun K hK => ?_)
            refine Stp.wp (Stp.str rfl size32 rfl rfl (BA_one _) H (by repeat (first | exact Upd.head | apply Upd.tail)) (BA_size _) (BA_size _) ?_)
            clear H
            intro w1 H
            clear HS
            have HS := H
            refine hK.out _ _ (H.sub (by repeat (first | exact List.Sublist.refl _ | apply List.Sublist.cons))) ?_
            clear hK K
            simp only [Act.put, List.setIfInBounds_toArray, List.set_cons_zero, List.set_cons_succ]
            refine rg_one (i := 7) (by kernel_rfl) rfl rfl (fun K hK => ?_)
            refine Stp.wp (Stp.str rfl size32 rfl rfl (BA_one _) H (by repeat (first | exact Upd.head | apply Upd.tail)) (BA_size _) (BA_size _) ?_)
            clear H
            intro w1 H
            clear HS
            have HS := H
            refine hK.out _ _ (H.sub (by repeat (first | exact List.Sublist.refl _ | apply List.Sublist.cons))) ?_
            clear hK K
            simp only [Act.put, List.setIfInBounds_toArray, List.set_cons_zero, List.set_cons_succ]
            refine rg_done (by kernel_rfl) ?_
            exact ⟨rfl, g7, g8, by simp only [Act.put, List.setIfInBounds_toArray, List.set_cons_zero, List.set_cons_succ], by first | exact H | exact H.swap⟩
          exact AllReadyH.nil
        refine rg_cons (i := 5) rfl rfl (fun K hK => ?_) ?_
        · -- 5
          refine Stp.wp (Stp.alloc 8 rfl rfl zeroBA H ?_)
          clear H
          intro g8 w1 H
          simp only [cells_agg] at H
          clear HS
          have HS := H
          refine hK.out _ _ (H.sub (by repeat (first | exact List.Sublist.refl _ | apply List.Sublist.cons))) ?_
          clear hK K
          simp only [Act.put, List.setIfInBounds_toArray, List.set_cons_zero, List.set_cons_succ]
          refine rg_all (rs := [3, 4]) (by kernel_rfl) (by simp) ?_
          refine rg_cons (i := 3) rfl rfl (fun K hK => ?_) ?_
          · -- 3
            refine wp_callf rfl ent14 (flags_ok a b la.out lb.out _) rfl (fun v w1 hr => ?_)
            obtain ⟨rfl, hb1⟩ := hr
            replace H := H.grow hb1
            clear hb1
            clear HS
            have HS := H
            refine hK.out _ _ (H.sub (by repeat (first | exact List.Sublist.refl _ | apply List.Sublist.cons))) ?_
            clear hK K
            simp only [Act.put, List.setIfInBounds_toArray, List.set_cons_zero, List.set_cons_succ]
            refine rg_one (i := 4) (by kernel_rfl) rfl rfl (fun K hK => ?_)
            refine Stp.wp (Stp.alloc 7 rfl rfl zeroBA H ?_)
            clear H
            intro g7 w1 H
            simp only [cells_agg] at H
            clear HS
            have HS := H
            refine hK.out _ _ (H.sub (by repeat (first | exact List.Sublist.refl _ | apply List.Sublist.cons))) ?_
            clear hK K
            simp only [Act.put, List.setIfInBounds_toArray, List.set_cons_zero, List.set_cons_succ]
            refine rg_one (i := 6) (by kernel_rfl) rfl rfl (fun K hK => ?_)
            refine Stp.wp (Stp.str rfl size32 rfl rfl (BA_one _) H (by repeat (first | exact Upd.head | apply Upd.tail)) (BA_size _) (BA_size _) ?_)
            clear H
            intro w1 H
            clear HS
            have HS := H
            refine hK.out _ _ (H.sub (by repeat (first | exact List.Sublist.refl _ | apply List.Sublist.cons))) ?_
            clear hK K
            simp only [Act.put, List.setIfInBounds_toArray, List.set_cons_zero, List.set_cons_succ]
            refine rg_one (i := 7) (by kernel_rfl) rfl rfl (fun K hK => ?_)
            refine Stp.wp (Stp.str rfl size32 rfl rfl (BA_one _) H (by repeat (first | exact Upd.head | apply Upd.tail)) (BA_size _) (BA_size _) ?_)
            clear H
            intro w1 H
            clear HS
            have HS := H
            refine hK.out _ _ (H.sub (by repeat (first | exact List.Sublist.refl _ | apply List.Sublist.cons))) ?_
            clear hK K
            simp only [Act.put, List.setIfInBounds_toArray, List.set_cons_zero, List.set_cons_succ]
            refine rg_done (by kernel_rfl) ?_
            exact ⟨rfl, g7, g8, by simp only [Act.put, List.setIfInBounds_toArray, List.set_cons_zero, List.set_cons_succ], by first | exact H | exact H.swap⟩
          refine rg_cons (i := 4) rfl rfl (fun K hK => ?_) ?_
          · -- 4
            refine Stp.wp (Stp.alloc 7 rfl rfl zeroBA H ?_)
            clear H
            intro g7 w1 H
            simp only [cells_agg] at H
            clear HS
            have HS := H
            refine hK.out _ _ (H.sub (by repeat (first | exact List.Sublist.refl _ | apply List.Sublist.cons))) ?_
            clear hK K
            simp only [Act.put, List.setIfInBounds_toArray, List.set_cons_zero, List.set_cons_succ]
            refine rg_one (i := 3) (by kernel_rfl) rfl rfl (fun K hK => ?_)
            refine wp_callf rfl ent14 (flags_ok a b la.out lb.out _) rfl (fun v w1 hr => ?_)
            obtain ⟨rfl, hb1⟩ := hr
            replace H := H.grow hb1
            clear hb1
            clear HS
            have HS := H
            refine hK.out _ _ (H.sub (by repeat (first | exact List.Sublist.refl _ | apply List.Sublist.cons))) ?_
            clear hK K
            simp only [Act.put, List.setIfInBounds_toArray, List.set_cons_zero, List.set_cons_succ]
            refine rg_one (i := 6) (by kernel_rfl) rfl rfl (fun K hK => ?_)
            refine Stp.wp (Stp.str rfl size32 rfl rfl (BA_one _) H (by repeat (first | exact Upd.head | apply Upd.tail)) (BA_size _) (BA_size _) ?_)
            clear H
            intro w1 H
            clear HS
            have HS := H
            refine hK.out _ _ (H.sub (by repeat (first | exact List.Sublist.refl _ | apply List.Sublist.cons))) ?_
            clear hK K
            simp only [Act.put, List.setIfInBounds_toArray, List.set_cons_zero, List.set_cons_succ]
            refine rg_one (i := 7) (by kernel_rfl) rfl rfl (fun K hK => ?_)
            refine Stp.wp (Stp.str rfl size32 rfl rfl (BA_one _) H (by repeat (first | exact Upd.head | apply Upd.tail)) (BA_size _) (BA_size _) ?_)
            clear H
            intro w1 H
            clear HS
            have HS := H
            refine hK.out _ _ (H.sub (by repeat (first | exact List.Sublist.refl _ | apply List.Sublist.cons))) ?_
            clear hK K
            simp only [Act.put, List.setIfInBounds_toArray, List.set_cons_zero, List.set_cons_succ]
            refine rg_done (by kernel_rfl) ?_
            exact ⟨rfl, g7, g8, by simp only [Act.put, List.setIfInBounds_toArray, List.set_cons_zero, List.set_cons_succ], by first | exact H | exact H.swap⟩
          exact AllReadyH.nil
        exact AllReadyH.nil
      refine rg_cons (i := 4) rfl rfl (fun K hK => ?_) ?_
      · -- 4
        refine Stp.wp (Stp.alloc 7 rfl rfl zeroBA H ?_)
        clear H
        intro g7 w1 H
        simp only [cells_agg] at H
        clear HS
        have HS := H
        refine hK.out _ _ (H.sub (by repeat (first | exact List.Sublist.refl _ | apply List.Sublist.cons))) ?_
        clear hK K
        simp only [Act.put, List.setIfInBounds_toArray, List.set_cons_zero, List.set_cons_succ]
        refine rg_all (rs := [1, 5]) (by kernel_rfl) (by simp) ?_
        refine rg_cons (i := 1) rfl rfl (fun K hK => ?_) ?_
        · -- 1
          refine wp_callf rfl ent14 (flags_ok a b la.out lb.out _) rfl (fun v w1 hr => ?_)
          obtain ⟨rfl, hb1⟩ := hr
          replace H := H.grow hb1
          clear hb1
          clear HS
          have HS := H
          refine hK.out _ _ (H.sub (by repeat (first | exact List.Sublist.refl _ | apply List.Sublist.cons))) ?_
          clear hK K
          simp only [Act.put, List.setIfInBounds_toArray, List.set_cons_zero, List.set_cons_succ]
          refine rg_all (rs := [3, 5]) (by kernel_rfl) (by simp) ?_
          refine rg_cons (i := 3) rfl rfl (fun K hK => ?_) ?_
          · -- 3
            refine wp_callf rfl ent14 (flags_ok a b la.out lb.out _) rfl (fun v w1 hr => ?_)
            obtain ⟨rfl, hb1⟩ := hr
            replace H := H.grow hb1
            clear hb1
            clear HS
            have HS := H
            refine hK.out _ _ (H.sub (by repeat (first | exact List.Sublist.refl _ | apply List.Sublist.cons))) ?_
            clear hK K
            simp only [Act.put, List.setIfInBounds_toArray, List.set_cons_zero, List.set_cons_succ]
            refine rg_one (i := 5) (by kernel_rfl) rfl rfl (fun K hK => ?_)
            refine Stp.wp (Stp.alloc 8 rfl rfl zeroBA H ?_)
            clear H
            intro g8 w1 H
            simp only [cells_agg] at H
            clear HS
            have HS := H
            refine hK.out _ _ (H.sub (by repeat (first | exact List.Sublist.refl _ | apply List.Sublist.cons))) ?_
            clear hK K
            simp only [Act.put, List.setIfInBounds_toArray, List.set_cons_zero, List.set_cons_succ]
            refine rg_one (i := 6) (by kernel_rfl) rfl rfl (fun K hK => ?_)
            refine Stp.wp (Stp.str rfl size32 rfl rfl (BA_one _) H (by repeat (first | exact Upd.head | apply Upd.tail)) (BA_size _) (BA_size _) ?_)
            clear H
            intro w1 H
            clear HS
            have HS := H
            refine hK.out _ _ (H.sub (by repeat (first | exact List.Sublist.refl _ | apply List.Sublist.cons))) ?_
            clear hK K
            simp only [Act.put, List.setIfInBounds_toArray, List.set_cons_zero, List.set_cons_succ]
            refine rg_one (i := 7) (by kernel_rfl) rfl rfl (fun K hK => ?_)
            refine Stp.wp (Stp.str rfl size32 rfl rfl (BA_one _) H (by repeat (first | exact Upd.head | apply Upd.tail)) (BA_size _) (BA_size _) ?_)
            clear H
            intro w1 H
            clear HS
            have HS := H
            refine hK.out _ _ (H.sub (by repeat (first | exact List.Sublist.refl _ | apply List.Sublist.cons))) ?_
            clear hK K
            simp only [Act.put, List.setIfInBounds_toArray, List.set_cons_zero, List.set_cons_succ]
            refine rg_done (by kernel_rfl) ?_
            exact ⟨rfl, g7, g8, by simp only [Act.put, List.setIfInBounds_toArray, List.set_cons_zero, List.set_cons_succ], by first | exact H | exact H.swap⟩
          refine rg_cons (i := 5) rfl rfl (fun K hK => ?_) ?_
          · -- 5
            refine Stp.wp (Stp.alloc 8 rfl rfl zeroBA H ?_)
            clear H
            intro g8 w1 H
            simp only [cells_agg] at H
            clear HS
            have HS := H
            refine hK.out _ _ (H.sub (by repeat (first | exact List.Sublist.refl _ | apply List.Sublist.cons))) ?_
            clear hK K
            simp only [Act.put, List.setIfInBounds_toArray, List.set_cons_zero, List.set_cons_succ]
            refine rg_one (i := 3) (by kernel_rfl) rfl rfl (fun K hK => ?_)
            refine wp_callf rfl ent14 (flags_ok a b la.out lb.out _) rfl (fun v w1 hr => ?_)
            obtain ⟨rfl, hb1⟩ := hr
            replace H := H.grow hb1
            clear hb1
            clear HS
            have HS := H
            refine hK.out _ _ (H.sub (by repeat (first | exact List.Sublist.refl _ | apply List.Sublist.cons))) ?_
            clear hK K
            simp only [Act.put, List.setIfInBounds_toArray, List.set_cons_zero, List.set_cons_succ]
            refine rg_one (i := 6) (by kernel_rfl) rfl rfl (fun K hK => ?_)
            refine Stp.wp (Stp.str rfl size32 rfl rfl (BA_one _) H (by repeat (first | exact Upd.head | apply Upd.tail)) (BA_size _) (BA_size _) ?_)
            clear H
            intro w1 H
            clear HS
            have HS := H
            refine hK.out _ _ (H.sub (by repeat (first | exact List.Sublist.refl _ | apply List.Sublist.cons))) ?_
            clear hK K
            simp only [Act.put, List.setIfInBounds_toArray, List.set_cons_zero, List.set_cons_succ]
            refine rg_one (i := 7) (by kernel_rfl) rfl rfl (fun K hK => ?_)
            refine Stp.wp (Stp.str rfl size32 rfl rfl (BA_one _) H (by repeat (first | exact Upd.head | apply Upd.tail)) (BA_size _) (BA_size _) ?_)
            clear H
            intro w1 H
            clear HS
            have HS := H
            refine hK.out _ _ (H.sub (by repeat (first | exact List.Sublist.refl _ | apply List.Sublist.cons))) ?_
            clear hK K
            simp only [Act.put, List.setIfInBounds_toArray, List.set_cons_zero, List.set_cons_succ]
            refine rg_done (by kernel_rfl) ?_
            exact ⟨rfl, g7, g8, by simp only [Act.put, List.setIfInBounds_toArray, List.set_cons_zero, List.set_cons_succ], by first | exact H | exact H.swap⟩
          exact AllReadyH.nil
        refine rg_cons (i := 5) rfl rfl (fun K hK => ?_) ?_
        · -- 5
          refine Stp.wp (Stp.alloc 8 rfl rfl zeroBA H ?_)
          clear H
          intro g8 w1 H
          simp only [cells_agg] at H
          clear HS
          have HS := H
          refine hK.out _ _ (H.sub (by repeat (first | exact List.Sublist.refl _ | apply List.Sublist.cons))) ?_
          clear hK K
          simp only [Act.put, List.setIfInBounds_toArray, List.set_cons_zero, List.set_cons_succ]
          refine rg_one (i := 1) (by kernel_rfl) rfl rfl (fun K hK => ?_)
          refine wp_callf rfl ent14 (flags_ok a b la.out lb.out _) rfl (fun v w1 hr => ?_)
          obtain ⟨rfl, hb1⟩ := hr
          replace H := H.grow hb1
          clear hb1
          clear HS
          have HS := H
          refine hK.out _ _ (H.sub (by repeat (first | exact List.Sublist.refl _ | apply List.Sublist.cons))) ?_
          clear hK K
          simp only [Act.put, List.setIfInBounds_toArray, List.set_cons_zero, List.set_cons_succ]
          refine rg_one (i := 3) (by kernel_rfl) rfl rfl (fun K hK => ?_)
          refine wp_callf rfl ent14 (flags_ok a b la.out lb.out _) rfl (fun v w1 hr => ?_)
          obtain ⟨rfl, hb1⟩ := hr
          replace H := H.grow hb1
          clear hb1
          clear HS
          have HS := H
          refine hK.out _ _ (H.sub (by repeat (first | exact List.Sublist.refl _ | apply List.Sublist.cons))) ?_
          clear hK K
          simp only [Act.put, List.setIfInBounds_toArray, List.set_cons_zero, List.set_cons_succ]
          refine rg_one (i := 6) (by kernel_rfl) rfl rfl (fun K hK => ?_)
          refine Stp.wp (Stp.str rfl size32 rfl rfl (BA_one _) H (by repeat (first | exact Upd.head | apply Upd.tail)) (BA_size _) (BA_size _) ?_)
          clear H
          intro w1 H
          clear HS
          have HS := H
          refine hK.out _ _ (H.sub (by repeat (first | exact List.Sublist.refl _ | apply List.Sublist.cons))) ?_
          clear hK K
          simp only [Act.put, List.setIfInBounds_toArray, List.set_cons_zero, List.set_cons_succ]
          refine rg_one (i := 7) (by kernel_rfl) rfl rfl (fun K hK => ?_)
          refine Stp.wp (Stp.str rfl size32 rfl rfl (BA_one _) H (by repeat (first | exact Upd.head | apply Upd.tail)) (BA_size _) (BA_size _) ?_)
          clear H
          intro w1 H
          clear HS
          have HS := H
          refine hK.out _ _ (H.sub (by repeat (first | exact List.Sublist.refl _ | apply List.Sublist.cons))) ?_
          clear hK K
          simp only [Act.put, List.setIfInBounds_toArray, List.set_cons_zero, List.set_cons_succ]
          refine rg_done (by kernel_rfl) ?_
          exact ⟨rfl, g7, g8, by simp only [Act.put, List.setIfInBounds_toArray, List.set_cons_zero, List.set_cons_succ], by first | exact H | exact H.swap⟩
        exact AllReadyH.nil
      refine rg_cons (i := 5) rfl rfl (fun K hK => ?_) ?_
      · -- 5
        refine Stp.wp (Stp.alloc 8 rfl rfl zeroBA H ?_)
        clear H
        intro g8 w1 H
        simp only [cells_agg] at H
        clear HS
        have HS := H
        refine hK.out _ _ (H.sub (by repeat (first | exact List.Sublist.refl _ | apply List.Sublist.cons))) ?_
        clear hK K
        simp only [Act.put, List.setIfInBounds_toArray, List.set_cons_zero, List.set_cons_succ]
        refine rg_all (rs := [1, 4]) (by kernel_rfl) (by simp) ?_
        refine rg_cons (i := 1) rfl rfl (fun K hK => ?_) ?_
        · -- 1
          refine wp_callf rfl ent14 (flags_ok a b la.out lb.out _) rfl (fun v w1 hr => ?_)
          obtain ⟨rfl, hb1⟩ := hr
          replace H := H.grow hb1
          clear hb1
          clear HS
          have HS := H
          refine hK.out _ _ (H.sub (by repeat (first | exact List.Sublist.refl _ | apply List.Sublist.cons))) ?_
          clear hK K
          simp only [Act.put, List.setIfInBounds_toArray, List.set_cons_zero, List.set_cons_succ]
          refine rg_all (rs := [3, 4]) (by kernel_rfl) (by simp) ?_
          refine rg_cons (i := 3) rfl rfl (fun K hK => ?_) ?_
          · -- 3
            refine wp_callf rfl ent14 (flags_ok a b la.out lb.out _) rfl (fun v w1 hr => ?_)
            obtain ⟨rfl, hb1⟩ := hr
            replace H := H.grow hb1
            clear hb1
            clear HS
            have HS := H
            refine hK.out _ _ (H.sub (by repeat (first | exact List.Sublist.refl _ | apply List.Sublist.cons))) ?_
            clear hK K
            simp only [Act.put, List.setIfInBounds_toArray, List.set_cons_zero, List.set_cons_succ]
            refine rg_one (i := 4) (by kernel_rfl) rfl rfl (fun K hK => ?_)
            refine Stp.wp (Stp.alloc 7 rfl rfl zeroBA H ?_)
            clear H
            intro g7 w1 H
            simp only [cells_agg] at H
            clear HS
            have HS := H
            refine hK.out _ _ (H.sub (by repeat (first | exact List.Sublist.refl _ | apply List.Sublist.cons))) ?_
            clear hK K
            simp only [Act.put, List.setIfInBounds_toArray, List.set_cons_zero, List.set_cons_succ]
            refine rg_one (i := 6) (by kernel_rfl) rfl rfl (fun K hK => ?_)
            refine Stp.wp (Stp.str rfl size32 rfl rfl (BA_one _) H (by repeat (first | exact Upd.head | apply Upd.tail)) (BA_size _) (BA_size _) ?_)
            clear H
            intro w1 H
            clear HS
            have HS := H
            refine hK.out _ _ (H.sub (by repeat (first | exact List.Sublist.refl _ | apply List.Sublist.cons))) ?_
            clear hK K
            simp only [Act.put, List.setIfInBounds_toArray, List.set_cons_zero, List.set_cons_succ]
            refine rg_one (i := 7) (by kernel_rfl) rfl rfl (fun K hK => ?_)
            refine Stp.wp (Stp.str rfl size32 rfl rfl (BA_one _) H (by repeat (first | exact Upd.head | apply Upd.tail)) (BA_size _) (BA_size _) ?_)
            clear H
            intro w1 H
            clear HS
            have HS := H
            refine hK.out _ _ (H.sub (by repeat (first | exact List.Sublist.refl _ | apply List.Sublist.cons))) ?_
            clear hK K
            simp only [Act.put, List.setIfInBounds_toArray, List.set_cons_zero, List.set_cons_succ]
            refine rg_done (by kernel_rfl) ?_
            exact ⟨rfl, g7, g8, by simp only [Act.put, List.setIfInBounds_toArray, List.set_cons_zero, List.set_cons_succ], by first | exact H | exact H.swap⟩
          refine rg_cons (i := 4) rfl rfl (fun K hK => ?_) ?_
          · -- 4
            refine Stp.wp (Stp.alloc 7 rfl rfl zeroBA H ?_)
            clear H
            intro g7 w1 H
            simp only [cells_agg] at H
            clear HS
            have HS := H
            refine hK.out _ _ (H.sub (by repeat (first | exact List.Sublist.refl _ | apply List.Sublist.cons))) ?_
            clear hK K
            simp only [Act.put, List.setIfInBounds_toArray, List.set_cons_zero, List.set_cons_succ]
            refine rg_one (i := 3) (by kernel_rfl) rfl rfl (fun K hK => ?_)
            refine wp_callf rfl ent14 (flags_ok a b la.out lb.out _) rfl (fun v w1 hr => ?_)
            obtain ⟨rfl, hb1⟩ := hr
            replace H := H.grow hb1
            clear hb1
            clear HS
            have HS := H
            refine hK.out _ _ (H.sub (by repeat (first | exact List.Sublist.refl _ | apply List.Sublist.cons))) ?_
            clear hK K
            simp only [Act.put, List.setIfInBounds_toArray, List.set_cons_zero, List.set_cons_succ]
            refine rg_one (i := 6) (by kernel_rfl) rfl rfl (fun K hK => ?_)
            refine Stp.wp (Stp.str rfl size32 rfl rfl (BA_one _) H (by repeat (first | exact Upd.head | apply Upd.tail)) (BA_size _) (BA_size _) ?_)
            clear H
            intro w1 H
            clear HS
            have HS := H
            refine hK.out _ _ (H.sub (by repeat (first | exact List.Sublist.refl _ | apply List.Sublist.cons))) ?_
            clear hK K
            simp only [Act.put, List.setIfInBounds_toArray, List.set_cons_zero, List.set_cons_succ]
            refine rg_one (i := 7) (by kernel_rfl) rfl rfl (fun K hK => ?_)
            refine Stp.wp (Stp.str rfl size32 rfl rfl (BA_one _) H (by repeat (first | exact Upd.head | apply Upd.tail)) (BA_size _) (BA_size _) ?_)
            clear H
            intro w1 H
            clear HS
            have HS := H
            refine hK.out _ _ (H.sub (by repeat (first | exact List.Sublist.refl _ | apply List.Sublist.cons))) ?_
            clear hK K
            simp only [Act.put, List.setIfInBounds_toArray, List.set_cons_zero, List.set_cons_succ]
            refine rg_done (by kernel_rfl) ?_
            exact ⟨rfl, g7, g8, by simp only [Act.put, List.setIfInBounds_toArray, List.set_cons_zero, List.set_cons_succ], by first | exact H | exact H.swap⟩
          exact AllReadyH.nil
        refine rg_cons (i := 4) rfl rfl (fun K hK => ?_) ?_
        · -- 4
          refine Stp.wp (Stp.alloc 7 rfl rfl zeroBA H ?_)
          clear H
          intro g7 w1 H
          simp only [cells_agg] at H
          clear HS
          have HS := H
          refine hK.out _ _ (H.sub (by repeat (first | exact List.Sublist.refl _ | apply List.Sublist.cons))) ?_
          clear hK K
          simp only [Act.put, List.setIfInBounds_toArray, List.set_cons_zero, List.set_cons_succ]
          refine rg_one (i := 1) (by kernel_rfl) rfl rfl (fun K hK => ?_)
          refine wp_callf rfl ent14 (flags_ok a b la.out lb.out _) rfl (fun v w1 hr => ?_)
          obtain ⟨rfl, hb1⟩ := hr
          replace H := H.grow hb1
          clear hb1
          clear HS
          have HS := H
          refine hK.out _ _ (H.sub (by repeat (first | exact List.Sublist.refl _ | apply List.Sublist.cons))) ?_
          clear hK K
          simp only [Act.put, List.setIfInBounds_toArray, List.set_cons_zero, List.set_cons_succ]
          refine rg_one (i := 3) (by kernel_rfl) rfl rfl (fun K hK => ?_)
          refine wp_callf rfl ent14 (flags_ok a b la.out lb.out _) rfl (fun v w1 hr => ?_)
          obtain ⟨rfl, hb1⟩ := hr
          replace H := H.grow hb1
          clear hb1
          clear HS
          have HS := H
          refine hK.out _ _ (H.sub (by repeat (first | exact List.Sublist.refl _ | apply List.Sublist.cons))) ?_
          clear hK K
          simp only [Act.put, List.setIfInBounds_toArray, List.set_cons_zero, List.set_cons_succ]
          refine rg_one (i := 6) (by kernel_rfl) rfl rfl (fun K hK => ?_)
          refine Stp.wp (Stp.str rfl size32 rfl rfl (BA_one _) H (by repeat (first | exact Upd.head | apply Upd.tail)) (BA_size _) (BA_size _) ?_)
          clear H
          intro w1 H
          clear HS
          have HS := H
          refine hK.out _ _ (H.sub (by repeat (first | exact List.Sublist.refl _ | apply List.Sublist.cons))) ?_
          clear hK K
          simp only [Act.put, List.setIfInBounds_toArray, List.set_cons_zero, List.set_cons_succ]
          refine rg_one (i := 7) (by kernel_rfl) rfl rfl (fun K hK => ?_)
          refine Stp.wp (Stp.str rfl size32 rfl rfl (BA_one _) H (by repeat (first | exact Upd.head | apply Upd.tail)) (BA_size _) (BA_size _) ?_)
          clear H
          intro w1 H
          clear HS
          have HS := H
          refine hK.out _ _ (H.sub (by repeat (first | exact List.Sublist.refl _ | apply List.Sublist.cons))) ?_
          clear hK K
          simp only [Act.put, List.setIfInBounds_toArray, List.set_cons_zero, List.set_cons_succ]
          refine rg_done (by kernel_rfl) ?_
          exact ⟨rfl, g7, g8, by simp only [Act.put, List.setIfInBounds_toArray, List.set_cons_zero, List.set_cons_succ], by first | exact H | exact H.swap⟩
        exact AllReadyH.nil
      exact AllReadyH.nil
    rintro a' w' ⟨g7, g8, rfl, H⟩
    simp only [Act.put, List.setIfInBounds_toArray, List.set_cons_zero, List.set_cons_succ]
    go_wp2_with (first | (with_reducible refine wpl rfl (Stp.box 3 rfl rfl rfl H ?_); clear H; intro g3 w1 H; simp only [Act.put, List.setIfInBounds_toArray, List.set_cons_zero, List.set_cons_succ]; simp only [eval_tmp, eval_const, getD_lit0, getD_lits, cells_agg, cells_int, cells_bool, cells_string, cells_pointer, cells_slice, cells_map, List.setIfInBounds_toArray, List.set_cons_zero, List.set_cons_succ] at H) | (with_reducible refine wpl rfl (Stp.stc rfl size4 rfl rfl rfl rfl H (by repeat (first | exact Upd.head | apply Upd.tail)) (by first | (rw [BA_size]; omega) | omega | (simp; done) | (simp; omega)) ?_); clear H; intro w1 H; simp only [Act.put, List.setIfInBounds_toArray, List.set_cons_zero, List.set_cons_succ]; simp only [eval_tmp, eval_const, getD_lit0, getD_lits, cells_agg, cells_int, cells_bool, cells_string, cells_pointer, cells_slice, cells_map, List.setIfInBounds_toArray, List.set_cons_zero, List.set_cons_succ] at H))
    rw [BA_set, BA_set] at H
    refine rg_begin 27 rfl (S := fun W => St _ _ W _) (by kernel_rfl) H.drew ?_
    replace H := H.drew
    have HS := H
    first | (refine rg_take (i := 0) rfl (by kernel_rfl) (by kernel_rfl) (by kernel_rfl) (Yld.ldr rfl rfl agg24 size24 rfl (by repeat (first | exact List.mem_cons_self | apply List.mem_cons_of_mem)) (by first | exact BA_size _ | rfl | (simp; done) | assumption)) HS ?_; simp only [Act.put, List.setIfInBounds_toArray, List.set_cons_zero, List.set_cons_succ]) | (refine rg_take (i := 0) rfl (by kernel_rfl) (by kernel_rfl) (by kernel_rfl) (Yld.ldor rfl rfl agg24 size24 rfl (by assumption) (by first | exact BA_size _ | rfl | (simp; done) | assumption) (by assumption)) HS ?_; simp only [Act.put, List.setIfInBounds_toArray, List.set_cons_zero, List.set_cons_succ])
    refine rg_take (i := 1) rfl (by kernel_rfl) (by kernel_rfl) (by kernel_rfl) (Yld.move rfl rfl) HS ?_; simp only [Act.put, eval_tmp, eval_const, getD_lit0, getD_lits, if_true, if_false, List.setIfInBounds_toArray, List.set_cons_zero, List.set_cons_succ]
    first | (refine rg_take (i := 3) rfl (by kernel_rfl) (by kernel_rfl) (by kernel_rfl) (Yld.ldr rfl rfl agg24 size24 rfl (by repeat (first | exact List.mem_cons_self | apply List.mem_cons_of_mem)) (by first | exact BA_size _ | rfl | (simp; done) | assumption)) HS ?_; simp only [Act.put, List.setIfInBounds_toArray, List.set_cons_zero, List.set_cons_succ]) | (refine rg_take (i := 3) rfl (by kernel_rfl) (by kernel_rfl) (by kernel_rfl) (Yld.ldor rfl rfl agg24 size24 rfl (by assumption) (by first | exact BA_size _ | rfl | (simp; done) | assumption) (by assumption)) HS ?_; simp only [Act.put, List.setIfInBounds_toArray, List.set_cons_zero, List.set_cons_succ])
    refine rg_take (i := 4) rfl (by kernel_rfl) (by kernel_rfl) (by kernel_rfl) (Yld.move rfl rfl) HS ?_; simp only [Act.put, eval_tmp, eval_const, getD_lit0, getD_lits, if_true, if_false, List.setIfInBounds_toArray, List.set_cons_zero, List.set_cons_succ]
    refine rg_one (i := 2) (by kernel_rfl) rfl rfl (fun K hK => ?_)
    refine wp_callf rfl ent15 (has_ok a b (kq : Int) la.out lb.out x HX.out _) rfl (fun v w1 hr => ?_)
    obtain ⟨rfl, hb1⟩ := hr
    replace H := H.grow hb1
    clear hb1
    clear HS
    have HS := H
    refine hK.out _ _ HS ?_
    clear hK K
    simp only [Act.put, List.setIfInBounds_toArray, List.set_cons_zero, List.set_cons_succ]
    refine rg_one (i := 5) (by kernel_rfl) rfl rfl (fun K hK => ?_)
    refine wp_callf rfl ent16 (set_ok a b (kq : Int) la.out lb.out x HX.out _) rfl (fun v w1 hr => ?_)
    obtain ⟨rfl, hb1⟩ := hr
    replace H := H.grow hb1
    clear hb1
    clear HS
    have HS := H
    refine hK.out _ _ HS ?_
    clear hK K
    simp only [Act.put, List.setIfInBounds_toArray, List.set_cons_zero, List.set_cons_succ]
    refine rg_take (i := 6) rfl (by kernel_rfl) (by kernel_rfl) (by kernel_rfl) (Yld.of rfl (fun W _ => by go_simp; first | done | with_reducible rfl)) HS ?_; simp only [Act.put, List.setIfInBounds_toArray, List.set_cons_zero, List.set_cons_succ]
    refine rg_take (i := 7) rfl (by kernel_rfl) (by kernel_rfl) (by kernel_rfl) (Yld.move rfl rfl) HS ?_; simp only [Act.put, eval_tmp, eval_const, getD_lit0, getD_lits, if_true, if_false, List.setIfInBounds_toArray, List.set_cons_zero, List.set_cons_succ]
    first | (refine rg_take (i := 8) rfl (by kernel_rfl) (by kernel_rfl) (by kernel_rfl) (Yld.ldr rfl rfl agg24 size24 rfl (by repeat (first | exact List.mem_cons_self | apply List.mem_cons_of_mem)) (by first | exact BA_size _ | rfl | (simp; done) | assumption)) HS ?_; simp only [Act.put, List.setIfInBounds_toArray, List.set_cons_zero, List.set_cons_succ]) | (refine rg_take (i := 8) rfl (by kernel_rfl) (by kernel_rfl) (by kernel_rfl) (Yld.ldor rfl rfl agg24 size24 rfl (by assumption) (by first | exact BA_size _ | rfl | (simp; done) | assumption) (by assumption)) HS ?_; simp only [Act.put, List.setIfInBounds_toArray, List.set_cons_zero, List.set_cons_succ])
    refine rg_take (i := 9) rfl (by kernel_rfl) (by kernel_rfl) (by kernel_rfl) (Yld.move rfl rfl) HS ?_; simp only [Act.put, eval_tmp, eval_const, getD_lit0, getD_lits, if_true, if_false, List.setIfInBounds_toArray, List.set_cons_zero, List.set_cons_succ]
    first | (refine rg_take (i := 11) rfl (by kernel_rfl) (by kernel_rfl) (by kernel_rfl) (Yld.ldr rfl rfl agg32 size32 rfl (by repeat (first | exact List.mem_cons_self | apply List.mem_cons_of_mem)) (by first | exact BA_size _ | rfl | (simp; done) | assumption)) HS ?_; simp only [Act.put, List.setIfInBounds_toArray, List.set_cons_zero, List.set_cons_succ]) | (refine rg_take (i := 11) rfl (by kernel_rfl) (by kernel_rfl) (by kernel_rfl) (Yld.ldor rfl rfl agg32 size32 rfl (by assumption) (by first | exact BA_size _ | rfl | (simp; done) | assumption) (by assumption)) HS ?_; simp only [Act.put, List.setIfInBounds_toArray, List.set_cons_zero, List.set_cons_succ])
    refine rg_one (i := 10) (by kernel_rfl) rfl rfl (fun K hK => ?_)
    refine wp_callf rfl ent17 (with_ok a b (kq : Int) la.out lb.out c d HW.out _) rfl (fun v w1 hr => ?_)
    obtain ⟨rfl, hb1⟩ := hr
    replace H := H.grow hb1
    clear hb1
    clear HS
    have HS := H
    refine hK.out _ _ HS ?_
    clear hK K
    simp only [Act.put, List.setIfInBounds_toArray, List.set_cons_zero, List.set_cons_succ]
    refine rg_one (i := 12) (by kernel_rfl) rfl rfl (fun K hK => ?_)
    refine wp_callf rfl ent18 (rof_ok (updB (fun i => hasM (a, b) (i : Int)) kq true) c d FC.out.1 FC.out.2 _) rfl (fun v w1 hr => ?_)
    obtain ⟨rfl, hb1⟩ := hr
    replace H := H.grow hb1
    clear hb1
    clear HS
    have HS := H
    refine hK.out _ _ HS ?_
    clear hK K
    simp only [Act.put, List.setIfInBounds_toArray, List.set_cons_zero, List.set_cons_succ]
    refine rg_take (i := 13) rfl (by kernel_rfl) (by kernel_rfl) (by kernel_rfl) (Yld.of rfl (fun W _ => by go_simp; first | done | with_reducible rfl)) HS ?_; simp only [Act.put, List.setIfInBounds_toArray, List.set_cons_zero, List.set_cons_succ]
    refine rg_take (i := 14) rfl (by kernel_rfl) (by kernel_rfl) (by kernel_rfl) (Yld.pick rfl rfl rfl) HS ?_; simp only [Act.put, eval_tmp, eval_const, getD_lit0, getD_lits, if_true, if_false, List.setIfInBounds_toArray, List.set_cons_zero, List.set_cons_succ]
    refine rg_take (i := 15) rfl (by kernel_rfl) (by kernel_rfl) (by kernel_rfl) (Yld.move rfl rfl) HS ?_; simp only [Act.put, eval_tmp, eval_const, getD_lit0, getD_lits, if_true, if_false, List.setIfInBounds_toArray, List.set_cons_zero, List.set_cons_succ]
    first | (refine rg_take (i := 16) rfl (by kernel_rfl) (by kernel_rfl) (by kernel_rfl) (Yld.ldr rfl rfl agg24 size24 rfl (by repeat (first | exact List.mem_cons_self | apply List.mem_cons_of_mem)) (by first | exact BA_size _ | rfl | (simp; done) | assumption)) HS ?_; simp only [Act.put, List.setIfInBounds_toArray, List.set_cons_zero, List.set_cons_succ]) | (refine rg_take (i := 16) rfl (by kernel_rfl) (by kernel_rfl) (by kernel_rfl) (Yld.ldor rfl rfl agg24 size24 rfl (by assumption) (by first | exact BA_size _ | rfl | (simp; done) | assumption) (by assumption)) HS ?_; simp only [Act.put, List.setIfInBounds_toArray, List.set_cons_zero, List.set_cons_succ])
    refine rg_take (i := 17) rfl (by kernel_rfl) (by kernel_rfl) (by kernel_rfl) (Yld.move rfl rfl) HS ?_; simp only [Act.put, eval_tmp, eval_const, getD_lit0, getD_lits, if_true, if_false, List.setIfInBounds_toArray, List.set_cons_zero, List.set_cons_succ]
    first | (refine rg_take (i := 19) rfl (by kernel_rfl) (by kernel_rfl) (by kernel_rfl) (Yld.ldr rfl rfl agg32 size32 rfl (by repeat (first | exact List.mem_cons_self | apply List.mem_cons_of_mem)) (by first | exact BA_size _ | rfl | (simp; done) | assumption)) HS ?_; simp only [Act.put, List.setIfInBounds_toArray, List.set_cons_zero, List.set_cons_succ]) | (refine rg_take (i := 19) rfl (by kernel_rfl) (by kernel_rfl) (by kernel_rfl) (Yld.ldor rfl rfl agg32 size32 rfl (by assumption) (by first | exact BA_size _ | rfl | (simp; done) | assumption) (by assumption)) HS ?_; simp only [Act.put, List.setIfInBounds_toArray, List.set_cons_zero, List.set_cons_succ])
    refine rg_one (i := 18) (by kernel_rfl) rfl rfl (fun K hK => ?_)
    refine wp_callf rfl ent19 (without_ok a b (kq : Int) la.out lb.out c' d' HO.out _) rfl (fun v w1 hr => ?_)
    obtain ⟨rfl, hb1⟩ := hr
    replace H := H.grow hb1
    clear hb1
    clear HS
    have HS := H
    refine hK.out _ _ HS ?_
    clear hK K
    simp only [Act.put, List.setIfInBounds_toArray, List.set_cons_zero, List.set_cons_succ]
    refine rg_one (i := 20) (by kernel_rfl) rfl rfl (fun K hK => ?_)
    refine wp_callf rfl ent18 (rof_ok (updB (fun i => hasM (a, b) (i : Int)) kq false) c' d' FD.out.1 FD.out.2 _) rfl (fun v w1 hr => ?_)
    obtain ⟨rfl, hb1⟩ := hr
    replace H := H.grow hb1
    clear hb1
    clear HS
    have HS := H
    refine hK.out _ _ HS ?_
    clear hK K
    simp only [Act.put, List.setIfInBounds_toArray, List.set_cons_zero, List.set_cons_succ]
    refine rg_take (i := 21) rfl (by kernel_rfl) (by kernel_rfl) (by kernel_rfl) (Yld.of rfl (fun W _ => by go_simp; first | done | with_reducible rfl)) HS ?_; simp only [Act.put, List.setIfInBounds_toArray, List.set_cons_zero, List.set_cons_succ]
    refine rg_take (i := 22) rfl (by kernel_rfl) (by kernel_rfl) (by kernel_rfl) (Yld.pick rfl rfl rfl) HS ?_; simp only [Act.put, eval_tmp, eval_const, getD_lit0, getD_lits, if_true, if_false, List.setIfInBounds_toArray, List.set_cons_zero, List.set_cons_succ]
    refine rg_take (i := 23) rfl (by kernel_rfl) (by kernel_rfl) (by kernel_rfl) (Yld.move rfl rfl) HS ?_; simp only [Act.put, eval_tmp, eval_const, getD_lit0, getD_lits, if_true, if_false, List.setIfInBounds_toArray, List.set_cons_zero, List.set_cons_succ]
    refine rg_one (i := 24) (by kernel_rfl) rfl rfl (fun K hK => ?_)
    refine wp_callf rfl ent9 (awake_ok _) rfl (fun v w1 hr => ?_)
    obtain ⟨rfl, hb1⟩ := hr
    replace H := H.grow hb1
    clear hb1
    clear HS
    have HS := H
    refine hK.out _ _ HS ?_
    clear hK K
    simp only [Act.put, List.setIfInBounds_toArray, List.set_cons_zero, List.set_cons_succ]
    refine rg_take (i := 25) rfl (by kernel_rfl) (by kernel_rfl) (by kernel_rfl) (Yld.pick rfl rfl rfl) HS ?_; simp only [Act.put, eval_tmp, eval_const, getD_lit0, getD_lits, if_true, if_false, List.setIfInBounds_toArray, List.set_cons_zero, List.set_cons_succ]
    refine rg_take (i := 26) rfl (by kernel_rfl) (by kernel_rfl) (by kernel_rfl) (Yld.assign rfl rfl) HS ?_; simp only [Act.put, eval_tmp, eval_const, getD_lit0, getD_lits, if_true, if_false, List.setIfInBounds_toArray, List.set_cons_zero, List.set_cons_succ]
    refine rg_done (by kernel_rfl) ?_
    go_wp2
    go_ret
    exact ⟨_, rfl, rfl, H.below⟩
end Go.Proofs.Ytcgogcolfbpcfaa
