/- The statement MaskFlips of layer 5 (mask), proved; no condition: the law's walk, and the row round it. -/
import Derived.Test.YtcgogcolfbpcfaaMask5
namespace Go.Proofs.Ytcgogcolfbpcfaa
open Go.ChangeShapes Go.WideShapes Go.ChangeAt Go.RowKit Go.Deep
set_option linter.unusedVariables false
set_option linter.unusedSimpArgs false
attribute [local irreducible] pop low mn setM unM hasM
attribute [local go_sem] equalIn_M eqg_M
set_option maxRecDepth 100000 in
set_option maxHeartbeats 4000000 in
theorem law_flips (a1 a2 b1 b2 n : Nat) (ha1 : a1 < 18446744073709551616) (ha2 : a2 < 18446744073709551616) (hb1 : b1 < 18446744073709551616) (hb2 : b2 < 18446744073709551616) (hn : n < 256) (w : World) :
    Calls Try.prog 6 #[.agg #[.int .u64 (a1 : Int), .int .u64 (a2 : Int)], .agg #[.int .u64 (b1 : Int), .int .u64 (b2 : Int)], .int .u8 (n : Int)] w (Ret fun v w' => v = .bool true ∧ Below w.heap.size w w') := by
  have H := St.init w
  obtain ⟨k, hk⟩ : ∃ k, n % 128 = k := ⟨_, rfl⟩
  have hki : (n : Int) % 128 = (k : Int) := by omega
  have hk8 : k < 128 := by omega
  have PO1 := Lib.hid (parts_or a1 b1 ha1 hb1)
  have PO2 := Lib.hid (parts_or a2 b2 ha2 hb2)
  have PA1 := Lib.hid (parts_and a1 b1 ha1 hb1)
  have PA2 := Lib.hid (parts_and a2 b2 ha2 hb2)
  have pp1 := parts_pop a1 b1 ha1 hb1
  have pp2 := parts_pop a2 b2 ha2 hb2
  obtain ⟨p, hp⟩ : ∃ p, pop 64 (a1 &&& b1) + pop 64 (a2 &&& b2) = p := ⟨_, rfl⟩
  obtain ⟨q, hq⟩ : ∃ p, pop 64 (mn a1 b1) + pop 64 (mn a2 b2) = p := ⟨_, rfl⟩
  obtain ⟨r, hr⟩ : ∃ p, pop 64 a1 + pop 64 a2 = p := ⟨_, rfl⟩
  have hpqr : p + q = r := by omega
  have rle : r ≤ 128 := by
    have h1 := pop_le 64 a1
    have h2 := pop_le 64 a2
    omega
  have hpi : (p : Int) + (q : Int) = (r : Int) := by omega
  have hple : p ≤ 128 := by omega
  have hwr : IntKind.i64.wrap (r : Int) = (r : Int) := by
    simp [IntKind.wrap, IntKind.bits, IntKind.signed]
    omega
  have hqle : q ≤ 128 := by omega
  have HP := Lib.hid hp
  have HQ := Lib.hid hq
  have HR := Lib.hid hr
  have la1 := Lib.hid ha1
  have la2 := Lib.hid ha2
  have lb1 := Lib.hid hb1
  have lb2 := Lib.hid hb2
  have hul := Lib.hid (unM_lt (m := (a1, a2)) (r := (k : Int)) ⟨ha1, ha2⟩)
  have hsl := Lib.hid (setM_lt (m := (a1, a2)) (r := (k : Int)) ⟨ha1, ha2⟩)
  have FH : hasM (a1, a2) (k : Int) = true → setM (unM (a1, a2) k) k = (a1, a2) := flip_has (a1, a2) k hk8 ha1 ha2
  have FN : hasM (a1, a2) (k : Int) = false → unM (setM (a1, a2) k) k = (a1, a2) := flip_not (a1, a2) k hk8 ha1 ha2
  clear ha1 ha2 hb1 hb2 hk hp hq hr pp1 pp2 hpqr
  cases hh : hasM (a1, a2) (k : Int)
  · have HH := Lib.hid hh
    have hback := FN hh
    obtain ⟨⟨u, v⟩, huv⟩ : ∃ m, setM (a1, a2) (k : Int) = m := ⟨_, rfl⟩
    rw [huv] at hback
    have hsl' := hsl.out
    rw [huv] at hsl'
    have HU := Lib.hid huv
    have HK := Lib.hid hback
    have lu := Lib.hid hsl'.1
    have lv := Lib.hid hsl'.2
    clear hh FH FN hback huv hsl' hul hsl
    go_enter Try.func6, Try.ntmps6
    go_wp2_with (first | (go_at_call 15; refine (has_ok a1 a2 (k : Int) la1.out la2.out false HH.out _).mono ?_; rintro e w1 ⟨v, rfl, hr⟩; obtain ⟨rfl, hb1⟩ := hr; replace H := H.grow hb1; clear hb1) | (with_reducible refine wpl rfl (Stp.box 3 rfl rfl rfl H ?_); clear H; intro g3 w1 H; simp only [Act.put, List.setIfInBounds_toArray, List.set_cons_zero, List.set_cons_succ]; simp only [eval_tmp, eval_const, getD_lit0, getD_lits, cells_agg, cells_int, cells_bool, cells_string, cells_pointer, cells_slice, cells_map, List.setIfInBounds_toArray, List.set_cons_zero, List.set_cons_succ] at H) | (with_reducible refine wpl rfl (Stp.box 4 rfl rfl rfl H ?_); clear H; intro g4 w1 H; simp only [Act.put, List.setIfInBounds_toArray, List.set_cons_zero, List.set_cons_succ]; simp only [eval_tmp, eval_const, getD_lit0, getD_lits, cells_agg, cells_int, cells_bool, cells_string, cells_pointer, cells_slice, cells_map, List.setIfInBounds_toArray, List.set_cons_zero, List.set_cons_succ] at H) | (with_reducible refine wpl rfl (Stp.ldr rfl agg24 size24 rfl H (by repeat (first | exact List.mem_cons_self | apply List.mem_cons_of_mem)) (by first | rfl | (simp; done) | assumption) ?_); simp only [Act.put, List.setIfInBounds_toArray, List.set_cons_zero, List.set_cons_succ]) | (with_reducible refine wpl rfl (Stp.ldor rfl agg24 size24 rfl H (by assumption) (by first | rfl | (simp; done) | assumption) (by assumption) ?_); simp only [Act.put, List.setIfInBounds_toArray, List.set_cons_zero, List.set_cons_succ]))
    refine rg_begin 7 rfl (S := fun W => St _ _ W _) (by kernel_rfl) H.drew ?_
    replace H := H.drew
    have HS := H
    first | (refine rg_take (i := 0) rfl (by kernel_rfl) (by kernel_rfl) (by kernel_rfl) (Yld.ldr rfl rfl agg24 size24 rfl (by repeat (first | exact List.mem_cons_self | apply List.mem_cons_of_mem)) (by first | rfl | (simp; done) | assumption)) HS ?_; simp only [Act.put, List.setIfInBounds_toArray, List.set_cons_zero, List.set_cons_succ]) | (refine rg_take (i := 0) rfl (by kernel_rfl) (by kernel_rfl) (by kernel_rfl) (Yld.ldor rfl rfl agg24 size24 rfl (by assumption) (by first | rfl | (simp; done) | assumption) (by assumption)) HS ?_; simp only [Act.put, List.setIfInBounds_toArray, List.set_cons_zero, List.set_cons_succ])
    refine rg_take (i := 1) rfl (by kernel_rfl) (by kernel_rfl) (by kernel_rfl) (Yld.move rfl rfl) HS ?_; simp only [Act.put, eval_tmp, eval_const, getD_lit0, getD_lits, if_true, if_false, List.setIfInBounds_toArray, List.set_cons_zero, List.set_cons_succ]
    refine rg_take (i := 3) rfl (by kernel_rfl) (by kernel_rfl) (by kernel_rfl) (Yld.move rfl rfl) HS ?_; simp only [Act.put, eval_tmp, eval_const, getD_lit0, getD_lits, if_true, if_false, List.setIfInBounds_toArray, List.set_cons_zero, List.set_cons_succ]
    first | (refine rg_take (i := 5) rfl (by kernel_rfl) (by kernel_rfl) (by kernel_rfl) (Yld.ldr rfl rfl agg24 size24 rfl (by repeat (first | exact List.mem_cons_self | apply List.mem_cons_of_mem)) (by first | rfl | (simp; done) | assumption)) HS ?_; simp only [Act.put, List.setIfInBounds_toArray, List.set_cons_zero, List.set_cons_succ]) | (refine rg_take (i := 5) rfl (by kernel_rfl) (by kernel_rfl) (by kernel_rfl) (Yld.ldor rfl rfl agg24 size24 rfl (by assumption) (by first | rfl | (simp; done) | assumption) (by assumption)) HS ?_; simp only [Act.put, List.setIfInBounds_toArray, List.set_cons_zero, List.set_cons_succ])
    refine rg_one (i := 2) (by kernel_rfl) rfl rfl (fun K hK => ?_)
    refine wp_callf rfl ent17 (with_ok a1 a2 (k : Int) la1.out la2.out u v HU.out _) rfl (fun v w1 hr => ?_)
    obtain ⟨rfl, hb1⟩ := hr
    replace H := H.grow hb1
    clear hb1
    clear HS
    have HS := H
    refine hK.out _ _ HS ?_
    clear hK K
    simp only [Act.put, List.setIfInBounds_toArray, List.set_cons_zero, List.set_cons_succ]
    refine rg_one (i := 4) (by kernel_rfl) rfl rfl (fun K hK => ?_)
    refine wp_callf rfl ent19 (without_ok u v (k : Int) lu.out lv.out a1 a2 HK.out _) rfl (fun v w1 hr => ?_)
    obtain ⟨rfl, hb1⟩ := hr
    replace H := H.grow hb1
    clear hb1
    clear HS
    have HS := H
    refine hK.out _ _ HS ?_
    clear hK K
    simp only [Act.put, List.setIfInBounds_toArray, List.set_cons_zero, List.set_cons_succ]
    refine rg_take (i := 6) rfl (by kernel_rfl) (by kernel_rfl) (by kernel_rfl) (Yld.of rfl (fun W _ => by go_simp; first | done | with_reducible rfl)) HS ?_; simp only [Act.put, List.setIfInBounds_toArray, List.set_cons_zero, List.set_cons_succ]
    refine rg_done (by kernel_rfl) ?_
    go_wp2_with (first | (with_reducible refine wpl rfl (Stp.box 3 rfl rfl rfl H ?_); clear H; intro g3 w1 H; simp only [Act.put, List.setIfInBounds_toArray, List.set_cons_zero, List.set_cons_succ]; simp only [eval_tmp, eval_const, getD_lit0, getD_lits, cells_agg, cells_int, cells_bool, cells_string, cells_pointer, cells_slice, cells_map, List.setIfInBounds_toArray, List.set_cons_zero, List.set_cons_succ] at H) | (with_reducible refine wpl rfl (Stp.box 4 rfl rfl rfl H ?_); clear H; intro g4 w1 H; simp only [Act.put, List.setIfInBounds_toArray, List.set_cons_zero, List.set_cons_succ]; simp only [eval_tmp, eval_const, getD_lit0, getD_lits, cells_agg, cells_int, cells_bool, cells_string, cells_pointer, cells_slice, cells_map, List.setIfInBounds_toArray, List.set_cons_zero, List.set_cons_succ] at H) | (with_reducible refine wpl rfl (Stp.ldr rfl agg24 size24 rfl H (by repeat (first | exact List.mem_cons_self | apply List.mem_cons_of_mem)) (by first | rfl | (simp; done) | assumption) ?_); simp only [Act.put, List.setIfInBounds_toArray, List.set_cons_zero, List.set_cons_succ]) | (with_reducible refine wpl rfl (Stp.ldor rfl agg24 size24 rfl H (by assumption) (by first | rfl | (simp; done) | assumption) (by assumption) ?_); simp only [Act.put, List.setIfInBounds_toArray, List.set_cons_zero, List.set_cons_succ]))
    refine cut (fun a0 a' w' => ∃ g8 g9, a' = (((((((((a0.put (some 30) (.agg #[.int .u64 ((a1 : Nat) : Int), .int .u64 ((a2 : Nat) : Int)])).put (some 31) (.agg #[.int .u64 ((b1 : Nat) : Int), .int .u64 ((b2 : Nat) : Int)])).put (some 32) (.agg #[.int .u64 ((a1 &&& b1 : Nat) : Int), .int .u64 ((a2 &&& b2 : Nat) : Int)])).put (some 33) (.agg #[.int .u64 ((a1 : Nat) : Int), .int .u64 ((a2 : Nat) : Int)])).put (some 34) (.agg #[.int .u64 ((b1 : Nat) : Int), .int .u64 ((b2 : Nat) : Int)])).put (some 35) (.agg #[.int .u64 ((mn a1 b1 : Nat) : Int), .int .u64 ((mn a2 b2 : Nat) : Int)])).put (some 8) (.pointer (some ⟨g8, 0, none⟩))).put (some 9) (.pointer (some ⟨g9, 0, none⟩)))) ∧ St w.heap.size w w' [row 24 g9 #[.int .u64 ((mn a1 b1 : Nat) : Int), .int .u64 ((mn a2 b2 : Nat) : Int)], row 24 g8 #[.int .u64 ((a1 &&& b1 : Nat) : Int), .int .u64 ((a2 &&& b2 : Nat) : Int)], row 24 g4 #[.int .u64 ((b1 : Nat) : Int), .int .u64 ((b2 : Nat) : Int)], row 24 g3 #[.int .u64 ((a1 : Nat) : Int), .int .u64 ((a2 : Nat) : Int)]]) ?_ ?_
    · refine rg_begin 10 rfl (S := fun W => St _ _ W _) (by kernel_rfl) H.drew ?_
      replace H := H.drew
      have HS := H
      first | (refine rg_take (i := 0) rfl (by kernel_rfl) (by kernel_rfl) (by kernel_rfl) (Yld.ldr rfl rfl agg24 size24 rfl (by repeat (first | exact List.mem_cons_self | apply List.mem_cons_of_mem)) (by first | rfl | (simp; done) | assumption)) (H.sub (by repeat (first | exact List.Sublist.refl _ | apply List.Sublist.cons))) ?_; simp only [Act.put, List.setIfInBounds_toArray, List.set_cons_zero, List.set_cons_succ]) | (refine rg_take (i := 0) rfl (by kernel_rfl) (by kernel_rfl) (by kernel_rfl) (Yld.ldor rfl rfl agg24 size24 rfl (by assumption) (by first | rfl | (simp; done) | assumption) (by assumption)) (H.sub (by repeat (first | exact List.Sublist.refl _ | apply List.Sublist.cons))) ?_; simp only [Act.put, List.setIfInBounds_toArray, List.set_cons_zero, List.set_cons_succ])
      first | (refine rg_take (i := 1) rfl (by kernel_rfl) (by kernel_rfl) (by kernel_rfl) (Yld.ldr rfl rfl agg24 size24 rfl (by repeat (first | exact List.mem_cons_self | apply List.mem_cons_of_mem)) (by first | rfl | (simp; done) | assumption)) (H.sub (by repeat (first | exact List.Sublist.refl _ | apply List.Sublist.cons))) ?_; simp only [Act.put, List.setIfInBounds_toArray, List.set_cons_zero, List.set_cons_succ]) | (refine rg_take (i := 1) rfl (by kernel_rfl) (by kernel_rfl) (by kernel_rfl) (Yld.ldor rfl rfl agg24 size24 rfl (by assumption) (by first | rfl | (simp; done) | assumption) (by assumption)) (H.sub (by repeat (first | exact List.Sublist.refl _ | apply List.Sublist.cons))) ?_; simp only [Act.put, List.setIfInBounds_toArray, List.set_cons_zero, List.set_cons_succ])
      first | (refine rg_take (i := 3) rfl (by kernel_rfl) (by kernel_rfl) (by kernel_rfl) (Yld.ldr rfl rfl agg24 size24 rfl (by repeat (first | exact List.mem_cons_self | apply List.mem_cons_of_mem)) (by first | rfl | (simp; done) | assumption)) (H.sub (by repeat (first | exact List.Sublist.refl _ | apply List.Sublist.cons))) ?_; simp only [Act.put, List.setIfInBounds_toArray, List.set_cons_zero, List.set_cons_succ]) | (refine rg_take (i := 3) rfl (by kernel_rfl) (by kernel_rfl) (by kernel_rfl) (Yld.ldor rfl rfl agg24 size24 rfl (by assumption) (by first | rfl | (simp; done) | assumption) (by assumption)) (H.sub (by repeat (first | exact List.Sublist.refl _ | apply List.Sublist.cons))) ?_; simp only [Act.put, List.setIfInBounds_toArray, List.set_cons_zero, List.set_cons_succ])
      first | (refine rg_take (i := 4) rfl (by kernel_rfl) (by kernel_rfl) (by kernel_rfl) (Yld.ldr rfl rfl agg24 size24 rfl (by repeat (first | exact List.mem_cons_self | apply List.mem_cons_of_mem)) (by first | rfl | (simp; done) | assumption)) (H.sub (by repeat (first | exact List.Sublist.refl _ | apply List.Sublist.cons))) ?_; simp only [Act.put, List.setIfInBounds_toArray, List.set_cons_zero, List.set_cons_succ]) | (refine rg_take (i := 4) rfl (by kernel_rfl) (by kernel_rfl) (by kernel_rfl) (Yld.ldor rfl rfl agg24 size24 rfl (by assumption) (by first | rfl | (simp; done) | assumption) (by assumption)) (H.sub (by repeat (first | exact List.Sublist.refl _ | apply List.Sublist.cons))) ?_; simp only [Act.put, List.setIfInBounds_toArray, List.set_cons_zero, List.set_cons_succ])
      refine rg_all (rs := [2, 6, 7]) (by kernel_rfl) (by simp) ?_
      refine rg_cons (i := 2) rfl rfl (fun K hK => ?_) ?_
      · -- 2
        refine wp_callf rfl ent11 (and_ok a1 a2 b1 b2 la1.out la2.out lb1.out lb2.out _) rfl (fun v w1 hr => ?_)
        obtain ⟨rfl, hb1⟩ := hr
        replace H := H.grow hb1
        clear hb1
        clear HS
        have HS := H
        refine hK.out _ _ (H.sub (by repeat (first | exact List.Sublist.refl _ | apply List.Sublist.cons))) ?_
        clear hK K
        simp only [Act.put, List.setIfInBounds_toArray, List.set_cons_zero, List.set_cons_succ]
        refine rg_all (rs := [5, 6, 7]) (by kernel_rfl) (by simp) ?_
        refine rg_cons (i := 5) rfl rfl (fun K hK => ?_) ?_
        · -- 5
          refine wp_callf rfl ent23 (minus_ok a1 a2 b1 b2 la1.out la2.out lb1.out lb2.out _) rfl (fun v w1 hr => ?_)
          obtain ⟨rfl, hb1⟩ := hr
          replace H := H.grow hb1
          clear hb1
          clear HS
          have HS := H
          refine hK.out _ _ (H.sub (by repeat (first | exact List.Sublist.refl _ | apply List.Sublist.cons))) ?_
          clear hK K
          simp only [Act.put, List.setIfInBounds_toArray, List.set_cons_zero, List.set_cons_succ]
          refine rg_all (rs := [6, 7]) (by kernel_rfl) (by simp) ?_
          refine rg_cons (i := 6) rfl rfl (fun K hK => ?_) ?_
          · -- 6
            refine Stp.wp (Stp.alloc 8 rfl rfl zero24 H ?_)
            clear H
            intro g8 w1 H
            clear HS
            have HS := H
            refine hK.out _ _ (H.sub (by repeat (first | exact List.Sublist.refl _ | apply List.Sublist.cons))) ?_
            clear hK K
            simp only [Act.put, List.setIfInBounds_toArray, List.set_cons_zero, List.set_cons_succ]
            refine rg_one (i := 7) (by kernel_rfl) rfl rfl (fun K hK => ?_)
            refine Stp.wp (Stp.alloc 9 rfl rfl zero24 H ?_)
            clear H
            intro g9 w1 H
            clear HS
            have HS := H
            refine hK.out _ _ (H.sub (by repeat (first | exact List.Sublist.refl _ | apply List.Sublist.cons))) ?_
            clear hK K
            simp only [Act.put, List.setIfInBounds_toArray, List.set_cons_zero, List.set_cons_succ]
            refine rg_one (i := 8) (by kernel_rfl) rfl rfl (fun K hK => ?_)
            refine Stp.wp (Stp.str rfl size24 rfl rfl (by first | rfl | (simp [Value.oneCell']; done) | assumption) H (by repeat (first | exact Upd.head | apply Upd.tail)) (by first | rfl | (simp; done) | assumption) (by first | rfl | (simp; done) | assumption) ?_)
            clear H
            intro w1 H
            clear HS
            have HS := H
            refine hK.out _ _ (H.sub (by repeat (first | exact List.Sublist.refl _ | apply List.Sublist.cons))) ?_
            clear hK K
            simp only [Act.put, List.setIfInBounds_toArray, List.set_cons_zero, List.set_cons_succ]
            refine rg_one (i := 9) (by kernel_rfl) rfl rfl (fun K hK => ?_)
            refine Stp.wp (Stp.str rfl size24 rfl rfl (by first | rfl | (simp [Value.oneCell']; done) | assumption) H (by repeat (first | exact Upd.head | apply Upd.tail)) (by first | rfl | (simp; done) | assumption) (by first | rfl | (simp; done) | assumption) ?_)
            clear H
            intro w1 H
            clear HS
            have HS := H
            refine hK.out _ _ (H.sub (by repeat (first | exact List.Sublist.refl _ | apply List.Sublist.cons))) ?_
            clear hK K
            simp only [Act.put, List.setIfInBounds_toArray, List.set_cons_zero, List.set_cons_succ]
            refine rg_done (by kernel_rfl) ?_
            exact ⟨rfl, g8, g9, by simp only [Act.put, List.setIfInBounds_toArray, List.set_cons_zero, List.set_cons_succ], by first | exact H | exact H.swap⟩
          refine rg_cons (i := 7) rfl rfl (fun K hK => ?_) ?_
          · -- 7
            refine Stp.wp (Stp.alloc 9 rfl rfl zero24 H ?_)
            clear H
            intro g9 w1 H
            clear HS
            have HS := H
            refine hK.out _ _ (H.sub (by repeat (first | exact List.Sublist.refl _ | apply List.Sublist.cons))) ?_
            clear hK K
            simp only [Act.put, List.setIfInBounds_toArray, List.set_cons_zero, List.set_cons_succ]
            refine rg_one (i := 6) (by kernel_rfl) rfl rfl (fun K hK => ?_)
            refine Stp.wp (Stp.alloc 8 rfl rfl zero24 H ?_)
            clear H
            intro g8 w1 H
            clear HS
            have HS := H
            refine hK.out _ _ (H.sub (by repeat (first | exact List.Sublist.refl _ | apply List.Sublist.cons))) ?_
            clear hK K
            simp only [Act.put, List.setIfInBounds_toArray, List.set_cons_zero, List.set_cons_succ]
            refine rg_one (i := 8) (by kernel_rfl) rfl rfl (fun K hK => ?_)
            refine Stp.wp (Stp.str rfl size24 rfl rfl (by first | rfl | (simp [Value.oneCell']; done) | assumption) H (by repeat (first | exact Upd.head | apply Upd.tail)) (by first | rfl | (simp; done) | assumption) (by first | rfl | (simp; done) | assumption) ?_)
            clear H
            intro w1 H
            clear HS
            have HS := H
            refine hK.out _ _ (H.sub (by repeat (first | exact List.Sublist.refl _ | apply List.Sublist.cons))) ?_
            clear hK K
            simp only [Act.put, List.setIfInBounds_toArray, List.set_cons_zero, List.set_cons_succ]
            refine rg_one (i := 9) (by kernel_rfl) rfl rfl (fun K hK => ?_)
            refine Stp.wp (Stp.str rfl size24 rfl rfl (by first | rfl | (simp [Value.oneCell']; done) | assumption) H (by repeat (first | exact Upd.head | apply Upd.tail)) (by first | rfl | (simp; done) | assumption) (by first | rfl | (simp; done) | assumption) ?_)
            clear H
            intro w1 H
            clear HS
            have HS := H
            refine hK.out _ _ (H.sub (by repeat (first | exact List.Sublist.refl _ | apply List.Sublist.cons))) ?_
            clear hK K
            simp only [Act.put, List.setIfInBounds_toArray, List.set_cons_zero, List.set_cons_succ]
            refine rg_done (by kernel_rfl) ?_
            exact ⟨rfl, g8, g9, by simp only [Act.put, List.setIfInBounds_toArray, List.set_cons_zero, List.set_cons_succ], by first | exact H | exact H.swap⟩
          exact AllReadyH.nil
        refine rg_cons (i := 6) rfl rfl (fun K hK => ?_) ?_
        · -- 6
          refine Stp.wp (Stp.alloc 8 rfl rfl zero24 H ?_)
          clear H
          intro g8 w1 H
          clear HS
          have HS := H
          refine hK.out _ _ (H.sub (by repeat (first | exact List.Sublist.refl _ | apply List.Sublist.cons))) ?_
          clear hK K
          simp only [Act.put, List.setIfInBounds_toArray, List.set_cons_zero, List.set_cons_succ]
          refine rg_all (rs := [5, 7]) (by kernel_rfl) (by simp) ?_
          refine rg_cons (i := 5) rfl rfl (fun K hK => ?_) ?_
          · -- 5
            refine wp_callf rfl ent23 (minus_ok a1 a2 b1 b2 la1.out la2.out lb1.out lb2.out _) rfl (fun v w1 hr => ?_)
            obtain ⟨rfl, hb1⟩ := hr
            replace H := H.grow hb1
            clear hb1
            clear HS
            have HS := H
            refine hK.out _ _ (H.sub (by repeat (first | exact List.Sublist.refl _ | apply List.Sublist.cons))) ?_
            clear hK K
            simp only [Act.put, List.setIfInBounds_toArray, List.set_cons_zero, List.set_cons_succ]
            refine rg_one (i := 7) (by kernel_rfl) rfl rfl (fun K hK => ?_)
            refine Stp.wp (Stp.alloc 9 rfl rfl zero24 H ?_)
            clear H
            intro g9 w1 H
            clear HS
            have HS := H
            refine hK.out _ _ (H.sub (by repeat (first | exact List.Sublist.refl _ | apply List.Sublist.cons))) ?_
            clear hK K
            simp only [Act.put, List.setIfInBounds_toArray, List.set_cons_zero, List.set_cons_succ]
            refine rg_one (i := 8) (by kernel_rfl) rfl rfl (fun K hK => ?_)
            refine Stp.wp (Stp.str rfl size24 rfl rfl (by first | rfl | (simp [Value.oneCell']; done) | assumption) H (by repeat (first | exact Upd.head | apply Upd.tail)) (by first | rfl | (simp; done) | assumption) (by first | rfl | (simp; done) | assumption) ?_)
            clear H
            intro w1 H
            clear HS
            have HS := H
            refine hK.out _ _ (H.sub (by repeat (first | exact List.Sublist.refl _ | apply List.Sublist.cons))) ?_
            clear hK K
            simp only [Act.put, List.setIfInBounds_toArray, List.set_cons_zero, List.set_cons_succ]
            refine rg_one (i := 9) (by kernel_rfl) rfl rfl (fun K hK => ?_)
            refine Stp.wp (Stp.str rfl size24 rfl rfl (by first | rfl | (simp [Value.oneCell']; done) | assumption) H (by repeat (first | exact Upd.head | apply Upd.tail)) (by first | rfl | (simp; done) | assumption) (by first | rfl | (simp; done) | assumption) ?_)
            clear H
            intro w1 H
            clear HS
            have HS := H
            refine hK.out _ _ (H.sub (by repeat (first | exact List.Sublist.refl _ | apply List.Sublist.cons))) ?_
            clear hK K
            simp only [Act.put, List.setIfInBounds_toArray, List.set_cons_zero, List.set_cons_succ]
            refine rg_done (by kernel_rfl) ?_
            exact ⟨rfl, g8, g9, by simp only [Act.put, List.setIfInBounds_toArray, List.set_cons_zero, List.set_cons_succ], by first | exact H | exact H.swap⟩
          refine rg_cons (i := 7) rfl rfl (fun K hK => ?_) ?_
          · -- 7
            refine Stp.wp (Stp.alloc 9 rfl rfl zero24 H ?_)
            clear H
            intro g9 w1 H
            clear HS
            have HS := H
            refine hK.out _ _ (H.sub (by repeat (first | exact List.Sublist.refl _ | apply List.Sublist.cons))) ?_
            clear hK K
            simp only [Act.put, List.setIfInBounds_toArray, List.set_cons_zero, List.set_cons_succ]
            refine rg_one (i := 5) (by kernel_rfl) rfl rfl (fun K hK => ?_)
            refine wp_callf rfl ent23 (minus_ok a1 a2 b1 b2 la1.out la2.out lb1.out lb2.out _) rfl (fun v w1 hr => ?_)
            obtain ⟨rfl, hb1⟩ := hr
            replace H := H.grow hb1
            clear hb1
            clear HS
            have HS := H
            refine hK.out _ _ (H.sub (by repeat (first | exact List.Sublist.refl _ | apply List.Sublist.cons))) ?_
            clear hK K
            simp only [Act.put, List.setIfInBounds_toArray, List.set_cons_zero, List.set_cons_succ]
            refine rg_one (i := 8) (by kernel_rfl) rfl rfl (fun K hK => ?_)
            refine Stp.wp (Stp.str rfl size24 rfl rfl (by first | rfl | (simp [Value.oneCell']; done) | assumption) H (by repeat (first | exact Upd.head | apply Upd.tail)) (by first | rfl | (simp; done) | assumption) (by first | rfl | (simp; done) | assumption) ?_)
            clear H
            intro w1 H
            clear HS
            have HS := H
            refine hK.out _ _ (H.sub (by repeat (first | exact List.Sublist.refl _ | apply List.Sublist.cons))) ?_
            clear hK K
            simp only [Act.put, List.setIfInBounds_toArray, List.set_cons_zero, List.set_cons_succ]
            refine rg_one (i := 9) (by kernel_rfl) rfl rfl (fun K hK => ?_)
            refine Stp.wp (Stp.str rfl size24 rfl rfl (by first | rfl | (simp [Value.oneCell']; done) | assumption) H (by repeat (first | exact Upd.head | apply Upd.tail)) (by first | rfl | (simp; done) | assumption) (by first | rfl | (simp; done) | assumption) ?_)
            clear H
            intro w1 H
            clear HS
            have HS := H
            refine hK.out _ _ (H.sub (by repeat (first | exact List.Sublist.refl _ | apply List.Sublist.cons))) ?_
            clear hK K
            simp only [Act.put, List.setIfInBounds_toArray, List.set_cons_zero, List.set_cons_succ]
            refine rg_done (by kernel_rfl) ?_
            exact ⟨rfl, g8, g9, by simp only [Act.put, List.setIfInBounds_toArray, List.set_cons_zero, List.set_cons_succ], by first | exact H | exact H.swap⟩
          exact AllReadyH.nil
        refine rg_cons (i := 7) rfl rfl (fun K hK => ?_) ?_
        · -- 7
          refine Stp.wp (Stp.alloc 9 rfl rfl zero24 H ?_)
          clear H
          intro g9 w1 H
          clear HS
          have HS := H
          refine hK.out _ _ (H.sub (by repeat (first | exact List.Sublist.refl _ | apply List.Sublist.cons))) ?_
          clear hK K
          simp only [Act.put, List.setIfInBounds_toArray, List.set_cons_zero, List.set_cons_succ]
          refine rg_all (rs := [5, 6]) (by kernel_rfl) (by simp) ?_
          refine rg_cons (i := 5) rfl rfl (fun K hK => ?_) ?_
          · -- 5
            refine wp_callf rfl ent23 (minus_ok a1 a2 b1 b2 la1.out la2.out lb1.out lb2.out _) rfl (fun v w1 hr => ?_)
            obtain ⟨rfl, hb1⟩ := hr
            replace H := H.grow hb1
            clear hb1
            clear HS
            have HS := H
            refine hK.out _ _ (H.sub (by repeat (first | exact List.Sublist.refl _ | apply List.Sublist.cons))) ?_
            clear hK K
            simp only [Act.put, List.setIfInBounds_toArray, List.set_cons_zero, List.set_cons_succ]
            refine rg_one (i := 6) (by kernel_rfl) rfl rfl (fun K hK => ?_)
            refine Stp.wp (Stp.alloc 8 rfl rfl zero24 H ?_)
            clear H
            intro g8 w1 H
            clear HS
            have HS := H
            refine hK.out _ _ (H.sub (by repeat (first | exact List.Sublist.refl _ | apply List.Sublist.cons))) ?_
            clear hK K
            simp only [Act.put, List.setIfInBounds_toArray, List.set_cons_zero, List.set_cons_succ]
            refine rg_one (i := 8) (by kernel_rfl) rfl rfl (fun K hK => ?_)
            refine Stp.wp (Stp.str rfl size24 rfl rfl (by first | rfl | (simp [Value.oneCell']; done) | assumption) H (by repeat (first | exact Upd.head | apply Upd.tail)) (by first | rfl | (simp; done) | assumption) (by first | rfl | (simp; done) | assumption) ?_)
            clear H
            intro w1 H
            clear HS
            have HS := H
            refine hK.out _ _ (H.sub (by repeat (first | exact List.Sublist.refl _ | apply List.Sublist.cons))) ?_
            clear hK K
            simp only [Act.put, List.setIfInBounds_toArray, List.set_cons_zero, List.set_cons_succ]
            refine rg_one (i := 9) (by kernel_rfl) rfl rfl (fun K hK => ?_)
            refine Stp.wp (Stp.str rfl size24 rfl rfl (by first | rfl | (simp [Value.oneCell']; done) | assumption) H (by repeat (first | exact Upd.head | apply Upd.tail)) (by first | rfl | (simp; done) | assumption) (by first | rfl | (simp; done) | assumption) ?_)
            clear H
            intro w1 H
            clear HS
            have HS := H
            refine hK.out _ _ (H.sub (by repeat (first | exact List.Sublist.refl _ | apply List.Sublist.cons))) ?_
            clear hK K
            simp only [Act.put, List.setIfInBounds_toArray, List.set_cons_zero, List.set_cons_succ]
            refine rg_done (by kernel_rfl) ?_
            exact ⟨rfl, g8, g9, by simp only [Act.put, List.setIfInBounds_toArray, List.set_cons_zero, List.set_cons_succ], by first | exact H | exact H.swap⟩
          refine rg_cons (i := 6) rfl rfl (fun K hK => ?_) ?_
          · -- 6
            refine Stp.wp (Stp.alloc 8 rfl rfl zero24 H ?_)
            clear H
            intro g8 w1 H
            clear HS
            have HS := H
            refine hK.out _ _ (H.sub (by repeat (first | exact List.Sublist.refl _ | apply List.Sublist.cons))) ?_
            clear hK K
            simp only [Act.put, List.setIfInBounds_toArray, List.set_cons_zero, List.set_cons_succ]
            refine rg_one (i := 5) (by kernel_rfl) rfl rfl (fun K hK => ?_)
            refine wp_callf rfl ent23 (minus_ok a1 a2 b1 b2 la1.out la2.out lb1.out lb2.out _) rfl (fun v w1 hr => ?_)
            obtain ⟨rfl, hb1⟩ := hr
            replace H := H.grow hb1
            clear hb1
            clear HS
            have HS := H
            refine hK.out _ _ (H.sub (by repeat (first | exact List.Sublist.refl _ | apply List.Sublist.cons))) ?_
            clear hK K
            simp only [Act.put, List.setIfInBounds_toArray, List.set_cons_zero, List.set_cons_succ]
            refine rg_one (i := 8) (by kernel_rfl) rfl rfl (fun K hK => ?_)
            refine Stp.wp (Stp.str rfl size24 rfl rfl (by first | rfl | (simp [Value.oneCell']; done) | assumption) H (by repeat (first | exact Upd.head | apply Upd.tail)) (by first | rfl | (simp; done) | assumption) (by first | rfl | (simp; done) | assumption) ?_)
            clear H
            intro w1 H
            clear HS
            have HS := H
            refine hK.out _ _ (H.sub (by repeat (first | exact List.Sublist.refl _ | apply List.Sublist.cons))) ?_
            clear hK K
            simp only [Act.put, List.setIfInBounds_toArray, List.set_cons_zero, List.set_cons_succ]
            refine rg_one (i := 9) (by kernel_rfl) rfl rfl (fun K hK => ?_)
            refine Stp.wp (Stp.str rfl size24 rfl rfl (by first | rfl | (simp [Value.oneCell']; done) | assumption) H (by repeat (first | exact Upd.head | apply Upd.tail)) (by first | rfl | (simp; done) | assumption) (by first | rfl | (simp; done) | assumption) ?_)
            clear H
            intro w1 H
            clear HS
            have HS := H
            refine hK.out _ _ (H.sub (by repeat (first | exact List.Sublist.refl _ | apply List.Sublist.cons))) ?_
            clear hK K
            simp only [Act.put, List.setIfInBounds_toArray, List.set_cons_zero, List.set_cons_succ]
            refine rg_done (by kernel_rfl) ?_
            exact ⟨rfl, g8, g9, by simp only [Act.put, List.setIfInBounds_toArray, List.set_cons_zero, List.set_cons_succ], by first | exact H | exact H.swap⟩
          exact AllReadyH.nil
        exact AllReadyH.nil
      refine rg_cons (i := 6) rfl rfl (fun K hK => ?_) ?_
      · -- 6
        refine Stp.wp (Stp.alloc 8 rfl rfl zero24 H ?_)
        clear H
        intro g8 w1 H
        clear HS
        have HS := H
        refine hK.out _ _ (H.sub (by repeat (first | exact List.Sublist.refl _ | apply List.Sublist.cons))) ?_
        clear hK K
        simp only [Act.put, List.setIfInBounds_toArray, List.set_cons_zero, List.set_cons_succ]
        refine rg_all (rs := [2, 7]) (by kernel_rfl) (by simp) ?_
        refine rg_cons (i := 2) rfl rfl (fun K hK => ?_) ?_
        · -- 2
          refine wp_callf rfl ent11 (and_ok a1 a2 b1 b2 la1.out la2.out lb1.out lb2.out _) rfl (fun v w1 hr => ?_)
          obtain ⟨rfl, hb1⟩ := hr
          replace H := H.grow hb1
          clear hb1
          clear HS
          have HS := H
          refine hK.out _ _ (H.sub (by repeat (first | exact List.Sublist.refl _ | apply List.Sublist.cons))) ?_
          clear hK K
          simp only [Act.put, List.setIfInBounds_toArray, List.set_cons_zero, List.set_cons_succ]
          refine rg_all (rs := [5, 7]) (by kernel_rfl) (by simp) ?_
          refine rg_cons (i := 5) rfl rfl (fun K hK => ?_) ?_
          · -- 5
            refine wp_callf rfl ent23 (minus_ok a1 a2 b1 b2 la1.out la2.out lb1.out lb2.out _) rfl (fun v w1 hr => ?_)
            obtain ⟨rfl, hb1⟩ := hr
            replace H := H.grow hb1
            clear hb1
            clear HS
            have HS := H
            refine hK.out _ _ (H.sub (by repeat (first | exact List.Sublist.refl _ | apply List.Sublist.cons))) ?_
            clear hK K
            simp only [Act.put, List.setIfInBounds_toArray, List.set_cons_zero, List.set_cons_succ]
            refine rg_one (i := 7) (by kernel_rfl) rfl rfl (fun K hK => ?_)
            refine Stp.wp (Stp.alloc 9 rfl rfl zero24 H ?_)
            clear H
            intro g9 w1 H
            clear HS
            have HS := H
            refine hK.out _ _ (H.sub (by repeat (first | exact List.Sublist.refl _ | apply List.Sublist.cons))) ?_
            clear hK K
            simp only [Act.put, List.setIfInBounds_toArray, List.set_cons_zero, List.set_cons_succ]
            refine rg_one (i := 8) (by kernel_rfl) rfl rfl (fun K hK => ?_)
            refine Stp.wp (Stp.str rfl size24 rfl rfl (by first | rfl | (simp [Value.oneCell']; done) | assumption) H (by repeat (first | exact Upd.head | apply Upd.tail)) (by first | rfl | (simp; done) | assumption) (by first | rfl | (simp; done) | assumption) ?_)
            clear H
            intro w1 H
            clear HS
            have HS := H
            refine hK.out _ _ (H.sub (by repeat (first | exact List.Sublist.refl _ | apply List.Sublist.cons))) ?_
            clear hK K
            simp only [Act.put, List.setIfInBounds_toArray, List.set_cons_zero, List.set_cons_succ]
            refine rg_one (i := 9) (by kernel_rfl) rfl rfl (fun K hK => ?_)
            refine Stp.wp (Stp.str rfl size24 rfl rfl (by first | rfl | (simp [Value.oneCell']; done) | assumption) H (by repeat (first | exact Upd.head | apply Upd.tail)) (by first | rfl | (simp; done) | assumption) (by first | rfl | (simp; done) | assumption) ?_)
            clear H
            intro w1 H
            clear HS
            have HS := H
            refine hK.out _ _ (H.sub (by repeat (first | exact List.Sublist.refl _ | apply List.Sublist.cons))) ?_
            clear hK K
            simp only [Act.put, List.setIfInBounds_toArray, List.set_cons_zero, List.set_cons_succ]
            refine rg_done (by kernel_rfl) ?_
            exact ⟨rfl, g8, g9, by simp only [Act.put, List.setIfInBounds_toArray, List.set_cons_zero, List.set_cons_succ], by first | exact H | exact H.swap⟩
          refine rg_cons (i := 7) rfl rfl (fun K hK => ?_) ?_
          · -- 7
            refine Stp.wp (Stp.alloc 9 rfl rfl zero24 H ?_)
            clear H
            intro g9 w1 H
            clear HS
            have HS := H
            refine hK.out _ _ (H.sub (by repeat (first | exact List.Sublist.refl _ | apply List.Sublist.cons))) ?_
            clear hK K
            simp only [Act.put, List.setIfInBounds_toArray, List.set_cons_zero, List.set_cons_succ]
            refine rg_one (i := 5) (by kernel_rfl) rfl rfl (fun K hK => ?_)
            refine wp_callf rfl ent23 (minus_ok a1 a2 b1 b2 la1.out la2.out lb1.out lb2.out _) rfl (fun v w1 hr => ?_)
            obtain ⟨rfl, hb1⟩ := hr
            replace H := H.grow hb1
            clear hb1
            clear HS
            have HS := H
            refine hK.out _ _ (H.sub (by repeat (first | exact List.Sublist.refl _ | apply List.Sublist.cons))) ?_
            clear hK K
            simp only [Act.put, List.setIfInBounds_toArray, List.set_cons_zero, List.set_cons_succ]
            refine rg_one (i := 8) (by kernel_rfl) rfl rfl (fun K hK => ?_)
            refine Stp.wp (Stp.str rfl size24 rfl rfl (by first | rfl | (simp [Value.oneCell']; done) | assumption) H (by repeat (first | exact Upd.head | apply Upd.tail)) (by first | rfl | (simp; done) | assumption) (by first | rfl | (simp; done) | assumption) ?_)
            clear H
            intro w1 H
            clear HS
            have HS := H
            refine hK.out _ _ (H.sub (by repeat (first | exact List.Sublist.refl _ | apply List.Sublist.cons))) ?_
            clear hK K
            simp only [Act.put, List.setIfInBounds_toArray, List.set_cons_zero, List.set_cons_succ]
            refine rg_one (i := 9) (by kernel_rfl) rfl rfl (fun K hK => ?_)
            refine Stp.wp (Stp.str rfl size24 rfl rfl (by first | rfl | (simp [Value.oneCell']; done) | assumption) H (by repeat (first | exact Upd.head | apply Upd.tail)) (by first | rfl | (simp; done) | assumption) (by first | rfl | (simp; done) | assumption) ?_)
            clear H
            intro w1 H
            clear HS
            have HS := H
            refine hK.out _ _ (H.sub (by repeat (first | exact List.Sublist.refl _ | apply List.Sublist.cons))) ?_
            clear hK K
            simp only [Act.put, List.setIfInBounds_toArray, List.set_cons_zero, List.set_cons_succ]
            refine rg_done (by kernel_rfl) ?_
            exact ⟨rfl, g8, g9, by simp only [Act.put, List.setIfInBounds_toArray, List.set_cons_zero, List.set_cons_succ], by first | exact H | exact H.swap⟩
          exact AllReadyH.nil
        refine rg_cons (i := 7) rfl rfl (fun K hK => ?_) ?_
        · -- 7
          refine Stp.wp (Stp.alloc 9 rfl rfl zero24 H ?_)
          clear H
          intro g9 w1 H
          clear HS
          have HS := H
          refine hK.out _ _ (H.sub (by repeat (first | exact List.Sublist.refl _ | apply List.Sublist.cons))) ?_
          clear hK K
          simp only [Act.put, List.setIfInBounds_toArray, List.set_cons_zero, List.set_cons_succ]
          refine rg_one (i := 2) (by kernel_rfl) rfl rfl (fun K hK => ?_)
          refine wp_callf rfl ent11 (and_ok a1 a2 b1 b2 la1.out la2.out lb1.out lb2.out _) rfl (fun v w1 hr => ?_)
          obtain ⟨rfl, hb1⟩ := hr
          replace H := H.grow hb1
          clear hb1
          clear HS
          have HS := H
          refine hK.out _ _ (H.sub (by repeat (first | exact List.Sublist.refl _ | apply List.Sublist.cons))) ?_
          clear hK K
          simp only [Act.put, List.setIfInBounds_toArray, List.set_cons_zero, List.set_cons_succ]
          refine rg_one (i := 5) (by kernel_rfl) rfl rfl (fun K hK => ?_)
          refine wp_callf rfl ent23 (minus_ok a1 a2 b1 b2 la1.out la2.out lb1.out lb2.out _) rfl (fun v w1 hr => ?_)
          obtain ⟨rfl, hb1⟩ := hr
          replace H := H.grow hb1
          clear hb1
          clear HS
          have HS := H
          refine hK.out _ _ (H.sub (by repeat (first | exact List.Sublist.refl _ | apply List.Sublist.cons))) ?_
          clear hK K
          simp only [Act.put, List.setIfInBounds_toArray, List.set_cons_zero, List.set_cons_succ]
          refine rg_one (i := 8) (by kernel_rfl) rfl rfl (fun K hK => ?_)
          refine Stp.wp (Stp.str rfl size24 rfl rfl (by first | rfl | (simp [Value.oneCell']; done) | assumption) H (by repeat (first | exact Upd.head | apply Upd.tail)) (by first | rfl | (simp; done) | assumption) (by first | rfl | (simp; done) | assumption) ?_)
          clear H
          intro w1 H
          clear HS
          have HS := H
          refine hK.out _ _ (H.sub (by repeat (first | exact List.Sublist.refl _ | apply List.Sublist.cons))) ?_
          clear hK K
          simp only [Act.put, List.setIfInBounds_toArray, List.set_cons_zero, List.set_cons_succ]
          refine rg_one (i := 9) (by kernel_rfl) rfl rfl (fun K hK => ?_)
          refine Stp.wp (Stp.str rfl size24 rfl rfl (by first | rfl | (simp [Value.oneCell']; done) | assumption) H (by repeat (first | exact Upd.head | apply Upd.tail)) (by first | rfl | (simp; done) | assumption) (by first | rfl | (simp; done) | assumption) ?_)
          clear H
          intro w1 H
          clear HS
          have HS := H
          refine hK.out _ _ (H.sub (by repeat (first | exact List.Sublist.refl _ | apply List.Sublist.cons))) ?_
          clear hK K
          simp only [Act.put, List.setIfInBounds_toArray, List.set_cons_zero, List.set_cons_succ]
          refine rg_done (by kernel_rfl) ?_
          exact ⟨rfl, g8, g9, by simp only [Act.put, List.setIfInBounds_toArray, List.set_cons_zero, List.set_cons_succ], by first | exact H | exact H.swap⟩
        exact AllReadyH.nil
      refine rg_cons (i := 7) rfl rfl (fun K hK => ?_) ?_
      · -- 7
        refine Stp.wp (Stp.alloc 9 rfl rfl zero24 H ?_)
        clear H
        intro g9 w1 H
        clear HS
        have HS := H
        refine hK.out _ _ (H.sub (by repeat (first | exact List.Sublist.refl _ | apply List.Sublist.cons))) ?_
        clear hK K
        simp only [Act.put, List.setIfInBounds_toArray, List.set_cons_zero, List.set_cons_succ]
        refine rg_all (rs := [2, 6]) (by kernel_rfl) (by simp) ?_
        refine rg_cons (i := 2) rfl rfl (fun K hK => ?_) ?_
        · -- 2
          refine wp_callf rfl ent11 (and_ok a1 a2 b1 b2 la1.out la2.out lb1.out lb2.out _) rfl (fun v w1 hr => ?_)
          obtain ⟨rfl, hb1⟩ := hr
          replace H := H.grow hb1
          clear hb1
          clear HS
          have HS := H
          refine hK.out _ _ (H.sub (by repeat (first | exact List.Sublist.refl _ | apply List.Sublist.cons))) ?_
          clear hK K
          simp only [Act.put, List.setIfInBounds_toArray, List.set_cons_zero, List.set_cons_succ]
          refine rg_all (rs := [5, 6]) (by kernel_rfl) (by simp) ?_
          refine rg_cons (i := 5) rfl rfl (fun K hK => ?_) ?_
          · -- 5
            refine wp_callf rfl ent23 (minus_ok a1 a2 b1 b2 la1.out la2.out lb1.out lb2.out _) rfl (fun v w1 hr => ?_)
            obtain ⟨rfl, hb1⟩ := hr
            replace H := H.grow hb1
            clear hb1
            clear HS
            have HS := H
            refine hK.out _ _ (H.sub (by repeat (first | exact List.Sublist.refl _ | apply List.Sublist.cons))) ?_
            clear hK K
            simp only [Act.put, List.setIfInBounds_toArray, List.set_cons_zero, List.set_cons_succ]
            refine rg_one (i := 6) (by kernel_rfl) rfl rfl (fun K hK => ?_)
            refine Stp.wp (Stp.alloc 8 rfl rfl zero24 H ?_)
            clear H
            intro g8 w1 H
            clear HS
            have HS := H
            refine hK.out _ _ (H.sub (by repeat (first | exact List.Sublist.refl _ | apply List.Sublist.cons))) ?_
            clear hK K
            simp only [Act.put, List.setIfInBounds_toArray, List.set_cons_zero, List.set_cons_succ]
            refine rg_one (i := 8) (by kernel_rfl) rfl rfl (fun K hK => ?_)
            refine Stp.wp (Stp.str rfl size24 rfl rfl (by first | rfl | (simp [Value.oneCell']; done) | assumption) H (by repeat (first | exact Upd.head | apply Upd.tail)) (by first | rfl | (simp; done) | assumption) (by first | rfl | (simp; done) | assumption) ?_)
            clear H
            intro w1 H
            clear HS
            have HS := H
            refine hK.out _ _ (H.sub (by repeat (first | exact List.Sublist.refl _ | apply List.Sublist.cons))) ?_
            clear hK K
            simp only [Act.put, List.setIfInBounds_toArray, List.set_cons_zero, List.set_cons_succ]
            refine rg_one (i := 9) (by kernel_rfl) rfl rfl (fun K hK => ?_)
            refine Stp.wp (Stp.str rfl size24 rfl rfl (by first | rfl | (simp [Value.oneCell']; done) | assumption) H (by repeat (first | exact Upd.head | apply Upd.tail)) (by first | rfl | (simp; done) | assumption) (by first | rfl | (simp; done) | assumption) ?_)
            clear H
            intro w1 H
            clear HS
            have HS := H
            refine hK.out _ _ (H.sub (by repeat (first | exact List.Sublist.refl _ | apply List.Sublist.cons))) ?_
            clear hK K
            simp only [Act.put, List.setIfInBounds_toArray, List.set_cons_zero, List.set_cons_succ]
            refine rg_done (by kernel_rfl) ?_
            exact ⟨rfl, g8, g9, by simp only [Act.put, List.setIfInBounds_toArray, List.set_cons_zero, List.set_cons_succ], by first | exact H | exact H.swap⟩
          refine rg_cons (i := 6) rfl rfl (fun K hK => ?_) ?_
          · -- 6
            refine Stp.wp (Stp.alloc 8 rfl rfl zero24 H ?_)
            clear H
            intro g8 w1 H
            clear HS
            have HS := H
            refine hK.out _ _ (H.sub (by repeat (first | exact List.Sublist.refl _ | apply List.Sublist.cons))) ?_
            clear hK K
            simp only [Act.put, List.setIfInBounds_toArray, List.set_cons_zero, List.set_cons_succ]
            refine rg_one (i := 5) (by kernel_rfl) rfl rfl (fun K hK => ?_)
            refine wp_callf rfl ent23 (minus_ok a1 a2 b1 b2 la1.out la2.out lb1.out lb2.out _) rfl (fun v w1 hr => ?_)
            obtain ⟨rfl, hb1⟩ := hr
            replace H := H.grow hb1
            clear hb1
            clear HS
            have HS := H
            refine hK.out _ _ (H.sub (by repeat (first | exact List.Sublist.refl _ | apply List.Sublist.cons))) ?_
            clear hK K
            simp only [Act.put, List.setIfInBounds_toArray, List.set_cons_zero, List.set_cons_succ]
            refine rg_one (i := 8) (by kernel_rfl) rfl rfl (fun K hK => ?_)
            refine Stp.wp (Stp.str rfl size24 rfl rfl (by first | rfl | (simp [Value.oneCell']; done) | assumption) H (by repeat (first | exact Upd.head | apply Upd.tail)) (by first | rfl | (simp; done) | assumption) (by first | rfl | (simp; done) | assumption) ?_)
            clear H
            intro w1 H
            clear HS
            have HS := H
            refine hK.out _ _ (H.sub (by repeat (first | exact List.Sublist.refl _ | apply List.Sublist.cons))) ?_
            clear hK K
            simp only [Act.put, List.setIfInBounds_toArray, List.set_cons_zero, List.set_cons_succ]
            refine rg_one (i := 9) (by kernel_rfl) rfl rfl (fun K hK => ?_)
            refine Stp.wp (Stp.str rfl size24 rfl rfl (by first | rfl | (simp [Value.oneCell']; done) | assumption) H (by repeat (first | exact Upd.head | apply Upd.tail)) (by first | rfl | (simp; done) | assumption) (by first | rfl | (simp; done) | assumption) ?_)
            clear H
            intro w1 H
            clear HS
            have HS := H
            refine hK.out _ _ (H.sub (by repeat (first | exact List.Sublist.refl _ | apply List.Sublist.cons))) ?_
            clear hK K
            simp only [Act.put, List.setIfInBounds_toArray, List.set_cons_zero, List.set_cons_succ]
            refine rg_done (by kernel_rfl) ?_
            exact ⟨rfl, g8, g9, by simp only [Act.put, List.setIfInBounds_toArray, List.set_cons_zero, List.set_cons_succ], by first | exact H | exact H.swap⟩
          exact AllReadyH.nil
        refine rg_cons (i := 6) rfl rfl (fun K hK => ?_) ?_
        · -- 6
          refine Stp.wp (Stp.alloc 8 rfl rfl zero24 H ?_)
          clear H
          intro g8 w1 H
          clear HS
          have HS := H
          refine hK.out _ _ (H.sub (by repeat (first | exact List.Sublist.refl _ | apply List.Sublist.cons))) ?_
          clear hK K
          simp only [Act.put, List.setIfInBounds_toArray, List.set_cons_zero, List.set_cons_succ]
          refine rg_one (i := 2) (by kernel_rfl) rfl rfl (fun K hK => ?_)
          refine wp_callf rfl ent11 (and_ok a1 a2 b1 b2 la1.out la2.out lb1.out lb2.out _) rfl (fun v w1 hr => ?_)
          obtain ⟨rfl, hb1⟩ := hr
          replace H := H.grow hb1
          clear hb1
          clear HS
          have HS := H
          refine hK.out _ _ (H.sub (by repeat (first | exact List.Sublist.refl _ | apply List.Sublist.cons))) ?_
          clear hK K
          simp only [Act.put, List.setIfInBounds_toArray, List.set_cons_zero, List.set_cons_succ]
          refine rg_one (i := 5) (by kernel_rfl) rfl rfl (fun K hK => ?_)
          refine wp_callf rfl ent23 (minus_ok a1 a2 b1 b2 la1.out la2.out lb1.out lb2.out _) rfl (fun v w1 hr => ?_)
          obtain ⟨rfl, hb1⟩ := hr
          replace H := H.grow hb1
          clear hb1
          clear HS
          have HS := H
          refine hK.out _ _ (H.sub (by repeat (first | exact List.Sublist.refl _ | apply List.Sublist.cons))) ?_
          clear hK K
          simp only [Act.put, List.setIfInBounds_toArray, List.set_cons_zero, List.set_cons_succ]
          refine rg_one (i := 8) (by kernel_rfl) rfl rfl (fun K hK => ?_)
          refine Stp.wp (Stp.str rfl size24 rfl rfl (by first | rfl | (simp [Value.oneCell']; done) | assumption) H (by repeat (first | exact Upd.head | apply Upd.tail)) (by first | rfl | (simp; done) | assumption) (by first | rfl | (simp; done) | assumption) ?_)
          clear H
          intro w1 H
          clear HS
          have HS := H
          refine hK.out _ _ (H.sub (by repeat (first | exact List.Sublist.refl _ | apply List.Sublist.cons))) ?_
          clear hK K
          simp only [Act.put, List.setIfInBounds_toArray, List.set_cons_zero, List.set_cons_succ]
          refine rg_one (i := 9) (by kernel_rfl) rfl rfl (fun K hK => ?_)
          refine Stp.wp (Stp.str rfl size24 rfl rfl (by first | rfl | (simp [Value.oneCell']; done) | assumption) H (by repeat (first | exact Upd.head | apply Upd.tail)) (by first | rfl | (simp; done) | assumption) (by first | rfl | (simp; done) | assumption) ?_)
          clear H
          intro w1 H
          clear HS
          have HS := H
          refine hK.out _ _ (H.sub (by repeat (first | exact List.Sublist.refl _ | apply List.Sublist.cons))) ?_
          clear hK K
          simp only [Act.put, List.setIfInBounds_toArray, List.set_cons_zero, List.set_cons_succ]
          refine rg_done (by kernel_rfl) ?_
          exact ⟨rfl, g8, g9, by simp only [Act.put, List.setIfInBounds_toArray, List.set_cons_zero, List.set_cons_succ], by first | exact H | exact H.swap⟩
        exact AllReadyH.nil
      exact AllReadyH.nil
    rintro a' w' ⟨g8, g9, rfl, H⟩
    simp only [Act.put, List.setIfInBounds_toArray, List.set_cons_zero, List.set_cons_succ]
    go_wp2_with (first | (with_reducible refine wpl rfl (Stp.box 3 rfl rfl rfl H ?_); clear H; intro g3 w1 H; simp only [Act.put, List.setIfInBounds_toArray, List.set_cons_zero, List.set_cons_succ]; simp only [eval_tmp, eval_const, getD_lit0, getD_lits, cells_agg, cells_int, cells_bool, cells_string, cells_pointer, cells_slice, cells_map, List.setIfInBounds_toArray, List.set_cons_zero, List.set_cons_succ] at H) | (with_reducible refine wpl rfl (Stp.box 4 rfl rfl rfl H ?_); clear H; intro g4 w1 H; simp only [Act.put, List.setIfInBounds_toArray, List.set_cons_zero, List.set_cons_succ]; simp only [eval_tmp, eval_const, getD_lit0, getD_lits, cells_agg, cells_int, cells_bool, cells_string, cells_pointer, cells_slice, cells_map, List.setIfInBounds_toArray, List.set_cons_zero, List.set_cons_succ] at H) | (with_reducible refine wpl rfl (Stp.ldr rfl agg24 size24 rfl H (by repeat (first | exact List.mem_cons_self | apply List.mem_cons_of_mem)) (by first | rfl | (simp; done) | assumption) ?_); simp only [Act.put, List.setIfInBounds_toArray, List.set_cons_zero, List.set_cons_succ]) | (with_reducible refine wpl rfl (Stp.ldor rfl agg24 size24 rfl H (by assumption) (by first | rfl | (simp; done) | assumption) (by assumption) ?_); simp only [Act.put, List.setIfInBounds_toArray, List.set_cons_zero, List.set_cons_succ]))
    refine rg_begin 26 rfl (S := fun W => St _ _ W _) (by kernel_rfl) H.drew ?_
    replace H := H.drew
    have HS := H
    first | (refine rg_take (i := 0) rfl (by kernel_rfl) (by kernel_rfl) (by kernel_rfl) (Yld.ldr rfl rfl agg24 size24 rfl (by repeat (first | exact List.mem_cons_self | apply List.mem_cons_of_mem)) (by first | rfl | (simp; done) | assumption)) HS ?_; simp only [Act.put, List.setIfInBounds_toArray, List.set_cons_zero, List.set_cons_succ]) | (refine rg_take (i := 0) rfl (by kernel_rfl) (by kernel_rfl) (by kernel_rfl) (Yld.ldor rfl rfl agg24 size24 rfl (by assumption) (by first | rfl | (simp; done) | assumption) (by assumption)) HS ?_; simp only [Act.put, List.setIfInBounds_toArray, List.set_cons_zero, List.set_cons_succ])
    first | (refine rg_take (i := 1) rfl (by kernel_rfl) (by kernel_rfl) (by kernel_rfl) (Yld.ldr rfl rfl agg24 size24 rfl (by repeat (first | exact List.mem_cons_self | apply List.mem_cons_of_mem)) (by first | rfl | (simp; done) | assumption)) HS ?_; simp only [Act.put, List.setIfInBounds_toArray, List.set_cons_zero, List.set_cons_succ]) | (refine rg_take (i := 1) rfl (by kernel_rfl) (by kernel_rfl) (by kernel_rfl) (Yld.ldor rfl rfl agg24 size24 rfl (by assumption) (by first | rfl | (simp; done) | assumption) (by assumption)) HS ?_; simp only [Act.put, List.setIfInBounds_toArray, List.set_cons_zero, List.set_cons_succ])
    first | (refine rg_take (i := 3) rfl (by kernel_rfl) (by kernel_rfl) (by kernel_rfl) (Yld.ldr rfl rfl agg24 size24 rfl (by repeat (first | exact List.mem_cons_self | apply List.mem_cons_of_mem)) (by first | rfl | (simp; done) | assumption)) HS ?_; simp only [Act.put, List.setIfInBounds_toArray, List.set_cons_zero, List.set_cons_succ]) | (refine rg_take (i := 3) rfl (by kernel_rfl) (by kernel_rfl) (by kernel_rfl) (Yld.ldor rfl rfl agg24 size24 rfl (by assumption) (by first | rfl | (simp; done) | assumption) (by assumption)) HS ?_; simp only [Act.put, List.setIfInBounds_toArray, List.set_cons_zero, List.set_cons_succ])
    refine rg_one (i := 2) (by kernel_rfl) rfl rfl (fun K hK => ?_)
    refine wp_callf rfl ent24 (or_ok (a1 &&& b1) (a2 &&& b2) (mn a1 b1) (mn a2 b2) (and_lt la1.out) (and_lt la2.out) (mn_lt la1.out) (mn_lt la2.out) _) rfl (fun v w1 hr => ?_)
    obtain ⟨rfl, hb1⟩ := hr
    replace H := H.grow hb1
    clear hb1
    rw [PO1.out, PO2.out]
    clear HS
    have HS := H
    refine hK.out _ _ HS ?_
    clear hK K
    simp only [Act.put, List.setIfInBounds_toArray, List.set_cons_zero, List.set_cons_succ]
    refine rg_take (i := 4) rfl (by kernel_rfl) (by kernel_rfl) (by kernel_rfl) (Yld.of rfl (fun W _ => by go_simp; first | done | with_reducible rfl)) HS ?_; simp only [Act.put, List.setIfInBounds_toArray, List.set_cons_zero, List.set_cons_succ]
    refine rg_take (i := 5) rfl (by kernel_rfl) (by kernel_rfl) (by kernel_rfl) (Yld.move rfl rfl) HS ?_; simp only [Act.put, eval_tmp, eval_const, getD_lit0, getD_lits, if_true, if_false, List.setIfInBounds_toArray, List.set_cons_zero, List.set_cons_succ]
    first | (refine rg_take (i := 6) rfl (by kernel_rfl) (by kernel_rfl) (by kernel_rfl) (Yld.ldr rfl rfl agg24 size24 rfl (by repeat (first | exact List.mem_cons_self | apply List.mem_cons_of_mem)) (by first | rfl | (simp; done) | assumption)) HS ?_; simp only [Act.put, List.setIfInBounds_toArray, List.set_cons_zero, List.set_cons_succ]) | (refine rg_take (i := 6) rfl (by kernel_rfl) (by kernel_rfl) (by kernel_rfl) (Yld.ldor rfl rfl agg24 size24 rfl (by assumption) (by first | rfl | (simp; done) | assumption) (by assumption)) HS ?_; simp only [Act.put, List.setIfInBounds_toArray, List.set_cons_zero, List.set_cons_succ])
    first | (refine rg_take (i := 7) rfl (by kernel_rfl) (by kernel_rfl) (by kernel_rfl) (Yld.ldr rfl rfl agg24 size24 rfl (by repeat (first | exact List.mem_cons_self | apply List.mem_cons_of_mem)) (by first | rfl | (simp; done) | assumption)) HS ?_; simp only [Act.put, List.setIfInBounds_toArray, List.set_cons_zero, List.set_cons_succ]) | (refine rg_take (i := 7) rfl (by kernel_rfl) (by kernel_rfl) (by kernel_rfl) (Yld.ldor rfl rfl agg24 size24 rfl (by assumption) (by first | rfl | (simp; done) | assumption) (by assumption)) HS ?_; simp only [Act.put, List.setIfInBounds_toArray, List.set_cons_zero, List.set_cons_succ])
    refine rg_take (i := 9) rfl (by kernel_rfl) (by kernel_rfl) (by kernel_rfl) (Yld.of rfl (fun W _ => by go_simp; first | done | with_reducible rfl)) HS ?_; simp only [Act.put, List.setIfInBounds_toArray, List.set_cons_zero, List.set_cons_succ]
    refine rg_one (i := 8) (by kernel_rfl) rfl rfl (fun K hK => ?_)
    refine wp_callf rfl ent11 (and_ok (a1 &&& b1) (a2 &&& b2) (mn a1 b1) (mn a2 b2) (and_lt la1.out) (and_lt la2.out) (mn_lt la1.out) (mn_lt la2.out) _) rfl (fun v w1 hr => ?_)
    obtain ⟨rfl, hb1⟩ := hr
    replace H := H.grow hb1
    clear hb1
    rw [PA1.out, PA2.out]
    clear HS
    have HS := H
    refine hK.out _ _ HS ?_
    clear hK K
    simp only [Act.put, List.setIfInBounds_toArray, List.set_cons_zero, List.set_cons_succ]
    refine rg_take (i := 10) rfl (by kernel_rfl) (by kernel_rfl) (by kernel_rfl) (Yld.of rfl (fun W _ => by go_simp; first | done | with_reducible rfl)) HS ?_; simp only [Act.put, List.setIfInBounds_toArray, List.set_cons_zero, List.set_cons_succ]
    refine rg_take (i := 11) rfl (by kernel_rfl) (by kernel_rfl) (by kernel_rfl) (Yld.pick rfl rfl rfl) HS ?_; simp only [Act.put, eval_tmp, eval_const, getD_lit0, getD_lits, if_true, if_false, List.setIfInBounds_toArray, List.set_cons_zero, List.set_cons_succ]
    refine rg_take (i := 12) rfl (by kernel_rfl) (by kernel_rfl) (by kernel_rfl) (Yld.move rfl rfl) HS ?_; simp only [Act.put, eval_tmp, eval_const, getD_lit0, getD_lits, if_true, if_false, List.setIfInBounds_toArray, List.set_cons_zero, List.set_cons_succ]
    first | (refine rg_take (i := 13) rfl (by kernel_rfl) (by kernel_rfl) (by kernel_rfl) (Yld.ldr rfl rfl agg24 size24 rfl (by repeat (first | exact List.mem_cons_self | apply List.mem_cons_of_mem)) (by first | rfl | (simp; done) | assumption)) HS ?_; simp only [Act.put, List.setIfInBounds_toArray, List.set_cons_zero, List.set_cons_succ]) | (refine rg_take (i := 13) rfl (by kernel_rfl) (by kernel_rfl) (by kernel_rfl) (Yld.ldor rfl rfl agg24 size24 rfl (by assumption) (by first | rfl | (simp; done) | assumption) (by assumption)) HS ?_; simp only [Act.put, List.setIfInBounds_toArray, List.set_cons_zero, List.set_cons_succ])
    first | (refine rg_take (i := 15) rfl (by kernel_rfl) (by kernel_rfl) (by kernel_rfl) (Yld.ldr rfl rfl agg24 size24 rfl (by repeat (first | exact List.mem_cons_self | apply List.mem_cons_of_mem)) (by first | rfl | (simp; done) | assumption)) HS ?_; simp only [Act.put, List.setIfInBounds_toArray, List.set_cons_zero, List.set_cons_succ]) | (refine rg_take (i := 15) rfl (by kernel_rfl) (by kernel_rfl) (by kernel_rfl) (Yld.ldor rfl rfl agg24 size24 rfl (by assumption) (by first | rfl | (simp; done) | assumption) (by assumption)) HS ?_; simp only [Act.put, List.setIfInBounds_toArray, List.set_cons_zero, List.set_cons_succ])
    first | (refine rg_take (i := 18) rfl (by kernel_rfl) (by kernel_rfl) (by kernel_rfl) (Yld.ldr rfl rfl agg24 size24 rfl (by repeat (first | exact List.mem_cons_self | apply List.mem_cons_of_mem)) (by first | rfl | (simp; done) | assumption)) HS ?_; simp only [Act.put, List.setIfInBounds_toArray, List.set_cons_zero, List.set_cons_succ]) | (refine rg_take (i := 18) rfl (by kernel_rfl) (by kernel_rfl) (by kernel_rfl) (Yld.ldor rfl rfl agg24 size24 rfl (by assumption) (by first | rfl | (simp; done) | assumption) (by assumption)) HS ?_; simp only [Act.put, List.setIfInBounds_toArray, List.set_cons_zero, List.set_cons_succ])
    refine rg_one (i := 14) (by kernel_rfl) rfl rfl (fun K hK => ?_)
    refine wp_callf rfl ent10 (count_ok (a1 &&& b1) (a2 &&& b2) p (and_lt la1.out) (and_lt la2.out) HP.out _) rfl (fun v w1 hr => ?_)
    obtain ⟨rfl, hb1⟩ := hr
    replace H := H.grow hb1
    clear hb1
    clear HS
    have HS := H
    refine hK.out _ _ HS ?_
    clear hK K
    simp only [Act.put, List.setIfInBounds_toArray, List.set_cons_zero, List.set_cons_succ]
    refine rg_one (i := 16) (by kernel_rfl) rfl rfl (fun K hK => ?_)
    refine wp_callf rfl ent10 (count_ok (mn a1 b1) (mn a2 b2) q (mn_lt la1.out) (mn_lt la2.out) HQ.out _) rfl (fun v w1 hr => ?_)
    obtain ⟨rfl, hb1⟩ := hr
    replace H := H.grow hb1
    clear hb1
    clear HS
    have HS := H
    refine hK.out _ _ HS ?_
    clear hK K
    simp only [Act.put, List.setIfInBounds_toArray, List.set_cons_zero, List.set_cons_succ]
    refine rg_take (i := 17) rfl (by kernel_rfl) (by kernel_rfl) (by kernel_rfl) (Yld.of rfl (fun W _ => by go_simp; first | done | with_reducible rfl)) HS ?_; simp only [Act.put, List.setIfInBounds_toArray, List.set_cons_zero, List.set_cons_succ]
    refine rg_one (i := 19) (by kernel_rfl) rfl rfl (fun K hK => ?_)
    refine wp_callf rfl ent10 (count_ok a1 a2 r la1.out la2.out HR.out _) rfl (fun v w1 hr => ?_)
    obtain ⟨rfl, hb1⟩ := hr
    replace H := H.grow hb1
    clear hb1
    clear HS
    have HS := H
    refine hK.out _ _ HS ?_
    clear hK K
    simp only [Act.put, List.setIfInBounds_toArray, List.set_cons_zero, List.set_cons_succ]
    refine rg_take (i := 20) rfl (by kernel_rfl) (by kernel_rfl) (by kernel_rfl) (Yld.of rfl (fun W _ => by go_simp; first | done | with_reducible rfl)) HS ?_; simp only [Act.put, List.setIfInBounds_toArray, List.set_cons_zero, List.set_cons_succ]
    refine rg_take (i := 21) rfl (by kernel_rfl) (by kernel_rfl) (by kernel_rfl) (Yld.pick rfl rfl rfl) HS ?_; simp only [Act.put, eval_tmp, eval_const, getD_lit0, getD_lits, if_true, if_false, List.setIfInBounds_toArray, List.set_cons_zero, List.set_cons_succ]
    refine rg_take (i := 22) rfl (by kernel_rfl) (by kernel_rfl) (by kernel_rfl) (Yld.move rfl rfl) HS ?_; simp only [Act.put, eval_tmp, eval_const, getD_lit0, getD_lits, if_true, if_false, List.setIfInBounds_toArray, List.set_cons_zero, List.set_cons_succ]
    refine rg_one (i := 23) (by kernel_rfl) rfl rfl (fun K hK => ?_)
    refine wp_callf rfl ent9 (awake_ok _) rfl (fun v w1 hr => ?_)
    obtain ⟨rfl, hb1⟩ := hr
    replace H := H.grow hb1
    clear hb1
    clear HS
    have HS := H
    refine hK.out _ _ HS ?_
    clear hK K
    simp only [Act.put, List.setIfInBounds_toArray, List.set_cons_zero, List.set_cons_succ]
    refine rg_take (i := 24) rfl (by kernel_rfl) (by kernel_rfl) (by kernel_rfl) (Yld.pick rfl rfl rfl) HS ?_; simp only [Act.put, eval_tmp, eval_const, getD_lit0, getD_lits, if_true, if_false, List.setIfInBounds_toArray, List.set_cons_zero, List.set_cons_succ]
    refine rg_take (i := 25) rfl (by kernel_rfl) (by kernel_rfl) (by kernel_rfl) (Yld.assign rfl rfl) HS ?_; simp only [Act.put, eval_tmp, eval_const, getD_lit0, getD_lits, if_true, if_false, List.setIfInBounds_toArray, List.set_cons_zero, List.set_cons_succ]
    refine rg_done (by kernel_rfl) ?_
    go_wp2
    go_ret
    exact ⟨_, rfl, rfl, H.below⟩
  · have HH := Lib.hid hh
    have hback := FH hh
    obtain ⟨⟨u, v⟩, huv⟩ : ∃ m, unM (a1, a2) (k : Int) = m := ⟨_, rfl⟩
    rw [huv] at hback
    have hul' := hul.out
    rw [huv] at hul'
    have HU := Lib.hid huv
    have HK := Lib.hid hback
    have lu := Lib.hid hul'.1
    have lv := Lib.hid hul'.2
    clear hh FH FN hback huv hul' hul hsl
    go_enter Try.func6, Try.ntmps6
    go_wp2_with (first | (go_at_call 15; refine (has_ok a1 a2 (k : Int) la1.out la2.out true HH.out _).mono ?_; rintro e w1 ⟨v, rfl, hr⟩; obtain ⟨rfl, hb1⟩ := hr; replace H := H.grow hb1; clear hb1) | (with_reducible refine wpl rfl (Stp.box 3 rfl rfl rfl H ?_); clear H; intro g3 w1 H; simp only [Act.put, List.setIfInBounds_toArray, List.set_cons_zero, List.set_cons_succ]; simp only [eval_tmp, eval_const, getD_lit0, getD_lits, cells_agg, cells_int, cells_bool, cells_string, cells_pointer, cells_slice, cells_map, List.setIfInBounds_toArray, List.set_cons_zero, List.set_cons_succ] at H) | (with_reducible refine wpl rfl (Stp.box 4 rfl rfl rfl H ?_); clear H; intro g4 w1 H; simp only [Act.put, List.setIfInBounds_toArray, List.set_cons_zero, List.set_cons_succ]; simp only [eval_tmp, eval_const, getD_lit0, getD_lits, cells_agg, cells_int, cells_bool, cells_string, cells_pointer, cells_slice, cells_map, List.setIfInBounds_toArray, List.set_cons_zero, List.set_cons_succ] at H) | (with_reducible refine wpl rfl (Stp.ldr rfl agg24 size24 rfl H (by repeat (first | exact List.mem_cons_self | apply List.mem_cons_of_mem)) (by first | rfl | (simp; done) | assumption) ?_); simp only [Act.put, List.setIfInBounds_toArray, List.set_cons_zero, List.set_cons_succ]) | (with_reducible refine wpl rfl (Stp.ldor rfl agg24 size24 rfl H (by assumption) (by first | rfl | (simp; done) | assumption) (by assumption) ?_); simp only [Act.put, List.setIfInBounds_toArray, List.set_cons_zero, List.set_cons_succ]))
    refine rg_begin 7 rfl (S := fun W => St _ _ W _) (by kernel_rfl) H.drew ?_
    replace H := H.drew
    have HS := H
    first | (refine rg_take (i := 0) rfl (by kernel_rfl) (by kernel_rfl) (by kernel_rfl) (Yld.ldr rfl rfl agg24 size24 rfl (by repeat (first | exact List.mem_cons_self | apply List.mem_cons_of_mem)) (by first | rfl | (simp; done) | assumption)) HS ?_; simp only [Act.put, List.setIfInBounds_toArray, List.set_cons_zero, List.set_cons_succ]) | (refine rg_take (i := 0) rfl (by kernel_rfl) (by kernel_rfl) (by kernel_rfl) (Yld.ldor rfl rfl agg24 size24 rfl (by assumption) (by first | rfl | (simp; done) | assumption) (by assumption)) HS ?_; simp only [Act.put, List.setIfInBounds_toArray, List.set_cons_zero, List.set_cons_succ])
    refine rg_take (i := 1) rfl (by kernel_rfl) (by kernel_rfl) (by kernel_rfl) (Yld.move rfl rfl) HS ?_; simp only [Act.put, eval_tmp, eval_const, getD_lit0, getD_lits, if_true, if_false, List.setIfInBounds_toArray, List.set_cons_zero, List.set_cons_succ]
    refine rg_take (i := 3) rfl (by kernel_rfl) (by kernel_rfl) (by kernel_rfl) (Yld.move rfl rfl) HS ?_; simp only [Act.put, eval_tmp, eval_const, getD_lit0, getD_lits, if_true, if_false, List.setIfInBounds_toArray, List.set_cons_zero, List.set_cons_succ]
    first | (refine rg_take (i := 5) rfl (by kernel_rfl) (by kernel_rfl) (by kernel_rfl) (Yld.ldr rfl rfl agg24 size24 rfl (by repeat (first | exact List.mem_cons_self | apply List.mem_cons_of_mem)) (by first | rfl | (simp; done) | assumption)) HS ?_; simp only [Act.put, List.setIfInBounds_toArray, List.set_cons_zero, List.set_cons_succ]) | (refine rg_take (i := 5) rfl (by kernel_rfl) (by kernel_rfl) (by kernel_rfl) (Yld.ldor rfl rfl agg24 size24 rfl (by assumption) (by first | rfl | (simp; done) | assumption) (by assumption)) HS ?_; simp only [Act.put, List.setIfInBounds_toArray, List.set_cons_zero, List.set_cons_succ])
    refine rg_one (i := 2) (by kernel_rfl) rfl rfl (fun K hK => ?_)
    refine wp_callf rfl ent19 (without_ok a1 a2 (k : Int) la1.out la2.out u v HU.out _) rfl (fun v w1 hr => ?_)
    obtain ⟨rfl, hb1⟩ := hr
    replace H := H.grow hb1
    clear hb1
    clear HS
    have HS := H
    refine hK.out _ _ HS ?_
    clear hK K
    simp only [Act.put, List.setIfInBounds_toArray, List.set_cons_zero, List.set_cons_succ]
    refine rg_one (i := 4) (by kernel_rfl) rfl rfl (fun K hK => ?_)
    refine wp_callf rfl ent17 (with_ok u v (k : Int) lu.out lv.out a1 a2 HK.out _) rfl (fun v w1 hr => ?_)
    obtain ⟨rfl, hb1⟩ := hr
    replace H := H.grow hb1
    clear hb1
    clear HS
    have HS := H
    refine hK.out _ _ HS ?_
    clear hK K
    simp only [Act.put, List.setIfInBounds_toArray, List.set_cons_zero, List.set_cons_succ]
    refine rg_take (i := 6) rfl (by kernel_rfl) (by kernel_rfl) (by kernel_rfl) (Yld.of rfl (fun W _ => by go_simp; first | done | with_reducible rfl)) HS ?_; simp only [Act.put, List.setIfInBounds_toArray, List.set_cons_zero, List.set_cons_succ]
    refine rg_done (by kernel_rfl) ?_
    go_wp2_with (first | (with_reducible refine wpl rfl (Stp.box 3 rfl rfl rfl H ?_); clear H; intro g3 w1 H; simp only [Act.put, List.setIfInBounds_toArray, List.set_cons_zero, List.set_cons_succ]; simp only [eval_tmp, eval_const, getD_lit0, getD_lits, cells_agg, cells_int, cells_bool, cells_string, cells_pointer, cells_slice, cells_map, List.setIfInBounds_toArray, List.set_cons_zero, List.set_cons_succ] at H) | (with_reducible refine wpl rfl (Stp.box 4 rfl rfl rfl H ?_); clear H; intro g4 w1 H; simp only [Act.put, List.setIfInBounds_toArray, List.set_cons_zero, List.set_cons_succ]; simp only [eval_tmp, eval_const, getD_lit0, getD_lits, cells_agg, cells_int, cells_bool, cells_string, cells_pointer, cells_slice, cells_map, List.setIfInBounds_toArray, List.set_cons_zero, List.set_cons_succ] at H) | (with_reducible refine wpl rfl (Stp.ldr rfl agg24 size24 rfl H (by repeat (first | exact List.mem_cons_self | apply List.mem_cons_of_mem)) (by first | rfl | (simp; done) | assumption) ?_); simp only [Act.put, List.setIfInBounds_toArray, List.set_cons_zero, List.set_cons_succ]) | (with_reducible refine wpl rfl (Stp.ldor rfl agg24 size24 rfl H (by assumption) (by first | rfl | (simp; done) | assumption) (by assumption) ?_); simp only [Act.put, List.setIfInBounds_toArray, List.set_cons_zero, List.set_cons_succ]))
    refine cut (fun a0 a' w' => ∃ g8 g9, a' = (((((((((a0.put (some 30) (.agg #[.int .u64 ((a1 : Nat) : Int), .int .u64 ((a2 : Nat) : Int)])).put (some 31) (.agg #[.int .u64 ((b1 : Nat) : Int), .int .u64 ((b2 : Nat) : Int)])).put (some 32) (.agg #[.int .u64 ((a1 &&& b1 : Nat) : Int), .int .u64 ((a2 &&& b2 : Nat) : Int)])).put (some 33) (.agg #[.int .u64 ((a1 : Nat) : Int), .int .u64 ((a2 : Nat) : Int)])).put (some 34) (.agg #[.int .u64 ((b1 : Nat) : Int), .int .u64 ((b2 : Nat) : Int)])).put (some 35) (.agg #[.int .u64 ((mn a1 b1 : Nat) : Int), .int .u64 ((mn a2 b2 : Nat) : Int)])).put (some 8) (.pointer (some ⟨g8, 0, none⟩))).put (some 9) (.pointer (some ⟨g9, 0, none⟩)))) ∧ St w.heap.size w w' [row 24 g9 #[.int .u64 ((mn a1 b1 : Nat) : Int), .int .u64 ((mn a2 b2 : Nat) : Int)], row 24 g8 #[.int .u64 ((a1 &&& b1 : Nat) : Int), .int .u64 ((a2 &&& b2 : Nat) : Int)], row 24 g4 #[.int .u64 ((b1 : Nat) : Int), .int .u64 ((b2 : Nat) : Int)], row 24 g3 #[.int .u64 ((a1 : Nat) : Int), .int .u64 ((a2 : Nat) : Int)]]) ?_ ?_
    · refine rg_begin 10 rfl (S := fun W => St _ _ W _) (by kernel_rfl) H.drew ?_
      replace H := H.drew
      have HS := H
      first | (refine rg_take (i := 0) rfl (by kernel_rfl) (by kernel_rfl) (by kernel_rfl) (Yld.ldr rfl rfl agg24 size24 rfl (by repeat (first | exact List.mem_cons_self | apply List.mem_cons_of_mem)) (by first | rfl | (simp; done) | assumption)) (H.sub (by repeat (first | exact List.Sublist.refl _ | apply List.Sublist.cons))) ?_; simp only [Act.put, List.setIfInBounds_toArray, List.set_cons_zero, List.set_cons_succ]) | (refine rg_take (i := 0) rfl (by kernel_rfl) (by kernel_rfl) (by kernel_rfl) (Yld.ldor rfl rfl agg24 size24 rfl (by assumption) (by first | rfl | (simp; done) | assumption) (by assumption)) (H.sub (by repeat (first | exact List.Sublist.refl _ | apply List.Sublist.cons))) ?_; simp only [Act.put, List.setIfInBounds_toArray, List.set_cons_zero, List.set_cons_succ])
      first | (refine rg_take (i := 1) rfl (by kernel_rfl) (by kernel_rfl) (by kernel_rfl) (Yld.ldr rfl rfl agg24 size24 rfl (by repeat (first | exact List.mem_cons_self | apply List.mem_cons_of_mem)) (by first | rfl | (simp; done) | assumption)) (H.sub (by repeat (first | exact List.Sublist.refl _ | apply List.Sublist.cons))) ?_; simp only [Act.put, List.setIfInBounds_toArray, List.set_cons_zero, List.set_cons_succ]) | (refine rg_take (i := 1) rfl (by kernel_rfl) (by kernel_rfl) (by kernel_rfl) (Yld.ldor rfl rfl agg24 size24 rfl (by assumption) (by first | rfl | (simp; done) | assumption) (by assumption)) (H.sub (by repeat (first | exact List.Sublist.refl _ | apply List.Sublist.cons))) ?_; simp only [Act.put, List.setIfInBounds_toArray, List.set_cons_zero, List.set_cons_succ])
      first | (refine rg_take (i := 3) rfl (by kernel_rfl) (by kernel_rfl) (by kernel_rfl) (Yld.ldr rfl rfl agg24 size24 rfl (by repeat (first | exact List.mem_cons_self | apply List.mem_cons_of_mem)) (by first | rfl | (simp; done) | assumption)) (H.sub (by repeat (first | exact List.Sublist.refl _ | apply List.Sublist.cons))) ?_; simp only [Act.put, List.setIfInBounds_toArray, List.set_cons_zero, List.set_cons_succ]) | (refine rg_take (i := 3) rfl (by kernel_rfl) (by kernel_rfl) (by kernel_rfl) (Yld.ldor rfl rfl agg24 size24 rfl (by assumption) (by first | rfl | (simp; done) | assumption) (by assumption)) (H.sub (by repeat (first | exact List.Sublist.refl _ | apply List.Sublist.cons))) ?_; simp only [Act.put, List.setIfInBounds_toArray, List.set_cons_zero, List.set_cons_succ])
      first | (refine rg_take (i := 4) rfl (by kernel_rfl) (by kernel_rfl) (by kernel_rfl) (Yld.ldr rfl rfl agg24 size24 rfl (by repeat (first | exact List.mem_cons_self | apply List.mem_cons_of_mem)) (by first | rfl | (simp; done) | assumption)) (H.sub (by repeat (first | exact List.Sublist.refl _ | apply List.Sublist.cons))) ?_; simp only [Act.put, List.setIfInBounds_toArray, List.set_cons_zero, List.set_cons_succ]) | (refine rg_take (i := 4) rfl (by kernel_rfl) (by kernel_rfl) (by kernel_rfl) (Yld.ldor rfl rfl agg24 size24 rfl (by assumption) (by first | rfl | (simp; done) | assumption) (by assumption)) (H.sub (by repeat (first | exact List.Sublist.refl _ | apply List.Sublist.cons))) ?_; simp only [Act.put, List.setIfInBounds_toArray, List.set_cons_zero, List.set_cons_succ])
      refine rg_all (rs := [2, 6, 7]) (by kernel_rfl) (by simp) ?_
      refine rg_cons (i := 2) rfl rfl (fun K hK => ?_) ?_
      · -- 2
        refine wp_callf rfl ent11 (and_ok a1 a2 b1 b2 la1.out la2.out lb1.out lb2.out _) rfl (fun v w1 hr => ?_)
        obtain ⟨rfl, hb1⟩ := hr
        replace H := H.grow hb1
        clear hb1
        clear HS
        have HS := H
        refine hK.out _ _ (H.sub (by repeat (first | exact List.Sublist.refl _ | apply List.Sublist.cons))) ?_
        clear hK K
        simp only [Act.put, List.setIfInBounds_toArray, List.set_cons_zero, List.set_cons_succ]
        refine rg_all (rs := [5, 6, 7]) (by kernel_rfl) (by simp) ?_
        refine rg_cons (i := 5) rfl rfl (fun K hK => ?_) ?_
        · -- 5
          refine wp_callf rfl ent23 (minus_ok a1 a2 b1 b2 la1.out la2.out lb1.out lb2.out _) rfl (fun v w1 hr => ?_)
          obtain ⟨rfl, hb1⟩ := hr
          replace H := H.grow hb1
          clear hb1
          clear HS
          have HS := H
          refine hK.out _ _ (H.sub (by repeat (first | exact List.Sublist.refl _ | apply List.Sublist.cons))) ?_
          clear hK K
          simp only [Act.put, List.setIfInBounds_toArray, List.set_cons_zero, List.set_cons_succ]
          refine rg_all (rs := [6, 7]) (by kernel_rfl) (by simp) ?_
          refine rg_cons (i := 6) rfl rfl (fun K hK => ?_) ?_
          · -- 6
            refine Stp.wp (Stp.alloc 8 rfl rfl zero24 H ?_)
            clear H
            intro g8 w1 H
            clear HS
            have HS := H
            refine hK.out _ _ (H.sub (by repeat (first | exact List.Sublist.refl _ | apply List.Sublist.cons))) ?_
            clear hK K
            simp only [Act.put, List.setIfInBounds_toArray, List.set_cons_zero, List.set_cons_succ]
            refine rg_one (i := 7) (by kernel_rfl) rfl rfl (fun K hK => ?_)
            refine Stp.wp (Stp.alloc 9 rfl rfl zero24 H ?_)
            clear H
            intro g9 w1 H
            clear HS
            have HS := H
            refine hK.out _ _ (H.sub (by repeat (first | exact List.Sublist.refl _ | apply List.Sublist.cons))) ?_
            clear hK K
            simp only [Act.put, List.setIfInBounds_toArray, List.set_cons_zero, List.set_cons_succ]
            refine rg_one (i := 8) (by kernel_rfl) rfl rfl (fun K hK => ?_)
            refine Stp.wp (Stp.str rfl size24 rfl rfl (by first | rfl | (simp [Value.oneCell']; done) | assumption) H (by repeat (first | exact Upd.head | apply Upd.tail)) (by first | rfl | (simp; done) | assumption) (by first | rfl | (simp; done) | assumption) ?_)
            clear H
            intro w1 H
            clear HS
            have HS := H
            refine hK.out _ _ (H.sub (by repeat (first | exact List.Sublist.refl _ | apply List.Sublist.cons))) ?_
            clear hK K
            simp only [Act.put, List.setIfInBounds_toArray, List.set_cons_zero, List.set_cons_succ]
            refine rg_one (i := 9) (by kernel_rfl) rfl rfl (fun K hK => ?_)
            refine Stp.wp (Stp.str rfl size24 rfl rfl (by first | rfl | (simp [Value.oneCell']; done) | assumption) H (by repeat (first | exact Upd.head | apply Upd.tail)) (by first | rfl | (simp; done) | assumption) (by first | rfl | (simp; done) | assumption) ?_)
            clear H
            intro w1 H
            clear HS
            have HS := H
            refine hK.out _ _ (H.sub (by repeat (first | exact List.Sublist.refl _ | apply List.Sublist.cons))) ?_
            clear hK K
            simp only [Act.put, List.setIfInBounds_toArray, List.set_cons_zero, List.set_cons_succ]
            refine rg_done (by kernel_rfl) ?_
            exact ⟨rfl, g8, g9, by simp only [Act.put, List.setIfInBounds_toArray, List.set_cons_zero, List.set_cons_succ], by first | exact H | exact H.swap⟩
          refine rg_cons (i := 7) rfl rfl (fun K hK => ?_) ?_
          · -- 7
            refine Stp.wp (Stp.alloc 9 rfl rfl zero24 H ?_)
            clear H
            intro g9 w1 H
            clear HS
            have HS := H
            refine hK.out _ _ (H.sub (by repeat (first | exact List.Sublist.refl _ | apply List.Sublist.cons))) ?_
            clear hK K
            simp only [Act.put, List.setIfInBounds_toArray, List.set_cons_zero, List.set_cons_succ]
            refine rg_one (i := 6) (by kernel_rfl) rfl rfl (fun K hK => ?_)
            refine Stp.wp (Stp.alloc 8 rfl rfl zero24 H ?_)
            clear H
            intro g8 w1 H
            clear HS
            have HS := H
            refine hK.out _ _ (H.sub (by repeat (first | exact List.Sublist.refl _ | apply List.Sublist.cons))) ?_
            clear hK K
            simp only [Act.put, List.setIfInBounds_toArray, List.set_cons_zero, List.set_cons_succ]
            refine rg_one (i := 8) (by kernel_rfl) rfl rfl (fun K hK => ?_)
            refine Stp.wp (Stp.str rfl size24 rfl rfl (by first | rfl | (simp [Value.oneCell']; done) | assumption) H (by repeat (first | exact Upd.head | apply Upd.tail)) (by first | rfl | (simp; done) | assumption) (by first | rfl | (simp; done) | assumption) ?_)
            clear H
            intro w1 H
            clear HS
            have HS := H
            refine hK.out _ _ (H.sub (by repeat (first | exact List.Sublist.refl _ | apply List.Sublist.cons))) ?_
            clear hK K
            simp only [Act.put, List.setIfInBounds_toArray, List.set_cons_zero, List.set_cons_succ]
            refine rg_one (i := 9) (by kernel_rfl) rfl rfl (fun K hK => ?_)
            refine Stp.wp (Stp.str rfl size24 rfl rfl (by first | rfl | (simp [Value.oneCell']; done) | assumption) H (by repeat (first | exact Upd.head | apply Upd.tail)) (by first | rfl | (simp; done) | assumption) (by first | rfl | (simp; done) | assumption) ?_)
            clear H
            intro w1 H
            clear HS
            have HS := H
            refine hK.out _ _ (H.sub (by repeat (first | exact List.Sublist.refl _ | apply List.Sublist.cons))) ?_
            clear hK K
            simp only [Act.put, List.setIfInBounds_toArray, List.set_cons_zero, List.set_cons_succ]
            refine rg_done (by kernel_rfl) ?_
            exact ⟨rfl, g8, g9, by simp only [Act.put, List.setIfInBounds_toArray, List.set_cons_zero, List.set_cons_succ], by first | exact H | exact H.swap⟩
          exact AllReadyH.nil
        refine rg_cons (i := 6) rfl rfl (fun K hK => ?_) ?_
        · -- 6
          refine Stp.wp (Stp.alloc 8 rfl rfl zero24 H ?_)
          clear H
          intro g8 w1 H
          clear HS
          have HS := H
          refine hK.out _ _ (H.sub (by repeat (first | exact List.Sublist.refl _ | apply List.Sublist.cons))) ?_
          clear hK K
          simp only [Act.put, List.setIfInBounds_toArray, List.set_cons_zero, List.set_cons_succ]
          refine rg_all (rs := [5, 7]) (by kernel_rfl) (by simp) ?_
          refine rg_cons (i := 5) rfl rfl (fun K hK => ?_) ?_
          · -- 5
            refine wp_callf rfl ent23 (minus_ok a1 a2 b1 b2 la1.out la2.out lb1.out lb2.out _) rfl (fun v w1 hr => ?_)
            obtain ⟨rfl, hb1⟩ := hr
            replace H := H.grow hb1
            clear hb1
            clear HS
            have HS := H
            refine hK.out _ _ (H.sub (by repeat (first | exact List.Sublist.refl _ | apply List.Sublist.cons))) ?_
            clear hK K
            simp only [Act.put, List.setIfInBounds_toArray, List.set_cons_zero, List.set_cons_succ]
            refine rg_one (i := 7) (by kernel_rfl) rfl rfl (fun K hK => ?_)
            refine Stp.wp (Stp.alloc 9 rfl rfl zero24 H ?_)
            clear H
            intro g9 w1 H
            clear HS
            have HS := H
            refine hK.out _ _ (H.sub (by repeat (first | exact List.Sublist.refl _ | apply List.Sublist.cons))) ?_
            clear hK K
            simp only [Act.put, List.setIfInBounds_toArray, List.set_cons_zero, List.set_cons_succ]
            refine rg_one (i := 8) (by kernel_rfl) rfl rfl (fun K hK => ?_)
            refine Stp.wp (Stp.str rfl size24 rfl rfl (by first | rfl | (simp [Value.oneCell']; done) | assumption) H (by repeat (first | exact Upd.head | apply Upd.tail)) (by first | rfl | (simp; done) | assumption) (by first | rfl | (simp; done) | assumption) ?_)
            clear H
            intro w1 H
            clear HS
            have HS := H
            refine hK.out _ _ (H.sub (by repeat (first | exact List.Sublist.refl _ | apply List.Sublist.cons))) ?_
            clear hK K
            simp only [Act.put, List.setIfInBounds_toArray, List.set_cons_zero, List.set_cons_succ]
            refine rg_one (i := 9) (by kernel_rfl) rfl rfl (fun K hK => ?_)
            refine Stp.wp (Stp.str rfl size24 rfl rfl (by first | rfl | (simp [Value.oneCell']; done) | assumption) H (by repeat (first | exact Upd.head | apply Upd.tail)) (by first | rfl | (simp; done) | assumption) (by first | rfl | (simp; done) | assumption) ?_)
            clear H
            intro w1 H
            clear HS
            have HS := H
            refine hK.out _ _ (H.sub (by repeat (first | exact List.Sublist.refl _ | apply List.Sublist.cons))) ?_
            clear hK K
            simp only [Act.put, List.setIfInBounds_toArray, List.set_cons_zero, List.set_cons_succ]
            refine rg_done (by kernel_rfl) ?_
            exact ⟨rfl, g8, g9, by simp only [Act.put, List.setIfInBounds_toArray, List.set_cons_zero, List.set_cons_succ], by first | exact H | exact H.swap⟩
          refine rg_cons (i := 7) rfl rfl (fun K hK => ?_) ?_
          · -- 7
            refine Stp.wp (Stp.alloc 9 rfl rfl zero24 H ?_)
            clear H
            intro g9 w1 H
            clear HS
            have HS := H
            refine hK.out _ _ (H.sub (by repeat (first | exact List.Sublist.refl _ | apply List.Sublist.cons))) ?_
            clear hK K
            simp only [Act.put, List.setIfInBounds_toArray, List.set_cons_zero, List.set_cons_succ]
            refine rg_one (i := 5) (by kernel_rfl) rfl rfl (fun K hK => ?_)
            refine wp_callf rfl ent23 (minus_ok a1 a2 b1 b2 la1.out la2.out lb1.out lb2.out _) rfl (fun v w1 hr => ?_)
            obtain ⟨rfl, hb1⟩ := hr
            replace H := H.grow hb1
            clear hb1
            clear HS
            have HS := H
            refine hK.out _ _ (H.sub (by repeat (first | exact List.Sublist.refl _ | apply List.Sublist.cons))) ?_
            clear hK K
            simp only [Act.put, List.setIfInBounds_toArray, List.set_cons_zero, List.set_cons_succ]
            refine rg_one (i := 8) (by kernel_rfl) rfl rfl (fun K hK => ?_)
            refine Stp.wp (Stp.str rfl size24 rfl rfl (by first | rfl | (simp [Value.oneCell']; done) | assumption) H (by repeat (first | exact Upd.head | apply Upd.tail)) (by first | rfl | (simp; done) | assumption) (by first | rfl | (simp; done) | assumption) ?_)
            clear H
            intro w1 H
            clear HS
            have HS := H
            refine hK.out _ _ (H.sub (by repeat (first | exact List.Sublist.refl _ | apply List.Sublist.cons))) ?_
            clear hK K
            simp only [Act.put, List.setIfInBounds_toArray, List.set_cons_zero, List.set_cons_succ]
            refine rg_one (i := 9) (by kernel_rfl) rfl rfl (fun K hK => ?_)
            refine Stp.wp (Stp.str rfl size24 rfl rfl (by first | rfl | (simp [Value.oneCell']; done) | assumption) H (by repeat (first | exact Upd.head | apply Upd.tail)) (by first | rfl | (simp; done) | assumption) (by first | rfl | (simp; done) | assumption) ?_)
            clear H
            intro w1 H
            clear HS
            have HS := H
            refine hK.out _ _ (H.sub (by repeat (first | exact List.Sublist.refl _ | apply List.Sublist.cons))) ?_
            clear hK K
            simp only [Act.put, List.setIfInBounds_toArray, List.set_cons_zero, List.set_cons_succ]
            refine rg_done (by kernel_rfl) ?_
            exact ⟨rfl, g8, g9, by simp only [Act.put, List.setIfInBounds_toArray, List.set_cons_zero, List.set_cons_succ], by first | exact H | exact H.swap⟩
          exact AllReadyH.nil
        refine rg_cons (i := 7) rfl rfl (fun K hK => ?_) ?_
        · -- 7
          refine Stp.wp (Stp.alloc 9 rfl rfl zero24 H ?_)
          clear H
          intro g9 w1 H
          clear HS
          have HS := H
          refine hK.out _ _ (H.sub (by repeat (first | exact List.Sublist.refl _ | apply List.Sublist.cons))) ?_
          clear hK K
          simp only [Act.put, List.setIfInBounds_toArray, List.set_cons_zero, List.set_cons_succ]
          refine rg_all (rs := [5, 6]) (by kernel_rfl) (by simp) ?_
          refine rg_cons (i := 5) rfl rfl (fun K hK => ?_) ?_
          · -- 5
            refine wp_callf rfl ent23 (minus_ok a1 a2 b1 b2 la1.out la2.out lb1.out lb2.out _) rfl (fun v w1 hr => ?_)
            obtain ⟨rfl, hb1⟩ := hr
            replace H := H.grow hb1
            clear hb1
            clear HS
            have HS := H
            refine hK.out _ _ (H.sub (by repeat (first | exact List.Sublist.refl _ | apply List.Sublist.cons))) ?_
            clear hK K
            simp only [Act.put, List.setIfInBounds_toArray, List.set_cons_zero, List.set_cons_succ]
            refine rg_one (i := 6) (by kernel_rfl) rfl rfl (fun K hK => ?_)
            refine Stp.wp (Stp.alloc 8 rfl rfl zero24 H ?_)
            clear H
            intro g8 w1 H
            clear HS
            have HS := H
            refine hK.out _ _ (H.sub (by repeat (first | exact List.Sublist.refl _ | apply List.Sublist.cons))) ?_
            clear hK K
            simp only [Act.put, List.setIfInBounds_toArray, List.set_cons_zero, List.set_cons_succ]
            refine rg_one (i := 8) (by kernel_rfl) rfl rfl (fun K hK => ?_)
            refine Stp.wp (Stp.str rfl size24 rfl rfl (by first | rfl | (simp [Value.oneCell']; done) | assumption) H (by repeat (first | exact Upd.head | apply Upd.tail)) (by first | rfl | (simp; done) | assumption) (by first | rfl | (simp; done) | assumption) ?_)
            clear H
            intro w1 H
            clear HS
            have HS := H
            refine hK.out _ _ (H.sub (by repeat (first | exact List.Sublist.refl _ | apply List.Sublist.cons))) ?_
            clear hK K
            simp only [Act.put, List.setIfInBounds_toArray, List.set_cons_zero, List.set_cons_succ]
            refine rg_one (i := 9) (by kernel_rfl) rfl rfl (fun K hK => ?_)
            refine Stp.wp (Stp.str rfl size24 rfl rfl (by first | rfl | (simp [Value.oneCell']; done) | assumption) H (by repeat (first | exact Upd.head | apply Upd.tail)) (by first | rfl | (simp; done) | assumption) (by first | rfl | (simp; done) | assumption) ?_)
            clear H
            intro w1 H
            clear HS
            have HS := H
            refine hK.out _ _ (H.sub (by repeat (first | exact List.Sublist.refl _ | apply List.Sublist.cons))) ?_
            clear hK K
            simp only [Act.put, List.setIfInBounds_toArray, List.set_cons_zero, List.set_cons_succ]
            refine rg_done (by kernel_rfl) ?_
            exact ⟨rfl, g8, g9, by simp only [Act.put, List.setIfInBounds_toArray, List.set_cons_zero, List.set_cons_succ], by first | exact H | exact H.swap⟩
          refine rg_cons (i := 6) rfl rfl (fun K hK => ?_) ?_
          · -- 6
            refine Stp.wp (Stp.alloc 8 rfl rfl zero24 H ?_)
            clear H
            intro g8 w1 H
            clear HS
            have HS := H
            refine hK.out _ _ (H.sub (by repeat (first | exact List.Sublist.refl _ | apply List.Sublist.cons))) ?_
            clear hK K
            simp only [Act.put, List.setIfInBounds_toArray, List.set_cons_zero, List.set_cons_succ]
            refine rg_one (i := 5) (by kernel_rfl) rfl rfl (fun K hK => ?_)
            refine wp_callf rfl ent23 (minus_ok a1 a2 b1 b2 la1.out la2.out lb1.out lb2.out _) rfl (fun v w1 hr => ?_)
            obtain ⟨rfl, hb1⟩ := hr
            replace H := H.grow hb1
            clear hb1
            clear HS
            have HS := H
            refine hK.out _ _ (H.sub (by repeat (first | exact List.Sublist.refl _ | apply List.Sublist.cons))) ?_
            clear hK K
            simp only [Act.put, List.setIfInBounds_toArray, List.set_cons_zero, List.set_cons_succ]
            refine rg_one (i := 8) (by kernel_rfl) rfl rfl (fun K hK => ?_)
            refine Stp.wp (Stp.str rfl size24 rfl rfl (by first | rfl | (simp [Value.oneCell']; done) | assumption) H (by repeat (first | exact Upd.head | apply Upd.tail)) (by first | rfl | (simp; done) | assumption) (by first | rfl | (simp; done) | assumption) ?_)
            clear H
            intro w1 H
            clear HS
            have HS := H
            refine hK.out _ _ (H.sub (by repeat (first | exact List.Sublist.refl _ | apply List.Sublist.cons))) ?_
            clear hK K
            simp only [Act.put, List.setIfInBounds_toArray, List.set_cons_zero, List.set_cons_succ]
            refine rg_one (i := 9) (by kernel_rfl) rfl rfl (fun K hK => ?_)
            refine Stp.wp (Stp.str rfl size24 rfl rfl (by first | rfl | (simp [Value.oneCell']; done) | assumption) H (by repeat (first | exact Upd.head | apply Upd.tail)) (by first | rfl | (simp; done) | assumption) (by first | rfl | (simp; done) | assumption) ?_)
            clear H
            intro w1 H
            clear HS
            have HS := H
            refine hK.out _ _ (H.sub (by repeat (first | exact List.Sublist.refl _ | apply List.Sublist.cons))) ?_
            clear hK K
            simp only [Act.put, List.setIfInBounds_toArray, List.set_cons_zero, List.set_cons_succ]
            refine rg_done (by kernel_rfl) ?_
            exact ⟨rfl, g8, g9, by simp only [Act.put, List.setIfInBounds_toArray, List.set_cons_zero, List.set_cons_succ], by first | exact H | exact H.swap⟩
          exact AllReadyH.nil
        exact AllReadyH.nil
      refine rg_cons (i := 6) rfl rfl (fun K hK => ?_) ?_
      · -- 6
        refine Stp.wp (Stp.alloc 8 rfl rfl zero24 H ?_)
        clear H
        intro g8 w1 H
        clear HS
        have HS := H
        refine hK.out _ _ (H.sub (by repeat (first | exact List.Sublist.refl _ | apply List.Sublist.cons))) ?_
        clear hK K
        simp only [Act.put, List.setIfInBounds_toArray, List.set_cons_zero, List.set_cons_succ]
        refine rg_all (rs := [2, 7]) (by kernel_rfl) (by simp) ?_
        refine rg_cons (i := 2) rfl rfl (fun K hK => ?_) ?_
        · -- 2
          refine wp_callf rfl ent11 (and_ok a1 a2 b1 b2 la1.out la2.out lb1.out lb2.out _) rfl (fun v w1 hr => ?_)
          obtain ⟨rfl, hb1⟩ := hr
          replace H := H.grow hb1
          clear hb1
          clear HS
          have HS := H
          refine hK.out _ _ (H.sub (by repeat (first | exact List.Sublist.refl _ | apply List.Sublist.cons))) ?_
          clear hK K
          simp only [Act.put, List.setIfInBounds_toArray, List.set_cons_zero, List.set_cons_succ]
          refine rg_all (rs := [5, 7]) (by kernel_rfl) (by simp) ?_
          refine rg_cons (i := 5) rfl rfl (fun K hK => ?_) ?_
          · -- 5
            refine wp_callf rfl ent23 (minus_ok a1 a2 b1 b2 la1.out la2.out lb1.out lb2.out _) rfl (fun v w1 hr => ?_)
            obtain ⟨rfl, hb1⟩ := hr
            replace H := H.grow hb1
            clear hb1
            clear HS
            have HS := H
            refine hK.out _ _ (H.sub (by repeat (first | exact List.Sublist.refl _ | apply List.Sublist.cons))) ?_
            clear hK K
            simp only [Act.put, List.setIfInBounds_toArray, List.set_cons_zero, List.set_cons_succ]
            refine rg_one (i := 7) (by kernel_rfl) rfl rfl (fun K hK => ?_)
            refine Stp.wp (Stp.alloc 9 rfl rfl zero24 H ?_)
            clear H
            intro g9 w1 H
            clear HS
            have HS := H
            refine hK.out _ _ (H.sub (by repeat (first | exact List.Sublist.refl _ | apply List.Sublist.cons))) ?_
            clear hK K
            simp only [Act.put, List.setIfInBounds_toArray, List.set_cons_zero, List.set_cons_succ]
            refine rg_one (i := 8) (by kernel_rfl) rfl rfl (fun K hK => ?_)
            refine Stp.wp (Stp.str rfl size24 rfl rfl (by first | rfl | (simp [Value.oneCell']; done) | assumption) H (by repeat (first | exact Upd.head | apply Upd.tail)) (by first | rfl | (simp; done) | assumption) (by first | rfl | (simp; done) | assumption) ?_)
            clear H
            intro w1 H
            clear HS
            have HS := H
            refine hK.out _ _ (H.sub (by repeat (first | exact List.Sublist.refl _ | apply List.Sublist.cons))) ?_
            clear hK K
            simp only [Act.put, List.setIfInBounds_toArray, List.set_cons_zero, List.set_cons_succ]
            refine rg_one (i := 9) (by kernel_rfl) rfl rfl (fun K hK => ?_)
            refine Stp.wp (Stp.str rfl size24 rfl rfl (by first | rfl | (simp [Value.oneCell']; done) | assumption) H (by repeat (first | exact Upd.head | apply Upd.tail)) (by first | rfl | (simp; done) | assumption) (by first | rfl | (simp; done) | assumption) ?_)
            clear H
            intro w1 H
            clear HS
            have HS := H
            refine hK.out _ _ (H.sub (by repeat (first | exact List.Sublist.refl _ | apply List.Sublist.cons))) ?_
            clear hK K
            simp only [Act.put, List.setIfInBounds_toArray, List.set_cons_zero, List.set_cons_succ]
            refine rg_done (by kernel_rfl) ?_
            exact ⟨rfl, g8, g9, by simp only [Act.put, List.setIfInBounds_toArray, List.set_cons_zero, List.set_cons_succ], by first | exact H | exact H.swap⟩
          refine rg_cons (i := 7) rfl rfl (fun K hK => ?_) ?_
          · -- 7
            refine Stp.wp (Stp.alloc 9 rfl rfl zero24 H ?_)
            clear H
            intro g9 w1 H
            clear HS
            have HS := H
            refine hK.out _ _ (H.sub (by repeat (first | exact List.Sublist.refl _ | apply List.Sublist.cons))) ?_
            clear hK K
            simp only [Act.put, List.setIfInBounds_toArray, List.set_cons_zero, List.set_cons_succ]
            refine rg_one (i := 5) (by kernel_rfl) rfl rfl (fun K hK => ?_)
            refine wp_callf rfl ent23 (minus_ok a1 a2 b1 b2 la1.out la2.out lb1.out lb2.out _) rfl (fun v w1 hr => ?_)
            obtain ⟨rfl, hb1⟩ := hr
            replace H := H.grow hb1
            clear hb1
            clear HS
            have HS := H
            refine hK.out _ _ (H.sub (by repeat (first | exact List.Sublist.refl _ | apply List.Sublist.cons))) ?_
            clear hK K
            simp only [Act.put, List.setIfInBounds_toArray, List.set_cons_zero, List.set_cons_succ]
            refine rg_one (i := 8) (by kernel_rfl) rfl rfl (fun K hK => ?_)
            refine Stp.wp (Stp.str rfl size24 rfl rfl (by first | rfl | (simp [Value.oneCell']; done) | assumption) H (by repeat (first | exact Upd.head | apply Upd.tail)) (by first | rfl | (simp; done) | assumption) (by first | rfl | (simp; done) | assumption) ?_)
            clear H
            intro w1 H
            clear HS
            have HS := H
            refine hK.out _ _ (H.sub (by repeat (first | exact List.Sublist.refl _ | apply List.Sublist.cons))) ?_
            clear hK K
            simp only [Act.put, List.setIfInBounds_toArray, List.set_cons_zero, List.set_cons_succ]
            refine rg_one (i := 9) (by kernel_rfl) rfl rfl (fun K hK => ?_)
            refine Stp.wp (Stp.str rfl size24 rfl rfl (by first | rfl | (simp [Value.oneCell']; done) | assumption) H (by repeat (first | exact Upd.head | apply Upd.tail)) (by first | rfl | (simp; done) | assumption) (by first | rfl | (simp; done) | assumption) ?_)
            clear H
            intro w1 H
            clear HS
            have HS := H
            refine hK.out _ _ (H.sub (by repeat (first | exact List.Sublist.refl _ | apply List.Sublist.cons))) ?_
            clear hK K
            simp only [Act.put, List.setIfInBounds_toArray, List.set_cons_zero, List.set_cons_succ]
            refine rg_done (by kernel_rfl) ?_
            exact ⟨rfl, g8, g9, by simp only [Act.put, List.setIfInBounds_toArray, List.set_cons_zero, List.set_cons_succ], by first | exact H | exact H.swap⟩
          exact AllReadyH.nil
        refine rg_cons (i := 7) rfl rfl (fun K hK => ?_) ?_
        · -- 7
          refine Stp.wp (Stp.alloc 9 rfl rfl zero24 H ?_)
          clear H
          intro g9 w1 H
          clear HS
          have HS := H
          refine hK.out _ _ (H.sub (by repeat (first | exact List.Sublist.refl _ | apply List.Sublist.cons))) ?_
          clear hK K
          simp only [Act.put, List.setIfInBounds_toArray, List.set_cons_zero, List.set_cons_succ]
          refine rg_one (i := 2) (by kernel_rfl) rfl rfl (fun K hK => ?_)
          refine wp_callf rfl ent11 (and_ok a1 a2 b1 b2 la1.out la2.out lb1.out lb2.out _) rfl (fun v w1 hr => ?_)
          obtain ⟨rfl, hb1⟩ := hr
          replace H := H.grow hb1
          clear hb1
          clear HS
          have HS := H
          refine hK.out _ _ (H.sub (by repeat (first | exact List.Sublist.refl _ | apply List.Sublist.cons))) ?_
          clear hK K
          simp only [Act.put, List.setIfInBounds_toArray, List.set_cons_zero, List.set_cons_succ]
          refine rg_one (i := 5) (by kernel_rfl) rfl rfl (fun K hK => ?_)
          refine wp_callf rfl ent23 (minus_ok a1 a2 b1 b2 la1.out la2.out lb1.out lb2.out _) rfl (fun v w1 hr => ?_)
          obtain ⟨rfl, hb1⟩ := hr
          replace H := H.grow hb1
          clear hb1
          clear HS
          have HS := H
          refine hK.out _ _ (H.sub (by repeat (first | exact List.Sublist.refl _ | apply List.Sublist.cons))) ?_
          clear hK K
          simp only [Act.put, List.setIfInBounds_toArray, List.set_cons_zero, List.set_cons_succ]
          refine rg_one (i := 8) (by kernel_rfl) rfl rfl (fun K hK => ?_)
          refine Stp.wp (Stp.str rfl size24 rfl rfl (by first | rfl | (simp [Value.oneCell']; done) | assumption) H (by repeat (first | exact Upd.head | apply Upd.tail)) (by first | rfl | (simp; done) | assumption) (by first | rfl | (simp; done) | assumption) ?_)
          clear H
          intro w1 H
          clear HS
          have HS := H
          refine hK.out _ _ (H.sub (by repeat (first | exact List.Sublist.refl _ | apply List.Sublist.cons))) ?_
          clear hK K
          simp only [Act.put, List.setIfInBounds_toArray, List.set_cons_zero, List.set_cons_succ]
          refine rg_one (i := 9) (by kernel_rfl) rfl rfl (fun K hK => ?_)
          refine Stp.wp (Stp.str rfl size24 rfl rfl (by first | rfl | (simp [Value.oneCell']; done) | assumption) H (by repeat (first | exact Upd.head | apply Upd.tail)) (by first | rfl | (simp; done) | assumption) (by first | rfl | (simp; done) | assumption) ?_)
          clear H
          intro w1 H
          clear HS
          have HS := H
          refine hK.out _ _ (H.sub (by repeat (first | exact List.Sublist.refl _ | apply List.Sublist.cons))) ?_
          clear hK K
          simp only [Act.put, List.setIfInBounds_toArray, List.set_cons_zero, List.set_cons_succ]
          refine rg_done (by kernel_rfl) ?_
          exact ⟨rfl, g8, g9, by simp only [Act.put, List.setIfInBounds_toArray, List.set_cons_zero, List.set_cons_succ], by first | exact H | exact H.swap⟩
        exact AllReadyH.nil
      refine rg_cons (i := 7) rfl rfl (fun K hK => ?_) ?_
      · -- 7
        refine Stp.wp (Stp.alloc 9 rfl rfl zero24 H ?_)
        clear H
        intro g9 w1 H
        clear HS
        have HS := H
        refine hK.out _ _ (H.sub (by repeat (first | exact List.Sublist.refl _ | apply List.Sublist.cons))) ?_
        clear hK K
        simp only [Act.put, List.setIfInBounds_toArray, List.set_cons_zero, List.set_cons_succ]
        refine rg_all (rs := [2, 6]) (by kernel_rfl) (by simp) ?_
        refine rg_cons (i := 2) rfl rfl (fun K hK => ?_) ?_
        · -- 2
          refine wp_callf rfl ent11 (and_ok a1 a2 b1 b2 la1.out la2.out lb1.out lb2.out _) rfl (fun v w1 hr => ?_)
          obtain ⟨rfl, hb1⟩ := hr
          replace H := H.grow hb1
          clear hb1
          clear HS
          have HS := H
          refine hK.out _ _ (H.sub (by repeat (first | exact List.Sublist.refl _ | apply List.Sublist.cons))) ?_
          clear hK K
          simp only [Act.put, List.setIfInBounds_toArray, List.set_cons_zero, List.set_cons_succ]
          refine rg_all (rs := [5, 6]) (by kernel_rfl) (by simp) ?_
          refine rg_cons (i := 5) rfl rfl (fun K hK => ?_) ?_
          · -- 5
            refine wp_callf rfl ent23 (minus_ok a1 a2 b1 b2 la1.out la2.out lb1.out lb2.out _) rfl (fun v w1 hr => ?_)
            obtain ⟨rfl, hb1⟩ := hr
            replace H := H.grow hb1
            clear hb1
            clear HS
            have HS := H
            refine hK.out _ _ (H.sub (by repeat (first | exact List.Sublist.refl _ | apply List.Sublist.cons))) ?_
            clear hK K
            simp only [Act.put, List.setIfInBounds_toArray, List.set_cons_zero, List.set_cons_succ]
            refine rg_one (i := 6) (by kernel_rfl) rfl rfl (fun K hK => ?_)
            refine Stp.wp (Stp.alloc 8 rfl rfl zero24 H ?_)
            clear H
            intro g8 w1 H
            clear HS
            have HS := H
            refine hK.out _ _ (H.sub (by repeat (first | exact List.Sublist.refl _ | apply List.Sublist.cons))) ?_
            clear hK K
            simp only [Act.put, List.setIfInBounds_toArray, List.set_cons_zero, List.set_cons_succ]
            refine rg_one (i := 8) (by kernel_rfl) rfl rfl (fun K hK => ?_)
            refine Stp.wp (Stp.str rfl size24 rfl rfl (by first | rfl | (simp [Value.oneCell']; done) | assumption) H (by repeat (first | exact Upd.head | apply Upd.tail)) (by first | rfl | (simp; done) | assumption) (by first | rfl | (simp; done) | assumption) ?_)
            clear H
            intro w1 H
            clear HS
            have HS := H
            refine hK.out _ _ (H.sub (by repeat (first | exact List.Sublist.refl _ | apply List.Sublist.cons))) ?_
            clear hK K
            simp only [Act.put, List.setIfInBounds_toArray, List.set_cons_zero, List.set_cons_succ]
            refine rg_one (i := 9) (by kernel_rfl) rfl rfl (fun K hK => ?_)
            refine Stp.wp (Stp.str rfl size24 rfl rfl (by first | rfl | (simp [Value.oneCell']; done) | assumption) H (by repeat (first | exact Upd.head | apply Upd.tail)) (by first | rfl | (simp; done) | assumption) (by first | rfl | (simp; done) | assumption) ?_)
            clear H
            intro w1 H
            clear HS
            have HS := H
            refine hK.out _ _ (H.sub (by repeat (first | exact List.Sublist.refl _ | apply List.Sublist.cons))) ?_
            clear hK K
            simp only [Act.put, List.setIfInBounds_toArray, List.set_cons_zero, List.set_cons_succ]
            refine rg_done (by kernel_rfl) ?_
            exact ⟨rfl, g8, g9, by simp only [Act.put, List.setIfInBounds_toArray, List.set_cons_zero, List.set_cons_succ], by first | exact H | exact H.swap⟩
          refine rg_cons (i := 6) rfl rfl (fun K hK => ?_) ?_
          · -- 6
            refine Stp.wp (Stp.alloc 8 rfl rfl zero24 H ?_)
            clear H
            intro g8 w1 H
            clear HS
            have HS := H
            refine hK.out _ _ (H.sub (by repeat (first | exact List.Sublist.refl _ | apply List.Sublist.cons))) ?_
            clear hK K
            simp only [Act.put, List.setIfInBounds_toArray, List.set_cons_zero, List.set_cons_succ]
            refine rg_one (i := 5) (by kernel_rfl) rfl rfl (fun K hK => ?_)
            refine wp_callf rfl ent23 (minus_ok a1 a2 b1 b2 la1.out la2.out lb1.out lb2.out _) rfl (fun v w1 hr => ?_)
            obtain ⟨rfl, hb1⟩ := hr
            replace H := H.grow hb1
            clear hb1
            clear HS
            have HS := H
            refine hK.out _ _ (H.sub (by repeat (first | exact List.Sublist.refl _ | apply List.Sublist.cons))) ?_
            clear hK K
            simp only [Act.put, List.setIfInBounds_toArray, List.set_cons_zero, List.set_cons_succ]
            refine rg_one (i := 8) (by kernel_rfl) rfl rfl (fun K hK => ?_)
            refine Stp.wp (Stp.str rfl size24 rfl rfl (by first | rfl | (simp [Value.oneCell']; done) | assumption) H (by repeat (first | exact Upd.head | apply Upd.tail)) (by first | rfl | (simp; done) | assumption) (by first | rfl | (simp; done) | assumption) ?_)
            clear H
            intro w1 H
            clear HS
            have HS := H
            refine hK.out _ _ (H.sub (by repeat (first | exact List.Sublist.refl _ | apply List.Sublist.cons))) ?_
            clear hK K
            simp only [Act.put, List.setIfInBounds_toArray, List.set_cons_zero, List.set_cons_succ]
            refine rg_one (i := 9) (by kernel_rfl) rfl rfl (fun K hK => ?_)
            refine Stp.wp (Stp.str rfl size24 rfl rfl (by first | rfl | (simp [Value.oneCell']; done) | assumption) H (by repeat (first | exact Upd.head | apply Upd.tail)) (by first | rfl | (simp; done) | assumption) (by first | rfl | (simp; done) | assumption) ?_)
            clear H
            intro w1 H
            clear HS
            have HS := H
            refine hK.out _ _ (H.sub (by repeat (first | exact List.Sublist.refl _ | apply List.Sublist.cons))) ?_
            clear hK K
            simp only [Act.put, List.setIfInBounds_toArray, List.set_cons_zero, List.set_cons_succ]
            refine rg_done (by kernel_rfl) ?_
            exact ⟨rfl, g8, g9, by simp only [Act.put, List.setIfInBounds_toArray, List.set_cons_zero, List.set_cons_succ], by first | exact H | exact H.swap⟩
          exact AllReadyH.nil
        refine rg_cons (i := 6) rfl rfl (fun K hK => ?_) ?_
        · -- 6
          refine Stp.wp (Stp.alloc 8 rfl rfl zero24 H ?_)
          clear H
          intro g8 w1 H
          clear HS
          have HS := H
          refine hK.out _ _ (H.sub (by repeat (first | exact List.Sublist.refl _ | apply List.Sublist.cons))) ?_
          clear hK K
          simp only [Act.put, List.setIfInBounds_toArray, List.set_cons_zero, List.set_cons_succ]
          refine rg_one (i := 2) (by kernel_rfl) rfl rfl (fun K hK => ?_)
          refine wp_callf rfl ent11 (and_ok a1 a2 b1 b2 la1.out la2.out lb1.out lb2.out _) rfl (fun v w1 hr => ?_)
          obtain ⟨rfl, hb1⟩ := hr
          replace H := H.grow hb1
          clear hb1
          clear HS
          have HS := H
          refine hK.out _ _ (H.sub (by repeat (first | exact List.Sublist.refl _ | apply List.Sublist.cons))) ?_
          clear hK K
          simp only [Act.put, List.setIfInBounds_toArray, List.set_cons_zero, List.set_cons_succ]
          refine rg_one (i := 5) (by kernel_rfl) rfl rfl (fun K hK => ?_)
          refine wp_callf rfl ent23 (minus_ok a1 a2 b1 b2 la1.out la2.out lb1.out lb2.out _) rfl (fun v w1 hr => ?_)
          obtain ⟨rfl, hb1⟩ := hr
          replace H := H.grow hb1
          clear hb1
          clear HS
          have HS := H
          refine hK.out _ _ (H.sub (by repeat (first | exact List.Sublist.refl _ | apply List.Sublist.cons))) ?_
          clear hK K
          simp only [Act.put, List.setIfInBounds_toArray, List.set_cons_zero, List.set_cons_succ]
          refine rg_one (i := 8) (by kernel_rfl) rfl rfl (fun K hK => ?_)
          refine Stp.wp (Stp.str rfl size24 rfl rfl (by first | rfl | (simp [Value.oneCell']; done) | assumption) H (by repeat (first | exact Upd.head | apply Upd.tail)) (by first | rfl | (simp; done) | assumption) (by first | rfl | (simp; done) | assumption) ?_)
          clear H
          intro w1 H
          clear HS
          have HS := H
          refine hK.out _ _ (H.sub (by repeat (first | exact List.Sublist.refl _ | apply List.Sublist.cons))) ?_
          clear hK K
          simp only [Act.put, List.setIfInBounds_toArray, List.set_cons_zero, List.set_cons_succ]
          refine rg_one (i := 9) (by kernel_rfl) rfl rfl (fun K hK => ?_)
          refine Stp.wp (Stp.str rfl size24 rfl rfl (by first | rfl | (simp [Value.oneCell']; done) | assumption) H (by repeat (first | exact Upd.head | apply Upd.tail)) (by first | rfl | (simp; done) | assumption) (by first | rfl | (simp; done) | assumption) ?_)
          clear H
          intro w1 H
          clear HS
          have HS := H
          refine hK.out _ _ (H.sub (by repeat (first | exact List.Sublist.refl _ | apply List.Sublist.cons))) ?_
          clear hK K
          simp only [Act.put, List.setIfInBounds_toArray, List.set_cons_zero, List.set_cons_succ]
          refine rg_done (by kernel_rfl) ?_
          exact ⟨rfl, g8, g9, by simp only [Act.put, List.setIfInBounds_toArray, List.set_cons_zero, List.set_cons_succ], by first | exact H | exact H.swap⟩
        exact AllReadyH.nil
      exact AllReadyH.nil
    rintro a' w' ⟨g8, g9, rfl, H⟩
    simp only [Act.put, List.setIfInBounds_toArray, List.set_cons_zero, List.set_cons_succ]
    go_wp2_with (first | (with_reducible refine wpl rfl (Stp.box 3 rfl rfl rfl H ?_); clear H; intro g3 w1 H; simp only [Act.put, List.setIfInBounds_toArray, List.set_cons_zero, List.set_cons_succ]; simp only [eval_tmp, eval_const, getD_lit0, getD_lits, cells_agg, cells_int, cells_bool, cells_string, cells_pointer, cells_slice, cells_map, List.setIfInBounds_toArray, List.set_cons_zero, List.set_cons_succ] at H) | (with_reducible refine wpl rfl (Stp.box 4 rfl rfl rfl H ?_); clear H; intro g4 w1 H; simp only [Act.put, List.setIfInBounds_toArray, List.set_cons_zero, List.set_cons_succ]; simp only [eval_tmp, eval_const, getD_lit0, getD_lits, cells_agg, cells_int, cells_bool, cells_string, cells_pointer, cells_slice, cells_map, List.setIfInBounds_toArray, List.set_cons_zero, List.set_cons_succ] at H) | (with_reducible refine wpl rfl (Stp.ldr rfl agg24 size24 rfl H (by repeat (first | exact List.mem_cons_self | apply List.mem_cons_of_mem)) (by first | rfl | (simp; done) | assumption) ?_); simp only [Act.put, List.setIfInBounds_toArray, List.set_cons_zero, List.set_cons_succ]) | (with_reducible refine wpl rfl (Stp.ldor rfl agg24 size24 rfl H (by assumption) (by first | rfl | (simp; done) | assumption) (by assumption) ?_); simp only [Act.put, List.setIfInBounds_toArray, List.set_cons_zero, List.set_cons_succ]))
    refine rg_begin 26 rfl (S := fun W => St _ _ W _) (by kernel_rfl) H.drew ?_
    replace H := H.drew
    have HS := H
    first | (refine rg_take (i := 0) rfl (by kernel_rfl) (by kernel_rfl) (by kernel_rfl) (Yld.ldr rfl rfl agg24 size24 rfl (by repeat (first | exact List.mem_cons_self | apply List.mem_cons_of_mem)) (by first | rfl | (simp; done) | assumption)) HS ?_; simp only [Act.put, List.setIfInBounds_toArray, List.set_cons_zero, List.set_cons_succ]) | (refine rg_take (i := 0) rfl (by kernel_rfl) (by kernel_rfl) (by kernel_rfl) (Yld.ldor rfl rfl agg24 size24 rfl (by assumption) (by first | rfl | (simp; done) | assumption) (by assumption)) HS ?_; simp only [Act.put, List.setIfInBounds_toArray, List.set_cons_zero, List.set_cons_succ])
    first | (refine rg_take (i := 1) rfl (by kernel_rfl) (by kernel_rfl) (by kernel_rfl) (Yld.ldr rfl rfl agg24 size24 rfl (by repeat (first | exact List.mem_cons_self | apply List.mem_cons_of_mem)) (by first | rfl | (simp; done) | assumption)) HS ?_; simp only [Act.put, List.setIfInBounds_toArray, List.set_cons_zero, List.set_cons_succ]) | (refine rg_take (i := 1) rfl (by kernel_rfl) (by kernel_rfl) (by kernel_rfl) (Yld.ldor rfl rfl agg24 size24 rfl (by assumption) (by first | rfl | (simp; done) | assumption) (by assumption)) HS ?_; simp only [Act.put, List.setIfInBounds_toArray, List.set_cons_zero, List.set_cons_succ])
    first | (refine rg_take (i := 3) rfl (by kernel_rfl) (by kernel_rfl) (by kernel_rfl) (Yld.ldr rfl rfl agg24 size24 rfl (by repeat (first | exact List.mem_cons_self | apply List.mem_cons_of_mem)) (by first | rfl | (simp; done) | assumption)) HS ?_; simp only [Act.put, List.setIfInBounds_toArray, List.set_cons_zero, List.set_cons_succ]) | (refine rg_take (i := 3) rfl (by kernel_rfl) (by kernel_rfl) (by kernel_rfl) (Yld.ldor rfl rfl agg24 size24 rfl (by assumption) (by first | rfl | (simp; done) | assumption) (by assumption)) HS ?_; simp only [Act.put, List.setIfInBounds_toArray, List.set_cons_zero, List.set_cons_succ])
    refine rg_one (i := 2) (by kernel_rfl) rfl rfl (fun K hK => ?_)
    refine wp_callf rfl ent24 (or_ok (a1 &&& b1) (a2 &&& b2) (mn a1 b1) (mn a2 b2) (and_lt la1.out) (and_lt la2.out) (mn_lt la1.out) (mn_lt la2.out) _) rfl (fun v w1 hr => ?_)
    obtain ⟨rfl, hb1⟩ := hr
    replace H := H.grow hb1
    clear hb1
    rw [PO1.out, PO2.out]
    clear HS
    have HS := H
    refine hK.out _ _ HS ?_
    clear hK K
    simp only [Act.put, List.setIfInBounds_toArray, List.set_cons_zero, List.set_cons_succ]
    refine rg_take (i := 4) rfl (by kernel_rfl) (by kernel_rfl) (by kernel_rfl) (Yld.of rfl (fun W _ => by go_simp; first | done | with_reducible rfl)) HS ?_; simp only [Act.put, List.setIfInBounds_toArray, List.set_cons_zero, List.set_cons_succ]
    refine rg_take (i := 5) rfl (by kernel_rfl) (by kernel_rfl) (by kernel_rfl) (Yld.move rfl rfl) HS ?_; simp only [Act.put, eval_tmp, eval_const, getD_lit0, getD_lits, if_true, if_false, List.setIfInBounds_toArray, List.set_cons_zero, List.set_cons_succ]
    first | (refine rg_take (i := 6) rfl (by kernel_rfl) (by kernel_rfl) (by kernel_rfl) (Yld.ldr rfl rfl agg24 size24 rfl (by repeat (first | exact List.mem_cons_self | apply List.mem_cons_of_mem)) (by first | rfl | (simp; done) | assumption)) HS ?_; simp only [Act.put, List.setIfInBounds_toArray, List.set_cons_zero, List.set_cons_succ]) | (refine rg_take (i := 6) rfl (by kernel_rfl) (by kernel_rfl) (by kernel_rfl) (Yld.ldor rfl rfl agg24 size24 rfl (by assumption) (by first | rfl | (simp; done) | assumption) (by assumption)) HS ?_; simp only [Act.put, List.setIfInBounds_toArray, List.set_cons_zero, List.set_cons_succ])
    first | (refine rg_take (i := 7) rfl (by kernel_rfl) (by kernel_rfl) (by kernel_rfl) (Yld.ldr rfl rfl agg24 size24 rfl (by repeat (first | exact List.mem_cons_self | apply List.mem_cons_of_mem)) (by first | rfl | (simp; done) | assumption)) HS ?_; simp only [Act.put, List.setIfInBounds_toArray, List.set_cons_zero, List.set_cons_succ]) | (refine rg_take (i := 7) rfl (by kernel_rfl) (by kernel_rfl) (by kernel_rfl) (Yld.ldor rfl rfl agg24 size24 rfl (by assumption) (by first | rfl | (simp; done) | assumption) (by assumption)) HS ?_; simp only [Act.put, List.setIfInBounds_toArray, List.set_cons_zero, List.set_cons_succ])
    refine rg_take (i := 9) rfl (by kernel_rfl) (by kernel_rfl) (by kernel_rfl) (Yld.of rfl (fun W _ => by go_simp; first | done | with_reducible rfl)) HS ?_; simp only [Act.put, List.setIfInBounds_toArray, List.set_cons_zero, List.set_cons_succ]
    refine rg_one (i := 8) (by kernel_rfl) rfl rfl (fun K hK => ?_)
    refine wp_callf rfl ent11 (and_ok (a1 &&& b1) (a2 &&& b2) (mn a1 b1) (mn a2 b2) (and_lt la1.out) (and_lt la2.out) (mn_lt la1.out) (mn_lt la2.out) _) rfl (fun v w1 hr => ?_)
    obtain ⟨rfl, hb1⟩ := hr
    replace H := H.grow hb1
    clear hb1
    rw [PA1.out, PA2.out]
    clear HS
    have HS := H
    refine hK.out _ _ HS ?_
    clear hK K
    simp only [Act.put, List.setIfInBounds_toArray, List.set_cons_zero, List.set_cons_succ]
    refine rg_take (i := 10) rfl (by kernel_rfl) (by kernel_rfl) (by kernel_rfl) (Yld.of rfl (fun W _ => by go_simp; first | done | with_reducible rfl)) HS ?_; simp only [Act.put, List.setIfInBounds_toArray, List.set_cons_zero, List.set_cons_succ]
    refine rg_take (i := 11) rfl (by kernel_rfl) (by kernel_rfl) (by kernel_rfl) (Yld.pick rfl rfl rfl) HS ?_; simp only [Act.put, eval_tmp, eval_const, getD_lit0, getD_lits, if_true, if_false, List.setIfInBounds_toArray, List.set_cons_zero, List.set_cons_succ]
    refine rg_take (i := 12) rfl (by kernel_rfl) (by kernel_rfl) (by kernel_rfl) (Yld.move rfl rfl) HS ?_; simp only [Act.put, eval_tmp, eval_const, getD_lit0, getD_lits, if_true, if_false, List.setIfInBounds_toArray, List.set_cons_zero, List.set_cons_succ]
    first | (refine rg_take (i := 13) rfl (by kernel_rfl) (by kernel_rfl) (by kernel_rfl) (Yld.ldr rfl rfl agg24 size24 rfl (by repeat (first | exact List.mem_cons_self | apply List.mem_cons_of_mem)) (by first | rfl | (simp; done) | assumption)) HS ?_; simp only [Act.put, List.setIfInBounds_toArray, List.set_cons_zero, List.set_cons_succ]) | (refine rg_take (i := 13) rfl (by kernel_rfl) (by kernel_rfl) (by kernel_rfl) (Yld.ldor rfl rfl agg24 size24 rfl (by assumption) (by first | rfl | (simp; done) | assumption) (by assumption)) HS ?_; simp only [Act.put, List.setIfInBounds_toArray, List.set_cons_zero, List.set_cons_succ])
    first | (refine rg_take (i := 15) rfl (by kernel_rfl) (by kernel_rfl) (by kernel_rfl) (Yld.ldr rfl rfl agg24 size24 rfl (by repeat (first | exact List.mem_cons_self | apply List.mem_cons_of_mem)) (by first | rfl | (simp; done) | assumption)) HS ?_; simp only [Act.put, List.setIfInBounds_toArray, List.set_cons_zero, List.set_cons_succ]) | (refine rg_take (i := 15) rfl (by kernel_rfl) (by kernel_rfl) (by kernel_rfl) (Yld.ldor rfl rfl agg24 size24 rfl (by assumption) (by first | rfl | (simp; done) | assumption) (by assumption)) HS ?_; simp only [Act.put, List.setIfInBounds_toArray, List.set_cons_zero, List.set_cons_succ])
    first | (refine rg_take (i := 18) rfl (by kernel_rfl) (by kernel_rfl) (by kernel_rfl) (Yld.ldr rfl rfl agg24 size24 rfl (by repeat (first | exact List.mem_cons_self | apply List.mem_cons_of_mem)) (by first | rfl | (simp; done) | assumption)) HS ?_; simp only [Act.put, List.setIfInBounds_toArray, List.set_cons_zero, List.set_cons_succ]) | (refine rg_take (i := 18) rfl (by kernel_rfl) (by kernel_rfl) (by kernel_rfl) (Yld.ldor rfl rfl agg24 size24 rfl (by assumption) (by first | rfl | (simp; done) | assumption) (by assumption)) HS ?_; simp only [Act.put, List.setIfInBounds_toArray, List.set_cons_zero, List.set_cons_succ])
    refine rg_one (i := 14) (by kernel_rfl) rfl rfl (fun K hK => ?_)
    refine wp_callf rfl ent10 (count_ok (a1 &&& b1) (a2 &&& b2) p (and_lt la1.out) (and_lt la2.out) HP.out _) rfl (fun v w1 hr => ?_)
    obtain ⟨rfl, hb1⟩ := hr
    replace H := H.grow hb1
    clear hb1
    clear HS
    have HS := H
    refine hK.out _ _ HS ?_
    clear hK K
    simp only [Act.put, List.setIfInBounds_toArray, List.set_cons_zero, List.set_cons_succ]
    refine rg_one (i := 16) (by kernel_rfl) rfl rfl (fun K hK => ?_)
    refine wp_callf rfl ent10 (count_ok (mn a1 b1) (mn a2 b2) q (mn_lt la1.out) (mn_lt la2.out) HQ.out _) rfl (fun v w1 hr => ?_)
    obtain ⟨rfl, hb1⟩ := hr
    replace H := H.grow hb1
    clear hb1
    clear HS
    have HS := H
    refine hK.out _ _ HS ?_
    clear hK K
    simp only [Act.put, List.setIfInBounds_toArray, List.set_cons_zero, List.set_cons_succ]
    refine rg_take (i := 17) rfl (by kernel_rfl) (by kernel_rfl) (by kernel_rfl) (Yld.of rfl (fun W _ => by go_simp; first | done | with_reducible rfl)) HS ?_; simp only [Act.put, List.setIfInBounds_toArray, List.set_cons_zero, List.set_cons_succ]
    refine rg_one (i := 19) (by kernel_rfl) rfl rfl (fun K hK => ?_)
    refine wp_callf rfl ent10 (count_ok a1 a2 r la1.out la2.out HR.out _) rfl (fun v w1 hr => ?_)
    obtain ⟨rfl, hb1⟩ := hr
    replace H := H.grow hb1
    clear hb1
    clear HS
    have HS := H
    refine hK.out _ _ HS ?_
    clear hK K
    simp only [Act.put, List.setIfInBounds_toArray, List.set_cons_zero, List.set_cons_succ]
    refine rg_take (i := 20) rfl (by kernel_rfl) (by kernel_rfl) (by kernel_rfl) (Yld.of rfl (fun W _ => by go_simp; first | done | with_reducible rfl)) HS ?_; simp only [Act.put, List.setIfInBounds_toArray, List.set_cons_zero, List.set_cons_succ]
    refine rg_take (i := 21) rfl (by kernel_rfl) (by kernel_rfl) (by kernel_rfl) (Yld.pick rfl rfl rfl) HS ?_; simp only [Act.put, eval_tmp, eval_const, getD_lit0, getD_lits, if_true, if_false, List.setIfInBounds_toArray, List.set_cons_zero, List.set_cons_succ]
    refine rg_take (i := 22) rfl (by kernel_rfl) (by kernel_rfl) (by kernel_rfl) (Yld.move rfl rfl) HS ?_; simp only [Act.put, eval_tmp, eval_const, getD_lit0, getD_lits, if_true, if_false, List.setIfInBounds_toArray, List.set_cons_zero, List.set_cons_succ]
    refine rg_one (i := 23) (by kernel_rfl) rfl rfl (fun K hK => ?_)
    refine wp_callf rfl ent9 (awake_ok _) rfl (fun v w1 hr => ?_)
    obtain ⟨rfl, hb1⟩ := hr
    replace H := H.grow hb1
    clear hb1
    clear HS
    have HS := H
    refine hK.out _ _ HS ?_
    clear hK K
    simp only [Act.put, List.setIfInBounds_toArray, List.set_cons_zero, List.set_cons_succ]
    refine rg_take (i := 24) rfl (by kernel_rfl) (by kernel_rfl) (by kernel_rfl) (Yld.pick rfl rfl rfl) HS ?_; simp only [Act.put, eval_tmp, eval_const, getD_lit0, getD_lits, if_true, if_false, List.setIfInBounds_toArray, List.set_cons_zero, List.set_cons_succ]
    refine rg_take (i := 25) rfl (by kernel_rfl) (by kernel_rfl) (by kernel_rfl) (Yld.assign rfl rfl) HS ?_; simp only [Act.put, eval_tmp, eval_const, getD_lit0, getD_lits, if_true, if_false, List.setIfInBounds_toArray, List.set_cons_zero, List.set_cons_succ]
    refine rg_done (by kernel_rfl) ?_
    go_wp2
    go_ret
    exact ⟨_, rfl, rfl, H.below⟩
set_option maxRecDepth 100000 in
theorem maskFlips_lifted (os : Os) (started : os.Started) (H : Type) (enc : TypeId × Value → H) :
    ReturnsInHanded {} Try.checked os 6 .any (Rows.maskFlipsSpec.pre6 enc Try.prog Try.f6 Rows.maskFlipsRow.domain false) (Rows.maskFlipsSpec.post enc Try.prog Try.f6 false true false false) := by
  refine law_lifted (C := Try.checked) own started (by kernel_rfl) Try.func6 laidOut rfl Try.underlying4 rfl (by kernel_rfl) (fun ds hd => ?_)
    (ChangeSpec.witness6 (enc := enc) (C := Try.checked) false ⟨#[], #[.agg #[.int .u64 0, .int .u64 0], .agg #[.int .u64 0, .int .u64 0], .int .u8 0], []⟩ 8 (by kernel_rfl) (by kernel_rfl) (by kernel_rfl) (by kernel_rfl)) ?_
  · match ds, hd with
    | [d0, d1, d2], _ => exact ⟨rfl, rfl, rfl⟩
  intro W base args ds p hval hA
  rw [Try.params6] at hA hval
  obtain ⟨v0, vs0, d0, ds0, p0, q0, hargs, rfl, rfl, h0, r0⟩ := trodAll_cons hA
  obtain ⟨v1, vs1, d1, ds1, p1, q1, rfl, rfl, rfl, h1, r1⟩ := trodAll_cons r0
  obtain ⟨v2, vs2, d2, ds2, p2, q2, rfl, rfl, rfl, h2, r2⟩ := trodAll_cons r1
  obtain ⟨rfl, rfl, rfl⟩ := trodAll_nil r2
  obtain rfl : args = #[v0, v1, v2] := by cases args; simp_all
  obtain ⟨a1, a2, rfl, a1l, a2l⟩ := open_M (hval 0 24 v0 rfl rfl) h0
  obtain ⟨b1, b2, rfl, b1l, b2l⟩ := open_M (hval 1 24 v1 rfl rfl) h1
  obtain ⟨nq, rfl, _, _, nqw⟩ := open_int Try.underlying5 (hval 2 5 v2 rfl rfl) h2
  exact by obtain ⟨n, rfl, hn⟩ := nat_u8 nqw; exact law_flips a1 a2 b1 b2 n a1l a2l b1l b2l hn W
theorem maskFlips_over : Rows.maskFlipsRow.holds Try.pinned (OpenSpec.ofChange Rows.maskFlipsSpec) :=
  OpenClaim.holds_of_wide 6 Try.f6 rfl rfl rfl rfl rfl rfl rfl ⟨rfl, rfl, rfl, rfl, rfl⟩ rfl rfl rfl rfl rfl (by kernel_rfl) Try.func6 (by kernel_rfl)
    (of_decide_eq_true (by kernel_rfl)) (by unfold Func.isWrapper; first | (rw [if_pos (by decide +kernel)]; kernel_rfl) | (rw [if_neg (by decide +kernel)]; exact ⟨rfl, rfl⟩))
    (fun os started H enc _ => maskFlips_lifted os started H enc)
theorem maskFlips_holds : Rows.MaskFlipsSaid := maskFlips_over
#print axioms maskFlips_holds
end Go.Proofs.Ytcgogcolfbpcfaa
