/- The statement RumorParts of layer 16 (rumor), proved; no condition: the law's walk, and the row round it. -/
import Derived.Test.YtmgamjlebcnmiaaRumor4
import Derived.Test.YtmgamjlebcnmiaaRumor6
namespace Go.Proofs.Ytmgamjlebcnmiaa
open Go.ChangeShapes Go.WideShapes Go.ChangeAt Go.RowKit Go.Deep
set_option linter.unusedVariables false
set_option linter.unusedSimpArgs false
attribute [local go_sem] index_R equalIn_R eqg_R eqR_self
theorem withR_list (r : Nat → Int) (h0 : ∀ i, i < 16 → 0 ≤ r i) : ∀ k, k ≤ 16 → ∀ i, withR (fun _ => 0) (listR r k) i = if i < k then r i else 0
  | 0, _, i => by simp [listR, withR]
  | k + 1, hk, i => by
    have ih := withR_list r h0 k (by omega)
    have hz := h0 k (by omega)
    rw [listR_succ]
    by_cases hp : 0 < r k
    · rw [if_pos hp]
      have hm : may (k : Int) (r k) = true := by
        have : (k : Int) < 16 := by omega
        have h1 : r k ≠ 0 := by omega
        simp [may, this, h1]
      have : withR (fun _ => 0) (listR r k ++ [((k : Int), r k)]) = stepR (withR (fun _ => 0) (listR r k)) ((k : Int), r k) := by simp [withR]
      rw [this]
      unfold stepR
      simp only [hm, if_true, Int.toNat_natCast]
      unfold upd mx
      rw [ih k, if_neg (Nat.lt_irrefl k), ih i]
      by_cases hi : i = k
      · subst hi; simp [hp]
      · rw [if_neg hi]
        by_cases h2 : i < k
        · rw [if_pos h2, if_pos (by omega)]
        · rw [if_neg h2, if_neg (by omega)]
    · rw [if_neg hp, List.append_nil, ih i]
      by_cases h2 : i < k
      · rw [if_pos h2, if_pos (by omega)]
      · rw [if_neg h2]
        by_cases h3 : i = k
        · subst h3; rw [if_pos (by omega)]; omega
        · rw [if_neg (by omega)]
theorem listR_nn (r : Nat → Int) : nn (listR r 16) := by
  intro p hp
  unfold listR at hp
  obtain ⟨i, hi, h⟩ := List.mem_flatMap.1 hp
  split at h
  · simp at h; subst h; simp; omega
  · simp at h
theorem with_list (r : Nat → Int) (h0 : ∀ i, i < 16 → 0 ≤ r i) (v : Value) (w : World) (hs : Sl w 2 (listR r 16).length v (elE (listR r 16))) :
    Calls Try.prog 8 #[.agg (R fun _ => 0), v] w (Ret fun v w' => v = .agg (R r) ∧ Below w.heap.size w w') := by
  have := with_ok (fun _ => 0) v (listR r 16) (listR_nn r) w hs
  rw [show R (withR (fun _ => 0) (listR r 16)) = R r from R_congr fun i hi => by rw [withR_list r h0 16 (by omega), if_pos hi]] at this
  exact this
set_option maxRecDepth 100000 in
set_option maxHeartbeats 1000000 in
theorem law_parts (r : Nat → Int) (h0 : ∀ i, i < 16 → 0 ≤ r i) (v : Value) (l : List (Int × Int)) (hl : nn l) (w : World) (hs : Sl w 2 l.length v (elE l)) :
    Calls Try.prog 6 #[.agg (R r), v] w (Ret fun v w' => v = .bool true ∧ Below w.heap.size w w') := by
  have H := St.init w
  have hs' := hs
  obtain ⟨ad, cp, rfl, hm, _⟩ := hs'
  unfold maxLen at hm
  have H0 := Lib.hid h0
  clear h0
  by_cases h60 : 60 < l.length
  · go_enter Try.func6, Try.ntmps6
    go_wp2_with (first | (go_at_call 7; refine (awake_ok _).mono ?_; rintro e w1 ⟨v, rfl, hr⟩; obtain ⟨rfl, hb1⟩ := hr; replace H := H.grow hb1; clear hb1) | (with_reducible refine wpl rfl (Stp.box 2 rfl rfl rfl H ?_); clear H; intro g2 w1 H; simp only [Act.put, List.setIfInBounds_toArray, List.set_cons_zero, List.set_cons_succ]; simp only [eval_tmp, eval_const, getD_lit0, getD_lits, cells_agg, cells_int, cells_bool, cells_string, cells_pointer, cells_slice, cells_map, List.setIfInBounds_toArray, List.set_cons_zero, List.set_cons_succ] at H))
    go_ret
    exact ⟨_, rfl, rfl, H.below⟩
  · go_enter Try.func6, Try.ntmps6
    go_wp2_with (first | (with_reducible refine wpl rfl (Stp.box 2 rfl rfl rfl H ?_); clear H; intro g2 w1 H; simp only [Act.put, List.setIfInBounds_toArray, List.set_cons_zero, List.set_cons_succ]; simp only [eval_tmp, eval_const, getD_lit0, getD_lits, cells_agg, cells_int, cells_bool, cells_string, cells_pointer, cells_slice, cells_map, List.setIfInBounds_toArray, List.set_cons_zero, List.set_cons_succ] at H))
    refine rg_begin 35 rfl (S := fun W => St _ _ W _) (by kernel_rfl) H.drew ?_
    replace H := H.drew
    have HS := H
    first | (refine rg_take (i := 0) rfl (by kernel_rfl) (by kernel_rfl) (by kernel_rfl) (Yld.ldr rfl rfl agg24 size24 rfl (by repeat (first | exact List.mem_cons_self | apply List.mem_cons_of_mem)) (by first | exact R_size _ | rfl | (simp; done) | assumption)) (H.sub (by repeat (first | exact List.Sublist.refl _ | apply List.Sublist.cons))) ?_; simp only [Act.put, List.setIfInBounds_toArray, List.set_cons_zero, List.set_cons_succ]) | (refine rg_take (i := 0) rfl (by kernel_rfl) (by kernel_rfl) (by kernel_rfl) (Yld.ldor rfl rfl agg24 size24 rfl (by assumption) (by first | exact R_size _ | rfl | (simp; done) | assumption) (by assumption)) (H.sub (by repeat (first | exact List.Sublist.refl _ | apply List.Sublist.cons))) ?_; simp only [Act.put, List.setIfInBounds_toArray, List.set_cons_zero, List.set_cons_succ])
    refine rg_take (i := 1) rfl (by kernel_rfl) (by kernel_rfl) (by kernel_rfl) (Yld.move rfl rfl) (H.sub (by repeat (first | exact List.Sublist.refl _ | apply List.Sublist.cons))) ?_; simp only [Act.put, eval_tmp, eval_const, getD_lit0, getD_lits, if_true, if_false, List.setIfInBounds_toArray, List.set_cons_zero, List.set_cons_succ]
    first | (refine rg_take (i := 3) rfl (by kernel_rfl) (by kernel_rfl) (by kernel_rfl) (Yld.ldr rfl rfl agg24 size24 rfl (by repeat (first | exact List.mem_cons_self | apply List.mem_cons_of_mem)) (by first | exact R_size _ | rfl | (simp; done) | assumption)) (H.sub (by repeat (first | exact List.Sublist.refl _ | apply List.Sublist.cons))) ?_; simp only [Act.put, List.setIfInBounds_toArray, List.set_cons_zero, List.set_cons_succ]) | (refine rg_take (i := 3) rfl (by kernel_rfl) (by kernel_rfl) (by kernel_rfl) (Yld.ldor rfl rfl agg24 size24 rfl (by assumption) (by first | exact R_size _ | rfl | (simp; done) | assumption) (by assumption)) (H.sub (by repeat (first | exact List.Sublist.refl _ | apply List.Sublist.cons))) ?_; simp only [Act.put, List.setIfInBounds_toArray, List.set_cons_zero, List.set_cons_succ])
    refine rg_take (i := 4) rfl (by kernel_rfl) (by kernel_rfl) (by kernel_rfl) (Yld.move rfl rfl) (H.sub (by repeat (first | exact List.Sublist.refl _ | apply List.Sublist.cons))) ?_; simp only [Act.put, eval_tmp, eval_const, getD_lit0, getD_lits, if_true, if_false, List.setIfInBounds_toArray, List.set_cons_zero, List.set_cons_succ]
    refine rg_one (i := 2) (by kernel_rfl) rfl rfl (fun K hK => ?_)
    refine wp_callf rfl ent16 (within_ok r _ l hl (by omega) _ (hs.grow H.below)) rfl (fun v w1 hr => ?_)
    obtain ⟨⟨a1, c1, n1, rfl, ho⟩, hb1⟩ := hr
    replace H := H.new hb1 (slc_sound ho) (fun g hg => (ho.lt g hg).1)
    clear hb1 ho
    clear HS
    have HS := H
    refine hK.out _ _ (H.sub (by repeat (first | exact List.Sublist.refl _ | apply List.Sublist.cons))) ?_
    clear hK K
    simp only [Act.put, List.setIfInBounds_toArray, List.set_cons_zero, List.set_cons_succ]
    refine rg_one (i := 5) (by kernel_rfl) rfl rfl (fun K hK => ?_)
    refine wp_callf rfl ent17 (part_true r _ l hl (by omega) _ (hs.grow H.below)) rfl (fun v w1 hr => ?_)
    obtain ⟨⟨a2, c2, n2, rfl, ho⟩, hb1⟩ := hr
    replace H := H.new hb1 (slc_sound ho) (fun g hg => (ho.lt g hg).1)
    clear hb1 ho
    clear HS
    have HS := H
    refine hK.out _ _ (H.sub (by repeat (first | exact List.Sublist.refl _ | apply List.Sublist.cons))) ?_
    clear hK K
    simp only [Act.put, List.setIfInBounds_toArray, List.set_cons_zero, List.set_cons_succ]
    refine rg_one (i := 6) (by kernel_rfl) rfl rfl (fun K hK => ?_)
    refine wp_callf rfl ent15 (psame_ok (.slice a1 n1 c1) (.slice a2 n2 c2) (partR r l true) _ (pown_sl (H.getSlc (by repeat (first | exact List.mem_cons_self | apply List.mem_cons_of_mem))) (Nat.le_trans (partR_len r l _) (by omega))) (pown_sl (H.getSlc (by repeat (first | exact List.mem_cons_self | apply List.mem_cons_of_mem))) (Nat.le_trans (partR_len r l _) (by omega)))) rfl (fun v w1 hr => ?_)
    obtain ⟨rfl, hb1⟩ := hr
    replace H := H.grow hb1
    clear hb1
    clear HS
    have HS := H
    refine hK.out _ _ (H.sub (by repeat (first | exact List.Sublist.refl _ | apply List.Sublist.cons))) ?_
    clear hK K
    simp only [Act.put, List.setIfInBounds_toArray, List.set_cons_zero, List.set_cons_succ]
    refine rg_take (i := 7) rfl (by kernel_rfl) (by kernel_rfl) (by kernel_rfl) (Yld.move rfl rfl) (H.sub (by repeat (first | exact List.Sublist.refl _ | apply List.Sublist.cons))) ?_; simp only [Act.put, eval_tmp, eval_const, getD_lit0, getD_lits, if_true, if_false, List.setIfInBounds_toArray, List.set_cons_zero, List.set_cons_succ]
    first | (refine rg_take (i := 8) rfl (by kernel_rfl) (by kernel_rfl) (by kernel_rfl) (Yld.ldr rfl rfl agg24 size24 rfl (by repeat (first | exact List.mem_cons_self | apply List.mem_cons_of_mem)) (by first | exact R_size _ | rfl | (simp; done) | assumption)) (H.sub (by repeat (first | exact List.Sublist.refl _ | apply List.Sublist.cons))) ?_; simp only [Act.put, List.setIfInBounds_toArray, List.set_cons_zero, List.set_cons_succ]) | (refine rg_take (i := 8) rfl (by kernel_rfl) (by kernel_rfl) (by kernel_rfl) (Yld.ldor rfl rfl agg24 size24 rfl (by assumption) (by first | exact R_size _ | rfl | (simp; done) | assumption) (by assumption)) (H.sub (by repeat (first | exact List.Sublist.refl _ | apply List.Sublist.cons))) ?_; simp only [Act.put, List.setIfInBounds_toArray, List.set_cons_zero, List.set_cons_succ])
    refine rg_take (i := 9) rfl (by kernel_rfl) (by kernel_rfl) (by kernel_rfl) (Yld.move rfl rfl) (H.sub (by repeat (first | exact List.Sublist.refl _ | apply List.Sublist.cons))) ?_; simp only [Act.put, eval_tmp, eval_const, getD_lit0, getD_lits, if_true, if_false, List.setIfInBounds_toArray, List.set_cons_zero, List.set_cons_succ]
    first | (refine rg_take (i := 11) rfl (by kernel_rfl) (by kernel_rfl) (by kernel_rfl) (Yld.ldr rfl rfl agg24 size24 rfl (by repeat (first | exact List.mem_cons_self | apply List.mem_cons_of_mem)) (by first | exact R_size _ | rfl | (simp; done) | assumption)) (H.sub (by repeat (first | exact List.Sublist.refl _ | apply List.Sublist.cons))) ?_; simp only [Act.put, List.setIfInBounds_toArray, List.set_cons_zero, List.set_cons_succ]) | (refine rg_take (i := 11) rfl (by kernel_rfl) (by kernel_rfl) (by kernel_rfl) (Yld.ldor rfl rfl agg24 size24 rfl (by assumption) (by first | exact R_size _ | rfl | (simp; done) | assumption) (by assumption)) (H.sub (by repeat (first | exact List.Sublist.refl _ | apply List.Sublist.cons))) ?_; simp only [Act.put, List.setIfInBounds_toArray, List.set_cons_zero, List.set_cons_succ])
    refine rg_take (i := 12) rfl (by kernel_rfl) (by kernel_rfl) (by kernel_rfl) (Yld.move rfl rfl) (H.sub (by repeat (first | exact List.Sublist.refl _ | apply List.Sublist.cons))) ?_; simp only [Act.put, eval_tmp, eval_const, getD_lit0, getD_lits, if_true, if_false, List.setIfInBounds_toArray, List.set_cons_zero, List.set_cons_succ]
    refine rg_one (i := 10) (by kernel_rfl) rfl rfl (fun K hK => ?_)
    refine wp_callf rfl ent18 (sound_ok r _ l hl (by omega) _ (hs.grow H.below)) rfl (fun v w1 hr => ?_)
    obtain ⟨⟨a3, c3, n3, rfl, ho⟩, hb1⟩ := hr
    replace H := H.new hb1 (slc_sound ho) (fun g hg => (ho.lt g hg).1)
    clear hb1 ho
    clear HS
    have HS := H
    refine hK.out _ _ (H.sub (by repeat (first | exact List.Sublist.refl _ | apply List.Sublist.cons))) ?_
    clear hK K
    simp only [Act.put, List.setIfInBounds_toArray, List.set_cons_zero, List.set_cons_succ]
    refine rg_one (i := 13) (by kernel_rfl) rfl rfl (fun K hK => ?_)
    refine wp_callf rfl ent17 (part_false r _ l hl (by omega) _ (hs.grow H.below)) rfl (fun v w1 hr => ?_)
    obtain ⟨⟨a4, c4, n4, rfl, ho⟩, hb1⟩ := hr
    replace H := H.new hb1 (slc_sound ho) (fun g hg => (ho.lt g hg).1)
    clear hb1 ho
    clear HS
    have HS := H
    refine hK.out _ _ (H.sub (by repeat (first | exact List.Sublist.refl _ | apply List.Sublist.cons))) ?_
    clear hK K
    simp only [Act.put, List.setIfInBounds_toArray, List.set_cons_zero, List.set_cons_succ]
    refine rg_one (i := 14) (by kernel_rfl) rfl rfl (fun K hK => ?_)
    refine wp_callf rfl ent15 (psame_ok (.slice a3 n3 c3) (.slice a4 n4 c4) (partR r l false) _ (pown_sl (H.getSlc (by repeat (first | exact List.mem_cons_self | apply List.mem_cons_of_mem))) (Nat.le_trans (partR_len r l _) (by omega))) (pown_sl (H.getSlc (by repeat (first | exact List.mem_cons_self | apply List.mem_cons_of_mem))) (Nat.le_trans (partR_len r l _) (by omega)))) rfl (fun v w1 hr => ?_)
    obtain ⟨rfl, hb1⟩ := hr
    replace H := H.grow hb1
    clear hb1
    clear HS
    have HS := H
    refine hK.out _ _ (H.sub (by repeat (first | exact List.Sublist.refl _ | apply List.Sublist.cons))) ?_
    clear hK K
    simp only [Act.put, List.setIfInBounds_toArray, List.set_cons_zero, List.set_cons_succ]
    refine rg_take (i := 15) rfl (by kernel_rfl) (by kernel_rfl) (by kernel_rfl) (Yld.pick rfl rfl rfl) (H.sub (by repeat (first | exact List.Sublist.refl _ | apply List.Sublist.cons))) ?_; simp only [Act.put, eval_tmp, eval_const, getD_lit0, getD_lits, if_true, if_false, List.setIfInBounds_toArray, List.set_cons_zero, List.set_cons_succ]
    refine rg_take (i := 16) rfl (by kernel_rfl) (by kernel_rfl) (by kernel_rfl) (Yld.move rfl rfl) (H.sub (by repeat (first | exact List.Sublist.refl _ | apply List.Sublist.cons))) ?_; simp only [Act.put, eval_tmp, eval_const, getD_lit0, getD_lits, if_true, if_false, List.setIfInBounds_toArray, List.set_cons_zero, List.set_cons_succ]
    first | (refine rg_take (i := 17) rfl (by kernel_rfl) (by kernel_rfl) (by kernel_rfl) (Yld.ldr rfl rfl agg24 size24 rfl (by repeat (first | exact List.mem_cons_self | apply List.mem_cons_of_mem)) (by first | exact R_size _ | rfl | (simp; done) | assumption)) (H.sub (by repeat (first | exact List.Sublist.refl _ | apply List.Sublist.cons))) ?_; simp only [Act.put, List.setIfInBounds_toArray, List.set_cons_zero, List.set_cons_succ]) | (refine rg_take (i := 17) rfl (by kernel_rfl) (by kernel_rfl) (by kernel_rfl) (Yld.ldor rfl rfl agg24 size24 rfl (by assumption) (by first | exact R_size _ | rfl | (simp; done) | assumption) (by assumption)) (H.sub (by repeat (first | exact List.Sublist.refl _ | apply List.Sublist.cons))) ?_; simp only [Act.put, List.setIfInBounds_toArray, List.set_cons_zero, List.set_cons_succ])
    first | (refine rg_take (i := 19) rfl (by kernel_rfl) (by kernel_rfl) (by kernel_rfl) (Yld.ldr rfl rfl agg24 size24 rfl (by repeat (first | exact List.mem_cons_self | apply List.mem_cons_of_mem)) (by first | exact R_size _ | rfl | (simp; done) | assumption)) (H.sub (by repeat (first | exact List.Sublist.refl _ | apply List.Sublist.cons))) ?_; simp only [Act.put, List.setIfInBounds_toArray, List.set_cons_zero, List.set_cons_succ]) | (refine rg_take (i := 19) rfl (by kernel_rfl) (by kernel_rfl) (by kernel_rfl) (Yld.ldor rfl rfl agg24 size24 rfl (by assumption) (by first | exact R_size _ | rfl | (simp; done) | assumption) (by assumption)) (H.sub (by repeat (first | exact List.Sublist.refl _ | apply List.Sublist.cons))) ?_; simp only [Act.put, List.setIfInBounds_toArray, List.set_cons_zero, List.set_cons_succ])
    refine rg_one (i := 18) (by kernel_rfl) rfl rfl (fun K hK => ?_)
    refine wp_callf rfl ent19 (list_ok r _) rfl (fun v w1 hr => ?_)
    obtain ⟨⟨a5, c5, n5, rfl, ho⟩, hb1⟩ := hr
    replace H := H.new hb1 (slc_sound ho) (fun g hg => (ho.lt g hg).1)
    clear hb1 ho
    clear HS
    have HS := H
    refine hK.out _ _ (H.sub (by repeat (first | exact List.Sublist.refl _ | apply List.Sublist.cons))) ?_
    clear hK K
    simp only [Act.put, List.setIfInBounds_toArray, List.set_cons_zero, List.set_cons_succ]
    refine rg_one (i := 20) (by kernel_rfl) rfl rfl (fun K hK => ?_)
    refine wp_callf rfl ent20 (rlist_ok r _) rfl (fun v w1 hr => ?_)
    obtain ⟨⟨a6, c6, n6, rfl, ho⟩, hb1⟩ := hr
    replace H := H.new hb1 (slc_sound ho) (fun g hg => (ho.lt g hg).1)
    clear hb1 ho
    clear HS
    have HS := H
    refine hK.out _ _ (H.sub (by repeat (first | exact List.Sublist.refl _ | apply List.Sublist.cons))) ?_
    clear hK K
    simp only [Act.put, List.setIfInBounds_toArray, List.set_cons_zero, List.set_cons_succ]
    refine rg_one (i := 21) (by kernel_rfl) rfl rfl (fun K hK => ?_)
    refine wp_callf rfl ent15 (psame_ok (.slice a5 n5 c5) (.slice a6 n6 c6) (listR r 16) _ (pown_sl (H.getSlc (by repeat (first | exact List.mem_cons_self | apply List.mem_cons_of_mem))) (Nat.le_trans (listR_len r 16) (by omega))) (pown_sl (H.getSlc (by repeat (first | exact List.mem_cons_self | apply List.mem_cons_of_mem))) (Nat.le_trans (listR_len r 16) (by omega)))) rfl (fun v w1 hr => ?_)
    obtain ⟨rfl, hb1⟩ := hr
    replace H := H.grow hb1
    clear hb1
    clear HS
    have HS := H
    refine hK.out _ _ (H.sub (by repeat (first | exact List.Sublist.refl _ | apply List.Sublist.cons))) ?_
    clear hK K
    simp only [Act.put, List.setIfInBounds_toArray, List.set_cons_zero, List.set_cons_succ]
    refine rg_take (i := 22) rfl (by kernel_rfl) (by kernel_rfl) (by kernel_rfl) (Yld.pick rfl rfl rfl) (H.sub (by repeat (first | exact List.Sublist.refl _ | apply List.Sublist.cons))) ?_; simp only [Act.put, eval_tmp, eval_const, getD_lit0, getD_lits, if_true, if_false, List.setIfInBounds_toArray, List.set_cons_zero, List.set_cons_succ]
    refine rg_take (i := 23) rfl (by kernel_rfl) (by kernel_rfl) (by kernel_rfl) (Yld.move rfl rfl) (H.sub (by repeat (first | exact List.Sublist.refl _ | apply List.Sublist.cons))) ?_; simp only [Act.put, eval_tmp, eval_const, getD_lit0, getD_lits, if_true, if_false, List.setIfInBounds_toArray, List.set_cons_zero, List.set_cons_succ]
    refine rg_take (i := 24) rfl (by kernel_rfl) (by kernel_rfl) (by kernel_rfl) (Yld.of rfl (fun W _ => by go_simp; first | done | with_reducible rfl)) (H.sub (by repeat (first | exact List.Sublist.refl _ | apply List.Sublist.cons))) ?_; simp only [Act.put, List.setIfInBounds_toArray, List.set_cons_zero, List.set_cons_succ]
    first | (refine rg_take (i := 25) rfl (by kernel_rfl) (by kernel_rfl) (by kernel_rfl) (Yld.ldr rfl rfl agg24 size24 rfl (by repeat (first | exact List.mem_cons_self | apply List.mem_cons_of_mem)) (by first | exact R_size _ | rfl | (simp; done) | assumption)) (H.sub (by repeat (first | exact List.Sublist.refl _ | apply List.Sublist.cons))) ?_; simp only [Act.put, List.setIfInBounds_toArray, List.set_cons_zero, List.set_cons_succ]) | (refine rg_take (i := 25) rfl (by kernel_rfl) (by kernel_rfl) (by kernel_rfl) (Yld.ldor rfl rfl agg24 size24 rfl (by assumption) (by first | exact R_size _ | rfl | (simp; done) | assumption) (by assumption)) (H.sub (by repeat (first | exact List.Sublist.refl _ | apply List.Sublist.cons))) ?_; simp only [Act.put, List.setIfInBounds_toArray, List.set_cons_zero, List.set_cons_succ])
    first | (refine rg_take (i := 28) rfl (by kernel_rfl) (by kernel_rfl) (by kernel_rfl) (Yld.ldr rfl rfl agg24 size24 rfl (by repeat (first | exact List.mem_cons_self | apply List.mem_cons_of_mem)) (by first | exact R_size _ | rfl | (simp; done) | assumption)) (H.sub (by repeat (first | exact List.Sublist.refl _ | apply List.Sublist.cons))) ?_; simp only [Act.put, List.setIfInBounds_toArray, List.set_cons_zero, List.set_cons_succ]) | (refine rg_take (i := 28) rfl (by kernel_rfl) (by kernel_rfl) (by kernel_rfl) (Yld.ldor rfl rfl agg24 size24 rfl (by assumption) (by first | exact R_size _ | rfl | (simp; done) | assumption) (by assumption)) (H.sub (by repeat (first | exact List.Sublist.refl _ | apply List.Sublist.cons))) ?_; simp only [Act.put, List.setIfInBounds_toArray, List.set_cons_zero, List.set_cons_succ])
    refine rg_one (i := 26) (by kernel_rfl) rfl rfl (fun K hK => ?_)
    refine wp_callf rfl ent19 (list_ok r _) rfl (fun v w1 hr => ?_)
    obtain ⟨⟨a7, c7, n7, rfl, ho⟩, hb1⟩ := hr
    replace H := H.new hb1 (slc_sound ho) (fun g hg => (ho.lt g hg).1)
    clear hb1 ho
    clear HS
    have HS := H
    refine hK.out _ _ (H.sub (by repeat (first | exact List.Sublist.refl _ | apply List.Sublist.cons))) ?_
    clear hK K
    simp only [Act.put, List.setIfInBounds_toArray, List.set_cons_zero, List.set_cons_succ]
    refine rg_one (i := 27) (by kernel_rfl) rfl rfl (fun K hK => ?_)
    refine wp_callf rfl ent8 (with_list r H0.out (.slice a7 n7 c7) _ (pown_sl (H.getSlc (by repeat (first | exact List.mem_cons_self | apply List.mem_cons_of_mem))) (Nat.le_trans (listR_len r 16) (by omega)))) rfl (fun v w1 hr => ?_)
    obtain ⟨rfl, hb1⟩ := hr
    replace H := H.grow hb1
    clear hb1
    clear HS
    have HS := H
    refine hK.out _ _ (H.sub (by repeat (first | exact List.Sublist.refl _ | apply List.Sublist.cons))) ?_
    clear hK K
    simp only [Act.put, List.setIfInBounds_toArray, List.set_cons_zero, List.set_cons_succ]
    refine rg_take (i := 29) rfl (by kernel_rfl) (by kernel_rfl) (by kernel_rfl) (Yld.of rfl (fun W _ => by go_simp; first | done | with_reducible rfl)) (H.sub (by repeat (first | exact List.Sublist.refl _ | apply List.Sublist.cons))) ?_; simp only [Act.put, List.setIfInBounds_toArray, List.set_cons_zero, List.set_cons_succ]
    refine rg_take (i := 30) rfl (by kernel_rfl) (by kernel_rfl) (by kernel_rfl) (Yld.pick rfl rfl rfl) (H.sub (by repeat (first | exact List.Sublist.refl _ | apply List.Sublist.cons))) ?_; simp only [Act.put, eval_tmp, eval_const, getD_lit0, getD_lits, if_true, if_false, List.setIfInBounds_toArray, List.set_cons_zero, List.set_cons_succ]
    refine rg_take (i := 31) rfl (by kernel_rfl) (by kernel_rfl) (by kernel_rfl) (Yld.move rfl rfl) (H.sub (by repeat (first | exact List.Sublist.refl _ | apply List.Sublist.cons))) ?_; simp only [Act.put, eval_tmp, eval_const, getD_lit0, getD_lits, if_true, if_false, List.setIfInBounds_toArray, List.set_cons_zero, List.set_cons_succ]
    refine rg_one (i := 32) (by kernel_rfl) rfl rfl (fun K hK => ?_)
    refine wp_callf rfl ent7 (awake_ok _) rfl (fun v w1 hr => ?_)
    obtain ⟨rfl, hb1⟩ := hr
    replace H := H.grow hb1
    clear hb1
    clear HS
    have HS := H
    refine hK.out _ _ (H.sub (by repeat (first | exact List.Sublist.refl _ | apply List.Sublist.cons))) ?_
    clear hK K
    simp only [Act.put, List.setIfInBounds_toArray, List.set_cons_zero, List.set_cons_succ]
    refine rg_take (i := 33) rfl (by kernel_rfl) (by kernel_rfl) (by kernel_rfl) (Yld.pick rfl rfl rfl) (H.sub (by repeat (first | exact List.Sublist.refl _ | apply List.Sublist.cons))) ?_; simp only [Act.put, eval_tmp, eval_const, getD_lit0, getD_lits, if_true, if_false, List.setIfInBounds_toArray, List.set_cons_zero, List.set_cons_succ]
    refine rg_take (i := 34) rfl (by kernel_rfl) (by kernel_rfl) (by kernel_rfl) (Yld.assign rfl rfl) (H.sub (by repeat (first | exact List.Sublist.refl _ | apply List.Sublist.cons))) ?_; simp only [Act.put, eval_tmp, eval_const, getD_lit0, getD_lits, if_true, if_false, List.setIfInBounds_toArray, List.set_cons_zero, List.set_cons_succ]
    refine rg_done (by kernel_rfl) ?_
    go_wp2
    go_ret
    exact ⟨_, rfl, rfl, H.below⟩
set_option maxRecDepth 100000 in
theorem rumorParts_lifted (os : Os) (started : os.Started) (H : Type) (enc : TypeId × Value → H) :
    ReturnsInHanded {} Try.checked os 6 .any (Rows.rumorPartsSpec.pre6 enc Try.prog Try.f6 Rows.rumorPartsRow.domain false) (Rows.rumorPartsSpec.post enc Try.prog Try.f6 false true false false) := by
  refine law_lifted (C := Try.checked) own started (by kernel_rfl) Try.func6 laidOut rfl Try.underlying4 rfl (by kernel_rfl) (fun ds hd => ?_)
    (ChangeSpec.witness6 (enc := enc) (C := Try.checked) false ⟨#[], #[.agg (R fun _ => 0), .slice none 0 0], []⟩ 8 (by kernel_rfl) (by kernel_rfl) (by kernel_rfl) (by kernel_rfl)) ?_
  · match ds, hd with
    | [d0, d1], _ => exact ⟨rfl, rfl, rfl⟩
  intro W base args ds p hval hA
  rw [Try.params6] at hA hval
  obtain ⟨v0, vs0, d0, ds0, p0, q0, hargs, rfl, rfl, h0, r0⟩ := trodAll_cons hA
  obtain ⟨v1, vs1, d1, ds1, p1, q1, rfl, rfl, rfl, h1, r1⟩ := trodAll_cons r0
  obtain ⟨rfl, rfl, rfl⟩ := trodAll_nil r1
  obtain rfl : args = #[v0, v1] := by cases args; simp_all
  obtain ⟨r, rfl, hpos⟩ := open_R (hval 0 24 v0 rfl rfl) h0
  obtain ⟨l, hl, hs⟩ := open_pids (hval 1 25 v1 rfl rfl) h1
  exact law_parts r hpos _ l hl W hs
theorem rumorParts_over : Rows.rumorPartsRow.holds Try.pinned (OpenSpec.ofChange Rows.rumorPartsSpec) :=
  OpenClaim.holds_of_wide 6 Try.f6 rfl rfl rfl rfl rfl rfl rfl ⟨rfl, rfl, rfl, rfl, rfl⟩ rfl rfl rfl rfl rfl (by kernel_rfl) Try.func6 (by kernel_rfl)
    (of_decide_eq_true (by kernel_rfl)) (by unfold Func.isWrapper; first | (rw [if_pos (by decide +kernel)]; kernel_rfl) | (rw [if_neg (by decide +kernel)]; exact ⟨rfl, rfl⟩))
    (fun os started H enc _ => rumorParts_lifted os started H enc)
theorem rumorParts_holds : Rows.RumorPartsSaid := rumorParts_over
#print axioms rumorParts_holds
end Go.Proofs.Ytmgamjlebcnmiaa
