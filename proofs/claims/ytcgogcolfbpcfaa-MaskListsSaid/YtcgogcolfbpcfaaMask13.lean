/- The statement MaskLists of layer 5 (mask), proved; no condition: the law's walk, and the row round it. -/
import Derived.Test.YtcgogcolfbpcfaaMask12
namespace Go.Proofs.Ytcgogcolfbpcfaa
open Go.ChangeShapes Go.WideShapes Go.ChangeAt Go.RowKit Go.Deep
set_option linter.unusedVariables false
set_option linter.unusedSimpArgs false
theorem inF_step (l : List Int) (k : Nat) (h : k < l.length) (j : Nat) : inF (l.take (k + 1)) j = (inF (l.take k) j || l.getD k 0 == (j : Int)) := by
  unfold inF
  rw [List.take_succ_eq_append_getElem h, List.any_append]
  simp [List.getD, h]
theorem iv_at {cs : Array Value} {l : List Nat} {n : Nat} (hn : l.length = n) (h : cs.toList.take n = iv l) (k : Nat) (hk : k < n) (x : Nat) (hx : l[k]'(by omega) = x) : cs[k]? = some (.int .i64 (x : Int)) := by
  have : (cs.toList.take n)[k]? = (iv l)[k]? := by rw [h]
  rw [List.getElem?_take, if_pos hk] at this
  rw [← Array.getElem?_toList, this, ← hx]
  simp [iv, hn, hk]
theorem iv_sl {w : World} {g n c : Nat} {cs : Array Value} {l : List Nat} (hn : l.length = n) (hm : n ≤ 1000000) (ht : cs.toList.take n = iv l) (h : rowAt w g = some cs) : Sl w 1 (l.map fun (x : Nat) => (x : Int)).length (.slice (some ⟨g, 0, none⟩) n c) (elI (l.map fun (x : Nat) => (x : Int))) := by
  rw [List.length_map, hn]
  refine Sl.of_row h (by unfold maxLen; omega) (fun i hi j hj => ?_)
  obtain rfl : j = 0 := by omega
  rw [Nat.mul_one, Nat.add_zero, iv_at hn ht i hi _ rfl]
  simp [elI, List.getD, hn, hi]
attribute [local irreducible] pop low mn hasM BA numF rkN setM ofM inF
attribute [local go_sem] equalIn_M eqg_M
set_option maxRecDepth 100000 in
set_option maxHeartbeats 4000000 in
theorem law_lists (v : Value) (l : List Int) (a b : Nat) (ha : a < 18446744073709551616) (hb : b < 18446744073709551616) (w : World) (hs : Sl w 1 l.length v (elI l)) :
    Calls Try.prog 5 #[v, .agg #[.int .u64 (a : Int), .int .u64 (b : Int)]] w (Ret fun v w' => v = .bool true ∧ Below w.heap.size w w') := by
  have H := St.init w
  have hs' := hs
  obtain ⟨ad, cap0, rfl, hm, hE⟩ := hs'
  unfold maxLen at hm
  have HE := Lib.hid hE
  clear hE
  obtain ⟨p, hp⟩ : ∃ p, pop 64 a + pop 64 b = p := ⟨_, rfl⟩
  have hp2 := rk_pop a b p hp
  have hple : p ≤ 128 := by rw [← hp2]; exact rkN_len _ _
  obtain ⟨⟨c, d⟩, hof⟩ : ∃ m, ofM l = m := ⟨_, rfl⟩
  have hnf := of_flags l
  rw [hof] at hnf
  have HOL := Lib.hid (of_ranks a b ha hb)
  have la := Lib.hid ha
  have lb := Lib.hid hb
  have HP := Lib.hid hp
  have HPL := Lib.hid hp2
  have HOF := Lib.hid hof
  have HNF := Lib.hid hnf
  clear ha hb hp hp2 hof hnf
  go_enter Try.func5, Try.ntmps5
  by_cases h300 : 300 < l.length
  · go_wp2_with (first | (go_at_call 9; refine (awake_ok _).mono ?_; rintro e w1 ⟨v, rfl, hr⟩; obtain ⟨rfl, hb1⟩ := hr; replace H := H.grow hb1; clear hb1) | (with_reducible refine wpl rfl (Stp.box 3 rfl rfl rfl H ?_); clear H; intro g3 w1 H; simp only [Act.put, List.setIfInBounds_toArray, List.set_cons_zero, List.set_cons_succ]; simp only [eval_tmp, eval_const, getD_lit0, getD_lits, cells_agg, cells_int, cells_bool, cells_string, cells_pointer, cells_slice, cells_map, List.setIfInBounds_toArray, List.set_cons_zero, List.set_cons_succ] at H) | (with_reducible refine wpl rfl (Stp.alloc 5 rfl rfl zero32 H ?_); clear H; intro g5 w1 H; simp only [Act.put, List.setIfInBounds_toArray, List.set_cons_zero, List.set_cons_succ]; simp only [cells_agg, cells_int, cells_bool, cells_string, cells_pointer, cells_slice, cells_map] at H) | (with_reducible refine wpl rfl (Stp.ldc rfl agg3 rfl H (by repeat (first | exact List.mem_cons_self | apply List.mem_cons_of_mem)) (by first | exact hck | exact hck1 | (repeat (first | exact lit0 _ _ | apply lits)) | rfl | assumption) ?_); simp only [Act.put, List.setIfInBounds_toArray, List.set_cons_zero, List.set_cons_succ]) | (with_reducible refine wpl rfl (Stp.ldo rfl agg3 rfl H (by assumption) (by assumption) ?_); simp only [Act.put, List.setIfInBounds_toArray, List.set_cons_zero, List.set_cons_succ]) | (with_reducible refine wpl rfl (Stp.stc rfl size4 rfl rfl rfl rfl H (by repeat (first | exact Upd.head | apply Upd.tail)) (by first | (rw [BA_size]; omega) | omega | (simp; done) | (simp; omega)) ?_); clear H; intro w1 H; simp only [Act.put, List.setIfInBounds_toArray, List.set_cons_zero, List.set_cons_succ]; simp only [eval_tmp, eval_const, getD_lit0, getD_lits, cells_agg, cells_int, cells_bool, cells_string, cells_pointer, cells_slice, cells_map, List.setIfInBounds_toArray, List.set_cons_zero, List.set_cons_succ] at H) | (with_reducible refine wpl rfl (Stp.ldr rfl agg24 size24 rfl H (by repeat (first | exact List.mem_cons_self | apply List.mem_cons_of_mem)) (by first | exact BA_size _ | rfl | (simp; done) | assumption) ?_); simp only [Act.put, List.setIfInBounds_toArray, List.set_cons_zero, List.set_cons_succ]) | (with_reducible refine wpl rfl (Stp.ldor rfl agg24 size24 rfl H (by assumption) (by first | exact BA_size _ | rfl | (simp; done) | assumption) (by assumption) ?_); simp only [Act.put, List.setIfInBounds_toArray, List.set_cons_zero, List.set_cons_succ]))
    go_ret
    exact ⟨_, rfl, rfl, H.below⟩
  · go_wp2_with (first | (go_at_call 9; refine (awake_ok _).mono ?_; rintro e w1 ⟨v, rfl, hr⟩; obtain ⟨rfl, hb1⟩ := hr; replace H := H.grow hb1; clear hb1) | (with_reducible refine wpl rfl (Stp.alloc 5 rfl rfl zeroBA H ?_); clear H; intro g5 w1 H; simp only [Act.put, List.setIfInBounds_toArray, List.set_cons_zero, List.set_cons_succ]; (try simp only [cells_agg] at H)) | (with_reducible refine wpl rfl (Stp.box 3 rfl rfl rfl H ?_); clear H; intro g3 w1 H; simp only [Act.put, List.setIfInBounds_toArray, List.set_cons_zero, List.set_cons_succ]; simp only [eval_tmp, eval_const, getD_lit0, getD_lits, cells_agg, cells_int, cells_bool, cells_string, cells_pointer, cells_slice, cells_map, List.setIfInBounds_toArray, List.set_cons_zero, List.set_cons_succ] at H) | (with_reducible refine wpl rfl (Stp.alloc 5 rfl rfl zero32 H ?_); clear H; intro g5 w1 H; simp only [Act.put, List.setIfInBounds_toArray, List.set_cons_zero, List.set_cons_succ]; simp only [cells_agg, cells_int, cells_bool, cells_string, cells_pointer, cells_slice, cells_map] at H) | (with_reducible refine wpl rfl (Stp.ldc rfl agg3 rfl H (by repeat (first | exact List.mem_cons_self | apply List.mem_cons_of_mem)) (by first | exact hck | exact hck1 | (repeat (first | exact lit0 _ _ | apply lits)) | rfl | assumption) ?_); simp only [Act.put, List.setIfInBounds_toArray, List.set_cons_zero, List.set_cons_succ]) | (with_reducible refine wpl rfl (Stp.ldo rfl agg3 rfl H (by assumption) (by assumption) ?_); simp only [Act.put, List.setIfInBounds_toArray, List.set_cons_zero, List.set_cons_succ]) | (with_reducible refine wpl rfl (Stp.stc rfl size4 rfl rfl rfl rfl H (by repeat (first | exact Upd.head | apply Upd.tail)) (by first | (rw [BA_size]; omega) | omega | (simp; done) | (simp; omega)) ?_); clear H; intro w1 H; simp only [Act.put, List.setIfInBounds_toArray, List.set_cons_zero, List.set_cons_succ]; simp only [eval_tmp, eval_const, getD_lit0, getD_lits, cells_agg, cells_int, cells_bool, cells_string, cells_pointer, cells_slice, cells_map, List.setIfInBounds_toArray, List.set_cons_zero, List.set_cons_succ] at H) | (with_reducible refine wpl rfl (Stp.ldr rfl agg24 size24 rfl H (by repeat (first | exact List.mem_cons_self | apply List.mem_cons_of_mem)) (by first | exact BA_size _ | rfl | (simp; done) | assumption) ?_); simp only [Act.put, List.setIfInBounds_toArray, List.set_cons_zero, List.set_cons_succ]) | (with_reducible refine wpl rfl (Stp.ldor rfl agg24 size24 rfl H (by assumption) (by first | exact BA_size _ | rfl | (simp; done) | assumption) (by assumption) ?_); simp only [Act.put, List.setIfInBounds_toArray, List.set_cons_zero, List.set_cons_succ]))
    go_loopw [6] (fun i wr => ∃ k : Nat, k ≤ l.length ∧ i = .int .i64 (k : Int) ∧ St w.heap.size w wr [row 32 g5 (BA (inF (l.take k))), row 24 g3 #[.int .u64 (a : Int), .int .u64 (b : Int)]]) (fun i _ => l.length - (intOf i).toNat)
    case atStart =>
      refine ⟨0, Nat.zero_le _, rfl, ?_⟩
      rw [show BA (inF (l.take 0)) = BA fun _ => false from BA_congr fun i _ => by unfold inF; rfl]
      exact H
    case round =>
      clear H
      obtain ⟨k, hk, rfl, H⟩ := hrel
      by_cases hlt : k < l.length
      · obtain ⟨bb, off, rfl, hbb, hc⟩ := HE.out (by omega)
        have hc1 := hc k hlt 0 (by omega)
        rw [Nat.mul_one, Nat.add_zero] at hc1
        obtain ⟨r, hr⟩ : ∃ r, l.getD k 0 = r := ⟨_, rfl⟩
        have hc2 : w.cell? ⟨bb, off + k, none⟩ = some (.int .i64 (l.getD k 0)) := hc1
        rw [hr] at hc2
        have hst := fun j => inF_step l k hlt j
        simp only [hr] at hst
        have HST := Lib.hid hst
        clear hc hc1 hr hst
        by_cases hin : r < 0 ∨ 128 ≤ r
        · have same : Hid (BA (inF (l.take k)) = BA (inF (l.take (k + 1)))) := Lib.hid (BA_congr fun j hj => by
            rw [HST.out j, show (r == (j : Int)) = false by simp; omega, Bool.or_false])
          rcases Int.lt_or_le r 0 with h0 | h0
          · have hge : ¬ 0 ≤ r := by omega
            go_wp2_with (first | (with_reducible refine wpl rfl (Stp.box 3 rfl rfl rfl H ?_); clear H; intro g3 w1 H; simp only [Act.put, List.setIfInBounds_toArray, List.set_cons_zero, List.set_cons_succ]; simp only [eval_tmp, eval_const, getD_lit0, getD_lits, cells_agg, cells_int, cells_bool, cells_string, cells_pointer, cells_slice, cells_map, List.setIfInBounds_toArray, List.set_cons_zero, List.set_cons_succ] at H) | (with_reducible refine wpl rfl (Stp.alloc 5 rfl rfl zero32 H ?_); clear H; intro g5 w1 H; simp only [Act.put, List.setIfInBounds_toArray, List.set_cons_zero, List.set_cons_succ]; simp only [cells_agg, cells_int, cells_bool, cells_string, cells_pointer, cells_slice, cells_map] at H) | (with_reducible refine wpl rfl (Stp.ldc rfl agg3 rfl H (by repeat (first | exact List.mem_cons_self | apply List.mem_cons_of_mem)) (by first | exact hck | exact hck1 | (repeat (first | exact lit0 _ _ | apply lits)) | rfl | assumption) ?_); simp only [Act.put, List.setIfInBounds_toArray, List.set_cons_zero, List.set_cons_succ]) | (with_reducible refine wpl rfl (Stp.ldo rfl agg3 rfl H (by assumption) (by assumption) ?_); simp only [Act.put, List.setIfInBounds_toArray, List.set_cons_zero, List.set_cons_succ]) | (with_reducible refine wpl rfl (Stp.stc rfl size4 rfl rfl rfl rfl H (by repeat (first | exact Upd.head | apply Upd.tail)) (by first | (rw [BA_size]; omega) | omega | (simp; done) | (simp; omega)) ?_); clear H; intro w1 H; simp only [Act.put, List.setIfInBounds_toArray, List.set_cons_zero, List.set_cons_succ]; simp only [eval_tmp, eval_const, getD_lit0, getD_lits, cells_agg, cells_int, cells_bool, cells_string, cells_pointer, cells_slice, cells_map, List.setIfInBounds_toArray, List.set_cons_zero, List.set_cons_succ] at H) | (with_reducible refine wpl rfl (Stp.ldr rfl agg24 size24 rfl H (by repeat (first | exact List.mem_cons_self | apply List.mem_cons_of_mem)) (by first | exact BA_size _ | rfl | (simp; done) | assumption) ?_); simp only [Act.put, List.setIfInBounds_toArray, List.set_cons_zero, List.set_cons_succ]) | (with_reducible refine wpl rfl (Stp.ldor rfl agg24 size24 rfl H (by assumption) (by first | exact BA_size _ | rfl | (simp; done) | assumption) (by assumption) ?_); simp only [Act.put, List.setIfInBounds_toArray, List.set_cons_zero, List.set_cons_succ]))
            go_roundw
            case rel => exact ⟨k + 1, by omega, by go_num, by rw [← same.out]; exact H⟩
            case measure => simp [intOf]; omega
          · have hl128 : ¬ r < 128 := by omega
            go_wp2_with (first | (with_reducible refine wpl rfl (Stp.box 3 rfl rfl rfl H ?_); clear H; intro g3 w1 H; simp only [Act.put, List.setIfInBounds_toArray, List.set_cons_zero, List.set_cons_succ]; simp only [eval_tmp, eval_const, getD_lit0, getD_lits, cells_agg, cells_int, cells_bool, cells_string, cells_pointer, cells_slice, cells_map, List.setIfInBounds_toArray, List.set_cons_zero, List.set_cons_succ] at H) | (with_reducible refine wpl rfl (Stp.alloc 5 rfl rfl zero32 H ?_); clear H; intro g5 w1 H; simp only [Act.put, List.setIfInBounds_toArray, List.set_cons_zero, List.set_cons_succ]; simp only [cells_agg, cells_int, cells_bool, cells_string, cells_pointer, cells_slice, cells_map] at H) | (with_reducible refine wpl rfl (Stp.ldc rfl agg3 rfl H (by repeat (first | exact List.mem_cons_self | apply List.mem_cons_of_mem)) (by first | exact hck | exact hck1 | (repeat (first | exact lit0 _ _ | apply lits)) | rfl | assumption) ?_); simp only [Act.put, List.setIfInBounds_toArray, List.set_cons_zero, List.set_cons_succ]) | (with_reducible refine wpl rfl (Stp.ldo rfl agg3 rfl H (by assumption) (by assumption) ?_); simp only [Act.put, List.setIfInBounds_toArray, List.set_cons_zero, List.set_cons_succ]) | (with_reducible refine wpl rfl (Stp.stc rfl size4 rfl rfl rfl rfl H (by repeat (first | exact Upd.head | apply Upd.tail)) (by first | (rw [BA_size]; omega) | omega | (simp; done) | (simp; omega)) ?_); clear H; intro w1 H; simp only [Act.put, List.setIfInBounds_toArray, List.set_cons_zero, List.set_cons_succ]; simp only [eval_tmp, eval_const, getD_lit0, getD_lits, cells_agg, cells_int, cells_bool, cells_string, cells_pointer, cells_slice, cells_map, List.setIfInBounds_toArray, List.set_cons_zero, List.set_cons_succ] at H) | (with_reducible refine wpl rfl (Stp.ldr rfl agg24 size24 rfl H (by repeat (first | exact List.mem_cons_self | apply List.mem_cons_of_mem)) (by first | exact BA_size _ | rfl | (simp; done) | assumption) ?_); simp only [Act.put, List.setIfInBounds_toArray, List.set_cons_zero, List.set_cons_succ]) | (with_reducible refine wpl rfl (Stp.ldor rfl agg24 size24 rfl H (by assumption) (by first | exact BA_size _ | rfl | (simp; done) | assumption) (by assumption) ?_); simp only [Act.put, List.setIfInBounds_toArray, List.set_cons_zero, List.set_cons_succ]))
            go_roundw
            case rel => exact ⟨k + 1, by omega, by go_num, by rw [← same.out]; exact H⟩
            case measure => simp [intOf]; omega
        · obtain ⟨q, rfl⟩ : ∃ q : Nat, r = q := ⟨r.toNat, by omega⟩
          have hq : q < 128 := by omega
          have hge : (0 : Int) ≤ (q : Int) := by omega
          have hl128 : (q : Int) < 128 := by omega
          have same : Hid (BA (updB (inF (l.take k)) q true) = BA (inF (l.take (k + 1)))) := Lib.hid (BA_congr fun j hj => by
            rw [HST.out j]
            unfold updB
            by_cases e : j = q
            · subst e; simp
            · rw [if_neg e, show ((q : Int) == (j : Int)) = false by simp; omega, Bool.or_false])
          go_wp2_with (first | (with_reducible refine wpl rfl (Stp.box 3 rfl rfl rfl H ?_); clear H; intro g3 w1 H; simp only [Act.put, List.setIfInBounds_toArray, List.set_cons_zero, List.set_cons_succ]; simp only [eval_tmp, eval_const, getD_lit0, getD_lits, cells_agg, cells_int, cells_bool, cells_string, cells_pointer, cells_slice, cells_map, List.setIfInBounds_toArray, List.set_cons_zero, List.set_cons_succ] at H) | (with_reducible refine wpl rfl (Stp.alloc 5 rfl rfl zero32 H ?_); clear H; intro g5 w1 H; simp only [Act.put, List.setIfInBounds_toArray, List.set_cons_zero, List.set_cons_succ]; simp only [cells_agg, cells_int, cells_bool, cells_string, cells_pointer, cells_slice, cells_map] at H) | (with_reducible refine wpl rfl (Stp.ldc rfl agg3 rfl H (by repeat (first | exact List.mem_cons_self | apply List.mem_cons_of_mem)) (by first | exact hck | exact hck1 | (repeat (first | exact lit0 _ _ | apply lits)) | rfl | assumption) ?_); simp only [Act.put, List.setIfInBounds_toArray, List.set_cons_zero, List.set_cons_succ]) | (with_reducible refine wpl rfl (Stp.ldo rfl agg3 rfl H (by assumption) (by assumption) ?_); simp only [Act.put, List.setIfInBounds_toArray, List.set_cons_zero, List.set_cons_succ]) | (with_reducible refine wpl rfl (Stp.stc rfl size4 rfl rfl rfl rfl H (by repeat (first | exact Upd.head | apply Upd.tail)) (by first | (rw [BA_size]; omega) | omega | (simp; done) | (simp; omega)) ?_); clear H; intro w1 H; simp only [Act.put, List.setIfInBounds_toArray, List.set_cons_zero, List.set_cons_succ]; simp only [eval_tmp, eval_const, getD_lit0, getD_lits, cells_agg, cells_int, cells_bool, cells_string, cells_pointer, cells_slice, cells_map, List.setIfInBounds_toArray, List.set_cons_zero, List.set_cons_succ] at H) | (with_reducible refine wpl rfl (Stp.ldr rfl agg24 size24 rfl H (by repeat (first | exact List.mem_cons_self | apply List.mem_cons_of_mem)) (by first | exact BA_size _ | rfl | (simp; done) | assumption) ?_); simp only [Act.put, List.setIfInBounds_toArray, List.set_cons_zero, List.set_cons_succ]) | (with_reducible refine wpl rfl (Stp.ldor rfl agg24 size24 rfl H (by assumption) (by first | exact BA_size _ | rfl | (simp; done) | assumption) (by assumption) ?_); simp only [Act.put, List.setIfInBounds_toArray, List.set_cons_zero, List.set_cons_succ]))
          go_roundw
          case rel => exact ⟨k + 1, by omega, by go_num, by rw [BA_set, same.out] at H; exact H⟩
          case measure => simp [intOf]; omega
      · obtain rfl : k = l.length := by omega
        rw [List.take_length] at H
        go_wp2_with (first | (with_reducible refine wpl rfl (Stp.box 3 rfl rfl rfl H ?_); clear H; intro g3 w1 H; simp only [Act.put, List.setIfInBounds_toArray, List.set_cons_zero, List.set_cons_succ]; simp only [eval_tmp, eval_const, getD_lit0, getD_lits, cells_agg, cells_int, cells_bool, cells_string, cells_pointer, cells_slice, cells_map, List.setIfInBounds_toArray, List.set_cons_zero, List.set_cons_succ] at H) | (with_reducible refine wpl rfl (Stp.alloc 5 rfl rfl zero32 H ?_); clear H; intro g5 w1 H; simp only [Act.put, List.setIfInBounds_toArray, List.set_cons_zero, List.set_cons_succ]; simp only [cells_agg, cells_int, cells_bool, cells_string, cells_pointer, cells_slice, cells_map] at H) | (with_reducible refine wpl rfl (Stp.ldc rfl agg3 rfl H (by repeat (first | exact List.mem_cons_self | apply List.mem_cons_of_mem)) (by first | exact hck | exact hck1 | (repeat (first | exact lit0 _ _ | apply lits)) | rfl | assumption) ?_); simp only [Act.put, List.setIfInBounds_toArray, List.set_cons_zero, List.set_cons_succ]) | (with_reducible refine wpl rfl (Stp.ldo rfl agg3 rfl H (by assumption) (by assumption) ?_); simp only [Act.put, List.setIfInBounds_toArray, List.set_cons_zero, List.set_cons_succ]) | (with_reducible refine wpl rfl (Stp.stc rfl size4 rfl rfl rfl rfl H (by repeat (first | exact Upd.head | apply Upd.tail)) (by first | (rw [BA_size]; omega) | omega | (simp; done) | (simp; omega)) ?_); clear H; intro w1 H; simp only [Act.put, List.setIfInBounds_toArray, List.set_cons_zero, List.set_cons_succ]; simp only [eval_tmp, eval_const, getD_lit0, getD_lits, cells_agg, cells_int, cells_bool, cells_string, cells_pointer, cells_slice, cells_map, List.setIfInBounds_toArray, List.set_cons_zero, List.set_cons_succ] at H) | (with_reducible refine wpl rfl (Stp.ldr rfl agg24 size24 rfl H (by repeat (first | exact List.mem_cons_self | apply List.mem_cons_of_mem)) (by first | exact BA_size _ | rfl | (simp; done) | assumption) ?_); simp only [Act.put, List.setIfInBounds_toArray, List.set_cons_zero, List.set_cons_succ]) | (with_reducible refine wpl rfl (Stp.ldor rfl agg24 size24 rfl H (by assumption) (by first | exact BA_size _ | rfl | (simp; done) | assumption) (by assumption) ?_); simp only [Act.put, List.setIfInBounds_toArray, List.set_cons_zero, List.set_cons_succ]))
        refine rg_begin 12 rfl (S := fun W => St _ _ W _) (by kernel_rfl) H.drew ?_
        replace H := H.drew
        have HS := H
        refine rg_take (i := 0) rfl (by kernel_rfl) (by kernel_rfl) (by kernel_rfl) (Yld.move rfl rfl) HS ?_; simp only [Act.put, eval_tmp, eval_const, getD_lit0, getD_lits, if_true, if_false, List.setIfInBounds_toArray, List.set_cons_zero, List.set_cons_succ]
        first | (refine rg_take (i := 2) rfl (by kernel_rfl) (by kernel_rfl) (by kernel_rfl) (Yld.ldr rfl rfl agg32 size32 rfl (by repeat (first | exact List.mem_cons_self | apply List.mem_cons_of_mem)) (by first | exact BA_size _ | rfl | (simp; done) | assumption)) HS ?_; simp only [Act.put, List.setIfInBounds_toArray, List.set_cons_zero, List.set_cons_succ]) | (refine rg_take (i := 2) rfl (by kernel_rfl) (by kernel_rfl) (by kernel_rfl) (Yld.ldor rfl rfl agg32 size32 rfl (by assumption) (by first | exact BA_size _ | rfl | (simp; done) | assumption) (by assumption)) HS ?_; simp only [Act.put, List.setIfInBounds_toArray, List.set_cons_zero, List.set_cons_succ])
        refine rg_one (i := 1) (by kernel_rfl) rfl rfl (fun K hK => ?_)
        refine wp_callf rfl ent20 (of_ok _ l c d HOF.out _ (hs.grow H.below)) rfl (fun v w1 hr => ?_)
        obtain ⟨rfl, hb1⟩ := hr
        replace H := H.grow hb1
        clear hb1
        clear HS
        have HS := H
        refine hK.out _ _ HS ?_
        clear hK K
        simp only [Act.put, List.setIfInBounds_toArray, List.set_cons_zero, List.set_cons_succ]
        refine rg_one (i := 3) (by kernel_rfl) rfl rfl (fun K hK => ?_)
        refine wp_callf rfl ent18 (rof_ok (inF l) c d HNF.out.1 HNF.out.2 _) rfl (fun v w1 hr => ?_)
        obtain ⟨rfl, hb1⟩ := hr
        replace H := H.grow hb1
        clear hb1
        clear HS
        have HS := H
        refine hK.out _ _ HS ?_
        clear hK K
        simp only [Act.put, List.setIfInBounds_toArray, List.set_cons_zero, List.set_cons_succ]
        refine rg_take (i := 4) rfl (by kernel_rfl) (by kernel_rfl) (by kernel_rfl) (Yld.of rfl (fun W _ => by go_simp; first | done | with_reducible rfl)) HS ?_; simp only [Act.put, List.setIfInBounds_toArray, List.set_cons_zero, List.set_cons_succ]
        refine rg_take (i := 5) rfl (by kernel_rfl) (by kernel_rfl) (by kernel_rfl) (Yld.move rfl rfl) HS ?_; simp only [Act.put, eval_tmp, eval_const, getD_lit0, getD_lits, if_true, if_false, List.setIfInBounds_toArray, List.set_cons_zero, List.set_cons_succ]
        first | (refine rg_take (i := 6) rfl (by kernel_rfl) (by kernel_rfl) (by kernel_rfl) (Yld.ldr rfl rfl agg24 size24 rfl (by repeat (first | exact List.mem_cons_self | apply List.mem_cons_of_mem)) (by first | exact BA_size _ | rfl | (simp; done) | assumption)) HS ?_; simp only [Act.put, List.setIfInBounds_toArray, List.set_cons_zero, List.set_cons_succ]) | (refine rg_take (i := 6) rfl (by kernel_rfl) (by kernel_rfl) (by kernel_rfl) (Yld.ldor rfl rfl agg24 size24 rfl (by assumption) (by first | exact BA_size _ | rfl | (simp; done) | assumption) (by assumption)) HS ?_; simp only [Act.put, List.setIfInBounds_toArray, List.set_cons_zero, List.set_cons_succ])
        first | (refine rg_take (i := 8) rfl (by kernel_rfl) (by kernel_rfl) (by kernel_rfl) (Yld.ldr rfl rfl agg24 size24 rfl (by repeat (first | exact List.mem_cons_self | apply List.mem_cons_of_mem)) (by first | exact BA_size _ | rfl | (simp; done) | assumption)) HS ?_; simp only [Act.put, List.setIfInBounds_toArray, List.set_cons_zero, List.set_cons_succ]) | (refine rg_take (i := 8) rfl (by kernel_rfl) (by kernel_rfl) (by kernel_rfl) (Yld.ldor rfl rfl agg24 size24 rfl (by assumption) (by first | exact BA_size _ | rfl | (simp; done) | assumption) (by assumption)) HS ?_; simp only [Act.put, List.setIfInBounds_toArray, List.set_cons_zero, List.set_cons_succ])
        refine rg_one (i := 7) (by kernel_rfl) rfl rfl (fun K hK => ?_)
        refine wp_callf rfl ent10 (count_ok a b p la.out lb.out HP.out _) rfl (fun v w1 hr => ?_)
        obtain ⟨rfl, hb1⟩ := hr
        replace H := H.grow hb1
        clear hb1
        clear HS
        have HS := H
        refine hK.out _ _ HS ?_
        clear hK K
        simp only [Act.put, List.setIfInBounds_toArray, List.set_cons_zero, List.set_cons_succ]
        refine rg_one (i := 9) (by kernel_rfl) rfl rfl (fun K hK => ?_)
        refine wp_callf rfl ent21 (rcount_as a b p la.out lb.out HPL.out _) rfl (fun v w1 hr => ?_)
        obtain ⟨rfl, hb1⟩ := hr
        replace H := H.grow hb1
        clear hb1
        clear HS
        have HS := H
        refine hK.out _ _ HS ?_
        clear hK K
        simp only [Act.put, List.setIfInBounds_toArray, List.set_cons_zero, List.set_cons_succ]
        refine rg_take (i := 10) rfl (by kernel_rfl) (by kernel_rfl) (by kernel_rfl) (Yld.of rfl (fun W _ => by go_simp; first | done | with_reducible rfl)) HS ?_; simp only [Act.put, List.setIfInBounds_toArray, List.set_cons_zero, List.set_cons_succ]
        refine rg_take (i := 11) rfl (by kernel_rfl) (by kernel_rfl) (by kernel_rfl) (Yld.pick rfl rfl rfl) HS ?_; simp only [Act.put, eval_tmp, eval_const, getD_lit0, getD_lits, if_true, if_false, List.setIfInBounds_toArray, List.set_cons_zero, List.set_cons_succ]
        refine rg_done (by kernel_rfl) ?_
        go_wp2_with (first | (go_at_call 22; refine (ranks_ok a b la.out lb.out _).mono ?_; rintro e w1 ⟨v, rfl, hr⟩; obtain ⟨⟨ar, cr, n, rfl, ho⟩, hb1⟩ := hr; replace H := H.new hb1 (slc_sound ho) (fun g hg => (ho.lt g hg).1); clear hb1 ho) | (with_reducible refine wpl rfl (Stp.box 3 rfl rfl rfl H ?_); clear H; intro g3 w1 H; simp only [Act.put, List.setIfInBounds_toArray, List.set_cons_zero, List.set_cons_succ]; simp only [eval_tmp, eval_const, getD_lit0, getD_lits, cells_agg, cells_int, cells_bool, cells_string, cells_pointer, cells_slice, cells_map, List.setIfInBounds_toArray, List.set_cons_zero, List.set_cons_succ] at H) | (with_reducible refine wpl rfl (Stp.alloc 5 rfl rfl zero32 H ?_); clear H; intro g5 w1 H; simp only [Act.put, List.setIfInBounds_toArray, List.set_cons_zero, List.set_cons_succ]; simp only [cells_agg, cells_int, cells_bool, cells_string, cells_pointer, cells_slice, cells_map] at H) | (with_reducible refine wpl rfl (Stp.ldc rfl agg3 rfl H (by repeat (first | exact List.mem_cons_self | apply List.mem_cons_of_mem)) (by first | exact hck | exact hck1 | (repeat (first | exact lit0 _ _ | apply lits)) | rfl | assumption) ?_); simp only [Act.put, List.setIfInBounds_toArray, List.set_cons_zero, List.set_cons_succ]) | (with_reducible refine wpl rfl (Stp.ldo rfl agg3 rfl H (by assumption) (by assumption) ?_); simp only [Act.put, List.setIfInBounds_toArray, List.set_cons_zero, List.set_cons_succ]) | (with_reducible refine wpl rfl (Stp.stc rfl size4 rfl rfl rfl rfl H (by repeat (first | exact Upd.head | apply Upd.tail)) (by first | (rw [BA_size]; omega) | omega | (simp; done) | (simp; omega)) ?_); clear H; intro w1 H; simp only [Act.put, List.setIfInBounds_toArray, List.set_cons_zero, List.set_cons_succ]; simp only [eval_tmp, eval_const, getD_lit0, getD_lits, cells_agg, cells_int, cells_bool, cells_string, cells_pointer, cells_slice, cells_map, List.setIfInBounds_toArray, List.set_cons_zero, List.set_cons_succ] at H) | (with_reducible refine wpl rfl (Stp.ldr rfl agg24 size24 rfl H (by repeat (first | exact List.mem_cons_self | apply List.mem_cons_of_mem)) (by first | exact BA_size _ | rfl | (simp; done) | assumption) ?_); simp only [Act.put, List.setIfInBounds_toArray, List.set_cons_zero, List.set_cons_succ]) | (with_reducible refine wpl rfl (Stp.ldor rfl agg24 size24 rfl H (by assumption) (by first | exact BA_size _ | rfl | (simp; done) | assumption) (by assumption) ?_); simp only [Act.put, List.setIfInBounds_toArray, List.set_cons_zero, List.set_cons_succ]))
        have ho := H.getSlc (v := .slice ar n cr) (n := n) (xs := iv (rkN (a, b) 128)) (by repeat (first | exact List.mem_cons_self | apply List.mem_cons_of_mem))
        have hnp : n = p := by
          have := ho.1
          unfold iv at this
          rw [List.length_map, HPL.out] at this
          omega
        subst hnp
        have hsl : Sl w1 1 ((rkN (a, b) 128).map fun (x : Nat) => (x : Int)).length (.slice ar n cr) (elI ((rkN (a, b) 128).map fun (x : Nat) => (x : Int))) := by
          rw [List.length_map, HPL.out]
          refine Sl.of_own ho (fun i hi => ?_) (by unfold maxLen; omega)
          have := HPL.out
          simp [iv, elI, List.getD, this, hi]
        have hrm := H.getRow (t := 24) (g := g3) (cs := #[.int .u64 (a : Int), .int .u64 (b : Int)]) (List.mem_cons_of_mem _ (List.mem_cons_of_mem _ List.mem_cons_self))
        have hg3 : g3 < w1.heap.size := rowAt_lt hrm
        have hmk : ∀ j, j < 2 → w1.cell? ⟨g3, 0 + j, none⟩ = (#[Value.int .u64 (a : Int), Value.int .u64 (b : Int)] : Array Value)[j]? := fun j hj => by rw [Nat.zero_add]; exact cell_of_rowAt hrm j
        have HO := H
        clear H ho hrm HS
        have H := St.init w1
        go_loopw [8] (fun i wr => ∃ k : Nat, k ≤ n ∧ i = .int .i64 (k : Int) ∧ St w1.heap.size w1 wr []) (fun i _ => n - (intOf i).toNat)
        case atStart => exact ⟨0, Nat.zero_le _, rfl, H⟩
        case round =>
          clear H
          obtain ⟨k, hk, rfl, H⟩ := hrel
          have hsl' := hsl
          obtain ⟨_, _, e0, _, hcc⟩ := hsl'
          injection e0 with e1 e2 e3
          subst e1
          have hLl : ((rkN (a, b) 128).map fun (x : Nat) => (x : Int)).length = n := by rw [List.length_map, HPL.out]
          rw [hLl] at hcc
          have HCC := Lib.hid hcc
          clear hcc e2 e3 hLl
          by_cases hkn : k < n
          · obtain ⟨b1, o1, rfl, hb1, hc⟩ := HCC.out (by omega)
            have hlen : k < (rkN (a, b) 128).length := by rw [HPL.out]; exact hkn
            obtain ⟨x, hx⟩ : ∃ x, (rkN (a, b) 128)[k] = x := ⟨_, rfl⟩
            have hc1 := hc k hkn 0 (by omega)
            rw [Nat.mul_one, Nat.add_zero] at hc1
            have hc2 : w1.cell? ⟨b1, o1 + k, none⟩ = some (.int .i64 (x : Int)) := by
              rw [hc1, ← hx]
              simp [elI, List.getD, hlen]
            have hh := rk_has (a, b) k hlen
            rw [hx] at hh
            have HX := Lib.hid hh.1
            clear hc1 hh
            rcases Nat.eq_zero_or_pos k with rfl | hpos
            · rw [Nat.add_zero] at hc2
              clear hc hx
              go_wp2_with (first | (with_reducible refine wpl rfl (Stp.box 3 rfl rfl rfl H ?_); clear H; intro g3 w1 H; simp only [Act.put, List.setIfInBounds_toArray, List.set_cons_zero, List.set_cons_succ]; simp only [eval_tmp, eval_const, getD_lit0, getD_lits, cells_agg, cells_int, cells_bool, cells_string, cells_pointer, cells_slice, cells_map, List.setIfInBounds_toArray, List.set_cons_zero, List.set_cons_succ] at H) | (with_reducible refine wpl rfl (Stp.alloc 5 rfl rfl zero32 H ?_); clear H; intro g5 w1 H; simp only [Act.put, List.setIfInBounds_toArray, List.set_cons_zero, List.set_cons_succ]; simp only [cells_agg, cells_int, cells_bool, cells_string, cells_pointer, cells_slice, cells_map] at H) | (with_reducible refine wpl rfl (Stp.ldc rfl agg3 rfl H (by repeat (first | exact List.mem_cons_self | apply List.mem_cons_of_mem)) (by first | exact hck | exact hck1 | (repeat (first | exact lit0 _ _ | apply lits)) | rfl | assumption) ?_); simp only [Act.put, List.setIfInBounds_toArray, List.set_cons_zero, List.set_cons_succ]) | (with_reducible refine wpl rfl (Stp.ldo rfl agg3 rfl H (by assumption) (by assumption) ?_); simp only [Act.put, List.setIfInBounds_toArray, List.set_cons_zero, List.set_cons_succ]) | (with_reducible refine wpl rfl (Stp.stc rfl size4 rfl rfl rfl rfl H (by repeat (first | exact Upd.head | apply Upd.tail)) (by first | (rw [BA_size]; omega) | omega | (simp; done) | (simp; omega)) ?_); clear H; intro w1 H; simp only [Act.put, List.setIfInBounds_toArray, List.set_cons_zero, List.set_cons_succ]; simp only [eval_tmp, eval_const, getD_lit0, getD_lits, cells_agg, cells_int, cells_bool, cells_string, cells_pointer, cells_slice, cells_map, List.setIfInBounds_toArray, List.set_cons_zero, List.set_cons_succ] at H) | (with_reducible refine wpl rfl (Stp.ldr rfl agg24 size24 rfl H (by repeat (first | exact List.mem_cons_self | apply List.mem_cons_of_mem)) (by first | exact BA_size _ | rfl | (simp; done) | assumption) ?_); simp only [Act.put, List.setIfInBounds_toArray, List.set_cons_zero, List.set_cons_succ]) | (with_reducible refine wpl rfl (Stp.ldor rfl agg24 size24 rfl H (by assumption) (by first | exact BA_size _ | rfl | (simp; done) | assumption) (by assumption) ?_); simp only [Act.put, List.setIfInBounds_toArray, List.set_cons_zero, List.set_cons_succ]))
              refine rg_begin 23 rfl (S := fun W => St _ _ W _) (by kernel_rfl) H.drew ?_
              replace H := H.drew
              have HS := H
              first | (refine rg_take (i := 0) rfl (by kernel_rfl) (by kernel_rfl) (by kernel_rfl) (Yld.ldr rfl rfl agg24 size24 rfl (by repeat (first | exact List.mem_cons_self | apply List.mem_cons_of_mem)) (by first | exact BA_size _ | rfl | (simp; done) | assumption)) HS ?_; simp only [Act.put, List.setIfInBounds_toArray, List.set_cons_zero, List.set_cons_succ]) | (refine rg_take (i := 0) rfl (by kernel_rfl) (by kernel_rfl) (by kernel_rfl) (Yld.ldor rfl rfl agg24 size24 rfl (by assumption) (by first | exact BA_size _ | rfl | (simp; done) | assumption) (by assumption)) HS ?_; simp only [Act.put, List.setIfInBounds_toArray, List.set_cons_zero, List.set_cons_succ])
              refine rg_take (i := 1) rfl (by kernel_rfl) (by kernel_rfl) (by kernel_rfl) (Yld.move rfl rfl) HS ?_; simp only [Act.put, eval_tmp, eval_const, getD_lit0, getD_lits, if_true, if_false, List.setIfInBounds_toArray, List.set_cons_zero, List.set_cons_succ]
              refine rg_take (i := 2) rfl (by kernel_rfl) (by kernel_rfl) (by kernel_rfl) (Yld.move rfl rfl) HS ?_; simp only [Act.put, eval_tmp, eval_const, getD_lit0, getD_lits, if_true, if_false, List.setIfInBounds_toArray, List.set_cons_zero, List.set_cons_succ]
              refine rg_take (i := 3) rfl (by kernel_rfl) (by kernel_rfl) (by kernel_rfl) (Yld.of rfl (fun W _ => by go_simp; first | done | with_reducible rfl)) HS ?_; simp only [Act.put, List.setIfInBounds_toArray, List.set_cons_zero, List.set_cons_succ]
              first | (refine rg_take (i := 4) rfl (by kernel_rfl) (by kernel_rfl) (by kernel_rfl) (Yld.ldc rfl rfl agg3 rfl (by repeat (first | exact List.mem_cons_self | apply List.mem_cons_of_mem)) (by first | exact hck | exact hck1 | (repeat (first | exact lit0 _ _ | apply lits)) | rfl | assumption)) HS ?_; simp only [Act.put, List.setIfInBounds_toArray, List.set_cons_zero, List.set_cons_succ]) | (refine rg_take (i := 4) rfl (by kernel_rfl) (by kernel_rfl) (by kernel_rfl) (Yld.ldo rfl rfl agg3 rfl (by assumption) (by assumption)) HS ?_; simp only [Act.put, List.setIfInBounds_toArray, List.set_cons_zero, List.set_cons_succ])
              refine rg_one (i := 5) (by kernel_rfl) rfl rfl (fun K hK => ?_)
              refine wp_callf rfl ent16 (set_ok a b (x : Int) la.out lb.out true HX.out _) rfl (fun v w1 hr => ?_)
              obtain ⟨rfl, hb1⟩ := hr
              replace H := H.grow hb1
              clear hb1
              clear HS
              have HS := H
              refine hK.out _ _ HS ?_
              clear hK K
              simp only [Act.put, List.setIfInBounds_toArray, List.set_cons_zero, List.set_cons_succ]
              refine rg_take (i := 6) rfl (by kernel_rfl) (by kernel_rfl) (by kernel_rfl) (Yld.of rfl (fun W _ => by go_simp; first | done | with_reducible rfl)) HS ?_; simp only [Act.put, List.setIfInBounds_toArray, List.set_cons_zero, List.set_cons_succ]
              refine rg_take (i := 7) rfl (by kernel_rfl) (by kernel_rfl) (by kernel_rfl) (Yld.move rfl rfl) HS ?_; simp only [Act.put, eval_tmp, eval_const, getD_lit0, getD_lits, if_true, if_false, List.setIfInBounds_toArray, List.set_cons_zero, List.set_cons_succ]
              refine rg_take (i := 8) rfl (by kernel_rfl) (by kernel_rfl) (by kernel_rfl) (Yld.move rfl rfl) HS ?_; simp only [Act.put, eval_tmp, eval_const, getD_lit0, getD_lits, if_true, if_false, List.setIfInBounds_toArray, List.set_cons_zero, List.set_cons_succ]
              refine rg_take (i := 9) rfl (by kernel_rfl) (by kernel_rfl) (by kernel_rfl) (Yld.of rfl (fun W _ => by go_simp; first | done | with_reducible rfl)) HS ?_; simp only [Act.put, List.setIfInBounds_toArray, List.set_cons_zero, List.set_cons_succ]
              refine rg_take (i := 10) rfl (by kernel_rfl) (by kernel_rfl) (by kernel_rfl) (Yld.move rfl rfl) HS ?_; simp only [Act.put, eval_tmp, eval_const, getD_lit0, getD_lits, if_true, if_false, List.setIfInBounds_toArray, List.set_cons_zero, List.set_cons_succ]
              refine rg_take (i := 11) rfl (by kernel_rfl) (by kernel_rfl) (by kernel_rfl) (Yld.skip rfl) HS ?_; simp only [Act.put, List.setIfInBounds_toArray, List.set_cons_zero, List.set_cons_succ]
              refine rg_take (i := 12) rfl (by kernel_rfl) (by kernel_rfl) (by kernel_rfl) (Yld.skip rfl) HS ?_; simp only [Act.put, List.setIfInBounds_toArray, List.set_cons_zero, List.set_cons_succ]
              refine rg_take (i := 13) rfl (by kernel_rfl) (by kernel_rfl) (by kernel_rfl) (Yld.skip rfl) HS ?_; simp only [Act.put, List.setIfInBounds_toArray, List.set_cons_zero, List.set_cons_succ]
              refine rg_take (i := 14) rfl (by kernel_rfl) (by kernel_rfl) (by kernel_rfl) (Yld.skip rfl) HS ?_; simp only [Act.put, List.setIfInBounds_toArray, List.set_cons_zero, List.set_cons_succ]
              refine rg_take (i := 15) rfl (by kernel_rfl) (by kernel_rfl) (by kernel_rfl) (Yld.skip rfl) HS ?_; simp only [Act.put, List.setIfInBounds_toArray, List.set_cons_zero, List.set_cons_succ]
              refine rg_take (i := 16) rfl (by kernel_rfl) (by kernel_rfl) (by kernel_rfl) (Yld.skip rfl) HS ?_; simp only [Act.put, List.setIfInBounds_toArray, List.set_cons_zero, List.set_cons_succ]
              refine rg_take (i := 17) rfl (by kernel_rfl) (by kernel_rfl) (by kernel_rfl) (Yld.skip rfl) HS ?_; simp only [Act.put, List.setIfInBounds_toArray, List.set_cons_zero, List.set_cons_succ]
              refine rg_take (i := 18) rfl (by kernel_rfl) (by kernel_rfl) (by kernel_rfl) (Yld.skip rfl) HS ?_; simp only [Act.put, List.setIfInBounds_toArray, List.set_cons_zero, List.set_cons_succ]
              refine rg_take (i := 19) rfl (by kernel_rfl) (by kernel_rfl) (by kernel_rfl) (Yld.skip rfl) HS ?_; simp only [Act.put, List.setIfInBounds_toArray, List.set_cons_zero, List.set_cons_succ]
              refine rg_take (i := 20) rfl (by kernel_rfl) (by kernel_rfl) (by kernel_rfl) (Yld.skip rfl) HS ?_; simp only [Act.put, List.setIfInBounds_toArray, List.set_cons_zero, List.set_cons_succ]
              refine rg_take (i := 21) rfl (by kernel_rfl) (by kernel_rfl) (by kernel_rfl) (Yld.pick rfl rfl rfl) HS ?_; simp only [Act.put, eval_tmp, eval_const, getD_lit0, getD_lits, if_true, if_false, List.setIfInBounds_toArray, List.set_cons_zero, List.set_cons_succ]
              refine rg_take (i := 22) rfl (by kernel_rfl) (by kernel_rfl) (by kernel_rfl) (Yld.pick rfl rfl rfl) HS ?_; simp only [Act.put, eval_tmp, eval_const, getD_lit0, getD_lits, if_true, if_false, List.setIfInBounds_toArray, List.set_cons_zero, List.set_cons_succ]
              refine rg_done (by kernel_rfl) ?_
              go_wp2_with (first | (with_reducible refine wpl rfl (Stp.box 3 rfl rfl rfl H ?_); clear H; intro g3 w1 H; simp only [Act.put, List.setIfInBounds_toArray, List.set_cons_zero, List.set_cons_succ]; simp only [eval_tmp, eval_const, getD_lit0, getD_lits, cells_agg, cells_int, cells_bool, cells_string, cells_pointer, cells_slice, cells_map, List.setIfInBounds_toArray, List.set_cons_zero, List.set_cons_succ] at H) | (with_reducible refine wpl rfl (Stp.alloc 5 rfl rfl zero32 H ?_); clear H; intro g5 w1 H; simp only [Act.put, List.setIfInBounds_toArray, List.set_cons_zero, List.set_cons_succ]; simp only [cells_agg, cells_int, cells_bool, cells_string, cells_pointer, cells_slice, cells_map] at H) | (with_reducible refine wpl rfl (Stp.ldc rfl agg3 rfl H (by repeat (first | exact List.mem_cons_self | apply List.mem_cons_of_mem)) (by first | exact hck | exact hck1 | (repeat (first | exact lit0 _ _ | apply lits)) | rfl | assumption) ?_); simp only [Act.put, List.setIfInBounds_toArray, List.set_cons_zero, List.set_cons_succ]) | (with_reducible refine wpl rfl (Stp.ldo rfl agg3 rfl H (by assumption) (by assumption) ?_); simp only [Act.put, List.setIfInBounds_toArray, List.set_cons_zero, List.set_cons_succ]) | (with_reducible refine wpl rfl (Stp.stc rfl size4 rfl rfl rfl rfl H (by repeat (first | exact Upd.head | apply Upd.tail)) (by first | (rw [BA_size]; omega) | omega | (simp; done) | (simp; omega)) ?_); clear H; intro w1 H; simp only [Act.put, List.setIfInBounds_toArray, List.set_cons_zero, List.set_cons_succ]; simp only [eval_tmp, eval_const, getD_lit0, getD_lits, cells_agg, cells_int, cells_bool, cells_string, cells_pointer, cells_slice, cells_map, List.setIfInBounds_toArray, List.set_cons_zero, List.set_cons_succ] at H) | (with_reducible refine wpl rfl (Stp.ldr rfl agg24 size24 rfl H (by repeat (first | exact List.mem_cons_self | apply List.mem_cons_of_mem)) (by first | exact BA_size _ | rfl | (simp; done) | assumption) ?_); simp only [Act.put, List.setIfInBounds_toArray, List.set_cons_zero, List.set_cons_succ]) | (with_reducible refine wpl rfl (Stp.ldor rfl agg24 size24 rfl H (by assumption) (by first | exact BA_size _ | rfl | (simp; done) | assumption) (by assumption) ?_); simp only [Act.put, List.setIfInBounds_toArray, List.set_cons_zero, List.set_cons_succ]))
              go_roundw
              case rel => exact ⟨1, by omega, by go_num, H⟩
              case measure => simp [intOf]; omega
            · obtain ⟨j, rfl⟩ : ∃ j, k = j + 1 := ⟨k - 1, by omega⟩
              have hlj : j < (rkN (a, b) 128).length := by omega
              obtain ⟨y, hy⟩ : ∃ y, (rkN (a, b) 128)[j] = y := ⟨_, rfl⟩
              have hd1 := hc j (by omega) 0 (by omega)
              rw [Nat.mul_one, Nat.add_zero] at hd1
              have hd2 : w1.cell? ⟨b1, o1 + j, none⟩ = some (.int .i64 (y : Int)) := by
                rw [hd1, ← hy]
                simp [elI, List.getD, hlj]
              have hlt := rk_rise (a, b) j (j + 1) hlj hlen (by omega)
              rw [hx, hy] at hlt
              have hle : ¬ x ≤ y := by omega
              have hlei : ¬ (x : Int) ≤ (y : Int) := by omega
              have hj0 : (0 : Int) < (j : Int) + 1 := by omega
              have hj1 : (0 : Int) ≤ (j : Int) + 1 := by omega
              have hjn : (j : Int) < (n : Int) := by omega
              have hwj : IntKind.i64.wrap (j : Int) = (j : Int) := by
                simp [IntKind.wrap, IntKind.bits, IntKind.signed]
                omega
              have hjn2 : (j : Int) + 1 < (n : Int) := by omega
              clear hc hx hd1 hy hlt
              go_wp2_with (first | (with_reducible refine wpl rfl (Stp.box 3 rfl rfl rfl H ?_); clear H; intro g3 w1 H; simp only [Act.put, List.setIfInBounds_toArray, List.set_cons_zero, List.set_cons_succ]; simp only [eval_tmp, eval_const, getD_lit0, getD_lits, cells_agg, cells_int, cells_bool, cells_string, cells_pointer, cells_slice, cells_map, List.setIfInBounds_toArray, List.set_cons_zero, List.set_cons_succ] at H) | (with_reducible refine wpl rfl (Stp.alloc 5 rfl rfl zero32 H ?_); clear H; intro g5 w1 H; simp only [Act.put, List.setIfInBounds_toArray, List.set_cons_zero, List.set_cons_succ]; simp only [cells_agg, cells_int, cells_bool, cells_string, cells_pointer, cells_slice, cells_map] at H) | (with_reducible refine wpl rfl (Stp.ldc rfl agg3 rfl H (by repeat (first | exact List.mem_cons_self | apply List.mem_cons_of_mem)) (by first | exact hck | exact hck1 | (repeat (first | exact lit0 _ _ | apply lits)) | rfl | assumption) ?_); simp only [Act.put, List.setIfInBounds_toArray, List.set_cons_zero, List.set_cons_succ]) | (with_reducible refine wpl rfl (Stp.ldo rfl agg3 rfl H (by assumption) (by assumption) ?_); simp only [Act.put, List.setIfInBounds_toArray, List.set_cons_zero, List.set_cons_succ]) | (with_reducible refine wpl rfl (Stp.stc rfl size4 rfl rfl rfl rfl H (by repeat (first | exact Upd.head | apply Upd.tail)) (by first | (rw [BA_size]; omega) | omega | (simp; done) | (simp; omega)) ?_); clear H; intro w1 H; simp only [Act.put, List.setIfInBounds_toArray, List.set_cons_zero, List.set_cons_succ]; simp only [eval_tmp, eval_const, getD_lit0, getD_lits, cells_agg, cells_int, cells_bool, cells_string, cells_pointer, cells_slice, cells_map, List.setIfInBounds_toArray, List.set_cons_zero, List.set_cons_succ] at H) | (with_reducible refine wpl rfl (Stp.ldr rfl agg24 size24 rfl H (by repeat (first | exact List.mem_cons_self | apply List.mem_cons_of_mem)) (by first | exact BA_size _ | rfl | (simp; done) | assumption) ?_); simp only [Act.put, List.setIfInBounds_toArray, List.set_cons_zero, List.set_cons_succ]) | (with_reducible refine wpl rfl (Stp.ldor rfl agg24 size24 rfl H (by assumption) (by first | exact BA_size _ | rfl | (simp; done) | assumption) (by assumption) ?_); simp only [Act.put, List.setIfInBounds_toArray, List.set_cons_zero, List.set_cons_succ]))
              refine rg_begin 23 rfl (S := fun W => St _ _ W _) (by kernel_rfl) H.drew ?_
              replace H := H.drew
              have HS := H
              first | (refine rg_take (i := 0) rfl (by kernel_rfl) (by kernel_rfl) (by kernel_rfl) (Yld.ldr rfl rfl agg24 size24 rfl (by repeat (first | exact List.mem_cons_self | apply List.mem_cons_of_mem)) (by first | exact BA_size _ | rfl | (simp; done) | assumption)) HS ?_; simp only [Act.put, List.setIfInBounds_toArray, List.set_cons_zero, List.set_cons_succ]) | (refine rg_take (i := 0) rfl (by kernel_rfl) (by kernel_rfl) (by kernel_rfl) (Yld.ldor rfl rfl agg24 size24 rfl (by assumption) (by first | exact BA_size _ | rfl | (simp; done) | assumption) (by assumption)) HS ?_; simp only [Act.put, List.setIfInBounds_toArray, List.set_cons_zero, List.set_cons_succ])
              refine rg_take (i := 1) rfl (by kernel_rfl) (by kernel_rfl) (by kernel_rfl) (Yld.move rfl rfl) HS ?_; simp only [Act.put, eval_tmp, eval_const, getD_lit0, getD_lits, if_true, if_false, List.setIfInBounds_toArray, List.set_cons_zero, List.set_cons_succ]
              refine rg_take (i := 2) rfl (by kernel_rfl) (by kernel_rfl) (by kernel_rfl) (Yld.move rfl rfl) HS ?_; simp only [Act.put, eval_tmp, eval_const, getD_lit0, getD_lits, if_true, if_false, List.setIfInBounds_toArray, List.set_cons_zero, List.set_cons_succ]
              refine rg_take (i := 3) rfl (by kernel_rfl) (by kernel_rfl) (by kernel_rfl) (Yld.of rfl (fun W _ => by go_simp; first | done | with_reducible rfl)) HS ?_; simp only [Act.put, List.setIfInBounds_toArray, List.set_cons_zero, List.set_cons_succ]
              first | (refine rg_take (i := 4) rfl (by kernel_rfl) (by kernel_rfl) (by kernel_rfl) (Yld.ldc rfl rfl agg3 rfl (by repeat (first | exact List.mem_cons_self | apply List.mem_cons_of_mem)) (by first | exact hck | exact hck1 | (repeat (first | exact lit0 _ _ | apply lits)) | rfl | assumption)) HS ?_; simp only [Act.put, List.setIfInBounds_toArray, List.set_cons_zero, List.set_cons_succ]) | (refine rg_take (i := 4) rfl (by kernel_rfl) (by kernel_rfl) (by kernel_rfl) (Yld.ldo rfl rfl agg3 rfl (by assumption) (by assumption)) HS ?_; simp only [Act.put, List.setIfInBounds_toArray, List.set_cons_zero, List.set_cons_succ])
              refine rg_one (i := 5) (by kernel_rfl) rfl rfl (fun K hK => ?_)
              refine wp_callf rfl ent16 (set_ok a b (x : Int) la.out lb.out true HX.out _) rfl (fun v w1 hr => ?_)
              obtain ⟨rfl, hb1⟩ := hr
              replace H := H.grow hb1
              clear hb1
              clear HS
              have HS := H
              refine hK.out _ _ HS ?_
              clear hK K
              simp only [Act.put, List.setIfInBounds_toArray, List.set_cons_zero, List.set_cons_succ]
              refine rg_take (i := 6) rfl (by kernel_rfl) (by kernel_rfl) (by kernel_rfl) (Yld.of rfl (fun W _ => by go_simp; first | done | with_reducible rfl)) HS ?_; simp only [Act.put, List.setIfInBounds_toArray, List.set_cons_zero, List.set_cons_succ]
              refine rg_take (i := 7) rfl (by kernel_rfl) (by kernel_rfl) (by kernel_rfl) (Yld.move rfl rfl) HS ?_; simp only [Act.put, eval_tmp, eval_const, getD_lit0, getD_lits, if_true, if_false, List.setIfInBounds_toArray, List.set_cons_zero, List.set_cons_succ]
              refine rg_take (i := 8) rfl (by kernel_rfl) (by kernel_rfl) (by kernel_rfl) (Yld.move rfl rfl) HS ?_; simp only [Act.put, eval_tmp, eval_const, getD_lit0, getD_lits, if_true, if_false, List.setIfInBounds_toArray, List.set_cons_zero, List.set_cons_succ]
              refine rg_take (i := 9) rfl (by kernel_rfl) (by kernel_rfl) (by kernel_rfl) (Yld.of rfl (fun W _ => by go_simp; first | done | with_reducible rfl)) HS ?_; simp only [Act.put, List.setIfInBounds_toArray, List.set_cons_zero, List.set_cons_succ]
              refine rg_take (i := 10) rfl (by kernel_rfl) (by kernel_rfl) (by kernel_rfl) (Yld.move rfl rfl) HS ?_; simp only [Act.put, eval_tmp, eval_const, getD_lit0, getD_lits, if_true, if_false, List.setIfInBounds_toArray, List.set_cons_zero, List.set_cons_succ]
              refine rg_take (i := 11) rfl (by kernel_rfl) (by kernel_rfl) (by kernel_rfl) (Yld.move rfl rfl) HS ?_; simp only [Act.put, eval_tmp, eval_const, getD_lit0, getD_lits, if_true, if_false, List.setIfInBounds_toArray, List.set_cons_zero, List.set_cons_succ]
              refine rg_take (i := 12) rfl (by kernel_rfl) (by kernel_rfl) (by kernel_rfl) (Yld.move rfl rfl) HS ?_; simp only [Act.put, eval_tmp, eval_const, getD_lit0, getD_lits, if_true, if_false, List.setIfInBounds_toArray, List.set_cons_zero, List.set_cons_succ]
              refine rg_take (i := 13) rfl (by kernel_rfl) (by kernel_rfl) (by kernel_rfl) (Yld.of rfl (fun W _ => by go_simp; first | done | with_reducible rfl)) HS ?_; simp only [Act.put, List.setIfInBounds_toArray, List.set_cons_zero, List.set_cons_succ]
              refine rg_take (i := 14) rfl (by kernel_rfl) (by kernel_rfl) (by kernel_rfl) (Yld.of rfl (fun W _ => by go_simp; first | done | with_reducible rfl)) HS ?_; simp only [Act.put, List.setIfInBounds_toArray, List.set_cons_zero, List.set_cons_succ]
              first | (refine rg_take (i := 15) rfl (by kernel_rfl) (by kernel_rfl) (by kernel_rfl) (Yld.ldc rfl rfl agg3 rfl (by repeat (first | exact List.mem_cons_self | apply List.mem_cons_of_mem)) (by first | exact hck | exact hck1 | (repeat (first | exact lit0 _ _ | apply lits)) | rfl | assumption)) HS ?_; simp only [Act.put, List.setIfInBounds_toArray, List.set_cons_zero, List.set_cons_succ]) | (refine rg_take (i := 15) rfl (by kernel_rfl) (by kernel_rfl) (by kernel_rfl) (Yld.ldo rfl rfl agg3 rfl (by assumption) (by assumption)) HS ?_; simp only [Act.put, List.setIfInBounds_toArray, List.set_cons_zero, List.set_cons_succ])
              refine rg_take (i := 16) rfl (by kernel_rfl) (by kernel_rfl) (by kernel_rfl) (Yld.move rfl rfl) HS ?_; simp only [Act.put, eval_tmp, eval_const, getD_lit0, getD_lits, if_true, if_false, List.setIfInBounds_toArray, List.set_cons_zero, List.set_cons_succ]
              refine rg_take (i := 17) rfl (by kernel_rfl) (by kernel_rfl) (by kernel_rfl) (Yld.move rfl rfl) HS ?_; simp only [Act.put, eval_tmp, eval_const, getD_lit0, getD_lits, if_true, if_false, List.setIfInBounds_toArray, List.set_cons_zero, List.set_cons_succ]
              refine rg_take (i := 18) rfl (by kernel_rfl) (by kernel_rfl) (by kernel_rfl) (Yld.of rfl (fun W _ => by go_simp; first | done | with_reducible rfl)) HS ?_; simp only [Act.put, List.setIfInBounds_toArray, List.set_cons_zero, List.set_cons_succ]
              first | (refine rg_take (i := 19) rfl (by kernel_rfl) (by kernel_rfl) (by kernel_rfl) (Yld.ldc rfl rfl agg3 rfl (by repeat (first | exact List.mem_cons_self | apply List.mem_cons_of_mem)) (by first | exact hck | exact hck1 | (repeat (first | exact lit0 _ _ | apply lits)) | rfl | assumption)) HS ?_; simp only [Act.put, List.setIfInBounds_toArray, List.set_cons_zero, List.set_cons_succ]) | (refine rg_take (i := 19) rfl (by kernel_rfl) (by kernel_rfl) (by kernel_rfl) (Yld.ldo rfl rfl agg3 rfl (by assumption) (by assumption)) HS ?_; simp only [Act.put, List.setIfInBounds_toArray, List.set_cons_zero, List.set_cons_succ])
              refine rg_take (i := 20) rfl (by kernel_rfl) (by kernel_rfl) (by kernel_rfl) (Yld.of rfl (fun W _ => by go_simp; first | done | with_reducible rfl)) HS ?_; simp only [Act.put, List.setIfInBounds_toArray, List.set_cons_zero, List.set_cons_succ]
              refine rg_take (i := 21) rfl (by kernel_rfl) (by kernel_rfl) (by kernel_rfl) (Yld.pick rfl rfl rfl) HS ?_; simp only [Act.put, eval_tmp, eval_const, getD_lit0, getD_lits, if_true, if_false, List.setIfInBounds_toArray, List.set_cons_zero, List.set_cons_succ]
              refine rg_take (i := 22) rfl (by kernel_rfl) (by kernel_rfl) (by kernel_rfl) (Yld.pick rfl rfl rfl) HS ?_; simp only [Act.put, eval_tmp, eval_const, getD_lit0, getD_lits, if_true, if_false, List.setIfInBounds_toArray, List.set_cons_zero, List.set_cons_succ]
              refine rg_done (by kernel_rfl) ?_
              go_wp2_with (first | (with_reducible refine wpl rfl (Stp.box 3 rfl rfl rfl H ?_); clear H; intro g3 w1 H; simp only [Act.put, List.setIfInBounds_toArray, List.set_cons_zero, List.set_cons_succ]; simp only [eval_tmp, eval_const, getD_lit0, getD_lits, cells_agg, cells_int, cells_bool, cells_string, cells_pointer, cells_slice, cells_map, List.setIfInBounds_toArray, List.set_cons_zero, List.set_cons_succ] at H) | (with_reducible refine wpl rfl (Stp.alloc 5 rfl rfl zero32 H ?_); clear H; intro g5 w1 H; simp only [Act.put, List.setIfInBounds_toArray, List.set_cons_zero, List.set_cons_succ]; simp only [cells_agg, cells_int, cells_bool, cells_string, cells_pointer, cells_slice, cells_map] at H) | (with_reducible refine wpl rfl (Stp.ldc rfl agg3 rfl H (by repeat (first | exact List.mem_cons_self | apply List.mem_cons_of_mem)) (by first | exact hck | exact hck1 | (repeat (first | exact lit0 _ _ | apply lits)) | rfl | assumption) ?_); simp only [Act.put, List.setIfInBounds_toArray, List.set_cons_zero, List.set_cons_succ]) | (with_reducible refine wpl rfl (Stp.ldo rfl agg3 rfl H (by assumption) (by assumption) ?_); simp only [Act.put, List.setIfInBounds_toArray, List.set_cons_zero, List.set_cons_succ]) | (with_reducible refine wpl rfl (Stp.stc rfl size4 rfl rfl rfl rfl H (by repeat (first | exact Upd.head | apply Upd.tail)) (by first | (rw [BA_size]; omega) | omega | (simp; done) | (simp; omega)) ?_); clear H; intro w1 H; simp only [Act.put, List.setIfInBounds_toArray, List.set_cons_zero, List.set_cons_succ]; simp only [eval_tmp, eval_const, getD_lit0, getD_lits, cells_agg, cells_int, cells_bool, cells_string, cells_pointer, cells_slice, cells_map, List.setIfInBounds_toArray, List.set_cons_zero, List.set_cons_succ] at H) | (with_reducible refine wpl rfl (Stp.ldr rfl agg24 size24 rfl H (by repeat (first | exact List.mem_cons_self | apply List.mem_cons_of_mem)) (by first | exact BA_size _ | rfl | (simp; done) | assumption) ?_); simp only [Act.put, List.setIfInBounds_toArray, List.set_cons_zero, List.set_cons_succ]) | (with_reducible refine wpl rfl (Stp.ldor rfl agg24 size24 rfl H (by assumption) (by first | exact BA_size _ | rfl | (simp; done) | assumption) (by assumption) ?_); simp only [Act.put, List.setIfInBounds_toArray, List.set_cons_zero, List.set_cons_succ]))
              go_roundw
              case rel => exact ⟨j + 2, by omega, by go_num, H⟩
              case measure => simp [intOf]; omega
          · obtain rfl : n = k := by omega
            go_wp2_with (first | (with_reducible refine wpl rfl (Stp.box 3 rfl rfl rfl H ?_); clear H; intro g3 w1 H; simp only [Act.put, List.setIfInBounds_toArray, List.set_cons_zero, List.set_cons_succ]; simp only [eval_tmp, eval_const, getD_lit0, getD_lits, cells_agg, cells_int, cells_bool, cells_string, cells_pointer, cells_slice, cells_map, List.setIfInBounds_toArray, List.set_cons_zero, List.set_cons_succ] at H) | (with_reducible refine wpl rfl (Stp.alloc 5 rfl rfl zero32 H ?_); clear H; intro g5 w1 H; simp only [Act.put, List.setIfInBounds_toArray, List.set_cons_zero, List.set_cons_succ]; simp only [cells_agg, cells_int, cells_bool, cells_string, cells_pointer, cells_slice, cells_map] at H) | (with_reducible refine wpl rfl (Stp.ldc rfl agg3 rfl H (by repeat (first | exact List.mem_cons_self | apply List.mem_cons_of_mem)) (by first | exact hck | exact hck1 | (repeat (first | exact lit0 _ _ | apply lits)) | rfl | assumption) ?_); simp only [Act.put, List.setIfInBounds_toArray, List.set_cons_zero, List.set_cons_succ]) | (with_reducible refine wpl rfl (Stp.ldo rfl agg3 rfl H (by assumption) (by assumption) ?_); simp only [Act.put, List.setIfInBounds_toArray, List.set_cons_zero, List.set_cons_succ]) | (with_reducible refine wpl rfl (Stp.stc rfl size4 rfl rfl rfl rfl H (by repeat (first | exact Upd.head | apply Upd.tail)) (by first | (rw [BA_size]; omega) | omega | (simp; done) | (simp; omega)) ?_); clear H; intro w1 H; simp only [Act.put, List.setIfInBounds_toArray, List.set_cons_zero, List.set_cons_succ]; simp only [eval_tmp, eval_const, getD_lit0, getD_lits, cells_agg, cells_int, cells_bool, cells_string, cells_pointer, cells_slice, cells_map, List.setIfInBounds_toArray, List.set_cons_zero, List.set_cons_succ] at H) | (with_reducible refine wpl rfl (Stp.ldr rfl agg24 size24 rfl H (by repeat (first | exact List.mem_cons_self | apply List.mem_cons_of_mem)) (by first | exact BA_size _ | rfl | (simp; done) | assumption) ?_); simp only [Act.put, List.setIfInBounds_toArray, List.set_cons_zero, List.set_cons_succ]) | (with_reducible refine wpl rfl (Stp.ldor rfl agg24 size24 rfl H (by assumption) (by first | exact BA_size _ | rfl | (simp; done) | assumption) (by assumption) ?_); simp only [Act.put, List.setIfInBounds_toArray, List.set_cons_zero, List.set_cons_succ]))
            refine rg_begin 15 rfl (S := fun W => St _ _ W _) (by kernel_rfl) H.drew ?_
            replace H := H.drew
            have HS := H
            refine rg_take (i := 0) rfl (by kernel_rfl) (by kernel_rfl) (by kernel_rfl) (Yld.move rfl rfl) HS ?_; simp only [Act.put, eval_tmp, eval_const, getD_lit0, getD_lits, if_true, if_false, List.setIfInBounds_toArray, List.set_cons_zero, List.set_cons_succ]
            refine rg_take (i := 1) rfl (by kernel_rfl) (by kernel_rfl) (by kernel_rfl) (Yld.of rfl (fun W _ => by go_simp; first | done | with_reducible rfl)) HS ?_; simp only [Act.put, List.setIfInBounds_toArray, List.set_cons_zero, List.set_cons_succ]
            first | (refine rg_take (i := 2) rfl (by kernel_rfl) (by kernel_rfl) (by kernel_rfl) (Yld.ldr rfl rfl agg24 size24 rfl (by repeat (first | exact List.mem_cons_self | apply List.mem_cons_of_mem)) (by first | exact BA_size _ | rfl | (simp; done) | assumption)) HS ?_; simp only [Act.put, List.setIfInBounds_toArray, List.set_cons_zero, List.set_cons_succ]) | (refine rg_take (i := 2) rfl (by kernel_rfl) (by kernel_rfl) (by kernel_rfl) (Yld.ldor rfl rfl agg24 size24 rfl (by assumption) (by first | exact BA_size _ | rfl | (simp; done) | assumption) (by assumption)) HS ?_; simp only [Act.put, List.setIfInBounds_toArray, List.set_cons_zero, List.set_cons_succ])
            refine rg_one (i := 3) (by kernel_rfl) rfl rfl (fun K hK => ?_)
            refine wp_callf rfl ent21 (rcount_as a b n la.out lb.out HPL.out _) rfl (fun v w1 hr => ?_)
            obtain ⟨rfl, hb1⟩ := hr
            replace H := H.grow hb1
            clear hb1
            clear HS
            have HS := H
            refine hK.out _ _ HS ?_
            clear hK K
            simp only [Act.put, List.setIfInBounds_toArray, List.set_cons_zero, List.set_cons_succ]
            refine rg_take (i := 4) rfl (by kernel_rfl) (by kernel_rfl) (by kernel_rfl) (Yld.of rfl (fun W _ => by go_simp; first | done | with_reducible rfl)) HS ?_; simp only [Act.put, List.setIfInBounds_toArray, List.set_cons_zero, List.set_cons_succ]
            refine rg_take (i := 5) rfl (by kernel_rfl) (by kernel_rfl) (by kernel_rfl) (Yld.move rfl rfl) HS ?_; simp only [Act.put, eval_tmp, eval_const, getD_lit0, getD_lits, if_true, if_false, List.setIfInBounds_toArray, List.set_cons_zero, List.set_cons_succ]
            refine rg_take (i := 6) rfl (by kernel_rfl) (by kernel_rfl) (by kernel_rfl) (Yld.move rfl rfl) HS ?_; simp only [Act.put, eval_tmp, eval_const, getD_lit0, getD_lits, if_true, if_false, List.setIfInBounds_toArray, List.set_cons_zero, List.set_cons_succ]
            first | (refine rg_take (i := 8) rfl (by kernel_rfl) (by kernel_rfl) (by kernel_rfl) (Yld.ldr rfl rfl agg24 size24 rfl (by repeat (first | exact List.mem_cons_self | apply List.mem_cons_of_mem)) (by first | exact BA_size _ | rfl | (simp; done) | assumption)) HS ?_; simp only [Act.put, List.setIfInBounds_toArray, List.set_cons_zero, List.set_cons_succ]) | (refine rg_take (i := 8) rfl (by kernel_rfl) (by kernel_rfl) (by kernel_rfl) (Yld.ldor rfl rfl agg24 size24 rfl (by assumption) (by first | exact BA_size _ | rfl | (simp; done) | assumption) (by assumption)) HS ?_; simp only [Act.put, List.setIfInBounds_toArray, List.set_cons_zero, List.set_cons_succ])
            refine rg_one (i := 7) (by kernel_rfl) rfl rfl (fun K hK => ?_)
            refine wp_callf rfl ent20 (of_ok (.slice ar n cr) ((rkN (a, b) 128).map fun (x : Nat) => (x : Int)) a b HOL.out _ (hsl.grow H.below)) rfl (fun v w1 hr => ?_)
            obtain ⟨rfl, hb1⟩ := hr
            replace H := H.grow hb1
            clear hb1
            clear HS
            have HS := H
            refine hK.out _ _ HS ?_
            clear hK K
            simp only [Act.put, List.setIfInBounds_toArray, List.set_cons_zero, List.set_cons_succ]
            refine rg_take (i := 9) rfl (by kernel_rfl) (by kernel_rfl) (by kernel_rfl) (Yld.of rfl (fun W _ => by go_simp; first | done | with_reducible rfl)) HS ?_; simp only [Act.put, List.setIfInBounds_toArray, List.set_cons_zero, List.set_cons_succ]
            refine rg_take (i := 10) rfl (by kernel_rfl) (by kernel_rfl) (by kernel_rfl) (Yld.pick rfl rfl rfl) HS ?_; simp only [Act.put, eval_tmp, eval_const, getD_lit0, getD_lits, if_true, if_false, List.setIfInBounds_toArray, List.set_cons_zero, List.set_cons_succ]
            refine rg_take (i := 11) rfl (by kernel_rfl) (by kernel_rfl) (by kernel_rfl) (Yld.move rfl rfl) HS ?_; simp only [Act.put, eval_tmp, eval_const, getD_lit0, getD_lits, if_true, if_false, List.setIfInBounds_toArray, List.set_cons_zero, List.set_cons_succ]
            refine rg_one (i := 12) (by kernel_rfl) rfl rfl (fun K hK => ?_)
            refine wp_callf rfl ent9 (awake_ok _) rfl (fun v w1 hr => ?_)
            obtain ⟨rfl, hb1⟩ := hr
            replace H := H.grow hb1
            clear hb1
            clear HS
            have HS := H
            refine hK.out _ _ HS ?_
            clear hK K
            simp only [Act.put, List.setIfInBounds_toArray, List.set_cons_zero, List.set_cons_succ]
            refine rg_take (i := 13) rfl (by kernel_rfl) (by kernel_rfl) (by kernel_rfl) (Yld.pick rfl rfl rfl) HS ?_; simp only [Act.put, eval_tmp, eval_const, getD_lit0, getD_lits, if_true, if_false, List.setIfInBounds_toArray, List.set_cons_zero, List.set_cons_succ]
            refine rg_take (i := 14) rfl (by kernel_rfl) (by kernel_rfl) (by kernel_rfl) (Yld.assign rfl rfl) HS ?_; simp only [Act.put, eval_tmp, eval_const, getD_lit0, getD_lits, if_true, if_false, List.setIfInBounds_toArray, List.set_cons_zero, List.set_cons_succ]
            refine rg_done (by kernel_rfl) ?_
            go_wp2
            go_ret
            exact ⟨_, rfl, rfl, (HO.grow H.below).below⟩
set_option maxRecDepth 100000 in
theorem maskLists_lifted (os : Os) (started : os.Started) (H : Type) (enc : TypeId × Value → H) :
    ReturnsInHanded {} Try.checked os 5 .any (Rows.maskListsSpec.pre6 enc Try.prog Try.f5 Rows.maskListsRow.domain false) (Rows.maskListsSpec.post enc Try.prog Try.f5 false true false false) := by
  refine law_lifted (C := Try.checked) own started (by kernel_rfl) Try.func5 laidOut rfl Try.underlying4 rfl (by kernel_rfl) (fun ds hd => ?_)
    (ChangeSpec.witness6 (enc := enc) (C := Try.checked) false ⟨#[], #[.slice none 0 0, .agg #[.int .u64 0, .int .u64 0]], []⟩ 8 (by kernel_rfl) (by kernel_rfl) (by kernel_rfl) (by kernel_rfl)) ?_
  · match ds, hd with
    | [d0, d1], _ => exact ⟨rfl, rfl, rfl⟩
  intro W base args ds p hval hA
  rw [Try.params5] at hA hval
  obtain ⟨v0, vs0, d0, ds0, p0, q0, hargs, rfl, rfl, h0, r0⟩ := trodAll_cons hA
  obtain ⟨v1, vs1, d1, ds1, p1, q1, rfl, rfl, rfl, h1, r1⟩ := trodAll_cons r0
  obtain ⟨rfl, rfl, rfl⟩ := trodAll_nil r1
  obtain rfl : args = #[v0, v1] := by cases args; simp_all
  obtain ⟨l, hs⟩ := open_is (hval 0 37 v0 rfl rfl) h0
  obtain ⟨a, b, rfl, al, bl⟩ := open_M (hval 1 24 v1 rfl rfl) h1
  exact law_lists _ l a b al bl W hs
theorem maskLists_over : Rows.maskListsRow.holds Try.pinned (OpenSpec.ofChange Rows.maskListsSpec) :=
  OpenClaim.holds_of_wide 5 Try.f5 rfl rfl rfl rfl rfl rfl rfl ⟨rfl, rfl, rfl, rfl, rfl⟩ rfl rfl rfl rfl rfl (by kernel_rfl) Try.func5 (by kernel_rfl)
    (of_decide_eq_true (by kernel_rfl)) (by unfold Func.isWrapper; first | (rw [if_pos (by decide +kernel)]; kernel_rfl) | (rw [if_neg (by decide +kernel)]; exact ⟨rfl, rfl⟩))
    (fun os started H enc _ => maskLists_lifted os started H enc)
theorem maskLists_holds : Rows.MaskListsSaid := maskLists_over
#print axioms maskLists_holds
end Go.Proofs.Ytcgogcolfbpcfaa
