/- Contracts of layer 1's references Form, Same, Width, Lent, Kept; the bounds on lengths stand in each. -/
import Derived.Test.YtmeampigomhdpaaBits2
namespace Go.Proofs.Ytmeampigomhdpaa
open Go.ChangeShapes Go.WideShapes Go.ChangeAt Go.RowKit
set_option linter.unusedVariables false
set_option linter.unusedSimpArgs false
/-- Some bytes' slice, one of its bytes. -/
theorem Sl.byte {w : World} {a : Option Addr} {c : Nat} {l : List Nat} (h : Sl w 1 l.length (.slice a l.length c) (elB l)) {k : Nat} (hk : k < l.length) :
    ∃ b off, a = some ⟨b, off, none⟩ ∧ b < w.heap.size ∧ w.cell? ⟨b, off + k, none⟩ = some (.int .u8 ((l.getD k 0 : Nat) : Int)) := by
  obtain ⟨a', c', e, hm, hE⟩ := h
  injection e with e1 e2 e3
  subst e1
  obtain ⟨b, off, rfl, hb, hc⟩ := hE (by omega)
  refine ⟨b, off, rfl, hb, ?_⟩
  have := hc k hk 0 (by omega)
  rw [Nat.mul_one, Nat.add_zero] at this
  rw [this]; simp [elB]
theorem Sl.len {w : World} {v : Value} {l : List Nat} (h : Sl w 1 l.length v (elB l)) : ∃ a c, v = .slice a l.length c ∧ l.length ≤ 9223372036854775807 := by
  obtain ⟨a, c, rfl, hm, _⟩ := h
  exact ⟨a, c, rfl, by unfold maxLen at hm; omega⟩
theorem take_snoc (l : List Nat) (k : Nat) (h : k < l.length) : l.take (k + 1) = l.take k ++ [l.getD k 0] := by
  rw [List.take_succ_eq_append_getElem h]; simp [List.getD, h]
theorem same_ok (va vb : Value) (la lb : List Nat) (w : World) (ha : Sl w 1 la.length va (elB la)) (hb : Sl w 1 lb.length vb (elB lb)) :
    Calls Try.prog 18 #[va, vb] w (Ret fun v w' => v = .bool (la == lb) ∧ Below w.heap.size w w') := by
  have ha' := ha
  have hb' := hb
  obtain ⟨aa, ca, rfl, hma⟩ := ha'.len
  obtain ⟨ab, cb, rfl, hmb⟩ := hb'.len
  have H := St.init w
  by_cases hlen : la.length = lb.length
  · have h1 : ((la.length : Int) != (lb.length : Int)) = false := by simp [hlen]
    have HL := Lib.hid hlen
    clear hlen
    go_enter Try.func18, Try.ntmps18
    go_wp2_with fail
    go_loopw [5] (fun i wr => ∃ k : Nat, k ≤ la.length ∧ i = .int .i64 k ∧ la.take k = lb.take k ∧ St w.heap.size w wr []) (fun i _ => la.length - (intOf i).toNat)
    case atStart => exact ⟨0, Nat.zero_le _, rfl, rfl, H⟩
    case round =>
      clear H
      obtain ⟨k, hk, rfl, ht, H⟩ := hrel
      have HT := Lib.hid ht
      clear ht
      by_cases hlt : k < la.length
      · have hlt2 : k < lb.length := by have := HL.out; omega
        obtain ⟨b1, o1, rfl, hb1, hc1⟩ := ha.byte hlt
        obtain ⟨b2, o2, rfl, hb2, hc2⟩ := hb.byte hlt2
        have hs1 := take_snoc la k hlt
        have hs2 := take_snoc lb k hlt2
        have HS1 := Lib.hid hs1
        have HS2 := Lib.hid hs2
        clear hs1 hs2
        by_cases he : la.getD k 0 = lb.getD k 0
        · have hne : (((la.getD k 0 : Nat) : Int) != ((lb.getD k 0 : Nat) : Int)) = false := by rw [he]; exact bne_self_eq_false _
          have HE := Lib.hid he
          clear he
          obtain ⟨x, hx⟩ : ∃ x : Int, x = ((la.getD k 0 : Nat) : Int) := ⟨_, rfl⟩
          obtain ⟨y, hy⟩ : ∃ y : Int, y = ((lb.getD k 0 : Nat) : Int) := ⟨_, rfl⟩
          rw [← hx] at hc1 hne
          rw [← hy] at hc2 hne
          clear hx hy
          go_wp2_with fail
          refine rg_begin 9 rfl (S := fun W => St _ _ W _) (by kernel_rfl) H.drew ?_
          replace H := H.drew
          have HS := H
          refine rg_take (i := 0) rfl (by kernel_rfl) (by kernel_rfl) (by kernel_rfl) (Yld.move rfl rfl) HS ?_; simp only [Act.put, eval_tmp, eval_const, getD_lit0, getD_lits, if_true, if_false, List.setIfInBounds_toArray, List.set_cons_zero, List.set_cons_succ]
          refine rg_take (i := 1) rfl (by kernel_rfl) (by kernel_rfl) (by kernel_rfl) (Yld.move rfl rfl) HS ?_; simp only [Act.put, eval_tmp, eval_const, getD_lit0, getD_lits, if_true, if_false, List.setIfInBounds_toArray, List.set_cons_zero, List.set_cons_succ]
          refine rg_take (i := 2) rfl (by kernel_rfl) (by kernel_rfl) (by kernel_rfl) (Yld.of rfl (fun W _ => by go_simp; first | done | with_reducible rfl)) HS ?_; simp only [Act.put, List.setIfInBounds_toArray, List.set_cons_zero, List.set_cons_succ]
          first | (refine rg_take (i := 3) rfl (by kernel_rfl) (by kernel_rfl) (by kernel_rfl) (Yld.ldc rfl rfl agg5 rfl (by repeat (first | exact List.mem_cons_self | apply List.mem_cons_of_mem)) (by first | (repeat (first | exact lit0 _ _ | apply lits)) | rfl | assumption)) HS ?_; simp only [Act.put, List.setIfInBounds_toArray, List.set_cons_zero, List.set_cons_succ]) | (refine rg_take (i := 3) rfl (by kernel_rfl) (by kernel_rfl) (by kernel_rfl) (Yld.ldo rfl rfl agg5 rfl (by assumption) (by assumption)) HS ?_; simp only [Act.put, List.setIfInBounds_toArray, List.set_cons_zero, List.set_cons_succ])
          refine rg_take (i := 4) rfl (by kernel_rfl) (by kernel_rfl) (by kernel_rfl) (Yld.move rfl rfl) HS ?_; simp only [Act.put, eval_tmp, eval_const, getD_lit0, getD_lits, if_true, if_false, List.setIfInBounds_toArray, List.set_cons_zero, List.set_cons_succ]
          refine rg_take (i := 5) rfl (by kernel_rfl) (by kernel_rfl) (by kernel_rfl) (Yld.move rfl rfl) HS ?_; simp only [Act.put, eval_tmp, eval_const, getD_lit0, getD_lits, if_true, if_false, List.setIfInBounds_toArray, List.set_cons_zero, List.set_cons_succ]
          refine rg_take (i := 6) rfl (by kernel_rfl) (by kernel_rfl) (by kernel_rfl) (Yld.of rfl (fun W _ => by go_simp; first | done | with_reducible rfl)) HS ?_; simp only [Act.put, List.setIfInBounds_toArray, List.set_cons_zero, List.set_cons_succ]
          first | (refine rg_take (i := 7) rfl (by kernel_rfl) (by kernel_rfl) (by kernel_rfl) (Yld.ldc rfl rfl agg5 rfl (by repeat (first | exact List.mem_cons_self | apply List.mem_cons_of_mem)) (by first | (repeat (first | exact lit0 _ _ | apply lits)) | rfl | assumption)) HS ?_; simp only [Act.put, List.setIfInBounds_toArray, List.set_cons_zero, List.set_cons_succ]) | (refine rg_take (i := 7) rfl (by kernel_rfl) (by kernel_rfl) (by kernel_rfl) (Yld.ldo rfl rfl agg5 rfl (by assumption) (by assumption)) HS ?_; simp only [Act.put, List.setIfInBounds_toArray, List.set_cons_zero, List.set_cons_succ])
          refine rg_take (i := 8) rfl (by kernel_rfl) (by kernel_rfl) (by kernel_rfl) (Yld.of rfl (fun W _ => by go_simp; first | done | with_reducible rfl)) HS ?_; simp only [Act.put, List.setIfInBounds_toArray, List.set_cons_zero, List.set_cons_succ]
          refine rg_done (by kernel_rfl) ?_
          go_wp2_with fail
          go_roundw
          case rel => exact ⟨k + 1, by omega, by go_num, by rw [HS1.out, HS2.out, HT.out, HE.out], H⟩
          case measure => simp [intOf]; omega
        · have hne : (((la.getD k 0 : Nat) : Int) != ((lb.getD k 0 : Nat) : Int)) = true := bne_iff_ne.2 (by omega)
          have HE := Lib.hid he
          clear he
          obtain ⟨x, hx⟩ : ∃ x : Int, x = ((la.getD k 0 : Nat) : Int) := ⟨_, rfl⟩
          obtain ⟨y, hy⟩ : ∃ y : Int, y = ((lb.getD k 0 : Nat) : Int) := ⟨_, rfl⟩
          rw [← hx] at hc1 hne
          rw [← hy] at hc2 hne
          clear hx hy
          go_wp2_with fail
          refine rg_begin 9 rfl (S := fun W => St _ _ W _) (by kernel_rfl) H.drew ?_
          replace H := H.drew
          have HS := H
          refine rg_take (i := 0) rfl (by kernel_rfl) (by kernel_rfl) (by kernel_rfl) (Yld.move rfl rfl) HS ?_; simp only [Act.put, eval_tmp, eval_const, getD_lit0, getD_lits, if_true, if_false, List.setIfInBounds_toArray, List.set_cons_zero, List.set_cons_succ]
          refine rg_take (i := 1) rfl (by kernel_rfl) (by kernel_rfl) (by kernel_rfl) (Yld.move rfl rfl) HS ?_; simp only [Act.put, eval_tmp, eval_const, getD_lit0, getD_lits, if_true, if_false, List.setIfInBounds_toArray, List.set_cons_zero, List.set_cons_succ]
          refine rg_take (i := 2) rfl (by kernel_rfl) (by kernel_rfl) (by kernel_rfl) (Yld.of rfl (fun W _ => by go_simp; first | done | with_reducible rfl)) HS ?_; simp only [Act.put, List.setIfInBounds_toArray, List.set_cons_zero, List.set_cons_succ]
          first | (refine rg_take (i := 3) rfl (by kernel_rfl) (by kernel_rfl) (by kernel_rfl) (Yld.ldc rfl rfl agg5 rfl (by repeat (first | exact List.mem_cons_self | apply List.mem_cons_of_mem)) (by first | (repeat (first | exact lit0 _ _ | apply lits)) | rfl | assumption)) HS ?_; simp only [Act.put, List.setIfInBounds_toArray, List.set_cons_zero, List.set_cons_succ]) | (refine rg_take (i := 3) rfl (by kernel_rfl) (by kernel_rfl) (by kernel_rfl) (Yld.ldo rfl rfl agg5 rfl (by assumption) (by assumption)) HS ?_; simp only [Act.put, List.setIfInBounds_toArray, List.set_cons_zero, List.set_cons_succ])
          refine rg_take (i := 4) rfl (by kernel_rfl) (by kernel_rfl) (by kernel_rfl) (Yld.move rfl rfl) HS ?_; simp only [Act.put, eval_tmp, eval_const, getD_lit0, getD_lits, if_true, if_false, List.setIfInBounds_toArray, List.set_cons_zero, List.set_cons_succ]
          refine rg_take (i := 5) rfl (by kernel_rfl) (by kernel_rfl) (by kernel_rfl) (Yld.move rfl rfl) HS ?_; simp only [Act.put, eval_tmp, eval_const, getD_lit0, getD_lits, if_true, if_false, List.setIfInBounds_toArray, List.set_cons_zero, List.set_cons_succ]
          refine rg_take (i := 6) rfl (by kernel_rfl) (by kernel_rfl) (by kernel_rfl) (Yld.of rfl (fun W _ => by go_simp; first | done | with_reducible rfl)) HS ?_; simp only [Act.put, List.setIfInBounds_toArray, List.set_cons_zero, List.set_cons_succ]
          first | (refine rg_take (i := 7) rfl (by kernel_rfl) (by kernel_rfl) (by kernel_rfl) (Yld.ldc rfl rfl agg5 rfl (by repeat (first | exact List.mem_cons_self | apply List.mem_cons_of_mem)) (by first | (repeat (first | exact lit0 _ _ | apply lits)) | rfl | assumption)) HS ?_; simp only [Act.put, List.setIfInBounds_toArray, List.set_cons_zero, List.set_cons_succ]) | (refine rg_take (i := 7) rfl (by kernel_rfl) (by kernel_rfl) (by kernel_rfl) (Yld.ldo rfl rfl agg5 rfl (by assumption) (by assumption)) HS ?_; simp only [Act.put, List.setIfInBounds_toArray, List.set_cons_zero, List.set_cons_succ])
          refine rg_take (i := 8) rfl (by kernel_rfl) (by kernel_rfl) (by kernel_rfl) (Yld.of rfl (fun W _ => by go_simp; first | done | with_reducible rfl)) HS ?_; simp only [Act.put, List.setIfInBounds_toArray, List.set_cons_zero, List.set_cons_succ]
          refine rg_done (by kernel_rfl) ?_
          go_wp2_with fail
          go_ret
          refine ⟨_, rfl, ?_, H.below⟩
          have : (la == lb) = false := by
            simp only [beq_eq_false_iff_ne]; rintro rfl; exact HE.out rfl
          rw [this]; rfl
      · obtain rfl : k = la.length := by omega
        go_wp2_with fail
        go_ret
        refine ⟨_, rfl, ?_, H.below⟩
        have h2 := HT.out
        rw [List.take_length, HL.out, List.take_length] at h2
        rw [h2]; simp
  · have h1 : ((la.length : Int) != (lb.length : Int)) = true := by simp; omega
    go_enter Try.func18, Try.ntmps18
    go_wp2_with fail
    go_ret
    refine ⟨_, rfl, ?_, H.below⟩
    have : (la == lb) = false := by
      simp only [beq_eq_false_iff_ne]; rintro rfl; exact hlen rfl
    rw [this]; rfl
theorem rwidth_ok (n : Int) (w : World) : Calls Try.prog 16 #[.int .i64 n] w (Ret fun v w' => v = .bool (wide n) ∧ Below w.heap.size w w') := by
  have H := St.init w
  by_cases h1 : n = 1
  · subst h1
    go_enter Try.func16, Try.ntmps16
    go_wp2
    go_ret
    exact ⟨_, rfl, rfl, H.below⟩
  by_cases h2 : n = 2
  · subst h2
    go_enter Try.func16, Try.ntmps16
    go_wp2
    go_ret
    exact ⟨_, rfl, rfl, H.below⟩
  by_cases h4 : n = 4
  · subst h4
    go_enter Try.func16, Try.ntmps16
    go_wp2
    go_ret
    exact ⟨_, rfl, rfl, H.below⟩
  by_cases h8 : n = 8
  · subst h8
    go_enter Try.func16, Try.ntmps16
    go_wp2
    go_ret
    exact ⟨_, rfl, rfl, H.below⟩
  have b1 : (n == 1) = false := by simpa using h1
  have b2 : (n == 2) = false := by simpa using h2
  have b4 : (n == 4) = false := by simpa using h4
  have b8 : (n == 8) = false := by simpa using h8
  go_enter Try.func16, Try.ntmps16
  go_wp2
  go_ret
  exact ⟨_, rfl, by simp [wide, b1, b2, b4, b8], H.below⟩
theorem putB_cons (n k : Nat) : putB n (k + 1) (k + 1) = n / 256 ^ k % 256 :: putB n k k := by
  unfold putB
  rw [List.range_succ_eq_map]
  simp only [List.map_cons, List.map_map]
  congr 1
  refine List.map_congr_left fun j _ => ?_
  simp only [Function.comp]
  rw [show k + 1 - 1 - (j + 1) = k - 1 - j by omega]
theorem form_step (n W k : Nat) (hk : k < W) : ((bv (List.replicate (W - k) 0 ++ putB n k k)).set (W - 1 - k) (.int .u8 ((n / 256 ^ k % 256 : Nat) : Int))).toArray = (bv (List.replicate (W - (k + 1)) 0 ++ putB n (k + 1) (k + 1))).toArray := by
  rw [putB_cons]
  have e : List.replicate (W - k) 0 = List.replicate (W - (k + 1)) 0 ++ [0] := by
    rw [show W - k = (W - (k + 1)) + 1 by omega, List.replicate_succ']
  rw [e]
  simp only [bv, List.map_append]
  congr 1
  rw [List.append_assoc, List.set_append]
  rw [if_neg (by simp; omega)]
  simp only [List.length_map, List.length_replicate]
  rw [show W - 1 - k - (W - (k + 1)) = 0 by omega]
  simp
theorem wrap_u64_in (x : Int) (h0 : 0 ≤ x) (h1 : x < 18446744073709551616) : IntKind.u64.wrap x = x := by
  simp [IntKind.wrap, IntKind.signed, IntKind.bits]; omega
theorem form_ok (n : Nat) (hn : n < 18446744073709551616) (W : Nat) (hW0 : 1 ≤ W) (hW : W ≤ 8) (w : World) :
    Calls Try.prog 17 #[.int .u64 (n : Int), .int .i64 (W : Int)] w (Ret fun v w' => (∃ ap cp, v = .slice ap W cp) ∧ w'.ownsRow w.heap.size 5 1 v W (bv (putB n W W)) ∧ Below w.heap.size w w') := by
  have HN := Lib.hid hn
  clear hn
  have H := St.init w
  go_enter Try.func17, Try.ntmps17
  go_wp2_with (first | (with_reducible refine wpl rfl (Stp.mkr 8 rfl rfl Try.underlying22 info5 rfl rfl rfl (by omega) (by omega) (by omega) (by omega) H ?_); clear H; intro g8 w1 H; simp only [Act.put, List.setIfInBounds_toArray, List.set_cons_zero, List.set_cons_succ]; (try simp only [Int.toNat_natCast, toNat_add8] at H ⊢)) | (with_reducible refine wpl rfl (Stp.stc rfl size5 rfl rfl rfl rfl H (by repeat (first | exact Upd.head | apply Upd.tail)) (by first | assumption | (simp; omega) | omega | omega | (simp; done) | (simp; omega)) ?_); clear H; intro w1 H; simp only [Act.put, List.setIfInBounds_toArray, List.set_cons_zero, List.set_cons_succ]; simp only [eval_tmp, eval_const, getD_lit0, getD_lits, cells_agg, cells_int, cells_bool, cells_string, cells_pointer, cells_slice, cells_map, List.setIfInBounds_toArray, List.set_cons_zero, List.set_cons_succ] at H))
  go_loopw [0, 6] (fun m i wr => ∃ k : Nat, k ≤ W ∧ i = .int .i64 ((W : Int) - 1 - k) ∧ m = .int .u64 ((n / 256 ^ k : Nat) : Int) ∧ St w.heap.size w wr [row 5 g8 (bv (List.replicate (W - k) 0 ++ putB n k k)).toArray]) (fun _ i _ => (intOf i + 1).toNat)
  case atStart => exact ⟨0, Nat.zero_le _, by simp, by simp, by simpa [putB, bv] using H⟩
  case round =>
    clear H
    obtain ⟨k, hk, rfl, rfl, H⟩ := hrel
    have hlt64 : n / 256 ^ k < 18446744073709551616 := Nat.lt_of_le_of_lt (Nat.div_le_self _ _) HN.out
    have hsucc : n / 256 ^ k / 256 = n / 256 ^ (k + 1) := by rw [Nat.div_div_eq_div_mul, Nat.pow_succ]
    have HM := Lib.hid hlt64
    have HS := Lib.hid hsucc
    clear hlt64 hsucc
    by_cases hlt : k < W
    · have hsz : W - 1 - k < (bv (List.replicate (W - k) 0 ++ putB n k k)).toArray.size := by simp [bv, putB]; omega
      obtain ⟨m, hm⟩ : ∃ m : Nat, m = n / 256 ^ k := ⟨_, rfl⟩
      have HE := Lib.hid hm
      rw [← hm]
      clear hm
      go_wp2_with (first | (with_reducible refine wpl rfl (Stp.stc rfl size5 rfl rfl rfl rfl H (by repeat (first | exact Upd.head | apply Upd.tail)) (by first | assumption | (simp; omega) | omega | omega | (simp; done) | (simp; omega)) ?_); clear H; intro w1 H; simp only [Act.put, List.setIfInBounds_toArray, List.set_cons_zero, List.set_cons_succ]; simp only [eval_tmp, eval_const, getD_lit0, getD_lits, cells_agg, cells_int, cells_bool, cells_string, cells_pointer, cells_slice, cells_map, List.setIfInBounds_toArray, List.set_cons_zero, List.set_cons_succ] at H))
      have e1 : ((m : Int) % 256) = ((n / 256 ^ k % 256 : Nat) : Int) := by rw [HE.out, Int.natCast_emod]; rfl
      have e2 : IntKind.u64.wrap ((m : Int) / 256) = ((n / 256 ^ (k + 1) : Nat) : Int) := by
        rw [← HS.out, ← HE.out, Int.natCast_ediv]
        have := HM.out
        rw [← HE.out] at this
        exact wrap_u64_in _ (by omega) (by omega)
      rw [e1, form_step _ _ _ hlt] at H
      rw [e2]
      go_roundw
      case rel => exact ⟨k + 1, by omega, by congr 1; omega, rfl, H⟩
      case measure => simp [intOf]; omega
    · obtain rfl : k = W := by omega
      go_wp2
      go_ret
      refine ⟨_, rfl, ⟨_, _, rfl⟩, ?_, H.below⟩
      have H' := H.shut_slc (e := 5) (size := 1) (n := k) (cap := k) (g := g8) (xs := bv (putB n k k)) Upd.head (Nat.le_refl _) (by unfold maxLen; omega) (by simp [bv, putB]) (by
        simp only [Nat.sub_self, List.replicate_zero, List.nil_append, Nat.mul_one]
        exact List.take_of_length_le (by rw [bv_len, putB_len]; exact Nat.le_refl _))
      exact H'.getSlc List.mem_cons_self
end Go.Proofs.Ytmeampigomhdpaa
