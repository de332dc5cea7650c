/- The contract of layer 6's reference Decode (frame), further cases; the bounds stand in it. -/
import Derived.Test.YtcjbippgjhgoiaaFrame7
namespace Go.Proofs.Ytcjbippgjhgoiaa
open Go.ChangeShapes Go.WideShapes Go.ChangeAt Go.RowKit
set_option linter.unusedVariables false
set_option linter.unusedSimpArgs false
attribute [local irreducible] sumC
set_option maxRecDepth 100000 in
set_option maxHeartbeats 1000000 in
theorem rdec_two (A : Option Addr) (L c : Nat) (l : List Nat) (hL : l.length = L) (hcap : L ≤ c) (h12 : ¬ L < 12) (hl : L ≤ 6000) (hx : ∀ x ∈ l, x < 256) (hown : l.getD 0 0 = 86 ∧ l.getD 1 0 = 83 ∧ l.getD 2 0 = 1) (k : Nat) (hk3 : l.getD 3 0 = k) (he2 : numB ((l.drop 4).take 4) = L) (n : Nat) (hn : L = n + 4) (hgood : numB (l.drop n) = sumC (l.take n)) (y : List Nat) (hy : (l.take n).drop 8 = y) (a1 c1 n1 : Nat) (hp : getP y = (a1, c1, n1, 0)) (a2 c2 n2 e2 : Nat) (hp2 : getP (y.drop n1) = (a2, c2, n2, e2)) (he1 : e2 ≠ 0) (w : World) (hs : Sl w 1 l.length (.slice A L c) (elB l)) :
    Calls Try.prog 23 #[.slice A L c] w (Ret fun v w' => (∃ ap cp, v = .tuple #[.agg #[.int .i64 0, .int .u16 0, .int .u32 0, .int .u16 0, .int .u32 0, .int .u64 0, .slice ap 0 cp], .int .i64 5] ∧ w'.ownsRow w.heap.size 5 1 (.slice ap 0 cp) 0 (bv [])) ∧ Below w.heap.size w w') := by
  have H := St.init w
  have hi : ¬ (L : Int) < 12 := by omega
  have hsl : Sl w 1 l.length (.slice A l.length c) (elB l) := by have := hs; rw [hL] at this ⊢; exact this
  obtain ⟨b1, o1, rfl, hb1, hc0⟩ := hsl.byte (k := 0) (by omega)
  obtain ⟨_, _, e1, _, hc1⟩ := hsl.byte (k := 1) (by omega)
  cases e1
  obtain ⟨_, _, e1, _, hc2⟩ := hsl.byte (k := 2) (by omega)
  cases e1
  obtain ⟨_, _, e1, _, hc3⟩ := hsl.byte (k := 3) (by omega)
  cases e1
  rw [Nat.add_zero] at hc0
  obtain ⟨x0, x1, x2⟩ := hown
  rw [x0] at hc0
  rw [x1] at hc1
  rw [x2] at hc2
  rw [hk3] at hc3
  have kb : k < 256 := by rw [← hk3]; exact getD_byte hx 3
  have ewL : IntKind.u64.wrap (L : Int) = (L : Int) := wrap_u64_in _ (by omega) (by omega)
  have c4 : ¬ c = 4 := by omega
  have c8 : ¬ c = 8 := by omega
  have c48 : (8 : Int) ≤ (c : Int) := by omega
  have c48' : 8 ≤ c := by omega
  obtain ⟨q2, h2⟩ : ∃ q, numB ((l.drop 4).take 4) = q := ⟨_, rfl⟩
  have hd44 : ((l.drop 4).take 4).length = 4 := by rw [List.length_take, List.length_drop]; omega
  have hsd : Sl w 1 ((l.drop 4).take 4).length (.slice (some ⟨b1, o1 + 4, none⟩) 4 (c - 4)) (elB ((l.drop 4).take 4)) := by
    have h4 : 4 ≤ (l.drop 4).length := by rw [List.length_drop]; omega
    have := sl_drop 4 (c - 4) hsl (by omega)
    rw [← List.length_drop] at this
    exact sl_take 4 (c - 4) this h4
  have HX := Lib.hid hx
  have HX4 : Hid (∀ x ∈ (l.drop 4).take 4, x < 256) := Lib.hid (fun x hm => hx x (List.mem_of_mem_drop (List.mem_of_mem_take hm)))
  have HL := Lib.hid hL
  obtain rfl : L = q2 := by omega
  have hxl : (l.take n).length = n := by rw [List.length_take]; omega
  have hyl : y.length = n - 8 := by rw [← hy, List.length_drop, hxl]
  have YB : Hid (∀ x ∈ y, x < 256) := Lib.hid (by rw [← hy]; exact lens (fun x hm => hx x (List.mem_of_mem_take hm)) 8)
  have n8 : 8 ≤ n := by omega
  have n8L : n ≤ 6000 := by omega
  have HP := Lib.hid hp
  have Q2 := Lib.hid h2
  have HG := Lib.hid hgood
  have HN := Lib.hid hn
  have HXL := Lib.hid hxl
  have HYL := Lib.hid hyl
  have HY := Lib.hid hy
  have n1l : n1 ≤ n - 8 := by rw [← hyl]; exact getP_le hp
  have hyl2 : (y.drop n1).length = n - (8 + n1) := by rw [List.length_drop, hyl]; omega
  have YB2 : Hid (∀ x ∈ y.drop n1, x < 256) := Lib.hid (lens YB.out n1)
  have HYL2 := Lib.hid hyl2
  have HP2 := Lib.hid hp2
  have HY2 : Hid ((l.take n).drop (8 + n1) = y.drop n1) := Lib.hid (by rw [← hy, List.drop_drop])
  clear hyl2 hp2
  have e1i : ¬ (e2 : Int) = 0 := by omega
  clear h2 he2 hgood hn hp hxl hyl hy
  clear hx x0 x1 x2 hk3 hL
  go_enter Try.func23, Try.ntmps23
  go_wp2_with (first | (go_at_call 63; (with_reducible refine (number_as _ ((l.drop 4).take 4) (by omega) HX4.out L Q2.out _ (hsd.grow H.below)).mono ?_); rintro e w1 ⟨v, rfl, hr⟩; obtain ⟨rfl, hb1⟩ := hr; replace H := H.grow hb1; clear hb1) | (go_at_call 64; (with_reducible refine (ropen_good (some ⟨b1, o1, none⟩) L n c l HL.out HN.out hcap (by have := HL.out; omega) HX.out HG.out _ (hsl.grow H.below)).mono ?_); rintro e w1 ⟨v, rfl, hr⟩; obtain ⟨⟨ar, cr, rfl, ho⟩, hb1⟩ := hr; have kr := own_cap ho; replace H := H.new hb1 (slc_sound ho) (fun g hg => (ho.lt g hg).1); clear hb1 ho) | (with_reducible refine wpl rfl (Stp.slfrom (k := 8) 64 rfl rfl Try.underlying26 size5 rfl rfl (by omega) (by omega) ?_); intro A8 hA8; have H8 := Lib.hid hA8; clear hA8; simp only [Act.put, List.setIfInBounds_toArray, List.set_cons_zero, List.set_cons_succ]) | (go_at_call 65; (with_reducible refine (rpget_ok A8 (n - 8) (cr - 8) y HYL.out (by omega) (by have := HYL.out; omega) YB.out _ (sl_tailk 8 (H.getSlc (xs := bv (l.take n)) (by repeat (first | exact List.mem_cons_self | apply List.mem_cons_of_mem))) HXL.out n8L (by omega) kr H8.out HY.out) a1 c1 n1 0 HP.out).mono ?_); rintro e w1 ⟨v, rfl, hr⟩; obtain ⟨rfl, hb1⟩ := hr; replace H := H.grow hb1; clear hb1) | (with_reducible refine wpl rfl (Stp.slfrom (k := (8 + n1)) 77 rfl rfl Try.underlying26 size5 rfl rfl (by omega) (by omega) ?_); intro A9 hA9; have H9 := Lib.hid hA9; clear hA9; simp only [Act.put, List.setIfInBounds_toArray, List.set_cons_zero, List.set_cons_succ]) | (go_at_call 65; (with_reducible refine (rpget_ok A9 (n - (8 + n1)) (cr - (8 + n1)) (y.drop n1) HYL2.out (by omega) (by have := HYL2.out; omega) YB2.out _ (sl_tailk (8 + n1) (H.getSlc (xs := bv (l.take n)) (by repeat (first | exact List.mem_cons_self | apply List.mem_cons_of_mem))) HXL.out n8L (by omega) kr H9.out HY2.out) a2 c2 n2 e2 HP2.out).mono ?_); rintro e w1 ⟨v, rfl, hr⟩; obtain ⟨rfl, hb1⟩ := hr; replace H := H.grow hb1; clear hb1) | (with_reducible refine wpl rfl (Stp.alloc 2 rfl rfl zero43 H ?_); clear H; intro g2 w1 H; simp only [Act.put, List.setIfInBounds_toArray, List.set_cons_zero, List.set_cons_succ]; simp only [cells_agg, cells_int, cells_bool, cells_string, cells_pointer, cells_slice, cells_map] at H) | (with_reducible refine wpl rfl (Stp.alloc 4 rfl rfl zero43 H ?_); clear H; intro g4 w1 H; simp only [Act.put, List.setIfInBounds_toArray, List.set_cons_zero, List.set_cons_succ]; simp only [cells_agg, cells_int, cells_bool, cells_string, cells_pointer, cells_slice, cells_map] at H) | (with_reducible refine wpl rfl (Stp.str rfl size43 rfl rfl (by first | rfl | (simp [Value.oneCell']; done) | assumption) H (by repeat (first | exact Upd.head | apply Upd.tail)) (by first | rfl | (simp; done) | assumption) (by first | rfl | (simp; done) | assumption) ?_); clear H; intro w1 H; simp only [Act.put, List.setIfInBounds_toArray, List.set_cons_zero, List.set_cons_succ]) | (with_reducible refine wpl rfl (Stp.stl rfl size43 rfl rfl rfl rfl H (by repeat (first | exact Upd.head | apply Upd.tail)) (by simp) ?_); clear H; intro w1 H; simp only [Act.put, List.setIfInBounds_toArray, List.set_cons_zero, List.set_cons_succ]; simp only [List.drop_succ_cons, List.drop_zero, List.take_succ_cons, List.take_zero, List.nil_append, List.cons_append, Nat.reduceAdd] at H) | (with_reducible refine wpl rfl (Stp.ldr rfl agg43 size43 rfl H (by repeat (first | exact List.mem_cons_self | apply List.mem_cons_of_mem)) (by first | rfl | (simp; done) | assumption) ?_); simp only [Act.put, List.setIfInBounds_toArray, List.set_cons_zero, List.set_cons_succ]) | (with_reducible refine wpl rfl (Stp.ldl rfl agg43 size43 rfl H (by repeat (first | exact List.mem_cons_self | apply List.mem_cons_of_mem)) (by simp) ?_); simp only [Act.put, List.setIfInBounds_toArray, List.set_cons_zero, List.set_cons_succ]; simp only [List.drop_succ_cons, List.drop_zero, List.take_succ_cons, List.take_zero]) | (with_reducible refine wpl rfl (Stp.ldor rfl agg43 size43 rfl H (by assumption) (by first | rfl | (simp; done) | assumption) (by assumption) ?_); simp only [Act.put, List.setIfInBounds_toArray, List.set_cons_zero, List.set_cons_succ]) | (with_reducible refine wpl rfl (Stp.ldc rfl agg5 rfl H (by repeat (first | exact List.mem_cons_self | apply List.mem_cons_of_mem)) (by first | (repeat (first | exact lit0 _ _ | apply lits)) | rfl | assumption) ?_); simp only [Act.put, List.setIfInBounds_toArray, List.set_cons_zero, List.set_cons_succ]) | (with_reducible refine wpl rfl (Stp.ldo rfl agg5 rfl H (by assumption) (by assumption) ?_); simp only [Act.put, List.setIfInBounds_toArray, List.set_cons_zero, List.set_cons_succ]) | (with_reducible refine wpl rfl (Stp.alloc 7 rfl rfl zero43 H ?_); clear H; intro g7 w1 H; simp only [Act.put, List.setIfInBounds_toArray, List.set_cons_zero, List.set_cons_succ]; simp only [cells_agg, cells_int, cells_bool, cells_string, cells_pointer, cells_slice, cells_map] at H) | (with_reducible refine wpl rfl (Stp.alloc 9 rfl rfl zero34 H ?_); clear H; intro g9 w1 H; simp only [Act.put, List.setIfInBounds_toArray, List.set_cons_zero, List.set_cons_succ]; simp only [cells_agg, cells_int, cells_bool, cells_string, cells_pointer, cells_slice, cells_map] at H) | (with_reducible refine wpl rfl (Stp.str rfl size34 rfl rfl (by first | rfl | (simp [Value.oneCell']; done) | assumption) H (by repeat (first | exact Upd.head | apply Upd.tail)) (by first | rfl | (simp; done) | assumption) (by first | rfl | (simp; done) | assumption) ?_); clear H; intro w1 H; simp only [Act.put, List.setIfInBounds_toArray, List.set_cons_zero, List.set_cons_succ]) | (with_reducible refine wpl rfl (Stp.stl rfl size34 rfl rfl rfl rfl H (by repeat (first | exact Upd.head | apply Upd.tail)) (by simp) ?_); clear H; intro w1 H; simp only [Act.put, List.setIfInBounds_toArray, List.set_cons_zero, List.set_cons_succ]; simp only [List.drop_succ_cons, List.drop_zero, List.take_succ_cons, List.take_zero, List.nil_append, List.cons_append, Nat.reduceAdd] at H) | (with_reducible refine wpl rfl (Stp.alloc 11 rfl rfl zero34 H ?_); clear H; intro g11 w1 H; simp only [Act.put, List.setIfInBounds_toArray, List.set_cons_zero, List.set_cons_succ]; simp only [cells_agg, cells_int, cells_bool, cells_string, cells_pointer, cells_slice, cells_map] at H) | (with_reducible refine wpl rfl (Stp.ldr rfl agg34 size34 rfl H (by repeat (first | exact List.mem_cons_self | apply List.mem_cons_of_mem)) (by first | rfl | (simp; done) | assumption) ?_); simp only [Act.put, List.setIfInBounds_toArray, List.set_cons_zero, List.set_cons_succ]) | (with_reducible refine wpl rfl (Stp.ldl rfl agg34 size34 rfl H (by repeat (first | exact List.mem_cons_self | apply List.mem_cons_of_mem)) (by simp) ?_); simp only [Act.put, List.setIfInBounds_toArray, List.set_cons_zero, List.set_cons_succ]; simp only [List.drop_succ_cons, List.drop_zero, List.take_succ_cons, List.take_zero]) | (with_reducible refine wpl rfl (Stp.ldor rfl agg34 size34 rfl H (by assumption) (by first | rfl | (simp; done) | assumption) (by assumption) ?_); simp only [Act.put, List.setIfInBounds_toArray, List.set_cons_zero, List.set_cons_succ]) | (with_reducible refine wpl rfl (Stp.stc rfl size30 rfl rfl rfl rfl H (by repeat (first | exact Upd.head | apply Upd.tail)) (by first | omega | (simp; done) | (simp; omega)) ?_); clear H; intro w1 H; simp only [Act.put, List.setIfInBounds_toArray, List.set_cons_zero, List.set_cons_succ]; simp only [eval_tmp, eval_const, getD_lit0, getD_lits, cells_agg, cells_int, cells_bool, cells_string, cells_pointer, cells_slice, cells_map, List.setIfInBounds_toArray, List.set_cons_zero, List.set_cons_succ] at H) | (with_reducible refine wpl rfl (Stp.stc rfl size26 rfl rfl rfl rfl H (by repeat (first | exact Upd.head | apply Upd.tail)) (by first | omega | (simp; done) | (simp; omega)) ?_); clear H; intro w1 H; simp only [Act.put, List.setIfInBounds_toArray, List.set_cons_zero, List.set_cons_succ]; simp only [eval_tmp, eval_const, getD_lit0, getD_lits, cells_agg, cells_int, cells_bool, cells_string, cells_pointer, cells_slice, cells_map, List.setIfInBounds_toArray, List.set_cons_zero, List.set_cons_succ] at H))
  refine post_row2 rfl agg43 size43 rfl H (by repeat (first | exact List.mem_cons_self | apply List.mem_cons_of_mem)) rfl rfl ⟨_, rfl, ⟨none, 0, rfl, World.ownsRow_nil _ _ _ _⟩, H.below⟩
set_option maxRecDepth 100000 in
set_option maxHeartbeats 1000000 in
theorem rdec_three (A : Option Addr) (L c : Nat) (l : List Nat) (hL : l.length = L) (hcap : L ≤ c) (h12 : ¬ L < 12) (hl : L ≤ 6000) (hx : ∀ x ∈ l, x < 256) (hown : l.getD 0 0 = 86 ∧ l.getD 1 0 = 83 ∧ l.getD 2 0 = 1) (k : Nat) (hk3 : l.getD 3 0 = k) (he2 : numB ((l.drop 4).take 4) = L) (n : Nat) (hn : L = n + 4) (hgood : numB (l.drop n) = sumC (l.take n)) (y : List Nat) (hy : (l.take n).drop 8 = y) (a1 c1 n1 : Nat) (hp : getP y = (a1, c1, n1, 0)) (a2 c2 n2 : Nat) (hp2 : getP (y.drop n1) = (a2, c2, n2, 0)) (s m f3 : Nat) (hg3 : gs ((y.drop n1).drop n2) 10 0 0 = (s, m, f3)) (hf3 : f3 ≠ 0) (w : World) (hs : Sl w 1 l.length (.slice A L c) (elB l)) :
    Calls Try.prog 23 #[.slice A L c] w (Ret fun v w' => (∃ ap cp, v = .tuple #[.agg #[.int .i64 0, .int .u16 0, .int .u32 0, .int .u16 0, .int .u32 0, .int .u64 0, .slice ap 0 cp], .int .i64 5] ∧ w'.ownsRow w.heap.size 5 1 (.slice ap 0 cp) 0 (bv [])) ∧ Below w.heap.size w w') := by
  have H := St.init w
  have hi : ¬ (L : Int) < 12 := by omega
  have hsl : Sl w 1 l.length (.slice A l.length c) (elB l) := by have := hs; rw [hL] at this ⊢; exact this
  obtain ⟨b1, o1, rfl, hb1, hc0⟩ := hsl.byte (k := 0) (by omega)
  obtain ⟨_, _, e1, _, hc1⟩ := hsl.byte (k := 1) (by omega)
  cases e1
  obtain ⟨_, _, e1, _, hc2⟩ := hsl.byte (k := 2) (by omega)
  cases e1
  obtain ⟨_, _, e1, _, hc3⟩ := hsl.byte (k := 3) (by omega)
  cases e1
  rw [Nat.add_zero] at hc0
  obtain ⟨x0, x1, x2⟩ := hown
  rw [x0] at hc0
  rw [x1] at hc1
  rw [x2] at hc2
  rw [hk3] at hc3
  have kb : k < 256 := by rw [← hk3]; exact getD_byte hx 3
  have ewL : IntKind.u64.wrap (L : Int) = (L : Int) := wrap_u64_in _ (by omega) (by omega)
  have c4 : ¬ c = 4 := by omega
  have c8 : ¬ c = 8 := by omega
  have c48 : (8 : Int) ≤ (c : Int) := by omega
  have c48' : 8 ≤ c := by omega
  obtain ⟨q2, h2⟩ : ∃ q, numB ((l.drop 4).take 4) = q := ⟨_, rfl⟩
  have hd44 : ((l.drop 4).take 4).length = 4 := by rw [List.length_take, List.length_drop]; omega
  have hsd : Sl w 1 ((l.drop 4).take 4).length (.slice (some ⟨b1, o1 + 4, none⟩) 4 (c - 4)) (elB ((l.drop 4).take 4)) := by
    have h4 : 4 ≤ (l.drop 4).length := by rw [List.length_drop]; omega
    have := sl_drop 4 (c - 4) hsl (by omega)
    rw [← List.length_drop] at this
    exact sl_take 4 (c - 4) this h4
  have HX := Lib.hid hx
  have HX4 : Hid (∀ x ∈ (l.drop 4).take 4, x < 256) := Lib.hid (fun x hm => hx x (List.mem_of_mem_drop (List.mem_of_mem_take hm)))
  have HL := Lib.hid hL
  obtain rfl : L = q2 := by omega
  have hxl : (l.take n).length = n := by rw [List.length_take]; omega
  have hyl : y.length = n - 8 := by rw [← hy, List.length_drop, hxl]
  have YB : Hid (∀ x ∈ y, x < 256) := Lib.hid (by rw [← hy]; exact lens (fun x hm => hx x (List.mem_of_mem_take hm)) 8)
  have n8 : 8 ≤ n := by omega
  have n8L : n ≤ 6000 := by omega
  have HP := Lib.hid hp
  have Q2 := Lib.hid h2
  have HG := Lib.hid hgood
  have HN := Lib.hid hn
  have HXL := Lib.hid hxl
  have HYL := Lib.hid hyl
  have HY := Lib.hid hy
  have n1l : n1 ≤ n - 8 := by rw [← hyl]; exact getP_le hp
  have hyl2 : (y.drop n1).length = n - (8 + n1) := by rw [List.length_drop, hyl]; omega
  have YB2 : Hid (∀ x ∈ y.drop n1, x < 256) := Lib.hid (lens YB.out n1)
  have HYL2 := Lib.hid hyl2
  have HP2 := Lib.hid hp2
  have HY2 : Hid ((l.take n).drop (8 + n1) = y.drop n1) := Lib.hid (by rw [← hy, List.drop_drop])
  clear hyl2 hp2
  have n2l : n2 ≤ n - (8 + n1) := by rw [← HYL2.out]; exact getP_le HP2.out
  have hyl3 : ((y.drop n1).drop n2).length = n - (8 + n1 + n2) := by rw [List.length_drop, HYL2.out]; omega
  have YB3 : Hid (∀ x ∈ (y.drop n1).drop n2, x < 256) := Lib.hid (lens YB2.out n2)
  have HYL3 := Lib.hid hyl3
  have HY3 : Hid ((l.take n).drop (8 + n1 + n2) = (y.drop n1).drop n2) := Lib.hid (by rw [← HY2.out, List.drop_drop])
  have G3 := Lib.hid hg3
  have e1i : ¬ (f3 : Int) = 0 := by omega
  clear h2 he2 hgood hn hp hxl hyl hy hyl3 hg3
  clear hx x0 x1 x2 hk3 hL
  go_enter Try.func23, Try.ntmps23
  go_wp2_with (first | (go_at_call 63; (with_reducible refine (number_as _ ((l.drop 4).take 4) (by omega) HX4.out L Q2.out _ (hsd.grow H.below)).mono ?_); rintro e w1 ⟨v, rfl, hr⟩; obtain ⟨rfl, hb1⟩ := hr; replace H := H.grow hb1; clear hb1) | (go_at_call 64; (with_reducible refine (ropen_good (some ⟨b1, o1, none⟩) L n c l HL.out HN.out hcap (by have := HL.out; omega) HX.out HG.out _ (hsl.grow H.below)).mono ?_); rintro e w1 ⟨v, rfl, hr⟩; obtain ⟨⟨ar, cr, rfl, ho⟩, hb1⟩ := hr; have kr := own_cap ho; replace H := H.new hb1 (slc_sound ho) (fun g hg => (ho.lt g hg).1); clear hb1 ho) | (with_reducible refine wpl rfl (Stp.slfrom (k := 8) 64 rfl rfl Try.underlying26 size5 rfl rfl (by omega) (by omega) ?_); intro A8 hA8; have H8 := Lib.hid hA8; clear hA8; simp only [Act.put, List.setIfInBounds_toArray, List.set_cons_zero, List.set_cons_succ]) | (go_at_call 65; (with_reducible refine (rpget_ok A8 (n - 8) (cr - 8) y HYL.out (by omega) (by have := HYL.out; omega) YB.out _ (sl_tailk 8 (H.getSlc (xs := bv (l.take n)) (by repeat (first | exact List.mem_cons_self | apply List.mem_cons_of_mem))) HXL.out n8L (by omega) kr H8.out HY.out) a1 c1 n1 0 HP.out).mono ?_); rintro e w1 ⟨v, rfl, hr⟩; obtain ⟨rfl, hb1⟩ := hr; replace H := H.grow hb1; clear hb1) | (with_reducible refine wpl rfl (Stp.slfrom (k := (8 + n1)) 77 rfl rfl Try.underlying26 size5 rfl rfl (by omega) (by omega) ?_); intro A9 hA9; have H9 := Lib.hid hA9; clear hA9; simp only [Act.put, List.setIfInBounds_toArray, List.set_cons_zero, List.set_cons_succ]) | (go_at_call 65; (with_reducible refine (rpget_ok A9 (n - (8 + n1)) (cr - (8 + n1)) (y.drop n1) HYL2.out (by omega) (by have := HYL2.out; omega) YB2.out _ (sl_tailk (8 + n1) (H.getSlc (xs := bv (l.take n)) (by repeat (first | exact List.mem_cons_self | apply List.mem_cons_of_mem))) HXL.out n8L (by omega) kr H9.out HY2.out) a2 c2 n2 0 HP2.out).mono ?_); rintro e w1 ⟨v, rfl, hr⟩; obtain ⟨rfl, hb1⟩ := hr; replace H := H.grow hb1; clear hb1) | (with_reducible refine wpl rfl (Stp.slfrom (k := (8 + n1 + n2)) 92 rfl rfl Try.underlying26 size5 rfl rfl (by omega) (by omega) ?_); intro A10 hA10; have H10 := Lib.hid hA10; clear hA10; simp only [Act.put, List.setIfInBounds_toArray, List.set_cons_zero, List.set_cons_succ]) | (go_at_call 66; (with_reducible refine (rgetshort_ok _ ((y.drop n1).drop n2) (by have := HYL3.out; omega) YB3.out _ (sl_tailk (8 + n1 + n2) (H.getSlc (xs := bv (l.take n)) (by repeat (first | exact List.mem_cons_self | apply List.mem_cons_of_mem))) HXL.out n8L (by omega) kr H10.out HY3.out) s m f3 G3.out).mono ?_); rintro e w1 ⟨v, rfl, hr⟩; obtain ⟨rfl, hb1⟩ := hr; replace H := H.grow hb1; clear hb1) | (with_reducible refine wpl rfl (Stp.alloc 2 rfl rfl zero43 H ?_); clear H; intro g2 w1 H; simp only [Act.put, List.setIfInBounds_toArray, List.set_cons_zero, List.set_cons_succ]; simp only [cells_agg, cells_int, cells_bool, cells_string, cells_pointer, cells_slice, cells_map] at H) | (with_reducible refine wpl rfl (Stp.alloc 4 rfl rfl zero43 H ?_); clear H; intro g4 w1 H; simp only [Act.put, List.setIfInBounds_toArray, List.set_cons_zero, List.set_cons_succ]; simp only [cells_agg, cells_int, cells_bool, cells_string, cells_pointer, cells_slice, cells_map] at H) | (with_reducible refine wpl rfl (Stp.str rfl size43 rfl rfl (by first | rfl | (simp [Value.oneCell']; done) | assumption) H (by repeat (first | exact Upd.head | apply Upd.tail)) (by first | rfl | (simp; done) | assumption) (by first | rfl | (simp; done) | assumption) ?_); clear H; intro w1 H; simp only [Act.put, List.setIfInBounds_toArray, List.set_cons_zero, List.set_cons_succ]) | (with_reducible refine wpl rfl (Stp.stl rfl size43 rfl rfl rfl rfl H (by repeat (first | exact Upd.head | apply Upd.tail)) (by simp) ?_); clear H; intro w1 H; simp only [Act.put, List.setIfInBounds_toArray, List.set_cons_zero, List.set_cons_succ]; simp only [List.drop_succ_cons, List.drop_zero, List.take_succ_cons, List.take_zero, List.nil_append, List.cons_append, Nat.reduceAdd] at H) | (with_reducible refine wpl rfl (Stp.ldr rfl agg43 size43 rfl H (by repeat (first | exact List.mem_cons_self | apply List.mem_cons_of_mem)) (by first | rfl | (simp; done) | assumption) ?_); simp only [Act.put, List.setIfInBounds_toArray, List.set_cons_zero, List.set_cons_succ]) | (with_reducible refine wpl rfl (Stp.ldl rfl agg43 size43 rfl H (by repeat (first | exact List.mem_cons_self | apply List.mem_cons_of_mem)) (by simp) ?_); simp only [Act.put, List.setIfInBounds_toArray, List.set_cons_zero, List.set_cons_succ]; simp only [List.drop_succ_cons, List.drop_zero, List.take_succ_cons, List.take_zero]) | (with_reducible refine wpl rfl (Stp.ldor rfl agg43 size43 rfl H (by assumption) (by first | rfl | (simp; done) | assumption) (by assumption) ?_); simp only [Act.put, List.setIfInBounds_toArray, List.set_cons_zero, List.set_cons_succ]) | (with_reducible refine wpl rfl (Stp.ldc rfl agg5 rfl H (by repeat (first | exact List.mem_cons_self | apply List.mem_cons_of_mem)) (by first | (repeat (first | exact lit0 _ _ | apply lits)) | rfl | assumption) ?_); simp only [Act.put, List.setIfInBounds_toArray, List.set_cons_zero, List.set_cons_succ]) | (with_reducible refine wpl rfl (Stp.ldo rfl agg5 rfl H (by assumption) (by assumption) ?_); simp only [Act.put, List.setIfInBounds_toArray, List.set_cons_zero, List.set_cons_succ]) | (with_reducible refine wpl rfl (Stp.alloc 7 rfl rfl zero43 H ?_); clear H; intro g7 w1 H; simp only [Act.put, List.setIfInBounds_toArray, List.set_cons_zero, List.set_cons_succ]; simp only [cells_agg, cells_int, cells_bool, cells_string, cells_pointer, cells_slice, cells_map] at H) | (with_reducible refine wpl rfl (Stp.alloc 9 rfl rfl zero34 H ?_); clear H; intro g9 w1 H; simp only [Act.put, List.setIfInBounds_toArray, List.set_cons_zero, List.set_cons_succ]; simp only [cells_agg, cells_int, cells_bool, cells_string, cells_pointer, cells_slice, cells_map] at H) | (with_reducible refine wpl rfl (Stp.str rfl size34 rfl rfl (by first | rfl | (simp [Value.oneCell']; done) | assumption) H (by repeat (first | exact Upd.head | apply Upd.tail)) (by first | rfl | (simp; done) | assumption) (by first | rfl | (simp; done) | assumption) ?_); clear H; intro w1 H; simp only [Act.put, List.setIfInBounds_toArray, List.set_cons_zero, List.set_cons_succ]) | (with_reducible refine wpl rfl (Stp.stl rfl size34 rfl rfl rfl rfl H (by repeat (first | exact Upd.head | apply Upd.tail)) (by simp) ?_); clear H; intro w1 H; simp only [Act.put, List.setIfInBounds_toArray, List.set_cons_zero, List.set_cons_succ]; simp only [List.drop_succ_cons, List.drop_zero, List.take_succ_cons, List.take_zero, List.nil_append, List.cons_append, Nat.reduceAdd] at H) | (with_reducible refine wpl rfl (Stp.alloc 11 rfl rfl zero34 H ?_); clear H; intro g11 w1 H; simp only [Act.put, List.setIfInBounds_toArray, List.set_cons_zero, List.set_cons_succ]; simp only [cells_agg, cells_int, cells_bool, cells_string, cells_pointer, cells_slice, cells_map] at H) | (with_reducible refine wpl rfl (Stp.ldr rfl agg34 size34 rfl H (by repeat (first | exact List.mem_cons_self | apply List.mem_cons_of_mem)) (by first | rfl | (simp; done) | assumption) ?_); simp only [Act.put, List.setIfInBounds_toArray, List.set_cons_zero, List.set_cons_succ]) | (with_reducible refine wpl rfl (Stp.ldl rfl agg34 size34 rfl H (by repeat (first | exact List.mem_cons_self | apply List.mem_cons_of_mem)) (by simp) ?_); simp only [Act.put, List.setIfInBounds_toArray, List.set_cons_zero, List.set_cons_succ]; simp only [List.drop_succ_cons, List.drop_zero, List.take_succ_cons, List.take_zero]) | (with_reducible refine wpl rfl (Stp.ldor rfl agg34 size34 rfl H (by assumption) (by first | rfl | (simp; done) | assumption) (by assumption) ?_); simp only [Act.put, List.setIfInBounds_toArray, List.set_cons_zero, List.set_cons_succ]) | (with_reducible refine wpl rfl (Stp.stc rfl size30 rfl rfl rfl rfl H (by repeat (first | exact Upd.head | apply Upd.tail)) (by first | omega | (simp; done) | (simp; omega)) ?_); clear H; intro w1 H; simp only [Act.put, List.setIfInBounds_toArray, List.set_cons_zero, List.set_cons_succ]; simp only [eval_tmp, eval_const, getD_lit0, getD_lits, cells_agg, cells_int, cells_bool, cells_string, cells_pointer, cells_slice, cells_map, List.setIfInBounds_toArray, List.set_cons_zero, List.set_cons_succ] at H) | (with_reducible refine wpl rfl (Stp.stc rfl size26 rfl rfl rfl rfl H (by repeat (first | exact Upd.head | apply Upd.tail)) (by first | omega | (simp; done) | (simp; omega)) ?_); clear H; intro w1 H; simp only [Act.put, List.setIfInBounds_toArray, List.set_cons_zero, List.set_cons_succ]; simp only [eval_tmp, eval_const, getD_lit0, getD_lits, cells_agg, cells_int, cells_bool, cells_string, cells_pointer, cells_slice, cells_map, List.setIfInBounds_toArray, List.set_cons_zero, List.set_cons_succ] at H))
  refine post_row2 rfl agg43 size43 rfl H (by repeat (first | exact List.mem_cons_self | apply List.mem_cons_of_mem)) rfl rfl ⟨_, rfl, ⟨none, 0, rfl, World.ownsRow_nil _ _ _ _⟩, H.below⟩
set_option maxRecDepth 100000 in
set_option maxHeartbeats 1000000 in
theorem rdec_chk (A : Option Addr) (L c : Nat) (l : List Nat) (hL : l.length = L) (hcap : L ≤ c) (h12 : ¬ L < 12) (hl : L ≤ 6000) (hx : ∀ x ∈ l, x < 256) (hown : l.getD 0 0 = 86 ∧ l.getD 1 0 = 83 ∧ l.getD 2 0 = 1) (k : Nat) (hk3 : l.getD 3 0 = k) (he2 : numB ((l.drop 4).take 4) = L) (n : Nat) (hn : L = n + 4) (hgood : numB (l.drop n) = sumC (l.take n)) (y : List Nat) (hy : (l.take n).drop 8 = y) (a1 c1 n1 : Nat) (hp : getP y = (a1, c1, n1, 0)) (a2 c2 n2 : Nat) (hp2 : getP (y.drop n1) = (a2, c2, n2, 0)) (s m : Nat) (hg3 : gs ((y.drop n1).drop n2) 10 0 0 = (s, m, 0)) (e4 : Nat) (hc : chk (k : Int) a1 c1 a2 c2 (((y.drop n1).drop n2).drop m).length = e4) (hf3 : e4 ≠ 0) (w : World) (hs : Sl w 1 l.length (.slice A L c) (elB l)) :
    Calls Try.prog 23 #[.slice A L c] w (Ret fun v w' => (∃ ap cp, v = .tuple #[.agg #[.int .i64 0, .int .u16 0, .int .u32 0, .int .u16 0, .int .u32 0, .int .u64 0, .slice ap 0 cp], .int .i64 5] ∧ w'.ownsRow w.heap.size 5 1 (.slice ap 0 cp) 0 (bv [])) ∧ Below w.heap.size w w') := by
  have H := St.init w
  have hi : ¬ (L : Int) < 12 := by omega
  have hsl : Sl w 1 l.length (.slice A l.length c) (elB l) := by have := hs; rw [hL] at this ⊢; exact this
  obtain ⟨b1, o1, rfl, hb1, hc0⟩ := hsl.byte (k := 0) (by omega)
  obtain ⟨_, _, e1, _, hc1⟩ := hsl.byte (k := 1) (by omega)
  cases e1
  obtain ⟨_, _, e1, _, hc2⟩ := hsl.byte (k := 2) (by omega)
  cases e1
  obtain ⟨_, _, e1, _, hc3⟩ := hsl.byte (k := 3) (by omega)
  cases e1
  rw [Nat.add_zero] at hc0
  obtain ⟨x0, x1, x2⟩ := hown
  rw [x0] at hc0
  rw [x1] at hc1
  rw [x2] at hc2
  rw [hk3] at hc3
  have kb : k < 256 := by rw [← hk3]; exact getD_byte hx 3
  have ewL : IntKind.u64.wrap (L : Int) = (L : Int) := wrap_u64_in _ (by omega) (by omega)
  have c4 : ¬ c = 4 := by omega
  have c8 : ¬ c = 8 := by omega
  have c48 : (8 : Int) ≤ (c : Int) := by omega
  have c48' : 8 ≤ c := by omega
  obtain ⟨q2, h2⟩ : ∃ q, numB ((l.drop 4).take 4) = q := ⟨_, rfl⟩
  have hd44 : ((l.drop 4).take 4).length = 4 := by rw [List.length_take, List.length_drop]; omega
  have hsd : Sl w 1 ((l.drop 4).take 4).length (.slice (some ⟨b1, o1 + 4, none⟩) 4 (c - 4)) (elB ((l.drop 4).take 4)) := by
    have h4 : 4 ≤ (l.drop 4).length := by rw [List.length_drop]; omega
    have := sl_drop 4 (c - 4) hsl (by omega)
    rw [← List.length_drop] at this
    exact sl_take 4 (c - 4) this h4
  have HX := Lib.hid hx
  have HX4 : Hid (∀ x ∈ (l.drop 4).take 4, x < 256) := Lib.hid (fun x hm => hx x (List.mem_of_mem_drop (List.mem_of_mem_take hm)))
  have HL := Lib.hid hL
  obtain rfl : L = q2 := by omega
  have hxl : (l.take n).length = n := by rw [List.length_take]; omega
  have hyl : y.length = n - 8 := by rw [← hy, List.length_drop, hxl]
  have YB : Hid (∀ x ∈ y, x < 256) := Lib.hid (by rw [← hy]; exact lens (fun x hm => hx x (List.mem_of_mem_take hm)) 8)
  have n8 : 8 ≤ n := by omega
  have n8L : n ≤ 6000 := by omega
  have HP := Lib.hid hp
  have Q2 := Lib.hid h2
  have HG := Lib.hid hgood
  have HN := Lib.hid hn
  have HXL := Lib.hid hxl
  have HYL := Lib.hid hyl
  have HY := Lib.hid hy
  have n1l : n1 ≤ n - 8 := by rw [← hyl]; exact getP_le hp
  have hyl2 : (y.drop n1).length = n - (8 + n1) := by rw [List.length_drop, hyl]; omega
  have YB2 : Hid (∀ x ∈ y.drop n1, x < 256) := Lib.hid (lens YB.out n1)
  have HYL2 := Lib.hid hyl2
  have HP2 := Lib.hid hp2
  have HY2 : Hid ((l.take n).drop (8 + n1) = y.drop n1) := Lib.hid (by rw [← hy, List.drop_drop])
  clear hyl2 hp2
  have n2l : n2 ≤ n - (8 + n1) := by rw [← HYL2.out]; exact getP_le HP2.out
  have hyl3 : ((y.drop n1).drop n2).length = n - (8 + n1 + n2) := by rw [List.length_drop, HYL2.out]; omega
  have YB3 : Hid (∀ x ∈ (y.drop n1).drop n2, x < 256) := Lib.hid (lens YB2.out n2)
  have HYL3 := Lib.hid hyl3
  have HY3 : Hid ((l.take n).drop (8 + n1 + n2) = (y.drop n1).drop n2) := Lib.hid (by rw [← HY2.out, List.drop_drop])
  have G3 := Lib.hid hg3
  have ml : m ≤ n - (8 + n1 + n2) := by rw [← hyl3]; exact ((gs_le _ _ _ _ _ _ _ hg3).2 rfl).2
  have hyl4 : (((y.drop n1).drop n2).drop m).length = n - (8 + n1 + n2 + m) := by rw [List.length_drop, hyl3]; omega
  rw [hyl4] at hc
  have HYL4 := Lib.hid hyl4
  have HY4 : Hid ((l.take n).drop (8 + n1 + n2 + m) = ((y.drop n1).drop n2).drop m) := Lib.hid (by rw [← HY3.out, List.drop_drop])
  have HC := Lib.hid hc
  clear hyl4 hc
  have e1i : ¬ (e4 : Int) = 0 := by omega
  clear h2 he2 hgood hn hp hxl hyl hy hyl3 hg3
  clear hx x0 x1 x2 hk3 hL
  go_enter Try.func23, Try.ntmps23
  go_wp2_with (first | (go_at_call 63; (with_reducible refine (number_as _ ((l.drop 4).take 4) (by omega) HX4.out L Q2.out _ (hsd.grow H.below)).mono ?_); rintro e w1 ⟨v, rfl, hr⟩; obtain ⟨rfl, hb1⟩ := hr; replace H := H.grow hb1; clear hb1) | (go_at_call 64; (with_reducible refine (ropen_good (some ⟨b1, o1, none⟩) L n c l HL.out HN.out hcap (by have := HL.out; omega) HX.out HG.out _ (hsl.grow H.below)).mono ?_); rintro e w1 ⟨v, rfl, hr⟩; obtain ⟨⟨ar, cr, rfl, ho⟩, hb1⟩ := hr; have kr := own_cap ho; replace H := H.new hb1 (slc_sound ho) (fun g hg => (ho.lt g hg).1); clear hb1 ho) | (with_reducible refine wpl rfl (Stp.slfrom (k := 8) 64 rfl rfl Try.underlying26 size5 rfl rfl (by omega) (by omega) ?_); intro A8 hA8; have H8 := Lib.hid hA8; clear hA8; simp only [Act.put, List.setIfInBounds_toArray, List.set_cons_zero, List.set_cons_succ]) | (go_at_call 65; (with_reducible refine (rpget_ok A8 (n - 8) (cr - 8) y HYL.out (by omega) (by have := HYL.out; omega) YB.out _ (sl_tailk 8 (H.getSlc (xs := bv (l.take n)) (by repeat (first | exact List.mem_cons_self | apply List.mem_cons_of_mem))) HXL.out n8L (by omega) kr H8.out HY.out) a1 c1 n1 0 HP.out).mono ?_); rintro e w1 ⟨v, rfl, hr⟩; obtain ⟨rfl, hb1⟩ := hr; replace H := H.grow hb1; clear hb1) | (with_reducible refine wpl rfl (Stp.slfrom (k := (8 + n1)) 77 rfl rfl Try.underlying26 size5 rfl rfl (by omega) (by omega) ?_); intro A9 hA9; have H9 := Lib.hid hA9; clear hA9; simp only [Act.put, List.setIfInBounds_toArray, List.set_cons_zero, List.set_cons_succ]) | (go_at_call 65; (with_reducible refine (rpget_ok A9 (n - (8 + n1)) (cr - (8 + n1)) (y.drop n1) HYL2.out (by omega) (by have := HYL2.out; omega) YB2.out _ (sl_tailk (8 + n1) (H.getSlc (xs := bv (l.take n)) (by repeat (first | exact List.mem_cons_self | apply List.mem_cons_of_mem))) HXL.out n8L (by omega) kr H9.out HY2.out) a2 c2 n2 0 HP2.out).mono ?_); rintro e w1 ⟨v, rfl, hr⟩; obtain ⟨rfl, hb1⟩ := hr; replace H := H.grow hb1; clear hb1) | (with_reducible refine wpl rfl (Stp.slfrom (k := (8 + n1 + n2)) 92 rfl rfl Try.underlying26 size5 rfl rfl (by omega) (by omega) ?_); intro A10 hA10; have H10 := Lib.hid hA10; clear hA10; simp only [Act.put, List.setIfInBounds_toArray, List.set_cons_zero, List.set_cons_succ]) | (go_at_call 66; (with_reducible refine (rgetshort_ok _ ((y.drop n1).drop n2) (by have := HYL3.out; omega) YB3.out _ (sl_tailk (8 + n1 + n2) (H.getSlc (xs := bv (l.take n)) (by repeat (first | exact List.mem_cons_self | apply List.mem_cons_of_mem))) HXL.out n8L (by omega) kr H10.out HY3.out) s m 0 G3.out).mono ?_); rintro e w1 ⟨v, rfl, hr⟩; obtain ⟨rfl, hb1⟩ := hr; replace H := H.grow hb1; clear hb1) | (go_at_call 18; (with_reducible refine (rcheck_as _ a1 c1 a2 c2 s ab (n - (8 + n1 + n2 + m)) cb e4 HC.out _).mono ?_); rintro e w1 ⟨v, rfl, hr⟩; obtain ⟨rfl, hb1⟩ := hr; replace H := H.grow hb1; clear hb1) | (with_reducible refine wpl rfl (Stp.bsl0 (e := 5) 106 rfl rfl (fun W => by kernel_rfl) H ?_); clear H; intro a106 c106 w1 H; simp only [Act.put, List.setIfInBounds_toArray, List.set_cons_zero, List.set_cons_succ]; (try simp only [Nat.zero_add, List.nil_append] at H ⊢)) | (with_reducible refine wpl rfl (Stp.slfrom (k := (8 + n1 + n2 + m)) 115 rfl rfl Try.underlying26 size5 rfl rfl (by omega) (by omega) ?_); intro A11 hA11; have H11 := Lib.hid hA11; clear hA11; simp only [Act.put, List.setIfInBounds_toArray, List.set_cons_zero, List.set_cons_succ]) | (with_reducible refine wpl rfl (Stp.apps 116 rfl rfl Try.underlying26 info5 rfl (by decide) rfl rfl H (fun _ => (by repeat (first | exact Upd.head | apply Upd.tail))) (by rw [bv_len, Nat.mul_one]; exact HYL4.out) (src_of (sl_tailk (8 + n1 + n2 + m) (H.getSlc (xs := bv (l.take n)) (by repeat (first | exact List.mem_cons_self | apply List.mem_cons_of_mem))) HXL.out n8L (by omega) kr H11.out HY4.out) HYL4.out (Below.refl _ _)) (bv_one (((y.drop n1).drop n2).drop m)) (by unfold maxLen; omega) (by omega) ?_); clear H; intro ab cb w1 H; simp only [Act.put, List.setIfInBounds_toArray, List.set_cons_zero, List.set_cons_succ]; (try simp only [Nat.zero_add, List.nil_append] at H ⊢)) | (with_reducible refine wpl rfl (Stp.alloc 2 rfl rfl zero43 H ?_); clear H; intro g2 w1 H; simp only [Act.put, List.setIfInBounds_toArray, List.set_cons_zero, List.set_cons_succ]; simp only [cells_agg, cells_int, cells_bool, cells_string, cells_pointer, cells_slice, cells_map] at H) | (with_reducible refine wpl rfl (Stp.alloc 4 rfl rfl zero43 H ?_); clear H; intro g4 w1 H; simp only [Act.put, List.setIfInBounds_toArray, List.set_cons_zero, List.set_cons_succ]; simp only [cells_agg, cells_int, cells_bool, cells_string, cells_pointer, cells_slice, cells_map] at H) | (with_reducible refine wpl rfl (Stp.str rfl size43 rfl rfl (by first | rfl | (simp [Value.oneCell']; done) | assumption) H (by repeat (first | exact Upd.head | apply Upd.tail)) (by first | rfl | (simp; done) | assumption) (by first | rfl | (simp; done) | assumption) ?_); clear H; intro w1 H; simp only [Act.put, List.setIfInBounds_toArray, List.set_cons_zero, List.set_cons_succ]) | (with_reducible refine wpl rfl (Stp.stl rfl size43 rfl rfl rfl rfl H (by repeat (first | exact Upd.head | apply Upd.tail)) (by simp) ?_); clear H; intro w1 H; simp only [Act.put, List.setIfInBounds_toArray, List.set_cons_zero, List.set_cons_succ]; simp only [List.drop_succ_cons, List.drop_zero, List.take_succ_cons, List.take_zero, List.nil_append, List.cons_append, Nat.reduceAdd] at H) | (with_reducible refine wpl rfl (Stp.ldr rfl agg43 size43 rfl H (by repeat (first | exact List.mem_cons_self | apply List.mem_cons_of_mem)) (by first | rfl | (simp; done) | assumption) ?_); simp only [Act.put, List.setIfInBounds_toArray, List.set_cons_zero, List.set_cons_succ]) | (with_reducible refine wpl rfl (Stp.ldl rfl agg43 size43 rfl H (by repeat (first | exact List.mem_cons_self | apply List.mem_cons_of_mem)) (by simp) ?_); simp only [Act.put, List.setIfInBounds_toArray, List.set_cons_zero, List.set_cons_succ]; simp only [List.drop_succ_cons, List.drop_zero, List.take_succ_cons, List.take_zero]) | (with_reducible refine wpl rfl (Stp.ldor rfl agg43 size43 rfl H (by assumption) (by first | rfl | (simp; done) | assumption) (by assumption) ?_); simp only [Act.put, List.setIfInBounds_toArray, List.set_cons_zero, List.set_cons_succ]) | (with_reducible refine wpl rfl (Stp.ldc rfl agg5 rfl H (by repeat (first | exact List.mem_cons_self | apply List.mem_cons_of_mem)) (by first | (repeat (first | exact lit0 _ _ | apply lits)) | rfl | assumption) ?_); simp only [Act.put, List.setIfInBounds_toArray, List.set_cons_zero, List.set_cons_succ]) | (with_reducible refine wpl rfl (Stp.ldo rfl agg5 rfl H (by assumption) (by assumption) ?_); simp only [Act.put, List.setIfInBounds_toArray, List.set_cons_zero, List.set_cons_succ]) | (with_reducible refine wpl rfl (Stp.alloc 7 rfl rfl zero43 H ?_); clear H; intro g7 w1 H; simp only [Act.put, List.setIfInBounds_toArray, List.set_cons_zero, List.set_cons_succ]; simp only [cells_agg, cells_int, cells_bool, cells_string, cells_pointer, cells_slice, cells_map] at H) | (with_reducible refine wpl rfl (Stp.alloc 9 rfl rfl zero34 H ?_); clear H; intro g9 w1 H; simp only [Act.put, List.setIfInBounds_toArray, List.set_cons_zero, List.set_cons_succ]; simp only [cells_agg, cells_int, cells_bool, cells_string, cells_pointer, cells_slice, cells_map] at H) | (with_reducible refine wpl rfl (Stp.str rfl size34 rfl rfl (by first | rfl | (simp [Value.oneCell']; done) | assumption) H (by repeat (first | exact Upd.head | apply Upd.tail)) (by first | rfl | (simp; done) | assumption) (by first | rfl | (simp; done) | assumption) ?_); clear H; intro w1 H; simp only [Act.put, List.setIfInBounds_toArray, List.set_cons_zero, List.set_cons_succ]) | (with_reducible refine wpl rfl (Stp.stl rfl size34 rfl rfl rfl rfl H (by repeat (first | exact Upd.head | apply Upd.tail)) (by simp) ?_); clear H; intro w1 H; simp only [Act.put, List.setIfInBounds_toArray, List.set_cons_zero, List.set_cons_succ]; simp only [List.drop_succ_cons, List.drop_zero, List.take_succ_cons, List.take_zero, List.nil_append, List.cons_append, Nat.reduceAdd] at H) | (with_reducible refine wpl rfl (Stp.alloc 11 rfl rfl zero34 H ?_); clear H; intro g11 w1 H; simp only [Act.put, List.setIfInBounds_toArray, List.set_cons_zero, List.set_cons_succ]; simp only [cells_agg, cells_int, cells_bool, cells_string, cells_pointer, cells_slice, cells_map] at H) | (with_reducible refine wpl rfl (Stp.ldr rfl agg34 size34 rfl H (by repeat (first | exact List.mem_cons_self | apply List.mem_cons_of_mem)) (by first | rfl | (simp; done) | assumption) ?_); simp only [Act.put, List.setIfInBounds_toArray, List.set_cons_zero, List.set_cons_succ]) | (with_reducible refine wpl rfl (Stp.ldl rfl agg34 size34 rfl H (by repeat (first | exact List.mem_cons_self | apply List.mem_cons_of_mem)) (by simp) ?_); simp only [Act.put, List.setIfInBounds_toArray, List.set_cons_zero, List.set_cons_succ]; simp only [List.drop_succ_cons, List.drop_zero, List.take_succ_cons, List.take_zero]) | (with_reducible refine wpl rfl (Stp.ldor rfl agg34 size34 rfl H (by assumption) (by first | rfl | (simp; done) | assumption) (by assumption) ?_); simp only [Act.put, List.setIfInBounds_toArray, List.set_cons_zero, List.set_cons_succ]) | (with_reducible refine wpl rfl (Stp.stc rfl size30 rfl rfl rfl rfl H (by repeat (first | exact Upd.head | apply Upd.tail)) (by first | omega | (simp; done) | (simp; omega)) ?_); clear H; intro w1 H; simp only [Act.put, List.setIfInBounds_toArray, List.set_cons_zero, List.set_cons_succ]; simp only [eval_tmp, eval_const, getD_lit0, getD_lits, cells_agg, cells_int, cells_bool, cells_string, cells_pointer, cells_slice, cells_map, List.setIfInBounds_toArray, List.set_cons_zero, List.set_cons_succ] at H) | (with_reducible refine wpl rfl (Stp.stc rfl size26 rfl rfl rfl rfl H (by repeat (first | exact Upd.head | apply Upd.tail)) (by first | omega | (simp; done) | (simp; omega)) ?_); clear H; intro w1 H; simp only [Act.put, List.setIfInBounds_toArray, List.set_cons_zero, List.set_cons_succ]; simp only [eval_tmp, eval_const, getD_lit0, getD_lits, cells_agg, cells_int, cells_bool, cells_string, cells_pointer, cells_slice, cells_map, List.setIfInBounds_toArray, List.set_cons_zero, List.set_cons_succ] at H))
  refine post_row2 rfl agg43 size43 rfl H (by repeat (first | exact List.mem_cons_self | apply List.mem_cons_of_mem)) rfl rfl ⟨_, rfl, ⟨none, 0, rfl, World.ownsRow_nil _ _ _ _⟩, H.below⟩
set_option maxRecDepth 100000 in
set_option maxHeartbeats 1000000 in
theorem rdec_good (A : Option Addr) (L c : Nat) (l : List Nat) (hL : l.length = L) (hcap : L ≤ c) (h12 : ¬ L < 12) (hl : L ≤ 6000) (hx : ∀ x ∈ l, x < 256) (hown : l.getD 0 0 = 86 ∧ l.getD 1 0 = 83 ∧ l.getD 2 0 = 1) (k : Nat) (hk3 : l.getD 3 0 = k) (he2 : numB ((l.drop 4).take 4) = L) (n : Nat) (hn : L = n + 4) (hgood : numB (l.drop n) = sumC (l.take n)) (y : List Nat) (hy : (l.take n).drop 8 = y) (a1 c1 n1 : Nat) (hp : getP y = (a1, c1, n1, 0)) (a2 c2 n2 : Nat) (hp2 : getP (y.drop n1) = (a2, c2, n2, 0)) (s m : Nat) (hg3 : gs ((y.drop n1).drop n2) 10 0 0 = (s, m, 0)) (hc : chk (k : Int) a1 c1 a2 c2 (((y.drop n1).drop n2).drop m).length = 0) (w : World) (hs : Sl w 1 l.length (.slice A L c) (elB l)) :
    Calls Try.prog 23 #[.slice A L c] w (Ret fun v w' => (∃ ap cp, v = .tuple #[.agg #[.int .i64 (k : Int), .int .u16 (a1 : Int), .int .u32 (c1 : Int), .int .u16 (a2 : Int), .int .u32 (c2 : Int), .int .u64 (s : Int), .slice ap (n - (8 + n1 + n2 + m)) cp], .int .i64 0] ∧ w'.ownsRow w.heap.size 5 1 (.slice ap (n - (8 + n1 + n2 + m)) cp) (n - (8 + n1 + n2 + m)) (bv (((y.drop n1).drop n2).drop m))) ∧ Below w.heap.size w w') := by
  have H := St.init w
  have hi : ¬ (L : Int) < 12 := by omega
  have hsl : Sl w 1 l.length (.slice A l.length c) (elB l) := by have := hs; rw [hL] at this ⊢; exact this
  obtain ⟨b1, o1, rfl, hb1, hc0⟩ := hsl.byte (k := 0) (by omega)
  obtain ⟨_, _, e1, _, hc1⟩ := hsl.byte (k := 1) (by omega)
  cases e1
  obtain ⟨_, _, e1, _, hc2⟩ := hsl.byte (k := 2) (by omega)
  cases e1
  obtain ⟨_, _, e1, _, hc3⟩ := hsl.byte (k := 3) (by omega)
  cases e1
  rw [Nat.add_zero] at hc0
  obtain ⟨x0, x1, x2⟩ := hown
  rw [x0] at hc0
  rw [x1] at hc1
  rw [x2] at hc2
  rw [hk3] at hc3
  have kb : k < 256 := by rw [← hk3]; exact getD_byte hx 3
  have ewL : IntKind.u64.wrap (L : Int) = (L : Int) := wrap_u64_in _ (by omega) (by omega)
  have c4 : ¬ c = 4 := by omega
  have c8 : ¬ c = 8 := by omega
  have c48 : (8 : Int) ≤ (c : Int) := by omega
  have c48' : 8 ≤ c := by omega
  obtain ⟨q2, h2⟩ : ∃ q, numB ((l.drop 4).take 4) = q := ⟨_, rfl⟩
  have hd44 : ((l.drop 4).take 4).length = 4 := by rw [List.length_take, List.length_drop]; omega
  have hsd : Sl w 1 ((l.drop 4).take 4).length (.slice (some ⟨b1, o1 + 4, none⟩) 4 (c - 4)) (elB ((l.drop 4).take 4)) := by
    have h4 : 4 ≤ (l.drop 4).length := by rw [List.length_drop]; omega
    have := sl_drop 4 (c - 4) hsl (by omega)
    rw [← List.length_drop] at this
    exact sl_take 4 (c - 4) this h4
  have HX := Lib.hid hx
  have HX4 : Hid (∀ x ∈ (l.drop 4).take 4, x < 256) := Lib.hid (fun x hm => hx x (List.mem_of_mem_drop (List.mem_of_mem_take hm)))
  have HL := Lib.hid hL
  obtain rfl : L = q2 := by omega
  have hxl : (l.take n).length = n := by rw [List.length_take]; omega
  have hyl : y.length = n - 8 := by rw [← hy, List.length_drop, hxl]
  have YB : Hid (∀ x ∈ y, x < 256) := Lib.hid (by rw [← hy]; exact lens (fun x hm => hx x (List.mem_of_mem_take hm)) 8)
  have n8 : 8 ≤ n := by omega
  have n8L : n ≤ 6000 := by omega
  have HP := Lib.hid hp
  have Q2 := Lib.hid h2
  have HG := Lib.hid hgood
  have HN := Lib.hid hn
  have HXL := Lib.hid hxl
  have HYL := Lib.hid hyl
  have HY := Lib.hid hy
  have n1l : n1 ≤ n - 8 := by rw [← hyl]; exact getP_le hp
  have hyl2 : (y.drop n1).length = n - (8 + n1) := by rw [List.length_drop, hyl]; omega
  have YB2 : Hid (∀ x ∈ y.drop n1, x < 256) := Lib.hid (lens YB.out n1)
  have HYL2 := Lib.hid hyl2
  have HP2 := Lib.hid hp2
  have HY2 : Hid ((l.take n).drop (8 + n1) = y.drop n1) := Lib.hid (by rw [← hy, List.drop_drop])
  clear hyl2 hp2
  have n2l : n2 ≤ n - (8 + n1) := by rw [← HYL2.out]; exact getP_le HP2.out
  have hyl3 : ((y.drop n1).drop n2).length = n - (8 + n1 + n2) := by rw [List.length_drop, HYL2.out]; omega
  have YB3 : Hid (∀ x ∈ (y.drop n1).drop n2, x < 256) := Lib.hid (lens YB2.out n2)
  have HYL3 := Lib.hid hyl3
  have HY3 : Hid ((l.take n).drop (8 + n1 + n2) = (y.drop n1).drop n2) := Lib.hid (by rw [← HY2.out, List.drop_drop])
  have G3 := Lib.hid hg3
  have ml : m ≤ n - (8 + n1 + n2) := by rw [← hyl3]; exact ((gs_le _ _ _ _ _ _ _ hg3).2 rfl).2
  have hyl4 : (((y.drop n1).drop n2).drop m).length = n - (8 + n1 + n2 + m) := by rw [List.length_drop, hyl3]; omega
  rw [hyl4] at hc
  have HYL4 := Lib.hid hyl4
  have HY4 : Hid ((l.take n).drop (8 + n1 + n2 + m) = ((y.drop n1).drop n2).drop m) := Lib.hid (by rw [← HY3.out, List.drop_drop])
  have HC := Lib.hid hc
  clear hyl4 hc
  clear h2 he2 hgood hn hp hxl hyl hy hyl3 hg3
  clear hx x0 x1 x2 hk3 hL
  go_enter Try.func23, Try.ntmps23
  go_wp2_with (first | (go_at_call 63; (with_reducible refine (number_as _ ((l.drop 4).take 4) (by omega) HX4.out L Q2.out _ (hsd.grow H.below)).mono ?_); rintro e w1 ⟨v, rfl, hr⟩; obtain ⟨rfl, hb1⟩ := hr; replace H := H.grow hb1; clear hb1) | (go_at_call 64; (with_reducible refine (ropen_good (some ⟨b1, o1, none⟩) L n c l HL.out HN.out hcap (by have := HL.out; omega) HX.out HG.out _ (hsl.grow H.below)).mono ?_); rintro e w1 ⟨v, rfl, hr⟩; obtain ⟨⟨ar, cr, rfl, ho⟩, hb1⟩ := hr; have kr := own_cap ho; replace H := H.new hb1 (slc_sound ho) (fun g hg => (ho.lt g hg).1); clear hb1 ho) | (with_reducible refine wpl rfl (Stp.slfrom (k := 8) 64 rfl rfl Try.underlying26 size5 rfl rfl (by omega) (by omega) ?_); intro A8 hA8; have H8 := Lib.hid hA8; clear hA8; simp only [Act.put, List.setIfInBounds_toArray, List.set_cons_zero, List.set_cons_succ]) | (go_at_call 65; (with_reducible refine (rpget_ok A8 (n - 8) (cr - 8) y HYL.out (by omega) (by have := HYL.out; omega) YB.out _ (sl_tailk 8 (H.getSlc (xs := bv (l.take n)) (by repeat (first | exact List.mem_cons_self | apply List.mem_cons_of_mem))) HXL.out n8L (by omega) kr H8.out HY.out) a1 c1 n1 0 HP.out).mono ?_); rintro e w1 ⟨v, rfl, hr⟩; obtain ⟨rfl, hb1⟩ := hr; replace H := H.grow hb1; clear hb1) | (with_reducible refine wpl rfl (Stp.slfrom (k := (8 + n1)) 77 rfl rfl Try.underlying26 size5 rfl rfl (by omega) (by omega) ?_); intro A9 hA9; have H9 := Lib.hid hA9; clear hA9; simp only [Act.put, List.setIfInBounds_toArray, List.set_cons_zero, List.set_cons_succ]) | (go_at_call 65; (with_reducible refine (rpget_ok A9 (n - (8 + n1)) (cr - (8 + n1)) (y.drop n1) HYL2.out (by omega) (by have := HYL2.out; omega) YB2.out _ (sl_tailk (8 + n1) (H.getSlc (xs := bv (l.take n)) (by repeat (first | exact List.mem_cons_self | apply List.mem_cons_of_mem))) HXL.out n8L (by omega) kr H9.out HY2.out) a2 c2 n2 0 HP2.out).mono ?_); rintro e w1 ⟨v, rfl, hr⟩; obtain ⟨rfl, hb1⟩ := hr; replace H := H.grow hb1; clear hb1) | (with_reducible refine wpl rfl (Stp.slfrom (k := (8 + n1 + n2)) 92 rfl rfl Try.underlying26 size5 rfl rfl (by omega) (by omega) ?_); intro A10 hA10; have H10 := Lib.hid hA10; clear hA10; simp only [Act.put, List.setIfInBounds_toArray, List.set_cons_zero, List.set_cons_succ]) | (go_at_call 66; (with_reducible refine (rgetshort_ok _ ((y.drop n1).drop n2) (by have := HYL3.out; omega) YB3.out _ (sl_tailk (8 + n1 + n2) (H.getSlc (xs := bv (l.take n)) (by repeat (first | exact List.mem_cons_self | apply List.mem_cons_of_mem))) HXL.out n8L (by omega) kr H10.out HY3.out) s m 0 G3.out).mono ?_); rintro e w1 ⟨v, rfl, hr⟩; obtain ⟨rfl, hb1⟩ := hr; replace H := H.grow hb1; clear hb1) | (go_at_call 18; (with_reducible refine (rcheck_as _ a1 c1 a2 c2 s ab (n - (8 + n1 + n2 + m)) cb 0 HC.out _).mono ?_); rintro e w1 ⟨v, rfl, hr⟩; obtain ⟨rfl, hb1⟩ := hr; replace H := H.grow hb1; clear hb1) | (with_reducible refine wpl rfl (Stp.bsl0 (e := 5) 106 rfl rfl (fun W => by kernel_rfl) H ?_); clear H; intro a106 c106 w1 H; simp only [Act.put, List.setIfInBounds_toArray, List.set_cons_zero, List.set_cons_succ]; (try simp only [Nat.zero_add, List.nil_append] at H ⊢)) | (with_reducible refine wpl rfl (Stp.slfrom (k := (8 + n1 + n2 + m)) 115 rfl rfl Try.underlying26 size5 rfl rfl (by omega) (by omega) ?_); intro A11 hA11; have H11 := Lib.hid hA11; clear hA11; simp only [Act.put, List.setIfInBounds_toArray, List.set_cons_zero, List.set_cons_succ]) | (with_reducible refine wpl rfl (Stp.apps 116 rfl rfl Try.underlying26 info5 rfl (by decide) rfl rfl H (fun _ => (by repeat (first | exact Upd.head | apply Upd.tail))) (by rw [bv_len, Nat.mul_one]; exact HYL4.out) (src_of (sl_tailk (8 + n1 + n2 + m) (H.getSlc (xs := bv (l.take n)) (by repeat (first | exact List.mem_cons_self | apply List.mem_cons_of_mem))) HXL.out n8L (by omega) kr H11.out HY4.out) HYL4.out (Below.refl _ _)) (bv_one (((y.drop n1).drop n2).drop m)) (by unfold maxLen; omega) (by omega) ?_); clear H; intro ab cb w1 H; simp only [Act.put, List.setIfInBounds_toArray, List.set_cons_zero, List.set_cons_succ]; (try simp only [Nat.zero_add, List.nil_append] at H ⊢)) | (with_reducible refine wpl rfl (Stp.alloc 2 rfl rfl zero43 H ?_); clear H; intro g2 w1 H; simp only [Act.put, List.setIfInBounds_toArray, List.set_cons_zero, List.set_cons_succ]; simp only [cells_agg, cells_int, cells_bool, cells_string, cells_pointer, cells_slice, cells_map] at H) | (with_reducible refine wpl rfl (Stp.alloc 4 rfl rfl zero43 H ?_); clear H; intro g4 w1 H; simp only [Act.put, List.setIfInBounds_toArray, List.set_cons_zero, List.set_cons_succ]; simp only [cells_agg, cells_int, cells_bool, cells_string, cells_pointer, cells_slice, cells_map] at H) | (with_reducible refine wpl rfl (Stp.str rfl size43 rfl rfl (by first | rfl | (simp [Value.oneCell']; done) | assumption) H (by repeat (first | exact Upd.head | apply Upd.tail)) (by first | rfl | (simp; done) | assumption) (by first | rfl | (simp; done) | assumption) ?_); clear H; intro w1 H; simp only [Act.put, List.setIfInBounds_toArray, List.set_cons_zero, List.set_cons_succ]) | (with_reducible refine wpl rfl (Stp.stl rfl size43 rfl rfl rfl rfl H (by repeat (first | exact Upd.head | apply Upd.tail)) (by simp) ?_); clear H; intro w1 H; simp only [Act.put, List.setIfInBounds_toArray, List.set_cons_zero, List.set_cons_succ]; simp only [List.drop_succ_cons, List.drop_zero, List.take_succ_cons, List.take_zero, List.nil_append, List.cons_append, Nat.reduceAdd] at H) | (with_reducible refine wpl rfl (Stp.ldr rfl agg43 size43 rfl H (by repeat (first | exact List.mem_cons_self | apply List.mem_cons_of_mem)) (by first | rfl | (simp; done) | assumption) ?_); simp only [Act.put, List.setIfInBounds_toArray, List.set_cons_zero, List.set_cons_succ]) | (with_reducible refine wpl rfl (Stp.ldl rfl agg43 size43 rfl H (by repeat (first | exact List.mem_cons_self | apply List.mem_cons_of_mem)) (by simp) ?_); simp only [Act.put, List.setIfInBounds_toArray, List.set_cons_zero, List.set_cons_succ]; simp only [List.drop_succ_cons, List.drop_zero, List.take_succ_cons, List.take_zero]) | (with_reducible refine wpl rfl (Stp.ldor rfl agg43 size43 rfl H (by assumption) (by first | rfl | (simp; done) | assumption) (by assumption) ?_); simp only [Act.put, List.setIfInBounds_toArray, List.set_cons_zero, List.set_cons_succ]) | (with_reducible refine wpl rfl (Stp.ldc rfl agg5 rfl H (by repeat (first | exact List.mem_cons_self | apply List.mem_cons_of_mem)) (by first | (repeat (first | exact lit0 _ _ | apply lits)) | rfl | assumption) ?_); simp only [Act.put, List.setIfInBounds_toArray, List.set_cons_zero, List.set_cons_succ]) | (with_reducible refine wpl rfl (Stp.ldo rfl agg5 rfl H (by assumption) (by assumption) ?_); simp only [Act.put, List.setIfInBounds_toArray, List.set_cons_zero, List.set_cons_succ]) | (with_reducible refine wpl rfl (Stp.alloc 7 rfl rfl zero43 H ?_); clear H; intro g7 w1 H; simp only [Act.put, List.setIfInBounds_toArray, List.set_cons_zero, List.set_cons_succ]; simp only [cells_agg, cells_int, cells_bool, cells_string, cells_pointer, cells_slice, cells_map] at H) | (with_reducible refine wpl rfl (Stp.alloc 9 rfl rfl zero34 H ?_); clear H; intro g9 w1 H; simp only [Act.put, List.setIfInBounds_toArray, List.set_cons_zero, List.set_cons_succ]; simp only [cells_agg, cells_int, cells_bool, cells_string, cells_pointer, cells_slice, cells_map] at H) | (with_reducible refine wpl rfl (Stp.str rfl size34 rfl rfl (by first | rfl | (simp [Value.oneCell']; done) | assumption) H (by repeat (first | exact Upd.head | apply Upd.tail)) (by first | rfl | (simp; done) | assumption) (by first | rfl | (simp; done) | assumption) ?_); clear H; intro w1 H; simp only [Act.put, List.setIfInBounds_toArray, List.set_cons_zero, List.set_cons_succ]) | (with_reducible refine wpl rfl (Stp.stl rfl size34 rfl rfl rfl rfl H (by repeat (first | exact Upd.head | apply Upd.tail)) (by simp) ?_); clear H; intro w1 H; simp only [Act.put, List.setIfInBounds_toArray, List.set_cons_zero, List.set_cons_succ]; simp only [List.drop_succ_cons, List.drop_zero, List.take_succ_cons, List.take_zero, List.nil_append, List.cons_append, Nat.reduceAdd] at H) | (with_reducible refine wpl rfl (Stp.alloc 11 rfl rfl zero34 H ?_); clear H; intro g11 w1 H; simp only [Act.put, List.setIfInBounds_toArray, List.set_cons_zero, List.set_cons_succ]; simp only [cells_agg, cells_int, cells_bool, cells_string, cells_pointer, cells_slice, cells_map] at H) | (with_reducible refine wpl rfl (Stp.ldr rfl agg34 size34 rfl H (by repeat (first | exact List.mem_cons_self | apply List.mem_cons_of_mem)) (by first | rfl | (simp; done) | assumption) ?_); simp only [Act.put, List.setIfInBounds_toArray, List.set_cons_zero, List.set_cons_succ]) | (with_reducible refine wpl rfl (Stp.ldl rfl agg34 size34 rfl H (by repeat (first | exact List.mem_cons_self | apply List.mem_cons_of_mem)) (by simp) ?_); simp only [Act.put, List.setIfInBounds_toArray, List.set_cons_zero, List.set_cons_succ]; simp only [List.drop_succ_cons, List.drop_zero, List.take_succ_cons, List.take_zero]) | (with_reducible refine wpl rfl (Stp.ldor rfl agg34 size34 rfl H (by assumption) (by first | rfl | (simp; done) | assumption) (by assumption) ?_); simp only [Act.put, List.setIfInBounds_toArray, List.set_cons_zero, List.set_cons_succ]) | (with_reducible refine wpl rfl (Stp.stc rfl size30 rfl rfl rfl rfl H (by repeat (first | exact Upd.head | apply Upd.tail)) (by first | omega | (simp; done) | (simp; omega)) ?_); clear H; intro w1 H; simp only [Act.put, List.setIfInBounds_toArray, List.set_cons_zero, List.set_cons_succ]; simp only [eval_tmp, eval_const, getD_lit0, getD_lits, cells_agg, cells_int, cells_bool, cells_string, cells_pointer, cells_slice, cells_map, List.setIfInBounds_toArray, List.set_cons_zero, List.set_cons_succ] at H) | (with_reducible refine wpl rfl (Stp.stc rfl size26 rfl rfl rfl rfl H (by repeat (first | exact Upd.head | apply Upd.tail)) (by first | omega | (simp; done) | (simp; omega)) ?_); clear H; intro w1 H; simp only [Act.put, List.setIfInBounds_toArray, List.set_cons_zero, List.set_cons_succ]; simp only [eval_tmp, eval_const, getD_lit0, getD_lits, cells_agg, cells_int, cells_bool, cells_string, cells_pointer, cells_slice, cells_map, List.setIfInBounds_toArray, List.set_cons_zero, List.set_cons_succ] at H))
  refine post_row2 rfl agg43 size43 rfl H (by repeat (first | exact List.mem_cons_self | apply List.mem_cons_of_mem)) rfl rfl ⟨_, rfl, ⟨ab, cb, rfl, H.getSlc (by repeat (first | exact List.mem_cons_self | apply List.mem_cons_of_mem))⟩, H.below⟩
end Go.Proofs.Ytcjbippgjhgoiaa
