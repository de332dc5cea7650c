/- The statement BodyLays of layer 7 (body), proved; no condition: the law's walk, and the row round it. -/
import Derived.Test.YtcjbippgjhgoiaaBody5
namespace Go.Proofs.Ytcjbippgjhgoiaa
open Go.ChangeShapes Go.WideShapes Go.ChangeAt Go.RowKit Go.Deep
set_option linter.unusedVariables false
set_option linter.unusedSimpArgs false
theorem okTh_grow {w w' : World} {x : Th} (h : okTh w x) (hb : Below w.heap.size w w') : okTh w' x := ⟨h.n, h.r, h.i, h.c, h.b, h.ps, h.s1.grow hb, h.s2.grow hb⟩
theorem ex_short : shortB 300 = [172, 2] := by decide
set_option maxRecDepth 100000 in
theorem awake_ok (w : World) : Calls Try.prog 11 #[] w (Ret fun v w' => v = .bool true ∧ Below w.heap.size w w') := by
  have H := St.init w
  have E1 : Hid (([] : List Nat) ++ shortB 300 = [172, 2]) := Lib.hid (by rw [ex_short]; rfl)
  have E2 : Hid ([172, 2] ++ [true.toNat] = [172, 2, 1]) := Lib.hid rfl
  go_enter Try.func11, Try.ntmps11
  go_wp2_with (first | (with_reducible refine wpl rfl (Stp.box 3 rfl rfl rfl H ?_); clear H; intro g3 w1 H; simp only [Act.put, List.setIfInBounds_toArray, List.set_cons_zero, List.set_cons_succ]; simp only [eval_tmp, eval_const, getD_lit0, getD_lits, cells_agg, cells_int, cells_bool, cells_string, cells_pointer, cells_slice, cells_map, List.setIfInBounds_toArray, List.set_cons_zero, List.set_cons_succ] at H))
  have HW : WSt w.heap.size w _ _ [] [] := ⟨none, 0, (H.nil 5 1).perm (.swap _ _ _)⟩
  refine (wnum_ok _ [] [172, 2] 300 (by simp) (by omega) E1.out _ HW).mono ?_
  rintro e w1 ⟨v, rfl, rfl, HW⟩
  go_wp2_with (first | (with_reducible refine wpl rfl (Stp.box 3 rfl rfl rfl H ?_); clear H; intro g3 w1 H; simp only [Act.put, List.setIfInBounds_toArray, List.set_cons_zero, List.set_cons_succ]; simp only [eval_tmp, eval_const, getD_lit0, getD_lits, cells_agg, cells_int, cells_bool, cells_string, cells_pointer, cells_slice, cells_map, List.setIfInBounds_toArray, List.set_cons_zero, List.set_cons_succ] at H))
  refine (wtruth_ok _ [172, 2] [172, 2, 1] true (by simp) E2.out _ HW).mono ?_
  rintro e w1 ⟨v, rfl, rfl, HW⟩
  go_wp2_with (first | (with_reducible refine wpl rfl (Stp.box 3 rfl rfl rfl H ?_); clear H; intro g3 w1 H; simp only [Act.put, List.setIfInBounds_toArray, List.set_cons_zero, List.set_cons_succ]; simp only [eval_tmp, eval_const, getD_lit0, getD_lits, cells_agg, cells_int, cells_bool, cells_string, cells_pointer, cells_slice, cells_map, List.setIfInBounds_toArray, List.set_cons_zero, List.set_cons_succ] at H))
  refine (wdone_ok _ [172, 2, 1] (by simp) _ HW).mono ?_
  rintro e w1 ⟨v, rfl, ⟨ad, cd, rfl⟩, ho, hb1⟩
  obtain ⟨a1, c1, H1⟩ := HW
  clear H
  have H := H1.new hb1 (slc_sound ho) (fun g hg => (ho.lt g hg).1)
  clear H1 hb1 ho
  go_wp2_with (first | (with_reducible refine wpl rfl (Stp.bsl (e := 5) (cs := #[.int .u8 172, .int .u8 2, .int .u8 1]) 10 rfl rfl (fun W => by kernel_rfl) H ?_); clear H; intro g10 w1 H; simp only [Act.put, List.setIfInBounds_toArray, List.set_cons_zero, List.set_cons_succ]) | (with_reducible refine wpl rfl (Stp.box 3 rfl rfl rfl H ?_); clear H; intro g3 w1 H; simp only [Act.put, List.setIfInBounds_toArray, List.set_cons_zero, List.set_cons_succ]; simp only [eval_tmp, eval_const, getD_lit0, getD_lits, cells_agg, cells_int, cells_bool, cells_string, cells_pointer, cells_slice, cells_map, List.setIfInBounds_toArray, List.set_cons_zero, List.set_cons_succ] at H))
  have s1 : Sl w1 1 [172, 2, 1].length (.slice ad 3 cd) (elB [172, 2, 1]) := own_sl (l := [172, 2, 1]) (H.getSlc (by repeat (first | exact List.mem_cons_self | apply List.mem_cons_of_mem))) (by decide)
  have s2 : Sl w1 1 [172, 2, 1].length (.slice (some ⟨g10, 0, none⟩) 3 3) (elB [172, 2, 1]) := row_sl (l := [172, 2, 1]) (H.getRow (t := 5) (by repeat (first | exact List.mem_cons_self | apply List.mem_cons_of_mem))) (by decide)
  refine (same_ok _ _ [172, 2, 1] [172, 2, 1] _ s1 s2).mono ?_
  rintro e w1 ⟨v, rfl, rfl, hb1⟩
  replace H := H.grow hb1
  clear hb1 s1 s2
  rw [beq_self_eq_true]
  go_wp2_with (first | (with_reducible refine wpl rfl (Stp.box 3 rfl rfl rfl H ?_); clear H; intro g3 w1 H; simp only [Act.put, List.setIfInBounds_toArray, List.set_cons_zero, List.set_cons_succ]; simp only [eval_tmp, eval_const, getD_lit0, getD_lits, cells_agg, cells_int, cells_bool, cells_string, cells_pointer, cells_slice, cells_map, List.setIfInBounds_toArray, List.set_cons_zero, List.set_cons_succ] at H))
  go_ret
  exact ⟨_, rfl, rfl, H.below⟩
def catT (xs : List Th) : List Nat := xs.flatMap layB
theorem catT_snoc (xs : List Th) (k : Nat) (h : k < xs.length) : catT (xs.take (k + 1)) = catT (xs.take k) ++ layB xs[k] := by
  unfold catT
  rw [List.take_succ_eq_append_getElem h, List.flatMap_append]
  simp
theorem great_at {xs : List Th} (h : greatB xs = false) (k : Nat) (hk : k < xs.length) (h60 : k < 60) : xs[k].b.length ≤ 300 ∧ xs[k].ps.length ≤ 60 := by
  unfold greatB at h
  have hm : xs[k] ∈ xs.take 60 := by
    rw [List.mem_take_iff_getElem]
    exact ⟨k, by omega, rfl⟩
  have := (List.any_eq_false.1 h) _ hm
  simp at this
  omega
theorem catT_len {xs : List Th} (h : greatB xs = false) : ∀ k, k ≤ xs.length → k ≤ 60 → (catT (xs.take k)).length ≤ 1210 * k
  | 0, _, _ => by simp [catT]
  | k + 1, h1, h2 => by
    have ih := catT_len h k (by omega) (by omega)
    obtain ⟨b1, b2⟩ := great_at h k (by omega) (by omega)
    have := (layB_len xs[k] b1 b2).2
    rw [catT_snoc xs k (by omega), List.length_append]
    omega
theorem Rd.old {w0 : World} {L : List Res} {size n : Nat} {v : Value} {E : Nat → Array Value} (h : Sl w0 size n v E) : Rd w0.heap.size w0 L fun W => Sl W size n v E := fun W hb _ => h.grow hb
theorem xor255 (x : Nat) (h : x < 256) : bits .xor .u8 (x : Int) 255 = ((255 - x : Nat) : Int) := by
  have := (by decide +kernel : ∀ x : Fin 256, bits .xor .u8 ((x.val : Nat) : Int) 255 = ((255 - x.val : Nat) : Int))
  exact this ⟨x, h⟩
set_option maxRecDepth 100000 in
set_option maxHeartbeats 4000000 in
theorem law_lays (v : Value) (xs : List Th) (w : World) (ho : ∀ x ∈ xs, okTh w x) (hs : Sl w 9 xs.length v (elT xs)) :
    Calls Try.prog 3 #[v] w (Ret fun v w' => v = .bool true ∧ Below w.heap.size w w') := by
  have H := St.init w
  have hs' := hs
  obtain ⟨ad, c, rfl, hm, _⟩ := hs'
  unfold maxLen at hm
  have HO := Lib.hid ho
  clear ho
  cases hg : greatB xs
  · have HG := Lib.hid hg
    clear hg
    go_enter Try.func3, Try.ntmps3
    go_wp2_with (first | (go_at_call 10; (with_reducible refine (great_ok _ xs _ (fun x hx => okTh_grow (HO.out x hx) H.below) (hs.grow H.below)).mono ?_); rintro e w1 ⟨v, rfl, hr⟩; obtain ⟨rfl, hb1⟩ := hr; replace H := H.grow hb1; clear hb1; rw [HG.out]) | (with_reducible refine wpl rfl (Stp.box 12 rfl rfl rfl H ?_); clear H; intro g12 w1 H; simp only [Act.put, List.setIfInBounds_toArray, List.set_cons_zero, List.set_cons_succ]; simp only [eval_tmp, eval_const, getD_lit0, getD_lits, cells_agg, cells_int, cells_bool, cells_string, cells_pointer, cells_slice, cells_map, List.setIfInBounds_toArray, List.set_cons_zero, List.set_cons_succ] at H) | (with_reducible refine wpl rfl (Stp.ldr rfl agg39 size39 rfl H (by repeat (first | exact List.mem_cons_self | apply List.mem_cons_of_mem)) (by first | rfl | (simp; done) | assumption) ?_); simp only [Act.put, List.setIfInBounds_toArray, List.set_cons_zero, List.set_cons_succ]) | (with_reducible refine wpl rfl (Stp.ldl rfl agg39 size39 rfl H (by repeat (first | exact List.mem_cons_self | apply List.mem_cons_of_mem)) (by simp) ?_); simp only [Act.put, List.setIfInBounds_toArray, List.set_cons_zero, List.set_cons_succ]; simp only [List.drop_succ_cons, List.drop_zero, List.take_succ_cons, List.take_zero]) | (with_reducible refine wpl rfl (Stp.ldor rfl agg39 size39 rfl H (by assumption) (by first | rfl | (simp; done) | assumption) (by assumption) ?_); simp only [Act.put, List.setIfInBounds_toArray, List.set_cons_zero, List.set_cons_succ]) | (with_reducible refine wpl rfl (Stp.ldc rfl agg5 rfl H (by repeat (first | exact List.mem_cons_self | apply List.mem_cons_of_mem)) (by first | exact hck | (repeat (first | exact lit0 _ _ | apply lits)) | rfl | assumption) ?_); simp only [Act.put, List.setIfInBounds_toArray, List.set_cons_zero, List.set_cons_succ]) | (with_reducible refine wpl rfl (Stp.ldo rfl agg5 rfl H (by assumption) (by assumption) ?_); simp only [Act.put, List.setIfInBounds_toArray, List.set_cons_zero, List.set_cons_succ]) | (with_reducible refine wpl rfl (Stp.stc rfl size5 rfl rfl rfl rfl H (by repeat (first | exact Upd.head | apply Upd.tail)) (by first | exact hks | omega | (simp; done) | (simp; omega)) ?_); clear H; intro w1 H; simp only [Act.put, List.setIfInBounds_toArray, List.set_cons_zero, List.set_cons_succ]; simp only [eval_tmp, eval_const, getD_lit0, getD_lits, cells_agg, cells_int, cells_bool, cells_string, cells_pointer, cells_slice, cells_map, List.setIfInBounds_toArray, List.set_cons_zero, List.set_cons_succ] at H))
    replace H := (H.nil 5 1).perm (.swap _ _ _)
    replace H := H.nil 5 1
    go_loopw [5, 4] (fun i o wr => ∃ (k : Nat) (a a2 : Option Addr) (c c2 : Nat) (m : List Nat), k ≤ xs.length ∧ k ≤ 60 ∧ i = .int .i64 (k : Int) ∧ o = .slice a2 m.length c2 ∧ Hid (catT (xs.take k) = m) ∧ St w.heap.size w wr [slc 5 1 (.slice a2 m.length c2) m.length (bv m), row 28 g12 #[.slice a m.length c], slc 5 1 (.slice a m.length c) m.length (bv m)]) (fun i _ _ => 60 - (intOf i).toNat)
    case atStart => exact ⟨0, none, none, 0, 0, [], Nat.zero_le _, by omega, rfl, rfl, Lib.hid (by simp [catT]), H⟩
    case round =>
      clear H
      obtain ⟨k, a, a2, c, c2, m, hk, hk6, rfl, rfl, HC, H⟩ := hrel
      have ml : m.length ≤ 72600 := by
        have := catT_len HG.out k hk hk6
        rw [HC.out] at this
        omega
      by_cases hend : k < xs.length ∧ k < 60
      · obtain ⟨hlt, h60⟩ := hend
        have hmem : xs[k] ∈ xs := List.getElem_mem hlt
        obtain ⟨b, off, rfl, hbb⟩ := hs.addr (by omega)
        have hcell := hs.cell hlt
        rw [elT_at xs k hlt] at hcell
        have hsn := catT_snoc xs k hlt
        obtain ⟨g1, g2⟩ := great_at HG.out k hlt h60
        obtain ⟨x, hx⟩ : ∃ x, xs[k] = x := ⟨_, rfl⟩
        rw [hx] at hmem hcell hsn g1 g2
        have hox := HO.out x hmem
        obtain ⟨f, hf⟩ : ∃ f, layB x = f := ⟨_, rfl⟩
        obtain ⟨f0, f1⟩ := layB_len x g1 g2
        rw [hf] at f0 f1
        obtain ⟨q, hq⟩ : ∃ q, m ++ f = q := ⟨_, rfl⟩
        have hql : m.length + f.length = q.length := by rw [← hq, List.length_append]
        have hcq : catT (xs.take (k + 1)) = q := by rw [hsn, hf, HC.out, hq]
        have q0 : 0 < q.length := by omega
        have ql : q.length ≤ 73900 := by omega
        have HCELL := Lib.hid hcell
        have HF := Lib.hid hf
        have HQ := Lib.hid hq
        have HQL := Lib.hid hql
        have HCQ := Lib.hid hcq
        have kli : (k : Int) < (xs.length : Int) := by omega
        have k6i : (k : Int) < 60 := by omega
        clear hcell hsn hx hf hq hql hcq
        go_wp2_with (first | (with_reducible refine wpl rfl (Stp.ldq (cs := thC x) rfl agg39 size39 rfl (fun j hj => (H.below.cell hbb).trans (HCELL.out j hj)) rfl ?_); simp only [Act.put, List.setIfInBounds_toArray, List.set_cons_zero, List.set_cons_succ]) | (with_reducible refine wpl rfl (Stp.box 12 rfl rfl rfl H ?_); clear H; intro g12 w1 H; simp only [Act.put, List.setIfInBounds_toArray, List.set_cons_zero, List.set_cons_succ]; simp only [eval_tmp, eval_const, getD_lit0, getD_lits, cells_agg, cells_int, cells_bool, cells_string, cells_pointer, cells_slice, cells_map, List.setIfInBounds_toArray, List.set_cons_zero, List.set_cons_succ] at H) | (with_reducible refine wpl rfl (Stp.ldr rfl agg39 size39 rfl H (by repeat (first | exact List.mem_cons_self | apply List.mem_cons_of_mem)) (by first | rfl | (simp; done) | assumption) ?_); simp only [Act.put, List.setIfInBounds_toArray, List.set_cons_zero, List.set_cons_succ]) | (with_reducible refine wpl rfl (Stp.ldl rfl agg39 size39 rfl H (by repeat (first | exact List.mem_cons_self | apply List.mem_cons_of_mem)) (by simp) ?_); simp only [Act.put, List.setIfInBounds_toArray, List.set_cons_zero, List.set_cons_succ]; simp only [List.drop_succ_cons, List.drop_zero, List.take_succ_cons, List.take_zero]) | (with_reducible refine wpl rfl (Stp.ldor rfl agg39 size39 rfl H (by assumption) (by first | rfl | (simp; done) | assumption) (by assumption) ?_); simp only [Act.put, List.setIfInBounds_toArray, List.set_cons_zero, List.set_cons_succ]) | (with_reducible refine wpl rfl (Stp.ldc rfl agg5 rfl H (by repeat (first | exact List.mem_cons_self | apply List.mem_cons_of_mem)) (by first | exact hck | (repeat (first | exact lit0 _ _ | apply lits)) | rfl | assumption) ?_); simp only [Act.put, List.setIfInBounds_toArray, List.set_cons_zero, List.set_cons_succ]) | (with_reducible refine wpl rfl (Stp.ldo rfl agg5 rfl H (by assumption) (by assumption) ?_); simp only [Act.put, List.setIfInBounds_toArray, List.set_cons_zero, List.set_cons_succ]) | (with_reducible refine wpl rfl (Stp.stc rfl size5 rfl rfl rfl rfl H (by repeat (first | exact Upd.head | apply Upd.tail)) (by first | exact hks | omega | (simp; done) | (simp; omega)) ?_); clear H; intro w1 H; simp only [Act.put, List.setIfInBounds_toArray, List.set_cons_zero, List.set_cons_succ]; simp only [eval_tmp, eval_const, getD_lit0, getD_lits, cells_agg, cells_int, cells_bool, cells_string, cells_pointer, cells_slice, cells_map, List.setIfInBounds_toArray, List.set_cons_zero, List.set_cons_succ] at H))
        refine (lay_ok g12 m q f x hox.n hox.r hox.i hox.c (by omega) hox.ps (by omega) (by omega) HF.out HQ.out _ (Rd.old hox.s1) (Rd.old hox.s2) (WSt.of H (by repeat (first | (with_reducible exact Pull.head) | apply Pull.tail)) (by repeat (first | (with_reducible exact Pull.head) | apply Pull.tail)) (List.Sublist.refl _))).mono ?_
        rintro e w1 ⟨v, rfl, af, cf, rfl, a3, c3, H1⟩
        clear H
        have H := H1
        clear H1
        go_wp2_with (first | (with_reducible refine wpl rfl (Stp.apps 30 rfl rfl Try.underlying26 info5 rfl (by decide) rfl rfl H (fun _ => (by repeat (first | exact Upd.head | apply Upd.tail))) (by rw [bv_len, Nat.mul_one]) (own_src (H.getSlc (xs := bv f) (by repeat (first | exact List.mem_cons_self | apply List.mem_cons_of_mem)))) (bv_one f) (by unfold maxLen; omega) (by omega) ?_); clear H; intro a30 c30 w1 H; simp only [Act.put, List.setIfInBounds_toArray, List.set_cons_zero, List.set_cons_succ]; rw [bv_app, HQ.out, HQL.out] at H; rw [HQL.out]) | (go_at_call 13; (with_reducible refine (wdone_ok _ q (by omega) _ (WSt.of H (by repeat (first | (with_reducible exact Pull.head) | apply Pull.tail)) (by repeat (first | (with_reducible exact Pull.head) | apply Pull.tail)) (List.Sublist.refl _))).mono ?_); rintro e w1 ⟨v, rfl, hr⟩; obtain ⟨⟨ad, cd, rfl⟩, ho, hb1⟩ := hr; replace H := H.new hb1 (slc_sound ho) (fun g hg => (ho.lt g hg).1); clear hb1 ho) | (with_reducible refine wpl rfl (Stp.box 12 rfl rfl rfl H ?_); clear H; intro g12 w1 H; simp only [Act.put, List.setIfInBounds_toArray, List.set_cons_zero, List.set_cons_succ]; simp only [eval_tmp, eval_const, getD_lit0, getD_lits, cells_agg, cells_int, cells_bool, cells_string, cells_pointer, cells_slice, cells_map, List.setIfInBounds_toArray, List.set_cons_zero, List.set_cons_succ] at H) | (with_reducible refine wpl rfl (Stp.ldr rfl agg39 size39 rfl H (by repeat (first | exact List.mem_cons_self | apply List.mem_cons_of_mem)) (by first | rfl | (simp; done) | assumption) ?_); simp only [Act.put, List.setIfInBounds_toArray, List.set_cons_zero, List.set_cons_succ]) | (with_reducible refine wpl rfl (Stp.ldl rfl agg39 size39 rfl H (by repeat (first | exact List.mem_cons_self | apply List.mem_cons_of_mem)) (by simp) ?_); simp only [Act.put, List.setIfInBounds_toArray, List.set_cons_zero, List.set_cons_succ]; simp only [List.drop_succ_cons, List.drop_zero, List.take_succ_cons, List.take_zero]) | (with_reducible refine wpl rfl (Stp.ldor rfl agg39 size39 rfl H (by assumption) (by first | rfl | (simp; done) | assumption) (by assumption) ?_); simp only [Act.put, List.setIfInBounds_toArray, List.set_cons_zero, List.set_cons_succ]) | (with_reducible refine wpl rfl (Stp.ldc rfl agg5 rfl H (by repeat (first | exact List.mem_cons_self | apply List.mem_cons_of_mem)) (by first | exact hck | (repeat (first | exact lit0 _ _ | apply lits)) | rfl | assumption) ?_); simp only [Act.put, List.setIfInBounds_toArray, List.set_cons_zero, List.set_cons_succ]) | (with_reducible refine wpl rfl (Stp.ldo rfl agg5 rfl H (by assumption) (by assumption) ?_); simp only [Act.put, List.setIfInBounds_toArray, List.set_cons_zero, List.set_cons_succ]) | (with_reducible refine wpl rfl (Stp.stc rfl size5 rfl rfl rfl rfl H (by repeat (first | exact Upd.head | apply Upd.tail)) (by first | exact hks | omega | (simp; done) | (simp; omega)) ?_); clear H; intro w1 H; simp only [Act.put, List.setIfInBounds_toArray, List.set_cons_zero, List.set_cons_succ]; simp only [eval_tmp, eval_const, getD_lit0, getD_lits, cells_agg, cells_int, cells_bool, cells_string, cells_pointer, cells_slice, cells_map, List.setIfInBounds_toArray, List.set_cons_zero, List.set_cons_succ] at H))
        have s1 := own_slk (l := q) (H.getSlc (v := .slice ad q.length cd) (n := q.length) (xs := bv q) (by repeat (first | exact List.mem_cons_self | apply List.mem_cons_of_mem))) rfl (by omega)
        have s2 := own_slk (l := q) (H.getSlc (v := .slice a30 q.length c30) (n := q.length) (xs := bv q) (by repeat (first | exact List.mem_cons_self | apply List.mem_cons_of_mem))) rfl (by omega)
        refine (same_ok _ _ q q _ s1 s2).mono ?_
        rintro e w1 ⟨v, rfl, rfl, hb1⟩
        replace H := H.grow hb1
        clear hb1 s1 s2
        rw [beq_self_eq_true]
        obtain ⟨gb, cap, cs, hv, hnc, hsz, htk, H2⟩ := H.open_slc (fun g cs => Upd.head) q0
        clear H
        have H := H2
        clear H2
        injection hv with hv1 _ hv2
        subst hv1 hv2
        rw [Nat.mul_one] at hsz htk
        have hqb : ∀ y ∈ q, y < 256 := by
          rw [← HCQ.out]
          intro y hy
          unfold catT at hy
          obtain ⟨z, hz, hy⟩ := List.mem_flatMap.1 hy
          exact layB_byte z (HO.out z (List.mem_of_mem_take hz)).b y hy
        have HTK : Hid (∃ y : List Nat, y.length = q.length ∧ (∀ z ∈ y, z < 256) ∧ cs.toList.take q.length = bv y) := Lib.hid ⟨q, rfl, hqb, htk⟩
        have hcsz : q.length ≤ cs.size := by omega
        clear htk hqb
        go_wp2_with (first | (with_reducible refine wpl rfl (Stp.box 12 rfl rfl rfl H ?_); clear H; intro g12 w1 H; simp only [Act.put, List.setIfInBounds_toArray, List.set_cons_zero, List.set_cons_succ]; simp only [eval_tmp, eval_const, getD_lit0, getD_lits, cells_agg, cells_int, cells_bool, cells_string, cells_pointer, cells_slice, cells_map, List.setIfInBounds_toArray, List.set_cons_zero, List.set_cons_succ] at H) | (with_reducible refine wpl rfl (Stp.ldr rfl agg39 size39 rfl H (by repeat (first | exact List.mem_cons_self | apply List.mem_cons_of_mem)) (by first | rfl | (simp; done) | assumption) ?_); simp only [Act.put, List.setIfInBounds_toArray, List.set_cons_zero, List.set_cons_succ]) | (with_reducible refine wpl rfl (Stp.ldl rfl agg39 size39 rfl H (by repeat (first | exact List.mem_cons_self | apply List.mem_cons_of_mem)) (by simp) ?_); simp only [Act.put, List.setIfInBounds_toArray, List.set_cons_zero, List.set_cons_succ]; simp only [List.drop_succ_cons, List.drop_zero, List.take_succ_cons, List.take_zero]) | (with_reducible refine wpl rfl (Stp.ldor rfl agg39 size39 rfl H (by assumption) (by first | rfl | (simp; done) | assumption) (by assumption) ?_); simp only [Act.put, List.setIfInBounds_toArray, List.set_cons_zero, List.set_cons_succ]) | (with_reducible refine wpl rfl (Stp.ldc rfl agg5 rfl H (by repeat (first | exact List.mem_cons_self | apply List.mem_cons_of_mem)) (by first | exact hck | (repeat (first | exact lit0 _ _ | apply lits)) | rfl | assumption) ?_); simp only [Act.put, List.setIfInBounds_toArray, List.set_cons_zero, List.set_cons_succ]) | (with_reducible refine wpl rfl (Stp.ldo rfl agg5 rfl H (by assumption) (by assumption) ?_); simp only [Act.put, List.setIfInBounds_toArray, List.set_cons_zero, List.set_cons_succ]) | (with_reducible refine wpl rfl (Stp.stc rfl size5 rfl rfl rfl rfl H (by repeat (first | exact Upd.head | apply Upd.tail)) (by first | exact hks | omega | (simp; done) | (simp; omega)) ?_); clear H; intro w1 H; simp only [Act.put, List.setIfInBounds_toArray, List.set_cons_zero, List.set_cons_succ]; simp only [eval_tmp, eval_const, getD_lit0, getD_lits, cells_agg, cells_int, cells_bool, cells_string, cells_pointer, cells_slice, cells_map, List.setIfInBounds_toArray, List.set_cons_zero, List.set_cons_succ] at H))
        go_loopw [7] (fun i wr => ∃ (j : Nat) (ds : Array Value), j ≤ q.length ∧ i = .int .i64 (j : Int) ∧ q.length ≤ ds.size ∧ Hid (∃ y : List Nat, y.length = q.length ∧ (∀ z ∈ y, z < 256) ∧ ds.toList.take q.length = bv y) ∧ St w.heap.size w wr [row 5 gb ds, row 28 g12 #[.slice a3 q.length c3], slc 5 1 (.slice a3 q.length c3) q.length (bv q), slc 5 1 (.slice a30 q.length c30) q.length (bv q)]) (fun i _ => q.length - (intOf i).toNat)
        case atStart => exact ⟨0, cs, Nat.zero_le _, rfl, hcsz, HTK, H.sub (by repeat (first | exact List.Sublist.refl _ | exact List.nil_sublist _ | (with_reducible apply List.Sublist.cons_cons) | apply List.Sublist.cons))⟩
        case round =>
          clear H HTK
          obtain ⟨j, ds, hj, rfl, hds, HY, H⟩ := hrel
          by_cases hjl : j < q.length
          · obtain ⟨y, hyl, hyb, hyt⟩ := HY.out
            obtain ⟨z, hz⟩ : ∃ z, y.getD j 0 = z := ⟨_, rfl⟩
            have hz8 : z < 256 := by rw [← hz]; exact getD_byte hyb j
            have hck : ds[j]? = some (.int .u8 (z : Int)) := by
              have : (ds.toList.take q.length)[j]? = (bv y)[j]? := by rw [hyt]
              rw [List.getElem?_take, if_pos (by omega)] at this
              rw [← Array.getElem?_toList, this, ← hz]
              simp [bv, List.getD, hyl, hjl]
            have hks : j < ds.size := by omega
            have hx := xor255 z hz8
            have jli : (j : Int) < (q.length : Int) := by omega
            have HY2 : Hid (∃ y : List Nat, y.length = q.length ∧ (∀ z ∈ y, z < 256) ∧ (ds.setIfInBounds j (.int .u8 ((255 - z : Nat) : Int))).toList.take q.length = bv y) := Lib.hid ⟨y.set j (255 - z), by rw [List.length_set, hyl], fun u hu => by
              rcases List.mem_or_eq_of_mem_set hu with h | h
              · exact hyb u h
              · omega, by
              rw [Array.toList_setIfInBounds, List.take_set, hyt]
              unfold bv
              rw [List.map_set]⟩
            clear HY hyl hyb hyt hz
            go_wp2_with (first | (with_reducible refine wpl rfl (Stp.box 12 rfl rfl rfl H ?_); clear H; intro g12 w1 H; simp only [Act.put, List.setIfInBounds_toArray, List.set_cons_zero, List.set_cons_succ]; simp only [eval_tmp, eval_const, getD_lit0, getD_lits, cells_agg, cells_int, cells_bool, cells_string, cells_pointer, cells_slice, cells_map, List.setIfInBounds_toArray, List.set_cons_zero, List.set_cons_succ] at H) | (with_reducible refine wpl rfl (Stp.ldr rfl agg39 size39 rfl H (by repeat (first | exact List.mem_cons_self | apply List.mem_cons_of_mem)) (by first | rfl | (simp; done) | assumption) ?_); simp only [Act.put, List.setIfInBounds_toArray, List.set_cons_zero, List.set_cons_succ]) | (with_reducible refine wpl rfl (Stp.ldl rfl agg39 size39 rfl H (by repeat (first | exact List.mem_cons_self | apply List.mem_cons_of_mem)) (by simp) ?_); simp only [Act.put, List.setIfInBounds_toArray, List.set_cons_zero, List.set_cons_succ]; simp only [List.drop_succ_cons, List.drop_zero, List.take_succ_cons, List.take_zero]) | (with_reducible refine wpl rfl (Stp.ldor rfl agg39 size39 rfl H (by assumption) (by first | rfl | (simp; done) | assumption) (by assumption) ?_); simp only [Act.put, List.setIfInBounds_toArray, List.set_cons_zero, List.set_cons_succ]) | (with_reducible refine wpl rfl (Stp.ldc rfl agg5 rfl H (by repeat (first | exact List.mem_cons_self | apply List.mem_cons_of_mem)) (by first | exact hck | (repeat (first | exact lit0 _ _ | apply lits)) | rfl | assumption) ?_); simp only [Act.put, List.setIfInBounds_toArray, List.set_cons_zero, List.set_cons_succ]) | (with_reducible refine wpl rfl (Stp.ldo rfl agg5 rfl H (by assumption) (by assumption) ?_); simp only [Act.put, List.setIfInBounds_toArray, List.set_cons_zero, List.set_cons_succ]) | (with_reducible refine wpl rfl (Stp.stc rfl size5 rfl rfl rfl rfl H (by repeat (first | exact Upd.head | apply Upd.tail)) (by first | exact hks | omega | (simp; done) | (simp; omega)) ?_); clear H; intro w1 H; simp only [Act.put, List.setIfInBounds_toArray, List.set_cons_zero, List.set_cons_succ]; simp only [eval_tmp, eval_const, getD_lit0, getD_lits, cells_agg, cells_int, cells_bool, cells_string, cells_pointer, cells_slice, cells_map, List.setIfInBounds_toArray, List.set_cons_zero, List.set_cons_succ] at H))
            go_roundw
            case rel => exact ⟨j + 1, _, by omega, by go_num, by simpa using hds, HY2, H⟩
            case measure => simp [intOf]; omega
          · obtain rfl : j = q.length := by omega
            go_wp2_with (first | (with_reducible refine wpl rfl (Stp.box 12 rfl rfl rfl H ?_); clear H; intro g12 w1 H; simp only [Act.put, List.setIfInBounds_toArray, List.set_cons_zero, List.set_cons_succ]; simp only [eval_tmp, eval_const, getD_lit0, getD_lits, cells_agg, cells_int, cells_bool, cells_string, cells_pointer, cells_slice, cells_map, List.setIfInBounds_toArray, List.set_cons_zero, List.set_cons_succ] at H) | (with_reducible refine wpl rfl (Stp.ldr rfl agg39 size39 rfl H (by repeat (first | exact List.mem_cons_self | apply List.mem_cons_of_mem)) (by first | rfl | (simp; done) | assumption) ?_); simp only [Act.put, List.setIfInBounds_toArray, List.set_cons_zero, List.set_cons_succ]) | (with_reducible refine wpl rfl (Stp.ldl rfl agg39 size39 rfl H (by repeat (first | exact List.mem_cons_self | apply List.mem_cons_of_mem)) (by simp) ?_); simp only [Act.put, List.setIfInBounds_toArray, List.set_cons_zero, List.set_cons_succ]; simp only [List.drop_succ_cons, List.drop_zero, List.take_succ_cons, List.take_zero]) | (with_reducible refine wpl rfl (Stp.ldor rfl agg39 size39 rfl H (by assumption) (by first | rfl | (simp; done) | assumption) (by assumption) ?_); simp only [Act.put, List.setIfInBounds_toArray, List.set_cons_zero, List.set_cons_succ]) | (with_reducible refine wpl rfl (Stp.ldc rfl agg5 rfl H (by repeat (first | exact List.mem_cons_self | apply List.mem_cons_of_mem)) (by first | exact hck | (repeat (first | exact lit0 _ _ | apply lits)) | rfl | assumption) ?_); simp only [Act.put, List.setIfInBounds_toArray, List.set_cons_zero, List.set_cons_succ]) | (with_reducible refine wpl rfl (Stp.ldo rfl agg5 rfl H (by assumption) (by assumption) ?_); simp only [Act.put, List.setIfInBounds_toArray, List.set_cons_zero, List.set_cons_succ]) | (with_reducible refine wpl rfl (Stp.stc rfl size5 rfl rfl rfl rfl H (by repeat (first | exact Upd.head | apply Upd.tail)) (by first | exact hks | omega | (simp; done) | (simp; omega)) ?_); clear H; intro w1 H; simp only [Act.put, List.setIfInBounds_toArray, List.set_cons_zero, List.set_cons_succ]; simp only [eval_tmp, eval_const, getD_lit0, getD_lits, cells_agg, cells_int, cells_bool, cells_string, cells_pointer, cells_slice, cells_map, List.setIfInBounds_toArray, List.set_cons_zero, List.set_cons_succ] at H))
            go_roundw
            case rel => exact ⟨k + 1, _, _, _, _, q, by omega, by omega, by go_num, rfl, HCQ, H.tl.pull (by repeat (first | (with_reducible exact Pull.head) | apply Pull.tail))⟩
            case measure => simp [intOf]; omega
      · by_cases hlt : k < xs.length
        · obtain rfl : k = 60 := by omega
          have kli : (60 : Int) < (xs.length : Int) := by omega
          clear hend
          go_wp2_with (first | (go_at_call 13; (with_reducible refine (wdone_ok _ m (by omega) _ (WSt.of H (by repeat (first | (with_reducible exact Pull.head) | apply Pull.tail)) (by repeat (first | (with_reducible exact Pull.head) | apply Pull.tail)) (List.Sublist.refl _))).mono ?_); rintro e w1 ⟨v, rfl, hr⟩; obtain ⟨⟨ad, cd, rfl⟩, ho, hb1⟩ := hr; replace H := H.new hb1 (slc_sound ho) (fun g hg => (ho.lt g hg).1); clear hb1 ho) | (with_reducible refine wpl rfl (Stp.box 12 rfl rfl rfl H ?_); clear H; intro g12 w1 H; simp only [Act.put, List.setIfInBounds_toArray, List.set_cons_zero, List.set_cons_succ]; simp only [eval_tmp, eval_const, getD_lit0, getD_lits, cells_agg, cells_int, cells_bool, cells_string, cells_pointer, cells_slice, cells_map, List.setIfInBounds_toArray, List.set_cons_zero, List.set_cons_succ] at H) | (with_reducible refine wpl rfl (Stp.ldr rfl agg39 size39 rfl H (by repeat (first | exact List.mem_cons_self | apply List.mem_cons_of_mem)) (by first | rfl | (simp; done) | assumption) ?_); simp only [Act.put, List.setIfInBounds_toArray, List.set_cons_zero, List.set_cons_succ]) | (with_reducible refine wpl rfl (Stp.ldl rfl agg39 size39 rfl H (by repeat (first | exact List.mem_cons_self | apply List.mem_cons_of_mem)) (by simp) ?_); simp only [Act.put, List.setIfInBounds_toArray, List.set_cons_zero, List.set_cons_succ]; simp only [List.drop_succ_cons, List.drop_zero, List.take_succ_cons, List.take_zero]) | (with_reducible refine wpl rfl (Stp.ldor rfl agg39 size39 rfl H (by assumption) (by first | rfl | (simp; done) | assumption) (by assumption) ?_); simp only [Act.put, List.setIfInBounds_toArray, List.set_cons_zero, List.set_cons_succ]) | (with_reducible refine wpl rfl (Stp.ldc rfl agg5 rfl H (by repeat (first | exact List.mem_cons_self | apply List.mem_cons_of_mem)) (by first | exact hck | (repeat (first | exact lit0 _ _ | apply lits)) | rfl | assumption) ?_); simp only [Act.put, List.setIfInBounds_toArray, List.set_cons_zero, List.set_cons_succ]) | (with_reducible refine wpl rfl (Stp.ldo rfl agg5 rfl H (by assumption) (by assumption) ?_); simp only [Act.put, List.setIfInBounds_toArray, List.set_cons_zero, List.set_cons_succ]) | (with_reducible refine wpl rfl (Stp.stc rfl size5 rfl rfl rfl rfl H (by repeat (first | exact Upd.head | apply Upd.tail)) (by first | exact hks | omega | (simp; done) | (simp; omega)) ?_); clear H; intro w1 H; simp only [Act.put, List.setIfInBounds_toArray, List.set_cons_zero, List.set_cons_succ]; simp only [eval_tmp, eval_const, getD_lit0, getD_lits, cells_agg, cells_int, cells_bool, cells_string, cells_pointer, cells_slice, cells_map, List.setIfInBounds_toArray, List.set_cons_zero, List.set_cons_succ] at H))
          have s1 := own_slk (l := m) (H.getSlc (v := .slice ad m.length cd) (n := m.length) (xs := bv m) (by repeat (first | exact List.mem_cons_self | apply List.mem_cons_of_mem))) rfl (by omega)
          have s2 := own_slk (l := m) (H.getSlc (v := .slice a2 m.length c2) (n := m.length) (xs := bv m) (by repeat (first | exact List.mem_cons_self | apply List.mem_cons_of_mem))) rfl (by omega)
          refine (same_ok _ _ m m _ s1 s2).mono ?_
          rintro e w1 ⟨v, rfl, rfl, hb1⟩
          replace H := H.grow hb1
          clear hb1 s1 s2
          rw [beq_self_eq_true]
          go_wp2_with (first | (go_at_call 11; (with_reducible refine (awake_ok _).mono ?_); rintro e w1 ⟨v, rfl, hr⟩; obtain ⟨rfl, hb1⟩ := hr; replace H := H.grow hb1; clear hb1) | (with_reducible refine wpl rfl (Stp.box 12 rfl rfl rfl H ?_); clear H; intro g12 w1 H; simp only [Act.put, List.setIfInBounds_toArray, List.set_cons_zero, List.set_cons_succ]; simp only [eval_tmp, eval_const, getD_lit0, getD_lits, cells_agg, cells_int, cells_bool, cells_string, cells_pointer, cells_slice, cells_map, List.setIfInBounds_toArray, List.set_cons_zero, List.set_cons_succ] at H) | (with_reducible refine wpl rfl (Stp.ldr rfl agg39 size39 rfl H (by repeat (first | exact List.mem_cons_self | apply List.mem_cons_of_mem)) (by first | rfl | (simp; done) | assumption) ?_); simp only [Act.put, List.setIfInBounds_toArray, List.set_cons_zero, List.set_cons_succ]) | (with_reducible refine wpl rfl (Stp.ldl rfl agg39 size39 rfl H (by repeat (first | exact List.mem_cons_self | apply List.mem_cons_of_mem)) (by simp) ?_); simp only [Act.put, List.setIfInBounds_toArray, List.set_cons_zero, List.set_cons_succ]; simp only [List.drop_succ_cons, List.drop_zero, List.take_succ_cons, List.take_zero]) | (with_reducible refine wpl rfl (Stp.ldor rfl agg39 size39 rfl H (by assumption) (by first | rfl | (simp; done) | assumption) (by assumption) ?_); simp only [Act.put, List.setIfInBounds_toArray, List.set_cons_zero, List.set_cons_succ]) | (with_reducible refine wpl rfl (Stp.ldc rfl agg5 rfl H (by repeat (first | exact List.mem_cons_self | apply List.mem_cons_of_mem)) (by first | exact hck | (repeat (first | exact lit0 _ _ | apply lits)) | rfl | assumption) ?_); simp only [Act.put, List.setIfInBounds_toArray, List.set_cons_zero, List.set_cons_succ]) | (with_reducible refine wpl rfl (Stp.ldo rfl agg5 rfl H (by assumption) (by assumption) ?_); simp only [Act.put, List.setIfInBounds_toArray, List.set_cons_zero, List.set_cons_succ]) | (with_reducible refine wpl rfl (Stp.stc rfl size5 rfl rfl rfl rfl H (by repeat (first | exact Upd.head | apply Upd.tail)) (by first | exact hks | omega | (simp; done) | (simp; omega)) ?_); clear H; intro w1 H; simp only [Act.put, List.setIfInBounds_toArray, List.set_cons_zero, List.set_cons_succ]; simp only [eval_tmp, eval_const, getD_lit0, getD_lits, cells_agg, cells_int, cells_bool, cells_string, cells_pointer, cells_slice, cells_map, List.setIfInBounds_toArray, List.set_cons_zero, List.set_cons_succ] at H))
          go_ret
          exact ⟨_, rfl, rfl, H.below⟩
        · obtain rfl : k = xs.length := by omega
          clear hend
          go_wp2_with (first | (go_at_call 13; (with_reducible refine (wdone_ok _ m (by omega) _ (WSt.of H (by repeat (first | (with_reducible exact Pull.head) | apply Pull.tail)) (by repeat (first | (with_reducible exact Pull.head) | apply Pull.tail)) (List.Sublist.refl _))).mono ?_); rintro e w1 ⟨v, rfl, hr⟩; obtain ⟨⟨ad, cd, rfl⟩, ho, hb1⟩ := hr; replace H := H.new hb1 (slc_sound ho) (fun g hg => (ho.lt g hg).1); clear hb1 ho) | (with_reducible refine wpl rfl (Stp.box 12 rfl rfl rfl H ?_); clear H; intro g12 w1 H; simp only [Act.put, List.setIfInBounds_toArray, List.set_cons_zero, List.set_cons_succ]; simp only [eval_tmp, eval_const, getD_lit0, getD_lits, cells_agg, cells_int, cells_bool, cells_string, cells_pointer, cells_slice, cells_map, List.setIfInBounds_toArray, List.set_cons_zero, List.set_cons_succ] at H) | (with_reducible refine wpl rfl (Stp.ldr rfl agg39 size39 rfl H (by repeat (first | exact List.mem_cons_self | apply List.mem_cons_of_mem)) (by first | rfl | (simp; done) | assumption) ?_); simp only [Act.put, List.setIfInBounds_toArray, List.set_cons_zero, List.set_cons_succ]) | (with_reducible refine wpl rfl (Stp.ldl rfl agg39 size39 rfl H (by repeat (first | exact List.mem_cons_self | apply List.mem_cons_of_mem)) (by simp) ?_); simp only [Act.put, List.setIfInBounds_toArray, List.set_cons_zero, List.set_cons_succ]; simp only [List.drop_succ_cons, List.drop_zero, List.take_succ_cons, List.take_zero]) | (with_reducible refine wpl rfl (Stp.ldor rfl agg39 size39 rfl H (by assumption) (by first | rfl | (simp; done) | assumption) (by assumption) ?_); simp only [Act.put, List.setIfInBounds_toArray, List.set_cons_zero, List.set_cons_succ]) | (with_reducible refine wpl rfl (Stp.ldc rfl agg5 rfl H (by repeat (first | exact List.mem_cons_self | apply List.mem_cons_of_mem)) (by first | exact hck | (repeat (first | exact lit0 _ _ | apply lits)) | rfl | assumption) ?_); simp only [Act.put, List.setIfInBounds_toArray, List.set_cons_zero, List.set_cons_succ]) | (with_reducible refine wpl rfl (Stp.ldo rfl agg5 rfl H (by assumption) (by assumption) ?_); simp only [Act.put, List.setIfInBounds_toArray, List.set_cons_zero, List.set_cons_succ]) | (with_reducible refine wpl rfl (Stp.stc rfl size5 rfl rfl rfl rfl H (by repeat (first | exact Upd.head | apply Upd.tail)) (by first | exact hks | omega | (simp; done) | (simp; omega)) ?_); clear H; intro w1 H; simp only [Act.put, List.setIfInBounds_toArray, List.set_cons_zero, List.set_cons_succ]; simp only [eval_tmp, eval_const, getD_lit0, getD_lits, cells_agg, cells_int, cells_bool, cells_string, cells_pointer, cells_slice, cells_map, List.setIfInBounds_toArray, List.set_cons_zero, List.set_cons_succ] at H))
          have s1 := own_slk (l := m) (H.getSlc (v := .slice ad m.length cd) (n := m.length) (xs := bv m) (by repeat (first | exact List.mem_cons_self | apply List.mem_cons_of_mem))) rfl (by omega)
          have s2 := own_slk (l := m) (H.getSlc (v := .slice a2 m.length c2) (n := m.length) (xs := bv m) (by repeat (first | exact List.mem_cons_self | apply List.mem_cons_of_mem))) rfl (by omega)
          refine (same_ok _ _ m m _ s1 s2).mono ?_
          rintro e w1 ⟨v, rfl, rfl, hb1⟩
          replace H := H.grow hb1
          clear hb1 s1 s2
          rw [beq_self_eq_true]
          go_wp2_with (first | (go_at_call 11; (with_reducible refine (awake_ok _).mono ?_); rintro e w1 ⟨v, rfl, hr⟩; obtain ⟨rfl, hb1⟩ := hr; replace H := H.grow hb1; clear hb1) | (with_reducible refine wpl rfl (Stp.box 12 rfl rfl rfl H ?_); clear H; intro g12 w1 H; simp only [Act.put, List.setIfInBounds_toArray, List.set_cons_zero, List.set_cons_succ]; simp only [eval_tmp, eval_const, getD_lit0, getD_lits, cells_agg, cells_int, cells_bool, cells_string, cells_pointer, cells_slice, cells_map, List.setIfInBounds_toArray, List.set_cons_zero, List.set_cons_succ] at H) | (with_reducible refine wpl rfl (Stp.ldr rfl agg39 size39 rfl H (by repeat (first | exact List.mem_cons_self | apply List.mem_cons_of_mem)) (by first | rfl | (simp; done) | assumption) ?_); simp only [Act.put, List.setIfInBounds_toArray, List.set_cons_zero, List.set_cons_succ]) | (with_reducible refine wpl rfl (Stp.ldl rfl agg39 size39 rfl H (by repeat (first | exact List.mem_cons_self | apply List.mem_cons_of_mem)) (by simp) ?_); simp only [Act.put, List.setIfInBounds_toArray, List.set_cons_zero, List.set_cons_succ]; simp only [List.drop_succ_cons, List.drop_zero, List.take_succ_cons, List.take_zero]) | (with_reducible refine wpl rfl (Stp.ldor rfl agg39 size39 rfl H (by assumption) (by first | rfl | (simp; done) | assumption) (by assumption) ?_); simp only [Act.put, List.setIfInBounds_toArray, List.set_cons_zero, List.set_cons_succ]) | (with_reducible refine wpl rfl (Stp.ldc rfl agg5 rfl H (by repeat (first | exact List.mem_cons_self | apply List.mem_cons_of_mem)) (by first | exact hck | (repeat (first | exact lit0 _ _ | apply lits)) | rfl | assumption) ?_); simp only [Act.put, List.setIfInBounds_toArray, List.set_cons_zero, List.set_cons_succ]) | (with_reducible refine wpl rfl (Stp.ldo rfl agg5 rfl H (by assumption) (by assumption) ?_); simp only [Act.put, List.setIfInBounds_toArray, List.set_cons_zero, List.set_cons_succ]) | (with_reducible refine wpl rfl (Stp.stc rfl size5 rfl rfl rfl rfl H (by repeat (first | exact Upd.head | apply Upd.tail)) (by first | exact hks | omega | (simp; done) | (simp; omega)) ?_); clear H; intro w1 H; simp only [Act.put, List.setIfInBounds_toArray, List.set_cons_zero, List.set_cons_succ]; simp only [eval_tmp, eval_const, getD_lit0, getD_lits, cells_agg, cells_int, cells_bool, cells_string, cells_pointer, cells_slice, cells_map, List.setIfInBounds_toArray, List.set_cons_zero, List.set_cons_succ] at H))
          go_ret
          exact ⟨_, rfl, rfl, H.below⟩
  · have HG := Lib.hid hg
    clear hg
    go_enter Try.func3, Try.ntmps3
    go_wp2_with (first | (go_at_call 10; (with_reducible refine (great_ok _ xs _ (fun x hx => okTh_grow (HO.out x hx) H.below) (hs.grow H.below)).mono ?_); rintro e w1 ⟨v, rfl, hr⟩; obtain ⟨rfl, hb1⟩ := hr; replace H := H.grow hb1; clear hb1; rw [HG.out]) | (go_at_call 11; (with_reducible refine (awake_ok _).mono ?_); rintro e w1 ⟨v, rfl, hr⟩; obtain ⟨rfl, hb1⟩ := hr; replace H := H.grow hb1; clear hb1) | (with_reducible refine wpl rfl (Stp.box 12 rfl rfl rfl H ?_); clear H; intro g12 w1 H; simp only [Act.put, List.setIfInBounds_toArray, List.set_cons_zero, List.set_cons_succ]; simp only [eval_tmp, eval_const, getD_lit0, getD_lits, cells_agg, cells_int, cells_bool, cells_string, cells_pointer, cells_slice, cells_map, List.setIfInBounds_toArray, List.set_cons_zero, List.set_cons_succ] at H) | (with_reducible refine wpl rfl (Stp.ldr rfl agg39 size39 rfl H (by repeat (first | exact List.mem_cons_self | apply List.mem_cons_of_mem)) (by first | rfl | (simp; done) | assumption) ?_); simp only [Act.put, List.setIfInBounds_toArray, List.set_cons_zero, List.set_cons_succ]) | (with_reducible refine wpl rfl (Stp.ldl rfl agg39 size39 rfl H (by repeat (first | exact List.mem_cons_self | apply List.mem_cons_of_mem)) (by simp) ?_); simp only [Act.put, List.setIfInBounds_toArray, List.set_cons_zero, List.set_cons_succ]; simp only [List.drop_succ_cons, List.drop_zero, List.take_succ_cons, List.take_zero]) | (with_reducible refine wpl rfl (Stp.ldor rfl agg39 size39 rfl H (by assumption) (by first | rfl | (simp; done) | assumption) (by assumption) ?_); simp only [Act.put, List.setIfInBounds_toArray, List.set_cons_zero, List.set_cons_succ]) | (with_reducible refine wpl rfl (Stp.ldc rfl agg5 rfl H (by repeat (first | exact List.mem_cons_self | apply List.mem_cons_of_mem)) (by first | exact hck | (repeat (first | exact lit0 _ _ | apply lits)) | rfl | assumption) ?_); simp only [Act.put, List.setIfInBounds_toArray, List.set_cons_zero, List.set_cons_succ]) | (with_reducible refine wpl rfl (Stp.ldo rfl agg5 rfl H (by assumption) (by assumption) ?_); simp only [Act.put, List.setIfInBounds_toArray, List.set_cons_zero, List.set_cons_succ]) | (with_reducible refine wpl rfl (Stp.stc rfl size5 rfl rfl rfl rfl H (by repeat (first | exact Upd.head | apply Upd.tail)) (by first | exact hks | omega | (simp; done) | (simp; omega)) ?_); clear H; intro w1 H; simp only [Act.put, List.setIfInBounds_toArray, List.set_cons_zero, List.set_cons_succ]; simp only [eval_tmp, eval_const, getD_lit0, getD_lits, cells_agg, cells_int, cells_bool, cells_string, cells_pointer, cells_slice, cells_map, List.setIfInBounds_toArray, List.set_cons_zero, List.set_cons_succ] at H))
    go_ret
    exact ⟨_, rfl, rfl, H.below⟩
theorem own : ownKnob Try.prog.godebug = none := by kernel_rfl
theorem laidOut : laidOutB Try.prog = true := by kernel_rfl
set_option maxRecDepth 100000 in
theorem bodyLays_lifted (os : Os) (started : os.Started) (H : Type) (enc : TypeId × Value → H) :
    ReturnsInHanded {} Try.checked os 3 .any (Rows.bodyLaysSpec.pre6 enc Try.prog Try.f3 Rows.bodyLaysRow.domain false) (Rows.bodyLaysSpec.post enc Try.prog Try.f3 false true false false) := by
  refine law_lifted (C := Try.checked) own started (by kernel_rfl) Try.func3 laidOut rfl Try.underlying4 rfl (by kernel_rfl) (fun ds hd => ?_)
    (ChangeSpec.witness6 (enc := enc) (C := Try.checked) false ⟨#[], #[.slice none 0 0], []⟩ 8 (by kernel_rfl) (by kernel_rfl) (by kernel_rfl) (by kernel_rfl)) ?_
  · match ds, hd with
    | [d0], _ => exact ⟨rfl, rfl, rfl⟩
  intro W base args ds p hval hA
  rw [Try.params3] at hA hval
  obtain ⟨v0, vs0, d0, ds0, p0, q0, hargs, rfl, rfl, h0, r0⟩ := trodAll_cons hA
  obtain ⟨rfl, rfl, rfl⟩ := trodAll_nil r0
  obtain rfl : args = #[v0] := by cases args; simp_all
  obtain ⟨xs0, ox0, sx0⟩ := open_things (hval 0 22 v0 rfl rfl) h0
  exact law_lays _ xs0 W ox0 sx0
theorem bodyLays_over : Rows.bodyLaysRow.holds Try.pinned (OpenSpec.ofChange Rows.bodyLaysSpec) :=
  OpenClaim.holds_of_wide 3 Try.f3 rfl rfl rfl rfl rfl rfl rfl ⟨rfl, rfl, rfl, rfl, rfl⟩ rfl rfl rfl rfl rfl (by kernel_rfl) Try.func3 (by kernel_rfl)
    (of_decide_eq_true (by kernel_rfl)) (by unfold Func.isWrapper; first | (rw [if_pos (by decide +kernel)]; kernel_rfl) | (rw [if_neg (by decide +kernel)]; exact ⟨rfl, rfl⟩))
    (fun os started H enc _ => bodyLays_lifted os started H enc)
theorem bodyLays_holds : Rows.BodyLaysSaid := bodyLays_over
#print axioms bodyLays_holds
end Go.Proofs.Ytcjbippgjhgoiaa
