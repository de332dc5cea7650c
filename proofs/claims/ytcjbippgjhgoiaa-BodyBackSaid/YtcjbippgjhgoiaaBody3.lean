/- The contracts of layer 7's references (body); the bounds stand in each. -/
import Derived.Test.YtcjbippgjhgoiaaBody2
namespace Go.Proofs.Ytcjbippgjhgoiaa
open Go.ChangeShapes Go.WideShapes Go.ChangeAt Go.RowKit
set_option linter.unusedVariables false
set_option linter.unusedSimpArgs false
theorem rnum_ok (r : List Nat) (n : Nat) (hn : n < 18446744073709551616) (hr : shortB n = r) (w : World) :
    Calls Try.prog 39 #[.int .u64 (n : Int)] w (Ret fun v' w' => (∃ ap cp, v' = .slice ap r.length cp) ∧ w'.ownsRow w.heap.size 5 1 v' r.length (bv r) ∧ Below w.heap.size w w') := by
  have H := St.init w
  have HR := Lib.hid hr
  clear hr
  go_enter Try.func39, Try.ntmps39
  go_wp2_with (first | (go_at_call 56; (with_reducible refine (rshort_as r n hn HR.out _).mono ?_); rintro e w1 ⟨v, rfl, hr⟩; obtain ⟨⟨ar, cr, rfl⟩, ho, hb1⟩ := hr; replace H := H.new hb1 (slc_sound ho) (fun g hg => (ho.lt g hg).1); clear hb1 ho))
  go_ret
  exact ⟨_, rfl, ⟨_, _, rfl⟩, H.getSlc (by repeat (first | exact List.mem_cons_self | apply List.mem_cons_of_mem)), H.below⟩
theorem rtruth_ok (b : Bool) (r : List Nat) (hr : [b.toNat] = r) (w : World) :
    Calls Try.prog 40 #[.bool b] w (Ret fun v' w' => (∃ ap cp, v' = .slice ap r.length cp) ∧ w'.ownsRow w.heap.size 5 1 v' r.length (bv r) ∧ Below w.heap.size w w') := by
  have H := St.init w
  subst hr
  cases b
  · go_enter Try.func40, Try.ntmps40
    go_wp2_with (first | (with_reducible refine wpl rfl (Stp.bsl (e := 5) (cs := #[.int .u8 0]) 5 rfl rfl (fun W => by kernel_rfl) H ?_); clear H; intro g5 w1 H; simp only [Act.put, List.setIfInBounds_toArray, List.set_cons_zero, List.set_cons_succ]))
    go_ret
    have H2 := H.shut_slc (e := 5) (size := 1) (n := 1) (cap := 1) (xs := bv [0]) Upd.head (Nat.le_refl _) (by unfold maxLen; omega) (by rfl) (by rfl)
    exact ⟨_, rfl, ⟨_, _, rfl⟩, H2.getSlc (by repeat (first | exact List.mem_cons_self | apply List.mem_cons_of_mem)), H.below⟩
  · go_enter Try.func40, Try.ntmps40
    go_wp2_with (first | (with_reducible refine wpl rfl (Stp.bsl (e := 5) (cs := #[.int .u8 1]) 4 rfl rfl (fun W => by kernel_rfl) H ?_); clear H; intro g4 w1 H; simp only [Act.put, List.setIfInBounds_toArray, List.set_cons_zero, List.set_cons_succ]))
    go_ret
    have H2 := H.shut_slc (e := 5) (size := 1) (n := 1) (cap := 1) (xs := bv [1]) Upd.head (Nat.le_refl _) (by unfold maxLen; omega) (by rfl) (by rfl)
    exact ⟨_, rfl, ⟨_, _, rfl⟩, H2.getSlc (by repeat (first | exact List.mem_cons_self | apply List.mem_cons_of_mem)), H.below⟩
set_option maxRecDepth 100000 in
theorem rballot_ok (q i c : Nat) (hq : q < 4294967296) (hi : i < 65536) (hc : c < 4294967296) (r : List Nat) (hr : shortB q ++ pidB i c = r) (w : World) :
    Calls Try.prog 44 #[.agg #[.int .u32 (q : Int), .int .u16 (i : Int), .int .u32 (c : Int)]] w (Ret fun v' w' => (∃ ap cp, v' = .slice ap r.length cp) ∧ w'.ownsRow w.heap.size 5 1 v' r.length (bv r) ∧ Below w.heap.size w w') := by
  have H := St.init w
  have w1r : IntKind.u64.wrap (q : Int) = (q : Int) := wrap_u64_in _ (by omega) (by omega)
  obtain ⟨x, hx⟩ : ∃ x, shortB q = x := ⟨_, rfl⟩
  obtain ⟨y, hy⟩ : ∃ y, pidB i c = y := ⟨_, rfl⟩
  have xl : x.length ≤ 10 := by rw [← hx]; exact shortB_len _
  have yl : y.length ≤ 20 := by rw [← hy]; exact pidB_len _ _
  rw [hx, hy] at hr
  have HL : Hid (x.length + y.length = r.length) := Lib.hid (by rw [← hr, List.length_append])
  have HX := Lib.hid hx
  have HY := Lib.hid hy
  have HR := Lib.hid hr
  clear hx hy hr
  go_enter Try.func44, Try.ntmps44
  go_wp2_with (first | (with_reducible refine wpl rfl (Stp.box 1 rfl rfl rfl H ?_); clear H; intro g1 w1 H; simp only [Act.put, List.setIfInBounds_toArray, List.set_cons_zero, List.set_cons_succ]; simp only [eval_tmp, eval_const, getD_lit0, getD_lits, cells_agg, cells_int, cells_bool, cells_string, cells_pointer, cells_slice, cells_map, List.setIfInBounds_toArray, List.set_cons_zero, List.set_cons_succ] at H))
  refine rg_begin 9 rfl (S := fun W => St _ _ W [row 36 g1 #[.int .u32 (q : Int), .int .u16 (i : Int), .int .u32 (c : Int)]]) (by kernel_rfl) (H.drew.sub (by repeat (first | exact List.Sublist.refl _ | exact List.nil_sublist _ | (with_reducible apply List.Sublist.cons_cons) | apply List.Sublist.cons))) ?_
  replace H := H.drew
  have HS := H
  refine rg_take (i := 0) rfl (by kernel_rfl) (by kernel_rfl) (by kernel_rfl) (Yld.of rfl (fun W _ => by go_simp; first | done | with_reducible rfl)) (H.sub (by repeat (first | exact List.Sublist.refl _ | exact List.nil_sublist _ | (with_reducible apply List.Sublist.cons_cons) | apply List.Sublist.cons))) ?_; simp only [Act.put, List.setIfInBounds_toArray, List.set_cons_zero, List.set_cons_succ]
  first | (refine rg_take (i := 1) rfl (by kernel_rfl) (by kernel_rfl) (by kernel_rfl) (Yld.ldc rfl rfl agg31 rfl (by repeat (first | exact List.mem_cons_self | apply List.mem_cons_of_mem)) (by first | (repeat (first | exact lit0 _ _ | apply lits)) | rfl | assumption)) (H.sub (by repeat (first | exact List.Sublist.refl _ | exact List.nil_sublist _ | (with_reducible apply List.Sublist.cons_cons) | apply List.Sublist.cons))) ?_; simp only [Act.put, List.setIfInBounds_toArray, List.set_cons_zero, List.set_cons_succ]) | (refine rg_take (i := 1) rfl (by kernel_rfl) (by kernel_rfl) (by kernel_rfl) (Yld.ldo rfl rfl agg31 rfl (by assumption) (by assumption)) (H.sub (by repeat (first | exact List.Sublist.refl _ | exact List.nil_sublist _ | (with_reducible apply List.Sublist.cons_cons) | apply List.Sublist.cons))) ?_; simp only [Act.put, List.setIfInBounds_toArray, List.set_cons_zero, List.set_cons_succ])
  refine rg_take (i := 2) rfl (by kernel_rfl) (by kernel_rfl) (by kernel_rfl) (Yld.of rfl (fun W _ => by go_simp; first | done | with_reducible rfl)) (H.sub (by repeat (first | exact List.Sublist.refl _ | exact List.nil_sublist _ | (with_reducible apply List.Sublist.cons_cons) | apply List.Sublist.cons))) ?_; simp only [Act.put, List.setIfInBounds_toArray, List.set_cons_zero, List.set_cons_succ]
  refine rg_take (i := 4) rfl (by kernel_rfl) (by kernel_rfl) (by kernel_rfl) (Yld.of rfl (fun W _ => by go_simp; first | done | with_reducible rfl)) (H.sub (by repeat (first | exact List.Sublist.refl _ | exact List.nil_sublist _ | (with_reducible apply List.Sublist.cons_cons) | apply List.Sublist.cons))) ?_; simp only [Act.put, List.setIfInBounds_toArray, List.set_cons_zero, List.set_cons_succ]
  first | (refine rg_take (i := 5) rfl (by kernel_rfl) (by kernel_rfl) (by kernel_rfl) (Yld.ldr rfl rfl agg34 size34 rfl (by repeat (first | exact List.mem_cons_self | apply List.mem_cons_of_mem)) (by first | rfl | (simp; done) | assumption)) (H.sub (by repeat (first | exact List.Sublist.refl _ | exact List.nil_sublist _ | (with_reducible apply List.Sublist.cons_cons) | apply List.Sublist.cons))) ?_; simp only [Act.put, List.setIfInBounds_toArray, List.set_cons_zero, List.set_cons_succ]) | (refine rg_take (i := 5) rfl (by kernel_rfl) (by kernel_rfl) (by kernel_rfl) (Yld.ldl rfl rfl agg34 size34 rfl (by repeat (first | exact List.mem_cons_self | apply List.mem_cons_of_mem)) (by simp)) (H.sub (by repeat (first | exact List.Sublist.refl _ | exact List.nil_sublist _ | (with_reducible apply List.Sublist.cons_cons) | apply List.Sublist.cons))) ?_; simp only [Act.put, List.setIfInBounds_toArray, List.set_cons_zero, List.set_cons_succ]; simp only [List.drop_succ_cons, List.drop_zero, List.take_succ_cons, List.take_zero]) | (refine rg_take (i := 5) rfl (by kernel_rfl) (by kernel_rfl) (by kernel_rfl) (Yld.ldor rfl rfl agg34 size34 rfl (by assumption) (by first | rfl | (simp; done) | assumption) (by assumption)) (H.sub (by repeat (first | exact List.Sublist.refl _ | exact List.nil_sublist _ | (with_reducible apply List.Sublist.cons_cons) | apply List.Sublist.cons))) ?_; simp only [Act.put, List.setIfInBounds_toArray, List.set_cons_zero, List.set_cons_succ])
  refine rg_one (i := 3) (by kernel_rfl) rfl rfl (fun K hK => ?_)
  refine wp_callf rfl ent39 (rnum_ok x q (by omega) HX.out _) rfl (fun v w1 hr => ?_)
  obtain ⟨⟨ax, cx, rfl⟩, ho, hb1⟩ := hr
  replace H := H.new hb1 (slc_sound ho) (fun g hg => (ho.lt g hg).1)
  clear hb1 ho
  clear HS
  have HS := H
  refine hK.out _ _ (H.sub (by repeat (first | exact List.Sublist.refl _ | exact List.nil_sublist _ | (with_reducible apply List.Sublist.cons_cons) | apply List.Sublist.cons))) ?_
  clear hK K
  simp only [Act.put, List.setIfInBounds_toArray, List.set_cons_zero, List.set_cons_succ]
  refine rg_one (i := 6) (by kernel_rfl) rfl rfl (fun K hK => ?_)
  refine wp_callf rfl ent42 (rpput_as y i c hi hc HY.out _) rfl (fun v w1 hr => ?_)
  obtain ⟨⟨ay, cy, rfl⟩, ho, hb1⟩ := hr
  replace H := H.new hb1 (slc_sound ho) (fun g hg => (ho.lt g hg).1)
  clear hb1 ho
  clear HS
  have HS := H
  refine hK.out _ _ (H.sub (by repeat (first | exact List.Sublist.refl _ | exact List.nil_sublist _ | (with_reducible apply List.Sublist.cons_cons) | apply List.Sublist.cons))) ?_
  clear hK K
  simp only [Act.put, List.setIfInBounds_toArray, List.set_cons_zero, List.set_cons_succ]
  refine rg_one (i := 7) (by kernel_rfl) rfl rfl (fun K hK => ?_)
  refine Stp.wp (Stp.apps 10 rfl rfl Try.underlying26 info5 rfl (by decide) rfl rfl H (fun _ => Upd.tail Upd.head) (by rw [bv_len, Nat.mul_one]) (own_src (H.getSlc (xs := bv y) (by repeat (first | exact List.mem_cons_self | apply List.mem_cons_of_mem)))) (bv_one y) (by unfold maxLen; omega) (by omega) ?_)
  clear H
  intro ar cr w1 H
  rw [bv_app, HR.out, HL.out] at H
  rw [HL.out]
  clear HS
  have HS := H
  refine hK.out _ _ (H.sub (by repeat (first | exact List.Sublist.refl _ | exact List.nil_sublist _ | (with_reducible apply List.Sublist.cons_cons) | apply List.Sublist.cons))) ?_
  clear hK K
  simp only [Act.put, List.setIfInBounds_toArray, List.set_cons_zero, List.set_cons_succ]
  refine rg_take (i := 8) rfl (by kernel_rfl) (by kernel_rfl) (by kernel_rfl) (Yld.assign rfl rfl) (H.sub (by repeat (first | exact List.Sublist.refl _ | exact List.nil_sublist _ | (with_reducible apply List.Sublist.cons_cons) | apply List.Sublist.cons))) ?_; simp only [Act.put, eval_tmp, eval_const, getD_lit0, getD_lits, if_true, if_false, List.setIfInBounds_toArray, List.set_cons_zero, List.set_cons_succ]
  refine rg_done (by kernel_rfl) ?_
  go_wp2_with (first | (with_reducible refine wpl rfl (Stp.box 1 rfl rfl rfl H ?_); clear H; intro g1 w1 H; simp only [Act.put, List.setIfInBounds_toArray, List.set_cons_zero, List.set_cons_succ]; simp only [eval_tmp, eval_const, getD_lit0, getD_lits, cells_agg, cells_int, cells_bool, cells_string, cells_pointer, cells_slice, cells_map, List.setIfInBounds_toArray, List.set_cons_zero, List.set_cons_succ] at H))
  go_ret
  exact ⟨_, rfl, ⟨_, _, rfl⟩, H.getSlc (by repeat (first | exact List.mem_cons_self | apply List.mem_cons_of_mem)), H.below⟩
set_option maxRecDepth 100000 in
theorem rbytes_ok (b r : List Nat) (v : Value) (hb : b.length ≤ 10000) (hr : shortB b.length ++ b = r) (w : World) (hs : Sl w 1 b.length v (elB b)) :
    Calls Try.prog 46 #[v] w (Ret fun v' w' => (∃ ap cp, v' = .slice ap r.length cp) ∧ w'.ownsRow w.heap.size 5 1 v' r.length (bv r) ∧ Below w.heap.size w w') := by
  have H := St.init w
  have hs' := hs
  obtain ⟨ab, cb, rfl, hm9⟩ := hs'.len
  have w1r : IntKind.u64.wrap (b.length : Int) = (b.length : Int) := wrap_u64_in _ (by omega) (by omega)
  obtain ⟨x, hx⟩ : ∃ x, shortB b.length = x := ⟨_, rfl⟩
  have xl : x.length ≤ 10 := by rw [← hx]; exact shortB_len _
  rw [hx] at hr
  have HL : Hid (x.length + b.length = r.length) := Lib.hid (by rw [← hr, List.length_append])
  have HX := Lib.hid hx
  have HR := Lib.hid hr
  clear hx hr
  go_enter Try.func46, Try.ntmps46
  go_wp2_with (first | (go_at_call 39; (with_reducible refine (rnum_ok x b.length (by omega) HX.out _).mono ?_); rintro e w1 ⟨v, rfl, hr⟩; obtain ⟨⟨ax, cx, rfl⟩, ho, hb1⟩ := hr; replace H := H.new hb1 (slc_sound ho) (fun g hg => (ho.lt g hg).1); clear hb1 ho) | (with_reducible refine wpl rfl (Stp.apps 8 rfl rfl Try.underlying26 info5 rfl (by decide) rfl rfl H (fun _ => (by repeat (first | exact Upd.head | apply Upd.tail))) (by rw [bv_len, Nat.mul_one]) (hs.grow H.below).src (bv_one b) (by unfold maxLen; omega) (by omega) ?_); clear H; intro a8 c8 w1 H; simp only [Act.put, List.setIfInBounds_toArray, List.set_cons_zero, List.set_cons_succ]; rw [bv_app, HR.out, HL.out] at H; rw [HL.out]))
  go_ret
  exact ⟨_, rfl, ⟨_, _, rfl⟩, H.getSlc (by repeat (first | exact List.mem_cons_self | apply List.mem_cons_of_mem)), H.below⟩
set_option maxRecDepth 100000 in
set_option maxHeartbeats 1000000 in
theorem rpids_ok (ps : List (Nat × Nat)) (v : Value) (r : List Nat) (hp : okPids ps) (hpl : ps.length ≤ 1000) (hr : shortB ps.length ++ pidsB ps = r) (w : World) (hs : Sl w 2 ps.length v (elQ ps)) :
    Calls Try.prog 48 #[v] w (Ret fun v' w' => (∃ ap cp, v' = .slice ap r.length cp) ∧ w'.ownsRow w.heap.size 5 1 v' r.length (bv r) ∧ Below w.heap.size w w') := by
  have H := St.init w
  have hs' := hs
  obtain ⟨ab, cb, rfl, hm9, _⟩ := hs'
  unfold maxLen at hm9
  have w1r : IntKind.u64.wrap (ps.length : Int) = (ps.length : Int) := wrap_u64_in _ (by omega) (by omega)
  obtain ⟨q, hq⟩ : ∃ q, shortB ps.length = q := ⟨_, rfl⟩
  have ql : q.length ≤ 10 := by rw [← hq]; exact shortB_len _
  rw [hq] at hr
  have HQ := Lib.hid hq
  have HR0 := Lib.hid hr
  have HP := Lib.hid hp
  clear hq hr hp
  go_enter Try.func48, Try.ntmps48
  go_wp2_with (first | (go_at_call 39; (with_reducible refine (rnum_ok q ps.length (by omega) HQ.out _).mono ?_); rintro e w1 ⟨v, rfl, hr⟩; obtain ⟨⟨aq, cq, rfl⟩, ho, hb1⟩ := hr; replace H := H.new hb1 (slc_sound ho) (fun g hg => (ho.lt g hg).1); clear hb1 ho) | (with_reducible refine wpl rfl (Stp.ldr rfl agg34 size34 rfl H (by repeat (first | exact List.mem_cons_self | apply List.mem_cons_of_mem)) (by first | rfl | (simp; done) | assumption) ?_); simp only [Act.put, List.setIfInBounds_toArray, List.set_cons_zero, List.set_cons_succ]) | (with_reducible refine wpl rfl (Stp.ldl rfl agg34 size34 rfl H (by repeat (first | exact List.mem_cons_self | apply List.mem_cons_of_mem)) (by simp) ?_); simp only [Act.put, List.setIfInBounds_toArray, List.set_cons_zero, List.set_cons_succ]; simp only [List.drop_succ_cons, List.drop_zero, List.take_succ_cons, List.take_zero]) | (with_reducible refine wpl rfl (Stp.ldor rfl agg34 size34 rfl H (by assumption) (by first | rfl | (simp; done) | assumption) (by assumption) ?_); simp only [Act.put, List.setIfInBounds_toArray, List.set_cons_zero, List.set_cons_succ]))
  clear HQ
  go_loopw [4, 3] (fun i o wr => ∃ (k : Nat) (a : Option Addr) (c : Nat) (m : List Nat), k ≤ ps.length ∧ i = .int .i64 (k : Int) ∧ o = .slice a m.length c ∧ Hid (q ++ pidsB (ps.take k) = m) ∧ St w.heap.size w wr [slc 5 1 (.slice a m.length c) m.length (bv m)]) (fun i _ _ => ps.length - (intOf i).toNat)
  case atStart => exact ⟨0, _, _, q, Nat.zero_le _, rfl, rfl, Lib.hid (by simp [pidsB]), H⟩
  case round =>
    clear H
    obtain ⟨k, a2, c2, m, hk, rfl, rfl, HR, H⟩ := hrel
    have ml : m.length ≤ 30000 := by
      rw [← HR.out, List.length_append]
      have := pidsB_len (ps.take k)
      rw [List.length_take] at this
      omega
    by_cases hlt : k < ps.length
    · obtain ⟨b, off, rfl, hbb⟩ := hs.addr (by omega)
      obtain ⟨p1, p2⟩ := okPids_at HP.out k hlt
      have hsn := pidsB_snoc ps k hlt
      obtain ⟨x, hx⟩ : ∃ x, (ps.getD k (0, 0)).1 = x := ⟨_, rfl⟩
      obtain ⟨y, hy⟩ : ∃ y, (ps.getD k (0, 0)).2 = y := ⟨_, rfl⟩
      have he : elQ ps k = #[.int .u16 (x : Int), .int .u32 (y : Int)] := by unfold elQ; rw [hx, hy]
      rw [hx, hy] at hsn
      rw [hx] at p1
      rw [hy] at p2
      obtain ⟨z, hz⟩ : ∃ z, pidB x y = z := ⟨_, rfl⟩
      have zl : z.length ≤ 20 := by rw [← hz]; exact pidB_len _ _
      obtain ⟨r2, hr2⟩ : ∃ r2, m ++ z = r2 := ⟨_, rfl⟩
      have HZ := Lib.hid hz
      have HL : Hid (m.length + z.length = r2.length) := Lib.hid (by rw [← hr2, List.length_append])
      have HR2 := Lib.hid hr2
      have HR3 : Hid (q ++ pidsB (ps.take (k + 1)) = r2) := Lib.hid (by rw [hsn, hz, ← List.append_assoc, HR.out, hr2])
      have HEL := Lib.hid he
      have kli : (k : Int) < (ps.length : Int) := by omega
      clear hsn hx hy hr2 he hz
      go_wp2_with (first | (with_reducible refine wpl rfl (Stp.ldq (cs := #[.int .u16 (x : Int), .int .u32 (y : Int)]) rfl agg34 size34 rfl (by rw [← HEL.out]; exact (hs.grow H.below).cell hlt) rfl ?_); simp only [Act.put, List.setIfInBounds_toArray, List.set_cons_zero, List.set_cons_succ]) | (go_at_call 42; (with_reducible refine (rpput_as z x y p1 p2 HZ.out _).mono ?_); rintro e w1 ⟨v, rfl, hr⟩; obtain ⟨⟨az, cz, rfl⟩, ho, hb1⟩ := hr; replace H := H.new hb1 (slc_sound ho) (fun g hg => (ho.lt g hg).1); clear hb1 ho) | (with_reducible refine wpl rfl (Stp.apps 21 rfl rfl Try.underlying26 info5 rfl (by decide) rfl rfl H (fun _ => (by repeat (first | exact Upd.head | apply Upd.tail))) (by rw [bv_len, Nat.mul_one]) (own_src (H.getSlc (xs := bv z) (by repeat (first | exact List.mem_cons_self | apply List.mem_cons_of_mem)))) (bv_one z) (by unfold maxLen; omega) (by omega) ?_); clear H; intro a21 c21 w1 H; simp only [Act.put, List.setIfInBounds_toArray, List.set_cons_zero, List.set_cons_succ]; rw [bv_app, HR2.out, HL.out] at H; rw [HL.out]) | (with_reducible refine wpl rfl (Stp.ldr rfl agg34 size34 rfl H (by repeat (first | exact List.mem_cons_self | apply List.mem_cons_of_mem)) (by first | rfl | (simp; done) | assumption) ?_); simp only [Act.put, List.setIfInBounds_toArray, List.set_cons_zero, List.set_cons_succ]) | (with_reducible refine wpl rfl (Stp.ldl rfl agg34 size34 rfl H (by repeat (first | exact List.mem_cons_self | apply List.mem_cons_of_mem)) (by simp) ?_); simp only [Act.put, List.setIfInBounds_toArray, List.set_cons_zero, List.set_cons_succ]; simp only [List.drop_succ_cons, List.drop_zero, List.take_succ_cons, List.take_zero]) | (with_reducible refine wpl rfl (Stp.ldor rfl agg34 size34 rfl H (by assumption) (by first | rfl | (simp; done) | assumption) (by assumption) ?_); simp only [Act.put, List.setIfInBounds_toArray, List.set_cons_zero, List.set_cons_succ]))
      go_roundw
      case rel => exact ⟨k + 1, _, _, r2, by omega, by go_num, rfl, HR3, H.sub (by repeat (first | exact List.Sublist.refl _ | exact List.nil_sublist _ | (with_reducible apply List.Sublist.cons_cons) | apply List.Sublist.cons))⟩
      case measure => simp [intOf]; omega
    · obtain rfl : k = ps.length := by omega
      rw [List.take_length, HR0.out] at HR
      obtain rfl := HR.out
      go_wp2_with (first | (with_reducible refine wpl rfl (Stp.ldr rfl agg34 size34 rfl H (by repeat (first | exact List.mem_cons_self | apply List.mem_cons_of_mem)) (by first | rfl | (simp; done) | assumption) ?_); simp only [Act.put, List.setIfInBounds_toArray, List.set_cons_zero, List.set_cons_succ]) | (with_reducible refine wpl rfl (Stp.ldl rfl agg34 size34 rfl H (by repeat (first | exact List.mem_cons_self | apply List.mem_cons_of_mem)) (by simp) ?_); simp only [Act.put, List.setIfInBounds_toArray, List.set_cons_zero, List.set_cons_succ]; simp only [List.drop_succ_cons, List.drop_zero, List.take_succ_cons, List.take_zero]) | (with_reducible refine wpl rfl (Stp.ldor rfl agg34 size34 rfl H (by assumption) (by first | rfl | (simp; done) | assumption) (by assumption) ?_); simp only [Act.put, List.setIfInBounds_toArray, List.set_cons_zero, List.set_cons_succ]))
      go_ret
      exact ⟨_, rfl, ⟨_, _, rfl⟩, H.getSlc (by repeat (first | exact List.mem_cons_self | apply List.mem_cons_of_mem)), H.below⟩
/-- A number of 0 to n - 1 that any number stands for. -/
theorem pick_mod (b z : Int) (n : Nat) (hz : z = n) (hn : 0 < n) (hn2 : n ≤ 1000000) (w : World) :
    Calls Try.prog 25 #[.int .i64 b, .int .i64 z] w (Ret fun v w' => v = .int .i64 (((b % n).toNat : Nat) : Int) ∧ Below w.heap.size w w') := by
  subst hz
  have H := St.init w
  have e1 := Int.emod_nonneg b (show (n : Int) ≠ 0 by omega)
  have e2 := Int.emod_lt_of_pos b (show (0 : Int) < n by omega)
  have h := Int.tmod_eq_emod (a := b) (b := (n : Int))
  rw [Int.natAbs_natCast] at h
  have hr : (b.tmod n < 0 → b.tmod n + n = b % n) ∧ (¬ b.tmod n < 0 → b.tmod n = b % n) := by
    split at h <;> constructor <;> intro h' <;> omega
  obtain ⟨e, he⟩ : ∃ e, b.tmod n = e := ⟨_, rfl⟩
  obtain ⟨q, hq⟩ : ∃ q, b % (n : Int) = q := ⟨_, rfl⟩
  rw [he, hq] at hr
  rw [hq] at e1 e2 ⊢
  have eb : -(n : Int) ≤ e ∧ e < n := by
    by_cases h0 : e < 0
    · have := hr.1 h0; omega
    · have := hr.2 h0; omega
  obtain ⟨eb1, eb2⟩ := eb
  have n1 : ¬ (n : Int) < 1 := by omega
  have nz : ((n : Int) == 0) = false := by simp; omega
  clear hq h
  by_cases h0 : e < 0
  · have HQ := Lib.hid (hr.1 h0)
    clear hr
    go_enter Try.func25, Try.ntmps25
    go_wp2
    go_ret
    exact ⟨_, rfl, congrArg (Value.int IntKind.i64) (show e + (n : Int) = _ by have := HQ.out; omega), H.below⟩
  · have HQ := Lib.hid (hr.2 h0)
    clear hr
    go_enter Try.func25, Try.ntmps25
    go_wp2
    go_ret
    exact ⟨_, rfl, congrArg (Value.int IntKind.i64) (show e = _ by have := HQ.out; omega), H.below⟩
end Go.Proofs.Ytcjbippgjhgoiaa
