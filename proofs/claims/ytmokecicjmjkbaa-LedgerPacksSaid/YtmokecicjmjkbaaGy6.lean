/- Contracts of layer 3's Put and Get and of their references; the bounds stand in each. Layer 7's Reader (body), whatever is wrong: pid; the closures of Num and Pid, and these methods; the bounds stand in each. -/
import Derived.Test.YtmokecicjmjkbaaGy5
namespace Go.Proofs.Ytmokecicjmjkbaa
open Go.ChangeShapes Go.WideShapes Go.ChangeAt Go.RowKit
set_option linter.unusedVariables false
set_option linter.unusedSimpArgs false
theorem pidB_len (i c : Nat) : (pidB i c).length ≤ 20 := by
  have := shortB_len i
  have := shortB_len c
  simp [pidB]; omega
theorem shortF_byte : ∀ (f n x : Nat), x ∈ shortF f n → x < 256
  | 0, n, x, h => by simp [shortF] at h; omega
  | f + 1, n, x, h => by
    unfold shortF at h
    split at h
    · simp at h; omega
    · rcases List.mem_cons.1 h with rfl | h
      · omega
      · exact shortF_byte f _ x h
theorem shortB_byte (n : Nat) : ∀ x ∈ shortB n, x < 256 := fun x h => shortF_byte 9 n x h
set_option maxRecDepth 100000 in
theorem pput_ok (v : Value) (l : List Nat) (hl : l.length ≤ 800000) (i c : Nat) (hi : i < 65536) (hc : c < 4294967296) (w : World) (hs : Sl w 1 l.length v (elB l)) :
    Calls Try.prog 131 #[v, .agg #[.int .u16 (i : Int), .int .u32 (c : Int)]] w (Ret fun v' w' => (∃ ap cp, v' = .slice ap (l ++ pidB i c).length cp) ∧ w'.ownsRow w.heap.size 5 1 v' (l ++ pidB i c).length (bv (l ++ pidB i c)) ∧ Below w.heap.size w w') := by
  have hs' := hs
  obtain ⟨ad, cp0, rfl, hm⟩ := hs'.len
  have H := St.init w
  have w1i : IntKind.u64.wrap (i : Int) = (i : Int) := wrap_u64_in _ (by omega) (by omega)
  have w1c : IntKind.u64.wrap (c : Int) = (c : Int) := wrap_u64_in _ (by omega) (by omega)
  have hsl := shortB_len i
  go_enter Try.func131, Try.ntmps131
  go_wp2_with (first | (with_reducible refine wpl rfl (dQ 3 rfl ?_); with_reducible refine (Stp.box 3 rfl rfl rfl H ?_); clear H; intro g3 w1 H; simp only [pS]; simp only [pE, nC, pS] at H))
  refine rg_begin 10 rfl (S := fun W => St _ _ W _) (by kernel_rfl) H.drew ?_
  replace H := H.drew
  have HS := H
  refine rg_take (i := 0) rfl kR kR kR (Yld.move rfl rfl) (H.sub sU) ?_; simp only [pS, pE]
  refine rg_take (i := 1) rfl kR kR kR (Yld.o rfl) (H.sub sU) ?_; simp only [pS]
  first | (refine rg_take (i := 2) rfl kR kR kR (Yld.ldo rfl rfl agg27 rfl (by assumption) (by assumption)) (H.sub sU) ?_; simp only [pS]) | (refine rg_take (i := 2) rfl kR kR kR (Yld.ldc rfl rfl agg27 rfl mR cE) (H.sub sU) ?_; simp only [pS])
  refine rg_take (i := 3) rfl kR kR kR (Yld.o rfl) (H.sub sU) ?_; simp only [pS]
  refine rg_take (i := 5) rfl kR kR kR (Yld.o rfl) (H.sub sU) ?_; simp only [pS]
  first | (refine rg_take (i := 6) rfl kR kR kR (Yld.ldo rfl rfl agg28 rfl (by assumption) (by assumption)) (H.sub sU) ?_; simp only [pS]) | (refine rg_take (i := 6) rfl kR kR kR (Yld.ldc rfl rfl agg28 rfl mR cE) (H.sub sU) ?_; simp only [pS])
  refine rg_take (i := 7) rfl kR kR kR (Yld.o rfl) (H.sub sU) ?_; simp only [pS]
  refine rg_one (i := 4) (by kernel_rfl) rfl rfl (fun K hK => ?_)
  refine wp_callf rfl ent101 (putshort_ok _ l i (by omega) (by omega) _ (hs.grow H.below)) rfl (fun v w1 hr => ?_)
  obtain ⟨⟨ap, cp, rfl⟩, ho, hb1⟩ := hr
  replace H := H.new hb1 (slc_sound ho) (fun g hg => (ho.lt g hg).1)
  clear hb1 ho
  clear HS
  have HS := H
  refine hK.out _ _ (H.sub sU) ?_
  clear hK K
  simp only [pS]
  refine rg_one (i := 8) (by kernel_rfl) rfl rfl (fun K hK => ?_)
  refine wp_callf rfl ent101 (putshort_ok _ (l ++ shortB i) c (by omega) (by rw [List.length_append]; omega) _ (own_slk (H.getSlc mE) rfl (by rw [List.length_append]; omega))) rfl (fun v w1 hr => ?_)
  obtain ⟨⟨aq, cq, rfl⟩, ho, hb1⟩ := hr
  replace H := H.new hb1 (slc_sound ho) (fun g hg => (ho.lt g hg).1)
  clear hb1 ho
  clear HS
  have HS := H
  refine hK.out _ _ (H.sub sU) ?_
  clear hK K
  simp only [pS]
  refine rg_take (i := 9) rfl kR kR kR (Yld.assign rfl rfl) (H.sub sU) ?_; simp only [pS, pE]
  refine rg_done (by kernel_rfl) ?_
  go_wp2_with (first | (with_reducible refine wpl rfl (dQ 3 rfl ?_); with_reducible refine (Stp.box 3 rfl rfl rfl H ?_); clear H; intro g3 w1 H; simp only [pS]; simp only [pE, nC, pS] at H))
  go_ret
  have e : l ++ pidB i c = l ++ shortB i ++ shortB c := by rw [pidB, List.append_assoc]
  rw [e]
  exact ⟨_, rfl, ⟨_, _, rfl⟩, H.getSlc mE, H.below⟩
set_option maxRecDepth 100000 in
theorem rpput_ok (i c : Nat) (hi : i < 65536) (hc : c < 4294967296) (w : World) :
    Calls Try.prog 106 #[.agg #[.int .u16 (i : Int), .int .u32 (c : Int)]] w (Ret fun v' w' => (∃ ap cp, v' = .slice ap (pidB i c).length cp) ∧ w'.ownsRow w.heap.size 5 1 v' (pidB i c).length (bv (pidB i c)) ∧ Below w.heap.size w w') := by
  have H := St.init w
  have w1i : IntKind.u64.wrap (i : Int) = (i : Int) := wrap_u64_in _ (by omega) (by omega)
  have w1c : IntKind.u64.wrap (c : Int) = (c : Int) := wrap_u64_in _ (by omega) (by omega)
  have hsl := shortB_len i
  have hsl2 := shortB_len c
  go_enter Try.func106, Try.ntmps106
  go_wp2_with (first | (with_reducible refine wpl rfl (dQ 1 rfl ?_); with_reducible refine (Stp.box 1 rfl rfl rfl H ?_); clear H; intro g1 w1 H; simp only [pS]; simp only [pE, nC, pS] at H))
  refine rg_begin 10 rfl (S := fun W => St _ _ W _) (by kernel_rfl) H.drew ?_
  replace H := H.drew
  have HS := H
  refine rg_take (i := 0) rfl kR kR kR (Yld.o rfl) (H.sub sU) ?_; simp only [pS]
  first | (refine rg_take (i := 1) rfl kR kR kR (Yld.ldo rfl rfl agg27 rfl (by assumption) (by assumption)) (H.sub sU) ?_; simp only [pS]) | (refine rg_take (i := 1) rfl kR kR kR (Yld.ldc rfl rfl agg27 rfl mR cE) (H.sub sU) ?_; simp only [pS])
  refine rg_take (i := 2) rfl kR kR kR (Yld.o rfl) (H.sub sU) ?_; simp only [pS]
  refine rg_take (i := 4) rfl kR kR kR (Yld.o rfl) (H.sub sU) ?_; simp only [pS]
  first | (refine rg_take (i := 5) rfl kR kR kR (Yld.ldo rfl rfl agg28 rfl (by assumption) (by assumption)) (H.sub sU) ?_; simp only [pS]) | (refine rg_take (i := 5) rfl kR kR kR (Yld.ldc rfl rfl agg28 rfl mR cE) (H.sub sU) ?_; simp only [pS])
  refine rg_take (i := 6) rfl kR kR kR (Yld.o rfl) (H.sub sU) ?_; simp only [pS]
  refine rg_one (i := 3) (by kernel_rfl) rfl rfl (fun K hK => ?_)
  refine wp_callf rfl ent105 (rshort_ok i (by omega) _) rfl (fun v w1 hr => ?_)
  obtain ⟨⟨ap, cp, rfl⟩, ho, hb1⟩ := hr
  replace H := H.new hb1 (slc_sound ho) (fun g hg => (ho.lt g hg).1)
  clear hb1 ho
  clear HS
  have HS := H
  refine hK.out _ _ (H.sub sU) ?_
  clear hK K
  simp only [pS]
  refine rg_one (i := 7) (by kernel_rfl) rfl rfl (fun K hK => ?_)
  refine wp_callf rfl ent105 (rshort_ok c (by omega) _) rfl (fun v w1 hr => ?_)
  obtain ⟨⟨aq, cq, rfl⟩, ho, hb1⟩ := hr
  replace H := H.new hb1 (slc_sound ho) (fun g hg => (ho.lt g hg).1)
  clear hb1 ho
  clear HS
  have HS := H
  refine hK.out _ _ (H.sub sU) ?_
  clear hK K
  simp only [pS]
  refine rg_one (i := 8) (by kernel_rfl) rfl rfl (fun K hK => ?_)
  refine Stp.wp (Stp.apps 11 rfl rfl Try.underlying22 info5 rfl (by decide) rfl rfl H (fun _ => Upd.tail Upd.head) (by rw [bv_len, Nat.mul_one]) (own_src (H.getSlc List.mem_cons_self)) (bv_one (shortB c)) (by unfold maxLen; omega) (by omega) ?_)
  clear H
  intro ar cr w1 H
  rw [bv_app] at H
  clear HS
  have HS := H
  refine hK.out _ _ (H.sub sU) ?_
  clear hK K
  simp only [pS]
  refine rg_take (i := 9) rfl kR kR kR (Yld.assign rfl rfl) (H.sub sU) ?_; simp only [pS, pE]
  refine rg_done (by kernel_rfl) ?_
  go_wp2_with (first | (with_reducible refine wpl rfl (dQ 1 rfl ?_); with_reducible refine (Stp.box 1 rfl rfl rfl H ?_); clear H; intro g1 w1 H; simp only [pS]; simp only [pE, nC, pS] at H))
  go_ret
  rw [← List.length_append] at H ⊢
  exact ⟨_, rfl, ⟨_, _, rfl⟩, H.getSlc (List.mem_cons_of_mem _ List.mem_cons_self), H.below⟩
set_option maxRecDepth 100000 in
set_option maxHeartbeats 1000000 in
theorem pget_ok (A : Option Addr) (n0 cap : Nat) (l : List Nat) (hn0 : l.length = n0) (hcap : n0 ≤ cap) (hl : l.length ≤ 1000000) (hx : ∀ x ∈ l, x < 256) (w : World) (hs : Sl w 1 l.length (.slice A n0 cap) (elB l)) (r1 r2 r3 r4 : Nat) (hr : getP l = (r1, r2, r3, r4)) :
    Calls Try.prog 140 #[.slice A n0 cap] w (Ret fun v w' => v = .tuple #[.agg #[.int .u16 (r1 : Int), .int .u32 (r2 : Int)], .int .i64 (r3 : Int), .int .i64 (r4 : Int)] ∧ Below w.heap.size w w') := by
  have H := St.init w
  obtain ⟨a, n, e, hg⟩ : ∃ a n e, gs l 10 0 0 = (a, n, e) := ⟨_, _, _, rfl⟩
  obtain ⟨c, m, f, hg2⟩ : ∃ c m f, gs (l.drop n) 10 0 0 = (c, m, f) := ⟨_, _, _, rfl⟩
  have l1 := gs_le l 10 0 0 a n e hg
  have l2 := gs_le (l.drop n) 10 0 0 c m f hg2
  have b1 := gs_lt l hx 10 0 0 a n e rfl (by decide) hg
  have b2 := gs_lt (l.drop n) (lens hx n) 10 0 0 c m f rfl (by decide) hg2
  unfold getP at hr
  simp only [hg] at hr
  simp only [hg2] at hr
  have G1 := Lib.hid hg
  have G2 := Lib.hid hg2
  have HX := Lib.hid hx
  have HX2 := Lib.hid (lens hx n)
  clear hg hg2 hx
  by_cases he : e = 0
  · obtain ⟨_, hnl⟩ := l1.2 he
    subst he
    clear l1
    rw [if_neg (by simp)] at hr
    have hd2 : (l.drop n).length ≤ 1000000 := by rw [List.length_drop]; omega
    have hd3 : (l.drop n).length = n0 - n := by rw [List.length_drop]; omega
    by_cases hf : f = 0
    · obtain ⟨_, hml⟩ := l2.2 hf
      subst hf
      clear l2
      rw [if_neg (by simp)] at hr
      by_cases ha : 65535 < a
      · rw [if_pos (.inl ha)] at hr
        cases hr
        go_enter Try.func140, Try.ntmps140
        go_wp2_with (first | (go_at_call 121; (with_reducible refine (getshort_ok _ l hl HX.out _ (hs.grow H.below) a n 0 G1.out).mono ?_); rintro e w1 ⟨v, rfl, hr⟩; obtain ⟨rfl, hb1⟩ := hr; replace H := H.grow hb1; clear hb1) | (with_reducible refine wpl rfl (dQ 22 rfl ?_); with_reducible refine (Stp.slfrom (k := n) 22 rfl rfl Try.underlying22 size5 rfl rfl (by omega) (by omega) ?_); intro A22 hA22; have sx := sl_from n (hs.grow H.below) (by omega) (by omega) (by omega) hA22; clear hA22; simp only [pS]) | (go_at_call 121; (with_reducible refine (getshort_ok _ (l.drop n) hd2 HX2.out _ sx c m 0 G2.out).mono ?_); rintro e w1 ⟨v, rfl, hr⟩; obtain ⟨rfl, hb1⟩ := hr; replace H := H.grow hb1; clear hb1) | (with_reducible refine wpl rfl (dQ 2 rfl ?_); with_reducible refine (Stp.alloc 2 rfl rfl zero30 H ?_); clear H; intro g2 w1 H; simp only [pS]; simp only [nC] at H) | (with_reducible refine wpl rfl (stQ (ty := 30) rfl ?_); first | (with_reducible refine (Stp.str rfl size30 rfl rfl (by first | rfl | (simp [Value.oneCell']; done) | assumption) H uP sZ sZ ?_); clear H; intro w1 H; simp only [pS]) | (with_reducible refine (Stp.stl rfl size30 rfl rfl rfl rfl H uP (by simp) ?_); clear H; intro w1 H; simp only [pS]; simp only [List.drop_succ_cons, List.drop_zero, List.take_succ_cons, List.take_zero, List.nil_append, List.cons_append, Nat.reduceAdd] at H)))
        refine post_row3 rfl agg30 size30 rfl H mE rfl rfl ⟨_, rfl, rfl, H.below⟩
      · by_cases hc : 4294967295 < c
        · rw [if_pos (.inr hc)] at hr
          cases hr
          go_enter Try.func140, Try.ntmps140
          go_wp2_with (first | (go_at_call 121; (with_reducible refine (getshort_ok _ l hl HX.out _ (hs.grow H.below) a n 0 G1.out).mono ?_); rintro e w1 ⟨v, rfl, hr⟩; obtain ⟨rfl, hb1⟩ := hr; replace H := H.grow hb1; clear hb1) | (with_reducible refine wpl rfl (dQ 22 rfl ?_); with_reducible refine (Stp.slfrom (k := n) 22 rfl rfl Try.underlying22 size5 rfl rfl (by omega) (by omega) ?_); intro A22 hA22; have sx := sl_from n (hs.grow H.below) (by omega) (by omega) (by omega) hA22; clear hA22; simp only [pS]) | (go_at_call 121; (with_reducible refine (getshort_ok _ (l.drop n) hd2 HX2.out _ sx c m 0 G2.out).mono ?_); rintro e w1 ⟨v, rfl, hr⟩; obtain ⟨rfl, hb1⟩ := hr; replace H := H.grow hb1; clear hb1) | (with_reducible refine wpl rfl (dQ 2 rfl ?_); with_reducible refine (Stp.alloc 2 rfl rfl zero30 H ?_); clear H; intro g2 w1 H; simp only [pS]; simp only [nC] at H) | (with_reducible refine wpl rfl (stQ (ty := 30) rfl ?_); first | (with_reducible refine (Stp.str rfl size30 rfl rfl (by first | rfl | (simp [Value.oneCell']; done) | assumption) H uP sZ sZ ?_); clear H; intro w1 H; simp only [pS]) | (with_reducible refine (Stp.stl rfl size30 rfl rfl rfl rfl H uP (by simp) ?_); clear H; intro w1 H; simp only [pS]; simp only [List.drop_succ_cons, List.drop_zero, List.take_succ_cons, List.take_zero, List.nil_append, List.cons_append, Nat.reduceAdd] at H)))
          refine post_row3 rfl agg30 size30 rfl H mE rfl rfl ⟨_, rfl, rfl, H.below⟩
        · rw [if_neg (by omega)] at hr
          cases hr
          have ea : IntKind.u16.wrap (r1 : Int) = (r1 : Int) := by rw [IntKind.wrap_u16]; omega
          have ec : IntKind.u32.wrap (r2 : Int) = (r2 : Int) := by rw [IntKind.wrap_u32]; omega
          go_enter Try.func140, Try.ntmps140
          go_wp2_with (first | (go_at_call 121; (with_reducible refine (getshort_ok _ l hl HX.out _ (hs.grow H.below) r1 n 0 G1.out).mono ?_); rintro e w1 ⟨v, rfl, hr⟩; obtain ⟨rfl, hb1⟩ := hr; replace H := H.grow hb1; clear hb1) | (with_reducible refine wpl rfl (dQ 22 rfl ?_); with_reducible refine (Stp.slfrom (k := n) 22 rfl rfl Try.underlying22 size5 rfl rfl (by omega) (by omega) ?_); intro A22 hA22; have sx := sl_from n (hs.grow H.below) (by omega) (by omega) (by omega) hA22; clear hA22; simp only [pS]) | (go_at_call 121; (with_reducible refine (getshort_ok _ (l.drop n) hd2 HX2.out _ sx r2 m 0 G2.out).mono ?_); rintro e w1 ⟨v, rfl, hr⟩; obtain ⟨rfl, hb1⟩ := hr; replace H := H.grow hb1; clear hb1) | (with_reducible refine wpl rfl (dQ 2 rfl ?_); with_reducible refine (Stp.alloc 2 rfl rfl zero30 H ?_); clear H; intro g2 w1 H; simp only [pS]; simp only [nC] at H) | (with_reducible refine wpl rfl (stQ (ty := 30) rfl ?_); first | (with_reducible refine (Stp.str rfl size30 rfl rfl (by first | rfl | (simp [Value.oneCell']; done) | assumption) H uP sZ sZ ?_); clear H; intro w1 H; simp only [pS]) | (with_reducible refine (Stp.stl rfl size30 rfl rfl rfl rfl H uP (by simp) ?_); clear H; intro w1 H; simp only [pS]; simp only [List.drop_succ_cons, List.drop_zero, List.take_succ_cons, List.take_zero, List.nil_append, List.cons_append, Nat.reduceAdd] at H)))
          refine post_row3 rfl agg30 size30 rfl H mE rfl rfl ⟨_, rfl, ?_, H.below⟩
          simp only [ea, ec, Int.natCast_add, getD_lit0, getD_lits]
          rfl
    · obtain ⟨rfl, rfl⟩ := l2.1 hf
      rw [if_pos hf] at hr
      cases hr
      have hfi : ¬ (r4 : Int) = 0 := by omega
      go_enter Try.func140, Try.ntmps140
      go_wp2_with (first | (go_at_call 121; (with_reducible refine (getshort_ok _ l hl HX.out _ (hs.grow H.below) a n 0 G1.out).mono ?_); rintro e w1 ⟨v, rfl, hr⟩; obtain ⟨rfl, hb1⟩ := hr; replace H := H.grow hb1; clear hb1) | (with_reducible refine wpl rfl (dQ 22 rfl ?_); with_reducible refine (Stp.slfrom (k := n) 22 rfl rfl Try.underlying22 size5 rfl rfl (by omega) (by omega) ?_); intro A22 hA22; have sx := sl_from n (hs.grow H.below) (by omega) (by omega) (by omega) hA22; clear hA22; simp only [pS]) | (go_at_call 121; (with_reducible refine (getshort_ok _ (l.drop n) hd2 HX2.out _ sx 0 0 r4 G2.out).mono ?_); rintro e w1 ⟨v, rfl, hr⟩; obtain ⟨rfl, hb1⟩ := hr; replace H := H.grow hb1; clear hb1) | (with_reducible refine wpl rfl (dQ 2 rfl ?_); with_reducible refine (Stp.alloc 2 rfl rfl zero30 H ?_); clear H; intro g2 w1 H; simp only [pS]; simp only [nC] at H) | (with_reducible refine wpl rfl (stQ (ty := 30) rfl ?_); first | (with_reducible refine (Stp.str rfl size30 rfl rfl (by first | rfl | (simp [Value.oneCell']; done) | assumption) H uP sZ sZ ?_); clear H; intro w1 H; simp only [pS]) | (with_reducible refine (Stp.stl rfl size30 rfl rfl rfl rfl H uP (by simp) ?_); clear H; intro w1 H; simp only [pS]; simp only [List.drop_succ_cons, List.drop_zero, List.take_succ_cons, List.take_zero, List.nil_append, List.cons_append, Nat.reduceAdd] at H)))
      refine post_row3 rfl agg30 size30 rfl H mE rfl rfl ⟨_, rfl, rfl, H.below⟩
  · obtain ⟨rfl, rfl⟩ := l1.1 he
    rw [if_pos he] at hr
    cases hr
    have hei : ¬ (r4 : Int) = 0 := by omega
    go_enter Try.func140, Try.ntmps140
    go_wp2_with (first | (go_at_call 121; (with_reducible refine (getshort_ok _ l hl HX.out _ (hs.grow H.below) 0 0 r4 G1.out).mono ?_); rintro e w1 ⟨v, rfl, hr⟩; obtain ⟨rfl, hb1⟩ := hr; replace H := H.grow hb1; clear hb1) | (with_reducible refine wpl rfl (dQ 2 rfl ?_); with_reducible refine (Stp.alloc 2 rfl rfl zero30 H ?_); clear H; intro g2 w1 H; simp only [pS]; simp only [nC] at H) | (with_reducible refine wpl rfl (stQ (ty := 30) rfl ?_); first | (with_reducible refine (Stp.str rfl size30 rfl rfl (by first | rfl | (simp [Value.oneCell']; done) | assumption) H uP sZ sZ ?_); clear H; intro w1 H; simp only [pS]) | (with_reducible refine (Stp.stl rfl size30 rfl rfl rfl rfl H uP (by simp) ?_); clear H; intro w1 H; simp only [pS]; simp only [List.drop_succ_cons, List.drop_zero, List.take_succ_cons, List.take_zero, List.nil_append, List.cons_append, Nat.reduceAdd] at H)))
    refine post_row3 rfl agg30 size30 rfl H mE rfl rfl ⟨_, rfl, rfl, H.below⟩
theorem pput_as (v : Value) (l r : List Nat) (hl : l.length ≤ 800000) (i c : Nat) (hi : i < 65536) (hc : c < 4294967296) (hr : l ++ pidB i c = r) (w : World) (hs : Sl w 1 l.length v (elB l)) :
    Calls Try.prog 131 #[v, .agg #[.int .u16 (i : Int), .int .u32 (c : Int)]] w (Ret fun v' w' => (∃ ap cp, v' = .slice ap r.length cp) ∧ w'.ownsRow w.heap.size 5 1 v' r.length (bv r) ∧ Below w.heap.size w w') := by
  subst hr; exact pput_ok v l hl i c hi hc w hs
theorem rpput_as (r : List Nat) (i c : Nat) (hi : i < 65536) (hc : c < 4294967296) (hr : pidB i c = r) (w : World) :
    Calls Try.prog 106 #[.agg #[.int .u16 (i : Int), .int .u32 (c : Int)]] w (Ret fun v' w' => (∃ ap cp, v' = .slice ap r.length cp) ∧ w'.ownsRow w.heap.size 5 1 v' r.length (bv r) ∧ Below w.heap.size w w') := by
  subst hr; exact rpput_ok i c hi hc w
end Go.Proofs.Ytmokecicjmjkbaa
namespace Go.Proofs.Ytmokecicjmjkbaa
open Go.ChangeShapes Go.WideShapes Go.ChangeAt Go.RowKit Go.Deep
set_option linter.unusedVariables false
set_option linter.unusedSimpArgs false
set_option linter.unusedSectionVars false
set_option maxRecDepth 100000
set_option maxHeartbeats 2000000
theorem rpidG_ok {B : Nat} {w0 : World} {L M : List Res} (g : Nat) (s : Value) (l : List Nat) (e : Nat) (hb : Byt B w0 L s l) (hML : L.Sublist M) (w : World) (H : St B w0 w (row 144 g #[s, .int .i64 (e : Int)] :: M)) :
    Calls Try.prog 123 #[.pointer (some ⟨g, 0, none⟩)] w (Ret fun v w' => v = .agg #[.int .u16 ((pidF (l, e)).1.1 : Int), .int .u32 ((pidF (l, e)).1.2 : Int)] ∧ ∃ s', Byt B w0 L s' (pidF (l, e)).2.1 ∧ St B w0 w' (row 144 g #[s', .int .i64 ((pidF (l, e)).2.2 : Int)] :: M)) := by
  by_cases he : e ≠ 0
  · have hei : ((e : Int) != 0) = true := by simp; omega
    rw [pidF_bad he]
    clear he
    go_enter Try.func123, Try.ntmps123
    go_wp2_with (first | (with_reducible refine wpl rfl (dQ 2 rfl ?_); with_reducible refine (Stp.alloc 2 rfl rfl zero30 H ?_); clear H; intro g2 w1 H; simp only [pS]; simp only [nC] at H) | (with_reducible refine wpl rfl (ldQ (ty := 37) rfl ?_); first | (with_reducible refine (Stp.ldo rfl agg37 rfl H (by assumption) (by assumption) ?_); simp only [pS]) | (with_reducible refine (Stp.ldc rfl agg37 rfl H mR cE ?_); simp only [pS])) | (with_reducible refine wpl rfl (stQ (ty := 30) rfl ?_); first | (with_reducible refine (Stp.str rfl size30 rfl rfl (by first | rfl | (simp [Value.oneCell']; done) | assumption) H uP sZ sZ ?_); clear H; intro w1 H; simp only [pS]) | (with_reducible refine (Stp.stl rfl size30 rfl rfl rfl rfl H uP (by simp) ?_); clear H; intro w1 H; simp only [pS]; simp only [List.drop_succ_cons, List.drop_zero, List.take_succ_cons, List.take_zero, List.nil_append, List.cons_append, Nat.reduceAdd] at H)) | (with_reducible refine wpl rfl (ldQ (ty := 22) rfl ?_); first | (with_reducible refine (Stp.ldo rfl agg22 rfl H (by assumption) (by assumption) ?_); simp only [pS]) | (with_reducible refine (Stp.ldc rfl agg22 rfl H mR cE ?_); simp only [pS])) | (with_reducible refine wpl rfl (dQ 3 rfl ?_); with_reducible refine (Stp.alloc 3 rfl rfl zero30 H ?_); clear H; intro g3 w1 H; simp only [pS]; simp only [nC] at H) | (with_reducible refine wpl rfl (stQ (ty := 22) rfl ?_); first | (with_reducible refine (Stp.stc rfl size22 rfl rfl rfl rfl H uP (by first | omega | (simp; done) | (simp; omega)) ?_); clear H; intro w1 H; simp only [pS]; simp only [pE, nC, pS] at H)) | (with_reducible refine wpl rfl (ldQ (ty := 30) rfl ?_); first | (with_reducible refine (Stp.ldor rfl agg30 size30 rfl H (by assumption) sZ (by assumption) ?_); simp only [pS]) | (with_reducible refine (Stp.ldr rfl agg30 size30 rfl H mR sZ ?_); simp only [pS]) | (with_reducible refine (Stp.ldl rfl agg30 size30 rfl H mR (by simp) ?_); simp only [pS]; simp only [List.drop_succ_cons, List.drop_zero, List.take_succ_cons, List.take_zero])))
    refine post_row rfl agg30 size30 rfl H mE rfl rfl ⟨_, rfl, rfl, s, hb, H.sub sU⟩
  obtain rfl : e = 0 := by omega
  have hei : (((0 : Nat) : Int) != 0) = false := by simp
  clear he
  have hb0 := hb
  obtain ⟨A, m, cc, rfl, hlm, hmc, hx, hm1, hrd⟩ := hb
  obtain ⟨i, c, k, f, hg⟩ : ∃ i c k f, getP l = (i, c, k, f) := ⟨_, _, _, _, rfl⟩
  have HG := Lib.hid hg
  have HX := Lib.hid hx
  have HL := Lib.hid hlm
  clear hx hlm
  by_cases hf : f ≠ 0
  · have hfi : ((f : Int) != 0) = true := by simp; omega
    rw [pidF_err hg hf]
    clear hf hg
    go_enter Try.func123, Try.ntmps123
    go_wp2_with (first | (go_at_call 140; (with_reducible refine (pget_ok A m cc l HL.out hmc (by have := HL.out; omega) HX.out _ (hrd.at H (by repeat (first | exact hML | apply List.Sublist.cons))) i c k f HG.out).mono ?_); rintro e w1 ⟨v, rfl, hr⟩; obtain ⟨rfl, hb1⟩ := hr; replace H := H.grow hb1; clear hb1) | (go_at_call 93; (with_reducible refine (rfail_ok g _ 0 f rfl _ (H.pull (r := row 144 g _) pU)).mono ?_); rintro e w1 ⟨v, rfl, hr⟩; obtain ⟨rfl, H2⟩ := hr; clear H; have H := H2; clear H2) | (with_reducible refine wpl rfl (dQ 2 rfl ?_); with_reducible refine (Stp.alloc 2 rfl rfl zero30 H ?_); clear H; intro g2 w1 H; simp only [pS]; simp only [nC] at H) | (with_reducible refine wpl rfl (ldQ (ty := 37) rfl ?_); first | (with_reducible refine (Stp.ldo rfl agg37 rfl H (by assumption) (by assumption) ?_); simp only [pS]) | (with_reducible refine (Stp.ldc rfl agg37 rfl H mR cE ?_); simp only [pS])) | (with_reducible refine wpl rfl (stQ (ty := 30) rfl ?_); first | (with_reducible refine (Stp.str rfl size30 rfl rfl (by first | rfl | (simp [Value.oneCell']; done) | assumption) H uP sZ sZ ?_); clear H; intro w1 H; simp only [pS]) | (with_reducible refine (Stp.stl rfl size30 rfl rfl rfl rfl H uP (by simp) ?_); clear H; intro w1 H; simp only [pS]; simp only [List.drop_succ_cons, List.drop_zero, List.take_succ_cons, List.take_zero, List.nil_append, List.cons_append, Nat.reduceAdd] at H)) | (with_reducible refine wpl rfl (ldQ (ty := 22) rfl ?_); first | (with_reducible refine (Stp.ldo rfl agg22 rfl H (by assumption) (by assumption) ?_); simp only [pS]) | (with_reducible refine (Stp.ldc rfl agg22 rfl H mR cE ?_); simp only [pS])) | (with_reducible refine wpl rfl (dQ 3 rfl ?_); with_reducible refine (Stp.alloc 3 rfl rfl zero30 H ?_); clear H; intro g3 w1 H; simp only [pS]; simp only [nC] at H) | (with_reducible refine wpl rfl (stQ (ty := 22) rfl ?_); first | (with_reducible refine (Stp.stc rfl size22 rfl rfl rfl rfl H uP (by first | omega | (simp; done) | (simp; omega)) ?_); clear H; intro w1 H; simp only [pS]; simp only [pE, nC, pS] at H)) | (with_reducible refine wpl rfl (ldQ (ty := 30) rfl ?_); first | (with_reducible refine (Stp.ldor rfl agg30 size30 rfl H (by assumption) sZ (by assumption) ?_); simp only [pS]) | (with_reducible refine (Stp.ldr rfl agg30 size30 rfl H mR sZ ?_); simp only [pS]) | (with_reducible refine (Stp.ldl rfl agg30 size30 rfl H mR (by simp) ?_); simp only [pS]; simp only [List.drop_succ_cons, List.drop_zero, List.take_succ_cons, List.take_zero])))
    refine post_row rfl agg30 size30 rfl H mE rfl rfl ⟨_, rfl, rfl, _, hb0, H.sub sU⟩
  · obtain rfl : f = 0 := by omega
    have hfi : (((0 : Nat) : Int) != 0) = false := by simp
    have hkm : k ≤ m := by have := (getP_le hg).1; have := HL.out; omega
    rw [pidF_ok hg]
    clear hf hg hb0
    go_enter Try.func123, Try.ntmps123
    go_wp2_with (first | (go_at_call 140; (with_reducible refine (pget_ok A m cc l HL.out hmc (by have := HL.out; omega) HX.out _ (hrd.at H (by repeat (first | exact hML | apply List.Sublist.cons))) i c k 0 HG.out).mono ?_); rintro e w1 ⟨v, rfl, hr⟩; obtain ⟨rfl, hb1⟩ := hr; replace H := H.grow hb1; clear hb1) | (with_reducible refine wpl rfl (dQ 33 rfl ?_); with_reducible refine (Stp.slfrom (k := k) 33 rfl rfl Try.underlying22 size5 rfl rfl (by omega) (by omega) ?_); intro A8 hA8; have H8 := Lib.hid hA8; clear hA8; simp only [pS]) | (with_reducible refine wpl rfl (dQ 2 rfl ?_); with_reducible refine (Stp.alloc 2 rfl rfl zero30 H ?_); clear H; intro g2 w1 H; simp only [pS]; simp only [nC] at H) | (with_reducible refine wpl rfl (ldQ (ty := 37) rfl ?_); first | (with_reducible refine (Stp.ldo rfl agg37 rfl H (by assumption) (by assumption) ?_); simp only [pS]) | (with_reducible refine (Stp.ldc rfl agg37 rfl H mR cE ?_); simp only [pS])) | (with_reducible refine wpl rfl (stQ (ty := 30) rfl ?_); first | (with_reducible refine (Stp.str rfl size30 rfl rfl (by first | rfl | (simp [Value.oneCell']; done) | assumption) H uP sZ sZ ?_); clear H; intro w1 H; simp only [pS]) | (with_reducible refine (Stp.stl rfl size30 rfl rfl rfl rfl H uP (by simp) ?_); clear H; intro w1 H; simp only [pS]; simp only [List.drop_succ_cons, List.drop_zero, List.take_succ_cons, List.take_zero, List.nil_append, List.cons_append, Nat.reduceAdd] at H)) | (with_reducible refine wpl rfl (ldQ (ty := 22) rfl ?_); first | (with_reducible refine (Stp.ldo rfl agg22 rfl H (by assumption) (by assumption) ?_); simp only [pS]) | (with_reducible refine (Stp.ldc rfl agg22 rfl H mR cE ?_); simp only [pS])) | (with_reducible refine wpl rfl (dQ 3 rfl ?_); with_reducible refine (Stp.alloc 3 rfl rfl zero30 H ?_); clear H; intro g3 w1 H; simp only [pS]; simp only [nC] at H) | (with_reducible refine wpl rfl (stQ (ty := 22) rfl ?_); first | (with_reducible refine (Stp.stc rfl size22 rfl rfl rfl rfl H uP (by first | omega | (simp; done) | (simp; omega)) ?_); clear H; intro w1 H; simp only [pS]; simp only [pE, nC, pS] at H)) | (with_reducible refine wpl rfl (ldQ (ty := 30) rfl ?_); first | (with_reducible refine (Stp.ldor rfl agg30 size30 rfl H (by assumption) sZ (by assumption) ?_); simp only [pS]) | (with_reducible refine (Stp.ldr rfl agg30 size30 rfl H mR sZ ?_); simp only [pS]) | (with_reducible refine (Stp.ldl rfl agg30 size30 rfl H mR (by simp) ?_); simp only [pS]; simp only [List.drop_succ_cons, List.drop_zero, List.take_succ_cons, List.take_zero])))
    refine post_row rfl agg30 size30 rfl H mE rfl rfl ⟨_, rfl, rfl, _, Byt.drop HL.out hmc HX.out hm1 hrd hkm H8.out rfl, H.sub sU⟩
theorem numcG_ok {B : Nat} {w0 : World} {L M : List Res} (g rb mb nb : Nat) (s : Value) (l : List Nat) (most : Nat) (x : Value) (hb : Byt B w0 L s l) (hML : L.Sublist M) (w : World)
    (H : St B w0 w (row 144 g #[s, .int .i64 ((0 : Nat) : Int)] :: row 121 rb #[.pointer (some ⟨g, 0, none⟩)] :: row 26 mb #[.int .u64 (most : Int)] :: row 26 nb #[x] :: M)) :
    Calls Try.prog 91 #[.pointer (some ⟨rb, 0, none⟩), .pointer (some ⟨mb, 0, none⟩), .pointer (some ⟨nb, 0, none⟩)] w (Ret fun v w' => v = .tuple #[] ∧ ∃ s' e', (numF most (l, 0)).2.2 = e' ∧ Byt B w0 L s' (numF most (l, 0)).2.1 ∧ St B w0 w' (row 144 g #[s', .int .i64 (e' : Int)] :: row 121 rb #[.pointer (some ⟨g, 0, none⟩)] :: row 26 mb #[.int .u64 (most : Int)] :: row 26 nb #[.int .u64 ((numF most (l, 0)).1 : Int)] :: M)) := by
  go_enter Try.func91, Try.ntmps91
  go_wp2_with (first | (with_reducible refine wpl rfl (ldQ (ty := 121) rfl ?_); first | (with_reducible refine (Stp.ldo rfl agg121 rfl H (by assumption) (by assumption) ?_); simp only [pS]) | (with_reducible refine (Stp.ldc rfl agg121 rfl H mR cE ?_); simp only [pS])) | (with_reducible refine wpl rfl (ldQ (ty := 26) rfl ?_); first | (with_reducible refine (Stp.ldo rfl agg26 rfl H (by assumption) (by assumption) ?_); simp only [pS]) | (with_reducible refine (Stp.ldc rfl agg26 rfl H mR cE ?_); simp only [pS])) | (with_reducible refine wpl rfl (stQ (ty := 26) rfl ?_); first | (with_reducible refine (Stp.stc rfl size26 rfl rfl rfl rfl H uP (by first | omega | (simp; done) | (simp; omega)) ?_); clear H; intro w1 H; simp only [pS]; simp only [pE, nC, pS] at H)))
  refine (numG_ok g s l 0 most hb (.cons _ (.cons _ (.cons _ hML))) _ H).mono ?_
  rintro e w1 ⟨v, rfl, rfl, s2, hb2, H2⟩
  clear H
  have H := H2
  clear H2
  obtain ⟨⟨n1, l1, e1⟩, hz⟩ : ∃ z, numF most (l, 0) = z := ⟨_, rfl⟩
  rw [hz] at H hb2
  have HZ := Lib.hid hz
  clear hz
  simp only at H hb2
  rw [HZ.out]
  go_wp2_with (first | (with_reducible refine wpl rfl (ldQ (ty := 121) rfl ?_); first | (with_reducible refine (Stp.ldo rfl agg121 rfl H (by assumption) (by assumption) ?_); simp only [pS]) | (with_reducible refine (Stp.ldc rfl agg121 rfl H mR cE ?_); simp only [pS])) | (with_reducible refine wpl rfl (ldQ (ty := 26) rfl ?_); first | (with_reducible refine (Stp.ldo rfl agg26 rfl H (by assumption) (by assumption) ?_); simp only [pS]) | (with_reducible refine (Stp.ldc rfl agg26 rfl H mR cE ?_); simp only [pS])) | (with_reducible refine wpl rfl (stQ (ty := 26) rfl ?_); first | (with_reducible refine (Stp.stc rfl size26 rfl rfl rfl rfl H uP (by first | omega | (simp; done) | (simp; omega)) ?_); clear H; intro w1 H; simp only [pS]; simp only [pE, nC, pS] at H)))
  go_end0
  exact ⟨_, rfl, rfl, s2, e1, by rw [HZ.out], by rw [HZ.out]; exact hb2, by rw [HZ.out]; exact H⟩
theorem pidcG_ok {B : Nat} {w0 : World} {L M : List Res} (g rb nb : Nat) (s : Value) (l : List Nat) (x y : Value) (hb : Byt B w0 L s l) (hML : L.Sublist M) (w : World)
    (H : St B w0 w (row 144 g #[s, .int .i64 ((0 : Nat) : Int)] :: row 121 rb #[.pointer (some ⟨g, 0, none⟩)] :: row 30 nb #[x, y] :: M)) :
    Calls Try.prog 122 #[.pointer (some ⟨rb, 0, none⟩), .pointer (some ⟨nb, 0, none⟩)] w (Ret fun v w' => v = .tuple #[] ∧ ∃ s' e', (pidF (l, 0)).2.2 = e' ∧ Byt B w0 L s' (pidF (l, 0)).2.1 ∧ St B w0 w' (row 144 g #[s', .int .i64 (e' : Int)] :: row 121 rb #[.pointer (some ⟨g, 0, none⟩)] :: row 30 nb #[.int .u16 ((pidF (l, 0)).1.1 : Int), .int .u32 ((pidF (l, 0)).1.2 : Int)] :: M)) := by
  go_enter Try.func122, Try.ntmps122
  go_wp2_with (first | (with_reducible refine wpl rfl (ldQ (ty := 121) rfl ?_); first | (with_reducible refine (Stp.ldo rfl agg121 rfl H (by assumption) (by assumption) ?_); simp only [pS]) | (with_reducible refine (Stp.ldc rfl agg121 rfl H mR cE ?_); simp only [pS])) | (with_reducible refine wpl rfl (stQ (ty := 30) rfl ?_); first | (with_reducible refine (Stp.str rfl size30 rfl rfl (by first | rfl | (simp [Value.oneCell']; done) | assumption) H uP sZ sZ ?_); clear H; intro w1 H; simp only [pS]) | (with_reducible refine (Stp.stl rfl size30 rfl rfl rfl rfl H uP (by simp) ?_); clear H; intro w1 H; simp only [pS]; simp only [List.drop_succ_cons, List.drop_zero, List.take_succ_cons, List.take_zero, List.nil_append, List.cons_append, Nat.reduceAdd] at H)))
  refine (rpidG_ok g s l 0 hb (.cons _ (.cons _ hML)) _ H).mono ?_
  rintro e w1 ⟨v, rfl, rfl, s2, hb2, H2⟩
  clear H
  have H := H2
  clear H2
  obtain ⟨⟨⟨i, c⟩, l1, e1⟩, hz⟩ : ∃ z, pidF (l, 0) = z := ⟨_, rfl⟩
  rw [hz] at H hb2
  have HZ := Lib.hid hz
  clear hz
  simp only at H hb2
  rw [HZ.out]
  go_wp2_with (first | (with_reducible refine wpl rfl (ldQ (ty := 121) rfl ?_); first | (with_reducible refine (Stp.ldo rfl agg121 rfl H (by assumption) (by assumption) ?_); simp only [pS]) | (with_reducible refine (Stp.ldc rfl agg121 rfl H mR cE ?_); simp only [pS])) | (with_reducible refine wpl rfl (stQ (ty := 30) rfl ?_); first | (with_reducible refine (Stp.str rfl size30 rfl rfl (by first | rfl | (simp [Value.oneCell']; done) | assumption) H uP sZ sZ ?_); clear H; intro w1 H; simp only [pS]) | (with_reducible refine (Stp.stl rfl size30 rfl rfl rfl rfl H uP (by simp) ?_); clear H; intro w1 H; simp only [pS]; simp only [List.drop_succ_cons, List.drop_zero, List.take_succ_cons, List.take_zero, List.nil_append, List.cons_append, Nat.reduceAdd] at H)))
  go_end0
  exact ⟨_, rfl, rfl, s2, e1, by rw [HZ.out], by rw [HZ.out]; exact hb2, by rw [HZ.out]; exact H⟩
theorem rev3G {B : Nat} {w0 w : World} {M : List Res} {a b c : Res} (H : St B w0 w (c :: b :: a :: M)) : St B w0 w (a :: b :: c :: M) :=
  H.perm ((List.Perm.swap b c _).trans (((List.Perm.swap a c _).cons b).trans (.swap a b _)))
theorem mNumG_ok {B : Nat} {w0 : World} {L M : List Res} (g : Nat) (s : Value) (l : List Nat) (e most : Nat) (hb : Byt B w0 L s l) (hML : L.Sublist M) (w : World) (H : St B w0 w (row 144 g #[s, .int .i64 (e : Int)] :: M)) :
    Calls Try.prog 67 #[.pointer (some ⟨g, 0, none⟩), .int .u64 (most : Int)] w (Ret fun v w' => v = .int .u64 ((numF most (l, e)).1 : Int) ∧ ∃ s', Byt B w0 L s' (numF most (l, e)).2.1 ∧ St B w0 w' (row 144 g #[s', .int .i64 ((numF most (l, e)).2.2 : Int)] :: M)) := by
  have hmf : ∀ (fn : Fn) (first cap : Array Value) (w : World), (Instr.makeFunc fn first cap).run Try.prog w = .ok (.func fn first cap) w := fun _ _ _ _ => rfl
  by_cases he : e ≠ 0
  · have HE := Lib.hid he
    rw [numF_bad he]
    clear he
    go_enter Try.func67, Try.ntmps67
    go_wp2_with (first | (go_at_call 90; (with_reducible refine (wholeGNum_bad g e _ _ HE.out _ (H.getHeap mE)).mono ?_); rintro e w1 ⟨v, rfl, hr⟩; obtain ⟨rfl, hb1⟩ := hr; replace H := H.grow hb1; clear hb1) | (with_reducible refine wpl rfl (dQ 2 rfl ?_); with_reducible refine (Stp.box 2 rfl rfl rfl H ?_); clear H; intro g2 w1 H; simp only [pS]; simp only [pE, nC, pS] at H) | (with_reducible refine wpl rfl (dQ 3 rfl ?_); with_reducible refine (Stp.box 3 rfl rfl rfl H ?_); clear H; intro g3 w1 H; simp only [pS]; simp only [pE, nC, pS] at H) | (with_reducible refine wpl rfl (dQ 5 rfl ?_); with_reducible refine (Stp.alloc 5 rfl rfl zero26 H ?_); clear H; intro g5 w1 H; simp only [pS]; simp only [nC] at H) | (with_reducible refine wpl rfl (stQ (ty := 26) rfl ?_); first | (with_reducible refine (Stp.stc rfl size26 rfl rfl rfl rfl H uP (by first | omega | (simp; done) | (simp; omega)) ?_); clear H; intro w1 H; simp only [pS]; simp only [pE, nC, pS] at H)) | (with_reducible refine wpl rfl (ldQ (ty := 121) rfl ?_); first | (with_reducible refine (Stp.ldo rfl agg121 rfl H (by assumption) (by assumption) ?_); simp only [pS]) | (with_reducible refine (Stp.ldc rfl agg121 rfl H mR cE ?_); simp only [pS])) | (with_reducible refine wpl rfl (ldQ (ty := 26) rfl ?_); first | (with_reducible refine (Stp.ldo rfl agg26 rfl H (by assumption) (by assumption) ?_); simp only [pS]) | (with_reducible refine (Stp.ldc rfl agg26 rfl H mR cE ?_); simp only [pS])))
    go_ret
    exact ⟨_, rfl, rfl, s, hb, H.sub sU⟩
  obtain rfl : e = 0 := by omega
  obtain ⟨A, m9, c9, rfl, e1, e2, e3, e4, e5⟩ := hb
  have HB : Hid (Byt B w0 L (.slice A m9 c9) l) := Lib.hid ⟨A, m9, c9, rfl, e1, e2, e3, e4, e5⟩
  clear e1 e2 e3 e4 e5 he
  go_enter Try.func67, Try.ntmps67
  go_wp2_with (first | (with_reducible refine wpl rfl (dQ 2 rfl ?_); with_reducible refine (Stp.box 2 rfl rfl rfl H ?_); clear H; intro g2 w1 H; simp only [pS]; simp only [pE, nC, pS] at H) | (with_reducible refine wpl rfl (dQ 3 rfl ?_); with_reducible refine (Stp.box 3 rfl rfl rfl H ?_); clear H; intro g3 w1 H; simp only [pS]; simp only [pE, nC, pS] at H) | (with_reducible refine wpl rfl (dQ 5 rfl ?_); with_reducible refine (Stp.alloc 5 rfl rfl zero26 H ?_); clear H; intro g5 w1 H; simp only [pS]; simp only [nC] at H) | (with_reducible refine wpl rfl (stQ (ty := 26) rfl ?_); first | (with_reducible refine (Stp.stc rfl size26 rfl rfl rfl rfl H uP (by first | omega | (simp; done) | (simp; omega)) ?_); clear H; intro w1 H; simp only [pS]; simp only [pE, nC, pS] at H)) | (with_reducible refine wpl rfl (ldQ (ty := 121) rfl ?_); first | (with_reducible refine (Stp.ldo rfl agg121 rfl H (by assumption) (by assumption) ?_); simp only [pS]) | (with_reducible refine (Stp.ldc rfl agg121 rfl H mR cE ?_); simp only [pS])) | (with_reducible refine wpl rfl (ldQ (ty := 26) rfl ?_); first | (with_reducible refine (Stp.ldo rfl agg26 rfl H (by assumption) (by assumption) ?_); simp only [pS]) | (with_reducible refine (Stp.ldc rfl agg26 rfl H mR cE ?_); simp only [pS])))
  refine (wholeGNum_ok g A m9 c9 #[.pointer (some ⟨g2, 0, none⟩), .pointer (some ⟨g3, 0, none⟩), .pointer (some ⟨g5, 0, none⟩)] (fun s' e' Z => (numF most (l, 0)).2.2 = e' ∧ Byt B w0 L s' (numF most (l, 0)).2.1 ∧ Z = row 121 g2 #[.pointer (some ⟨g, 0, none⟩)] :: row 26 g3 #[.int .u64 (most : Int)] :: row 26 g5 #[.int .u64 ((numF most (l, 0)).1 : Int)] :: M) (fun M' w1 H1 => ?_) _ (rev4G H)).mono ?_
  · refine (numcG_ok g g2 g3 g5 _ l most _ HB.out (hML.trans (List.sublist_append_left M M')) w1 H1).mono ?_
    rintro e w2 ⟨v, rfl, rfl, s2, e', h1, h2, H2⟩
    exact ⟨_, rfl, rfl, s2, e', _, ⟨h1, h2, rfl⟩, H2⟩
  rintro e w1 ⟨v, rfl, rfl, s3, e', Z, ⟨h1, h2, rfl⟩, hor⟩
  clear H
  have HE := Lib.hid h1
  have hk := numF_keep (most := most) (l := l)
  obtain ⟨⟨n1, l1, e1⟩, hz⟩ : ∃ z, numF most (l, 0) = z := ⟨_, rfl⟩
  have HZ := Lib.hid hz
  rw [hz] at h1 h2 hor hk
  simp only at h1 h2 hor hk
  subst h1
  clear hz HE
  rcases hor with ⟨rfl, H⟩ | ⟨he, H⟩
  · clear hk
    go_wp2_with (first | (with_reducible refine wpl rfl (dQ 2 rfl ?_); with_reducible refine (Stp.box 2 rfl rfl rfl H ?_); clear H; intro g2 w1 H; simp only [pS]; simp only [pE, nC, pS] at H) | (with_reducible refine wpl rfl (dQ 3 rfl ?_); with_reducible refine (Stp.box 3 rfl rfl rfl H ?_); clear H; intro g3 w1 H; simp only [pS]; simp only [pE, nC, pS] at H) | (with_reducible refine wpl rfl (dQ 5 rfl ?_); with_reducible refine (Stp.alloc 5 rfl rfl zero26 H ?_); clear H; intro g5 w1 H; simp only [pS]; simp only [nC] at H) | (with_reducible refine wpl rfl (stQ (ty := 26) rfl ?_); first | (with_reducible refine (Stp.stc rfl size26 rfl rfl rfl rfl H uP (by first | omega | (simp; done) | (simp; omega)) ?_); clear H; intro w1 H; simp only [pS]; simp only [pE, nC, pS] at H)) | (with_reducible refine wpl rfl (ldQ (ty := 121) rfl ?_); first | (with_reducible refine (Stp.ldo rfl agg121 rfl H (by assumption) (by assumption) ?_); simp only [pS]) | (with_reducible refine (Stp.ldc rfl agg121 rfl H mR cE ?_); simp only [pS])) | (with_reducible refine wpl rfl (ldQ (ty := 26) rfl ?_); first | (with_reducible refine (Stp.ldo rfl agg26 rfl H (by assumption) (by assumption) ?_); simp only [pS]) | (with_reducible refine (Stp.ldc rfl agg26 rfl H mR cE ?_); simp only [pS])))
    go_ret
    exact ⟨_, rfl, by rw [HZ.out]; rfl, s3, by rw [HZ.out]; exact h2, by rw [HZ.out]; exact H.sub sU⟩
  · obtain rfl := hk he
    clear hk he h2
    go_wp2_with (first | (with_reducible refine wpl rfl (dQ 2 rfl ?_); with_reducible refine (Stp.box 2 rfl rfl rfl H ?_); clear H; intro g2 w1 H; simp only [pS]; simp only [pE, nC, pS] at H) | (with_reducible refine wpl rfl (dQ 3 rfl ?_); with_reducible refine (Stp.box 3 rfl rfl rfl H ?_); clear H; intro g3 w1 H; simp only [pS]; simp only [pE, nC, pS] at H) | (with_reducible refine wpl rfl (dQ 5 rfl ?_); with_reducible refine (Stp.alloc 5 rfl rfl zero26 H ?_); clear H; intro g5 w1 H; simp only [pS]; simp only [nC] at H) | (with_reducible refine wpl rfl (stQ (ty := 26) rfl ?_); first | (with_reducible refine (Stp.stc rfl size26 rfl rfl rfl rfl H uP (by first | omega | (simp; done) | (simp; omega)) ?_); clear H; intro w1 H; simp only [pS]; simp only [pE, nC, pS] at H)) | (with_reducible refine wpl rfl (ldQ (ty := 121) rfl ?_); first | (with_reducible refine (Stp.ldo rfl agg121 rfl H (by assumption) (by assumption) ?_); simp only [pS]) | (with_reducible refine (Stp.ldc rfl agg121 rfl H mR cE ?_); simp only [pS])) | (with_reducible refine wpl rfl (ldQ (ty := 26) rfl ?_); first | (with_reducible refine (Stp.ldo rfl agg26 rfl H (by assumption) (by assumption) ?_); simp only [pS]) | (with_reducible refine (Stp.ldc rfl agg26 rfl H mR cE ?_); simp only [pS])))
    go_ret
    exact ⟨_, rfl, by rw [HZ.out]; rfl, _, by rw [HZ.out]; exact HB.out, by rw [HZ.out]; exact H.sub sU⟩
theorem mPidG_ok {B : Nat} {w0 : World} {L M : List Res} (g : Nat) (s : Value) (l : List Nat) (e : Nat) (hb : Byt B w0 L s l) (hML : L.Sublist M) (w : World) (H : St B w0 w (row 144 g #[s, .int .i64 (e : Int)] :: M)) :
    Calls Try.prog 94 #[.pointer (some ⟨g, 0, none⟩)] w (Ret fun v w' => v = .agg #[.int .u16 ((pidF (l, e)).1.1 : Int), .int .u32 ((pidF (l, e)).1.2 : Int)] ∧ ∃ s', Byt B w0 L s' (pidF (l, e)).2.1 ∧ St B w0 w' (row 144 g #[s', .int .i64 ((pidF (l, e)).2.2 : Int)] :: M)) := by
  have hmf : ∀ (fn : Fn) (first cap : Array Value) (w : World), (Instr.makeFunc fn first cap).run Try.prog w = .ok (.func fn first cap) w := fun _ _ _ _ => rfl
  by_cases he : e ≠ 0
  · have HE := Lib.hid he
    rw [pidF_bad he]
    clear he
    go_enter Try.func94, Try.ntmps94
    go_wp2_with (first | (go_at_call 90; (with_reducible refine (wholeGPid_bad g e _ _ HE.out _ (H.getHeap mE)).mono ?_); rintro e w1 ⟨v, rfl, hr⟩; obtain ⟨rfl, hb1⟩ := hr; replace H := H.grow hb1; clear hb1) | (with_reducible refine wpl rfl (dQ 1 rfl ?_); with_reducible refine (Stp.box 1 rfl rfl rfl H ?_); clear H; intro g1 w1 H; simp only [pS]; simp only [pE, nC, pS] at H) | (with_reducible refine wpl rfl (dQ 2 rfl ?_); with_reducible refine (Stp.alloc 2 rfl rfl zero30 H ?_); clear H; intro g2 w1 H; simp only [pS]; simp only [nC] at H) | (with_reducible refine wpl rfl (ldQ (ty := 121) rfl ?_); first | (with_reducible refine (Stp.ldo rfl agg121 rfl H (by assumption) (by assumption) ?_); simp only [pS]) | (with_reducible refine (Stp.ldc rfl agg121 rfl H mR cE ?_); simp only [pS])) | (with_reducible refine wpl rfl (ldQ (ty := 30) rfl ?_); first | (with_reducible refine (Stp.ldor rfl agg30 size30 rfl H (by assumption) sZ (by assumption) ?_); simp only [pS]) | (with_reducible refine (Stp.ldr rfl agg30 size30 rfl H mR sZ ?_); simp only [pS]) | (with_reducible refine (Stp.ldl rfl agg30 size30 rfl H mR (by simp) ?_); simp only [pS]; simp only [List.drop_succ_cons, List.drop_zero, List.take_succ_cons, List.take_zero])) | (with_reducible refine wpl rfl (stQ (ty := 30) rfl ?_); first | (with_reducible refine (Stp.str rfl size30 rfl rfl (by first | rfl | (simp [Value.oneCell']; done) | assumption) H uP sZ sZ ?_); clear H; intro w1 H; simp only [pS]) | (with_reducible refine (Stp.stl rfl size30 rfl rfl rfl rfl H uP (by simp) ?_); clear H; intro w1 H; simp only [pS]; simp only [List.drop_succ_cons, List.drop_zero, List.take_succ_cons, List.take_zero, List.nil_append, List.cons_append, Nat.reduceAdd] at H)))
    exact post_row rfl agg30 size30 rfl H mE rfl rfl ⟨_, rfl, rfl, s, hb, H.sub sU⟩
  obtain rfl : e = 0 := by omega
  obtain ⟨A, m9, c9, rfl, e1, e2, e3, e4, e5⟩ := hb
  have HB : Hid (Byt B w0 L (.slice A m9 c9) l) := Lib.hid ⟨A, m9, c9, rfl, e1, e2, e3, e4, e5⟩
  clear e1 e2 e3 e4 e5 he
  go_enter Try.func94, Try.ntmps94
  go_wp2_with (first | (with_reducible refine wpl rfl (dQ 1 rfl ?_); with_reducible refine (Stp.box 1 rfl rfl rfl H ?_); clear H; intro g1 w1 H; simp only [pS]; simp only [pE, nC, pS] at H) | (with_reducible refine wpl rfl (dQ 2 rfl ?_); with_reducible refine (Stp.alloc 2 rfl rfl zero30 H ?_); clear H; intro g2 w1 H; simp only [pS]; simp only [nC] at H) | (with_reducible refine wpl rfl (ldQ (ty := 121) rfl ?_); first | (with_reducible refine (Stp.ldo rfl agg121 rfl H (by assumption) (by assumption) ?_); simp only [pS]) | (with_reducible refine (Stp.ldc rfl agg121 rfl H mR cE ?_); simp only [pS])) | (with_reducible refine wpl rfl (ldQ (ty := 30) rfl ?_); first | (with_reducible refine (Stp.ldor rfl agg30 size30 rfl H (by assumption) sZ (by assumption) ?_); simp only [pS]) | (with_reducible refine (Stp.ldr rfl agg30 size30 rfl H mR sZ ?_); simp only [pS]) | (with_reducible refine (Stp.ldl rfl agg30 size30 rfl H mR (by simp) ?_); simp only [pS]; simp only [List.drop_succ_cons, List.drop_zero, List.take_succ_cons, List.take_zero])) | (with_reducible refine wpl rfl (stQ (ty := 30) rfl ?_); first | (with_reducible refine (Stp.str rfl size30 rfl rfl (by first | rfl | (simp [Value.oneCell']; done) | assumption) H uP sZ sZ ?_); clear H; intro w1 H; simp only [pS]) | (with_reducible refine (Stp.stl rfl size30 rfl rfl rfl rfl H uP (by simp) ?_); clear H; intro w1 H; simp only [pS]; simp only [List.drop_succ_cons, List.drop_zero, List.take_succ_cons, List.take_zero, List.nil_append, List.cons_append, Nat.reduceAdd] at H)))
  refine (wholeGPid_ok g A m9 c9 #[.pointer (some ⟨g1, 0, none⟩), .pointer (some ⟨g2, 0, none⟩)] (fun s' e' Z => (pidF (l, 0)).2.2 = e' ∧ Byt B w0 L s' (pidF (l, 0)).2.1 ∧ Z = row 121 g1 #[.pointer (some ⟨g, 0, none⟩)] :: row 30 g2 #[.int .u16 ((pidF (l, 0)).1.1 : Int), .int .u32 ((pidF (l, 0)).1.2 : Int)] :: M) (fun M' w1 H1 => ?_) _ (rev3G H)).mono ?_
  · refine (pidcG_ok g g1 g2 _ l _ _ HB.out (hML.trans (List.sublist_append_left M M')) w1 H1).mono ?_
    rintro e w2 ⟨v, rfl, rfl, s2, e', h1, h2, H2⟩
    exact ⟨_, rfl, rfl, s2, e', _, ⟨h1, h2, rfl⟩, H2⟩
  rintro e w1 ⟨v, rfl, rfl, s3, e', Z, ⟨h1, h2, rfl⟩, hor⟩
  clear H
  have hk := pidF_keep (l := l)
  obtain ⟨⟨⟨i, c⟩, l1, e1⟩, hz⟩ : ∃ z, pidF (l, 0) = z := ⟨_, rfl⟩
  have HZ := Lib.hid hz
  rw [hz] at h1 h2 hor hk
  simp only at h1 h2 hor hk
  subst h1
  clear hz
  rcases hor with ⟨rfl, H⟩ | ⟨he, H⟩
  · clear hk
    go_wp2_with (first | (with_reducible refine wpl rfl (dQ 1 rfl ?_); with_reducible refine (Stp.box 1 rfl rfl rfl H ?_); clear H; intro g1 w1 H; simp only [pS]; simp only [pE, nC, pS] at H) | (with_reducible refine wpl rfl (dQ 2 rfl ?_); with_reducible refine (Stp.alloc 2 rfl rfl zero30 H ?_); clear H; intro g2 w1 H; simp only [pS]; simp only [nC] at H) | (with_reducible refine wpl rfl (ldQ (ty := 121) rfl ?_); first | (with_reducible refine (Stp.ldo rfl agg121 rfl H (by assumption) (by assumption) ?_); simp only [pS]) | (with_reducible refine (Stp.ldc rfl agg121 rfl H mR cE ?_); simp only [pS])) | (with_reducible refine wpl rfl (ldQ (ty := 30) rfl ?_); first | (with_reducible refine (Stp.ldor rfl agg30 size30 rfl H (by assumption) sZ (by assumption) ?_); simp only [pS]) | (with_reducible refine (Stp.ldr rfl agg30 size30 rfl H mR sZ ?_); simp only [pS]) | (with_reducible refine (Stp.ldl rfl agg30 size30 rfl H mR (by simp) ?_); simp only [pS]; simp only [List.drop_succ_cons, List.drop_zero, List.take_succ_cons, List.take_zero])) | (with_reducible refine wpl rfl (stQ (ty := 30) rfl ?_); first | (with_reducible refine (Stp.str rfl size30 rfl rfl (by first | rfl | (simp [Value.oneCell']; done) | assumption) H uP sZ sZ ?_); clear H; intro w1 H; simp only [pS]) | (with_reducible refine (Stp.stl rfl size30 rfl rfl rfl rfl H uP (by simp) ?_); clear H; intro w1 H; simp only [pS]; simp only [List.drop_succ_cons, List.drop_zero, List.take_succ_cons, List.take_zero, List.nil_append, List.cons_append, Nat.reduceAdd] at H)))
    exact post_row rfl agg30 size30 rfl H mE rfl rfl ⟨_, rfl, by rw [HZ.out], s3, by rw [HZ.out]; exact h2, by rw [HZ.out]; exact H.sub sU⟩
  · obtain rfl := hk he
    clear hk he h2
    go_wp2_with (first | (with_reducible refine wpl rfl (dQ 1 rfl ?_); with_reducible refine (Stp.box 1 rfl rfl rfl H ?_); clear H; intro g1 w1 H; simp only [pS]; simp only [pE, nC, pS] at H) | (with_reducible refine wpl rfl (dQ 2 rfl ?_); with_reducible refine (Stp.alloc 2 rfl rfl zero30 H ?_); clear H; intro g2 w1 H; simp only [pS]; simp only [nC] at H) | (with_reducible refine wpl rfl (ldQ (ty := 121) rfl ?_); first | (with_reducible refine (Stp.ldo rfl agg121 rfl H (by assumption) (by assumption) ?_); simp only [pS]) | (with_reducible refine (Stp.ldc rfl agg121 rfl H mR cE ?_); simp only [pS])) | (with_reducible refine wpl rfl (ldQ (ty := 30) rfl ?_); first | (with_reducible refine (Stp.ldor rfl agg30 size30 rfl H (by assumption) sZ (by assumption) ?_); simp only [pS]) | (with_reducible refine (Stp.ldr rfl agg30 size30 rfl H mR sZ ?_); simp only [pS]) | (with_reducible refine (Stp.ldl rfl agg30 size30 rfl H mR (by simp) ?_); simp only [pS]; simp only [List.drop_succ_cons, List.drop_zero, List.take_succ_cons, List.take_zero])) | (with_reducible refine wpl rfl (stQ (ty := 30) rfl ?_); first | (with_reducible refine (Stp.str rfl size30 rfl rfl (by first | rfl | (simp [Value.oneCell']; done) | assumption) H uP sZ sZ ?_); clear H; intro w1 H; simp only [pS]) | (with_reducible refine (Stp.stl rfl size30 rfl rfl rfl rfl H uP (by simp) ?_); clear H; intro w1 H; simp only [pS]; simp only [List.drop_succ_cons, List.drop_zero, List.take_succ_cons, List.take_zero, List.nil_append, List.cons_append, Nat.reduceAdd] at H)))
    exact post_row rfl agg30 size30 rfl H mE rfl rfl ⟨_, rfl, by rw [HZ.out], _, by rw [HZ.out]; exact HB.out, by rw [HZ.out]; exact H.sub sU⟩
end Go.Proofs.Ytmokecicjmjkbaa
