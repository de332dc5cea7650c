/- Layer 7's Writer (body): Pid and Pids; its reference's Pids (choragusref07); the bounds stand in each. How long what is laid is; no condition. Layer 8's Put (view) into a Writer: the ranks of some; the bounds stand in it. The contract of layer 8's Put (view) into a Writer, of a view that may be; the bounds stand in it. The contract of layer 9's Put (cmd) into a Writer, of a command that may be; the bounds stand in it. -/
import Derived.Test.YtmokecicjmjkbaaGy6
import Derived.Test.YtmokecicjmjkbaaGy13
import Derived.Test.YtmokecicjmjkbaaGy16
import Derived.Test.YtmokecicjmjkbaaGy22
namespace Go.Proofs.Ytmokecicjmjkbaa
open Go.ChangeShapes Go.WideShapes Go.ChangeAt Go.RowKit
set_option linter.unusedVariables false
set_option linter.unusedSimpArgs false
theorem pidsB_snoc (ps : List (Nat × Nat)) (k : Nat) (h : k < ps.length) : pidsB (ps.take (k + 1)) = pidsB (ps.take k) ++ pidB (ps.getD k (0, 0)).1 (ps.getD k (0, 0)).2 := by
  unfold pidsB
  rw [List.take_succ_eq_append_getElem h, List.flatMap_append]
  simp [List.getD, h]
theorem pidsB_len (ps : List (Nat × Nat)) : (pidsB ps).length ≤ 20 * ps.length := by
  unfold pidsB
  induction ps with
  | nil => simp
  | cons p ps ih =>
    have := pidB_len p.1 p.2
    simp only [List.flatMap_cons, List.length_append, List.length_cons]
    omega
set_option maxRecDepth 100000 in
set_option maxRecDepth 100000 in
theorem wpid_ok {B : Nat} {w0 : World} {L : List Res} (g : Nat) (l m : List Nat) (i c : Nat) (hl : l.length ≤ 700000) (hi : i < 65536) (hc : c < 4294967296) (hm : l ++ pidB i c = m) (w : World) (H : WSt B w0 w g l L) :
    Calls Try.prog 102 #[.pointer (some ⟨g, 0, none⟩), .agg #[.int .u16 (i : Int), .int .u32 (c : Int)]] w (Ret fun v w' => v = .tuple #[] ∧ WSt B w0 w' g m L) := by
  obtain ⟨a, cc, H⟩ := H
  have HM := Lib.hid hm
  clear hm
  go_enter Try.func102, Try.ntmps102
  go_wp2_with (first | (with_reducible refine wpl rfl (dQ 3 rfl ?_); with_reducible refine (Stp.box 3 rfl rfl rfl H ?_); clear H; intro g3 w1 H; simp only [pS]; simp only [pE, nC, pS] at H))
  refine rk_begin 9 10 (fun W => St B w0 W [row 30 g3 #[.int .u16 (i : Int), .int .u32 (c : Int)], row 133 g #[.slice a l.length cc], slc 5 1 (.slice a l.length cc) l.length (bv l)]) rfl (by kernel_rfl) ?_
  replace H := H.drew
  have HS := H
  refine rk_free (i := 0) rfl kR kR kR kR (Yld.move rfl rfl) (fun _ => (H.sub sU)) ?_; simp only [pS, pE]
  refine rk_free (i := 1) rfl kR kR kR kR (Yld.move rfl rfl) (fun _ => (H.sub sU)) ?_; simp only [pS, pE]
  refine rk_free (i := 2) rfl kR kR kR kR (Yld.o rfl) (fun _ => (H.sub sU)) ?_; simp only [pS]
  refine rk_free (i := 3) rfl kR kR kR kR (Yld.o rfl) (fun _ => (H.sub sU)) ?_; simp only [pS]
  first | (refine rk_take (i := 4) rfl kR kR kR kR kR kR (Yld.ldc rfl rfl agg22 rfl mR cE) (H.sub sU) ?_; simp only [pS]) | (refine rk_take (i := 4) rfl kR kR kR kR kR kR (Yld.ldo rfl rfl agg22 rfl (by assumption) (by assumption)) (H.sub sU) ?_; simp only [pS])
  first | (refine rk_take (i := 5) rfl kR kR kR kR kR kR (Yld.ldr rfl rfl agg30 size30 rfl mR sZ) (H.sub sU) ?_; simp only [pS]) | (refine rk_take (i := 5) rfl kR kR kR kR kR kR (Yld.ldl rfl rfl agg30 size30 rfl mR (by simp)) (H.sub sU) ?_; simp only [pS]; simp only [List.drop_succ_cons, List.drop_zero, List.take_succ_cons, List.take_zero]) | (refine rk_take (i := 5) rfl kR kR kR kR kR kR (Yld.ldor rfl rfl agg30 size30 rfl (by assumption) sZ (by assumption)) (H.sub sU) ?_; simp only [pS])
  refine rk_one (i := 6) (by kernel_rfl) rfl rfl (fun K hK => ?_)
  refine wp_callf rfl ent131 (pput_as _ l m (by omega) i c hi hc HM.out _ (own_sla (H.getSlc (xs := bv l) mE) (by omega))) rfl (fun v w1 hr => ?_)
  obtain ⟨⟨am, cm, rfl⟩, ho, hb1⟩ := hr
  replace H := H.new hb1 (slc_sound ho) (fun g hg => (ho.lt g hg).1)
  clear hb1 ho
  clear HS
  have HS := H
  refine hK.out _ _ (fun _ => (H.sub sU)) ?_
  clear hK K
  simp only [pS]
  refine rk_free (i := 7) rfl kR kR kR kR (Yld.o rfl) (fun _ => (H.sub sU)) ?_; simp only [pS]
  refine rk_free (i := 8) rfl kR kR kR kR (Yld.o rfl) (fun _ => (H.sub sU)) ?_; simp only [pS]
  refine rk_one (i := 9) (by kernel_rfl) rfl rfl (fun K hK => ?_)
  refine Stp.wp (Stp.stc rfl size22 rfl rfl rfl rfl H uP (by simp) ?_)
  clear H
  intro w1 H
  simp only [pE, nC, pS] at H
  clear HS
  have HS := H
  refine hK.out _ _ (fun h => by cases (show true = false from h)) ?_
  clear hK K
  simp only [pS]
  refine rk_done (by kernel_rfl) ?_
  go_end0
  exact ⟨_, rfl, rfl, WSt.of H pU pU sU⟩
set_option maxRecDepth 100000 in
set_option maxHeartbeats 1000000 in
theorem wpids_ok {B : Nat} {w0 : World} {L : List Res} (g : Nat) (l m : List Nat) (ps : List (Nat × Nat)) (v : Value) (hp : okPids ps) (hpl : ps.length ≤ 1000) (hl : l.length ≤ 500000) (hm : l ++ (shortB ps.length ++ pidsB ps) = m) (w : World) (H : WSt B w0 w g l L) (hs : Rd B w0 L fun W => Sl W 2 ps.length v (elQ ps)) :
    Calls Try.prog 133 #[.pointer (some ⟨g, 0, none⟩), v] w (Ret fun v w' => v = .tuple #[] ∧ WSt B w0 w' g m L) := by
  obtain ⟨a, cc, H⟩ := H
  obtain ⟨ab, cb, e0, hm9, _⟩ := hs.at H (.cons _ (.cons _ (.refl _)))
  subst e0
  unfold maxLen at hm9
  have w1r : IntKind.u64.wrap (ps.length : Int) = (ps.length : Int) := wrap_u64_in _ (by omega) (by omega)
  obtain ⟨q, hq⟩ : ∃ q, l ++ shortB ps.length = q := ⟨_, rfl⟩
  have ql : q.length ≤ 500010 := by rw [← hq, List.length_append]; have := shortB_len ps.length; omega
  have HQ := Lib.hid hq
  have HM2 : Hid (q ++ pidsB ps = m) := Lib.hid (by rw [← hq, ← hm, List.append_assoc])
  have HP := Lib.hid hp
  clear hq hm hp
  go_enter Try.func133, Try.ntmps133
  go_wp2_with (first | (go_at_call 75; (with_reducible refine (wnum_ok g l q ps.length (by omega) (by omega) HQ.out _ (WSt.of H pU pU (List.Sublist.refl _))).mono ?_); rintro e w1 ⟨v, rfl, hr⟩; obtain ⟨rfl, a1, c1, H1⟩ := hr; clear H; have H := H1; clear H1) | (with_reducible refine wpl rfl (ldQ (ty := 30) rfl ?_); first | (with_reducible refine (Stp.ldor rfl agg30 size30 rfl H (by assumption) sZ (by assumption) ?_); simp only [pS]) | (with_reducible refine (Stp.ldr rfl agg30 size30 rfl H mR sZ ?_); simp only [pS]) | (with_reducible refine (Stp.ldl rfl agg30 size30 rfl H mR (by simp) ?_); simp only [pS]; simp only [List.drop_succ_cons, List.drop_zero, List.take_succ_cons, List.take_zero])) | (with_reducible refine wpl rfl (dQ 5 rfl ?_); with_reducible refine (Stp.alloc 5 rfl rfl zero30 H ?_); clear H; intro g5 w1 H; simp only [pS]; simp only [nC] at H) | (with_reducible refine wpl rfl (stQ (ty := 30) rfl ?_); first | (with_reducible refine (Stp.str rfl size30 rfl rfl (by first | rfl | (simp [Value.oneCell']; done) | assumption) H uP sZ sZ ?_); clear H; intro w1 H; simp only [pS]) | (with_reducible refine (Stp.stl rfl size30 rfl rfl rfl rfl H uP (by simp) ?_); clear H; intro w1 H; simp only [pS]; simp only [List.drop_succ_cons, List.drop_zero, List.take_succ_cons, List.take_zero, List.nil_append, List.cons_append, Nat.reduceAdd] at H)))
  clear HQ
  go_loopw [13] (fun i wr => ∃ (k : Nat) (a : Option Addr) (c : Nat) (r : List Nat), k ≤ ps.length ∧ i = .int .i64 (k : Int) ∧ Hid (q ++ pidsB (ps.take k) = r) ∧ St B w0 wr (row 133 g #[.slice a r.length c] :: slc 5 1 (.slice a r.length c) r.length (bv r) :: L)) (fun i _ => ps.length - (intOf i).toNat)
  case atStart => exact ⟨0, _, _, q, Nat.zero_le _, rfl, Lib.hid (by simp [pidsB]), H⟩
  case round =>
    clear H
    obtain ⟨k, a2, c2, r, hk, rfl, HR, H⟩ := hrel
    by_cases hlt : k < ps.length
    · obtain ⟨b, off, rfl, hbb⟩ := (hs.at H (.cons _ (.cons _ (.refl _)))).addr (by omega)
      obtain ⟨p1, p2⟩ := okPids_at HP.out k hlt
      have hsn := pidsB_snoc ps k hlt
      obtain ⟨x, hx⟩ : ∃ x, (ps.getD k (0, 0)).1 = x := ⟨_, rfl⟩
      obtain ⟨y, hy⟩ : ∃ y, (ps.getD k (0, 0)).2 = y := ⟨_, rfl⟩
      have he : elQ ps k = #[.int .u16 (x : Int), .int .u32 (y : Int)] := by unfold elQ; rw [hx, hy]
      rw [hx, hy] at hsn
      rw [hx] at p1
      rw [hy] at p2
      obtain ⟨r2, hr2⟩ : ∃ r2, r ++ pidB x y = r2 := ⟨_, rfl⟩
      have HR2 := Lib.hid hr2
      have HR3 : Hid (q ++ pidsB (ps.take (k + 1)) = r2) := Lib.hid (by rw [hsn, ← List.append_assoc, HR.out, hr2])
      have rl : r.length ≤ 600000 := by
        rw [← HR.out, List.length_append]
        have := pidsB_len (ps.take k)
        rw [List.length_take] at this
        omega
      have HEL := Lib.hid he
      have kli : (k : Int) < (ps.length : Int) := by omega
      clear hsn hx hy hr2 he
      go_wp2_with (first | (with_reducible refine wpl rfl (Stp.ldq (cs := #[.int .u16 (x : Int), .int .u32 (y : Int)]) rfl agg30 size30 rfl (by rw [← HEL.out]; exact (hs.at H sU).cell hlt) rfl ?_); simp only [pS]) | (go_at_call 102; (with_reducible refine (wpid_ok g r r2 x y (by omega) p1 p2 HR2.out _ (WSt.of H pU pU (List.Sublist.refl _))).mono ?_); rintro e w1 ⟨v, rfl, hr⟩; obtain ⟨rfl, a1, c1, H1⟩ := hr; clear H; have H := H1; clear H1) | (with_reducible refine wpl rfl (ldQ (ty := 30) rfl ?_); first | (with_reducible refine (Stp.ldor rfl agg30 size30 rfl H (by assumption) sZ (by assumption) ?_); simp only [pS]) | (with_reducible refine (Stp.ldr rfl agg30 size30 rfl H mR sZ ?_); simp only [pS]) | (with_reducible refine (Stp.ldl rfl agg30 size30 rfl H mR (by simp) ?_); simp only [pS]; simp only [List.drop_succ_cons, List.drop_zero, List.take_succ_cons, List.take_zero])) | (with_reducible refine wpl rfl (dQ 5 rfl ?_); with_reducible refine (Stp.alloc 5 rfl rfl zero30 H ?_); clear H; intro g5 w1 H; simp only [pS]; simp only [nC] at H) | (with_reducible refine wpl rfl (stQ (ty := 30) rfl ?_); first | (with_reducible refine (Stp.str rfl size30 rfl rfl (by first | rfl | (simp [Value.oneCell']; done) | assumption) H uP sZ sZ ?_); clear H; intro w1 H; simp only [pS]) | (with_reducible refine (Stp.stl rfl size30 rfl rfl rfl rfl H uP (by simp) ?_); clear H; intro w1 H; simp only [pS]; simp only [List.drop_succ_cons, List.drop_zero, List.take_succ_cons, List.take_zero, List.nil_append, List.cons_append, Nat.reduceAdd] at H)))
      go_roundw
      case rel => exact ⟨k + 1, _, _, r2, by omega, by go_num, HR3, H.sub sU⟩
      case measure => simp [intOf]; omega
    · obtain rfl : k = ps.length := by omega
      rw [List.take_length, HM2.out] at HR
      obtain rfl := HR.out
      go_wp2_with (first | (with_reducible refine wpl rfl (ldQ (ty := 30) rfl ?_); first | (with_reducible refine (Stp.ldor rfl agg30 size30 rfl H (by assumption) sZ (by assumption) ?_); simp only [pS]) | (with_reducible refine (Stp.ldr rfl agg30 size30 rfl H mR sZ ?_); simp only [pS]) | (with_reducible refine (Stp.ldl rfl agg30 size30 rfl H mR (by simp) ?_); simp only [pS]; simp only [List.drop_succ_cons, List.drop_zero, List.take_succ_cons, List.take_zero])) | (with_reducible refine wpl rfl (dQ 5 rfl ?_); with_reducible refine (Stp.alloc 5 rfl rfl zero30 H ?_); clear H; intro g5 w1 H; simp only [pS]; simp only [nC] at H) | (with_reducible refine wpl rfl (stQ (ty := 30) rfl ?_); first | (with_reducible refine (Stp.str rfl size30 rfl rfl (by first | rfl | (simp [Value.oneCell']; done) | assumption) H uP sZ sZ ?_); clear H; intro w1 H; simp only [pS]) | (with_reducible refine (Stp.stl rfl size30 rfl rfl rfl rfl H uP (by simp) ?_); clear H; intro w1 H; simp only [pS]; simp only [List.drop_succ_cons, List.drop_zero, List.take_succ_cons, List.take_zero, List.nil_append, List.cons_append, Nat.reduceAdd] at H)))
      go_end0
      exact ⟨_, rfl, rfl, WSt.of H pU pU sU⟩
set_option maxRecDepth 100000 in
set_option maxHeartbeats 1000000 in
theorem rpids_ok (ps : List (Nat × Nat)) (v : Value) (r : List Nat) (hp : okPids ps) (hpl : ps.length ≤ 1000) (hr : shortB ps.length ++ pidsB ps = r) (w : World) (hs : Sl w 2 ps.length v (elQ ps)) :
    Calls Try.prog 134 #[v] w (Ret fun v' w' => (∃ ap cp, v' = .slice ap r.length cp) ∧ w'.ownsRow w.heap.size 5 1 v' r.length (bv r) ∧ Below w.heap.size w w') := by
  have H := St.init w
  have hs' := hs
  obtain ⟨ab, cb, rfl, hm9, _⟩ := hs'
  unfold maxLen at hm9
  have w1r : IntKind.u64.wrap (ps.length : Int) = (ps.length : Int) := wrap_u64_in _ (by omega) (by omega)
  obtain ⟨q, hq⟩ : ∃ q, shortB ps.length = q := ⟨_, rfl⟩
  have ql : q.length ≤ 10 := by rw [← hq]; exact shortB_len _
  rw [hq] at hr
  have HQ := Lib.hid hq
  have HR0 := Lib.hid hr
  have HP := Lib.hid hp
  clear hq hr hp
  go_enter Try.func134, Try.ntmps134
  go_wp2_with (first | (go_at_call 78; (with_reducible refine (rnum_ok q ps.length (by omega) HQ.out _).mono ?_); rintro e w1 ⟨v, rfl, hr⟩; obtain ⟨⟨aq, cq, rfl⟩, ho, hb1⟩ := hr; replace H := H.new hb1 (slc_sound ho) (fun g hg => (ho.lt g hg).1); clear hb1 ho) | (with_reducible refine wpl rfl (ldQ (ty := 30) rfl ?_); first | (with_reducible refine (Stp.ldor rfl agg30 size30 rfl H (by assumption) sZ (by assumption) ?_); simp only [pS]) | (with_reducible refine (Stp.ldr rfl agg30 size30 rfl H mR sZ ?_); simp only [pS]) | (with_reducible refine (Stp.ldl rfl agg30 size30 rfl H mR (by simp) ?_); simp only [pS]; simp only [List.drop_succ_cons, List.drop_zero, List.take_succ_cons, List.take_zero])))
  clear HQ
  go_loopw [4, 3] (fun i o wr => ∃ (k : Nat) (a : Option Addr) (c : Nat) (m : List Nat), k ≤ ps.length ∧ i = .int .i64 (k : Int) ∧ o = .slice a m.length c ∧ Hid (q ++ pidsB (ps.take k) = m) ∧ St w.heap.size w wr [slc 5 1 (.slice a m.length c) m.length (bv m)]) (fun i _ _ => ps.length - (intOf i).toNat)
  case atStart => exact ⟨0, _, _, q, Nat.zero_le _, rfl, rfl, Lib.hid (by simp [pidsB]), H⟩
  case round =>
    clear H
    obtain ⟨k, a2, c2, m, hk, rfl, rfl, HR, H⟩ := hrel
    have ml : m.length ≤ 30000 := by
      rw [← HR.out, List.length_append]
      have := pidsB_len (ps.take k)
      rw [List.length_take] at this
      omega
    by_cases hlt : k < ps.length
    · obtain ⟨b, off, rfl, hbb⟩ := hs.addr (by omega)
      obtain ⟨p1, p2⟩ := okPids_at HP.out k hlt
      have hsn := pidsB_snoc ps k hlt
      obtain ⟨x, hx⟩ : ∃ x, (ps.getD k (0, 0)).1 = x := ⟨_, rfl⟩
      obtain ⟨y, hy⟩ : ∃ y, (ps.getD k (0, 0)).2 = y := ⟨_, rfl⟩
      have he : elQ ps k = #[.int .u16 (x : Int), .int .u32 (y : Int)] := by unfold elQ; rw [hx, hy]
      rw [hx, hy] at hsn
      rw [hx] at p1
      rw [hy] at p2
      obtain ⟨z, hz⟩ : ∃ z, pidB x y = z := ⟨_, rfl⟩
      have zl : z.length ≤ 20 := by rw [← hz]; exact pidB_len _ _
      obtain ⟨r2, hr2⟩ : ∃ r2, m ++ z = r2 := ⟨_, rfl⟩
      have HZ := Lib.hid hz
      have HL : Hid (m.length + z.length = r2.length) := Lib.hid (by rw [← hr2, List.length_append])
      have HR2 := Lib.hid hr2
      have HR3 : Hid (q ++ pidsB (ps.take (k + 1)) = r2) := Lib.hid (by rw [hsn, hz, ← List.append_assoc, HR.out, hr2])
      have HEL := Lib.hid he
      have kli : (k : Int) < (ps.length : Int) := by omega
      clear hsn hx hy hr2 he hz
      go_wp2_with (first | (with_reducible refine wpl rfl (Stp.ldq (cs := #[.int .u16 (x : Int), .int .u32 (y : Int)]) rfl agg30 size30 rfl (by rw [← HEL.out]; exact (hs.grow H.below).cell hlt) rfl ?_); simp only [pS]) | (go_at_call 106; (with_reducible refine (rpput_as z x y p1 p2 HZ.out _).mono ?_); rintro e w1 ⟨v, rfl, hr⟩; obtain ⟨⟨az, cz, rfl⟩, ho, hb1⟩ := hr; replace H := H.new hb1 (slc_sound ho) (fun g hg => (ho.lt g hg).1); clear hb1 ho) | (with_reducible refine wpl rfl (dQ 21 rfl ?_); with_reducible refine (Stp.apps 21 rfl rfl Try.underlying22 info5 rfl (by decide) rfl rfl H (fun _ => uP) (by rw [bv_len, Nat.mul_one]) (own_src (H.getSlc (xs := bv z) mE)) (bv_one z) (by unfold maxLen; omega) (by omega) ?_); clear H; intro a21 c21 w1 H; simp only [pS]; rw [bv_app, HR2.out, HL.out] at H; rw [HL.out]) | (with_reducible refine wpl rfl (ldQ (ty := 30) rfl ?_); first | (with_reducible refine (Stp.ldor rfl agg30 size30 rfl H (by assumption) sZ (by assumption) ?_); simp only [pS]) | (with_reducible refine (Stp.ldr rfl agg30 size30 rfl H mR sZ ?_); simp only [pS]) | (with_reducible refine (Stp.ldl rfl agg30 size30 rfl H mR (by simp) ?_); simp only [pS]; simp only [List.drop_succ_cons, List.drop_zero, List.take_succ_cons, List.take_zero])))
      go_roundw
      case rel => exact ⟨k + 1, _, _, r2, by omega, by go_num, rfl, HR3, H.sub sU⟩
      case measure => simp [intOf]; omega
    · obtain rfl : k = ps.length := by omega
      rw [List.take_length, HR0.out] at HR
      obtain rfl := HR.out
      go_wp2_with (first | (with_reducible refine wpl rfl (ldQ (ty := 30) rfl ?_); first | (with_reducible refine (Stp.ldor rfl agg30 size30 rfl H (by assumption) sZ (by assumption) ?_); simp only [pS]) | (with_reducible refine (Stp.ldr rfl agg30 size30 rfl H mR sZ ?_); simp only [pS]) | (with_reducible refine (Stp.ldl rfl agg30 size30 rfl H mR (by simp) ?_); simp only [pS]; simp only [List.drop_succ_cons, List.drop_zero, List.take_succ_cons, List.take_zero])))
      go_ret
      exact ⟨_, rfl, ⟨_, _, rfl⟩, H.getSlc mE, H.below⟩
end Go.Proofs.Ytmokecicjmjkbaa
namespace Go.Proofs.Ytmokecicjmjkbaa
set_option linter.unusedVariables false
set_option linter.unusedSimpArgs false
theorem rkB_len (m l : List Pr) : (rkB m l).length ≤ 10 + 10 * l.length := by
  unfold rkB
  have h1 := shortB_len l.length
  have h2 : (l.flatMap fun p => shortB (rkN m p)).length ≤ 10 * l.length := by
    induction l with
    | nil => simp
    | cons p l ih =>
      have := shortB_len (rkN m p)
      have := ih (shortB_len _)
      simp only [List.flatMap_cons, List.length_append, List.length_cons]
      omega
  rw [List.length_append]
  omega
theorem rks_len (m : List Pr) (ls : List (List Pr)) : (ls.flatMap fun l => rkB m l).length ≤ 10 * ls.length + 10 * ls.flatten.length := by
  induction ls with
  | nil => simp
  | cons l ls ih =>
    have := rkB_len m l
    simp only [List.flatMap_cons, List.length_append, List.length_cons, List.flatten_cons]
    omega
theorem vwB_len {x : Vw} (h : vOk x = true) : (vwB x).length ≤ 1260 := by
  obtain ⟨_, h24, hl, hd, _, _⟩ := vOk_each h
  have hf : x.lvs.flatten.length = x.mem.length := (vOk_parts h).2.2.2.2.1
  unfold vwB
  simp only [List.length_append]
  have h1 := shortB_len x.id
  have h2 := shortB_len x.mem.length
  have h3 := pidsB_len x.mem
  have h4 := shortB_len x.lvs.length
  have h5 := rks_len x.mem x.lvs
  have h6 := rkB_len x.mem x.ldr
  omega
theorem pidB_le (i c : Nat) : (pidB i c).length ≤ 20 := by
  unfold pidB
  have h1 := shortB_len i
  have h2 := shortB_len c
  rw [List.length_append]
  omega
theorem cmB_len {c : Cm} (h : cErr c = 0) : (cmB c).length ≤ 1270 := by
  have h0 := shortB_len c.kind.toNat
  have h9 := cErr_data h
  unfold cmB
  rw [List.length_append]
  split
  · have h1 := pidB_le c.fr.1 c.fr.2
    have h2 := shortB_len c.num
    have h3 := shortB_len c.vw
    have h4 := shortB_len c.data.length
    simp only [List.length_append]
    omega
  · split
    · rename_i h2 h3
      rcases cErr_kind h with hk | ⟨hk, _⟩ | ⟨_, hv⟩
      · omega
      · omega
      · have := vwB_len hv
        omega
    · simp only [List.length_nil]
      omega
theorem cmsB_len (cs : List Cm) (h : ∀ c ∈ cs, cErr c = 0) : (cs.flatMap cmB).length ≤ 1270 * cs.length := by
  induction cs with
  | nil => simp
  | cons c cs ih =>
    have h1 := cmB_len (h c List.mem_cons_self)
    have h2 := ih (fun d hd => h d (List.mem_cons_of_mem _ hd))
    simp only [List.flatMap_cons, List.length_append, List.length_cons]
    omega
theorem lgB_len {a : Nat} {cs : List Cm} (h64 : cs.length ≤ 64) (h : ∀ c ∈ cs, cErr c = 0) : (lgB a cs).length ≤ 90000 := by
  unfold lgB
  have h1 := shortB_len a
  have h2 := shortB_len cs.length
  have h3 := cmsB_len cs h
  simp only [List.length_append]
  omega
theorem rkB_snoc (m ps : List Pr) (k : Nat) (h : k < ps.length) : ((ps.take (k + 1)).flatMap fun p => shortB (rkN m p)) = ((ps.take k).flatMap fun p => shortB (rkN m p)) ++ shortB (rkN m (ps.getD k (0, 0))) := by
  rw [List.take_succ_eq_append_getElem h, List.flatMap_append]
  simp [List.getD, h]
theorem rkN_lt {m : List Pr} {p : Pr} (h : m.length ≤ 1000) : rkN m p < 1001 := by
  unfold rkN
  cases hr : rank m p with
  | none => show 0 < 1001; omega
  | some k =>
    obtain ⟨hk, _⟩ := rank_lt hr
    show k < 1001
    omega
theorem rks_snoc (m : List Pr) (ls : List (List Pr)) {k : Nat} {l : List Pr} (h : ls.take (k + 1) = ls.take k ++ [l]) : ((ls.take (k + 1)).flatMap fun l => rkB m l) = ((ls.take k).flatMap fun l => rkB m l) ++ rkB m l := by
  rw [h, List.flatMap_append]; simp
theorem cms_snoc (cs : List Cm) {k : Nat} {c : Cm} (h : cs.take (k + 1) = cs.take k ++ [c]) : (cs.take (k + 1)).flatMap cmB = (cs.take k).flatMap cmB ++ cmB c := by
  rw [h, List.flatMap_append]; simp
end Go.Proofs.Ytmokecicjmjkbaa
namespace Go.Proofs.Ytmokecicjmjkbaa
open Go.ChangeShapes Go.WideShapes Go.ChangeAt Go.RowKit Go.Maps
set_option linter.unusedVariables false
set_option linter.unusedSimpArgs false
set_option linter.unusedSectionVars false
set_option maxRecDepth 100000
set_option maxHeartbeats 4000000
section
variable {α β : Type} [DecidableEq α] {P : Program} {t k e : TypeId} {ek : α → Value} {ev : β → Value} {b : Nat} {M : List (α × β)} {ops : Array Oper} {a : Act} {o : Oper} {B : Nat} {w0 : World} {L : List Res} {x y : Operand} {q : α} {l : Lit}
theorem Yld.lookV (hw : Region.wanted o (yielded ops a.tmps) = true) (ho : o.op = .lookup t x y false) (K : Keyed P k) (hi : ∀ x y, ek x = ek y → x = y) (ht : P.underlying t = some (.map k e)) {z : Value} (hz : ∀ W : World, (zeroValue e).run P W = .ok z W) (hx : a.eval x = .map (some b)) (hy : a.eval y = ek q) (ha : keyOf P k (ek q) = some l)
    (hm : mapr P k ek ev b M ∈ L) {v : Value} (hv : ((mget M q).map ev).getD z = v) : YieldsIf P ops (fun W => St B w0 W L) o v a :=
  .inl ⟨hw, fun W H => by
    subst hv
    unfold execOp; simp only [ho, hx, hy]
    simp [run_look false K hi ht (hz W) (H.get hm) ha]⟩
end
attribute [local irreducible] rkN
theorem vputc_ok {w0 : World} {L : List Res} (g g2 g4 gm : Nat) (M : List (Pr × Nat)) (mm ps : List Pr) (v : Value) (l m : List Nat) (hM : ∀ p, mget M p = rank mm p) (hmm : mm.length ≤ 1000) (hp : okPids ps) (hpl : ps.length ≤ 1000) (hl : l.length ≤ 300000) (hm : l ++ rkB mm ps = m) (hs : Sl w0 2 ps.length v (elQ ps)) (w : World)
    (H : WSt w0.heap.size w0 w g l (row 131 g2 #[.pointer (some ⟨g, 0, none⟩)] :: row 159 g4 #[.map (some gm)] :: mapr Try.prog 30 ekP evN gm M :: L)) :
    Calls Try.prog 132 #[v, .pointer (some ⟨g2, 0, none⟩), .pointer (some ⟨g4, 0, none⟩)] w (Ret fun v w' => v = .tuple #[] ∧ WSt w0.heap.size w0 w' g m (row 131 g2 #[.pointer (some ⟨g, 0, none⟩)] :: row 159 g4 #[.map (some gm)] :: mapr Try.prog 30 ekP evN gm M :: L)) := by
  obtain ⟨a, cc, H⟩ := H
  obtain ⟨ab, cb, e0, hm9, _⟩ := id hs
  subst e0
  unfold maxLen at hm9
  have w1r : IntKind.u64.wrap (ps.length : Int) = (ps.length : Int) := wrap_u64_in _ (by omega) (by omega)
  obtain ⟨q, hq⟩ : ∃ q, l ++ shortB ps.length = q := ⟨_, rfl⟩
  have ql : q.length ≤ 300010 := by rw [← hq, List.length_append]; have := shortB_len ps.length; omega
  have HQ := Lib.hid hq
  have HM2 : Hid ((q ++ ps.flatMap fun p => shortB (rkN mm p)) = m) := Lib.hid (by rw [← hq, ← hm, List.append_assoc]; rfl)
  have HP := Lib.hid hp
  have HMG := Lib.hid hM
  obtain ⟨n, hn⟩ : ∃ n, ps.length = n := ⟨_, rfl⟩
  have HN := Lib.hid hn
  rw [hn] at HQ
  simp only [hn] at hs hm9 w1r hpl ⊢
  clear hq hm hp hM hn
  go_enter Try.func132, Try.ntmps132
  go_wp2_with (first | (go_at_call 75; (with_reducible refine (wnum_ok g l q n (by omega) (by omega) HQ.out _ (WSt.of H pU pU (List.Sublist.refl _))).mono ?_); rintro e w1 ⟨v, rfl, hr⟩; obtain ⟨rfl, a1, c1, H1⟩ := hr; clear H; have H := H1; clear H1) | (with_reducible refine wpl rfl (ldQ (ty := 131) rfl ?_); first | (with_reducible refine (Stp.ldo rfl agg131 rfl H (by assumption) (by assumption) ?_); simp only [pS]) | (with_reducible refine (Stp.ldc rfl agg131 rfl H mR cE ?_); simp only [pS])) | (with_reducible refine wpl rfl (ldQ (ty := 30) rfl ?_); first | (with_reducible refine (Stp.ldor rfl agg30 size30 rfl H (by assumption) sZ (by assumption) ?_); simp only [pS]) | (with_reducible refine (Stp.ldr rfl agg30 size30 rfl H mR sZ ?_); simp only [pS]) | (with_reducible refine (Stp.ldl rfl agg30 size30 rfl H mR (by simp) ?_); simp only [pS]; simp only [List.drop_succ_cons, List.drop_zero, List.take_succ_cons, List.take_zero])) | (with_reducible refine wpl rfl (dQ 5 rfl ?_); with_reducible refine (Stp.alloc 5 rfl rfl zero30 H ?_); clear H; intro g5 w1 H; simp only [pS]; simp only [nC] at H) | (with_reducible refine wpl rfl (stQ (ty := 30) rfl ?_); first | (with_reducible refine (Stp.str rfl size30 rfl rfl (by first | rfl | (simp [Value.oneCell']; done) | assumption) H uP sZ sZ ?_); clear H; intro w1 H; simp only [pS]) | (with_reducible refine (Stp.stl rfl size30 rfl rfl rfl rfl H uP (by simp) ?_); clear H; intro w1 H; simp only [pS]; simp only [List.drop_succ_cons, List.drop_zero, List.take_succ_cons, List.take_zero, List.nil_append, List.cons_append, Nat.reduceAdd] at H)))
  clear HQ
  go_loopw [13] (fun i wr => ∃ (k : Nat) (a : Option Addr) (c : Nat) (r : List Nat), k ≤ n ∧ i = .int .i64 (k : Int) ∧ Hid ((q ++ (ps.take k).flatMap fun p => shortB (rkN mm p)) = r) ∧ Hid (r.length ≤ 300010 + 10 * k) ∧ St w0.heap.size w0 wr (row 133 g #[.slice a r.length c] :: slc 5 1 (.slice a r.length c) r.length (bv r) :: row 131 g2 #[.pointer (some ⟨g, 0, none⟩)] :: row 159 g4 #[.map (some gm)] :: mapr Try.prog 30 ekP evN gm M :: L)) (fun i _ => n - (intOf i).toNat)
  case atStart => exact ⟨0, _, _, q, Nat.zero_le _, rfl, Lib.hid (by simp), Lib.hid (by omega), H⟩
  case round =>
    clear H
    obtain ⟨k, a2, c2, r, hk, rfl, HR, HRL, H⟩ := hrel
    by_cases hlt : k < n
    · obtain ⟨b, off, rfl, hbb⟩ := hs.addr (by omega)
      have hkl : k < ps.length := by rw [HN.out]; exact hlt
      obtain ⟨p1, p2⟩ := okPids_at HP.out k hkl
      have hsn := rkB_snoc mm ps k hkl
      obtain ⟨x, hx⟩ : ∃ x, (ps.getD k (0, 0)).1 = x := ⟨_, rfl⟩
      obtain ⟨y, hy⟩ : ∃ y, (ps.getD k (0, 0)).2 = y := ⟨_, rfl⟩
      have hxy : ps.getD k (0, 0) = (x, y) := by rw [← hx, ← hy]
      have he : elQ ps k = #[.int .u16 (x : Int), .int .u32 (y : Int)] := by unfold elQ; rw [hx, hy]
      rw [hxy] at hsn
      rw [hx] at p1
      rw [hy] at p2
      obtain ⟨kl, hkey⟩ := keyP (x, y) p1 p2
      have HK := Lib.hid hkey
      obtain ⟨j, hj⟩ : ∃ j, rkN mm (x, y) = j := ⟨_, rfl⟩
      have hj1 : j < 1001 := by rw [← hj]; exact rkN_lt hmm
      have wj : IntKind.u64.wrap (j : Int) = (j : Int) := wrap_u64_in _ (by omega) (by omega)
      have HRV : Hid (((mget M (x, y)).map evN).getD (.int .i64 0) = .int .i64 (j : Int)) := Lib.hid (by
        rw [HMG.out, ← hj]
        unfold rkN
        cases rank mm (x, y) <;> rfl)
      rw [hj] at hsn
      obtain ⟨r2, hr2⟩ : ∃ r2, r ++ shortB j = r2 := ⟨_, rfl⟩
      have HR2 := Lib.hid hr2
      have HR3 : Hid ((q ++ (ps.take (k + 1)).flatMap fun p => shortB (rkN mm p)) = r2) := Lib.hid (by rw [hsn, ← List.append_assoc, HR.out, hr2])
      have rl : r.length ≤ 600000 := by have := HRL.out; omega
      have HRL2 : Hid (r2.length ≤ 300010 + 10 * (k + 1)) := Lib.hid (by rw [← hr2, List.length_append]; have := shortB_len j; have := HRL.out; omega)
      have HEL := Lib.hid he
      have kli : (k : Int) < (n : Int) := by omega
      clear hsn hx hy hr2 he hxy hkey hj
      go_wp2_with (first | (with_reducible refine wpl rfl (Stp.ldq (cs := #[.int .u16 (x : Int), .int .u32 (y : Int)]) rfl agg30 size30 rfl (by rw [← HEL.out]; exact (hs.grow H.below).cell hlt) rfl ?_); simp only [pS]) | (with_reducible refine wpl rfl (ldQ (ty := 131) rfl ?_); first | (with_reducible refine (Stp.ldo rfl agg131 rfl H (by assumption) (by assumption) ?_); simp only [pS]) | (with_reducible refine (Stp.ldc rfl agg131 rfl H mR cE ?_); simp only [pS])) | (with_reducible refine wpl rfl (ldQ (ty := 30) rfl ?_); first | (with_reducible refine (Stp.ldor rfl agg30 size30 rfl H (by assumption) sZ (by assumption) ?_); simp only [pS]) | (with_reducible refine (Stp.ldr rfl agg30 size30 rfl H mR sZ ?_); simp only [pS]) | (with_reducible refine (Stp.ldl rfl agg30 size30 rfl H mR (by simp) ?_); simp only [pS]; simp only [List.drop_succ_cons, List.drop_zero, List.take_succ_cons, List.take_zero])) | (with_reducible refine wpl rfl (dQ 5 rfl ?_); with_reducible refine (Stp.alloc 5 rfl rfl zero30 H ?_); clear H; intro g5 w1 H; simp only [pS]; simp only [nC] at H) | (with_reducible refine wpl rfl (stQ (ty := 30) rfl ?_); first | (with_reducible refine (Stp.str rfl size30 rfl rfl (by first | rfl | (simp [Value.oneCell']; done) | assumption) H uP sZ sZ ?_); clear H; intro w1 H; simp only [pS]) | (with_reducible refine (Stp.stl rfl size30 rfl rfl rfl rfl H uP (by simp) ?_); clear H; intro w1 H; simp only [pS]; simp only [List.drop_succ_cons, List.drop_zero, List.take_succ_cons, List.take_zero, List.nil_append, List.cons_append, Nat.reduceAdd] at H)))
      refine rg_begin 6 rfl (S := fun W => St _ _ W (row 30 g5 #[.int .u16 (x : Int), .int .u32 (y : Int)] :: row 131 g2 #[.pointer (some ⟨g, 0, none⟩)] :: row 159 g4 #[.map (some gm)] :: mapr Try.prog 30 ekP evN gm M :: L)) (by kernel_rfl) (H.drew.sub sU) ?_
      replace H := H.drew
      have HS := H
      first | (refine rg_take (i := 0) rfl kR kR kR (Yld.ldo rfl rfl agg131 rfl (by assumption) (by assumption)) (H.sub sU) ?_; simp only [pS]) | (refine rg_take (i := 0) rfl kR kR kR (Yld.ldc rfl rfl agg131 rfl mR cE) (H.sub sU) ?_; simp only [pS])
      first | (refine rg_take (i := 1) rfl kR kR kR (Yld.ldo rfl rfl agg159 rfl (by assumption) (by assumption)) (H.sub sU) ?_; simp only [pS]) | (refine rg_take (i := 1) rfl kR kR kR (Yld.ldc rfl rfl agg159 rfl mR cE) (H.sub sU) ?_; simp only [pS])
      first | (refine rg_take (i := 2) rfl kR kR kR (Yld.ldor rfl rfl agg30 size30 rfl (by assumption) sZ (by assumption)) (H.sub sU) ?_; simp only [pS]) | (refine rg_take (i := 2) rfl kR kR kR (Yld.ldr rfl rfl agg30 size30 rfl mR sZ) (H.sub sU) ?_; simp only [pS]) | (refine rg_take (i := 2) rfl kR kR kR (Yld.ldl rfl rfl agg30 size30 rfl mR (by simp)) (H.sub sU) ?_; simp only [pS]; simp only [List.drop_succ_cons, List.drop_zero, List.take_succ_cons, List.take_zero])
      refine rg_take (i := 3) rfl kR kR kR (Yld.lookV (k := 30) (e := 3) (ek := ekP) (ev := evN) (M := M) (q := (x, y)) rfl rfl keyedP ekP_inj Try.underlying159 mz3 rfl rfl HK.out mE HRV.out) (H.sub sU) ?_; simp only [pS, pE]
      refine rg_take (i := 4) rfl kR kR kR (Yld.o rfl) (H.sub sU) ?_; simp only [pS]
      refine rg_one (i := 5) (by kernel_rfl) rfl rfl (fun K hK => ?_)
      refine wp_callf rfl ent75 (wnum_ok g r r2 j (by omega) (by omega) HR2.out _ (WSt.of H pU pU (List.Sublist.refl _))) rfl (fun v w1 hr => ?_)
      obtain ⟨rfl, a1, c1, H1⟩ := hr
      clear H
      have H := H1
      clear H1
      clear HS
      have HS := H
      refine hK.out _ _ (H.sub sU) ?_
      clear hK K
      simp only [pS]
      refine rg_done (by kernel_rfl) ?_
      go_wp2_with (first | (with_reducible refine wpl rfl (ldQ (ty := 131) rfl ?_); first | (with_reducible refine (Stp.ldo rfl agg131 rfl H (by assumption) (by assumption) ?_); simp only [pS]) | (with_reducible refine (Stp.ldc rfl agg131 rfl H mR cE ?_); simp only [pS])) | (with_reducible refine wpl rfl (ldQ (ty := 30) rfl ?_); first | (with_reducible refine (Stp.ldor rfl agg30 size30 rfl H (by assumption) sZ (by assumption) ?_); simp only [pS]) | (with_reducible refine (Stp.ldr rfl agg30 size30 rfl H mR sZ ?_); simp only [pS]) | (with_reducible refine (Stp.ldl rfl agg30 size30 rfl H mR (by simp) ?_); simp only [pS]; simp only [List.drop_succ_cons, List.drop_zero, List.take_succ_cons, List.take_zero])) | (with_reducible refine wpl rfl (dQ 5 rfl ?_); with_reducible refine (Stp.alloc 5 rfl rfl zero30 H ?_); clear H; intro g5 w1 H; simp only [pS]; simp only [nC] at H) | (with_reducible refine wpl rfl (stQ (ty := 30) rfl ?_); first | (with_reducible refine (Stp.str rfl size30 rfl rfl (by first | rfl | (simp [Value.oneCell']; done) | assumption) H uP sZ sZ ?_); clear H; intro w1 H; simp only [pS]) | (with_reducible refine (Stp.stl rfl size30 rfl rfl rfl rfl H uP (by simp) ?_); clear H; intro w1 H; simp only [pS]; simp only [List.drop_succ_cons, List.drop_zero, List.take_succ_cons, List.take_zero, List.nil_append, List.cons_append, Nat.reduceAdd] at H)))
      go_roundw
      case rel => exact ⟨k + 1, _, _, r2, by omega, by go_num, HR3, HRL2, H.sub sU⟩
      case measure => simp [intOf]; omega
    · obtain rfl : k = n := by omega
      have hr := HR.out
      rw [← HN.out, List.take_length, HM2.out] at hr
      subst hr
      go_wp2_with (first | (with_reducible refine wpl rfl (ldQ (ty := 131) rfl ?_); first | (with_reducible refine (Stp.ldo rfl agg131 rfl H (by assumption) (by assumption) ?_); simp only [pS]) | (with_reducible refine (Stp.ldc rfl agg131 rfl H mR cE ?_); simp only [pS])) | (with_reducible refine wpl rfl (ldQ (ty := 30) rfl ?_); first | (with_reducible refine (Stp.ldor rfl agg30 size30 rfl H (by assumption) sZ (by assumption) ?_); simp only [pS]) | (with_reducible refine (Stp.ldr rfl agg30 size30 rfl H mR sZ ?_); simp only [pS]) | (with_reducible refine (Stp.ldl rfl agg30 size30 rfl H mR (by simp) ?_); simp only [pS]; simp only [List.drop_succ_cons, List.drop_zero, List.take_succ_cons, List.take_zero])) | (with_reducible refine wpl rfl (dQ 5 rfl ?_); with_reducible refine (Stp.alloc 5 rfl rfl zero30 H ?_); clear H; intro g5 w1 H; simp only [pS]; simp only [nC] at H) | (with_reducible refine wpl rfl (stQ (ty := 30) rfl ?_); first | (with_reducible refine (Stp.str rfl size30 rfl rfl (by first | rfl | (simp [Value.oneCell']; done) | assumption) H uP sZ sZ ?_); clear H; intro w1 H; simp only [pS]) | (with_reducible refine (Stp.stl rfl size30 rfl rfl rfl rfl H uP (by simp) ?_); clear H; intro w1 H; simp only [pS]; simp only [List.drop_succ_cons, List.drop_zero, List.take_succ_cons, List.take_zero, List.nil_append, List.cons_append, Nat.reduceAdd] at H)))
      go_end0
      exact ⟨_, rfl, rfl, WSt.of H pU pU sU⟩
end Go.Proofs.Ytmokecicjmjkbaa
namespace Go.Proofs.Ytmokecicjmjkbaa
open Go.ChangeShapes Go.WideShapes Go.ChangeAt Go.RowKit Go.Maps
set_option linter.unusedVariables false
set_option linter.unusedSimpArgs false
set_option linter.unusedSectionVars false
set_option maxRecDepth 100000
set_option maxHeartbeats 4000000
theorem vcheckI_ok {G1 : Nat → Prop} (x : Vw) (ma la da : Option Addr) (mc lc dc n : Nat) (hn : x.lvs.length = n) (hm : smV x) (hw : wfV x) {i : Int} (hc : vErr x = i) (w : World) (hx : VwG G1 w (.slice ma x.mem.length mc) (.slice la x.lvs.length lc) (.slice da x.ldr.length dc) x) :
    Calls Try.prog 82 #[.agg #[.int .u64 (x.id : Int), .slice ma x.mem.length mc, .slice la n lc, .slice da x.ldr.length dc]] w (Ret fun v w' => v = .int .i64 i ∧ Below w.heap.size w w') := by
  subst hc hn
  exact vcheck_ok x ma la da mc lc dc hm hw w hx
attribute [local irreducible] vErr vOk rkB pidsB
theorem vput_ok {w0 : World} {L : List Res} {G1 : Nat → Prop} (g : Nat) (l m : List Nat) (x : Vw) (ma la da : Option Addr) (mc lc dc : Nat) (hv : vOk x = true) (hsm : smV x) (hw : wfV x) (hl : l.length ≤ 100000) (hm : l ++ vwB x = m)
    (hx : VwG G1 w0 (.slice ma x.mem.length mc) (.slice la x.lvs.length lc) (.slice da x.ldr.length dc) x) (w : World) (H : WSt w0.heap.size w0 w g l L) :
    Calls Try.prog 104 #[.pointer (some ⟨g, 0, none⟩), .agg (vwC x ma la da mc lc dc)] w (Ret fun v w' => v = .tuple #[] ∧ WSt w0.heap.size w0 w' g m L) := by
  obtain ⟨a, cc, H⟩ := H
  have hmf : ∀ (fn : Fn) (first cap : Array Value) (w : World), (Instr.makeFunc fn first cap).run Try.prog w = .ok (.func fn first cap) w := fun _ _ _ _ => rfl
  have hbv := vwB_len hv
  obtain ⟨_, h24, hl24, hd24, he24, _⟩ := vOk_each hv
  obtain ⟨q1, hq1⟩ : ∃ q1, l ++ shortB x.id = q1 := ⟨_, rfl⟩
  obtain ⟨q2, hq2⟩ : ∃ q2, q1 ++ (shortB x.mem.length ++ pidsB x.mem) = q2 := ⟨_, rfl⟩
  obtain ⟨q3, hq3⟩ : ∃ q3, q2 ++ shortB x.lvs.length = q3 := ⟨_, rfl⟩
  obtain ⟨q4, hq4⟩ : ∃ q4, (q3 ++ x.lvs.flatMap fun l => rkB x.mem l) = q4 := ⟨_, rfl⟩
  have hq5 : q4 ++ rkB x.mem x.ldr = m := by
    rw [← hm, ← hq4, ← hq3, ← hq2, ← hq1]
    unfold vwB
    simp only [List.append_assoc]
  have hml : m.length ≤ 101260 := by rw [← hm, List.length_append]; omega
  have h5l : q4.length ≤ m.length := by rw [← hq5, List.length_append]; omega
  have h4l : q3.length ≤ q4.length := by rw [← hq4, List.length_append]; omega
  have h3l : q2.length ≤ q3.length := by rw [← hq3, List.length_append]; omega
  have h2l : q1.length ≤ q2.length := by rw [← hq2, List.length_append]; omega
  have hc : vErr x = 0 := by unfold vErr; rw [if_pos hv]
  have hm1 : x.mem.length ≤ 1000 := hsm.mem
  obtain ⟨n, hn⟩ : ∃ n, x.lvs.length = n := ⟨_, rfl⟩
  have HQ1 := Lib.hid hq1
  have HQ2 := Lib.hid hq2
  have HQ3 : Hid (q2 ++ shortB n = q3) := Lib.hid (by rw [← hn]; exact hq3)
  have HQ4 := Lib.hid hq4
  have HQ5 := Lib.hid hq5
  have HC := Lib.hid hc
  have HSM := Lib.hid hsm
  have HW := Lib.hid hw
  have HN := Lib.hid hn
  have HE := Lib.hid he24
  obtain ⟨hx1, hx2, hx3⟩ := id hx
  replace hx := Lib.hid hx
  rw [hn] at hl24
  simp only [vwC]
  rw [hn]
  rw [hn] at hx2
  have w1r : IntKind.u64.wrap (n : Int) = (n : Int) := wrap_u64_in _ (by omega) (by omega)
  have wld := HSM.out.ldr
  clear hq1 hq2 hq3 hq4 hq5 hc hsm hw hv hm hn hbv he24
  go_enter Try.func104, Try.ntmps104
  go_upto_region 4 with (first | (go_at_call 82; (with_reducible refine (vcheckI_ok x ma la da mc lc dc n HN.out HSM.out HW.out HC.out _ (VwG.grow hx.out H.below)).mono ?_); rintro e w1 ⟨v, rfl, hr⟩; obtain ⟨rfl, hb1⟩ := hr; replace H := H.grow hb1; clear hb1) | (go_at_call 110; (with_reducible refine (ranks_ok x.id _ _ _ _ x.mem HW.out.mem _ (hx1.sl.grow H.below)).mono ?_); rintro e w1 ⟨v, rfl, hr⟩; obtain ⟨gm, M, rfl, hM, hR, hge, hb1⟩ := hr; replace H := H.new hb1 (mapr_sound hM) (fun g hg => by cases hg; exact hge); have HR := Lib.hid hR; clear hb1 hM hR hge) | (with_reducible refine wpl rfl (dQ 2 rfl ?_); with_reducible refine (Stp.box 2 rfl rfl rfl H ?_); clear H; intro g2 w1 H; simp only [pS]; simp only [pE, nC, pS] at H) | (with_reducible refine wpl rfl (dQ 3 rfl ?_); with_reducible refine (Stp.box 3 rfl rfl rfl H ?_); clear H; intro g3 w1 H; simp only [pS]; simp only [pE, nC, pS] at H) | (with_reducible refine wpl rfl (ldQ (ty := 34) rfl ?_); first | (with_reducible refine (Stp.ldor rfl agg34 size34 rfl H (by assumption) sZ (by assumption) ?_); simp only [pS]) | (with_reducible refine (Stp.ldr rfl agg34 size34 rfl H mR sZ ?_); simp only [pS]) | (with_reducible refine (Stp.ldl rfl agg34 size34 rfl H mR (by simp) ?_); simp only [pS]; simp only [List.drop_succ_cons, List.drop_zero, List.take_succ_cons, List.take_zero])) | (with_reducible refine wpl rfl (dQ 4 rfl ?_); with_reducible refine (Stp.alloc 4 rfl rfl zero159 H ?_); clear H; intro g4 w1 H; simp only [pS]; simp only [nC] at H) | (with_reducible refine wpl rfl (stQ (ty := 159) rfl ?_); first | (with_reducible refine (Stp.stc rfl size159 rfl rfl rfl rfl H uP (by first | omega | (simp; done) | (simp; omega)) ?_); clear H; intro w1 H; simp only [pS]; simp only [pE, nC, pS] at H)))
  replace H : St w0.heap.size w0 _ (row 133 g #[.slice a l.length cc] :: slc 5 1 (.slice a l.length cc) l.length (bv l) :: row 131 g2 #[.pointer (some ⟨g, 0, none⟩)] :: row 159 g4 #[.map (some gm)] :: mapr Try.prog 30 ekP evN gm M :: row 34 g3 #[.int .u64 (x.id : Int), .slice ma x.mem.length mc, .slice la n lc, .slice da x.ldr.length dc] :: L) := ((((((H.pull (r := row 34 g3 _) pU).pull (r := mapr Try.prog 30 ekP evN gm M) pU).pull (r := row 159 g4 _) pU).pull (r := row 131 g2 _) pU).pull (r := slc 5 1 _ l.length _) pU).pull (r := row 133 g _) pU).sub sU
  go_upto_region 5 with (first | (go_at_call 75; (with_reducible refine (wnum_ok g l q1 x.id (by omega) HW.out.id HQ1.out _ (WSt.of H pU pU (List.Sublist.refl _))).mono ?_); rintro e w1 ⟨v, rfl, hr⟩; obtain ⟨rfl, a1, c1, H1⟩ := hr; clear H; have H := H1; clear H1) | (with_reducible refine wpl rfl (ldQ (ty := 131) rfl ?_); first | (with_reducible refine (Stp.ldo rfl agg131 rfl H (by assumption) (by assumption) ?_); simp only [pS]) | (with_reducible refine (Stp.ldc rfl agg131 rfl H mR cE ?_); simp only [pS])) | (with_reducible refine wpl rfl (ldQ (ty := 26) rfl ?_); first | (with_reducible refine (Stp.ldo rfl agg26 rfl H (by assumption) (by assumption) ?_); simp only [pS]) | (with_reducible refine (Stp.ldc rfl agg26 rfl H mR cE ?_); simp only [pS])))
  go_upto_region 6 with (first | (go_at_call 133; (with_reducible refine (wpids_ok g q1 q2 x.mem _ HW.out.mem (by omega) (by omega) HQ2.out _ (WSt.of H pU pU (List.Sublist.refl _)) (Rd.of_old hx1.sl)).mono ?_); rintro e w1 ⟨v, rfl, hr⟩; obtain ⟨rfl, a1, c1, H1⟩ := hr; clear H; have H := H1; clear H1) | (with_reducible refine wpl rfl (ldQ (ty := 131) rfl ?_); first | (with_reducible refine (Stp.ldo rfl agg131 rfl H (by assumption) (by assumption) ?_); simp only [pS]) | (with_reducible refine (Stp.ldc rfl agg131 rfl H mR cE ?_); simp only [pS])) | (with_reducible refine wpl rfl (ldQ (ty := 31) rfl ?_); first | (with_reducible refine (Stp.ldo rfl agg31 rfl H (by assumption) (by assumption) ?_); simp only [pS]) | (with_reducible refine (Stp.ldc rfl agg31 rfl H mR cE ?_); simp only [pS])))
  go_upto_region 7 with (first | (go_at_call 75; (with_reducible refine (wnum_ok g q2 q3 n (by omega) (by omega) HQ3.out _ (WSt.of H pU pU (List.Sublist.refl _))).mono ?_); rintro e w1 ⟨v, rfl, hr⟩; obtain ⟨rfl, a1, c1, H1⟩ := hr; clear H; have H := H1; clear H1) | (with_reducible refine wpl rfl (ldQ (ty := 131) rfl ?_); first | (with_reducible refine (Stp.ldo rfl agg131 rfl H (by assumption) (by assumption) ?_); simp only [pS]) | (with_reducible refine (Stp.ldc rfl agg131 rfl H mR cE ?_); simp only [pS])) | (with_reducible refine wpl rfl (ldQ (ty := 32) rfl ?_); first | (with_reducible refine (Stp.ldo rfl agg32 rfl H (by assumption) (by assumption) ?_); simp only [pS]) | (with_reducible refine (Stp.ldc rfl agg32 rfl H mR cE ?_); simp only [pS])))
  go_upto_region 8 with (first | (with_reducible refine wpl rfl (ldQ (ty := 32) rfl ?_); first | (with_reducible refine (Stp.ldo rfl agg32 rfl H (by assumption) (by assumption) ?_); simp only [pS]) | (with_reducible refine (Stp.ldc rfl agg32 rfl H mR cE ?_); simp only [pS])))
  clear HQ1 HQ2 HQ3
  go_loopw [31] (fun i wr => ∃ (k : Nat) (a : Option Addr) (c : Nat) (r : List Nat), k ≤ n ∧ i = .int .i64 (k : Int) ∧ Hid ((q3 ++ (x.lvs.take k).flatMap fun l => rkB x.mem l) = r) ∧ St w0.heap.size w0 wr (row 133 g #[.slice a r.length c] :: slc 5 1 (.slice a r.length c) r.length (bv r) :: row 131 g2 #[.pointer (some ⟨g, 0, none⟩)] :: row 159 g4 #[.map (some gm)] :: mapr Try.prog 30 ekP evN gm M :: row 34 g3 #[.int .u64 (x.id : Int), .slice ma x.mem.length mc, .slice la n lc, .slice da x.ldr.length dc] :: L)) (fun i _ => n - (intOf i).toNat)
  case atStart => exact ⟨0, _, _, q3, Nat.zero_le _, rfl, Lib.hid (by simp), H⟩
  case round =>
    clear H
    obtain ⟨k, a2, c2, r, hk, rfl, HRR, H⟩ := hrel
    have rl : r.length ≤ q4.length := by
      rw [← HRR.out, ← HQ4.out, List.length_append, List.length_append]
      have h9 : ((x.lvs.take k).flatMap fun l => rkB x.mem l).length ≤ (x.lvs.flatMap fun l => rkB x.mem l).length := by
        conv => rhs; rw [← List.take_append_drop k x.lvs, List.flatMap_append, List.length_append]
        omega
      omega
    by_cases hlt : k < n
    · have hl1 : k < x.lvs.length := by rw [HN.out]; exact hlt
      obtain ⟨b0, o0, ak, ck, rfl, hbl, hc1, hs1⟩ := hx2.at HN.out hl1
      have hmm : x.lvs[k] ∈ x.lvs := List.getElem_mem hl1
      have hsn := List.take_succ_eq_append_getElem hl1
      obtain ⟨u, hu⟩ : ∃ u, x.lvs[k] = u := ⟨_, rfl⟩
      rw [hu] at hc1 hs1 hmm hsn
      have hul : u.length ≤ 24 := (HE.out u hmm).1
      have hul2 : u.length ≤ 1000 := by omega
      have huw : okPids u := HW.out.lvs u hmm
      have HSN := Lib.hid (rks_snoc x.mem x.lvs hsn)
      obtain ⟨r2, hr2⟩ : ∃ r2, r ++ rkB x.mem u = r2 := ⟨_, rfl⟩
      have HR2 := Lib.hid hr2
      have HR3 : Hid ((q3 ++ (x.lvs.take (k + 1)).flatMap fun l => rkB x.mem l) = r2) := Lib.hid (by rw [HSN.out, ← List.append_assoc, HRR.out, hr2])
      have hs2 := hs1.sl
      have kli : (k : Int) < (n : Int) := by omega
      clear hsn hmm hu hr2 hs1
      go_wp2_with (first | (go_at_call 132; (with_reducible refine (vputc_ok g g2 g4 gm M x.mem u (.slice ak u.length ck) r r2 HR.out hm1 huw (by omega) (by omega) HR2.out hs2 _ (WSt.of H pU pU (List.Sublist.refl _))).mono ?_); rintro e w1 ⟨v, rfl, hr⟩; obtain ⟨rfl, a1, c1, H1⟩ := hr; clear H; have H := H1; clear H1) | (with_reducible refine wpl rfl (ldQ (ty := 31) rfl ?_); first | (with_reducible refine (Stp.ldo rfl agg31 rfl H (by assumption) (by assumption) ?_); simp only [pS]) | (with_reducible refine (Stp.ldc rfl agg31 rfl H mR cE ?_); simp only [pS])))
      go_roundw
      case rel => exact ⟨k + 1, _, _, r2, by omega, by go_num, HR3, H.sub sU⟩
      case measure => simp [intOf]; omega
    · obtain rfl : k = n := by omega
      have hr := HRR.out
      rw [← HN.out, List.take_length, HQ4.out] at hr
      subst hr
      have hs3 := hx3.sl
      go_wp2_with (first | (go_at_call 132; (with_reducible refine (vputc_ok g g2 g4 gm M x.mem x.ldr (.slice da x.ldr.length dc) q4 m HR.out hm1 HW.out.ldr (by omega) (by omega) HQ5.out hs3 _ (WSt.of H pU pU (List.Sublist.refl _))).mono ?_); rintro e w1 ⟨v, rfl, hr⟩; obtain ⟨rfl, a1, c1, H1⟩ := hr; clear H; have H := H1; clear H1) | (with_reducible refine wpl rfl (ldQ (ty := 31) rfl ?_); first | (with_reducible refine (Stp.ldo rfl agg31 rfl H (by assumption) (by assumption) ?_); simp only [pS]) | (with_reducible refine (Stp.ldc rfl agg31 rfl H mR cE ?_); simp only [pS])))
      go_end0
      exact ⟨_, rfl, rfl, WSt.of H pU pU sU⟩
end Go.Proofs.Ytmokecicjmjkbaa
namespace Go.Proofs.Ytmokecicjmjkbaa
open Go.ChangeShapes Go.WideShapes Go.ChangeAt Go.RowKit Go.Maps
set_option linter.unusedVariables false
set_option linter.unusedSimpArgs false
set_option linter.unusedSectionVars false
set_option maxRecDepth 100000
set_option maxHeartbeats 4000000
theorem ccheckK_ok {G1 : Nat → Prop} (c : Cm) (ba ma la da : Option Addr) (bc mc lc dc : Nat) (k : Int) (hk : c.kind = k) (hm : smC c) (hw : wfC c) {i : Int} (hc : cErr c = i) (w : World) (hx : CmG G1 w (.slice ba c.data.length bc) (.slice ma c.v.mem.length mc) (.slice la c.v.lvs.length lc) (.slice da c.v.ldr.length dc) c) :
    Calls Try.prog 48 #[.agg #[.int .i64 k, .int .u16 (c.fr.1 : Int), .int .u32 (c.fr.2 : Int), .int .u64 (c.num : Int), .int .u64 (c.vw : Int), .slice ba c.data.length bc, .int .u64 (c.v.id : Int), .slice ma c.v.mem.length mc, .slice la c.v.lvs.length lc, .slice da c.v.ldr.length dc]] w (Ret fun v w' => v = .int .i64 i ∧ Below w.heap.size w w') := by
  subst hc hk
  exact ccheck_ok c ba ma la da bc mc lc dc hm.v hw w hx
theorem wnumK1_ok {B : Nat} {w0 : World} {L : List Res} (g : Nat) (l m : List Nat) (hl : l.length ≤ 700000) (hm : l ++ shortB 1 = m) (w : World) (H : WSt B w0 w g l L) :
    Calls Try.prog 75 #[.pointer (some ⟨g, 0, none⟩), .int .u64 1] w (Ret fun v w' => v = .tuple #[] ∧ WSt B w0 w' g m L) := wnum_ok g l m 1 hl (by omega) hm w H
theorem wnumK2_ok {B : Nat} {w0 : World} {L : List Res} (g : Nat) (l m : List Nat) (hl : l.length ≤ 700000) (hm : l ++ shortB 2 = m) (w : World) (H : WSt B w0 w g l L) :
    Calls Try.prog 75 #[.pointer (some ⟨g, 0, none⟩), .int .u64 2] w (Ret fun v w' => v = .tuple #[] ∧ WSt B w0 w' g m L) := wnum_ok g l m 2 hl (by omega) hm w H
theorem wnumK3_ok {B : Nat} {w0 : World} {L : List Res} (g : Nat) (l m : List Nat) (hl : l.length ≤ 700000) (hm : l ++ shortB 3 = m) (w : World) (H : WSt B w0 w g l L) :
    Calls Try.prog 75 #[.pointer (some ⟨g, 0, none⟩), .int .u64 3] w (Ret fun v w' => v = .tuple #[] ∧ WSt B w0 w' g m L) := wnum_ok g l m 3 hl (by omega) hm w H
attribute [local irreducible] cErr vErr vOk rkB pidsB vwB pidB
theorem cput_ok {w0 : World} {L : List Res} {G1 : Nat → Prop} (g : Nat) (l m : List Nat) (c : Cm) (ba ma la da : Option Addr) (bc mc lc dc : Nat) (hc : cErr c = 0) (hsm : smC c) (hw : wfC c) (hl : l.length ≤ 95000) (hm : l ++ cmB c = m)
    (hx : CmG G1 w0 (.slice ba c.data.length bc) (.slice ma c.v.mem.length mc) (.slice la c.v.lvs.length lc) (.slice da c.v.ldr.length dc) c) (w : World) (H : WSt w0.heap.size w0 w g l L) :
    Calls Try.prog 76 #[.pointer (some ⟨g, 0, none⟩), .agg (cmC c ba ma la da bc mc lc dc)] w (Ret fun v w' => v = .tuple #[] ∧ WSt w0.heap.size w0 w' g m L) := by
  obtain ⟨a, cc, H⟩ := H
  have hkind := cErr_kind hc
  have hdl := cErr_data hc
  obtain ⟨k, hk⟩ : ∃ k, c.kind = k := ⟨_, rfl⟩
  have HC := Lib.hid hc
  have HSM := Lib.hid hsm
  have HW := Lib.hid hw
  have hxd := hx.1.sl
  have hxv := Lib.hid hx.2
  replace hx := Lib.hid hx
  simp only [cmC]
  rw [hk] at hkind ⊢
  rcases hkind with hk1 | ⟨hk2, _, _, _⟩ | ⟨hk3, hv⟩
  · subst hk1
    obtain ⟨q1, hq1⟩ : ∃ q1, l ++ shortB 1 = q1 := ⟨_, rfl⟩
    have hq5 : q1 = m := by rw [← hq1, ← hm]; unfold cmB; rw [hk, if_neg (by decide), if_neg (by decide), List.append_nil]; rfl
    subst hq5
    have HQ1 := Lib.hid hq1
    have HK := Lib.hid hk
    clear hq1 hk hc hsm hw hm
    go_enter Try.func76, Try.ntmps76
    go_upto_region 3 with (first | (go_at_call 48; (with_reducible refine (ccheckK_ok c ba ma la da bc mc lc dc 1 HK.out HSM.out HW.out HC.out _ (CmG.grow hx.out H.below)).mono ?_); rintro e w1 ⟨v, rfl, hr⟩; obtain ⟨rfl, hb1⟩ := hr; replace H := H.grow hb1; clear hb1) | (go_at_call 75; (with_reducible refine (wnumK1_ok g l q1 (by omega) HQ1.out _ (WSt.of H pU pU (List.Sublist.refl _))).mono ?_); rintro e w1 ⟨v, rfl, hr⟩; obtain ⟨rfl, a1, c1, H1⟩ := hr; clear H; have H := H1; clear H1) | (with_reducible refine wpl rfl (dQ 3 rfl ?_); with_reducible refine (Stp.box 3 rfl rfl rfl H ?_); clear H; intro g3 w1 H; simp only [pS]; simp only [pE, nC, pS] at H) | (with_reducible refine wpl rfl (ldQ (ty := 36) rfl ?_); first | (with_reducible refine (Stp.ldor rfl agg36 size36 rfl H (by assumption) sZ (by assumption) ?_); simp only [pS]) | (with_reducible refine (Stp.ldr rfl agg36 size36 rfl H mR sZ ?_); simp only [pS]) | (with_reducible refine (Stp.ldl rfl agg36 size36 rfl H mR (by simp) ?_); simp only [pS]; simp only [List.drop_succ_cons, List.drop_zero, List.take_succ_cons, List.take_zero])) | (with_reducible refine wpl rfl (ldQ (ty := 3) rfl ?_); first | (with_reducible refine (Stp.ldo rfl agg3 rfl H (by assumption) (by assumption) ?_); simp only [pS]) | (with_reducible refine (Stp.ldc rfl agg3 rfl H mR cE ?_); simp only [pS])))
    go_wp2_with (first | (with_reducible refine wpl rfl (ldQ (ty := 3) rfl ?_); first | (with_reducible refine (Stp.ldo rfl agg3 rfl H (by assumption) (by assumption) ?_); simp only [pS]) | (with_reducible refine (Stp.ldc rfl agg3 rfl H mR cE ?_); simp only [pS])))
    go_end0
    exact ⟨_, rfl, rfl, WSt.of H pU pU sU⟩
  · subst hk2
    obtain ⟨q1, hq1⟩ : ∃ q1, l ++ shortB 2 = q1 := ⟨_, rfl⟩
    obtain ⟨q2, hq2⟩ : ∃ q2, q1 ++ pidB c.fr.1 c.fr.2 = q2 := ⟨_, rfl⟩
    obtain ⟨q3, hq3⟩ : ∃ q3, q2 ++ shortB c.num = q3 := ⟨_, rfl⟩
    obtain ⟨q4, hq4⟩ : ∃ q4, q3 ++ shortB c.vw = q4 := ⟨_, rfl⟩
    have hq5 : q4 ++ (shortB c.data.length ++ c.data) = m := by
      rw [← hm, ← hq4, ← hq3, ← hq2, ← hq1]
      unfold cmB
      rw [hk, if_pos rfl]
      have e2 : shortB (2 : Int).toNat = shortB 2 := rfl
      rw [e2]
      simp only [List.append_assoc]
    have l1 : q1.length ≤ l.length + 10 := by rw [← hq1, List.length_append]; have := shortB_len 2; omega
    have l2 : q2.length ≤ l.length + 40 := by rw [← hq2, List.length_append]; have := pidB_le c.fr.1 c.fr.2; omega
    have l3 : q3.length ≤ l.length + 60 := by rw [← hq3, List.length_append]; have := shortB_len c.num; omega
    have l4 : q4.length ≤ l.length + 80 := by rw [← hq4, List.length_append]; have := shortB_len c.vw; omega
    have HQ1 := Lib.hid hq1
    have HQ2 := Lib.hid hq2
    have HQ3 := Lib.hid hq3
    have HQ4 := Lib.hid hq4
    have HQ5 := Lib.hid hq5
    have HK := Lib.hid hk
    clear hq1 hq2 hq3 hq4 hq5 hk hc hsm hw hm
    go_enter Try.func76, Try.ntmps76
    go_upto_region 3 with (first | (go_at_call 48; (with_reducible refine (ccheckK_ok c ba ma la da bc mc lc dc 2 HK.out HSM.out HW.out HC.out _ (CmG.grow hx.out H.below)).mono ?_); rintro e w1 ⟨v, rfl, hr⟩; obtain ⟨rfl, hb1⟩ := hr; replace H := H.grow hb1; clear hb1) | (go_at_call 75; (with_reducible refine (wnumK2_ok g l q1 (by omega) HQ1.out _ (WSt.of H pU pU (List.Sublist.refl _))).mono ?_); rintro e w1 ⟨v, rfl, hr⟩; obtain ⟨rfl, a1, c1, H1⟩ := hr; clear H; have H := H1; clear H1) | (with_reducible refine wpl rfl (dQ 3 rfl ?_); with_reducible refine (Stp.box 3 rfl rfl rfl H ?_); clear H; intro g3 w1 H; simp only [pS]; simp only [pE, nC, pS] at H) | (with_reducible refine wpl rfl (ldQ (ty := 36) rfl ?_); first | (with_reducible refine (Stp.ldor rfl agg36 size36 rfl H (by assumption) sZ (by assumption) ?_); simp only [pS]) | (with_reducible refine (Stp.ldr rfl agg36 size36 rfl H mR sZ ?_); simp only [pS]) | (with_reducible refine (Stp.ldl rfl agg36 size36 rfl H mR (by simp) ?_); simp only [pS]; simp only [List.drop_succ_cons, List.drop_zero, List.take_succ_cons, List.take_zero])) | (with_reducible refine wpl rfl (ldQ (ty := 3) rfl ?_); first | (with_reducible refine (Stp.ldo rfl agg3 rfl H (by assumption) (by assumption) ?_); simp only [pS]) | (with_reducible refine (Stp.ldc rfl agg3 rfl H mR cE ?_); simp only [pS])))
    go_upto_region 6 with (first | (go_at_call 102; (with_reducible refine (wpid_ok g q1 q2 c.fr.1 c.fr.2 (by omega) HW.out.fr1 HW.out.fr2 HQ2.out _ (WSt.of H pU pU (List.Sublist.refl _))).mono ?_); rintro e w1 ⟨v, rfl, hr⟩; obtain ⟨rfl, a1, c1, H1⟩ := hr; clear H; have H := H1; clear H1) | (with_reducible refine wpl rfl (ldQ (ty := 3) rfl ?_); first | (with_reducible refine (Stp.ldo rfl agg3 rfl H (by assumption) (by assumption) ?_); simp only [pS]) | (with_reducible refine (Stp.ldc rfl agg3 rfl H mR cE ?_); simp only [pS])) | (with_reducible refine wpl rfl (ldQ (ty := 30) rfl ?_); first | (with_reducible refine (Stp.ldor rfl agg30 size30 rfl H (by assumption) sZ (by assumption) ?_); simp only [pS]) | (with_reducible refine (Stp.ldr rfl agg30 size30 rfl H mR sZ ?_); simp only [pS]) | (with_reducible refine (Stp.ldl rfl agg30 size30 rfl H mR (by simp) ?_); simp only [pS]; simp only [List.drop_succ_cons, List.drop_zero, List.take_succ_cons, List.take_zero])))
    go_upto_region 7 with (first | (go_at_call 75; (with_reducible refine (wnum_ok g q2 q3 c.num (by omega) HW.out.num HQ3.out _ (WSt.of H pU pU (List.Sublist.refl _))).mono ?_); rintro e w1 ⟨v, rfl, hr⟩; obtain ⟨rfl, a1, c1, H1⟩ := hr; clear H; have H := H1; clear H1) | (with_reducible refine wpl rfl (ldQ (ty := 26) rfl ?_); first | (with_reducible refine (Stp.ldo rfl agg26 rfl H (by assumption) (by assumption) ?_); simp only [pS]) | (with_reducible refine (Stp.ldc rfl agg26 rfl H mR cE ?_); simp only [pS])))
    go_upto_region 8 with (first | (go_at_call 75; (with_reducible refine (wnum_ok g q3 q4 c.vw (by omega) HW.out.vw HQ4.out _ (WSt.of H pU pU (List.Sublist.refl _))).mono ?_); rintro e w1 ⟨v, rfl, hr⟩; obtain ⟨rfl, a1, c1, H1⟩ := hr; clear H; have H := H1; clear H1) | (with_reducible refine wpl rfl (ldQ (ty := 26) rfl ?_); first | (with_reducible refine (Stp.ldo rfl agg26 rfl H (by assumption) (by assumption) ?_); simp only [pS]) | (with_reducible refine (Stp.ldc rfl agg26 rfl H mR cE ?_); simp only [pS])))
    go_wp2_with (first | (go_at_call 103; (with_reducible refine (wbytes_ok g q4 m c.data _ (by omega) (by omega) HQ5.out _ (WSt.of H pU pU (List.Sublist.refl _)) (Rd.of_old hxd)).mono ?_); rintro e w1 ⟨v, rfl, hr⟩; obtain ⟨rfl, a1, c1, H1⟩ := hr; clear H; have H := H1; clear H1) | (with_reducible refine wpl rfl (ldQ (ty := 22) rfl ?_); first | (with_reducible refine (Stp.ldo rfl agg22 rfl H (by assumption) (by assumption) ?_); simp only [pS]) | (with_reducible refine (Stp.ldc rfl agg22 rfl H mR cE ?_); simp only [pS])))
    go_end0
    exact ⟨_, rfl, rfl, WSt.of H pU pU sU⟩
  · subst hk3
    obtain ⟨q1, hq1⟩ : ∃ q1, l ++ shortB 3 = q1 := ⟨_, rfl⟩
    have hq5 : q1 ++ vwB c.v = m := by
      rw [← hm, ← hq1]
      unfold cmB
      rw [hk, if_neg (by decide), if_pos rfl]
      have e2 : shortB (3 : Int).toNat = shortB 3 := rfl
      rw [e2]
      simp only [List.append_assoc]
    have l1 : q1.length ≤ l.length + 10 := by rw [← hq1, List.length_append]; have := shortB_len 3; omega
    have HQ1 := Lib.hid hq1
    have HQ5 := Lib.hid hq5
    have HK := Lib.hid hk
    have HV := Lib.hid hv
    clear hq1 hq5 hk hc hsm hw hm hv
    go_enter Try.func76, Try.ntmps76
    go_upto_region 3 with (first | (go_at_call 48; (with_reducible refine (ccheckK_ok c ba ma la da bc mc lc dc 3 HK.out HSM.out HW.out HC.out _ (CmG.grow hx.out H.below)).mono ?_); rintro e w1 ⟨v, rfl, hr⟩; obtain ⟨rfl, hb1⟩ := hr; replace H := H.grow hb1; clear hb1) | (go_at_call 75; (with_reducible refine (wnumK3_ok g l q1 (by omega) HQ1.out _ (WSt.of H pU pU (List.Sublist.refl _))).mono ?_); rintro e w1 ⟨v, rfl, hr⟩; obtain ⟨rfl, a1, c1, H1⟩ := hr; clear H; have H := H1; clear H1) | (with_reducible refine wpl rfl (dQ 3 rfl ?_); with_reducible refine (Stp.box 3 rfl rfl rfl H ?_); clear H; intro g3 w1 H; simp only [pS]; simp only [pE, nC, pS] at H) | (with_reducible refine wpl rfl (ldQ (ty := 36) rfl ?_); first | (with_reducible refine (Stp.ldor rfl agg36 size36 rfl H (by assumption) sZ (by assumption) ?_); simp only [pS]) | (with_reducible refine (Stp.ldr rfl agg36 size36 rfl H mR sZ ?_); simp only [pS]) | (with_reducible refine (Stp.ldl rfl agg36 size36 rfl H mR (by simp) ?_); simp only [pS]; simp only [List.drop_succ_cons, List.drop_zero, List.take_succ_cons, List.take_zero])) | (with_reducible refine wpl rfl (ldQ (ty := 3) rfl ?_); first | (with_reducible refine (Stp.ldo rfl agg3 rfl H (by assumption) (by assumption) ?_); simp only [pS]) | (with_reducible refine (Stp.ldc rfl agg3 rfl H mR cE ?_); simp only [pS])))
    go_wp2_with (first | (go_at_call 104; (with_reducible refine (vput_ok g q1 m c.v ma la da mc lc dc HV.out HSM.out.v HW.out.v (by omega) HQ5.out hxv.out _ (WSt.of H pU pU (List.Sublist.refl _))).mono ?_); rintro e w1 ⟨v, rfl, hr⟩; obtain ⟨rfl, a1, c1, H1⟩ := hr; clear H; have H := H1; clear H1) | (with_reducible refine wpl rfl (ldQ (ty := 3) rfl ?_); first | (with_reducible refine (Stp.ldo rfl agg3 rfl H (by assumption) (by assumption) ?_); simp only [pS]) | (with_reducible refine (Stp.ldc rfl agg3 rfl H mR cE ?_); simp only [pS])) | (with_reducible refine wpl rfl (ldQ (ty := 34) rfl ?_); first | (with_reducible refine (Stp.ldor rfl agg34 size34 rfl H (by assumption) sZ (by assumption) ?_); simp only [pS]) | (with_reducible refine (Stp.ldr rfl agg34 size34 rfl H mR sZ ?_); simp only [pS]) | (with_reducible refine (Stp.ldl rfl agg34 size34 rfl H mR (by simp) ?_); simp only [pS]; simp only [List.drop_succ_cons, List.drop_zero, List.take_succ_cons, List.take_zero])))
    go_end0
    exact ⟨_, rfl, rfl, WSt.of H pU pU sU⟩
end Go.Proofs.Ytmokecicjmjkbaa
