/- The reference's form of a command (choragusref09), of a command that may be; the bounds stand in it. The contract of the reference's Pack of a ledger (choragusref18): its bytes; the bounds stand in it. The contracts of layer 18's Tail (ledger) and of its reference (choragusref18); the bounds stand in each. -/
import Derived.Test.YtmokecicjmjkbaaGy22
import Derived.Test.YtmokecicjmjkbaaGy24
namespace Go.Proofs.Ytmokecicjmjkbaa
open Go.ChangeShapes Go.WideShapes Go.ChangeAt Go.RowKit Go.Maps
set_option linter.unusedVariables false
set_option linter.unusedSimpArgs false
set_option linter.unusedSectionVars false
set_option maxRecDepth 100000
set_option maxHeartbeats 4000000
theorem rnumK1_ok (m : List Nat) (hm : shortB 1 = m) (w : World) :
    Calls Try.prog 78 #[.int .u64 1] w (Ret fun v' w' => (∃ ap cp, v' = .slice ap m.length cp) ∧ w'.ownsRow w.heap.size 5 1 v' m.length (bv m) ∧ Below w.heap.size w w') := rnum_ok m 1 (by omega) hm w
theorem rnumK2_ok (m : List Nat) (hm : shortB 2 = m) (w : World) :
    Calls Try.prog 78 #[.int .u64 2] w (Ret fun v' w' => (∃ ap cp, v' = .slice ap m.length cp) ∧ w'.ownsRow w.heap.size 5 1 v' m.length (bv m) ∧ Below w.heap.size w w') := rnum_ok m 2 (by omega) hm w
theorem rnumK3_ok (m : List Nat) (hm : shortB 3 = m) (w : World) :
    Calls Try.prog 78 #[.int .u64 3] w (Ret fun v' w' => (∃ ap cp, v' = .slice ap m.length cp) ∧ w'.ownsRow w.heap.size 5 1 v' m.length (bv m) ∧ Below w.heap.size w w') := rnum_ok m 3 (by omega) hm w
attribute [local irreducible] cErr vErr vOk rkB pidsB vwB pidB
theorem rcform_ok {G1 : Nat → Prop} (m : List Nat) (c : Cm) (ba ma la da : Option Addr) (bc mc lc dc : Nat) (hc : cErr c = 0) (hsm : smC c) (hw : wfC c) (hm : cmB c = m) (w : World) (hx : CmG G1 w (.slice ba c.data.length bc) (.slice ma c.v.mem.length mc) (.slice la c.v.lvs.length lc) (.slice da c.v.ldr.length dc) c) :
    Calls Try.prog 79 #[.agg (cmC c ba ma la da bc mc lc dc)] w (Ret fun v' w' => (∃ ap cp, v' = .slice ap m.length cp) ∧ w'.ownsRow w.heap.size 5 1 v' m.length (bv m) ∧ Below w.heap.size w w') := by
  have H := St.init w
  have hkind := cErr_kind hc
  have hdl := cErr_data hc
  obtain ⟨k, hk⟩ : ∃ k, c.kind = k := ⟨_, rfl⟩
  have HSM := Lib.hid hsm
  have HW := Lib.hid hw
  have hxd := hx.1.sl
  have hxv := Lib.hid hx.2
  simp only [cmC]
  rw [hk] at hkind ⊢
  rcases hkind with hk1 | ⟨hk2, _, _, _⟩ | ⟨hk3, hv⟩
  · subst hk1
    have hz1 : shortB 1 = m := by rw [← hm]; unfold cmB; rw [hk, if_neg (by decide), if_neg (by decide), List.append_nil]; rfl
    have HZ1 := Lib.hid hz1
    clear hz1 hk hc hsm hw hm hx
    go_enter Try.func79, Try.ntmps79
    go_wp2_with (first | (go_at_call 78; (with_reducible refine (rnumK1_ok m HZ1.out _).mono ?_); rintro e w1 ⟨v, rfl, hr⟩; obtain ⟨⟨an1, cn1, rfl⟩, ho, hb1⟩ := hr; replace H := H.new hb1 (slc_sound ho) (fun g hg => (ho.lt g hg).1); clear hb1 ho) | (with_reducible refine wpl rfl (dQ 1 rfl ?_); with_reducible refine (Stp.box 1 rfl rfl rfl H ?_); clear H; intro g1 w1 H; simp only [pS]; simp only [pE, nC, pS] at H) | (with_reducible refine wpl rfl (ldQ (ty := 3) rfl ?_); first | (with_reducible refine (Stp.ldo rfl agg3 rfl H (by assumption) (by assumption) ?_); simp only [pS]) | (with_reducible refine (Stp.ldc rfl agg3 rfl H mR cE ?_); simp only [pS])) | (with_reducible refine wpl rfl (ldQ (ty := 30) rfl ?_); first | (with_reducible refine (Stp.ldor rfl agg30 size30 rfl H (by assumption) sZ (by assumption) ?_); simp only [pS]) | (with_reducible refine (Stp.ldr rfl agg30 size30 rfl H mR sZ ?_); simp only [pS]) | (with_reducible refine (Stp.ldl rfl agg30 size30 rfl H mR (by simp) ?_); simp only [pS]; simp only [List.drop_succ_cons, List.drop_zero, List.take_succ_cons, List.take_zero])) | (with_reducible refine wpl rfl (ldQ (ty := 26) rfl ?_); first | (with_reducible refine (Stp.ldo rfl agg26 rfl H (by assumption) (by assumption) ?_); simp only [pS]) | (with_reducible refine (Stp.ldc rfl agg26 rfl H mR cE ?_); simp only [pS])) | (with_reducible refine wpl rfl (ldQ (ty := 22) rfl ?_); first | (with_reducible refine (Stp.ldo rfl agg22 rfl H (by assumption) (by assumption) ?_); simp only [pS]) | (with_reducible refine (Stp.ldc rfl agg22 rfl H mR cE ?_); simp only [pS])) | (with_reducible refine wpl rfl (ldQ (ty := 34) rfl ?_); first | (with_reducible refine (Stp.ldor rfl agg34 size34 rfl H (by assumption) sZ (by assumption) ?_); simp only [pS]) | (with_reducible refine (Stp.ldr rfl agg34 size34 rfl H mR sZ ?_); simp only [pS]) | (with_reducible refine (Stp.ldl rfl agg34 size34 rfl H mR (by simp) ?_); simp only [pS]; simp only [List.drop_succ_cons, List.drop_zero, List.take_succ_cons, List.take_zero])))
    go_ret
    exact ⟨_, rfl, ⟨_, _, rfl⟩, H.getSlc mE, H.below⟩
  · subst hk2
    obtain ⟨z1, hz1⟩ : ∃ z, shortB 2 = z := ⟨_, rfl⟩
    obtain ⟨z2, hz2⟩ : ∃ z, pidB c.fr.1 c.fr.2 = z := ⟨_, rfl⟩
    obtain ⟨z3, hz3⟩ : ∃ z, shortB c.num = z := ⟨_, rfl⟩
    obtain ⟨z4, hz4⟩ : ∃ z, shortB c.vw = z := ⟨_, rfl⟩
    obtain ⟨z5, hz5⟩ : ∃ z, shortB c.data.length ++ c.data = z := ⟨_, rfl⟩
    obtain ⟨q2, hq2⟩ : ∃ q2, z1 ++ z2 = q2 := ⟨_, rfl⟩
    obtain ⟨q3, hq3⟩ : ∃ q3, q2 ++ z3 = q3 := ⟨_, rfl⟩
    obtain ⟨q4, hq4⟩ : ∃ q4, q3 ++ z4 = q4 := ⟨_, rfl⟩
    have hq5 : q4 ++ z5 = m := by
      rw [← hm, ← hq4, ← hq3, ← hq2, ← hz5, ← hz4, ← hz3, ← hz2, ← hz1]
      unfold cmB
      rw [hk, if_pos rfl]
      have e2 : shortB (2 : Int).toNat = shortB 2 := rfl
      rw [e2]
      simp only [List.append_assoc]
    have l1 : z1.length ≤ 10 := by rw [← hz1]; exact shortB_len _
    have l2 : z2.length ≤ 20 := by rw [← hz2]; exact pidB_le _ _
    have l3 : z3.length ≤ 10 := by rw [← hz3]; exact shortB_len _
    have l4 : z4.length ≤ 10 := by rw [← hz4]; exact shortB_len _
    have l5 : z5.length ≤ 210 := by rw [← hz5, List.length_append]; have := shortB_len c.data.length; omega
    have HZ1 := Lib.hid hz1
    have HZ2 := Lib.hid hz2
    have HZ3 := Lib.hid hz3
    have HZ4 := Lib.hid hz4
    have HZ5 := Lib.hid hz5
    have HQ2 := Lib.hid hq2
    have HQ3 := Lib.hid hq3
    have HQ4 := Lib.hid hq4
    have HQ5 := Lib.hid hq5
    have HL2 : Hid (z1.length + z2.length = q2.length) := Lib.hid (by rw [← hq2, List.length_append])
    have HL3 : Hid (q2.length + z3.length = q3.length) := Lib.hid (by rw [← hq3, List.length_append])
    have HL4 : Hid (q3.length + z4.length = q4.length) := Lib.hid (by rw [← hq4, List.length_append])
    have HL5 : Hid (q4.length + z5.length = m.length) := Lib.hid (by rw [← hq5, List.length_append])
    have m2 : q2.length ≤ 30 := by have := HL2.out; omega
    have m3 : q3.length ≤ 40 := by have := HL3.out; omega
    have m4 : q4.length ≤ 50 := by have := HL4.out; omega
    clear hz1 hz2 hz3 hz4 hz5 hq2 hq3 hq4 hq5 hk hc hsm hw hm hx
    go_enter Try.func79, Try.ntmps79
    go_upto_region 3 with (first | (go_at_call 78; (with_reducible refine (rnumK2_ok z1 HZ1.out _).mono ?_); rintro e w1 ⟨v, rfl, hr⟩; obtain ⟨⟨an1, cn1, rfl⟩, ho, hb1⟩ := hr; replace H := H.new hb1 (slc_sound ho) (fun g hg => (ho.lt g hg).1); clear hb1 ho) | (with_reducible refine wpl rfl (dQ 1 rfl ?_); with_reducible refine (Stp.box 1 rfl rfl rfl H ?_); clear H; intro g1 w1 H; simp only [pS]; simp only [pE, nC, pS] at H) | (with_reducible refine wpl rfl (ldQ (ty := 3) rfl ?_); first | (with_reducible refine (Stp.ldo rfl agg3 rfl H (by assumption) (by assumption) ?_); simp only [pS]) | (with_reducible refine (Stp.ldc rfl agg3 rfl H mR cE ?_); simp only [pS])) | (with_reducible refine wpl rfl (ldQ (ty := 30) rfl ?_); first | (with_reducible refine (Stp.ldor rfl agg30 size30 rfl H (by assumption) sZ (by assumption) ?_); simp only [pS]) | (with_reducible refine (Stp.ldr rfl agg30 size30 rfl H mR sZ ?_); simp only [pS]) | (with_reducible refine (Stp.ldl rfl agg30 size30 rfl H mR (by simp) ?_); simp only [pS]; simp only [List.drop_succ_cons, List.drop_zero, List.take_succ_cons, List.take_zero])) | (with_reducible refine wpl rfl (ldQ (ty := 26) rfl ?_); first | (with_reducible refine (Stp.ldo rfl agg26 rfl H (by assumption) (by assumption) ?_); simp only [pS]) | (with_reducible refine (Stp.ldc rfl agg26 rfl H mR cE ?_); simp only [pS])) | (with_reducible refine wpl rfl (ldQ (ty := 22) rfl ?_); first | (with_reducible refine (Stp.ldo rfl agg22 rfl H (by assumption) (by assumption) ?_); simp only [pS]) | (with_reducible refine (Stp.ldc rfl agg22 rfl H mR cE ?_); simp only [pS])) | (with_reducible refine wpl rfl (ldQ (ty := 34) rfl ?_); first | (with_reducible refine (Stp.ldor rfl agg34 size34 rfl H (by assumption) sZ (by assumption) ?_); simp only [pS]) | (with_reducible refine (Stp.ldr rfl agg34 size34 rfl H mR sZ ?_); simp only [pS]) | (with_reducible refine (Stp.ldl rfl agg34 size34 rfl H mR (by simp) ?_); simp only [pS]; simp only [List.drop_succ_cons, List.drop_zero, List.take_succ_cons, List.take_zero])))
    go_upto_region 4 with (first | (go_at_call 106; (with_reducible refine (rpput_as z2 c.fr.1 c.fr.2 HW.out.fr1 HW.out.fr2 HZ2.out _).mono ?_); rintro e w1 ⟨v, rfl, hr⟩; obtain ⟨⟨an2, cn2, rfl⟩, ho, hb1⟩ := hr; replace H := H.new hb1 (slc_sound ho) (fun g hg => (ho.lt g hg).1); clear hb1 ho) | (with_reducible refine wpl rfl (dQ 15 rfl ?_); with_reducible refine (Stp.apps 15 rfl rfl Try.underlying22 info5 rfl (by decide) rfl rfl H (fun _ => uP) (by rw [bv_len, Nat.mul_one]) (own_src (H.getSlc (xs := bv z2) mE)) (bv_one z2) (by unfold maxLen; omega) (by omega) ?_); clear H; intro a15 c15 w1 H; simp only [pS]; rw [bv_app, HQ2.out, HL2.out] at H; rw [HL2.out]) | (with_reducible refine wpl rfl (dQ 1 rfl ?_); with_reducible refine (Stp.box 1 rfl rfl rfl H ?_); clear H; intro g1 w1 H; simp only [pS]; simp only [pE, nC, pS] at H) | (with_reducible refine wpl rfl (ldQ (ty := 3) rfl ?_); first | (with_reducible refine (Stp.ldo rfl agg3 rfl H (by assumption) (by assumption) ?_); simp only [pS]) | (with_reducible refine (Stp.ldc rfl agg3 rfl H mR cE ?_); simp only [pS])) | (with_reducible refine wpl rfl (ldQ (ty := 30) rfl ?_); first | (with_reducible refine (Stp.ldor rfl agg30 size30 rfl H (by assumption) sZ (by assumption) ?_); simp only [pS]) | (with_reducible refine (Stp.ldr rfl agg30 size30 rfl H mR sZ ?_); simp only [pS]) | (with_reducible refine (Stp.ldl rfl agg30 size30 rfl H mR (by simp) ?_); simp only [pS]; simp only [List.drop_succ_cons, List.drop_zero, List.take_succ_cons, List.take_zero])) | (with_reducible refine wpl rfl (ldQ (ty := 26) rfl ?_); first | (with_reducible refine (Stp.ldo rfl agg26 rfl H (by assumption) (by assumption) ?_); simp only [pS]) | (with_reducible refine (Stp.ldc rfl agg26 rfl H mR cE ?_); simp only [pS])) | (with_reducible refine wpl rfl (ldQ (ty := 22) rfl ?_); first | (with_reducible refine (Stp.ldo rfl agg22 rfl H (by assumption) (by assumption) ?_); simp only [pS]) | (with_reducible refine (Stp.ldc rfl agg22 rfl H mR cE ?_); simp only [pS])) | (with_reducible refine wpl rfl (ldQ (ty := 34) rfl ?_); first | (with_reducible refine (Stp.ldor rfl agg34 size34 rfl H (by assumption) sZ (by assumption) ?_); simp only [pS]) | (with_reducible refine (Stp.ldr rfl agg34 size34 rfl H mR sZ ?_); simp only [pS]) | (with_reducible refine (Stp.ldl rfl agg34 size34 rfl H mR (by simp) ?_); simp only [pS]; simp only [List.drop_succ_cons, List.drop_zero, List.take_succ_cons, List.take_zero])))
    go_upto_region 5 with (first | (go_at_call 78; (with_reducible refine (rnum_ok z3 c.num HW.out.num HZ3.out _).mono ?_); rintro e w1 ⟨v, rfl, hr⟩; obtain ⟨⟨an3, cn3, rfl⟩, ho, hb1⟩ := hr; replace H := H.new hb1 (slc_sound ho) (fun g hg => (ho.lt g hg).1); clear hb1 ho) | (with_reducible refine wpl rfl (dQ 20 rfl ?_); with_reducible refine (Stp.apps 20 rfl rfl Try.underlying22 info5 rfl (by decide) rfl rfl H (fun _ => uP) (by rw [bv_len, Nat.mul_one]) (own_src (H.getSlc (xs := bv z3) mE)) (bv_one z3) (by unfold maxLen; omega) (by omega) ?_); clear H; intro a20 c20 w1 H; simp only [pS]; rw [bv_app, HQ3.out, HL3.out] at H; rw [HL3.out]) | (with_reducible refine wpl rfl (dQ 1 rfl ?_); with_reducible refine (Stp.box 1 rfl rfl rfl H ?_); clear H; intro g1 w1 H; simp only [pS]; simp only [pE, nC, pS] at H) | (with_reducible refine wpl rfl (ldQ (ty := 3) rfl ?_); first | (with_reducible refine (Stp.ldo rfl agg3 rfl H (by assumption) (by assumption) ?_); simp only [pS]) | (with_reducible refine (Stp.ldc rfl agg3 rfl H mR cE ?_); simp only [pS])) | (with_reducible refine wpl rfl (ldQ (ty := 30) rfl ?_); first | (with_reducible refine (Stp.ldor rfl agg30 size30 rfl H (by assumption) sZ (by assumption) ?_); simp only [pS]) | (with_reducible refine (Stp.ldr rfl agg30 size30 rfl H mR sZ ?_); simp only [pS]) | (with_reducible refine (Stp.ldl rfl agg30 size30 rfl H mR (by simp) ?_); simp only [pS]; simp only [List.drop_succ_cons, List.drop_zero, List.take_succ_cons, List.take_zero])) | (with_reducible refine wpl rfl (ldQ (ty := 26) rfl ?_); first | (with_reducible refine (Stp.ldo rfl agg26 rfl H (by assumption) (by assumption) ?_); simp only [pS]) | (with_reducible refine (Stp.ldc rfl agg26 rfl H mR cE ?_); simp only [pS])) | (with_reducible refine wpl rfl (ldQ (ty := 22) rfl ?_); first | (with_reducible refine (Stp.ldo rfl agg22 rfl H (by assumption) (by assumption) ?_); simp only [pS]) | (with_reducible refine (Stp.ldc rfl agg22 rfl H mR cE ?_); simp only [pS])) | (with_reducible refine wpl rfl (ldQ (ty := 34) rfl ?_); first | (with_reducible refine (Stp.ldor rfl agg34 size34 rfl H (by assumption) sZ (by assumption) ?_); simp only [pS]) | (with_reducible refine (Stp.ldr rfl agg34 size34 rfl H mR sZ ?_); simp only [pS]) | (with_reducible refine (Stp.ldl rfl agg34 size34 rfl H mR (by simp) ?_); simp only [pS]; simp only [List.drop_succ_cons, List.drop_zero, List.take_succ_cons, List.take_zero])))
    go_upto_region 6 with (first | (go_at_call 78; (with_reducible refine (rnum_ok z4 c.vw HW.out.vw HZ4.out _).mono ?_); rintro e w1 ⟨v, rfl, hr⟩; obtain ⟨⟨an4, cn4, rfl⟩, ho, hb1⟩ := hr; replace H := H.new hb1 (slc_sound ho) (fun g hg => (ho.lt g hg).1); clear hb1 ho) | (with_reducible refine wpl rfl (dQ 25 rfl ?_); with_reducible refine (Stp.apps 25 rfl rfl Try.underlying22 info5 rfl (by decide) rfl rfl H (fun _ => uP) (by rw [bv_len, Nat.mul_one]) (own_src (H.getSlc (xs := bv z4) mE)) (bv_one z4) (by unfold maxLen; omega) (by omega) ?_); clear H; intro a25 c25 w1 H; simp only [pS]; rw [bv_app, HQ4.out, HL4.out] at H; rw [HL4.out]) | (with_reducible refine wpl rfl (dQ 1 rfl ?_); with_reducible refine (Stp.box 1 rfl rfl rfl H ?_); clear H; intro g1 w1 H; simp only [pS]; simp only [pE, nC, pS] at H) | (with_reducible refine wpl rfl (ldQ (ty := 3) rfl ?_); first | (with_reducible refine (Stp.ldo rfl agg3 rfl H (by assumption) (by assumption) ?_); simp only [pS]) | (with_reducible refine (Stp.ldc rfl agg3 rfl H mR cE ?_); simp only [pS])) | (with_reducible refine wpl rfl (ldQ (ty := 30) rfl ?_); first | (with_reducible refine (Stp.ldor rfl agg30 size30 rfl H (by assumption) sZ (by assumption) ?_); simp only [pS]) | (with_reducible refine (Stp.ldr rfl agg30 size30 rfl H mR sZ ?_); simp only [pS]) | (with_reducible refine (Stp.ldl rfl agg30 size30 rfl H mR (by simp) ?_); simp only [pS]; simp only [List.drop_succ_cons, List.drop_zero, List.take_succ_cons, List.take_zero])) | (with_reducible refine wpl rfl (ldQ (ty := 26) rfl ?_); first | (with_reducible refine (Stp.ldo rfl agg26 rfl H (by assumption) (by assumption) ?_); simp only [pS]) | (with_reducible refine (Stp.ldc rfl agg26 rfl H mR cE ?_); simp only [pS])) | (with_reducible refine wpl rfl (ldQ (ty := 22) rfl ?_); first | (with_reducible refine (Stp.ldo rfl agg22 rfl H (by assumption) (by assumption) ?_); simp only [pS]) | (with_reducible refine (Stp.ldc rfl agg22 rfl H mR cE ?_); simp only [pS])) | (with_reducible refine wpl rfl (ldQ (ty := 34) rfl ?_); first | (with_reducible refine (Stp.ldor rfl agg34 size34 rfl H (by assumption) sZ (by assumption) ?_); simp only [pS]) | (with_reducible refine (Stp.ldr rfl agg34 size34 rfl H mR sZ ?_); simp only [pS]) | (with_reducible refine (Stp.ldl rfl agg34 size34 rfl H mR (by simp) ?_); simp only [pS]; simp only [List.drop_succ_cons, List.drop_zero, List.take_succ_cons, List.take_zero])))
    go_wp2_with (first | (go_at_call 107; (with_reducible refine (rbytes_ok c.data z5 _ (by omega) HZ5.out _ (hxd.grow H.below)).mono ?_); rintro e w1 ⟨v, rfl, hr⟩; obtain ⟨⟨an5, cn5, rfl⟩, ho, hb1⟩ := hr; replace H := H.new hb1 (slc_sound ho) (fun g hg => (ho.lt g hg).1); clear hb1 ho) | (with_reducible refine wpl rfl (dQ 30 rfl ?_); with_reducible refine (Stp.apps 30 rfl rfl Try.underlying22 info5 rfl (by decide) rfl rfl H (fun _ => uP) (by rw [bv_len, Nat.mul_one]) (own_src (H.getSlc (xs := bv z5) mE)) (bv_one z5) (by unfold maxLen; omega) (by omega) ?_); clear H; intro a30 c30 w1 H; simp only [pS]; rw [bv_app, HQ5.out, HL5.out] at H; rw [HL5.out]) | (with_reducible refine wpl rfl (dQ 1 rfl ?_); with_reducible refine (Stp.box 1 rfl rfl rfl H ?_); clear H; intro g1 w1 H; simp only [pS]; simp only [pE, nC, pS] at H) | (with_reducible refine wpl rfl (ldQ (ty := 3) rfl ?_); first | (with_reducible refine (Stp.ldo rfl agg3 rfl H (by assumption) (by assumption) ?_); simp only [pS]) | (with_reducible refine (Stp.ldc rfl agg3 rfl H mR cE ?_); simp only [pS])) | (with_reducible refine wpl rfl (ldQ (ty := 30) rfl ?_); first | (with_reducible refine (Stp.ldor rfl agg30 size30 rfl H (by assumption) sZ (by assumption) ?_); simp only [pS]) | (with_reducible refine (Stp.ldr rfl agg30 size30 rfl H mR sZ ?_); simp only [pS]) | (with_reducible refine (Stp.ldl rfl agg30 size30 rfl H mR (by simp) ?_); simp only [pS]; simp only [List.drop_succ_cons, List.drop_zero, List.take_succ_cons, List.take_zero])) | (with_reducible refine wpl rfl (ldQ (ty := 26) rfl ?_); first | (with_reducible refine (Stp.ldo rfl agg26 rfl H (by assumption) (by assumption) ?_); simp only [pS]) | (with_reducible refine (Stp.ldc rfl agg26 rfl H mR cE ?_); simp only [pS])) | (with_reducible refine wpl rfl (ldQ (ty := 22) rfl ?_); first | (with_reducible refine (Stp.ldo rfl agg22 rfl H (by assumption) (by assumption) ?_); simp only [pS]) | (with_reducible refine (Stp.ldc rfl agg22 rfl H mR cE ?_); simp only [pS])) | (with_reducible refine wpl rfl (ldQ (ty := 34) rfl ?_); first | (with_reducible refine (Stp.ldor rfl agg34 size34 rfl H (by assumption) sZ (by assumption) ?_); simp only [pS]) | (with_reducible refine (Stp.ldr rfl agg34 size34 rfl H mR sZ ?_); simp only [pS]) | (with_reducible refine (Stp.ldl rfl agg34 size34 rfl H mR (by simp) ?_); simp only [pS]; simp only [List.drop_succ_cons, List.drop_zero, List.take_succ_cons, List.take_zero])))
    go_ret
    exact ⟨_, rfl, ⟨_, _, rfl⟩, H.getSlc mE, H.below⟩
  · subst hk3
    obtain ⟨z1, hz1⟩ : ∃ z, shortB 3 = z := ⟨_, rfl⟩
    obtain ⟨z5, hz5⟩ : ∃ z, vwB c.v = z := ⟨_, rfl⟩
    have hq5 : z1 ++ z5 = m := by
      rw [← hm, ← hz5, ← hz1]
      unfold cmB
      rw [hk, if_neg (by decide), if_pos rfl]
      rfl
    have l1 : z1.length ≤ 10 := by rw [← hz1]; exact shortB_len _
    have l5 : z5.length ≤ 1260 := by rw [← hz5]; exact vwB_len hv
    have HZ1 := Lib.hid hz1
    have HZ5 := Lib.hid hz5
    have HQ5 := Lib.hid hq5
    have HL5 : Hid (z1.length + z5.length = m.length) := Lib.hid (by rw [← hq5, List.length_append])
    have HV := Lib.hid hv
    clear hz1 hz5 hq5 hk hc hsm hw hm hv hx
    go_enter Try.func79, Try.ntmps79
    go_upto_region 3 with (first | (go_at_call 78; (with_reducible refine (rnumK3_ok z1 HZ1.out _).mono ?_); rintro e w1 ⟨v, rfl, hr⟩; obtain ⟨⟨an1, cn1, rfl⟩, ho, hb1⟩ := hr; replace H := H.new hb1 (slc_sound ho) (fun g hg => (ho.lt g hg).1); clear hb1 ho) | (with_reducible refine wpl rfl (dQ 1 rfl ?_); with_reducible refine (Stp.box 1 rfl rfl rfl H ?_); clear H; intro g1 w1 H; simp only [pS]; simp only [pE, nC, pS] at H) | (with_reducible refine wpl rfl (ldQ (ty := 3) rfl ?_); first | (with_reducible refine (Stp.ldo rfl agg3 rfl H (by assumption) (by assumption) ?_); simp only [pS]) | (with_reducible refine (Stp.ldc rfl agg3 rfl H mR cE ?_); simp only [pS])) | (with_reducible refine wpl rfl (ldQ (ty := 30) rfl ?_); first | (with_reducible refine (Stp.ldor rfl agg30 size30 rfl H (by assumption) sZ (by assumption) ?_); simp only [pS]) | (with_reducible refine (Stp.ldr rfl agg30 size30 rfl H mR sZ ?_); simp only [pS]) | (with_reducible refine (Stp.ldl rfl agg30 size30 rfl H mR (by simp) ?_); simp only [pS]; simp only [List.drop_succ_cons, List.drop_zero, List.take_succ_cons, List.take_zero])) | (with_reducible refine wpl rfl (ldQ (ty := 26) rfl ?_); first | (with_reducible refine (Stp.ldo rfl agg26 rfl H (by assumption) (by assumption) ?_); simp only [pS]) | (with_reducible refine (Stp.ldc rfl agg26 rfl H mR cE ?_); simp only [pS])) | (with_reducible refine wpl rfl (ldQ (ty := 22) rfl ?_); first | (with_reducible refine (Stp.ldo rfl agg22 rfl H (by assumption) (by assumption) ?_); simp only [pS]) | (with_reducible refine (Stp.ldc rfl agg22 rfl H mR cE ?_); simp only [pS])) | (with_reducible refine wpl rfl (ldQ (ty := 34) rfl ?_); first | (with_reducible refine (Stp.ldor rfl agg34 size34 rfl H (by assumption) sZ (by assumption) ?_); simp only [pS]) | (with_reducible refine (Stp.ldr rfl agg34 size34 rfl H mR sZ ?_); simp only [pS]) | (with_reducible refine (Stp.ldl rfl agg34 size34 rfl H mR (by simp) ?_); simp only [pS]; simp only [List.drop_succ_cons, List.drop_zero, List.take_succ_cons, List.take_zero])))
    go_wp2_with (first | (go_at_call 108; (with_reducible refine (rvform_ok z5 c.v ma la da mc lc dc HV.out HSM.out.v HW.out.v HZ5.out _ (VwG.grow hxv.out H.below)).mono ?_); rintro e w1 ⟨v, rfl, hr⟩; obtain ⟨⟨an5, cn5, rfl⟩, ho, hb1⟩ := hr; replace H := H.new hb1 (slc_sound ho) (fun g hg => (ho.lt g hg).1); clear hb1 ho) | (with_reducible refine wpl rfl (dQ 38 rfl ?_); with_reducible refine (Stp.apps 38 rfl rfl Try.underlying22 info5 rfl (by decide) rfl rfl H (fun _ => uP) (by rw [bv_len, Nat.mul_one]) (own_src (H.getSlc (xs := bv z5) mE)) (bv_one z5) (by unfold maxLen; omega) (by omega) ?_); clear H; intro a38 c38 w1 H; simp only [pS]; rw [bv_app, HQ5.out, HL5.out] at H; rw [HL5.out]) | (with_reducible refine wpl rfl (dQ 1 rfl ?_); with_reducible refine (Stp.box 1 rfl rfl rfl H ?_); clear H; intro g1 w1 H; simp only [pS]; simp only [pE, nC, pS] at H) | (with_reducible refine wpl rfl (ldQ (ty := 3) rfl ?_); first | (with_reducible refine (Stp.ldo rfl agg3 rfl H (by assumption) (by assumption) ?_); simp only [pS]) | (with_reducible refine (Stp.ldc rfl agg3 rfl H mR cE ?_); simp only [pS])) | (with_reducible refine wpl rfl (ldQ (ty := 30) rfl ?_); first | (with_reducible refine (Stp.ldor rfl agg30 size30 rfl H (by assumption) sZ (by assumption) ?_); simp only [pS]) | (with_reducible refine (Stp.ldr rfl agg30 size30 rfl H mR sZ ?_); simp only [pS]) | (with_reducible refine (Stp.ldl rfl agg30 size30 rfl H mR (by simp) ?_); simp only [pS]; simp only [List.drop_succ_cons, List.drop_zero, List.take_succ_cons, List.take_zero])) | (with_reducible refine wpl rfl (ldQ (ty := 26) rfl ?_); first | (with_reducible refine (Stp.ldo rfl agg26 rfl H (by assumption) (by assumption) ?_); simp only [pS]) | (with_reducible refine (Stp.ldc rfl agg26 rfl H mR cE ?_); simp only [pS])) | (with_reducible refine wpl rfl (ldQ (ty := 22) rfl ?_); first | (with_reducible refine (Stp.ldo rfl agg22 rfl H (by assumption) (by assumption) ?_); simp only [pS]) | (with_reducible refine (Stp.ldc rfl agg22 rfl H mR cE ?_); simp only [pS])) | (with_reducible refine wpl rfl (ldQ (ty := 34) rfl ?_); first | (with_reducible refine (Stp.ldor rfl agg34 size34 rfl H (by assumption) sZ (by assumption) ?_); simp only [pS]) | (with_reducible refine (Stp.ldr rfl agg34 size34 rfl H mR sZ ?_); simp only [pS]) | (with_reducible refine (Stp.ldl rfl agg34 size34 rfl H mR (by simp) ?_); simp only [pS]; simp only [List.drop_succ_cons, List.drop_zero, List.take_succ_cons, List.take_zero])))
    go_ret
    exact ⟨_, rfl, ⟨_, _, rfl⟩, H.getSlc mE, H.below⟩
end Go.Proofs.Ytmokecicjmjkbaa
namespace Go.Proofs.Ytmokecicjmjkbaa
open Go.ChangeShapes Go.WideShapes Go.ChangeAt Go.RowKit Go.Maps
set_option linter.unusedVariables false
set_option linter.unusedSimpArgs false
set_option linter.unusedSectionVars false
set_option maxRecDepth 100000
set_option maxHeartbeats 4000000
/-- The reference's ledger that lies in memory. -/
def XlW (G1 : Nat → Prop) (w : World) (gx ap s : Nat) (ks : List (Cm × Hd)) : Prop := ∃ (xa : Option Addr) (xc : Nat), w.heap[gx]? = some (.cells #[.int .u64 (ap : Int), .slice xa ks.length xc] 65 (0, 0)) ∧ (0 < ks.length → ∃ gk ok, xa = some ⟨gk, ok, none⟩ ∧ gk < w.heap.size ∧ ∀ d u, (ov s ks)[d]? = some u → w.cell? ⟨gk, ok + d, none⟩ = some u) ∧ ∀ p ∈ ks, CmG G1 w (.slice p.2.ba p.1.data.length p.2.bc) (.slice p.2.ma p.1.v.mem.length p.2.mc) (.slice p.2.la p.1.v.lvs.length p.2.lc) (.slice p.2.da p.1.v.ldr.length p.2.dc) p.1
theorem St.xlw {B : Nat} {w0 w : World} {L : List Res} {G1 : Nat → Prop} {gx ap s : Nat} {ks : List (Cm × Hd)} {xa : Option Addr} {xc : Nat} (H : St B w0 w L) (h1 : row 65 gx #[.int .u64 (ap : Int), .slice xa ks.length xc] ∈ L) (h2 : slo 116 11 (.slice xa ks.length xc) ks.length (ov s ks) ∈ L) (h3 : ∀ p ∈ ks, CmG G1 w (.slice p.2.ba p.1.data.length p.2.bc) (.slice p.2.ma p.1.v.mem.length p.2.mc) (.slice p.2.la p.1.v.lvs.length p.2.lc) (.slice p.2.da p.1.v.ldr.length p.2.dc) p.1) : XlW G1 w gx ap s ks := by
  refine ⟨xa, xc, H.getHeap h1, fun h0 => ?_, h3⟩
  obtain ⟨gk, ok, rfl⟩ := H.slo_addr h2 h0
  exact ⟨gk, ok, rfl, (H.sound _ h2).lt gk rfl, fun d u hd => H.slo_cell h2 hd⟩
attribute [local irreducible] cErr cmB
theorem rlpack_ok {G1 : Nat → Prop} (gx ap s : Nat) (ks : List (Cm × Hd)) (m : List Nat) (ha : ap < 18446744073709551616) (hn : ks.length ≤ 64) (hok : ∀ p ∈ ks, cErr p.1 = 0 ∧ smC p.1 ∧ wfC p.1) (hm : lgB ap (ks.map (·.1)) = m) (w : World) (hw : XlW G1 w gx ap s ks) :
    Calls Try.prog 45 #[.pointer (some ⟨gx, 0, none⟩)] w (Ret fun v' w' => (∃ ap cp, v' = .slice ap m.length cp) ∧ w'.ownsRow w.heap.size 5 1 v' m.length (bv m) ∧ Below w.heap.size w w') := by
  obtain ⟨xa, xc, hrow, hel, hcm⟩ := hw
  have H := St.init w
  have hc0 : w.cell? ⟨gx, 0, none⟩ = some (.int .u64 (ap : Int)) := by rw [cell_of_rowAt (rowAt_of hrow)]; rfl
  have hc1 : w.cell? ⟨gx, 1, none⟩ = some (.slice xa ks.length xc) := by rw [cell_of_rowAt (rowAt_of hrow)]; rfl
  have hlt0 : gx < w.heap.size := rowAt_lt (rowAt_of hrow)
  obtain ⟨cs, hcs⟩ : ∃ cs, ks.map (·.1) = cs := ⟨_, rfl⟩
  obtain ⟨n, hkn⟩ : ∃ n, ks.length = n := ⟨_, rfl⟩
  have hcn : cs.length = n := by rw [← hcs, List.length_map, hkn]
  obtain ⟨z1, hz1⟩ : ∃ z, shortB ap = z := ⟨_, rfl⟩
  obtain ⟨z2, hz2⟩ : ∃ z, shortB n = z := ⟨_, rfl⟩
  obtain ⟨q2, hq2⟩ : ∃ q2, z1 ++ z2 = q2 := ⟨_, rfl⟩
  have hq3 : q2 ++ cs.flatMap cmB = m := by rw [← hm, ← hq2, ← hz1, ← hz2, hcs]; unfold lgB; rw [hcn]
  have l1 : z1.length ≤ 10 := by rw [← hz1]; exact shortB_len _
  have l2 : z2.length ≤ 10 := by rw [← hz2]; exact shortB_len _
  have HL2 : Hid (z1.length + z2.length = q2.length) := Lib.hid (by rw [← hq2, List.length_append])
  have m2 : q2.length ≤ 20 := by have := HL2.out; omega
  have HZ1 := Lib.hid hz1
  have HZ2 := Lib.hid hz2
  have HQ2 := Lib.hid hq2
  have HQ3 := Lib.hid hq3
  have HKN := Lib.hid hkn
  have HCN := Lib.hid hcn
  have HCS := Lib.hid hcs
  have HEL := Lib.hid hel
  have HCM := Lib.hid hcm
  have HOKS := Lib.hid hok
  rw [hkn] at hc1 hn
  have w1r : IntKind.u64.wrap (n : Int) = (n : Int) := wrap_u64_in _ (by omega) (by omega)
  clear hrow hcs hkn hcn hz1 hz2 hq2 hq3 hel hcm hok hm
  go_enter Try.func45, Try.ntmps45
  go_wp2_with (first | (with_reducible refine wpl rfl (ldQ (ty := 63) rfl ?_); first | (with_reducible refine (Stp.ldo rfl agg63 rfl H (by assumption) (by assumption) ?_); simp only [pS]) | (with_reducible refine (Stp.ldc rfl agg63 rfl H mR cE ?_); simp only [pS])) | (with_reducible refine wpl rfl (ldQ (ty := 36) rfl ?_); first | (with_reducible refine (Stp.ldor rfl agg36 size36 rfl H (by assumption) sZ (by assumption) ?_); simp only [pS]) | (with_reducible refine (Stp.ldr rfl agg36 size36 rfl H mR sZ ?_); simp only [pS]) | (with_reducible refine (Stp.ldl rfl agg36 size36 rfl H mR (by simp) ?_); simp only [pS]; simp only [List.drop_succ_cons, List.drop_zero, List.take_succ_cons, List.take_zero])))
  refine rg_begin 14 rfl (S := fun W => St _ _ W ([] : List Res)) (by kernel_rfl) (H.drew.sub sU) ?_
  replace H := H.drew
  have HS := H
  refine rg_take (i := 0) rfl kR kR kR (Yld.move rfl rfl) (H.sub sU) ?_; simp only [pS, pE]
  refine rg_take (i := 1) rfl kR kR kR (Yld.o rfl) (H.sub sU) ?_; simp only [pS]
  refine rg_take (i := 2) rfl kR kR kR (Yld.o rfl) (H.sub sU) ?_; simp only [pS]
  first | (refine rg_take (i := 3) rfl kR kR kR (Yld.ldo rfl rfl agg26 rfl (by assumption) (by assumption)) (H.sub sU) ?_; simp only [pS]) | (refine rg_take (i := 3) rfl kR kR kR (Yld.ldc rfl rfl agg26 rfl mR cE) (H.sub sU) ?_; simp only [pS])
  refine rg_take (i := 5) rfl kR kR kR (Yld.move rfl rfl) (H.sub sU) ?_; simp only [pS, pE]
  refine rg_take (i := 6) rfl kR kR kR (Yld.o rfl) (H.sub sU) ?_; simp only [pS]
  refine rg_take (i := 7) rfl kR kR kR (Yld.o rfl) (H.sub sU) ?_; simp only [pS]
  first | (refine rg_take (i := 8) rfl kR kR kR (Yld.ldo rfl rfl agg63 rfl (by assumption) (by assumption)) (H.sub sU) ?_; simp only [pS]) | (refine rg_take (i := 8) rfl kR kR kR (Yld.ldc rfl rfl agg63 rfl mR cE) (H.sub sU) ?_; simp only [pS])
  refine rg_take (i := 9) rfl kR kR kR (Yld.o rfl) (H.sub sU) ?_; simp only [pS]
  refine rg_take (i := 10) rfl kR kR kR (Yld.o rfl) (H.sub sU) ?_; simp only [pS]
  refine rg_one (i := 4) (by kernel_rfl) rfl rfl (fun K hK => ?_)
  refine wp_callf rfl ent78 (rnum_ok z1 ap ha HZ1.out _) rfl (fun v w1 hr => ?_)
  obtain ⟨⟨an1, cn1, rfl⟩, ho, hb1⟩ := hr
  replace H := H.new hb1 (slc_sound ho) (fun g hg => (ho.lt g hg).1)
  clear hb1 ho
  clear HS
  have HS := H
  refine hK.out _ _ (H.sub sU) ?_
  clear hK K
  simp only [pS]
  refine rg_one (i := 11) (by kernel_rfl) rfl rfl (fun K hK => ?_)
  refine wp_callf rfl ent78 (rnum_ok z2 n (by omega) HZ2.out _) rfl (fun v w1 hr => ?_)
  obtain ⟨⟨an2, cn2, rfl⟩, ho, hb1⟩ := hr
  replace H := H.new hb1 (slc_sound ho) (fun g hg => (ho.lt g hg).1)
  clear hb1 ho
  clear HS
  have HS := H
  refine hK.out _ _ (H.sub sU) ?_
  clear hK K
  simp only [pS]
  refine rg_one (i := 12) (by kernel_rfl) rfl rfl (fun K hK => ?_)
  refine Stp.wp (Stp.apps 17 rfl rfl Try.underlying22 info5 rfl (by decide) rfl rfl H (fun _ => uP) (by rw [bv_len, Nat.mul_one]) (own_src (H.getSlc (xs := bv z2) mE)) (bv_one z2) (by unfold maxLen; omega) (by omega) ?_)
  clear H
  intro a17 c17 w1 H
  rw [bv_app, HQ2.out, HL2.out] at H
  rw [HL2.out]
  clear HS
  have HS := H
  refine hK.out _ _ (H.sub sU) ?_
  clear hK K
  simp only [pS]
  refine rg_take (i := 13) rfl kR kR kR (Yld.assign rfl rfl) (H.sub sU) ?_; simp only [pS, pE]
  refine rg_done (by kernel_rfl) ?_
  replace H : St w.heap.size w _ [slc 5 1 (.slice a17 q2.length c17) q2.length (bv q2)] := (H.pull (r := slc 5 1 (.slice a17 q2.length c17) q2.length (bv q2)) pU).sub sU
  go_wp2_with (first | (with_reducible refine wpl rfl (ldQ (ty := 63) rfl ?_); first | (with_reducible refine (Stp.ldo rfl agg63 rfl H (by assumption) (by assumption) ?_); simp only [pS]) | (with_reducible refine (Stp.ldc rfl agg63 rfl H mR cE ?_); simp only [pS])) | (with_reducible refine wpl rfl (ldQ (ty := 36) rfl ?_); first | (with_reducible refine (Stp.ldor rfl agg36 size36 rfl H (by assumption) sZ (by assumption) ?_); simp only [pS]) | (with_reducible refine (Stp.ldr rfl agg36 size36 rfl H mR sZ ?_); simp only [pS]) | (with_reducible refine (Stp.ldl rfl agg36 size36 rfl H mR (by simp) ?_); simp only [pS]; simp only [List.drop_succ_cons, List.drop_zero, List.take_succ_cons, List.take_zero])))
  clear HZ1 HZ2 HQ2 HL2
  go_loopw [4, 3] (fun i o wr => ∃ (k : Nat) (a : Option Addr) (cc : Nat) (r : List Nat), k ≤ n ∧ i = .int .i64 (k : Int) ∧ o = .slice a r.length cc ∧ Hid (q2 ++ (cs.take k).flatMap cmB = r) ∧ Hid (r.length ≤ 20 + 1270 * k) ∧ St w.heap.size w wr [slc 5 1 (.slice a r.length cc) r.length (bv r)]) (fun i _ _ => n - (intOf i).toNat)
  case atStart => exact ⟨0, _, _, q2, Nat.zero_le _, rfl, rfl, Lib.hid (by simp), Lib.hid (by omega), H⟩
  case round =>
    clear H
    obtain ⟨k, a2, c2, r, hk, rfl, rfl, HR, HRL, H⟩ := hrel
    by_cases hlt : k < n
    · have hkl : k < ks.length := by rw [HKN.out]; exact hlt
      have hkc : k < cs.length := by rw [HCN.out]; exact hlt
      obtain ⟨gk, ok, rfl, hgk, hcell⟩ := HEL.out (by omega)
      have hgk2 : ks[k]? = some ks[k] := List.getElem?_eq_getElem hkl
      have hmem : ks[k] ∈ ks := List.getElem_mem hkl
      have hck : cs[k] = ks[k].1 := by
        have := HCS.out
        subst this
        rw [List.getElem_map]
      have hsn := List.take_succ_eq_append_getElem hkc
      rw [hck] at hsn
      obtain ⟨p, hp⟩ : ∃ p, ks[k] = p := ⟨_, rfl⟩
      rw [hp] at hgk2 hmem hsn
      obtain ⟨c, h⟩ := p
      obtain ⟨ba, ma, la, da, bc, mc, lc, dc⟩ := h
      have hv := (ov_get ks s k _ hgk2).2
      have hcc : ∀ j, j < 10 → w.cell? ⟨gk, ok + k * 11 + 1 + j, none⟩ = (cmC c ba ma la da bc mc lc dc)[j]? := fun j hj => by
        have h1 := hv j hj
        have h2 : (cmC c ba ma la da bc mc lc dc)[j]? = some (cmC c ba ma la da bc mc lc dc)[j] := Array.getElem?_eq_getElem (show j < 10 from hj)
        rw [h2]
        have h3 := hcell (k * 11 + 1 + j) _ (h1.trans h2)
        rw [← Nat.add_assoc, ← Nat.add_assoc] at h3
        exact h3
      have HOK := Lib.hid (HOKS.out _ hmem)
      have HCX := Lib.hid (HCM.out _ hmem)
      have HSN := Lib.hid (cms_snoc cs hsn)
      obtain ⟨z, hz⟩ : ∃ z, cmB c = z := ⟨_, rfl⟩
      have zl : z.length ≤ 1270 := by rw [← hz]; exact cmB_len (c := c) HOK.out.1
      obtain ⟨r2, hr2⟩ : ∃ r2, r ++ z = r2 := ⟨_, rfl⟩
      have HZ := Lib.hid hz
      have HR2 := Lib.hid hr2
      have HL : Hid (r.length + z.length = r2.length) := Lib.hid (by rw [← hr2, List.length_append])
      have HR3 : Hid (q2 ++ (cs.take (k + 1)).flatMap cmB = r2) := Lib.hid (by rw [HSN.out, ← List.append_assoc, HR.out, hz, hr2])
      have hrl := HRL.out
      have HRL2 : Hid (r2.length ≤ 20 + 1270 * (k + 1)) := Lib.hid (by rw [← hr2, List.length_append]; omega)
      have kli : (k : Int) < (n : Int) := by omega
      simp only [cmC] at hcc
      clear hcell hgk2 hmem hck hsn hp hv hr2 hkl hkc hz
      go_wp2_with (first | (go_at_call 79; (with_reducible refine (rcform_ok z c ba ma la da bc mc lc dc HOK.out.1 HOK.out.2.1 HOK.out.2.2 HZ.out _ (CmG.grow HCX.out H.below)).mono ?_); rintro e w1 ⟨v, rfl, hr⟩; obtain ⟨⟨an5, cn5, rfl⟩, ho, hb1⟩ := hr; replace H := H.new hb1 (slc_sound ho) (fun g hg => (ho.lt g hg).1); clear hb1 ho) | (with_reducible refine wpl rfl (dQ 37 rfl ?_); with_reducible refine (Stp.apps 37 rfl rfl Try.underlying22 info5 rfl (by decide) rfl rfl H (fun _ => uP) (by rw [bv_len, Nat.mul_one]) (own_src (H.getSlc (xs := bv z) mE)) (bv_one z) (by unfold maxLen; omega) (by omega) ?_); clear H; intro a37 c37 w1 H; simp only [pS]; rw [bv_app, HR2.out, HL.out] at H; rw [HL.out]) | (with_reducible refine wpl rfl (ldQ (ty := 63) rfl ?_); first | (with_reducible refine (Stp.ldo rfl agg63 rfl H (by assumption) (by assumption) ?_); simp only [pS]) | (with_reducible refine (Stp.ldc rfl agg63 rfl H mR cE ?_); simp only [pS])) | (with_reducible refine wpl rfl (ldQ (ty := 36) rfl ?_); first | (with_reducible refine (Stp.ldor rfl agg36 size36 rfl H (by assumption) sZ (by assumption) ?_); simp only [pS]) | (with_reducible refine (Stp.ldr rfl agg36 size36 rfl H mR sZ ?_); simp only [pS]) | (with_reducible refine (Stp.ldl rfl agg36 size36 rfl H mR (by simp) ?_); simp only [pS]; simp only [List.drop_succ_cons, List.drop_zero, List.take_succ_cons, List.take_zero])))
      go_roundw
      case rel => exact ⟨k + 1, _, _, r2, by omega, by go_num, rfl, HR3, HRL2, (H.pull (r := slc 5 1 (.slice a37 r2.length c37) r2.length (bv r2)) pU).sub sU⟩
      case measure => simp [intOf]; omega
    · obtain rfl : k = n := by omega
      have hr := HR.out
      rw [← HCN.out, List.take_length, HQ3.out] at hr
      subst hr
      go_wp2_with (first | (with_reducible refine wpl rfl (ldQ (ty := 63) rfl ?_); first | (with_reducible refine (Stp.ldo rfl agg63 rfl H (by assumption) (by assumption) ?_); simp only [pS]) | (with_reducible refine (Stp.ldc rfl agg63 rfl H mR cE ?_); simp only [pS])) | (with_reducible refine wpl rfl (ldQ (ty := 36) rfl ?_); first | (with_reducible refine (Stp.ldor rfl agg36 size36 rfl H (by assumption) sZ (by assumption) ?_); simp only [pS]) | (with_reducible refine (Stp.ldr rfl agg36 size36 rfl H mR sZ ?_); simp only [pS]) | (with_reducible refine (Stp.ldl rfl agg36 size36 rfl H mR (by simp) ?_); simp only [pS]; simp only [List.drop_succ_cons, List.drop_zero, List.take_succ_cons, List.take_zero])))
      go_ret
      exact ⟨_, rfl, ⟨_, _, rfl⟩, H.getSlc mE, H.below⟩
end Go.Proofs.Ytmokecicjmjkbaa
namespace Go.Proofs.Ytmokecicjmjkbaa
open Go.ChangeShapes Go.WideShapes Go.ChangeAt Go.RowKit Go.Maps
set_option linter.unusedVariables false
set_option linter.unusedSimpArgs false
set_option linter.unusedSectionVars false
set_option maxRecDepth 100000
set_option maxHeartbeats 4000000
theorem cm_ten (c : Cm) (ba ma la da : Option Addr) (bc mc lc dc : Nat) : ((cmC c ba ma la da bc mc lc dc).toList).length = 1 * 10 := rfl
/-- What a call made, and what was there. -/
theorem St.over {B : Nat} {w0 w w' : World} {L M : List Res} (H : St B w0 w L) (h : St w.heap.size w w' M) : St B w0 w' (M ++ L) := by
  have H' := H.grow h.below
  refine ⟨H'.below, H'.size, ?_, ?_, List.pairwise_append.2 ⟨h.apart, H'.apart, ?_⟩⟩
  · intro r hr
    rcases List.mem_append.1 hr with hr | hr
    · exact h.sound r hr
    · exact H'.sound r hr
  · intro r hr g hg
    rcases List.mem_append.1 hr with hr | hr
    · exact Nat.le_trans H.size (h.base r hr g hg)
    · exact H'.base r hr g hg
  · intro r hr s hs g hg hsg
    have h1 := h.base r hr g hg
    have h2 := (H.sound s hs).lt g hsg
    omega
/-- The commands of a slot and those behind it, so many at most. -/
def tailC {α : Type} (ap slot most : Nat) (cs : List α) : List α := match plc ap cs.length slot with | none => [] | some k => (cs.drop k).take most
/-- A tail in new memory. -/
def TlR (w w' : World) (ts : List (Cm × Hd)) (v : Value) : Prop := ∃ a cc G, v = .slice a ts.length cc ∧ St w.heap.size w w' [slo 36 10 (.slice a ts.length cc) ts.length (kv ts), cmsr G ts]
theorem TlR.mk {w w' : World} {ts : List (Cm × Hd)} {j : Nat} {a : Option Addr} {cc : Nat} {G : Nat → Prop} (hj : ts.length = j) (H : St w.heap.size w w' [slo 36 10 (.slice a j cc) j (kv ts), cmsr G ts]) : TlR w w' ts (.slice a j cc) := by
  subst hj
  exact ⟨a, cc, G, rfl, H⟩
theorem ltail_ok (g0 ap slot most : Nat) (ks : List (Cm × Hd)) (ha : ap < 18446744073709551616) (hs : slot < 18446744073709551616) (hmo : most ≤ 1000) (hn : ks.length ≤ 64) (hok : ∀ p ∈ ks, smC p.1) (w : World) (hw : LdW w g0 ap ks) :
    Calls Try.prog 46 #[.pointer (some ⟨g0, 0, none⟩), .int .u64 (slot : Int), .int .i64 (most : Int)] w (Ret fun v w' => ∃ ts, Hid (ts.map (·.1) = tailC ap slot most (ks.map (·.1))) ∧ TlR w w' ts v) := by
  obtain ⟨ka, kc, G0, hrow, hcap, hel, hcm⟩ := hw
  have H := St.init w
  have hc1 : w.cell? ⟨g0, 1, none⟩ = some (.slice ka ks.length kc) := by rw [cell_of_rowAt (rowAt_of hrow)]; rfl
  have hlt0 : g0 < w.heap.size := rowAt_lt (rowAt_of hrow)
  obtain ⟨cs, hcs⟩ : ∃ cs, ks.map (·.1) = cs := ⟨_, rfl⟩
  obtain ⟨n, hkn⟩ : ∃ n, ks.length = n := ⟨_, rfl⟩
  have hcn : cs.length = n := by rw [← hcs, List.length_map, hkn]
  have htc : tailC ap slot most cs = match plc ap n slot with | none => [] | some k => (cs.drop k).take most := by unfold tailC; rw [hcn]
  rw [hkn] at hc1 hn hrow hcap hel
  rw [hcs]
  have HROW := Lib.hid hrow
  have HEL := Lib.hid hel
  have HCM := Lib.hid hcm
  have HOK := Lib.hid hok
  have HKN := Lib.hid hkn
  have HCN := Lib.hid hcn
  have HCS := Lib.hid hcs
  cases hp : plc ap n slot with
  | none =>
    rw [hp] at htc
    have HTC := Lib.hid htc
    have HPL := Lib.hid hp
    clear hrow hel hcm hok hkn hcn hcs hp htc
    go_enter Try.func46, Try.ntmps46
    go_wp2_with (first | (go_at_call 50; (with_reducible refine (place_ok g0 ap n kc slot _ ha hs (by omega) _ ((H.below.block g0 hlt0).trans HROW.out)).mono ?_); rintro e w1 ⟨v, rfl, hr⟩; rw [HPL.out] at hr; obtain ⟨rfl, hb1⟩ := hr; replace H := H.grow hb1; clear hb1))
    go_ret
    exact ⟨_, rfl, [], Lib.hid (by rw [HTC.out]; rfl), TlR.mk rfl (St.nilo 36 10 H.cms0)⟩
  | some k =>
    have hkn2 := plc_lt hp
    rw [hp] at htc
    obtain ⟨gk, ok, rfl, hgk, hcell⟩ := hel (by omega)
    have hA : (if kc = k then some (⟨gk, ok, none⟩ : Addr) else (some (⟨gk, ok, none⟩ : Addr)).map (·.add (k * 10))) = some ⟨gk, ok + k * 10, none⟩ := by
      rw [if_neg (by omega)]
      show some ((⟨gk, ok, none⟩ : Addr).add (k * 10)) = _
      congr 1
      unfold Addr.add
      split <;> simp_all
    have HA25 := Lib.hid hA
    have HTC := Lib.hid htc
    have HPL := Lib.hid hp
    have HCE := Lib.hid hcell
    obtain ⟨m, hm⟩ : ∃ m, n - k = m := ⟨_, rfl⟩
    have HM := Lib.hid hm
    have hm64 : m ≤ 64 := by omega
    have wnk : Hid (n - k = m) := Lib.hid hm
    clear hrow hel hcm hok hkn hcn hcs hp htc hA hcell
    go_enter Try.func46, Try.ntmps46
    go_upto_region 6 with (first | (go_at_call 50; (with_reducible refine (place_ok g0 ap n kc slot _ ha hs (by omega) _ ((H.below.block g0 hlt0).trans HROW.out)).mono ?_); rintro e w1 ⟨v, rfl, hr⟩; rw [HPL.out] at hr; obtain ⟨rfl, hb1⟩ := hr; replace H := H.grow hb1; clear hb1) | (with_reducible refine wpl rfl (dQ 25 rfl ?_); with_reducible refine (Stp.slfromN (k := k) (size := 10) 25 rfl rfl Try.underlying93 size36 rfl rfl rfl (by omega) ?_); intro A25 hA25; rw [HA25.out] at hA25; subst hA25; simp only [pS]) | (with_reducible refine wpl rfl (ldQ (ty := 93) rfl ?_); first | (with_reducible refine (Stp.ldo rfl agg93 rfl H (by assumption) (by assumption) ?_); simp only [pS]) | (with_reducible refine (Stp.ldc rfl agg93 rfl H mR cE ?_); simp only [pS])))
    rw [HM.out]
    go_wp2_with fail
    go_loopw [27, 9] (fun i o wr => ∃ (j : Nat) (a : Option Addr) (cc : Nat) (ts : List (Cm × Hd)) (G : Nat → Prop), j ≤ m ∧ j ≤ most ∧ i = .int .i64 (j : Int) ∧ o = .slice a j cc ∧ Hid (ts.length = j) ∧ Hid (ts.map (·.1) = (cs.drop k).take j) ∧ St w.heap.size w wr [slo 36 10 (.slice a j cc) j (kv ts), cmsr G ts]) (fun i _ _ => m - (intOf i).toNat)
    case atStart => exact ⟨0, none, 0, [], fun _ => False, Nat.zero_le _, Nat.zero_le _, rfl, rfl, Lib.hid rfl, Lib.hid (by simp), (St.nilo 36 10 H.cms0)⟩
    case round =>
      clear H
      obtain ⟨j, a, cc, ts, G, hj, hjm, rfl, rfl, HTL, HTS, H⟩ := hrel
      by_cases hlt : j < m
      · have hnk := HM.out
        have hkl : k + j < ks.length := by rw [HKN.out]; omega
        have hkc : j < (cs.drop k).length := by rw [List.length_drop, HCN.out]; omega
        have hgk2 : ks[k + j]? = some ks[k + j] := List.getElem?_eq_getElem hkl
        have hmem : ks[k + j] ∈ ks := List.getElem_mem hkl
        have hck : (cs.drop k)[j] = ks[k + j].1 := by
          have := HCS.out
          subst this
          rw [List.getElem_drop, List.getElem_map]
        have hsn := List.take_succ_eq_append_getElem hkc
        rw [hck] at hsn
        obtain ⟨p, hp⟩ : ∃ p, ks[k + j] = p := ⟨_, rfl⟩
        rw [hp] at hgk2 hmem hsn
        obtain ⟨c, h⟩ := p
        obtain ⟨ba, ma, la, da, bc, mc, lc, dc⟩ := h
        have hv := kv_get ks (k + j) _ hgk2
        have hcc : ∀ i, i < 10 → w.cell? ⟨gk, ok + k * 10 + j * 10 + i, none⟩ = (cmC c ba ma la da bc mc lc dc)[i]? := fun i hi => by
          have h1 := hv i hi
          have h2 : (cmC c ba ma la da bc mc lc dc)[i]? = some (cmC c ba ma la da bc mc lc dc)[i] := Array.getElem?_eq_getElem (show i < 10 from hi)
          rw [h2]
          have h3 := HCE.out ((k + j) * 10 + i) _ (h1.trans h2)
          rw [show ok + k * 10 + j * 10 + i = ok + ((k + j) * 10 + i) by omega]
          exact h3
        have HSM := Lib.hid (HOK.out _ hmem)
        have HCX := Lib.hid (HCM.out _ hmem)
        have HSN := Lib.hid hsn
        have kli : (j : Int) < (m : Int) := by omega
        simp only [cmC] at hcc
        clear hgk2 hmem hck hsn hp hv hkl hkc
        by_cases hmost : most ≤ j
        · obtain rfl : j = most := by omega
          have hmi : (j : Int) ≤ (j : Int) := Int.le_refl _
          go_wp2_with (first | (with_reducible refine wpl rfl (ldQ (ty := 36) rfl ?_); first | (with_reducible refine (Stp.ldor rfl agg36 size36 rfl H (by assumption) sZ (by assumption) ?_); simp only [pS]) | (with_reducible refine (Stp.ldr rfl agg36 size36 rfl H mR sZ ?_); simp only [pS]) | (with_reducible refine (Stp.ldl rfl agg36 size36 rfl H mR (by simp) ?_); simp only [pS]; simp only [List.drop_succ_cons, List.drop_zero, List.take_succ_cons, List.take_zero])) | (with_reducible refine wpl rfl (dQ 11 rfl ?_); with_reducible refine (Stp.alloc 11 rfl rfl zero36 H ?_); clear H; intro g11 w1 H; simp only [pS]; simp only [nC] at H) | (with_reducible refine wpl rfl (stQ (ty := 36) rfl ?_); first | (with_reducible refine (Stp.str rfl size36 rfl rfl (by first | rfl | (simp [Value.oneCell']; done) | assumption) H uP sZ sZ ?_); clear H; intro w1 H; simp only [pS]) | (with_reducible refine (Stp.stl rfl size36 rfl rfl rfl rfl H uP (by simp) ?_); clear H; intro w1 H; simp only [pS]; simp only [List.drop_succ_cons, List.drop_zero, List.take_succ_cons, List.take_zero, List.nil_append, List.cons_append, Nat.reduceAdd] at H)))
          go_ret
          exact ⟨_, rfl, ts, Lib.hid (by rw [HTS.out, HTC.out]), TlR.mk HTL.out (H.sub sU)⟩
        · have hmi : ¬ (most : Int) ≤ (j : Int) := by omega
          go_wp2_with (first | (go_at_call 49; (with_reducible refine (ccopy_ok c ba ma la da bc mc lc dc HSM.out _ (CmG.grow HCX.out H.below)).mono ?_); rintro e w1 ⟨v, rfl, hr⟩; obtain ⟨G2, ab, am, al, ad, cb, cm, cl, cd, rfl, hG2, hv2, hb1⟩ := hr; replace H := H.new hb1 (cmr_sound hG2 hv2) (fun g hg => (hG2 g hg).1); clear hb1 hG2 hv2) | (with_reducible refine wpl rfl (dQ 38 rfl ?_); with_reducible refine (Stp.bsl (e := 36) (cs := (cmC c ab am al ad cb cm cl cd)) 38 rfl rfl (fun W => by kernel_rfl) H ?_); clear H; intro g38 w1 H; simp only [pS]) | (with_reducible refine wpl rfl (dQ 39 rfl ?_); with_reducible refine (Stp.appo 39 rfl rfl Try.underlying93 info36 rfl (by decide) rfl rfl H (fun _ => uP) (cm_ten c ab am al ad cb cm cl cd) (by omega) (newN (H.gr 36)) (cm_one c ab am al ad cb cm cl cd) (by unfold maxLen; omega) (by omega) ?_); clear H; intro a39 c39 w1 H; simp only [pS]) | (with_reducible refine wpl rfl (ldQ (ty := 36) rfl ?_); first | (with_reducible refine (Stp.ldor rfl agg36 size36 rfl H (by assumption) sZ (by assumption) ?_); simp only [pS]) | (with_reducible refine (Stp.ldr rfl agg36 size36 rfl H mR sZ ?_); simp only [pS]) | (with_reducible refine (Stp.ldl rfl agg36 size36 rfl H mR (by simp) ?_); simp only [pS]; simp only [List.drop_succ_cons, List.drop_zero, List.take_succ_cons, List.take_zero])) | (with_reducible refine wpl rfl (dQ 11 rfl ?_); with_reducible refine (Stp.alloc 11 rfl rfl zero36 H ?_); clear H; intro g11 w1 H; simp only [pS]; simp only [nC] at H) | (with_reducible refine wpl rfl (stQ (ty := 36) rfl ?_); first | (with_reducible refine (Stp.str rfl size36 rfl rfl (by first | rfl | (simp [Value.oneCell']; done) | assumption) H uP sZ sZ ?_); clear H; intro w1 H; simp only [pS]) | (with_reducible refine (Stp.stl rfl size36 rfl rfl rfl rfl H uP (by simp) ?_); clear H; intro w1 H; simp only [pS]; simp only [List.drop_succ_cons, List.drop_zero, List.take_succ_cons, List.take_zero, List.nil_append, List.cons_append, Nat.reduceAdd] at H)))
          obtain ⟨G', H2⟩ := St.cms1 (h := (⟨ab, am, al, ad, cb, cm, cl, cd⟩ : Hd)) ((H.pull (r := cmsr G ts) pU).pull (r := cmr G2 _ _ _ _ c) pU)
          have hv : kv (ts ++ [(c, (⟨ab, am, al, ad, cb, cm, cl, cd⟩ : Hd))]) = kv ts ++ (cmH c (⟨ab, am, al, ad, cb, cm, cl, cd⟩ : Hd)).toList := by rw [kv_app, kv_one]
          have HKV := Lib.hid hv
          clear hv H
          go_roundw
          case rel =>
            refine ⟨j + 1, a39, c39, ts ++ [(c, (⟨ab, am, al, ad, cb, cm, cl, cd⟩ : Hd))], G', by omega, by omega, by go_num, rfl, Lib.hid (by rw [List.length_append, HTL.out]; rfl), Lib.hid (by rw [List.map_append, HTS.out, HSN.out]; rfl), ?_⟩
            rw [HKV.out]
            exact (H2.pull (r := slo 36 10 (.slice a39 (j + 1) c39) (j + 1) _) pU).sub sU
          case measure => simp [intOf]; omega
      · obtain rfl : j = m := by omega
        have hnk := HM.out
        go_wp2_with fail
        go_ret
        exact ⟨_, rfl, ts, Lib.hid (by
          rw [HTS.out, HTC.out]
          have hdl : (cs.drop k).length = j := by rw [List.length_drop, HCN.out]; exact hnk
          show _ = (cs.drop k).take most
          rw [List.take_of_length_le (by omega), List.take_of_length_le (by omega)]), TlR.mk HTL.out (H.sub sU)⟩
theorem tl_step {α : Type} (l : List α) (d i most : Nat) (hi : i < l.length) : ((l.take (i + 1)).drop d).take most = if d ≤ i ∧ (((l.take i).drop d).take most).length < most then ((l.take i).drop d).take most ++ [l[i]] else ((l.take i).drop d).take most := by
  have hl : (l.take i).length = i := by rw [List.length_take]; omega
  rw [List.take_succ_eq_append_getElem hi, List.drop_append, hl, List.take_append]
  by_cases hd : d ≤ i
  · rw [show d - i = 0 by omega, List.drop_zero]
    by_cases hb : ((l.take i).drop d).length < most
    · rw [if_pos ⟨hd, by rw [List.length_take]; omega⟩]
      rw [List.take_of_length_le (l := [l[i]]) (by rw [List.length_singleton]; omega)]
    · rw [if_neg (fun h => by have h2 := h.2; rw [List.length_take] at h2; omega), show most - ((l.take i).drop d).length = 0 by omega, List.take_zero, List.append_nil]
  · rw [if_neg (fun h => hd h.1), show List.drop (d - i) [l[i]] = [] from List.drop_eq_nil_of_le (by rw [List.length_singleton]; omega), List.take_nil, List.append_nil]
/-- What was there, in a new row. -/
def TlY (w w' : World) (ts : List (Cm × Hd)) (v : Value) : Prop := ∃ a cc, v = .slice a ts.length cc ∧ St w.heap.size w w' [slo 36 10 (.slice a ts.length cc) ts.length (kv ts)]
theorem TlY.mk {w w' : World} {ts : List (Cm × Hd)} {j : Nat} {a : Option Addr} {cc : Nat} (hj : ts.length = j) (H : St w.heap.size w w' [slo 36 10 (.slice a j cc) j (kv ts)]) : TlY w w' ts (.slice a j cc) := by
  subst hj
  exact ⟨a, cc, rfl, H⟩
theorem rltail_ok {G1 : Nat → Prop} (gx ap s slot most : Nat) (ks : List (Cm × Hd)) (hsl : s + ks.length = ap + 1) (hss : s ≤ slot) (hs : slot < 18446744073709551616) (hmo : most ≤ 1000) (hn : ks.length ≤ 64) (w : World) (hw : XlW G1 w gx ap s ks) :
    Calls Try.prog 47 #[.pointer (some ⟨gx, 0, none⟩), .int .u64 (slot : Int), .int .i64 (most : Int)] w (Ret fun v w' => TlY w w' ((ks.drop (slot - s)).take most) v) := by
  obtain ⟨xa, xc, hrow, hel, hcm⟩ := hw
  have H := St.init w
  have hc1 : w.cell? ⟨gx, 1, none⟩ = some (.slice xa ks.length xc) := by rw [cell_of_rowAt (rowAt_of hrow)]; rfl
  have hlt0 : gx < w.heap.size := rowAt_lt (rowAt_of hrow)
  obtain ⟨n, hkn⟩ : ∃ n, ks.length = n := ⟨_, rfl⟩
  obtain ⟨d, hd⟩ : ∃ d, slot - s = d := ⟨_, rfl⟩
  rw [hkn] at hc1 hn hel hsl
  rw [hd]
  have HEL := Lib.hid hel
  have HKN := Lib.hid hkn
  have HDD := Lib.hid hd
  clear hrow hel hcm hkn hd
  go_enter Try.func47, Try.ntmps47
  go_wp2_with fail
  go_loopw [8, 7] (fun i o wr => ∃ (k j : Nat) (a : Option Addr) (cc : Nat) (ts : List (Cm × Hd)), k ≤ n ∧ j ≤ k ∧ i = .int .i64 (k : Int) ∧ o = .slice a j cc ∧ Hid (ts.length = j) ∧ Hid (ts = ((ks.take k).drop d).take most) ∧ St w.heap.size w wr [slo 36 10 (.slice a j cc) j (kv ts)]) (fun i _ _ => n - (intOf i).toNat)
  case atStart => exact ⟨0, 0, none, 0, [], Nat.zero_le _, Nat.zero_le _, rfl, rfl, Lib.hid rfl, Lib.hid (by simp), (St.nilo 36 10 H)⟩
  case round =>
    clear H
    obtain ⟨k, j, a, cc, ts, hk, hj, rfl, rfl, HTL, HTS, H⟩ := hrel
    by_cases hlt : k < n
    · have hkl : k < ks.length := by rw [HKN.out]; exact hlt
      obtain ⟨gk, ok, rfl, hgk, hcell⟩ := HEL.out (by omega)
      have hgk2 : ks[k]? = some ks[k] := List.getElem?_eq_getElem hkl
      have hst := tl_step ks d k most hkl
      rw [← HTS.out] at hst
      rw [HTL.out] at hst
      obtain ⟨p, hp⟩ : ∃ p, ks[k] = p := ⟨_, rfl⟩
      have h00 : ks[0]? = some ks[0] := List.getElem?_eq_getElem (by omega)
      have hs0 := (ov_get ks s 0 _ h00).1
      rw [hp] at hgk2 hst
      obtain ⟨c, h⟩ := p
      obtain ⟨ba, ma, la, da, bc, mc, lc, dc⟩ := h
      have hv := (ov_get ks s k _ hgk2).2
      have hv0 := (ov_get ks s k _ hgk2).1
      obtain ⟨si, hsi⟩ : ∃ si, s + k = si := ⟨_, rfl⟩
      have hcc : ∀ i, i < 10 → w.cell? ⟨gk, ok + k * 11 + 1 + i, none⟩ = (cmC c ba ma la da bc mc lc dc)[i]? := fun i hi => by
        have h1 := hv i hi
        have h2 : (cmC c ba ma la da bc mc lc dc)[i]? = some (cmC c ba ma la da bc mc lc dc)[i] := Array.getElem?_eq_getElem (show i < 10 from hi)
        rw [h2]
        have h3 := hcell (k * 11 + 1 + i) _ (h1.trans h2)
        rw [← Nat.add_assoc, ← Nat.add_assoc] at h3
        exact h3
      have hcs : w.cell? ⟨gk, ok + k * 11, none⟩ = some (.int .u64 (si : Int)) := by rw [← hsi]; exact hcell _ _ hv0
      have hcz : w.cell? ⟨gk, ok, none⟩ = some (.int .u64 (s : Int)) := by have := hcell _ _ hs0; simpa using this
      have HST := Lib.hid hst
      have hdd := HDD.out
      have kli : (k : Int) < (n : Int) := by omega
      have ssi : (s : Int) ≤ (slot : Int) := by omega
      simp only [cmC] at hcc
      clear hcell hgk2 hst hp hv hv0 hs0 h00 hkl
      by_cases h1 : d ≤ k
      · have h1i : (slot : Int) ≤ (si : Int) := by omega
        by_cases h2 : j < most
        · have h2i : (j : Int) < (most : Int) := by omega
          have HS2 : Hid (((ks.take (k + 1)).drop d).take most = ts ++ [(c, (⟨ba, ma, la, da, bc, mc, lc, dc⟩ : Hd))]) := Lib.hid (by rw [HST.out, if_pos ⟨h1, h2⟩])
          have hv : kv (ts ++ [(c, (⟨ba, ma, la, da, bc, mc, lc, dc⟩ : Hd))]) = kv ts ++ (cmH c (⟨ba, ma, la, da, bc, mc, lc, dc⟩ : Hd)).toList := by rw [kv_app, kv_one]
          have HKV := Lib.hid hv
          clear hv hdd
          go_wp2_with (first | (with_reducible refine wpl rfl (dQ 54 rfl ?_); with_reducible refine (Stp.bsl (e := 36) (cs := (cmC c ba ma la da bc mc lc dc)) 54 rfl rfl (fun W => by kernel_rfl) H ?_); clear H; intro g54 w1 H; simp only [pS]) | (with_reducible refine wpl rfl (dQ 55 rfl ?_); with_reducible refine (Stp.appo 55 rfl rfl Try.underlying93 info36 rfl (by decide) rfl rfl H (fun _ => uP) (cm_ten c ba ma la da bc mc lc dc) (by omega) (newN (H.gr 36)) (cm_one c ba ma la da bc mc lc dc) (by unfold maxLen; omega) (by omega) ?_); clear H; intro a55 c55 w1 H; simp only [pS]) | (with_reducible refine wpl rfl (ldQ (ty := 63) rfl ?_); first | (with_reducible refine (Stp.ldo rfl agg63 rfl H (by assumption) (by assumption) ?_); simp only [pS]) | (with_reducible refine (Stp.ldc rfl agg63 rfl H mR cE ?_); simp only [pS])) | (with_reducible refine wpl rfl (ldQ (ty := 26) rfl ?_); first | (with_reducible refine (Stp.ldo rfl agg26 rfl H (by assumption) (by assumption) ?_); simp only [pS]) | (with_reducible refine (Stp.ldc rfl agg26 rfl H mR cE ?_); simp only [pS])) | (with_reducible refine wpl rfl (ldQ (ty := 36) rfl ?_); first | (with_reducible refine (Stp.ldor rfl agg36 size36 rfl H (by assumption) sZ (by assumption) ?_); simp only [pS]) | (with_reducible refine (Stp.ldr rfl agg36 size36 rfl H mR sZ ?_); simp only [pS]) | (with_reducible refine (Stp.ldl rfl agg36 size36 rfl H mR (by simp) ?_); simp only [pS]; simp only [List.drop_succ_cons, List.drop_zero, List.take_succ_cons, List.take_zero])))
          go_roundw
          case rel =>
            refine ⟨k + 1, j + 1, a55, c55, ts ++ [(c, (⟨ba, ma, la, da, bc, mc, lc, dc⟩ : Hd))], by omega, by omega, by go_num, rfl, Lib.hid (by rw [List.length_append, HTL.out]; rfl), Lib.hid HS2.out.symm, ?_⟩
            rw [HKV.out]
            exact (H.pull (r := slo 36 10 (.slice a55 (j + 1) c55) (j + 1) _) pU).sub sU
          case measure => simp [intOf]; omega
        · have h2i : ¬ (j : Int) < (most : Int) := by omega
          have HS2 : Hid (((ks.take (k + 1)).drop d).take most = ts) := Lib.hid (by rw [HST.out, if_neg (fun h => h2 h.2)])
          clear hdd
          go_wp2_with (first | (with_reducible refine wpl rfl (ldQ (ty := 63) rfl ?_); first | (with_reducible refine (Stp.ldo rfl agg63 rfl H (by assumption) (by assumption) ?_); simp only [pS]) | (with_reducible refine (Stp.ldc rfl agg63 rfl H mR cE ?_); simp only [pS])) | (with_reducible refine wpl rfl (ldQ (ty := 26) rfl ?_); first | (with_reducible refine (Stp.ldo rfl agg26 rfl H (by assumption) (by assumption) ?_); simp only [pS]) | (with_reducible refine (Stp.ldc rfl agg26 rfl H mR cE ?_); simp only [pS])))
          go_roundw
          case rel => exact ⟨k + 1, j, a, cc, ts, by omega, by omega, by go_num, rfl, HTL, Lib.hid HS2.out.symm, H⟩
          case measure => simp [intOf]; omega
      · have h1i : ¬ (slot : Int) ≤ (si : Int) := by omega
        have HS2 : Hid (((ks.take (k + 1)).drop d).take most = ts) := Lib.hid (by rw [HST.out, if_neg (fun h => h1 h.1)])
        clear hdd
        go_wp2_with (first | (with_reducible refine wpl rfl (ldQ (ty := 63) rfl ?_); first | (with_reducible refine (Stp.ldo rfl agg63 rfl H (by assumption) (by assumption) ?_); simp only [pS]) | (with_reducible refine (Stp.ldc rfl agg63 rfl H mR cE ?_); simp only [pS])) | (with_reducible refine wpl rfl (ldQ (ty := 26) rfl ?_); first | (with_reducible refine (Stp.ldo rfl agg26 rfl H (by assumption) (by assumption) ?_); simp only [pS]) | (with_reducible refine (Stp.ldc rfl agg26 rfl H mR cE ?_); simp only [pS])))
        go_roundw
        case rel => exact ⟨k + 1, j, a, cc, ts, by omega, by omega, by go_num, rfl, HTL, Lib.hid HS2.out.symm, H⟩
        case measure => simp [intOf]; omega
    · obtain rfl : k = n := by omega
      have hts := HTS.out
      rw [← HKN.out, List.take_length] at hts
      replace hts := Lib.hid hts
      go_wp2_with (first | (with_reducible refine wpl rfl (ldQ (ty := 63) rfl ?_); first | (with_reducible refine (Stp.ldo rfl agg63 rfl H (by assumption) (by assumption) ?_); simp only [pS]) | (with_reducible refine (Stp.ldc rfl agg63 rfl H mR cE ?_); simp only [pS])))
      go_ret
      refine ⟨_, rfl, ?_⟩
      rw [← hts.out]
      exact TlY.mk HTL.out H
end Go.Proofs.Ytmokecicjmjkbaa
