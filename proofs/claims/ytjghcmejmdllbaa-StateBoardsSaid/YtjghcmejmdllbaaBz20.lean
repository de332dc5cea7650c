/- Layer 19's reference's Pack (choragusref19) on any board. Layer 7's reference's Reader (choragusref07), whatever is wrong: Num, Bytes, End; the bounds stand in each. -/
import Derived.Test.YtjghcmejmdllbaaBz19
import Derived.Test.YtjghcmejmdllbaaBz16
import Derived.Test.YtjghcmejmdllbaaBz3
import Derived.Deep.Cut
namespace Go.Proofs.Ytjghcmejmdllbaa
open Go.ChangeShapes Go.WideShapes Go.ChangeAt Go.RowKit Go.Deep
set_option linter.unusedVariables false
set_option linter.unusedSimpArgs false
set_option linter.unusedSectionVars false
set_option maxRecDepth 100000
set_option maxHeartbeats 4000000
theorem xpack_ok (b : Nat → ByteArray) (hm63 : ∀ i, (byL (b i)).length ≤ maxLen) (w : World) : Calls Try.prog 52 #[.agg (bcs b)] w (Ret fun v' w' => (∃ ap cp, v' = .slice ap (packF b).length cp) ∧ w'.ownsRow w.heap.size 5 1 v' (packF b).length (bv (packF b)) ∧ Below w.heap.size w w') := by
  have H := St.init w
  obtain ⟨q, hq⟩ : ∃ q, mayN 8 0 b = q := ⟨_, rfl⟩
  have HQ := Lib.hid hq
  have hb : bcs b = #[.string (b 0), .string (b 1), .string (b 2), .string (b 3), .string (b 4), .string (b 5), .string (b 6), .string (b 7)] := rfl
  cases q with
  | false =>
    have hp : packF b = [] := by unfold packF; rw [hq]; rfl
    rw [hp]
    clear hq hp
    unfold bcs
    go_enter Try.func52, Try.ntmps52
    go_wp2_with (first | (with_reducible refine wpl rfl (dQ 1 rfl ?_); with_reducible refine (Stp.box 1 rfl rfl rfl H ?_); clear H; intro g1 w1 H; simp only [pS]; simp only [pE, nC, pS] at H) | (with_reducible refine wpl rfl (ldQ (ty := 46) rfl ?_); first | (with_reducible refine (Stp.ldor rfl agg46 size46 rfl H (by assumption) sZ (by assumption) ?_); simp only [pS]) | (with_reducible refine (Stp.ldr rfl agg46 size46 rfl H mR sZ ?_); simp only [pS]) | (with_reducible refine (Stp.ldl rfl agg46 size46 rfl H mR (by simp) ?_); simp only [pS]; simp only [List.drop_succ_cons, List.drop_zero, List.take_succ_cons, List.take_zero])) | (with_reducible refine wpl rfl (ldQ (ty := 9) rfl ?_); first | (with_reducible refine (Stp.ldo rfl agg9 rfl H (by assumption) (by assumption) ?_); simp only [pS]) | (with_reducible refine (Stp.ldc rfl agg9 rfl H mR cE ?_); simp only [pS])))
    refine (xmayG_ok b _).mono ?_
    rintro e w1 ⟨v, rfl, rfl, hb1⟩
    replace H := H.grow hb1
    rw [HQ.out]
    go_wp2_with (first | (with_reducible refine wpl rfl (dQ 1 rfl ?_); with_reducible refine (Stp.box 1 rfl rfl rfl H ?_); clear H; intro g1 w1 H; simp only [pS]; simp only [pE, nC, pS] at H) | (with_reducible refine wpl rfl (ldQ (ty := 46) rfl ?_); first | (with_reducible refine (Stp.ldor rfl agg46 size46 rfl H (by assumption) sZ (by assumption) ?_); simp only [pS]) | (with_reducible refine (Stp.ldr rfl agg46 size46 rfl H mR sZ ?_); simp only [pS]) | (with_reducible refine (Stp.ldl rfl agg46 size46 rfl H mR (by simp) ?_); simp only [pS]; simp only [List.drop_succ_cons, List.drop_zero, List.take_succ_cons, List.take_zero])) | (with_reducible refine wpl rfl (ldQ (ty := 9) rfl ?_); first | (with_reducible refine (Stp.ldo rfl agg9 rfl H (by assumption) (by assumption) ?_); simp only [pS]) | (with_reducible refine (Stp.ldc rfl agg9 rfl H mR cE ?_); simp only [pS])))
    go_ret
    exact ⟨_, rfl, ⟨none, 0, rfl⟩, (H.nil 5 1).getSlc mE, H.below⟩
  | true =>
    have hp : packF b = packN 8 0 b := by unfold packF; rw [hq]; rfl
    rw [hp]
    have hsz : ∀ i, i < 8 → (byL (b i)).length ≤ 16 := fun i hi => by rw [byL_len]; exact mayN_size 8 0 b hq i (Nat.zero_le _) (by omega)
    have HSZ := Lib.hid hsz
    clear hq hp hsz
    obtain ⟨r, hr⟩ : ∃ r, packN 8 0 b = r := ⟨_, rfl⟩
    rw [hr]
    unfold bcs
    go_enter Try.func52, Try.ntmps52
    go_wp2_with (first | (with_reducible refine wpl rfl (dQ 1 rfl ?_); with_reducible refine (Stp.box 1 rfl rfl rfl H ?_); clear H; intro g1 w1 H; simp only [pS]; simp only [pE, nC, pS] at H) | (with_reducible refine wpl rfl (ldQ (ty := 46) rfl ?_); first | (with_reducible refine (Stp.ldor rfl agg46 size46 rfl H (by assumption) sZ (by assumption) ?_); simp only [pS]) | (with_reducible refine (Stp.ldr rfl agg46 size46 rfl H mR sZ ?_); simp only [pS]) | (with_reducible refine (Stp.ldl rfl agg46 size46 rfl H mR (by simp) ?_); simp only [pS]; simp only [List.drop_succ_cons, List.drop_zero, List.take_succ_cons, List.take_zero])) | (with_reducible refine wpl rfl (ldQ (ty := 9) rfl ?_); first | (with_reducible refine (Stp.ldo rfl agg9 rfl H (by assumption) (by assumption) ?_); simp only [pS]) | (with_reducible refine (Stp.ldc rfl agg9 rfl H mR cE ?_); simp only [pS])))
    refine (xmayG_ok b _).mono ?_
    rintro e w1 ⟨v, rfl, rfl, hb1⟩
    replace H := H.grow hb1
    clear hb1
    rw [HQ.out]
    go_wp2_with (first | (with_reducible refine wpl rfl (dQ 1 rfl ?_); with_reducible refine (Stp.box 1 rfl rfl rfl H ?_); clear H; intro g1 w1 H; simp only [pS]; simp only [pE, nC, pS] at H) | (with_reducible refine wpl rfl (ldQ (ty := 46) rfl ?_); first | (with_reducible refine (Stp.ldor rfl agg46 size46 rfl H (by assumption) sZ (by assumption) ?_); simp only [pS]) | (with_reducible refine (Stp.ldr rfl agg46 size46 rfl H mR sZ ?_); simp only [pS]) | (with_reducible refine (Stp.ldl rfl agg46 size46 rfl H mR (by simp) ?_); simp only [pS]; simp only [List.drop_succ_cons, List.drop_zero, List.take_succ_cons, List.take_zero])) | (with_reducible refine wpl rfl (ldQ (ty := 9) rfl ?_); first | (with_reducible refine (Stp.ldo rfl agg9 rfl H (by assumption) (by assumption) ?_); simp only [pS]) | (with_reducible refine (Stp.ldc rfl agg9 rfl H mR cE ?_); simp only [pS])))
    replace H := H.nil 5 1
    go_loopw [3, 4] (fun o i wr => ∃ (kk : Nat) (l : List Nat) (a : Option Addr) (c : Nat), kk ≤ 8 ∧ i = .int .i64 (kk : Int) ∧ o = .slice a l.length c ∧ Hid (l ++ packN (8 - kk) kk b = r) ∧ l.length ≤ kk * 26 ∧ St w.heap.size w wr [slc 5 1 (.slice a l.length c) l.length (bv l), row 46 g1 #[.string (b 0), .string (b 1), .string (b 2), .string (b 3), .string (b 4), .string (b 5), .string (b 6), .string (b 7)]]) (fun _ i _ => 8 - (intOf i).toNat)
    case atStart => exact ⟨0, [], none, 0, by omega, rfl, rfl, Lib.hid hr, by simp, H⟩
    case round =>
      clear H
      obtain ⟨kk, l, a, c, hkk, rfl, rfl, HU, hl, H⟩ := hrel
      by_cases hlt : kk < 8
      · have hk8 : kk = 0 ∨ kk = 1 ∨ kk = 2 ∨ kk = 3 ∨ kk = 4 ∨ kk = 5 ∨ kk = 6 ∨ kk = 7 := by omega
        rcases hk8 with rfl | rfl | rfl | rfl | rfl | rfl | rfl | rfl
        · obtain ⟨x, hx⟩ : ∃ x, shortB (byL (b 0)).length ++ byL (b 0) = x := ⟨_, rfl⟩
          have xl : x.length ≤ 26 := by
            rw [← hx, List.length_append]
            have hs := HSZ.out 0 (by omega)
            have h10 := shortB_len (byL (b 0)).length
            omega
          have HX := Lib.hid hx
          clear hx
          go_wp2_with (first | (with_reducible refine wpl rfl (dQ 16 rfl ?_); with_reducible refine (Stp.s2b (s := b 0) (l := byL (b 0)) 16 rfl rfl rfl rfl (hm63 _) H ?_); clear H; intro gs cs rs w1 HS H; simp only [pS]) | (with_reducible refine wpl rfl (dQ 1 rfl ?_); with_reducible refine (Stp.box 1 rfl rfl rfl H ?_); clear H; intro g1 w1 H; simp only [pS]; simp only [pE, nC, pS] at H) | (with_reducible refine wpl rfl (ldQ (ty := 46) rfl ?_); first | (with_reducible refine (Stp.ldor rfl agg46 size46 rfl H (by assumption) sZ (by assumption) ?_); simp only [pS]) | (with_reducible refine (Stp.ldr rfl agg46 size46 rfl H mR sZ ?_); simp only [pS]) | (with_reducible refine (Stp.ldl rfl agg46 size46 rfl H mR (by simp) ?_); simp only [pS]; simp only [List.drop_succ_cons, List.drop_zero, List.take_succ_cons, List.take_zero])) | (with_reducible refine wpl rfl (ldQ (ty := 9) rfl ?_); first | (with_reducible refine (Stp.ldo rfl agg9 rfl H (by assumption) (by assumption) ?_); simp only [pS]) | (with_reducible refine (Stp.ldc rfl agg9 rfl H mR cE ?_); simp only [pS])))
          refine (rbytes_ok (byL (b 0)) x _ (by have := HSZ.out 0 (by omega); omega) HX.out _ (HS.out.at H (.cons_cons _ (List.nil_sublist _)))).mono ?_
          rintro e w1 ⟨v, rfl, ⟨ap, cp, rfl⟩, ho, hb1⟩
          replace H := H.new hb1 (slc_sound ho) (fun g hg => (ho.lt g hg).1)
          clear hb1 ho HS
          go_wp2_with (first | (with_reducible refine wpl rfl (dQ 18 rfl ?_); with_reducible refine (Stp.apps 18 rfl rfl Try.underlying37 info5 rfl (by decide) rfl rfl H (fun _ => uP) ((bv_len _).trans (Nat.mul_one _).symm) (own_src (H.getSlc (xs := bv x) mE)) (bv_one x) (by unfold maxLen; omega) (by omega) ?_); clear H; intro a18 c18 w1 H; simp only [pS]; rw [bv_app] at H) | (with_reducible refine wpl rfl (dQ 1 rfl ?_); with_reducible refine (Stp.box 1 rfl rfl rfl H ?_); clear H; intro g1 w1 H; simp only [pS]; simp only [pE, nC, pS] at H) | (with_reducible refine wpl rfl (ldQ (ty := 46) rfl ?_); first | (with_reducible refine (Stp.ldor rfl agg46 size46 rfl H (by assumption) sZ (by assumption) ?_); simp only [pS]) | (with_reducible refine (Stp.ldr rfl agg46 size46 rfl H mR sZ ?_); simp only [pS]) | (with_reducible refine (Stp.ldl rfl agg46 size46 rfl H mR (by simp) ?_); simp only [pS]; simp only [List.drop_succ_cons, List.drop_zero, List.take_succ_cons, List.take_zero])) | (with_reducible refine wpl rfl (ldQ (ty := 9) rfl ?_); first | (with_reducible refine (Stp.ldo rfl agg9 rfl H (by assumption) (by assumption) ?_); simp only [pS]) | (with_reducible refine (Stp.ldc rfl agg9 rfl H mR cE ?_); simp only [pS])))
          go_roundw
          case rel =>
            refine ⟨1, l ++ x, _, _, by omega, by first | rfl | go_num, by rw [List.length_append], Lib.hid ?_, ?_, by rw [List.length_append]; exact H.sub sU⟩
            · rw [← HU.out, ← HX.out, List.append_assoc]; rfl
            · rw [List.length_append]; omega
          case measure => simp [intOf]
        · obtain ⟨x, hx⟩ : ∃ x, shortB (byL (b 1)).length ++ byL (b 1) = x := ⟨_, rfl⟩
          have xl : x.length ≤ 26 := by
            rw [← hx, List.length_append]
            have hs := HSZ.out 1 (by omega)
            have h10 := shortB_len (byL (b 1)).length
            omega
          have HX := Lib.hid hx
          clear hx
          go_wp2_with (first | (with_reducible refine wpl rfl (dQ 16 rfl ?_); with_reducible refine (Stp.s2b (s := b 1) (l := byL (b 1)) 16 rfl rfl rfl rfl (hm63 _) H ?_); clear H; intro gs cs rs w1 HS H; simp only [pS]) | (with_reducible refine wpl rfl (dQ 1 rfl ?_); with_reducible refine (Stp.box 1 rfl rfl rfl H ?_); clear H; intro g1 w1 H; simp only [pS]; simp only [pE, nC, pS] at H) | (with_reducible refine wpl rfl (ldQ (ty := 46) rfl ?_); first | (with_reducible refine (Stp.ldor rfl agg46 size46 rfl H (by assumption) sZ (by assumption) ?_); simp only [pS]) | (with_reducible refine (Stp.ldr rfl agg46 size46 rfl H mR sZ ?_); simp only [pS]) | (with_reducible refine (Stp.ldl rfl agg46 size46 rfl H mR (by simp) ?_); simp only [pS]; simp only [List.drop_succ_cons, List.drop_zero, List.take_succ_cons, List.take_zero])) | (with_reducible refine wpl rfl (ldQ (ty := 9) rfl ?_); first | (with_reducible refine (Stp.ldo rfl agg9 rfl H (by assumption) (by assumption) ?_); simp only [pS]) | (with_reducible refine (Stp.ldc rfl agg9 rfl H mR cE ?_); simp only [pS])))
          refine (rbytes_ok (byL (b 1)) x _ (by have := HSZ.out 1 (by omega); omega) HX.out _ (HS.out.at H (.cons_cons _ (List.nil_sublist _)))).mono ?_
          rintro e w1 ⟨v, rfl, ⟨ap, cp, rfl⟩, ho, hb1⟩
          replace H := H.new hb1 (slc_sound ho) (fun g hg => (ho.lt g hg).1)
          clear hb1 ho HS
          go_wp2_with (first | (with_reducible refine wpl rfl (dQ 18 rfl ?_); with_reducible refine (Stp.apps 18 rfl rfl Try.underlying37 info5 rfl (by decide) rfl rfl H (fun _ => uP) ((bv_len _).trans (Nat.mul_one _).symm) (own_src (H.getSlc (xs := bv x) mE)) (bv_one x) (by unfold maxLen; omega) (by omega) ?_); clear H; intro a18 c18 w1 H; simp only [pS]; rw [bv_app] at H) | (with_reducible refine wpl rfl (dQ 1 rfl ?_); with_reducible refine (Stp.box 1 rfl rfl rfl H ?_); clear H; intro g1 w1 H; simp only [pS]; simp only [pE, nC, pS] at H) | (with_reducible refine wpl rfl (ldQ (ty := 46) rfl ?_); first | (with_reducible refine (Stp.ldor rfl agg46 size46 rfl H (by assumption) sZ (by assumption) ?_); simp only [pS]) | (with_reducible refine (Stp.ldr rfl agg46 size46 rfl H mR sZ ?_); simp only [pS]) | (with_reducible refine (Stp.ldl rfl agg46 size46 rfl H mR (by simp) ?_); simp only [pS]; simp only [List.drop_succ_cons, List.drop_zero, List.take_succ_cons, List.take_zero])) | (with_reducible refine wpl rfl (ldQ (ty := 9) rfl ?_); first | (with_reducible refine (Stp.ldo rfl agg9 rfl H (by assumption) (by assumption) ?_); simp only [pS]) | (with_reducible refine (Stp.ldc rfl agg9 rfl H mR cE ?_); simp only [pS])))
          go_roundw
          case rel =>
            refine ⟨2, l ++ x, _, _, by omega, by first | rfl | go_num, by rw [List.length_append], Lib.hid ?_, ?_, by rw [List.length_append]; exact H.sub sU⟩
            · rw [← HU.out, ← HX.out, List.append_assoc]; rfl
            · rw [List.length_append]; omega
          case measure => simp [intOf]
        · obtain ⟨x, hx⟩ : ∃ x, shortB (byL (b 2)).length ++ byL (b 2) = x := ⟨_, rfl⟩
          have xl : x.length ≤ 26 := by
            rw [← hx, List.length_append]
            have hs := HSZ.out 2 (by omega)
            have h10 := shortB_len (byL (b 2)).length
            omega
          have HX := Lib.hid hx
          clear hx
          go_wp2_with (first | (with_reducible refine wpl rfl (dQ 16 rfl ?_); with_reducible refine (Stp.s2b (s := b 2) (l := byL (b 2)) 16 rfl rfl rfl rfl (hm63 _) H ?_); clear H; intro gs cs rs w1 HS H; simp only [pS]) | (with_reducible refine wpl rfl (dQ 1 rfl ?_); with_reducible refine (Stp.box 1 rfl rfl rfl H ?_); clear H; intro g1 w1 H; simp only [pS]; simp only [pE, nC, pS] at H) | (with_reducible refine wpl rfl (ldQ (ty := 46) rfl ?_); first | (with_reducible refine (Stp.ldor rfl agg46 size46 rfl H (by assumption) sZ (by assumption) ?_); simp only [pS]) | (with_reducible refine (Stp.ldr rfl agg46 size46 rfl H mR sZ ?_); simp only [pS]) | (with_reducible refine (Stp.ldl rfl agg46 size46 rfl H mR (by simp) ?_); simp only [pS]; simp only [List.drop_succ_cons, List.drop_zero, List.take_succ_cons, List.take_zero])) | (with_reducible refine wpl rfl (ldQ (ty := 9) rfl ?_); first | (with_reducible refine (Stp.ldo rfl agg9 rfl H (by assumption) (by assumption) ?_); simp only [pS]) | (with_reducible refine (Stp.ldc rfl agg9 rfl H mR cE ?_); simp only [pS])))
          refine (rbytes_ok (byL (b 2)) x _ (by have := HSZ.out 2 (by omega); omega) HX.out _ (HS.out.at H (.cons_cons _ (List.nil_sublist _)))).mono ?_
          rintro e w1 ⟨v, rfl, ⟨ap, cp, rfl⟩, ho, hb1⟩
          replace H := H.new hb1 (slc_sound ho) (fun g hg => (ho.lt g hg).1)
          clear hb1 ho HS
          go_wp2_with (first | (with_reducible refine wpl rfl (dQ 18 rfl ?_); with_reducible refine (Stp.apps 18 rfl rfl Try.underlying37 info5 rfl (by decide) rfl rfl H (fun _ => uP) ((bv_len _).trans (Nat.mul_one _).symm) (own_src (H.getSlc (xs := bv x) mE)) (bv_one x) (by unfold maxLen; omega) (by omega) ?_); clear H; intro a18 c18 w1 H; simp only [pS]; rw [bv_app] at H) | (with_reducible refine wpl rfl (dQ 1 rfl ?_); with_reducible refine (Stp.box 1 rfl rfl rfl H ?_); clear H; intro g1 w1 H; simp only [pS]; simp only [pE, nC, pS] at H) | (with_reducible refine wpl rfl (ldQ (ty := 46) rfl ?_); first | (with_reducible refine (Stp.ldor rfl agg46 size46 rfl H (by assumption) sZ (by assumption) ?_); simp only [pS]) | (with_reducible refine (Stp.ldr rfl agg46 size46 rfl H mR sZ ?_); simp only [pS]) | (with_reducible refine (Stp.ldl rfl agg46 size46 rfl H mR (by simp) ?_); simp only [pS]; simp only [List.drop_succ_cons, List.drop_zero, List.take_succ_cons, List.take_zero])) | (with_reducible refine wpl rfl (ldQ (ty := 9) rfl ?_); first | (with_reducible refine (Stp.ldo rfl agg9 rfl H (by assumption) (by assumption) ?_); simp only [pS]) | (with_reducible refine (Stp.ldc rfl agg9 rfl H mR cE ?_); simp only [pS])))
          go_roundw
          case rel =>
            refine ⟨3, l ++ x, _, _, by omega, by first | rfl | go_num, by rw [List.length_append], Lib.hid ?_, ?_, by rw [List.length_append]; exact H.sub sU⟩
            · rw [← HU.out, ← HX.out, List.append_assoc]; rfl
            · rw [List.length_append]; omega
          case measure => simp [intOf]
        · obtain ⟨x, hx⟩ : ∃ x, shortB (byL (b 3)).length ++ byL (b 3) = x := ⟨_, rfl⟩
          have xl : x.length ≤ 26 := by
            rw [← hx, List.length_append]
            have hs := HSZ.out 3 (by omega)
            have h10 := shortB_len (byL (b 3)).length
            omega
          have HX := Lib.hid hx
          clear hx
          go_wp2_with (first | (with_reducible refine wpl rfl (dQ 16 rfl ?_); with_reducible refine (Stp.s2b (s := b 3) (l := byL (b 3)) 16 rfl rfl rfl rfl (hm63 _) H ?_); clear H; intro gs cs rs w1 HS H; simp only [pS]) | (with_reducible refine wpl rfl (dQ 1 rfl ?_); with_reducible refine (Stp.box 1 rfl rfl rfl H ?_); clear H; intro g1 w1 H; simp only [pS]; simp only [pE, nC, pS] at H) | (with_reducible refine wpl rfl (ldQ (ty := 46) rfl ?_); first | (with_reducible refine (Stp.ldor rfl agg46 size46 rfl H (by assumption) sZ (by assumption) ?_); simp only [pS]) | (with_reducible refine (Stp.ldr rfl agg46 size46 rfl H mR sZ ?_); simp only [pS]) | (with_reducible refine (Stp.ldl rfl agg46 size46 rfl H mR (by simp) ?_); simp only [pS]; simp only [List.drop_succ_cons, List.drop_zero, List.take_succ_cons, List.take_zero])) | (with_reducible refine wpl rfl (ldQ (ty := 9) rfl ?_); first | (with_reducible refine (Stp.ldo rfl agg9 rfl H (by assumption) (by assumption) ?_); simp only [pS]) | (with_reducible refine (Stp.ldc rfl agg9 rfl H mR cE ?_); simp only [pS])))
          refine (rbytes_ok (byL (b 3)) x _ (by have := HSZ.out 3 (by omega); omega) HX.out _ (HS.out.at H (.cons_cons _ (List.nil_sublist _)))).mono ?_
          rintro e w1 ⟨v, rfl, ⟨ap, cp, rfl⟩, ho, hb1⟩
          replace H := H.new hb1 (slc_sound ho) (fun g hg => (ho.lt g hg).1)
          clear hb1 ho HS
          go_wp2_with (first | (with_reducible refine wpl rfl (dQ 18 rfl ?_); with_reducible refine (Stp.apps 18 rfl rfl Try.underlying37 info5 rfl (by decide) rfl rfl H (fun _ => uP) ((bv_len _).trans (Nat.mul_one _).symm) (own_src (H.getSlc (xs := bv x) mE)) (bv_one x) (by unfold maxLen; omega) (by omega) ?_); clear H; intro a18 c18 w1 H; simp only [pS]; rw [bv_app] at H) | (with_reducible refine wpl rfl (dQ 1 rfl ?_); with_reducible refine (Stp.box 1 rfl rfl rfl H ?_); clear H; intro g1 w1 H; simp only [pS]; simp only [pE, nC, pS] at H) | (with_reducible refine wpl rfl (ldQ (ty := 46) rfl ?_); first | (with_reducible refine (Stp.ldor rfl agg46 size46 rfl H (by assumption) sZ (by assumption) ?_); simp only [pS]) | (with_reducible refine (Stp.ldr rfl agg46 size46 rfl H mR sZ ?_); simp only [pS]) | (with_reducible refine (Stp.ldl rfl agg46 size46 rfl H mR (by simp) ?_); simp only [pS]; simp only [List.drop_succ_cons, List.drop_zero, List.take_succ_cons, List.take_zero])) | (with_reducible refine wpl rfl (ldQ (ty := 9) rfl ?_); first | (with_reducible refine (Stp.ldo rfl agg9 rfl H (by assumption) (by assumption) ?_); simp only [pS]) | (with_reducible refine (Stp.ldc rfl agg9 rfl H mR cE ?_); simp only [pS])))
          go_roundw
          case rel =>
            refine ⟨4, l ++ x, _, _, by omega, by first | rfl | go_num, by rw [List.length_append], Lib.hid ?_, ?_, by rw [List.length_append]; exact H.sub sU⟩
            · rw [← HU.out, ← HX.out, List.append_assoc]; rfl
            · rw [List.length_append]; omega
          case measure => simp [intOf]
        · obtain ⟨x, hx⟩ : ∃ x, shortB (byL (b 4)).length ++ byL (b 4) = x := ⟨_, rfl⟩
          have xl : x.length ≤ 26 := by
            rw [← hx, List.length_append]
            have hs := HSZ.out 4 (by omega)
            have h10 := shortB_len (byL (b 4)).length
            omega
          have HX := Lib.hid hx
          clear hx
          go_wp2_with (first | (with_reducible refine wpl rfl (dQ 16 rfl ?_); with_reducible refine (Stp.s2b (s := b 4) (l := byL (b 4)) 16 rfl rfl rfl rfl (hm63 _) H ?_); clear H; intro gs cs rs w1 HS H; simp only [pS]) | (with_reducible refine wpl rfl (dQ 1 rfl ?_); with_reducible refine (Stp.box 1 rfl rfl rfl H ?_); clear H; intro g1 w1 H; simp only [pS]; simp only [pE, nC, pS] at H) | (with_reducible refine wpl rfl (ldQ (ty := 46) rfl ?_); first | (with_reducible refine (Stp.ldor rfl agg46 size46 rfl H (by assumption) sZ (by assumption) ?_); simp only [pS]) | (with_reducible refine (Stp.ldr rfl agg46 size46 rfl H mR sZ ?_); simp only [pS]) | (with_reducible refine (Stp.ldl rfl agg46 size46 rfl H mR (by simp) ?_); simp only [pS]; simp only [List.drop_succ_cons, List.drop_zero, List.take_succ_cons, List.take_zero])) | (with_reducible refine wpl rfl (ldQ (ty := 9) rfl ?_); first | (with_reducible refine (Stp.ldo rfl agg9 rfl H (by assumption) (by assumption) ?_); simp only [pS]) | (with_reducible refine (Stp.ldc rfl agg9 rfl H mR cE ?_); simp only [pS])))
          refine (rbytes_ok (byL (b 4)) x _ (by have := HSZ.out 4 (by omega); omega) HX.out _ (HS.out.at H (.cons_cons _ (List.nil_sublist _)))).mono ?_
          rintro e w1 ⟨v, rfl, ⟨ap, cp, rfl⟩, ho, hb1⟩
          replace H := H.new hb1 (slc_sound ho) (fun g hg => (ho.lt g hg).1)
          clear hb1 ho HS
          go_wp2_with (first | (with_reducible refine wpl rfl (dQ 18 rfl ?_); with_reducible refine (Stp.apps 18 rfl rfl Try.underlying37 info5 rfl (by decide) rfl rfl H (fun _ => uP) ((bv_len _).trans (Nat.mul_one _).symm) (own_src (H.getSlc (xs := bv x) mE)) (bv_one x) (by unfold maxLen; omega) (by omega) ?_); clear H; intro a18 c18 w1 H; simp only [pS]; rw [bv_app] at H) | (with_reducible refine wpl rfl (dQ 1 rfl ?_); with_reducible refine (Stp.box 1 rfl rfl rfl H ?_); clear H; intro g1 w1 H; simp only [pS]; simp only [pE, nC, pS] at H) | (with_reducible refine wpl rfl (ldQ (ty := 46) rfl ?_); first | (with_reducible refine (Stp.ldor rfl agg46 size46 rfl H (by assumption) sZ (by assumption) ?_); simp only [pS]) | (with_reducible refine (Stp.ldr rfl agg46 size46 rfl H mR sZ ?_); simp only [pS]) | (with_reducible refine (Stp.ldl rfl agg46 size46 rfl H mR (by simp) ?_); simp only [pS]; simp only [List.drop_succ_cons, List.drop_zero, List.take_succ_cons, List.take_zero])) | (with_reducible refine wpl rfl (ldQ (ty := 9) rfl ?_); first | (with_reducible refine (Stp.ldo rfl agg9 rfl H (by assumption) (by assumption) ?_); simp only [pS]) | (with_reducible refine (Stp.ldc rfl agg9 rfl H mR cE ?_); simp only [pS])))
          go_roundw
          case rel =>
            refine ⟨5, l ++ x, _, _, by omega, by first | rfl | go_num, by rw [List.length_append], Lib.hid ?_, ?_, by rw [List.length_append]; exact H.sub sU⟩
            · rw [← HU.out, ← HX.out, List.append_assoc]; rfl
            · rw [List.length_append]; omega
          case measure => simp [intOf]
        · obtain ⟨x, hx⟩ : ∃ x, shortB (byL (b 5)).length ++ byL (b 5) = x := ⟨_, rfl⟩
          have xl : x.length ≤ 26 := by
            rw [← hx, List.length_append]
            have hs := HSZ.out 5 (by omega)
            have h10 := shortB_len (byL (b 5)).length
            omega
          have HX := Lib.hid hx
          clear hx
          go_wp2_with (first | (with_reducible refine wpl rfl (dQ 16 rfl ?_); with_reducible refine (Stp.s2b (s := b 5) (l := byL (b 5)) 16 rfl rfl rfl rfl (hm63 _) H ?_); clear H; intro gs cs rs w1 HS H; simp only [pS]) | (with_reducible refine wpl rfl (dQ 1 rfl ?_); with_reducible refine (Stp.box 1 rfl rfl rfl H ?_); clear H; intro g1 w1 H; simp only [pS]; simp only [pE, nC, pS] at H) | (with_reducible refine wpl rfl (ldQ (ty := 46) rfl ?_); first | (with_reducible refine (Stp.ldor rfl agg46 size46 rfl H (by assumption) sZ (by assumption) ?_); simp only [pS]) | (with_reducible refine (Stp.ldr rfl agg46 size46 rfl H mR sZ ?_); simp only [pS]) | (with_reducible refine (Stp.ldl rfl agg46 size46 rfl H mR (by simp) ?_); simp only [pS]; simp only [List.drop_succ_cons, List.drop_zero, List.take_succ_cons, List.take_zero])) | (with_reducible refine wpl rfl (ldQ (ty := 9) rfl ?_); first | (with_reducible refine (Stp.ldo rfl agg9 rfl H (by assumption) (by assumption) ?_); simp only [pS]) | (with_reducible refine (Stp.ldc rfl agg9 rfl H mR cE ?_); simp only [pS])))
          refine (rbytes_ok (byL (b 5)) x _ (by have := HSZ.out 5 (by omega); omega) HX.out _ (HS.out.at H (.cons_cons _ (List.nil_sublist _)))).mono ?_
          rintro e w1 ⟨v, rfl, ⟨ap, cp, rfl⟩, ho, hb1⟩
          replace H := H.new hb1 (slc_sound ho) (fun g hg => (ho.lt g hg).1)
          clear hb1 ho HS
          go_wp2_with (first | (with_reducible refine wpl rfl (dQ 18 rfl ?_); with_reducible refine (Stp.apps 18 rfl rfl Try.underlying37 info5 rfl (by decide) rfl rfl H (fun _ => uP) ((bv_len _).trans (Nat.mul_one _).symm) (own_src (H.getSlc (xs := bv x) mE)) (bv_one x) (by unfold maxLen; omega) (by omega) ?_); clear H; intro a18 c18 w1 H; simp only [pS]; rw [bv_app] at H) | (with_reducible refine wpl rfl (dQ 1 rfl ?_); with_reducible refine (Stp.box 1 rfl rfl rfl H ?_); clear H; intro g1 w1 H; simp only [pS]; simp only [pE, nC, pS] at H) | (with_reducible refine wpl rfl (ldQ (ty := 46) rfl ?_); first | (with_reducible refine (Stp.ldor rfl agg46 size46 rfl H (by assumption) sZ (by assumption) ?_); simp only [pS]) | (with_reducible refine (Stp.ldr rfl agg46 size46 rfl H mR sZ ?_); simp only [pS]) | (with_reducible refine (Stp.ldl rfl agg46 size46 rfl H mR (by simp) ?_); simp only [pS]; simp only [List.drop_succ_cons, List.drop_zero, List.take_succ_cons, List.take_zero])) | (with_reducible refine wpl rfl (ldQ (ty := 9) rfl ?_); first | (with_reducible refine (Stp.ldo rfl agg9 rfl H (by assumption) (by assumption) ?_); simp only [pS]) | (with_reducible refine (Stp.ldc rfl agg9 rfl H mR cE ?_); simp only [pS])))
          go_roundw
          case rel =>
            refine ⟨6, l ++ x, _, _, by omega, by first | rfl | go_num, by rw [List.length_append], Lib.hid ?_, ?_, by rw [List.length_append]; exact H.sub sU⟩
            · rw [← HU.out, ← HX.out, List.append_assoc]; rfl
            · rw [List.length_append]; omega
          case measure => simp [intOf]
        · obtain ⟨x, hx⟩ : ∃ x, shortB (byL (b 6)).length ++ byL (b 6) = x := ⟨_, rfl⟩
          have xl : x.length ≤ 26 := by
            rw [← hx, List.length_append]
            have hs := HSZ.out 6 (by omega)
            have h10 := shortB_len (byL (b 6)).length
            omega
          have HX := Lib.hid hx
          clear hx
          go_wp2_with (first | (with_reducible refine wpl rfl (dQ 16 rfl ?_); with_reducible refine (Stp.s2b (s := b 6) (l := byL (b 6)) 16 rfl rfl rfl rfl (hm63 _) H ?_); clear H; intro gs cs rs w1 HS H; simp only [pS]) | (with_reducible refine wpl rfl (dQ 1 rfl ?_); with_reducible refine (Stp.box 1 rfl rfl rfl H ?_); clear H; intro g1 w1 H; simp only [pS]; simp only [pE, nC, pS] at H) | (with_reducible refine wpl rfl (ldQ (ty := 46) rfl ?_); first | (with_reducible refine (Stp.ldor rfl agg46 size46 rfl H (by assumption) sZ (by assumption) ?_); simp only [pS]) | (with_reducible refine (Stp.ldr rfl agg46 size46 rfl H mR sZ ?_); simp only [pS]) | (with_reducible refine (Stp.ldl rfl agg46 size46 rfl H mR (by simp) ?_); simp only [pS]; simp only [List.drop_succ_cons, List.drop_zero, List.take_succ_cons, List.take_zero])) | (with_reducible refine wpl rfl (ldQ (ty := 9) rfl ?_); first | (with_reducible refine (Stp.ldo rfl agg9 rfl H (by assumption) (by assumption) ?_); simp only [pS]) | (with_reducible refine (Stp.ldc rfl agg9 rfl H mR cE ?_); simp only [pS])))
          refine (rbytes_ok (byL (b 6)) x _ (by have := HSZ.out 6 (by omega); omega) HX.out _ (HS.out.at H (.cons_cons _ (List.nil_sublist _)))).mono ?_
          rintro e w1 ⟨v, rfl, ⟨ap, cp, rfl⟩, ho, hb1⟩
          replace H := H.new hb1 (slc_sound ho) (fun g hg => (ho.lt g hg).1)
          clear hb1 ho HS
          go_wp2_with (first | (with_reducible refine wpl rfl (dQ 18 rfl ?_); with_reducible refine (Stp.apps 18 rfl rfl Try.underlying37 info5 rfl (by decide) rfl rfl H (fun _ => uP) ((bv_len _).trans (Nat.mul_one _).symm) (own_src (H.getSlc (xs := bv x) mE)) (bv_one x) (by unfold maxLen; omega) (by omega) ?_); clear H; intro a18 c18 w1 H; simp only [pS]; rw [bv_app] at H) | (with_reducible refine wpl rfl (dQ 1 rfl ?_); with_reducible refine (Stp.box 1 rfl rfl rfl H ?_); clear H; intro g1 w1 H; simp only [pS]; simp only [pE, nC, pS] at H) | (with_reducible refine wpl rfl (ldQ (ty := 46) rfl ?_); first | (with_reducible refine (Stp.ldor rfl agg46 size46 rfl H (by assumption) sZ (by assumption) ?_); simp only [pS]) | (with_reducible refine (Stp.ldr rfl agg46 size46 rfl H mR sZ ?_); simp only [pS]) | (with_reducible refine (Stp.ldl rfl agg46 size46 rfl H mR (by simp) ?_); simp only [pS]; simp only [List.drop_succ_cons, List.drop_zero, List.take_succ_cons, List.take_zero])) | (with_reducible refine wpl rfl (ldQ (ty := 9) rfl ?_); first | (with_reducible refine (Stp.ldo rfl agg9 rfl H (by assumption) (by assumption) ?_); simp only [pS]) | (with_reducible refine (Stp.ldc rfl agg9 rfl H mR cE ?_); simp only [pS])))
          go_roundw
          case rel =>
            refine ⟨7, l ++ x, _, _, by omega, by first | rfl | go_num, by rw [List.length_append], Lib.hid ?_, ?_, by rw [List.length_append]; exact H.sub sU⟩
            · rw [← HU.out, ← HX.out, List.append_assoc]; rfl
            · rw [List.length_append]; omega
          case measure => simp [intOf]
        · obtain ⟨x, hx⟩ : ∃ x, shortB (byL (b 7)).length ++ byL (b 7) = x := ⟨_, rfl⟩
          have xl : x.length ≤ 26 := by
            rw [← hx, List.length_append]
            have hs := HSZ.out 7 (by omega)
            have h10 := shortB_len (byL (b 7)).length
            omega
          have HX := Lib.hid hx
          clear hx
          go_wp2_with (first | (with_reducible refine wpl rfl (dQ 16 rfl ?_); with_reducible refine (Stp.s2b (s := b 7) (l := byL (b 7)) 16 rfl rfl rfl rfl (hm63 _) H ?_); clear H; intro gs cs rs w1 HS H; simp only [pS]) | (with_reducible refine wpl rfl (dQ 1 rfl ?_); with_reducible refine (Stp.box 1 rfl rfl rfl H ?_); clear H; intro g1 w1 H; simp only [pS]; simp only [pE, nC, pS] at H) | (with_reducible refine wpl rfl (ldQ (ty := 46) rfl ?_); first | (with_reducible refine (Stp.ldor rfl agg46 size46 rfl H (by assumption) sZ (by assumption) ?_); simp only [pS]) | (with_reducible refine (Stp.ldr rfl agg46 size46 rfl H mR sZ ?_); simp only [pS]) | (with_reducible refine (Stp.ldl rfl agg46 size46 rfl H mR (by simp) ?_); simp only [pS]; simp only [List.drop_succ_cons, List.drop_zero, List.take_succ_cons, List.take_zero])) | (with_reducible refine wpl rfl (ldQ (ty := 9) rfl ?_); first | (with_reducible refine (Stp.ldo rfl agg9 rfl H (by assumption) (by assumption) ?_); simp only [pS]) | (with_reducible refine (Stp.ldc rfl agg9 rfl H mR cE ?_); simp only [pS])))
          refine (rbytes_ok (byL (b 7)) x _ (by have := HSZ.out 7 (by omega); omega) HX.out _ (HS.out.at H (.cons_cons _ (List.nil_sublist _)))).mono ?_
          rintro e w1 ⟨v, rfl, ⟨ap, cp, rfl⟩, ho, hb1⟩
          replace H := H.new hb1 (slc_sound ho) (fun g hg => (ho.lt g hg).1)
          clear hb1 ho HS
          go_wp2_with (first | (with_reducible refine wpl rfl (dQ 18 rfl ?_); with_reducible refine (Stp.apps 18 rfl rfl Try.underlying37 info5 rfl (by decide) rfl rfl H (fun _ => uP) ((bv_len _).trans (Nat.mul_one _).symm) (own_src (H.getSlc (xs := bv x) mE)) (bv_one x) (by unfold maxLen; omega) (by omega) ?_); clear H; intro a18 c18 w1 H; simp only [pS]; rw [bv_app] at H) | (with_reducible refine wpl rfl (dQ 1 rfl ?_); with_reducible refine (Stp.box 1 rfl rfl rfl H ?_); clear H; intro g1 w1 H; simp only [pS]; simp only [pE, nC, pS] at H) | (with_reducible refine wpl rfl (ldQ (ty := 46) rfl ?_); first | (with_reducible refine (Stp.ldor rfl agg46 size46 rfl H (by assumption) sZ (by assumption) ?_); simp only [pS]) | (with_reducible refine (Stp.ldr rfl agg46 size46 rfl H mR sZ ?_); simp only [pS]) | (with_reducible refine (Stp.ldl rfl agg46 size46 rfl H mR (by simp) ?_); simp only [pS]; simp only [List.drop_succ_cons, List.drop_zero, List.take_succ_cons, List.take_zero])) | (with_reducible refine wpl rfl (ldQ (ty := 9) rfl ?_); first | (with_reducible refine (Stp.ldo rfl agg9 rfl H (by assumption) (by assumption) ?_); simp only [pS]) | (with_reducible refine (Stp.ldc rfl agg9 rfl H mR cE ?_); simp only [pS])))
          go_roundw
          case rel =>
            refine ⟨8, l ++ x, _, _, by omega, by first | rfl | go_num, by rw [List.length_append], Lib.hid ?_, ?_, by rw [List.length_append]; exact H.sub sU⟩
            · rw [← HU.out, ← HX.out, List.append_assoc]; rfl
            · rw [List.length_append]; omega
          case measure => simp [intOf]
      · obtain rfl : kk = 8 := by omega
        have hlr : l = r := by have := HU.out; rw [← this]; exact (List.append_nil _).symm
        subst hlr
        go_wp2_with (first | (with_reducible refine wpl rfl (dQ 1 rfl ?_); with_reducible refine (Stp.box 1 rfl rfl rfl H ?_); clear H; intro g1 w1 H; simp only [pS]; simp only [pE, nC, pS] at H) | (with_reducible refine wpl rfl (ldQ (ty := 46) rfl ?_); first | (with_reducible refine (Stp.ldor rfl agg46 size46 rfl H (by assumption) sZ (by assumption) ?_); simp only [pS]) | (with_reducible refine (Stp.ldr rfl agg46 size46 rfl H mR sZ ?_); simp only [pS]) | (with_reducible refine (Stp.ldl rfl agg46 size46 rfl H mR (by simp) ?_); simp only [pS]; simp only [List.drop_succ_cons, List.drop_zero, List.take_succ_cons, List.take_zero])) | (with_reducible refine wpl rfl (ldQ (ty := 9) rfl ?_); first | (with_reducible refine (Stp.ldo rfl agg9 rfl H (by assumption) (by assumption) ?_); simp only [pS]) | (with_reducible refine (Stp.ldc rfl agg9 rfl H mR cE ?_); simp only [pS])))
        go_ret
        exact ⟨_, rfl, ⟨_, _, rfl⟩, H.getSlc mE, H.below⟩
end Go.Proofs.Ytjghcmejmdllbaa

namespace Go.Proofs.Ytjghcmejmdllbaa
open Go.ChangeShapes Go.WideShapes Go.ChangeAt Go.RowKit Go.Deep
set_option linter.unusedVariables false
set_option linter.unusedSimpArgs false
set_option linter.unusedSectionVars false
set_option maxRecDepth 100000
set_option maxHeartbeats 2000000
section
variable {P : Program} {ops : Array Oper} {a : Act} {o : Oper} {w : World} {N : Act → World → Prop}
theorem Stp.sltoG {ty e : TypeId} {x y : Operand} {A : Option Addr} {n c k : Nat} {kd : IntKind} {z : Int} (d : Tmp) (hd : o.dst = some d) (ho : o.op = .slice ty x none (some y) none) (ht : P.underlying ty = some (.slice e)) (hs : ∀ W : World, (sizeOf e).run P W = .ok 1 W)
    (hx : a.eval x = .slice A n c) (hy : a.eval y = .int kd z) (hz : z = (k : Int)) (hk : k ≤ c) (h : N (a.put (some d) (.slice A k c)) w) : Stp P o a w N := by
  rw [← hd] at h
  subst hz
  refine ⟨w, .inl ⟨_, ?_, h⟩⟩
  unfold execOp; simp only [ho]
  simp [hx, hy, Instr.sliceAt, run_underlying ht, run_toG ht hs hk]
end
theorem rrNum_ok {B : Nat} {w0 : World} {L M : List Res} (g : Nat) (s : Value) (l : List Nat) (e most : Nat) (hb : Byt B w0 L s l) (hML : L.Sublist M) (w : World) (H : St B w0 w (row 149 g #[s, .int .i64 (e : Int)] :: M)) :
    Calls Try.prog 126 #[.pointer (some ⟨g, 0, none⟩), .int .u64 (most : Int)] w (Ret fun v w' => v = .int .u64 ((numF most (l, e)).1 : Int) ∧ ∃ s', Byt B w0 L s' (numF most (l, e)).2.1 ∧ St B w0 w' (row 149 g #[s', .int .i64 ((numF most (l, e)).2.2 : Int)] :: M)) := by
  by_cases he : e ≠ 0
  · have hei : ((e : Int) != 0) = true := by simp; omega
    rw [numF_bad he]
    clear he
    go_enter Try.func126, Try.ntmps126
    go_wp2_with (first | (with_reducible refine wpl rfl (ldQ (ty := 3) rfl ?_); first | (with_reducible refine (Stp.ldo rfl agg3 rfl H (by assumption) (by assumption) ?_); simp only [pS]) | (with_reducible refine (Stp.ldc rfl agg3 rfl H mR cE ?_); simp only [pS])) | (with_reducible refine wpl rfl (ldQ (ty := 37) rfl ?_); first | (with_reducible refine (Stp.ldo rfl agg37 rfl H (by assumption) (by assumption) ?_); simp only [pS]) | (with_reducible refine (Stp.ldc rfl agg37 rfl H mR cE ?_); simp only [pS])) | (with_reducible refine wpl rfl (stQ (ty := 3) rfl ?_); first | (with_reducible refine (Stp.stc rfl size3 rfl rfl rfl rfl H uP (by first | omega | (simp; done) | (simp; omega)) ?_); clear H; intro w1 H; simp only [pS]; simp only [pE, nC, pS] at H)) | (with_reducible refine wpl rfl (stQ (ty := 37) rfl ?_); first | (with_reducible refine (Stp.stc rfl size37 rfl rfl rfl rfl H uP (by first | omega | (simp; done) | (simp; omega)) ?_); clear H; intro w1 H; simp only [pS]; simp only [pE, nC, pS] at H)))
    go_ret
    exact ⟨_, rfl, rfl, s, hb, H⟩
  obtain rfl : e = 0 := by omega
  have hei : (((0 : Nat) : Int) != 0) = false := by simp
  clear he
  obtain ⟨a, b, c, hg⟩ : ∃ a b c, gs l 10 0 0 = (a, b, c) := ⟨_, _, _, rfl⟩
  have hb0 := hb
  obtain ⟨A, m, cc, rfl, hlm, hmc, hx, hm1, hrd⟩ := hb
  have hle := gs_le l 10 0 0 a b c hg
  have HG := Lib.hid hg
  have HX := Lib.hid hx
  have HL := Lib.hid hlm
  clear hx hlm
  by_cases hc : c ≠ 0
  · have hci : ((c : Int) != 0) = true := by simp; omega
    have hci2 : ((c : Int) == 0) = false := by simp; omega
    rw [numF_err hg hc]
    clear hc hle hg
    go_enter Try.func126, Try.ntmps126
    go_wp2_with (first | (go_at_call 140; (with_reducible refine (rgetshort_ok _ l (by have := HL.out; omega) HX.out _ (hrd.at H (.cons _ hML)) a b c HG.out).mono ?_); rintro e w1 ⟨v, rfl, hr⟩; obtain ⟨rfl, hb1⟩ := hr; replace H := H.grow hb1; clear hb1) | (with_reducible refine wpl rfl (ldQ (ty := 3) rfl ?_); first | (with_reducible refine (Stp.ldo rfl agg3 rfl H (by assumption) (by assumption) ?_); simp only [pS]) | (with_reducible refine (Stp.ldc rfl agg3 rfl H mR cE ?_); simp only [pS])) | (with_reducible refine wpl rfl (ldQ (ty := 37) rfl ?_); first | (with_reducible refine (Stp.ldo rfl agg37 rfl H (by assumption) (by assumption) ?_); simp only [pS]) | (with_reducible refine (Stp.ldc rfl agg37 rfl H mR cE ?_); simp only [pS])) | (with_reducible refine wpl rfl (stQ (ty := 3) rfl ?_); first | (with_reducible refine (Stp.stc rfl size3 rfl rfl rfl rfl H uP (by first | omega | (simp; done) | (simp; omega)) ?_); clear H; intro w1 H; simp only [pS]; simp only [pE, nC, pS] at H)) | (with_reducible refine wpl rfl (stQ (ty := 37) rfl ?_); first | (with_reducible refine (Stp.stc rfl size37 rfl rfl rfl rfl H uP (by first | omega | (simp; done) | (simp; omega)) ?_); clear H; intro w1 H; simp only [pS]; simp only [pE, nC, pS] at H)))
    go_ret
    exact ⟨_, rfl, rfl, _, hb0, H⟩
  obtain rfl : c = 0 := by omega
  have hci : (((0 : Nat) : Int) != 0) = false := by simp
  have hci2 : (((0 : Nat) : Int) == 0) = true := by simp
  by_cases hm : most < a
  · have hmi : (most : Int) < (a : Int) := by omega
    rw [numF_long hg hm]
    clear hc hle hg hm
    go_enter Try.func126, Try.ntmps126
    go_wp2_with (first | (go_at_call 140; (with_reducible refine (rgetshort_ok _ l (by have := HL.out; omega) HX.out _ (hrd.at H (.cons _ hML)) a b 0 HG.out).mono ?_); rintro e w1 ⟨v, rfl, hr⟩; obtain ⟨rfl, hb1⟩ := hr; replace H := H.grow hb1; clear hb1) | (with_reducible refine wpl rfl (ldQ (ty := 3) rfl ?_); first | (with_reducible refine (Stp.ldo rfl agg3 rfl H (by assumption) (by assumption) ?_); simp only [pS]) | (with_reducible refine (Stp.ldc rfl agg3 rfl H mR cE ?_); simp only [pS])) | (with_reducible refine wpl rfl (ldQ (ty := 37) rfl ?_); first | (with_reducible refine (Stp.ldo rfl agg37 rfl H (by assumption) (by assumption) ?_); simp only [pS]) | (with_reducible refine (Stp.ldc rfl agg37 rfl H mR cE ?_); simp only [pS])) | (with_reducible refine wpl rfl (stQ (ty := 3) rfl ?_); first | (with_reducible refine (Stp.stc rfl size3 rfl rfl rfl rfl H uP (by first | omega | (simp; done) | (simp; omega)) ?_); clear H; intro w1 H; simp only [pS]; simp only [pE, nC, pS] at H)) | (with_reducible refine wpl rfl (stQ (ty := 37) rfl ?_); first | (with_reducible refine (Stp.stc rfl size37 rfl rfl rfl rfl H uP (by first | omega | (simp; done) | (simp; omega)) ?_); clear H; intro w1 H; simp only [pS]; simp only [pE, nC, pS] at H)))
    go_ret
    exact ⟨_, rfl, rfl, _, hb0, H⟩
  · have hmi : ¬ (most : Int) < (a : Int) := by omega
    have hbm : b ≤ m := by have := (hle.2 rfl).2; have := HL.out; omega
    rw [numF_ok hg hm]
    clear hc hle hg hm
    go_enter Try.func126, Try.ntmps126
    go_wp2_with (first | (go_at_call 140; (with_reducible refine (rgetshort_ok _ l (by have := HL.out; omega) HX.out _ (hrd.at H (.cons _ hML)) a b 0 HG.out).mono ?_); rintro e w1 ⟨v, rfl, hr⟩; obtain ⟨rfl, hb1⟩ := hr; replace H := H.grow hb1; clear hb1) | (with_reducible refine wpl rfl (dQ 41 rfl ?_); with_reducible refine (Stp.slfrom (k := b) 41 rfl rfl Try.underlying37 size5 rfl rfl (by omega) (by omega) ?_); intro A8 hA8; have H8 := Lib.hid hA8; clear hA8; simp only [pS]) | (with_reducible refine wpl rfl (ldQ (ty := 3) rfl ?_); first | (with_reducible refine (Stp.ldo rfl agg3 rfl H (by assumption) (by assumption) ?_); simp only [pS]) | (with_reducible refine (Stp.ldc rfl agg3 rfl H mR cE ?_); simp only [pS])) | (with_reducible refine wpl rfl (ldQ (ty := 37) rfl ?_); first | (with_reducible refine (Stp.ldo rfl agg37 rfl H (by assumption) (by assumption) ?_); simp only [pS]) | (with_reducible refine (Stp.ldc rfl agg37 rfl H mR cE ?_); simp only [pS])) | (with_reducible refine wpl rfl (stQ (ty := 3) rfl ?_); first | (with_reducible refine (Stp.stc rfl size3 rfl rfl rfl rfl H uP (by first | omega | (simp; done) | (simp; omega)) ?_); clear H; intro w1 H; simp only [pS]; simp only [pE, nC, pS] at H)) | (with_reducible refine wpl rfl (stQ (ty := 37) rfl ?_); first | (with_reducible refine (Stp.stc rfl size37 rfl rfl rfl rfl H uP (by first | omega | (simp; done) | (simp; omega)) ?_); clear H; intro w1 H; simp only [pS]; simp only [pE, nC, pS] at H)))
    go_ret
    exact ⟨_, rfl, rfl, _, Byt.drop HL.out hmc HX.out hm1 hrd hbm H8.out rfl, H⟩
theorem rrEnd_ok {B : Nat} {w0 : World} {L M : List Res} (g : Nat) (s : Value) (l : List Nat) (e : Nat) (hb : Byt B w0 L s l) (w : World) (H : St B w0 w (row 149 g #[s, .int .i64 (e : Int)] :: M)) :
    Calls Try.prog 92 #[.pointer (some ⟨g, 0, none⟩)] w (Ret fun v w' => v = .int .i64 (endF (l, e) : Int) ∧ St B w0 w' (row 149 g #[s, .int .i64 (e : Int)] :: M)) := by
  obtain ⟨A, m, cc, rfl, hlm, hmc, hx, hm1, hrd⟩ := hb
  by_cases he : e ≠ 0
  · have hei : ((e : Int) == 0) = false := by simp; omega
    have HV : Hid (endF (l, e) = e) := Lib.hid (if_pos he)
    clear he hlm hx hrd
    go_enter Try.func92, Try.ntmps92
    go_wp2_with (first | (with_reducible refine wpl rfl (ldQ (ty := 3) rfl ?_); first | (with_reducible refine (Stp.ldo rfl agg3 rfl H (by assumption) (by assumption) ?_); simp only [pS]) | (with_reducible refine (Stp.ldc rfl agg3 rfl H mR cE ?_); simp only [pS])) | (with_reducible refine wpl rfl (ldQ (ty := 37) rfl ?_); first | (with_reducible refine (Stp.ldo rfl agg37 rfl H (by assumption) (by assumption) ?_); simp only [pS]) | (with_reducible refine (Stp.ldc rfl agg37 rfl H mR cE ?_); simp only [pS])))
    go_ret
    exact ⟨_, rfl, by rw [HV.out]; rfl, H⟩
  obtain rfl : e = 0 := by omega
  have hei : (((0 : Nat) : Int) == 0) = true := by simp
  by_cases hm : 0 < m
  · have hmi : (0 : Int) < (m : Int) := by omega
    have HV : Hid (endF (l, 0) = 5) := Lib.hid (by unfold endF; rw [if_neg (by simp), if_pos (by rw [hlm]; exact hm)])
    clear he hlm hx hrd hm
    go_enter Try.func92, Try.ntmps92
    go_wp2_with (first | (with_reducible refine wpl rfl (ldQ (ty := 3) rfl ?_); first | (with_reducible refine (Stp.ldo rfl agg3 rfl H (by assumption) (by assumption) ?_); simp only [pS]) | (with_reducible refine (Stp.ldc rfl agg3 rfl H mR cE ?_); simp only [pS])) | (with_reducible refine wpl rfl (ldQ (ty := 37) rfl ?_); first | (with_reducible refine (Stp.ldo rfl agg37 rfl H (by assumption) (by assumption) ?_); simp only [pS]) | (with_reducible refine (Stp.ldc rfl agg37 rfl H mR cE ?_); simp only [pS])))
    go_ret
    exact ⟨_, rfl, by rw [HV.out]; rfl, H⟩
  · have hmi : ¬ (0 : Int) < (m : Int) := by omega
    have HV : Hid (endF (l, 0) = 0) := Lib.hid (by unfold endF; rw [if_neg (by simp), if_neg (by rw [hlm]; exact hm)])
    clear he hlm hx hrd hm
    go_enter Try.func92, Try.ntmps92
    go_wp2_with (first | (with_reducible refine wpl rfl (ldQ (ty := 3) rfl ?_); first | (with_reducible refine (Stp.ldo rfl agg3 rfl H (by assumption) (by assumption) ?_); simp only [pS]) | (with_reducible refine (Stp.ldc rfl agg3 rfl H mR cE ?_); simp only [pS])) | (with_reducible refine wpl rfl (ldQ (ty := 37) rfl ?_); first | (with_reducible refine (Stp.ldo rfl agg37 rfl H (by assumption) (by assumption) ?_); simp only [pS]) | (with_reducible refine (Stp.ldc rfl agg37 rfl H mR cE ?_); simp only [pS])))
    go_ret
    exact ⟨_, rfl, by rw [HV.out]; rfl, H⟩
theorem rrBytes_ok {B : Nat} {w0 : World} {L M : List Res} (g : Nat) (s : Value) (l : List Nat) (e most : Nat) (hb : Byt B w0 L s l) (hmo2 : most ≤ 100000) (hML : L.Sublist M) (w : World) (H : St B w0 w (row 149 g #[s, .int .i64 (e : Int)] :: M)) :
    Calls Try.prog 91 #[.pointer (some ⟨g, 0, none⟩), .int .i64 (most : Int)] w (Ret fun v w' => ∃ s' ab cb d e', v = .slice ab d.length cb ∧ bytesF most (l, e) = (d, ((bytesF most (l, e)).2.1, e')) ∧ Byt B w0 L s' (bytesF most (l, e)).2.1 ∧ St B w0 w' (row 149 g #[s', .int .i64 (e' : Int)] :: slc 5 1 (.slice ab d.length cb) d.length (bv d) :: M)) := by
  have wm : IntKind.u64.wrap (most : Int) = (most : Int) := wrap_u64_in _ (by omega) (by omega)
  have mm : (if (most : Int) ≥ 0 then (most : Int) else 0) = (most : Int) := if_pos (by omega)
  have HB := Lib.hid hb
  obtain ⟨A0, m0, cc0, rfl, _⟩ := hb
  go_enter Try.func91, Try.ntmps91
  go_upto_region 3 with (first | (go_at_call 126; (with_reducible refine (rrNum_ok g _ l e most HB.out hML _ H).mono ?_); rintro e w1 ⟨v, rfl, hr⟩; obtain ⟨rfl, s2, hb2, H2⟩ := hr; clear H; have H := H2; clear H2) | (with_reducible refine wpl rfl (ldQ (ty := 37) rfl ?_); first | (with_reducible refine (Stp.ldo rfl agg37 rfl H (by assumption) (by assumption) ?_); simp only [pS]) | (with_reducible refine (Stp.ldc rfl agg37 rfl H mR cE ?_); simp only [pS])) | (with_reducible refine wpl rfl (ldQ (ty := 3) rfl ?_); first | (with_reducible refine (Stp.ldo rfl agg3 rfl H (by assumption) (by assumption) ?_); simp only [pS]) | (with_reducible refine (Stp.ldc rfl agg3 rfl H mR cE ?_); simp only [pS])) | (with_reducible refine wpl rfl (stQ (ty := 3) rfl ?_); first | (with_reducible refine (Stp.stc rfl size3 rfl rfl rfl rfl H uP (by first | omega | (simp; done) | (simp; omega)) ?_); clear H; intro w1 H; simp only [pS]; simp only [pE, nC, pS] at H)) | (with_reducible refine wpl rfl (stQ (ty := 37) rfl ?_); first | (with_reducible refine (Stp.stc rfl size37 rfl rfl rfl rfl H uP (by first | omega | (simp; done) | (simp; omega)) ?_); clear H; intro w1 H; simp only [pS]; simp only [pE, nC, pS] at H)))
  have hz1 := numF_zero (most := most) (s := (l, e))
  have hz2 := numF_most (most := most) (s := (l, e))
  have hBF : bytesF most (l, e) = if (numF most (l, e)).2.2 ≠ 0 then ([], (l, (numF most (l, e)).2.2)) else if (numF most (l, e)).2.1.length < (numF most (l, e)).1 then ([], (l, 2)) else ((numF most (l, e)).2.1.take (numF most (l, e)).1, ((numF most (l, e)).2.1.drop (numF most (l, e)).1, 0)) := by
    by_cases he : e ≠ 0
    · rw [numF_bad he]
      unfold bytesF
      rw [if_pos he, if_pos he]
    · unfold bytesF
      rw [if_neg he]
  obtain ⟨⟨n1, l1, e1⟩, hz⟩ : ∃ z, numF most (l, e) = z := ⟨_, rfl⟩
  rw [hz] at hz1 hz2 hBF hb2 H ⊢
  simp only at hz1 hz2 hBF hb2 H ⊢
  clear hz
  obtain ⟨A, m, c, rfl, hlm, hmc, hx, hm1, hrd⟩ := hb2
  have wm2 : IntKind.u64.wrap (m : Int) = (m : Int) := wrap_u64_in _ (by omega) (by omega)
  by_cases he1 : e1 ≠ 0
  · have hn0 := hz1 he1
    subst hn0
    rw [if_pos he1] at hBF
    have HBF := Lib.hid hBF
    have hei : ((e1 : Int) == 0) = false := by simp; omega
    have hei2 : ((e1 : Int) != 0) = true := by simp; omega
    clear hz1 hz2 hBF he1 hlm hx hrd
    go_wp2_with (first | (with_reducible refine wpl rfl (ldQ (ty := 37) rfl ?_); first | (with_reducible refine (Stp.ldo rfl agg37 rfl H (by assumption) (by assumption) ?_); simp only [pS]) | (with_reducible refine (Stp.ldc rfl agg37 rfl H mR cE ?_); simp only [pS])) | (with_reducible refine wpl rfl (ldQ (ty := 3) rfl ?_); first | (with_reducible refine (Stp.ldo rfl agg3 rfl H (by assumption) (by assumption) ?_); simp only [pS]) | (with_reducible refine (Stp.ldc rfl agg3 rfl H mR cE ?_); simp only [pS])) | (with_reducible refine wpl rfl (stQ (ty := 3) rfl ?_); first | (with_reducible refine (Stp.stc rfl size3 rfl rfl rfl rfl H uP (by first | omega | (simp; done) | (simp; omega)) ?_); clear H; intro w1 H; simp only [pS]; simp only [pE, nC, pS] at H)) | (with_reducible refine wpl rfl (stQ (ty := 37) rfl ?_); first | (with_reducible refine (Stp.stc rfl size37 rfl rfl rfl rfl H uP (by first | omega | (simp; done) | (simp; omega)) ?_); clear H; intro w1 H; simp only [pS]; simp only [pE, nC, pS] at H)))
    go_ret
    exact ⟨_, rfl, _, none, 0, [], e1, rfl, by rw [HBF.out], by rw [HBF.out]; exact HB.out, (H.nil 5 1).perm (.swap _ _ _)⟩
  obtain rfl : e1 = 0 := by omega
  rw [if_neg (by simp)] at hBF
  clear hz1 he1
  by_cases hlt : l1.length < n1
  · rw [if_pos hlt] at hBF
    have HBF := Lib.hid hBF
    rw [hlm] at hlt
    have hdm : (m : Int) < (n1 : Int) := by omega
    clear hBF hlt hlm hx hrd hz2
    go_wp2_with (first | (with_reducible refine wpl rfl (ldQ (ty := 37) rfl ?_); first | (with_reducible refine (Stp.ldo rfl agg37 rfl H (by assumption) (by assumption) ?_); simp only [pS]) | (with_reducible refine (Stp.ldc rfl agg37 rfl H mR cE ?_); simp only [pS])) | (with_reducible refine wpl rfl (ldQ (ty := 3) rfl ?_); first | (with_reducible refine (Stp.ldo rfl agg3 rfl H (by assumption) (by assumption) ?_); simp only [pS]) | (with_reducible refine (Stp.ldc rfl agg3 rfl H mR cE ?_); simp only [pS])) | (with_reducible refine wpl rfl (stQ (ty := 3) rfl ?_); first | (with_reducible refine (Stp.stc rfl size3 rfl rfl rfl rfl H uP (by first | omega | (simp; done) | (simp; omega)) ?_); clear H; intro w1 H; simp only [pS]; simp only [pE, nC, pS] at H)) | (with_reducible refine wpl rfl (stQ (ty := 37) rfl ?_); first | (with_reducible refine (Stp.stc rfl size37 rfl rfl rfl rfl H uP (by first | omega | (simp; done) | (simp; omega)) ?_); clear H; intro w1 H; simp only [pS]; simp only [pE, nC, pS] at H)))
    go_ret
    exact ⟨_, rfl, _, none, 0, [], 2, rfl, by rw [HBF.out], by rw [HBF.out]; exact HB.out, (H.nil 5 1).perm (.swap _ _ _)⟩
  · rw [if_neg hlt] at hBF
    have HBF := Lib.hid hBF
    have hkm : n1 ≤ m := by omega
    obtain ⟨d, hd⟩ : ∃ d, l1.take n1 = d := ⟨_, rfl⟩
    have hdl : d.length = n1 := by rw [← hd, List.length_take]; omega
    have hdm : ¬ (m : Int) < (n1 : Int) := by omega
    have HX := Lib.hid hx
    have HL := Lib.hid hlm
    have HD := Lib.hid hd
    subst hdl
    clear hx hlm hd hBF hlt
    go_upto_region 8 with (first | (with_reducible refine wpl rfl (ldQ (ty := 37) rfl ?_); first | (with_reducible refine (Stp.ldo rfl agg37 rfl H (by assumption) (by assumption) ?_); simp only [pS]) | (with_reducible refine (Stp.ldc rfl agg37 rfl H mR cE ?_); simp only [pS])) | (with_reducible refine wpl rfl (ldQ (ty := 3) rfl ?_); first | (with_reducible refine (Stp.ldo rfl agg3 rfl H (by assumption) (by assumption) ?_); simp only [pS]) | (with_reducible refine (Stp.ldc rfl agg3 rfl H mR cE ?_); simp only [pS])) | (with_reducible refine wpl rfl (stQ (ty := 3) rfl ?_); first | (with_reducible refine (Stp.stc rfl size3 rfl rfl rfl rfl H uP (by first | omega | (simp; done) | (simp; omega)) ?_); clear H; intro w1 H; simp only [pS]; simp only [pE, nC, pS] at H)) | (with_reducible refine wpl rfl (stQ (ty := 37) rfl ?_); first | (with_reducible refine (Stp.stc rfl size37 rfl rfl rfl rfl H uP (by first | omega | (simp; done) | (simp; omega)) ?_); clear H; intro w1 H; simp only [pS]; simp only [pE, nC, pS] at H)))
    have hrt := hrd.takeG HL.out hkm HD.out
    have HRT := Lib.hid hrt
    have HRD := Lib.hid hrd
    clear hrt hrd
    go_wp2_with (first | (with_reducible refine wpl rfl (dQ 44 rfl ?_); with_reducible refine (Stp.bsl0N (e := 5) (size := 1) 44 rfl rfl (fun W => by kernel_rfl) H ?_); clear H; intro a44 c44 w1 H; simp only [pS]) | (with_reducible refine wpl rfl (dQ 50 rfl ?_); with_reducible refine (Stp.sltoG (A := A) (k := d.length) 50 rfl rfl Try.underlying37 size5 rfl rfl rfl hkm ?_); simp only [pS]) | (with_reducible refine wpl rfl (dQ 51 rfl ?_); with_reducible refine (Stp.apps 51 rfl rfl Try.underlying37 info5 rfl (by decide) rfl rfl H (fun _ => uP) ((bv_len d).trans (Nat.mul_one _).symm) (Sl.src (HRT.out.at H (by repeat (first | exact hML | apply List.Sublist.cons)))) (bv_one d) (by unfold maxLen; omega) (by omega) ?_); clear H; intro a51 c51 w1 H; simp only [pS]; simp only [Nat.zero_add, List.nil_append] at H ⊢) | (with_reducible refine wpl rfl (dQ 58 rfl ?_); with_reducible refine (Stp.slfrom (k := d.length) 58 rfl rfl Try.underlying37 size5 rfl rfl (by omega) (by omega) ?_); intro A8 hA8; have H8 := Lib.hid hA8; clear hA8; simp only [pS]) | (with_reducible refine wpl rfl (ldQ (ty := 37) rfl ?_); first | (with_reducible refine (Stp.ldo rfl agg37 rfl H (by assumption) (by assumption) ?_); simp only [pS]) | (with_reducible refine (Stp.ldc rfl agg37 rfl H mR cE ?_); simp only [pS])) | (with_reducible refine wpl rfl (ldQ (ty := 3) rfl ?_); first | (with_reducible refine (Stp.ldo rfl agg3 rfl H (by assumption) (by assumption) ?_); simp only [pS]) | (with_reducible refine (Stp.ldc rfl agg3 rfl H mR cE ?_); simp only [pS])) | (with_reducible refine wpl rfl (stQ (ty := 3) rfl ?_); first | (with_reducible refine (Stp.stc rfl size3 rfl rfl rfl rfl H uP (by first | omega | (simp; done) | (simp; omega)) ?_); clear H; intro w1 H; simp only [pS]; simp only [pE, nC, pS] at H)) | (with_reducible refine wpl rfl (stQ (ty := 37) rfl ?_); first | (with_reducible refine (Stp.stc rfl size37 rfl rfl rfl rfl H uP (by first | omega | (simp; done) | (simp; omega)) ?_); clear H; intro w1 H; simp only [pS]; simp only [pE, nC, pS] at H)))
    go_ret
    exact ⟨_, rfl, _, _, _, d, rfl, 0, by rw [HBF.out, HD.out], by rw [HBF.out]; exact Byt.drop HL.out hmc HX.out hm1 HRD.out hkm H8.out rfl, H.perm (.swap _ _ _)⟩
end Go.Proofs.Ytjghcmejmdllbaa
