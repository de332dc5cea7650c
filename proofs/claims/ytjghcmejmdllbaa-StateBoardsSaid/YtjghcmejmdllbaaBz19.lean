/- Layer 19's Pack (state) and its reference's (choragusref19) on any board. The plain law of boards: what is packed is unpacked to the same board; the form is short. -/
import Derived.Test.YtjghcmejmdllbaaBz18
namespace Go.Proofs.Ytjghcmejmdllbaa
open Go.ChangeShapes Go.WideShapes Go.ChangeAt Go.RowKit Go.Deep
set_option linter.unusedVariables false
set_option linter.unusedSimpArgs false
set_option linter.unusedSectionVars false
set_option maxRecDepth 100000
set_option maxHeartbeats 4000000
/-- The form of n texts of a board, from k on. -/
def packN : Nat → Nat → (Nat → ByteArray) → List Nat
  | 0, _, _ => []
  | n + 1, k, b => (shortB (byL (b k)).length ++ byL (b k)) ++ packN n (k + 1) b
def packF (b : Nat → ByteArray) : List Nat := if mayN 8 0 b = true then packN 8 0 b else []
theorem mayN_size : ∀ (n k : Nat) (b : Nat → ByteArray), mayN n k b = true → ∀ i, k ≤ i → i < k + n → (b i).size ≤ 16
  | 0, k, b, _, i, h1, h2 => absurd h2 (by omega)
  | n + 1, k, b, h, i, h1, h2 => by
    unfold mayN at h
    rw [Bool.and_eq_true] at h
    by_cases hk : i = k
    · subst hk; exact of_decide_eq_true h.1
    · exact mayN_size n (k + 1) b h.2 i (by omega) (by omega)
theorem spack_ok (b : Nat → ByteArray) (hm63 : ∀ i, (byL (b i)).length ≤ maxLen) (w : World) : Calls Try.prog 51 #[.agg (bcs b)] w (Ret fun v' w' => (∃ ap cp, v' = .slice ap (packF b).length cp) ∧ w'.ownsRow w.heap.size 5 1 v' (packF b).length (bv (packF b)) ∧ Below w.heap.size w w') := by
  have H := St.init w
  obtain ⟨q, hq⟩ : ∃ q, mayN 8 0 b = q := ⟨_, rfl⟩
  have HQ := Lib.hid hq
  have hb : bcs b = #[.string (b 0), .string (b 1), .string (b 2), .string (b 3), .string (b 4), .string (b 5), .string (b 6), .string (b 7)] := rfl
  cases q with
  | false =>
    have hp : packF b = [] := by unfold packF; rw [hq]; rfl
    rw [hp]
    clear hq hp
    unfold bcs
    go_enter Try.func51, Try.ntmps51
    go_wp2_with (first | (with_reducible refine wpl rfl (dQ 1 rfl ?_); with_reducible refine (Stp.box 1 rfl rfl rfl H ?_); clear H; intro g1 w1 H; simp only [pS]; simp only [pE, nC, pS] at H) | (with_reducible refine wpl rfl (ldQ (ty := 46) rfl ?_); first | (with_reducible refine (Stp.ldor rfl agg46 size46 rfl H (by assumption) sZ (by assumption) ?_); simp only [pS]) | (with_reducible refine (Stp.ldr rfl agg46 size46 rfl H mR sZ ?_); simp only [pS]) | (with_reducible refine (Stp.ldl rfl agg46 size46 rfl H mR (by simp) ?_); simp only [pS]; simp only [List.drop_succ_cons, List.drop_zero, List.take_succ_cons, List.take_zero])) | (with_reducible refine wpl rfl (dQ 10 rfl ?_); with_reducible refine (Stp.box 10 rfl rfl rfl H ?_); clear H; intro g10 w1 H; simp only [pS]; simp only [pE, nC, pS] at H))
    refine (smayG_ok b _).mono ?_
    rintro e w1 ⟨v, rfl, rfl, hb1⟩
    replace H := H.grow hb1
    rw [HQ.out]
    go_wp2_with (first | (with_reducible refine wpl rfl (dQ 1 rfl ?_); with_reducible refine (Stp.box 1 rfl rfl rfl H ?_); clear H; intro g1 w1 H; simp only [pS]; simp only [pE, nC, pS] at H) | (with_reducible refine wpl rfl (ldQ (ty := 46) rfl ?_); first | (with_reducible refine (Stp.ldor rfl agg46 size46 rfl H (by assumption) sZ (by assumption) ?_); simp only [pS]) | (with_reducible refine (Stp.ldr rfl agg46 size46 rfl H mR sZ ?_); simp only [pS]) | (with_reducible refine (Stp.ldl rfl agg46 size46 rfl H mR (by simp) ?_); simp only [pS]; simp only [List.drop_succ_cons, List.drop_zero, List.take_succ_cons, List.take_zero])) | (with_reducible refine wpl rfl (dQ 10 rfl ?_); with_reducible refine (Stp.box 10 rfl rfl rfl H ?_); clear H; intro g10 w1 H; simp only [pS]; simp only [pE, nC, pS] at H))
    go_ret
    exact ⟨_, rfl, ⟨none, 0, rfl⟩, (H.nil 5 1).getSlc mE, H.below⟩
  | true =>
    have hp : packF b = packN 8 0 b := by unfold packF; rw [hq]; rfl
    rw [hp]
    have hsz : ∀ i, i < 8 → (byL (b i)).length ≤ 16 := fun i hi => by rw [byL_len]; exact mayN_size 8 0 b hq i (Nat.zero_le _) (by omega)
    have HSZ := Lib.hid hsz
    clear hq hp hsz
    obtain ⟨r, hr⟩ : ∃ r, packN 8 0 b = r := ⟨_, rfl⟩
    rw [hr]
    unfold bcs
    go_enter Try.func51, Try.ntmps51
    go_wp2_with (first | (with_reducible refine wpl rfl (dQ 1 rfl ?_); with_reducible refine (Stp.box 1 rfl rfl rfl H ?_); clear H; intro g1 w1 H; simp only [pS]; simp only [pE, nC, pS] at H) | (with_reducible refine wpl rfl (ldQ (ty := 46) rfl ?_); first | (with_reducible refine (Stp.ldor rfl agg46 size46 rfl H (by assumption) sZ (by assumption) ?_); simp only [pS]) | (with_reducible refine (Stp.ldr rfl agg46 size46 rfl H mR sZ ?_); simp only [pS]) | (with_reducible refine (Stp.ldl rfl agg46 size46 rfl H mR (by simp) ?_); simp only [pS]; simp only [List.drop_succ_cons, List.drop_zero, List.take_succ_cons, List.take_zero])) | (with_reducible refine wpl rfl (dQ 10 rfl ?_); with_reducible refine (Stp.box 10 rfl rfl rfl H ?_); clear H; intro g10 w1 H; simp only [pS]; simp only [pE, nC, pS] at H))
    refine (smayG_ok b _).mono ?_
    rintro e w1 ⟨v, rfl, rfl, hb1⟩
    replace H := H.grow hb1
    clear hb1
    rw [HQ.out]
    go_wp2_with (first | (with_reducible refine wpl rfl (dQ 1 rfl ?_); with_reducible refine (Stp.box 1 rfl rfl rfl H ?_); clear H; intro g1 w1 H; simp only [pS]; simp only [pE, nC, pS] at H) | (with_reducible refine wpl rfl (ldQ (ty := 46) rfl ?_); first | (with_reducible refine (Stp.ldor rfl agg46 size46 rfl H (by assumption) sZ (by assumption) ?_); simp only [pS]) | (with_reducible refine (Stp.ldr rfl agg46 size46 rfl H mR sZ ?_); simp only [pS]) | (with_reducible refine (Stp.ldl rfl agg46 size46 rfl H mR (by simp) ?_); simp only [pS]; simp only [List.drop_succ_cons, List.drop_zero, List.take_succ_cons, List.take_zero])) | (with_reducible refine wpl rfl (dQ 10 rfl ?_); with_reducible refine (Stp.box 10 rfl rfl rfl H ?_); clear H; intro g10 w1 H; simp only [pS]; simp only [pE, nC, pS] at H))
    replace H := ((H.nil 5 1).pull (r := row 152 g10 #[.slice none 0 0]) pU)
    go_loopw [12] (fun i wr => ∃ (kk : Nat) (l : List Nat) (a : Option Addr) (c : Nat), kk ≤ 8 ∧ i = .int .i64 (kk : Int) ∧ Hid (l ++ packN (8 - kk) kk b = r) ∧ l.length ≤ kk * 26 ∧ St w.heap.size w wr [row 152 g10 #[.slice a l.length c], slc 5 1 (.slice a l.length c) l.length (bv l), row 46 g1 #[.string (b 0), .string (b 1), .string (b 2), .string (b 3), .string (b 4), .string (b 5), .string (b 6), .string (b 7)]]) (fun i _ => 8 - (intOf i).toNat)
    case atStart => exact ⟨0, [], none, 0, by omega, rfl, Lib.hid hr, by simp, H⟩
    case round =>
      clear H
      obtain ⟨kk, l, a, c, hkk, rfl, HU, hl, H⟩ := hrel
      by_cases hlt : kk < 8
      · have hk8 : kk = 0 ∨ kk = 1 ∨ kk = 2 ∨ kk = 3 ∨ kk = 4 ∨ kk = 5 ∨ kk = 6 ∨ kk = 7 := by omega
        rcases hk8 with rfl | rfl | rfl | rfl | rfl | rfl | rfl | rfl
        · go_wp2_with (first | (with_reducible refine wpl rfl (Stp.idxW (v := .string (b 0)) rfl (fun W => by kernel_rfl) ?_); simp only [pS]) | (with_reducible refine wpl rfl (dQ 17 rfl ?_); with_reducible refine (Stp.s2b (s := b 0) (l := byL (b 0)) 17 rfl rfl rfl rfl (hm63 _) H ?_); clear H; intro gs cs rs w1 HS H; simp only [pS]) | (with_reducible refine wpl rfl (dQ 1 rfl ?_); with_reducible refine (Stp.box 1 rfl rfl rfl H ?_); clear H; intro g1 w1 H; simp only [pS]; simp only [pE, nC, pS] at H) | (with_reducible refine wpl rfl (ldQ (ty := 46) rfl ?_); first | (with_reducible refine (Stp.ldor rfl agg46 size46 rfl H (by assumption) sZ (by assumption) ?_); simp only [pS]) | (with_reducible refine (Stp.ldr rfl agg46 size46 rfl H mR sZ ?_); simp only [pS]) | (with_reducible refine (Stp.ldl rfl agg46 size46 rfl H mR (by simp) ?_); simp only [pS]; simp only [List.drop_succ_cons, List.drop_zero, List.take_succ_cons, List.take_zero])) | (with_reducible refine wpl rfl (dQ 10 rfl ?_); with_reducible refine (Stp.box 10 rfl rfl rfl H ?_); clear H; intro g10 w1 H; simp only [pS]; simp only [pE, nC, pS] at H))
          refine (wbytes_ok (L := [rdo 5 gs rs, row 46 g1 #[.string (b 0), .string (b 1), .string (b 2), .string (b 3), .string (b 4), .string (b 5), .string (b 6), .string (b 7)]]) g10 l _ (byL (b 0)) _ (by have := HSZ.out 0 (by omega); omega) (by omega) rfl _ (WSt.of H pU pU sU) (HS.out.mono (fun r h => by rw [List.mem_singleton.1 h]; exact List.mem_cons_self))).mono ?_
          rintro e w1 ⟨v, rfl, rfl, a2, c2, H2⟩
          clear H HS
          have H := H2
          clear H2
          go_wp2_with (first | (with_reducible refine wpl rfl (dQ 1 rfl ?_); with_reducible refine (Stp.box 1 rfl rfl rfl H ?_); clear H; intro g1 w1 H; simp only [pS]; simp only [pE, nC, pS] at H) | (with_reducible refine wpl rfl (ldQ (ty := 46) rfl ?_); first | (with_reducible refine (Stp.ldor rfl agg46 size46 rfl H (by assumption) sZ (by assumption) ?_); simp only [pS]) | (with_reducible refine (Stp.ldr rfl agg46 size46 rfl H mR sZ ?_); simp only [pS]) | (with_reducible refine (Stp.ldl rfl agg46 size46 rfl H mR (by simp) ?_); simp only [pS]; simp only [List.drop_succ_cons, List.drop_zero, List.take_succ_cons, List.take_zero])) | (with_reducible refine wpl rfl (dQ 10 rfl ?_); with_reducible refine (Stp.box 10 rfl rfl rfl H ?_); clear H; intro g10 w1 H; simp only [pS]; simp only [pE, nC, pS] at H))
          go_roundw
          case rel =>
            have hs := HSZ.out 0 (by omega)
            have h10 := shortB_len (byL (b 0)).length
            refine ⟨1, l ++ (shortB (byL (b 0)).length ++ byL (b 0)), a2, c2, by omega, by first | rfl | go_num, Lib.hid ?_, ?_, H.sub sU⟩
            · rw [← HU.out, List.append_assoc]; rfl
            · rw [List.length_append, List.length_append]; omega
          case measure => simp [intOf]
        · go_wp2_with (first | (with_reducible refine wpl rfl (Stp.idxW (v := .string (b 1)) rfl (fun W => by kernel_rfl) ?_); simp only [pS]) | (with_reducible refine wpl rfl (dQ 17 rfl ?_); with_reducible refine (Stp.s2b (s := b 1) (l := byL (b 1)) 17 rfl rfl rfl rfl (hm63 _) H ?_); clear H; intro gs cs rs w1 HS H; simp only [pS]) | (with_reducible refine wpl rfl (dQ 1 rfl ?_); with_reducible refine (Stp.box 1 rfl rfl rfl H ?_); clear H; intro g1 w1 H; simp only [pS]; simp only [pE, nC, pS] at H) | (with_reducible refine wpl rfl (ldQ (ty := 46) rfl ?_); first | (with_reducible refine (Stp.ldor rfl agg46 size46 rfl H (by assumption) sZ (by assumption) ?_); simp only [pS]) | (with_reducible refine (Stp.ldr rfl agg46 size46 rfl H mR sZ ?_); simp only [pS]) | (with_reducible refine (Stp.ldl rfl agg46 size46 rfl H mR (by simp) ?_); simp only [pS]; simp only [List.drop_succ_cons, List.drop_zero, List.take_succ_cons, List.take_zero])) | (with_reducible refine wpl rfl (dQ 10 rfl ?_); with_reducible refine (Stp.box 10 rfl rfl rfl H ?_); clear H; intro g10 w1 H; simp only [pS]; simp only [pE, nC, pS] at H))
          refine (wbytes_ok (L := [rdo 5 gs rs, row 46 g1 #[.string (b 0), .string (b 1), .string (b 2), .string (b 3), .string (b 4), .string (b 5), .string (b 6), .string (b 7)]]) g10 l _ (byL (b 1)) _ (by have := HSZ.out 1 (by omega); omega) (by omega) rfl _ (WSt.of H pU pU sU) (HS.out.mono (fun r h => by rw [List.mem_singleton.1 h]; exact List.mem_cons_self))).mono ?_
          rintro e w1 ⟨v, rfl, rfl, a2, c2, H2⟩
          clear H HS
          have H := H2
          clear H2
          go_wp2_with (first | (with_reducible refine wpl rfl (dQ 1 rfl ?_); with_reducible refine (Stp.box 1 rfl rfl rfl H ?_); clear H; intro g1 w1 H; simp only [pS]; simp only [pE, nC, pS] at H) | (with_reducible refine wpl rfl (ldQ (ty := 46) rfl ?_); first | (with_reducible refine (Stp.ldor rfl agg46 size46 rfl H (by assumption) sZ (by assumption) ?_); simp only [pS]) | (with_reducible refine (Stp.ldr rfl agg46 size46 rfl H mR sZ ?_); simp only [pS]) | (with_reducible refine (Stp.ldl rfl agg46 size46 rfl H mR (by simp) ?_); simp only [pS]; simp only [List.drop_succ_cons, List.drop_zero, List.take_succ_cons, List.take_zero])) | (with_reducible refine wpl rfl (dQ 10 rfl ?_); with_reducible refine (Stp.box 10 rfl rfl rfl H ?_); clear H; intro g10 w1 H; simp only [pS]; simp only [pE, nC, pS] at H))
          go_roundw
          case rel =>
            have hs := HSZ.out 1 (by omega)
            have h10 := shortB_len (byL (b 1)).length
            refine ⟨2, l ++ (shortB (byL (b 1)).length ++ byL (b 1)), a2, c2, by omega, by first | rfl | go_num, Lib.hid ?_, ?_, H.sub sU⟩
            · rw [← HU.out, List.append_assoc]; rfl
            · rw [List.length_append, List.length_append]; omega
          case measure => simp [intOf]
        · go_wp2_with (first | (with_reducible refine wpl rfl (Stp.idxW (v := .string (b 2)) rfl (fun W => by kernel_rfl) ?_); simp only [pS]) | (with_reducible refine wpl rfl (dQ 17 rfl ?_); with_reducible refine (Stp.s2b (s := b 2) (l := byL (b 2)) 17 rfl rfl rfl rfl (hm63 _) H ?_); clear H; intro gs cs rs w1 HS H; simp only [pS]) | (with_reducible refine wpl rfl (dQ 1 rfl ?_); with_reducible refine (Stp.box 1 rfl rfl rfl H ?_); clear H; intro g1 w1 H; simp only [pS]; simp only [pE, nC, pS] at H) | (with_reducible refine wpl rfl (ldQ (ty := 46) rfl ?_); first | (with_reducible refine (Stp.ldor rfl agg46 size46 rfl H (by assumption) sZ (by assumption) ?_); simp only [pS]) | (with_reducible refine (Stp.ldr rfl agg46 size46 rfl H mR sZ ?_); simp only [pS]) | (with_reducible refine (Stp.ldl rfl agg46 size46 rfl H mR (by simp) ?_); simp only [pS]; simp only [List.drop_succ_cons, List.drop_zero, List.take_succ_cons, List.take_zero])) | (with_reducible refine wpl rfl (dQ 10 rfl ?_); with_reducible refine (Stp.box 10 rfl rfl rfl H ?_); clear H; intro g10 w1 H; simp only [pS]; simp only [pE, nC, pS] at H))
          refine (wbytes_ok (L := [rdo 5 gs rs, row 46 g1 #[.string (b 0), .string (b 1), .string (b 2), .string (b 3), .string (b 4), .string (b 5), .string (b 6), .string (b 7)]]) g10 l _ (byL (b 2)) _ (by have := HSZ.out 2 (by omega); omega) (by omega) rfl _ (WSt.of H pU pU sU) (HS.out.mono (fun r h => by rw [List.mem_singleton.1 h]; exact List.mem_cons_self))).mono ?_
          rintro e w1 ⟨v, rfl, rfl, a2, c2, H2⟩
          clear H HS
          have H := H2
          clear H2
          go_wp2_with (first | (with_reducible refine wpl rfl (dQ 1 rfl ?_); with_reducible refine (Stp.box 1 rfl rfl rfl H ?_); clear H; intro g1 w1 H; simp only [pS]; simp only [pE, nC, pS] at H) | (with_reducible refine wpl rfl (ldQ (ty := 46) rfl ?_); first | (with_reducible refine (Stp.ldor rfl agg46 size46 rfl H (by assumption) sZ (by assumption) ?_); simp only [pS]) | (with_reducible refine (Stp.ldr rfl agg46 size46 rfl H mR sZ ?_); simp only [pS]) | (with_reducible refine (Stp.ldl rfl agg46 size46 rfl H mR (by simp) ?_); simp only [pS]; simp only [List.drop_succ_cons, List.drop_zero, List.take_succ_cons, List.take_zero])) | (with_reducible refine wpl rfl (dQ 10 rfl ?_); with_reducible refine (Stp.box 10 rfl rfl rfl H ?_); clear H; intro g10 w1 H; simp only [pS]; simp only [pE, nC, pS] at H))
          go_roundw
          case rel =>
            have hs := HSZ.out 2 (by omega)
            have h10 := shortB_len (byL (b 2)).length
            refine ⟨3, l ++ (shortB (byL (b 2)).length ++ byL (b 2)), a2, c2, by omega, by first | rfl | go_num, Lib.hid ?_, ?_, H.sub sU⟩
            · rw [← HU.out, List.append_assoc]; rfl
            · rw [List.length_append, List.length_append]; omega
          case measure => simp [intOf]
        · go_wp2_with (first | (with_reducible refine wpl rfl (Stp.idxW (v := .string (b 3)) rfl (fun W => by kernel_rfl) ?_); simp only [pS]) | (with_reducible refine wpl rfl (dQ 17 rfl ?_); with_reducible refine (Stp.s2b (s := b 3) (l := byL (b 3)) 17 rfl rfl rfl rfl (hm63 _) H ?_); clear H; intro gs cs rs w1 HS H; simp only [pS]) | (with_reducible refine wpl rfl (dQ 1 rfl ?_); with_reducible refine (Stp.box 1 rfl rfl rfl H ?_); clear H; intro g1 w1 H; simp only [pS]; simp only [pE, nC, pS] at H) | (with_reducible refine wpl rfl (ldQ (ty := 46) rfl ?_); first | (with_reducible refine (Stp.ldor rfl agg46 size46 rfl H (by assumption) sZ (by assumption) ?_); simp only [pS]) | (with_reducible refine (Stp.ldr rfl agg46 size46 rfl H mR sZ ?_); simp only [pS]) | (with_reducible refine (Stp.ldl rfl agg46 size46 rfl H mR (by simp) ?_); simp only [pS]; simp only [List.drop_succ_cons, List.drop_zero, List.take_succ_cons, List.take_zero])) | (with_reducible refine wpl rfl (dQ 10 rfl ?_); with_reducible refine (Stp.box 10 rfl rfl rfl H ?_); clear H; intro g10 w1 H; simp only [pS]; simp only [pE, nC, pS] at H))
          refine (wbytes_ok (L := [rdo 5 gs rs, row 46 g1 #[.string (b 0), .string (b 1), .string (b 2), .string (b 3), .string (b 4), .string (b 5), .string (b 6), .string (b 7)]]) g10 l _ (byL (b 3)) _ (by have := HSZ.out 3 (by omega); omega) (by omega) rfl _ (WSt.of H pU pU sU) (HS.out.mono (fun r h => by rw [List.mem_singleton.1 h]; exact List.mem_cons_self))).mono ?_
          rintro e w1 ⟨v, rfl, rfl, a2, c2, H2⟩
          clear H HS
          have H := H2
          clear H2
          go_wp2_with (first | (with_reducible refine wpl rfl (dQ 1 rfl ?_); with_reducible refine (Stp.box 1 rfl rfl rfl H ?_); clear H; intro g1 w1 H; simp only [pS]; simp only [pE, nC, pS] at H) | (with_reducible refine wpl rfl (ldQ (ty := 46) rfl ?_); first | (with_reducible refine (Stp.ldor rfl agg46 size46 rfl H (by assumption) sZ (by assumption) ?_); simp only [pS]) | (with_reducible refine (Stp.ldr rfl agg46 size46 rfl H mR sZ ?_); simp only [pS]) | (with_reducible refine (Stp.ldl rfl agg46 size46 rfl H mR (by simp) ?_); simp only [pS]; simp only [List.drop_succ_cons, List.drop_zero, List.take_succ_cons, List.take_zero])) | (with_reducible refine wpl rfl (dQ 10 rfl ?_); with_reducible refine (Stp.box 10 rfl rfl rfl H ?_); clear H; intro g10 w1 H; simp only [pS]; simp only [pE, nC, pS] at H))
          go_roundw
          case rel =>
            have hs := HSZ.out 3 (by omega)
            have h10 := shortB_len (byL (b 3)).length
            refine ⟨4, l ++ (shortB (byL (b 3)).length ++ byL (b 3)), a2, c2, by omega, by first | rfl | go_num, Lib.hid ?_, ?_, H.sub sU⟩
            · rw [← HU.out, List.append_assoc]; rfl
            · rw [List.length_append, List.length_append]; omega
          case measure => simp [intOf]
        · go_wp2_with (first | (with_reducible refine wpl rfl (Stp.idxW (v := .string (b 4)) rfl (fun W => by kernel_rfl) ?_); simp only [pS]) | (with_reducible refine wpl rfl (dQ 17 rfl ?_); with_reducible refine (Stp.s2b (s := b 4) (l := byL (b 4)) 17 rfl rfl rfl rfl (hm63 _) H ?_); clear H; intro gs cs rs w1 HS H; simp only [pS]) | (with_reducible refine wpl rfl (dQ 1 rfl ?_); with_reducible refine (Stp.box 1 rfl rfl rfl H ?_); clear H; intro g1 w1 H; simp only [pS]; simp only [pE, nC, pS] at H) | (with_reducible refine wpl rfl (ldQ (ty := 46) rfl ?_); first | (with_reducible refine (Stp.ldor rfl agg46 size46 rfl H (by assumption) sZ (by assumption) ?_); simp only [pS]) | (with_reducible refine (Stp.ldr rfl agg46 size46 rfl H mR sZ ?_); simp only [pS]) | (with_reducible refine (Stp.ldl rfl agg46 size46 rfl H mR (by simp) ?_); simp only [pS]; simp only [List.drop_succ_cons, List.drop_zero, List.take_succ_cons, List.take_zero])) | (with_reducible refine wpl rfl (dQ 10 rfl ?_); with_reducible refine (Stp.box 10 rfl rfl rfl H ?_); clear H; intro g10 w1 H; simp only [pS]; simp only [pE, nC, pS] at H))
          refine (wbytes_ok (L := [rdo 5 gs rs, row 46 g1 #[.string (b 0), .string (b 1), .string (b 2), .string (b 3), .string (b 4), .string (b 5), .string (b 6), .string (b 7)]]) g10 l _ (byL (b 4)) _ (by have := HSZ.out 4 (by omega); omega) (by omega) rfl _ (WSt.of H pU pU sU) (HS.out.mono (fun r h => by rw [List.mem_singleton.1 h]; exact List.mem_cons_self))).mono ?_
          rintro e w1 ⟨v, rfl, rfl, a2, c2, H2⟩
          clear H HS
          have H := H2
          clear H2
          go_wp2_with (first | (with_reducible refine wpl rfl (dQ 1 rfl ?_); with_reducible refine (Stp.box 1 rfl rfl rfl H ?_); clear H; intro g1 w1 H; simp only [pS]; simp only [pE, nC, pS] at H) | (with_reducible refine wpl rfl (ldQ (ty := 46) rfl ?_); first | (with_reducible refine (Stp.ldor rfl agg46 size46 rfl H (by assumption) sZ (by assumption) ?_); simp only [pS]) | (with_reducible refine (Stp.ldr rfl agg46 size46 rfl H mR sZ ?_); simp only [pS]) | (with_reducible refine (Stp.ldl rfl agg46 size46 rfl H mR (by simp) ?_); simp only [pS]; simp only [List.drop_succ_cons, List.drop_zero, List.take_succ_cons, List.take_zero])) | (with_reducible refine wpl rfl (dQ 10 rfl ?_); with_reducible refine (Stp.box 10 rfl rfl rfl H ?_); clear H; intro g10 w1 H; simp only [pS]; simp only [pE, nC, pS] at H))
          go_roundw
          case rel =>
            have hs := HSZ.out 4 (by omega)
            have h10 := shortB_len (byL (b 4)).length
            refine ⟨5, l ++ (shortB (byL (b 4)).length ++ byL (b 4)), a2, c2, by omega, by first | rfl | go_num, Lib.hid ?_, ?_, H.sub sU⟩
            · rw [← HU.out, List.append_assoc]; rfl
            · rw [List.length_append, List.length_append]; omega
          case measure => simp [intOf]
        · go_wp2_with (first | (with_reducible refine wpl rfl (Stp.idxW (v := .string (b 5)) rfl (fun W => by kernel_rfl) ?_); simp only [pS]) | (with_reducible refine wpl rfl (dQ 17 rfl ?_); with_reducible refine (Stp.s2b (s := b 5) (l := byL (b 5)) 17 rfl rfl rfl rfl (hm63 _) H ?_); clear H; intro gs cs rs w1 HS H; simp only [pS]) | (with_reducible refine wpl rfl (dQ 1 rfl ?_); with_reducible refine (Stp.box 1 rfl rfl rfl H ?_); clear H; intro g1 w1 H; simp only [pS]; simp only [pE, nC, pS] at H) | (with_reducible refine wpl rfl (ldQ (ty := 46) rfl ?_); first | (with_reducible refine (Stp.ldor rfl agg46 size46 rfl H (by assumption) sZ (by assumption) ?_); simp only [pS]) | (with_reducible refine (Stp.ldr rfl agg46 size46 rfl H mR sZ ?_); simp only [pS]) | (with_reducible refine (Stp.ldl rfl agg46 size46 rfl H mR (by simp) ?_); simp only [pS]; simp only [List.drop_succ_cons, List.drop_zero, List.take_succ_cons, List.take_zero])) | (with_reducible refine wpl rfl (dQ 10 rfl ?_); with_reducible refine (Stp.box 10 rfl rfl rfl H ?_); clear H; intro g10 w1 H; simp only [pS]; simp only [pE, nC, pS] at H))
          refine (wbytes_ok (L := [rdo 5 gs rs, row 46 g1 #[.string (b 0), .string (b 1), .string (b 2), .string (b 3), .string (b 4), .string (b 5), .string (b 6), .string (b 7)]]) g10 l _ (byL (b 5)) _ (by have := HSZ.out 5 (by omega); omega) (by omega) rfl _ (WSt.of H pU pU sU) (HS.out.mono (fun r h => by rw [List.mem_singleton.1 h]; exact List.mem_cons_self))).mono ?_
          rintro e w1 ⟨v, rfl, rfl, a2, c2, H2⟩
          clear H HS
          have H := H2
          clear H2
          go_wp2_with (first | (with_reducible refine wpl rfl (dQ 1 rfl ?_); with_reducible refine (Stp.box 1 rfl rfl rfl H ?_); clear H; intro g1 w1 H; simp only [pS]; simp only [pE, nC, pS] at H) | (with_reducible refine wpl rfl (ldQ (ty := 46) rfl ?_); first | (with_reducible refine (Stp.ldor rfl agg46 size46 rfl H (by assumption) sZ (by assumption) ?_); simp only [pS]) | (with_reducible refine (Stp.ldr rfl agg46 size46 rfl H mR sZ ?_); simp only [pS]) | (with_reducible refine (Stp.ldl rfl agg46 size46 rfl H mR (by simp) ?_); simp only [pS]; simp only [List.drop_succ_cons, List.drop_zero, List.take_succ_cons, List.take_zero])) | (with_reducible refine wpl rfl (dQ 10 rfl ?_); with_reducible refine (Stp.box 10 rfl rfl rfl H ?_); clear H; intro g10 w1 H; simp only [pS]; simp only [pE, nC, pS] at H))
          go_roundw
          case rel =>
            have hs := HSZ.out 5 (by omega)
            have h10 := shortB_len (byL (b 5)).length
            refine ⟨6, l ++ (shortB (byL (b 5)).length ++ byL (b 5)), a2, c2, by omega, by first | rfl | go_num, Lib.hid ?_, ?_, H.sub sU⟩
            · rw [← HU.out, List.append_assoc]; rfl
            · rw [List.length_append, List.length_append]; omega
          case measure => simp [intOf]
        · go_wp2_with (first | (with_reducible refine wpl rfl (Stp.idxW (v := .string (b 6)) rfl (fun W => by kernel_rfl) ?_); simp only [pS]) | (with_reducible refine wpl rfl (dQ 17 rfl ?_); with_reducible refine (Stp.s2b (s := b 6) (l := byL (b 6)) 17 rfl rfl rfl rfl (hm63 _) H ?_); clear H; intro gs cs rs w1 HS H; simp only [pS]) | (with_reducible refine wpl rfl (dQ 1 rfl ?_); with_reducible refine (Stp.box 1 rfl rfl rfl H ?_); clear H; intro g1 w1 H; simp only [pS]; simp only [pE, nC, pS] at H) | (with_reducible refine wpl rfl (ldQ (ty := 46) rfl ?_); first | (with_reducible refine (Stp.ldor rfl agg46 size46 rfl H (by assumption) sZ (by assumption) ?_); simp only [pS]) | (with_reducible refine (Stp.ldr rfl agg46 size46 rfl H mR sZ ?_); simp only [pS]) | (with_reducible refine (Stp.ldl rfl agg46 size46 rfl H mR (by simp) ?_); simp only [pS]; simp only [List.drop_succ_cons, List.drop_zero, List.take_succ_cons, List.take_zero])) | (with_reducible refine wpl rfl (dQ 10 rfl ?_); with_reducible refine (Stp.box 10 rfl rfl rfl H ?_); clear H; intro g10 w1 H; simp only [pS]; simp only [pE, nC, pS] at H))
          refine (wbytes_ok (L := [rdo 5 gs rs, row 46 g1 #[.string (b 0), .string (b 1), .string (b 2), .string (b 3), .string (b 4), .string (b 5), .string (b 6), .string (b 7)]]) g10 l _ (byL (b 6)) _ (by have := HSZ.out 6 (by omega); omega) (by omega) rfl _ (WSt.of H pU pU sU) (HS.out.mono (fun r h => by rw [List.mem_singleton.1 h]; exact List.mem_cons_self))).mono ?_
          rintro e w1 ⟨v, rfl, rfl, a2, c2, H2⟩
          clear H HS
          have H := H2
          clear H2
          go_wp2_with (first | (with_reducible refine wpl rfl (dQ 1 rfl ?_); with_reducible refine (Stp.box 1 rfl rfl rfl H ?_); clear H; intro g1 w1 H; simp only [pS]; simp only [pE, nC, pS] at H) | (with_reducible refine wpl rfl (ldQ (ty := 46) rfl ?_); first | (with_reducible refine (Stp.ldor rfl agg46 size46 rfl H (by assumption) sZ (by assumption) ?_); simp only [pS]) | (with_reducible refine (Stp.ldr rfl agg46 size46 rfl H mR sZ ?_); simp only [pS]) | (with_reducible refine (Stp.ldl rfl agg46 size46 rfl H mR (by simp) ?_); simp only [pS]; simp only [List.drop_succ_cons, List.drop_zero, List.take_succ_cons, List.take_zero])) | (with_reducible refine wpl rfl (dQ 10 rfl ?_); with_reducible refine (Stp.box 10 rfl rfl rfl H ?_); clear H; intro g10 w1 H; simp only [pS]; simp only [pE, nC, pS] at H))
          go_roundw
          case rel =>
            have hs := HSZ.out 6 (by omega)
            have h10 := shortB_len (byL (b 6)).length
            refine ⟨7, l ++ (shortB (byL (b 6)).length ++ byL (b 6)), a2, c2, by omega, by first | rfl | go_num, Lib.hid ?_, ?_, H.sub sU⟩
            · rw [← HU.out, List.append_assoc]; rfl
            · rw [List.length_append, List.length_append]; omega
          case measure => simp [intOf]
        · go_wp2_with (first | (with_reducible refine wpl rfl (Stp.idxW (v := .string (b 7)) rfl (fun W => by kernel_rfl) ?_); simp only [pS]) | (with_reducible refine wpl rfl (dQ 17 rfl ?_); with_reducible refine (Stp.s2b (s := b 7) (l := byL (b 7)) 17 rfl rfl rfl rfl (hm63 _) H ?_); clear H; intro gs cs rs w1 HS H; simp only [pS]) | (with_reducible refine wpl rfl (dQ 1 rfl ?_); with_reducible refine (Stp.box 1 rfl rfl rfl H ?_); clear H; intro g1 w1 H; simp only [pS]; simp only [pE, nC, pS] at H) | (with_reducible refine wpl rfl (ldQ (ty := 46) rfl ?_); first | (with_reducible refine (Stp.ldor rfl agg46 size46 rfl H (by assumption) sZ (by assumption) ?_); simp only [pS]) | (with_reducible refine (Stp.ldr rfl agg46 size46 rfl H mR sZ ?_); simp only [pS]) | (with_reducible refine (Stp.ldl rfl agg46 size46 rfl H mR (by simp) ?_); simp only [pS]; simp only [List.drop_succ_cons, List.drop_zero, List.take_succ_cons, List.take_zero])) | (with_reducible refine wpl rfl (dQ 10 rfl ?_); with_reducible refine (Stp.box 10 rfl rfl rfl H ?_); clear H; intro g10 w1 H; simp only [pS]; simp only [pE, nC, pS] at H))
          refine (wbytes_ok (L := [rdo 5 gs rs, row 46 g1 #[.string (b 0), .string (b 1), .string (b 2), .string (b 3), .string (b 4), .string (b 5), .string (b 6), .string (b 7)]]) g10 l _ (byL (b 7)) _ (by have := HSZ.out 7 (by omega); omega) (by omega) rfl _ (WSt.of H pU pU sU) (HS.out.mono (fun r h => by rw [List.mem_singleton.1 h]; exact List.mem_cons_self))).mono ?_
          rintro e w1 ⟨v, rfl, rfl, a2, c2, H2⟩
          clear H HS
          have H := H2
          clear H2
          go_wp2_with (first | (with_reducible refine wpl rfl (dQ 1 rfl ?_); with_reducible refine (Stp.box 1 rfl rfl rfl H ?_); clear H; intro g1 w1 H; simp only [pS]; simp only [pE, nC, pS] at H) | (with_reducible refine wpl rfl (ldQ (ty := 46) rfl ?_); first | (with_reducible refine (Stp.ldor rfl agg46 size46 rfl H (by assumption) sZ (by assumption) ?_); simp only [pS]) | (with_reducible refine (Stp.ldr rfl agg46 size46 rfl H mR sZ ?_); simp only [pS]) | (with_reducible refine (Stp.ldl rfl agg46 size46 rfl H mR (by simp) ?_); simp only [pS]; simp only [List.drop_succ_cons, List.drop_zero, List.take_succ_cons, List.take_zero])) | (with_reducible refine wpl rfl (dQ 10 rfl ?_); with_reducible refine (Stp.box 10 rfl rfl rfl H ?_); clear H; intro g10 w1 H; simp only [pS]; simp only [pE, nC, pS] at H))
          go_roundw
          case rel =>
            have hs := HSZ.out 7 (by omega)
            have h10 := shortB_len (byL (b 7)).length
            refine ⟨8, l ++ (shortB (byL (b 7)).length ++ byL (b 7)), a2, c2, by omega, by first | rfl | go_num, Lib.hid ?_, ?_, H.sub sU⟩
            · rw [← HU.out, List.append_assoc]; rfl
            · rw [List.length_append, List.length_append]; omega
          case measure => simp [intOf]
      · obtain rfl : kk = 8 := by omega
        have hlr : l = r := by have := HU.out; rw [← this]; exact (List.append_nil _).symm
        subst hlr
        go_wp2_with (first | (with_reducible refine wpl rfl (dQ 1 rfl ?_); with_reducible refine (Stp.box 1 rfl rfl rfl H ?_); clear H; intro g1 w1 H; simp only [pS]; simp only [pE, nC, pS] at H) | (with_reducible refine wpl rfl (ldQ (ty := 46) rfl ?_); first | (with_reducible refine (Stp.ldor rfl agg46 size46 rfl H (by assumption) sZ (by assumption) ?_); simp only [pS]) | (with_reducible refine (Stp.ldr rfl agg46 size46 rfl H mR sZ ?_); simp only [pS]) | (with_reducible refine (Stp.ldl rfl agg46 size46 rfl H mR (by simp) ?_); simp only [pS]; simp only [List.drop_succ_cons, List.drop_zero, List.take_succ_cons, List.take_zero])) | (with_reducible refine wpl rfl (dQ 10 rfl ?_); with_reducible refine (Stp.box 10 rfl rfl rfl H ?_); clear H; intro g10 w1 H; simp only [pS]; simp only [pE, nC, pS] at H))
        refine (wdone_ok (L := [row 46 g1 #[.string (b 0), .string (b 1), .string (b 2), .string (b 3), .string (b 4), .string (b 5), .string (b 6), .string (b 7)]]) g10 l (by omega) _ (WSt.of H pU pU sU)).mono ?_
        rintro e w1 ⟨v, rfl, ⟨ap, cp, rfl⟩, ho, hb1⟩
        replace H := H.new hb1 (slc_sound ho) (fun g hg => (ho.lt g hg).1)
        clear hb1 ho
        go_wp2_with (first | (with_reducible refine wpl rfl (dQ 1 rfl ?_); with_reducible refine (Stp.box 1 rfl rfl rfl H ?_); clear H; intro g1 w1 H; simp only [pS]; simp only [pE, nC, pS] at H) | (with_reducible refine wpl rfl (ldQ (ty := 46) rfl ?_); first | (with_reducible refine (Stp.ldor rfl agg46 size46 rfl H (by assumption) sZ (by assumption) ?_); simp only [pS]) | (with_reducible refine (Stp.ldr rfl agg46 size46 rfl H mR sZ ?_); simp only [pS]) | (with_reducible refine (Stp.ldl rfl agg46 size46 rfl H mR (by simp) ?_); simp only [pS]; simp only [List.drop_succ_cons, List.drop_zero, List.take_succ_cons, List.take_zero])) | (with_reducible refine wpl rfl (dQ 10 rfl ?_); with_reducible refine (Stp.box 10 rfl rfl rfl H ?_); clear H; intro g10 w1 H; simp only [pS]; simp only [pE, nC, pS] at H))
        go_ret
        exact ⟨_, rfl, ⟨_, _, rfl⟩, H.getSlc mE, H.below⟩
end Go.Proofs.Ytjghcmejmdllbaa

namespace Go.Proofs.Ytjghcmejmdllbaa
open Go.ChangeShapes Go.WideShapes Go.ChangeAt Go.RowKit Go.Deep
set_option linter.unusedVariables false
set_option linter.unusedSimpArgs false
theorem bytesF_pack (d rest : List Nat) (hd : d.length ≤ 16) : bytesF 16 ((shortB d.length ++ d) ++ rest, 0) = (d, (rest, 0)) := by
  have hg : gs ((shortB d.length ++ d) ++ rest) 10 0 0 = (d.length, (shortB d.length).length, 0) := by
    rw [List.append_assoc]; exact gs_back d.length (by omega) (d ++ rest)
  have hn : numF 16 ((shortB d.length ++ d) ++ rest, 0) = (d.length, (d ++ rest, 0)) := by
    rw [numF_ok hg (by omega), List.append_assoc, List.drop_left]
  unfold bytesF
  rw [if_neg (by simp), hn]
  simp only
  rw [if_neg (by simp), if_neg (by rw [List.length_append]; omega), List.take_left, List.drop_left]
theorem unL_pack : ∀ (n k : Nat) (b c : Nat → ByteArray), (∀ i, k ≤ i → i < k + n → (b i).size ≤ 16) → ∃ c', unL n k (c, (packN n k b, 0)) = (c', ([], 0)) ∧ ∀ i, c' i = if k ≤ i ∧ i < k + n then b i else c i
  | 0, k, b, c, _ => ⟨c, rfl, fun i => by rw [if_neg (by omega)]⟩
  | n + 1, k, b, c, h => by
    have h0 : (byL (b k)).length ≤ 16 := by rw [byL_len]; exact h k (Nat.le_refl _) (by omega)
    obtain ⟨c', h1, h2⟩ := unL_pack n (k + 1) b (bputU c k (b k)) (fun i hi hj => h i (by omega) (by omega))
    refine ⟨c', ?_, fun i => ?_⟩
    · unfold unL packN
      simp only
      rw [bytesF_pack _ _ h0, strOf_byL]
      exact h1
    · rw [h2 i]
      unfold bputU
      by_cases hik : i = k
      · subst hik
        rw [if_neg (by omega), if_pos rfl, if_pos (by omega)]
      · by_cases hi : k + 1 ≤ i ∧ i < k + 1 + n
        · rw [if_pos hi, if_pos (by omega)]
        · rw [if_neg hi, if_neg hik, if_neg (by omega)]
theorem unF_pack (b : Nat → ByteArray) (h : mayN 8 0 b = true) : bcs (unF (packF b)).1 = bcs b ∧ (unF (packF b)).2 = 0 := by
  obtain ⟨c', h1, h2⟩ := unL_pack 8 0 b (fun _ => ByteArray.empty) (fun i _ hi => mayN_size 8 0 b h i (Nat.zero_le _) hi)
  have hp : packF b = packN 8 0 b := if_pos h
  have hu : unF (packF b) = (c', 0) := by
    unfold unF
    rw [hp, h1, if_neg (by unfold endF; simp)]
  rw [hu]
  refine ⟨?_, rfl⟩
  unfold bcs
  simp only [h2]
  rfl
theorem shortB_one {n : Nat} (h : n ≤ 16) : (shortB n).length = 1 := by
  have : n = 0 ∨ n = 1 ∨ n = 2 ∨ n = 3 ∨ n = 4 ∨ n = 5 ∨ n = 6 ∨ n = 7 ∨ n = 8 ∨ n = 9 ∨ n = 10 ∨ n = 11 ∨ n = 12 ∨ n = 13 ∨ n = 14 ∨ n = 15 ∨ n = 16 := by omega
  rcases this with rfl | rfl | rfl | rfl | rfl | rfl | rfl | rfl | rfl | rfl | rfl | rfl | rfl | rfl | rfl | rfl | rfl <;> rfl
theorem packN_len : ∀ (n k : Nat) (b : Nat → ByteArray), (∀ i, k ≤ i → i < k + n → (b i).size ≤ 16) → (packN n k b).length ≤ n * 17
  | 0, k, b, _ => by simp [packN]
  | n + 1, k, b, h => by
    have h0 : (byL (b k)).length ≤ 16 := by rw [byL_len]; exact h k (Nat.le_refl _) (by omega)
    have h1 := packN_len n (k + 1) b (fun i hi hj => h i (by omega) (by omega))
    unfold packN
    rw [List.length_append, List.length_append, shortB_one h0]
    omega
theorem packF_len (b : Nat → ByteArray) : (packF b).length ≤ 136 := by
  unfold packF
  split
  · rename_i h
    exact packN_len 8 0 b (fun i _ hi => mayN_size 8 0 b h i (Nat.zero_le _) hi)
  · simp
theorem shortF_lt256 : ∀ (f n x : Nat), x ∈ shortF f n → x < 256
  | 0, n, x, h => by simp [shortF] at h; omega
  | f + 1, n, x, h => by
    unfold shortF at h
    split at h
    · simp at h; omega
    · rcases List.mem_cons.1 h with rfl | h
      · omega
      · exact shortF_lt256 f _ x h
theorem packN_lt : ∀ (n k : Nat) (b : Nat → ByteArray), ∀ x ∈ packN n k b, x < 256
  | 0, k, b, x, hx => by simp [packN] at hx
  | n + 1, k, b, x, hx => by
    unfold packN at hx
    rcases List.mem_append.1 hx with hx | hx
    · rcases List.mem_append.1 hx with hx | hx
      · exact shortF_lt256 9 _ x hx
      · exact byL_lt _ x hx
    · exact packN_lt n (k + 1) b x hx
theorem packF_lt (b : Nat → ByteArray) : ∀ x ∈ packF b, x < 256 := fun x hx => by
  unfold packF at hx
  split at hx
  · exact packN_lt 8 0 b x hx
  · simp at hx
end Go.Proofs.Ytjghcmejmdllbaa
