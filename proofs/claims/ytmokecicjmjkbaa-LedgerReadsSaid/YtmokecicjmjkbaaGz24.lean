/- The contract of the reference's Unpack of a ledger (choragusref18) on any bytes; the bounds stand in it. Views, commands and ledgers that were laid are read as they were; the bounds stand in each. Layer 7's Writer (body): Pid and Pids; its reference's Pids (choragusref07); the bounds stand in each. How long what is laid is; no condition. -/
import Derived.Test.YtmokecicjmjkbaaGz6
import Derived.Test.YtmokecicjmjkbaaGz14
import Derived.Test.YtmokecicjmjkbaaGz21
import Derived.Test.YtmokecicjmjkbaaGz23
namespace Go.Proofs.Ytmokecicjmjkbaa
open Go.ChangeShapes Go.WideShapes Go.ChangeAt Go.RowKit Go.Deep
set_option linter.unusedVariables false
set_option linter.unusedSimpArgs false
set_option linter.unusedSectionVars false
set_option maxRecDepth 100000
set_option maxHeartbeats 4000000
theorem rcgetL_ok {B : Nat} {w0 : World} {L M : List Res} (g11 : Nat) (s : Value) (l : List Nat) (e : Nat) (hb : Byt B w0 L s l) (w : World) (H : St B w0 w (row 129 g11 #[s, .int .i64 (e : Int)] :: M)) (hML : L.Sublist M) :
    Calls Try.prog 73 #[.pointer (some ⟨g11, 0, none⟩)] w (Ret fun v w' => ∃ s' l' e' c ba ma la da bc mc lc dc G, v = .agg (cmC c ba ma la da bc mc lc dc) ∧ Hid (cmF (l, e) = (c, (l', e'))) ∧ Byt B w0 L s' l' ∧ St B w0 w' (row 129 g11 #[s', .int .i64 (e' : Int)] :: cmr G (.slice ba c.data.length bc) (.slice ma c.v.mem.length mc) (.slice la c.v.lvs.length lc) (.slice da c.v.ldr.length dc) c :: M))   := rcget_ok g11 s l e hb hML w H
attribute [local irreducible] cmF numF cmsL endF lgF
theorem rlunpack_ok {B : Nat} {w0 : World} {L T : List Res} (v : Value) (l : List Nat) (hb0 : Byt B w0 L v l) (hML : L.Sublist T) (w : World) (H : St B w0 w T) :
    Calls Try.prog 43 #[v] w (Ret fun v' w' => (∃ f : Nat, f ≠ 0 ∧ lgF l = ((0, []), f) ∧ v' = .tuple #[.pointer none, .int .i64 (f : Int)] ∧ St B w0 w' T) ∨ (∃ (a : Nat) (cs : List Cm) (g15 : Nat), lgF l = ((a, cs), 0) ∧ v' = .tuple #[.pointer (some ⟨g15, 0, none⟩), .int .i64 0] ∧ ∃ (ka : Option Addr) (kc : Nat), St B w0 w' (row 65 g15 #[.int .u64 (a : Int), .slice ka cs.length kc] :: T))) := by
  obtain ⟨⟨a, l1, e1⟩, hz1⟩ : ∃ z, numF 4611686018427387904 (l, 0) = z := ⟨_, rfl⟩
  obtain ⟨⟨n, l2, e2⟩, hz2⟩ : ∃ z, numF 64 (l1, e1) = z := ⟨_, rfl⟩
  have ha62 : a ≤ 4611686018427387904 := by have := numF_most (most := 4611686018427387904) (s := (l, 0)); rw [hz1] at this; exact this
  have hn64 : n ≤ 64 := by have := numF_most (most := 64) (s := (l1, e1)); rw [hz2] at this; exact this
  have hst : e2 ≠ 0 → n = 0 := fun h => by have := numF_stop (most := 64) (s := (l1, e1)); rw [hz2] at this; exact this h
  have HZ1 := Lib.hid hz1
  have HZ2 := Lib.hid hz2
  have HST := Lib.hid hst
  clear hz1 hz2 hst
  obtain ⟨A0, n0, c0, rfl, hby⟩ := id hb0
  clear hby
  go_enter Try.func43, Try.ntmps43
  go_upto_region 2 with (first | (with_reducible refine wpl rfl (dQ 10 rfl ?_); with_reducible refine (Stp.build (v := (.agg #[.slice A0 n0 c0, .int .i64 0])) 10 rfl rfl (fun W => by kernel_rfl) ?_); simp only [pS]) | (with_reducible refine wpl rfl (dQ 11 rfl ?_); with_reducible refine (Stp.box 11 rfl rfl rfl H ?_); clear H; intro g11 w1 H; simp only [pS]; simp only [pE, nC, pS] at H))
  have H2 : St B w0 _ (row 129 g11 #[.slice A0 n0 c0, .int .i64 ((0 : Nat) : Int)] :: _) := H
  clear H
  have H := H2
  clear H2
  go_upto_region 3 with (first | (with_reducible refine wpl rfl (dQ 14 rfl ?_); with_reducible refine (Stp.build (v := (.agg #[.int .u64 (a : Int), .slice none 0 0])) 14 rfl rfl (fun W => by kernel_rfl) ?_); simp only [pS]) | (go_at_call 72; (with_reducible refine (rrNum4611686018427387904_ok g11 _ l 0 hb0 _ (H.pull (r := row 129 g11 _) pU) (by repeat (first | exact hML | apply List.Sublist.cons))).mono ?_); rintro e w1 ⟨v, rfl, hr⟩; obtain ⟨rfl, s1, hb1, H2⟩ := hr; clear H; have H := H2; clear H2; rw [HZ1.out] at hb1 H ⊢; simp only at hb1 H ⊢) | (with_reducible refine wpl rfl (dQ 15 rfl ?_); with_reducible refine (Stp.box 15 rfl rfl rfl H ?_); clear H; intro g15 w1 H; simp only [pS]; simp only [pE, nC, pS] at H))
  by_cases hgt : a < n
  · obtain rfl : e2 = 0 := by
      by_cases h : e2 = 0
      · exact h
      · have := HST.out h; omega
    have HV2 := Lib.hid (lgF_ahead HZ1.out HZ2.out hgt)
    have hgi : (a : Int) < (n : Int) := by omega
    have hn0 : (0 : Int) < (n : Int) := by omega
    have h00 : (((0 : Nat) : Int) == 0) = true := by simp
    clear hgt HST
    go_wp2_with (first | (go_at_call 72; (with_reducible refine (rrNum64_ok g11 s1 l1 e1 hb1 _ (H.pull (r := row 129 g11 _) pU) (by repeat (first | exact hML | apply List.Sublist.cons))).mono ?_); rintro e w1 ⟨v, rfl, hr⟩; obtain ⟨rfl, s2, hb2, H2⟩ := hr; clear H; have H := H2; clear H2; rw [HZ2.out] at hb2 H ⊢; simp only at hb2 H ⊢) | (with_reducible refine wpl rfl (ldQ (ty := 3) rfl ?_); first | (with_reducible refine (Stp.ldo rfl agg3 rfl H (by assumption) (by assumption) ?_); simp only [pS]) | (with_reducible refine (Stp.ldc rfl agg3 rfl H mR cE ?_); simp only [pS])) | (with_reducible refine wpl rfl (ldQ (ty := 26) rfl ?_); first | (with_reducible refine (Stp.ldo rfl agg26 rfl H (by assumption) (by assumption) ?_); simp only [pS]) | (with_reducible refine (Stp.ldc rfl agg26 rfl H mR cE ?_); simp only [pS])) | (with_reducible refine wpl rfl (stQ (ty := 3) rfl ?_); first | (with_reducible refine (Stp.stc rfl size3 rfl rfl rfl rfl H uP (by first | omega | (simp; done) | (simp; omega)) ?_); clear H; intro w1 H; simp only [pS]; simp only [pE, nC, pS] at H)))
    go_loopw [7] (fun i wr => i = .int .u64 0 ∧ St B w0 wr (row 129 g11 #[s2, .int .i64 5] :: T)) (fun _ _ => 0)
    case atStart => exact ⟨rfl, St.sub (H.pull (r := row 129 g11 _) pU) (.cons_cons _ (.cons _ (List.Sublist.refl _)))⟩
    case round =>
      clear H
      obtain ⟨rfl, H9⟩ := hrel
      have H : St B w0 _ (row 129 g11 #[s2, .int .i64 ((5 : Nat) : Int)] :: T) := H9
      clear H9
      have h50 : (((5 : Nat) : Int) == 0) = false := by decide
      have h51 : (((5 : Nat) : Int) != 0) = true := by decide
      have HE5 : Hid (endF (l2, 5) = 5) := Lib.hid (by unfold endF; exact if_pos (show (5 : Nat) ≠ 0 from by decide))
      go_wp2_with (first | (go_at_call 74; (with_reducible refine (rrEnd_ok g11 s2 l2 5 hb2 _ (H.pull (r := row 129 g11 _) pU)).mono ?_); rintro e w1 ⟨v, rfl, hr⟩; obtain ⟨rfl, H2⟩ := hr; clear H; have H := H2; clear H2; rw [HE5.out]) | (with_reducible refine wpl rfl (ldQ (ty := 3) rfl ?_); first | (with_reducible refine (Stp.ldo rfl agg3 rfl H (by assumption) (by assumption) ?_); simp only [pS]) | (with_reducible refine (Stp.ldc rfl agg3 rfl H mR cE ?_); simp only [pS])))
      go_ret2
      exact ⟨_, rfl, .inl ⟨5, by decide, HV2.out, rfl, St.sub H (.cons _ (List.Sublist.refl _))⟩⟩
  · have hgi : ¬ (a : Int) < (n : Int) := by omega
    have HGT := Lib.hid hgt
    have hge : n ≤ a := by omega
    replace H : St B w0 _ (slo 116 11 (.slice none 0 0) 0 [] :: _) := H.nilo 116 11
    clear hgt HST
    by_cases he2 : e2 = 0
    · have hei2 : ((e2 : Int) == 0) = true := by simp [he2]
      clear he2
      go_wp2_with (first | (go_at_call 72; (with_reducible refine (rrNum64_ok g11 s1 l1 e1 hb1 _ (H.pull (r := row 129 g11 _) pU) (by repeat (first | exact hML | apply List.Sublist.cons))).mono ?_); rintro e w1 ⟨v, rfl, hr⟩; obtain ⟨rfl, s2, hb2, H2⟩ := hr; clear H; have H := H2; clear H2; rw [HZ2.out] at hb2 H ⊢; simp only at hb2 H ⊢) | (with_reducible refine wpl rfl (ldQ (ty := 3) rfl ?_); first | (with_reducible refine (Stp.ldo rfl agg3 rfl H (by assumption) (by assumption) ?_); simp only [pS]) | (with_reducible refine (Stp.ldc rfl agg3 rfl H mR cE ?_); simp only [pS])) | (with_reducible refine wpl rfl (ldQ (ty := 26) rfl ?_); first | (with_reducible refine (Stp.ldo rfl agg26 rfl H (by assumption) (by assumption) ?_); simp only [pS]) | (with_reducible refine (Stp.ldc rfl agg26 rfl H mR cE ?_); simp only [pS])))
      go_loopw [7] (fun i wr => ∃ (k : Nat) (s4 : Value) (l4 : List Nat) (e4 : Nat) (cs : List Cm) (V : List Value) (ka : Option Addr) (kc : Nat), k ≤ n ∧ i = .int .u64 (k : Int) ∧ Hid (cs.length = k) ∧ Hid (cmsL (n - k) (cs, (l4, e4)) = cmsL n ([], (l2, e2))) ∧ Byt B w0 L s4 l4 ∧ St B w0 wr (row 129 g11 #[s4, .int .i64 (e4 : Int)] :: row 65 g15 #[.int .u64 (a : Int), .slice ka k kc] :: slo 116 11 (.slice ka k kc) k V :: T)) (fun i _ => n - (intOf i).toNat)
      case atStart => exact ⟨0, s2, l2, e2, [], [], none, 0, Nat.zero_le _, rfl, Lib.hid rfl, Lib.hid rfl, hb2, (((H.pull (r := slo 116 11 _ _ _) pU).pull (r := row 65 g15 _) pU).pull (r := row 129 g11 _) pU)⟩
      case round =>
        clear H hb2
        obtain ⟨k, s4, l4, e4, cs, V, ka, kc, hk, rfl, HA, HP, hb4, H⟩ := hrel
        by_cases hgo : k < n ∧ e4 = 0
        · obtain ⟨hlt, rfl⟩ := hgo
          have kli : (k : Int) < (n : Int) := by omega
          have hei : (((0 : Nat) : Int) == 0) = true := by simp
          have hp2 : cmsL (n - (k + 1)) (cs ++ [(cmF (l4, 0)).1], (cmF (l4, 0)).2) = cmsL n ([], (l2, e2)) := by
            rw [← HP.out, show n - k = (n - (k + 1)) + 1 by omega]
            exact cmsL_go.symm
          have HPP := Lib.hid hp2
          obtain ⟨q1, hq1⟩ : ∃ q1, a - n = q1 := ⟨_, rfl⟩
          obtain ⟨q2, hq2⟩ : ∃ q2, q1 + 1 = q2 := ⟨_, rfl⟩
          obtain ⟨q3, hq3⟩ : ∃ q3, q2 + k = q3 := ⟨_, rfl⟩
          have W1 : Hid (IntKind.u64.wrap ((a : Int) - (n : Int)) = (q1 : Int)) := Lib.hid (by rw [wrap_u64_in _ (by omega) (by omega)]; omega)
          have W2 : Hid (IntKind.u64.wrap ((q1 : Int) + 1) = (q2 : Int)) := Lib.hid (by rw [wrap_u64_in _ (by omega) (by omega)]; omega)
          have W3 : Hid (IntKind.u64.wrap ((q2 : Int) + (k : Int)) = (q3 : Int)) := Lib.hid (by rw [wrap_u64_in _ (by omega) (by omega)]; omega)
          clear hp2 hq1 hq2 hq3
          go_wp2_with (first | (with_reducible refine wpl rfl (ldQ (ty := 3) rfl ?_); first | (with_reducible refine (Stp.ldo rfl agg3 rfl H (by assumption) (by assumption) ?_); simp only [pS]) | (with_reducible refine (Stp.ldc rfl agg3 rfl H mR cE ?_); simp only [pS])))
          refine rk_begin 21 22 (fun W => St B w0 W [row 65 g15 #[.int .u64 (a : Int), .slice ka k kc]]) rfl (by kernel_rfl) ?_
          replace H := H.drew
          have HS := H
          refine rk_free (i := 0) rfl kR kR kR kR (Yld.move rfl rfl) (fun _ => (H.sub sU)) ?_; simp only [pS, pE]
          refine rk_free (i := 1) rfl kR kR kR kR (Yld.move rfl rfl) (fun _ => (H.sub sU)) ?_; simp only [pS, pE]
          refine rk_free (i := 2) rfl kR kR kR kR (Yld.o rfl) (fun _ => (H.sub sU)) ?_; simp only [pS]
          refine rk_free (i := 3) rfl kR kR kR kR (Yld.o rfl) (fun _ => (H.sub sU)) ?_; simp only [pS]
          first | (refine rk_take (i := 4) rfl kR kR kR kR kR kR (Yld.ldc rfl rfl agg63 rfl mR cE) (H.sub sU) ?_; simp only [pS]) | (refine rk_take (i := 4) rfl kR kR kR kR kR kR (Yld.ldo rfl rfl agg63 rfl (by assumption) (by assumption)) (H.sub sU) ?_; simp only [pS])
          refine rk_free (i := 5) rfl kR kR kR kR (Yld.move rfl rfl) (fun _ => (H.sub sU)) ?_; simp only [pS, pE]
          refine rk_free (i := 6) rfl kR kR kR kR (Yld.o rfl) (fun _ => (H.sub sU)) ?_; simp only [pS]
          refine rk_free (i := 7) rfl kR kR kR kR (Yld.o rfl) (fun _ => (H.sub sU)) ?_; simp only [pS]
          first | (refine rk_take (i := 8) rfl kR kR kR kR kR kR (Yld.ldc rfl rfl agg26 rfl mR cE) (H.sub sU) ?_; simp only [pS]) | (refine rk_take (i := 8) rfl kR kR kR kR kR kR (Yld.ldo rfl rfl agg26 rfl (by assumption) (by assumption)) (H.sub sU) ?_; simp only [pS])
          refine rk_free (i := 9) rfl kR kR kR kR (Yld.move rfl rfl) (fun _ => (H.sub sU)) ?_; simp only [pS, pE]
          refine rk_free (i := 10) rfl kR kR kR kR (Yld.of (v := .int .u64 (q1 : Int)) rfl (fun W _ => by go_simp; first | done | exact W1.out)) (fun _ => (H.sub sU)) ?_; simp only [pS, pE]
          refine rk_free (i := 11) rfl kR kR kR kR (Yld.of (v := .int .u64 (q2 : Int)) rfl (fun W _ => by go_simp; first | done | exact W2.out)) (fun _ => (H.sub sU)) ?_; simp only [pS, pE]
          refine rk_free (i := 12) rfl kR kR kR kR (Yld.move rfl rfl) (fun _ => (H.sub sU)) ?_; simp only [pS, pE]
          refine rk_free (i := 13) rfl kR kR kR kR (Yld.of (v := .int .u64 (q3 : Int)) rfl (fun W _ => by go_simp; first | done | exact W3.out)) (fun _ => (H.sub sU)) ?_; simp only [pS, pE]
          refine rk_free (i := 14) rfl kR kR kR kR (Yld.move rfl rfl) (fun _ => (H.sub sU)) ?_; simp only [pS, pE]
          refine rk_one (i := 15) (by kernel_rfl) rfl rfl (fun K hK => ?_)
          refine wp_callf rfl ent73 (rcgetL_ok g11 s4 l4 0 hb4 _ (H.pull (r := row 129 g11 _) pU) (by repeat (first | exact hML | apply List.Sublist.cons))) rfl (fun v w1 hr => ?_)
          obtain ⟨s5, l5, e5, c, ba, ma, la, da, bc, mc, lc, dc, Gc, rfl, HC, hb5, H2⟩ := hr
          clear H
          have H := H2
          clear H2
          clear HS
          have HS := H
          refine hK.out _ _ (fun _ => (H.sub sU)) ?_
          clear hK K
          simp only [pS]
          refine rk_free (i := 16) rfl kR kR kR kR (Yld.of (v := .agg (#[.int .u64 (q3 : Int), .int .i64 c.kind, .int .u16 (c.fr.1 : Int), .int .u32 (c.fr.2 : Int), .int .u64 (c.num : Int), .int .u64 (c.vw : Int), .slice ba c.data.length bc, .int .u64 (c.v.id : Int), .slice ma c.v.mem.length mc, .slice la c.v.lvs.length lc, .slice da c.v.ldr.length dc] : Array Value)) rfl (fun W _ => by kernel_rfl)) (fun _ => (H.sub sU)) ?_; simp only [pS, pE]
          refine rk_one (i := 17) (by kernel_rfl) rfl rfl (fun K hK => ?_)
          refine Stp.wp (Stp.bsl (e := 116) (cs := (#[.int .u64 (q3 : Int), .int .i64 c.kind, .int .u16 (c.fr.1 : Int), .int .u32 (c.fr.2 : Int), .int .u64 (c.num : Int), .int .u64 (c.vw : Int), .slice ba c.data.length bc, .int .u64 (c.v.id : Int), .slice ma c.v.mem.length mc, .slice la c.v.lvs.length lc, .slice da c.v.ldr.length dc] : Array Value)) 63 rfl rfl (fun W => by kernel_rfl) H ?_)
          clear H
          intro g63 w1 H
          clear HS
          have HS := H
          refine hK.out _ _ (fun _ => (H.sub sU)) ?_
          clear hK K
          simp only [pS]
          refine rk_one (i := 18) (by kernel_rfl) rfl rfl (fun K hK => ?_)
          refine Stp.wp (Stp.appo 64 rfl rfl Try.underlying63 info116 rfl (by decide) rfl rfl H (fun _ => uP) (show ((#[.int .u64 (q3 : Int), .int .i64 c.kind, .int .u16 (c.fr.1 : Int), .int .u32 (c.fr.2 : Int), .int .u64 (c.num : Int), .int .u64 (c.vw : Int), .slice ba c.data.length bc, .int .u64 (c.v.id : Int), .slice ma c.v.mem.length mc, .slice la c.v.lvs.length lc, .slice da c.v.ldr.length dc] : Array Value).toList).length = 1 * 11 from rfl) (by omega) (newN (H.gr 116)) (ov_one1 q3 c ⟨ba, ma, la, da, bc, mc, lc, dc⟩) (by unfold maxLen; omega) (by omega) ?_)
          clear H
          intro a64 c64 w1 H
          clear HS
          have HS := H
          refine hK.out _ _ (fun _ => (H.sub sU)) ?_
          clear hK K
          simp only [pS]
          refine rk_free (i := 19) rfl kR kR kR kR (Yld.o rfl) (fun _ => (H.sub sU)) ?_; simp only [pS]
          refine rk_free (i := 20) rfl kR kR kR kR (Yld.o rfl) (fun _ => (H.sub sU)) ?_; simp only [pS]
          refine rk_one (i := 21) (by kernel_rfl) rfl rfl (fun K hK => ?_)
          refine Stp.wp (Stp.stc rfl size63 rfl rfl rfl rfl H uP (by simp) ?_)
          clear H
          intro w1 H
          simp only [pE, nC, pS] at H
          clear HS
          have HS := H
          refine hK.out _ _ (fun h => by cases (show true = false from h)) ?_
          clear hK K
          simp only [pS]
          refine rk_done (by kernel_rfl) ?_
          have HP2 : Hid (cmsL (n - (k + 1)) (cs ++ [c], (l5, e5)) = cmsL n ([], (l2, e2))) := Lib.hid (by
            have := HPP.out
            rw [HC.out] at this
            exact this)
          go_wp2_with fail
          go_roundw
          case rel => exact ⟨k + 1, s5, l5, e5, cs ++ [c], _, a64, c64, by omega, by go_num, Lib.hid (by rw [List.length_append, HA.out]; rfl), HP2, hb5, (((H.pull (r := slo 116 11 (.slice a64 (k + 1) c64) _ _) pU).pull (r := row 65 g15 _) pU).pull (r := row 129 g11 _) pU).sub sU⟩
          case measure => simp [intOf]; omega
        · have HV : Hid (cmsL n ([], (l2, e2)) = (cs, (l4, e4))) := Lib.hid (by
            rw [← HP.out]
            by_cases he4 : e4 ≠ 0
            · exact cmsL_stop he4
            · have : k = n := by
                rcases Nat.lt_or_ge k n with h | h
                · exact absurd ⟨h, by omega⟩ hgo
                · omega
              subst this
              rw [Nat.sub_self]; exact cmsL_zero)
          by_cases hlt : k < n
          · have kli : (k : Int) < (n : Int) := by omega
            have hei : ((e4 : Int) == 0) = false := by
              have : e4 ≠ 0 := fun h => hgo ⟨hlt, h⟩
              simp; omega
            clear hgo hlt
            have HLG := Lib.hid (lgF_of HZ1.out HZ2.out HGT.out HV.out)
            obtain ⟨f, hf⟩ : ∃ f, endF (l4, e4) = f := ⟨_, rfl⟩
            have HF := Lib.hid hf
            clear hf
            by_cases h0 : f ≠ 0
            · have HV2 : Hid (lgF l = ((0, []), f)) := Lib.hid (by rw [HLG.out, HF.out, if_pos h0])
              have HF0 := Lib.hid h0
              have hfi : ((f : Int) != 0) = true := by simp; omega
              clear h0
              go_wp2_with (first | (go_at_call 74; (with_reducible refine (rrEnd_ok g11 s4 l4 e4 hb4 _ (H.pull (r := row 129 g11 _) pU)).mono ?_); rintro e w1 ⟨v, rfl, hr⟩; obtain ⟨rfl, H2⟩ := hr; clear H; have H := H2; clear H2; rw [HF.out]) | (with_reducible refine wpl rfl (ldQ (ty := 3) rfl ?_); first | (with_reducible refine (Stp.ldo rfl agg3 rfl H (by assumption) (by assumption) ?_); simp only [pS]) | (with_reducible refine (Stp.ldc rfl agg3 rfl H mR cE ?_); simp only [pS])))
              go_ret2
              exact ⟨_, rfl, .inl ⟨f, HF0.out, HV2.out, rfl, St.sub (H.pull (r := row 129 g11 #[s4, .int .i64 (e4 : Int)]) pU) (.cons _ (.cons _ (.cons _ (List.Sublist.refl _))))⟩⟩
            · obtain rfl : f = 0 := by omega
              have HV2 : Hid (lgF l = ((a, cs), 0)) := Lib.hid (by rw [HLG.out, HF.out, if_neg (by simp)])
              have hfi : (((0 : Nat) : Int) != 0) = false := by simp
              clear h0
              go_wp2_with (first | (go_at_call 74; (with_reducible refine (rrEnd_ok g11 s4 l4 e4 hb4 _ (H.pull (r := row 129 g11 _) pU)).mono ?_); rintro e w1 ⟨v, rfl, hr⟩; obtain ⟨rfl, H2⟩ := hr; clear H; have H := H2; clear H2; rw [HF.out]) | (with_reducible refine wpl rfl (ldQ (ty := 3) rfl ?_); first | (with_reducible refine (Stp.ldo rfl agg3 rfl H (by assumption) (by assumption) ?_); simp only [pS]) | (with_reducible refine (Stp.ldc rfl agg3 rfl H mR cE ?_); simp only [pS])))
              go_ret2
              refine ⟨_, rfl, .inr ⟨a, cs, g15, HV2.out, rfl, ka, kc, ?_⟩⟩
              rw [HA.out]
              exact St.sub (((H.pull (r := slo 116 11 (.slice ka k kc) k V) pU).pull (r := row 65 g15 #[.int .u64 (a : Int), .slice ka k kc]) pU).pull (r := row 129 g11 _) pU) (.cons _ (.cons_cons _ (.cons _ (List.Sublist.refl _))))
          · have kli : ¬ (k : Int) < (n : Int) := by omega
            clear hgo hlt
            have HLG := Lib.hid (lgF_of HZ1.out HZ2.out HGT.out HV.out)
            obtain ⟨f, hf⟩ : ∃ f, endF (l4, e4) = f := ⟨_, rfl⟩
            have HF := Lib.hid hf
            clear hf
            by_cases h0 : f ≠ 0
            · have HV2 : Hid (lgF l = ((0, []), f)) := Lib.hid (by rw [HLG.out, HF.out, if_pos h0])
              have HF0 := Lib.hid h0
              have hfi : ((f : Int) != 0) = true := by simp; omega
              clear h0
              go_wp2_with (first | (go_at_call 74; (with_reducible refine (rrEnd_ok g11 s4 l4 e4 hb4 _ (H.pull (r := row 129 g11 _) pU)).mono ?_); rintro e w1 ⟨v, rfl, hr⟩; obtain ⟨rfl, H2⟩ := hr; clear H; have H := H2; clear H2; rw [HF.out]))
              go_ret2
              exact ⟨_, rfl, .inl ⟨f, HF0.out, HV2.out, rfl, St.sub (H.pull (r := row 129 g11 #[s4, .int .i64 (e4 : Int)]) pU) (.cons _ (.cons _ (.cons _ (List.Sublist.refl _))))⟩⟩
            · obtain rfl : f = 0 := by omega
              have HV2 : Hid (lgF l = ((a, cs), 0)) := Lib.hid (by rw [HLG.out, HF.out, if_neg (by simp)])
              have hfi : (((0 : Nat) : Int) != 0) = false := by simp
              clear h0
              go_wp2_with (first | (go_at_call 74; (with_reducible refine (rrEnd_ok g11 s4 l4 e4 hb4 _ (H.pull (r := row 129 g11 _) pU)).mono ?_); rintro e w1 ⟨v, rfl, hr⟩; obtain ⟨rfl, H2⟩ := hr; clear H; have H := H2; clear H2; rw [HF.out]))
              go_ret2
              refine ⟨_, rfl, .inr ⟨a, cs, g15, HV2.out, rfl, ka, kc, ?_⟩⟩
              rw [HA.out]
              exact St.sub (((H.pull (r := slo 116 11 (.slice ka k kc) k V) pU).pull (r := row 65 g15 #[.int .u64 (a : Int), .slice ka k kc]) pU).pull (r := row 129 g11 _) pU) (.cons _ (.cons_cons _ (.cons _ (List.Sublist.refl _))))
    · have hei2 : ((e2 : Int) == 0) = false := by simp; omega
      clear he2
      go_wp2_with (first | (go_at_call 72; (with_reducible refine (rrNum64_ok g11 s1 l1 e1 hb1 _ (H.pull (r := row 129 g11 _) pU) (by repeat (first | exact hML | apply List.Sublist.cons))).mono ?_); rintro e w1 ⟨v, rfl, hr⟩; obtain ⟨rfl, s2, hb2, H2⟩ := hr; clear H; have H := H2; clear H2; rw [HZ2.out] at hb2 H ⊢; simp only at hb2 H ⊢) | (with_reducible refine wpl rfl (ldQ (ty := 3) rfl ?_); first | (with_reducible refine (Stp.ldo rfl agg3 rfl H (by assumption) (by assumption) ?_); simp only [pS]) | (with_reducible refine (Stp.ldc rfl agg3 rfl H mR cE ?_); simp only [pS])))
      go_loopw [7] (fun i wr => ∃ (k : Nat) (s4 : Value) (l4 : List Nat) (e4 : Nat) (cs : List Cm) (V : List Value) (ka : Option Addr) (kc : Nat), k ≤ n ∧ i = .int .u64 (k : Int) ∧ Hid (cs.length = k) ∧ Hid (cmsL (n - k) (cs, (l4, e4)) = cmsL n ([], (l2, e2))) ∧ Byt B w0 L s4 l4 ∧ St B w0 wr (row 129 g11 #[s4, .int .i64 (e4 : Int)] :: row 65 g15 #[.int .u64 (a : Int), .slice ka k kc] :: slo 116 11 (.slice ka k kc) k V :: T)) (fun i _ => n - (intOf i).toNat)
      case atStart => exact ⟨0, s2, l2, e2, [], [], none, 0, Nat.zero_le _, rfl, Lib.hid rfl, Lib.hid rfl, hb2, (((H.pull (r := slo 116 11 _ _ _) pU).pull (r := row 65 g15 _) pU).pull (r := row 129 g11 _) pU)⟩
      case round =>
        clear H hb2
        obtain ⟨k, s4, l4, e4, cs, V, ka, kc, hk, rfl, HA, HP, hb4, H⟩ := hrel
        by_cases hgo : k < n ∧ e4 = 0
        · obtain ⟨hlt, rfl⟩ := hgo
          have kli : (k : Int) < (n : Int) := by omega
          have hei : (((0 : Nat) : Int) == 0) = true := by simp
          have hp2 : cmsL (n - (k + 1)) (cs ++ [(cmF (l4, 0)).1], (cmF (l4, 0)).2) = cmsL n ([], (l2, e2)) := by
            rw [← HP.out, show n - k = (n - (k + 1)) + 1 by omega]
            exact cmsL_go.symm
          have HPP := Lib.hid hp2
          obtain ⟨q1, hq1⟩ : ∃ q1, a - n = q1 := ⟨_, rfl⟩
          obtain ⟨q2, hq2⟩ : ∃ q2, q1 + 1 = q2 := ⟨_, rfl⟩
          obtain ⟨q3, hq3⟩ : ∃ q3, q2 + k = q3 := ⟨_, rfl⟩
          have W1 : Hid (IntKind.u64.wrap ((a : Int) - (n : Int)) = (q1 : Int)) := Lib.hid (by rw [wrap_u64_in _ (by omega) (by omega)]; omega)
          have W2 : Hid (IntKind.u64.wrap ((q1 : Int) + 1) = (q2 : Int)) := Lib.hid (by rw [wrap_u64_in _ (by omega) (by omega)]; omega)
          have W3 : Hid (IntKind.u64.wrap ((q2 : Int) + (k : Int)) = (q3 : Int)) := Lib.hid (by rw [wrap_u64_in _ (by omega) (by omega)]; omega)
          clear hp2 hq1 hq2 hq3
          go_wp2_with (first | (with_reducible refine wpl rfl (ldQ (ty := 3) rfl ?_); first | (with_reducible refine (Stp.ldo rfl agg3 rfl H (by assumption) (by assumption) ?_); simp only [pS]) | (with_reducible refine (Stp.ldc rfl agg3 rfl H mR cE ?_); simp only [pS])))
          refine rk_begin 21 22 (fun W => St B w0 W [row 65 g15 #[.int .u64 (a : Int), .slice ka k kc]]) rfl (by kernel_rfl) ?_
          replace H := H.drew
          have HS := H
          refine rk_free (i := 0) rfl kR kR kR kR (Yld.move rfl rfl) (fun _ => (H.sub sU)) ?_; simp only [pS, pE]
          refine rk_free (i := 1) rfl kR kR kR kR (Yld.move rfl rfl) (fun _ => (H.sub sU)) ?_; simp only [pS, pE]
          refine rk_free (i := 2) rfl kR kR kR kR (Yld.o rfl) (fun _ => (H.sub sU)) ?_; simp only [pS]
          refine rk_free (i := 3) rfl kR kR kR kR (Yld.o rfl) (fun _ => (H.sub sU)) ?_; simp only [pS]
          first | (refine rk_take (i := 4) rfl kR kR kR kR kR kR (Yld.ldc rfl rfl agg63 rfl mR cE) (H.sub sU) ?_; simp only [pS]) | (refine rk_take (i := 4) rfl kR kR kR kR kR kR (Yld.ldo rfl rfl agg63 rfl (by assumption) (by assumption)) (H.sub sU) ?_; simp only [pS])
          refine rk_free (i := 5) rfl kR kR kR kR (Yld.move rfl rfl) (fun _ => (H.sub sU)) ?_; simp only [pS, pE]
          refine rk_free (i := 6) rfl kR kR kR kR (Yld.o rfl) (fun _ => (H.sub sU)) ?_; simp only [pS]
          refine rk_free (i := 7) rfl kR kR kR kR (Yld.o rfl) (fun _ => (H.sub sU)) ?_; simp only [pS]
          first | (refine rk_take (i := 8) rfl kR kR kR kR kR kR (Yld.ldc rfl rfl agg26 rfl mR cE) (H.sub sU) ?_; simp only [pS]) | (refine rk_take (i := 8) rfl kR kR kR kR kR kR (Yld.ldo rfl rfl agg26 rfl (by assumption) (by assumption)) (H.sub sU) ?_; simp only [pS])
          refine rk_free (i := 9) rfl kR kR kR kR (Yld.move rfl rfl) (fun _ => (H.sub sU)) ?_; simp only [pS, pE]
          refine rk_free (i := 10) rfl kR kR kR kR (Yld.of (v := .int .u64 (q1 : Int)) rfl (fun W _ => by go_simp; first | done | exact W1.out)) (fun _ => (H.sub sU)) ?_; simp only [pS, pE]
          refine rk_free (i := 11) rfl kR kR kR kR (Yld.of (v := .int .u64 (q2 : Int)) rfl (fun W _ => by go_simp; first | done | exact W2.out)) (fun _ => (H.sub sU)) ?_; simp only [pS, pE]
          refine rk_free (i := 12) rfl kR kR kR kR (Yld.move rfl rfl) (fun _ => (H.sub sU)) ?_; simp only [pS, pE]
          refine rk_free (i := 13) rfl kR kR kR kR (Yld.of (v := .int .u64 (q3 : Int)) rfl (fun W _ => by go_simp; first | done | exact W3.out)) (fun _ => (H.sub sU)) ?_; simp only [pS, pE]
          refine rk_free (i := 14) rfl kR kR kR kR (Yld.move rfl rfl) (fun _ => (H.sub sU)) ?_; simp only [pS, pE]
          refine rk_one (i := 15) (by kernel_rfl) rfl rfl (fun K hK => ?_)
          refine wp_callf rfl ent73 (rcgetL_ok g11 s4 l4 0 hb4 _ (H.pull (r := row 129 g11 _) pU) (by repeat (first | exact hML | apply List.Sublist.cons))) rfl (fun v w1 hr => ?_)
          obtain ⟨s5, l5, e5, c, ba, ma, la, da, bc, mc, lc, dc, Gc, rfl, HC, hb5, H2⟩ := hr
          clear H
          have H := H2
          clear H2
          clear HS
          have HS := H
          refine hK.out _ _ (fun _ => (H.sub sU)) ?_
          clear hK K
          simp only [pS]
          refine rk_free (i := 16) rfl kR kR kR kR (Yld.of (v := .agg (#[.int .u64 (q3 : Int), .int .i64 c.kind, .int .u16 (c.fr.1 : Int), .int .u32 (c.fr.2 : Int), .int .u64 (c.num : Int), .int .u64 (c.vw : Int), .slice ba c.data.length bc, .int .u64 (c.v.id : Int), .slice ma c.v.mem.length mc, .slice la c.v.lvs.length lc, .slice da c.v.ldr.length dc] : Array Value)) rfl (fun W _ => by kernel_rfl)) (fun _ => (H.sub sU)) ?_; simp only [pS, pE]
          refine rk_one (i := 17) (by kernel_rfl) rfl rfl (fun K hK => ?_)
          refine Stp.wp (Stp.bsl (e := 116) (cs := (#[.int .u64 (q3 : Int), .int .i64 c.kind, .int .u16 (c.fr.1 : Int), .int .u32 (c.fr.2 : Int), .int .u64 (c.num : Int), .int .u64 (c.vw : Int), .slice ba c.data.length bc, .int .u64 (c.v.id : Int), .slice ma c.v.mem.length mc, .slice la c.v.lvs.length lc, .slice da c.v.ldr.length dc] : Array Value)) 63 rfl rfl (fun W => by kernel_rfl) H ?_)
          clear H
          intro g63 w1 H
          clear HS
          have HS := H
          refine hK.out _ _ (fun _ => (H.sub sU)) ?_
          clear hK K
          simp only [pS]
          refine rk_one (i := 18) (by kernel_rfl) rfl rfl (fun K hK => ?_)
          refine Stp.wp (Stp.appo 64 rfl rfl Try.underlying63 info116 rfl (by decide) rfl rfl H (fun _ => uP) (show ((#[.int .u64 (q3 : Int), .int .i64 c.kind, .int .u16 (c.fr.1 : Int), .int .u32 (c.fr.2 : Int), .int .u64 (c.num : Int), .int .u64 (c.vw : Int), .slice ba c.data.length bc, .int .u64 (c.v.id : Int), .slice ma c.v.mem.length mc, .slice la c.v.lvs.length lc, .slice da c.v.ldr.length dc] : Array Value).toList).length = 1 * 11 from rfl) (by omega) (newN (H.gr 116)) (ov_one1 q3 c ⟨ba, ma, la, da, bc, mc, lc, dc⟩) (by unfold maxLen; omega) (by omega) ?_)
          clear H
          intro a64 c64 w1 H
          clear HS
          have HS := H
          refine hK.out _ _ (fun _ => (H.sub sU)) ?_
          clear hK K
          simp only [pS]
          refine rk_free (i := 19) rfl kR kR kR kR (Yld.o rfl) (fun _ => (H.sub sU)) ?_; simp only [pS]
          refine rk_free (i := 20) rfl kR kR kR kR (Yld.o rfl) (fun _ => (H.sub sU)) ?_; simp only [pS]
          refine rk_one (i := 21) (by kernel_rfl) rfl rfl (fun K hK => ?_)
          refine Stp.wp (Stp.stc rfl size63 rfl rfl rfl rfl H uP (by simp) ?_)
          clear H
          intro w1 H
          simp only [pE, nC, pS] at H
          clear HS
          have HS := H
          refine hK.out _ _ (fun h => by cases (show true = false from h)) ?_
          clear hK K
          simp only [pS]
          refine rk_done (by kernel_rfl) ?_
          have HP2 : Hid (cmsL (n - (k + 1)) (cs ++ [c], (l5, e5)) = cmsL n ([], (l2, e2))) := Lib.hid (by
            have := HPP.out
            rw [HC.out] at this
            exact this)
          go_wp2_with fail
          go_roundw
          case rel => exact ⟨k + 1, s5, l5, e5, cs ++ [c], _, a64, c64, by omega, by go_num, Lib.hid (by rw [List.length_append, HA.out]; rfl), HP2, hb5, (((H.pull (r := slo 116 11 (.slice a64 (k + 1) c64) _ _) pU).pull (r := row 65 g15 _) pU).pull (r := row 129 g11 _) pU).sub sU⟩
          case measure => simp [intOf]; omega
        · have HV : Hid (cmsL n ([], (l2, e2)) = (cs, (l4, e4))) := Lib.hid (by
            rw [← HP.out]
            by_cases he4 : e4 ≠ 0
            · exact cmsL_stop he4
            · have : k = n := by
                rcases Nat.lt_or_ge k n with h | h
                · exact absurd ⟨h, by omega⟩ hgo
                · omega
              subst this
              rw [Nat.sub_self]; exact cmsL_zero)
          by_cases hlt : k < n
          · have kli : (k : Int) < (n : Int) := by omega
            have hei : ((e4 : Int) == 0) = false := by
              have : e4 ≠ 0 := fun h => hgo ⟨hlt, h⟩
              simp; omega
            clear hgo hlt
            have HLG := Lib.hid (lgF_of HZ1.out HZ2.out HGT.out HV.out)
            obtain ⟨f, hf⟩ : ∃ f, endF (l4, e4) = f := ⟨_, rfl⟩
            have HF := Lib.hid hf
            clear hf
            by_cases h0 : f ≠ 0
            · have HV2 : Hid (lgF l = ((0, []), f)) := Lib.hid (by rw [HLG.out, HF.out, if_pos h0])
              have HF0 := Lib.hid h0
              have hfi : ((f : Int) != 0) = true := by simp; omega
              clear h0
              go_wp2_with (first | (go_at_call 74; (with_reducible refine (rrEnd_ok g11 s4 l4 e4 hb4 _ (H.pull (r := row 129 g11 _) pU)).mono ?_); rintro e w1 ⟨v, rfl, hr⟩; obtain ⟨rfl, H2⟩ := hr; clear H; have H := H2; clear H2; rw [HF.out]) | (with_reducible refine wpl rfl (ldQ (ty := 3) rfl ?_); first | (with_reducible refine (Stp.ldo rfl agg3 rfl H (by assumption) (by assumption) ?_); simp only [pS]) | (with_reducible refine (Stp.ldc rfl agg3 rfl H mR cE ?_); simp only [pS])))
              go_ret2
              exact ⟨_, rfl, .inl ⟨f, HF0.out, HV2.out, rfl, St.sub (H.pull (r := row 129 g11 #[s4, .int .i64 (e4 : Int)]) pU) (.cons _ (.cons _ (.cons _ (List.Sublist.refl _))))⟩⟩
            · obtain rfl : f = 0 := by omega
              have HV2 : Hid (lgF l = ((a, cs), 0)) := Lib.hid (by rw [HLG.out, HF.out, if_neg (by simp)])
              have hfi : (((0 : Nat) : Int) != 0) = false := by simp
              clear h0
              go_wp2_with (first | (go_at_call 74; (with_reducible refine (rrEnd_ok g11 s4 l4 e4 hb4 _ (H.pull (r := row 129 g11 _) pU)).mono ?_); rintro e w1 ⟨v, rfl, hr⟩; obtain ⟨rfl, H2⟩ := hr; clear H; have H := H2; clear H2; rw [HF.out]) | (with_reducible refine wpl rfl (ldQ (ty := 3) rfl ?_); first | (with_reducible refine (Stp.ldo rfl agg3 rfl H (by assumption) (by assumption) ?_); simp only [pS]) | (with_reducible refine (Stp.ldc rfl agg3 rfl H mR cE ?_); simp only [pS])))
              go_ret2
              refine ⟨_, rfl, .inr ⟨a, cs, g15, HV2.out, rfl, ka, kc, ?_⟩⟩
              rw [HA.out]
              exact St.sub (((H.pull (r := slo 116 11 (.slice ka k kc) k V) pU).pull (r := row 65 g15 #[.int .u64 (a : Int), .slice ka k kc]) pU).pull (r := row 129 g11 _) pU) (.cons _ (.cons_cons _ (.cons _ (List.Sublist.refl _))))
          · have kli : ¬ (k : Int) < (n : Int) := by omega
            clear hgo hlt
            have HLG := Lib.hid (lgF_of HZ1.out HZ2.out HGT.out HV.out)
            obtain ⟨f, hf⟩ : ∃ f, endF (l4, e4) = f := ⟨_, rfl⟩
            have HF := Lib.hid hf
            clear hf
            by_cases h0 : f ≠ 0
            · have HV2 : Hid (lgF l = ((0, []), f)) := Lib.hid (by rw [HLG.out, HF.out, if_pos h0])
              have HF0 := Lib.hid h0
              have hfi : ((f : Int) != 0) = true := by simp; omega
              clear h0
              go_wp2_with (first | (go_at_call 74; (with_reducible refine (rrEnd_ok g11 s4 l4 e4 hb4 _ (H.pull (r := row 129 g11 _) pU)).mono ?_); rintro e w1 ⟨v, rfl, hr⟩; obtain ⟨rfl, H2⟩ := hr; clear H; have H := H2; clear H2; rw [HF.out]))
              go_ret2
              exact ⟨_, rfl, .inl ⟨f, HF0.out, HV2.out, rfl, St.sub (H.pull (r := row 129 g11 #[s4, .int .i64 (e4 : Int)]) pU) (.cons _ (.cons _ (.cons _ (List.Sublist.refl _))))⟩⟩
            · obtain rfl : f = 0 := by omega
              have HV2 : Hid (lgF l = ((a, cs), 0)) := Lib.hid (by rw [HLG.out, HF.out, if_neg (by simp)])
              have hfi : (((0 : Nat) : Int) != 0) = false := by simp
              clear h0
              go_wp2_with (first | (go_at_call 74; (with_reducible refine (rrEnd_ok g11 s4 l4 e4 hb4 _ (H.pull (r := row 129 g11 _) pU)).mono ?_); rintro e w1 ⟨v, rfl, hr⟩; obtain ⟨rfl, H2⟩ := hr; clear H; have H := H2; clear H2; rw [HF.out]))
              go_ret2
              refine ⟨_, rfl, .inr ⟨a, cs, g15, HV2.out, rfl, ka, kc, ?_⟩⟩
              rw [HA.out]
              exact St.sub (((H.pull (r := slo 116 11 (.slice ka k kc) k V) pU).pull (r := row 65 g15 #[.int .u64 (a : Int), .slice ka k kc]) pU).pull (r := row 129 g11 _) pU) (.cons _ (.cons_cons _ (.cons _ (List.Sublist.refl _))))
end Go.Proofs.Ytmokecicjmjkbaa
namespace Go.Proofs.Ytmokecicjmjkbaa
set_option linter.unusedVariables false
set_option linter.unusedSimpArgs false
theorem vOk_each {x : Vw} (h : vOk x = true) : x.mem ≠ [] ∧ x.mem.length ≤ 24 ∧ x.lvs.length ≤ 24 ∧ x.ldr.length ≤ 24 ∧ (∀ l ∈ x.lvs, l.length ≤ 24 ∧ ∀ p ∈ l, p ∈ x.mem) ∧ ∀ p ∈ x.ldr, p ∈ x.mem := by
  obtain ⟨h1, h2, h3, h4, h5, h6, h7, h8, h9⟩ := vOk_parts h
  have hm : 0 < x.mem.length ∧ x.mem.length ≤ 24 := by
    simp only [memOk, Bool.and_eq_true, decide_eq_true_eq] at h3
    exact ⟨h3.1.2, h3.2⟩
  have hl := lvOk_len h4
  have hd := risB_len h9
  refine ⟨List.length_pos_iff.1 hm.1, hm.2, by omega, by omega, fun l hl => ?_, risB_mem h9⟩
  have := List.all_eq_true.1 h4 l hl
  simp only [Bool.and_eq_true] at this
  have h10 := risB_len this.2
  exact ⟨by omega, risB_mem this.2⟩
end Go.Proofs.Ytmokecicjmjkbaa
namespace Go.Proofs.Ytmokecicjmjkbaa
open Go.ChangeShapes Go.WideShapes Go.ChangeAt Go.RowKit
set_option linter.unusedVariables false
set_option linter.unusedSimpArgs false
theorem pidsB_snoc (ps : List (Nat × Nat)) (k : Nat) (h : k < ps.length) : pidsB (ps.take (k + 1)) = pidsB (ps.take k) ++ pidB (ps.getD k (0, 0)).1 (ps.getD k (0, 0)).2 := by
  unfold pidsB
  rw [List.take_succ_eq_append_getElem h, List.flatMap_append]
  simp [List.getD, h]
theorem pidsB_len (ps : List (Nat × Nat)) : (pidsB ps).length ≤ 20 * ps.length := by
  unfold pidsB
  induction ps with
  | nil => simp
  | cons p ps ih =>
    have := pidB_len p.1 p.2
    simp only [List.flatMap_cons, List.length_append, List.length_cons]
    omega
set_option maxRecDepth 100000 in
set_option maxRecDepth 100000 in
theorem wpid_ok {B : Nat} {w0 : World} {L : List Res} (g : Nat) (l m : List Nat) (i c : Nat) (hl : l.length ≤ 700000) (hi : i < 65536) (hc : c < 4294967296) (hm : l ++ pidB i c = m) (w : World) (H : WSt B w0 w g l L) :
    Calls Try.prog 102 #[.pointer (some ⟨g, 0, none⟩), .agg #[.int .u16 (i : Int), .int .u32 (c : Int)]] w (Ret fun v w' => v = .tuple #[] ∧ WSt B w0 w' g m L) := by
  obtain ⟨a, cc, H⟩ := H
  have HM := Lib.hid hm
  clear hm
  go_enter Try.func102, Try.ntmps102
  go_wp2_with (first | (with_reducible refine wpl rfl (dQ 3 rfl ?_); with_reducible refine (Stp.box 3 rfl rfl rfl H ?_); clear H; intro g3 w1 H; simp only [pS]; simp only [pE, nC, pS] at H))
  refine rk_begin 9 10 (fun W => St B w0 W [row 30 g3 #[.int .u16 (i : Int), .int .u32 (c : Int)], row 133 g #[.slice a l.length cc], slc 5 1 (.slice a l.length cc) l.length (bv l)]) rfl (by kernel_rfl) ?_
  replace H := H.drew
  have HS := H
  refine rk_free (i := 0) rfl kR kR kR kR (Yld.move rfl rfl) (fun _ => (H.sub sU)) ?_; simp only [pS, pE]
  refine rk_free (i := 1) rfl kR kR kR kR (Yld.move rfl rfl) (fun _ => (H.sub sU)) ?_; simp only [pS, pE]
  refine rk_free (i := 2) rfl kR kR kR kR (Yld.o rfl) (fun _ => (H.sub sU)) ?_; simp only [pS]
  refine rk_free (i := 3) rfl kR kR kR kR (Yld.o rfl) (fun _ => (H.sub sU)) ?_; simp only [pS]
  first | (refine rk_take (i := 4) rfl kR kR kR kR kR kR (Yld.ldc rfl rfl agg22 rfl mR cE) (H.sub sU) ?_; simp only [pS]) | (refine rk_take (i := 4) rfl kR kR kR kR kR kR (Yld.ldo rfl rfl agg22 rfl (by assumption) (by assumption)) (H.sub sU) ?_; simp only [pS])
  first | (refine rk_take (i := 5) rfl kR kR kR kR kR kR (Yld.ldr rfl rfl agg30 size30 rfl mR sZ) (H.sub sU) ?_; simp only [pS]) | (refine rk_take (i := 5) rfl kR kR kR kR kR kR (Yld.ldl rfl rfl agg30 size30 rfl mR (by simp)) (H.sub sU) ?_; simp only [pS]; simp only [List.drop_succ_cons, List.drop_zero, List.take_succ_cons, List.take_zero]) | (refine rk_take (i := 5) rfl kR kR kR kR kR kR (Yld.ldor rfl rfl agg30 size30 rfl (by assumption) sZ (by assumption)) (H.sub sU) ?_; simp only [pS])
  refine rk_one (i := 6) (by kernel_rfl) rfl rfl (fun K hK => ?_)
  refine wp_callf rfl ent131 (pput_as _ l m (by omega) i c hi hc HM.out _ (own_sla (H.getSlc (xs := bv l) mE) (by omega))) rfl (fun v w1 hr => ?_)
  obtain ⟨⟨am, cm, rfl⟩, ho, hb1⟩ := hr
  replace H := H.new hb1 (slc_sound ho) (fun g hg => (ho.lt g hg).1)
  clear hb1 ho
  clear HS
  have HS := H
  refine hK.out _ _ (fun _ => (H.sub sU)) ?_
  clear hK K
  simp only [pS]
  refine rk_free (i := 7) rfl kR kR kR kR (Yld.o rfl) (fun _ => (H.sub sU)) ?_; simp only [pS]
  refine rk_free (i := 8) rfl kR kR kR kR (Yld.o rfl) (fun _ => (H.sub sU)) ?_; simp only [pS]
  refine rk_one (i := 9) (by kernel_rfl) rfl rfl (fun K hK => ?_)
  refine Stp.wp (Stp.stc rfl size22 rfl rfl rfl rfl H uP (by simp) ?_)
  clear H
  intro w1 H
  simp only [pE, nC, pS] at H
  clear HS
  have HS := H
  refine hK.out _ _ (fun h => by cases (show true = false from h)) ?_
  clear hK K
  simp only [pS]
  refine rk_done (by kernel_rfl) ?_
  go_end0
  exact ⟨_, rfl, rfl, WSt.of H pU pU sU⟩
set_option maxRecDepth 100000 in
set_option maxHeartbeats 1000000 in
theorem wpids_ok {B : Nat} {w0 : World} {L : List Res} (g : Nat) (l m : List Nat) (ps : List (Nat × Nat)) (v : Value) (hp : okPids ps) (hpl : ps.length ≤ 1000) (hl : l.length ≤ 500000) (hm : l ++ (shortB ps.length ++ pidsB ps) = m) (w : World) (H : WSt B w0 w g l L) (hs : Rd B w0 L fun W => Sl W 2 ps.length v (elQ ps)) :
    Calls Try.prog 133 #[.pointer (some ⟨g, 0, none⟩), v] w (Ret fun v w' => v = .tuple #[] ∧ WSt B w0 w' g m L) := by
  obtain ⟨a, cc, H⟩ := H
  obtain ⟨ab, cb, e0, hm9, _⟩ := hs.at H (.cons _ (.cons _ (.refl _)))
  subst e0
  unfold maxLen at hm9
  have w1r : IntKind.u64.wrap (ps.length : Int) = (ps.length : Int) := wrap_u64_in _ (by omega) (by omega)
  obtain ⟨q, hq⟩ : ∃ q, l ++ shortB ps.length = q := ⟨_, rfl⟩
  have ql : q.length ≤ 500010 := by rw [← hq, List.length_append]; have := shortB_len ps.length; omega
  have HQ := Lib.hid hq
  have HM2 : Hid (q ++ pidsB ps = m) := Lib.hid (by rw [← hq, ← hm, List.append_assoc])
  have HP := Lib.hid hp
  clear hq hm hp
  go_enter Try.func133, Try.ntmps133
  go_wp2_with (first | (go_at_call 75; (with_reducible refine (wnum_ok g l q ps.length (by omega) (by omega) HQ.out _ (WSt.of H pU pU (List.Sublist.refl _))).mono ?_); rintro e w1 ⟨v, rfl, hr⟩; obtain ⟨rfl, a1, c1, H1⟩ := hr; clear H; have H := H1; clear H1) | (with_reducible refine wpl rfl (ldQ (ty := 30) rfl ?_); first | (with_reducible refine (Stp.ldor rfl agg30 size30 rfl H (by assumption) sZ (by assumption) ?_); simp only [pS]) | (with_reducible refine (Stp.ldr rfl agg30 size30 rfl H mR sZ ?_); simp only [pS]) | (with_reducible refine (Stp.ldl rfl agg30 size30 rfl H mR (by simp) ?_); simp only [pS]; simp only [List.drop_succ_cons, List.drop_zero, List.take_succ_cons, List.take_zero])) | (with_reducible refine wpl rfl (dQ 5 rfl ?_); with_reducible refine (Stp.alloc 5 rfl rfl zero30 H ?_); clear H; intro g5 w1 H; simp only [pS]; simp only [nC] at H) | (with_reducible refine wpl rfl (stQ (ty := 30) rfl ?_); first | (with_reducible refine (Stp.str rfl size30 rfl rfl (by first | rfl | (simp [Value.oneCell']; done) | assumption) H uP sZ sZ ?_); clear H; intro w1 H; simp only [pS]) | (with_reducible refine (Stp.stl rfl size30 rfl rfl rfl rfl H uP (by simp) ?_); clear H; intro w1 H; simp only [pS]; simp only [List.drop_succ_cons, List.drop_zero, List.take_succ_cons, List.take_zero, List.nil_append, List.cons_append, Nat.reduceAdd] at H)))
  clear HQ
  go_loopw [13] (fun i wr => ∃ (k : Nat) (a : Option Addr) (c : Nat) (r : List Nat), k ≤ ps.length ∧ i = .int .i64 (k : Int) ∧ Hid (q ++ pidsB (ps.take k) = r) ∧ St B w0 wr (row 133 g #[.slice a r.length c] :: slc 5 1 (.slice a r.length c) r.length (bv r) :: L)) (fun i _ => ps.length - (intOf i).toNat)
  case atStart => exact ⟨0, _, _, q, Nat.zero_le _, rfl, Lib.hid (by simp [pidsB]), H⟩
  case round =>
    clear H
    obtain ⟨k, a2, c2, r, hk, rfl, HR, H⟩ := hrel
    by_cases hlt : k < ps.length
    · obtain ⟨b, off, rfl, hbb⟩ := (hs.at H (.cons _ (.cons _ (.refl _)))).addr (by omega)
      obtain ⟨p1, p2⟩ := okPids_at HP.out k hlt
      have hsn := pidsB_snoc ps k hlt
      obtain ⟨x, hx⟩ : ∃ x, (ps.getD k (0, 0)).1 = x := ⟨_, rfl⟩
      obtain ⟨y, hy⟩ : ∃ y, (ps.getD k (0, 0)).2 = y := ⟨_, rfl⟩
      have he : elQ ps k = #[.int .u16 (x : Int), .int .u32 (y : Int)] := by unfold elQ; rw [hx, hy]
      rw [hx, hy] at hsn
      rw [hx] at p1
      rw [hy] at p2
      obtain ⟨r2, hr2⟩ : ∃ r2, r ++ pidB x y = r2 := ⟨_, rfl⟩
      have HR2 := Lib.hid hr2
      have HR3 : Hid (q ++ pidsB (ps.take (k + 1)) = r2) := Lib.hid (by rw [hsn, ← List.append_assoc, HR.out, hr2])
      have rl : r.length ≤ 600000 := by
        rw [← HR.out, List.length_append]
        have := pidsB_len (ps.take k)
        rw [List.length_take] at this
        omega
      have HEL := Lib.hid he
      have kli : (k : Int) < (ps.length : Int) := by omega
      clear hsn hx hy hr2 he
      go_wp2_with (first | (with_reducible refine wpl rfl (Stp.ldq (cs := #[.int .u16 (x : Int), .int .u32 (y : Int)]) rfl agg30 size30 rfl (by rw [← HEL.out]; exact (hs.at H sU).cell hlt) rfl ?_); simp only [pS]) | (go_at_call 102; (with_reducible refine (wpid_ok g r r2 x y (by omega) p1 p2 HR2.out _ (WSt.of H pU pU (List.Sublist.refl _))).mono ?_); rintro e w1 ⟨v, rfl, hr⟩; obtain ⟨rfl, a1, c1, H1⟩ := hr; clear H; have H := H1; clear H1) | (with_reducible refine wpl rfl (ldQ (ty := 30) rfl ?_); first | (with_reducible refine (Stp.ldor rfl agg30 size30 rfl H (by assumption) sZ (by assumption) ?_); simp only [pS]) | (with_reducible refine (Stp.ldr rfl agg30 size30 rfl H mR sZ ?_); simp only [pS]) | (with_reducible refine (Stp.ldl rfl agg30 size30 rfl H mR (by simp) ?_); simp only [pS]; simp only [List.drop_succ_cons, List.drop_zero, List.take_succ_cons, List.take_zero])) | (with_reducible refine wpl rfl (dQ 5 rfl ?_); with_reducible refine (Stp.alloc 5 rfl rfl zero30 H ?_); clear H; intro g5 w1 H; simp only [pS]; simp only [nC] at H) | (with_reducible refine wpl rfl (stQ (ty := 30) rfl ?_); first | (with_reducible refine (Stp.str rfl size30 rfl rfl (by first | rfl | (simp [Value.oneCell']; done) | assumption) H uP sZ sZ ?_); clear H; intro w1 H; simp only [pS]) | (with_reducible refine (Stp.stl rfl size30 rfl rfl rfl rfl H uP (by simp) ?_); clear H; intro w1 H; simp only [pS]; simp only [List.drop_succ_cons, List.drop_zero, List.take_succ_cons, List.take_zero, List.nil_append, List.cons_append, Nat.reduceAdd] at H)))
      go_roundw
      case rel => exact ⟨k + 1, _, _, r2, by omega, by go_num, HR3, H.sub sU⟩
      case measure => simp [intOf]; omega
    · obtain rfl : k = ps.length := by omega
      rw [List.take_length, HM2.out] at HR
      obtain rfl := HR.out
      go_wp2_with (first | (with_reducible refine wpl rfl (ldQ (ty := 30) rfl ?_); first | (with_reducible refine (Stp.ldor rfl agg30 size30 rfl H (by assumption) sZ (by assumption) ?_); simp only [pS]) | (with_reducible refine (Stp.ldr rfl agg30 size30 rfl H mR sZ ?_); simp only [pS]) | (with_reducible refine (Stp.ldl rfl agg30 size30 rfl H mR (by simp) ?_); simp only [pS]; simp only [List.drop_succ_cons, List.drop_zero, List.take_succ_cons, List.take_zero])) | (with_reducible refine wpl rfl (dQ 5 rfl ?_); with_reducible refine (Stp.alloc 5 rfl rfl zero30 H ?_); clear H; intro g5 w1 H; simp only [pS]; simp only [nC] at H) | (with_reducible refine wpl rfl (stQ (ty := 30) rfl ?_); first | (with_reducible refine (Stp.str rfl size30 rfl rfl (by first | rfl | (simp [Value.oneCell']; done) | assumption) H uP sZ sZ ?_); clear H; intro w1 H; simp only [pS]) | (with_reducible refine (Stp.stl rfl size30 rfl rfl rfl rfl H uP (by simp) ?_); clear H; intro w1 H; simp only [pS]; simp only [List.drop_succ_cons, List.drop_zero, List.take_succ_cons, List.take_zero, List.nil_append, List.cons_append, Nat.reduceAdd] at H)))
      go_end0
      exact ⟨_, rfl, rfl, WSt.of H pU pU sU⟩
end Go.Proofs.Ytmokecicjmjkbaa
namespace Go.Proofs.Ytmokecicjmjkbaa
set_option linter.unusedVariables false
set_option linter.unusedSimpArgs false
theorem rkB_len (m l : List Pr) : (rkB m l).length ≤ 10 + 10 * l.length := by
  unfold rkB
  have h1 := shortB_len l.length
  have h2 : (l.flatMap fun p => shortB (rkN m p)).length ≤ 10 * l.length := by
    induction l with
    | nil => simp
    | cons p l ih =>
      have := shortB_len (rkN m p)
      have := ih (shortB_len _)
      simp only [List.flatMap_cons, List.length_append, List.length_cons]
      omega
  rw [List.length_append]
  omega
theorem rks_len (m : List Pr) (ls : List (List Pr)) : (ls.flatMap fun l => rkB m l).length ≤ 10 * ls.length + 10 * ls.flatten.length := by
  induction ls with
  | nil => simp
  | cons l ls ih =>
    have := rkB_len m l
    simp only [List.flatMap_cons, List.length_append, List.length_cons, List.flatten_cons]
    omega
theorem vwB_len {x : Vw} (h : vOk x = true) : (vwB x).length ≤ 1260 := by
  obtain ⟨_, h24, hl, hd, _, _⟩ := vOk_each h
  have hf : x.lvs.flatten.length = x.mem.length := (vOk_parts h).2.2.2.2.1
  unfold vwB
  simp only [List.length_append]
  have h1 := shortB_len x.id
  have h2 := shortB_len x.mem.length
  have h3 := pidsB_len x.mem
  have h4 := shortB_len x.lvs.length
  have h5 := rks_len x.mem x.lvs
  have h6 := rkB_len x.mem x.ldr
  omega
theorem pidB_le (i c : Nat) : (pidB i c).length ≤ 20 := by
  unfold pidB
  have h1 := shortB_len i
  have h2 := shortB_len c
  rw [List.length_append]
  omega
theorem cmB_len {c : Cm} (h : cErr c = 0) : (cmB c).length ≤ 1270 := by
  have h0 := shortB_len c.kind.toNat
  have h9 := cErr_data h
  unfold cmB
  rw [List.length_append]
  split
  · have h1 := pidB_le c.fr.1 c.fr.2
    have h2 := shortB_len c.num
    have h3 := shortB_len c.vw
    have h4 := shortB_len c.data.length
    simp only [List.length_append]
    omega
  · split
    · rename_i h2 h3
      rcases cErr_kind h with hk | ⟨hk, _⟩ | ⟨_, hv⟩
      · omega
      · omega
      · have := vwB_len hv
        omega
    · simp only [List.length_nil]
      omega
theorem rkB_snoc (m ps : List Pr) (k : Nat) (h : k < ps.length) : ((ps.take (k + 1)).flatMap fun p => shortB (rkN m p)) = ((ps.take k).flatMap fun p => shortB (rkN m p)) ++ shortB (rkN m (ps.getD k (0, 0))) := by
  rw [List.take_succ_eq_append_getElem h, List.flatMap_append]
  simp [List.getD, h]
theorem rkN_lt {m : List Pr} {p : Pr} (h : m.length ≤ 1000) : rkN m p < 1001 := by
  unfold rkN
  cases hr : rank m p with
  | none => show 0 < 1001; omega
  | some k =>
    obtain ⟨hk, _⟩ := rank_lt hr
    show k < 1001
    omega
theorem rks_snoc (m : List Pr) (ls : List (List Pr)) {k : Nat} {l : List Pr} (h : ls.take (k + 1) = ls.take k ++ [l]) : ((ls.take (k + 1)).flatMap fun l => rkB m l) = ((ls.take k).flatMap fun l => rkB m l) ++ rkB m l := by
  rw [h, List.flatMap_append]; simp
theorem cms_snoc (cs : List Cm) {k : Nat} {c : Cm} (h : cs.take (k + 1) = cs.take k ++ [c]) : (cs.take (k + 1)).flatMap cmB = (cs.take k).flatMap cmB ++ cmB c := by
  rw [h, List.flatMap_append]; simp
end Go.Proofs.Ytmokecicjmjkbaa
