/- The contract of layer 9's Get (cmd) on any bytes; the bounds stand in it. -/
import Derived.Test.YtmokecicjmjkbaaGy16
namespace Go.Proofs.Ytmokecicjmjkbaa
open Go.ChangeShapes Go.WideShapes Go.ChangeAt Go.RowKit Go.Deep
set_option linter.unusedVariables false
set_option linter.unusedSimpArgs false
set_option linter.unusedSectionVars false
set_option maxRecDepth 100000
set_option maxHeartbeats 4000000
theorem cmr0 {B : Nat} {w0 w : World} {L : List Res} (H : St B w0 w L) : St B w0 w (cmr (fun _ => False) (.slice none 0 0) (.slice none 0 0) (.slice none 0 0) (.slice none 0 0) cm0 :: L) :=
  St.emp (p := (cmr (fun _ => False) (.slice none 0 0) (.slice none 0 0) (.slice none 0 0) (.slice none 0 0) cm0).2) (fun W => CmG.nil _ W 0) H
attribute [local irreducible] cErr vErr vOk numF pidsF plcF lvsL bytesF pidF vwF
theorem Byt.bt {B : Nat} {w0 : World} {L : List Res} {s : Value} {l : List Nat} {e : Nat} (h : Byt B w0 L s l) : Go.Proofs.Ytmokecicjmjkbaa.bt (l, e) := by
  obtain ⟨A, n, c, _, _, _, hx, _⟩ := h
  exact hx
theorem cget_ok {B : Nat} {w0 : World} {L M : List Res} (g : Nat) (s : Value) (l : List Nat) (e : Nat) (hb : Byt B w0 L s l) (hML : L.Sublist M) (w : World) (H : St B w0 w (row 144 g #[s, .int .i64 (e : Int)] :: M)) :
    Calls Try.prog 70 #[.pointer (some ⟨g, 0, none⟩)] w (Ret fun v w' => ∃ s' l' e' c ba ma la da bc mc lc dc G, v = .agg (cmC c ba ma la da bc mc lc dc) ∧ Hid (cmF (l, e) = (c, (l', e'))) ∧ Byt B w0 L s' l' ∧ St B w0 w' (row 144 g #[s', .int .i64 (e' : Int)] :: cmr G (.slice ba c.data.length bc) (.slice ma c.v.mem.length mc) (.slice la c.v.lvs.length lc) (.slice da c.v.ldr.length dc) c :: M)) := by
  have hsm := cmR_sm (hb.bt (e := e))
  obtain ⟨⟨k, l1, e1⟩, hz1⟩ : ∃ z, numF 3 (l, e) = z := ⟨_, rfl⟩
  have hk3 : k ≤ 3 := by have := numF_most (most := 3) (s := (l, e)); rw [hz1] at this; exact this
  have wk : IntKind.i64.wrap (k : Int) = (k : Int) := by rw [IntKind.wrap_i64]; omega
  have HZ1 := Lib.hid hz1
  have HSM := Lib.hid hsm
  clear hz1 hsm
  go_enter Try.func70, Try.ntmps70
  go_upto_region 2 with (first | (go_at_call 67; (with_reducible refine (mNumG3_ok g _ l e hb _ (H.pull (r := row 144 g _) pU) (by repeat (first | exact hML | apply List.Sublist.cons))).mono ?_); rintro e w1 ⟨v, rfl, hr⟩; obtain ⟨rfl, s1, hb1, H2⟩ := hr; clear H; have H := H2; clear H2; rw [HZ1.out] at hb1 H ⊢; simp only at hb1 H ⊢) | (with_reducible refine wpl rfl (dQ 7 rfl ?_); with_reducible refine (Stp.build (v := (.agg #[.int .i64 (k : Int), .int .u16 0, .int .u32 0, .int .u64 0, .int .u64 0, .slice none 0 0, .int .u64 0, .slice none 0 0, .slice none 0 0, .slice none 0 0])) 7 rfl rfl (fun W => by kernel_rfl) ?_); simp only [pS]) | (with_reducible refine wpl rfl (dQ 2 rfl ?_); with_reducible refine (Stp.alloc 2 rfl rfl zero36 H ?_); clear H; intro g2 w1 H; simp only [pS]; simp only [nC] at H) | (with_reducible refine wpl rfl (dQ 3 rfl ?_); with_reducible refine (Stp.alloc 3 rfl rfl zero36 H ?_); clear H; intro g3 w1 H; simp only [pS]; simp only [nC] at H) | (with_reducible refine wpl rfl (stQ (ty := 36) rfl ?_); first | (with_reducible refine (Stp.str rfl size36 rfl rfl (by first | rfl | (simp [Value.oneCell']; done) | assumption) H uP sZ sZ ?_); clear H; intro w1 H; simp only [pS]) | (with_reducible refine (Stp.stl rfl size36 rfl rfl rfl rfl H uP (by simp) ?_); clear H; intro w1 H; simp only [pS]; simp only [List.drop_succ_cons, List.drop_zero, List.take_succ_cons, List.take_zero, List.nil_append, List.cons_append, Nat.reduceAdd] at H)))
  by_cases h2 : k = 2
  · subst h2
    obtain ⟨⟨p, l2, e2⟩, hz2⟩ : ∃ z, pidF (l1, e1) = z := ⟨_, rfl⟩
    have HZ2 := Lib.hid hz2
    obtain ⟨⟨n, l3, e3⟩, hz3⟩ : ∃ z, numF 4611686018427387904 (l2, e2) = z := ⟨_, rfl⟩
    have HZ3 := Lib.hid hz3
    obtain ⟨⟨v, l4, e4⟩, hz4⟩ : ∃ z, numF 4611686018427387904 (l3, e3) = z := ⟨_, rfl⟩
    have HZ4 := Lib.hid hz4
    obtain ⟨⟨d, l5, e5⟩, hz5⟩ : ∃ z, bytesF 200 (l4, e4) = z := ⟨_, rfl⟩
    have HZ5 := Lib.hid hz5
    have HF1 := Lib.hid True.intro
    have HF2 := Lib.hid True.intro
    have k2 : ((2 : Nat) : Int) = 2 := rfl
    simp only [k2] at H
    clear hz2 hz3 hz4 hz5 wk k2 hk3
    go_upto_region 10 with (first | (go_at_call 94; (with_reducible refine (mPidA_ok g s1 l1 e1 hb1 _ (H.pull (r := row 144 g _) pU) (by repeat (first | exact hML | apply List.Sublist.cons))).mono ?_); rintro e w1 ⟨v, rfl, hr⟩; obtain ⟨rfl, s2, hb2, H2⟩ := hr; clear H; have H := H2; clear H2; rw [HZ2.out] at hb2 H ⊢; simp only at hb2 H ⊢) | (go_at_call 67; clear HF1; (with_reducible refine (mNumG4611686018427387904_ok g s2 l2 e2 hb2 _ (H.pull (r := row 144 g _) pU) (by repeat (first | exact hML | apply List.Sublist.cons))).mono ?_); rintro e w1 ⟨v, rfl, hr⟩; obtain ⟨rfl, s3, hb3, H2⟩ := hr; clear H; have H := H2; clear H2; rw [HZ3.out] at hb3 H ⊢; simp only at hb3 H ⊢) | (go_at_call 67; clear HF2; (with_reducible refine (mNumG4611686018427387904_ok g s3 l3 e3 hb3 _ (H.pull (r := row 144 g _) pU) (by repeat (first | exact hML | apply List.Sublist.cons))).mono ?_); rintro e w1 ⟨v, rfl, hr⟩; obtain ⟨rfl, s4, hb4, H2⟩ := hr; clear H; have H := H2; clear H2; rw [HZ4.out] at hb4 H ⊢; simp only at hb4 H ⊢) | (go_at_call 95; (with_reducible refine (mBytesA_ok g s4 l4 e4 hb4 _ (H.pull (r := row 144 g _) pU) (by repeat (first | exact hML | apply List.Sublist.cons))).mono ?_); rintro e w1 ⟨v, rfl, hr⟩; obtain ⟨s5, ab, cb, d2, e9, rfl, hz9, hb5, H2⟩ := hr; clear H; have H := H2; clear H2; rw [HZ5.out] at hz9 hb5; simp only at hz9 hb5; obtain ⟨hd9, he9⟩ := Prod.mk.inj hz9; have he9 := (Prod.mk.inj he9).2; rw [← hd9] at H ⊢; rw [← he9] at H; clear hz9 hd9 he9) | (with_reducible refine wpl rfl (ldQ (ty := 3) rfl ?_); first | (with_reducible refine (Stp.ldo rfl agg3 rfl H (by assumption) (by assumption) ?_); simp only [pS]) | (with_reducible refine (Stp.ldc rfl agg3 rfl H mR cE ?_); simp only [pS])) | (with_reducible refine wpl rfl (stQ (ty := 30) rfl ?_); first | (with_reducible refine (Stp.str rfl size30 rfl rfl (by first | rfl | (simp [Value.oneCell']; done) | assumption) H uP sZ sZ ?_); clear H; intro w1 H; simp only [pS]) | (with_reducible refine (Stp.stl rfl size30 rfl rfl rfl rfl H uP (by simp) ?_); clear H; intro w1 H; simp only [pS]; simp only [List.drop_succ_cons, List.drop_zero, List.take_succ_cons, List.take_zero, List.nil_append, List.cons_append, Nat.reduceAdd] at H)) | (with_reducible refine wpl rfl (stQ (ty := 26) rfl ?_); first | (with_reducible refine (Stp.stc rfl size26 rfl rfl rfl rfl H uP (by first | omega | (simp; done) | (simp; omega)) ?_); clear H; intro w1 H; simp only [pS]; simp only [pE, nC, pS] at H)) | (with_reducible refine wpl rfl (stQ (ty := 22) rfl ?_); first | (with_reducible refine (Stp.stc rfl size22 rfl rfl rfl rfl H uP (by first | omega | (simp; done) | (simp; omega)) ?_); clear H; intro w1 H; simp only [pS]; simp only [pE, nC, pS] at H)))
    have HR : Hid (cmR (l, e) = (⟨2, p, n, v, d, vw0⟩, (l5, e5))) := Lib.hid (by
      unfold cmR
      simp only
      rw [HZ1.out]
      simp only
      rw [if_pos trivial]
      rw [HZ2.out]
      simp only
      rw [HZ3.out]
      simp only
      rw [HZ4.out]
      simp only
      rw [HZ5.out])
    have HFV : Hid (cmF (l, e) = if (mayE (l5, e5) (decide (cErr (⟨2, p, n, v, d, vw0⟩ : Cm) = 0))).2 ≠ 0 then (cm0, mayE (l5, e5) (decide (cErr (⟨2, p, n, v, d, vw0⟩ : Cm) = 0))) else ((⟨2, p, n, v, d, vw0⟩ : Cm), mayE (l5, e5) (decide (cErr (⟨2, p, n, v, d, vw0⟩ : Cm) = 0)))) := Lib.hid (by unfold cmF; simp only; rw [HR.out])
    have hsm := HSM.out
    rw [HR.out] at hsm
    have HX1 := Lib.hid hsm.1
    have HX2 := Lib.hid hsm.2
    obtain ⟨Gc, H2⟩ := St.cmrOf (⟨2, p, n, v, d, vw0⟩ : Cm) ((vwr0 H).pull (r := slc 5 1 (.slice ab d.length cb) _ _) pU) rfl (Nat.le_trans HX1.out.data (by decide))
    clear H hsm HSM
    have H : St B w0 _ (cmr Gc (.slice ab d.length cb) (.slice none 0 0) (.slice none 0 0) (.slice none 0 0) ⟨2, p, n, v, d, vw0⟩ :: _) := H2
    clear H2
    by_cases he5 : e5 ≠ 0
    · have hei5 : ((e5 : Int) == 0) = false := by simp; omega
      have hei6 : ((e5 : Int) != 0) = true := by simp; omega
      have HF : Hid (cmF (l, e) = (cm0, (l5, e5))) := Lib.hid (by
        have hm : ∀ b, mayE (l5, e5) b = (l5, e5) := fun b => by unfold mayE; rw [if_neg (fun h => he5 h.1)]
        rw [HFV.out, hm, if_pos he5])
      clear he5
      go_wp2_with (first | (go_at_call 69; (with_reducible refine (rerr_ok _ _ _ _ (H.getHeap mE)).mono ?_); rintro e w1 ⟨v, rfl, hr⟩; obtain ⟨rfl, hb1⟩ := hr; replace H := H.grow hb1; clear hb1) | (with_reducible refine wpl rfl (dQ 42 rfl ?_); with_reducible refine (Stp.build (v := (.agg #[.int .i64 0, .int .u16 0, .int .u32 0, .int .u64 0, .int .u64 0, .slice none 0 0, .int .u64 0, .slice none 0 0, .slice none 0 0, .slice none 0 0])) 42 rfl rfl (fun W => by kernel_rfl) ?_); simp only [pS]) | (with_reducible refine wpl rfl (stQ (ty := 36) rfl ?_); first | (with_reducible refine (Stp.str rfl size36 rfl rfl (by first | rfl | (simp [Value.oneCell']; done) | assumption) H uP sZ sZ ?_); clear H; intro w1 H; simp only [pS]) | (with_reducible refine (Stp.stl rfl size36 rfl rfl rfl rfl H uP (by simp) ?_); clear H; intro w1 H; simp only [pS]; simp only [List.drop_succ_cons, List.drop_zero, List.take_succ_cons, List.take_zero, List.nil_append, List.cons_append, Nat.reduceAdd] at H)))
      refine post_row rfl agg36 size36 rfl H mE rfl rfl ⟨_, rfl, s5, l5, e5, cm0, none, none, none, none, 0, 0, 0, 0, (fun _ => False), rfl, HF, hb5, ?_⟩
      exact ((cmr0 H).pull (r := row 144 g _) pU).sub (L' := row 144 g #[s5, .int .i64 (e5 : Int)] :: cmr (fun _ => False) (.slice none 0 0) (.slice none 0 0) (.slice none 0 0) (.slice none 0 0) cm0 :: M) sU
    · obtain rfl : e5 = 0 := by omega
      have hei5 : (((0 : Nat) : Int) == 0) = true := by simp
      have hei6 : (((0 : Nat) : Int) != 0) = false := by simp
      obtain ⟨i, hc⟩ : ∃ i, cErr (⟨2, p, n, v, d, vw0⟩ : Cm) = i := ⟨_, rfl⟩
      have HC := Lib.hid hc
      clear hc
      by_cases hi0 : i = 0
      · subst hi0
        have HF : Hid (cmF (l, e) = (⟨2, p, n, v, d, vw0⟩, (l5, 0))) := Lib.hid (by
          rw [HFV.out, HC.out]
          unfold mayE
          simp)
        clear he5
        go_wp2_with (first | (go_at_call 69; (with_reducible refine (rerr_ok _ _ _ _ (H.getHeap mE)).mono ?_); rintro e w1 ⟨v, rfl, hr⟩; obtain ⟨rfl, hb1⟩ := hr; replace H := H.grow hb1; clear hb1) | (go_at_call 48; (with_reducible refine (ccheckL2_ok p n v d ab cb HX1.out HX2.out HC.out _ (H.cmE2 (G := Gc) mE)).mono ?_); rintro e w1 ⟨v, rfl, hr⟩; obtain ⟨rfl, hb1⟩ := hr; replace H := H.grow hb1; clear hb1) | (with_reducible refine wpl rfl (stQ (ty := 36) rfl ?_); first | (with_reducible refine (Stp.str rfl size36 rfl rfl (by first | rfl | (simp [Value.oneCell']; done) | assumption) H uP sZ sZ ?_); clear H; intro w1 H; simp only [pS]) | (with_reducible refine (Stp.stl rfl size36 rfl rfl rfl rfl H uP (by simp) ?_); clear H; intro w1 H; simp only [pS]; simp only [List.drop_succ_cons, List.drop_zero, List.take_succ_cons, List.take_zero, List.nil_append, List.cons_append, Nat.reduceAdd] at H)) | (with_reducible refine wpl rfl (ldQ (ty := 36) rfl ?_); first | (with_reducible refine (Stp.ldor rfl agg36 size36 rfl H (by assumption) sZ (by assumption) ?_); simp only [pS]) | (with_reducible refine (Stp.ldr rfl agg36 size36 rfl H mR sZ ?_); simp only [pS]) | (with_reducible refine (Stp.ldl rfl agg36 size36 rfl H mR (by simp) ?_); simp only [pS]; simp only [List.drop_succ_cons, List.drop_zero, List.take_succ_cons, List.take_zero])))
        refine post_row rfl agg36 size36 rfl H mE rfl rfl ⟨_, rfl, s5, l5, 0, ⟨2, p, n, v, d, vw0⟩, ab, none, none, none, cb, 0, 0, 0, Gc, rfl, HF, hb5, ?_⟩
        exact (show St B w0 _ (row 144 g #[s5, .int .i64 ((0 : Nat) : Int)] :: cmr Gc (.slice ab d.length cb) (.slice none 0 0) (.slice none 0 0) (.slice none 0 0) ⟨2, p, n, v, d, vw0⟩ :: M) from (((H.pull (r := cmr Gc _ _ _ _ _) pU).pull (r := row 144 g _) pU)).sub sU)
      · have HF : Hid (cmF (l, e) = (cm0, (l5, 5))) := Lib.hid (by
          rw [HFV.out]
          have h9 : decide (cErr (⟨2, p, n, v, d, vw0⟩ : Cm) = 0) = false := by rw [HC.out]; exact decide_eq_false hi0
          rw [h9]
          unfold mayE
          simp)
        have hii : (i != 0) = true := by simp [hi0]
        clear he5 hi0
        go_wp2_with (first | (go_at_call 69; (with_reducible refine (rerr_ok _ _ _ _ (H.getHeap mE)).mono ?_); rintro e w1 ⟨v, rfl, hr⟩; obtain ⟨rfl, hb1⟩ := hr; replace H := H.grow hb1; clear hb1) | (go_at_call 48; (with_reducible refine (ccheckL2_ok p n v d ab cb HX1.out HX2.out HC.out _ (H.cmE2 (G := Gc) mE)).mono ?_); rintro e w1 ⟨v, rfl, hr⟩; obtain ⟨rfl, hb1⟩ := hr; replace H := H.grow hb1; clear hb1) | (go_at_call 68; (with_reducible refine (rstop5_ok g _ 0 rfl _ (H.pull (r := row 144 g _) pU)).mono ?_); rintro e w1 ⟨v, rfl, hr⟩; obtain ⟨rfl, H2⟩ := hr; clear H; have H := H2; clear H2) | (with_reducible refine wpl rfl (dQ 42 rfl ?_); with_reducible refine (Stp.build (v := (.agg #[.int .i64 0, .int .u16 0, .int .u32 0, .int .u64 0, .int .u64 0, .slice none 0 0, .int .u64 0, .slice none 0 0, .slice none 0 0, .slice none 0 0])) 42 rfl rfl (fun W => by kernel_rfl) ?_); simp only [pS]) | (with_reducible refine wpl rfl (stQ (ty := 36) rfl ?_); first | (with_reducible refine (Stp.str rfl size36 rfl rfl (by first | rfl | (simp [Value.oneCell']; done) | assumption) H uP sZ sZ ?_); clear H; intro w1 H; simp only [pS]) | (with_reducible refine (Stp.stl rfl size36 rfl rfl rfl rfl H uP (by simp) ?_); clear H; intro w1 H; simp only [pS]; simp only [List.drop_succ_cons, List.drop_zero, List.take_succ_cons, List.take_zero, List.nil_append, List.cons_append, Nat.reduceAdd] at H)) | (with_reducible refine wpl rfl (ldQ (ty := 36) rfl ?_); first | (with_reducible refine (Stp.ldor rfl agg36 size36 rfl H (by assumption) sZ (by assumption) ?_); simp only [pS]) | (with_reducible refine (Stp.ldr rfl agg36 size36 rfl H mR sZ ?_); simp only [pS]) | (with_reducible refine (Stp.ldl rfl agg36 size36 rfl H mR (by simp) ?_); simp only [pS]; simp only [List.drop_succ_cons, List.drop_zero, List.take_succ_cons, List.take_zero])))
        refine post_row rfl agg36 size36 rfl H mE rfl rfl ⟨_, rfl, s5, l5, 5, cm0, none, none, none, none, 0, 0, 0, 0, (fun _ => False), rfl, HF, hb5, ?_⟩
        exact ((cmr0 H).pull (r := row 144 g _) pU).sub (L' := row 144 g #[s5, .int .i64 ((5 : Nat) : Int)] :: cmr (fun _ => False) (.slice none 0 0) (.slice none 0 0) (.slice none 0 0) (.slice none 0 0) cm0 :: M) sU
  · by_cases h3 : k = 3
    · subst h3
      have k3 : ((3 : Nat) : Int) = 3 := rfl
      simp only [k3] at H
      clear wk k3 hk3 h2
      go_upto_region 10 with (first | (go_at_call 96; (with_reducible refine (vgetL_ok g _ l1 e1 hb1 _ (H.pull (r := row 144 g _) pU) (by repeat (first | exact hML | apply List.Sublist.cons))).mono ?_); rintro e w1 ⟨v, rfl, hr⟩; obtain ⟨s5, l5, e5, x, ma, mc, la, lc, da, dc, Gx, rfl, HZ2, hb5, H2⟩ := hr; clear H; have H := H2; clear H2; simp only [vwC]) | (with_reducible refine wpl rfl (ldQ (ty := 3) rfl ?_); first | (with_reducible refine (Stp.ldo rfl agg3 rfl H (by assumption) (by assumption) ?_); simp only [pS]) | (with_reducible refine (Stp.ldc rfl agg3 rfl H mR cE ?_); simp only [pS])) | (with_reducible refine wpl rfl (stQ (ty := 34) rfl ?_); first | (with_reducible refine (Stp.str rfl size34 rfl rfl (by first | rfl | (simp [Value.oneCell']; done) | assumption) H uP sZ sZ ?_); clear H; intro w1 H; simp only [pS]) | (with_reducible refine (Stp.stl rfl size34 rfl rfl rfl rfl H uP (by simp) ?_); clear H; intro w1 H; simp only [pS]; simp only [List.drop_succ_cons, List.drop_zero, List.take_succ_cons, List.take_zero, List.nil_append, List.cons_append, Nat.reduceAdd] at H)))
      have HR : Hid (cmR (l, e) = (⟨3, (0, 0), 0, 0, [], x⟩, (l5, e5))) := Lib.hid (by
        unfold cmR
        simp only
        rw [HZ1.out]
        simp only
        rw [if_pos trivial]
        rw [HZ2.out]
        rw [if_neg (by decide)])
      have HFV : Hid (cmF (l, e) = if (mayE (l5, e5) (decide (cErr (⟨3, (0, 0), 0, 0, [], x⟩ : Cm) = 0))).2 ≠ 0 then (cm0, mayE (l5, e5) (decide (cErr (⟨3, (0, 0), 0, 0, [], x⟩ : Cm) = 0))) else ((⟨3, (0, 0), 0, 0, [], x⟩ : Cm), mayE (l5, e5) (decide (cErr (⟨3, (0, 0), 0, 0, [], x⟩ : Cm) = 0)))) := Lib.hid (by unfold cmF; simp only; rw [HR.out])
      have hsm := HSM.out
      rw [HR.out] at hsm
      have HX1 := Lib.hid hsm.1
      have HX2 := Lib.hid hsm.2
      obtain ⟨Gc, H2⟩ := St.cmrOf (⟨3, (0, 0), 0, 0, [], x⟩ : Cm) ((H.pull (r := vwr Gx _ _ _ _) pU).nil 5 1) rfl (by show (0 : Nat) ≤ 1000; omega)
      clear H hsm HSM
      have H : St B w0 _ (cmr Gc (.slice none 0 0) (.slice ma x.mem.length mc) (.slice la x.lvs.length lc) (.slice da x.ldr.length dc) ⟨3, (0, 0), 0, 0, [], x⟩ :: _) := H2
      clear H2
      by_cases he5 : e5 ≠ 0
      · have hei5 : ((e5 : Int) == 0) = false := by simp; omega
        have hei6 : ((e5 : Int) != 0) = true := by simp; omega
        have HF : Hid (cmF (l, e) = (cm0, (l5, e5))) := Lib.hid (by
          have hm : ∀ b, mayE (l5, e5) b = (l5, e5) := fun b => by unfold mayE; rw [if_neg (fun h => he5 h.1)]
          rw [HFV.out, hm, if_pos he5])
        clear he5
        go_wp2_with (first | (go_at_call 69; (with_reducible refine (rerr_ok _ _ _ _ (H.getHeap mE)).mono ?_); rintro e w1 ⟨v, rfl, hr⟩; obtain ⟨rfl, hb1⟩ := hr; replace H := H.grow hb1; clear hb1) | (with_reducible refine wpl rfl (dQ 42 rfl ?_); with_reducible refine (Stp.build (v := (.agg #[.int .i64 0, .int .u16 0, .int .u32 0, .int .u64 0, .int .u64 0, .slice none 0 0, .int .u64 0, .slice none 0 0, .slice none 0 0, .slice none 0 0])) 42 rfl rfl (fun W => by kernel_rfl) ?_); simp only [pS]) | (with_reducible refine wpl rfl (stQ (ty := 36) rfl ?_); first | (with_reducible refine (Stp.str rfl size36 rfl rfl (by first | rfl | (simp [Value.oneCell']; done) | assumption) H uP sZ sZ ?_); clear H; intro w1 H; simp only [pS]) | (with_reducible refine (Stp.stl rfl size36 rfl rfl rfl rfl H uP (by simp) ?_); clear H; intro w1 H; simp only [pS]; simp only [List.drop_succ_cons, List.drop_zero, List.take_succ_cons, List.take_zero, List.nil_append, List.cons_append, Nat.reduceAdd] at H)))
        refine post_row rfl agg36 size36 rfl H mE rfl rfl ⟨_, rfl, s5, l5, e5, cm0, none, none, none, none, 0, 0, 0, 0, (fun _ => False), rfl, HF, hb5, ?_⟩
        exact ((cmr0 H).pull (r := row 144 g _) pU).sub (L' := row 144 g #[s5, .int .i64 (e5 : Int)] :: cmr (fun _ => False) (.slice none 0 0) (.slice none 0 0) (.slice none 0 0) (.slice none 0 0) cm0 :: M) sU
      · obtain rfl : e5 = 0 := by omega
        have hei5 : (((0 : Nat) : Int) == 0) = true := by simp
        have hei6 : (((0 : Nat) : Int) != 0) = false := by simp
        obtain ⟨i, hc⟩ : ∃ i, cErr (⟨3, (0, 0), 0, 0, [], x⟩ : Cm) = i := ⟨_, rfl⟩
        have HC := Lib.hid hc
        clear hc
        by_cases hi0 : i = 0
        · subst hi0
          have HF : Hid (cmF (l, e) = (⟨3, (0, 0), 0, 0, [], x⟩, (l5, 0))) := Lib.hid (by
            rw [HFV.out, HC.out]
            unfold mayE
            simp)
          clear he5
          go_wp2_with (first | (go_at_call 69; (with_reducible refine (rerr_ok _ _ _ _ (H.getHeap mE)).mono ?_); rintro e w1 ⟨v, rfl, hr⟩; obtain ⟨rfl, hb1⟩ := hr; replace H := H.grow hb1; clear hb1) | (go_at_call 48; (with_reducible refine (ccheckL3_ok x ma la da mc lc dc HX1.out HX2.out HC.out _ (H.cmE2 (G := Gc) mE)).mono ?_); rintro e w1 ⟨v, rfl, hr⟩; obtain ⟨rfl, hb1⟩ := hr; replace H := H.grow hb1; clear hb1) | (with_reducible refine wpl rfl (stQ (ty := 36) rfl ?_); first | (with_reducible refine (Stp.str rfl size36 rfl rfl (by first | rfl | (simp [Value.oneCell']; done) | assumption) H uP sZ sZ ?_); clear H; intro w1 H; simp only [pS]) | (with_reducible refine (Stp.stl rfl size36 rfl rfl rfl rfl H uP (by simp) ?_); clear H; intro w1 H; simp only [pS]; simp only [List.drop_succ_cons, List.drop_zero, List.take_succ_cons, List.take_zero, List.nil_append, List.cons_append, Nat.reduceAdd] at H)) | (with_reducible refine wpl rfl (ldQ (ty := 36) rfl ?_); first | (with_reducible refine (Stp.ldor rfl agg36 size36 rfl H (by assumption) sZ (by assumption) ?_); simp only [pS]) | (with_reducible refine (Stp.ldr rfl agg36 size36 rfl H mR sZ ?_); simp only [pS]) | (with_reducible refine (Stp.ldl rfl agg36 size36 rfl H mR (by simp) ?_); simp only [pS]; simp only [List.drop_succ_cons, List.drop_zero, List.take_succ_cons, List.take_zero])))
          refine post_row rfl agg36 size36 rfl H mE rfl rfl ⟨_, rfl, s5, l5, 0, ⟨3, (0, 0), 0, 0, [], x⟩, none, ma, la, da, 0, mc, lc, dc, Gc, rfl, HF, hb5, ?_⟩
          exact (show St B w0 _ (row 144 g #[s5, .int .i64 ((0 : Nat) : Int)] :: cmr Gc (.slice none 0 0) (.slice ma x.mem.length mc) (.slice la x.lvs.length lc) (.slice da x.ldr.length dc) ⟨3, (0, 0), 0, 0, [], x⟩ :: M) from (((H.pull (r := cmr Gc _ _ _ _ _) pU).pull (r := row 144 g _) pU)).sub sU)
        · have HF : Hid (cmF (l, e) = (cm0, (l5, 5))) := Lib.hid (by
            rw [HFV.out]
            have h9 : decide (cErr (⟨3, (0, 0), 0, 0, [], x⟩ : Cm) = 0) = false := by rw [HC.out]; exact decide_eq_false hi0
            rw [h9]
            unfold mayE
            simp)
          have hii : (i != 0) = true := by simp [hi0]
          clear he5 hi0
          go_wp2_with (first | (go_at_call 69; (with_reducible refine (rerr_ok _ _ _ _ (H.getHeap mE)).mono ?_); rintro e w1 ⟨v, rfl, hr⟩; obtain ⟨rfl, hb1⟩ := hr; replace H := H.grow hb1; clear hb1) | (go_at_call 48; (with_reducible refine (ccheckL3_ok x ma la da mc lc dc HX1.out HX2.out HC.out _ (H.cmE2 (G := Gc) mE)).mono ?_); rintro e w1 ⟨v, rfl, hr⟩; obtain ⟨rfl, hb1⟩ := hr; replace H := H.grow hb1; clear hb1) | (go_at_call 68; (with_reducible refine (rstop5_ok g _ 0 rfl _ (H.pull (r := row 144 g _) pU)).mono ?_); rintro e w1 ⟨v, rfl, hr⟩; obtain ⟨rfl, H2⟩ := hr; clear H; have H := H2; clear H2) | (with_reducible refine wpl rfl (dQ 42 rfl ?_); with_reducible refine (Stp.build (v := (.agg #[.int .i64 0, .int .u16 0, .int .u32 0, .int .u64 0, .int .u64 0, .slice none 0 0, .int .u64 0, .slice none 0 0, .slice none 0 0, .slice none 0 0])) 42 rfl rfl (fun W => by kernel_rfl) ?_); simp only [pS]) | (with_reducible refine wpl rfl (stQ (ty := 36) rfl ?_); first | (with_reducible refine (Stp.str rfl size36 rfl rfl (by first | rfl | (simp [Value.oneCell']; done) | assumption) H uP sZ sZ ?_); clear H; intro w1 H; simp only [pS]) | (with_reducible refine (Stp.stl rfl size36 rfl rfl rfl rfl H uP (by simp) ?_); clear H; intro w1 H; simp only [pS]; simp only [List.drop_succ_cons, List.drop_zero, List.take_succ_cons, List.take_zero, List.nil_append, List.cons_append, Nat.reduceAdd] at H)) | (with_reducible refine wpl rfl (ldQ (ty := 36) rfl ?_); first | (with_reducible refine (Stp.ldor rfl agg36 size36 rfl H (by assumption) sZ (by assumption) ?_); simp only [pS]) | (with_reducible refine (Stp.ldr rfl agg36 size36 rfl H mR sZ ?_); simp only [pS]) | (with_reducible refine (Stp.ldl rfl agg36 size36 rfl H mR (by simp) ?_); simp only [pS]; simp only [List.drop_succ_cons, List.drop_zero, List.take_succ_cons, List.take_zero])))
          refine post_row rfl agg36 size36 rfl H mE rfl rfl ⟨_, rfl, s5, l5, 5, cm0, none, none, none, none, 0, 0, 0, 0, (fun _ => False), rfl, HF, hb5, ?_⟩
          exact ((cmr0 H).pull (r := row 144 g _) pU).sub (L' := row 144 g #[s5, .int .i64 ((5 : Nat) : Int)] :: cmr (fun _ => False) (.slice none 0 0) (.slice none 0 0) (.slice none 0 0) (.slice none 0 0) cm0 :: M) sU
    · have hk2i : ((k : Int) == 2) = false := by simp; omega
      have hk3i : ((k : Int) == 3) = false := by simp; omega
      obtain ⟨s5, l5, e5, hb5, rfl, rfl, rfl⟩ : ∃ s5 l5 e5, Byt B w0 L s5 l5 ∧ s5 = s1 ∧ l5 = l1 ∧ e5 = e1 := ⟨s1, l1, e1, hb1, rfl, rfl, rfl⟩
      replace h2 := Lib.hid h2
      replace h3 := Lib.hid h3
      clear wk hk3
      go_upto_region 10 with (first | (with_reducible refine wpl rfl (ldQ (ty := 3) rfl ?_); first | (with_reducible refine (Stp.ldo rfl agg3 rfl H (by assumption) (by assumption) ?_); simp only [pS]) | (with_reducible refine (Stp.ldc rfl agg3 rfl H mR cE ?_); simp only [pS])))
      have HR : Hid (cmR (l, e) = (⟨(k : Int), (0, 0), 0, 0, [], vw0⟩, (l5, e5))) := Lib.hid (by
        unfold cmR
        simp only
        rw [HZ1.out]
        simp only
        rw [if_neg h2.out, if_neg h3.out])
      have HFV : Hid (cmF (l, e) = if (mayE (l5, e5) (decide (cErr (⟨(k : Int), (0, 0), 0, 0, [], vw0⟩ : Cm) = 0))).2 ≠ 0 then (cm0, mayE (l5, e5) (decide (cErr (⟨(k : Int), (0, 0), 0, 0, [], vw0⟩ : Cm) = 0))) else ((⟨(k : Int), (0, 0), 0, 0, [], vw0⟩ : Cm), mayE (l5, e5) (decide (cErr (⟨(k : Int), (0, 0), 0, 0, [], vw0⟩ : Cm) = 0)))) := Lib.hid (by unfold cmF; simp only; rw [HR.out])
      have hsm := HSM.out
      rw [HR.out] at hsm
      have HX1 := Lib.hid hsm.1
      have HX2 := Lib.hid hsm.2
      obtain ⟨Gc, H2⟩ := St.cmrOf (⟨(k : Int), (0, 0), 0, 0, [], vw0⟩ : Cm) ((vwr0 H).nil 5 1) rfl (by show (0 : Nat) ≤ 1000; omega)
      clear H hsm HSM
      have H : St B w0 _ (cmr Gc (.slice none 0 0) (.slice none 0 0) (.slice none 0 0) (.slice none 0 0) ⟨(k : Int), (0, 0), 0, 0, [], vw0⟩ :: _) := H2
      clear H2
      by_cases he5 : e5 ≠ 0
      · have hei5 : ((e5 : Int) == 0) = false := by simp; omega
        have hei6 : ((e5 : Int) != 0) = true := by simp; omega
        have HF : Hid (cmF (l, e) = (cm0, (l5, e5))) := Lib.hid (by
          have hm : ∀ b, mayE (l5, e5) b = (l5, e5) := fun b => by unfold mayE; rw [if_neg (fun h => he5 h.1)]
          rw [HFV.out, hm, if_pos he5])
        clear he5
        go_wp2_with (first | (go_at_call 69; (with_reducible refine (rerr_ok _ _ _ _ (H.getHeap mE)).mono ?_); rintro e w1 ⟨v, rfl, hr⟩; obtain ⟨rfl, hb1⟩ := hr; replace H := H.grow hb1; clear hb1) | (with_reducible refine wpl rfl (dQ 42 rfl ?_); with_reducible refine (Stp.build (v := (.agg #[.int .i64 0, .int .u16 0, .int .u32 0, .int .u64 0, .int .u64 0, .slice none 0 0, .int .u64 0, .slice none 0 0, .slice none 0 0, .slice none 0 0])) 42 rfl rfl (fun W => by kernel_rfl) ?_); simp only [pS]) | (with_reducible refine wpl rfl (stQ (ty := 36) rfl ?_); first | (with_reducible refine (Stp.str rfl size36 rfl rfl (by first | rfl | (simp [Value.oneCell']; done) | assumption) H uP sZ sZ ?_); clear H; intro w1 H; simp only [pS]) | (with_reducible refine (Stp.stl rfl size36 rfl rfl rfl rfl H uP (by simp) ?_); clear H; intro w1 H; simp only [pS]; simp only [List.drop_succ_cons, List.drop_zero, List.take_succ_cons, List.take_zero, List.nil_append, List.cons_append, Nat.reduceAdd] at H)))
        refine post_row rfl agg36 size36 rfl H mE rfl rfl ⟨_, rfl, s5, l5, e5, cm0, none, none, none, none, 0, 0, 0, 0, (fun _ => False), rfl, HF, hb5, ?_⟩
        exact ((cmr0 H).pull (r := row 144 g _) pU).sub (L' := row 144 g #[s5, .int .i64 (e5 : Int)] :: cmr (fun _ => False) (.slice none 0 0) (.slice none 0 0) (.slice none 0 0) (.slice none 0 0) cm0 :: M) sU
      · obtain rfl : e5 = 0 := by omega
        have hei5 : (((0 : Nat) : Int) == 0) = true := by simp
        have hei6 : (((0 : Nat) : Int) != 0) = false := by simp
        obtain ⟨i, hc⟩ : ∃ i, cErr (⟨(k : Int), (0, 0), 0, 0, [], vw0⟩ : Cm) = i := ⟨_, rfl⟩
        have HC := Lib.hid hc
        clear hc
        by_cases hi0 : i = 0
        · subst hi0
          have HF : Hid (cmF (l, e) = (⟨(k : Int), (0, 0), 0, 0, [], vw0⟩, (l5, 0))) := Lib.hid (by
            rw [HFV.out, HC.out]
            unfold mayE
            simp)
          clear he5
          go_wp2_with (first | (go_at_call 69; (with_reducible refine (rerr_ok _ _ _ _ (H.getHeap mE)).mono ?_); rintro e w1 ⟨v, rfl, hr⟩; obtain ⟨rfl, hb1⟩ := hr; replace H := H.grow hb1; clear hb1) | (go_at_call 48; (with_reducible refine (ccheckL1_ok k HX1.out HX2.out HC.out _ (H.cmE2 (G := Gc) mE)).mono ?_); rintro e w1 ⟨v, rfl, hr⟩; obtain ⟨rfl, hb1⟩ := hr; replace H := H.grow hb1; clear hb1) | (with_reducible refine wpl rfl (stQ (ty := 36) rfl ?_); first | (with_reducible refine (Stp.str rfl size36 rfl rfl (by first | rfl | (simp [Value.oneCell']; done) | assumption) H uP sZ sZ ?_); clear H; intro w1 H; simp only [pS]) | (with_reducible refine (Stp.stl rfl size36 rfl rfl rfl rfl H uP (by simp) ?_); clear H; intro w1 H; simp only [pS]; simp only [List.drop_succ_cons, List.drop_zero, List.take_succ_cons, List.take_zero, List.nil_append, List.cons_append, Nat.reduceAdd] at H)) | (with_reducible refine wpl rfl (ldQ (ty := 36) rfl ?_); first | (with_reducible refine (Stp.ldor rfl agg36 size36 rfl H (by assumption) sZ (by assumption) ?_); simp only [pS]) | (with_reducible refine (Stp.ldr rfl agg36 size36 rfl H mR sZ ?_); simp only [pS]) | (with_reducible refine (Stp.ldl rfl agg36 size36 rfl H mR (by simp) ?_); simp only [pS]; simp only [List.drop_succ_cons, List.drop_zero, List.take_succ_cons, List.take_zero])))
          refine post_row rfl agg36 size36 rfl H mE rfl rfl ⟨_, rfl, s5, l5, 0, ⟨(k : Int), (0, 0), 0, 0, [], vw0⟩, none, none, none, none, 0, 0, 0, 0, Gc, rfl, HF, hb5, ?_⟩
          exact (show St B w0 _ (row 144 g #[s5, .int .i64 ((0 : Nat) : Int)] :: cmr Gc (.slice none 0 0) (.slice none 0 0) (.slice none 0 0) (.slice none 0 0) ⟨(k : Int), (0, 0), 0, 0, [], vw0⟩ :: M) from (((H.pull (r := cmr Gc _ _ _ _ _) pU).pull (r := row 144 g _) pU)).sub sU)
        · have HF : Hid (cmF (l, e) = (cm0, (l5, 5))) := Lib.hid (by
            rw [HFV.out]
            have h9 : decide (cErr (⟨(k : Int), (0, 0), 0, 0, [], vw0⟩ : Cm) = 0) = false := by rw [HC.out]; exact decide_eq_false hi0
            rw [h9]
            unfold mayE
            simp)
          have hii : (i != 0) = true := by simp [hi0]
          clear he5 hi0
          go_wp2_with (first | (go_at_call 69; (with_reducible refine (rerr_ok _ _ _ _ (H.getHeap mE)).mono ?_); rintro e w1 ⟨v, rfl, hr⟩; obtain ⟨rfl, hb1⟩ := hr; replace H := H.grow hb1; clear hb1) | (go_at_call 48; (with_reducible refine (ccheckL1_ok k HX1.out HX2.out HC.out _ (H.cmE2 (G := Gc) mE)).mono ?_); rintro e w1 ⟨v, rfl, hr⟩; obtain ⟨rfl, hb1⟩ := hr; replace H := H.grow hb1; clear hb1) | (go_at_call 68; (with_reducible refine (rstop5_ok g _ 0 rfl _ (H.pull (r := row 144 g _) pU)).mono ?_); rintro e w1 ⟨v, rfl, hr⟩; obtain ⟨rfl, H2⟩ := hr; clear H; have H := H2; clear H2) | (with_reducible refine wpl rfl (dQ 42 rfl ?_); with_reducible refine (Stp.build (v := (.agg #[.int .i64 0, .int .u16 0, .int .u32 0, .int .u64 0, .int .u64 0, .slice none 0 0, .int .u64 0, .slice none 0 0, .slice none 0 0, .slice none 0 0])) 42 rfl rfl (fun W => by kernel_rfl) ?_); simp only [pS]) | (with_reducible refine wpl rfl (stQ (ty := 36) rfl ?_); first | (with_reducible refine (Stp.str rfl size36 rfl rfl (by first | rfl | (simp [Value.oneCell']; done) | assumption) H uP sZ sZ ?_); clear H; intro w1 H; simp only [pS]) | (with_reducible refine (Stp.stl rfl size36 rfl rfl rfl rfl H uP (by simp) ?_); clear H; intro w1 H; simp only [pS]; simp only [List.drop_succ_cons, List.drop_zero, List.take_succ_cons, List.take_zero, List.nil_append, List.cons_append, Nat.reduceAdd] at H)) | (with_reducible refine wpl rfl (ldQ (ty := 36) rfl ?_); first | (with_reducible refine (Stp.ldor rfl agg36 size36 rfl H (by assumption) sZ (by assumption) ?_); simp only [pS]) | (with_reducible refine (Stp.ldr rfl agg36 size36 rfl H mR sZ ?_); simp only [pS]) | (with_reducible refine (Stp.ldl rfl agg36 size36 rfl H mR (by simp) ?_); simp only [pS]; simp only [List.drop_succ_cons, List.drop_zero, List.take_succ_cons, List.take_zero])))
          refine post_row rfl agg36 size36 rfl H mE rfl rfl ⟨_, rfl, s5, l5, 5, cm0, none, none, none, none, 0, 0, 0, 0, (fun _ => False), rfl, HF, hb5, ?_⟩
          exact ((cmr0 H).pull (r := row 144 g _) pU).sub (L' := row 144 g #[s5, .int .i64 ((5 : Nat) : Int)] :: cmr (fun _ => False) (.slice none 0 0) (.slice none 0 0) (.slice none 0 0) (.slice none 0 0) cm0 :: M) sU
end Go.Proofs.Ytmokecicjmjkbaa
