/- The contract of the reference's Get of a command (choragusref09) on any bytes; the bounds stand in it. More of what is read as a ledger: one command more, none; how great they are; no condition. My logic of owned memory: a slice of the call's own that begins anywhere in its row: read, cut ahead, appended to; no condition. -/
import Derived.Test.YtmokecicjmjkbaaGz2
import Derived.Test.YtmokecicjmjkbaaGz3
import Derived.Test.YtmokecicjmjkbaaGz15
import Derived.Test.YtmokecicjmjkbaaGz17
import Derived.Test.YtmokecicjmjkbaaGz19
import Derived.Test.YtmokecicjmjkbaaGz20
namespace Go.Proofs.Ytmokecicjmjkbaa
open Go.ChangeShapes Go.WideShapes Go.ChangeAt Go.RowKit Go.Deep
set_option linter.unusedVariables false
set_option linter.unusedSimpArgs false
set_option linter.unusedSectionVars false
set_option maxRecDepth 100000
set_option maxHeartbeats 4000000
theorem rvgetL_ok {B : Nat} {w0 : World} {L M : List Res} (g : Nat) (s : Value) (l : List Nat) (e : Nat) (hb : Byt B w0 L s l) (w : World) (H : St B w0 w (row 129 g #[s, .int .i64 (e : Int)] :: M)) (hML : L.Sublist M) :
    Calls Try.prog 100 #[.pointer (some ⟨g, 0, none⟩)] w (Ret fun v w' => ∃ s' l' e' x ma mc la lc da dc G, v = .agg (vwC x ma la da mc lc dc) ∧ Hid (vwF (l, e) = (x, (l', e'))) ∧ Byt B w0 L s' l' ∧ St B w0 w' (row 129 g #[s', .int .i64 (e' : Int)] :: vwr G (.slice ma x.mem.length mc) (.slice la x.lvs.length lc) (.slice da x.ldr.length dc) x :: M)) := rvget_ok g s l e hb hML w H
theorem rrPidA_ok {B : Nat} {w0 : World} {L M : List Res} (g : Nat) (s : Value) (l : List Nat) (e : Nat) (hb : Byt B w0 L s l) (w : World) (H : St B w0 w (row 129 g #[s, .int .i64 (e : Int)] :: M)) (hML : L.Sublist M) :
    Calls Try.prog 98 #[.pointer (some ⟨g, 0, none⟩)] w (Ret fun v w' => v = .agg #[.int .u16 ((pidF (l, e)).1.1 : Int), .int .u32 ((pidF (l, e)).1.2 : Int)] ∧ ∃ s', Byt B w0 L s' (pidF (l, e)).2.1 ∧ St B w0 w' (row 129 g #[s', .int .i64 ((pidF (l, e)).2.2 : Int)] :: M)) := rrPid_ok g s l e hb hML w H
theorem rrBytesA_ok {B : Nat} {w0 : World} {L M : List Res} (g : Nat) (s : Value) (l : List Nat) (e : Nat) (hb : Byt B w0 L s l) (w : World) (H : St B w0 w (row 129 g #[s, .int .i64 (e : Int)] :: M)) (hML : L.Sublist M) :
    Calls Try.prog 99 #[.pointer (some ⟨g, 0, none⟩), .int .i64 200] w (Ret fun v w' => ∃ s' ab cb d e', v = .slice ab d.length cb ∧ bytesF 200 (l, e) = (d, ((bytesF 200 (l, e)).2.1, e')) ∧ Byt B w0 L s' (bytesF 200 (l, e)).2.1 ∧ St B w0 w' (row 129 g #[s', .int .i64 (e' : Int)] :: slc 5 1 (.slice ab d.length cb) d.length (bv d) :: M)) := rrBytes_ok g s l e 200 hb (by omega) hML w H
theorem rccheckL1_ok {G1 : Nat → Prop} (k : Nat) {i : Int} (hm : smC ⟨(k : Int), (0, 0), 0, 0, [], vw0⟩) (hc : cErr ⟨(k : Int), (0, 0), 0, 0, [], vw0⟩ = i) (w : World) (hx : CmG G1 w (.slice none 0 0) (.slice none 0 0) (.slice none 0 0) (.slice none 0 0) ⟨(k : Int), (0, 0), 0, 0, [], vw0⟩) :
    Calls Try.prog 23 #[.agg #[.int .i64 (k : Int), .int .u16 0, .int .u32 0, .int .u64 0, .int .u64 0, .slice none 0 0, .int .u64 0, .slice none 0 0, .slice none 0 0, .slice none 0 0]] w (Ret fun v w' => v = .int .i64 i ∧ Below w.heap.size w w') := by
  subst hc
  exact rccheck_is ⟨(k : Int), (0, 0), 0, 0, [], vw0⟩ none none none none 0 0 0 0 hm.v w _ rfl hx
theorem rccheckL2_ok {G1 : Nat → Prop} (p : Pr) (n v : Nat) (d : List Nat) (ab : Option Addr) (cb : Nat) {i : Int} (hm : smC ⟨2, p, n, v, d, vw0⟩) (hc : cErr ⟨2, p, n, v, d, vw0⟩ = i) (w : World) (hx : CmG G1 w (.slice ab d.length cb) (.slice none 0 0) (.slice none 0 0) (.slice none 0 0) ⟨2, p, n, v, d, vw0⟩) :
    Calls Try.prog 23 #[.agg #[.int .i64 2, .int .u16 (p.1 : Int), .int .u32 (p.2 : Int), .int .u64 (n : Int), .int .u64 (v : Int), .slice ab d.length cb, .int .u64 0, .slice none 0 0, .slice none 0 0, .slice none 0 0]] w (Ret fun v w' => v = .int .i64 i ∧ Below w.heap.size w w') := by
  subst hc
  exact rccheck_is ⟨2, p, n, v, d, vw0⟩ ab none none none cb 0 0 0 hm.v w _ rfl hx
theorem rccheckL3_ok {G1 : Nat → Prop} (x : Vw) (ma la da : Option Addr) (mc lc dc : Nat) {i : Int} (hm : smC ⟨3, (0, 0), 0, 0, [], x⟩) (hc : cErr ⟨3, (0, 0), 0, 0, [], x⟩ = i) (w : World) (hx : CmG G1 w (.slice none 0 0) (.slice ma x.mem.length mc) (.slice la x.lvs.length lc) (.slice da x.ldr.length dc) ⟨3, (0, 0), 0, 0, [], x⟩) :
    Calls Try.prog 23 #[.agg #[.int .i64 3, .int .u16 0, .int .u32 0, .int .u64 0, .int .u64 0, .slice none 0 0, .int .u64 (x.id : Int), .slice ma x.mem.length mc, .slice la x.lvs.length lc, .slice da x.ldr.length dc]] w (Ret fun v w' => v = .int .i64 i ∧ Below w.heap.size w w') := by
  subst hc
  exact rccheck_is ⟨3, (0, 0), 0, 0, [], x⟩ none ma la da 0 mc lc dc hm.v w _ rfl hx
attribute [local irreducible] cErr vErr vOk numF pidsF plcF lvsL bytesF pidF vwF
theorem rcget_ok {B : Nat} {w0 : World} {L M : List Res} (g : Nat) (s : Value) (l : List Nat) (e : Nat) (hb : Byt B w0 L s l) (hML : L.Sublist M) (w : World) (H : St B w0 w (row 129 g #[s, .int .i64 (e : Int)] :: M)) :
    Calls Try.prog 73 #[.pointer (some ⟨g, 0, none⟩)] w (Ret fun v w' => ∃ s' l' e' c ba ma la da bc mc lc dc G, v = .agg (cmC c ba ma la da bc mc lc dc) ∧ Hid (cmF (l, e) = (c, (l', e'))) ∧ Byt B w0 L s' l' ∧ St B w0 w' (row 129 g #[s', .int .i64 (e' : Int)] :: cmr G (.slice ba c.data.length bc) (.slice ma c.v.mem.length mc) (.slice la c.v.lvs.length lc) (.slice da c.v.ldr.length dc) c :: M)) := by
  have hsm := cmR_sm (hb.bt (e := e))
  obtain ⟨⟨k, l1, e1⟩, hz1⟩ : ∃ z, numF 3 (l, e) = z := ⟨_, rfl⟩
  have hk3 : k ≤ 3 := by have := numF_most (most := 3) (s := (l, e)); rw [hz1] at this; exact this
  have wk : IntKind.i64.wrap (k : Int) = (k : Int) := by rw [IntKind.wrap_i64]; omega
  have HZ1 := Lib.hid hz1
  have HSM := Lib.hid hsm
  clear hz1 hsm
  go_enter Try.func73, Try.ntmps73
  go_upto_region 2 with (first | (go_at_call 72; (with_reducible refine (rrNum3_ok g _ l e hb _ (H.pull (r := row 129 g _) pU) (by repeat (first | exact hML | apply List.Sublist.cons))).mono ?_); rintro e w1 ⟨v, rfl, hr⟩; obtain ⟨rfl, s1, hb1, H2⟩ := hr; clear H; have H := H2; clear H2; rw [HZ1.out] at hb1 H ⊢; simp only at hb1 H ⊢) | (with_reducible refine wpl rfl (dQ 7 rfl ?_); with_reducible refine (Stp.build (v := (.agg #[.int .i64 (k : Int), .int .u16 0, .int .u32 0, .int .u64 0, .int .u64 0, .slice none 0 0, .int .u64 0, .slice none 0 0, .slice none 0 0, .slice none 0 0])) 7 rfl rfl (fun W => by kernel_rfl) ?_); simp only [pS]) | (with_reducible refine wpl rfl (dQ 2 rfl ?_); with_reducible refine (Stp.alloc 2 rfl rfl zero36 H ?_); clear H; intro g2 w1 H; simp only [pS]; simp only [nC] at H) | (with_reducible refine wpl rfl (dQ 3 rfl ?_); with_reducible refine (Stp.alloc 3 rfl rfl zero36 H ?_); clear H; intro g3 w1 H; simp only [pS]; simp only [nC] at H) | (with_reducible refine wpl rfl (stQ (ty := 36) rfl ?_); first | (with_reducible refine (Stp.str rfl size36 rfl rfl (by first | rfl | (simp [Value.oneCell']; done) | assumption) H uP sZ sZ ?_); clear H; intro w1 H; simp only [pS]) | (with_reducible refine (Stp.stl rfl size36 rfl rfl rfl rfl H uP (by simp) ?_); clear H; intro w1 H; simp only [pS]; simp only [List.drop_succ_cons, List.drop_zero, List.take_succ_cons, List.take_zero, List.nil_append, List.cons_append, Nat.reduceAdd] at H)))
  by_cases h2 : k = 2
  · subst h2
    obtain ⟨⟨p, l2, e2⟩, hz2⟩ : ∃ z, pidF (l1, e1) = z := ⟨_, rfl⟩
    have HZ2 := Lib.hid hz2
    obtain ⟨⟨n, l3, e3⟩, hz3⟩ : ∃ z, numF 4611686018427387904 (l2, e2) = z := ⟨_, rfl⟩
    have HZ3 := Lib.hid hz3
    obtain ⟨⟨v, l4, e4⟩, hz4⟩ : ∃ z, numF 4611686018427387904 (l3, e3) = z := ⟨_, rfl⟩
    have HZ4 := Lib.hid hz4
    obtain ⟨⟨d, l5, e5⟩, hz5⟩ : ∃ z, bytesF 200 (l4, e4) = z := ⟨_, rfl⟩
    have HZ5 := Lib.hid hz5
    have HF1 := Lib.hid True.intro
    have HF2 := Lib.hid True.intro
    have k2 : ((2 : Nat) : Int) = 2 := rfl
    simp only [k2] at H
    clear hz2 hz3 hz4 hz5 wk k2 hk3
    go_upto_region 9 with (first | (go_at_call 98; (with_reducible refine (rrPidA_ok g s1 l1 e1 hb1 _ (H.pull (r := row 129 g _) pU) (by repeat (first | exact hML | apply List.Sublist.cons))).mono ?_); rintro e w1 ⟨v, rfl, hr⟩; obtain ⟨rfl, s2, hb2, H2⟩ := hr; clear H; have H := H2; clear H2; rw [HZ2.out] at hb2 H ⊢; simp only at hb2 H ⊢) | (go_at_call 72; clear HF1; (with_reducible refine (rrNum4611686018427387904_ok g s2 l2 e2 hb2 _ (H.pull (r := row 129 g _) pU) (by repeat (first | exact hML | apply List.Sublist.cons))).mono ?_); rintro e w1 ⟨v, rfl, hr⟩; obtain ⟨rfl, s3, hb3, H2⟩ := hr; clear H; have H := H2; clear H2; rw [HZ3.out] at hb3 H ⊢; simp only at hb3 H ⊢) | (go_at_call 72; clear HF2; (with_reducible refine (rrNum4611686018427387904_ok g s3 l3 e3 hb3 _ (H.pull (r := row 129 g _) pU) (by repeat (first | exact hML | apply List.Sublist.cons))).mono ?_); rintro e w1 ⟨v, rfl, hr⟩; obtain ⟨rfl, s4, hb4, H2⟩ := hr; clear H; have H := H2; clear H2; rw [HZ4.out] at hb4 H ⊢; simp only at hb4 H ⊢) | (go_at_call 99; (with_reducible refine (rrBytesA_ok g s4 l4 e4 hb4 _ (H.pull (r := row 129 g _) pU) (by repeat (first | exact hML | apply List.Sublist.cons))).mono ?_); rintro e w1 ⟨v, rfl, hr⟩; obtain ⟨s5, ab, cb, d2, e9, rfl, hz9, hb5, H2⟩ := hr; clear H; have H := H2; clear H2; rw [HZ5.out] at hz9 hb5; simp only at hz9 hb5; obtain ⟨hd9, he9⟩ := Prod.mk.inj hz9; have he9 := (Prod.mk.inj he9).2; rw [← hd9] at H ⊢; rw [← he9] at H; clear hz9 hd9 he9) | (with_reducible refine wpl rfl (ldQ (ty := 3) rfl ?_); first | (with_reducible refine (Stp.ldo rfl agg3 rfl H (by assumption) (by assumption) ?_); simp only [pS]) | (with_reducible refine (Stp.ldc rfl agg3 rfl H mR cE ?_); simp only [pS])) | (with_reducible refine wpl rfl (stQ (ty := 30) rfl ?_); first | (with_reducible refine (Stp.str rfl size30 rfl rfl (by first | rfl | (simp [Value.oneCell']; done) | assumption) H uP sZ sZ ?_); clear H; intro w1 H; simp only [pS]) | (with_reducible refine (Stp.stl rfl size30 rfl rfl rfl rfl H uP (by simp) ?_); clear H; intro w1 H; simp only [pS]; simp only [List.drop_succ_cons, List.drop_zero, List.take_succ_cons, List.take_zero, List.nil_append, List.cons_append, Nat.reduceAdd] at H)) | (with_reducible refine wpl rfl (stQ (ty := 26) rfl ?_); first | (with_reducible refine (Stp.stc rfl size26 rfl rfl rfl rfl H uP (by first | omega | (simp; done) | (simp; omega)) ?_); clear H; intro w1 H; simp only [pS]; simp only [pE, nC, pS] at H)) | (with_reducible refine wpl rfl (stQ (ty := 22) rfl ?_); first | (with_reducible refine (Stp.stc rfl size22 rfl rfl rfl rfl H uP (by first | omega | (simp; done) | (simp; omega)) ?_); clear H; intro w1 H; simp only [pS]; simp only [pE, nC, pS] at H)))
    have HR : Hid (cmR (l, e) = (⟨2, p, n, v, d, vw0⟩, (l5, e5))) := Lib.hid (by
      unfold cmR
      simp only
      rw [HZ1.out]
      simp only
      rw [if_pos trivial]
      rw [HZ2.out]
      simp only
      rw [HZ3.out]
      simp only
      rw [HZ4.out]
      simp only
      rw [HZ5.out])
    have HFV : Hid (cmF (l, e) = if (mayE (l5, e5) (decide (cErr (⟨2, p, n, v, d, vw0⟩ : Cm) = 0))).2 ≠ 0 then (cm0, mayE (l5, e5) (decide (cErr (⟨2, p, n, v, d, vw0⟩ : Cm) = 0))) else ((⟨2, p, n, v, d, vw0⟩ : Cm), mayE (l5, e5) (decide (cErr (⟨2, p, n, v, d, vw0⟩ : Cm) = 0)))) := Lib.hid (by unfold cmF; simp only; rw [HR.out])
    have hsm := HSM.out
    rw [HR.out] at hsm
    have HX1 := Lib.hid hsm.1
    have HX2 := Lib.hid hsm.2
    obtain ⟨Gc, H2⟩ := St.cmrOf (⟨2, p, n, v, d, vw0⟩ : Cm) ((vwr0 H).pull (r := slc 5 1 (.slice ab d.length cb) _ _) pU) rfl (Nat.le_trans HX1.out.data (by decide))
    clear H hsm HSM
    have H : St B w0 _ (cmr Gc (.slice ab d.length cb) (.slice none 0 0) (.slice none 0 0) (.slice none 0 0) ⟨2, p, n, v, d, vw0⟩ :: _) := H2
    clear H2
    by_cases he5 : e5 ≠ 0
    · have hei5 : ((e5 : Int) == 0) = false := by simp; omega
      have hei6 : ((e5 : Int) != 0) = true := by simp; omega
      have HF : Hid (cmF (l, e) = (cm0, (l5, e5))) := Lib.hid (by
        have hm : ∀ b, mayE (l5, e5) b = (l5, e5) := fun b => by unfold mayE; rw [if_neg (fun h => he5 h.1)]
        rw [HFV.out, hm, if_pos he5])
      clear he5
      go_wp2_with (first | (with_reducible refine wpl rfl (dQ 47 rfl ?_); with_reducible refine (Stp.build (v := (.agg #[.int .i64 0, .int .u16 0, .int .u32 0, .int .u64 0, .int .u64 0, .slice none 0 0, .int .u64 0, .slice none 0 0, .slice none 0 0, .slice none 0 0])) 47 rfl rfl (fun W => by kernel_rfl) ?_); simp only [pS]) | (with_reducible refine wpl rfl (stQ (ty := 36) rfl ?_); first | (with_reducible refine (Stp.str rfl size36 rfl rfl (by first | rfl | (simp [Value.oneCell']; done) | assumption) H uP sZ sZ ?_); clear H; intro w1 H; simp only [pS]) | (with_reducible refine (Stp.stl rfl size36 rfl rfl rfl rfl H uP (by simp) ?_); clear H; intro w1 H; simp only [pS]; simp only [List.drop_succ_cons, List.drop_zero, List.take_succ_cons, List.take_zero, List.nil_append, List.cons_append, Nat.reduceAdd] at H)) | (with_reducible refine wpl rfl (ldQ (ty := 3) rfl ?_); first | (with_reducible refine (Stp.ldo rfl agg3 rfl H (by assumption) (by assumption) ?_); simp only [pS]) | (with_reducible refine (Stp.ldc rfl agg3 rfl H mR cE ?_); simp only [pS])))
      refine post_row rfl agg36 size36 rfl H mE rfl rfl ?_
      first | refine ⟨_, rfl, s5, l5, e5, (cm0 : Cm), none, none, none, none, 0, 0, 0, 0, (fun _ => False), rfl, HF, hb5, ?_⟩ | refine ⟨_, rfl, s5, l5, e5, (cm0 : Cm), none, none, none, none, 0, 0, 0, 0, rfl, HF, hb5, (fun _ => False), ?_⟩
      exact ((cmr0 H).pull (r := row 129 g _) pU).sub (L' := row 129 g #[s5, .int .i64 (e5 : Int)] :: cmr (fun _ => False) (.slice none 0 0) (.slice none 0 0) (.slice none 0 0) (.slice none 0 0) cm0 :: M) sU
    · obtain rfl : e5 = 0 := by omega
      have hei5 : (((0 : Nat) : Int) == 0) = true := by simp
      have hei6 : (((0 : Nat) : Int) != 0) = false := by simp
      obtain ⟨i, hc⟩ : ∃ i, cErr (⟨2, p, n, v, d, vw0⟩ : Cm) = i := ⟨_, rfl⟩
      have HC := Lib.hid hc
      clear hc
      by_cases hi0 : i = 0
      · subst hi0
        have HF : Hid (cmF (l, e) = (⟨2, p, n, v, d, vw0⟩, (l5, 0))) := Lib.hid (by
          rw [HFV.out, HC.out]
          unfold mayE
          simp)
        clear he5
        go_wp2_with (first | (go_at_call 23; (with_reducible refine (rccheckL2_ok p n v d ab cb HX1.out HC.out _ (H.cmE2 (G := Gc) mE)).mono ?_); rintro e w1 ⟨v, rfl, hr⟩; obtain ⟨rfl, hb1⟩ := hr; replace H := H.grow hb1; clear hb1) | (with_reducible refine wpl rfl (stQ (ty := 36) rfl ?_); first | (with_reducible refine (Stp.str rfl size36 rfl rfl (by first | rfl | (simp [Value.oneCell']; done) | assumption) H uP sZ sZ ?_); clear H; intro w1 H; simp only [pS]) | (with_reducible refine (Stp.stl rfl size36 rfl rfl rfl rfl H uP (by simp) ?_); clear H; intro w1 H; simp only [pS]; simp only [List.drop_succ_cons, List.drop_zero, List.take_succ_cons, List.take_zero, List.nil_append, List.cons_append, Nat.reduceAdd] at H)) | (with_reducible refine wpl rfl (ldQ (ty := 3) rfl ?_); first | (with_reducible refine (Stp.ldo rfl agg3 rfl H (by assumption) (by assumption) ?_); simp only [pS]) | (with_reducible refine (Stp.ldc rfl agg3 rfl H mR cE ?_); simp only [pS])) | (with_reducible refine wpl rfl (ldQ (ty := 36) rfl ?_); first | (with_reducible refine (Stp.ldor rfl agg36 size36 rfl H (by assumption) sZ (by assumption) ?_); simp only [pS]) | (with_reducible refine (Stp.ldr rfl agg36 size36 rfl H mR sZ ?_); simp only [pS]) | (with_reducible refine (Stp.ldl rfl agg36 size36 rfl H mR (by simp) ?_); simp only [pS]; simp only [List.drop_succ_cons, List.drop_zero, List.take_succ_cons, List.take_zero])))
        refine post_row rfl agg36 size36 rfl H mE rfl rfl ?_
        first | refine ⟨_, rfl, s5, l5, 0, (⟨2, p, n, v, d, vw0⟩ : Cm), ab, none, none, none, cb, 0, 0, 0, Gc, rfl, HF, hb5, ?_⟩ | refine ⟨_, rfl, s5, l5, 0, (⟨2, p, n, v, d, vw0⟩ : Cm), ab, none, none, none, cb, 0, 0, 0, rfl, HF, hb5, Gc, ?_⟩
        exact (show St B w0 _ (row 129 g #[s5, .int .i64 ((0 : Nat) : Int)] :: cmr Gc (.slice ab d.length cb) (.slice none 0 0) (.slice none 0 0) (.slice none 0 0) ⟨2, p, n, v, d, vw0⟩ :: M) from (((H.pull (r := cmr Gc _ _ _ _ _) pU).pull (r := row 129 g _) pU)).sub sU)
      · have HF : Hid (cmF (l, e) = (cm0, (l5, 5))) := Lib.hid (by
          rw [HFV.out]
          have h9 : decide (cErr (⟨2, p, n, v, d, vw0⟩ : Cm) = 0) = false := by rw [HC.out]; exact decide_eq_false hi0
          rw [h9]
          unfold mayE
          simp)
        have hii : (i != 0) = true := by simp [hi0]
        clear he5 hi0
        go_wp2_with (first | (go_at_call 23; (with_reducible refine (rccheckL2_ok p n v d ab cb HX1.out HC.out _ (H.cmE2 (G := Gc) mE)).mono ?_); rintro e w1 ⟨v, rfl, hr⟩; obtain ⟨rfl, hb1⟩ := hr; replace H := H.grow hb1; clear hb1) | (with_reducible refine wpl rfl (dQ 47 rfl ?_); with_reducible refine (Stp.build (v := (.agg #[.int .i64 0, .int .u16 0, .int .u32 0, .int .u64 0, .int .u64 0, .slice none 0 0, .int .u64 0, .slice none 0 0, .slice none 0 0, .slice none 0 0])) 47 rfl rfl (fun W => by kernel_rfl) ?_); simp only [pS]) | (with_reducible refine wpl rfl (stQ (ty := 36) rfl ?_); first | (with_reducible refine (Stp.str rfl size36 rfl rfl (by first | rfl | (simp [Value.oneCell']; done) | assumption) H uP sZ sZ ?_); clear H; intro w1 H; simp only [pS]) | (with_reducible refine (Stp.stl rfl size36 rfl rfl rfl rfl H uP (by simp) ?_); clear H; intro w1 H; simp only [pS]; simp only [List.drop_succ_cons, List.drop_zero, List.take_succ_cons, List.take_zero, List.nil_append, List.cons_append, Nat.reduceAdd] at H)) | (with_reducible refine wpl rfl (ldQ (ty := 3) rfl ?_); first | (with_reducible refine (Stp.ldo rfl agg3 rfl H (by assumption) (by assumption) ?_); simp only [pS]) | (with_reducible refine (Stp.ldc rfl agg3 rfl H mR cE ?_); simp only [pS])) | (with_reducible refine wpl rfl (ldQ (ty := 36) rfl ?_); first | (with_reducible refine (Stp.ldor rfl agg36 size36 rfl H (by assumption) sZ (by assumption) ?_); simp only [pS]) | (with_reducible refine (Stp.ldr rfl agg36 size36 rfl H mR sZ ?_); simp only [pS]) | (with_reducible refine (Stp.ldl rfl agg36 size36 rfl H mR (by simp) ?_); simp only [pS]; simp only [List.drop_succ_cons, List.drop_zero, List.take_succ_cons, List.take_zero])) | (with_reducible refine wpl rfl (stQ (ty := 3) rfl ?_); first | (with_reducible refine (Stp.stc rfl size3 rfl rfl rfl rfl H uP (by first | omega | (simp; done) | (simp; omega)) ?_); clear H; intro w1 H; simp only [pS]; simp only [pE, nC, pS] at H)))
        refine post_row rfl agg36 size36 rfl H mE rfl rfl ?_
        first | refine ⟨_, rfl, s5, l5, 5, (cm0 : Cm), none, none, none, none, 0, 0, 0, 0, (fun _ => False), rfl, HF, hb5, ?_⟩ | refine ⟨_, rfl, s5, l5, 5, (cm0 : Cm), none, none, none, none, 0, 0, 0, 0, rfl, HF, hb5, (fun _ => False), ?_⟩
        exact ((cmr0 H).pull (r := row 129 g _) pU).sub (L' := row 129 g #[s5, .int .i64 (5 : Int)] :: cmr (fun _ => False) (.slice none 0 0) (.slice none 0 0) (.slice none 0 0) (.slice none 0 0) cm0 :: M) sU
  · by_cases h3 : k = 3
    · subst h3
      have k3 : ((3 : Nat) : Int) = 3 := rfl
      simp only [k3] at H
      clear wk k3 hk3 h2
      go_upto_region 9 with (first | (go_at_call 100; (with_reducible refine (rvgetL_ok g _ l1 e1 hb1 _ (H.pull (r := row 129 g _) pU) (by repeat (first | exact hML | apply List.Sublist.cons))).mono ?_); rintro e w1 ⟨v, rfl, hr⟩; obtain ⟨s5, l5, e5, x, ma, mc, la, lc, da, dc, Gx, rfl, HZ2, hb5, H2⟩ := hr; clear H; have H := H2; clear H2; simp only [vwC]) | (with_reducible refine wpl rfl (ldQ (ty := 3) rfl ?_); first | (with_reducible refine (Stp.ldo rfl agg3 rfl H (by assumption) (by assumption) ?_); simp only [pS]) | (with_reducible refine (Stp.ldc rfl agg3 rfl H mR cE ?_); simp only [pS])) | (with_reducible refine wpl rfl (stQ (ty := 34) rfl ?_); first | (with_reducible refine (Stp.str rfl size34 rfl rfl (by first | rfl | (simp [Value.oneCell']; done) | assumption) H uP sZ sZ ?_); clear H; intro w1 H; simp only [pS]) | (with_reducible refine (Stp.stl rfl size34 rfl rfl rfl rfl H uP (by simp) ?_); clear H; intro w1 H; simp only [pS]; simp only [List.drop_succ_cons, List.drop_zero, List.take_succ_cons, List.take_zero, List.nil_append, List.cons_append, Nat.reduceAdd] at H)))
      have HR : Hid (cmR (l, e) = (⟨3, (0, 0), 0, 0, [], x⟩, (l5, e5))) := Lib.hid (by
        unfold cmR
        simp only
        rw [HZ1.out]
        simp only
        rw [if_pos trivial]
        rw [HZ2.out]
        rw [if_neg (by decide)])
      have HFV : Hid (cmF (l, e) = if (mayE (l5, e5) (decide (cErr (⟨3, (0, 0), 0, 0, [], x⟩ : Cm) = 0))).2 ≠ 0 then (cm0, mayE (l5, e5) (decide (cErr (⟨3, (0, 0), 0, 0, [], x⟩ : Cm) = 0))) else ((⟨3, (0, 0), 0, 0, [], x⟩ : Cm), mayE (l5, e5) (decide (cErr (⟨3, (0, 0), 0, 0, [], x⟩ : Cm) = 0)))) := Lib.hid (by unfold cmF; simp only; rw [HR.out])
      have hsm := HSM.out
      rw [HR.out] at hsm
      have HX1 := Lib.hid hsm.1
      have HX2 := Lib.hid hsm.2
      obtain ⟨Gc, H2⟩ := St.cmrOf (⟨3, (0, 0), 0, 0, [], x⟩ : Cm) ((H.pull (r := vwr Gx _ _ _ _) pU).nil 5 1) rfl (by show (0 : Nat) ≤ 1000; omega)
      clear H hsm HSM
      have H : St B w0 _ (cmr Gc (.slice none 0 0) (.slice ma x.mem.length mc) (.slice la x.lvs.length lc) (.slice da x.ldr.length dc) ⟨3, (0, 0), 0, 0, [], x⟩ :: _) := H2
      clear H2
      by_cases he5 : e5 ≠ 0
      · have hei5 : ((e5 : Int) == 0) = false := by simp; omega
        have hei6 : ((e5 : Int) != 0) = true := by simp; omega
        have HF : Hid (cmF (l, e) = (cm0, (l5, e5))) := Lib.hid (by
          have hm : ∀ b, mayE (l5, e5) b = (l5, e5) := fun b => by unfold mayE; rw [if_neg (fun h => he5 h.1)]
          rw [HFV.out, hm, if_pos he5])
        clear he5
        go_wp2_with (first | (with_reducible refine wpl rfl (dQ 47 rfl ?_); with_reducible refine (Stp.build (v := (.agg #[.int .i64 0, .int .u16 0, .int .u32 0, .int .u64 0, .int .u64 0, .slice none 0 0, .int .u64 0, .slice none 0 0, .slice none 0 0, .slice none 0 0])) 47 rfl rfl (fun W => by kernel_rfl) ?_); simp only [pS]) | (with_reducible refine wpl rfl (stQ (ty := 36) rfl ?_); first | (with_reducible refine (Stp.str rfl size36 rfl rfl (by first | rfl | (simp [Value.oneCell']; done) | assumption) H uP sZ sZ ?_); clear H; intro w1 H; simp only [pS]) | (with_reducible refine (Stp.stl rfl size36 rfl rfl rfl rfl H uP (by simp) ?_); clear H; intro w1 H; simp only [pS]; simp only [List.drop_succ_cons, List.drop_zero, List.take_succ_cons, List.take_zero, List.nil_append, List.cons_append, Nat.reduceAdd] at H)) | (with_reducible refine wpl rfl (ldQ (ty := 3) rfl ?_); first | (with_reducible refine (Stp.ldo rfl agg3 rfl H (by assumption) (by assumption) ?_); simp only [pS]) | (with_reducible refine (Stp.ldc rfl agg3 rfl H mR cE ?_); simp only [pS])))
        refine post_row rfl agg36 size36 rfl H mE rfl rfl ?_
        first | refine ⟨_, rfl, s5, l5, e5, (cm0 : Cm), none, none, none, none, 0, 0, 0, 0, (fun _ => False), rfl, HF, hb5, ?_⟩ | refine ⟨_, rfl, s5, l5, e5, (cm0 : Cm), none, none, none, none, 0, 0, 0, 0, rfl, HF, hb5, (fun _ => False), ?_⟩
        exact ((cmr0 H).pull (r := row 129 g _) pU).sub (L' := row 129 g #[s5, .int .i64 (e5 : Int)] :: cmr (fun _ => False) (.slice none 0 0) (.slice none 0 0) (.slice none 0 0) (.slice none 0 0) cm0 :: M) sU
      · obtain rfl : e5 = 0 := by omega
        have hei5 : (((0 : Nat) : Int) == 0) = true := by simp
        have hei6 : (((0 : Nat) : Int) != 0) = false := by simp
        obtain ⟨i, hc⟩ : ∃ i, cErr (⟨3, (0, 0), 0, 0, [], x⟩ : Cm) = i := ⟨_, rfl⟩
        have HC := Lib.hid hc
        clear hc
        by_cases hi0 : i = 0
        · subst hi0
          have HF : Hid (cmF (l, e) = (⟨3, (0, 0), 0, 0, [], x⟩, (l5, 0))) := Lib.hid (by
            rw [HFV.out, HC.out]
            unfold mayE
            simp)
          clear he5
          go_wp2_with (first | (go_at_call 23; (with_reducible refine (rccheckL3_ok x ma la da mc lc dc HX1.out HC.out _ (H.cmE2 (G := Gc) mE)).mono ?_); rintro e w1 ⟨v, rfl, hr⟩; obtain ⟨rfl, hb1⟩ := hr; replace H := H.grow hb1; clear hb1) | (with_reducible refine wpl rfl (stQ (ty := 36) rfl ?_); first | (with_reducible refine (Stp.str rfl size36 rfl rfl (by first | rfl | (simp [Value.oneCell']; done) | assumption) H uP sZ sZ ?_); clear H; intro w1 H; simp only [pS]) | (with_reducible refine (Stp.stl rfl size36 rfl rfl rfl rfl H uP (by simp) ?_); clear H; intro w1 H; simp only [pS]; simp only [List.drop_succ_cons, List.drop_zero, List.take_succ_cons, List.take_zero, List.nil_append, List.cons_append, Nat.reduceAdd] at H)) | (with_reducible refine wpl rfl (ldQ (ty := 3) rfl ?_); first | (with_reducible refine (Stp.ldo rfl agg3 rfl H (by assumption) (by assumption) ?_); simp only [pS]) | (with_reducible refine (Stp.ldc rfl agg3 rfl H mR cE ?_); simp only [pS])) | (with_reducible refine wpl rfl (ldQ (ty := 36) rfl ?_); first | (with_reducible refine (Stp.ldor rfl agg36 size36 rfl H (by assumption) sZ (by assumption) ?_); simp only [pS]) | (with_reducible refine (Stp.ldr rfl agg36 size36 rfl H mR sZ ?_); simp only [pS]) | (with_reducible refine (Stp.ldl rfl agg36 size36 rfl H mR (by simp) ?_); simp only [pS]; simp only [List.drop_succ_cons, List.drop_zero, List.take_succ_cons, List.take_zero])))
          refine post_row rfl agg36 size36 rfl H mE rfl rfl ?_
          first | refine ⟨_, rfl, s5, l5, 0, (⟨3, (0, 0), 0, 0, [], x⟩ : Cm), none, ma, la, da, 0, mc, lc, dc, Gc, rfl, HF, hb5, ?_⟩ | refine ⟨_, rfl, s5, l5, 0, (⟨3, (0, 0), 0, 0, [], x⟩ : Cm), none, ma, la, da, 0, mc, lc, dc, rfl, HF, hb5, Gc, ?_⟩
          exact (show St B w0 _ (row 129 g #[s5, .int .i64 ((0 : Nat) : Int)] :: cmr Gc (.slice none 0 0) (.slice ma x.mem.length mc) (.slice la x.lvs.length lc) (.slice da x.ldr.length dc) ⟨3, (0, 0), 0, 0, [], x⟩ :: M) from (((H.pull (r := cmr Gc _ _ _ _ _) pU).pull (r := row 129 g _) pU)).sub sU)
        · have HF : Hid (cmF (l, e) = (cm0, (l5, 5))) := Lib.hid (by
            rw [HFV.out]
            have h9 : decide (cErr (⟨3, (0, 0), 0, 0, [], x⟩ : Cm) = 0) = false := by rw [HC.out]; exact decide_eq_false hi0
            rw [h9]
            unfold mayE
            simp)
          have hii : (i != 0) = true := by simp [hi0]
          clear he5 hi0
          go_wp2_with (first | (go_at_call 23; (with_reducible refine (rccheckL3_ok x ma la da mc lc dc HX1.out HC.out _ (H.cmE2 (G := Gc) mE)).mono ?_); rintro e w1 ⟨v, rfl, hr⟩; obtain ⟨rfl, hb1⟩ := hr; replace H := H.grow hb1; clear hb1) | (with_reducible refine wpl rfl (dQ 47 rfl ?_); with_reducible refine (Stp.build (v := (.agg #[.int .i64 0, .int .u16 0, .int .u32 0, .int .u64 0, .int .u64 0, .slice none 0 0, .int .u64 0, .slice none 0 0, .slice none 0 0, .slice none 0 0])) 47 rfl rfl (fun W => by kernel_rfl) ?_); simp only [pS]) | (with_reducible refine wpl rfl (stQ (ty := 36) rfl ?_); first | (with_reducible refine (Stp.str rfl size36 rfl rfl (by first | rfl | (simp [Value.oneCell']; done) | assumption) H uP sZ sZ ?_); clear H; intro w1 H; simp only [pS]) | (with_reducible refine (Stp.stl rfl size36 rfl rfl rfl rfl H uP (by simp) ?_); clear H; intro w1 H; simp only [pS]; simp only [List.drop_succ_cons, List.drop_zero, List.take_succ_cons, List.take_zero, List.nil_append, List.cons_append, Nat.reduceAdd] at H)) | (with_reducible refine wpl rfl (ldQ (ty := 3) rfl ?_); first | (with_reducible refine (Stp.ldo rfl agg3 rfl H (by assumption) (by assumption) ?_); simp only [pS]) | (with_reducible refine (Stp.ldc rfl agg3 rfl H mR cE ?_); simp only [pS])) | (with_reducible refine wpl rfl (ldQ (ty := 36) rfl ?_); first | (with_reducible refine (Stp.ldor rfl agg36 size36 rfl H (by assumption) sZ (by assumption) ?_); simp only [pS]) | (with_reducible refine (Stp.ldr rfl agg36 size36 rfl H mR sZ ?_); simp only [pS]) | (with_reducible refine (Stp.ldl rfl agg36 size36 rfl H mR (by simp) ?_); simp only [pS]; simp only [List.drop_succ_cons, List.drop_zero, List.take_succ_cons, List.take_zero])) | (with_reducible refine wpl rfl (stQ (ty := 3) rfl ?_); first | (with_reducible refine (Stp.stc rfl size3 rfl rfl rfl rfl H uP (by first | omega | (simp; done) | (simp; omega)) ?_); clear H; intro w1 H; simp only [pS]; simp only [pE, nC, pS] at H)))
          refine post_row rfl agg36 size36 rfl H mE rfl rfl ?_
          first | refine ⟨_, rfl, s5, l5, 5, (cm0 : Cm), none, none, none, none, 0, 0, 0, 0, (fun _ => False), rfl, HF, hb5, ?_⟩ | refine ⟨_, rfl, s5, l5, 5, (cm0 : Cm), none, none, none, none, 0, 0, 0, 0, rfl, HF, hb5, (fun _ => False), ?_⟩
          exact ((cmr0 H).pull (r := row 129 g _) pU).sub (L' := row 129 g #[s5, .int .i64 (5 : Int)] :: cmr (fun _ => False) (.slice none 0 0) (.slice none 0 0) (.slice none 0 0) (.slice none 0 0) cm0 :: M) sU
    · have hk2i : ((k : Int) == 2) = false := by simp; omega
      have hk3i : ((k : Int) == 3) = false := by simp; omega
      obtain ⟨s5, l5, e5, hb5, rfl, rfl, rfl⟩ : ∃ s5 l5 e5, Byt B w0 L s5 l5 ∧ s5 = s1 ∧ l5 = l1 ∧ e5 = e1 := ⟨s1, l1, e1, hb1, rfl, rfl, rfl⟩
      replace h2 := Lib.hid h2
      replace h3 := Lib.hid h3
      clear wk hk3
      go_upto_region 9 with (first | (with_reducible refine wpl rfl (ldQ (ty := 3) rfl ?_); first | (with_reducible refine (Stp.ldo rfl agg3 rfl H (by assumption) (by assumption) ?_); simp only [pS]) | (with_reducible refine (Stp.ldc rfl agg3 rfl H mR cE ?_); simp only [pS])))
      have HR : Hid (cmR (l, e) = (⟨(k : Int), (0, 0), 0, 0, [], vw0⟩, (l5, e5))) := Lib.hid (by
        unfold cmR
        simp only
        rw [HZ1.out]
        simp only
        rw [if_neg h2.out, if_neg h3.out])
      have HFV : Hid (cmF (l, e) = if (mayE (l5, e5) (decide (cErr (⟨(k : Int), (0, 0), 0, 0, [], vw0⟩ : Cm) = 0))).2 ≠ 0 then (cm0, mayE (l5, e5) (decide (cErr (⟨(k : Int), (0, 0), 0, 0, [], vw0⟩ : Cm) = 0))) else ((⟨(k : Int), (0, 0), 0, 0, [], vw0⟩ : Cm), mayE (l5, e5) (decide (cErr (⟨(k : Int), (0, 0), 0, 0, [], vw0⟩ : Cm) = 0)))) := Lib.hid (by unfold cmF; simp only; rw [HR.out])
      have hsm := HSM.out
      rw [HR.out] at hsm
      have HX1 := Lib.hid hsm.1
      have HX2 := Lib.hid hsm.2
      obtain ⟨Gc, H2⟩ := St.cmrOf (⟨(k : Int), (0, 0), 0, 0, [], vw0⟩ : Cm) ((vwr0 H).nil 5 1) rfl (by show (0 : Nat) ≤ 1000; omega)
      clear H hsm HSM
      have H : St B w0 _ (cmr Gc (.slice none 0 0) (.slice none 0 0) (.slice none 0 0) (.slice none 0 0) ⟨(k : Int), (0, 0), 0, 0, [], vw0⟩ :: _) := H2
      clear H2
      by_cases he5 : e5 ≠ 0
      · have hei5 : ((e5 : Int) == 0) = false := by simp; omega
        have hei6 : ((e5 : Int) != 0) = true := by simp; omega
        have HF : Hid (cmF (l, e) = (cm0, (l5, e5))) := Lib.hid (by
          have hm : ∀ b, mayE (l5, e5) b = (l5, e5) := fun b => by unfold mayE; rw [if_neg (fun h => he5 h.1)]
          rw [HFV.out, hm, if_pos he5])
        clear he5
        go_wp2_with (first | (with_reducible refine wpl rfl (dQ 47 rfl ?_); with_reducible refine (Stp.build (v := (.agg #[.int .i64 0, .int .u16 0, .int .u32 0, .int .u64 0, .int .u64 0, .slice none 0 0, .int .u64 0, .slice none 0 0, .slice none 0 0, .slice none 0 0])) 47 rfl rfl (fun W => by kernel_rfl) ?_); simp only [pS]) | (with_reducible refine wpl rfl (stQ (ty := 36) rfl ?_); first | (with_reducible refine (Stp.str rfl size36 rfl rfl (by first | rfl | (simp [Value.oneCell']; done) | assumption) H uP sZ sZ ?_); clear H; intro w1 H; simp only [pS]) | (with_reducible refine (Stp.stl rfl size36 rfl rfl rfl rfl H uP (by simp) ?_); clear H; intro w1 H; simp only [pS]; simp only [List.drop_succ_cons, List.drop_zero, List.take_succ_cons, List.take_zero, List.nil_append, List.cons_append, Nat.reduceAdd] at H)) | (with_reducible refine wpl rfl (ldQ (ty := 3) rfl ?_); first | (with_reducible refine (Stp.ldo rfl agg3 rfl H (by assumption) (by assumption) ?_); simp only [pS]) | (with_reducible refine (Stp.ldc rfl agg3 rfl H mR cE ?_); simp only [pS])))
        refine post_row rfl agg36 size36 rfl H mE rfl rfl ?_
        first | refine ⟨_, rfl, s5, l5, e5, (cm0 : Cm), none, none, none, none, 0, 0, 0, 0, (fun _ => False), rfl, HF, hb5, ?_⟩ | refine ⟨_, rfl, s5, l5, e5, (cm0 : Cm), none, none, none, none, 0, 0, 0, 0, rfl, HF, hb5, (fun _ => False), ?_⟩
        exact ((cmr0 H).pull (r := row 129 g _) pU).sub (L' := row 129 g #[s5, .int .i64 (e5 : Int)] :: cmr (fun _ => False) (.slice none 0 0) (.slice none 0 0) (.slice none 0 0) (.slice none 0 0) cm0 :: M) sU
      · obtain rfl : e5 = 0 := by omega
        have hei5 : (((0 : Nat) : Int) == 0) = true := by simp
        have hei6 : (((0 : Nat) : Int) != 0) = false := by simp
        obtain ⟨i, hc⟩ : ∃ i, cErr (⟨(k : Int), (0, 0), 0, 0, [], vw0⟩ : Cm) = i := ⟨_, rfl⟩
        have HC := Lib.hid hc
        clear hc
        by_cases hi0 : i = 0
        · subst hi0
          have HF : Hid (cmF (l, e) = (⟨(k : Int), (0, 0), 0, 0, [], vw0⟩, (l5, 0))) := Lib.hid (by
            rw [HFV.out, HC.out]
            unfold mayE
            simp)
          clear he5
          go_wp2_with (first | (go_at_call 23; (with_reducible refine (rccheckL1_ok k HX1.out HC.out _ (H.cmE2 (G := Gc) mE)).mono ?_); rintro e w1 ⟨v, rfl, hr⟩; obtain ⟨rfl, hb1⟩ := hr; replace H := H.grow hb1; clear hb1) | (with_reducible refine wpl rfl (stQ (ty := 36) rfl ?_); first | (with_reducible refine (Stp.str rfl size36 rfl rfl (by first | rfl | (simp [Value.oneCell']; done) | assumption) H uP sZ sZ ?_); clear H; intro w1 H; simp only [pS]) | (with_reducible refine (Stp.stl rfl size36 rfl rfl rfl rfl H uP (by simp) ?_); clear H; intro w1 H; simp only [pS]; simp only [List.drop_succ_cons, List.drop_zero, List.take_succ_cons, List.take_zero, List.nil_append, List.cons_append, Nat.reduceAdd] at H)) | (with_reducible refine wpl rfl (ldQ (ty := 3) rfl ?_); first | (with_reducible refine (Stp.ldo rfl agg3 rfl H (by assumption) (by assumption) ?_); simp only [pS]) | (with_reducible refine (Stp.ldc rfl agg3 rfl H mR cE ?_); simp only [pS])) | (with_reducible refine wpl rfl (ldQ (ty := 36) rfl ?_); first | (with_reducible refine (Stp.ldor rfl agg36 size36 rfl H (by assumption) sZ (by assumption) ?_); simp only [pS]) | (with_reducible refine (Stp.ldr rfl agg36 size36 rfl H mR sZ ?_); simp only [pS]) | (with_reducible refine (Stp.ldl rfl agg36 size36 rfl H mR (by simp) ?_); simp only [pS]; simp only [List.drop_succ_cons, List.drop_zero, List.take_succ_cons, List.take_zero])))
          refine post_row rfl agg36 size36 rfl H mE rfl rfl ?_
          first | refine ⟨_, rfl, s5, l5, 0, (⟨(k : Int), (0, 0), 0, 0, [], vw0⟩ : Cm), none, none, none, none, 0, 0, 0, 0, Gc, rfl, HF, hb5, ?_⟩ | refine ⟨_, rfl, s5, l5, 0, (⟨(k : Int), (0, 0), 0, 0, [], vw0⟩ : Cm), none, none, none, none, 0, 0, 0, 0, rfl, HF, hb5, Gc, ?_⟩
          exact (show St B w0 _ (row 129 g #[s5, .int .i64 ((0 : Nat) : Int)] :: cmr Gc (.slice none 0 0) (.slice none 0 0) (.slice none 0 0) (.slice none 0 0) ⟨(k : Int), (0, 0), 0, 0, [], vw0⟩ :: M) from (((H.pull (r := cmr Gc _ _ _ _ _) pU).pull (r := row 129 g _) pU)).sub sU)
        · have HF : Hid (cmF (l, e) = (cm0, (l5, 5))) := Lib.hid (by
            rw [HFV.out]
            have h9 : decide (cErr (⟨(k : Int), (0, 0), 0, 0, [], vw0⟩ : Cm) = 0) = false := by rw [HC.out]; exact decide_eq_false hi0
            rw [h9]
            unfold mayE
            simp)
          have hii : (i != 0) = true := by simp [hi0]
          clear he5 hi0
          go_wp2_with (first | (go_at_call 23; (with_reducible refine (rccheckL1_ok k HX1.out HC.out _ (H.cmE2 (G := Gc) mE)).mono ?_); rintro e w1 ⟨v, rfl, hr⟩; obtain ⟨rfl, hb1⟩ := hr; replace H := H.grow hb1; clear hb1) | (with_reducible refine wpl rfl (dQ 47 rfl ?_); with_reducible refine (Stp.build (v := (.agg #[.int .i64 0, .int .u16 0, .int .u32 0, .int .u64 0, .int .u64 0, .slice none 0 0, .int .u64 0, .slice none 0 0, .slice none 0 0, .slice none 0 0])) 47 rfl rfl (fun W => by kernel_rfl) ?_); simp only [pS]) | (with_reducible refine wpl rfl (stQ (ty := 36) rfl ?_); first | (with_reducible refine (Stp.str rfl size36 rfl rfl (by first | rfl | (simp [Value.oneCell']; done) | assumption) H uP sZ sZ ?_); clear H; intro w1 H; simp only [pS]) | (with_reducible refine (Stp.stl rfl size36 rfl rfl rfl rfl H uP (by simp) ?_); clear H; intro w1 H; simp only [pS]; simp only [List.drop_succ_cons, List.drop_zero, List.take_succ_cons, List.take_zero, List.nil_append, List.cons_append, Nat.reduceAdd] at H)) | (with_reducible refine wpl rfl (ldQ (ty := 3) rfl ?_); first | (with_reducible refine (Stp.ldo rfl agg3 rfl H (by assumption) (by assumption) ?_); simp only [pS]) | (with_reducible refine (Stp.ldc rfl agg3 rfl H mR cE ?_); simp only [pS])) | (with_reducible refine wpl rfl (ldQ (ty := 36) rfl ?_); first | (with_reducible refine (Stp.ldor rfl agg36 size36 rfl H (by assumption) sZ (by assumption) ?_); simp only [pS]) | (with_reducible refine (Stp.ldr rfl agg36 size36 rfl H mR sZ ?_); simp only [pS]) | (with_reducible refine (Stp.ldl rfl agg36 size36 rfl H mR (by simp) ?_); simp only [pS]; simp only [List.drop_succ_cons, List.drop_zero, List.take_succ_cons, List.take_zero])) | (with_reducible refine wpl rfl (stQ (ty := 3) rfl ?_); first | (with_reducible refine (Stp.stc rfl size3 rfl rfl rfl rfl H uP (by first | omega | (simp; done) | (simp; omega)) ?_); clear H; intro w1 H; simp only [pS]; simp only [pE, nC, pS] at H)))
          refine post_row rfl agg36 size36 rfl H mE rfl rfl ?_
          first | refine ⟨_, rfl, s5, l5, 5, (cm0 : Cm), none, none, none, none, 0, 0, 0, 0, (fun _ => False), rfl, HF, hb5, ?_⟩ | refine ⟨_, rfl, s5, l5, 5, (cm0 : Cm), none, none, none, none, 0, 0, 0, 0, rfl, HF, hb5, (fun _ => False), ?_⟩
          exact ((cmr0 H).pull (r := row 129 g _) pU).sub (L' := row 129 g #[s5, .int .i64 (5 : Int)] :: cmr (fun _ => False) (.slice none 0 0) (.slice none 0 0) (.slice none 0 0) (.slice none 0 0) cm0 :: M) sU
end Go.Proofs.Ytmokecicjmjkbaa
namespace Go.Proofs.Ytmokecicjmjkbaa
set_option linter.unusedVariables false
set_option linter.unusedSimpArgs false
theorem numF_stop {most : Nat} {s : Rs} (h : (numF most s).2.2 ≠ 0) : (numF most s).1 = 0 := by
  unfold numF at h ⊢
  split
  · rfl
  · rename_i h1
    rw [if_neg h1] at h
    split
    · rfl
    · rename_i h2
      rw [if_neg h2] at h
      split
      · rfl
      · rename_i h3
        rw [if_neg h3] at h
        exact absurd rfl h
theorem cmsL_go {n : Nat} {acc : List Cm} {l : List Nat} : cmsL (n + 1) (acc, (l, 0)) = cmsL n (acc ++ [(cmF (l, 0)).1], (cmF (l, 0)).2) := if_neg (fun h => h rfl)
theorem cmsL_stop {n : Nat} {a : List Cm × Rs} (h : a.2.2 ≠ 0) : cmsL n a = a := by
  cases n with
  | zero => rfl
  | succ n => exact if_pos h
theorem cmsL_zero {a : List Cm × Rs} : cmsL 0 a = a := rfl
theorem cmsL_sm : ∀ (n : Nat) (a : List Cm × Rs), bt a.2 → (∀ c ∈ a.1, smC c ∧ wfC c) → ∀ c ∈ (cmsL n a).1, smC c ∧ wfC c
  | 0, a, hb, h => h
  | n + 1, a, hb, h => by
    unfold cmsL
    split
    · exact h
    · refine cmsL_sm n (a.1 ++ [(cmF a.2).1], (cmF a.2).2) (cmF_bt hb) (fun c hc => ?_)
      rcases List.mem_append.1 hc with hc | hc
      · exact h c hc
      · obtain rfl := List.mem_singleton.1 hc; exact cmF_sm hb
/-- What is read of a ledger, when it is one. -/
theorem lgF_sm {l : List Nat} {a : Nat} {cs : List Cm} (hx : ∀ x ∈ l, x < 256) (h : lgF l = ((a, cs), 0)) : ∀ c ∈ cs, smC c ∧ wfC c := by
  unfold lgF at h
  simp only at h
  split at h
  · rename_i he; exact absurd (congrArg (fun z : (Nat × List Cm) × Nat => z.2) h) he
  · have h1 : (lgR l).1 = (a, cs) := (Prod.mk.inj h).1
    have b0 : bt (l, 0) := hx
    unfold lgR at h1
    simp only at h1
    obtain ⟨_, h2⟩ := Prod.mk.inj h1
    rw [← h2]
    refine cmsL_sm _ _ ?_ (fun c hc => by cases hc)
    split
    · exact numF_bt (numF_bt b0)
    · exact numF_bt (numF_bt b0)
theorem lgF_of {l l1 l2 l4 : List Nat} {a n e1 e2 e4 : Nat} {cs : List Cm} (h1 : numF 4611686018427387904 (l, 0) = (a, (l1, e1))) (h2 : numF 64 (l1, e1) = (n, (l2, e2))) (hn : ¬ a < n) (h4 : cmsL n ([], (l2, e2)) = (cs, (l4, e4))) :
    lgF l = if endF (l4, e4) ≠ 0 then ((0, []), endF (l4, e4)) else ((a, cs), 0) := by
  have hR : lgR l = ((a, cs), (l4, e4)) := by
    unfold lgR
    simp only
    rw [h1]
    simp only
    rw [h2]
    simp only
    rw [if_neg (fun h => hn h.2), h4]
  unfold lgF
  simp only
  rw [hR]
theorem lgF_ahead {l l1 l2 : List Nat} {a n e1 : Nat} (h1 : numF 4611686018427387904 (l, 0) = (a, (l1, e1))) (h2 : numF 64 (l1, e1) = (n, (l2, 0))) (hn : a < n) :
    lgF l = ((0, []), 5) := by
  have hR : (lgR l).2 = (l2, 5) := by
    unfold lgR
    simp only
    rw [h1]
    simp only
    rw [h2]
    simp only
    rw [if_pos (by simp [hn]), cmsL_stop (by simp)]
  unfold lgF
  simp only
  rw [hR]
  unfold endF
  simp
end Go.Proofs.Ytmokecicjmjkbaa
namespace Go.Proofs.Ytmokecicjmjkbaa
open Go.ChangeShapes Go.WideShapes Go.ChangeAt Go.RowKit
set_option linter.unusedVariables false
set_option linter.unusedSimpArgs false
/-- The slice v of n elements is nil, or lies in a row of which nobody else knows, from some place on. -/
def OwnsOff (w : World) (e : TypeId) (size : Nat) (v : Value) (n : Nat) (xs : List Value) : Prop :=
  xs.length = n * size ∧ ((v = .slice none 0 0 ∧ n = 0) ∨ ∃ g off cap cur, v = .slice (some ⟨g, off, none⟩) n cap ∧ w.heap[g]? = some (.cells cur e (0, 0)) ∧ n ≤ cap ∧ cap ≤ maxLen ∧ off + cap * size ≤ cur.size ∧ (cur.toList.drop off).take (n * size) = xs)
def slo (e : TypeId) (size : Nat) (v : Value) (n : Nat) (xs : List Value) : Res := (fun k => v.ownBlock = some k, fun w => OwnsOff w e size v n xs)
theorem slo_loc (e : TypeId) (size : Nat) (v : Value) (n : Nat) (xs : List Value) : Loc (slo e size v n xs) := fun w1 w2 hb h => by
  refine ⟨h.1, ?_⟩
  rcases h.2 with h2 | ⟨g, off, cap, cur, rfl, h3, r⟩
  · exact .inl h2
  · exact .inr ⟨g, off, cap, cur, rfl, (hb g rfl).trans h3, r⟩
theorem slo_sound {w : World} {e : TypeId} {size : Nat} {v : Value} {n : Nat} {xs : List Value} (h : OwnsOff w e size v n xs) : Sound (slo e size v n xs) w :=
  ⟨h, fun k hk => by
    rcases h.2 with ⟨rfl, _⟩ | ⟨g, off, cap, cur, rfl, h3, _⟩
    · cases hk
    · cases hk; exact rowAt_lt (rowAt_of h3), slo_loc _ _ _ _ _⟩
theorem OwnsOff.of_own {w : World} {b : Nat} {e : TypeId} {size : Nat} {v : Value} {n : Nat} {xs : List Value} (h : w.ownsRow b e size v n xs) : OwnsOff w e size v n xs := by
  refine ⟨h.1, ?_⟩
  rcases h.2 with h2 | ⟨g, cap, cur, rfl, _, h3, h4, h5, h6, h7⟩
  · exact .inl h2
  · exact .inr ⟨g, 0, cap, cur, rfl, h3, h4, h5, by omega, by simpa using h7⟩
section
variable {B : Nat} {w0 w : World} {L : List Res} {e : TypeId} {size n c g off : Nat} {a : Option Addr} {xs : List Value}
theorem St.nilo (e : TypeId) (size : Nat) (H : St B w0 w L) : St B w0 w (slo e size (.slice none 0 0) 0 [] :: L) :=
  H.new (Below.refl _ _) (slo_sound ⟨by simp, .inl ⟨rfl, rfl⟩⟩) (fun g hg => by cases hg)
theorem St.slo_addr (H : St B w0 w L) (hm : slo e size (.slice a n c) n xs ∈ L) (hn : 0 < n) : ∃ g off, a = some ⟨g, off, none⟩ := by
  rcases (H.get hm).2 with ⟨_, h0⟩ | ⟨g, off, cap, cur, hv, _⟩
  · omega
  · injection hv with e1 _ _
    exact ⟨g, off, e1⟩
theorem St.slo_cap (H : St B w0 w L) (hm : slo e size (.slice a n c) n xs ∈ L) : n ≤ c := by
  rcases (H.get hm).2 with ⟨_, h0⟩ | ⟨g, off, cap, cur, hv, _, h, _⟩
  · omega
  · injection hv with _ _ e1; omega
theorem St.slo_cell (H : St B w0 w L) (hm : slo e size (.slice (some ⟨g, off, none⟩) n c) n xs ∈ L) {j : Nat} {u : Value} (hj : xs[j]? = some u) : w.cell? ⟨g, off + j, none⟩ = some u := by
  have h := H.get hm
  rcases h.2 with ⟨hv, _⟩ | ⟨g', off', cap, cur, hv, h3, _, _, _, h7⟩
  · cases hv
  · injection hv with e1 _ _
    injection e1 with e1
    injection e1 with e1 e2
    subst e1 e2
    rw [cell_of_rowAt (rowAt_of h3)]
    have hl : j < n * size := by
      have h1 : xs.length = n * size := h.1
      rw [← h1]; exact (List.getElem?_eq_some_iff.1 hj).1
    rw [← h7, List.getElem?_take, if_pos hl, List.getElem?_drop] at hj
    simpa using hj
/-- v[k:]. -/
theorem OwnsOff.drop {w : World} {e : TypeId} {size n c k : Nat} {a a' : Option Addr} {xs : List Value} (h : OwnsOff w e size (.slice a n c) n xs) (hk : k ≤ n) (ha : a' = if c = k then a else a.map (·.add (k * size))) : OwnsOff w e size (.slice a' (n - k) (c - k)) (n - k) (xs.drop (k * size)) := by
  refine ⟨by rw [List.length_drop, h.1, Nat.sub_mul], ?_⟩
  rcases h.2 with ⟨hv, h0⟩ | ⟨g, off, cap, cur, hv, h3, h4, h5, h6, h7⟩
  · injection hv with e1 e2 e3
    obtain rfl : k = 0 := by omega
    subst e1 e3
    refine .inl ⟨?_, by omega⟩
    rw [ha, h0]; simp
  · injection hv with e1 e2 e3
    subst e1 e3
    have hks : k * size ≤ n * size := Nat.mul_le_mul_right _ hk
    have hcs : n * size ≤ c * size := Nat.mul_le_mul_right _ h4
    by_cases hc : c = k
    · rw [if_pos hc] at ha
      refine .inr ⟨g, off, c - k, cur, by rw [ha], h3, by omega, by omega, ?_, ?_⟩
      · have : (c - k) * size ≤ c * size := Nat.mul_le_mul_right _ (Nat.sub_le _ _)
        omega
      · have : n - k = 0 := by omega
        have h1 : xs.length = n * size := h.1
        rw [this, Nat.zero_mul, List.take_zero, List.drop_eq_nil_of_le (by rw [h1]; exact Nat.mul_le_mul_right _ (by omega))]
    · rw [if_neg hc] at ha
      refine .inr ⟨g, off + k * size, c - k, cur, ?_, h3, by omega, by omega, ?_, ?_⟩
      · rw [ha]
        simp only [Option.map_some]
        congr 2
        unfold Addr.add; split <;> simp_all
      · have : (c - k) * size = c * size - k * size := Nat.sub_mul _ _ _
        omega
      · rw [← h7, List.drop_take, List.drop_drop, Nat.sub_mul]
theorem St.slo_drop {L' : List Res} {k : Nat} {a' : Option Addr} (H : St B w0 w L) (hu : Upd L (slo e size (.slice a n c) n xs) (slo e size (.slice a' (n - k) (c - k)) (n - k) (xs.drop (k * size))) L') (hk : k ≤ n) (ha : a' = if c = k then a else a.map (·.add (k * size))) : St B w0 w L' :=
  H.upd hu ⟨rfl, rfl, rfl, Nat.le_refl _, fun _ _ _ => rfl⟩ (slo_sound ((H.get hu.mem).drop hk ha)) (fun g hg => by
    refine .inl ?_
    show (Value.slice a n c).ownBlock = some g
    have hg' : (Value.slice a' (n - k) (c - k)).ownBlock = some g := hg
    rw [ha] at hg'
    split at hg'
    · cases a with
      | none => cases hg'
      | some x => exact hg'
    · cases a with
      | none => cases hg'
      | some x =>
        have : (x.add (k * size)).block = x.block := by unfold Addr.add; split <;> rfl
        simp only [Option.map_some, Value.ownBlock, this] at hg' ⊢
        exact hg')
end
section
variable {P : Program} {ops : Array Oper} {a : Act} {w : World} {o : Oper} {N : Act → World → Prop} {B : Nat} {w0 : World} {L : List Res} {ty e : TypeId} {x y : Operand} {g off d size n c k : Nat} {xs : List Value}
/-- Some cells of it, as a struct. -/
theorem Stp.loa {cs : Array Value} (ho : o.op = .load ty x) (hagg : ∀ W : World, (isAgg ty).run P W = .ok true W) (hs : ∀ W : World, (sizeOf ty).run P W = .ok k W) (hx : a.eval x = .pointer (some ⟨g, off + d, none⟩)) (H : St B w0 w L)
    (hm : slo e size (.slice (some ⟨g, off, none⟩) n c) n xs ∈ L) (hc : ∀ j, j < k → xs[d + j]? = cs[j]?) (hk : cs.size = k) (h : N (a.put o.dst (.agg cs)) w) : Stp P o a w N := by
  refine ⟨w, .inl ⟨_, ?_, h⟩⟩
  subst hk
  have hc' : ∀ j, j < cs.size → w.cell? ⟨g, off + d + j, none⟩ = cs[j]? := fun j hj => by
    rw [Array.getElem?_eq_getElem hj, Nat.add_assoc]
    exact H.slo_cell hm (by rw [hc j hj, Array.getElem?_eq_getElem hj])
  unfold execOp; simp only [ho, hx, Instr.loadAt, Instr.sureAddr]
  simp [run_load_range hc' hagg hs]
theorem Yld.loa {cs : Array Value} (hw : Region.wanted o (yielded ops a.tmps) = true) (ho : o.op = .load ty x) (hagg : ∀ W : World, (isAgg ty).run P W = .ok true W) (hs : ∀ W : World, (sizeOf ty).run P W = .ok k W) (hx : a.eval x = .pointer (some ⟨g, off + d, none⟩))
    (hm : slo e size (.slice (some ⟨g, off, none⟩) n c) n xs ∈ L) (hc : ∀ j, j < k → xs[d + j]? = cs[j]?) (hk : cs.size = k) : YieldsIf P ops (fun W => St B w0 W L) o (.agg cs) a :=
  .inl ⟨hw, fun W H => by
    subst hk
    have hc' : ∀ j, j < cs.size → W.cell? ⟨g, off + d + j, none⟩ = cs[j]? := fun j hj => by
      rw [Array.getElem?_eq_getElem hj, Nat.add_assoc]
      exact H.slo_cell hm (by rw [hc j hj, Array.getElem?_eq_getElem hj])
    unfold execOp; simp only [ho, hx, Instr.loadAt, Instr.sureAddr]
    simp [run_load_range hc' hagg hs]⟩
/-- v[k:], of elements of any size. -/
theorem run_fromN {A : Option Addr} {kd : IntKind} (ht : P.underlying ty = some (.slice e)) (hs : ∀ W : World, (sizeOf e).run P W = .ok size W) (hk : k ≤ n) (W : World) :
    (Instr.slice ty (.slice A n c) (some (.int kd (k : Int))) none none).run P W = .ok (.slice (if c = k then A else A.map (·.add (k * size))) (n - k) (c - k)) W := by
  simp [Instr.slice, Instr.sliceBounds, Instr.sliceBound, asIntOf, run_underlying ht, hs, hk]
theorem Stp.slfromN {A : Option Addr} {kd : IntKind} {z : Int} (d : Tmp) (hd : o.dst = some d) (ho : o.op = .slice ty x (some y) none none) (ht : P.underlying ty = some (.slice e)) (hs : ∀ W : World, (sizeOf e).run P W = .ok size W)
    (hx : a.eval x = .slice A n c) (hy : a.eval y = .int kd z) (hz : z = (k : Int)) (hk : k ≤ n) (h : ∀ A', A' = (if c = k then A else A.map (·.add (k * size))) → N (a.put (some d) (.slice A' (n - k) (c - k))) w) : Stp P o a w N := by
  rw [← hd] at h
  subst hz
  refine ⟨w, .inl ⟨_, ?_, h _ rfl⟩⟩
  unfold execOp; simp only [ho]
  simp [hx, hy, Instr.sliceAt, run_underlying ht, run_fromN ht hs hk]
theorem slo_put {cap : Nat} {cur : Array Value} {news : List Value} {m : Nat} (hl : news.length = m * size) (hfit : off + cap * size ≤ cur.size) (hroom : n + m ≤ cap) (ht : (cur.toList.drop off).take (n * size) = xs) :
    ((cur.toList.take (off + n * size) ++ news ++ cur.toList.drop (off + n * size + news.length)).drop off).take ((n + m) * size) = xs ++ news := by
  have hcl : cur.toList.length = cur.size := by simp
  have hle : (n + m) * size ≤ cap * size := Nat.mul_le_mul_right _ hroom
  have hadd : (n + m) * size = n * size + m * size := Nat.add_mul _ _ _
  rw [List.append_assoc, List.drop_append, List.drop_take, Nat.add_sub_cancel_left, List.length_take, hcl]
  rw [show off - min (off + n * size) cur.size = 0 by omega, List.drop_zero, ht, hadd]
  have hxl : xs.length = n * size := by rw [← ht, List.length_take, List.length_drop, hcl]; omega
  rw [List.take_append, List.take_of_length_le (by omega), hxl, Nat.add_sub_cancel_left, List.take_append, List.take_of_length_le (by omega), hl, Nat.sub_self, List.take_zero, List.append_nil]
theorem run_append_off {t e : TypeId} {i : TypeInfo} (ht : P.underlying t = some (.slice e)) (hi : P.info? e = some i) (g off sLen sCap : Nat) (cur : Array Value) (hg : w.heap[g]? = some (.cells cur e (0, 0)))
    (ad : Addr) (m c : Nat) (news : List Value) (hl : news.length = m * i.size) (hnews : ∀ j u, news[j]? = some u → w.cell? (ad.add j) = some u) (h1 : ∀ u ∈ news, u.oneCell' = true)
    (hroom : sLen + m ≤ sCap) (hfit : off + sLen * i.size + news.length ≤ cur.size) :
    (Builtin.append_ #[t, t] ty #[.slice (some ⟨g, off, none⟩) sLen sCap, .slice (some ad) m c]).run P w =
      .ok (.slice (some ⟨g, off, none⟩) (sLen + m) sCap) (w.setRow g (cur.toList.take (off + sLen * i.size) ++ news ++ cur.toList.drop (off + sLen * i.size + news.length)).toArray) := by
  have hf := run_firstCells_some (P := P) w i.size m ad m c news hl hnews
  have hst := run_storeCells_at P g (off + sLen * i.size) e news 0 cur w hg (by simpa using hfit) h1
  simp only [Nat.add_zero] at hst
  simp [Builtin.append_, run_underlying ht, sizeOf, typeInfo, hi, Builtin.lenOf, hroom, hf, Addr.add_lit, hst]
/-- append of m elements onto it. -/
theorem Stp.appo {L' : Value → List Res} {z : Value} {bytes : Nat} {s : Operand} {va : Option Addr} {vc : Nat} {ad : Addr} {m : Nat} {news : List Value} (d : Tmp) (hd : o.dst = some d)
    (ho : o.op = .call { callee := .builtin .append, args := #[s, x], argTypes := #[ty, ty] }) (ht : P.underlying ty = some (.slice e)) (hi : (P.info? e).map (fun i => (i.zero, i.size, i.bytes)) = some (some z, size, bytes)) (hzs : z.cells.size = size) (hsz : 0 < size)
    (hs : a.eval s = .slice va n vc) (hx : a.eval x = .slice (some ad) m c) (H : St B w0 w L) (hu : ∀ v', Upd L (slo e size (.slice va n vc) n xs) (slo e size v' (n + m) (xs ++ news)) (L' v')) (hl : news.length = m * size) (hm0 : 0 < m) (hnews : ∀ j u, news[j]? = some u → w.cell? (ad.add j) = some u) (h1 : ∀ u ∈ news, u.oneCell' = true)
    (h63 : n + m ≤ maxLen) (hbytes : (n + m) * bytes ≤ 140737488355328)
    (h : ∀ ap cp w', St B w0 w' (L' (.slice ap (n + m) cp)) → N (a.put (some d) (.slice ap (n + m) cp)) w') : Stp P o a w N := by
  rw [← hd] at h
  obtain ⟨i, hi1, hi2, hi3, hi4⟩ := info_parts hi
  subst hi3 hi4
  have hown : OwnsOff w e i.size (.slice va n vc) n xs := H.get (hu (.slice va n vc)).mem
  have hsmall : n + m ≤ 9223372036854775807 := by simp only [maxLen] at h63; omega
  have hxn : (xs ++ news).length = (n + m) * i.size := by rw [List.length_append, hown.1, hl, Nat.add_mul]
  have fin : ∀ ap cp w', (Builtin.append_ #[ty, ty] o.type #[.slice va n vc, .slice (some ad) m c]).run P w = .ok (.slice ap (n + m) cp) w' → Grew (fun k => (Value.slice va n vc).ownBlock = some k) w w' → OwnsOff w' e i.size (.slice ap (n + m) cp) (n + m) (xs ++ news) → (∀ g, (Value.slice ap (n + m) cp).ownBlock = some g → (Value.slice va n vc).ownBlock = some g ∨ w.heap.size ≤ g) → Stp P o a w N := by
    intro ap cp w' hr hg hO hb
    refine ⟨w', .inl ⟨_, ?_, h ap cp w' (H.upd (hu _) hg (slo_sound hO) hb)⟩⟩
    unfold execOp
    simp only [ho, resolve, invoke, builtin, Sem.run_bind, Sem.run_pure, Result.andThen_ok, List.map_toArray, List.map_cons, List.map_nil, hs, hx, hr]
  have hgd : ∀ (cs : Array Value), Grew (fun k => (Value.slice va n vc).ownBlock = some k) w (w.drew.alloc (.cells cs e)) := fun cs => Grew.of_below (((Below.refl _ _).drew).alloc (by simp) _)
  rcases hown.2 with ⟨hv, h0⟩ | ⟨g, off, cap, cur, hv, h3, h4, h5, h6, h7⟩
  · injection hv with e1 _ e3
    subst e1 e3 h0
    have hxs : xs = [] := List.eq_nil_of_length_eq_zero (by simpa using hown.1)
    subst hxs
    have hr := run_append_nil (P := P) w ty o.type e i z ht hi1 hi2 ad m c news hl hnews (by omega) (by omega) (by simp only [Nat.zero_add] at hbytes; omega)
    have hge := grownCap_ge w m 0 e
    rw [Nat.zero_add] at *
    refine fin _ _ _ hr (hgd _) ⟨hxn, .inr ⟨w.heap.size, 0, _, _, rfl, heap_alloc_new _ _, hge, grownCap_le_maxLen w m 0 e (by omega), ?_, ?_⟩⟩ (fun g hg => .inr (by cases hg; exact Nat.le_refl _))
    · simp only [Array.size_append, size_zeroCells, hzs, List.size_toArray, hl]
      rw [Nat.zero_add, ← Nat.add_mul]
      exact Nat.mul_le_mul_right _ (by omega)
    · simp [hl]
  · injection hv with e1 _ e3
    subst e1 e3
    by_cases hroom : n + m ≤ vc
    · have hfit : off + n * i.size + news.length ≤ cur.size := by
        have := Nat.mul_le_mul_right i.size hroom
        rw [Nat.add_mul] at this
        omega
      have hr := run_append_off (P := P) (ty := o.type) ht hi1 g off n vc cur h3 ad m c news hl hnews h1 hroom hfit
      refine fin _ _ _ hr (grownBy_setRow w g _) ⟨hxn, .inr ⟨g, off, vc, _, rfl, setRow_heap w g cur _ e _ h3, hroom, h5, ?_, slo_put hl h6 hroom h7⟩⟩ (fun g hg => .inl hg)
      simp only [List.size_toArray, List.length_append, List.length_take, List.length_drop, Array.length_toList]
      omega
    · have holds : ∀ j u, xs[j]? = some u → w.cell? ((⟨g, off, none⟩ : Addr).add j) = some u := fun j u hj => by
        have hadd : (⟨g, off, none⟩ : Addr).add j = ⟨g, off + j, none⟩ := by unfold Addr.add; split <;> simp_all
        rw [hadd]
        exact H.slo_cell (hu (.slice (some ⟨g, off, none⟩) n vc)).mem hj
      have hr := run_append_grow (P := P) w ty o.type e i z ht hi1 hi2 ⟨g, off, none⟩ n vc xs hown.1 holds ad m c news hl hnews (by omega) (by omega) (growslice_fits (by omega) hbytes)
      have hge := grownCap_ge w (n + m) vc e
      refine fin _ _ _ hr (hgd _) ⟨hxn, .inr ⟨w.heap.size, 0, _, _, rfl, heap_alloc_new _ _, hge, grownCap_le_maxLen w (n + m) vc e h63, ?_, ?_⟩⟩ (fun g hg => .inr (by cases hg; exact Nat.le_refl _))
      · simp only [Array.size_append, size_zeroCells, hzs, List.size_toArray, hl, hown.1]
        rw [Nat.zero_add, ← Nat.add_mul, ← Nat.add_mul]
        exact Nat.mul_le_mul_right _ (by omega)
      · simp only [List.drop_zero, Array.toList_append, List.toList_toArray]
        rw [List.take_append_of_le_length (by rw [hxn]; exact Nat.le_refl _), List.take_of_length_le (by rw [hxn]; exact Nat.le_refl _)]
end
end Go.Proofs.Ytmokecicjmjkbaa
