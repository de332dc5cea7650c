/- The contract of the reference's Get of a view (choragusref08) on any bytes; the bounds stand in it. -/
import Derived.Test.YtmokecicjmjkbaaGz16
import Derived.Test.YtmokecicjmjkbaaGz18
namespace Go.Proofs.Ytmokecicjmjkbaa
open Go.ChangeShapes Go.WideShapes Go.ChangeAt Go.RowKit Go.Deep
set_option linter.unusedVariables false
set_option linter.unusedSimpArgs false
set_option linter.unusedSectionVars false
set_option maxRecDepth 100000
set_option maxHeartbeats 4000000
theorem rvcheckL_ok {G1 : Nat → Prop} (id : Nat) (d : List Pr) (acc : List (List Pr)) (q : List Pr) (k : Nat) (am : Option Addr) (cm : Nat) (av : Option Addr) (cv : Nat) (al : Option Addr) (cl : Nat) (c : Bool) (hm : smV ⟨id, d, acc, q⟩) (hk : acc.length = k) (hc : vOk ⟨id, d, acc, q⟩ = c) (w : World)
    (hx : VwG G1 w (.slice am d.length cm) (.slice av acc.length cv) (.slice al q.length cl) ⟨id, d, acc, q⟩) :
    Calls Try.prog 56 #[.agg #[.int .u64 (id : Int), .slice am d.length cm, .slice av k cv, .slice al q.length cl]] w (Ret fun v w' => v = .bool c ∧ Below w.heap.size w w') := by
  subst hk hc
  exact rvcheck_is ⟨id, d, acc, q⟩ am av al cm cv cl hm w _ rfl hx
attribute [local irreducible] vErr vOk numF pidsF plcF lvsL
theorem rvget_ok {B : Nat} {w0 : World} {L M : List Res} (g : Nat) (s : Value) (l : List Nat) (e : Nat) (hb : Byt B w0 L s l) (hML : L.Sublist M) (w : World) (H : St B w0 w (row 129 g #[s, .int .i64 (e : Int)] :: M)) :
    Calls Try.prog 100 #[.pointer (some ⟨g, 0, none⟩)] w (Ret fun v w' => ∃ s' l' e' x ma mc la lc da dc G, v = .agg (vwC x ma la da mc lc dc) ∧ Hid (vwF (l, e) = (x, (l', e'))) ∧ Byt B w0 L s' l' ∧ St B w0 w' (row 129 g #[s', .int .i64 (e' : Int)] :: vwr G (.slice ma x.mem.length mc) (.slice la x.lvs.length lc) (.slice da x.ldr.length dc) x :: M)) := by
  obtain ⟨⟨id, l1, e1⟩, hz1⟩ : ∃ z, numF 4611686018427387904 (l, e) = z := ⟨_, rfl⟩
  have HZ1 := Lib.hid hz1
  clear hz1
  go_enter Try.func100, Try.ntmps100
  go_upto_region 3 with (first | (go_at_call 72; (with_reducible refine (rrNum4611686018427387904_ok g _ l e hb _ (H.pull (r := row 129 g _) pU) (by repeat (first | exact hML | apply List.Sublist.cons))).mono ?_); rintro e w1 ⟨v, rfl, hr⟩; obtain ⟨rfl, s1, hb1, H2⟩ := hr; clear H; have H := H2; clear H2; rw [HZ1.out] at hb1 H ⊢; simp only at hb1 H ⊢) | (go_at_call 128; (with_reducible refine (rrPids24_ok g _ l1 e1 hb1 _ (H.pull (r := row 129 g _) pU) (by repeat (first | exact hML | apply List.Sublist.cons))).mono ?_); rintro e w1 ⟨v, rfl, hr⟩; obtain ⟨s2, l2, e2, am, cm, d, rfl, HZ2, hb2, H2⟩ := hr; clear H; have H := H2; clear H2) | (with_reducible refine wpl rfl (dQ 8 rfl ?_); with_reducible refine (Stp.build (v := (.agg #[.int .u64 (id : Int), .slice none 0 0, .slice none 0 0, .slice none 0 0])) 8 rfl rfl (fun W => by kernel_rfl) ?_); simp only [pS]) | (with_reducible refine wpl rfl (dQ 2 rfl ?_); with_reducible refine (Stp.alloc 2 rfl rfl zero34 H ?_); clear H; intro g2 w1 H; simp only [pS]; simp only [nC] at H) | (with_reducible refine wpl rfl (dQ 3 rfl ?_); with_reducible refine (Stp.alloc 3 rfl rfl zero34 H ?_); clear H; intro g3 w1 H; simp only [pS]; simp only [nC] at H) | (with_reducible refine wpl rfl (stQ (ty := 34) rfl ?_); first | (with_reducible refine (Stp.str rfl size34 rfl rfl (by first | rfl | (simp [Value.oneCell']; done) | assumption) H uP sZ sZ ?_); clear H; intro w1 H; simp only [pS]) | (with_reducible refine (Stp.stl rfl size34 rfl rfl rfl rfl H uP (by simp) ?_); clear H; intro w1 H; simp only [pS]; simp only [List.drop_succ_cons, List.drop_zero, List.take_succ_cons, List.take_zero, List.nil_append, List.cons_append, Nat.reduceAdd] at H)) | (with_reducible refine wpl rfl (stQ (ty := 31) rfl ?_); first | (with_reducible refine (Stp.stc rfl size31 rfl rfl rfl rfl H uP (by first | omega | (simp; done) | (simp; omega)) ?_); clear H; intro w1 H; simp only [pS]; simp only [pE, nC, pS] at H)))
  have hds := pidsF_sm (most := 24) (s := (l1, e1))
  rw [HZ2.out] at hds
  have hd24 : d.length ≤ 24 := hds.1
  have HOK : Hid (okPids d) := Lib.hid hds.2
  obtain ⟨⟨n, l3, e3⟩, hz3⟩ : ∃ z, numF 24 (l2, e2) = z := ⟨_, rfl⟩
  have hn24 : n ≤ 24 := by have := numF_most (most := 24) (s := (l2, e2)); rw [hz3] at this; exact this
  have HZ3 := Lib.hid hz3
  clear hds hz3
  go_upto_region 4 with (first | (go_at_call 72; (with_reducible refine (rrNum24_ok g _ l2 e2 hb2 _ (H.pull (r := row 129 g _) pU) (by repeat (first | exact hML | apply List.Sublist.cons))).mono ?_); rintro e w1 ⟨v, rfl, hr⟩; obtain ⟨rfl, s3, hb3, H2⟩ := hr; clear H; have H := H2; clear H2; rw [HZ3.out] at hb3 H ⊢; simp only at hb3 H ⊢))
  replace H : St B w0 _ (slc 31 1 (.slice none 0 0) 0 (hdv (fun _ => undef) 0) :: lvr (fun _ => False) (fun _ => undef) [] 0 :: _) := (St.emp (p := (lvr (fun _ => False) (fun _ => undef) [] 0).2) (fun _ i hi => absurd hi (Nat.not_lt_zero _)) H).nil 31 1
  go_wp2_with fail
  go_loopw [5] (fun i wr => ∃ (k : Nat) (s4 : Value) (l4 : List Nat) (e4 : Nat) (acc : List (List Pr)) (av : Option Addr) (cv : Nat) (G : Nat → Prop) (hd : Nat → Value), k ≤ n ∧ i = .int .u64 (k : Int) ∧ Hid (acc.length = k) ∧ Hid (lvsL d (n - k) (acc, (l4, e4)) = lvsL d n ([], (l3, e3))) ∧ Byt B w0 L s4 l4 ∧ St B w0 wr (row 129 g #[s4, .int .i64 (e4 : Int)] :: row 34 g3 #[.int .u64 (id : Int), .slice am d.length cm, .slice av k cv, .slice none 0 0] :: slc 31 1 (.slice av k cv) k (hdv hd k) :: lvr G hd acc k :: slc 30 2 (.slice am d.length cm) d.length (pv d) :: row 34 g2 #[.int .u64 0, .slice none 0 0, .slice none 0 0, .slice none 0 0] :: M)) (fun i _ => n - (intOf i).toNat)
  case atStart => exact ⟨0, s3, l3, e3, [], none, 0, _, _, Nat.zero_le _, rfl, Lib.hid rfl, Lib.hid rfl, hb3, ((((((H.pull (r := row 34 g2 _) pU).pull (r := slc 30 2 (.slice am d.length cm) d.length (pv d)) pU).pull (r := lvr _ _ [] 0) pU).pull (r := slc 31 1 _ 0 _) pU).pull (r := row 34 g3 _) pU).pull (r := row 129 g _) pU).sub sU⟩
  case round =>
    clear H hb3
    obtain ⟨k, s4, l4, e4, acc, av, cv, G, hd, hk, rfl, HA, HP, hb4, H⟩ := hrel
    by_cases hgo : k < n ∧ e4 = 0
    · obtain ⟨hlt, rfl⟩ := hgo
      have kli : (k : Int) < (n : Int) := by omega
      have hei : (((0 : Nat) : Int) == 0) = true := by simp
      have hp2 : lvsL d (n - (k + 1)) (acc ++ [(plcF d (l4, 0)).1], (plcF d (l4, 0)).2) = lvsL d n ([], (l3, e3)) := by
        rw [← HP.out, show n - k = (n - (k + 1)) + 1 by omega]
        exact lvsL_go.symm
      have HPP := Lib.hid hp2
      clear hp2
      go_wp2_with (first | (with_reducible refine wpl rfl (ldQ (ty := 3) rfl ?_); first | (with_reducible refine (Stp.ldo rfl agg3 rfl H (by assumption) (by assumption) ?_); simp only [pS]) | (with_reducible refine (Stp.ldc rfl agg3 rfl H mR cE ?_); simp only [pS])))
      refine rk_begin 9 10 (fun W => St B w0 W [row 34 g3 #[.int .u64 (id : Int), .slice am d.length cm, .slice av k cv, .slice none 0 0]]) rfl (by kernel_rfl) ?_
      replace H := H.drew
      have HS := H
      refine rk_free (i := 0) rfl kR kR kR kR (Yld.o rfl) (fun _ => (H.sub sU)) ?_; simp only [pS]
      first | (refine rk_take (i := 1) rfl kR kR kR kR kR kR (Yld.ldc rfl rfl agg32 rfl mR cE) (H.sub sU) ?_; simp only [pS]) | (refine rk_take (i := 1) rfl kR kR kR kR kR kR (Yld.ldo rfl rfl agg32 rfl (by assumption) (by assumption)) (H.sub sU) ?_; simp only [pS])
      refine rk_free (i := 2) rfl kR kR kR kR (Yld.move rfl rfl) (fun _ => (H.sub sU)) ?_; simp only [pS, pE]
      refine rk_free (i := 3) rfl kR kR kR kR (Yld.o rfl) (fun _ => (H.sub sU)) ?_; simp only [pS]
      first | (refine rk_take (i := 4) rfl kR kR kR kR kR kR (Yld.ldc rfl rfl agg31 rfl mR cE) (H.sub sU) ?_; simp only [pS]) | (refine rk_take (i := 4) rfl kR kR kR kR kR kR (Yld.ldo rfl rfl agg31 rfl (by assumption) (by assumption)) (H.sub sU) ?_; simp only [pS])
      refine rk_one (i := 5) (by kernel_rfl) rfl rfl (fun K hK => ?_)
      refine wp_callf rfl ent129 (rplaces2_ok g s4 l4 0 d am cm (by omega) hb4 _ (H.pull (r := row 129 g _) pU) (by repeat (first | exact hML | apply List.Sublist.cons)) mE) rfl (fun v w1 hr => ?_)
      obtain ⟨s5, l5, e5, ab, cb, q, rfl, HQ, hb5, H2⟩ := hr
      clear H
      have H := H2
      clear H2
      clear HS
      have HS := H
      refine hK.out _ _ (fun _ => (H.sub sU)) ?_
      clear hK K
      simp only [pS]
      refine rk_one (i := 6) (by kernel_rfl) rfl rfl (fun K hK => ?_)
      refine Stp.wp (Stp.bsl (e := 31) (cs := #[.slice ab q.length cb]) 32 rfl rfl (fun W => by kernel_rfl) H ?_)
      clear H
      intro g32 w1 H
      clear HS
      have HS := H
      refine hK.out _ _ (fun _ => (H.sub sU)) ?_
      clear hK K
      simp only [pS]
      refine rk_one (i := 7) (by kernel_rfl) rfl rfl (fun K hK => ?_)
      refine Stp.wp (Stp.apps 33 rfl rfl Try.underlying32 info31 rfl (by decide) rfl rfl H (fun _ => uP) (show ([.slice ab q.length cb] : List Value).length = 1 * 1 from rfl) (fun _ => ⟨_, rfl, newL (H.gr 31)⟩) (by simp [Value.oneCell']) (by unfold maxLen; omega) (by omega) ?_)
      clear H
      intro a33 c33 w1 H
      clear HS
      have HS := H
      refine hK.out _ _ (fun _ => (H.sub sU)) ?_
      clear hK K
      simp only [pS]
      refine rk_free (i := 8) rfl kR kR kR kR (Yld.o rfl) (fun _ => (H.sub sU)) ?_; simp only [pS]
      refine rk_one (i := 9) (by kernel_rfl) rfl rfl (fun K hK => ?_)
      refine Stp.wp (Stp.stc rfl size32 rfl rfl rfl rfl H uP (by simp) ?_)
      clear H
      intro w1 H
      simp only [pE, nC, pS] at H
      clear HS
      have HS := H
      refine hK.out _ _ (fun h => by cases (show true = false from h)) ?_
      clear hK K
      simp only [pS]
      refine rk_done (by kernel_rfl) ?_
      have hq24 : q.length ≤ 24 := by have := (plcF_sm HOK.out (s := (l4, 0))).1; rw [HQ.out] at this; exact this
      have HP2 : Hid (lvsL d (n - (k + 1)) (acc ++ [q], (l5, e5)) = lvsL d n ([], (l3, e3))) := Lib.hid (by have := HPP.out; rw [HQ.out] at this; exact this)
      go_wp2_with fail
      obtain ⟨G', H2⟩ := St.leafA ((H.pull (r := lvr G hd acc k) pU).pull (r := slc 30 2 (.slice ab q.length cb) _ _) pU) HA.out (by omega)
      clear H
      have H := H2
      clear H2
      rw [hdv_snoc] at H
      go_roundw
      case rel => exact ⟨k + 1, s5, l5, e5, acc ++ [q], _, _, G', _, by omega, by go_num, Lib.hid (by rw [List.length_append, HA.out]; rfl), HP2, hb5, ((((((H.pull (r := row 34 g2 _) pU).pull (r := slc 30 2 (.slice am d.length cm) d.length (pv d)) pU).pull (r := lvr G' _ (acc ++ [q]) (k + 1)) pU).pull (r := slc 31 1 _ (k + 1) (hdv _ (k + 1))) pU).pull (r := row 34 g3 _) pU).pull (r := row 129 g _) pU).sub sU⟩
      case measure => simp [intOf]; omega
    · have HV : Hid (lvsL d n ([], (l3, e3)) = (acc, (l4, e4))) := Lib.hid (by
        rw [← HP.out]
        by_cases he4 : e4 ≠ 0
        · exact lvsL_stop he4
        · have : k = n := by
            rcases Nat.lt_or_ge k n with h | h
            · exact absurd ⟨h, by omega⟩ hgo
            · omega
          subst this
          rw [Nat.sub_self]; exact lvsL_zero)
      by_cases hlt : k < n
      · have kli : (k : Int) < (n : Int) := by omega
        have hei : ((e4 : Int) == 0) = false := by
          have : e4 ≠ 0 := fun h => hgo ⟨hlt, h⟩
          simp; omega
        clear hgo hlt
        go_upto_region 9 with (first | (go_at_call 129; (with_reducible refine (rplaces2_ok g s4 l4 e4 d am cm (by omega) hb4 _ (H.pull (r := row 129 g _) pU) (by repeat (first | exact hML | apply List.Sublist.cons)) mE).mono ?_); rintro e w1 ⟨v, rfl, hr⟩; obtain ⟨s5, l5, e5, ab, cb, q, rfl, HQ, hb5, H2⟩ := hr; clear H; have H := H2; clear H2) | (with_reducible refine wpl rfl (stQ (ty := 31) rfl ?_); first | (with_reducible refine (Stp.stc rfl size31 rfl rfl rfl rfl H uP (by first | omega | (simp; done) | (simp; omega)) ?_); clear H; intro w1 H; simp only [pS]; simp only [pE, nC, pS] at H)) | (with_reducible refine wpl rfl (ldQ (ty := 3) rfl ?_); first | (with_reducible refine (Stp.ldo rfl agg3 rfl H (by assumption) (by assumption) ?_); simp only [pS]) | (with_reducible refine (Stp.ldc rfl agg3 rfl H mR cE ?_); simp only [pS])) | (with_reducible refine wpl rfl (ldQ (ty := 31) rfl ?_); first | (with_reducible refine (Stp.ldo rfl agg31 rfl H (by assumption) (by assumption) ?_); simp only [pS]) | (with_reducible refine (Stp.ldc rfl agg31 rfl H mR cE ?_); simp only [pS])))
        have hq24 : q.length ≤ 24 := by have := (plcF_sm HOK.out (s := (l4, e4))).1; rw [HQ.out] at this; exact this
        have HR : Hid (vwR (l, e) = (⟨id, d, acc, q⟩, (l5, e5))) := Lib.hid (by
          unfold vwR
          simp only
          rw [HZ1.out]
          simp only
          rw [HZ2.out]
          simp only
          rw [HZ3.out]
          simp only
          rw [HV.out]
          simp only
          rw [HQ.out])
        have HFV : Hid (vwF (l, e) = if (mayE (l5, e5) (vOk ⟨id, d, acc, q⟩)).2 ≠ 0 then (vw0, mayE (l5, e5) (vOk ⟨id, d, acc, q⟩)) else (⟨id, d, acc, q⟩, mayE (l5, e5) (vOk ⟨id, d, acc, q⟩))) := Lib.hid (by unfold vwF; simp only; rw [HR.out])
        obtain ⟨Gx, H2⟩ := St.vwrOf (⟨id, d, acc, q⟩ : Vw) ((((H.pull (r := slc 30 2 (.slice ab q.length cb) _ _) pU).pull (r := lvr G hd acc k) pU).pull (r := slc 31 1 (.slice av k cv) k (hdv hd k)) pU).pull (r := slc 30 2 (.slice am d.length cm) d.length (pv d)) pU) rfl HA.out rfl (Nat.le_trans hd24 (by decide)) (by omega) (Nat.le_trans hq24 (by decide))
        clear H
        have H := H2
        clear H2
        have hsm := vwR_sm (l, e)
        rw [HR.out] at hsm
        have HX1 := Lib.hid hsm.1
        have HX2 := Lib.hid hsm.2.1
        have HK := HA
        clear hsm hq24
        by_cases he5 : e5 ≠ 0
        · have hei5 : ((e5 : Int) == 0) = false := by simp; omega
          have hei6 : ((e5 : Int) != 0) = true := by simp; omega
          have HF : Hid (vwF (l, e) = (vw0, (l5, e5))) := Lib.hid (by
            have hm : ∀ b, mayE (l5, e5) b = (l5, e5) := fun b => by unfold mayE; rw [if_neg (fun h => he5 h.1)]
            rw [HFV.out, hm, if_pos he5])
          clear he5
          go_wp2_with (first | (with_reducible refine wpl rfl (dQ 58 rfl ?_); with_reducible refine (Stp.build (v := (.agg #[.int .u64 0, .slice none 0 0, .slice none 0 0, .slice none 0 0])) 58 rfl rfl (fun W => by kernel_rfl) ?_); simp only [pS]) | (with_reducible refine wpl rfl (stQ (ty := 34) rfl ?_); first | (with_reducible refine (Stp.str rfl size34 rfl rfl (by first | rfl | (simp [Value.oneCell']; done) | assumption) H uP sZ sZ ?_); clear H; intro w1 H; simp only [pS]) | (with_reducible refine (Stp.stl rfl size34 rfl rfl rfl rfl H uP (by simp) ?_); clear H; intro w1 H; simp only [pS]; simp only [List.drop_succ_cons, List.drop_zero, List.take_succ_cons, List.take_zero, List.nil_append, List.cons_append, Nat.reduceAdd] at H)) | (with_reducible refine wpl rfl (ldQ (ty := 3) rfl ?_); first | (with_reducible refine (Stp.ldo rfl agg3 rfl H (by assumption) (by assumption) ?_); simp only [pS]) | (with_reducible refine (Stp.ldc rfl agg3 rfl H mR cE ?_); simp only [pS])))
          refine post_row rfl agg34 size34 rfl H mE rfl rfl ?_
          first | refine ⟨_, rfl, s5, l5, e5, vw0, none, 0, none, 0, none, 0, (fun _ => False), rfl, HF, hb5, ?_⟩ | refine ⟨_, rfl, s5, l5, e5, vw0, none, 0, none, 0, none, 0, rfl, HF, hb5, (fun _ => False), ?_⟩
          exact ((vwr0 H).pull (r := row 129 g _) pU).sub (L' := row 129 g #[s5, .int .i64 (e5 : Int)] :: vwr (fun _ => False) (.slice none 0 0) (.slice none 0 0) (.slice none 0 0) vw0 :: M) sU
        · obtain rfl : e5 = 0 := by omega
          have hei5 : (((0 : Nat) : Int) == 0) = true := by simp
          have hei6 : (((0 : Nat) : Int) != 0) = false := by simp
          cases hv : vOk ⟨id, d, acc, q⟩
          · have HF : Hid (vwF (l, e) = (vw0, (l5, 5))) := Lib.hid (by
              rw [HFV.out, hv]
              unfold mayE
              simp)
            obtain ⟨c, hc⟩ : ∃ c, vOk ⟨id, d, acc, q⟩ = c := ⟨_, rfl⟩
            have HC := Lib.hid hc
            have hc1 : c = false := by rw [← hc, hv]
            subst hc1
            clear hc hv he5
            go_wp2_with (first | (go_at_call 56; (with_reducible refine (rvcheckL_ok id d acc q k am cm av cv ab cb _ HX1.out HK.out HC.out _ (H.vwE (G := Gx) mE)).mono ?_); rintro e w1 ⟨v, rfl, hr⟩; obtain ⟨rfl, hb1⟩ := hr; replace H := H.grow hb1; clear hb1) | (with_reducible refine wpl rfl (dQ 58 rfl ?_); with_reducible refine (Stp.build (v := (.agg #[.int .u64 0, .slice none 0 0, .slice none 0 0, .slice none 0 0])) 58 rfl rfl (fun W => by kernel_rfl) ?_); simp only [pS]) | (with_reducible refine wpl rfl (stQ (ty := 34) rfl ?_); first | (with_reducible refine (Stp.str rfl size34 rfl rfl (by first | rfl | (simp [Value.oneCell']; done) | assumption) H uP sZ sZ ?_); clear H; intro w1 H; simp only [pS]) | (with_reducible refine (Stp.stl rfl size34 rfl rfl rfl rfl H uP (by simp) ?_); clear H; intro w1 H; simp only [pS]; simp only [List.drop_succ_cons, List.drop_zero, List.take_succ_cons, List.take_zero, List.nil_append, List.cons_append, Nat.reduceAdd] at H)) | (with_reducible refine wpl rfl (ldQ (ty := 3) rfl ?_); first | (with_reducible refine (Stp.ldo rfl agg3 rfl H (by assumption) (by assumption) ?_); simp only [pS]) | (with_reducible refine (Stp.ldc rfl agg3 rfl H mR cE ?_); simp only [pS])) | (with_reducible refine wpl rfl (ldQ (ty := 34) rfl ?_); first | (with_reducible refine (Stp.ldor rfl agg34 size34 rfl H (by assumption) sZ (by assumption) ?_); simp only [pS]) | (with_reducible refine (Stp.ldr rfl agg34 size34 rfl H mR sZ ?_); simp only [pS]) | (with_reducible refine (Stp.ldl rfl agg34 size34 rfl H mR (by simp) ?_); simp only [pS]; simp only [List.drop_succ_cons, List.drop_zero, List.take_succ_cons, List.take_zero])) | (with_reducible refine wpl rfl (stQ (ty := 3) rfl ?_); first | (with_reducible refine (Stp.stc rfl size3 rfl rfl rfl rfl H uP (by first | omega | (simp; done) | (simp; omega)) ?_); clear H; intro w1 H; simp only [pS]; simp only [pE, nC, pS] at H)))
            refine post_row rfl agg34 size34 rfl H mE rfl rfl ?_
            first | refine ⟨_, rfl, s5, l5, 5, vw0, none, 0, none, 0, none, 0, (fun _ => False), rfl, HF, hb5, ?_⟩ | refine ⟨_, rfl, s5, l5, 5, vw0, none, 0, none, 0, none, 0, rfl, HF, hb5, (fun _ => False), ?_⟩
            exact ((vwr0 H).pull (r := row 129 g _) pU).sub (L' := row 129 g #[s5, .int .i64 (5 : Int)] :: vwr (fun _ => False) (.slice none 0 0) (.slice none 0 0) (.slice none 0 0) vw0 :: M) sU
          · have HF : Hid (vwF (l, e) = (⟨id, d, acc, q⟩, (l5, 0))) := Lib.hid (by
              rw [HFV.out, hv]
              unfold mayE
              simp)
            obtain ⟨c, hc⟩ : ∃ c, vOk ⟨id, d, acc, q⟩ = c := ⟨_, rfl⟩
            have HC := Lib.hid hc
            have hc1 : c = true := by rw [← hc, hv]
            subst hc1
            clear hc hv he5
            go_wp2_with (first | (go_at_call 56; (with_reducible refine (rvcheckL_ok id d acc q k am cm av cv ab cb _ HX1.out HK.out HC.out _ (H.vwE (G := Gx) mE)).mono ?_); rintro e w1 ⟨v, rfl, hr⟩; obtain ⟨rfl, hb1⟩ := hr; replace H := H.grow hb1; clear hb1) | (with_reducible refine wpl rfl (stQ (ty := 34) rfl ?_); first | (with_reducible refine (Stp.str rfl size34 rfl rfl (by first | rfl | (simp [Value.oneCell']; done) | assumption) H uP sZ sZ ?_); clear H; intro w1 H; simp only [pS]) | (with_reducible refine (Stp.stl rfl size34 rfl rfl rfl rfl H uP (by simp) ?_); clear H; intro w1 H; simp only [pS]; simp only [List.drop_succ_cons, List.drop_zero, List.take_succ_cons, List.take_zero, List.nil_append, List.cons_append, Nat.reduceAdd] at H)) | (with_reducible refine wpl rfl (ldQ (ty := 3) rfl ?_); first | (with_reducible refine (Stp.ldo rfl agg3 rfl H (by assumption) (by assumption) ?_); simp only [pS]) | (with_reducible refine (Stp.ldc rfl agg3 rfl H mR cE ?_); simp only [pS])) | (with_reducible refine wpl rfl (ldQ (ty := 34) rfl ?_); first | (with_reducible refine (Stp.ldor rfl agg34 size34 rfl H (by assumption) sZ (by assumption) ?_); simp only [pS]) | (with_reducible refine (Stp.ldr rfl agg34 size34 rfl H mR sZ ?_); simp only [pS]) | (with_reducible refine (Stp.ldl rfl agg34 size34 rfl H mR (by simp) ?_); simp only [pS]; simp only [List.drop_succ_cons, List.drop_zero, List.take_succ_cons, List.take_zero])))
            refine post_row rfl agg34 size34 rfl H mE rfl rfl ?_
            first | refine ⟨_, rfl, s5, l5, 0, ⟨id, d, acc, q⟩, am, cm, av, cv, ab, cb, Gx, (by rw [← HA.out]), HF, hb5, ?_⟩ | refine ⟨_, rfl, s5, l5, 0, ⟨id, d, acc, q⟩, am, cm, av, cv, ab, cb, (by rw [← HA.out]), HF, hb5, Gx, ?_⟩
            exact (((H.pull (r := vwr Gx _ _ _ _) pU).pull (r := row 129 g _) pU)).sub sU
      · have kli : ¬ (k : Int) < (n : Int) := by omega
        clear hgo hlt
        go_upto_region 9 with (first | (go_at_call 129; (with_reducible refine (rplaces2_ok g s4 l4 e4 d am cm (by omega) hb4 _ (H.pull (r := row 129 g _) pU) (by repeat (first | exact hML | apply List.Sublist.cons)) mE).mono ?_); rintro e w1 ⟨v, rfl, hr⟩; obtain ⟨s5, l5, e5, ab, cb, q, rfl, HQ, hb5, H2⟩ := hr; clear H; have H := H2; clear H2) | (with_reducible refine wpl rfl (stQ (ty := 31) rfl ?_); first | (with_reducible refine (Stp.stc rfl size31 rfl rfl rfl rfl H uP (by first | omega | (simp; done) | (simp; omega)) ?_); clear H; intro w1 H; simp only [pS]; simp only [pE, nC, pS] at H)) | (with_reducible refine wpl rfl (ldQ (ty := 31) rfl ?_); first | (with_reducible refine (Stp.ldo rfl agg31 rfl H (by assumption) (by assumption) ?_); simp only [pS]) | (with_reducible refine (Stp.ldc rfl agg31 rfl H mR cE ?_); simp only [pS])))
        have hq24 : q.length ≤ 24 := by have := (plcF_sm HOK.out (s := (l4, e4))).1; rw [HQ.out] at this; exact this
        have HR : Hid (vwR (l, e) = (⟨id, d, acc, q⟩, (l5, e5))) := Lib.hid (by
          unfold vwR
          simp only
          rw [HZ1.out]
          simp only
          rw [HZ2.out]
          simp only
          rw [HZ3.out]
          simp only
          rw [HV.out]
          simp only
          rw [HQ.out])
        have HFV : Hid (vwF (l, e) = if (mayE (l5, e5) (vOk ⟨id, d, acc, q⟩)).2 ≠ 0 then (vw0, mayE (l5, e5) (vOk ⟨id, d, acc, q⟩)) else (⟨id, d, acc, q⟩, mayE (l5, e5) (vOk ⟨id, d, acc, q⟩))) := Lib.hid (by unfold vwF; simp only; rw [HR.out])
        obtain ⟨Gx, H2⟩ := St.vwrOf (⟨id, d, acc, q⟩ : Vw) ((((H.pull (r := slc 30 2 (.slice ab q.length cb) _ _) pU).pull (r := lvr G hd acc k) pU).pull (r := slc 31 1 (.slice av k cv) k (hdv hd k)) pU).pull (r := slc 30 2 (.slice am d.length cm) d.length (pv d)) pU) rfl HA.out rfl (Nat.le_trans hd24 (by decide)) (by omega) (Nat.le_trans hq24 (by decide))
        clear H
        have H := H2
        clear H2
        have hsm := vwR_sm (l, e)
        rw [HR.out] at hsm
        have HX1 := Lib.hid hsm.1
        have HX2 := Lib.hid hsm.2.1
        have HK := HA
        clear hsm hq24
        by_cases he5 : e5 ≠ 0
        · have hei5 : ((e5 : Int) == 0) = false := by simp; omega
          have hei6 : ((e5 : Int) != 0) = true := by simp; omega
          have HF : Hid (vwF (l, e) = (vw0, (l5, e5))) := Lib.hid (by
            have hm : ∀ b, mayE (l5, e5) b = (l5, e5) := fun b => by unfold mayE; rw [if_neg (fun h => he5 h.1)]
            rw [HFV.out, hm, if_pos he5])
          clear he5
          go_wp2_with (first | (with_reducible refine wpl rfl (dQ 58 rfl ?_); with_reducible refine (Stp.build (v := (.agg #[.int .u64 0, .slice none 0 0, .slice none 0 0, .slice none 0 0])) 58 rfl rfl (fun W => by kernel_rfl) ?_); simp only [pS]) | (with_reducible refine wpl rfl (stQ (ty := 34) rfl ?_); first | (with_reducible refine (Stp.str rfl size34 rfl rfl (by first | rfl | (simp [Value.oneCell']; done) | assumption) H uP sZ sZ ?_); clear H; intro w1 H; simp only [pS]) | (with_reducible refine (Stp.stl rfl size34 rfl rfl rfl rfl H uP (by simp) ?_); clear H; intro w1 H; simp only [pS]; simp only [List.drop_succ_cons, List.drop_zero, List.take_succ_cons, List.take_zero, List.nil_append, List.cons_append, Nat.reduceAdd] at H)) | (with_reducible refine wpl rfl (ldQ (ty := 3) rfl ?_); first | (with_reducible refine (Stp.ldo rfl agg3 rfl H (by assumption) (by assumption) ?_); simp only [pS]) | (with_reducible refine (Stp.ldc rfl agg3 rfl H mR cE ?_); simp only [pS])))
          refine post_row rfl agg34 size34 rfl H mE rfl rfl ?_
          first | refine ⟨_, rfl, s5, l5, e5, vw0, none, 0, none, 0, none, 0, (fun _ => False), rfl, HF, hb5, ?_⟩ | refine ⟨_, rfl, s5, l5, e5, vw0, none, 0, none, 0, none, 0, rfl, HF, hb5, (fun _ => False), ?_⟩
          exact ((vwr0 H).pull (r := row 129 g _) pU).sub (L' := row 129 g #[s5, .int .i64 (e5 : Int)] :: vwr (fun _ => False) (.slice none 0 0) (.slice none 0 0) (.slice none 0 0) vw0 :: M) sU
        · obtain rfl : e5 = 0 := by omega
          have hei5 : (((0 : Nat) : Int) == 0) = true := by simp
          have hei6 : (((0 : Nat) : Int) != 0) = false := by simp
          cases hv : vOk ⟨id, d, acc, q⟩
          · have HF : Hid (vwF (l, e) = (vw0, (l5, 5))) := Lib.hid (by
              rw [HFV.out, hv]
              unfold mayE
              simp)
            obtain ⟨c, hc⟩ : ∃ c, vOk ⟨id, d, acc, q⟩ = c := ⟨_, rfl⟩
            have HC := Lib.hid hc
            have hc1 : c = false := by rw [← hc, hv]
            subst hc1
            clear hc hv he5
            go_wp2_with (first | (go_at_call 56; (with_reducible refine (rvcheckL_ok id d acc q k am cm av cv ab cb _ HX1.out HK.out HC.out _ (H.vwE (G := Gx) mE)).mono ?_); rintro e w1 ⟨v, rfl, hr⟩; obtain ⟨rfl, hb1⟩ := hr; replace H := H.grow hb1; clear hb1) | (with_reducible refine wpl rfl (dQ 58 rfl ?_); with_reducible refine (Stp.build (v := (.agg #[.int .u64 0, .slice none 0 0, .slice none 0 0, .slice none 0 0])) 58 rfl rfl (fun W => by kernel_rfl) ?_); simp only [pS]) | (with_reducible refine wpl rfl (stQ (ty := 34) rfl ?_); first | (with_reducible refine (Stp.str rfl size34 rfl rfl (by first | rfl | (simp [Value.oneCell']; done) | assumption) H uP sZ sZ ?_); clear H; intro w1 H; simp only [pS]) | (with_reducible refine (Stp.stl rfl size34 rfl rfl rfl rfl H uP (by simp) ?_); clear H; intro w1 H; simp only [pS]; simp only [List.drop_succ_cons, List.drop_zero, List.take_succ_cons, List.take_zero, List.nil_append, List.cons_append, Nat.reduceAdd] at H)) | (with_reducible refine wpl rfl (ldQ (ty := 3) rfl ?_); first | (with_reducible refine (Stp.ldo rfl agg3 rfl H (by assumption) (by assumption) ?_); simp only [pS]) | (with_reducible refine (Stp.ldc rfl agg3 rfl H mR cE ?_); simp only [pS])) | (with_reducible refine wpl rfl (ldQ (ty := 34) rfl ?_); first | (with_reducible refine (Stp.ldor rfl agg34 size34 rfl H (by assumption) sZ (by assumption) ?_); simp only [pS]) | (with_reducible refine (Stp.ldr rfl agg34 size34 rfl H mR sZ ?_); simp only [pS]) | (with_reducible refine (Stp.ldl rfl agg34 size34 rfl H mR (by simp) ?_); simp only [pS]; simp only [List.drop_succ_cons, List.drop_zero, List.take_succ_cons, List.take_zero])) | (with_reducible refine wpl rfl (stQ (ty := 3) rfl ?_); first | (with_reducible refine (Stp.stc rfl size3 rfl rfl rfl rfl H uP (by first | omega | (simp; done) | (simp; omega)) ?_); clear H; intro w1 H; simp only [pS]; simp only [pE, nC, pS] at H)))
            refine post_row rfl agg34 size34 rfl H mE rfl rfl ?_
            first | refine ⟨_, rfl, s5, l5, 5, vw0, none, 0, none, 0, none, 0, (fun _ => False), rfl, HF, hb5, ?_⟩ | refine ⟨_, rfl, s5, l5, 5, vw0, none, 0, none, 0, none, 0, rfl, HF, hb5, (fun _ => False), ?_⟩
            exact ((vwr0 H).pull (r := row 129 g _) pU).sub (L' := row 129 g #[s5, .int .i64 (5 : Int)] :: vwr (fun _ => False) (.slice none 0 0) (.slice none 0 0) (.slice none 0 0) vw0 :: M) sU
          · have HF : Hid (vwF (l, e) = (⟨id, d, acc, q⟩, (l5, 0))) := Lib.hid (by
              rw [HFV.out, hv]
              unfold mayE
              simp)
            obtain ⟨c, hc⟩ : ∃ c, vOk ⟨id, d, acc, q⟩ = c := ⟨_, rfl⟩
            have HC := Lib.hid hc
            have hc1 : c = true := by rw [← hc, hv]
            subst hc1
            clear hc hv he5
            go_wp2_with (first | (go_at_call 56; (with_reducible refine (rvcheckL_ok id d acc q k am cm av cv ab cb _ HX1.out HK.out HC.out _ (H.vwE (G := Gx) mE)).mono ?_); rintro e w1 ⟨v, rfl, hr⟩; obtain ⟨rfl, hb1⟩ := hr; replace H := H.grow hb1; clear hb1) | (with_reducible refine wpl rfl (stQ (ty := 34) rfl ?_); first | (with_reducible refine (Stp.str rfl size34 rfl rfl (by first | rfl | (simp [Value.oneCell']; done) | assumption) H uP sZ sZ ?_); clear H; intro w1 H; simp only [pS]) | (with_reducible refine (Stp.stl rfl size34 rfl rfl rfl rfl H uP (by simp) ?_); clear H; intro w1 H; simp only [pS]; simp only [List.drop_succ_cons, List.drop_zero, List.take_succ_cons, List.take_zero, List.nil_append, List.cons_append, Nat.reduceAdd] at H)) | (with_reducible refine wpl rfl (ldQ (ty := 3) rfl ?_); first | (with_reducible refine (Stp.ldo rfl agg3 rfl H (by assumption) (by assumption) ?_); simp only [pS]) | (with_reducible refine (Stp.ldc rfl agg3 rfl H mR cE ?_); simp only [pS])) | (with_reducible refine wpl rfl (ldQ (ty := 34) rfl ?_); first | (with_reducible refine (Stp.ldor rfl agg34 size34 rfl H (by assumption) sZ (by assumption) ?_); simp only [pS]) | (with_reducible refine (Stp.ldr rfl agg34 size34 rfl H mR sZ ?_); simp only [pS]) | (with_reducible refine (Stp.ldl rfl agg34 size34 rfl H mR (by simp) ?_); simp only [pS]; simp only [List.drop_succ_cons, List.drop_zero, List.take_succ_cons, List.take_zero])))
            refine post_row rfl agg34 size34 rfl H mE rfl rfl ?_
            first | refine ⟨_, rfl, s5, l5, 0, ⟨id, d, acc, q⟩, am, cm, av, cv, ab, cb, Gx, (by rw [← HA.out]), HF, hb5, ?_⟩ | refine ⟨_, rfl, s5, l5, 0, ⟨id, d, acc, q⟩, am, cm, av, cv, ab, cb, (by rw [← HA.out]), HF, hb5, Gx, ?_⟩
            exact (((H.pull (r := vwr Gx _ _ _ _) pU).pull (r := row 129 g _) pU)).sub sU
end Go.Proofs.Ytmokecicjmjkbaa
