/- The contract of layer 18's Unpack (ledger) on any bytes; the bounds stand in it. The contract of layer 18's Ledger (ledger), where it is one: Cut; the bounds stand in it. -/
import Derived.Test.YtmokecicjmjkbaaGy17
import Derived.Test.YtmokecicjmjkbaaGy19
import Derived.Test.YtmokecicjmjkbaaGy20
namespace Go.Proofs.Ytmokecicjmjkbaa
open Go.ChangeShapes Go.WideShapes Go.ChangeAt Go.RowKit Go.Deep
set_option linter.unusedVariables false
set_option linter.unusedSimpArgs false
set_option linter.unusedSectionVars false
set_option maxRecDepth 100000
set_option maxHeartbeats 4000000
theorem cgetL_ok {B : Nat} {w0 : World} {L M : List Res} (g : Nat) (s : Value) (l : List Nat) (e : Nat) (hb : Byt B w0 L s l) (w : World) (H : St B w0 w (row 144 g #[s, .int .i64 (e : Int)] :: M)) (hML : L.Sublist M) :
    Calls Try.prog 70 #[.pointer (some ⟨g, 0, none⟩)] w (Ret fun v w' => ∃ s' l' e' c ba ma la da bc mc lc dc G, v = .agg (cmC c ba ma la da bc mc lc dc) ∧ Hid (cmF (l, e) = (c, (l', e'))) ∧ Byt B w0 L s' l' ∧ St B w0 w' (row 144 g #[s', .int .i64 (e' : Int)] :: cmr G (.slice ba c.data.length bc) (.slice ma c.v.mem.length mc) (.slice la c.v.lvs.length lc) (.slice da c.v.ldr.length dc) c :: M)) := cget_ok g s l e hb hML w H
theorem lread_ok {B : Nat} {w0 : World} {M : List Res} (v : Value) (l : List Nat) (hl : l.length ≤ 100000) (hx : ∀ x ∈ l, x < 256) (w : World) (hs : Sl w 1 l.length v (elB l)) (H : St B w0 w M) :
    Calls Try.prog 66 #[v] w (Ret fun v' w' => ∃ g s ap cp, v' = .pointer (some ⟨g, 0, none⟩) ∧ Byt B w0 [slc 5 1 (.slice ap l.length cp) l.length (bv l)] s l ∧ St B w0 w' (row 144 g #[s, .int .i64 ((0 : Nat) : Int)] :: slc 5 1 (.slice ap l.length cp) l.length (bv l) :: M)) := by
  have kp9 : ∀ {w : World} {b e size m c : Nat} {A : Option Addr} {xs : List Value}, w.ownsRow b e size (.slice A m c) m xs → m ≤ c := by
    intro w b e size m c A xs h
    rcases h.2 with ⟨e1, e2⟩ | ⟨g, cap, cur, e1, hbg, hgc, hnc, hcm, hcs, htake⟩
    · omega
    · cases e1; exact hnc
  go_enter Try.func66, Try.ntmps66
  go_wp2_with fail
  refine (clone_any v l l.length rfl (by omega) _ hs).mono ?_
  rintro e w1 ⟨v, rfl, ⟨ap, cp, rfl⟩, ho, hb1⟩
  have kp := kp9 ho
  replace H := H.new hb1 (slc_sound ho) (fun g hg => (ho.lt g hg).1)
  clear hb1 ho hs kp9
  go_wp2_with (first | (with_reducible refine wpl rfl (dQ 6 rfl ?_); with_reducible refine (Stp.box 6 rfl rfl rfl H ?_); clear H; intro g6 w1 H; simp only [pS]; simp only [pE, nC, pS] at H))
  go_ret
  refine ⟨_, rfl, _, _, ap, cp, rfl, ⟨ap, l.length, cp, rfl, rfl, kp, hx, hl, fun W hb hr => ?_⟩, H⟩
  have h1 : W.ownsRow 0 5 1 (.slice ap l.length cp) l.length (bv l) := hr _ List.mem_cons_self
  exact own_sla h1 (by omega)
attribute [local irreducible] cmF numF cmsL endF lgF
theorem lunpack_ok {B : Nat} {w0 : World} {M : List Res} (v : Value) (l : List Nat) (hl : l.length ≤ 100000) (hx : ∀ x ∈ l, x < 256) (w : World) (hs : Sl w 1 l.length v (elB l)) (H : St B w0 w M) :
    Calls Try.prog 42 #[v] w (Ret fun v' w' => (∃ f : Nat, f ≠ 0 ∧ lgF l = ((0, []), f) ∧ v' = .tuple #[.pointer none, .int .i64 (f : Int)] ∧ St B w0 w' M) ∨ (∃ (a : Nat) (ks : List (Cm × Hd)) (g0 : Nat), lgF l = ((a, ks.map (·.1)), 0) ∧ v' = .tuple #[.pointer (some ⟨g0, 0, none⟩), .int .i64 0] ∧ LdSt B w0 w' g0 a ks M)) := by
  obtain ⟨⟨a, l1, e1⟩, hz1⟩ : ∃ z, numF 4611686018427387904 (l, 0) = z := ⟨_, rfl⟩
  obtain ⟨⟨n, l2, e2⟩, hz2⟩ : ∃ z, numF 64 (l1, e1) = z := ⟨_, rfl⟩
  have ha62 : a ≤ 4611686018427387904 := by have := numF_most (most := 4611686018427387904) (s := (l, 0)); rw [hz1] at this; exact this
  have hn64 : n ≤ 64 := by have := numF_most (most := 64) (s := (l1, e1)); rw [hz2] at this; exact this
  have hst : e2 ≠ 0 → n = 0 := fun h => by have := numF_stop (most := 64) (s := (l1, e1)); rw [hz2] at this; exact this h
  have HZ1 := Lib.hid hz1
  have HZ2 := Lib.hid hz2
  have HST := Lib.hid hst
  clear hz1 hz2 hst
  go_enter Try.func42, Try.ntmps42
  go_upto_region 2 with (first | (go_at_call 66; (with_reducible refine (lread_ok v l hl hx _ hs H).mono ?_); rintro e w1 ⟨v, rfl, hr⟩; obtain ⟨g, s0, ap, cp, rfl, hb0, H2⟩ := hr; clear H; have H := H2; clear H2))
  obtain ⟨T, hT⟩ : ∃ T, slc 5 1 (.slice ap l.length cp) l.length (bv l) :: M = T := ⟨_, rfl⟩
  have htm : M.Sublist T := by rw [← hT]; exact List.sublist_cons_self _ _
  have hml : [slc 5 1 (.slice ap l.length cp) l.length (bv l)].Sublist T := by rw [← hT]; exact .cons_cons _ (List.nil_sublist _)
  obtain ⟨L1, hL1⟩ : ∃ L1, [slc 5 1 (.slice ap l.length cp) l.length (bv l)] = L1 := ⟨_, rfl⟩
  rw [hT] at H
  rw [hL1] at hb0 hml
  have hTM := Lib.hid htm
  have hML := hml
  clear hT hL1 htm hml hs
  go_upto_region 3 with (first | (go_at_call 67; (with_reducible refine (mNumG4611686018427387904_ok g s0 l 0 hb0 _ (H.pull (r := row 144 g _) pU) (by repeat (first | exact hML | apply List.Sublist.cons))).mono ?_); rintro e w1 ⟨v, rfl, hr⟩; obtain ⟨rfl, s1, hb1, H2⟩ := hr; clear H; have H := H2; clear H2; rw [HZ1.out] at hb1 H ⊢; simp only at hb1 H ⊢) | (go_at_call 14; (with_reducible refine (lnew_ok a _ H).mono ?_); rintro e w1 ⟨v, rfl, hr⟩; obtain ⟨g0, rfl, ka, kc, G, H2⟩ := hr; clear H; have H := H2; clear H2))
  simp only [List.length_nil] at H
  by_cases hgt : a < n
  · obtain rfl : e2 = 0 := by
      by_cases h : e2 = 0
      · exact h
      · have := HST.out h; omega
    have HV2 := Lib.hid (lgF_ahead HZ1.out HZ2.out hgt)
    have hgi : (a : Int) < (n : Int) := by omega
    have hn0 : (0 : Int) < (n : Int) := by omega
    clear hgt HST
    go_wp2_with (first | (go_at_call 67; (with_reducible refine (mNumG64_ok g s1 l1 e1 hb1 _ (H.pull (r := row 144 g _) pU) (by repeat (first | exact hML | apply List.Sublist.cons))).mono ?_); rintro e w1 ⟨v, rfl, hr⟩; obtain ⟨rfl, s2, hb2, H2⟩ := hr; clear H; have H := H2; clear H2; rw [HZ2.out] at hb2 H ⊢; simp only at hb2 H ⊢) | (go_at_call 68; (with_reducible refine (rstop5_ok g _ 0 rfl _ (H.pull (r := row 144 g _) pU)).mono ?_); rintro e w1 ⟨v, rfl, hr⟩; obtain ⟨rfl, H2⟩ := hr; clear H; have H := H2; clear H2) | (with_reducible refine wpl rfl (ldQ (ty := 26) rfl ?_); first | (with_reducible refine (Stp.ldo rfl agg26 rfl H (by assumption) (by assumption) ?_); simp only [pS]) | (with_reducible refine (Stp.ldc rfl agg26 rfl H mR cE ?_); simp only [pS])))
    go_loopw [7] (fun i wr => i = .int .u64 0 ∧ St B w0 wr (row 144 g #[s2, .int .i64 ((5 : Nat) : Int)] :: T)) (fun _ _ => 0)
    case atStart => exact ⟨rfl, St.sub (H.pull (r := row 144 g _) pU) (.cons_cons _ (.cons _ (.cons _ (.cons _ (List.Sublist.refl _)))))⟩
    case round =>
      clear H
      obtain ⟨rfl, H⟩ := hrel
      have h50 : (((5 : Nat) : Int) == 0) = false := by decide
      have h51 : (((5 : Nat) : Int) != 0) = true := by decide
      have HE5 : Hid (endF (l2, 5) = 5) := Lib.hid (by unfold endF; exact if_pos (show (5 : Nat) ≠ 0 from by decide))
      go_wp2_with (first | (go_at_call 69; (with_reducible refine (rerr_ok _ _ _ _ (H.getHeap mE)).mono ?_); rintro e w1 ⟨v, rfl, hr⟩; obtain ⟨rfl, hb1⟩ := hr; replace H := H.grow hb1; clear hb1) | (go_at_call 71; (with_reducible refine (rendG_ok g s2 l2 5 hb2 _ (H.pull (r := row 144 g _) pU)).mono ?_); rintro e w1 ⟨v, rfl, hr⟩; obtain ⟨rfl, H2⟩ := hr; clear H; have H := H2; clear H2; rw [HE5.out]))
      go_ret2
      exact ⟨_, rfl, .inl ⟨5, by decide, HV2.out, rfl, St.sub H (.cons _ hTM.out)⟩⟩
  · have hgi : ¬ (a : Int) < (n : Int) := by omega
    have HGT := Lib.hid hgt
    clear hgt HST
    go_wp2_with (first | (go_at_call 67; (with_reducible refine (mNumG64_ok g s1 l1 e1 hb1 _ (H.pull (r := row 144 g _) pU) (by repeat (first | exact hML | apply List.Sublist.cons))).mono ?_); rintro e w1 ⟨v, rfl, hr⟩; obtain ⟨rfl, s2, hb2, H2⟩ := hr; clear H; have H := H2; clear H2; rw [HZ2.out] at hb2 H ⊢; simp only at hb2 H ⊢) | (with_reducible refine wpl rfl (ldQ (ty := 26) rfl ?_); first | (with_reducible refine (Stp.ldo rfl agg26 rfl H (by assumption) (by assumption) ?_); simp only [pS]) | (with_reducible refine (Stp.ldc rfl agg26 rfl H mR cE ?_); simp only [pS])))
    go_loopw [7] (fun i wr => ∃ (k : Nat) (s4 : Value) (l4 : List Nat) (e4 : Nat) (ks : List (Cm × Hd)) (ka : Option Addr) (kc : Nat) (G : Nat → Prop), k ≤ n ∧ i = .int .u64 (k : Int) ∧ Hid (ks.length = k) ∧ Hid (cmsL (n - k) (ks.map (·.1), (l4, e4)) = cmsL n ([], (l2, e2))) ∧ Byt B w0 L1 s4 l4 ∧ St B w0 wr (row 144 g #[s4, .int .i64 (e4 : Int)] :: row 97 g0 #[.int .u64 (a : Int), .slice ka k kc] :: slo 36 10 (.slice ka k kc) k (kv ks) :: cmsr G ks :: T)) (fun i _ => n - (intOf i).toNat)
    case atStart => exact ⟨0, s2, l2, e2, [], ka, kc, G, Nat.zero_le _, rfl, Lib.hid rfl, Lib.hid rfl, hb2, ((((H.pull (r := cmsr G []) pU).pull (r := slo 36 10 _ _ _) pU).pull (r := row 97 g0 _) pU).pull (r := row 144 g _) pU)⟩
    case round =>
      clear H hb2
      obtain ⟨k, s4, l4, e4, ks, ka, kc, G, hk, rfl, HA, HP, hb4, H⟩ := hrel
      by_cases hgo : k < n ∧ e4 = 0
      · obtain ⟨hlt, rfl⟩ := hgo
        have kli : (k : Int) < (n : Int) := by omega
        have hei : (((0 : Nat) : Int) == 0) = true := by simp
        have hp2 : cmsL (n - (k + 1)) (ks.map (·.1) ++ [(cmF (l4, 0)).1], (cmF (l4, 0)).2) = cmsL n ([], (l2, e2)) := by
          rw [← HP.out, show n - k = (n - (k + 1)) + 1 by omega]
          exact cmsL_go.symm
        have HPP := Lib.hid hp2
        clear hp2
        go_wp2_with (first | (go_at_call 69; (with_reducible refine (rerr_ok _ _ _ _ (H.getHeap mE)).mono ?_); rintro e w1 ⟨v, rfl, hr⟩; obtain ⟨rfl, hb1⟩ := hr; replace H := H.grow hb1; clear hb1))
        refine rk_begin 11 12 (fun W => St B w0 W [row 97 g0 #[.int .u64 (a : Int), .slice ka k kc]]) rfl (by kernel_rfl) ?_
        replace H := H.drew
        have HS := H
        refine rk_free (i := 0) rfl kR kR kR kR (Yld.move rfl rfl) (fun _ => (H.sub sU)) ?_; simp only [pS, pE]
        refine rk_free (i := 1) rfl kR kR kR kR (Yld.move rfl rfl) (fun _ => (H.sub sU)) ?_; simp only [pS, pE]
        refine rk_free (i := 2) rfl kR kR kR kR (Yld.o rfl) (fun _ => (H.sub sU)) ?_; simp only [pS]
        refine rk_free (i := 3) rfl kR kR kR kR (Yld.o rfl) (fun _ => (H.sub sU)) ?_; simp only [pS]
        first | (refine rk_take (i := 4) rfl kR kR kR kR kR kR (Yld.ldc rfl rfl agg93 rfl mR cE) (H.sub sU) ?_; simp only [pS]) | (refine rk_take (i := 4) rfl kR kR kR kR kR kR (Yld.ldo rfl rfl agg93 rfl (by assumption) (by assumption)) (H.sub sU) ?_; simp only [pS])
        refine rk_free (i := 5) rfl kR kR kR kR (Yld.move rfl rfl) (fun _ => (H.sub sU)) ?_; simp only [pS, pE]
        refine rk_one (i := 6) (by kernel_rfl) rfl rfl (fun K hK => ?_)
        refine wp_callf rfl ent70 (cgetL_ok g s4 l4 0 hb4 _ (H.pull (r := row 144 g _) pU) (by repeat (first | exact hML | apply List.Sublist.cons))) rfl (fun v w1 hr => ?_)
        obtain ⟨s5, l5, e5, c, ba, ma, la, da, bc, mc, lc, dc, Gc, rfl, HC, hb5, H2⟩ := hr
        clear H
        have H := H2
        clear H2
        clear HS
        have HS := H
        refine hK.out _ _ (fun _ => (H.sub sU)) ?_
        clear hK K
        simp only [pS]
        refine rk_one (i := 7) (by kernel_rfl) rfl rfl (fun K hK => ?_)
        refine Stp.wp (Stp.bsl (e := 36) (cs := (cmC c ba ma la da bc mc lc dc)) 41 rfl rfl (fun W => by kernel_rfl) H ?_)
        clear H
        intro g41 w1 H
        clear HS
        have HS := H
        refine hK.out _ _ (fun _ => (H.sub sU)) ?_
        clear hK K
        simp only [pS]
        refine rk_one (i := 8) (by kernel_rfl) rfl rfl (fun K hK => ?_)
        refine Stp.wp (Stp.appo 42 rfl rfl Try.underlying93 info36 rfl (by decide) rfl rfl H (fun _ => uP) (show ((cmC c ba ma la da bc mc lc dc).toList).length = 1 * 10 from rfl) (by omega) (newN (H.gr 36)) (cm_one _ _ _ _ _ _ _ _ _) (by unfold maxLen; omega) (by omega) ?_)
        clear H
        intro a42 c42 w1 H
        clear HS
        have HS := H
        refine hK.out _ _ (fun _ => (H.sub sU)) ?_
        clear hK K
        simp only [pS]
        refine rk_free (i := 9) rfl kR kR kR kR (Yld.o rfl) (fun _ => (H.sub sU)) ?_; simp only [pS]
        refine rk_free (i := 10) rfl kR kR kR kR (Yld.o rfl) (fun _ => (H.sub sU)) ?_; simp only [pS]
        refine rk_one (i := 11) (by kernel_rfl) rfl rfl (fun K hK => ?_)
        refine Stp.wp (Stp.stc rfl size93 rfl rfl rfl rfl H uP (by simp) ?_)
        clear H
        intro w1 H
        simp only [pE, nC, pS] at H
        clear HS
        have HS := H
        refine hK.out _ _ (fun h => by cases (show true = false from h)) ?_
        clear hK K
        simp only [pS]
        refine rk_done (by kernel_rfl) ?_
        have HP2 : Hid (cmsL (n - (k + 1)) ((ks ++ [(c, (⟨ba, ma, la, da, bc, mc, lc, dc⟩ : Hd))]).map (·.1), (l5, e5)) = cmsL n ([], (l2, e2))) := Lib.hid (by
          have := HPP.out
          rw [HC.out] at this
          rw [List.map_append]
          exact this)
        go_wp2_with fail
        obtain ⟨G', H2⟩ := St.cms1 (h := (⟨ba, ma, la, da, bc, mc, lc, dc⟩ : Hd)) ((H.pull (r := cmsr G ks) pU).pull (r := cmr Gc _ _ _ _ c) pU)
        clear H
        have H := H2
        clear H2
        have hv : kv (ks ++ [(c, (⟨ba, ma, la, da, bc, mc, lc, dc⟩ : Hd))]) = kv ks ++ (cmH c (⟨ba, ma, la, da, bc, mc, lc, dc⟩ : Hd)).toList := by rw [kv_app, kv_one]
        have HKV := Lib.hid hv
        clear hv
        go_roundw
        case rel =>
          refine ⟨k + 1, s5, l5, e5, ks ++ [(c, (⟨ba, ma, la, da, bc, mc, lc, dc⟩ : Hd))], a42, c42, G', by omega, by go_num, Lib.hid (by rw [List.length_append, HA.out]; rfl), HP2, hb5, ?_⟩
          rw [HKV.out]
          exact ((((H.pull (r := cmsr G' _) pU).pull (r := slo 36 10 (.slice a42 (k + 1) c42) _ _) pU).pull (r := row 97 g0 _) pU).pull (r := row 144 g _) pU).sub sU
        case measure => simp [intOf]; omega
      · have HV : Hid (cmsL n ([], (l2, e2)) = (ks.map (·.1), (l4, e4))) := Lib.hid (by
          rw [← HP.out]
          by_cases he4 : e4 ≠ 0
          · exact cmsL_stop he4
          · have : k = n := by
              rcases Nat.lt_or_ge k n with h | h
              · exact absurd ⟨h, by omega⟩ hgo
              · omega
            subst this
            rw [Nat.sub_self]; exact cmsL_zero)
        by_cases hlt : k < n
        · have kli : (k : Int) < (n : Int) := by omega
          have hei : ((e4 : Int) == 0) = false := by
            have : e4 ≠ 0 := fun h => hgo ⟨hlt, h⟩
            simp; omega
          clear hgo hlt
          have HLG := Lib.hid (lgF_of HZ1.out HZ2.out HGT.out HV.out)
          obtain ⟨f, hf⟩ : ∃ f, endF (l4, e4) = f := ⟨_, rfl⟩
          have HF := Lib.hid hf
          clear hf
          by_cases h0 : f ≠ 0
          · have HV2 : Hid (lgF l = ((0, []), f)) := Lib.hid (by rw [HLG.out, HF.out, if_pos h0])
            have HF0 := Lib.hid h0
            have hfi : ((f : Int) != 0) = true := by simp; omega
            clear h0
            go_wp2_with (first | (go_at_call 69; (with_reducible refine (rerr_ok _ _ _ _ (H.getHeap mE)).mono ?_); rintro e w1 ⟨v, rfl, hr⟩; obtain ⟨rfl, hb1⟩ := hr; replace H := H.grow hb1; clear hb1) | (go_at_call 71; (with_reducible refine (rendG_ok g s4 l4 e4 hb4 _ (H.pull (r := row 144 g _) pU)).mono ?_); rintro e w1 ⟨v, rfl, hr⟩; obtain ⟨rfl, H2⟩ := hr; clear H; have H := H2; clear H2; rw [HF.out]))
            go_ret2
            exact ⟨_, rfl, .inl ⟨f, HF0.out, HV2.out, rfl, St.sub (H.pull (r := row 144 g #[s4, .int .i64 (e4 : Int)]) pU) (.cons _ (.cons _ (.cons _ (.cons _ hTM.out))))⟩⟩
          · obtain rfl : f = 0 := by omega
            have HV2 : Hid (lgF l = ((a, ks.map (·.1)), 0)) := Lib.hid (by rw [HLG.out, HF.out, if_neg (by simp)])
            have hfi : (((0 : Nat) : Int) != 0) = false := by simp
            clear h0
            go_wp2_with (first | (go_at_call 69; (with_reducible refine (rerr_ok _ _ _ _ (H.getHeap mE)).mono ?_); rintro e w1 ⟨v, rfl, hr⟩; obtain ⟨rfl, hb1⟩ := hr; replace H := H.grow hb1; clear hb1) | (go_at_call 71; (with_reducible refine (rendG_ok g s4 l4 e4 hb4 _ (H.pull (r := row 144 g _) pU)).mono ?_); rintro e w1 ⟨v, rfl, hr⟩; obtain ⟨rfl, H2⟩ := hr; clear H; have H := H2; clear H2; rw [HF.out]))
            go_ret2
            refine ⟨_, rfl, .inr ⟨a, ks, g0, HV2.out, rfl, ka, kc, G, ?_⟩⟩
            rw [HA.out]
            exact St.sub ((((H.pull (r := cmsr G ks) pU).pull (r := slo 36 10 (.slice ka k kc) k (kv ks)) pU).pull (r := row 97 g0 #[.int .u64 (a : Int), .slice ka k kc]) pU).pull (r := row 144 g _) pU) (.cons _ (.cons_cons _ (.cons_cons _ (.cons_cons _ hTM.out))))
        · have kli : ¬ (k : Int) < (n : Int) := by omega
          clear hgo hlt
          have HLG := Lib.hid (lgF_of HZ1.out HZ2.out HGT.out HV.out)
          obtain ⟨f, hf⟩ : ∃ f, endF (l4, e4) = f := ⟨_, rfl⟩
          have HF := Lib.hid hf
          clear hf
          by_cases h0 : f ≠ 0
          · have HV2 : Hid (lgF l = ((0, []), f)) := Lib.hid (by rw [HLG.out, HF.out, if_pos h0])
            have HF0 := Lib.hid h0
            have hfi : ((f : Int) != 0) = true := by simp; omega
            clear h0
            go_wp2_with (first | (go_at_call 71; (with_reducible refine (rendG_ok g s4 l4 e4 hb4 _ (H.pull (r := row 144 g _) pU)).mono ?_); rintro e w1 ⟨v, rfl, hr⟩; obtain ⟨rfl, H2⟩ := hr; clear H; have H := H2; clear H2; rw [HF.out]))
            go_ret2
            exact ⟨_, rfl, .inl ⟨f, HF0.out, HV2.out, rfl, St.sub (H.pull (r := row 144 g #[s4, .int .i64 (e4 : Int)]) pU) (.cons _ (.cons _ (.cons _ (.cons _ hTM.out))))⟩⟩
          · obtain rfl : f = 0 := by omega
            have HV2 : Hid (lgF l = ((a, ks.map (·.1)), 0)) := Lib.hid (by rw [HLG.out, HF.out, if_neg (by simp)])
            have hfi : (((0 : Nat) : Int) != 0) = false := by simp
            clear h0
            go_wp2_with (first | (go_at_call 71; (with_reducible refine (rendG_ok g s4 l4 e4 hb4 _ (H.pull (r := row 144 g _) pU)).mono ?_); rintro e w1 ⟨v, rfl, hr⟩; obtain ⟨rfl, H2⟩ := hr; clear H; have H := H2; clear H2; rw [HF.out]))
            go_ret2
            refine ⟨_, rfl, .inr ⟨a, ks, g0, HV2.out, rfl, ka, kc, G, ?_⟩⟩
            rw [HA.out]
            exact St.sub ((((H.pull (r := cmsr G ks) pU).pull (r := slo 36 10 (.slice ka k kc) k (kv ks)) pU).pull (r := row 97 g0 #[.int .u64 (a : Int), .slice ka k kc]) pU).pull (r := row 144 g _) pU) (.cons _ (.cons_cons _ (.cons_cons _ (.cons_cons _ hTM.out))))
end Go.Proofs.Ytmokecicjmjkbaa
namespace Go.Proofs.Ytmokecicjmjkbaa
open Go.ChangeShapes Go.WideShapes Go.ChangeAt Go.RowKit Go.Maps
set_option linter.unusedVariables false
set_option linter.unusedSimpArgs false
/-- How many are cut off. -/
def cutN (ap n st : Nat) : Nat := if st < ap + 1 - n then 0 else match plc ap n st with | some k => k + 1 | none => n
set_option maxRecDepth 100000 in
set_option maxHeartbeats 4000000 in
theorem lcut_ok {B : Nat} {w0 : World} {L : List Res} (g0 ap st : Nat) (ks : List (Cm × Hd)) (hn : ks.length ≤ 64) (ha : ap + 1 < 18446744073709551616) (hna : ks.length ≤ ap + 1) (hs : st < 18446744073709551616) (w : World) (H0 : LdSt B w0 w g0 ap ks L) :
    Calls Try.prog 35 #[.pointer (some ⟨g0, 0, none⟩), .int .u64 (st : Int)] w (Ret fun v w' => v = .int .i64 ((cutN ap ks.length st : Nat) : Int) ∧ LdSt B w0 w' g0 ap (ks.drop (cutN ap ks.length st)) L) := by
  obtain ⟨ka, kc, G, H⟩ := H0
  obtain ⟨n, hkn⟩ : ∃ n, ks.length = n := ⟨_, rfl⟩
  have HKN := Lib.hid hkn
  rw [hkn] at H hn hna ⊢
  clear hkn
  have hcap := H.slo_cap (e := 36) (size := 10) (xs := kv ks) mE
  by_cases h1 : st < ap + 1 - n
  · have HC : Hid (cutN ap n st = 0) := Lib.hid (by unfold cutN; rw [if_pos h1])
    have h1i : (st : Int) < ((ap + 1 - n : Nat) : Int) := by omega
    obtain ⟨f, hf⟩ : ∃ f, ap + 1 - n = f := ⟨_, rfl⟩
    simp only [hf] at h1i
    have HF := Lib.hid hf
    clear h1
    go_enter Try.func35, Try.ntmps35
    go_wp2_with (first | (go_at_call 32; (with_reducible refine (lFrom_ok g0 ap n kc _ (by omega) hna (by omega) _ (H.getHeap mE)).mono ?_); rintro e w1 ⟨v, rfl, hr⟩; obtain ⟨rfl, hb1⟩ := hr; replace H := H.grow hb1; clear hb1; rw [HF.out]) | (with_reducible refine wpl rfl (ldQ (ty := 93) rfl ?_); first | (with_reducible refine (Stp.ldo rfl agg93 rfl H (by assumption) (by assumption) ?_); simp only [pS]) | (with_reducible refine (Stp.ldc rfl agg93 rfl H mR cE ?_); simp only [pS])) | (with_reducible refine wpl rfl (stQ (ty := 93) rfl ?_); first | (with_reducible refine (Stp.stc rfl size93 rfl rfl rfl rfl H uP (by first | omega | (simp; done) | (simp; omega)) ?_); clear H; intro w1 H; simp only [pS]; simp only [pE, nC, pS] at H)))
    go_ret
    exact ⟨_, rfl, by rw [HC.out]; rfl, ka, kc, G, by rw [HC.out, List.drop_zero, HKN.out]; exact H.sub sU⟩
  · have h1i : ¬ (st : Int) < ((ap + 1 - n : Nat) : Int) := by omega
    obtain ⟨f, hf⟩ : ∃ f, ap + 1 - n = f := ⟨_, rfl⟩
    simp only [hf] at h1i
    have HF := Lib.hid hf
    cases hp : plc ap n st with
    | none =>
      have HC : Hid (cutN ap n st = n) := Lib.hid (by unfold cutN; rw [if_neg h1, hp])
      have HP := Lib.hid hp
      clear hp h1
      go_enter Try.func35, Try.ntmps35
      go_wp2_with (first | (go_at_call 32; (with_reducible refine (lFrom_ok g0 ap n kc _ (by omega) hna (by omega) _ (H.getHeap mE)).mono ?_); rintro e w1 ⟨v, rfl, hr⟩; obtain ⟨rfl, hb1⟩ := hr; replace H := H.grow hb1; clear hb1; rw [HF.out]) | (go_at_call 50; (with_reducible refine (place_ok g0 ap n kc st _ (by omega) hs (by omega) _ (H.getHeap mE)).mono ?_); rintro e w1 ⟨v, rfl, hr⟩; rw [HP.out] at hr; obtain ⟨rfl, hb1⟩ := hr; replace H := H.grow hb1; clear hb1) | (with_reducible refine wpl rfl (dQ 36 rfl ?_); with_reducible refine (Stp.slfromN (k := n) (size := 10) 36 rfl rfl Try.underlying93 size36 rfl rfl rfl (by omega) ?_); intro A36 hA36; have H36 := Lib.hid hA36; clear hA36; simp only [pS]) | (with_reducible refine wpl rfl (ldQ (ty := 93) rfl ?_); first | (with_reducible refine (Stp.ldo rfl agg93 rfl H (by assumption) (by assumption) ?_); simp only [pS]) | (with_reducible refine (Stp.ldc rfl agg93 rfl H mR cE ?_); simp only [pS])) | (with_reducible refine wpl rfl (stQ (ty := 93) rfl ?_); first | (with_reducible refine (Stp.stc rfl size93 rfl rfl rfl rfl H uP (by first | omega | (simp; done) | (simp; omega)) ?_); clear H; intro w1 H; simp only [pS]; simp only [pE, nC, pS] at H)))
      go_ret
      refine ⟨_, rfl, by rw [HC.out]; first | rfl | simp, A36, kc - (n), G, ?_⟩
      rw [HC.out]
      have hl : (ks.drop (n)).length = n - (n) := by rw [List.length_drop, HKN.out]
      rw [hl, ← kv_drop]
      have H2 := St.slo_drop (k := n) (a' := A36) (H.pull (r := slo 36 10 (.slice ka n kc) n (kv ks)) pU) Upd.head (by omega) H36.out
      have H3 := St.cmsd (ls := ks.drop (n)) (H2.pull (r := cmsr G ks) pU) (fun p hp => List.mem_of_mem_drop hp)
      exact ((H3.pull (r := slo 36 10 (.slice A36 (n - (n)) (kc - (n))) (n - (n)) _) pU).pull (r := row 97 g0 _) pU).sub sU

    | some k =>
      have hk := plc_lt hp
      have HC : Hid (cutN ap n st = k + 1) := Lib.hid (by unfold cutN; rw [if_neg h1, hp])
      have HP := Lib.hid hp
      clear hp h1
      go_enter Try.func35, Try.ntmps35
      go_wp2_with (first | (go_at_call 32; (with_reducible refine (lFrom_ok g0 ap n kc _ (by omega) hna (by omega) _ (H.getHeap mE)).mono ?_); rintro e w1 ⟨v, rfl, hr⟩; obtain ⟨rfl, hb1⟩ := hr; replace H := H.grow hb1; clear hb1; rw [HF.out]) | (go_at_call 50; (with_reducible refine (place_ok g0 ap n kc st _ (by omega) hs (by omega) _ (H.getHeap mE)).mono ?_); rintro e w1 ⟨v, rfl, hr⟩; rw [HP.out] at hr; obtain ⟨rfl, hb1⟩ := hr; replace H := H.grow hb1; clear hb1) | (with_reducible refine wpl rfl (dQ 36 rfl ?_); with_reducible refine (Stp.slfromN (k := k + 1) (size := 10) 36 rfl rfl Try.underlying93 size36 rfl rfl (by simp) (by omega) ?_); intro A36 hA36; have H36 := Lib.hid hA36; clear hA36; simp only [pS]) | (with_reducible refine wpl rfl (ldQ (ty := 93) rfl ?_); first | (with_reducible refine (Stp.ldo rfl agg93 rfl H (by assumption) (by assumption) ?_); simp only [pS]) | (with_reducible refine (Stp.ldc rfl agg93 rfl H mR cE ?_); simp only [pS])) | (with_reducible refine wpl rfl (stQ (ty := 93) rfl ?_); first | (with_reducible refine (Stp.stc rfl size93 rfl rfl rfl rfl H uP (by first | omega | (simp; done) | (simp; omega)) ?_); clear H; intro w1 H; simp only [pS]; simp only [pE, nC, pS] at H)))
      go_ret
      refine ⟨_, rfl, by rw [HC.out]; first | rfl | simp, A36, kc - (k + 1), G, ?_⟩
      rw [HC.out]
      have hl : (ks.drop (k + 1)).length = n - (k + 1) := by rw [List.length_drop, HKN.out]
      rw [hl, ← kv_drop]
      have H2 := St.slo_drop (k := k + 1) (a' := A36) (H.pull (r := slo 36 10 (.slice ka n kc) n (kv ks)) pU) Upd.head (by omega) H36.out
      have H3 := St.cmsd (ls := ks.drop (k + 1)) (H2.pull (r := cmsr G ks) pU) (fun p hp => List.mem_of_mem_drop hp)
      exact ((H3.pull (r := slo 36 10 (.slice A36 (n - (k + 1)) (kc - (k + 1))) (n - (k + 1)) _) pU).pull (r := row 97 g0 _) pU).sub sU

end Go.Proofs.Ytmokecicjmjkbaa
