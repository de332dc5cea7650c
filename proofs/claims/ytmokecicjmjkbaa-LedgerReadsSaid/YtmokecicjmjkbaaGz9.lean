/- Contracts of the references' Same over views and commands (choragusref08, 09); no condition. Contracts of slices.Clone over processes, and of layers 8's and 9's Copy (view, cmd): what is copied lies on new blocks; the bounds stand in each. -/
import Derived.Test.YtmokecicjmjkbaaGz3
import Derived.Test.YtmokecicjmjkbaaGz8
namespace Go.Proofs.Ytmokecicjmjkbaa
open Go.ChangeShapes Go.WideShapes Go.ChangeAt Go.RowKit Go.Maps
set_option linter.unusedVariables false
set_option linter.unusedSimpArgs false
set_option maxRecDepth 100000 in
set_option maxHeartbeats 4000000 in
theorem rvsame_is {G1 G2 : Nat → Prop} (x y : Vw) (ma la da mb lb db : Option Addr) (mc lc dc md ld dd : Nat) (w : World) (e : Bool)
    (hx : VwG G1 w (.slice ma x.mem.length mc) (.slice la x.lvs.length lc) (.slice da x.ldr.length dc) x) (hy : VwG G2 w (.slice mb y.mem.length md) (.slice lb y.lvs.length ld) (.slice db y.ldr.length dd) y) (he : vSame x y = e) :
    Calls Try.prog 57 #[.agg (vwC x ma la da mc lc dc), .agg (vwC y mb lb db md ld dd)] w (Ret fun v w' => v = .bool e ∧ Below w.heap.size w w') := by
  have H := St.init w
  simp only [vwC]
  obtain ⟨hx1, hx2, hx3⟩ := hx
  obtain ⟨hy1, hy2, hy3⟩ := hy
  subst he
  by_cases g0 : x.id = y.id
  · have i0 : ((x.id : Int) != (y.id : Int)) = false := by simp [g0]
    by_cases g1 : x.mem = y.mem
    · have E1 := Lib.hid (decide_eq_true g1)
      by_cases g3 : x.ldr = y.ldr
      · have E3 := Lib.hid (decide_eq_true g3)
        have hV : vSame x y = decide (x.lvs = y.lvs) := by simp [vSame, g0, g1, g3]
        have HV0 := Lib.hid hV
        clear g0 g1 g3 hV
        by_cases hlen : x.lvs.length = y.lvs.length
        · obtain ⟨n, hn⟩ : ∃ n, y.lvs.length = n := ⟨_, rfl⟩
          have hln : x.lvs.length = n := hlen.trans hn
          have HN := Lib.hid hn
          have HL := Lib.hid hln
          rw [hn] at hy2 ⊢
          rw [hln] at hx2 ⊢
          have hnl : n ≤ 9223372036854775807 := by
            have h := hx2
            obtain ⟨_, ⟨_, _, _, hm, _⟩, _⟩ := h
            unfold maxLen at hm
            omega
          clear hn hln hlen
          go_enter Try.func57, Try.ntmps57
          go_wp2_with (first | (go_at_call 88; (first | ((with_reducible refine (rpsame_ok _ _ x.mem y.mem _ (hx1.sl.grow H.below) (hy1.sl.grow H.below)).mono ?_); rintro e w1 ⟨v, rfl, hr⟩; obtain ⟨rfl, hb1⟩ := hr; replace H := H.grow hb1; clear hb1; rw [E1.out]) | ((with_reducible refine (rpsame_ok _ _ x.ldr y.ldr _ (hx3.sl.grow H.below) (hy3.sl.grow H.below)).mono ?_); rintro e w1 ⟨v, rfl, hr⟩; obtain ⟨rfl, hb1⟩ := hr; replace H := H.grow hb1; clear hb1; rw [E3.out]))) | (with_reducible refine wpl rfl (dQ 2 rfl ?_); with_reducible refine (Stp.box 2 rfl rfl rfl H ?_); clear H; intro g2 w1 H; simp only [pS]; simp only [pE, nC, pS] at H) | (with_reducible refine wpl rfl (dQ 3 rfl ?_); with_reducible refine (Stp.box 3 rfl rfl rfl H ?_); clear H; intro g3 w1 H; simp only [pS]; simp only [pE, nC, pS] at H) | (with_reducible refine wpl rfl (ldQ (ty := 26) rfl ?_); first | (with_reducible refine (Stp.ldo rfl agg26 rfl H (by assumption) (by assumption) ?_); simp only [pS]) | (with_reducible refine (Stp.ldc rfl agg26 rfl H mR cE ?_); simp only [pS])) | (with_reducible refine wpl rfl (ldQ (ty := 31) rfl ?_); first | (with_reducible refine (Stp.ldo rfl agg31 rfl H (by assumption) (by assumption) ?_); simp only [pS]) | (with_reducible refine (Stp.ldc rfl agg31 rfl H mR cE ?_); simp only [pS])) | (with_reducible refine wpl rfl (ldQ (ty := 32) rfl ?_); first | (with_reducible refine (Stp.ldo rfl agg32 rfl H (by assumption) (by assumption) ?_); simp only [pS]) | (with_reducible refine (Stp.ldc rfl agg32 rfl H mR cE ?_); simp only [pS])))
          go_loopw [5] (fun i wr => ∃ k : Nat, k ≤ n ∧ i = .int .i64 k ∧ Hid (x.lvs.take k = y.lvs.take k) ∧ St w.heap.size w wr [row 34 g3 #[.int .u64 (y.id : Int), .slice mb y.mem.length md, .slice lb n ld, .slice db y.ldr.length dd], row 34 g2 #[.int .u64 (x.id : Int), .slice ma x.mem.length mc, .slice la n lc, .slice da x.ldr.length dc]]) (fun i _ => n - (intOf i).toNat)
          case atStart => exact ⟨0, Nat.zero_le _, rfl, Lib.hid (by simp), H⟩
          case round =>
            clear H
            obtain ⟨k, hk, rfl, HT, H⟩ := hrel
            by_cases hlt : k < n
            · have hl1 : k < x.lvs.length := by rw [HL.out]; exact hlt
              have hm1 : k < y.lvs.length := by rw [HN.out]; exact hlt
              obtain ⟨b1, o1, a1, c1, rfl, hb1, hc1, hs1⟩ := hx2.at HL.out hl1
              obtain ⟨b2, o2, a2, c2, rfl, hb2, hc2, hs2⟩ := hy2.at HN.out hm1
              have ht1 := List.take_succ_eq_append_getElem hl1
              have ht2 := List.take_succ_eq_append_getElem hm1
              obtain ⟨p, hp⟩ : ∃ p, x.lvs[k] = p := ⟨_, rfl⟩
              obtain ⟨q, hq⟩ : ∃ q, y.lvs[k] = q := ⟨_, rfl⟩
              rw [hp] at hc1 ht1 hs1
              rw [hq] at hc2 ht2 hs2
              have kli : (k : Int) < (n : Int) := by omega
              have HT1 := Lib.hid ht1
              have HT2 := Lib.hid ht2
              by_cases he0 : p = q
              · have HE := Lib.hid (decide_eq_true he0)
                have HX := Lib.hid he0
                clear ht1 ht2 hp hq he0
                go_wp2_with (first | (with_reducible refine wpl rfl (dQ 2 rfl ?_); with_reducible refine (Stp.box 2 rfl rfl rfl H ?_); clear H; intro g2 w1 H; simp only [pS]; simp only [pE, nC, pS] at H) | (with_reducible refine wpl rfl (dQ 3 rfl ?_); with_reducible refine (Stp.box 3 rfl rfl rfl H ?_); clear H; intro g3 w1 H; simp only [pS]; simp only [pE, nC, pS] at H) | (with_reducible refine wpl rfl (ldQ (ty := 26) rfl ?_); first | (with_reducible refine (Stp.ldo rfl agg26 rfl H (by assumption) (by assumption) ?_); simp only [pS]) | (with_reducible refine (Stp.ldc rfl agg26 rfl H mR cE ?_); simp only [pS])) | (with_reducible refine wpl rfl (ldQ (ty := 31) rfl ?_); first | (with_reducible refine (Stp.ldo rfl agg31 rfl H (by assumption) (by assumption) ?_); simp only [pS]) | (with_reducible refine (Stp.ldc rfl agg31 rfl H mR cE ?_); simp only [pS])) | (with_reducible refine wpl rfl (ldQ (ty := 32) rfl ?_); first | (with_reducible refine (Stp.ldo rfl agg32 rfl H (by assumption) (by assumption) ?_); simp only [pS]) | (with_reducible refine (Stp.ldc rfl agg32 rfl H mR cE ?_); simp only [pS])))
                refine rg_begin 12 rfl (S := fun W => St _ _ W [row 34 g3 #[.int .u64 (y.id : Int), .slice mb y.mem.length md, .slice (some ⟨b2, o2, none⟩) n ld, .slice db y.ldr.length dd], row 34 g2 #[.int .u64 (x.id : Int), .slice ma x.mem.length mc, .slice (some ⟨b1, o1, none⟩) n lc, .slice da x.ldr.length dc]]) (by kernel_rfl) (H.drew.sub sU) ?_
                replace H := H.drew
                have HS := H
                refine rg_take (i := 0) rfl kR kR kR (Yld.o rfl) (H.sub sU) ?_; simp only [pS]
                first | (refine rg_take (i := 1) rfl kR kR kR (Yld.ldo rfl rfl agg32 rfl (by assumption) (by assumption)) (H.sub sU) ?_; simp only [pS]) | (refine rg_take (i := 1) rfl kR kR kR (Yld.ldc rfl rfl agg32 rfl mR cE) (H.sub sU) ?_; simp only [pS])
                refine rg_take (i := 2) rfl kR kR kR (Yld.move rfl rfl) (H.sub sU) ?_; simp only [pS, pE]
                refine rg_take (i := 3) rfl kR kR kR (Yld.o rfl) (H.sub sU) ?_; simp only [pS]
                first | (refine rg_take (i := 4) rfl kR kR kR (Yld.ldo rfl rfl agg31 rfl (by assumption) (by assumption)) (H.sub sU) ?_; simp only [pS]) | (refine rg_take (i := 4) rfl kR kR kR (Yld.ldc rfl rfl agg31 rfl mR cE) (H.sub sU) ?_; simp only [pS])
                refine rg_take (i := 5) rfl kR kR kR (Yld.o rfl) (H.sub sU) ?_; simp only [pS]
                first | (refine rg_take (i := 6) rfl kR kR kR (Yld.ldo rfl rfl agg32 rfl (by assumption) (by assumption)) (H.sub sU) ?_; simp only [pS]) | (refine rg_take (i := 6) rfl kR kR kR (Yld.ldc rfl rfl agg32 rfl mR cE) (H.sub sU) ?_; simp only [pS])
                refine rg_take (i := 7) rfl kR kR kR (Yld.move rfl rfl) (H.sub sU) ?_; simp only [pS, pE]
                refine rg_take (i := 8) rfl kR kR kR (Yld.o rfl) (H.sub sU) ?_; simp only [pS]
                first | (refine rg_take (i := 9) rfl kR kR kR (Yld.ldo rfl rfl agg31 rfl (by assumption) (by assumption)) (H.sub sU) ?_; simp only [pS]) | (refine rg_take (i := 9) rfl kR kR kR (Yld.ldc rfl rfl agg31 rfl mR cE) (H.sub sU) ?_; simp only [pS])
                refine rg_one (i := 10) (by kernel_rfl) rfl rfl (fun K hK => ?_)
                refine wp_callf rfl ent88 (rpsame_ok _ _ p q _ (hs1.sl.grow H.below) (hs2.sl.grow H.below)) rfl (fun v w1 hr => ?_)
                obtain ⟨rfl, hb1⟩ := hr
                replace H := H.grow hb1
                clear hb1
                rw [HE.out]
                clear HS
                have HS := H
                refine hK.out _ _ (H.sub sU) ?_
                clear hK K
                simp only [pS]
                refine rg_take (i := 11) rfl kR kR kR (Yld.o rfl) (H.sub sU) ?_; simp only [pS]
                refine rg_done (by kernel_rfl) ?_
                go_wp2_with (first | (with_reducible refine wpl rfl (dQ 2 rfl ?_); with_reducible refine (Stp.box 2 rfl rfl rfl H ?_); clear H; intro g2 w1 H; simp only [pS]; simp only [pE, nC, pS] at H) | (with_reducible refine wpl rfl (dQ 3 rfl ?_); with_reducible refine (Stp.box 3 rfl rfl rfl H ?_); clear H; intro g3 w1 H; simp only [pS]; simp only [pE, nC, pS] at H) | (with_reducible refine wpl rfl (ldQ (ty := 26) rfl ?_); first | (with_reducible refine (Stp.ldo rfl agg26 rfl H (by assumption) (by assumption) ?_); simp only [pS]) | (with_reducible refine (Stp.ldc rfl agg26 rfl H mR cE ?_); simp only [pS])) | (with_reducible refine wpl rfl (ldQ (ty := 31) rfl ?_); first | (with_reducible refine (Stp.ldo rfl agg31 rfl H (by assumption) (by assumption) ?_); simp only [pS]) | (with_reducible refine (Stp.ldc rfl agg31 rfl H mR cE ?_); simp only [pS])) | (with_reducible refine wpl rfl (ldQ (ty := 32) rfl ?_); first | (with_reducible refine (Stp.ldo rfl agg32 rfl H (by assumption) (by assumption) ?_); simp only [pS]) | (with_reducible refine (Stp.ldc rfl agg32 rfl H mR cE ?_); simp only [pS])))
                go_roundw
                case rel => exact ⟨k + 1, by omega, by go_num, Lib.hid (by rw [HT1.out, HT2.out, HT.out, HX.out]), H⟩
                case measure => simp [intOf]; omega
              · have hnn : ¬ x.lvs = y.lvs := fun e => he0 (by rw [← hp, ← hq]; simp only [e])
                have HV : Hid (vSame x y = false) := Lib.hid (by rw [HV0.out]; exact decide_eq_false hnn)
                have HE := Lib.hid (decide_eq_false he0)
                clear ht1 ht2 hp hq hnn he0
                go_wp2_with (first | (with_reducible refine wpl rfl (dQ 2 rfl ?_); with_reducible refine (Stp.box 2 rfl rfl rfl H ?_); clear H; intro g2 w1 H; simp only [pS]; simp only [pE, nC, pS] at H) | (with_reducible refine wpl rfl (dQ 3 rfl ?_); with_reducible refine (Stp.box 3 rfl rfl rfl H ?_); clear H; intro g3 w1 H; simp only [pS]; simp only [pE, nC, pS] at H) | (with_reducible refine wpl rfl (ldQ (ty := 26) rfl ?_); first | (with_reducible refine (Stp.ldo rfl agg26 rfl H (by assumption) (by assumption) ?_); simp only [pS]) | (with_reducible refine (Stp.ldc rfl agg26 rfl H mR cE ?_); simp only [pS])) | (with_reducible refine wpl rfl (ldQ (ty := 31) rfl ?_); first | (with_reducible refine (Stp.ldo rfl agg31 rfl H (by assumption) (by assumption) ?_); simp only [pS]) | (with_reducible refine (Stp.ldc rfl agg31 rfl H mR cE ?_); simp only [pS])) | (with_reducible refine wpl rfl (ldQ (ty := 32) rfl ?_); first | (with_reducible refine (Stp.ldo rfl agg32 rfl H (by assumption) (by assumption) ?_); simp only [pS]) | (with_reducible refine (Stp.ldc rfl agg32 rfl H mR cE ?_); simp only [pS])))
                refine rg_begin 12 rfl (S := fun W => St _ _ W [row 34 g3 #[.int .u64 (y.id : Int), .slice mb y.mem.length md, .slice (some ⟨b2, o2, none⟩) n ld, .slice db y.ldr.length dd], row 34 g2 #[.int .u64 (x.id : Int), .slice ma x.mem.length mc, .slice (some ⟨b1, o1, none⟩) n lc, .slice da x.ldr.length dc]]) (by kernel_rfl) (H.drew.sub sU) ?_
                replace H := H.drew
                have HS := H
                refine rg_take (i := 0) rfl kR kR kR (Yld.o rfl) (H.sub sU) ?_; simp only [pS]
                first | (refine rg_take (i := 1) rfl kR kR kR (Yld.ldo rfl rfl agg32 rfl (by assumption) (by assumption)) (H.sub sU) ?_; simp only [pS]) | (refine rg_take (i := 1) rfl kR kR kR (Yld.ldc rfl rfl agg32 rfl mR cE) (H.sub sU) ?_; simp only [pS])
                refine rg_take (i := 2) rfl kR kR kR (Yld.move rfl rfl) (H.sub sU) ?_; simp only [pS, pE]
                refine rg_take (i := 3) rfl kR kR kR (Yld.o rfl) (H.sub sU) ?_; simp only [pS]
                first | (refine rg_take (i := 4) rfl kR kR kR (Yld.ldo rfl rfl agg31 rfl (by assumption) (by assumption)) (H.sub sU) ?_; simp only [pS]) | (refine rg_take (i := 4) rfl kR kR kR (Yld.ldc rfl rfl agg31 rfl mR cE) (H.sub sU) ?_; simp only [pS])
                refine rg_take (i := 5) rfl kR kR kR (Yld.o rfl) (H.sub sU) ?_; simp only [pS]
                first | (refine rg_take (i := 6) rfl kR kR kR (Yld.ldo rfl rfl agg32 rfl (by assumption) (by assumption)) (H.sub sU) ?_; simp only [pS]) | (refine rg_take (i := 6) rfl kR kR kR (Yld.ldc rfl rfl agg32 rfl mR cE) (H.sub sU) ?_; simp only [pS])
                refine rg_take (i := 7) rfl kR kR kR (Yld.move rfl rfl) (H.sub sU) ?_; simp only [pS, pE]
                refine rg_take (i := 8) rfl kR kR kR (Yld.o rfl) (H.sub sU) ?_; simp only [pS]
                first | (refine rg_take (i := 9) rfl kR kR kR (Yld.ldo rfl rfl agg31 rfl (by assumption) (by assumption)) (H.sub sU) ?_; simp only [pS]) | (refine rg_take (i := 9) rfl kR kR kR (Yld.ldc rfl rfl agg31 rfl mR cE) (H.sub sU) ?_; simp only [pS])
                refine rg_one (i := 10) (by kernel_rfl) rfl rfl (fun K hK => ?_)
                refine wp_callf rfl ent88 (rpsame_ok _ _ p q _ (hs1.sl.grow H.below) (hs2.sl.grow H.below)) rfl (fun v w1 hr => ?_)
                obtain ⟨rfl, hb1⟩ := hr
                replace H := H.grow hb1
                clear hb1
                rw [HE.out]
                clear HS
                have HS := H
                refine hK.out _ _ (H.sub sU) ?_
                clear hK K
                simp only [pS]
                refine rg_take (i := 11) rfl kR kR kR (Yld.o rfl) (H.sub sU) ?_; simp only [pS]
                refine rg_done (by kernel_rfl) ?_
                go_wp2_with (first | (with_reducible refine wpl rfl (dQ 2 rfl ?_); with_reducible refine (Stp.box 2 rfl rfl rfl H ?_); clear H; intro g2 w1 H; simp only [pS]; simp only [pE, nC, pS] at H) | (with_reducible refine wpl rfl (dQ 3 rfl ?_); with_reducible refine (Stp.box 3 rfl rfl rfl H ?_); clear H; intro g3 w1 H; simp only [pS]; simp only [pE, nC, pS] at H) | (with_reducible refine wpl rfl (ldQ (ty := 26) rfl ?_); first | (with_reducible refine (Stp.ldo rfl agg26 rfl H (by assumption) (by assumption) ?_); simp only [pS]) | (with_reducible refine (Stp.ldc rfl agg26 rfl H mR cE ?_); simp only [pS])) | (with_reducible refine wpl rfl (ldQ (ty := 31) rfl ?_); first | (with_reducible refine (Stp.ldo rfl agg31 rfl H (by assumption) (by assumption) ?_); simp only [pS]) | (with_reducible refine (Stp.ldc rfl agg31 rfl H mR cE ?_); simp only [pS])) | (with_reducible refine wpl rfl (ldQ (ty := 32) rfl ?_); first | (with_reducible refine (Stp.ldo rfl agg32 rfl H (by assumption) (by assumption) ?_); simp only [pS]) | (with_reducible refine (Stp.ldc rfl agg32 rfl H mR cE ?_); simp only [pS])))
                go_ret
                exact ⟨_, rfl, by rw [HV.out]; rfl, H.below⟩
            · obtain rfl : k = n := by omega
              have HV : Hid (vSame x y = true) := Lib.hid (by
                rw [HV0.out]
                refine decide_eq_true ?_
                have := HT.out
                rw [List.take_of_length_le (by rw [HL.out]; omega), List.take_of_length_le (by rw [HN.out]; omega)] at this
                exact this)
              go_wp2_with (first | (with_reducible refine wpl rfl (dQ 2 rfl ?_); with_reducible refine (Stp.box 2 rfl rfl rfl H ?_); clear H; intro g2 w1 H; simp only [pS]; simp only [pE, nC, pS] at H) | (with_reducible refine wpl rfl (dQ 3 rfl ?_); with_reducible refine (Stp.box 3 rfl rfl rfl H ?_); clear H; intro g3 w1 H; simp only [pS]; simp only [pE, nC, pS] at H) | (with_reducible refine wpl rfl (ldQ (ty := 26) rfl ?_); first | (with_reducible refine (Stp.ldo rfl agg26 rfl H (by assumption) (by assumption) ?_); simp only [pS]) | (with_reducible refine (Stp.ldc rfl agg26 rfl H mR cE ?_); simp only [pS])) | (with_reducible refine wpl rfl (ldQ (ty := 31) rfl ?_); first | (with_reducible refine (Stp.ldo rfl agg31 rfl H (by assumption) (by assumption) ?_); simp only [pS]) | (with_reducible refine (Stp.ldc rfl agg31 rfl H mR cE ?_); simp only [pS])) | (with_reducible refine wpl rfl (ldQ (ty := 32) rfl ?_); first | (with_reducible refine (Stp.ldo rfl agg32 rfl H (by assumption) (by assumption) ?_); simp only [pS]) | (with_reducible refine (Stp.ldc rfl agg32 rfl H mR cE ?_); simp only [pS])))
              go_ret
              exact ⟨_, rfl, by rw [HV.out]; rfl, H.below⟩
        · have hnn : ¬ x.lvs = y.lvs := fun e => hlen (by rw [e])
          have HV : Hid (vSame x y = false) := Lib.hid (by rw [HV0.out]; exact decide_eq_false hnn)
          have i4 : ((x.lvs.length : Int) != (y.lvs.length : Int)) = true := by simp; omega
          clear hnn hlen
          go_enter Try.func57, Try.ntmps57
          go_wp2_with (first | (go_at_call 88; (first | ((with_reducible refine (rpsame_ok _ _ x.mem y.mem _ (hx1.sl.grow H.below) (hy1.sl.grow H.below)).mono ?_); rintro e w1 ⟨v, rfl, hr⟩; obtain ⟨rfl, hb1⟩ := hr; replace H := H.grow hb1; clear hb1; rw [E1.out]) | ((with_reducible refine (rpsame_ok _ _ x.ldr y.ldr _ (hx3.sl.grow H.below) (hy3.sl.grow H.below)).mono ?_); rintro e w1 ⟨v, rfl, hr⟩; obtain ⟨rfl, hb1⟩ := hr; replace H := H.grow hb1; clear hb1; rw [E3.out]))) | (with_reducible refine wpl rfl (dQ 2 rfl ?_); with_reducible refine (Stp.box 2 rfl rfl rfl H ?_); clear H; intro g2 w1 H; simp only [pS]; simp only [pE, nC, pS] at H) | (with_reducible refine wpl rfl (dQ 3 rfl ?_); with_reducible refine (Stp.box 3 rfl rfl rfl H ?_); clear H; intro g3 w1 H; simp only [pS]; simp only [pE, nC, pS] at H) | (with_reducible refine wpl rfl (ldQ (ty := 26) rfl ?_); first | (with_reducible refine (Stp.ldo rfl agg26 rfl H (by assumption) (by assumption) ?_); simp only [pS]) | (with_reducible refine (Stp.ldc rfl agg26 rfl H mR cE ?_); simp only [pS])) | (with_reducible refine wpl rfl (ldQ (ty := 31) rfl ?_); first | (with_reducible refine (Stp.ldo rfl agg31 rfl H (by assumption) (by assumption) ?_); simp only [pS]) | (with_reducible refine (Stp.ldc rfl agg31 rfl H mR cE ?_); simp only [pS])) | (with_reducible refine wpl rfl (ldQ (ty := 32) rfl ?_); first | (with_reducible refine (Stp.ldo rfl agg32 rfl H (by assumption) (by assumption) ?_); simp only [pS]) | (with_reducible refine (Stp.ldc rfl agg32 rfl H mR cE ?_); simp only [pS])))
          go_ret
          exact ⟨_, rfl, by rw [HV.out]; rfl, H.below⟩
      · have E3 := Lib.hid (decide_eq_false g3)
        have HV : Hid (vSame x y = false) := Lib.hid (by simp [vSame, g3])
        clear g0 g1 g3
        go_enter Try.func57, Try.ntmps57
        go_wp2_with (first | (go_at_call 88; (first | ((with_reducible refine (rpsame_ok _ _ x.mem y.mem _ (hx1.sl.grow H.below) (hy1.sl.grow H.below)).mono ?_); rintro e w1 ⟨v, rfl, hr⟩; obtain ⟨rfl, hb1⟩ := hr; replace H := H.grow hb1; clear hb1; rw [E1.out]) | ((with_reducible refine (rpsame_ok _ _ x.ldr y.ldr _ (hx3.sl.grow H.below) (hy3.sl.grow H.below)).mono ?_); rintro e w1 ⟨v, rfl, hr⟩; obtain ⟨rfl, hb1⟩ := hr; replace H := H.grow hb1; clear hb1; rw [E3.out]))) | (with_reducible refine wpl rfl (dQ 2 rfl ?_); with_reducible refine (Stp.box 2 rfl rfl rfl H ?_); clear H; intro g2 w1 H; simp only [pS]; simp only [pE, nC, pS] at H) | (with_reducible refine wpl rfl (dQ 3 rfl ?_); with_reducible refine (Stp.box 3 rfl rfl rfl H ?_); clear H; intro g3 w1 H; simp only [pS]; simp only [pE, nC, pS] at H) | (with_reducible refine wpl rfl (ldQ (ty := 26) rfl ?_); first | (with_reducible refine (Stp.ldo rfl agg26 rfl H (by assumption) (by assumption) ?_); simp only [pS]) | (with_reducible refine (Stp.ldc rfl agg26 rfl H mR cE ?_); simp only [pS])) | (with_reducible refine wpl rfl (ldQ (ty := 31) rfl ?_); first | (with_reducible refine (Stp.ldo rfl agg31 rfl H (by assumption) (by assumption) ?_); simp only [pS]) | (with_reducible refine (Stp.ldc rfl agg31 rfl H mR cE ?_); simp only [pS])) | (with_reducible refine wpl rfl (ldQ (ty := 32) rfl ?_); first | (with_reducible refine (Stp.ldo rfl agg32 rfl H (by assumption) (by assumption) ?_); simp only [pS]) | (with_reducible refine (Stp.ldc rfl agg32 rfl H mR cE ?_); simp only [pS])))
        go_ret
        exact ⟨_, rfl, by rw [HV.out]; rfl, H.below⟩
    · have E1 := Lib.hid (decide_eq_false g1)
      have HV : Hid (vSame x y = false) := Lib.hid (by simp [vSame, g1])
      clear g0 g1
      go_enter Try.func57, Try.ntmps57
      go_wp2_with (first | (go_at_call 88; (first | ((with_reducible refine (rpsame_ok _ _ x.mem y.mem _ (hx1.sl.grow H.below) (hy1.sl.grow H.below)).mono ?_); rintro e w1 ⟨v, rfl, hr⟩; obtain ⟨rfl, hb1⟩ := hr; replace H := H.grow hb1; clear hb1; rw [E1.out]) | ((with_reducible refine (rpsame_ok _ _ x.ldr y.ldr _ (hx3.sl.grow H.below) (hy3.sl.grow H.below)).mono ?_); rintro e w1 ⟨v, rfl, hr⟩; obtain ⟨rfl, hb1⟩ := hr; replace H := H.grow hb1; clear hb1; rw [E3.out]))) | (with_reducible refine wpl rfl (dQ 2 rfl ?_); with_reducible refine (Stp.box 2 rfl rfl rfl H ?_); clear H; intro g2 w1 H; simp only [pS]; simp only [pE, nC, pS] at H) | (with_reducible refine wpl rfl (dQ 3 rfl ?_); with_reducible refine (Stp.box 3 rfl rfl rfl H ?_); clear H; intro g3 w1 H; simp only [pS]; simp only [pE, nC, pS] at H) | (with_reducible refine wpl rfl (ldQ (ty := 26) rfl ?_); first | (with_reducible refine (Stp.ldo rfl agg26 rfl H (by assumption) (by assumption) ?_); simp only [pS]) | (with_reducible refine (Stp.ldc rfl agg26 rfl H mR cE ?_); simp only [pS])) | (with_reducible refine wpl rfl (ldQ (ty := 31) rfl ?_); first | (with_reducible refine (Stp.ldo rfl agg31 rfl H (by assumption) (by assumption) ?_); simp only [pS]) | (with_reducible refine (Stp.ldc rfl agg31 rfl H mR cE ?_); simp only [pS])) | (with_reducible refine wpl rfl (ldQ (ty := 32) rfl ?_); first | (with_reducible refine (Stp.ldo rfl agg32 rfl H (by assumption) (by assumption) ?_); simp only [pS]) | (with_reducible refine (Stp.ldc rfl agg32 rfl H mR cE ?_); simp only [pS])))
      go_ret
      exact ⟨_, rfl, by rw [HV.out]; rfl, H.below⟩
  · have i0 : ((x.id : Int) != (y.id : Int)) = true := by simp; omega
    have HV : Hid (vSame x y = false) := Lib.hid (by simp [vSame, g0])
    clear g0
    go_enter Try.func57, Try.ntmps57
    go_wp2_with (first | (go_at_call 88; (first | ((with_reducible refine (rpsame_ok _ _ x.mem y.mem _ (hx1.sl.grow H.below) (hy1.sl.grow H.below)).mono ?_); rintro e w1 ⟨v, rfl, hr⟩; obtain ⟨rfl, hb1⟩ := hr; replace H := H.grow hb1; clear hb1; rw [E1.out]) | ((with_reducible refine (rpsame_ok _ _ x.ldr y.ldr _ (hx3.sl.grow H.below) (hy3.sl.grow H.below)).mono ?_); rintro e w1 ⟨v, rfl, hr⟩; obtain ⟨rfl, hb1⟩ := hr; replace H := H.grow hb1; clear hb1; rw [E3.out]))) | (with_reducible refine wpl rfl (dQ 2 rfl ?_); with_reducible refine (Stp.box 2 rfl rfl rfl H ?_); clear H; intro g2 w1 H; simp only [pS]; simp only [pE, nC, pS] at H) | (with_reducible refine wpl rfl (dQ 3 rfl ?_); with_reducible refine (Stp.box 3 rfl rfl rfl H ?_); clear H; intro g3 w1 H; simp only [pS]; simp only [pE, nC, pS] at H) | (with_reducible refine wpl rfl (ldQ (ty := 26) rfl ?_); first | (with_reducible refine (Stp.ldo rfl agg26 rfl H (by assumption) (by assumption) ?_); simp only [pS]) | (with_reducible refine (Stp.ldc rfl agg26 rfl H mR cE ?_); simp only [pS])) | (with_reducible refine wpl rfl (ldQ (ty := 31) rfl ?_); first | (with_reducible refine (Stp.ldo rfl agg31 rfl H (by assumption) (by assumption) ?_); simp only [pS]) | (with_reducible refine (Stp.ldc rfl agg31 rfl H mR cE ?_); simp only [pS])) | (with_reducible refine wpl rfl (ldQ (ty := 32) rfl ?_); first | (with_reducible refine (Stp.ldo rfl agg32 rfl H (by assumption) (by assumption) ?_); simp only [pS]) | (with_reducible refine (Stp.ldc rfl agg32 rfl H mR cE ?_); simp only [pS])))
    go_ret
    exact ⟨_, rfl, by rw [HV.out]; rfl, H.below⟩
end Go.Proofs.Ytmokecicjmjkbaa
namespace Go.Proofs.Ytmokecicjmjkbaa
open Go.ChangeShapes Go.WideShapes Go.ChangeAt Go.RowKit Go.Maps
set_option linter.unusedVariables false
set_option linter.unusedSimpArgs false
/-- What a resource says, said otherwise. -/
theorem St.conv {B : Nat} {w0 w : World} {L : List Res} {r r' : Res} (H : St B w0 w (r :: L)) (hb : ∀ g, r'.1 g → r.1 g) (hs : Sound r w → Sound r' w) : St B w0 w (r' :: L) := by
  obtain ⟨ha, hp⟩ := List.pairwise_cons.1 H.apart
  refine ⟨H.below, H.size, ?_, ?_, List.pairwise_cons.2 ⟨fun s hs g hg => ha s hs g (hb g hg), hp⟩⟩
  · intro x hx
    rcases List.mem_cons.1 hx with rfl | hx
    · exact hs (H.sound r List.mem_cons_self)
    · exact H.sound x (List.mem_cons_of_mem _ hx)
  · intro x hx g hg
    rcases List.mem_cons.1 hx with rfl | hx
    · exact H.base r List.mem_cons_self g (hb g hg)
    · exact H.base x (List.mem_cons_of_mem _ hx) g hg
theorem nil_ps (a : Option Addr) (n c : Nat) (w : World) : (binOp .eql 31 (.slice a n c) (.slice none 0 0)).run Try.prog w = .ok (.bool a.isNone) w := Lib.run_eql_slice_nil w 31 30 a n c 0 0 Try.underlying31
theorem SlG.of_pv {w : World} {b : Nat} {v : Value} {l : List Pr} (h : w.ownsRow b 30 2 v l.length (pv l)) (hl : l.length ≤ 100000) : SlG (fun g => v.ownBlock = some g) w 2 l.length v (elQ l) :=
  SlG.of_own h (fun i hi j hj => pv_get l i hi j hj) (by unfold maxLen; omega)
theorem Sl.srcN {w : World} {size n : Nat} {a : Option Addr} {c : Nat} {E : Nat → Array Value} {xs : List Value} (h : Sl w size n (.slice a n c) E) (hx : ∀ i, i < n → ∀ j, j < size → xs[i * size + j]? = (E i)[j]?) (hl : xs.length = n * size) (hs : 0 < size) : 0 < n → ∃ ad, a = some ad ∧ ∀ j u, xs[j]? = some u → w.cell? (ad.add j) = some u := fun h0 => by
  obtain ⟨a', c', e, hm, hE⟩ := h
  obtain ⟨b, off, e2, hb, hc⟩ := hE h0
  injection e with e _ _
  refine ⟨_, e.trans e2, fun j u hj => ?_⟩
  have hjl : j < n * size := by
    rcases Nat.lt_or_ge j (n * size) with h | h
    · exact h
    · rw [List.getElem?_eq_none (by omega)] at hj; cases hj
  have hq : j / size < n := Nat.div_lt_of_lt_mul (by rw [Nat.mul_comm]; exact hjl)
  have hr := Nat.mod_lt j hs
  have hd : j / size * size + j % size = j := by rw [Nat.mul_comm]; exact Nat.div_add_mod j size
  have h1 := hc (j / size) hq (j % size) hr
  have h2 := hx (j / size) hq (j % size) hr
  rw [hd] at h2
  rw [show off + j / size * size + j % size = off + j by omega] at h1
  have hadd : (⟨b, off, none⟩ : Addr).add j = ⟨b, off + j, none⟩ := by unfold Addr.add; split <;> simp_all
  rw [hadd, h1, ← h2, hj]
theorem pv_one (l : List Pr) : ∀ u ∈ pv l, u.oneCell' = true := by
  intro u hu
  unfold pv at hu
  obtain ⟨p, _, hu⟩ := List.mem_flatMap.1 hu
  simp only [List.mem_cons, List.not_mem_nil, or_false] at hu
  rcases hu with rfl | rfl <;> rfl
section
attribute [local go_sem] nil_ps
set_option maxRecDepth 100000 in
theorem pclone_ok (v : Value) (l : List Pr) (hl : l.length ≤ 100000) (w : World) (hs : Sl w 2 l.length v (elQ l)) :
    Calls Try.prog 117 #[v] w (Ret fun v' w' => ∃ ap cp, v' = .slice ap l.length cp ∧ w'.ownsRow w.heap.size 30 2 (.slice ap l.length cp) l.length (pv l) ∧ Below w.heap.size w w') := by
  have hs' := hs
  obtain ⟨A, c, rfl, hm, hE⟩ := hs'
  cases A with
  | none =>
    have h0 : l = [] := by
      cases l with
      | nil => rfl
      | cons x t => obtain ⟨b, off, e, _⟩ := hE (by simp); cases e
    subst h0
    have H := St.init w
    clear hE hs
    go_enter Try.func117, Try.ntmps117
    go_wp2_with fail
    go_ret
    exact ⟨_, rfl, none, 0, rfl, World.ownsRow_nil _ _ _ _, H.below⟩
  | some ad =>
    have H := St.init w
    clear hE
    go_enter Try.func117, Try.ntmps117
    go_wp2_with (first | (with_reducible refine wpl rfl (dQ 5 rfl ?_); with_reducible refine (Stp.bsl0N (e := 30) (size := 2) 5 rfl rfl (fun W => by kernel_rfl) H ?_); clear H; intro a5 c5 w1 H; simp only [pS]) | (with_reducible refine wpl rfl (dQ 7 rfl ?_); with_reducible refine (Stp.apps 7 rfl rfl Try.underlying31 info30 rfl (by decide) rfl rfl H (fun _ => uP) (pv_len l) ((hs.grow H.below).srcN (fun i hi j hj => pv_get l i hi j hj) (pv_len l) (by omega)) (pv_one l) (by unfold maxLen; omega) (by omega) ?_); clear H; intro a7 c7 w1 H; simp only [pS]; simp only [Nat.zero_add, List.nil_append] at H ⊢))
    go_ret
    exact ⟨_, rfl, _, _, rfl, H.getSlc mE, H.below⟩
end
/-- Copies of the first k leaves. -/
def lvr (G : Nat → Prop) (hd : Nat → Value) (ls : List (List Pr)) (k : Nat) : Res := (fun g => G g, fun w => ∀ i, i < k → SlG G w 2 (ls.getD i []).length (hd i) (elQ (ls.getD i [])))
theorem lvr_loc (G : Nat → Prop) (hd : Nat → Value) (ls : List (List Pr)) (k : Nat) : Loc (lvr G hd ls k) := fun _ _ hb h i hi => (h i hi).loc hb
/-- The leaves' headers. -/
def hdv (hd : Nat → Value) (k : Nat) : List Value := (List.range k).map hd
theorem hdv_get (hd : Nat → Value) (k i : Nat) (h : i < k) : (hdv hd k)[i]? = some (hd i) := by simp [hdv, h]
theorem hdv_snoc (hd : Nat → Value) (k : Nat) (v : Value) : hdv hd k ++ [v] = hdv (fun i => if i = k then v else hd i) (k + 1) := by
  unfold hdv
  rw [List.range_succ, List.map_append]
  congr 1
  · apply List.map_congr_left
    intro i hi
    have : i < k := by simpa using hi
    rw [if_neg (by omega)]
  · simp
/-- One leaf more is copied. -/
theorem St.leaf {B : Nat} {w0 w : World} {L : List Res} {G : Nat → Prop} {hd : Nat → Value} {ls : List (List Pr)} {k : Nat} {a : Option Addr} {c : Nat} {l : List Pr} (H : St B w0 w (slc 30 2 (.slice a l.length c) l.length (pv l) :: lvr G hd ls k :: L)) (hl : ls.getD k [] = l) (hm : l.length ≤ 100000) :
    ∃ G', St B w0 w (lvr G' (fun i => if i = k then .slice a l.length c else hd i) ls (k + 1) :: L) := by
  refine ⟨fun g => (Value.slice a l.length c).ownBlock = some g ∨ G g, H.join.conv (fun g h => h) (fun hS => ⟨?_, hS.lt, lvr_loc _ _ _ _⟩)⟩
  intro i hi
  obtain ⟨h1, h2⟩ := hS.here
  by_cases hk : i = k
  · subst hk
    simp only [if_true]
    rw [hl]
    exact (SlG.of_pv (b := 0) h1 hm).mono (fun g h => .inl h)
  · show SlG _ w 2 _ (if i = k then _ else hd i) _
    rw [if_neg hk]
    exact (h2 i (by omega)).mono (fun g h => .inr h)
theorem VwG.lvs {G : Nat → Prop} {w : World} {va vl vd : Value} {x : Vw} (h : VwG G w va vl vd x) : LvG G w vl x.lvs := h.2.1
set_option maxRecDepth 100000 in
set_option maxHeartbeats 2000000 in
theorem vcopy_ok {G1 : Nat → Prop} (x : Vw) (ma la da : Option Addr) (mc lc dc : Nat) (hb1 : x.mem.length ≤ 1000) (hb2 : x.lvs.length ≤ 1000) (hb3 : ∀ l ∈ x.lvs, l.length ≤ 1000) (hb4 : x.ldr.length ≤ 1000) (w : World)
    (hx : VwG G1 w (.slice ma x.mem.length mc) (.slice la x.lvs.length lc) (.slice da x.ldr.length dc) x) :
    Calls Try.prog 85 #[.agg (vwC x ma la da mc lc dc)] w (Ret fun v w' => ∃ (G : Nat → Prop) (am al ad : Option Addr) (cm cl cd : Nat), v = .agg (vwC x am al ad cm cl cd) ∧ (∀ g, G g → w.heap.size ≤ g ∧ g < w'.heap.size) ∧ VwG G w' (.slice am x.mem.length cm) (.slice al x.lvs.length cl) (.slice ad x.ldr.length cd) x ∧ Below w.heap.size w w') := by
  have H := St.init w
  obtain ⟨hx1, hx2, hx3⟩ := hx
  have HB3 := Lib.hid hb3
  clear hb3
  go_enter Try.func85, Try.ntmps85
  simp only [vwC]
  go_wp2_with (first | (with_reducible refine wpl rfl (dQ 1 rfl ?_); with_reducible refine (Stp.box 1 rfl rfl rfl H ?_); clear H; intro g1 w1 H; simp only [pS]; simp only [pE, nC, pS] at H) | (with_reducible refine wpl rfl (dQ 2 rfl ?_); with_reducible refine (Stp.alloc 2 rfl rfl zero34 H ?_); clear H; intro g2 w1 H; simp only [pS]; simp only [nC] at H) | (with_reducible refine wpl rfl (ldQ (ty := 32) rfl ?_); first | (with_reducible refine (Stp.ldo rfl agg32 rfl H (by assumption) (by assumption) ?_); simp only [pS]) | (with_reducible refine (Stp.ldc rfl agg32 rfl H mR cE ?_); simp only [pS])) | (with_reducible refine wpl rfl (ldQ (ty := 31) rfl ?_); first | (with_reducible refine (Stp.ldo rfl agg31 rfl H (by assumption) (by assumption) ?_); simp only [pS]) | (with_reducible refine (Stp.ldc rfl agg31 rfl H mR cE ?_); simp only [pS])) | (with_reducible refine wpl rfl (ldQ (ty := 34) rfl ?_); first | (with_reducible refine (Stp.ldor rfl agg34 size34 rfl H (by assumption) sZ (by assumption) ?_); simp only [pS]) | (with_reducible refine (Stp.ldr rfl agg34 size34 rfl H mR sZ ?_); simp only [pS]) | (with_reducible refine (Stp.ldl rfl agg34 size34 rfl H mR (by simp) ?_); simp only [pS]; simp only [List.drop_succ_cons, List.drop_zero, List.take_succ_cons, List.take_zero])) | (with_reducible refine wpl rfl (stQ (ty := 34) rfl ?_); first | (with_reducible refine (Stp.str rfl size34 rfl rfl (by first | rfl | (simp [Value.oneCell']; done) | assumption) H uP sZ sZ ?_); clear H; intro w1 H; simp only [pS]) | (with_reducible refine (Stp.stl rfl size34 rfl rfl rfl rfl H uP (by simp) ?_); clear H; intro w1 H; simp only [pS]; simp only [List.drop_succ_cons, List.drop_zero, List.take_succ_cons, List.take_zero, List.nil_append, List.cons_append, Nat.reduceAdd] at H)))
  refine cut (fun a0 a' w' => ∃ (g3 : Nat) (am al : Option Addr) (cm cl : Nat) (u4 u5 u6 u7 u8 u9 u10 u11 u12 u13 u14 u15 u16 u17 u18 u19 u20 u21 u22 u23 u24 u25 u26 u27 u28 u29 u30 : Value), a' = { tmps := #[.agg (vwC x ma la da mc lc dc), .pointer (some ⟨g1, 0, none⟩), .pointer (some ⟨g2, 0, none⟩), .pointer (some ⟨g3, 0, none⟩), u4, u5, u6, u7, u8, u9, u10, u11, u12, u13, u14, u15, u16, u17, u18, u19, u20, u21, u22, u23, u24, u25, u26, u27, u28, u29, u30], defers := [] } ∧ St w.heap.size w w' [slc 30 2 (.slice al x.ldr.length cl) x.ldr.length (pv x.ldr), slc 30 2 (.slice am x.mem.length cm) x.mem.length (pv x.mem), row 34 g3 #[.int .u64 (x.id : Int), .slice am x.mem.length cm, .slice none 0 0, .slice al x.ldr.length cl], row 34 g2 #[.int .u64 0, .slice none 0 0, .slice none 0 0, .slice none 0 0], row 34 g1 (vwC x ma la da mc lc dc)]) ?_ ?_
  · refine rg_begin 11 rfl (S := fun W => St _ _ W [row 34 g1 #[.int .u64 (x.id : Int), .slice ma x.mem.length mc, .slice la x.lvs.length lc, .slice da x.ldr.length dc]]) (by kernel_rfl) (H.drew.sub sU) ?_
    replace H := H.drew
    have HS := H
    refine rg_take (i := 0) rfl kR kR kR (Yld.o rfl) (H.sub sU) ?_; simp only [pS]
    first | (refine rg_take (i := 1) rfl kR kR kR (Yld.ldo rfl rfl agg26 rfl (by assumption) (by assumption)) (H.sub sU) ?_; simp only [pS]) | (refine rg_take (i := 1) rfl kR kR kR (Yld.ldc rfl rfl agg26 rfl mR cE) (H.sub sU) ?_; simp only [pS])
    refine rg_take (i := 2) rfl kR kR kR (Yld.o rfl) (H.sub sU) ?_; simp only [pS]
    first | (refine rg_take (i := 3) rfl kR kR kR (Yld.ldo rfl rfl agg31 rfl (by assumption) (by assumption)) (H.sub sU) ?_; simp only [pS]) | (refine rg_take (i := 3) rfl kR kR kR (Yld.ldc rfl rfl agg31 rfl mR cE) (H.sub sU) ?_; simp only [pS])
    refine rg_take (i := 5) rfl kR kR kR (Yld.o rfl) (H.sub sU) ?_; simp only [pS]
    first | (refine rg_take (i := 6) rfl kR kR kR (Yld.ldo rfl rfl agg31 rfl (by assumption) (by assumption)) (H.sub sU) ?_; simp only [pS]) | (refine rg_take (i := 6) rfl kR kR kR (Yld.ldc rfl rfl agg31 rfl mR cE) (H.sub sU) ?_; simp only [pS])
    refine rg_all (rs := [4, 9]) (by kernel_rfl) (by simp) ?_
    refine rg_cons (i := 4) rfl rfl (fun K hK => ?_) ?_
    · -- 4
      refine wp_callf rfl ent117 (pclone_ok _ x.mem (by omega) _ (hx1.sl.grow H.below)) rfl (fun v w1 hr => ?_)
      obtain ⟨am, cm, rfl, ho, hb1⟩ := hr
      replace H := H.new hb1 (slc_sound ho) (fun g hg => (ho.lt g hg).1)
      clear hb1 ho
      clear HS
      have HS := H
      refine hK.out _ _ (H.sub sU) ?_
      clear hK K
      simp only [pS]
      refine rg_all (rs := [7, 9]) (by kernel_rfl) (by simp) ?_
      refine rg_cons (i := 7) rfl rfl (fun K hK => ?_) ?_
      · -- 7
        refine wp_callf rfl ent117 (pclone_ok _ x.ldr (by omega) _ (hx3.sl.grow H.below)) rfl (fun v w1 hr => ?_)
        obtain ⟨al, cl, rfl, ho, hb1⟩ := hr
        replace H := H.new hb1 (slc_sound ho) (fun g hg => (ho.lt g hg).1)
        clear hb1 ho
        clear HS
        have HS := H
        refine hK.out _ _ (H.sub sU) ?_
        clear hK K
        simp only [pS]
        refine rg_take (i := 8) rfl kR kR kR (Yld.of (v := .agg #[.int .u64 (x.id : Int), .slice am x.mem.length cm, .slice none 0 0, .slice al x.ldr.length cl]) rfl (fun W _ => by kernel_rfl)) (H.sub sU) ?_; simp only [pS, pE]
        refine rg_one (i := 9) (by kernel_rfl) rfl rfl (fun K hK => ?_)
        refine Stp.wp (Stp.alloc 3 rfl rfl zero34 H ?_)
        clear H
        intro g3 w1 H
        simp only [cells_agg] at H
        clear HS
        have HS := H
        refine hK.out _ _ (H.sub sU) ?_
        clear hK K
        simp only [pS]
        refine rg_one (i := 10) (by kernel_rfl) rfl rfl (fun K hK => ?_)
        refine Stp.wp (Stp.str (ds := #[.int .u64 (x.id : Int), .slice am x.mem.length cm, .slice none 0 0, .slice al x.ldr.length cl]) rfl size34 rfl rfl (by simp [Value.oneCell']) H uP rfl rfl ?_)
        clear H
        intro w1 H
        clear HS
        have HS := H
        refine hK.out _ _ (H.sub sU) ?_
        clear hK K
        simp only [pS]
        refine rg_done (by kernel_rfl) ?_
        exact ⟨rfl, g3, am, al, cm, cl, _, _, _, _, _, _, _, _, _, _, _, _, _, _, _, _, _, _, _, _, _, _, _, _, _, _, _, rfl, (((H.pull (r := row 34 g3 _) pU).pull (r := slc 30 2 (.slice am _ cm) _ _) pU).pull (r := slc 30 2 (.slice al _ cl) _ _) pU)⟩
      refine rg_cons (i := 9) rfl rfl (fun K hK => ?_) ?_
      · -- 9
        refine Stp.wp (Stp.alloc 3 rfl rfl zero34 H ?_)
        clear H
        intro g3 w1 H
        simp only [cells_agg] at H
        clear HS
        have HS := H
        refine hK.out _ _ (H.sub sU) ?_
        clear hK K
        simp only [pS]
        refine rg_one (i := 7) (by kernel_rfl) rfl rfl (fun K hK => ?_)
        refine wp_callf rfl ent117 (pclone_ok _ x.ldr (by omega) _ (hx3.sl.grow H.below)) rfl (fun v w1 hr => ?_)
        obtain ⟨al, cl, rfl, ho, hb1⟩ := hr
        replace H := H.new hb1 (slc_sound ho) (fun g hg => (ho.lt g hg).1)
        clear hb1 ho
        clear HS
        have HS := H
        refine hK.out _ _ (H.sub sU) ?_
        clear hK K
        simp only [pS]
        refine rg_take (i := 8) rfl kR kR kR (Yld.of (v := .agg #[.int .u64 (x.id : Int), .slice am x.mem.length cm, .slice none 0 0, .slice al x.ldr.length cl]) rfl (fun W _ => by kernel_rfl)) (H.sub sU) ?_; simp only [pS, pE]
        refine rg_one (i := 10) (by kernel_rfl) rfl rfl (fun K hK => ?_)
        refine Stp.wp (Stp.str (ds := #[.int .u64 (x.id : Int), .slice am x.mem.length cm, .slice none 0 0, .slice al x.ldr.length cl]) rfl size34 rfl rfl (by simp [Value.oneCell']) H uP rfl rfl ?_)
        clear H
        intro w1 H
        clear HS
        have HS := H
        refine hK.out _ _ (H.sub sU) ?_
        clear hK K
        simp only [pS]
        refine rg_done (by kernel_rfl) ?_
        exact ⟨rfl, g3, am, al, cm, cl, _, _, _, _, _, _, _, _, _, _, _, _, _, _, _, _, _, _, _, _, _, _, _, _, _, _, _, rfl, (((H.pull (r := row 34 g3 _) pU).pull (r := slc 30 2 (.slice am _ cm) _ _) pU).pull (r := slc 30 2 (.slice al _ cl) _ _) pU)⟩
      exact AllReadyH.nil
    refine rg_cons (i := 9) rfl rfl (fun K hK => ?_) ?_
    · -- 9
      refine Stp.wp (Stp.alloc 3 rfl rfl zero34 H ?_)
      clear H
      intro g3 w1 H
      simp only [cells_agg] at H
      clear HS
      have HS := H
      refine hK.out _ _ (H.sub sU) ?_
      clear hK K
      simp only [pS]
      refine rg_one (i := 4) (by kernel_rfl) rfl rfl (fun K hK => ?_)
      refine wp_callf rfl ent117 (pclone_ok _ x.mem (by omega) _ (hx1.sl.grow H.below)) rfl (fun v w1 hr => ?_)
      obtain ⟨am, cm, rfl, ho, hb1⟩ := hr
      replace H := H.new hb1 (slc_sound ho) (fun g hg => (ho.lt g hg).1)
      clear hb1 ho
      clear HS
      have HS := H
      refine hK.out _ _ (H.sub sU) ?_
      clear hK K
      simp only [pS]
      refine rg_one (i := 7) (by kernel_rfl) rfl rfl (fun K hK => ?_)
      refine wp_callf rfl ent117 (pclone_ok _ x.ldr (by omega) _ (hx3.sl.grow H.below)) rfl (fun v w1 hr => ?_)
      obtain ⟨al, cl, rfl, ho, hb1⟩ := hr
      replace H := H.new hb1 (slc_sound ho) (fun g hg => (ho.lt g hg).1)
      clear hb1 ho
      clear HS
      have HS := H
      refine hK.out _ _ (H.sub sU) ?_
      clear hK K
      simp only [pS]
      refine rg_take (i := 8) rfl kR kR kR (Yld.of (v := .agg #[.int .u64 (x.id : Int), .slice am x.mem.length cm, .slice none 0 0, .slice al x.ldr.length cl]) rfl (fun W _ => by kernel_rfl)) (H.sub sU) ?_; simp only [pS, pE]
      refine rg_one (i := 10) (by kernel_rfl) rfl rfl (fun K hK => ?_)
      refine Stp.wp (Stp.str (ds := #[.int .u64 (x.id : Int), .slice am x.mem.length cm, .slice none 0 0, .slice al x.ldr.length cl]) rfl size34 rfl rfl (by simp [Value.oneCell']) H uP rfl rfl ?_)
      clear H
      intro w1 H
      clear HS
      have HS := H
      refine hK.out _ _ (H.sub sU) ?_
      clear hK K
      simp only [pS]
      refine rg_done (by kernel_rfl) ?_
      exact ⟨rfl, g3, am, al, cm, cl, _, _, _, _, _, _, _, _, _, _, _, _, _, _, _, _, _, _, _, _, _, _, _, _, _, _, _, rfl, (((H.pull (r := row 34 g3 _) pU).pull (r := slc 30 2 (.slice am _ cm) _ _) pU).pull (r := slc 30 2 (.slice al _ cl) _ _) pU)⟩
    exact AllReadyH.nil
  · rintro a' w' ⟨g3, am, al, cm, cl, u4, u5, u6, u7, u8, u9, u10, u11, u12, u13, u14, u15, u16, u17, u18, u19, u20, u21, u22, u23, u24, u25, u26, u27, u28, u29, u30, rfl, H2⟩
    clear H
    have H := H2
    clear H2
    simp only [vwC] at H ⊢
    replace H : St w.heap.size w w' (slc 31 1 (.slice none 0 0) 0 (hdv (fun _ => undef) 0) :: lvr (fun _ => False) (fun _ => undef) x.lvs 0 :: _) := (St.emp (p := (lvr (fun _ => False) (fun _ => undef) x.lvs 0).2) (fun _ i hi => absurd hi (Nat.not_lt_zero _)) H).nil 31 1
    obtain ⟨n, hn⟩ : ∃ n, x.lvs.length = n := ⟨_, rfl⟩
    rw [hn] at hb2
    have HN := Lib.hid hn
    rw [hn] at H
    simp only [hn]
    clear hn
    go_wp2_with (first | (with_reducible refine wpl rfl (dQ 1 rfl ?_); with_reducible refine (Stp.box 1 rfl rfl rfl H ?_); clear H; intro g1 w1 H; simp only [pS]; simp only [pE, nC, pS] at H) | (with_reducible refine wpl rfl (dQ 2 rfl ?_); with_reducible refine (Stp.alloc 2 rfl rfl zero34 H ?_); clear H; intro g2 w1 H; simp only [pS]; simp only [nC] at H) | (with_reducible refine wpl rfl (ldQ (ty := 32) rfl ?_); first | (with_reducible refine (Stp.ldo rfl agg32 rfl H (by assumption) (by assumption) ?_); simp only [pS]) | (with_reducible refine (Stp.ldc rfl agg32 rfl H mR cE ?_); simp only [pS])) | (with_reducible refine wpl rfl (ldQ (ty := 31) rfl ?_); first | (with_reducible refine (Stp.ldo rfl agg31 rfl H (by assumption) (by assumption) ?_); simp only [pS]) | (with_reducible refine (Stp.ldc rfl agg31 rfl H mR cE ?_); simp only [pS])) | (with_reducible refine wpl rfl (ldQ (ty := 34) rfl ?_); first | (with_reducible refine (Stp.ldor rfl agg34 size34 rfl H (by assumption) sZ (by assumption) ?_); simp only [pS]) | (with_reducible refine (Stp.ldr rfl agg34 size34 rfl H mR sZ ?_); simp only [pS]) | (with_reducible refine (Stp.ldl rfl agg34 size34 rfl H mR (by simp) ?_); simp only [pS]; simp only [List.drop_succ_cons, List.drop_zero, List.take_succ_cons, List.take_zero])) | (with_reducible refine wpl rfl (stQ (ty := 34) rfl ?_); first | (with_reducible refine (Stp.str rfl size34 rfl rfl (by first | rfl | (simp [Value.oneCell']; done) | assumption) H uP sZ sZ ?_); clear H; intro w1 H; simp only [pS]) | (with_reducible refine (Stp.stl rfl size34 rfl rfl rfl rfl H uP (by simp) ?_); clear H; intro w1 H; simp only [pS]; simp only [List.drop_succ_cons, List.drop_zero, List.take_succ_cons, List.take_zero, List.nil_append, List.cons_append, Nat.reduceAdd] at H)))
    go_loopw [18] (fun i wr => ∃ (k : Nat) (av : Option Addr) (cv : Nat) (G : Nat → Prop) (hd : Nat → Value), k ≤ n ∧ i = .int .i64 (k : Int) ∧ St w.heap.size w wr [row 34 g3 #[.int .u64 (x.id : Int), .slice am x.mem.length cm, .slice av k cv, .slice al x.ldr.length cl], slc 31 1 (.slice av k cv) k (hdv hd k), lvr G hd x.lvs k, slc 30 2 (.slice al x.ldr.length cl) x.ldr.length (pv x.ldr), slc 30 2 (.slice am x.mem.length cm) x.mem.length (pv x.mem), row 34 g2 #[.int .u64 0, .slice none 0 0, .slice none 0 0, .slice none 0 0], row 34 g1 #[.int .u64 (x.id : Int), .slice ma x.mem.length mc, .slice la n lc, .slice da x.ldr.length dc]]) (fun i _ => n - (intOf i).toNat)
    case atStart => exact ⟨0, none, 0, _, _, Nat.zero_le _, rfl, (((((((H.pull (r := row 34 g1 _) pU).pull (r := row 34 g2 _) pU).pull (r := slc 30 2 (.slice am _ cm) _ _) pU).pull (r := slc 30 2 (.slice al _ cl) _ _) pU).pull (r := lvr (fun _ => False) (fun _ => undef) x.lvs 0) pU).pull (r := slc 31 1 (.slice none 0 0) 0 (hdv (fun _ => undef) 0)) pU).pull (r := row 34 g3 _) pU)⟩
    case round =>
      clear H
      obtain ⟨k, av, cv, G, hd, hk, rfl, H⟩ := hrel
      by_cases hlt : k < n
      · have hl1 : k < x.lvs.length := by rw [HN.out]; exact hlt
        obtain ⟨b1, o1, ak, ck, rfl, hbl, hc1, hs1⟩ := hx2.at rfl hl1
        have hgl : x.lvs.getD k [] = x.lvs[k] := getD_at hl1
        have hmm : x.lvs[k] ∈ x.lvs := List.getElem_mem hl1
        obtain ⟨l, hl⟩ : ∃ l, x.lvs[k] = l := ⟨_, rfl⟩
        rw [hl] at hc1 hs1 hgl hmm
        have hlb := HB3.out l hmm
        have HG := Lib.hid hgl
        have kli : (k : Int) < (n : Int) := by omega
        clear hgl hmm hl
        go_wp2_with (first | (with_reducible refine wpl rfl (dQ 1 rfl ?_); with_reducible refine (Stp.box 1 rfl rfl rfl H ?_); clear H; intro g1 w1 H; simp only [pS]; simp only [pE, nC, pS] at H) | (with_reducible refine wpl rfl (dQ 2 rfl ?_); with_reducible refine (Stp.alloc 2 rfl rfl zero34 H ?_); clear H; intro g2 w1 H; simp only [pS]; simp only [nC] at H) | (with_reducible refine wpl rfl (ldQ (ty := 32) rfl ?_); first | (with_reducible refine (Stp.ldo rfl agg32 rfl H (by assumption) (by assumption) ?_); simp only [pS]) | (with_reducible refine (Stp.ldc rfl agg32 rfl H mR cE ?_); simp only [pS])) | (with_reducible refine wpl rfl (ldQ (ty := 31) rfl ?_); first | (with_reducible refine (Stp.ldo rfl agg31 rfl H (by assumption) (by assumption) ?_); simp only [pS]) | (with_reducible refine (Stp.ldc rfl agg31 rfl H mR cE ?_); simp only [pS])) | (with_reducible refine wpl rfl (ldQ (ty := 34) rfl ?_); first | (with_reducible refine (Stp.ldor rfl agg34 size34 rfl H (by assumption) sZ (by assumption) ?_); simp only [pS]) | (with_reducible refine (Stp.ldr rfl agg34 size34 rfl H mR sZ ?_); simp only [pS]) | (with_reducible refine (Stp.ldl rfl agg34 size34 rfl H mR (by simp) ?_); simp only [pS]; simp only [List.drop_succ_cons, List.drop_zero, List.take_succ_cons, List.take_zero])) | (with_reducible refine wpl rfl (stQ (ty := 34) rfl ?_); first | (with_reducible refine (Stp.str rfl size34 rfl rfl (by first | rfl | (simp [Value.oneCell']; done) | assumption) H uP sZ sZ ?_); clear H; intro w1 H; simp only [pS]) | (with_reducible refine (Stp.stl rfl size34 rfl rfl rfl rfl H uP (by simp) ?_); clear H; intro w1 H; simp only [pS]; simp only [List.drop_succ_cons, List.drop_zero, List.take_succ_cons, List.take_zero, List.nil_append, List.cons_append, Nat.reduceAdd] at H)))
        refine rk_begin 7 8 (fun W => St w.heap.size w W [row 34 g3 #[.int .u64 (x.id : Int), .slice am x.mem.length cm, .slice av k cv, .slice al x.ldr.length cl]]) rfl (by kernel_rfl) ?_
        replace H := H.drew
        have HS := H
        refine rk_free (i := 0) rfl kR kR kR kR (Yld.o rfl) (fun _ => (H.sub sU)) ?_; simp only [pS]
        first | (refine rk_take (i := 1) rfl kR kR kR kR kR kR (Yld.ldc rfl rfl agg32 rfl mR cE) (H.sub sU) ?_; simp only [pS]) | (refine rk_take (i := 1) rfl kR kR kR kR kR kR (Yld.ldo rfl rfl agg32 rfl (by assumption) (by assumption)) (H.sub sU) ?_; simp only [pS])
        refine rk_free (i := 2) rfl kR kR kR kR (Yld.move rfl rfl) (fun _ => (H.sub sU)) ?_; simp only [pS, pE]
        refine rk_one (i := 3) (by kernel_rfl) rfl rfl (fun K hK => ?_)
        refine wp_callf rfl ent117 (pclone_ok _ l (by omega) _ (hs1.sl.grow H.below)) rfl (fun v w1 hr => ?_)
        obtain ⟨ac, cc, rfl, ho, hb1⟩ := hr
        replace H := H.new hb1 (slc_sound ho) (fun g hg => (ho.lt g hg).1)
        clear hb1 ho
        clear HS
        have HS := H
        refine hK.out _ _ (fun _ => (H.sub sU)) ?_
        clear hK K
        simp only [pS]
        refine rk_one (i := 4) (by kernel_rfl) rfl rfl (fun K hK => ?_)
        refine Stp.wp (Stp.bsl (e := 31) (cs := #[.slice ac l.length cc]) 26 rfl rfl (fun W => by kernel_rfl) H ?_)
        clear H
        intro g26 w1 H
        clear HS
        have HS := H
        refine hK.out _ _ (fun _ => (H.sub sU)) ?_
        clear hK K
        simp only [pS]
        refine rk_one (i := 5) (by kernel_rfl) rfl rfl (fun K hK => ?_)
        refine Stp.wp (Stp.apps 27 rfl rfl Try.underlying32 info31 rfl (by decide) rfl rfl H (fun _ => uP) (show ([.slice ac l.length cc] : List Value).length = 1 * 1 from rfl) (fun _ => ⟨_, rfl, newL (H.gr 31)⟩) (by simp [Value.oneCell']) (by unfold maxLen; omega) (by omega) ?_)
        clear H
        intro a27 c27 w1 H
        clear HS
        have HS := H
        refine hK.out _ _ (fun _ => (H.sub sU)) ?_
        clear hK K
        simp only [pS]
        refine rk_free (i := 6) rfl kR kR kR kR (Yld.o rfl) (fun _ => (H.sub sU)) ?_; simp only [pS]
        refine rk_one (i := 7) (by kernel_rfl) rfl rfl (fun K hK => ?_)
        refine Stp.wp (Stp.stc rfl size32 rfl rfl rfl rfl H uP (by simp) ?_)
        clear H
        intro w1 H
        simp only [pE, nC, pS] at H
        clear HS
        have HS := H
        refine hK.out _ _ (fun h => by cases (show true = false from h)) ?_
        clear hK K
        simp only [pS]
        refine rk_done (by kernel_rfl) ?_
        go_wp2_with (first | (with_reducible refine wpl rfl (dQ 1 rfl ?_); with_reducible refine (Stp.box 1 rfl rfl rfl H ?_); clear H; intro g1 w1 H; simp only [pS]; simp only [pE, nC, pS] at H) | (with_reducible refine wpl rfl (dQ 2 rfl ?_); with_reducible refine (Stp.alloc 2 rfl rfl zero34 H ?_); clear H; intro g2 w1 H; simp only [pS]; simp only [nC] at H) | (with_reducible refine wpl rfl (ldQ (ty := 32) rfl ?_); first | (with_reducible refine (Stp.ldo rfl agg32 rfl H (by assumption) (by assumption) ?_); simp only [pS]) | (with_reducible refine (Stp.ldc rfl agg32 rfl H mR cE ?_); simp only [pS])) | (with_reducible refine wpl rfl (ldQ (ty := 31) rfl ?_); first | (with_reducible refine (Stp.ldo rfl agg31 rfl H (by assumption) (by assumption) ?_); simp only [pS]) | (with_reducible refine (Stp.ldc rfl agg31 rfl H mR cE ?_); simp only [pS])) | (with_reducible refine wpl rfl (ldQ (ty := 34) rfl ?_); first | (with_reducible refine (Stp.ldor rfl agg34 size34 rfl H (by assumption) sZ (by assumption) ?_); simp only [pS]) | (with_reducible refine (Stp.ldr rfl agg34 size34 rfl H mR sZ ?_); simp only [pS]) | (with_reducible refine (Stp.ldl rfl agg34 size34 rfl H mR (by simp) ?_); simp only [pS]; simp only [List.drop_succ_cons, List.drop_zero, List.take_succ_cons, List.take_zero])) | (with_reducible refine wpl rfl (stQ (ty := 34) rfl ?_); first | (with_reducible refine (Stp.str rfl size34 rfl rfl (by first | rfl | (simp [Value.oneCell']; done) | assumption) H uP sZ sZ ?_); clear H; intro w1 H; simp only [pS]) | (with_reducible refine (Stp.stl rfl size34 rfl rfl rfl rfl H uP (by simp) ?_); clear H; intro w1 H; simp only [pS]; simp only [List.drop_succ_cons, List.drop_zero, List.take_succ_cons, List.take_zero, List.nil_append, List.cons_append, Nat.reduceAdd] at H)))
        obtain ⟨G', H2⟩ := St.leaf ((H.pull (r := lvr G hd x.lvs k) pU).pull (r := slc 30 2 (.slice ac l.length cc) _ _) pU) HG.out (by omega)
        clear H
        have H := H2
        clear H2
        rw [hdv_snoc] at H
        go_roundw
        case rel => exact ⟨k + 1, _, _, G', _, by omega, by go_num, (((((((H.pull (r := row 34 g1 _) pU).pull (r := row 34 g2 _) pU).pull (r := slc 30 2 (.slice am _ cm) _ _) pU).pull (r := slc 30 2 (.slice al _ cl) _ _) pU).pull (r := lvr G' _ x.lvs (k + 1)) pU).pull (r := slc 31 1 _ (k + 1) (hdv _ (k + 1))) pU).pull (r := row 34 g3 _) pU).sub sU⟩
        case measure => simp [intOf]; omega
      · obtain rfl : k = n := by omega
        go_wp2_with (first | (with_reducible refine wpl rfl (dQ 1 rfl ?_); with_reducible refine (Stp.box 1 rfl rfl rfl H ?_); clear H; intro g1 w1 H; simp only [pS]; simp only [pE, nC, pS] at H) | (with_reducible refine wpl rfl (dQ 2 rfl ?_); with_reducible refine (Stp.alloc 2 rfl rfl zero34 H ?_); clear H; intro g2 w1 H; simp only [pS]; simp only [nC] at H) | (with_reducible refine wpl rfl (ldQ (ty := 32) rfl ?_); first | (with_reducible refine (Stp.ldo rfl agg32 rfl H (by assumption) (by assumption) ?_); simp only [pS]) | (with_reducible refine (Stp.ldc rfl agg32 rfl H mR cE ?_); simp only [pS])) | (with_reducible refine wpl rfl (ldQ (ty := 31) rfl ?_); first | (with_reducible refine (Stp.ldo rfl agg31 rfl H (by assumption) (by assumption) ?_); simp only [pS]) | (with_reducible refine (Stp.ldc rfl agg31 rfl H mR cE ?_); simp only [pS])) | (with_reducible refine wpl rfl (ldQ (ty := 34) rfl ?_); first | (with_reducible refine (Stp.ldor rfl agg34 size34 rfl H (by assumption) sZ (by assumption) ?_); simp only [pS]) | (with_reducible refine (Stp.ldr rfl agg34 size34 rfl H mR sZ ?_); simp only [pS]) | (with_reducible refine (Stp.ldl rfl agg34 size34 rfl H mR (by simp) ?_); simp only [pS]; simp only [List.drop_succ_cons, List.drop_zero, List.take_succ_cons, List.take_zero])) | (with_reducible refine wpl rfl (stQ (ty := 34) rfl ?_); first | (with_reducible refine (Stp.str rfl size34 rfl rfl (by first | rfl | (simp [Value.oneCell']; done) | assumption) H uP sZ sZ ?_); clear H; intro w1 H; simp only [pS]) | (with_reducible refine (Stp.stl rfl size34 rfl rfl rfl rfl H uP (by simp) ?_); clear H; intro w1 H; simp only [pS]; simp only [List.drop_succ_cons, List.drop_zero, List.take_succ_cons, List.take_zero, List.nil_append, List.cons_append, Nat.reduceAdd] at H)))
        refine post_row rfl agg34 size34 rfl H (by repeat (first | exact List.mem_cons_self | apply List.mem_cons_of_mem)) rfl rfl ⟨_, rfl, fun g => (Value.slice am x.mem.length cm).ownBlock = some g ∨ (Value.slice av k cv).ownBlock = some g ∨ G g ∨ (Value.slice al x.ldr.length cl).ownBlock = some g, am, av, al, cm, cv, cl, by rw [HN.out], ?_, ⟨?_, ?_, ?_⟩, H.below⟩
        · intro g hg
          rcases hg with hg | hg | hg | hg
          · exact ⟨H.base (slc 30 2 (.slice am x.mem.length cm) x.mem.length (pv x.mem)) (by repeat (first | exact List.mem_cons_self | apply List.mem_cons_of_mem)) g hg, (H.sound (slc 30 2 (.slice am x.mem.length cm) x.mem.length (pv x.mem)) (by repeat (first | exact List.mem_cons_self | apply List.mem_cons_of_mem))).lt g hg⟩
          · exact ⟨H.base (slc 31 1 (.slice av k cv) k (hdv hd k)) (by repeat (first | exact List.mem_cons_self | apply List.mem_cons_of_mem)) g hg, (H.sound (slc 31 1 (.slice av k cv) k (hdv hd k)) (by repeat (first | exact List.mem_cons_self | apply List.mem_cons_of_mem))).lt g hg⟩
          · exact ⟨H.base (lvr G hd x.lvs k) (by repeat (first | exact List.mem_cons_self | apply List.mem_cons_of_mem)) g hg, (H.sound (lvr G hd x.lvs k) (by repeat (first | exact List.mem_cons_self | apply List.mem_cons_of_mem))).lt g hg⟩
          · exact ⟨H.base (slc 30 2 (.slice al x.ldr.length cl) x.ldr.length (pv x.ldr)) (by repeat (first | exact List.mem_cons_self | apply List.mem_cons_of_mem)) g hg, (H.sound (slc 30 2 (.slice al x.ldr.length cl) x.ldr.length (pv x.ldr)) (by repeat (first | exact List.mem_cons_self | apply List.mem_cons_of_mem))).lt g hg⟩
        · exact (SlG.of_pv (H.getSlc (by repeat (first | exact List.mem_cons_self | apply List.mem_cons_of_mem))) (by omega)).mono (fun g h => .inl h)
        · refine ⟨hd, ?_, fun i hi => ?_⟩
          · rw [HN.out]
            exact (SlG.of_own (H.getSlc (e := 31) (size := 1) (v := .slice av k cv) (n := k) (xs := hdv hd k) (by repeat (first | exact List.mem_cons_self | apply List.mem_cons_of_mem))) (fun i hi j hj => by
              obtain rfl : j = 0 := by omega
              rw [Nat.mul_one, Nat.add_zero, hdv_get hd k i hi]; rfl) (by unfold maxLen; omega)).mono (fun g h => .inr (.inl h))
          · rw [HN.out] at hi
            exact (H.get (r := lvr G hd x.lvs k) (by repeat (first | exact List.mem_cons_self | apply List.mem_cons_of_mem)) i hi).mono (fun g h => .inr (.inr (.inl h)))
        · exact (SlG.of_pv (H.getSlc (by repeat (first | exact List.mem_cons_self | apply List.mem_cons_of_mem))) (by omega)).mono (fun g h => .inr (.inr (.inr h)))
end Go.Proofs.Ytmokecicjmjkbaa
