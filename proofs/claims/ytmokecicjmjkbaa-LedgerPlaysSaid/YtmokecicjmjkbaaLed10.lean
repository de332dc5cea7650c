/- The statement LedgerPlays of layer 18 (ledger): the law's walk; the bounds stand in it. -/
import Derived.Test.YtmokecicjmjkbaaLed9
namespace Go.Proofs.Ytmokecicjmjkbaa
open Go.ChangeShapes Go.WideShapes Go.ChangeAt Go.RowKit Go.Maps
set_option linter.unusedVariables false
set_option linter.unusedSimpArgs false
set_option maxRecDepth 100000
set_option maxHeartbeats 8000000
theorem rlfrom2_ok {B : Nat} {w0 : World} {L : List Res} (gx ap s n : Nat) (ks : List (Cm × Hd)) (xa : Option Addr) (xc : Nat) (hkn : ks.length = n) (ha : ap + 1 < 18446744073709551616) (hsl : s + n = ap + 1) (w : World) (H : St B w0 w (row 65 gx #[.int .u64 (ap : Int), .slice xa n xc] :: slo 116 11 (.slice xa n xc) n (ov s ks) :: L)) :
    Calls Try.prog 33 #[.pointer (some ⟨gx, 0, none⟩)] w (Ret fun v w' => v = .int .u64 (s : Int) ∧ St B w0 w' (row 65 gx #[.int .u64 (ap : Int), .slice xa n xc] :: slo 116 11 (.slice xa n xc) n (ov s ks) :: L)) := by
  have W1 : IntKind.u64.wrap ((ap : Int) + 1) = (ap : Int) + 1 := by rw [IntKind.wrap_u64]; omega
  cases ks with
  | nil =>
    simp only [List.length_nil] at hkn
    subst hkn
    go_enter Try.func33, Try.ntmps33
    go_wp2_with (first | (with_reducible refine wpl rfl (Stp.ldc rfl agg63 rfl H mR cE ?_); simp only [pS]) | (with_reducible refine wpl rfl (Stp.ldo rfl agg63 rfl H (by assumption) (by assumption) ?_); simp only [pS]) | (with_reducible refine wpl rfl (Stp.ldc rfl agg26 rfl H mR cE ?_); simp only [pS]) | (with_reducible refine wpl rfl (Stp.ldo rfl agg26 rfl H (by assumption) (by assumption) ?_); simp only [pS]))
    go_ret
    exact ⟨_, rfl, congrArg (Value.int IntKind.u64) (by omega), H⟩
  | cons p r =>
    have hn0 : 0 < n := by rw [← hkn]; simp
    obtain ⟨h0, _⟩ := ov_get (p :: r) s 0 p rfl
    obtain ⟨V, hV⟩ : ∃ V, ov s (p :: r) = V := ⟨_, rfl⟩
    rw [hV] at H h0 ⊢
    rw [Nat.zero_mul, Nat.add_zero] at h0
    have HC0 := Lib.hid h0
    have hni : (0 : Int) < (n : Int) := by omega
    obtain ⟨gk, ok, rfl⟩ := H.slo_addr (e := 116) (size := 11) (xs := V) mE hn0
    clear hkn hV h0 hsl
    go_enter Try.func33, Try.ntmps33
    go_wp2_with (first | (with_reducible refine wpl rfl (Stp.loc (d := 0) rfl agg26 rfl H mE HC0.out ?_); simp only [pS]) | (with_reducible refine wpl rfl (Stp.ldc rfl agg63 rfl H mR cE ?_); simp only [pS]) | (with_reducible refine wpl rfl (Stp.ldo rfl agg63 rfl H (by assumption) (by assumption) ?_); simp only [pS]) | (with_reducible refine wpl rfl (Stp.ldc rfl agg26 rfl H mR cE ?_); simp only [pS]) | (with_reducible refine wpl rfl (Stp.ldo rfl agg26 rfl H (by assumption) (by assumption) ?_); simp only [pS]))
    go_ret
    exact ⟨_, rfl, rfl, H⟩
attribute [local irreducible] gC
theorem law_lplays (ap0 : Nat) (hap0 : ap0 < 18446744073709551616) (va : Option Addr) (vc : Nat) (l : List Lk) (w : World) (hs : Sl w 14 l.length (.slice va l.length vc) (elL l)) (hx : ∀ a ∈ l, wfL w a) :
    Calls Try.prog 6 #[.int .u64 (ap0 : Int), .slice va l.length vc] w (Ret fun v w' => v = .bool true ∧ Below w.heap.size w w') := by
  have H := St.init w
  have HXX := Lib.hid hx
  clear hx
  obtain ⟨e, he⟩ : ∃ e, ((l.take 40).any fun a => gC a.c) = e := ⟨_, rfl⟩
  have HE := Lib.hid he
  obtain ⟨n, hn⟩ : ∃ n, l.length = n := ⟨_, rfl⟩
  have HN := Lib.hid hn
  have hs0 := hs
  rw [hn] at hs0 ⊢
  clear hs hn
  cases e
  case true =>
    clear he
    go_enter Try.func6, Try.ntmps6
    go_wp2_with (first | (go_at_call 28; (with_reducible refine (great18_n va vc l n HN.out _ (hs0.grow H.below) (fun a ha => (HXX.out a ha).grow H.below)).mono ?_); rintro e w1 ⟨v, rfl, hr⟩; obtain ⟨rfl, hb1⟩ := hr; replace H := H.grow hb1; clear hb1; rw [HE.out]) | (go_at_call 13; (with_reducible refine (aw18_ok _).mono ?_); rintro e w1 ⟨v, rfl, hr⟩; obtain ⟨rfl, hb1⟩ := hr; replace H := H.grow hb1; clear hb1) | (with_reducible refine wpl rfl (Stp.box 19 rfl rfl rfl H ?_); clear H; intro g19 w1 H; simp only [pS]; simp only [pE, nC, pS] at H) | (with_reducible refine wpl rfl (Stp.ldc rfl agg26 rfl H mR cE ?_); simp only [pS]) | (with_reducible refine wpl rfl (Stp.ldo rfl agg26 rfl H (by assumption) (by assumption) ?_); simp only [pS]))
    go_ret
    exact ⟨_, rfl, rfl, H.below⟩
  by_cases hb : 18446744073709551615 ≤ ap0
  · have zi : (18446744073709551615 : Int) ≤ (ap0 : Int) := by omega
    clear he
    go_enter Try.func6, Try.ntmps6
    go_wp2_with (first | (go_at_call 28; (with_reducible refine (great18_n va vc l n HN.out _ (hs0.grow H.below) (fun a ha => (HXX.out a ha).grow H.below)).mono ?_); rintro e w1 ⟨v, rfl, hr⟩; obtain ⟨rfl, hb1⟩ := hr; replace H := H.grow hb1; clear hb1; rw [HE.out]) | (go_at_call 13; (with_reducible refine (aw18_ok _).mono ?_); rintro e w1 ⟨v, rfl, hr⟩; obtain ⟨rfl, hb1⟩ := hr; replace H := H.grow hb1; clear hb1) | (with_reducible refine wpl rfl (Stp.box 19 rfl rfl rfl H ?_); clear H; intro g19 w1 H; simp only [pS]; simp only [pE, nC, pS] at H) | (with_reducible refine wpl rfl (Stp.ldc rfl agg26 rfl H mR cE ?_); simp only [pS]) | (with_reducible refine wpl rfl (Stp.ldo rfl agg26 rfl H (by assumption) (by assumption) ?_); simp only [pS]))
    go_ret
    exact ⟨_, rfl, rfl, H.below⟩
  have zi : decide ((18446744073709551615:Int) ≤ (ap0:Int)) = false := decide_eq_false (by omega)
  have HB0 := Lib.hid hb
  have HAP0 := Lib.hid hap0
  clear hb hap0
  obtain ⟨_, _, _, hm, _⟩ := id hs0
  unfold maxLen at hm
  clear he
  go_enter Try.func6, Try.ntmps6
  go_wp2_with (first | (go_at_call 28; (with_reducible refine (great18_n va vc l n HN.out _ (hs0.grow H.below) (fun a ha => (HXX.out a ha).grow H.below)).mono ?_); rintro e w1 ⟨v, rfl, hr⟩; obtain ⟨rfl, hb1⟩ := hr; replace H := H.grow hb1; clear hb1; rw [HE.out]) | (go_at_call 14; (with_reducible refine (lnew_ok ap0 _ H).mono ?_); rintro e w1 ⟨v, rfl, hr⟩; obtain ⟨g0, rfl, ka, kc, G, H2⟩ := hr; clear H; have H := H2; clear H2) | (with_reducible refine wpl rfl (Stp.build (v := (.agg #[.int .u64 (ap0 : Int), .slice none 0 0])) 18 rfl rfl (fun W => by kernel_rfl) ?_); simp only [pS]) | (with_reducible refine wpl rfl (Stp.box 19 rfl rfl rfl H ?_); clear H; intro g19 w1 H; simp only [pS]; simp only [pE, nC, pS] at H) | (with_reducible refine wpl rfl (Stp.ldc rfl agg26 rfl H mR cE ?_); simp only [pS]) | (with_reducible refine wpl rfl (Stp.ldo rfl agg26 rfl H (by assumption) (by assumption) ?_); simp only [pS]))
  replace H := H.nilo 116 11
  have HR0 : Hid (LRel w.heap.size w (Old w) ap0 (ap0 + 1) [] []) := Lib.hid ⟨rfl, rfl, Nat.zero_le _, (by intro p hp; cases hp), (by intro p hp; cases hp)⟩
  have H3 : St w.heap.size w _ (row 97 g0 #[.int .u64 (ap0 : Int), .slice ka ([] : List (Cm × Hd)).length kc] :: slo 36 10 (.slice ka ([] : List (Cm × Hd)).length kc) ([] : List (Cm × Hd)).length (kv []) :: cmsr G [] :: row 65 g19 #[.int .u64 (ap0 : Int), .slice none ([] : List (Cm × Hd)).length 0] :: slo 116 11 (.slice none ([] : List (Cm × Hd)).length 0) ([] : List (Cm × Hd)).length (ov (ap0 + 1) []) :: []) := (((H.pull (r := row 65 g19 _) pU).pull (r := cmsr G _) pU).pull (r := slo 36 10 _ _ _) pU).pull (r := row 97 g0 _) pU
  clear H
  have H := H3
  clear H3
  go_loopw [7] (fun i wr => ∃ (q ap1 s1 : Nat) (ks1 qs1 : List (Cm × Hd)) (xa : Option Addr) (xc : Nat) (ka : Option Addr) (kc : Nat) (G : Nat → Prop), q ≤ n ∧ q ≤ 40 ∧ i = .int .i64 (q : Int) ∧ Hid (LRel w.heap.size w (Old w) ap1 s1 ks1 qs1) ∧ ap1 < 18446744073709551616 ∧ St w.heap.size w wr (row 97 g0 #[.int .u64 (ap1 : Int), .slice ka ks1.length kc] :: slo 36 10 (.slice ka ks1.length kc) ks1.length (kv ks1) :: cmsr G ks1 :: row 65 g19 #[.int .u64 (ap1 : Int), .slice xa qs1.length xc] :: slo 116 11 (.slice xa qs1.length xc) qs1.length (ov s1 qs1) :: [])) (fun i _ => 40 - (intOf i).toNat)
  case atStart => exact ⟨0, ap0, ap0 + 1, [], [], none, 0, ka, kc, G, Nat.zero_le _, Nat.zero_le _, rfl, HR0, HAP0.out, H⟩
  case round =>
    clear H HR0
    obtain ⟨q, ap1, s1, ks1, qs1, xa, xc, ka, kc, G, hq, hq40, rfl, HRL1, hap1, H⟩ := hrel
    by_cases hlt : q < n
    · have qli : (q : Int) < (n : Int) := by omega
      by_cases h40 : q < 40
      · have q40i : (q : Int) < 40 := by omega
        have hl1 : q < l.length := by rw [HN.out]; exact hlt
        obtain ⟨b1, o1, rfl, hbl1⟩ := hs0.addr (by omega)
        have hc1 := hs0.cell hlt
        unfold elL at hc1
        rw [getD_at hl1] at hc1
        have hmm := List.getElem_mem hl1
        have hgs := any_take HE.out hl1 h40
        obtain ⟨a, ha⟩ : ∃ a, l[q] = a := ⟨_, rfl⟩
        rw [ha] at hc1 hmm hgs
        have HXA := Lib.hid (HXX.out a hmm)
        have HSM := Lib.hid (gC_sm hgs)
        simp only [lkC] at hc1
        clear hgs hmm ha hl1
        by_cases hbig : 18446744073709551614 ≤ ap1
        · have zb : decide (18446744073709551614 ≤ ap1) = true := decide_eq_true hbig
          have zbi : (18446744073709551614 : Int) ≤ (ap1 : Int) := by omega
          go_wp2_with (first | (with_reducible refine wpl rfl (Stp.box 19 rfl rfl rfl H ?_); clear H; intro g19 w1 H; simp only [pS]; simp only [pE, nC, pS] at H) | (with_reducible refine wpl rfl (Stp.ldc rfl agg26 rfl H mR cE ?_); simp only [pS]) | (with_reducible refine wpl rfl (Stp.ldo rfl agg26 rfl H (by assumption) (by assumption) ?_); simp only [pS]))
          refine rg_begin 52 rfl (S := fun W => St _ _ W (row 65 g19 #[.int .u64 (ap1 : Int), .slice xa qs1.length xc] :: [])) (by kernel_rfl) (H.drew.sub sU) ?_
          replace H := H.drew
          have HS := H
          refine rg_take (i := 0) rfl kR kR kR (Yld.move rfl rfl) (H.sub sU) ?_; simp only [pS, pE]
          refine rg_take (i := 1) rfl kR kR kR (Yld.o rfl) (H.sub sU) ?_; simp only [pS]
          refine rg_take (i := 2) rfl kR kR kR (Yld.o rfl) (H.sub sU) ?_; simp only [pS]
          first | (refine rg_take (i := 3) rfl kR kR kR (Yld.ldc rfl rfl agg26 rfl mR cE) (H.sub sU) ?_; simp only [pS]) | (refine rg_take (i := 3) rfl kR kR kR (Yld.ldo rfl rfl agg26 rfl (by assumption) (by assumption)) (H.sub sU) ?_; simp only [pS])
          refine rg_take (i := 4) rfl kR kR kR (Yld.o rfl) (H.sub sU) ?_; simp only [pS]
          refine rg_take (i := 5) rfl kR kR kR (Yld.move rfl rfl) (H.sub sU) ?_; simp only [pS, pE]
          refine rg_take (i := 6) rfl kR kR kR (Yld.skip rfl) (H.sub sU) ?_; simp only [pS]
          refine rg_take (i := 7) rfl kR kR kR (Yld.skip rfl) (H.sub sU) ?_; simp only [pS]
          refine rg_take (i := 8) rfl kR kR kR (Yld.skip rfl) (H.sub sU) ?_; simp only [pS]
          refine rg_take (i := 9) rfl kR kR kR (Yld.skip rfl) (H.sub sU) ?_; simp only [pS]
          refine rg_take (i := 10) rfl kR kR kR (Yld.skip rfl) (H.sub sU) ?_; simp only [pS]
          refine rg_take (i := 11) rfl kR kR kR (Yld.skip rfl) (H.sub sU) ?_; simp only [pS]
          refine rg_take (i := 12) rfl kR kR kR (Yld.skip rfl) (H.sub sU) ?_; simp only [pS]
          refine rg_take (i := 13) rfl kR kR kR (Yld.skip rfl) (H.sub sU) ?_; simp only [pS]
          refine rg_take (i := 14) rfl kR kR kR (Yld.pick rfl rfl rfl) (H.sub sU) ?_; simp only [pS, pE]
          refine rg_take (i := 15) rfl kR kR kR (Yld.move rfl rfl) (H.sub sU) ?_; simp only [pS, pE]
          refine rg_take (i := 16) rfl kR kR kR (Yld.skip rfl) (H.sub sU) ?_; simp only [pS]
          refine rg_take (i := 17) rfl kR kR kR (Yld.skip rfl) (H.sub sU) ?_; simp only [pS]
          refine rg_take (i := 18) rfl kR kR kR (Yld.skip rfl) (H.sub sU) ?_; simp only [pS]
          refine rg_take (i := 19) rfl kR kR kR (Yld.skip rfl) (H.sub sU) ?_; simp only [pS]
          refine rg_take (i := 20) rfl kR kR kR (Yld.skip rfl) (H.sub sU) ?_; simp only [pS]
          refine rg_take (i := 21) rfl kR kR kR (Yld.skip rfl) (H.sub sU) ?_; simp only [pS]
          refine rg_take (i := 22) rfl kR kR kR (Yld.skip rfl) (H.sub sU) ?_; simp only [pS]
          refine rg_take (i := 23) rfl kR kR kR (Yld.pick rfl rfl rfl) (H.sub sU) ?_; simp only [pS, pE]
          refine rg_take (i := 24) rfl kR kR kR (Yld.move rfl rfl) (H.sub sU) ?_; simp only [pS, pE]
          refine rg_take (i := 25) rfl kR kR kR (Yld.skip rfl) (H.sub sU) ?_; simp only [pS]
          refine rg_take (i := 26) rfl kR kR kR (Yld.skip rfl) (H.sub sU) ?_; simp only [pS]
          refine rg_take (i := 27) rfl kR kR kR (Yld.skip rfl) (H.sub sU) ?_; simp only [pS]
          refine rg_take (i := 28) rfl kR kR kR (Yld.skip rfl) (H.sub sU) ?_; simp only [pS]
          refine rg_take (i := 29) rfl kR kR kR (Yld.skip rfl) (H.sub sU) ?_; simp only [pS]
          refine rg_take (i := 30) rfl kR kR kR (Yld.pick rfl rfl rfl) (H.sub sU) ?_; simp only [pS, pE]
          refine rg_take (i := 31) rfl kR kR kR (Yld.move rfl rfl) (H.sub sU) ?_; simp only [pS, pE]
          refine rg_take (i := 32) rfl kR kR kR (Yld.skip rfl) (H.sub sU) ?_; simp only [pS]
          refine rg_take (i := 33) rfl kR kR kR (Yld.skip rfl) (H.sub sU) ?_; simp only [pS]
          refine rg_take (i := 34) rfl kR kR kR (Yld.skip rfl) (H.sub sU) ?_; simp only [pS]
          refine rg_take (i := 35) rfl kR kR kR (Yld.skip rfl) (H.sub sU) ?_; simp only [pS]
          refine rg_take (i := 36) rfl kR kR kR (Yld.skip rfl) (H.sub sU) ?_; simp only [pS]
          refine rg_take (i := 37) rfl kR kR kR (Yld.skip rfl) (H.sub sU) ?_; simp only [pS]
          refine rg_take (i := 38) rfl kR kR kR (Yld.skip rfl) (H.sub sU) ?_; simp only [pS]
          refine rg_take (i := 39) rfl kR kR kR (Yld.skip rfl) (H.sub sU) ?_; simp only [pS]
          refine rg_take (i := 40) rfl kR kR kR (Yld.pick rfl rfl rfl) (H.sub sU) ?_; simp only [pS, pE]
          refine rg_take (i := 41) rfl kR kR kR (Yld.move rfl rfl) (H.sub sU) ?_; simp only [pS, pE]
          refine rg_take (i := 42) rfl kR kR kR (Yld.skip rfl) (H.sub sU) ?_; simp only [pS]
          refine rg_take (i := 43) rfl kR kR kR (Yld.skip rfl) (H.sub sU) ?_; simp only [pS]
          refine rg_take (i := 44) rfl kR kR kR (Yld.skip rfl) (H.sub sU) ?_; simp only [pS]
          refine rg_take (i := 45) rfl kR kR kR (Yld.skip rfl) (H.sub sU) ?_; simp only [pS]
          refine rg_take (i := 46) rfl kR kR kR (Yld.skip rfl) (H.sub sU) ?_; simp only [pS]
          refine rg_take (i := 47) rfl kR kR kR (Yld.skip rfl) (H.sub sU) ?_; simp only [pS]
          refine rg_take (i := 48) rfl kR kR kR (Yld.skip rfl) (H.sub sU) ?_; simp only [pS]
          refine rg_take (i := 49) rfl kR kR kR (Yld.skip rfl) (H.sub sU) ?_; simp only [pS]
          refine rg_take (i := 50) rfl kR kR kR (Yld.skip rfl) (H.sub sU) ?_; simp only [pS]
          refine rg_take (i := 51) rfl kR kR kR (Yld.pick rfl rfl rfl) (H.sub sU) ?_; simp only [pS, pE]
          refine rg_done (by kernel_rfl) ?_
          go_wp2_with (first | (go_at_call 13; (with_reducible refine (aw18_ok _).mono ?_); rintro e w1 ⟨v, rfl, hr⟩; obtain ⟨rfl, hb1⟩ := hr; replace H := H.grow hb1; clear hb1) | (with_reducible refine wpl rfl (Stp.box 19 rfl rfl rfl H ?_); clear H; intro g19 w1 H; simp only [pS]; simp only [pE, nC, pS] at H) | (with_reducible refine wpl rfl (Stp.ldc rfl agg26 rfl H mR cE ?_); simp only [pS]) | (with_reducible refine wpl rfl (Stp.ldo rfl agg26 rfl H (by assumption) (by assumption) ?_); simp only [pS]))
          go_ret
          exact ⟨_, rfl, rfl, H.below⟩
        · have zb : decide ((18446744073709551614 : Int) ≤ (ap1 : Int)) = false := decide_eq_false (by omega)
          go_wp2_with (first | (with_reducible refine wpl rfl (Stp.box 19 rfl rfl rfl H ?_); clear H; intro g19 w1 H; simp only [pS]; simp only [pE, nC, pS] at H) | (with_reducible refine wpl rfl (Stp.ldc rfl agg26 rfl H mR cE ?_); simp only [pS]) | (with_reducible refine wpl rfl (Stp.ldo rfl agg26 rfl H (by assumption) (by assumption) ?_); simp only [pS]))
          refine rk_begin 12 52 (fun W => St w.heap.size w W (row 65 g19 #[.int .u64 (ap1 : Int), .slice xa qs1.length xc] :: [])) rfl (by kernel_rfl) ?_
          replace H := H.drew
          have HS := H
          refine rk_free (i := 0) rfl kR kR kR kR (Yld.move rfl rfl) (fun _ => (H.sub sU)) ?_; simp only [pS, pE]
          refine rk_free (i := 1) rfl kR kR kR kR (Yld.o rfl) (fun _ => (H.sub sU)) ?_; simp only [pS]
          refine rk_free (i := 2) rfl kR kR kR kR (Yld.o rfl) (fun _ => (H.sub sU)) ?_; simp only [pS]
          first | (refine rk_via (i := 3) [4, 5, 12] rfl kR kR kR kR kR kR kR (Yld.ldc rfl rfl agg26 rfl mR cE) (H.sub sU) ?_; simp only [pS]) | (refine rk_via (i := 3) [4, 5, 12] rfl kR kR kR kR kR kR kR (Yld.ldo rfl rfl agg26 rfl (by assumption) (by assumption)) (H.sub sU) ?_; simp only [pS])
          refine rk_free (i := 4) rfl kR kR kR kR (Yld.o rfl) (fun _ => (H.sub sU)) ?_; simp only [pS]
          refine rk_free (i := 5) rfl kR kR kR kR (Yld.move rfl rfl) (fun _ => (H.sub sU)) ?_; simp only [pS, pE]
          refine rk_free (i := 6) rfl kR kR kR kR (Yld.move rfl rfl) (fun _ => (H.sub sU)) ?_; simp only [pS, pE]
          refine rk_free (i := 7) rfl kR kR kR kR (Yld.move rfl rfl) (fun _ => (H.sub sU)) ?_; simp only [pS, pE]
          refine rk_free (i := 8) rfl kR kR kR kR (Yld.move rfl rfl) (fun _ => (H.sub sU)) ?_; simp only [pS, pE]
          refine rk_free (i := 9) rfl kR kR kR kR (Yld.move rfl rfl) (fun _ => (H.sub sU)) ?_; simp only [pS, pE]
          refine rk_free (i := 10) rfl kR kR kR kR (Yld.o rfl) (fun _ => (H.sub sU)) ?_; simp only [pS]
          first | (refine rk_take (i := 11) rfl kR kR kR kR kR kR (Yld.ldr rfl rfl agg68 size68 rfl mR sZ) (H.sub sU) ?_; simp only [pS]) | (refine rk_take (i := 11) rfl kR kR kR kR kR kR (Yld.ldl rfl rfl agg68 size68 rfl mR (by simp)) (H.sub sU) ?_; simp only [pS]; simp only [List.drop_succ_cons, List.drop_zero, List.take_succ_cons, List.take_zero]) | (refine rk_take (i := 11) rfl kR kR kR kR kR kR (Yld.ldor rfl rfl agg68 size68 rfl (by assumption) sZ (by assumption)) (H.sub sU) ?_; simp only [pS])
          refine rk_one (i := 12) (by kernel_rfl) rfl rfl (fun K hK => ?_)
          refine wp_callf rfl ent29 (do18_ok g0 g19 ap1 s1 a.sl ks1 qs1 xa xc a.kind a.n0 a.near a.c a.h HSM.out HXA.out.c (fun W hW _ => HXA.out.x.grow hW) HXA.out.sl (by omega) HRL1.out _ (LRSt.of H)) rfl (fun v w1 hr => ?_)
          obtain ⟨rfl, ap2, s2, ks2, qs2, xa2, xc2, hrl, hle, hmx, hsle, ka, kc, G, H2⟩ := hr
          clear H
          obtain ⟨n2, hn2⟩ : ∃ n2, ks2.length = n2 := ⟨_, rfl⟩
          rw [hn2, show qs2.length = n2 from hrl.qlen.trans hn2] at H2
          have H := H2
          have HRL2 := Lib.hid hrl
          have HN2 := Lib.hid hn2
          have HMX := Lib.hid hmx
          have hn64 : n2 ≤ 64 := by rw [← hn2]; exact hrl.len
          have hsum : s2 + n2 = ap2 + 1 := by rw [← hn2]; exact hrl.sum
          have W4 : IntKind.i64.wrap (64 - (n2 : Int)) = 64 - (n2 : Int) := by rw [IntKind.wrap_i64]; omega
          have HF2 : Hid (ap2 + 1 - n2 = s2) := Lib.hid (by omega)
          have HAP2 : Hid (ap2 < 18446744073709551614) := Lib.hid (by omega)
          have HS2 := Lib.hid hsum
          clear H2 hrl hle hmx hsle hn2 hsum
          clear HS
          have HS := H
          refine hK.out _ _ (fun h => by cases (show true = false from h)) ?_
          clear hK K
          simp only [pS]
          refine rk_on (fun W => St w.heap.size w W (row 97 g0 #[.int .u64 (ap2 : Int), .slice ka n2 kc] :: slo 36 10 (.slice ka n2 kc) n2 (kv ks2) :: cmsr G ks2 :: row 65 g19 #[.int .u64 (ap2 : Int), .slice xa2 n2 xc2] :: slo 116 11 (.slice xa2 n2 xc2) n2 (ov s2 qs2) :: [])) (by kernel_rfl) ?_
          refine rg_take (i := 13) rfl kR kR kR (Yld.o rfl) (H.sub sU) ?_; simp only [pS]
          refine rg_take (i := 14) rfl kR kR kR (Yld.pick rfl rfl rfl) (H.sub sU) ?_; simp only [pS, pE]
          refine rg_take (i := 15) rfl kR kR kR (Yld.move rfl rfl) (H.sub sU) ?_; simp only [pS, pE]
          refine rg_take (i := 16) rfl kR kR kR (Yld.move rfl rfl) (H.sub sU) ?_; simp only [pS, pE]
          refine rg_take (i := 18) rfl kR kR kR (Yld.move rfl rfl) (H.sub sU) ?_; simp only [pS, pE]
          refine rg_take (i := 19) rfl kR kR kR (Yld.o rfl) (H.sub sU) ?_; simp only [pS]
          refine rg_take (i := 20) rfl kR kR kR (Yld.o rfl) (H.sub sU) ?_; simp only [pS]
          first | (refine rg_take (i := 21) rfl kR kR kR (Yld.ldc rfl rfl agg26 rfl mR cE) (H.sub sU) ?_; simp only [pS]) | (refine rg_take (i := 21) rfl kR kR kR (Yld.ldo rfl rfl agg26 rfl (by assumption) (by assumption)) (H.sub sU) ?_; simp only [pS])
          refine rg_one (i := 17) (by kernel_rfl) rfl rfl (fun K hK => ?_)
          refine wp_callf rfl ent31 (lApplied_ok g0 ap2 n2 kc ka _ (H.getHeap mE)) rfl (fun v w1 hr => ?_)
          obtain ⟨rfl, hb1⟩ := hr
          replace H := H.grow hb1
          clear hb1
          clear HS
          have HS := H
          refine hK.out _ _ (H.sub sU) ?_
          clear hK K
          simp only [pS]
          refine rg_take (i := 22) rfl kR kR kR (Yld.o rfl) (H.sub sU) ?_; simp only [pS]
          refine rg_take (i := 23) rfl kR kR kR (Yld.pick rfl rfl rfl) (H.sub sU) ?_; simp only [pS, pE]
          refine rg_take (i := 24) rfl kR kR kR (Yld.move rfl rfl) (H.sub sU) ?_; simp only [pS, pE]
          refine rg_take (i := 25) rfl kR kR kR (Yld.move rfl rfl) (H.sub sU) ?_; simp only [pS, pE]
          refine rg_take (i := 27) rfl kR kR kR (Yld.move rfl rfl) (H.sub sU) ?_; simp only [pS, pE]
          refine rg_one (i := 26) (by kernel_rfl) rfl rfl (fun K hK => ?_)
          refine wp_callf rfl ent32 (lFrom_ok g0 ap2 n2 kc ka (by have := HAP2.out; omega) (by have := HS2.out; omega) (by omega) _ (H.getHeap mE)) rfl (fun v w1 hr => ?_)
          rw [HF2.out] at hr
          obtain ⟨rfl, hb1⟩ := hr
          replace H := H.grow hb1
          clear hb1
          clear HS
          have HS := H
          refine hK.out _ _ (H.sub sU) ?_
          clear hK K
          simp only [pS]
          refine rg_one (i := 28) (by kernel_rfl) rfl rfl (fun K hK => ?_)
          refine wp_callf rfl ent33 (rlfrom2_ok g19 ap2 s2 n2 qs2 xa2 xc2 (HRL2.out.qlen.trans HN2.out) (by have := HAP2.out; omega) HS2.out _ ((H.pull (r := slo 116 11 _ _ _) pU).pull (r := row 65 g19 _) pU)) rfl (fun v w1 hr => ?_)
          obtain ⟨rfl, H2⟩ := hr
          clear H
          have H := ((H2.pull (r := cmsr G _) pU).pull (r := slo 36 10 _ _ _) pU).pull (r := row 97 g0 _) pU
          clear H2
          clear HS
          have HS := H
          refine hK.out _ _ (H.sub sU) ?_
          clear hK K
          simp only [pS]
          refine rg_take (i := 29) rfl kR kR kR (Yld.o rfl) (H.sub sU) ?_; simp only [pS]
          refine rg_take (i := 30) rfl kR kR kR (Yld.pick rfl rfl rfl) (H.sub sU) ?_; simp only [pS, pE]
          refine rg_take (i := 31) rfl kR kR kR (Yld.move rfl rfl) (H.sub sU) ?_; simp only [pS, pE]
          refine rg_take (i := 32) rfl kR kR kR (Yld.move rfl rfl) (H.sub sU) ?_; simp only [pS, pE]
          refine rg_take (i := 34) rfl kR kR kR (Yld.move rfl rfl) (H.sub sU) ?_; simp only [pS, pE]
          refine rg_take (i := 35) rfl kR kR kR (Yld.o rfl) (H.sub sU) ?_; simp only [pS]
          refine rg_take (i := 36) rfl kR kR kR (Yld.o rfl) (H.sub sU) ?_; simp only [pS]
          first | (refine rg_take (i := 37) rfl kR kR kR (Yld.ldc rfl rfl agg63 rfl mR cE) (H.sub sU) ?_; simp only [pS]) | (refine rg_take (i := 37) rfl kR kR kR (Yld.ldo rfl rfl agg63 rfl (by assumption) (by assumption)) (H.sub sU) ?_; simp only [pS])
          refine rg_take (i := 38) rfl kR kR kR (Yld.o rfl) (H.sub sU) ?_; simp only [pS]
          refine rg_one (i := 33) (by kernel_rfl) rfl rfl (fun K hK => ?_)
          refine wp_callf rfl ent30 (lKept_ok g0 ap2 n2 kc ka _ (H.getHeap mE)) rfl (fun v w1 hr => ?_)
          obtain ⟨rfl, hb1⟩ := hr
          replace H := H.grow hb1
          clear hb1
          clear HS
          have HS := H
          refine hK.out _ _ (H.sub sU) ?_
          clear hK K
          simp only [pS]
          refine rg_take (i := 39) rfl kR kR kR (Yld.o rfl) (H.sub sU) ?_; simp only [pS]
          refine rg_take (i := 40) rfl kR kR kR (Yld.pick rfl rfl rfl) (H.sub sU) ?_; simp only [pS, pE]
          refine rg_take (i := 41) rfl kR kR kR (Yld.move rfl rfl) (H.sub sU) ?_; simp only [pS, pE]
          refine rg_take (i := 42) rfl kR kR kR (Yld.move rfl rfl) (H.sub sU) ?_; simp only [pS, pE]
          refine rg_take (i := 44) rfl kR kR kR (Yld.move rfl rfl) (H.sub sU) ?_; simp only [pS, pE]
          refine rg_take (i := 45) rfl kR kR kR (Yld.o rfl) (H.sub sU) ?_; simp only [pS]
          refine rg_take (i := 46) rfl kR kR kR (Yld.o rfl) (H.sub sU) ?_; simp only [pS]
          first | (refine rg_take (i := 47) rfl kR kR kR (Yld.ldc rfl rfl agg63 rfl mR cE) (H.sub sU) ?_; simp only [pS]) | (refine rg_take (i := 47) rfl kR kR kR (Yld.ldo rfl rfl agg63 rfl (by assumption) (by assumption)) (H.sub sU) ?_; simp only [pS])
          refine rg_take (i := 48) rfl kR kR kR (Yld.o rfl) (H.sub sU) ?_; simp only [pS]
          refine rg_take (i := 49) rfl kR kR kR (Yld.o rfl) (H.sub sU) ?_; simp only [pS]
          refine rg_one (i := 43) (by kernel_rfl) rfl rfl (fun K hK => ?_)
          refine wp_callf rfl ent34 (lRoom_ok g0 ap2 n2 kc ka hn64 _ (H.getHeap mE)) rfl (fun v w1 hr => ?_)
          obtain ⟨rfl, hb1⟩ := hr
          replace H := H.grow hb1
          clear hb1
          clear HS
          have HS := H
          refine hK.out _ _ (H.sub sU) ?_
          clear hK K
          simp only [pS]
          refine rg_take (i := 50) rfl kR kR kR (Yld.o rfl) (H.sub sU) ?_; simp only [pS]
          refine rg_take (i := 51) rfl kR kR kR (Yld.pick rfl rfl rfl) (H.sub sU) ?_; simp only [pS, pE]
          refine rg_done (by kernel_rfl) ?_
          go_wp2_with (first | (with_reducible refine wpl rfl (Stp.box 19 rfl rfl rfl H ?_); clear H; intro g19 w1 H; simp only [pS]; simp only [pE, nC, pS] at H) | (with_reducible refine wpl rfl (Stp.ldc rfl agg26 rfl H mR cE ?_); simp only [pS]) | (with_reducible refine wpl rfl (Stp.ldo rfl agg26 rfl H (by assumption) (by assumption) ?_); simp only [pS]))
          go_roundw
          case rel => exact ⟨q + 1, ap2, s2, ks2, qs2, xa2, xc2, ka, kc, G, by omega, by omega, by go_num, HRL2, by have := HAP2.out; omega, by rw [HRL2.out.qlen, HN2.out]; exact H⟩
          case measure => simp [intOf]; omega
      · have q40i : ¬ (q : Int) < 40 := by omega
        go_wp2_with (first | (go_at_call 13; (with_reducible refine (aw18_ok _).mono ?_); rintro e w1 ⟨v, rfl, hr⟩; obtain ⟨rfl, hb1⟩ := hr; replace H := H.grow hb1; clear hb1) | (with_reducible refine wpl rfl (Stp.box 19 rfl rfl rfl H ?_); clear H; intro g19 w1 H; simp only [pS]; simp only [pE, nC, pS] at H) | (with_reducible refine wpl rfl (Stp.ldc rfl agg26 rfl H mR cE ?_); simp only [pS]) | (with_reducible refine wpl rfl (Stp.ldo rfl agg26 rfl H (by assumption) (by assumption) ?_); simp only [pS]))
        go_ret
        exact ⟨_, rfl, rfl, H.below⟩
    · have qli : ¬ (q : Int) < (n : Int) := by omega
      go_wp2_with (first | (go_at_call 13; (with_reducible refine (aw18_ok _).mono ?_); rintro e w1 ⟨v, rfl, hr⟩; obtain ⟨rfl, hb1⟩ := hr; replace H := H.grow hb1; clear hb1) | (with_reducible refine wpl rfl (Stp.box 19 rfl rfl rfl H ?_); clear H; intro g19 w1 H; simp only [pS]; simp only [pE, nC, pS] at H) | (with_reducible refine wpl rfl (Stp.ldc rfl agg26 rfl H mR cE ?_); simp only [pS]) | (with_reducible refine wpl rfl (Stp.ldo rfl agg26 rfl H (by assumption) (by assumption) ?_); simp only [pS]))
      go_ret
      exact ⟨_, rfl, rfl, H.below⟩
set_option maxRecDepth 100000 in
theorem ledgerPlays_lifted (os : Os) (started : os.Started) (H : Type) (enc : TypeId × Value → H) :
    ReturnsInHanded {} Try.checked os 6 .any (Rows.ledgerPlaysSpec.pre6 enc Try.prog Try.f6 Rows.ledgerPlaysRow.domain false) (Rows.ledgerPlaysSpec.post enc Try.prog Try.f6 false true false false) := by
  refine law_lifted (C := Try.checked) own started (by kernel_rfl) Try.func6 laidOut rfl Try.underlying4 rfl (by kernel_rfl) (fun ds hd => ?_)
    (ChangeSpec.witness6 (enc := enc) (C := Try.checked) false ⟨#[], #[.int .u64 0, .slice none 0 0], []⟩ 8 (by kernel_rfl) (by kernel_rfl) (by kernel_rfl) (by kernel_rfl)) ?_
  · match ds, hd with
    | [d0, d1], _ => exact ⟨rfl, rfl, rfl⟩
  intro W base args ds p hval hA
  rw [Try.params6] at hA hval
  obtain ⟨v0, vs0, d0, ds0, p0, q0, hargs, rfl, rfl, h0, r0⟩ := trodAll_cons hA
  obtain ⟨v1, vs1, d1, ds1, p1, q1, rfl, rfl, rfl, h1, r1⟩ := trodAll_cons r0
  obtain ⟨rfl, rfl, rfl⟩ := trodAll_nil r1
  obtain rfl : args = #[v0, v1] := by cases args; simp_all
  obtain ⟨ni, rfl, _, _, nw⟩ := open_int Try.underlying26 (hval 0 26 v0 rfl rfl) h0
  obtain ⟨n, rfl, nb⟩ : ∃ q : Nat, ni = (q : Int) ∧ q < 18446744073709551616 := ⟨ni.toNat, by have := bounds_u64 nw; omega, by have := bounds_u64 nw; omega⟩
  obtain ⟨l, va, vc, rfl, hs, hx⟩ := open_lks (hval 1 60 v1 rfl rfl) h1
  exact law_lplays n nb va vc l W hs hx
theorem ledgerPlays_over : Rows.ledgerPlaysRow.holds Try.pinned (OpenSpec.ofChange Rows.ledgerPlaysSpec) :=
  OpenClaim.holds_of_wide 6 Try.f6 rfl rfl rfl rfl rfl rfl rfl ⟨rfl, rfl, rfl, rfl, rfl⟩ rfl rfl rfl rfl rfl (by kernel_rfl) Try.func6 (by kernel_rfl)
    (of_decide_eq_true (by kernel_rfl)) (by unfold Func.isWrapper; first | (rw [if_pos (by decide +kernel)]; kernel_rfl) | (rw [if_neg (by decide +kernel)]; exact ⟨rfl, rfl⟩))
    (fun os started H enc _ => ledgerPlays_lifted os started H enc)
theorem ledgerPlays_holds : Rows.LedgerPlaysSaid := ledgerPlays_over
#print axioms ledgerPlays_holds
end Go.Proofs.Ytmokecicjmjkbaa
