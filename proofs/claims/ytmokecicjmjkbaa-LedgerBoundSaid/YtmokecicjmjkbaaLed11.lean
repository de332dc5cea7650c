/- The statement LedgerBound of layer 18 (ledger): the law's walk; the bounds stand in it. -/
import Derived.Test.YtmokecicjmjkbaaLed9
namespace Go.Proofs.Ytmokecicjmjkbaa
open Go.ChangeShapes Go.WideShapes Go.ChangeAt Go.RowKit Go.Maps
set_option linter.unusedVariables false
set_option linter.unusedSimpArgs false
set_option maxRecDepth 100000
set_option maxHeartbeats 8000000
theorem bGet_no {B : Nat} {w0 : World} {L : List Res} (g0 ap slot n : Nat) (ks : List (Cm × Hd)) (ka : Option Addr) (kc : Nat) (G : Nat → Prop) (hkn : ks.length = n) (hn : n ≤ 64) (ha : ap < 18446744073709551616) (hs : slot < 18446744073709551616) (hm : ∀ p ∈ ks, smC p.1) (hp : plc ap n slot = none) (w : World) (H : St B w0 w (row 97 g0 #[.int .u64 (ap : Int), .slice ka n kc] :: slo 36 10 (.slice ka n kc) n (kv ks) :: cmsr G ks :: L)) :
    Calls Try.prog 16 #[.pointer (some ⟨g0, 0, none⟩), .int .u64 (slot : Int)] w (Ret fun v w' => ∃ (ka : Option Addr) (kc : Nat) (G : Nat → Prop), v = .tuple #[.agg #[.int .i64 0, .int .u16 0, .int .u32 0, .int .u64 0, .int .u64 0, .slice none 0 0, .int .u64 0, .slice none 0 0, .slice none 0 0, .slice none 0 0], .int .i64 8] ∧ St B w0 w' (row 97 g0 #[.int .u64 (ap : Int), .slice ka n kc] :: slo 36 10 (.slice ka n kc) n (kv ks) :: cmsr G ks :: L)) := by
  subst hkn
  refine (lget_ok g0 ap slot ks hn ha hs hm w ⟨ka, kc, G, H⟩).mono ?_
  rintro e w1 ⟨v, rfl, ⟨_, rfl, ka, kc, G, H⟩ | ⟨q, p, G2, h, hc, _⟩⟩
  · exact ⟨_, rfl, ka, kc, G, rfl, H⟩
  · rw [hp] at hc; cases hc
theorem bGet_yes {B : Nat} {w0 : World} {L : List Res} (g0 ap slot n q : Nat) (c : Cm) (h0 : Hd) (ks : List (Cm × Hd)) (ka : Option Addr) (kc : Nat) (G : Nat → Prop) (hkn : ks.length = n) (hn : n ≤ 64) (ha : ap < 18446744073709551616) (hs : slot < 18446744073709551616) (hm : ∀ p ∈ ks, smC p.1) (hp : plc ap n slot = some q) (hq : ks[q]? = some (c, h0)) (w : World) (H : St B w0 w (row 97 g0 #[.int .u64 (ap : Int), .slice ka n kc] :: slo 36 10 (.slice ka n kc) n (kv ks) :: cmsr G ks :: L)) :
    Calls Try.prog 16 #[.pointer (some ⟨g0, 0, none⟩), .int .u64 (slot : Int)] w (Ret fun v w' => ∃ (h : Hd) (G2 : Nat → Prop) (ka : Option Addr) (kc : Nat) (G : Nat → Prop), v = .tuple #[.agg (cmH c h), .int .i64 0] ∧ St B w0 w' (row 97 g0 #[.int .u64 (ap : Int), .slice ka n kc] :: slo 36 10 (.slice ka n kc) n (kv ks) :: cmsr G ks :: L)) := by
  subst hkn
  refine (lget_ok g0 ap slot ks hn ha hs hm w ⟨ka, kc, G, H⟩).mono ?_
  rintro e w1 ⟨v, rfl, ⟨hc, _⟩ | ⟨q', p, G2, h, hc, hk, rfl, ka, kc, G, H⟩⟩
  · rw [hp] at hc; cases hc
  · rw [hp] at hc
    cases hc
    rw [hq] at hk
    cases hk
    exact ⟨_, rfl, h, G2, ka, kc, G, rfl, H.sub sU⟩
theorem lnew7_ok {B : Nat} {w0 : World} {L : List Res} (w : World) (H : St B w0 w L) : Calls Try.prog 14 #[.int .u64 7] w (Ret fun v w' => ∃ g0, v = .pointer (some ⟨g0, 0, none⟩) ∧ LdSt B w0 w' g0 7 [] L) := lnew_ok 7 w H
attribute [local irreducible] gC plc
theorem law_lbound (va : Option Addr) (vc : Nat) (l : List Lk) (w : World) (hs : Sl w 14 l.length (.slice va l.length vc) (elL l)) (hx : ∀ a ∈ l, wfL w a) :
    Calls Try.prog 5 #[.slice va l.length vc] w (Ret fun v w' => v = .bool true ∧ Below w.heap.size w w') := by
  have H := St.init w
  have HXX := Lib.hid hx
  clear hx
  obtain ⟨e, he⟩ : ∃ e, ((l.take 40).any fun a => gC a.c) = e := ⟨_, rfl⟩
  have HE := Lib.hid he
  obtain ⟨n, hn⟩ : ∃ n, l.length = n := ⟨_, rfl⟩
  have HN := Lib.hid hn
  have hs0 := hs
  rw [hn] at hs0 ⊢
  clear hs hn
  cases e
  case true =>
    clear he
    go_enter Try.func5, Try.ntmps5
    go_wp2_with (first | (go_at_call 28; (with_reducible refine (great18_n va vc l n HN.out _ (hs0.grow H.below) (fun a ha => (HXX.out a ha).grow H.below)).mono ?_); rintro e w1 ⟨v, rfl, hr⟩; obtain ⟨rfl, hb1⟩ := hr; replace H := H.grow hb1; clear hb1; rw [HE.out]) | (go_at_call 13; (with_reducible refine (aw18_ok _).mono ?_); rintro e w1 ⟨v, rfl, hr⟩; obtain ⟨rfl, hb1⟩ := hr; replace H := H.grow hb1; clear hb1) | (with_reducible refine wpl rfl (Stp.box 17 rfl rfl rfl H ?_); clear H; intro g17 w1 H; simp only [pS]; simp only [pE, nC, pS] at H) | (with_reducible refine wpl rfl (Stp.ldr rfl agg68 size68 rfl H mR sZ ?_); simp only [pS]) | (with_reducible refine wpl rfl (Stp.ldl rfl agg68 size68 rfl H mR (by simp) ?_); simp only [pS]; simp only [List.drop_succ_cons, List.drop_zero, List.take_succ_cons, List.take_zero]) | (with_reducible refine wpl rfl (Stp.ldor rfl agg68 size68 rfl H (by assumption) sZ (by assumption) ?_); simp only [pS]) | (with_reducible refine wpl rfl (Stp.alloc 8 rfl rfl zero36 H ?_); clear H; intro g8 w1 H; simp only [pS]; simp only [nC] at H) | (with_reducible refine wpl rfl (Stp.str rfl size36 rfl rfl (by first | rfl | (simp [Value.oneCell']; done) | assumption) H uP sZ sZ ?_); clear H; intro w1 H; simp only [pS]) | (with_reducible refine wpl rfl (Stp.stl rfl size36 rfl rfl rfl rfl H uP (by simp) ?_); clear H; intro w1 H; simp only [pS]; simp only [List.drop_succ_cons, List.drop_zero, List.take_succ_cons, List.take_zero, List.nil_append, List.cons_append, Nat.reduceAdd] at H) | (with_reducible refine wpl rfl (Stp.alloc 10 rfl rfl zero36 H ?_); clear H; intro g10 w1 H; simp only [pS]; simp only [nC] at H))
    go_ret
    exact ⟨_, rfl, rfl, H.below⟩
  obtain ⟨_, _, _, hm, _⟩ := id hs0
  unfold maxLen at hm
  clear he
  go_enter Try.func5, Try.ntmps5
  go_wp2_with (first | (go_at_call 28; (with_reducible refine (great18_n va vc l n HN.out _ (hs0.grow H.below) (fun a ha => (HXX.out a ha).grow H.below)).mono ?_); rintro e w1 ⟨v, rfl, hr⟩; obtain ⟨rfl, hb1⟩ := hr; replace H := H.grow hb1; clear hb1; rw [HE.out]) | (go_at_call 14; (with_reducible refine (lnew7_ok _ H).mono ?_); rintro e w1 ⟨v, rfl, hr⟩; obtain ⟨g0, rfl, ka, kc, G, H2⟩ := hr; clear H; have H := H2; clear H2) | (with_reducible refine wpl rfl (Stp.build (v := (.agg #[.int .u64 7, .slice none 0 0])) 16 rfl rfl (fun W => by kernel_rfl) ?_); simp only [pS]) | (with_reducible refine wpl rfl (Stp.box 17 rfl rfl rfl H ?_); clear H; intro g17 w1 H; simp only [pS]; simp only [pE, nC, pS] at H) | (with_reducible refine wpl rfl (Stp.ldr rfl agg68 size68 rfl H mR sZ ?_); simp only [pS]) | (with_reducible refine wpl rfl (Stp.ldl rfl agg68 size68 rfl H mR (by simp) ?_); simp only [pS]; simp only [List.drop_succ_cons, List.drop_zero, List.take_succ_cons, List.take_zero]) | (with_reducible refine wpl rfl (Stp.ldor rfl agg68 size68 rfl H (by assumption) sZ (by assumption) ?_); simp only [pS]) | (with_reducible refine wpl rfl (Stp.alloc 8 rfl rfl zero36 H ?_); clear H; intro g8 w1 H; simp only [pS]; simp only [nC] at H) | (with_reducible refine wpl rfl (Stp.str rfl size36 rfl rfl (by first | rfl | (simp [Value.oneCell']; done) | assumption) H uP sZ sZ ?_); clear H; intro w1 H; simp only [pS]) | (with_reducible refine wpl rfl (Stp.stl rfl size36 rfl rfl rfl rfl H uP (by simp) ?_); clear H; intro w1 H; simp only [pS]; simp only [List.drop_succ_cons, List.drop_zero, List.take_succ_cons, List.take_zero, List.nil_append, List.cons_append, Nat.reduceAdd] at H) | (with_reducible refine wpl rfl (Stp.alloc 10 rfl rfl zero36 H ?_); clear H; intro g10 w1 H; simp only [pS]; simp only [nC] at H))
  replace H := H.nilo 116 11
  have HR0 : Hid (LRel w.heap.size w (Old w) 7 8 [] []) := Lib.hid ⟨rfl, rfl, Nat.zero_le _, (by intro p hp; cases hp), (by intro p hp; cases hp)⟩
  have H3 : St w.heap.size w _ (row 97 g0 #[.int .u64 ((7 : Nat) : Int), .slice ka ([] : List (Cm × Hd)).length kc] :: slo 36 10 (.slice ka ([] : List (Cm × Hd)).length kc) ([] : List (Cm × Hd)).length (kv []) :: cmsr G [] :: row 65 g17 #[.int .u64 ((7 : Nat) : Int), .slice none ([] : List (Cm × Hd)).length 0] :: slo 116 11 (.slice none ([] : List (Cm × Hd)).length 0) ([] : List (Cm × Hd)).length (ov 8 []) :: []) := (((H.pull (r := row 65 g17 _) pU).pull (r := cmsr G _) pU).pull (r := slo 36 10 _ _ _) pU).pull (r := row 97 g0 _) pU
  clear H
  have H := H3
  clear H3
  go_loopw [5, 6] (fun last i wr => ∃ (q ap1 s1 : Nat) (ks1 qs1 : List (Cm × Hd)) (xa : Option Addr) (xc : Nat) (ka : Option Addr) (kc : Nat) (G : Nat → Prop), q ≤ n ∧ q ≤ 40 ∧ last = .int .u64 (ap1 : Int) ∧ i = .int .i64 (q : Int) ∧ Hid (LRel w.heap.size w (Old w) ap1 s1 ks1 qs1) ∧ Hid (8 ≤ s1) ∧ Hid (ap1 ≤ 4611686018427387904) ∧ St w.heap.size w wr (row 97 g0 #[.int .u64 (ap1 : Int), .slice ka ks1.length kc] :: slo 36 10 (.slice ka ks1.length kc) ks1.length (kv ks1) :: cmsr G ks1 :: row 65 g17 #[.int .u64 (ap1 : Int), .slice xa qs1.length xc] :: slo 116 11 (.slice xa qs1.length xc) qs1.length (ov s1 qs1) :: [])) (fun _ i _ => 40 - (intOf i).toNat)
  case atStart => exact ⟨0, 7, 8, [], [], none, 0, ka, kc, G, Nat.zero_le _, Nat.zero_le _, rfl, rfl, HR0, Lib.hid (by omega), Lib.hid (by omega), H⟩
  case round =>
    clear H HR0
    obtain ⟨q, ap1, s1, ks1, qs1, xa, xc, ka, kc, G, hq, hq40, rfl, rfl, HRL1, HS1, HA1, H⟩ := hrel
    by_cases hlt : q < n
    · have qli : (q : Int) < (n : Int) := by omega
      by_cases h40 : q < 40
      · have q40i : (q : Int) < 40 := by omega
        have hl1 : q < l.length := by rw [HN.out]; exact hlt
        obtain ⟨b1, o1, rfl, hbl1⟩ := hs0.addr (by omega)
        have hc1 := hs0.cell hlt
        unfold elL at hc1
        rw [getD_at hl1] at hc1
        have hmm := List.getElem_mem hl1
        have hgs := any_take HE.out hl1 h40
        obtain ⟨a, ha⟩ : ∃ a, l[q] = a := ⟨_, rfl⟩
        rw [ha] at hc1 hmm hgs
        have HXA := Lib.hid (HXX.out a hmm)
        have HSM := Lib.hid (gC_sm hgs)
        have HRD : Hid (Rd w.heap.size w [] fun W => CmG (Old w) W (.slice a.h.ba a.c.data.length a.h.bc) (.slice a.h.ma a.c.v.mem.length a.h.mc) (.slice a.h.la a.c.v.lvs.length a.h.lc) (.slice a.h.da a.c.v.ldr.length a.h.dc) a.c) := Lib.hid (fun W hW _ => HXA.out.x.grow hW)
        have hap1 : ap1 + 2 < 18446744073709551616 := by have := HA1.out; omega
        simp only [lkC] at hc1
        clear hgs hmm ha hl1
        go_wp2_with (first | (go_at_call 29; (with_reducible refine (do18_ok g0 g17 ap1 s1 a.sl ks1 qs1 xa xc a.kind a.n0 a.near a.c a.h HSM.out HXA.out.c HRD.out HXA.out.sl hap1 HRL1.out _ (LRSt.of H)).mono ?_); rintro e w1 ⟨v, rfl, hr⟩; obtain ⟨rfl, ap2, s2, ks2, qs2, xa2, xc2, hrl, hle, hmx, hsle, ka, kc, G, H2⟩ := hr; clear H; obtain ⟨n2, hn2⟩ : ∃ n2, ks2.length = n2 := ⟨_, rfl⟩; rw [hn2] at H2; have H := H2; have HRL2 := Lib.hid hrl; have HN2 := Lib.hid hn2; have HLE := Lib.hid hle; have HMX := Lib.hid hmx; have HSLE := Lib.hid hsle; have hn64 : n2 ≤ 64 := (by rw [← hn2]; exact hrl.len); have hsum : s2 + n2 = ap2 + 1 := (by rw [← hn2]; exact hrl.sum); have HS2 := Lib.hid hsum; clear H2 hrl hle hmx hsle hn2 hsum; have HB2 : Hid (ap2 ≤ 4611686018427387904) := Lib.hid (by have := HMX.out; have := HA1.out; omega); have HF2 : Hid (ap2 + 1 - n2 = s2) := Lib.hid (by have := HS2.out; omega); have hap2 : ap2 < 18446744073709551616 := (by have := HB2.out; omega); have z64 : ¬ (64 : Int) < (n2 : Int) := (by omega); have zle : ¬ (ap2 : Int) < (ap1 : Int) := (by have := HLE.out; omega); have WN : IntKind.u64.wrap (n2 : Int) = (n2 : Int) := (by rw [IntKind.wrap_u64]; omega); have WS : IntKind.u64.wrap ((s2 : Int) + (n2 : Int)) = (ap2 : Int) + 1 := (by rw [IntKind.wrap_u64]; have := HS2.out; have := HB2.out; omega); have WA : IntKind.u64.wrap ((ap2 : Int) + 1) = (ap2 : Int) + 1 := (by rw [IntKind.wrap_u64]; have := HB2.out; omega)) | (go_at_call 31; (with_reducible refine (lApplied_ok g0 ap2 n2 kc ka _ (H.getHeap mE)).mono ?_); rintro e w1 ⟨v, rfl, hr⟩; obtain ⟨rfl, hb1⟩ := hr; replace H := H.grow hb1; clear hb1) | (go_at_call 30; (with_reducible refine (lKept_ok g0 ap2 n2 kc ka _ (H.getHeap mE)).mono ?_); rintro e w1 ⟨v, rfl, hr⟩; obtain ⟨rfl, hb1⟩ := hr; replace H := H.grow hb1; clear hb1) | (go_at_call 32; (with_reducible refine (lFrom_ok g0 ap2 n2 kc ka (by have := HB2.out; omega) (by have := HS2.out; omega) (by omega) _ (H.getHeap mE)).mono ?_); rintro e w1 ⟨v, rfl, hr⟩; rw [HF2.out] at hr; obtain ⟨rfl, hb1⟩ := hr; replace H := H.grow hb1; clear hb1) | (with_reducible refine wpl rfl (Stp.box 17 rfl rfl rfl H ?_); clear H; intro g17 w1 H; simp only [pS]; simp only [pE, nC, pS] at H) | (with_reducible refine wpl rfl (Stp.ldr rfl agg68 size68 rfl H mR sZ ?_); simp only [pS]) | (with_reducible refine wpl rfl (Stp.ldl rfl agg68 size68 rfl H mR (by simp) ?_); simp only [pS]; simp only [List.drop_succ_cons, List.drop_zero, List.take_succ_cons, List.take_zero]) | (with_reducible refine wpl rfl (Stp.ldor rfl agg68 size68 rfl H (by assumption) sZ (by assumption) ?_); simp only [pS]) | (with_reducible refine wpl rfl (Stp.alloc 8 rfl rfl zero36 H ?_); clear H; intro g8 w1 H; simp only [pS]; simp only [nC] at H) | (with_reducible refine wpl rfl (Stp.str rfl size36 rfl rfl (by first | rfl | (simp [Value.oneCell']; done) | assumption) H uP sZ sZ ?_); clear H; intro w1 H; simp only [pS]) | (with_reducible refine wpl rfl (Stp.stl rfl size36 rfl rfl rfl rfl H uP (by simp) ?_); clear H; intro w1 H; simp only [pS]; simp only [List.drop_succ_cons, List.drop_zero, List.take_succ_cons, List.take_zero, List.nil_append, List.cons_append, Nat.reduceAdd] at H) | (with_reducible refine wpl rfl (Stp.alloc 10 rfl rfl zero36 H ?_); clear H; intro g10 w1 H; simp only [pS]; simp only [nC] at H))
        have H3 : ∃ (ka : Option Addr) (kc : Nat) (G : Nat → Prop), St w.heap.size w _ (row 97 g0 #[.int .u64 (ap2 : Int), .slice ka n2 kc] :: slo 36 10 (.slice ka n2 kc) n2 (kv ks2) :: cmsr G ks2 :: row 65 g17 #[.int .u64 (ap2 : Int), .slice xa2 qs2.length xc2] :: slo 116 11 (.slice xa2 qs2.length xc2) qs2.length (ov s2 qs2) :: []) := ⟨ka, kc, G, H⟩
        clear H
        go_loopw [7] (fun s wr => ∃ (m : Nat) (ka : Option Addr) (kc : Nat) (G : Nat → Prop), s2 ≤ m ∧ m ≤ ap2 + 1 ∧ s = .int .u64 (m : Int) ∧ St w.heap.size w wr (row 97 g0 #[.int .u64 (ap2 : Int), .slice ka n2 kc] :: slo 36 10 (.slice ka n2 kc) n2 (kv ks2) :: cmsr G ks2 :: row 65 g17 #[.int .u64 (ap2 : Int), .slice xa2 qs2.length xc2] :: slo 116 11 (.slice xa2 qs2.length xc2) qs2.length (ov s2 qs2) :: [])) (fun s _ => ap2 + 1 - (intOf s).toNat)
        case atStart => exact (let ⟨ka, kc, G, H⟩ := H3; ⟨s2, ka, kc, G, Nat.le_refl _, by have := HS2.out; omega, rfl, H⟩)
        case round =>
          clear H3
          obtain ⟨m, ka, kc, G, hm1, hm2, rfl, H⟩ := hrel
          by_cases hmm : m ≤ ap2
          · have zi : (m : Int) ≤ (ap2 : Int) := by omega
            have hm64 : m < 18446744073709551616 := by omega
            have hp : plc ap2 n2 m = some (m - s2) := plc_hit (s := s2) HS2.out (by have := HS2.out; omega) (by omega)
            obtain ⟨u, h0, h1, hak, haq⟩ := HRL2.out.at (q := m - s2) (by rw [HN2.out]; have := HS2.out; omega)
            obtain ⟨q, hqq⟩ : ∃ q, m - s2 = q := ⟨_, rfl⟩
            rw [hqq] at hp hak
            have HPN := Lib.hid hp
            have HAK := Lib.hid hak
            have WM : IntKind.u64.wrap ((m : Int) + 1) = ((m + 1 : Nat) : Int) := by rw [IntKind.wrap_u64]; have := HB2.out; omega
            clear hp hak haq hqq
            go_wp2_with (first | (go_at_call 31; (with_reducible refine (lApplied_ok g0 ap2 n2 kc ka _ (H.getHeap mE)).mono ?_); rintro e w1 ⟨v, rfl, hr⟩; obtain ⟨rfl, hb1⟩ := hr; replace H := H.grow hb1; clear hb1) | (go_at_call 16; (with_reducible refine (bGet_yes g0 ap2 m n2 q u h0 ks2 ka kc G HN2.out hn64 hap2 hm64 HRL2.out.sm HPN.out HAK.out _ H).mono ?_); rintro e w1 ⟨v, rfl, hr⟩; obtain ⟨h3, G3, ka, kc, G, rfl, H2⟩ := hr; clear H; have H := H2; clear H2; simp only [cmH, cmC]) | (with_reducible refine wpl rfl (Stp.box 17 rfl rfl rfl H ?_); clear H; intro g17 w1 H; simp only [pS]; simp only [pE, nC, pS] at H) | (with_reducible refine wpl rfl (Stp.ldr rfl agg68 size68 rfl H mR sZ ?_); simp only [pS]) | (with_reducible refine wpl rfl (Stp.ldl rfl agg68 size68 rfl H mR (by simp) ?_); simp only [pS]; simp only [List.drop_succ_cons, List.drop_zero, List.take_succ_cons, List.take_zero]) | (with_reducible refine wpl rfl (Stp.ldor rfl agg68 size68 rfl H (by assumption) sZ (by assumption) ?_); simp only [pS]) | (with_reducible refine wpl rfl (Stp.alloc 8 rfl rfl zero36 H ?_); clear H; intro g8 w1 H; simp only [pS]; simp only [nC] at H) | (with_reducible refine wpl rfl (Stp.str rfl size36 rfl rfl (by first | rfl | (simp [Value.oneCell']; done) | assumption) H uP sZ sZ ?_); clear H; intro w1 H; simp only [pS]) | (with_reducible refine wpl rfl (Stp.stl rfl size36 rfl rfl rfl rfl H uP (by simp) ?_); clear H; intro w1 H; simp only [pS]; simp only [List.drop_succ_cons, List.drop_zero, List.take_succ_cons, List.take_zero, List.nil_append, List.cons_append, Nat.reduceAdd] at H) | (with_reducible refine wpl rfl (Stp.alloc 10 rfl rfl zero36 H ?_); clear H; intro g10 w1 H; simp only [pS]; simp only [nC] at H))
            go_roundw
            case rel => exact ⟨m + 1, ka, kc, G, by omega, by omega, rfl, H.sub sU⟩
            case measure => simp [intOf]; omega
          · have zi : ¬ (m : Int) ≤ (ap2 : Int) := by omega
            obtain ⟨s3, hs3⟩ : ∃ s3, s2 = s3 + 1 := ⟨s2 - 1, by have := HS1.out; have := HSLE.out; omega⟩
            have hs64 : s3 < 18446744073709551616 := by have := HS2.out; have := HB2.out; omega
            have hp : plc ap2 n2 s3 = none := plc_miss (s := s2) HS2.out (fun k hk => by omega)
            have HPN := Lib.hid hp
            have WM : IntKind.u64.wrap ((s2 : Int) - 1) = (s3 : Int) := by rw [IntKind.wrap_u64]; omega
            clear hp
            go_wp2_with (first | (go_at_call 31; (with_reducible refine (lApplied_ok g0 ap2 n2 kc ka _ (H.getHeap mE)).mono ?_); rintro e w1 ⟨v, rfl, hr⟩; obtain ⟨rfl, hb1⟩ := hr; replace H := H.grow hb1; clear hb1) | (go_at_call 32; (with_reducible refine (lFrom_ok g0 ap2 n2 kc ka (by have := HB2.out; omega) (by have := HS2.out; omega) (by omega) _ (H.getHeap mE)).mono ?_); rintro e w1 ⟨v, rfl, hr⟩; rw [HF2.out] at hr; obtain ⟨rfl, hb1⟩ := hr; replace H := H.grow hb1; clear hb1) | (go_at_call 16; (with_reducible refine (bGet_no g0 ap2 s3 n2 ks2 ka kc G HN2.out hn64 hap2 hs64 HRL2.out.sm HPN.out _ H).mono ?_); rintro e w1 ⟨v, rfl, hr⟩; obtain ⟨ka, kc, G, rfl, H2⟩ := hr; clear H; have H := H2; clear H2) | (with_reducible refine wpl rfl (Stp.box 17 rfl rfl rfl H ?_); clear H; intro g17 w1 H; simp only [pS]; simp only [pE, nC, pS] at H) | (with_reducible refine wpl rfl (Stp.ldr rfl agg68 size68 rfl H mR sZ ?_); simp only [pS]) | (with_reducible refine wpl rfl (Stp.ldl rfl agg68 size68 rfl H mR (by simp) ?_); simp only [pS]; simp only [List.drop_succ_cons, List.drop_zero, List.take_succ_cons, List.take_zero]) | (with_reducible refine wpl rfl (Stp.ldor rfl agg68 size68 rfl H (by assumption) sZ (by assumption) ?_); simp only [pS]) | (with_reducible refine wpl rfl (Stp.alloc 8 rfl rfl zero36 H ?_); clear H; intro g8 w1 H; simp only [pS]; simp only [nC] at H) | (with_reducible refine wpl rfl (Stp.str rfl size36 rfl rfl (by first | rfl | (simp [Value.oneCell']; done) | assumption) H uP sZ sZ ?_); clear H; intro w1 H; simp only [pS]) | (with_reducible refine wpl rfl (Stp.stl rfl size36 rfl rfl rfl rfl H uP (by simp) ?_); clear H; intro w1 H; simp only [pS]; simp only [List.drop_succ_cons, List.drop_zero, List.take_succ_cons, List.take_zero, List.nil_append, List.cons_append, Nat.reduceAdd] at H) | (with_reducible refine wpl rfl (Stp.alloc 10 rfl rfl zero36 H ?_); clear H; intro g10 w1 H; simp only [pS]; simp only [nC] at H))
            go_roundw
            case rel => exact ⟨q + 1, ap2, s2, ks2, qs2, xa2, xc2, ka, kc, G, by omega, by omega, rfl, by go_num, HRL2, Lib.hid (by have := HS1.out; have := HSLE.out; omega), HB2, by rw [HN2.out]; exact H.sub sU⟩
            case measure => simp [intOf]; omega
      · have q40i : ¬ (q : Int) < 40 := by omega
        go_wp2_with (first | (go_at_call 13; (with_reducible refine (aw18_ok _).mono ?_); rintro e w1 ⟨v, rfl, hr⟩; obtain ⟨rfl, hb1⟩ := hr; replace H := H.grow hb1; clear hb1) | (with_reducible refine wpl rfl (Stp.box 17 rfl rfl rfl H ?_); clear H; intro g17 w1 H; simp only [pS]; simp only [pE, nC, pS] at H) | (with_reducible refine wpl rfl (Stp.ldr rfl agg68 size68 rfl H mR sZ ?_); simp only [pS]) | (with_reducible refine wpl rfl (Stp.ldl rfl agg68 size68 rfl H mR (by simp) ?_); simp only [pS]; simp only [List.drop_succ_cons, List.drop_zero, List.take_succ_cons, List.take_zero]) | (with_reducible refine wpl rfl (Stp.ldor rfl agg68 size68 rfl H (by assumption) sZ (by assumption) ?_); simp only [pS]) | (with_reducible refine wpl rfl (Stp.alloc 8 rfl rfl zero36 H ?_); clear H; intro g8 w1 H; simp only [pS]; simp only [nC] at H) | (with_reducible refine wpl rfl (Stp.str rfl size36 rfl rfl (by first | rfl | (simp [Value.oneCell']; done) | assumption) H uP sZ sZ ?_); clear H; intro w1 H; simp only [pS]) | (with_reducible refine wpl rfl (Stp.stl rfl size36 rfl rfl rfl rfl H uP (by simp) ?_); clear H; intro w1 H; simp only [pS]; simp only [List.drop_succ_cons, List.drop_zero, List.take_succ_cons, List.take_zero, List.nil_append, List.cons_append, Nat.reduceAdd] at H) | (with_reducible refine wpl rfl (Stp.alloc 10 rfl rfl zero36 H ?_); clear H; intro g10 w1 H; simp only [pS]; simp only [nC] at H))
        go_ret
        exact ⟨_, rfl, rfl, H.below⟩
    · have qli : ¬ (q : Int) < (n : Int) := by omega
      go_wp2_with (first | (go_at_call 13; (with_reducible refine (aw18_ok _).mono ?_); rintro e w1 ⟨v, rfl, hr⟩; obtain ⟨rfl, hb1⟩ := hr; replace H := H.grow hb1; clear hb1) | (with_reducible refine wpl rfl (Stp.box 17 rfl rfl rfl H ?_); clear H; intro g17 w1 H; simp only [pS]; simp only [pE, nC, pS] at H) | (with_reducible refine wpl rfl (Stp.ldr rfl agg68 size68 rfl H mR sZ ?_); simp only [pS]) | (with_reducible refine wpl rfl (Stp.ldl rfl agg68 size68 rfl H mR (by simp) ?_); simp only [pS]; simp only [List.drop_succ_cons, List.drop_zero, List.take_succ_cons, List.take_zero]) | (with_reducible refine wpl rfl (Stp.ldor rfl agg68 size68 rfl H (by assumption) sZ (by assumption) ?_); simp only [pS]) | (with_reducible refine wpl rfl (Stp.alloc 8 rfl rfl zero36 H ?_); clear H; intro g8 w1 H; simp only [pS]; simp only [nC] at H) | (with_reducible refine wpl rfl (Stp.str rfl size36 rfl rfl (by first | rfl | (simp [Value.oneCell']; done) | assumption) H uP sZ sZ ?_); clear H; intro w1 H; simp only [pS]) | (with_reducible refine wpl rfl (Stp.stl rfl size36 rfl rfl rfl rfl H uP (by simp) ?_); clear H; intro w1 H; simp only [pS]; simp only [List.drop_succ_cons, List.drop_zero, List.take_succ_cons, List.take_zero, List.nil_append, List.cons_append, Nat.reduceAdd] at H) | (with_reducible refine wpl rfl (Stp.alloc 10 rfl rfl zero36 H ?_); clear H; intro g10 w1 H; simp only [pS]; simp only [nC] at H))
      go_ret
      exact ⟨_, rfl, rfl, H.below⟩
set_option maxRecDepth 100000 in
theorem ledgerBound_lifted (os : Os) (started : os.Started) (H : Type) (enc : TypeId × Value → H) :
    ReturnsInHanded {} Try.checked os 5 .any (Rows.ledgerBoundSpec.pre6 enc Try.prog Try.f5 Rows.ledgerBoundRow.domain false) (Rows.ledgerBoundSpec.post enc Try.prog Try.f5 false true false false) := by
  refine law_lifted (C := Try.checked) own started (by kernel_rfl) Try.func5 laidOut rfl Try.underlying4 rfl (by kernel_rfl) (fun ds hd => ?_)
    (ChangeSpec.witness6 (enc := enc) (C := Try.checked) false ⟨#[], #[.slice none 0 0], []⟩ 8 (by kernel_rfl) (by kernel_rfl) (by kernel_rfl) (by kernel_rfl)) ?_
  · match ds, hd with
    | [d0], _ => exact ⟨rfl, rfl, rfl⟩
  intro W base args ds p hval hA
  rw [Try.params5] at hA hval
  obtain ⟨v0, vs0, d0, ds0, p0, q0, hargs, rfl, rfl, h0, r0⟩ := trodAll_cons hA
  obtain ⟨rfl, rfl, rfl⟩ := trodAll_nil r0
  obtain rfl : args = #[v0] := by cases args; simp_all
  obtain ⟨l, va, vc, rfl, hs, hx⟩ := open_lks (hval 0 60 v0 rfl rfl) h0
  exact law_lbound va vc l W hs hx
theorem ledgerBound_over : Rows.ledgerBoundRow.holds Try.pinned (OpenSpec.ofChange Rows.ledgerBoundSpec) :=
  OpenClaim.holds_of_wide 5 Try.f5 rfl rfl rfl rfl rfl rfl rfl ⟨rfl, rfl, rfl, rfl, rfl⟩ rfl rfl rfl rfl rfl (by kernel_rfl) Try.func5 (by kernel_rfl)
    (of_decide_eq_true (by kernel_rfl)) (by unfold Func.isWrapper; first | (rw [if_pos (by decide +kernel)]; kernel_rfl) | (rw [if_neg (by decide +kernel)]; exact ⟨rfl, rfl⟩))
    (fun os started H enc _ => ledgerBound_lifted os started H enc)
theorem ledgerBound_holds : Rows.LedgerBoundSaid := ledgerBound_over
#print axioms ledgerBound_holds
end Go.Proofs.Ytmokecicjmjkbaa
