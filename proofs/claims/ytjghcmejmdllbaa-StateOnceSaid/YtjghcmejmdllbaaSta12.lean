/- The statement StateOnce of layer 19 (state): the law's walk; the bounds stand in it. -/
import Derived.Test.YtjghcmejmdllbaaSta9
import Derived.Test.YtjghcmejmdllbaaFv
namespace Go.Proofs.Ytjghcmejmdllbaa
open Go.ChangeShapes Go.WideShapes Go.ChangeAt Go.RowKit Go.Maps Go.Deep
set_option linter.unusedVariables false
set_option linter.unusedSimpArgs false
set_option linter.unusedSectionVars false
set_option maxRecDepth 100000
set_option maxHeartbeats 8000000
/-- An event's cells, with the places of its slices. -/
def evc (p : Ev × Hd) : Array Value := evA p.1 p.2
theorem evc_size (p : Ev × Hd) : (evc p).size = 9 := rfl
theorem evc_one (V : Ev) (h : Hd) : ∀ u ∈ (evA V h).toList, u.oneCell' = true := by
  intro u hu
  simp only [evA, List.mem_cons, List.not_mem_nil, or_false] at hu
  rcases hu with rfl | rfl | rfl | rfl | rfl | rfl | rfl | rfl | rfl <;> rfl
/-- How many are somebody's. -/
def cntF (es : List (Ev × Hd)) (p : Pr) : Nat := (es.filter fun e => decide (e.1.p = p)).length
theorem cntF_snoc (es : List (Ev × Hd)) (e : Ev × Hd) (p : Pr) : cntF (es ++ [e]) p = cntF es p + (if e.1.p = p then 1 else 0) := by
  unfold cntF
  rw [List.filter_append, List.length_append]
  by_cases h : e.1.p = p <;> simp [h]
theorem cntF_zero (es : List (Ev × Hd)) (p : Pr) : cntF (es.take 0) p = 0 := by unfold cntF; simp
theorem len_snoc (es : List (Ev × Hd)) (V : Ev) (h : Hd) : (es ++ [(V, h)]).length = es.length + 1 := by rw [List.length_append]; rfl
theorem cntF_le (es : List (Ev × Hd)) (p : Pr) : cntF es p ≤ es.length := List.length_filter_le _ _
theorem cntS_num {x : Vw} {n : Nat} {c : Cm} (h : cntS x n c = true) (h2 : c.kind = 2) : c.num = (n + 1) % 18446744073709551616 := by
  unfold cntS at h
  simp only [h2, Bool.and_eq_true, Bool.or_eq_true, decide_eq_true_eq] at h
  rcases h.2 with h3 | h3
  · exact h3.2.2.2
  · omega
theorem cntS_id {x : Vw} {n : Nat} {c : Cm} (h : cntS x n c = true) (h3 : c.kind = 3) : c.v.id = (x.id + 1) % 18446744073709551616 := by
  unfold cntS at h
  simp only [h3, Bool.and_eq_true, Bool.or_eq_true, decide_eq_true_eq] at h
  rcases h.2 with h4 | h4
  · omega
  · exact h4.2
theorem St.nilE {B : Nat} {w0 w : World} {L : List Res} (H : St B w0 w L) : St B w0 w (slc 39 9 (.slice none ([] : List (Ev × Hd)).length 0) ([] : List (Ev × Hd)).length (fv evc ([] : List (Ev × Hd))) :: L) := H.nil 39 9
theorem fv_evc_snoc (es : List (Ev × Hd)) (V : Ev) (h : Hd) : fv evc (es ++ [(V, h)]) = fv evc es ++ (evA V h).toList := by rw [fv_app, fv_one]; rfl
theorem fv_evc_pid (es : List (Ev × Hd)) (k : Nat) (U : Ev) (h : Hd) (hk : es[k]? = some (U, h)) : ∀ j, j < 2 → (fv evc es)[k * 9 + 5 + j]? = (#[.int .u16 (U.p.1 : Int), .int .u32 (U.p.2 : Int)] : Array Value)[j]? := fun j hj => by
  rw [Nat.add_assoc, fv_get evc_size es k (U, h) hk (5 + j) (by omega)]
  have : j = 0 ∨ j = 1 := by omega
  rcases this with rfl | rfl <;> rfl
attribute [local irreducible] gC gV gS cntS nxV nxM nxB evO lastN evc fv cntF
theorem law_sonce (x0 : Vw) (ma la da : Option Addr) (mc lc dc : Nat) (va : Option Addr) (vc : Nat) (l : List (Cm × Hd)) (w : World) (hv : VwG (Old w) w (.slice ma x0.mem.length mc) (.slice la x0.lvs.length lc) (.slice da x0.ldr.length dc) x0) (hs : Sl w 10 l.length (.slice va l.length vc) (elK l)) (hx : ∀ a ∈ l, wfK w a) :
    Calls Try.prog 3 #[.agg (vwC x0 ma la da mc lc dc), .slice va l.length vc] w (Ret fun v w' => v = .bool true ∧ Below w.heap.size w w') := by
  have H := St.init w
  have HXX := Lib.hid hx
  clear hx
  obtain ⟨e, he⟩ : ∃ e, gS x0 l = e := ⟨_, rfl⟩
  have HE := Lib.hid he
  obtain ⟨n, hn⟩ : ∃ n, l.length = n := ⟨_, rfl⟩
  have HN := Lib.hid hn
  have hs0 := hs
  rw [hn] at hs0 ⊢
  clear hs hn
  simp only [vwC]
  cases e
  case true =>
    clear he
    go_enter Try.func3, Try.ntmps3
    go_wp2_with (first | (go_at_call 12; (with_reducible refine (great19_n x0 ma la da mc lc dc va vc l n HN.out _ (hs0.grow H.below) (fun a ha => (HXX.out a ha).grow H.below) (VwG.mono (fun g hg => Nat.lt_of_lt_of_le hg H.below.size) (hv.grow H.below))).mono ?_); rintro e w1 ⟨v, rfl, hr⟩; obtain ⟨rfl, hb1⟩ := hr; replace H := H.grow hb1; clear hb1; rw [HE.out]) | (go_at_call 13; (with_reducible refine (aw19_ok _).mono ?_); rintro e w1 ⟨v, rfl, hr⟩; obtain ⟨rfl, hb1⟩ := hr; replace H := H.grow hb1; clear hb1) | (with_reducible refine wpl rfl (Stp.box 2 rfl rfl rfl H ?_); clear H; intro g2 w1 H; simp only [pS]; simp only [pE, nC, pS] at H) | (with_reducible refine wpl rfl (Stp.ldr rfl agg26 size26 rfl H mR sZ ?_); simp only [pS]) | (with_reducible refine wpl rfl (Stp.ldl rfl agg26 size26 rfl H mR (by simp) ?_); simp only [pS]; simp only [List.drop_succ_cons, List.drop_zero, List.take_succ_cons, List.take_zero]) | (with_reducible refine wpl rfl (Stp.ldor rfl agg26 size26 rfl H (by assumption) sZ (by assumption) ?_); simp only [pS]) | (with_reducible refine wpl rfl (Stp.ldc rfl agg22 rfl H mR cE ?_); simp only [pS]) | (with_reducible refine wpl rfl (Stp.ldo rfl agg22 rfl H (by assumption) (by assumption) ?_); simp only [pS]) | (with_reducible refine wpl rfl (Stp.ldr rfl agg43 size43 rfl H mR sZ ?_); simp only [pS]) | (with_reducible refine wpl rfl (Stp.ldl rfl agg43 size43 rfl H mR (by simp) ?_); simp only [pS]; simp only [List.drop_succ_cons, List.drop_zero, List.take_succ_cons, List.take_zero]) | (with_reducible refine wpl rfl (Stp.ldor rfl agg43 size43 rfl H (by assumption) sZ (by assumption) ?_); simp only [pS]) | (with_reducible refine wpl rfl (Stp.alloc 9 rfl rfl zero39 H ?_); clear H; intro g9 w1 H; simp only [pS]; simp only [nC] at H) | (with_reducible refine wpl rfl (Stp.str rfl size39 rfl rfl (by first | rfl | (simp [Value.oneCell']; done) | assumption) H uP sZ sZ ?_); clear H; intro w1 H; simp only [pS]) | (with_reducible refine wpl rfl (Stp.stl rfl size39 rfl rfl rfl rfl H uP (by simp) ?_); clear H; intro w1 H; simp only [pS]; simp only [List.drop_succ_cons, List.drop_zero, List.take_succ_cons, List.take_zero, List.nil_append, List.cons_append, Nat.reduceAdd] at H) | (with_reducible refine wpl rfl (Stp.ldc rfl agg3 rfl H mR cE ?_); simp only [pS]) | (with_reducible refine wpl rfl (Stp.ldo rfl agg3 rfl H (by assumption) (by assumption) ?_); simp only [pS]) | (with_reducible refine wpl rfl (Stp.ldr rfl agg39 size39 rfl H mR sZ ?_); simp only [pS]) | (with_reducible refine wpl rfl (Stp.ldl rfl agg39 size39 rfl H mR (by simp) ?_); simp only [pS]; simp only [List.drop_succ_cons, List.drop_zero, List.take_succ_cons, List.take_zero]) | (with_reducible refine wpl rfl (Stp.ldor rfl agg39 size39 rfl H (by assumption) sZ (by assumption) ?_); simp only [pS]))
    go_ret
    exact ⟨_, rfl, rfl, H.below⟩
  have HGS : Hid (((l.take 80).any fun a => gC a.1) = false) := Lib.hid (by unfold gS at he; simp only [Bool.or_eq_false_iff] at he; exact he.1)
  have HSM0 : Hid (smV x0) := Lib.hid (gV_sm (by unfold gS at he; simp only [Bool.or_eq_false_iff] at he; exact he.2))
  have HXV : Hid (∀ L, Rd w.heap.size w L fun W => VwG (Old w) W (.slice ma x0.mem.length mc) (.slice la x0.lvs.length lc) (.slice da x0.ldr.length dc) x0) := Lib.hid (fun L W hW _ => hv.grow hW)
  obtain ⟨_, _, _, hmx, _⟩ := id hs0
  unfold maxLen at hmx
  clear he
  go_enter Try.func3, Try.ntmps3
  go_wp2_with (first | (go_at_call 12; (with_reducible refine (great19_n x0 ma la da mc lc dc va vc l n HN.out _ (hs0.grow H.below) (fun a ha => (HXX.out a ha).grow H.below) (VwG.mono (fun g hg => Nat.lt_of_lt_of_le hg H.below.size) (hv.grow H.below))).mono ?_); rintro e w1 ⟨v, rfl, hr⟩; obtain ⟨rfl, hb1⟩ := hr; replace H := H.grow hb1; clear hb1; rw [HE.out]) | (go_at_call 14; (with_reducible refine (snew_ok (G1 := Old w) x0 ma la da mc lc dc HSM0.out _ (HXV.out _) H).mono ?_); rintro e w1 ⟨v, rfl, hr⟩; obtain ⟨g0, R, rfl, hR, H2⟩ := hr; clear H; have H := H2; have HR := Lib.hid hR; clear H2 hR) | (with_reducible refine wpl rfl (Stp.box 2 rfl rfl rfl H ?_); clear H; intro g2 w1 H; simp only [pS]; simp only [pE, nC, pS] at H) | (with_reducible refine wpl rfl (Stp.ldr rfl agg26 size26 rfl H mR sZ ?_); simp only [pS]) | (with_reducible refine wpl rfl (Stp.ldl rfl agg26 size26 rfl H mR (by simp) ?_); simp only [pS]; simp only [List.drop_succ_cons, List.drop_zero, List.take_succ_cons, List.take_zero]) | (with_reducible refine wpl rfl (Stp.ldor rfl agg26 size26 rfl H (by assumption) sZ (by assumption) ?_); simp only [pS]) | (with_reducible refine wpl rfl (Stp.ldc rfl agg22 rfl H mR cE ?_); simp only [pS]) | (with_reducible refine wpl rfl (Stp.ldo rfl agg22 rfl H (by assumption) (by assumption) ?_); simp only [pS]) | (with_reducible refine wpl rfl (Stp.ldr rfl agg43 size43 rfl H mR sZ ?_); simp only [pS]) | (with_reducible refine wpl rfl (Stp.ldl rfl agg43 size43 rfl H mR (by simp) ?_); simp only [pS]; simp only [List.drop_succ_cons, List.drop_zero, List.take_succ_cons, List.take_zero]) | (with_reducible refine wpl rfl (Stp.ldor rfl agg43 size43 rfl H (by assumption) sZ (by assumption) ?_); simp only [pS]) | (with_reducible refine wpl rfl (Stp.alloc 9 rfl rfl zero39 H ?_); clear H; intro g9 w1 H; simp only [pS]; simp only [nC] at H) | (with_reducible refine wpl rfl (Stp.str rfl size39 rfl rfl (by first | rfl | (simp [Value.oneCell']; done) | assumption) H uP sZ sZ ?_); clear H; intro w1 H; simp only [pS]) | (with_reducible refine wpl rfl (Stp.stl rfl size39 rfl rfl rfl rfl H uP (by simp) ?_); clear H; intro w1 H; simp only [pS]; simp only [List.drop_succ_cons, List.drop_zero, List.take_succ_cons, List.take_zero, List.nil_append, List.cons_append, Nat.reduceAdd] at H) | (with_reducible refine wpl rfl (Stp.ldc rfl agg3 rfl H mR cE ?_); simp only [pS]) | (with_reducible refine wpl rfl (Stp.ldo rfl agg3 rfl H (by assumption) (by assumption) ?_); simp only [pS]) | (with_reducible refine wpl rfl (Stp.ldr rfl agg39 size39 rfl H mR sZ ?_); simp only [pS]) | (with_reducible refine wpl rfl (Stp.ldl rfl agg39 size39 rfl H mR (by simp) ?_); simp only [pS]; simp only [List.drop_succ_cons, List.drop_zero, List.take_succ_cons, List.take_zero]) | (with_reducible refine wpl rfl (Stp.ldor rfl agg39 size39 rfl H (by assumption) sZ (by assumption) ?_); simp only [pS]))
  replace H := H.nilE
  have HC0 : Hid (∀ p, cntF ([] : List (Ev × Hd)) p = lastN [] p) := Lib.hid (fun p => by unfold cntF lastN; rfl)
  go_loopw [6, 7, 8] (fun i6 i7 i wr => ∃ (q : Nat) (x : Vw) (M : List (Pr × Nat)) (b : Nat → ByteArray) (R : Res) (es : List (Ev × Hd)) (ia : Option Addr) (ic : Nat), q ≤ n ∧ q ≤ 80 ∧ i6 = .int .u64 (x.id : Int) ∧ i7 = .slice ia es.length ic ∧ i = .int .i64 (q : Int) ∧ Hid (StaR g0 x M b R) ∧ Hid (smV x) ∧ Hid (∀ p, cntF es p = lastN M p) ∧ es.length ≤ q ∧ St w.heap.size w wr (slc 39 9 (.slice ia es.length ic) es.length (fv evc es) :: R :: row 26 g2 #[.int .u64 (x0.id : Int), .slice ma x0.mem.length mc, .slice la x0.lvs.length lc, .slice da x0.ldr.length dc] :: [])) (fun _ _ i _ => 80 - (intOf i).toNat)
  case atStart => exact ⟨0, x0, [], bd0, R, [], none, 0, Nat.zero_le _, Nat.zero_le _, rfl, rfl, rfl, HR, HSM0, HC0, Nat.zero_le _, H⟩
  case round =>
    clear H HR HSM0 HC0
    obtain ⟨q, x, M, b, R, es, ia, ic, hq, hq80, rfl, rfl, rfl, HR, HSX, HCN, hel, H⟩ := hrel
    by_cases hlt : q < n
    · have qli : (q : Int) < (n : Int) := by omega
      by_cases h80 : q < 80
      · have q80i : (q : Int) < 80 := by omega
        have hl1 : q < l.length := by rw [HN.out]; exact hlt
        obtain ⟨b1, o1, rfl, hbl1⟩ := hs0.addr (by omega)
        have hc1 := hs0.cell hlt
        rw [elK_at hl1] at hc1
        have hmm := List.getElem_mem hl1
        have hgs := any_take HGS.out hl1 h80
        obtain ⟨⟨c, e⟩, ha⟩ : ∃ a, l[q] = a := ⟨_, rfl⟩
        rw [ha] at hc1 hmm hgs
        have HWK : Hid (wfK w (c, e)) := Lib.hid (HXX.out _ hmm)
        have HSMC : Hid (smC c) := Lib.hid (gC_sm hgs)
        have HXR : Hid (∀ L, Rd w.heap.size w L fun W => CmG (Old w) W (.slice e.ba c.data.length e.bc) (.slice e.ma c.v.mem.length e.mc) (.slice e.la c.v.lvs.length e.lc) (.slice e.da c.v.ldr.length e.dc) c) := Lib.hid (fun L W hW _ => HWK.out.x.grow hW)
        obtain ⟨r, hr⟩ : ∃ r, cntS x (lastN M c.fr) c = r := ⟨_, rfl⟩
        have HRES := Lib.hid hr
        obtain ⟨V, hV⟩ : ∃ V, evO r c = V := ⟨_, rfl⟩
        obtain ⟨x2, hx2⟩ : ∃ V, nxV r x c = V := ⟨_, rfl⟩
        obtain ⟨M2, hM2⟩ : ∃ V, nxM r M c = V := ⟨_, rfl⟩
        obtain ⟨b2, hb2⟩ : ∃ V, nxB r b c = V := ⟨_, rfl⟩
        have HSX2 : Hid (smV x2) := Lib.hid (by rw [← hx2]; exact nxV_sm HSX.out HSMC.out.v)
        have HV := Lib.hid hV
        have HX2 := Lib.hid hx2
        have HM2 := Lib.hid hM2
        have HB2 := Lib.hid hb2
        simp only [cmH, cmC] at hc1
        clear hgs hmm ha hl1
        cases r
        · have e2 : x2 = x := by rw [← hx2]; unfold nxV; simp
          have e3 : M2 = M := by rw [← hM2]; unfold nxM; simp
          have HE2 := Lib.hid e2
          have HE3 := Lib.hid e3
          clear hr hV hx2 hM2 hb2 e2 e3
          go_wp2_with (first | (go_at_call 15; (with_reducible refine (sapply_all g0 x M b c e HSMC.out HWK.out.c HWK.out.cap _ HRES.out V HV.out x2 HX2.out M2 HM2.out b2 HB2.out R HR.out (HXR.out _) _ (H.pull (r := R) pU)).mono ?_); rintro e w1 ⟨v, rfl, hr⟩; obtain ⟨h1, G1e, R2, rfl, hR2, H2⟩ := hr; clear H; have H := H2; have HR2 := Lib.hid hR2; clear H2 hR2) | (with_reducible refine wpl rfl (Stp.box 2 rfl rfl rfl H ?_); clear H; intro g2 w1 H; simp only [pS]; simp only [pE, nC, pS] at H) | (with_reducible refine wpl rfl (Stp.ldr rfl agg26 size26 rfl H mR sZ ?_); simp only [pS]) | (with_reducible refine wpl rfl (Stp.ldl rfl agg26 size26 rfl H mR (by simp) ?_); simp only [pS]; simp only [List.drop_succ_cons, List.drop_zero, List.take_succ_cons, List.take_zero]) | (with_reducible refine wpl rfl (Stp.ldor rfl agg26 size26 rfl H (by assumption) sZ (by assumption) ?_); simp only [pS]) | (with_reducible refine wpl rfl (Stp.ldc rfl agg22 rfl H mR cE ?_); simp only [pS]) | (with_reducible refine wpl rfl (Stp.ldo rfl agg22 rfl H (by assumption) (by assumption) ?_); simp only [pS]) | (with_reducible refine wpl rfl (Stp.ldr rfl agg43 size43 rfl H mR sZ ?_); simp only [pS]) | (with_reducible refine wpl rfl (Stp.ldl rfl agg43 size43 rfl H mR (by simp) ?_); simp only [pS]; simp only [List.drop_succ_cons, List.drop_zero, List.take_succ_cons, List.take_zero]) | (with_reducible refine wpl rfl (Stp.ldor rfl agg43 size43 rfl H (by assumption) sZ (by assumption) ?_); simp only [pS]) | (with_reducible refine wpl rfl (Stp.alloc 9 rfl rfl zero39 H ?_); clear H; intro g9 w1 H; simp only [pS]; simp only [nC] at H) | (with_reducible refine wpl rfl (Stp.str rfl size39 rfl rfl (by first | rfl | (simp [Value.oneCell']; done) | assumption) H uP sZ sZ ?_); clear H; intro w1 H; simp only [pS]) | (with_reducible refine wpl rfl (Stp.stl rfl size39 rfl rfl rfl rfl H uP (by simp) ?_); clear H; intro w1 H; simp only [pS]; simp only [List.drop_succ_cons, List.drop_zero, List.take_succ_cons, List.take_zero, List.nil_append, List.cons_append, Nat.reduceAdd] at H) | (with_reducible refine wpl rfl (Stp.ldc rfl agg3 rfl H mR cE ?_); simp only [pS]) | (with_reducible refine wpl rfl (Stp.ldo rfl agg3 rfl H (by assumption) (by assumption) ?_); simp only [pS]) | (with_reducible refine wpl rfl (Stp.ldr rfl agg39 size39 rfl H mR sZ ?_); simp only [pS]) | (with_reducible refine wpl rfl (Stp.ldl rfl agg39 size39 rfl H mR (by simp) ?_); simp only [pS]; simp only [List.drop_succ_cons, List.drop_zero, List.take_succ_cons, List.take_zero]) | (with_reducible refine wpl rfl (Stp.ldor rfl agg39 size39 rfl H (by assumption) sZ (by assumption) ?_); simp only [pS]))
          go_roundw
          case rel => exact ⟨q + 1, x2, M2, b2, R2, es, ia, ic, by omega, by omega, by rw [HE2.out], rfl, by go_num, HR2, HSX2, Lib.hid (by rw [HE3.out]; exact HCN.out), by omega, ((H.pull (r := R2) pU).pull (r := slc 39 9 (.slice ia es.length ic) es.length (fv evc es)) pU).sub sU⟩
          case measure => simp [intOf]; omega
        · by_cases h3 : c.kind = 3
          · have v1 : V = ⟨1, c.v, (0, 0), 0, []⟩ := by rw [← hV]; unfold evO; simp [h3]
            have hkd : (V.kd == 1) = true := by rw [v1]; rfl
            have e2 : x2 = V.x := by rw [← hx2, v1]; unfold nxV; simp [h3]
            have e3 : M2 = [] := by rw [← hM2]; unfold nxM; simp [h3]
            have W1 : IntKind.u64.wrap ((x.id : Int) + 1) = (V.x.id : Int) := by
              rw [wrap64s, v1]
              show _ = ((c.v.id : Nat) : Int)
              rw [cntS_id hr h3]
            have HE2 := Lib.hid e2
            have HE3 := Lib.hid e3
            clear hr hV hx2 hM2 hb2 e2 e3 v1 h3
            go_wp2_with (first | (go_at_call 15; (with_reducible refine (sapply_all g0 x M b c e HSMC.out HWK.out.c HWK.out.cap _ HRES.out V HV.out x2 HX2.out M2 HM2.out b2 HB2.out R HR.out (HXR.out _) _ (H.pull (r := R) pU)).mono ?_); rintro e w1 ⟨v, rfl, hr⟩; obtain ⟨h1, G1e, R2, rfl, hR2, H2⟩ := hr; clear H; have H := H2; have HR2 := Lib.hid hR2; clear H2 hR2) | (with_reducible refine wpl rfl (Stp.box 2 rfl rfl rfl H ?_); clear H; intro g2 w1 H; simp only [pS]; simp only [pE, nC, pS] at H) | (with_reducible refine wpl rfl (Stp.ldr rfl agg26 size26 rfl H mR sZ ?_); simp only [pS]) | (with_reducible refine wpl rfl (Stp.ldl rfl agg26 size26 rfl H mR (by simp) ?_); simp only [pS]; simp only [List.drop_succ_cons, List.drop_zero, List.take_succ_cons, List.take_zero]) | (with_reducible refine wpl rfl (Stp.ldor rfl agg26 size26 rfl H (by assumption) sZ (by assumption) ?_); simp only [pS]) | (with_reducible refine wpl rfl (Stp.ldc rfl agg22 rfl H mR cE ?_); simp only [pS]) | (with_reducible refine wpl rfl (Stp.ldo rfl agg22 rfl H (by assumption) (by assumption) ?_); simp only [pS]) | (with_reducible refine wpl rfl (Stp.ldr rfl agg43 size43 rfl H mR sZ ?_); simp only [pS]) | (with_reducible refine wpl rfl (Stp.ldl rfl agg43 size43 rfl H mR (by simp) ?_); simp only [pS]; simp only [List.drop_succ_cons, List.drop_zero, List.take_succ_cons, List.take_zero]) | (with_reducible refine wpl rfl (Stp.ldor rfl agg43 size43 rfl H (by assumption) sZ (by assumption) ?_); simp only [pS]) | (with_reducible refine wpl rfl (Stp.alloc 9 rfl rfl zero39 H ?_); clear H; intro g9 w1 H; simp only [pS]; simp only [nC] at H) | (with_reducible refine wpl rfl (Stp.str rfl size39 rfl rfl (by first | rfl | (simp [Value.oneCell']; done) | assumption) H uP sZ sZ ?_); clear H; intro w1 H; simp only [pS]) | (with_reducible refine wpl rfl (Stp.stl rfl size39 rfl rfl rfl rfl H uP (by simp) ?_); clear H; intro w1 H; simp only [pS]; simp only [List.drop_succ_cons, List.drop_zero, List.take_succ_cons, List.take_zero, List.nil_append, List.cons_append, Nat.reduceAdd] at H) | (with_reducible refine wpl rfl (Stp.ldc rfl agg3 rfl H mR cE ?_); simp only [pS]) | (with_reducible refine wpl rfl (Stp.ldo rfl agg3 rfl H (by assumption) (by assumption) ?_); simp only [pS]) | (with_reducible refine wpl rfl (Stp.ldr rfl agg39 size39 rfl H mR sZ ?_); simp only [pS]) | (with_reducible refine wpl rfl (Stp.ldl rfl agg39 size39 rfl H mR (by simp) ?_); simp only [pS]; simp only [List.drop_succ_cons, List.drop_zero, List.take_succ_cons, List.take_zero]) | (with_reducible refine wpl rfl (Stp.ldor rfl agg39 size39 rfl H (by assumption) sZ (by assumption) ?_); simp only [pS]))
            replace H := H.nilE
            go_roundw
            case rel => exact ⟨q + 1, x2, M2, b2, R2, [], none, 0, by omega, by omega, by rw [HE2.out], rfl, by go_num, HR2, HSX2, Lib.hid (by rw [HE3.out]; intro p; unfold cntF lastN; rfl), Nat.zero_le _, ((H.pull (r := R2) pU).pull (r := slc 39 9 (.slice none ([] : List (Ev × Hd)).length 0) ([] : List (Ev × Hd)).length (fv evc ([] : List (Ev × Hd)))) pU).sub sU⟩
            case measure => simp [intOf]; omega
          · have h2 : c.kind = 2 := (cnt_kind hr).resolve_right h3
            have v1 : V = ⟨2, vw0, c.fr, c.num, c.data⟩ := by rw [← hV]; unfold evO; simp [h3]
            have hkd : (V.kd == 1) = false := by rw [v1]; rfl
            have e2 : x2 = x := by rw [← hx2]; unfold nxV; simp [h3]
            have hce : cntF es V.p = lastN M c.fr := by rw [HCN.out, v1]
            have hcl := cntF_le es V.p
            have e3 : M2 = mput M V.p (cntF es V.p + 1) := by
              rw [← hM2, hce, v1]; unfold nxM
              rw [cntS_num hr h2, Nat.mod_eq_of_lt (by omega)]
              simp [h3]
            have hnum : V.n = cntF es V.p + 1 := by
              rw [hce, v1]
              show c.num = _
              rw [cntS_num hr h2, Nat.mod_eq_of_lt (by omega)]
            have W2 : IntKind.u64.wrap (((cntF es V.p : Nat) : Int) + 1) = (V.n : Int) := by rw [IntKind.wrap_u64]; omega
            have HCN2 : Hid (∀ (h1 : Hd) (p : Pr), cntF (es ++ [(V, h1)]) p = lastN M2 p) := Lib.hid (fun h1 p => by
              rw [cntF_snoc, e3]
              unfold lastN
              rw [mget_put]
              have h0 := HCN.out p
              unfold lastN at h0
              by_cases hp : p = V.p
              · subst hp; rw [if_pos rfl, if_pos rfl]; rfl
              · rw [if_neg (fun e => hp e.symm), if_neg hp, h0]; rfl)
            have HE2 := Lib.hid e2
            have HW2 := Lib.hid W2
            clear hr hV hx2 hM2 hb2 e2 e3 v1 hce hnum W2 hcl h2 h3
            go_wp2_with (first | (go_at_call 15; (with_reducible refine (sapply_all g0 x M b c e HSMC.out HWK.out.c HWK.out.cap _ HRES.out V HV.out x2 HX2.out M2 HM2.out b2 HB2.out R HR.out (HXR.out _) _ (H.pull (r := R) pU)).mono ?_); rintro e w1 ⟨v, rfl, hr⟩; obtain ⟨h1, G1e, R2, rfl, hR2, H2⟩ := hr; clear H; have H := H2; have HR2 := Lib.hid hR2; clear H2 hR2) | (with_reducible refine wpl rfl (Stp.box 2 rfl rfl rfl H ?_); clear H; intro g2 w1 H; simp only [pS]; simp only [pE, nC, pS] at H) | (with_reducible refine wpl rfl (Stp.ldr rfl agg26 size26 rfl H mR sZ ?_); simp only [pS]) | (with_reducible refine wpl rfl (Stp.ldl rfl agg26 size26 rfl H mR (by simp) ?_); simp only [pS]; simp only [List.drop_succ_cons, List.drop_zero, List.take_succ_cons, List.take_zero]) | (with_reducible refine wpl rfl (Stp.ldor rfl agg26 size26 rfl H (by assumption) sZ (by assumption) ?_); simp only [pS]) | (with_reducible refine wpl rfl (Stp.ldc rfl agg22 rfl H mR cE ?_); simp only [pS]) | (with_reducible refine wpl rfl (Stp.ldo rfl agg22 rfl H (by assumption) (by assumption) ?_); simp only [pS]) | (with_reducible refine wpl rfl (Stp.ldr rfl agg43 size43 rfl H mR sZ ?_); simp only [pS]) | (with_reducible refine wpl rfl (Stp.ldl rfl agg43 size43 rfl H mR (by simp) ?_); simp only [pS]; simp only [List.drop_succ_cons, List.drop_zero, List.take_succ_cons, List.take_zero]) | (with_reducible refine wpl rfl (Stp.ldor rfl agg43 size43 rfl H (by assumption) sZ (by assumption) ?_); simp only [pS]) | (with_reducible refine wpl rfl (Stp.alloc 9 rfl rfl zero39 H ?_); clear H; intro g9 w1 H; simp only [pS]; simp only [nC] at H) | (with_reducible refine wpl rfl (Stp.str rfl size39 rfl rfl (by first | rfl | (simp [Value.oneCell']; done) | assumption) H uP sZ sZ ?_); clear H; intro w1 H; simp only [pS]) | (with_reducible refine wpl rfl (Stp.stl rfl size39 rfl rfl rfl rfl H uP (by simp) ?_); clear H; intro w1 H; simp only [pS]; simp only [List.drop_succ_cons, List.drop_zero, List.take_succ_cons, List.take_zero, List.nil_append, List.cons_append, Nat.reduceAdd] at H) | (with_reducible refine wpl rfl (Stp.ldc rfl agg3 rfl H mR cE ?_); simp only [pS]) | (with_reducible refine wpl rfl (Stp.ldo rfl agg3 rfl H (by assumption) (by assumption) ?_); simp only [pS]) | (with_reducible refine wpl rfl (Stp.ldr rfl agg39 size39 rfl H mR sZ ?_); simp only [pS]) | (with_reducible refine wpl rfl (Stp.ldl rfl agg39 size39 rfl H mR (by simp) ?_); simp only [pS]; simp only [List.drop_succ_cons, List.drop_zero, List.take_succ_cons, List.take_zero]) | (with_reducible refine wpl rfl (Stp.ldor rfl agg39 size39 rfl H (by assumption) sZ (by assumption) ?_); simp only [pS]))
            simp only [evA] at H
            have H3 : ∃ L3, L3 = R2 :: evr G1e V h1 :: row 26 g2 #[.int .u64 (x0.id : Int), .slice ma x0.mem.length mc, .slice la x0.lvs.length lc, .slice da x0.ldr.length dc] :: [] ∧ St w.heap.size w _ (row 39 g9 #[.int .i64 V.kd, .int .u64 (V.x.id : Int), .slice h1.ma V.x.mem.length h1.mc, .slice h1.la V.x.lvs.length h1.lc, .slice h1.da V.x.ldr.length h1.dc, .int .u16 (V.p.1 : Int), .int .u32 (V.p.2 : Int), .int .u64 (V.n : Int), .slice h1.ba V.data.length h1.bc] :: slc 39 9 (.slice ia es.length ic) es.length (fv evc es) :: L3) := ⟨_, rfl, ((H.pull (r := slc 39 9 (.slice ia es.length ic) es.length (fv evc es)) pU).pull (r := row 39 g9 _) pU)⟩
            clear H
            obtain ⟨L3, HL3, H⟩ := H3
            go_loopw [11, 12] (fun m i wr => ∃ kk : Nat, kk ≤ es.length ∧ m = .int .u64 ((cntF (es.take kk) V.p : Nat) : Int) ∧ i = .int .i64 (kk : Int) ∧ St w.heap.size w wr (row 39 g9 #[.int .i64 V.kd, .int .u64 (V.x.id : Int), .slice h1.ma V.x.mem.length h1.mc, .slice h1.la V.x.lvs.length h1.lc, .slice h1.da V.x.ldr.length h1.dc, .int .u16 (V.p.1 : Int), .int .u32 (V.p.2 : Int), .int .u64 (V.n : Int), .slice h1.ba V.data.length h1.bc] :: slc 39 9 (.slice ia es.length ic) es.length (fv evc es) :: L3)) (fun _ i _ => es.length - (intOf i).toNat)
            case atStart => exact ⟨0, Nat.zero_le _, by rw [cntF_zero]; rfl, rfl, H⟩
            case round =>
              clear H
              obtain ⟨kk, hkk, rfl, rfl, H⟩ := hrel
              by_cases hkl : kk < es.length
              · have kki : (kk : Int) < (es.length : Int) := by omega
                obtain ⟨gi, rfl⟩ := H.own_addr (e := 39) (size := 9) (xs := fv evc es) mE (by omega)
                obtain ⟨⟨U, hu⟩, hU⟩ : ∃ a, es[kk] = a := ⟨_, rfl⟩
                have hcp := fv_evc_pid es kk U hu (by rw [List.getElem?_eq_getElem hkl, hU])
                have HCP := Lib.hid hcp
                have hsn := List.take_succ_eq_append_getElem hkl
                rw [hU] at hsn
                have hcs := cntF_snoc (es.take kk) (U, hu) V.p
                rw [← hsn] at hcs
                have hcl2 := cntF_le (es.take kk) V.p
                rw [List.length_take] at hcl2
                by_cases hp : U.p = V.p
                · have he := eqPD_is U.p.1 U.p.2 V.p.1 V.p.2 true (by rw [hp]; simp)
                  have HCS : Hid (IntKind.u64.wrap (((cntF (es.take kk) V.p : Nat) : Int) + 1) = ((cntF (es.take (kk + 1)) V.p : Nat) : Int)) := Lib.hid (by rw [hcs, if_pos hp, IntKind.wrap_u64]; omega)
                  clear hcp hsn hcs hp hU hcl2
                  go_wp2_with (first | (with_reducible refine wpl rfl (Stp.box 2 rfl rfl rfl H ?_); clear H; intro g2 w1 H; simp only [pS]; simp only [pE, nC, pS] at H) | (with_reducible refine wpl rfl (Stp.ldr rfl agg26 size26 rfl H mR sZ ?_); simp only [pS]) | (with_reducible refine wpl rfl (Stp.ldl rfl agg26 size26 rfl H mR (by simp) ?_); simp only [pS]; simp only [List.drop_succ_cons, List.drop_zero, List.take_succ_cons, List.take_zero]) | (with_reducible refine wpl rfl (Stp.ldor rfl agg26 size26 rfl H (by assumption) sZ (by assumption) ?_); simp only [pS]) | (with_reducible refine wpl rfl (Stp.ldc rfl agg22 rfl H mR cE ?_); simp only [pS]) | (with_reducible refine wpl rfl (Stp.ldo rfl agg22 rfl H (by assumption) (by assumption) ?_); simp only [pS]) | (with_reducible refine wpl rfl (Stp.ldr rfl agg43 size43 rfl H mR sZ ?_); simp only [pS]) | (with_reducible refine wpl rfl (Stp.ldl rfl agg43 size43 rfl H mR (by simp) ?_); simp only [pS]; simp only [List.drop_succ_cons, List.drop_zero, List.take_succ_cons, List.take_zero]) | (with_reducible refine wpl rfl (Stp.ldor rfl agg43 size43 rfl H (by assumption) sZ (by assumption) ?_); simp only [pS]) | (with_reducible refine wpl rfl (Stp.alloc 9 rfl rfl zero39 H ?_); clear H; intro g9 w1 H; simp only [pS]; simp only [nC] at H) | (with_reducible refine wpl rfl (Stp.str rfl size39 rfl rfl (by first | rfl | (simp [Value.oneCell']; done) | assumption) H uP sZ sZ ?_); clear H; intro w1 H; simp only [pS]) | (with_reducible refine wpl rfl (Stp.stl rfl size39 rfl rfl rfl rfl H uP (by simp) ?_); clear H; intro w1 H; simp only [pS]; simp only [List.drop_succ_cons, List.drop_zero, List.take_succ_cons, List.take_zero, List.nil_append, List.cons_append, Nat.reduceAdd] at H) | (with_reducible refine wpl rfl (Stp.ldc rfl agg3 rfl H mR cE ?_); simp only [pS]) | (with_reducible refine wpl rfl (Stp.ldo rfl agg3 rfl H (by assumption) (by assumption) ?_); simp only [pS]) | (with_reducible refine wpl rfl (Stp.ldr rfl agg39 size39 rfl H mR sZ ?_); simp only [pS]) | (with_reducible refine wpl rfl (Stp.ldl rfl agg39 size39 rfl H mR (by simp) ?_); simp only [pS]; simp only [List.drop_succ_cons, List.drop_zero, List.take_succ_cons, List.take_zero]) | (with_reducible refine wpl rfl (Stp.ldor rfl agg39 size39 rfl H (by assumption) sZ (by assumption) ?_); simp only [pS]))
                  refine rg_begin 8 rfl (S := fun W => St _ _ W (row 39 g9 #[.int .i64 V.kd, .int .u64 (V.x.id : Int), .slice h1.ma V.x.mem.length h1.mc, .slice h1.la V.x.lvs.length h1.lc, .slice h1.da V.x.ldr.length h1.dc, .int .u16 (V.p.1 : Int), .int .u32 (V.p.2 : Int), .int .u64 (V.n : Int), .slice h1.ba V.data.length h1.bc] :: slc 39 9 (.slice (some ⟨gi, 0, none⟩) es.length ic) es.length (fv evc es) :: [])) (by kernel_rfl) (H.drew.sub sU) ?_
                  replace H := H.drew
                  have HS := H
                  refine rg_take (i := 0) rfl kR kR kR (Yld.move rfl rfl) (H.sub sU) ?_; simp only [pS, pE]
                  refine rg_take (i := 1) rfl kR kR kR (Yld.move rfl rfl) (H.sub sU) ?_; simp only [pS, pE]
                  refine rg_take (i := 2) rfl kR kR kR (Yld.o rfl) (H.sub sU) ?_; simp only [pS]
                  refine rg_take (i := 3) rfl kR kR kR (Yld.o rfl) (H.sub sU) ?_; simp only [pS]
                  refine rg_take (i := 4) rfl kR kR kR (Yld.lsa (cs := #[.int .u16 (U.p.1 : Int), .int .u32 (U.p.2 : Int)]) rfl rfl agg36 size36 rfl mE HCP.out rfl) (H.sub sU) ?_; simp only [pS, pE]
                  refine rg_take (i := 5) rfl kR kR kR (Yld.o rfl) (H.sub sU) ?_; simp only [pS]
                  first | (refine rg_take (i := 6) rfl kR kR kR (Yld.ldr rfl rfl agg36 size36 rfl mR sZ) (H.sub sU) ?_; simp only [pS]) | (refine rg_take (i := 6) rfl kR kR kR (Yld.ldl rfl rfl agg36 size36 rfl mR (by simp)) (H.sub sU) ?_; simp only [pS]; simp only [List.drop_succ_cons, List.drop_zero, List.take_succ_cons, List.take_zero]) | (refine rg_take (i := 6) rfl kR kR kR (Yld.ldor rfl rfl agg36 size36 rfl (by assumption) sZ (by assumption)) (H.sub sU) ?_; simp only [pS])
                  refine rg_take (i := 7) rfl kR kR kR (Yld.o rfl) (H.sub sU) ?_; simp only [pS]
                  refine rg_done (by kernel_rfl) ?_
                  go_wp2_with (first | (with_reducible refine wpl rfl (Stp.box 2 rfl rfl rfl H ?_); clear H; intro g2 w1 H; simp only [pS]; simp only [pE, nC, pS] at H) | (with_reducible refine wpl rfl (Stp.ldr rfl agg26 size26 rfl H mR sZ ?_); simp only [pS]) | (with_reducible refine wpl rfl (Stp.ldl rfl agg26 size26 rfl H mR (by simp) ?_); simp only [pS]; simp only [List.drop_succ_cons, List.drop_zero, List.take_succ_cons, List.take_zero]) | (with_reducible refine wpl rfl (Stp.ldor rfl agg26 size26 rfl H (by assumption) sZ (by assumption) ?_); simp only [pS]) | (with_reducible refine wpl rfl (Stp.ldc rfl agg22 rfl H mR cE ?_); simp only [pS]) | (with_reducible refine wpl rfl (Stp.ldo rfl agg22 rfl H (by assumption) (by assumption) ?_); simp only [pS]) | (with_reducible refine wpl rfl (Stp.ldr rfl agg43 size43 rfl H mR sZ ?_); simp only [pS]) | (with_reducible refine wpl rfl (Stp.ldl rfl agg43 size43 rfl H mR (by simp) ?_); simp only [pS]; simp only [List.drop_succ_cons, List.drop_zero, List.take_succ_cons, List.take_zero]) | (with_reducible refine wpl rfl (Stp.ldor rfl agg43 size43 rfl H (by assumption) sZ (by assumption) ?_); simp only [pS]) | (with_reducible refine wpl rfl (Stp.alloc 9 rfl rfl zero39 H ?_); clear H; intro g9 w1 H; simp only [pS]; simp only [nC] at H) | (with_reducible refine wpl rfl (Stp.str rfl size39 rfl rfl (by first | rfl | (simp [Value.oneCell']; done) | assumption) H uP sZ sZ ?_); clear H; intro w1 H; simp only [pS]) | (with_reducible refine wpl rfl (Stp.stl rfl size39 rfl rfl rfl rfl H uP (by simp) ?_); clear H; intro w1 H; simp only [pS]; simp only [List.drop_succ_cons, List.drop_zero, List.take_succ_cons, List.take_zero, List.nil_append, List.cons_append, Nat.reduceAdd] at H) | (with_reducible refine wpl rfl (Stp.ldc rfl agg3 rfl H mR cE ?_); simp only [pS]) | (with_reducible refine wpl rfl (Stp.ldo rfl agg3 rfl H (by assumption) (by assumption) ?_); simp only [pS]) | (with_reducible refine wpl rfl (Stp.ldr rfl agg39 size39 rfl H mR sZ ?_); simp only [pS]) | (with_reducible refine wpl rfl (Stp.ldl rfl agg39 size39 rfl H mR (by simp) ?_); simp only [pS]; simp only [List.drop_succ_cons, List.drop_zero, List.take_succ_cons, List.take_zero]) | (with_reducible refine wpl rfl (Stp.ldor rfl agg39 size39 rfl H (by assumption) sZ (by assumption) ?_); simp only [pS]))
                  go_roundw
                  case rel => exact ⟨kk + 1, by omega, by rw [HCS.out], by go_num, H⟩
                  case measure => simp [intOf]; omega
                · have he := eqPD_is U.p.1 U.p.2 V.p.1 V.p.2 false (by exact decide_eq_false hp)
                  have HCS : Hid (cntF (es.take (kk + 1)) V.p = cntF (es.take kk) V.p) := Lib.hid (by rw [hcs, if_neg hp]; rfl)
                  clear hcp hsn hcs hp hU hcl2
                  go_wp2_with (first | (with_reducible refine wpl rfl (Stp.box 2 rfl rfl rfl H ?_); clear H; intro g2 w1 H; simp only [pS]; simp only [pE, nC, pS] at H) | (with_reducible refine wpl rfl (Stp.ldr rfl agg26 size26 rfl H mR sZ ?_); simp only [pS]) | (with_reducible refine wpl rfl (Stp.ldl rfl agg26 size26 rfl H mR (by simp) ?_); simp only [pS]; simp only [List.drop_succ_cons, List.drop_zero, List.take_succ_cons, List.take_zero]) | (with_reducible refine wpl rfl (Stp.ldor rfl agg26 size26 rfl H (by assumption) sZ (by assumption) ?_); simp only [pS]) | (with_reducible refine wpl rfl (Stp.ldc rfl agg22 rfl H mR cE ?_); simp only [pS]) | (with_reducible refine wpl rfl (Stp.ldo rfl agg22 rfl H (by assumption) (by assumption) ?_); simp only [pS]) | (with_reducible refine wpl rfl (Stp.ldr rfl agg43 size43 rfl H mR sZ ?_); simp only [pS]) | (with_reducible refine wpl rfl (Stp.ldl rfl agg43 size43 rfl H mR (by simp) ?_); simp only [pS]; simp only [List.drop_succ_cons, List.drop_zero, List.take_succ_cons, List.take_zero]) | (with_reducible refine wpl rfl (Stp.ldor rfl agg43 size43 rfl H (by assumption) sZ (by assumption) ?_); simp only [pS]) | (with_reducible refine wpl rfl (Stp.alloc 9 rfl rfl zero39 H ?_); clear H; intro g9 w1 H; simp only [pS]; simp only [nC] at H) | (with_reducible refine wpl rfl (Stp.str rfl size39 rfl rfl (by first | rfl | (simp [Value.oneCell']; done) | assumption) H uP sZ sZ ?_); clear H; intro w1 H; simp only [pS]) | (with_reducible refine wpl rfl (Stp.stl rfl size39 rfl rfl rfl rfl H uP (by simp) ?_); clear H; intro w1 H; simp only [pS]; simp only [List.drop_succ_cons, List.drop_zero, List.take_succ_cons, List.take_zero, List.nil_append, List.cons_append, Nat.reduceAdd] at H) | (with_reducible refine wpl rfl (Stp.ldc rfl agg3 rfl H mR cE ?_); simp only [pS]) | (with_reducible refine wpl rfl (Stp.ldo rfl agg3 rfl H (by assumption) (by assumption) ?_); simp only [pS]) | (with_reducible refine wpl rfl (Stp.ldr rfl agg39 size39 rfl H mR sZ ?_); simp only [pS]) | (with_reducible refine wpl rfl (Stp.ldl rfl agg39 size39 rfl H mR (by simp) ?_); simp only [pS]; simp only [List.drop_succ_cons, List.drop_zero, List.take_succ_cons, List.take_zero]) | (with_reducible refine wpl rfl (Stp.ldor rfl agg39 size39 rfl H (by assumption) sZ (by assumption) ?_); simp only [pS]))
                  refine rg_begin 8 rfl (S := fun W => St _ _ W (row 39 g9 #[.int .i64 V.kd, .int .u64 (V.x.id : Int), .slice h1.ma V.x.mem.length h1.mc, .slice h1.la V.x.lvs.length h1.lc, .slice h1.da V.x.ldr.length h1.dc, .int .u16 (V.p.1 : Int), .int .u32 (V.p.2 : Int), .int .u64 (V.n : Int), .slice h1.ba V.data.length h1.bc] :: slc 39 9 (.slice (some ⟨gi, 0, none⟩) es.length ic) es.length (fv evc es) :: [])) (by kernel_rfl) (H.drew.sub sU) ?_
                  replace H := H.drew
                  have HS := H
                  refine rg_take (i := 0) rfl kR kR kR (Yld.move rfl rfl) (H.sub sU) ?_; simp only [pS, pE]
                  refine rg_take (i := 1) rfl kR kR kR (Yld.move rfl rfl) (H.sub sU) ?_; simp only [pS, pE]
                  refine rg_take (i := 2) rfl kR kR kR (Yld.o rfl) (H.sub sU) ?_; simp only [pS]
                  refine rg_take (i := 3) rfl kR kR kR (Yld.o rfl) (H.sub sU) ?_; simp only [pS]
                  refine rg_take (i := 4) rfl kR kR kR (Yld.lsa (cs := #[.int .u16 (U.p.1 : Int), .int .u32 (U.p.2 : Int)]) rfl rfl agg36 size36 rfl mE HCP.out rfl) (H.sub sU) ?_; simp only [pS, pE]
                  refine rg_take (i := 5) rfl kR kR kR (Yld.o rfl) (H.sub sU) ?_; simp only [pS]
                  first | (refine rg_take (i := 6) rfl kR kR kR (Yld.ldr rfl rfl agg36 size36 rfl mR sZ) (H.sub sU) ?_; simp only [pS]) | (refine rg_take (i := 6) rfl kR kR kR (Yld.ldl rfl rfl agg36 size36 rfl mR (by simp)) (H.sub sU) ?_; simp only [pS]; simp only [List.drop_succ_cons, List.drop_zero, List.take_succ_cons, List.take_zero]) | (refine rg_take (i := 6) rfl kR kR kR (Yld.ldor rfl rfl agg36 size36 rfl (by assumption) sZ (by assumption)) (H.sub sU) ?_; simp only [pS])
                  refine rg_take (i := 7) rfl kR kR kR (Yld.o rfl) (H.sub sU) ?_; simp only [pS]
                  refine rg_done (by kernel_rfl) ?_
                  go_wp2_with (first | (with_reducible refine wpl rfl (Stp.box 2 rfl rfl rfl H ?_); clear H; intro g2 w1 H; simp only [pS]; simp only [pE, nC, pS] at H) | (with_reducible refine wpl rfl (Stp.ldr rfl agg26 size26 rfl H mR sZ ?_); simp only [pS]) | (with_reducible refine wpl rfl (Stp.ldl rfl agg26 size26 rfl H mR (by simp) ?_); simp only [pS]; simp only [List.drop_succ_cons, List.drop_zero, List.take_succ_cons, List.take_zero]) | (with_reducible refine wpl rfl (Stp.ldor rfl agg26 size26 rfl H (by assumption) sZ (by assumption) ?_); simp only [pS]) | (with_reducible refine wpl rfl (Stp.ldc rfl agg22 rfl H mR cE ?_); simp only [pS]) | (with_reducible refine wpl rfl (Stp.ldo rfl agg22 rfl H (by assumption) (by assumption) ?_); simp only [pS]) | (with_reducible refine wpl rfl (Stp.ldr rfl agg43 size43 rfl H mR sZ ?_); simp only [pS]) | (with_reducible refine wpl rfl (Stp.ldl rfl agg43 size43 rfl H mR (by simp) ?_); simp only [pS]; simp only [List.drop_succ_cons, List.drop_zero, List.take_succ_cons, List.take_zero]) | (with_reducible refine wpl rfl (Stp.ldor rfl agg43 size43 rfl H (by assumption) sZ (by assumption) ?_); simp only [pS]) | (with_reducible refine wpl rfl (Stp.alloc 9 rfl rfl zero39 H ?_); clear H; intro g9 w1 H; simp only [pS]; simp only [nC] at H) | (with_reducible refine wpl rfl (Stp.str rfl size39 rfl rfl (by first | rfl | (simp [Value.oneCell']; done) | assumption) H uP sZ sZ ?_); clear H; intro w1 H; simp only [pS]) | (with_reducible refine wpl rfl (Stp.stl rfl size39 rfl rfl rfl rfl H uP (by simp) ?_); clear H; intro w1 H; simp only [pS]; simp only [List.drop_succ_cons, List.drop_zero, List.take_succ_cons, List.take_zero, List.nil_append, List.cons_append, Nat.reduceAdd] at H) | (with_reducible refine wpl rfl (Stp.ldc rfl agg3 rfl H mR cE ?_); simp only [pS]) | (with_reducible refine wpl rfl (Stp.ldo rfl agg3 rfl H (by assumption) (by assumption) ?_); simp only [pS]) | (with_reducible refine wpl rfl (Stp.ldr rfl agg39 size39 rfl H mR sZ ?_); simp only [pS]) | (with_reducible refine wpl rfl (Stp.ldl rfl agg39 size39 rfl H mR (by simp) ?_); simp only [pS]; simp only [List.drop_succ_cons, List.drop_zero, List.take_succ_cons, List.take_zero]) | (with_reducible refine wpl rfl (Stp.ldor rfl agg39 size39 rfl H (by assumption) sZ (by assumption) ?_); simp only [pS]))
                  go_roundw
                  case rel => exact ⟨kk + 1, by omega, by rw [HCS.out], by go_num, H⟩
                  case measure => simp [intOf]; omega
              · obtain rfl : kk = es.length := by omega
                have hti : es.take es.length = es := List.take_length
                have kki : ¬ (es.length : Int) < (es.length : Int) := by omega
                have W2 := HW2.out
                simp only [hti]
                subst HL3
                clear hti
                go_wp2_with (first | (with_reducible refine wpl rfl (Stp.bsl (e := 39) (cs := #[.int .i64 V.kd, .int .u64 (V.x.id : Int), .slice h1.ma V.x.mem.length h1.mc, .slice h1.la V.x.lvs.length h1.lc, .slice h1.da V.x.ldr.length h1.dc, .int .u16 (V.p.1 : Int), .int .u32 (V.p.2 : Int), .int .u64 (V.n : Int), .slice h1.ba V.data.length h1.bc]) 77 rfl rfl (fun W => by kernel_rfl) H ?_); clear H; intro g77 w1 H; simp only [pS]) | (with_reducible refine wpl rfl (Stp.app 78 rfl rfl Try.underlying32 info39 rfl (by decide) rfl rfl H (fun _ => uP) (show (#[.int .i64 V.kd, .int .u64 (V.x.id : Int), .slice h1.ma V.x.mem.length h1.mc, .slice h1.la V.x.lvs.length h1.lc, .slice h1.da V.x.ldr.length h1.dc, .int .u16 (V.p.1 : Int), .int .u32 (V.p.2 : Int), .int .u64 (V.n : Int), .slice h1.ba V.data.length h1.bc].toList).length = 1 * 9 from rfl) (newN (H.gr 39)) (evc_one V h1) (by unfold maxLen; omega) (by omega) ?_); clear H; intro a78 c78 w1 H; simp only [pS]) | (with_reducible refine wpl rfl (Stp.box 2 rfl rfl rfl H ?_); clear H; intro g2 w1 H; simp only [pS]; simp only [pE, nC, pS] at H) | (with_reducible refine wpl rfl (Stp.ldr rfl agg26 size26 rfl H mR sZ ?_); simp only [pS]) | (with_reducible refine wpl rfl (Stp.ldl rfl agg26 size26 rfl H mR (by simp) ?_); simp only [pS]; simp only [List.drop_succ_cons, List.drop_zero, List.take_succ_cons, List.take_zero]) | (with_reducible refine wpl rfl (Stp.ldor rfl agg26 size26 rfl H (by assumption) sZ (by assumption) ?_); simp only [pS]) | (with_reducible refine wpl rfl (Stp.ldc rfl agg22 rfl H mR cE ?_); simp only [pS]) | (with_reducible refine wpl rfl (Stp.ldo rfl agg22 rfl H (by assumption) (by assumption) ?_); simp only [pS]) | (with_reducible refine wpl rfl (Stp.ldr rfl agg43 size43 rfl H mR sZ ?_); simp only [pS]) | (with_reducible refine wpl rfl (Stp.ldl rfl agg43 size43 rfl H mR (by simp) ?_); simp only [pS]; simp only [List.drop_succ_cons, List.drop_zero, List.take_succ_cons, List.take_zero]) | (with_reducible refine wpl rfl (Stp.ldor rfl agg43 size43 rfl H (by assumption) sZ (by assumption) ?_); simp only [pS]) | (with_reducible refine wpl rfl (Stp.alloc 9 rfl rfl zero39 H ?_); clear H; intro g9 w1 H; simp only [pS]; simp only [nC] at H) | (with_reducible refine wpl rfl (Stp.str rfl size39 rfl rfl (by first | rfl | (simp [Value.oneCell']; done) | assumption) H uP sZ sZ ?_); clear H; intro w1 H; simp only [pS]) | (with_reducible refine wpl rfl (Stp.stl rfl size39 rfl rfl rfl rfl H uP (by simp) ?_); clear H; intro w1 H; simp only [pS]; simp only [List.drop_succ_cons, List.drop_zero, List.take_succ_cons, List.take_zero, List.nil_append, List.cons_append, Nat.reduceAdd] at H) | (with_reducible refine wpl rfl (Stp.ldc rfl agg3 rfl H mR cE ?_); simp only [pS]) | (with_reducible refine wpl rfl (Stp.ldo rfl agg3 rfl H (by assumption) (by assumption) ?_); simp only [pS]) | (with_reducible refine wpl rfl (Stp.ldr rfl agg39 size39 rfl H mR sZ ?_); simp only [pS]) | (with_reducible refine wpl rfl (Stp.ldl rfl agg39 size39 rfl H mR (by simp) ?_); simp only [pS]; simp only [List.drop_succ_cons, List.drop_zero, List.take_succ_cons, List.take_zero]) | (with_reducible refine wpl rfl (Stp.ldor rfl agg39 size39 rfl H (by assumption) sZ (by assumption) ?_); simp only [pS]))
                go_roundw
                case rel => exact ⟨q + 1, x2, M2, b2, R2, es ++ [(V, h1)], a78, c78, by omega, by omega, by rw [HE2.out], by rw [len_snoc], by go_num, HR2, HSX2, Lib.hid (HCN2.out h1), by rw [len_snoc]; omega, by
                  rw [len_snoc, fv_evc_snoc]
                  exact ((H.pull (r := R2) pU).pull (r := slc 39 9 (.slice a78 (es.length + 1) c78) (es.length + 1) _) pU).sub sU⟩
                case measure => simp [intOf]; omega
      · have q80i : ¬ (q : Int) < 80 := by omega
        go_wp2_with (first | (go_at_call 13; (with_reducible refine (aw19_ok _).mono ?_); rintro e w1 ⟨v, rfl, hr⟩; obtain ⟨rfl, hb1⟩ := hr; replace H := H.grow hb1; clear hb1) | (with_reducible refine wpl rfl (Stp.box 2 rfl rfl rfl H ?_); clear H; intro g2 w1 H; simp only [pS]; simp only [pE, nC, pS] at H) | (with_reducible refine wpl rfl (Stp.ldr rfl agg26 size26 rfl H mR sZ ?_); simp only [pS]) | (with_reducible refine wpl rfl (Stp.ldl rfl agg26 size26 rfl H mR (by simp) ?_); simp only [pS]; simp only [List.drop_succ_cons, List.drop_zero, List.take_succ_cons, List.take_zero]) | (with_reducible refine wpl rfl (Stp.ldor rfl agg26 size26 rfl H (by assumption) sZ (by assumption) ?_); simp only [pS]) | (with_reducible refine wpl rfl (Stp.ldc rfl agg22 rfl H mR cE ?_); simp only [pS]) | (with_reducible refine wpl rfl (Stp.ldo rfl agg22 rfl H (by assumption) (by assumption) ?_); simp only [pS]) | (with_reducible refine wpl rfl (Stp.ldr rfl agg43 size43 rfl H mR sZ ?_); simp only [pS]) | (with_reducible refine wpl rfl (Stp.ldl rfl agg43 size43 rfl H mR (by simp) ?_); simp only [pS]; simp only [List.drop_succ_cons, List.drop_zero, List.take_succ_cons, List.take_zero]) | (with_reducible refine wpl rfl (Stp.ldor rfl agg43 size43 rfl H (by assumption) sZ (by assumption) ?_); simp only [pS]) | (with_reducible refine wpl rfl (Stp.alloc 9 rfl rfl zero39 H ?_); clear H; intro g9 w1 H; simp only [pS]; simp only [nC] at H) | (with_reducible refine wpl rfl (Stp.str rfl size39 rfl rfl (by first | rfl | (simp [Value.oneCell']; done) | assumption) H uP sZ sZ ?_); clear H; intro w1 H; simp only [pS]) | (with_reducible refine wpl rfl (Stp.stl rfl size39 rfl rfl rfl rfl H uP (by simp) ?_); clear H; intro w1 H; simp only [pS]; simp only [List.drop_succ_cons, List.drop_zero, List.take_succ_cons, List.take_zero, List.nil_append, List.cons_append, Nat.reduceAdd] at H) | (with_reducible refine wpl rfl (Stp.ldc rfl agg3 rfl H mR cE ?_); simp only [pS]) | (with_reducible refine wpl rfl (Stp.ldo rfl agg3 rfl H (by assumption) (by assumption) ?_); simp only [pS]) | (with_reducible refine wpl rfl (Stp.ldr rfl agg39 size39 rfl H mR sZ ?_); simp only [pS]) | (with_reducible refine wpl rfl (Stp.ldl rfl agg39 size39 rfl H mR (by simp) ?_); simp only [pS]; simp only [List.drop_succ_cons, List.drop_zero, List.take_succ_cons, List.take_zero]) | (with_reducible refine wpl rfl (Stp.ldor rfl agg39 size39 rfl H (by assumption) sZ (by assumption) ?_); simp only [pS]))
        go_ret
        exact ⟨_, rfl, rfl, H.below⟩
    · have qli : ¬ (q : Int) < (n : Int) := by omega
      go_wp2_with (first | (go_at_call 13; (with_reducible refine (aw19_ok _).mono ?_); rintro e w1 ⟨v, rfl, hr⟩; obtain ⟨rfl, hb1⟩ := hr; replace H := H.grow hb1; clear hb1) | (with_reducible refine wpl rfl (Stp.box 2 rfl rfl rfl H ?_); clear H; intro g2 w1 H; simp only [pS]; simp only [pE, nC, pS] at H) | (with_reducible refine wpl rfl (Stp.ldr rfl agg26 size26 rfl H mR sZ ?_); simp only [pS]) | (with_reducible refine wpl rfl (Stp.ldl rfl agg26 size26 rfl H mR (by simp) ?_); simp only [pS]; simp only [List.drop_succ_cons, List.drop_zero, List.take_succ_cons, List.take_zero]) | (with_reducible refine wpl rfl (Stp.ldor rfl agg26 size26 rfl H (by assumption) sZ (by assumption) ?_); simp only [pS]) | (with_reducible refine wpl rfl (Stp.ldc rfl agg22 rfl H mR cE ?_); simp only [pS]) | (with_reducible refine wpl rfl (Stp.ldo rfl agg22 rfl H (by assumption) (by assumption) ?_); simp only [pS]) | (with_reducible refine wpl rfl (Stp.ldr rfl agg43 size43 rfl H mR sZ ?_); simp only [pS]) | (with_reducible refine wpl rfl (Stp.ldl rfl agg43 size43 rfl H mR (by simp) ?_); simp only [pS]; simp only [List.drop_succ_cons, List.drop_zero, List.take_succ_cons, List.take_zero]) | (with_reducible refine wpl rfl (Stp.ldor rfl agg43 size43 rfl H (by assumption) sZ (by assumption) ?_); simp only [pS]) | (with_reducible refine wpl rfl (Stp.alloc 9 rfl rfl zero39 H ?_); clear H; intro g9 w1 H; simp only [pS]; simp only [nC] at H) | (with_reducible refine wpl rfl (Stp.str rfl size39 rfl rfl (by first | rfl | (simp [Value.oneCell']; done) | assumption) H uP sZ sZ ?_); clear H; intro w1 H; simp only [pS]) | (with_reducible refine wpl rfl (Stp.stl rfl size39 rfl rfl rfl rfl H uP (by simp) ?_); clear H; intro w1 H; simp only [pS]; simp only [List.drop_succ_cons, List.drop_zero, List.take_succ_cons, List.take_zero, List.nil_append, List.cons_append, Nat.reduceAdd] at H) | (with_reducible refine wpl rfl (Stp.ldc rfl agg3 rfl H mR cE ?_); simp only [pS]) | (with_reducible refine wpl rfl (Stp.ldo rfl agg3 rfl H (by assumption) (by assumption) ?_); simp only [pS]) | (with_reducible refine wpl rfl (Stp.ldr rfl agg39 size39 rfl H mR sZ ?_); simp only [pS]) | (with_reducible refine wpl rfl (Stp.ldl rfl agg39 size39 rfl H mR (by simp) ?_); simp only [pS]; simp only [List.drop_succ_cons, List.drop_zero, List.take_succ_cons, List.take_zero]) | (with_reducible refine wpl rfl (Stp.ldor rfl agg39 size39 rfl H (by assumption) sZ (by assumption) ?_); simp only [pS]))
      go_ret
      exact ⟨_, rfl, rfl, H.below⟩
set_option maxRecDepth 100000 in
theorem stateOnce_lifted (os : Os) (started : os.Started) (H : Type) (enc : TypeId × Value → H) :
    ReturnsInHanded {} Try.checked os 3 .any (Rows.stateOnceSpec.pre6 enc Try.prog Try.f3 Rows.stateOnceRow.domain false) (Rows.stateOnceSpec.post enc Try.prog Try.f3 false true false false) := by
  refine law_lifted (C := Try.checked) own started (by kernel_rfl) Try.func3 laidOut rfl Try.underlying4 rfl (by kernel_rfl) (fun ds hd => ?_)
    (ChangeSpec.witness6 (enc := enc) (C := Try.checked) false ⟨#[], #[.agg #[.int .u64 0, .slice none 0 0, .slice none 0 0, .slice none 0 0], .slice none 0 0], []⟩ 8 (by kernel_rfl) (by kernel_rfl) (by kernel_rfl) (by kernel_rfl)) ?_
  · match ds, hd with
    | [d0, d1], _ => exact ⟨rfl, rfl, rfl⟩
  intro W base args ds p hval hA
  rw [Try.params3] at hA hval
  obtain ⟨v0, vs0, d0, ds0, p0, q0, hargs, rfl, rfl, h0, r0⟩ := trodAll_cons hA
  obtain ⟨v1, vs1, d1, ds1, p1, q1, rfl, rfl, rfl, h1, r1⟩ := trodAll_cons r0
  obtain ⟨rfl, rfl, rfl⟩ := trodAll_nil r1
  obtain rfl : args = #[v0, v1] := by cases args; simp_all
  obtain ⟨x, ma, la, da, mc, lc, dc, rfl, hw, hx⟩ := open_vw (hval 0 26 v0 rfl rfl) h0
  obtain ⟨l, va, vc, rfl, hs, hxl⟩ := open_cms (hval 1 27 v1 rfl rfl) h1
  exact law_sonce x ma la da mc lc dc va vc l W hx hs hxl
theorem stateOnce_over : Rows.stateOnceRow.holds Try.pinned (OpenSpec.ofChange Rows.stateOnceSpec) :=
  OpenClaim.holds_of_wide 3 Try.f3 rfl rfl rfl rfl rfl rfl rfl ⟨rfl, rfl, rfl, rfl, rfl⟩ rfl rfl rfl rfl rfl (by kernel_rfl) Try.func3 (by kernel_rfl)
    (of_decide_eq_true (by kernel_rfl)) (by unfold Func.isWrapper; first | (rw [if_pos (by decide +kernel)]; kernel_rfl) | (rw [if_neg (by decide +kernel)]; exact ⟨rfl, rfl⟩))
    (fun os started H enc _ => stateOnce_lifted os started H enc)
theorem stateOnce_holds : Rows.StateOnceSaid := stateOnce_over
#print axioms stateOnce_holds
end Go.Proofs.Ytjghcmejmdllbaa
