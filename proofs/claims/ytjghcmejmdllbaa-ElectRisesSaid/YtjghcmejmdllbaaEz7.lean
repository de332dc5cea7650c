/- The contract of layer 8's Check (view): what it answers; the bounds stand in it. -/
import Derived.Test.YtjghcmejmdllbaaEz6
namespace Go.Proofs.Ytjghcmejmdllbaa
open Go.ChangeShapes Go.WideShapes Go.ChangeAt Go.RowKit Go.Maps
set_option linter.unusedVariables false
set_option linter.unusedSimpArgs false
def lvOk (m : List Pr) (ls : List (List Pr)) : Bool := ls.all fun l => !l.isEmpty && risB m l
def firsts (ls : List (List Pr)) : List Pr := ls.map fun l => l.headD (0, 0)
def vOk (x : Vw) : Bool := decide (1 ≤ x.id) && decide (x.id ≤ 4611686018427387904) && memOk x.mem && lvOk x.mem x.lvs && decide (x.lvs.flatten.length = x.mem.length) && decide ((dd x.lvs.flatten).length = x.lvs.flatten.length) && risB x.mem (firsts x.lvs) && !x.ldr.isEmpty && risB x.mem x.ldr
def vErr (x : Vw) : Int := if vOk x = true then 0 else 1
theorem pv_one1 (f : List Pr) (p : Pr) : pv f ++ [.int .u16 (p.1 : Int), .int .u32 (p.2 : Int)] = pv (f ++ [p]) := by simp [pv]
theorem own_pvk {w : World} {b n : Nat} {v : Value} {ps : List Pr} (h : w.ownsRow b 36 2 v n (pv ps)) (hn : ps.length = n) (hl : n ≤ 1000000) : Sl w 2 ps.length v (elQ ps) := by
  subst hn; exact Sl.of_ownN h (fun i hi j hj => pv_get ps i hi j hj) (by unfold maxLen; omega)
theorem okPids_flat {ls : List (List Pr)} (h : ∀ l ∈ ls, okPids l) : okPids ls.flatten := by
  intro p hp
  obtain ⟨l, hl, hp⟩ := List.mem_flatten.1 hp
  exact h l hl p hp
theorem firsts_snoc {ls : List (List Pr)} {k : Nat} {l : List Pr} {p : Pr} (h : ls.take (k + 1) = ls.take k ++ [l]) (hp : l.headD (0, 0) = p) : firsts (ls.take (k + 1)) = firsts (ls.take k) ++ [p] := by
  rw [h]; unfold firsts; rw [List.map_append]; simp only [List.map_cons, List.map_nil, hp]
theorem lvOk_snoc {m : List Pr} {ls : List (List Pr)} {k : Nat} {l : List Pr} (h : ls.take (k + 1) = ls.take k ++ [l]) (h0 : lvOk m (ls.take k) = true) : lvOk m (ls.take (k + 1)) = (!l.isEmpty && risB m l) := by
  unfold lvOk at h0 ⊢
  rw [h, List.all_append, h0]; simp
theorem lvOk_bad {m : List Pr} {ls : List (List Pr)} {l : List Pr} (hl : l ∈ ls) (h : (!l.isEmpty && risB m l) = false) : lvOk m ls = false := by
  unfold lvOk
  rw [List.all_eq_false]
  exact ⟨l, hl, by rw [h]; simp⟩
theorem concat_is {G : Nat → Prop} (v : Value) (ls : List (List Pr)) (fl : List Pr) (h1 : ls.length ≤ 1000) (h2 : ∀ l ∈ ls, l.length ≤ 1000) (hf : ls.flatten = fl) (w : World) (hx : LvG G w v ls) :
    Calls Try.prog 114 #[v] w (Ret fun v' w' => ∃ ap cp, v' = .slice ap fl.length cp ∧ w'.ownsRow w.heap.size 36 2 (.slice ap fl.length cp) fl.length (pv fl) ∧ Below w.heap.size w w') := by
  subst hf; exact concat_ok v ls h1 h2 w hx
attribute [local irreducible] memOk risB lvOk firsts dd
set_option maxRecDepth 100000 in
set_option maxHeartbeats 4000000 in
theorem vcheck_ok {G1 : Nat → Prop} (x : Vw) (ma la da : Option Addr) (mc lc dc : Nat) (hm : smV x) (hw : wfV x) (w : World)
    (hx : VwG G1 w (.slice ma x.mem.length mc) (.slice la x.lvs.length lc) (.slice da x.ldr.length dc) x) :
    Calls Try.prog 79 #[.agg (vwC x ma la da mc lc dc)] w (Ret fun v w' => v = .int .i64 (vErr x) ∧ Below w.heap.size w w') := by
  have H := St.init w
  obtain ⟨hx1, hx2, hx3⟩ := hx
  have hb1 := hm.mem
  have hb2 := hm.lvs
  have HB3 := Lib.hid hm.each
  have hb4 := hm.ldr
  have WM := Lib.hid hw.mem
  have WL := Lib.hid hw.lvs
  have WD := Lib.hid hw.ldr
  clear hm hw
  simp only [vwC]
  by_cases h1 : 1 ≤ x.id
  · by_cases h2 : x.id ≤ 4611686018427387904
    · have h1i : ¬ (x.id : Int) < 1 := by omega
      have h2i : ¬ (4611686018427387904 : Int) < (x.id : Int) := by omega
      cases hmb : memOk x.mem
      · have HMB := Lib.hid hmb
        have HV : Hid (vErr x = 1) := Lib.hid (by unfold vErr vOk; simp [hmb])
        clear hmb h1 h2
        go_enter Try.func79, Try.ntmps79
        go_wp2_with (first | (go_at_call 110; (with_reducible refine (members_ok _ x.mem WM.out _ (hx1.sl.grow H.below)).mono ?_); rintro e w1 ⟨v, rfl, hr⟩; obtain ⟨rfl, hb1⟩ := hr; replace H := H.grow hb1; clear hb1; rw [HMB.out]) | (with_reducible refine wpl rfl (Stp.box 1 rfl rfl rfl H ?_); clear H; intro g1 w1 H; simp only [pS]; simp only [pE, nC, pS] at H) | (with_reducible refine wpl rfl (Stp.ldc rfl agg22 rfl H mR cE ?_); simp only [pS]) | (with_reducible refine wpl rfl (Stp.ldc rfl agg23 rfl H mR cE ?_); simp only [pS]))
        go_ret
        exact ⟨_, rfl, by rw [HV.out]; rfl, H.below⟩
      · have HMB := Lib.hid hmb
        have H12 := Lib.hid (And.intro h1 h2)
        clear hmb h1 h2
        obtain ⟨n, hn⟩ : ∃ n, x.lvs.length = n := ⟨_, rfl⟩
        have HLN := Lib.hid hn
        have hbn : n ≤ 1000 := by omega
        simp only [hn] at hx2 ⊢
        clear hn
        go_enter Try.func79, Try.ntmps79
        go_wp2_with (first | (go_at_call 110; (with_reducible refine (members_ok _ x.mem WM.out _ (hx1.sl.grow H.below)).mono ?_); rintro e w1 ⟨v, rfl, hr⟩; obtain ⟨rfl, hb1⟩ := hr; replace H := H.grow hb1; clear hb1; rw [HMB.out]) | (go_at_call 111; (with_reducible refine (ranks_ok x.id _ _ _ _ x.mem WM.out _ (hx1.sl.grow H.below)).mono ?_); rintro e w1 ⟨v, rfl, hr⟩; obtain ⟨gm, M, rfl, hM, hR, hge, hb1⟩ := hr; replace H := H.new hb1 (mapr_sound hM) (fun g hg => by cases hg; exact hge); have HR := Lib.hid hR; clear hb1 hM hR hge) | (with_reducible refine wpl rfl (Stp.box 1 rfl rfl rfl H ?_); clear H; intro g1 w1 H; simp only [pS]; simp only [pE, nC, pS] at H) | (with_reducible refine wpl rfl (Stp.ldc rfl agg22 rfl H mR cE ?_); simp only [pS]) | (with_reducible refine wpl rfl (Stp.ldc rfl agg23 rfl H mR cE ?_); simp only [pS]) | (with_reducible refine wpl rfl (Stp.ldr rfl agg26 size26 rfl H mR sZ ?_); simp only [pS]) | (with_reducible refine wpl rfl (Stp.ldc rfl agg24 rfl H mR cE ?_); simp only [pS]))
        replace H := H.nil 36 2
        go_loopw [4, 5, 27] (fun t a i wr => ∃ (k s : Nat) (ao : Option Addr) (co : Nat) (f : List Pr), k ≤ n ∧ i = .int .i64 (k : Int) ∧ a = .int .i64 (s : Int) ∧ t = .slice ao k co ∧ Hid (firsts (x.lvs.take k) = f) ∧ Hid (f.length = k) ∧ Hid (okPids f) ∧ Hid ((x.lvs.take k).flatten.length = s) ∧ s ≤ 1000 * k ∧ Hid (lvOk x.mem (x.lvs.take k) = true) ∧ St w.heap.size w wr [slc 36 2 (.slice ao k co) k (pv f), mapr Try.prog 36 ekP evN gm M, row 26 g1 #[.int .u64 (x.id : Int), .slice ma x.mem.length mc, .slice la n lc, .slice da x.ldr.length dc]]) (fun _ _ i _ => n - (intOf i).toNat)
        case atStart => exact ⟨0, 0, none, 0, [], Nat.zero_le _, rfl, rfl, rfl, Lib.hid (by unfold firsts; rfl), Lib.hid rfl, Lib.hid (by simp [okPids]), Lib.hid rfl, Nat.le_refl _, Lib.hid (by unfold lvOk; rfl), H⟩
        case round =>
          clear H
          obtain ⟨k, s, ao, co, f, hk, rfl, rfl, rfl, HFI, HQ, WFI, HS, hsk, HO, H⟩ := hrel
          by_cases hlt : k < n
          · have hl1 : k < x.lvs.length := by rw [HLN.out]; exact hlt
            obtain ⟨b0, o0, ak, ck, rfl, hbl, hc1, hs1⟩ := hx2.at HLN.out hl1
            have hmm : x.lvs[k] ∈ x.lvs := List.getElem_mem hl1
            have hsn := List.take_succ_eq_append_getElem hl1
            obtain ⟨l, hl⟩ : ∃ l, x.lvs[k] = l := ⟨_, rfl⟩
            rw [hl] at hc1 hs1 hmm hsn
            have hlb := HB3.out l hmm
            have wl := WL.out l hmm
            have HSN := Lib.hid hsn
            have HMM := Lib.hid hmm
            have kli : (k : Int) < (n : Int) := by omega
            clear hsn hmm hl
            by_cases h0 : l.length = 0
            · have he : l = [] := List.eq_nil_of_length_eq_zero h0
              have HV : Hid (vErr x = 1) := Lib.hid (by unfold vErr vOk; rw [lvOk_bad HMM.out (by rw [he]; rfl)]; simp)
              have h0i : ((l.length : Int) == 0) = true := beq_iff_eq.2 (by omega)
              clear h0 he
              go_wp2_with (first | (with_reducible refine wpl rfl (Stp.ldo rfl agg23 rfl H (by assumption) (by assumption) ?_); simp only [pS]))
              go_ret
              exact ⟨_, rfl, by rw [HV.out]; rfl, H.below⟩
            · have h0i : ((l.length : Int) == 0) = false := beq_eq_false_iff_ne.2 (by omega)
              cases hri : risB x.mem l
              · have HRI := Lib.hid hri
                have HV : Hid (vErr x = 1) := Lib.hid (by unfold vErr vOk; rw [lvOk_bad HMM.out (by rw [hri, Bool.and_false])]; simp)
                clear hri h0
                go_wp2_with (first | (go_at_call 112; (with_reducible refine (rising_ok gm M x.mem l _ wl HR.out _ (H.getMap mE) (hs1.sl.grow H.below)).mono ?_); rintro e w1 ⟨v, rfl, hr⟩; obtain ⟨rfl, hb1⟩ := hr; replace H := H.grow hb1; clear hb1; rw [HRI.out]) | (with_reducible refine wpl rfl (Stp.ldo rfl agg23 rfl H (by assumption) (by assumption) ?_); simp only [pS]))
                go_ret
                exact ⟨_, rfl, by rw [HV.out]; rfl, H.below⟩
              · have HRI := Lib.hid hri
                obtain ⟨b2, o2, rfl, hb2x⟩ := hs1.sl.addr (by omega)
                have hb2 := hb2x
                have hc0 := hs1.sl.cell (i := 0) (by omega)
                have h0l : 0 < l.length := by omega
                have hhd : l.headD (0, 0) = l[0] := by cases l with | nil => simp at h0l | cons p r => rfl
                unfold elQ at hc0
                rw [getD_at h0l] at hc0
                have hpm : l[0] ∈ l := List.getElem_mem h0l
                obtain ⟨p, hp⟩ : ∃ p, l[0] = p := ⟨_, rfl⟩
                rw [hp] at hc0 hhd hpm
                have hlo : lvOk x.mem (x.lvs.take (k + 1)) = true := by
                  rw [lvOk_snoc HSN.out HO.out, hri]
                  cases l with
                  | nil => simp at h0l
                  | cons _ _ => rfl
                have HC0 : Hid (∀ j, j < 2 → w.cell? ⟨b2, o2 + j, none⟩ = #[.int .u16 (p.1 : Int), .int .u32 (p.2 : Int)][j]?) := Lib.hid (fun j hj => by have := hc0 j hj; rw [Nat.zero_mul, Nat.add_zero] at this; exact this)
                have HLO := Lib.hid hlo
                have HFS := Lib.hid (firsts_snoc HSN.out hhd)
                have HPM := Lib.hid (wl p hpm)
                have hli : (0 : Int) < (l.length : Int) := by omega
                clear hc0 hri hhd hpm hp hlo h0 h0l
                go_wp2_with (first | (go_at_call 112; (with_reducible refine (rising_ok gm M x.mem l _ wl HR.out _ (H.getMap mE) (hs1.sl.grow H.below)).mono ?_); rintro e w1 ⟨v, rfl, hr⟩; obtain ⟨rfl, hb1⟩ := hr; replace H := H.grow hb1; clear hb1; rw [HRI.out]) | (with_reducible refine wpl rfl (Stp.ldq (cs := #[.int .u16 (p.1 : Int), .int .u32 (p.2 : Int)]) rfl agg36 size36 rfl (fun j hj => (H.below.cell hb2).trans (HC0.out j hj)) rfl ?_); simp only [pS]) | (with_reducible refine wpl rfl (Stp.bsl (e := 36) (cs := #[.int .u16 (p.1 : Int), .int .u32 (p.2 : Int)]) 44 rfl rfl (fun W => by kernel_rfl) H ?_); clear H; intro g44 w1 H; simp only [pS]) | (with_reducible refine wpl rfl (Stp.apps 45 rfl rfl Try.underlying23 info36 rfl (by decide) rfl rfl H (fun _ => uP) (show ([.int .u16 (p.1 : Int), .int .u32 (p.2 : Int)] : List Value).length = 1 * 2 from rfl) (fun _ => ⟨_, rfl, newL (H.gr 36)⟩) (by simp [Value.oneCell']) (by unfold maxLen; omega) (by omega) ?_); clear H; intro a45 c45 w1 H; simp only [pS]; rw [pv_one1] at H) | (with_reducible refine wpl rfl (Stp.ldo rfl agg23 rfl H (by assumption) (by assumption) ?_); simp only [pS]))
                go_roundw
                case rel =>
                  exact ⟨k + 1, s + l.length, _, _, f ++ [p], by omega, by go_num, by go_num, rfl, Lib.hid (by rw [HFS.out, HFI.out]), Lib.hid (by rw [List.length_append, HQ.out]; rfl), Lib.hid (fun q hq => by
                    rcases List.mem_append.1 hq with h | h
                    · exact WFI.out q h
                    · rw [List.mem_singleton] at h; subst h; exact HPM.out), Lib.hid (by rw [flat_snoc HSN.out, List.length_append, HS.out]), by omega, HLO, H.sub sU⟩
                case measure => simp [intOf]; omega
          · obtain rfl : k = n := by omega
            have hfi := HFI.out
            have hfs := HS.out
            have hlo := HO.out
            rw [← HLN.out, List.take_length] at hfi hfs hlo
            obtain ⟨fl, hfl⟩ : ∃ fl, x.lvs.flatten = fl := ⟨_, rfl⟩
            have HFL := Lib.hid hfl
            have WF : Hid (okPids fl) := Lib.hid (by rw [← hfl]; exact okPids_flat WL.out)
            have hfll : fl.length = s := by rw [← hfl]; exact hfs
            have hlvo : lvOk x.mem x.lvs = true := hlo
            have hflm : fl.length ≤ 1000000 := by omega
            obtain ⟨h1', h2'⟩ := H12.out
            have hmb' := HMB.out
            obtain ⟨N, hN⟩ : ∃ N, (dd fl).length = N := ⟨_, rfl⟩
            have HNN : Hid (((dd fl).map fun p => (p, ())).length = N) := Lib.hid (by rw [List.length_map]; exact hN)
            have hfll2 := hfll
            have HFLL := Lib.hid hfll2
            clear hfll2
            by_cases hA : s = x.mem.length
            · have hAi : ((s : Int) != (x.mem.length : Int)) = false := by simp [hA]
              by_cases hB : N = s
              · have hBi : ((N : Int) != (s : Int)) = false := by simp [hB]
                cases hF : risB x.mem f
                · have HRF := Lib.hid hF
                  have HV : Hid (vErr x = 1) := Lib.hid (by unfold vErr vOk; simp [h1', h2', hmb', hlvo, hfl, hfll, hfi, hN, hA, hB, hF])
                  clear h1' h2' hmb' hlvo hfl hfll hfi hN hfs hlo hA hB hF
                  go_wp2_with (first | (go_at_call 114; (with_reducible refine (concat_is _ x.lvs fl hb2 HB3.out HFL.out _ (hx2.grow H.below)).mono ?_); rintro e w1 ⟨v, rfl, hr⟩; obtain ⟨ac, cc, rfl, ho, hb1⟩ := hr; replace H := H.new hb1 (slc_sound ho) (fun g hg => (ho.lt g hg).1); clear hb1 ho) | (go_at_call 113; (with_reducible refine (pnew_ok _ fl WF.out (by omega) _ (own_pvk (H.getSlc mE) rfl (by omega))).mono ?_); rintro e w1 ⟨v, rfl, hr⟩; obtain ⟨gs, gu, rfl, hrow, hmap, hb1⟩ := hr; replace H := H.grow hb1; clear hb1) | (go_at_call 115; (with_reducible refine (plen_ok gs gu N _ HNN.out _ hrow hmap).mono ?_); rintro e w1 ⟨v, rfl, hr⟩; obtain ⟨rfl, hb1⟩ := hr; replace H := H.grow hb1; clear hb1) | (go_at_call 112; (first | ((with_reducible refine (rising_ok gm M x.mem f (.slice ao k co) WFI.out HR.out _ (H.getMap mE) (own_pvk (H.getSlc mE) HQ.out (by omega))).mono ?_); rintro e w1 ⟨v, rfl, hr⟩; obtain ⟨rfl, hb1⟩ := hr; replace H := H.grow hb1; clear hb1; rw [HRF.out]) | ((with_reducible refine (rising_ok gm M x.mem x.ldr (.slice da x.ldr.length dc) WD.out HR.out _ (H.getMap mE) (hx3.sl.grow H.below)).mono ?_); rintro e w1 ⟨v, rfl, hr⟩; obtain ⟨rfl, hb1⟩ := hr; replace H := H.grow hb1; clear hb1; rw [HRD.out]))) | (with_reducible refine wpl rfl (Stp.ldc rfl agg23 rfl H mR cE ?_); simp only [pS]) | (with_reducible refine wpl rfl (Stp.ldc rfl agg24 rfl H mR cE ?_); simp only [pS]))
                  go_ret
                  exact ⟨_, rfl, by rw [HV.out]; rfl, H.below⟩
                · have HRF := Lib.hid hF
                  by_cases hD : x.ldr.length = 0
                  · have hDi : ((x.ldr.length : Int) == 0) = true := beq_iff_eq.2 (by omega)
                    have hDe : x.ldr = [] := List.eq_nil_of_length_eq_zero hD
                    have HV : Hid (vErr x = 1) := Lib.hid (by unfold vErr vOk; simp [h1', h2', hmb', hlvo, hfl, hfll, hfi, hN, hDe])
                    clear h1' h2' hmb' hlvo hfl hfll hfi hN hfs hlo hA hB hF hD hDe
                    go_wp2_with (first | (go_at_call 114; (with_reducible refine (concat_is _ x.lvs fl hb2 HB3.out HFL.out _ (hx2.grow H.below)).mono ?_); rintro e w1 ⟨v, rfl, hr⟩; obtain ⟨ac, cc, rfl, ho, hb1⟩ := hr; replace H := H.new hb1 (slc_sound ho) (fun g hg => (ho.lt g hg).1); clear hb1 ho) | (go_at_call 113; (with_reducible refine (pnew_ok _ fl WF.out (by omega) _ (own_pvk (H.getSlc mE) rfl (by omega))).mono ?_); rintro e w1 ⟨v, rfl, hr⟩; obtain ⟨gs, gu, rfl, hrow, hmap, hb1⟩ := hr; replace H := H.grow hb1; clear hb1) | (go_at_call 115; (with_reducible refine (plen_ok gs gu N _ HNN.out _ hrow hmap).mono ?_); rintro e w1 ⟨v, rfl, hr⟩; obtain ⟨rfl, hb1⟩ := hr; replace H := H.grow hb1; clear hb1) | (go_at_call 112; (first | ((with_reducible refine (rising_ok gm M x.mem f (.slice ao k co) WFI.out HR.out _ (H.getMap mE) (own_pvk (H.getSlc mE) HQ.out (by omega))).mono ?_); rintro e w1 ⟨v, rfl, hr⟩; obtain ⟨rfl, hb1⟩ := hr; replace H := H.grow hb1; clear hb1; rw [HRF.out]) | ((with_reducible refine (rising_ok gm M x.mem x.ldr (.slice da x.ldr.length dc) WD.out HR.out _ (H.getMap mE) (hx3.sl.grow H.below)).mono ?_); rintro e w1 ⟨v, rfl, hr⟩; obtain ⟨rfl, hb1⟩ := hr; replace H := H.grow hb1; clear hb1; rw [HRD.out]))) | (with_reducible refine wpl rfl (Stp.ldc rfl agg23 rfl H mR cE ?_); simp only [pS]) | (with_reducible refine wpl rfl (Stp.ldc rfl agg24 rfl H mR cE ?_); simp only [pS]))
                    go_ret
                    exact ⟨_, rfl, by rw [HV.out]; rfl, H.below⟩
                  · have hDi : ((x.ldr.length : Int) == 0) = false := beq_eq_false_iff_ne.2 (by omega)
                    have hDe : x.ldr.isEmpty = false := by cases hx : x.ldr with | nil => rw [hx] at hD; simp at hD | cons _ _ => rfl
                    cases hR2 : risB x.mem x.ldr
                    · have HRD := Lib.hid hR2
                      have HV : Hid (vErr x = 1) := Lib.hid (by unfold vErr vOk; simp [h1', h2', hmb', hlvo, hfl, hfll, hfi, hN, hR2])
                      clear h1' h2' hmb' hlvo hfl hfll hfi hN hfs hlo hA hB hF hD hDe hR2
                      go_wp2_with (first | (go_at_call 114; (with_reducible refine (concat_is _ x.lvs fl hb2 HB3.out HFL.out _ (hx2.grow H.below)).mono ?_); rintro e w1 ⟨v, rfl, hr⟩; obtain ⟨ac, cc, rfl, ho, hb1⟩ := hr; replace H := H.new hb1 (slc_sound ho) (fun g hg => (ho.lt g hg).1); clear hb1 ho) | (go_at_call 113; (with_reducible refine (pnew_ok _ fl WF.out (by omega) _ (own_pvk (H.getSlc mE) rfl (by omega))).mono ?_); rintro e w1 ⟨v, rfl, hr⟩; obtain ⟨gs, gu, rfl, hrow, hmap, hb1⟩ := hr; replace H := H.grow hb1; clear hb1) | (go_at_call 115; (with_reducible refine (plen_ok gs gu N _ HNN.out _ hrow hmap).mono ?_); rintro e w1 ⟨v, rfl, hr⟩; obtain ⟨rfl, hb1⟩ := hr; replace H := H.grow hb1; clear hb1) | (go_at_call 112; (first | ((with_reducible refine (rising_ok gm M x.mem f (.slice ao k co) WFI.out HR.out _ (H.getMap mE) (own_pvk (H.getSlc mE) HQ.out (by omega))).mono ?_); rintro e w1 ⟨v, rfl, hr⟩; obtain ⟨rfl, hb1⟩ := hr; replace H := H.grow hb1; clear hb1; rw [HRF.out]) | ((with_reducible refine (rising_ok gm M x.mem x.ldr (.slice da x.ldr.length dc) WD.out HR.out _ (H.getMap mE) (hx3.sl.grow H.below)).mono ?_); rintro e w1 ⟨v, rfl, hr⟩; obtain ⟨rfl, hb1⟩ := hr; replace H := H.grow hb1; clear hb1; rw [HRD.out]))) | (with_reducible refine wpl rfl (Stp.ldc rfl agg23 rfl H mR cE ?_); simp only [pS]) | (with_reducible refine wpl rfl (Stp.ldc rfl agg24 rfl H mR cE ?_); simp only [pS]))
                      go_ret
                      exact ⟨_, rfl, by rw [HV.out]; rfl, H.below⟩
                    · have HRD := Lib.hid hR2
                      have HV : Hid (vErr x = 0) := Lib.hid (by unfold vErr vOk; simp [h1', h2', hmb', hlvo, hfl, hfll, hfi, hN, hA, hB, hF, hDe, hR2])
                      clear h1' h2' hmb' hlvo hfl hfll hfi hN hfs hlo hA hB hF hD hDe hR2
                      go_wp2_with (first | (go_at_call 114; (with_reducible refine (concat_is _ x.lvs fl hb2 HB3.out HFL.out _ (hx2.grow H.below)).mono ?_); rintro e w1 ⟨v, rfl, hr⟩; obtain ⟨ac, cc, rfl, ho, hb1⟩ := hr; replace H := H.new hb1 (slc_sound ho) (fun g hg => (ho.lt g hg).1); clear hb1 ho) | (go_at_call 113; (with_reducible refine (pnew_ok _ fl WF.out (by omega) _ (own_pvk (H.getSlc mE) rfl (by omega))).mono ?_); rintro e w1 ⟨v, rfl, hr⟩; obtain ⟨gs, gu, rfl, hrow, hmap, hb1⟩ := hr; replace H := H.grow hb1; clear hb1) | (go_at_call 115; (with_reducible refine (plen_ok gs gu N _ HNN.out _ hrow hmap).mono ?_); rintro e w1 ⟨v, rfl, hr⟩; obtain ⟨rfl, hb1⟩ := hr; replace H := H.grow hb1; clear hb1) | (go_at_call 112; (first | ((with_reducible refine (rising_ok gm M x.mem f (.slice ao k co) WFI.out HR.out _ (H.getMap mE) (own_pvk (H.getSlc mE) HQ.out (by omega))).mono ?_); rintro e w1 ⟨v, rfl, hr⟩; obtain ⟨rfl, hb1⟩ := hr; replace H := H.grow hb1; clear hb1; rw [HRF.out]) | ((with_reducible refine (rising_ok gm M x.mem x.ldr (.slice da x.ldr.length dc) WD.out HR.out _ (H.getMap mE) (hx3.sl.grow H.below)).mono ?_); rintro e w1 ⟨v, rfl, hr⟩; obtain ⟨rfl, hb1⟩ := hr; replace H := H.grow hb1; clear hb1; rw [HRD.out]))) | (with_reducible refine wpl rfl (Stp.ldc rfl agg23 rfl H mR cE ?_); simp only [pS]) | (with_reducible refine wpl rfl (Stp.ldc rfl agg24 rfl H mR cE ?_); simp only [pS]))
                      go_ret
                      exact ⟨_, rfl, by rw [HV.out]; rfl, H.below⟩
              · have hBi : ((N : Int) != (s : Int)) = true := by simp; omega
                have HV : Hid (vErr x = 1) := Lib.hid (by unfold vErr vOk; simp [h1', h2', hmb', hlvo, hfl, hfll, hfi, hN, hB])
                clear h1' h2' hmb' hlvo hfl hfll hfi hN hfs hlo hA hB
                go_wp2_with (first | (go_at_call 114; (with_reducible refine (concat_is _ x.lvs fl hb2 HB3.out HFL.out _ (hx2.grow H.below)).mono ?_); rintro e w1 ⟨v, rfl, hr⟩; obtain ⟨ac, cc, rfl, ho, hb1⟩ := hr; replace H := H.new hb1 (slc_sound ho) (fun g hg => (ho.lt g hg).1); clear hb1 ho) | (go_at_call 113; (with_reducible refine (pnew_ok _ fl WF.out (by omega) _ (own_pvk (H.getSlc mE) rfl (by omega))).mono ?_); rintro e w1 ⟨v, rfl, hr⟩; obtain ⟨gs, gu, rfl, hrow, hmap, hb1⟩ := hr; replace H := H.grow hb1; clear hb1) | (go_at_call 115; (with_reducible refine (plen_ok gs gu N _ HNN.out _ hrow hmap).mono ?_); rintro e w1 ⟨v, rfl, hr⟩; obtain ⟨rfl, hb1⟩ := hr; replace H := H.grow hb1; clear hb1) | (with_reducible refine wpl rfl (Stp.ldc rfl agg23 rfl H mR cE ?_); simp only [pS]) | (with_reducible refine wpl rfl (Stp.ldc rfl agg24 rfl H mR cE ?_); simp only [pS]))
                go_ret
                exact ⟨_, rfl, by rw [HV.out]; rfl, H.below⟩
            · have hAi : ((s : Int) != (x.mem.length : Int)) = true := by simp; omega
              have HV : Hid (vErr x = 1) := Lib.hid (by unfold vErr vOk; simp [h1', h2', hmb', hlvo, hfl, hfll, hfi, hN, hA])
              clear h1' h2' hmb' hlvo hfl hfll hfi hN hfs hlo hA
              go_wp2_with (first | (with_reducible refine wpl rfl (Stp.ldc rfl agg23 rfl H mR cE ?_); simp only [pS]))
              go_ret
              exact ⟨_, rfl, by rw [HV.out]; rfl, H.below⟩
    · have HV : Hid (vErr x = 1) := Lib.hid (by unfold vErr vOk; simp [h2])
      have h1i : ¬ (x.id : Int) < 1 := by omega
      have h2i : (4611686018427387904 : Int) < (x.id : Int) := by omega
      go_enter Try.func79, Try.ntmps79
      go_wp2_with (first | (with_reducible refine wpl rfl (Stp.box 1 rfl rfl rfl H ?_); clear H; intro g1 w1 H; simp only [pS]; simp only [pE, nC, pS] at H) | (with_reducible refine wpl rfl (Stp.ldc rfl agg22 rfl H mR cE ?_); simp only [pS]))
      go_ret
      exact ⟨_, rfl, by rw [HV.out]; rfl, H.below⟩
  · have HV : Hid (vErr x = 1) := Lib.hid (by unfold vErr vOk; simp [h1])
    have h1i : (x.id : Int) < 1 := by omega
    go_enter Try.func79, Try.ntmps79
    go_wp2_with (first | (with_reducible refine wpl rfl (Stp.box 1 rfl rfl rfl H ?_); clear H; intro g1 w1 H; simp only [pS]; simp only [pE, nC, pS] at H) | (with_reducible refine wpl rfl (Stp.ldc rfl agg22 rfl H mR cE ?_); simp only [pS]))
    go_ret
    exact ⟨_, rfl, by rw [HV.out]; rfl, H.below⟩
end Go.Proofs.Ytjghcmejmdllbaa
