/- The contract of the reference's Check over views (choragusref08): the program's own answer; the bounds stand in it. -/
import Derived.Test.YtmokecicjmjkbaaGy15
namespace Go.Proofs.Ytmokecicjmjkbaa
open Go.ChangeShapes Go.WideShapes Go.ChangeAt Go.RowKit Go.Maps
set_option linter.unusedVariables false
set_option linter.unusedSimpArgs false
theorem cell0 {w : World} {b off : Nat} {u v : Value} (h : ∀ j, j < 2 → w.cell? ⟨b, off + j, none⟩ = (#[u, v] : Array Value)[j]?) : w.cell? ⟨b, off, none⟩ = some u := h 0 (by omega)
theorem sl_len {w : World} {size n m : Nat} {v : Value} {E : Nat → Array Value} (h : m = n) (hs : Sl w size n v E) : Sl w size m v E := h ▸ hs
theorem vOk_bad {x : Vw} (h : ¬ (1 ≤ x.id ∧ x.id ≤ 4611686018427387904 ∧ 1 ≤ x.mem.length ∧ x.mem.length ≤ 24 ∧ x.lvs.length ≤ x.mem.length ∧ 1 ≤ x.ldr.length ∧ x.ldr.length ≤ x.mem.length)) : vOk x = false := by
  cases hv : vOk x
  · rfl
  · exfalso
    obtain ⟨h1, h2, h3, h4, h5, h6, h7, h8, h9⟩ := vOk_parts hv
    obtain ⟨c1, c2, c3⟩ := vOk_count hv
    simp only [memOk, Bool.and_eq_true, decide_eq_true_eq] at h3
    exact h ⟨h1, h2, h3.1.2, h3.2, c2, h8, c3⟩
theorem vOk_mem {x : Vw} (h : memOk x.mem = false) : vOk x = false := by unfold vOk; simp [h]
theorem vOk_lv {x : Vw} (h : lvOk x.mem x.lvs = false) : vOk x = false := by unfold vOk; simp [h]
theorem vOk_cnt {x : Vw} {p : Pr} (hp : p ∈ x.mem) (h : x.lvs.flatten.count p ≠ 1) : vOk x = false := by
  cases hv : vOk x
  · rfl
  · exact absurd ((vOk_count hv).1 p hp) h
attribute [local irreducible] may memOk risB risA rank lvOk firsts vOk dd
set_option maxRecDepth 100000 in
set_option maxHeartbeats 8000000 in
theorem rvcheck_is {G1 : Nat → Prop} (x : Vw) (ma la da : Option Addr) (mc lc dc : Nat) (hm : smV x) (w : World) (e : Bool) (he : vOk x = e)
    (hx : VwG G1 w (.slice ma x.mem.length mc) (.slice la x.lvs.length lc) (.slice da x.ldr.length dc) x) :
    Calls Try.prog 56 #[.agg (vwC x ma la da mc lc dc)] w (Ret fun v w' => v = .bool e ∧ Below w.heap.size w w') := by
  have H := St.init w
  simp only [vwC]
  subst he
  obtain ⟨hx1, hx2, hx3⟩ := hx
  by_cases hA : 1 ≤ x.id
  case neg =>
    have HV : Hid (vOk x = false) := Lib.hid (vOk_bad fun h => hA (by obtain ⟨k1, k2, k3, k4, k5, k6, k7⟩ := h; assumption))
    have zA : (x.id : Int) < 1 := by omega
    clear hA
    go_enter Try.func56, Try.ntmps56
    go_wp2_with (first | (with_reducible refine wpl rfl (dQ 1 rfl ?_); with_reducible refine (Stp.box 1 rfl rfl rfl H ?_); clear H; intro g1 w1 H; simp only [pS]; simp only [pE, nC, pS] at H) | (with_reducible refine wpl rfl (ldQ (ty := 31) rfl ?_); first | (with_reducible refine (Stp.ldo rfl agg31 rfl H (by assumption) (by assumption) ?_); simp only [pS]) | (with_reducible refine (Stp.ldc rfl agg31 rfl H mR cE ?_); simp only [pS])) | (with_reducible refine wpl rfl (ldQ (ty := 26) rfl ?_); first | (with_reducible refine (Stp.ldo rfl agg26 rfl H (by assumption) (by assumption) ?_); simp only [pS]) | (with_reducible refine (Stp.ldc rfl agg26 rfl H mR cE ?_); simp only [pS])))
    go_ret
    exact ⟨_, rfl, by rw [HV.out]; rfl, H.below⟩
  have zA : ¬ (x.id : Int) < 1 := by omega
  by_cases hB : x.id ≤ 4611686018427387904
  case neg =>
    have HV : Hid (vOk x = false) := Lib.hid (vOk_bad fun h => hB (by obtain ⟨k1, k2, k3, k4, k5, k6, k7⟩ := h; assumption))
    have zB : (4611686018427387904 : Int) < (x.id : Int) := by omega
    clear hA hB
    go_enter Try.func56, Try.ntmps56
    go_wp2_with (first | (with_reducible refine wpl rfl (dQ 1 rfl ?_); with_reducible refine (Stp.box 1 rfl rfl rfl H ?_); clear H; intro g1 w1 H; simp only [pS]; simp only [pE, nC, pS] at H) | (with_reducible refine wpl rfl (ldQ (ty := 31) rfl ?_); first | (with_reducible refine (Stp.ldo rfl agg31 rfl H (by assumption) (by assumption) ?_); simp only [pS]) | (with_reducible refine (Stp.ldc rfl agg31 rfl H mR cE ?_); simp only [pS])) | (with_reducible refine wpl rfl (ldQ (ty := 26) rfl ?_); first | (with_reducible refine (Stp.ldo rfl agg26 rfl H (by assumption) (by assumption) ?_); simp only [pS]) | (with_reducible refine (Stp.ldc rfl agg26 rfl H mR cE ?_); simp only [pS])))
    go_ret
    exact ⟨_, rfl, by rw [HV.out]; rfl, H.below⟩
  have zB : ¬ (4611686018427387904 : Int) < (x.id : Int) := by omega
  by_cases hC : 1 ≤ x.mem.length
  case neg =>
    have HV : Hid (vOk x = false) := Lib.hid (vOk_bad fun h => hC (by obtain ⟨k1, k2, k3, k4, k5, k6, k7⟩ := h; assumption))
    have zC : (x.mem.length : Int) < 1 := by omega
    clear hA hB hC
    go_enter Try.func56, Try.ntmps56
    go_wp2_with (first | (with_reducible refine wpl rfl (dQ 1 rfl ?_); with_reducible refine (Stp.box 1 rfl rfl rfl H ?_); clear H; intro g1 w1 H; simp only [pS]; simp only [pE, nC, pS] at H) | (with_reducible refine wpl rfl (ldQ (ty := 31) rfl ?_); first | (with_reducible refine (Stp.ldo rfl agg31 rfl H (by assumption) (by assumption) ?_); simp only [pS]) | (with_reducible refine (Stp.ldc rfl agg31 rfl H mR cE ?_); simp only [pS])) | (with_reducible refine wpl rfl (ldQ (ty := 26) rfl ?_); first | (with_reducible refine (Stp.ldo rfl agg26 rfl H (by assumption) (by assumption) ?_); simp only [pS]) | (with_reducible refine (Stp.ldc rfl agg26 rfl H mR cE ?_); simp only [pS])))
    go_ret
    exact ⟨_, rfl, by rw [HV.out]; rfl, H.below⟩
  have zC : ¬ (x.mem.length : Int) < 1 := by omega
  by_cases hD : x.mem.length ≤ 24
  case neg =>
    have HV : Hid (vOk x = false) := Lib.hid (vOk_bad fun h => hD (by obtain ⟨k1, k2, k3, k4, k5, k6, k7⟩ := h; assumption))
    have zD : (24 : Int) < (x.mem.length : Int) := by omega
    clear hA hB hC hD
    go_enter Try.func56, Try.ntmps56
    go_wp2_with (first | (with_reducible refine wpl rfl (dQ 1 rfl ?_); with_reducible refine (Stp.box 1 rfl rfl rfl H ?_); clear H; intro g1 w1 H; simp only [pS]; simp only [pE, nC, pS] at H) | (with_reducible refine wpl rfl (ldQ (ty := 31) rfl ?_); first | (with_reducible refine (Stp.ldo rfl agg31 rfl H (by assumption) (by assumption) ?_); simp only [pS]) | (with_reducible refine (Stp.ldc rfl agg31 rfl H mR cE ?_); simp only [pS])) | (with_reducible refine wpl rfl (ldQ (ty := 26) rfl ?_); first | (with_reducible refine (Stp.ldo rfl agg26 rfl H (by assumption) (by assumption) ?_); simp only [pS]) | (with_reducible refine (Stp.ldc rfl agg26 rfl H mR cE ?_); simp only [pS])))
    go_ret
    exact ⟨_, rfl, by rw [HV.out]; rfl, H.below⟩
  have zD : ¬ (24 : Int) < (x.mem.length : Int) := by omega
  by_cases hE : x.lvs.length ≤ x.mem.length
  case neg =>
    have HV : Hid (vOk x = false) := Lib.hid (vOk_bad fun h => hE (by obtain ⟨k1, k2, k3, k4, k5, k6, k7⟩ := h; assumption))
    have zE : (x.mem.length : Int) < (x.lvs.length : Int) := by omega
    clear hA hB hC hD hE
    go_enter Try.func56, Try.ntmps56
    go_wp2_with (first | (with_reducible refine wpl rfl (dQ 1 rfl ?_); with_reducible refine (Stp.box 1 rfl rfl rfl H ?_); clear H; intro g1 w1 H; simp only [pS]; simp only [pE, nC, pS] at H) | (with_reducible refine wpl rfl (ldQ (ty := 31) rfl ?_); first | (with_reducible refine (Stp.ldo rfl agg31 rfl H (by assumption) (by assumption) ?_); simp only [pS]) | (with_reducible refine (Stp.ldc rfl agg31 rfl H mR cE ?_); simp only [pS])) | (with_reducible refine wpl rfl (ldQ (ty := 26) rfl ?_); first | (with_reducible refine (Stp.ldo rfl agg26 rfl H (by assumption) (by assumption) ?_); simp only [pS]) | (with_reducible refine (Stp.ldc rfl agg26 rfl H mR cE ?_); simp only [pS])) | (with_reducible refine wpl rfl (ldQ (ty := 32) rfl ?_); first | (with_reducible refine (Stp.ldo rfl agg32 rfl H (by assumption) (by assumption) ?_); simp only [pS]) | (with_reducible refine (Stp.ldc rfl agg32 rfl H mR cE ?_); simp only [pS])))
    go_ret
    exact ⟨_, rfl, by rw [HV.out]; rfl, H.below⟩
  have zE : ¬ (x.mem.length : Int) < (x.lvs.length : Int) := by omega
  by_cases hF : 1 ≤ x.ldr.length
  case neg =>
    have HV : Hid (vOk x = false) := Lib.hid (vOk_bad fun h => hF (by obtain ⟨k1, k2, k3, k4, k5, k6, k7⟩ := h; assumption))
    have zF : (x.ldr.length : Int) < 1 := by omega
    clear hA hB hC hD hE hF
    go_enter Try.func56, Try.ntmps56
    go_wp2_with (first | (with_reducible refine wpl rfl (dQ 1 rfl ?_); with_reducible refine (Stp.box 1 rfl rfl rfl H ?_); clear H; intro g1 w1 H; simp only [pS]; simp only [pE, nC, pS] at H) | (with_reducible refine wpl rfl (ldQ (ty := 31) rfl ?_); first | (with_reducible refine (Stp.ldo rfl agg31 rfl H (by assumption) (by assumption) ?_); simp only [pS]) | (with_reducible refine (Stp.ldc rfl agg31 rfl H mR cE ?_); simp only [pS])) | (with_reducible refine wpl rfl (ldQ (ty := 26) rfl ?_); first | (with_reducible refine (Stp.ldo rfl agg26 rfl H (by assumption) (by assumption) ?_); simp only [pS]) | (with_reducible refine (Stp.ldc rfl agg26 rfl H mR cE ?_); simp only [pS])) | (with_reducible refine wpl rfl (ldQ (ty := 32) rfl ?_); first | (with_reducible refine (Stp.ldo rfl agg32 rfl H (by assumption) (by assumption) ?_); simp only [pS]) | (with_reducible refine (Stp.ldc rfl agg32 rfl H mR cE ?_); simp only [pS])))
    go_ret
    exact ⟨_, rfl, by rw [HV.out]; rfl, H.below⟩
  have zF : ¬ (x.ldr.length : Int) < 1 := by omega
  by_cases hG : x.ldr.length ≤ x.mem.length
  case neg =>
    have HV : Hid (vOk x = false) := Lib.hid (vOk_bad fun h => hG (by obtain ⟨k1, k2, k3, k4, k5, k6, k7⟩ := h; assumption))
    have zG : (x.mem.length : Int) < (x.ldr.length : Int) := by omega
    clear hA hB hC hD hE hF hG
    go_enter Try.func56, Try.ntmps56
    go_wp2_with (first | (with_reducible refine wpl rfl (dQ 1 rfl ?_); with_reducible refine (Stp.box 1 rfl rfl rfl H ?_); clear H; intro g1 w1 H; simp only [pS]; simp only [pE, nC, pS] at H) | (with_reducible refine wpl rfl (ldQ (ty := 31) rfl ?_); first | (with_reducible refine (Stp.ldo rfl agg31 rfl H (by assumption) (by assumption) ?_); simp only [pS]) | (with_reducible refine (Stp.ldc rfl agg31 rfl H mR cE ?_); simp only [pS])) | (with_reducible refine wpl rfl (ldQ (ty := 26) rfl ?_); first | (with_reducible refine (Stp.ldo rfl agg26 rfl H (by assumption) (by assumption) ?_); simp only [pS]) | (with_reducible refine (Stp.ldc rfl agg26 rfl H mR cE ?_); simp only [pS])) | (with_reducible refine wpl rfl (ldQ (ty := 32) rfl ?_); first | (with_reducible refine (Stp.ldo rfl agg32 rfl H (by assumption) (by assumption) ?_); simp only [pS]) | (with_reducible refine (Stp.ldc rfl agg32 rfl H mR cE ?_); simp only [pS])))
    go_ret
    exact ⟨_, rfl, by rw [HV.out]; rfl, H.below⟩
  have zG : ¬ (x.mem.length : Int) < (x.ldr.length : Int) := by omega
  have HB3 := Lib.hid hm.each
  clear hm
  obtain ⟨n, hn⟩ : ∃ n, x.mem.length = n := ⟨_, rfl⟩
  obtain ⟨N, hN⟩ : ∃ N, x.lvs.length = N := ⟨_, rfl⟩
  obtain ⟨d, hd⟩ : ∃ d, x.ldr.length = d := ⟨_, rfl⟩
  have HN := Lib.hid hn
  have HLN := Lib.hid hN
  have HDN := Lib.hid hd
  have HALL := Lib.hid (And.intro hA (And.intro hB hF))
  rw [hn] at hx1 zC zD zE zG hC hD hE hG ⊢
  rw [hN] at hx2 zE hE ⊢
  rw [hd] at hx3 zF zG hF hG ⊢
  clear hn hN hd hA hB
  go_enter Try.func56, Try.ntmps56
  go_wp2_with (first | (with_reducible refine wpl rfl (dQ 1 rfl ?_); with_reducible refine (Stp.box 1 rfl rfl rfl H ?_); clear H; intro g1 w1 H; simp only [pS]; simp only [pE, nC, pS] at H) | (with_reducible refine wpl rfl (ldQ (ty := 31) rfl ?_); first | (with_reducible refine (Stp.ldo rfl agg31 rfl H (by assumption) (by assumption) ?_); simp only [pS]) | (with_reducible refine (Stp.ldc rfl agg31 rfl H mR cE ?_); simp only [pS])) | (with_reducible refine wpl rfl (ldQ (ty := 26) rfl ?_); first | (with_reducible refine (Stp.ldo rfl agg26 rfl H (by assumption) (by assumption) ?_); simp only [pS]) | (with_reducible refine (Stp.ldc rfl agg26 rfl H mR cE ?_); simp only [pS])) | (with_reducible refine wpl rfl (ldQ (ty := 32) rfl ?_); first | (with_reducible refine (Stp.ldo rfl agg32 rfl H (by assumption) (by assumption) ?_); simp only [pS]) | (with_reducible refine (Stp.ldc rfl agg32 rfl H mR cE ?_); simp only [pS])))
  go_loopw [4] (fun i wr => ∃ k : Nat, k ≤ n ∧ i = .int .i64 (k : Int) ∧ Hid (∀ p ∈ x.mem.take k, may p.1 p.2 = true) ∧ Hid (((x.mem.take k).map (·.1)).Nodup) ∧ St w.heap.size w wr [row 34 g1 #[.int .u64 (x.id : Int), .slice ma n mc, .slice la N lc, .slice da d dc]]) (fun i _ => n - (intOf i).toNat)
  case atStart => exact ⟨0, Nat.zero_le _, rfl, Lib.hid (by simp), Lib.hid (by simp), H⟩
  case round =>
    clear H
    obtain ⟨k, hk, rfl, HA, HND, H⟩ := hrel
    by_cases hlt : k < n
    · have hl1 : k < x.mem.length := by rw [HN.out]; exact hlt
      obtain ⟨b1, o1, rfl, hb1⟩ := hx1.sl.addr (by omega)
      have hc1 := hx1.sl.cell hlt
      unfold elQ at hc1
      rw [getD_at hl1] at hc1
      have hs1 := List.take_succ_eq_append_getElem hl1
      have hmm := List.getElem_mem hl1
      obtain ⟨⟨p1, p2⟩, hp⟩ : ∃ p, x.mem[k] = p := ⟨_, rfl⟩
      rw [hp] at hc1 hs1 hmm
      have hcp := cell0 hc1
      have kli : (k : Int) < (n : Int) := by omega
      have HS1 := Lib.hid hs1
      have HMM := Lib.hid hmm
      clear hs1 hmm hp
      cases hmy : may p1 p2
      · have HY := Lib.hid hmy
        have HV : Hid (vOk x = false) := Lib.hid (vOk_mem (mem_may HMM.out hmy))
        clear hmy
        go_wp2_with (first | (go_at_call 24; (with_reducible refine (rmay_ok p1 p2 _).mono ?_); rintro e w1 ⟨v, rfl, hr⟩; obtain ⟨rfl, hb1⟩ := hr; replace H := H.grow hb1; clear hb1; rw [HY.out]) | (with_reducible refine wpl rfl (ldQ (ty := 31) rfl ?_); first | (with_reducible refine (Stp.ldo rfl agg31 rfl H (by assumption) (by assumption) ?_); simp only [pS]) | (with_reducible refine (Stp.ldc rfl agg31 rfl H mR cE ?_); simp only [pS])) | (with_reducible refine wpl rfl (ldQ (ty := 30) rfl ?_); first | (with_reducible refine (Stp.ldor rfl agg30 size30 rfl H (by assumption) sZ (by assumption) ?_); simp only [pS]) | (with_reducible refine (Stp.ldr rfl agg30 size30 rfl H mR sZ ?_); simp only [pS]) | (with_reducible refine (Stp.ldl rfl agg30 size30 rfl H mR (by simp) ?_); simp only [pS]; simp only [List.drop_succ_cons, List.drop_zero, List.take_succ_cons, List.take_zero])))
        go_ret
        exact ⟨_, rfl, by rw [HV.out]; rfl, H.below⟩

      · have HY := Lib.hid hmy
        clear hmy
        go_wp2_with (first | (go_at_call 24; (with_reducible refine (rmay_ok p1 p2 _).mono ?_); rintro e w1 ⟨v, rfl, hr⟩; obtain ⟨rfl, hb1⟩ := hr; replace H := H.grow hb1; clear hb1; rw [HY.out]) | (with_reducible refine wpl rfl (ldQ (ty := 31) rfl ?_); first | (with_reducible refine (Stp.ldo rfl agg31 rfl H (by assumption) (by assumption) ?_); simp only [pS]) | (with_reducible refine (Stp.ldc rfl agg31 rfl H mR cE ?_); simp only [pS])) | (with_reducible refine wpl rfl (ldQ (ty := 30) rfl ?_); first | (with_reducible refine (Stp.ldor rfl agg30 size30 rfl H (by assumption) sZ (by assumption) ?_); simp only [pS]) | (with_reducible refine (Stp.ldr rfl agg30 size30 rfl H mR sZ ?_); simp only [pS]) | (with_reducible refine (Stp.ldl rfl agg30 size30 rfl H mR (by simp) ?_); simp only [pS]; simp only [List.drop_succ_cons, List.drop_zero, List.take_succ_cons, List.take_zero])))
        go_loopw [5] (fun i wr => ∃ j : Nat, j ≤ k ∧ i = .int .i64 (j : Int) ∧ Hid (p1 ∉ (x.mem.take j).map (·.1)) ∧ St w.heap.size w wr [row 34 g1 #[.int .u64 (x.id : Int), .slice (some ⟨b1, o1, none⟩) n mc, .slice la N lc, .slice da d dc]]) (fun i _ => k - (intOf i).toNat)
        case atStart => exact ⟨0, Nat.zero_le _, rfl, Lib.hid (by simp), H⟩
        case round =>
          clear H
          obtain ⟨j, hj, rfl, HJ, H⟩ := hrel
          by_cases hjk : j < k
          · have hjn : j < n := by omega
            have hl2 : j < x.mem.length := by rw [HN.out]; exact hjn
            have hc2 := hx1.sl.cell hjn
            unfold elQ at hc2
            rw [getD_at hl2] at hc2
            have hs2 := List.take_succ_eq_append_getElem hl2
            have hmk : x.mem[j] ∈ x.mem.take k := List.mem_iff_getElem.2 ⟨j, by rw [List.length_take]; omega, by rw [List.getElem_take]⟩
            obtain ⟨⟨q1, q2⟩, hq⟩ : ∃ q, x.mem[j] = q := ⟨_, rfl⟩
            rw [hq] at hc2 hs2 hmk
            have hcq := cell0 hc2
            have HMK := Lib.hid hmk
            have HS2 := Lib.hid hs2
            have jki : (j : Int) < (k : Int) := by omega
            clear hs2 hmk hq hc1 hc2
            by_cases heq : q1 = p1
            · have heqi : ((q1 : Int) == (p1 : Int)) = true := by simp [heq]
              have HV : Hid (vOk x = false) := Lib.hid (vOk_mem (mem_dup HS1.out (List.mem_map.2 ⟨_, HMK.out, heq⟩)))
              clear heq
              go_wp2_with fail
              refine rg_begin 13 rfl (S := fun W => St _ _ W [row 34 g1 #[.int .u64 (x.id : Int), .slice (some ⟨b1, o1, none⟩) n mc, .slice la N lc, .slice da d dc]]) (by kernel_rfl) (H.drew.sub sU) ?_
              replace H := H.drew
              have HS := H
              refine rg_take (i := 0) rfl kR kR kR (Yld.o rfl) (H.sub sU) ?_; simp only [pS]
              first | (refine rg_take (i := 1) rfl kR kR kR (Yld.ldo rfl rfl agg31 rfl (by assumption) (by assumption)) (H.sub sU) ?_; simp only [pS]) | (refine rg_take (i := 1) rfl kR kR kR (Yld.ldc rfl rfl agg31 rfl mR cE) (H.sub sU) ?_; simp only [pS])
              refine rg_take (i := 2) rfl kR kR kR (Yld.move rfl rfl) (H.sub sU) ?_; simp only [pS, pE]
              refine rg_take (i := 3) rfl kR kR kR (Yld.o rfl) (H.sub sU) ?_; simp only [pS]
              refine rg_take (i := 4) rfl kR kR kR (Yld.o rfl) (H.sub sU) ?_; simp only [pS]
              first | (refine rg_take (i := 5) rfl kR kR kR (Yld.ldo rfl rfl agg27 rfl (by assumption) (by assumption)) (H.sub sU) ?_; simp only [pS]) | (refine rg_take (i := 5) rfl kR kR kR (Yld.ldc rfl rfl agg27 rfl mR cE) (H.sub sU) ?_; simp only [pS])
              refine rg_take (i := 6) rfl kR kR kR (Yld.o rfl) (H.sub sU) ?_; simp only [pS]
              first | (refine rg_take (i := 7) rfl kR kR kR (Yld.ldo rfl rfl agg31 rfl (by assumption) (by assumption)) (H.sub sU) ?_; simp only [pS]) | (refine rg_take (i := 7) rfl kR kR kR (Yld.ldc rfl rfl agg31 rfl mR cE) (H.sub sU) ?_; simp only [pS])
              refine rg_take (i := 8) rfl kR kR kR (Yld.move rfl rfl) (H.sub sU) ?_; simp only [pS, pE]
              refine rg_take (i := 9) rfl kR kR kR (Yld.o rfl) (H.sub sU) ?_; simp only [pS]
              refine rg_take (i := 10) rfl kR kR kR (Yld.o rfl) (H.sub sU) ?_; simp only [pS]
              first | (refine rg_take (i := 11) rfl kR kR kR (Yld.ldo rfl rfl agg27 rfl (by assumption) (by assumption)) (H.sub sU) ?_; simp only [pS]) | (refine rg_take (i := 11) rfl kR kR kR (Yld.ldc rfl rfl agg27 rfl mR cE) (H.sub sU) ?_; simp only [pS])
              refine rg_take (i := 12) rfl kR kR kR (Yld.o rfl) (H.sub sU) ?_; simp only [pS]
              refine rg_done (by kernel_rfl) ?_
              go_wp2_with fail
              go_ret
              exact ⟨_, rfl, by rw [HV.out]; rfl, H.below⟩

            · have heqi : ((q1 : Int) == (p1 : Int)) = false := by simp; omega
              have HNE := Lib.hid heq
              clear heq
              go_wp2_with fail
              refine rg_begin 13 rfl (S := fun W => St _ _ W [row 34 g1 #[.int .u64 (x.id : Int), .slice (some ⟨b1, o1, none⟩) n mc, .slice la N lc, .slice da d dc]]) (by kernel_rfl) (H.drew.sub sU) ?_
              replace H := H.drew
              have HS := H
              refine rg_take (i := 0) rfl kR kR kR (Yld.o rfl) (H.sub sU) ?_; simp only [pS]
              first | (refine rg_take (i := 1) rfl kR kR kR (Yld.ldo rfl rfl agg31 rfl (by assumption) (by assumption)) (H.sub sU) ?_; simp only [pS]) | (refine rg_take (i := 1) rfl kR kR kR (Yld.ldc rfl rfl agg31 rfl mR cE) (H.sub sU) ?_; simp only [pS])
              refine rg_take (i := 2) rfl kR kR kR (Yld.move rfl rfl) (H.sub sU) ?_; simp only [pS, pE]
              refine rg_take (i := 3) rfl kR kR kR (Yld.o rfl) (H.sub sU) ?_; simp only [pS]
              refine rg_take (i := 4) rfl kR kR kR (Yld.o rfl) (H.sub sU) ?_; simp only [pS]
              first | (refine rg_take (i := 5) rfl kR kR kR (Yld.ldo rfl rfl agg27 rfl (by assumption) (by assumption)) (H.sub sU) ?_; simp only [pS]) | (refine rg_take (i := 5) rfl kR kR kR (Yld.ldc rfl rfl agg27 rfl mR cE) (H.sub sU) ?_; simp only [pS])
              refine rg_take (i := 6) rfl kR kR kR (Yld.o rfl) (H.sub sU) ?_; simp only [pS]
              first | (refine rg_take (i := 7) rfl kR kR kR (Yld.ldo rfl rfl agg31 rfl (by assumption) (by assumption)) (H.sub sU) ?_; simp only [pS]) | (refine rg_take (i := 7) rfl kR kR kR (Yld.ldc rfl rfl agg31 rfl mR cE) (H.sub sU) ?_; simp only [pS])
              refine rg_take (i := 8) rfl kR kR kR (Yld.move rfl rfl) (H.sub sU) ?_; simp only [pS, pE]
              refine rg_take (i := 9) rfl kR kR kR (Yld.o rfl) (H.sub sU) ?_; simp only [pS]
              refine rg_take (i := 10) rfl kR kR kR (Yld.o rfl) (H.sub sU) ?_; simp only [pS]
              first | (refine rg_take (i := 11) rfl kR kR kR (Yld.ldo rfl rfl agg27 rfl (by assumption) (by assumption)) (H.sub sU) ?_; simp only [pS]) | (refine rg_take (i := 11) rfl kR kR kR (Yld.ldc rfl rfl agg27 rfl mR cE) (H.sub sU) ?_; simp only [pS])
              refine rg_take (i := 12) rfl kR kR kR (Yld.o rfl) (H.sub sU) ?_; simp only [pS]
              refine rg_done (by kernel_rfl) ?_
              go_wp2_with fail
              go_roundw
              case rel => exact ⟨j + 1, by omega, by go_num, Lib.hid (by rw [HS2.out, List.map_append, List.mem_append]; rintro (h | h); · exact HJ.out h
                                                                         · exact HNE.out (by have h' := h; simp at h'; exact h'.symm)), H⟩
              case measure => simp [intOf]; omega
          · obtain rfl : j = k := by omega
            go_wp2_with fail
            go_roundw
            case rel =>
              refine ⟨j + 1, by omega, by go_num, Lib.hid (fun q hq => ?_), Lib.hid ?_, H⟩
              · rw [HS1.out] at hq
                rcases List.mem_append.1 hq with h | h
                · exact HA.out q h
                · rw [List.mem_singleton] at h; subst h; exact HY.out
              · rw [HS1.out, List.map_append, List.nodup_append]
                refine ⟨HND.out, by simp, fun a ha b hb e => ?_⟩
                simp only [List.map_cons, List.map_nil, List.mem_singleton] at hb
                subst hb; subst e
                exact HJ.out ha
            case measure => simp [intOf]; omega
    · obtain rfl : k = n := by omega
      have hmo : memOk x.mem = true := by
        have h1 := HA.out
        have h2 := HND.out
        rw [List.take_of_length_le (by rw [HN.out]; omega)] at h1 h2
        rw [mem_end h1 h2, decide_eq_true (by rw [HN.out]; omega), decide_eq_true (by rw [HN.out]; omega)]
        rfl
      have HMO := Lib.hid hmo
      clear HA HND hmo hlt
      go_wp2_with fail
      go_loopw [6] (fun i wr => ∃ i0 : Nat, i0 ≤ k ∧ i = .int .i64 (i0 : Int) ∧ Hid (∀ p ∈ x.mem.take i0, x.lvs.flatten.count p = 1) ∧ St w.heap.size w wr [row 34 g1 #[.int .u64 (x.id : Int), .slice ma k mc, .slice la N lc, .slice da d dc]]) (fun i _ => k - (intOf i).toNat)
      case atStart => exact ⟨0, Nat.zero_le _, rfl, Lib.hid (by simp), H⟩
      case round =>
        clear H
        obtain ⟨i0, hi0, rfl, HC, H⟩ := hrel
        by_cases hlt : i0 < k
        · have hl1 : i0 < x.mem.length := by rw [HN.out]; exact hlt
          obtain ⟨b1, o1, rfl, hb1⟩ := hx1.sl.addr (by omega)
          have hc1 := hx1.sl.cell hlt
          unfold elQ at hc1
          rw [getD_at hl1] at hc1
          have hs1 := List.take_succ_eq_append_getElem hl1
          have hmm := List.getElem_mem hl1
          obtain ⟨⟨p1, p2⟩, hp⟩ : ∃ p, x.mem[i0] = p := ⟨_, rfl⟩
          rw [hp] at hc1 hs1 hmm
          have kli : (i0 : Int) < (k : Int) := by omega
          have HS1 := Lib.hid hs1
          have HMM := Lib.hid hmm
          clear hs1 hmm hp
          go_wp2_with fail
          go_loopw [7, 8] (fun c q wr => ∃ kq m : Nat, kq ≤ N ∧ q = .int .i64 (kq : Int) ∧ c = .int .i64 (m : Int) ∧ m ≤ 1000 * kq ∧ Hid ((x.lvs.take kq).flatten.count (p1, p2) = m) ∧ St w.heap.size w wr [row 34 g1 #[.int .u64 (x.id : Int), .slice (some ⟨b1, o1, none⟩) k mc, .slice la N lc, .slice da d dc]]) (fun _ q _ => N - (intOf q).toNat)
          case atStart => exact ⟨0, 0, Nat.zero_le _, rfl, rfl, Nat.le_refl _, Lib.hid (by simp), H⟩
          case round =>
            clear H
            obtain ⟨kq, m, hkq, rfl, rfl, hmq, HK, H⟩ := hrel
            by_cases hqt : kq < N
            · have hl0 : kq < x.lvs.length := by rw [HLN.out]; exact hqt
              obtain ⟨b0, o0, ak, ck, rfl, hb0, hh0, hs0⟩ := hx2.at HLN.out hl0
              have hml := List.getElem_mem hl0
              have hsl := List.take_succ_eq_append_getElem hl0
              obtain ⟨l, hle⟩ : ∃ l, x.lvs[kq] = l := ⟨_, rfl⟩
              rw [hle] at hh0 hs0 hml hsl
              clear hle
              have hlb := HB3.out l hml
              have qli : (kq : Int) < (N : Int) := by omega
              have HSL := Lib.hid hsl
              clear hsl hml hl0
              go_wp2_with (first | (with_reducible refine wpl rfl (ldQ (ty := 32) rfl ?_); first | (with_reducible refine (Stp.ldo rfl agg32 rfl H (by assumption) (by assumption) ?_); simp only [pS]) | (with_reducible refine (Stp.ldc rfl agg32 rfl H mR cE ?_); simp only [pS])))
              go_loopw [7, 9] (fun c j wr => ∃ jj m : Nat, jj ≤ l.length ∧ j = .int .i64 (jj : Int) ∧ c = .int .i64 (m : Int) ∧ m ≤ 1000 * kq + jj ∧ Hid (((x.lvs.take kq).flatten ++ l.take jj).count (p1, p2) = m) ∧ St w.heap.size w wr [row 34 g1 #[.int .u64 (x.id : Int), .slice (some ⟨b1, o1, none⟩) k mc, .slice (some ⟨b0, o0, none⟩) N lc, .slice da d dc]]) (fun _ j _ => l.length - (intOf j).toNat)
              case atStart => exact ⟨0, m, Nat.zero_le _, rfl, rfl, by omega, Lib.hid (by simpa using HK.out), H⟩
              case round =>
                clear H
                obtain ⟨jj, m', hjj, rfl, rfl, hmj, HJ, H⟩ := hrel
                by_cases hjt : jj < l.length
                · obtain ⟨b2, o2, rfl, hb2⟩ := hs0.sl.addr (by omega)
                  have hc2 := hs0.sl.cell hjt
                  unfold elQ at hc2
                  rw [getD_at hjt] at hc2
                  have hs2 := List.take_succ_eq_append_getElem hjt
                  obtain ⟨⟨q1, q2⟩, hq⟩ : ∃ q, l[jj] = q := ⟨_, rfl⟩
                  rw [hq] at hc2 hs2
                  have HS2 := Lib.hid hs2
                  have jli : (jj : Int) < (l.length : Int) := by omega
                  have m24 : m' ≤ 100000 := by omega
                  clear hs2 hq
                  by_cases heq : (q1, q2) = (p1, p2)
                  · injection heq with e1 e2
                    subst e1 e2
                    have hE := eqPD_yes q1 q2
                    go_wp2_with (first | (with_reducible refine wpl rfl (ldQ (ty := 31) rfl ?_); first | (with_reducible refine (Stp.ldo rfl agg31 rfl H (by assumption) (by assumption) ?_); simp only [pS]) | (with_reducible refine (Stp.ldc rfl agg31 rfl H mR cE ?_); simp only [pS])) | (with_reducible refine wpl rfl (ldQ (ty := 32) rfl ?_); first | (with_reducible refine (Stp.ldo rfl agg32 rfl H (by assumption) (by assumption) ?_); simp only [pS]) | (with_reducible refine (Stp.ldc rfl agg32 rfl H mR cE ?_); simp only [pS])))
                    refine rg_begin 14 rfl (S := fun W => St _ _ W [row 34 g1 #[.int .u64 (x.id : Int), .slice (some ⟨b1, o1, none⟩) k mc, .slice (some ⟨b0, o0, none⟩) N lc, .slice da d dc]]) (by kernel_rfl) (H.drew.sub sU) ?_
                    replace H := H.drew
                    have HS := H
                    refine rg_take (i := 0) rfl kR kR kR (Yld.o rfl) (H.sub sU) ?_; simp only [pS]
                    first | (refine rg_take (i := 1) rfl kR kR kR (Yld.ldo rfl rfl agg32 rfl (by assumption) (by assumption)) (H.sub sU) ?_; simp only [pS]) | (refine rg_take (i := 1) rfl kR kR kR (Yld.ldc rfl rfl agg32 rfl mR cE) (H.sub sU) ?_; simp only [pS])
                    refine rg_take (i := 2) rfl kR kR kR (Yld.move rfl rfl) (H.sub sU) ?_; simp only [pS, pE]
                    refine rg_take (i := 3) rfl kR kR kR (Yld.o rfl) (H.sub sU) ?_; simp only [pS]
                    first | (refine rg_take (i := 4) rfl kR kR kR (Yld.ldo rfl rfl agg31 rfl (by assumption) (by assumption)) (H.sub sU) ?_; simp only [pS]) | (refine rg_take (i := 4) rfl kR kR kR (Yld.ldc rfl rfl agg31 rfl mR cE) (H.sub sU) ?_; simp only [pS])
                    refine rg_take (i := 5) rfl kR kR kR (Yld.move rfl rfl) (H.sub sU) ?_; simp only [pS, pE]
                    refine rg_take (i := 6) rfl kR kR kR (Yld.o rfl) (H.sub sU) ?_; simp only [pS]
                    first | (refine rg_take (i := 7) rfl kR kR kR (Yld.ldor rfl rfl agg30 size30 rfl (by assumption) sZ (by assumption)) (H.sub sU) ?_; simp only [pS]) | (refine rg_take (i := 7) rfl kR kR kR (Yld.ldr rfl rfl agg30 size30 rfl mR sZ) (H.sub sU) ?_; simp only [pS]) | (refine rg_take (i := 7) rfl kR kR kR (Yld.ldl rfl rfl agg30 size30 rfl mR (by simp)) (H.sub sU) ?_; simp only [pS]; simp only [List.drop_succ_cons, List.drop_zero, List.take_succ_cons, List.take_zero])
                    refine rg_take (i := 8) rfl kR kR kR (Yld.o rfl) (H.sub sU) ?_; simp only [pS]
                    first | (refine rg_take (i := 9) rfl kR kR kR (Yld.ldo rfl rfl agg31 rfl (by assumption) (by assumption)) (H.sub sU) ?_; simp only [pS]) | (refine rg_take (i := 9) rfl kR kR kR (Yld.ldc rfl rfl agg31 rfl mR cE) (H.sub sU) ?_; simp only [pS])
                    refine rg_take (i := 10) rfl kR kR kR (Yld.move rfl rfl) (H.sub sU) ?_; simp only [pS, pE]
                    refine rg_take (i := 11) rfl kR kR kR (Yld.o rfl) (H.sub sU) ?_; simp only [pS]
                    first | (refine rg_take (i := 12) rfl kR kR kR (Yld.ldor rfl rfl agg30 size30 rfl (by assumption) sZ (by assumption)) (H.sub sU) ?_; simp only [pS]) | (refine rg_take (i := 12) rfl kR kR kR (Yld.ldr rfl rfl agg30 size30 rfl mR sZ) (H.sub sU) ?_; simp only [pS]) | (refine rg_take (i := 12) rfl kR kR kR (Yld.ldl rfl rfl agg30 size30 rfl mR (by simp)) (H.sub sU) ?_; simp only [pS]; simp only [List.drop_succ_cons, List.drop_zero, List.take_succ_cons, List.take_zero])
                    refine rg_take (i := 13) rfl kR kR kR (Yld.o rfl) (H.sub sU) ?_; simp only [pS]
                    refine rg_done (by kernel_rfl) ?_
                    go_wp2_with fail
                    go_roundw
                    case rel => exact ⟨jj + 1, m' + 1, by omega, by go_num, by go_num, by omega, Lib.hid (by rw [HS2.out, ← List.append_assoc, List.count_append, HJ.out]; simp), H⟩
                    case measure => simp [intOf]; omega
                  · have hE := eqPD_no q1 q2 p1 p2 heq
                    have HNE := Lib.hid heq
                    clear heq
                    go_wp2_with (first | (with_reducible refine wpl rfl (ldQ (ty := 31) rfl ?_); first | (with_reducible refine (Stp.ldo rfl agg31 rfl H (by assumption) (by assumption) ?_); simp only [pS]) | (with_reducible refine (Stp.ldc rfl agg31 rfl H mR cE ?_); simp only [pS])) | (with_reducible refine wpl rfl (ldQ (ty := 32) rfl ?_); first | (with_reducible refine (Stp.ldo rfl agg32 rfl H (by assumption) (by assumption) ?_); simp only [pS]) | (with_reducible refine (Stp.ldc rfl agg32 rfl H mR cE ?_); simp only [pS])))
                    refine rg_begin 14 rfl (S := fun W => St _ _ W [row 34 g1 #[.int .u64 (x.id : Int), .slice (some ⟨b1, o1, none⟩) k mc, .slice (some ⟨b0, o0, none⟩) N lc, .slice da d dc]]) (by kernel_rfl) (H.drew.sub sU) ?_
                    replace H := H.drew
                    have HS := H
                    refine rg_take (i := 0) rfl kR kR kR (Yld.o rfl) (H.sub sU) ?_; simp only [pS]
                    first | (refine rg_take (i := 1) rfl kR kR kR (Yld.ldo rfl rfl agg32 rfl (by assumption) (by assumption)) (H.sub sU) ?_; simp only [pS]) | (refine rg_take (i := 1) rfl kR kR kR (Yld.ldc rfl rfl agg32 rfl mR cE) (H.sub sU) ?_; simp only [pS])
                    refine rg_take (i := 2) rfl kR kR kR (Yld.move rfl rfl) (H.sub sU) ?_; simp only [pS, pE]
                    refine rg_take (i := 3) rfl kR kR kR (Yld.o rfl) (H.sub sU) ?_; simp only [pS]
                    first | (refine rg_take (i := 4) rfl kR kR kR (Yld.ldo rfl rfl agg31 rfl (by assumption) (by assumption)) (H.sub sU) ?_; simp only [pS]) | (refine rg_take (i := 4) rfl kR kR kR (Yld.ldc rfl rfl agg31 rfl mR cE) (H.sub sU) ?_; simp only [pS])
                    refine rg_take (i := 5) rfl kR kR kR (Yld.move rfl rfl) (H.sub sU) ?_; simp only [pS, pE]
                    refine rg_take (i := 6) rfl kR kR kR (Yld.o rfl) (H.sub sU) ?_; simp only [pS]
                    first | (refine rg_take (i := 7) rfl kR kR kR (Yld.ldor rfl rfl agg30 size30 rfl (by assumption) sZ (by assumption)) (H.sub sU) ?_; simp only [pS]) | (refine rg_take (i := 7) rfl kR kR kR (Yld.ldr rfl rfl agg30 size30 rfl mR sZ) (H.sub sU) ?_; simp only [pS]) | (refine rg_take (i := 7) rfl kR kR kR (Yld.ldl rfl rfl agg30 size30 rfl mR (by simp)) (H.sub sU) ?_; simp only [pS]; simp only [List.drop_succ_cons, List.drop_zero, List.take_succ_cons, List.take_zero])
                    refine rg_take (i := 8) rfl kR kR kR (Yld.o rfl) (H.sub sU) ?_; simp only [pS]
                    first | (refine rg_take (i := 9) rfl kR kR kR (Yld.ldo rfl rfl agg31 rfl (by assumption) (by assumption)) (H.sub sU) ?_; simp only [pS]) | (refine rg_take (i := 9) rfl kR kR kR (Yld.ldc rfl rfl agg31 rfl mR cE) (H.sub sU) ?_; simp only [pS])
                    refine rg_take (i := 10) rfl kR kR kR (Yld.move rfl rfl) (H.sub sU) ?_; simp only [pS, pE]
                    refine rg_take (i := 11) rfl kR kR kR (Yld.o rfl) (H.sub sU) ?_; simp only [pS]
                    first | (refine rg_take (i := 12) rfl kR kR kR (Yld.ldor rfl rfl agg30 size30 rfl (by assumption) sZ (by assumption)) (H.sub sU) ?_; simp only [pS]) | (refine rg_take (i := 12) rfl kR kR kR (Yld.ldr rfl rfl agg30 size30 rfl mR sZ) (H.sub sU) ?_; simp only [pS]) | (refine rg_take (i := 12) rfl kR kR kR (Yld.ldl rfl rfl agg30 size30 rfl mR (by simp)) (H.sub sU) ?_; simp only [pS]; simp only [List.drop_succ_cons, List.drop_zero, List.take_succ_cons, List.take_zero])
                    refine rg_take (i := 13) rfl kR kR kR (Yld.o rfl) (H.sub sU) ?_; simp only [pS]
                    refine rg_done (by kernel_rfl) ?_
                    go_wp2_with fail
                    go_roundw
                    case rel => exact ⟨jj + 1, m', by omega, by go_num, rfl, by omega, Lib.hid (by rw [HS2.out, ← List.append_assoc, List.count_append, HJ.out, List.count_singleton]; simp [HNE.out]), H⟩
                    case measure => simp [intOf]; omega
                · obtain rfl : jj = l.length := by omega
                  have hJ := HJ.out
                  rw [List.take_length] at hJ
                  have HJ' : Hid ((x.lvs.take (kq + 1)).flatten.count (p1, p2) = m') := Lib.hid (by rw [flat_snoc HSL.out]; exact hJ)
                  clear hJ HJ
                  go_wp2_with (first | (with_reducible refine wpl rfl (ldQ (ty := 31) rfl ?_); first | (with_reducible refine (Stp.ldo rfl agg31 rfl H (by assumption) (by assumption) ?_); simp only [pS]) | (with_reducible refine (Stp.ldc rfl agg31 rfl H mR cE ?_); simp only [pS])) | (with_reducible refine wpl rfl (ldQ (ty := 32) rfl ?_); first | (with_reducible refine (Stp.ldo rfl agg32 rfl H (by assumption) (by assumption) ?_); simp only [pS]) | (with_reducible refine (Stp.ldc rfl agg32 rfl H mR cE ?_); simp only [pS])))
                  go_roundw
                  case rel => exact ⟨kq + 1, m', by omega, by go_num, rfl, by omega, HJ', H⟩
                  case measure => simp [intOf]; omega
            · obtain rfl : kq = N := by omega
              have hK := HK.out
              rw [List.take_of_length_le (by rw [HLN.out]; omega)] at hK
              have HK' := Lib.hid hK
              clear HK hK
              by_cases hm1 : m = 1
              · have hmi : ((m : Int) != 1) = false := by simp; omega
                have HM1 := Lib.hid hm1
                clear hm1
                go_wp2_with (first | (with_reducible refine wpl rfl (ldQ (ty := 32) rfl ?_); first | (with_reducible refine (Stp.ldo rfl agg32 rfl H (by assumption) (by assumption) ?_); simp only [pS]) | (with_reducible refine (Stp.ldc rfl agg32 rfl H mR cE ?_); simp only [pS])))
                go_roundw
                case rel =>
                  refine ⟨i0 + 1, by omega, by go_num, Lib.hid (fun q hq => ?_), H⟩
                  rw [HS1.out] at hq
                  rcases List.mem_append.1 hq with h | h
                  · exact HC.out q h
                  · rw [List.mem_singleton] at h; subst h; rw [HK'.out, HM1.out]
                case measure => simp [intOf]; omega
              · have hmi : ((m : Int) != 1) = true := by simp; omega
                have HV : Hid (vOk x = false) := Lib.hid (vOk_cnt HMM.out (by rw [HK'.out]; exact hm1))
                clear hm1
                go_wp2_with (first | (with_reducible refine wpl rfl (ldQ (ty := 32) rfl ?_); first | (with_reducible refine (Stp.ldo rfl agg32 rfl H (by assumption) (by assumption) ?_); simp only [pS]) | (with_reducible refine (Stp.ldc rfl agg32 rfl H mR cE ?_); simp only [pS])))
                go_ret
                exact ⟨_, rfl, by rw [HV.out]; rfl, H.below⟩

        · obtain rfl : i0 = k := by omega
          have hC := HC.out
          rw [List.take_of_length_le (by rw [HN.out]; omega)] at hC
          have HC' := Lib.hid hC
          clear hC HC hlt
          go_wp2_with fail
          replace H := H.nil 30 2
          go_loopw [10, 11] (fun t i wr => ∃ (k : Nat) (ao : Option Addr) (co : Nat) (f : List Pr), k ≤ N ∧ i = .int .i64 (k : Int) ∧ t = .slice ao k co ∧ Hid (firsts (x.lvs.take k) = f) ∧ Hid (f.length = k) ∧ Hid (lvOk x.mem (x.lvs.take k) = true) ∧ St w.heap.size w wr [slc 30 2 (.slice ao k co) k (pv f), row 34 g1 #[.int .u64 (x.id : Int), .slice ma i0 mc, .slice la N lc, .slice da d dc]]) (fun _ i _ => N - (intOf i).toNat)
          case atStart => exact ⟨0, none, 0, [], Nat.zero_le _, rfl, rfl, Lib.hid (by unfold firsts; rfl), Lib.hid rfl, Lib.hid (by unfold lvOk; rfl), H⟩
          case round =>
            clear H
            obtain ⟨k, ao, co, f, hk, rfl, rfl, HFI, HQ, HO, H⟩ := hrel
            by_cases hlt : k < N
            · have hl0 : k < x.lvs.length := by rw [HLN.out]; exact hlt
              obtain ⟨b0, o0, ak, ck, rfl, hb0, hh0, hs0⟩ := hx2.at HLN.out hl0
              have hml := List.getElem_mem hl0
              have hsl := List.take_succ_eq_append_getElem hl0
              obtain ⟨l, hle⟩ : ∃ l, x.lvs[k] = l := ⟨_, rfl⟩
              rw [hle] at hh0 hs0 hml hsl
              clear hle
              have kli : (k : Int) < (N : Int) := by omega
              have HSL := Lib.hid hsl
              have HML := Lib.hid hml
              clear hsl hml hl0
              by_cases h0 : l.length = 0
              · have hE : l = [] := List.eq_nil_of_length_eq_zero h0
                have HV : Hid (vOk x = false) := Lib.hid (vOk_lv (lvOk_bad HML.out (by rw [hE]; rfl)))
                have h0i : ((l.length : Int) == 0) = true := beq_iff_eq.2 (by omega)
                clear h0 hE
                go_wp2_with (first | (with_reducible refine wpl rfl (ldQ (ty := 32) rfl ?_); first | (with_reducible refine (Stp.ldo rfl agg32 rfl H (by assumption) (by assumption) ?_); simp only [pS]) | (with_reducible refine (Stp.ldc rfl agg32 rfl H mR cE ?_); simp only [pS])))
                refine rg_begin 18 rfl (S := fun W => St _ _ W [slc 30 2 (.slice ao k co) k (pv f), row 34 g1 #[.int .u64 (x.id : Int), .slice ma i0 mc, .slice (some ⟨b0, o0, none⟩) N lc, .slice da d dc]]) (by kernel_rfl) (H.drew.sub sU) ?_
                replace H := H.drew
                have HS := H
                refine rg_take (i := 0) rfl kR kR kR (Yld.o rfl) (H.sub sU) ?_; simp only [pS]
                first | (refine rg_take (i := 1) rfl kR kR kR (Yld.ldo rfl rfl agg32 rfl (by assumption) (by assumption)) (H.sub sU) ?_; simp only [pS]) | (refine rg_take (i := 1) rfl kR kR kR (Yld.ldc rfl rfl agg32 rfl mR cE) (H.sub sU) ?_; simp only [pS])
                refine rg_take (i := 2) rfl kR kR kR (Yld.move rfl rfl) (H.sub sU) ?_; simp only [pS, pE]
                refine rg_take (i := 3) rfl kR kR kR (Yld.o rfl) (H.sub sU) ?_; simp only [pS]
                first | (refine rg_take (i := 4) rfl kR kR kR (Yld.ldo rfl rfl agg31 rfl (by assumption) (by assumption)) (H.sub sU) ?_; simp only [pS]) | (refine rg_take (i := 4) rfl kR kR kR (Yld.ldc rfl rfl agg31 rfl mR cE) (H.sub sU) ?_; simp only [pS])
                refine rg_take (i := 5) rfl kR kR kR (Yld.o rfl) (H.sub sU) ?_; simp only [pS]
                refine rg_take (i := 6) rfl kR kR kR (Yld.o rfl) (H.sub sU) ?_; simp only [pS]
                refine rg_take (i := 7) rfl kR kR kR (Yld.move rfl rfl) (H.sub sU) ?_; simp only [pS, pE]
                refine rg_take (i := 8) rfl kR kR kR (Yld.skip rfl) (H.sub sU) ?_; simp only [pS]
                refine rg_take (i := 9) rfl kR kR kR (Yld.skip rfl) (H.sub sU) ?_; simp only [pS]
                refine rg_take (i := 10) rfl kR kR kR (Yld.skip rfl) (H.sub sU) ?_; simp only [pS]
                refine rg_take (i := 11) rfl kR kR kR (Yld.skip rfl) (H.sub sU) ?_; simp only [pS]
                refine rg_take (i := 12) rfl kR kR kR (Yld.skip rfl) (H.sub sU) ?_; simp only [pS]
                refine rg_take (i := 13) rfl kR kR kR (Yld.skip rfl) (H.sub sU) ?_; simp only [pS]
                refine rg_take (i := 14) rfl kR kR kR (Yld.skip rfl) (H.sub sU) ?_; simp only [pS]
                refine rg_take (i := 15) rfl kR kR kR (Yld.skip rfl) (H.sub sU) ?_; simp only [pS]
                refine rg_take (i := 16) rfl kR kR kR (Yld.skip rfl) (H.sub sU) ?_; simp only [pS]
                refine rg_take (i := 17) rfl kR kR kR (Yld.pick rfl rfl rfl) (H.sub sU) ?_; simp only [pS, pE]
                refine rg_done (by kernel_rfl) ?_
                go_wp2_with fail
                go_ret
                exact ⟨_, rfl, by rw [HV.out]; rfl, H.below⟩

              · have h0i : ((l.length : Int) == 0) = false := beq_eq_false_iff_ne.2 (by omega)
                cases hri : risB x.mem l
                · have HRI := Lib.hid hri
                  have HV : Hid (vOk x = false) := Lib.hid (vOk_lv (lvOk_bad HML.out (by rw [hri, Bool.and_false])))
                  clear hri h0
                  go_wp2_with (first | (with_reducible refine wpl rfl (ldQ (ty := 32) rfl ?_); first | (with_reducible refine (Stp.ldo rfl agg32 rfl H (by assumption) (by assumption) ?_); simp only [pS]) | (with_reducible refine (Stp.ldc rfl agg32 rfl H mR cE ?_); simp only [pS])))
                  refine rg_begin 18 rfl (S := fun W => St _ _ W [slc 30 2 (.slice ao k co) k (pv f), row 34 g1 #[.int .u64 (x.id : Int), .slice ma i0 mc, .slice (some ⟨b0, o0, none⟩) N lc, .slice da d dc]]) (by kernel_rfl) (H.drew.sub sU) ?_
                  replace H := H.drew
                  have HS := H
                  refine rg_take (i := 0) rfl kR kR kR (Yld.o rfl) (H.sub sU) ?_; simp only [pS]
                  first | (refine rg_take (i := 1) rfl kR kR kR (Yld.ldo rfl rfl agg32 rfl (by assumption) (by assumption)) (H.sub sU) ?_; simp only [pS]) | (refine rg_take (i := 1) rfl kR kR kR (Yld.ldc rfl rfl agg32 rfl mR cE) (H.sub sU) ?_; simp only [pS])
                  refine rg_take (i := 2) rfl kR kR kR (Yld.move rfl rfl) (H.sub sU) ?_; simp only [pS, pE]
                  refine rg_take (i := 3) rfl kR kR kR (Yld.o rfl) (H.sub sU) ?_; simp only [pS]
                  first | (refine rg_take (i := 4) rfl kR kR kR (Yld.ldo rfl rfl agg31 rfl (by assumption) (by assumption)) (H.sub sU) ?_; simp only [pS]) | (refine rg_take (i := 4) rfl kR kR kR (Yld.ldc rfl rfl agg31 rfl mR cE) (H.sub sU) ?_; simp only [pS])
                  refine rg_take (i := 5) rfl kR kR kR (Yld.o rfl) (H.sub sU) ?_; simp only [pS]
                  refine rg_take (i := 6) rfl kR kR kR (Yld.o rfl) (H.sub sU) ?_; simp only [pS]
                  refine rg_take (i := 7) rfl kR kR kR (Yld.move rfl rfl) (H.sub sU) ?_; simp only [pS, pE]
                  refine rg_take (i := 8) rfl kR kR kR (Yld.o rfl) (H.sub sU) ?_; simp only [pS]
                  first | (refine rg_take (i := 9) rfl kR kR kR (Yld.ldo rfl rfl agg31 rfl (by assumption) (by assumption)) (H.sub sU) ?_; simp only [pS]) | (refine rg_take (i := 9) rfl kR kR kR (Yld.ldc rfl rfl agg31 rfl mR cE) (H.sub sU) ?_; simp only [pS])
                  refine rg_take (i := 10) rfl kR kR kR (Yld.o rfl) (H.sub sU) ?_; simp only [pS]
                  first | (refine rg_take (i := 11) rfl kR kR kR (Yld.ldo rfl rfl agg32 rfl (by assumption) (by assumption)) (H.sub sU) ?_; simp only [pS]) | (refine rg_take (i := 11) rfl kR kR kR (Yld.ldc rfl rfl agg32 rfl mR cE) (H.sub sU) ?_; simp only [pS])
                  refine rg_take (i := 12) rfl kR kR kR (Yld.move rfl rfl) (H.sub sU) ?_; simp only [pS, pE]
                  refine rg_take (i := 13) rfl kR kR kR (Yld.o rfl) (H.sub sU) ?_; simp only [pS]
                  first | (refine rg_take (i := 14) rfl kR kR kR (Yld.ldo rfl rfl agg31 rfl (by assumption) (by assumption)) (H.sub sU) ?_; simp only [pS]) | (refine rg_take (i := 14) rfl kR kR kR (Yld.ldc rfl rfl agg31 rfl mR cE) (H.sub sU) ?_; simp only [pS])
                  refine rg_one (i := 15) (by kernel_rfl) rfl rfl (fun K hK => ?_)
                  refine wp_callf rfl ent87 (rrising_is _ _ x.mem l _ _ HRI.out (sl_len HN.out (hx1.sl.grow H.below)) (hs0.sl.grow H.below)) rfl (fun v w1 hr => ?_)
                  obtain ⟨rfl, hb1⟩ := hr
                  replace H := H.grow hb1
                  clear hb1
                  clear HS
                  have HS := H
                  refine hK.out _ _ (H.sub sU) ?_
                  clear hK K
                  simp only [pS]
                  refine rg_take (i := 16) rfl kR kR kR (Yld.o rfl) (H.sub sU) ?_; simp only [pS]
                  refine rg_take (i := 17) rfl kR kR kR (Yld.pick rfl rfl rfl) (H.sub sU) ?_; simp only [pS, pE]
                  refine rg_done (by kernel_rfl) ?_
                  go_wp2_with fail
                  go_ret
                  exact ⟨_, rfl, by rw [HV.out]; rfl, H.below⟩

                · have HRI := Lib.hid hri
                  obtain ⟨b2, o2, rfl, hb2x⟩ := hs0.sl.addr (by omega)
                  have hb2 := hb2x
                  have hc0 := hs0.sl.cell (i := 0) (by omega)
                  have h0l : 0 < l.length := by omega
                  have hhd : l.headD (0, 0) = l[0] := by cases l with | nil => simp at h0l | cons p r => rfl
                  unfold elQ at hc0
                  rw [getD_at h0l] at hc0
                  obtain ⟨p, hp⟩ : ∃ p, l[0] = p := ⟨_, rfl⟩
                  rw [hp] at hc0 hhd
                  have hlo : lvOk x.mem (x.lvs.take (k + 1)) = true := by
                    rw [lvOk_snoc HSL.out HO.out, hri]
                    cases l with
                    | nil => simp at h0l
                    | cons _ _ => rfl
                  have HC0 : Hid (∀ j, j < 2 → w.cell? ⟨b2, o2 + j, none⟩ = #[.int .u16 (p.1 : Int), .int .u32 (p.2 : Int)][j]?) := Lib.hid (fun j hj => by have := hc0 j hj; rw [Nat.zero_mul, Nat.add_zero] at this; exact this)
                  have HLO := Lib.hid hlo
                  have HFS := Lib.hid (firsts_snoc HSL.out hhd)
                  have hli : (0 : Int) < (l.length : Int) := by omega
                  clear hc0 hri hhd hp hlo h0 h0l
                  go_wp2_with (first | (with_reducible refine wpl rfl (ldQ (ty := 32) rfl ?_); first | (with_reducible refine (Stp.ldo rfl agg32 rfl H (by assumption) (by assumption) ?_); simp only [pS]) | (with_reducible refine (Stp.ldc rfl agg32 rfl H mR cE ?_); simp only [pS])))
                  refine rg_begin 18 rfl (S := fun W => St _ _ W [slc 30 2 (.slice ao k co) k (pv f), row 34 g1 #[.int .u64 (x.id : Int), .slice ma i0 mc, .slice (some ⟨b0, o0, none⟩) N lc, .slice da d dc]]) (by kernel_rfl) (H.drew.sub sU) ?_
                  replace H := H.drew
                  have HS := H
                  refine rg_take (i := 0) rfl kR kR kR (Yld.o rfl) (H.sub sU) ?_; simp only [pS]
                  first | (refine rg_take (i := 1) rfl kR kR kR (Yld.ldo rfl rfl agg32 rfl (by assumption) (by assumption)) (H.sub sU) ?_; simp only [pS]) | (refine rg_take (i := 1) rfl kR kR kR (Yld.ldc rfl rfl agg32 rfl mR cE) (H.sub sU) ?_; simp only [pS])
                  refine rg_take (i := 2) rfl kR kR kR (Yld.move rfl rfl) (H.sub sU) ?_; simp only [pS, pE]
                  refine rg_take (i := 3) rfl kR kR kR (Yld.o rfl) (H.sub sU) ?_; simp only [pS]
                  first | (refine rg_take (i := 4) rfl kR kR kR (Yld.ldo rfl rfl agg31 rfl (by assumption) (by assumption)) (H.sub sU) ?_; simp only [pS]) | (refine rg_take (i := 4) rfl kR kR kR (Yld.ldc rfl rfl agg31 rfl mR cE) (H.sub sU) ?_; simp only [pS])
                  refine rg_take (i := 5) rfl kR kR kR (Yld.o rfl) (H.sub sU) ?_; simp only [pS]
                  refine rg_take (i := 6) rfl kR kR kR (Yld.o rfl) (H.sub sU) ?_; simp only [pS]
                  refine rg_take (i := 7) rfl kR kR kR (Yld.move rfl rfl) (H.sub sU) ?_; simp only [pS, pE]
                  refine rg_take (i := 8) rfl kR kR kR (Yld.o rfl) (H.sub sU) ?_; simp only [pS]
                  first | (refine rg_take (i := 9) rfl kR kR kR (Yld.ldo rfl rfl agg31 rfl (by assumption) (by assumption)) (H.sub sU) ?_; simp only [pS]) | (refine rg_take (i := 9) rfl kR kR kR (Yld.ldc rfl rfl agg31 rfl mR cE) (H.sub sU) ?_; simp only [pS])
                  refine rg_take (i := 10) rfl kR kR kR (Yld.o rfl) (H.sub sU) ?_; simp only [pS]
                  first | (refine rg_take (i := 11) rfl kR kR kR (Yld.ldo rfl rfl agg32 rfl (by assumption) (by assumption)) (H.sub sU) ?_; simp only [pS]) | (refine rg_take (i := 11) rfl kR kR kR (Yld.ldc rfl rfl agg32 rfl mR cE) (H.sub sU) ?_; simp only [pS])
                  refine rg_take (i := 12) rfl kR kR kR (Yld.move rfl rfl) (H.sub sU) ?_; simp only [pS, pE]
                  refine rg_take (i := 13) rfl kR kR kR (Yld.o rfl) (H.sub sU) ?_; simp only [pS]
                  first | (refine rg_take (i := 14) rfl kR kR kR (Yld.ldo rfl rfl agg31 rfl (by assumption) (by assumption)) (H.sub sU) ?_; simp only [pS]) | (refine rg_take (i := 14) rfl kR kR kR (Yld.ldc rfl rfl agg31 rfl mR cE) (H.sub sU) ?_; simp only [pS])
                  refine rg_one (i := 15) (by kernel_rfl) rfl rfl (fun K hK => ?_)
                  refine wp_callf rfl ent87 (rrising_is _ _ x.mem l _ _ HRI.out (sl_len HN.out (hx1.sl.grow H.below)) (hs0.sl.grow H.below)) rfl (fun v w1 hr => ?_)
                  obtain ⟨rfl, hb1⟩ := hr
                  replace H := H.grow hb1
                  clear hb1
                  clear HS
                  have HS := H
                  refine hK.out _ _ (H.sub sU) ?_
                  clear hK K
                  simp only [pS]
                  refine rg_take (i := 16) rfl kR kR kR (Yld.o rfl) (H.sub sU) ?_; simp only [pS]
                  refine rg_take (i := 17) rfl kR kR kR (Yld.pick rfl rfl rfl) (H.sub sU) ?_; simp only [pS, pE]
                  refine rg_done (by kernel_rfl) ?_
                  go_wp2_with (first | (with_reducible refine wpl rfl (Stp.ldq (cs := #[.int .u16 (p.1 : Int), .int .u32 (p.2 : Int)]) rfl agg30 size30 rfl (fun j hj => (H.below.cell hb2).trans (HC0.out j hj)) rfl ?_); simp only [pS]) | (with_reducible refine wpl rfl (dQ 154 rfl ?_); with_reducible refine (Stp.bsl (e := 30) (cs := #[.int .u16 (p.1 : Int), .int .u32 (p.2 : Int)]) 154 rfl rfl (fun W => by kernel_rfl) H ?_); clear H; intro g154 w1 H; simp only [pS]) | (with_reducible refine wpl rfl (dQ 155 rfl ?_); with_reducible refine (Stp.apps 155 rfl rfl Try.underlying31 info30 rfl (by decide) rfl rfl H (fun _ => uP) (show ([.int .u16 (p.1 : Int), .int .u32 (p.2 : Int)] : List Value).length = 1 * 2 from rfl) (fun _ => ⟨_, rfl, newL (H.gr 30)⟩) (by simp [Value.oneCell']) (by unfold maxLen; omega) (by omega) ?_); clear H; intro a155 c155 w1 H; simp only [pS]; rw [pv_one1] at H) | (with_reducible refine wpl rfl (ldQ (ty := 31) rfl ?_); first | (with_reducible refine (Stp.ldo rfl agg31 rfl H (by assumption) (by assumption) ?_); simp only [pS]) | (with_reducible refine (Stp.ldc rfl agg31 rfl H mR cE ?_); simp only [pS])) | (with_reducible refine wpl rfl (ldQ (ty := 32) rfl ?_); first | (with_reducible refine (Stp.ldo rfl agg32 rfl H (by assumption) (by assumption) ?_); simp only [pS]) | (with_reducible refine (Stp.ldc rfl agg32 rfl H mR cE ?_); simp only [pS])))
                  go_roundw
                  case rel =>
                    exact ⟨k + 1, _, _, f ++ [p], by omega, by go_num, rfl, Lib.hid (by rw [HFS.out, HFI.out]), Lib.hid (by rw [List.length_append, HQ.out]; rfl), HLO, H.sub sU⟩
                  case measure => simp [intOf]; omega
            · obtain rfl : k = N := by omega
              have hO := HO.out
              have hF := HFI.out
              rw [List.take_of_length_le (by rw [HLN.out]; omega)] at hO hF
              obtain ⟨q1, q2, q3⟩ := HALL.out
              have hV := vOk_of_count q1 q2 HMO.out HC'.out hO q3
              rw [hF] at hV
              have HFL := HQ.out
              have HV0 := Lib.hid hV
              clear hO hF hV q1 q2 q3
              cases hr1 : risB x.mem f
              · have HR1 := Lib.hid hr1
                have HV : Hid (vOk x = false) := Lib.hid (by rw [HV0.out, hr1]; rfl)
                clear hr1
                go_wp2_with (first | (go_at_call 87; (first | ((with_reducible refine (rrising_is _ (.slice ao k co) x.mem f _ _ HR1.out (sl_len HN.out (hx1.sl.grow H.below)) (own_pvk (H.getSlc mE) HFL (by omega))).mono ?_); rintro e w1 ⟨v, rfl, hr⟩; obtain ⟨rfl, hb1⟩ := hr; replace H := H.grow hb1; clear hb1) | ((with_reducible refine (rrising_is _ (.slice da d dc) x.mem x.ldr _ _ HR2.out (sl_len HN.out (hx1.sl.grow H.below)) (sl_len HDN.out (hx3.sl.grow H.below))).mono ?_); rintro e w1 ⟨v, rfl, hr⟩; obtain ⟨rfl, hb1⟩ := hr; replace H := H.grow hb1; clear hb1))) | (with_reducible refine wpl rfl (ldQ (ty := 31) rfl ?_); first | (with_reducible refine (Stp.ldo rfl agg31 rfl H (by assumption) (by assumption) ?_); simp only [pS]) | (with_reducible refine (Stp.ldc rfl agg31 rfl H mR cE ?_); simp only [pS])) | (with_reducible refine wpl rfl (ldQ (ty := 32) rfl ?_); first | (with_reducible refine (Stp.ldo rfl agg32 rfl H (by assumption) (by assumption) ?_); simp only [pS]) | (with_reducible refine (Stp.ldc rfl agg32 rfl H mR cE ?_); simp only [pS])))
                go_ret
                exact ⟨_, rfl, by rw [HV.out]; rfl, H.below⟩

              · have HR1 := Lib.hid hr1
                obtain ⟨r, hr2⟩ : ∃ r, risB x.mem x.ldr = r := ⟨_, rfl⟩
                have HR2 := Lib.hid hr2
                have HV : Hid (vOk x = r) := Lib.hid (by rw [HV0.out, hr1, hr2]; rfl)
                clear hr1 hr2
                go_wp2_with (first | (go_at_call 87; (first | ((with_reducible refine (rrising_is _ (.slice ao k co) x.mem f _ _ HR1.out (sl_len HN.out (hx1.sl.grow H.below)) (own_pvk (H.getSlc mE) HFL (by omega))).mono ?_); rintro e w1 ⟨v, rfl, hr⟩; obtain ⟨rfl, hb1⟩ := hr; replace H := H.grow hb1; clear hb1) | ((with_reducible refine (rrising_is _ (.slice da d dc) x.mem x.ldr _ _ HR2.out (sl_len HN.out (hx1.sl.grow H.below)) (sl_len HDN.out (hx3.sl.grow H.below))).mono ?_); rintro e w1 ⟨v, rfl, hr⟩; obtain ⟨rfl, hb1⟩ := hr; replace H := H.grow hb1; clear hb1))) | (with_reducible refine wpl rfl (ldQ (ty := 31) rfl ?_); first | (with_reducible refine (Stp.ldo rfl agg31 rfl H (by assumption) (by assumption) ?_); simp only [pS]) | (with_reducible refine (Stp.ldc rfl agg31 rfl H mR cE ?_); simp only [pS])) | (with_reducible refine wpl rfl (ldQ (ty := 32) rfl ?_); first | (with_reducible refine (Stp.ldo rfl agg32 rfl H (by assumption) (by assumption) ?_); simp only [pS]) | (with_reducible refine (Stp.ldc rfl agg32 rfl H mR cE ?_); simp only [pS])))
                go_ret
                exact ⟨_, rfl, by rw [HV.out]; rfl, H.below⟩

end Go.Proofs.Ytmokecicjmjkbaa
