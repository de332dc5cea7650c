/- Layer 29's document's example (flat): the law's awake; no condition. -/
import Derived.Test.YtbepaafgcbgmfaaFz26
import Derived.Test.YtbepaafgcbgmfaaFz22
import Derived.Deep.Cut
namespace Go.Proofs.Ytbepaafgcbgmfaa
open Go.ChangeShapes Go.WideShapes Go.ChangeAt Go.RowKit Go.Maps Go.Deep
set_option linter.unusedVariables false
set_option linter.unusedSimpArgs false
set_option linter.unusedSectionVars false
set_option maxRecDepth 100000
set_option maxHeartbeats 4000000
/-- The checker's answer, out of the plain data. -/
theorem chk_is (ls : List Lv) (la : Option Addr) (lc n : Nat) (hn : ls.length = n) (sn : List Sn) (sa : Option Addr) (sc m : Nat) (hm : sn.length = m) (z : Nat) (hz : checkP (ls.map plL) (sn.map psS) = z) (w : World) (hl : Sl w 3 n (.slice la n lc) (elL ls)) (hlw : ∀ x ∈ ls, LvW w x) (hlb : n ≤ 1000000) (hs : Sl w 6 m (.slice sa m sc) (elN sn)) (hsw : ∀ x ∈ sn, SnW w x) (hsb : m ≤ 1000000) :
    Calls Try.prog 16 #[.slice la n lc, .slice sa m sc] w (Ret fun v w' => v = .int .i64 (z : Int) ∧ Below w.heap.size w w') := by
  subst hn hm
  refine (check_ok ls la lc sn sa sc w hl hlw hlb hs hsw hsb).mono ?_
  rintro e w1 ⟨v, rfl, ⟨D, hD, rfl⟩, hb⟩
  exact ⟨_, rfl, by rw [hD.check, hz], hb⟩
def pA : Pr := (1, 1)
def pB : Pr := (2, 1)
def awV2 : Vw := ⟨1, [pA, pB], [[pA, pB]], [pA, pB]⟩
def awE : Ev := ⟨1, awV2, (0, 0), 0, []⟩
def awM (p : Pr) : Ev := ⟨2, vw0, p, 1, []⟩
def awS (p : Pr) : Sn := ⟨p, 1, 1, [], none, 0, 0⟩
def awZ (p : Pr) : Ps := ⟨p, 1, 1, [], 0⟩
theorem aw_check0 : checkP [(pA, [awE, awM pA]), (pB, [awE])] [awZ pA, awZ pB] = 0 := by decide +kernel
theorem aw_check7 : checkP [(pA, [awE, awM pA, awM pB]), (pB, [awE, awM pB])] [awZ pA, awZ pB] = 7 := by decide +kernel
theorem awV2_wf : wfV awV2 := by
  have h2 : okPids [pA, pB] := by
    intro p hp
    simp only [List.mem_cons, List.not_mem_nil, or_false] at hp
    rcases hp with rfl | rfl <;> exact ⟨by decide, by decide⟩
  exact ⟨by decide, h2, (by intro l hl; simp only [awV2, List.mem_singleton] at hl; subst hl; exact h2), h2⟩
theorem awV2_sm : smV awV2 := ⟨by decide, by decide, (by intro l hl; simp only [awV2, List.mem_singleton] at hl; subst hl; decide), by decide⟩
theorem vw0_sm : smV vw0 := ⟨by decide, by decide, (by intro l hl; cases hl), by decide⟩
theorem vw0_wf : wfV vw0 := ⟨by decide, (by intro p hp; cases hp), (by intro l hl; cases hl), (by intro p hp; cases hp)⟩
theorem awE_wf (h : Hd) : wfE (awE, h) := ⟨awV2_wf, (show 0 < 65536 from by decide), (show 0 < 4294967296 from by decide), (show 0 < 18446744073709551616 from by decide), (fun x hx => by cases hx)⟩
theorem awM_wf (p : Pr) (hp : p.1 < 65536 ∧ p.2 < 4294967296) (h : Hd) : wfE (awM p, h) := ⟨vw0_wf, hp.1, hp.2, (show 1 < 18446744073709551616 from by decide), (fun x hx => by cases hx)⟩
theorem pp_slg {w : World} {gg : Nat} (h : rowAt w gg = some #[.int .u16 1, .int .u32 1, .int .u16 2, .int .u32 1]) : SlG All w 2 2 (.slice (some ⟨gg, 0, none⟩) 2 2) (elQ [pA, pB]) :=
  (SlG.of_sl (Sl.of_row h (by decide) (fun i hi j hj => by
    have hi' : i = 0 ∨ i = 1 := by omega
    have hj' : j = 0 ∨ j = 1 := by omega
    rcases hi' with rfl | rfl <;> rcases hj' with rfl | rfl <;> rfl))).mono (fun _ _ => trivial)
theorem nil_slg {w : World} {size : Nat} {E : Nat → Array Value} (c : Nat) : SlG All w size 0 (.slice none 0 c) E := (SlG.of_sl ⟨none, c, rfl, by decide, fun h => absurd h (Nat.lt_irrefl _)⟩).mono (fun _ _ => trivial)
theorem awE_g {w : World} (g13 g16 g17 g20 : Nat) (hg13 : rowAt w g13 = some #[.int .u16 1, .int .u32 1, .int .u16 2, .int .u32 1]) (hg16 : rowAt w g16 = some #[.int .u16 1, .int .u32 1, .int .u16 2, .int .u32 1]) (hg17 : rowAt w g17 = some #[.slice (some ⟨g16, 0, none⟩) 2 2]) (hg20 : rowAt w g20 = some #[.int .u16 1, .int .u32 1, .int .u16 2, .int .u32 1]) : EvG w (awE, ⟨none, some ⟨g13, 0, none⟩, some ⟨g17, 0, none⟩, some ⟨g20, 0, none⟩, 0, 2, 1, 2⟩) := by
  refine ⟨⟨pp_slg hg13, ⟨fun _ => .slice (some ⟨g16, 0, none⟩) 2 2, ?_, fun i hi => ?_⟩, pp_slg hg20⟩, nil_slg 0⟩
  · exact (SlG.of_sl (Sl.of_row hg17 (show 1 ≤ maxLen from by decide) (fun i hi j hj => by
      have hi' : i = 0 := by have h1 : i < 1 := hi; omega
      obtain rfl : j = 0 := by omega
      subst hi'; rfl))).mono (fun _ _ => trivial)
  · have hi' : i = 0 := by have h1 : i < 1 := hi; omega
    subst hi'
    exact pp_slg hg16
theorem awM_g (w : World) (p : Pr) : EvG w (awM p, hd0) := ⟨⟨nil_slg 0, ⟨fun _ => .slice none 0 0, nil_slg 0, fun i hi => absurd hi (Nat.not_lt_zero _)⟩, nil_slg 0⟩, nil_slg 0⟩
theorem awS_w (w : World) (p : Pr) (hp : p.1 < 65536 ∧ p.2 < 4294967296) : SnW w (awS p) := ⟨(nil_slg 0).sl, (fun b hb => by cases hb), hp.1, hp.2, (show 1 < 18446744073709551616 from by decide), (show 1 < 18446744073709551616 from by decide)⟩
theorem pA_ok : pA.1 < 65536 ∧ pA.2 < 4294967296 := ⟨by decide, by decide⟩
theorem pB_ok : pB.1 < 65536 ∧ pB.2 < 4294967296 := ⟨by decide, by decide⟩
/-- The first example: no rule is broken. -/
theorem aw1_ok (g13 g16 g17 g20 g31 g35 g39 g41 : Nat) (w : World) (hg13 : rowAt w g13 = some #[.int .u16 1, .int .u32 1, .int .u16 2, .int .u32 1]) (hg16 : rowAt w g16 = some #[.int .u16 1, .int .u32 1, .int .u16 2, .int .u32 1]) (hg17 : rowAt w g17 = some #[.slice (some ⟨g16, 0, none⟩) 2 2]) (hg20 : rowAt w g20 = some #[.int .u16 1, .int .u32 1, .int .u16 2, .int .u32 1]) (hg31 : rowAt w g31 = some #[.int .u16 1, .int .u32 1, .int .u64 1, .int .u64 1, .slice none 0 0, .int .i64 0, .int .u16 2, .int .u32 1, .int .u64 1, .int .u64 1, .slice none 0 0, .int .i64 0]) (hg35 : rowAt w g35 = some #[.int .i64 1, .int .u64 1, .slice (some ⟨g13, 0, none⟩) 2 2, .slice (some ⟨g17, 0, none⟩) 1 1, .slice (some ⟨g20, 0, none⟩) 2 2, .int .u16 0, .int .u32 0, .int .u64 0, .slice none 0 0, .int .i64 2, .int .u64 0, .slice none 0 0, .slice none 0 0, .slice none 0 0, .int .u16 1, .int .u32 1, .int .u64 1, .slice none 0 0]) (hg39 : rowAt w g39 = some #[.int .i64 1, .int .u64 1, .slice (some ⟨g13, 0, none⟩) 2 2, .slice (some ⟨g17, 0, none⟩) 1 1, .slice (some ⟨g20, 0, none⟩) 2 2, .int .u16 0, .int .u32 0, .int .u64 0, .slice none 0 0]) (hg41 : rowAt w g41 = some #[.int .u16 1, .int .u32 1, .slice (some ⟨g35, 0, none⟩) 2 2, .int .u16 2, .int .u32 1, .slice (some ⟨g39, 0, none⟩) 1 1]) :
    Calls Try.prog 16 #[.slice (some ⟨g41, 0, none⟩) 2 2, .slice (some ⟨g31, 0, none⟩) 2 2] w (Ret fun v w' => v = .int .i64 0 ∧ Below w.heap.size w w') := by
  have hE := awE_g g13 g16 g17 g20 hg13 hg16 hg17 hg20
  refine chk_is [⟨pA, [(awE, ⟨none, some ⟨g13, 0, none⟩, some ⟨g17, 0, none⟩, some ⟨g20, 0, none⟩, 0, 2, 1, 2⟩), (awM pA, hd0)], some ⟨g35, 0, none⟩, 2⟩, ⟨pB, [(awE, ⟨none, some ⟨g13, 0, none⟩, some ⟨g17, 0, none⟩, some ⟨g20, 0, none⟩, 0, 2, 1, 2⟩)], some ⟨g39, 0, none⟩, 1⟩] _ 2 2 rfl [awS pA, awS pB] _ 2 2 rfl 0 aw_check0 w (Sl.of_row hg41 (by decide) (fun i hi j hj => ?_)) (fun x hx => ?_) (by omega) (Sl.of_row hg31 (by decide) (fun i hi j hj => ?_)) (fun x hx => ?_) (by omega)
  · have hi' : i = 0 ∨ i = 1 := by omega
    have hj' : j = 0 ∨ j = 1 ∨ j = 2 := by omega
    rcases hi' with rfl | rfl <;> rcases hj' with rfl | rfl | rfl <;> rfl
  · simp only [List.mem_cons, List.not_mem_nil, or_false] at hx
    rcases hx with rfl | rfl
    · refine ⟨Sl.of_row hg35 (show 2 ≤ maxLen from by decide) (fun i hi j hj => ?_), Nat.le_refl _, (show 2 ≤ 1000 from by decide), pA_ok.1, pA_ok.2, fun e he => ?_, fun e he => ?_, fun e he => ?_⟩
      · have hi' : i = 0 ∨ i = 1 := by simp only [List.length_cons, List.length_nil] at hi; omega
        have hj' : j = 0 ∨ j = 1 ∨ j = 2 ∨ j = 3 ∨ j = 4 ∨ j = 5 ∨ j = 6 ∨ j = 7 ∨ j = 8 := by omega
        rcases hi' with rfl | rfl <;> rcases hj' with rfl | rfl | rfl | rfl | rfl | rfl | rfl | rfl | rfl <;> rfl
      all_goals
        simp only [List.mem_cons, List.not_mem_nil, or_false] at he
        rcases he with rfl | rfl
      · exact hE
      · exact awM_g w pA
      · exact awE_wf _
      · exact awM_wf pA pA_ok _
      · exact awV2_sm
      · exact vw0_sm
    · refine ⟨Sl.of_row hg39 (show 1 ≤ maxLen from by decide) (fun i hi j hj => ?_), Nat.le_refl _, (show 1 ≤ 1000 from by decide), pB_ok.1, pB_ok.2, fun e he => ?_, fun e he => ?_, fun e he => ?_⟩
      · have hi' : i = 0 := by simp only [List.length_cons, List.length_nil] at hi; omega
        have hj' : j = 0 ∨ j = 1 ∨ j = 2 ∨ j = 3 ∨ j = 4 ∨ j = 5 ∨ j = 6 ∨ j = 7 ∨ j = 8 := by omega
        rcases hi' with rfl; rcases hj' with rfl | rfl | rfl | rfl | rfl | rfl | rfl | rfl | rfl <;> rfl
      all_goals
        simp only [List.mem_cons, List.not_mem_nil, or_false] at he
        rcases he with rfl
      · exact hE
      · exact awE_wf _
      · exact awV2_sm
  · have hi' : i = 0 ∨ i = 1 := by omega
    have hj' : j = 0 ∨ j = 1 ∨ j = 2 ∨ j = 3 ∨ j = 4 ∨ j = 5 := by omega
    rcases hi' with rfl | rfl <;> rcases hj' with rfl | rfl | rfl | rfl | rfl | rfl <;> rfl
  · simp only [List.mem_cons, List.not_mem_nil, or_false] at hx
    rcases hx with rfl | rfl
    · exact awS_w w pA pA_ok
    · exact awS_w w pB pB_ok
/-- The second one: two were told in another order. -/
theorem aw2_ok (g13 g16 g17 g20 g31 g35 g39 g41 : Nat) (w : World) (hg13 : rowAt w g13 = some #[.int .u16 1, .int .u32 1, .int .u16 2, .int .u32 1]) (hg16 : rowAt w g16 = some #[.int .u16 1, .int .u32 1, .int .u16 2, .int .u32 1]) (hg17 : rowAt w g17 = some #[.slice (some ⟨g16, 0, none⟩) 2 2]) (hg20 : rowAt w g20 = some #[.int .u16 1, .int .u32 1, .int .u16 2, .int .u32 1]) (hg31 : rowAt w g31 = some #[.int .u16 1, .int .u32 1, .int .u64 1, .int .u64 1, .slice none 0 0, .int .i64 0, .int .u16 2, .int .u32 1, .int .u64 1, .int .u64 1, .slice none 0 0, .int .i64 0]) (hg35 : rowAt w g35 = some #[.int .i64 1, .int .u64 1, .slice (some ⟨g13, 0, none⟩) 2 2, .slice (some ⟨g17, 0, none⟩) 1 1, .slice (some ⟨g20, 0, none⟩) 2 2, .int .u16 0, .int .u32 0, .int .u64 0, .slice none 0 0, .int .i64 2, .int .u64 0, .slice none 0 0, .slice none 0 0, .slice none 0 0, .int .u16 1, .int .u32 1, .int .u64 1, .slice none 0 0, .int .i64 2, .int .u64 0, .slice none 0 0, .slice none 0 0, .slice none 0 0, .int .u16 2, .int .u32 1, .int .u64 1, .slice none 0 0]) (hg39 : rowAt w g39 = some #[.int .i64 1, .int .u64 1, .slice (some ⟨g13, 0, none⟩) 2 2, .slice (some ⟨g17, 0, none⟩) 1 1, .slice (some ⟨g20, 0, none⟩) 2 2, .int .u16 0, .int .u32 0, .int .u64 0, .slice none 0 0, .int .i64 2, .int .u64 0, .slice none 0 0, .slice none 0 0, .slice none 0 0, .int .u16 2, .int .u32 1, .int .u64 1, .slice none 0 0]) (hg41 : rowAt w g41 = some #[.int .u16 1, .int .u32 1, .slice (some ⟨g35, 0, none⟩) 3 3, .int .u16 2, .int .u32 1, .slice (some ⟨g39, 0, none⟩) 2 2]) :
    Calls Try.prog 16 #[.slice (some ⟨g41, 0, none⟩) 2 2, .slice (some ⟨g31, 0, none⟩) 2 2] w (Ret fun v w' => v = .int .i64 7 ∧ Below w.heap.size w w') := by
  have hE := awE_g g13 g16 g17 g20 hg13 hg16 hg17 hg20
  refine chk_is [⟨pA, [(awE, ⟨none, some ⟨g13, 0, none⟩, some ⟨g17, 0, none⟩, some ⟨g20, 0, none⟩, 0, 2, 1, 2⟩), (awM pA, hd0), (awM pB, hd0)], some ⟨g35, 0, none⟩, 3⟩, ⟨pB, [(awE, ⟨none, some ⟨g13, 0, none⟩, some ⟨g17, 0, none⟩, some ⟨g20, 0, none⟩, 0, 2, 1, 2⟩), (awM pB, hd0)], some ⟨g39, 0, none⟩, 2⟩] _ 2 2 rfl [awS pA, awS pB] _ 2 2 rfl 7 aw_check7 w (Sl.of_row hg41 (by decide) (fun i hi j hj => ?_)) (fun x hx => ?_) (by omega) (Sl.of_row hg31 (by decide) (fun i hi j hj => ?_)) (fun x hx => ?_) (by omega)
  · have hi' : i = 0 ∨ i = 1 := by omega
    have hj' : j = 0 ∨ j = 1 ∨ j = 2 := by omega
    rcases hi' with rfl | rfl <;> rcases hj' with rfl | rfl | rfl <;> rfl
  · simp only [List.mem_cons, List.not_mem_nil, or_false] at hx
    rcases hx with rfl | rfl
    · refine ⟨Sl.of_row hg35 (show 3 ≤ maxLen from by decide) (fun i hi j hj => ?_), Nat.le_refl _, (show 3 ≤ 1000 from by decide), pA_ok.1, pA_ok.2, fun e he => ?_, fun e he => ?_, fun e he => ?_⟩
      · have hi' : i = 0 ∨ i = 1 ∨ i = 2 := by simp only [List.length_cons, List.length_nil] at hi; omega
        have hj' : j = 0 ∨ j = 1 ∨ j = 2 ∨ j = 3 ∨ j = 4 ∨ j = 5 ∨ j = 6 ∨ j = 7 ∨ j = 8 := by omega
        rcases hi' with rfl | rfl | rfl <;> rcases hj' with rfl | rfl | rfl | rfl | rfl | rfl | rfl | rfl | rfl <;> rfl
      all_goals
        simp only [List.mem_cons, List.not_mem_nil, or_false] at he
        rcases he with rfl | rfl | rfl
      · exact hE
      · exact awM_g w pA
      · exact awM_g w pB
      · exact awE_wf _
      · exact awM_wf pA pA_ok _
      · exact awM_wf pB pB_ok _
      · exact awV2_sm
      · exact vw0_sm
      · exact vw0_sm
    · refine ⟨Sl.of_row hg39 (show 2 ≤ maxLen from by decide) (fun i hi j hj => ?_), Nat.le_refl _, (show 2 ≤ 1000 from by decide), pB_ok.1, pB_ok.2, fun e he => ?_, fun e he => ?_, fun e he => ?_⟩
      · have hi' : i = 0 ∨ i = 1 := by simp only [List.length_cons, List.length_nil] at hi; omega
        have hj' : j = 0 ∨ j = 1 ∨ j = 2 ∨ j = 3 ∨ j = 4 ∨ j = 5 ∨ j = 6 ∨ j = 7 ∨ j = 8 := by omega
        rcases hi' with rfl | rfl <;> rcases hj' with rfl | rfl | rfl | rfl | rfl | rfl | rfl | rfl | rfl <;> rfl
      all_goals
        simp only [List.mem_cons, List.not_mem_nil, or_false] at he
        rcases he with rfl | rfl
      · exact hE
      · exact awM_g w pB
      · exact awE_wf _
      · exact awM_wf pB pB_ok _
      · exact awV2_sm
      · exact vw0_sm
  · have hi' : i = 0 ∨ i = 1 := by omega
    have hj' : j = 0 ∨ j = 1 ∨ j = 2 ∨ j = 3 ∨ j = 4 ∨ j = 5 := by omega
    rcases hi' with rfl | rfl <;> rcases hj' with rfl | rfl | rfl | rfl | rfl | rfl <;> rfl
  · simp only [List.mem_cons, List.not_mem_nil, or_false] at hx
    rcases hx with rfl | rfl
    · exact awS_w w pA pA_ok
    · exact awS_w w pB pB_ok
theorem aw29_ok (w : World) : Calls Try.prog 10 #[] w (Ret fun v w' => v = .bool true ∧ Below w.heap.size w w') := by
  have H := St.init w
  go_enter Try.func10, Try.ntmps10
  go_upto_region 3 with (first | (with_reducible refine wpl rfl (dQ 9 rfl ?_); with_reducible refine (Stp.build (v := (.agg #[.int .u16 1, .int .u32 1])) 9 rfl rfl (fun W => by kernel_rfl) ?_); simp only [pS]) | (with_reducible refine wpl rfl (dQ 10 rfl ?_); with_reducible refine (Stp.build (v := (.agg #[.int .u16 2, .int .u32 1])) 10 rfl rfl (fun W => by kernel_rfl) ?_); simp only [pS]) | (with_reducible refine wpl rfl (dQ 13 rfl ?_); with_reducible refine (Stp.bsl (e := 27) (cs := #[.int .u16 1, .int .u32 1, .int .u16 2, .int .u32 1]) 13 rfl rfl (fun W => by kernel_rfl) H ?_); clear H; intro g13 w1 H; simp only [pS]) | (with_reducible refine wpl rfl (dQ 16 rfl ?_); with_reducible refine (Stp.bsl (e := 27) (cs := #[.int .u16 1, .int .u32 1, .int .u16 2, .int .u32 1]) 16 rfl rfl (fun W => by kernel_rfl) H ?_); clear H; intro g16 w1 H; simp only [pS]) | (with_reducible refine wpl rfl (dQ 17 rfl ?_); with_reducible refine (Stp.bsl (e := 38) (cs := #[.slice (some ⟨g16, 0, none⟩) 2 2]) 17 rfl rfl (fun W => by kernel_rfl) H ?_); clear H; intro g17 w1 H; simp only [pS]) | (with_reducible refine wpl rfl (dQ 20 rfl ?_); with_reducible refine (Stp.bsl (e := 27) (cs := #[.int .u16 1, .int .u32 1, .int .u16 2, .int .u32 1]) 20 rfl rfl (fun W => by kernel_rfl) H ?_); clear H; intro g20 w1 H; simp only [pS]) | (with_reducible refine wpl rfl (dQ 21 rfl ?_); with_reducible refine (Stp.build (v := (.agg #[.int .u64 1, .slice (some ⟨g13, 0, none⟩) 2 2, .slice (some ⟨g17, 0, none⟩) 1 1, .slice (some ⟨g20, 0, none⟩) 2 2])) 21 rfl rfl (fun W => by kernel_rfl) ?_); simp only [pS]) | (with_reducible refine wpl rfl (dQ 22 rfl ?_); with_reducible refine (Stp.build (v := (.agg #[.int .i64 1, .int .u64 1, .slice (some ⟨g13, 0, none⟩) 2 2, .slice (some ⟨g17, 0, none⟩) 1 1, .slice (some ⟨g20, 0, none⟩) 2 2, .int .u16 0, .int .u32 0, .int .u64 0, .slice none 0 0])) 22 rfl rfl (fun W => by kernel_rfl) ?_); simp only [pS]) | (with_reducible refine wpl rfl (dQ 1 rfl ?_); with_reducible refine (Stp.alloc 1 rfl rfl zero27 H ?_); clear H; intro g1 w1 H; simp only [pS]; simp only [nC] at H) | (with_reducible refine wpl rfl (dQ 2 rfl ?_); with_reducible refine (Stp.alloc 2 rfl rfl zero27 H ?_); clear H; intro g2 w1 H; simp only [pS]; simp only [nC] at H) | (with_reducible refine wpl rfl (stQ (ty := 27) rfl ?_); first | (with_reducible refine (Stp.str rfl size27 rfl rfl (by first | rfl | (simp [Value.oneCell']; done) | assumption) H uP sZ sZ ?_); clear H; intro w1 H; simp only [pS]) | (with_reducible refine (Stp.stl rfl size27 rfl rfl rfl rfl H uP (by simp) ?_); clear H; intro w1 H; simp only [pS]; simp only [List.drop_succ_cons, List.drop_zero, List.take_succ_cons, List.take_zero, List.nil_append, List.cons_append, Nat.reduceAdd] at H)) | (with_reducible refine wpl rfl (ldQ (ty := 27) rfl ?_); first | (with_reducible refine (Stp.ldor rfl agg27 size27 rfl H (by assumption) sZ (by assumption) ?_); simp only [pS]) | (with_reducible refine (Stp.ldr rfl agg27 size27 rfl H mR sZ ?_); simp only [pS]) | (with_reducible refine (Stp.ldl rfl agg27 size27 rfl H mR (by simp) ?_); simp only [pS]; simp only [List.drop_succ_cons, List.drop_zero, List.take_succ_cons, List.take_zero])) | (with_reducible refine wpl rfl (dQ 3 rfl ?_); with_reducible refine (Stp.alloc 3 rfl rfl zero62 H ?_); clear H; intro g3 w1 H; simp only [pS]; simp only [nC] at H) | (with_reducible refine wpl rfl (stQ (ty := 62) rfl ?_); first | (with_reducible refine (Stp.str rfl size62 rfl rfl (by first | rfl | (simp [Value.oneCell']; done) | assumption) H uP sZ sZ ?_); clear H; intro w1 H; simp only [pS]) | (with_reducible refine (Stp.stl rfl size62 rfl rfl rfl rfl H uP (by simp) ?_); clear H; intro w1 H; simp only [pS]; simp only [List.drop_succ_cons, List.drop_zero, List.take_succ_cons, List.take_zero, List.nil_append, List.cons_append, Nat.reduceAdd] at H)) | (with_reducible refine wpl rfl (ldQ (ty := 62) rfl ?_); first | (with_reducible refine (Stp.ldor rfl agg62 size62 rfl H (by assumption) sZ (by assumption) ?_); simp only [pS]) | (with_reducible refine (Stp.ldr rfl agg62 size62 rfl H mR sZ ?_); simp only [pS]) | (with_reducible refine (Stp.ldl rfl agg62 size62 rfl H mR (by simp) ?_); simp only [pS]; simp only [List.drop_succ_cons, List.drop_zero, List.take_succ_cons, List.take_zero])))
  go_cut [4, 5] from 9 (fun s4 s5 w' => ∃ g4 g5, s4 = .pointer (some ⟨g4, 0, none⟩) ∧ s5 = .pointer (some ⟨g5, 0, none⟩) ∧ St w.heap.size w w' (row 62 g4 #[.int .i64 2, .int .u64 0, .slice none 0 0, .slice none 0 0, .slice none 0 0, .int .u16 1, .int .u32 1, .int .u64 1, .slice none 0 0] :: row 62 g5 #[.int .i64 2, .int .u64 0, .slice none 0 0, .slice none 0 0, .slice none 0 0, .int .u16 2, .int .u32 1, .int .u64 1, .slice none 0 0] :: row 27 g1 #[.int .u16 1, .int .u32 1] :: row 27 g2 #[.int .u16 2, .int .u32 1] :: row 62 g3 #[.int .i64 1, .int .u64 1, .slice (some ⟨g13, 0, none⟩) 2 2, .slice (some ⟨g17, 0, none⟩) 1 1, .slice (some ⟨g20, 0, none⟩) 2 2, .int .u16 0, .int .u32 0, .int .u64 0, .slice none 0 0] :: row 27 g13 #[.int .u16 1, .int .u32 1, .int .u16 2, .int .u32 1] :: row 27 g16 #[.int .u16 1, .int .u32 1, .int .u16 2, .int .u32 1] :: row 38 g17 #[.slice (some ⟨g16, 0, none⟩) 2 2] :: row 27 g20 #[.int .u16 1, .int .u32 1, .int .u16 2, .int .u32 1] :: []))
  case first =>
    refine rg_begin 8 rfl (S := fun W => St _ _ W (row 27 g2 #[.int .u16 2, .int .u32 1] :: row 27 g1 #[.int .u16 1, .int .u32 1] :: [])) (by kernel_rfl) (H.drew.sub sU) ?_
    replace H := H.drew
    have HS := H
    first | (refine rg_take (i := 0) rfl kR kR kR (Yld.ldor rfl rfl agg27 size27 rfl (by assumption) sZ (by assumption)) (H.sub sU) ?_; simp only [pS]) | (refine rg_take (i := 0) rfl kR kR kR (Yld.ldr rfl rfl agg27 size27 rfl mR sZ) (H.sub sU) ?_; simp only [pS]) | (refine rg_take (i := 0) rfl kR kR kR (Yld.ldl rfl rfl agg27 size27 rfl mR (by simp)) (H.sub sU) ?_; simp only [pS]; simp only [List.drop_succ_cons, List.drop_zero, List.take_succ_cons, List.take_zero])
    refine rg_take (i := 1) rfl kR kR kR (Yld.of (v := .agg #[.int .i64 2, .int .u64 0, .slice none 0 0, .slice none 0 0, .slice none 0 0, .int .u16 1, .int .u32 1, .int .u64 1, .slice none 0 0]) rfl (fun W _ => by kernel_rfl)) (H.sub sU) ?_; simp only [pS, pE]
    first | (refine rg_take (i := 2) rfl kR kR kR (Yld.ldor rfl rfl agg27 size27 rfl (by assumption) sZ (by assumption)) (H.sub sU) ?_; simp only [pS]) | (refine rg_take (i := 2) rfl kR kR kR (Yld.ldr rfl rfl agg27 size27 rfl mR sZ) (H.sub sU) ?_; simp only [pS]) | (refine rg_take (i := 2) rfl kR kR kR (Yld.ldl rfl rfl agg27 size27 rfl mR (by simp)) (H.sub sU) ?_; simp only [pS]; simp only [List.drop_succ_cons, List.drop_zero, List.take_succ_cons, List.take_zero])
    refine rg_take (i := 3) rfl kR kR kR (Yld.of (v := .agg #[.int .i64 2, .int .u64 0, .slice none 0 0, .slice none 0 0, .slice none 0 0, .int .u16 2, .int .u32 1, .int .u64 1, .slice none 0 0]) rfl (fun W _ => by kernel_rfl)) (H.sub sU) ?_; simp only [pS, pE]
    refine rg_all (rs := [4, 5]) (by kernel_rfl) (by simp) ?_
    refine rg_cons (i := 4) rfl rfl (fun K hK => ?_) ?_
    · -- 4
      refine Stp.wp (Stp.alloc 4 rfl rfl zero62 H ?_)
      clear H
      intro g4 w1 H
      simp only [cells_agg] at H
      clear HS
      have HS := H
      refine hK.out _ _ (H.sub sU) ?_
      clear hK K
      simp only [pS]
      refine rg_one (i := 5) (by kernel_rfl) rfl rfl (fun K hK => ?_)
      refine Stp.wp (Stp.alloc 5 rfl rfl zero62 H ?_)
      clear H
      intro g5 w1 H
      simp only [cells_agg] at H
      clear HS
      have HS := H
      refine hK.out _ _ (H.sub sU) ?_
      clear hK K
      simp only [pS]
      refine rg_one (i := 6) (by kernel_rfl) rfl rfl (fun K hK => ?_)
      refine Stp.wp (Stp.str (ds := #[.int .i64 2, .int .u64 0, .slice none 0 0, .slice none 0 0, .slice none 0 0, .int .u16 1, .int .u32 1, .int .u64 1, .slice none 0 0]) rfl size62 rfl rfl (by simp [Value.oneCell']) H uP rfl rfl ?_)
      clear H
      intro w1 H
      clear HS
      have HS := H
      refine hK.out _ _ (H.sub sU) ?_
      clear hK K
      simp only [pS]
      refine rg_one (i := 7) (by kernel_rfl) rfl rfl (fun K hK => ?_)
      refine Stp.wp (Stp.str (ds := #[.int .i64 2, .int .u64 0, .slice none 0 0, .slice none 0 0, .slice none 0 0, .int .u16 2, .int .u32 1, .int .u64 1, .slice none 0 0]) rfl size62 rfl rfl (by simp [Value.oneCell']) H uP rfl rfl ?_)
      clear H
      intro w1 H
      clear HS
      have HS := H
      refine hK.out _ _ (H.sub sU) ?_
      clear hK K
      simp only [pS]
      refine rg_done (by kernel_rfl) ?_
      go_wp2_with fail
      go_meet
      exact ⟨g4, g5, rfl, rfl, (((((((((H.pull (r := row 27 g20 #[.int .u16 1, .int .u32 1, .int .u16 2, .int .u32 1]) pU).pull (r := row 38 g17 #[.slice (some ⟨g16, 0, none⟩) 2 2]) pU).pull (r := row 27 g16 #[.int .u16 1, .int .u32 1, .int .u16 2, .int .u32 1]) pU).pull (r := row 27 g13 #[.int .u16 1, .int .u32 1, .int .u16 2, .int .u32 1]) pU).pull (r := row 62 g3 #[.int .i64 1, .int .u64 1, .slice (some ⟨g13, 0, none⟩) 2 2, .slice (some ⟨g17, 0, none⟩) 1 1, .slice (some ⟨g20, 0, none⟩) 2 2, .int .u16 0, .int .u32 0, .int .u64 0, .slice none 0 0]) pU).pull (r := row 27 g2 #[.int .u16 2, .int .u32 1]) pU).pull (r := row 27 g1 #[.int .u16 1, .int .u32 1]) pU).pull (r := row 62 g5 #[.int .i64 2, .int .u64 0, .slice none 0 0, .slice none 0 0, .slice none 0 0, .int .u16 2, .int .u32 1, .int .u64 1, .slice none 0 0]) pU).pull (r := row 62 g4 #[.int .i64 2, .int .u64 0, .slice none 0 0, .slice none 0 0, .slice none 0 0, .int .u16 1, .int .u32 1, .int .u64 1, .slice none 0 0]) pU).sub sU⟩
    refine rg_cons (i := 5) rfl rfl (fun K hK => ?_) ?_
    · -- 5
      refine Stp.wp (Stp.alloc 5 rfl rfl zero62 H ?_)
      clear H
      intro g5 w1 H
      simp only [cells_agg] at H
      clear HS
      have HS := H
      refine hK.out _ _ (H.sub sU) ?_
      clear hK K
      simp only [pS]
      refine rg_one (i := 4) (by kernel_rfl) rfl rfl (fun K hK => ?_)
      refine Stp.wp (Stp.alloc 4 rfl rfl zero62 H ?_)
      clear H
      intro g4 w1 H
      simp only [cells_agg] at H
      clear HS
      have HS := H
      refine hK.out _ _ (H.sub sU) ?_
      clear hK K
      simp only [pS]
      refine rg_one (i := 6) (by kernel_rfl) rfl rfl (fun K hK => ?_)
      refine Stp.wp (Stp.str (ds := #[.int .i64 2, .int .u64 0, .slice none 0 0, .slice none 0 0, .slice none 0 0, .int .u16 1, .int .u32 1, .int .u64 1, .slice none 0 0]) rfl size62 rfl rfl (by simp [Value.oneCell']) H uP rfl rfl ?_)
      clear H
      intro w1 H
      clear HS
      have HS := H
      refine hK.out _ _ (H.sub sU) ?_
      clear hK K
      simp only [pS]
      refine rg_one (i := 7) (by kernel_rfl) rfl rfl (fun K hK => ?_)
      refine Stp.wp (Stp.str (ds := #[.int .i64 2, .int .u64 0, .slice none 0 0, .slice none 0 0, .slice none 0 0, .int .u16 2, .int .u32 1, .int .u64 1, .slice none 0 0]) rfl size62 rfl rfl (by simp [Value.oneCell']) H uP rfl rfl ?_)
      clear H
      intro w1 H
      clear HS
      have HS := H
      refine hK.out _ _ (H.sub sU) ?_
      clear hK K
      simp only [pS]
      refine rg_done (by kernel_rfl) ?_
      go_wp2_with fail
      go_meet
      exact ⟨g4, g5, rfl, rfl, (((((((((H.pull (r := row 27 g20 #[.int .u16 1, .int .u32 1, .int .u16 2, .int .u32 1]) pU).pull (r := row 38 g17 #[.slice (some ⟨g16, 0, none⟩) 2 2]) pU).pull (r := row 27 g16 #[.int .u16 1, .int .u32 1, .int .u16 2, .int .u32 1]) pU).pull (r := row 27 g13 #[.int .u16 1, .int .u32 1, .int .u16 2, .int .u32 1]) pU).pull (r := row 62 g3 #[.int .i64 1, .int .u64 1, .slice (some ⟨g13, 0, none⟩) 2 2, .slice (some ⟨g17, 0, none⟩) 1 1, .slice (some ⟨g20, 0, none⟩) 2 2, .int .u16 0, .int .u32 0, .int .u64 0, .slice none 0 0]) pU).pull (r := row 27 g2 #[.int .u16 2, .int .u32 1]) pU).pull (r := row 27 g1 #[.int .u16 1, .int .u32 1]) pU).pull (r := row 62 g5 #[.int .i64 2, .int .u64 0, .slice none 0 0, .slice none 0 0, .slice none 0 0, .int .u16 2, .int .u32 1, .int .u64 1, .slice none 0 0]) pU).pull (r := row 62 g4 #[.int .i64 2, .int .u64 0, .slice none 0 0, .slice none 0 0, .slice none 0 0, .int .u16 1, .int .u32 1, .int .u64 1, .slice none 0 0]) pU).sub sU⟩
    exact AllReadyH.nil
  case rest =>
  obtain ⟨g4, g5, rfl, rfl, H2⟩ := hcut
  clear H
  have H := H2
  clear H2
  go_wp2_with (first | (with_reducible refine wpl rfl (dQ 28 rfl ?_); with_reducible refine (Stp.build (v := (.agg #[.int .u16 1, .int .u32 1, .int .u64 1, .int .u64 1, .slice none 0 0, .int .i64 0])) 28 rfl rfl (fun W => by kernel_rfl) ?_); simp only [pS]) | (with_reducible refine wpl rfl (dQ 30 rfl ?_); with_reducible refine (Stp.build (v := (.agg #[.int .u16 2, .int .u32 1, .int .u64 1, .int .u64 1, .slice none 0 0, .int .i64 0])) 30 rfl rfl (fun W => by kernel_rfl) ?_); simp only [pS]) | (with_reducible refine wpl rfl (dQ 31 rfl ?_); with_reducible refine (Stp.bsl (e := 64) (cs := #[.int .u16 1, .int .u32 1, .int .u64 1, .int .u64 1, .slice none 0 0, .int .i64 0, .int .u16 2, .int .u32 1, .int .u64 1, .int .u64 1, .slice none 0 0, .int .i64 0]) 31 rfl rfl (fun W => by kernel_rfl) H ?_); clear H; intro g31 w1 H; simp only [pS]) | (with_reducible refine wpl rfl (dQ 35 rfl ?_); with_reducible refine (Stp.bsl (e := 62) (cs := #[.int .i64 1, .int .u64 1, .slice (some ⟨g13, 0, none⟩) 2 2, .slice (some ⟨g17, 0, none⟩) 1 1, .slice (some ⟨g20, 0, none⟩) 2 2, .int .u16 0, .int .u32 0, .int .u64 0, .slice none 0 0, .int .i64 2, .int .u64 0, .slice none 0 0, .slice none 0 0, .slice none 0 0, .int .u16 1, .int .u32 1, .int .u64 1, .slice none 0 0]) 35 rfl rfl (fun W => by kernel_rfl) H ?_); clear H; intro g35 w1 H; simp only [pS]) | (with_reducible refine wpl rfl (dQ 36 rfl ?_); with_reducible refine (Stp.build (v := (.agg #[.int .u16 1, .int .u32 1, .slice (some ⟨g35, 0, none⟩) 2 2])) 36 rfl rfl (fun W => by kernel_rfl) ?_); simp only [pS]) | (with_reducible refine wpl rfl (dQ 39 rfl ?_); with_reducible refine (Stp.bsl (e := 62) (cs := #[.int .i64 1, .int .u64 1, .slice (some ⟨g13, 0, none⟩) 2 2, .slice (some ⟨g17, 0, none⟩) 1 1, .slice (some ⟨g20, 0, none⟩) 2 2, .int .u16 0, .int .u32 0, .int .u64 0, .slice none 0 0]) 39 rfl rfl (fun W => by kernel_rfl) H ?_); clear H; intro g39 w1 H; simp only [pS]) | (with_reducible refine wpl rfl (dQ 40 rfl ?_); with_reducible refine (Stp.build (v := (.agg #[.int .u16 2, .int .u32 1, .slice (some ⟨g39, 0, none⟩) 1 1])) 40 rfl rfl (fun W => by kernel_rfl) ?_); simp only [pS]) | (with_reducible refine wpl rfl (dQ 41 rfl ?_); with_reducible refine (Stp.bsl (e := 29) (cs := #[.int .u16 1, .int .u32 1, .slice (some ⟨g35, 0, none⟩) 2 2, .int .u16 2, .int .u32 1, .slice (some ⟨g39, 0, none⟩) 1 1]) 41 rfl rfl (fun W => by kernel_rfl) H ?_); clear H; intro g41 w1 H; simp only [pS]) | (go_at_call 16; (with_reducible refine (aw1_ok g13 g16 g17 g20 g31 g35 g39 g41 _ (H.getRow (t := 27) (g := g13) mE) (H.getRow (t := 27) (g := g16) mE) (H.getRow (t := 38) (g := g17) mE) (H.getRow (t := 27) (g := g20) mE) (H.getRow (t := 64) (g := g31) mE) (H.getRow (t := 62) (g := g35) mE) (H.getRow (t := 62) (g := g39) mE) (H.getRow (t := 29) (g := g41) mE)).mono ?_); rintro e w1 ⟨v, rfl, hr⟩; obtain ⟨rfl, hb1⟩ := hr; replace H := H.grow hb1; clear hb1) | (with_reducible refine wpl rfl (dQ 48 rfl ?_); with_reducible refine (Stp.bsl (e := 62) (cs := #[.int .i64 1, .int .u64 1, .slice (some ⟨g13, 0, none⟩) 2 2, .slice (some ⟨g17, 0, none⟩) 1 1, .slice (some ⟨g20, 0, none⟩) 2 2, .int .u16 0, .int .u32 0, .int .u64 0, .slice none 0 0, .int .i64 2, .int .u64 0, .slice none 0 0, .slice none 0 0, .slice none 0 0, .int .u16 1, .int .u32 1, .int .u64 1, .slice none 0 0, .int .i64 2, .int .u64 0, .slice none 0 0, .slice none 0 0, .slice none 0 0, .int .u16 2, .int .u32 1, .int .u64 1, .slice none 0 0]) 48 rfl rfl (fun W => by kernel_rfl) H ?_); clear H; intro g48 w1 H; simp only [pS]) | (with_reducible refine wpl rfl (dQ 49 rfl ?_); with_reducible refine (Stp.build (v := (.agg #[.int .u16 1, .int .u32 1, .slice (some ⟨g48, 0, none⟩) 3 3])) 49 rfl rfl (fun W => by kernel_rfl) ?_); simp only [pS]) | (with_reducible refine wpl rfl (dQ 53 rfl ?_); with_reducible refine (Stp.bsl (e := 62) (cs := #[.int .i64 1, .int .u64 1, .slice (some ⟨g13, 0, none⟩) 2 2, .slice (some ⟨g17, 0, none⟩) 1 1, .slice (some ⟨g20, 0, none⟩) 2 2, .int .u16 0, .int .u32 0, .int .u64 0, .slice none 0 0, .int .i64 2, .int .u64 0, .slice none 0 0, .slice none 0 0, .slice none 0 0, .int .u16 2, .int .u32 1, .int .u64 1, .slice none 0 0]) 53 rfl rfl (fun W => by kernel_rfl) H ?_); clear H; intro g53 w1 H; simp only [pS]) | (with_reducible refine wpl rfl (dQ 54 rfl ?_); with_reducible refine (Stp.build (v := (.agg #[.int .u16 2, .int .u32 1, .slice (some ⟨g53, 0, none⟩) 2 2])) 54 rfl rfl (fun W => by kernel_rfl) ?_); simp only [pS]) | (with_reducible refine wpl rfl (dQ 55 rfl ?_); with_reducible refine (Stp.bsl (e := 29) (cs := #[.int .u16 1, .int .u32 1, .slice (some ⟨g48, 0, none⟩) 3 3, .int .u16 2, .int .u32 1, .slice (some ⟨g53, 0, none⟩) 2 2]) 55 rfl rfl (fun W => by kernel_rfl) H ?_); clear H; intro g55 w1 H; simp only [pS]) | (go_at_call 16; (with_reducible refine (aw2_ok g13 g16 g17 g20 g31 g48 g53 g55 _ (H.getRow (t := 27) (g := g13) mE) (H.getRow (t := 27) (g := g16) mE) (H.getRow (t := 38) (g := g17) mE) (H.getRow (t := 27) (g := g20) mE) (H.getRow (t := 64) (g := g31) mE) (H.getRow (t := 62) (g := g48) mE) (H.getRow (t := 62) (g := g53) mE) (H.getRow (t := 29) (g := g55) mE)).mono ?_); rintro e w1 ⟨v, rfl, hr⟩; obtain ⟨rfl, hb1⟩ := hr; replace H := H.grow hb1; clear hb1) | (with_reducible refine wpl rfl (dQ 1 rfl ?_); with_reducible refine (Stp.alloc 1 rfl rfl zero27 H ?_); clear H; intro g1 w1 H; simp only [pS]; simp only [nC] at H) | (with_reducible refine wpl rfl (dQ 2 rfl ?_); with_reducible refine (Stp.alloc 2 rfl rfl zero27 H ?_); clear H; intro g2 w1 H; simp only [pS]; simp only [nC] at H) | (with_reducible refine wpl rfl (stQ (ty := 27) rfl ?_); first | (with_reducible refine (Stp.str rfl size27 rfl rfl (by first | rfl | (simp [Value.oneCell']; done) | assumption) H uP sZ sZ ?_); clear H; intro w1 H; simp only [pS]) | (with_reducible refine (Stp.stl rfl size27 rfl rfl rfl rfl H uP (by simp) ?_); clear H; intro w1 H; simp only [pS]; simp only [List.drop_succ_cons, List.drop_zero, List.take_succ_cons, List.take_zero, List.nil_append, List.cons_append, Nat.reduceAdd] at H)) | (with_reducible refine wpl rfl (ldQ (ty := 27) rfl ?_); first | (with_reducible refine (Stp.ldor rfl agg27 size27 rfl H (by assumption) sZ (by assumption) ?_); simp only [pS]) | (with_reducible refine (Stp.ldr rfl agg27 size27 rfl H mR sZ ?_); simp only [pS]) | (with_reducible refine (Stp.ldl rfl agg27 size27 rfl H mR (by simp) ?_); simp only [pS]; simp only [List.drop_succ_cons, List.drop_zero, List.take_succ_cons, List.take_zero])) | (with_reducible refine wpl rfl (dQ 3 rfl ?_); with_reducible refine (Stp.alloc 3 rfl rfl zero62 H ?_); clear H; intro g3 w1 H; simp only [pS]; simp only [nC] at H) | (with_reducible refine wpl rfl (stQ (ty := 62) rfl ?_); first | (with_reducible refine (Stp.str rfl size62 rfl rfl (by first | rfl | (simp [Value.oneCell']; done) | assumption) H uP sZ sZ ?_); clear H; intro w1 H; simp only [pS]) | (with_reducible refine (Stp.stl rfl size62 rfl rfl rfl rfl H uP (by simp) ?_); clear H; intro w1 H; simp only [pS]; simp only [List.drop_succ_cons, List.drop_zero, List.take_succ_cons, List.take_zero, List.nil_append, List.cons_append, Nat.reduceAdd] at H)) | (with_reducible refine wpl rfl (ldQ (ty := 62) rfl ?_); first | (with_reducible refine (Stp.ldor rfl agg62 size62 rfl H (by assumption) sZ (by assumption) ?_); simp only [pS]) | (with_reducible refine (Stp.ldr rfl agg62 size62 rfl H mR sZ ?_); simp only [pS]) | (with_reducible refine (Stp.ldl rfl agg62 size62 rfl H mR (by simp) ?_); simp only [pS]; simp only [List.drop_succ_cons, List.drop_zero, List.take_succ_cons, List.take_zero])))
  go_ret
  exact ⟨_, rfl, rfl, H.below⟩
end Go.Proofs.Ytbepaafgcbgmfaa
