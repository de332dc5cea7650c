/- The contract of layer 18's Ledger (ledger), where it is one: Cut; the bounds stand in it. -/
import Derived.Test.YtmokecicjmjkbaaLed2
namespace Go.Proofs.Ytmokecicjmjkbaa
open Go.ChangeShapes Go.WideShapes Go.ChangeAt Go.RowKit Go.Maps
set_option linter.unusedVariables false
set_option linter.unusedSimpArgs false
/-- How many are cut off. -/
def cutN (ap n st : Nat) : Nat := if st < ap + 1 - n then 0 else match plc ap n st with | some k => k + 1 | none => n
set_option maxRecDepth 100000 in
set_option maxHeartbeats 4000000 in
theorem lcut_ok {B : Nat} {w0 : World} {L : List Res} (g0 ap st : Nat) (ks : List (Cm × Hd)) (hn : ks.length ≤ 64) (ha : ap + 1 < 18446744073709551616) (hna : ks.length ≤ ap + 1) (hs : st < 18446744073709551616) (w : World) (H0 : LdSt B w0 w g0 ap ks L) :
    Calls Try.prog 35 #[.pointer (some ⟨g0, 0, none⟩), .int .u64 (st : Int)] w (Ret fun v w' => v = .int .i64 ((cutN ap ks.length st : Nat) : Int) ∧ LdSt B w0 w' g0 ap (ks.drop (cutN ap ks.length st)) L) := by
  obtain ⟨ka, kc, G, H⟩ := H0
  obtain ⟨n, hkn⟩ : ∃ n, ks.length = n := ⟨_, rfl⟩
  have HKN := Lib.hid hkn
  rw [hkn] at H hn hna ⊢
  clear hkn
  have hcap := H.slo_cap (e := 36) (size := 10) (xs := kv ks) mE
  by_cases h1 : st < ap + 1 - n
  · have HC : Hid (cutN ap n st = 0) := Lib.hid (by unfold cutN; rw [if_pos h1])
    have h1i : (st : Int) < ((ap + 1 - n : Nat) : Int) := by omega
    obtain ⟨f, hf⟩ : ∃ f, ap + 1 - n = f := ⟨_, rfl⟩
    simp only [hf] at h1i
    have HF := Lib.hid hf
    clear h1
    go_enter Try.func35, Try.ntmps35
    go_wp2_with (first | (go_at_call 32; (with_reducible refine (lFrom_ok g0 ap n kc _ (by omega) hna (by omega) _ (H.getHeap mE)).mono ?_); rintro e w1 ⟨v, rfl, hr⟩; obtain ⟨rfl, hb1⟩ := hr; replace H := H.grow hb1; clear hb1; rw [HF.out]) | (with_reducible refine wpl rfl (Stp.ldc rfl agg93 rfl H mR cE ?_); simp only [pS]) | (with_reducible refine wpl rfl (Stp.ldo rfl agg93 rfl H (by assumption) (by assumption) ?_); simp only [pS]) | (with_reducible refine wpl rfl (Stp.stc rfl size93 rfl rfl rfl rfl H uP (by first | omega | (simp; done) | (simp; omega)) ?_); clear H; intro w1 H; simp only [pS]; simp only [pE, nC, pS] at H))
    go_ret
    exact ⟨_, rfl, by rw [HC.out]; rfl, ka, kc, G, by rw [HC.out, List.drop_zero, HKN.out]; exact H.sub sU⟩
  · have h1i : ¬ (st : Int) < ((ap + 1 - n : Nat) : Int) := by omega
    obtain ⟨f, hf⟩ : ∃ f, ap + 1 - n = f := ⟨_, rfl⟩
    simp only [hf] at h1i
    have HF := Lib.hid hf
    cases hp : plc ap n st with
    | none =>
      have HC : Hid (cutN ap n st = n) := Lib.hid (by unfold cutN; rw [if_neg h1, hp])
      have HP := Lib.hid hp
      clear hp h1
      go_enter Try.func35, Try.ntmps35
      go_wp2_with (first | (go_at_call 32; (with_reducible refine (lFrom_ok g0 ap n kc _ (by omega) hna (by omega) _ (H.getHeap mE)).mono ?_); rintro e w1 ⟨v, rfl, hr⟩; obtain ⟨rfl, hb1⟩ := hr; replace H := H.grow hb1; clear hb1; rw [HF.out]) | (go_at_call 50; (with_reducible refine (place_ok g0 ap n kc st _ (by omega) hs (by omega) _ (H.getHeap mE)).mono ?_); rintro e w1 ⟨v, rfl, hr⟩; rw [HP.out] at hr; obtain ⟨rfl, hb1⟩ := hr; replace H := H.grow hb1; clear hb1) | (with_reducible refine wpl rfl (Stp.slfromN (k := n) (size := 10) 36 rfl rfl Try.underlying93 size36 rfl rfl rfl (by omega) ?_); intro A36 hA36; have H36 := Lib.hid hA36; clear hA36; simp only [pS]) | (with_reducible refine wpl rfl (Stp.ldc rfl agg93 rfl H mR cE ?_); simp only [pS]) | (with_reducible refine wpl rfl (Stp.ldo rfl agg93 rfl H (by assumption) (by assumption) ?_); simp only [pS]) | (with_reducible refine wpl rfl (Stp.stc rfl size93 rfl rfl rfl rfl H uP (by first | omega | (simp; done) | (simp; omega)) ?_); clear H; intro w1 H; simp only [pS]; simp only [pE, nC, pS] at H))
      go_ret
      refine ⟨_, rfl, by rw [HC.out]; first | rfl | simp, A36, kc - (n), G, ?_⟩
      rw [HC.out]
      have hl : (ks.drop (n)).length = n - (n) := by rw [List.length_drop, HKN.out]
      rw [hl, ← kv_drop]
      have H2 := St.slo_drop (k := n) (a' := A36) (H.pull (r := slo 36 10 (.slice ka n kc) n (kv ks)) pU) Upd.head (by omega) H36.out
      have H3 := St.cmsd (ls := ks.drop (n)) (H2.pull (r := cmsr G ks) pU) (fun p hp => List.mem_of_mem_drop hp)
      exact ((H3.pull (r := slo 36 10 (.slice A36 (n - (n)) (kc - (n))) (n - (n)) _) pU).pull (r := row 97 g0 _) pU).sub sU

    | some k =>
      have hk := plc_lt hp
      have HC : Hid (cutN ap n st = k + 1) := Lib.hid (by unfold cutN; rw [if_neg h1, hp])
      have HP := Lib.hid hp
      clear hp h1
      go_enter Try.func35, Try.ntmps35
      go_wp2_with (first | (go_at_call 32; (with_reducible refine (lFrom_ok g0 ap n kc _ (by omega) hna (by omega) _ (H.getHeap mE)).mono ?_); rintro e w1 ⟨v, rfl, hr⟩; obtain ⟨rfl, hb1⟩ := hr; replace H := H.grow hb1; clear hb1; rw [HF.out]) | (go_at_call 50; (with_reducible refine (place_ok g0 ap n kc st _ (by omega) hs (by omega) _ (H.getHeap mE)).mono ?_); rintro e w1 ⟨v, rfl, hr⟩; rw [HP.out] at hr; obtain ⟨rfl, hb1⟩ := hr; replace H := H.grow hb1; clear hb1) | (with_reducible refine wpl rfl (Stp.slfromN (k := k + 1) (size := 10) 36 rfl rfl Try.underlying93 size36 rfl rfl (by simp) (by omega) ?_); intro A36 hA36; have H36 := Lib.hid hA36; clear hA36; simp only [pS]) | (with_reducible refine wpl rfl (Stp.ldc rfl agg93 rfl H mR cE ?_); simp only [pS]) | (with_reducible refine wpl rfl (Stp.ldo rfl agg93 rfl H (by assumption) (by assumption) ?_); simp only [pS]) | (with_reducible refine wpl rfl (Stp.stc rfl size93 rfl rfl rfl rfl H uP (by first | omega | (simp; done) | (simp; omega)) ?_); clear H; intro w1 H; simp only [pS]; simp only [pE, nC, pS] at H))
      go_ret
      refine ⟨_, rfl, by rw [HC.out]; first | rfl | simp, A36, kc - (k + 1), G, ?_⟩
      rw [HC.out]
      have hl : (ks.drop (k + 1)).length = n - (k + 1) := by rw [List.length_drop, HKN.out]
      rw [hl, ← kv_drop]
      have H2 := St.slo_drop (k := k + 1) (a' := A36) (H.pull (r := slo 36 10 (.slice ka n kc) n (kv ks)) pU) Upd.head (by omega) H36.out
      have H3 := St.cmsd (ls := ks.drop (k + 1)) (H2.pull (r := cmsr G ks) pU) (fun p hp => List.mem_of_mem_drop hp)
      exact ((H3.pull (r := slo 36 10 (.slice A36 (n - (k + 1)) (kc - (k + 1))) (n - (k + 1)) _) pU).pull (r := row 97 g0 _) pU).sub sU

end Go.Proofs.Ytmokecicjmjkbaa
