/- Contracts of layer 18's Ledger (ledger), where it is one: what is read of it; the bounds stand in each. -/
import Derived.Test.YtmokecicjmjkbaaVw10
import Derived.Test.YtmokecicjmjkbaaOff
namespace Go.Proofs.Ytmokecicjmjkbaa
open Go.ChangeShapes Go.WideShapes Go.ChangeAt Go.RowKit Go.Maps
set_option linter.unusedVariables false
set_option linter.unusedSimpArgs false
set_option maxRecDepth 100000
theorem lApplied_ok (g0 ap n kc : Nat) (ka : Option Addr) (w : World) (hr : w.heap[g0]? = some (.cells #[.int .u64 (ap : Int), .slice ka n kc] 97 (0, 0))) :
    Calls Try.prog 31 #[.pointer (some ⟨g0, 0, none⟩)] w (Ret fun v w' => v = .int .u64 (ap : Int) ∧ Below w.heap.size w w') := by
  have H := St.init w
  have hc0 : w.cell? ⟨g0, 0, none⟩ = some (.int .u64 (ap : Int)) := by rw [cell_of_rowAt (rowAt_of hr)]; rfl
  have hc1 : w.cell? ⟨g0, 1, none⟩ = some (.slice ka n kc) := by rw [cell_of_rowAt (rowAt_of hr)]; rfl
  have hlt : g0 < w.heap.size := rowAt_lt (rowAt_of hr)
  clear hr
  go_enter Try.func31, Try.ntmps31
  go_wp2_with (first | (with_reducible refine wpl rfl (Stp.ldc rfl agg26 rfl H mR cE ?_); simp only [pS]) | (with_reducible refine wpl rfl (Stp.ldo rfl agg26 rfl H (by assumption) (by assumption) ?_); simp only [pS]))
  go_ret
  exact ⟨_, rfl, rfl, H.below⟩
theorem lKept_ok (g0 ap n kc : Nat) (ka : Option Addr) (w : World) (hr : w.heap[g0]? = some (.cells #[.int .u64 (ap : Int), .slice ka n kc] 97 (0, 0))) :
    Calls Try.prog 30 #[.pointer (some ⟨g0, 0, none⟩)] w (Ret fun v w' => v = .int .i64 (n : Int) ∧ Below w.heap.size w w') := by
  have H := St.init w
  have hc0 : w.cell? ⟨g0, 0, none⟩ = some (.int .u64 (ap : Int)) := by rw [cell_of_rowAt (rowAt_of hr)]; rfl
  have hc1 : w.cell? ⟨g0, 1, none⟩ = some (.slice ka n kc) := by rw [cell_of_rowAt (rowAt_of hr)]; rfl
  have hlt : g0 < w.heap.size := rowAt_lt (rowAt_of hr)
  clear hr
  go_enter Try.func30, Try.ntmps30
  go_wp2_with (first | (with_reducible refine wpl rfl (Stp.ldc rfl agg93 rfl H mR cE ?_); simp only [pS]) | (with_reducible refine wpl rfl (Stp.ldo rfl agg93 rfl H (by assumption) (by assumption) ?_); simp only [pS]))
  go_ret
  exact ⟨_, rfl, rfl, H.below⟩
theorem lRoom_ok (g0 ap n kc : Nat) (ka : Option Addr) (hn : n ≤ 64) (w : World) (hr : w.heap[g0]? = some (.cells #[.int .u64 (ap : Int), .slice ka n kc] 97 (0, 0))) :
    Calls Try.prog 34 #[.pointer (some ⟨g0, 0, none⟩)] w (Ret fun v w' => v = .int .i64 (64 - (n : Int)) ∧ Below w.heap.size w w') := by
  have H := St.init w
  have hc0 : w.cell? ⟨g0, 0, none⟩ = some (.int .u64 (ap : Int)) := by rw [cell_of_rowAt (rowAt_of hr)]; rfl
  have hc1 : w.cell? ⟨g0, 1, none⟩ = some (.slice ka n kc) := by rw [cell_of_rowAt (rowAt_of hr)]; rfl
  have hlt : g0 < w.heap.size := rowAt_lt (rowAt_of hr)
  clear hr
  go_enter Try.func34, Try.ntmps34
  go_wp2_with (first | (with_reducible refine wpl rfl (Stp.ldc rfl agg93 rfl H mR cE ?_); simp only [pS]) | (with_reducible refine wpl rfl (Stp.ldo rfl agg93 rfl H (by assumption) (by assumption) ?_); simp only [pS]))
  go_ret
  exact ⟨_, rfl, rfl, H.below⟩
theorem lFrom_ok (g0 ap n kc : Nat) (ka : Option Addr) (ha : ap + 1 < 18446744073709551616) (hn : n ≤ ap + 1) (hn2 : n ≤ 1000000) (w : World) (hr : w.heap[g0]? = some (.cells #[.int .u64 (ap : Int), .slice ka n kc] 97 (0, 0))) :
    Calls Try.prog 32 #[.pointer (some ⟨g0, 0, none⟩)] w (Ret fun v w' => v = .int .u64 ((ap + 1 - n : Nat) : Int) ∧ Below w.heap.size w w') := by
  have H := St.init w
  have hc0 : w.cell? ⟨g0, 0, none⟩ = some (.int .u64 (ap : Int)) := by rw [cell_of_rowAt (rowAt_of hr)]; rfl
  have hc1 : w.cell? ⟨g0, 1, none⟩ = some (.slice ka n kc) := by rw [cell_of_rowAt (rowAt_of hr)]; rfl
  have hlt : g0 < w.heap.size := rowAt_lt (rowAt_of hr)
  clear hr
  have W1 : Hid (IntKind.u64.wrap ((ap : Int) + 1) = (ap : Int) + 1) := Lib.hid (wrap_u64_in _ (by omega) (by omega))
  have W2 : Hid (IntKind.u64.wrap (n : Int) = (n : Int)) := Lib.hid (wrap_u64_in _ (by omega) (by omega))
  have W3 : Hid (IntKind.u64.wrap ((ap : Int) + 1 - (n : Int)) = ((ap + 1 - n : Nat) : Int)) := Lib.hid (by rw [wrap_u64_in _ (by omega) (by omega)]; omega)
  go_enter Try.func32, Try.ntmps32
  go_wp2_with fail
  refine rg_begin 13 rfl (S := fun W => St _ _ W _) (by kernel_rfl) H.drew ?_
  replace H := H.drew
  have HS := H
  refine rg_take (i := 0) rfl kR kR kR (Yld.move rfl rfl) HS ?_; simp only [pS, pE]
  refine rg_take (i := 1) rfl kR kR kR (Yld.o rfl) HS ?_; simp only [pS]
  refine rg_take (i := 2) rfl kR kR kR (Yld.o rfl) HS ?_; simp only [pS]
  first | (refine rg_take (i := 3) rfl kR kR kR (Yld.ldc rfl rfl agg26 rfl mR cE) HS ?_; simp only [pS]) | (refine rg_take (i := 3) rfl kR kR kR (Yld.ldo rfl rfl agg26 rfl (by assumption) (by assumption)) HS ?_; simp only [pS])
  refine rg_take (i := 4) rfl kR kR kR (Yld.of (v := .int .u64 ((ap : Int) + 1)) rfl (fun W _ => by go_simp; first | done | exact W1.out)) HS ?_; simp only [pS, pE]
  refine rg_take (i := 5) rfl kR kR kR (Yld.move rfl rfl) HS ?_; simp only [pS, pE]
  refine rg_take (i := 6) rfl kR kR kR (Yld.o rfl) HS ?_; simp only [pS]
  refine rg_take (i := 7) rfl kR kR kR (Yld.o rfl) HS ?_; simp only [pS]
  first | (refine rg_take (i := 8) rfl kR kR kR (Yld.ldc rfl rfl agg93 rfl mR cE) HS ?_; simp only [pS]) | (refine rg_take (i := 8) rfl kR kR kR (Yld.ldo rfl rfl agg93 rfl (by assumption) (by assumption)) HS ?_; simp only [pS])
  refine rg_take (i := 9) rfl kR kR kR (Yld.o rfl) HS ?_; simp only [pS]
  refine rg_take (i := 10) rfl kR kR kR (Yld.of (v := .int .u64 (n : Int)) rfl (fun W _ => by go_simp; first | done | exact W2.out)) HS ?_; simp only [pS, pE]
  refine rg_take (i := 11) rfl kR kR kR (Yld.of (v := .int .u64 ((ap + 1 - n : Nat) : Int)) rfl (fun W _ => by go_simp; first | done | exact W3.out)) HS ?_; simp only [pS, pE]
  refine rg_take (i := 12) rfl kR kR kR (Yld.assign rfl rfl) HS ?_; simp only [pS, pE]
  refine rg_done (by kernel_rfl) ?_
  go_wp2_with fail
  go_ret
  exact ⟨_, rfl, rfl, H.below⟩

/-- Where a slot's command is. -/
def plc (ap n slot : Nat) : Option Nat := if slot ≤ ap ∧ ap - slot < n then some (n - 1 - (ap - slot)) else none
theorem plc_lt {ap n slot k : Nat} (h : plc ap n slot = some k) : k < n := by
  unfold plc at h; split at h
  · injection h with h; omega
  · cases h
set_option maxHeartbeats 1000000
theorem place_ok (g0 ap n kc slot : Nat) (ka : Option Addr) (ha : ap < 18446744073709551616) (hs : slot < 18446744073709551616) (hn : n ≤ 1000000) (w : World) (hr : w.heap[g0]? = some (.cells #[.int .u64 (ap : Int), .slice ka n kc] 97 (0, 0))) :
    Calls Try.prog 50 #[.pointer (some ⟨g0, 0, none⟩), .int .u64 (slot : Int)] w (Ret fun v w' => v = (match plc ap n slot with | some k => .tuple #[.int .i64 (k : Int), .bool true] | none => .tuple #[.int .i64 0, .bool false]) ∧ Below w.heap.size w w') := by
  have H := St.init w
  have hc0 : w.cell? ⟨g0, 0, none⟩ = some (.int .u64 (ap : Int)) := by rw [cell_of_rowAt (rowAt_of hr)]; rfl
  have hc1 : w.cell? ⟨g0, 1, none⟩ = some (.slice ka n kc) := by rw [cell_of_rowAt (rowAt_of hr)]; rfl
  have hlt : g0 < w.heap.size := rowAt_lt (rowAt_of hr)
  clear hr
  by_cases h1 : slot ≤ ap
  · have h1d : decide (ap < slot) = false := decide_eq_false (by omega)
    have W1 : Hid (IntKind.u64.wrap ((ap : Int) - (slot : Int)) = ((ap - slot : Nat) : Int)) := Lib.hid (by rw [wrap_u64_in _ (by omega) (by omega)]; omega)
    have W2 : Hid (IntKind.u64.wrap (n : Int) = (n : Int)) := Lib.hid (wrap_u64_in _ (by omega) (by omega))
    by_cases h2 : ap - slot < n
    · have hp : plc ap n slot = some (n - 1 - (ap - slot)) := by unfold plc; rw [if_pos ⟨h1, h2⟩]
      rw [hp]
      have h2d : decide (n ≤ ap - slot) = false := decide_eq_false (by omega)
      have W3 : Hid (IntKind.i64.wrap ((n : Int) - 1) = (n : Int) - 1) := Lib.hid (by rw [IntKind.wrap_i64]; omega)
      have W4 : Hid (IntKind.i64.wrap ((ap - slot : Nat) : Int) = ((ap - slot : Nat) : Int)) := Lib.hid (by rw [IntKind.wrap_i64]; omega)
      have W5 : Hid (IntKind.i64.wrap ((n : Int) - 1 - ((ap - slot : Nat) : Int)) = ((n - 1 - (ap - slot) : Nat) : Int)) := Lib.hid (by rw [IntKind.wrap_i64]; omega)
      obtain ⟨q, hq⟩ : ∃ q, ap - slot = q := ⟨_, rfl⟩
      obtain ⟨r, hr⟩ : ∃ r, n - 1 - q = r := ⟨_, rfl⟩
      simp only [hq, hr] at *
      clear hq hr hp h1 h2
      go_enter Try.func50, Try.ntmps50
      go_wp2_with fail
      refine rg_begin 25 rfl (S := fun W => St _ _ W _) (by kernel_rfl) H.drew ?_
      replace H := H.drew
      have HS := H
      refine rg_take (i := 0) rfl kR kR kR (Yld.move rfl rfl) HS ?_; simp only [pS, pE]
      refine rg_take (i := 1) rfl kR kR kR (Yld.o rfl) HS ?_; simp only [pS]
      refine rg_take (i := 2) rfl kR kR kR (Yld.move rfl rfl) HS ?_; simp only [pS, pE]
      refine rg_take (i := 3) rfl kR kR kR (Yld.move rfl rfl) HS ?_; simp only [pS, pE]
      refine rg_take (i := 4) rfl kR kR kR (Yld.move rfl rfl) HS ?_; simp only [pS, pE]
      refine rg_take (i := 5) rfl kR kR kR (Yld.o rfl) HS ?_; simp only [pS]
      refine rg_take (i := 6) rfl kR kR kR (Yld.o rfl) HS ?_; simp only [pS]
      first | (refine rg_take (i := 7) rfl kR kR kR (Yld.ldc rfl rfl agg26 rfl mR cE) HS ?_; simp only [pS]) | (refine rg_take (i := 7) rfl kR kR kR (Yld.ldo rfl rfl agg26 rfl (by assumption) (by assumption)) HS ?_; simp only [pS])
      refine rg_take (i := 8) rfl kR kR kR (Yld.o rfl) HS ?_; simp only [pS]
      refine rg_take (i := 9) rfl kR kR kR (Yld.pick rfl rfl rfl) HS ?_; simp only [pS, pE]
      refine rg_take (i := 10) rfl kR kR kR (Yld.move rfl rfl) HS ?_; simp only [pS, pE]
      refine rg_take (i := 11) rfl kR kR kR (Yld.move rfl rfl) HS ?_; simp only [pS, pE]
      refine rg_take (i := 12) rfl kR kR kR (Yld.o rfl) HS ?_; simp only [pS]
      refine rg_take (i := 13) rfl kR kR kR (Yld.o rfl) HS ?_; simp only [pS]
      first | (refine rg_take (i := 14) rfl kR kR kR (Yld.ldc rfl rfl agg26 rfl mR cE) HS ?_; simp only [pS]) | (refine rg_take (i := 14) rfl kR kR kR (Yld.ldo rfl rfl agg26 rfl (by assumption) (by assumption)) HS ?_; simp only [pS])
      refine rg_take (i := 15) rfl kR kR kR (Yld.move rfl rfl) HS ?_; simp only [pS, pE]
      refine rg_take (i := 16) rfl kR kR kR (Yld.of (v := .int .u64 ((q : Nat) : Int)) rfl (fun W _ => by go_simp; first | done | exact W1.out)) HS ?_; simp only [pS, pE]
      refine rg_take (i := 17) rfl kR kR kR (Yld.move rfl rfl) HS ?_; simp only [pS, pE]
      refine rg_take (i := 18) rfl kR kR kR (Yld.o rfl) HS ?_; simp only [pS]
      refine rg_take (i := 19) rfl kR kR kR (Yld.o rfl) HS ?_; simp only [pS]
      first | (refine rg_take (i := 20) rfl kR kR kR (Yld.ldc rfl rfl agg93 rfl mR cE) HS ?_; simp only [pS]) | (refine rg_take (i := 20) rfl kR kR kR (Yld.ldo rfl rfl agg93 rfl (by assumption) (by assumption)) HS ?_; simp only [pS])
      refine rg_take (i := 21) rfl kR kR kR (Yld.o rfl) HS ?_; simp only [pS]
      refine rg_take (i := 22) rfl kR kR kR (Yld.of (v := .int .u64 (n : Int)) rfl (fun W _ => by go_simp; first | done | exact W2.out)) HS ?_; simp only [pS, pE]
      refine rg_take (i := 23) rfl kR kR kR (Yld.o rfl) HS ?_; simp only [pS]
      refine rg_take (i := 24) rfl kR kR kR (Yld.pick rfl rfl rfl) HS ?_; simp only [pS, pE]
      refine rg_done (by kernel_rfl) ?_
      go_wp2_with fail
      refine rg_begin 16 rfl (S := fun W => St _ _ W _) (by kernel_rfl) H.drew ?_
      replace H := H.drew
      have HS := H
      refine rg_take (i := 0) rfl kR kR kR (Yld.move rfl rfl) HS ?_; simp only [pS, pE]
      refine rg_take (i := 1) rfl kR kR kR (Yld.o rfl) HS ?_; simp only [pS]
      refine rg_take (i := 2) rfl kR kR kR (Yld.o rfl) HS ?_; simp only [pS]
      first | (refine rg_take (i := 3) rfl kR kR kR (Yld.ldc rfl rfl agg93 rfl mR cE) HS ?_; simp only [pS]) | (refine rg_take (i := 3) rfl kR kR kR (Yld.ldo rfl rfl agg93 rfl (by assumption) (by assumption)) HS ?_; simp only [pS])
      refine rg_take (i := 4) rfl kR kR kR (Yld.o rfl) HS ?_; simp only [pS]
      refine rg_take (i := 5) rfl kR kR kR (Yld.of (v := .int .i64 ((n : Int) - 1)) rfl (fun W _ => by go_simp; first | done | exact W3.out)) HS ?_; simp only [pS, pE]
      refine rg_take (i := 6) rfl kR kR kR (Yld.move rfl rfl) HS ?_; simp only [pS, pE]
      refine rg_take (i := 7) rfl kR kR kR (Yld.o rfl) HS ?_; simp only [pS]
      refine rg_take (i := 8) rfl kR kR kR (Yld.o rfl) HS ?_; simp only [pS]
      first | (refine rg_take (i := 9) rfl kR kR kR (Yld.ldc rfl rfl agg26 rfl mR cE) HS ?_; simp only [pS]) | (refine rg_take (i := 9) rfl kR kR kR (Yld.ldo rfl rfl agg26 rfl (by assumption) (by assumption)) HS ?_; simp only [pS])
      refine rg_take (i := 10) rfl kR kR kR (Yld.move rfl rfl) HS ?_; simp only [pS, pE]
      refine rg_take (i := 11) rfl kR kR kR (Yld.of (v := .int .u64 ((q : Nat) : Int)) rfl (fun W _ => by go_simp; first | done | exact W1.out)) HS ?_; simp only [pS, pE]
      refine rg_take (i := 12) rfl kR kR kR (Yld.of (v := .int .i64 ((q : Nat) : Int)) rfl (fun W _ => by go_simp; first | done | exact W4.out)) HS ?_; simp only [pS, pE]
      refine rg_take (i := 13) rfl kR kR kR (Yld.of (v := .int .i64 ((r : Nat) : Int)) rfl (fun W _ => by go_simp; first | done | exact W5.out)) HS ?_; simp only [pS, pE]
      refine rg_take (i := 14) rfl kR kR kR (Yld.assign rfl rfl) HS ?_; simp only [pS, pE]
      refine rg_take (i := 15) rfl kR kR kR (Yld.assign rfl rfl) HS ?_; simp only [pS, pE]
      refine rg_done (by kernel_rfl) ?_
      go_wp2_with fail
      go_ret2
      exact ⟨_, rfl, rfl, H.below⟩
    · have hp : plc ap n slot = none := by unfold plc; rw [if_neg (fun h => h2 h.2)]
      rw [hp]
      have h2d : decide (n ≤ ap - slot) = true := decide_eq_true (by omega)
      obtain ⟨q, hq⟩ : ∃ q, ap - slot = q := ⟨_, rfl⟩
      simp only [hq] at *
      clear hq hp h1 h2
      go_enter Try.func50, Try.ntmps50
      go_wp2_with fail
      refine rg_begin 25 rfl (S := fun W => St _ _ W _) (by kernel_rfl) H.drew ?_
      replace H := H.drew
      have HS := H
      refine rg_take (i := 0) rfl kR kR kR (Yld.move rfl rfl) HS ?_; simp only [pS, pE]
      refine rg_take (i := 1) rfl kR kR kR (Yld.o rfl) HS ?_; simp only [pS]
      refine rg_take (i := 2) rfl kR kR kR (Yld.move rfl rfl) HS ?_; simp only [pS, pE]
      refine rg_take (i := 3) rfl kR kR kR (Yld.move rfl rfl) HS ?_; simp only [pS, pE]
      refine rg_take (i := 4) rfl kR kR kR (Yld.move rfl rfl) HS ?_; simp only [pS, pE]
      refine rg_take (i := 5) rfl kR kR kR (Yld.o rfl) HS ?_; simp only [pS]
      refine rg_take (i := 6) rfl kR kR kR (Yld.o rfl) HS ?_; simp only [pS]
      first | (refine rg_take (i := 7) rfl kR kR kR (Yld.ldc rfl rfl agg26 rfl mR cE) HS ?_; simp only [pS]) | (refine rg_take (i := 7) rfl kR kR kR (Yld.ldo rfl rfl agg26 rfl (by assumption) (by assumption)) HS ?_; simp only [pS])
      refine rg_take (i := 8) rfl kR kR kR (Yld.o rfl) HS ?_; simp only [pS]
      refine rg_take (i := 9) rfl kR kR kR (Yld.pick rfl rfl rfl) HS ?_; simp only [pS, pE]
      refine rg_take (i := 10) rfl kR kR kR (Yld.move rfl rfl) HS ?_; simp only [pS, pE]
      refine rg_take (i := 11) rfl kR kR kR (Yld.move rfl rfl) HS ?_; simp only [pS, pE]
      refine rg_take (i := 12) rfl kR kR kR (Yld.o rfl) HS ?_; simp only [pS]
      refine rg_take (i := 13) rfl kR kR kR (Yld.o rfl) HS ?_; simp only [pS]
      first | (refine rg_take (i := 14) rfl kR kR kR (Yld.ldc rfl rfl agg26 rfl mR cE) HS ?_; simp only [pS]) | (refine rg_take (i := 14) rfl kR kR kR (Yld.ldo rfl rfl agg26 rfl (by assumption) (by assumption)) HS ?_; simp only [pS])
      refine rg_take (i := 15) rfl kR kR kR (Yld.move rfl rfl) HS ?_; simp only [pS, pE]
      refine rg_take (i := 16) rfl kR kR kR (Yld.of (v := .int .u64 ((q : Nat) : Int)) rfl (fun W _ => by go_simp; first | done | exact W1.out)) HS ?_; simp only [pS, pE]
      refine rg_take (i := 17) rfl kR kR kR (Yld.move rfl rfl) HS ?_; simp only [pS, pE]
      refine rg_take (i := 18) rfl kR kR kR (Yld.o rfl) HS ?_; simp only [pS]
      refine rg_take (i := 19) rfl kR kR kR (Yld.o rfl) HS ?_; simp only [pS]
      first | (refine rg_take (i := 20) rfl kR kR kR (Yld.ldc rfl rfl agg93 rfl mR cE) HS ?_; simp only [pS]) | (refine rg_take (i := 20) rfl kR kR kR (Yld.ldo rfl rfl agg93 rfl (by assumption) (by assumption)) HS ?_; simp only [pS])
      refine rg_take (i := 21) rfl kR kR kR (Yld.o rfl) HS ?_; simp only [pS]
      refine rg_take (i := 22) rfl kR kR kR (Yld.of (v := .int .u64 (n : Int)) rfl (fun W _ => by go_simp; first | done | exact W2.out)) HS ?_; simp only [pS, pE]
      refine rg_take (i := 23) rfl kR kR kR (Yld.o rfl) HS ?_; simp only [pS]
      refine rg_take (i := 24) rfl kR kR kR (Yld.pick rfl rfl rfl) HS ?_; simp only [pS, pE]
      refine rg_done (by kernel_rfl) ?_
      go_wp2_with fail
      go_ret2
      exact ⟨_, rfl, rfl, H.below⟩
  · have hp : plc ap n slot = none := by unfold plc; rw [if_neg (fun h => h1 h.1)]
    rw [hp]
    have h1d : decide (ap < slot) = true := decide_eq_true (by omega)
    clear hp h1
    go_enter Try.func50, Try.ntmps50
    go_wp2_with fail
    refine rg_begin 25 rfl (S := fun W => St _ _ W _) (by kernel_rfl) H.drew ?_
    replace H := H.drew
    have HS := H
    refine rg_take (i := 0) rfl kR kR kR (Yld.move rfl rfl) HS ?_; simp only [pS, pE]
    refine rg_take (i := 1) rfl kR kR kR (Yld.o rfl) HS ?_; simp only [pS]
    refine rg_take (i := 2) rfl kR kR kR (Yld.move rfl rfl) HS ?_; simp only [pS, pE]
    refine rg_take (i := 3) rfl kR kR kR (Yld.move rfl rfl) HS ?_; simp only [pS, pE]
    refine rg_take (i := 4) rfl kR kR kR (Yld.move rfl rfl) HS ?_; simp only [pS, pE]
    refine rg_take (i := 5) rfl kR kR kR (Yld.o rfl) HS ?_; simp only [pS]
    refine rg_take (i := 6) rfl kR kR kR (Yld.o rfl) HS ?_; simp only [pS]
    first | (refine rg_take (i := 7) rfl kR kR kR (Yld.ldc rfl rfl agg26 rfl mR cE) HS ?_; simp only [pS]) | (refine rg_take (i := 7) rfl kR kR kR (Yld.ldo rfl rfl agg26 rfl (by assumption) (by assumption)) HS ?_; simp only [pS])
    refine rg_take (i := 8) rfl kR kR kR (Yld.o rfl) HS ?_; simp only [pS]
    refine rg_take (i := 9) rfl kR kR kR (Yld.pick rfl rfl rfl) HS ?_; simp only [pS, pE]
    refine rg_take (i := 10) rfl kR kR kR (Yld.move rfl rfl) HS ?_; simp only [pS, pE]
    refine rg_take (i := 11) rfl kR kR kR (Yld.skip rfl) HS ?_; simp only [pS]
    refine rg_take (i := 12) rfl kR kR kR (Yld.skip rfl) HS ?_; simp only [pS]
    refine rg_take (i := 13) rfl kR kR kR (Yld.skip rfl) HS ?_; simp only [pS]
    refine rg_take (i := 14) rfl kR kR kR (Yld.skip rfl) HS ?_; simp only [pS]
    refine rg_take (i := 15) rfl kR kR kR (Yld.skip rfl) HS ?_; simp only [pS]
    refine rg_take (i := 16) rfl kR kR kR (Yld.skip rfl) HS ?_; simp only [pS]
    refine rg_take (i := 17) rfl kR kR kR (Yld.skip rfl) HS ?_; simp only [pS]
    refine rg_take (i := 18) rfl kR kR kR (Yld.skip rfl) HS ?_; simp only [pS]
    refine rg_take (i := 19) rfl kR kR kR (Yld.skip rfl) HS ?_; simp only [pS]
    refine rg_take (i := 20) rfl kR kR kR (Yld.skip rfl) HS ?_; simp only [pS]
    refine rg_take (i := 21) rfl kR kR kR (Yld.skip rfl) HS ?_; simp only [pS]
    refine rg_take (i := 22) rfl kR kR kR (Yld.skip rfl) HS ?_; simp only [pS]
    refine rg_take (i := 23) rfl kR kR kR (Yld.skip rfl) HS ?_; simp only [pS]
    refine rg_take (i := 24) rfl kR kR kR (Yld.pick rfl rfl rfl) HS ?_; simp only [pS, pE]
    refine rg_done (by kernel_rfl) ?_
    go_wp2_with fail
    go_ret2
    exact ⟨_, rfl, rfl, H.below⟩
end Go.Proofs.Ytmokecicjmjkbaa
