/- Contracts of layer 18's Ledger (ledger), where it is one: what is read of it; the bounds stand in each. Contracts of layer 18's Ledger (ledger), where it is one: New, Add; the bounds stand in each. -/
import Derived.Test.YtmokecicjmjkbaaGy14
import Derived.Test.YtmokecicjmjkbaaGy19
namespace Go.Proofs.Ytmokecicjmjkbaa
open Go.ChangeShapes Go.WideShapes Go.ChangeAt Go.RowKit Go.Maps
set_option linter.unusedVariables false
set_option linter.unusedSimpArgs false
set_option maxRecDepth 100000
theorem lApplied_ok (g0 ap n kc : Nat) (ka : Option Addr) (w : World) (hr : w.heap[g0]? = some (.cells #[.int .u64 (ap : Int), .slice ka n kc] 97 (0, 0))) :
    Calls Try.prog 31 #[.pointer (some ⟨g0, 0, none⟩)] w (Ret fun v w' => v = .int .u64 (ap : Int) ∧ Below w.heap.size w w') := by
  have H := St.init w
  have hc0 : w.cell? ⟨g0, 0, none⟩ = some (.int .u64 (ap : Int)) := by rw [cell_of_rowAt (rowAt_of hr)]; rfl
  have hc1 : w.cell? ⟨g0, 1, none⟩ = some (.slice ka n kc) := by rw [cell_of_rowAt (rowAt_of hr)]; rfl
  have hlt : g0 < w.heap.size := rowAt_lt (rowAt_of hr)
  clear hr
  go_enter Try.func31, Try.ntmps31
  go_wp2_with (first | (with_reducible refine wpl rfl (ldQ (ty := 26) rfl ?_); first | (with_reducible refine (Stp.ldo rfl agg26 rfl H (by assumption) (by assumption) ?_); simp only [pS]) | (with_reducible refine (Stp.ldc rfl agg26 rfl H mR cE ?_); simp only [pS])))
  go_ret
  exact ⟨_, rfl, rfl, H.below⟩
theorem lFrom_ok (g0 ap n kc : Nat) (ka : Option Addr) (ha : ap + 1 < 18446744073709551616) (hn : n ≤ ap + 1) (hn2 : n ≤ 1000000) (w : World) (hr : w.heap[g0]? = some (.cells #[.int .u64 (ap : Int), .slice ka n kc] 97 (0, 0))) :
    Calls Try.prog 32 #[.pointer (some ⟨g0, 0, none⟩)] w (Ret fun v w' => v = .int .u64 ((ap + 1 - n : Nat) : Int) ∧ Below w.heap.size w w') := by
  have H := St.init w
  have hc0 : w.cell? ⟨g0, 0, none⟩ = some (.int .u64 (ap : Int)) := by rw [cell_of_rowAt (rowAt_of hr)]; rfl
  have hc1 : w.cell? ⟨g0, 1, none⟩ = some (.slice ka n kc) := by rw [cell_of_rowAt (rowAt_of hr)]; rfl
  have hlt : g0 < w.heap.size := rowAt_lt (rowAt_of hr)
  clear hr
  have W1 : Hid (IntKind.u64.wrap ((ap : Int) + 1) = (ap : Int) + 1) := Lib.hid (wrap_u64_in _ (by omega) (by omega))
  have W2 : Hid (IntKind.u64.wrap (n : Int) = (n : Int)) := Lib.hid (wrap_u64_in _ (by omega) (by omega))
  have W3 : Hid (IntKind.u64.wrap ((ap : Int) + 1 - (n : Int)) = ((ap + 1 - n : Nat) : Int)) := Lib.hid (by rw [wrap_u64_in _ (by omega) (by omega)]; omega)
  go_enter Try.func32, Try.ntmps32
  go_wp2_with fail
  refine rg_begin 13 rfl (S := fun W => St _ _ W _) (by kernel_rfl) H.drew ?_
  replace H := H.drew
  have HS := H
  refine rg_take (i := 0) rfl kR kR kR (Yld.move rfl rfl) HS ?_; simp only [pS, pE]
  refine rg_take (i := 1) rfl kR kR kR (Yld.o rfl) HS ?_; simp only [pS]
  refine rg_take (i := 2) rfl kR kR kR (Yld.o rfl) HS ?_; simp only [pS]
  first | (refine rg_take (i := 3) rfl kR kR kR (Yld.ldo rfl rfl agg26 rfl (by assumption) (by assumption)) HS ?_; simp only [pS]) | (refine rg_take (i := 3) rfl kR kR kR (Yld.ldc rfl rfl agg26 rfl mR cE) HS ?_; simp only [pS])
  refine rg_take (i := 4) rfl kR kR kR (Yld.of (v := .int .u64 ((ap : Int) + 1)) rfl (fun W _ => by go_simp; first | done | exact W1.out)) HS ?_; simp only [pS, pE]
  refine rg_take (i := 5) rfl kR kR kR (Yld.move rfl rfl) HS ?_; simp only [pS, pE]
  refine rg_take (i := 6) rfl kR kR kR (Yld.o rfl) HS ?_; simp only [pS]
  refine rg_take (i := 7) rfl kR kR kR (Yld.o rfl) HS ?_; simp only [pS]
  first | (refine rg_take (i := 8) rfl kR kR kR (Yld.ldo rfl rfl agg93 rfl (by assumption) (by assumption)) HS ?_; simp only [pS]) | (refine rg_take (i := 8) rfl kR kR kR (Yld.ldc rfl rfl agg93 rfl mR cE) HS ?_; simp only [pS])
  refine rg_take (i := 9) rfl kR kR kR (Yld.o rfl) HS ?_; simp only [pS]
  refine rg_take (i := 10) rfl kR kR kR (Yld.of (v := .int .u64 (n : Int)) rfl (fun W _ => by go_simp; first | done | exact W2.out)) HS ?_; simp only [pS, pE]
  refine rg_take (i := 11) rfl kR kR kR (Yld.of (v := .int .u64 ((ap + 1 - n : Nat) : Int)) rfl (fun W _ => by go_simp; first | done | exact W3.out)) HS ?_; simp only [pS, pE]
  refine rg_take (i := 12) rfl kR kR kR (Yld.assign rfl rfl) HS ?_; simp only [pS, pE]
  refine rg_done (by kernel_rfl) ?_
  go_wp2_with fail
  go_ret
  exact ⟨_, rfl, rfl, H.below⟩

/-- Where a slot's command is. -/
def plc (ap n slot : Nat) : Option Nat := if slot ≤ ap ∧ ap - slot < n then some (n - 1 - (ap - slot)) else none
theorem plc_lt {ap n slot k : Nat} (h : plc ap n slot = some k) : k < n := by
  unfold plc at h; split at h
  · injection h with h; omega
  · cases h
set_option maxHeartbeats 1000000
theorem place_ok (g0 ap n kc slot : Nat) (ka : Option Addr) (ha : ap < 18446744073709551616) (hs : slot < 18446744073709551616) (hn : n ≤ 1000000) (w : World) (hr : w.heap[g0]? = some (.cells #[.int .u64 (ap : Int), .slice ka n kc] 97 (0, 0))) :
    Calls Try.prog 50 #[.pointer (some ⟨g0, 0, none⟩), .int .u64 (slot : Int)] w (Ret fun v w' => v = (match plc ap n slot with | some k => .tuple #[.int .i64 (k : Int), .bool true] | none => .tuple #[.int .i64 0, .bool false]) ∧ Below w.heap.size w w') := by
  have H := St.init w
  have hc0 : w.cell? ⟨g0, 0, none⟩ = some (.int .u64 (ap : Int)) := by rw [cell_of_rowAt (rowAt_of hr)]; rfl
  have hc1 : w.cell? ⟨g0, 1, none⟩ = some (.slice ka n kc) := by rw [cell_of_rowAt (rowAt_of hr)]; rfl
  have hlt : g0 < w.heap.size := rowAt_lt (rowAt_of hr)
  clear hr
  by_cases h1 : slot ≤ ap
  · have h1d : decide (ap < slot) = false := decide_eq_false (by omega)
    have W1 : Hid (IntKind.u64.wrap ((ap : Int) - (slot : Int)) = ((ap - slot : Nat) : Int)) := Lib.hid (by rw [wrap_u64_in _ (by omega) (by omega)]; omega)
    have W2 : Hid (IntKind.u64.wrap (n : Int) = (n : Int)) := Lib.hid (wrap_u64_in _ (by omega) (by omega))
    by_cases h2 : ap - slot < n
    · have hp : plc ap n slot = some (n - 1 - (ap - slot)) := by unfold plc; rw [if_pos ⟨h1, h2⟩]
      rw [hp]
      have h2d : decide (n ≤ ap - slot) = false := decide_eq_false (by omega)
      have W3 : Hid (IntKind.i64.wrap ((n : Int) - 1) = (n : Int) - 1) := Lib.hid (by rw [IntKind.wrap_i64]; omega)
      have W4 : Hid (IntKind.i64.wrap ((ap - slot : Nat) : Int) = ((ap - slot : Nat) : Int)) := Lib.hid (by rw [IntKind.wrap_i64]; omega)
      have W5 : Hid (IntKind.i64.wrap ((n : Int) - 1 - ((ap - slot : Nat) : Int)) = ((n - 1 - (ap - slot) : Nat) : Int)) := Lib.hid (by rw [IntKind.wrap_i64]; omega)
      obtain ⟨q, hq⟩ : ∃ q, ap - slot = q := ⟨_, rfl⟩
      obtain ⟨r, hr⟩ : ∃ r, n - 1 - q = r := ⟨_, rfl⟩
      simp only [hq, hr] at *
      clear hq hr hp h1 h2
      go_enter Try.func50, Try.ntmps50
      go_wp2_with fail
      refine rg_begin 25 rfl (S := fun W => St _ _ W _) (by kernel_rfl) H.drew ?_
      replace H := H.drew
      have HS := H
      refine rg_take (i := 0) rfl kR kR kR (Yld.move rfl rfl) HS ?_; simp only [pS, pE]
      refine rg_take (i := 1) rfl kR kR kR (Yld.o rfl) HS ?_; simp only [pS]
      refine rg_take (i := 2) rfl kR kR kR (Yld.move rfl rfl) HS ?_; simp only [pS, pE]
      refine rg_take (i := 3) rfl kR kR kR (Yld.move rfl rfl) HS ?_; simp only [pS, pE]
      refine rg_take (i := 4) rfl kR kR kR (Yld.move rfl rfl) HS ?_; simp only [pS, pE]
      refine rg_take (i := 5) rfl kR kR kR (Yld.o rfl) HS ?_; simp only [pS]
      refine rg_take (i := 6) rfl kR kR kR (Yld.o rfl) HS ?_; simp only [pS]
      first | (refine rg_take (i := 7) rfl kR kR kR (Yld.ldo rfl rfl agg26 rfl (by assumption) (by assumption)) HS ?_; simp only [pS]) | (refine rg_take (i := 7) rfl kR kR kR (Yld.ldc rfl rfl agg26 rfl mR cE) HS ?_; simp only [pS])
      refine rg_take (i := 8) rfl kR kR kR (Yld.o rfl) HS ?_; simp only [pS]
      refine rg_take (i := 9) rfl kR kR kR (Yld.pick rfl rfl rfl) HS ?_; simp only [pS, pE]
      refine rg_take (i := 10) rfl kR kR kR (Yld.move rfl rfl) HS ?_; simp only [pS, pE]
      refine rg_take (i := 11) rfl kR kR kR (Yld.move rfl rfl) HS ?_; simp only [pS, pE]
      refine rg_take (i := 12) rfl kR kR kR (Yld.o rfl) HS ?_; simp only [pS]
      refine rg_take (i := 13) rfl kR kR kR (Yld.o rfl) HS ?_; simp only [pS]
      first | (refine rg_take (i := 14) rfl kR kR kR (Yld.ldo rfl rfl agg26 rfl (by assumption) (by assumption)) HS ?_; simp only [pS]) | (refine rg_take (i := 14) rfl kR kR kR (Yld.ldc rfl rfl agg26 rfl mR cE) HS ?_; simp only [pS])
      refine rg_take (i := 15) rfl kR kR kR (Yld.move rfl rfl) HS ?_; simp only [pS, pE]
      refine rg_take (i := 16) rfl kR kR kR (Yld.of (v := .int .u64 ((q : Nat) : Int)) rfl (fun W _ => by go_simp; first | done | exact W1.out)) HS ?_; simp only [pS, pE]
      refine rg_take (i := 17) rfl kR kR kR (Yld.move rfl rfl) HS ?_; simp only [pS, pE]
      refine rg_take (i := 18) rfl kR kR kR (Yld.o rfl) HS ?_; simp only [pS]
      refine rg_take (i := 19) rfl kR kR kR (Yld.o rfl) HS ?_; simp only [pS]
      first | (refine rg_take (i := 20) rfl kR kR kR (Yld.ldo rfl rfl agg93 rfl (by assumption) (by assumption)) HS ?_; simp only [pS]) | (refine rg_take (i := 20) rfl kR kR kR (Yld.ldc rfl rfl agg93 rfl mR cE) HS ?_; simp only [pS])
      refine rg_take (i := 21) rfl kR kR kR (Yld.o rfl) HS ?_; simp only [pS]
      refine rg_take (i := 22) rfl kR kR kR (Yld.of (v := .int .u64 (n : Int)) rfl (fun W _ => by go_simp; first | done | exact W2.out)) HS ?_; simp only [pS, pE]
      refine rg_take (i := 23) rfl kR kR kR (Yld.o rfl) HS ?_; simp only [pS]
      refine rg_take (i := 24) rfl kR kR kR (Yld.pick rfl rfl rfl) HS ?_; simp only [pS, pE]
      refine rg_done (by kernel_rfl) ?_
      go_wp2_with fail
      refine rg_begin 16 rfl (S := fun W => St _ _ W _) (by kernel_rfl) H.drew ?_
      replace H := H.drew
      have HS := H
      refine rg_take (i := 0) rfl kR kR kR (Yld.move rfl rfl) HS ?_; simp only [pS, pE]
      refine rg_take (i := 1) rfl kR kR kR (Yld.o rfl) HS ?_; simp only [pS]
      refine rg_take (i := 2) rfl kR kR kR (Yld.o rfl) HS ?_; simp only [pS]
      first | (refine rg_take (i := 3) rfl kR kR kR (Yld.ldo rfl rfl agg93 rfl (by assumption) (by assumption)) HS ?_; simp only [pS]) | (refine rg_take (i := 3) rfl kR kR kR (Yld.ldc rfl rfl agg93 rfl mR cE) HS ?_; simp only [pS])
      refine rg_take (i := 4) rfl kR kR kR (Yld.o rfl) HS ?_; simp only [pS]
      refine rg_take (i := 5) rfl kR kR kR (Yld.of (v := .int .i64 ((n : Int) - 1)) rfl (fun W _ => by go_simp; first | done | exact W3.out)) HS ?_; simp only [pS, pE]
      refine rg_take (i := 6) rfl kR kR kR (Yld.move rfl rfl) HS ?_; simp only [pS, pE]
      refine rg_take (i := 7) rfl kR kR kR (Yld.o rfl) HS ?_; simp only [pS]
      refine rg_take (i := 8) rfl kR kR kR (Yld.o rfl) HS ?_; simp only [pS]
      first | (refine rg_take (i := 9) rfl kR kR kR (Yld.ldo rfl rfl agg26 rfl (by assumption) (by assumption)) HS ?_; simp only [pS]) | (refine rg_take (i := 9) rfl kR kR kR (Yld.ldc rfl rfl agg26 rfl mR cE) HS ?_; simp only [pS])
      refine rg_take (i := 10) rfl kR kR kR (Yld.move rfl rfl) HS ?_; simp only [pS, pE]
      refine rg_take (i := 11) rfl kR kR kR (Yld.of (v := .int .u64 ((q : Nat) : Int)) rfl (fun W _ => by go_simp; first | done | exact W1.out)) HS ?_; simp only [pS, pE]
      refine rg_take (i := 12) rfl kR kR kR (Yld.of (v := .int .i64 ((q : Nat) : Int)) rfl (fun W _ => by go_simp; first | done | exact W4.out)) HS ?_; simp only [pS, pE]
      refine rg_take (i := 13) rfl kR kR kR (Yld.of (v := .int .i64 ((r : Nat) : Int)) rfl (fun W _ => by go_simp; first | done | exact W5.out)) HS ?_; simp only [pS, pE]
      refine rg_take (i := 14) rfl kR kR kR (Yld.assign rfl rfl) HS ?_; simp only [pS, pE]
      refine rg_take (i := 15) rfl kR kR kR (Yld.assign rfl rfl) HS ?_; simp only [pS, pE]
      refine rg_done (by kernel_rfl) ?_
      go_wp2_with fail
      go_ret2
      exact ⟨_, rfl, rfl, H.below⟩
    · have hp : plc ap n slot = none := by unfold plc; rw [if_neg (fun h => h2 h.2)]
      rw [hp]
      have h2d : decide (n ≤ ap - slot) = true := decide_eq_true (by omega)
      obtain ⟨q, hq⟩ : ∃ q, ap - slot = q := ⟨_, rfl⟩
      simp only [hq] at *
      clear hq hp h1 h2
      go_enter Try.func50, Try.ntmps50
      go_wp2_with fail
      refine rg_begin 25 rfl (S := fun W => St _ _ W _) (by kernel_rfl) H.drew ?_
      replace H := H.drew
      have HS := H
      refine rg_take (i := 0) rfl kR kR kR (Yld.move rfl rfl) HS ?_; simp only [pS, pE]
      refine rg_take (i := 1) rfl kR kR kR (Yld.o rfl) HS ?_; simp only [pS]
      refine rg_take (i := 2) rfl kR kR kR (Yld.move rfl rfl) HS ?_; simp only [pS, pE]
      refine rg_take (i := 3) rfl kR kR kR (Yld.move rfl rfl) HS ?_; simp only [pS, pE]
      refine rg_take (i := 4) rfl kR kR kR (Yld.move rfl rfl) HS ?_; simp only [pS, pE]
      refine rg_take (i := 5) rfl kR kR kR (Yld.o rfl) HS ?_; simp only [pS]
      refine rg_take (i := 6) rfl kR kR kR (Yld.o rfl) HS ?_; simp only [pS]
      first | (refine rg_take (i := 7) rfl kR kR kR (Yld.ldo rfl rfl agg26 rfl (by assumption) (by assumption)) HS ?_; simp only [pS]) | (refine rg_take (i := 7) rfl kR kR kR (Yld.ldc rfl rfl agg26 rfl mR cE) HS ?_; simp only [pS])
      refine rg_take (i := 8) rfl kR kR kR (Yld.o rfl) HS ?_; simp only [pS]
      refine rg_take (i := 9) rfl kR kR kR (Yld.pick rfl rfl rfl) HS ?_; simp only [pS, pE]
      refine rg_take (i := 10) rfl kR kR kR (Yld.move rfl rfl) HS ?_; simp only [pS, pE]
      refine rg_take (i := 11) rfl kR kR kR (Yld.move rfl rfl) HS ?_; simp only [pS, pE]
      refine rg_take (i := 12) rfl kR kR kR (Yld.o rfl) HS ?_; simp only [pS]
      refine rg_take (i := 13) rfl kR kR kR (Yld.o rfl) HS ?_; simp only [pS]
      first | (refine rg_take (i := 14) rfl kR kR kR (Yld.ldo rfl rfl agg26 rfl (by assumption) (by assumption)) HS ?_; simp only [pS]) | (refine rg_take (i := 14) rfl kR kR kR (Yld.ldc rfl rfl agg26 rfl mR cE) HS ?_; simp only [pS])
      refine rg_take (i := 15) rfl kR kR kR (Yld.move rfl rfl) HS ?_; simp only [pS, pE]
      refine rg_take (i := 16) rfl kR kR kR (Yld.of (v := .int .u64 ((q : Nat) : Int)) rfl (fun W _ => by go_simp; first | done | exact W1.out)) HS ?_; simp only [pS, pE]
      refine rg_take (i := 17) rfl kR kR kR (Yld.move rfl rfl) HS ?_; simp only [pS, pE]
      refine rg_take (i := 18) rfl kR kR kR (Yld.o rfl) HS ?_; simp only [pS]
      refine rg_take (i := 19) rfl kR kR kR (Yld.o rfl) HS ?_; simp only [pS]
      first | (refine rg_take (i := 20) rfl kR kR kR (Yld.ldo rfl rfl agg93 rfl (by assumption) (by assumption)) HS ?_; simp only [pS]) | (refine rg_take (i := 20) rfl kR kR kR (Yld.ldc rfl rfl agg93 rfl mR cE) HS ?_; simp only [pS])
      refine rg_take (i := 21) rfl kR kR kR (Yld.o rfl) HS ?_; simp only [pS]
      refine rg_take (i := 22) rfl kR kR kR (Yld.of (v := .int .u64 (n : Int)) rfl (fun W _ => by go_simp; first | done | exact W2.out)) HS ?_; simp only [pS, pE]
      refine rg_take (i := 23) rfl kR kR kR (Yld.o rfl) HS ?_; simp only [pS]
      refine rg_take (i := 24) rfl kR kR kR (Yld.pick rfl rfl rfl) HS ?_; simp only [pS, pE]
      refine rg_done (by kernel_rfl) ?_
      go_wp2_with fail
      go_ret2
      exact ⟨_, rfl, rfl, H.below⟩
  · have hp : plc ap n slot = none := by unfold plc; rw [if_neg (fun h => h1 h.1)]
    rw [hp]
    have h1d : decide (ap < slot) = true := decide_eq_true (by omega)
    clear hp h1
    go_enter Try.func50, Try.ntmps50
    go_wp2_with fail
    refine rg_begin 25 rfl (S := fun W => St _ _ W _) (by kernel_rfl) H.drew ?_
    replace H := H.drew
    have HS := H
    refine rg_take (i := 0) rfl kR kR kR (Yld.move rfl rfl) HS ?_; simp only [pS, pE]
    refine rg_take (i := 1) rfl kR kR kR (Yld.o rfl) HS ?_; simp only [pS]
    refine rg_take (i := 2) rfl kR kR kR (Yld.move rfl rfl) HS ?_; simp only [pS, pE]
    refine rg_take (i := 3) rfl kR kR kR (Yld.move rfl rfl) HS ?_; simp only [pS, pE]
    refine rg_take (i := 4) rfl kR kR kR (Yld.move rfl rfl) HS ?_; simp only [pS, pE]
    refine rg_take (i := 5) rfl kR kR kR (Yld.o rfl) HS ?_; simp only [pS]
    refine rg_take (i := 6) rfl kR kR kR (Yld.o rfl) HS ?_; simp only [pS]
    first | (refine rg_take (i := 7) rfl kR kR kR (Yld.ldo rfl rfl agg26 rfl (by assumption) (by assumption)) HS ?_; simp only [pS]) | (refine rg_take (i := 7) rfl kR kR kR (Yld.ldc rfl rfl agg26 rfl mR cE) HS ?_; simp only [pS])
    refine rg_take (i := 8) rfl kR kR kR (Yld.o rfl) HS ?_; simp only [pS]
    refine rg_take (i := 9) rfl kR kR kR (Yld.pick rfl rfl rfl) HS ?_; simp only [pS, pE]
    refine rg_take (i := 10) rfl kR kR kR (Yld.move rfl rfl) HS ?_; simp only [pS, pE]
    refine rg_take (i := 11) rfl kR kR kR (Yld.skip rfl) HS ?_; simp only [pS]
    refine rg_take (i := 12) rfl kR kR kR (Yld.skip rfl) HS ?_; simp only [pS]
    refine rg_take (i := 13) rfl kR kR kR (Yld.skip rfl) HS ?_; simp only [pS]
    refine rg_take (i := 14) rfl kR kR kR (Yld.skip rfl) HS ?_; simp only [pS]
    refine rg_take (i := 15) rfl kR kR kR (Yld.skip rfl) HS ?_; simp only [pS]
    refine rg_take (i := 16) rfl kR kR kR (Yld.skip rfl) HS ?_; simp only [pS]
    refine rg_take (i := 17) rfl kR kR kR (Yld.skip rfl) HS ?_; simp only [pS]
    refine rg_take (i := 18) rfl kR kR kR (Yld.skip rfl) HS ?_; simp only [pS]
    refine rg_take (i := 19) rfl kR kR kR (Yld.skip rfl) HS ?_; simp only [pS]
    refine rg_take (i := 20) rfl kR kR kR (Yld.skip rfl) HS ?_; simp only [pS]
    refine rg_take (i := 21) rfl kR kR kR (Yld.skip rfl) HS ?_; simp only [pS]
    refine rg_take (i := 22) rfl kR kR kR (Yld.skip rfl) HS ?_; simp only [pS]
    refine rg_take (i := 23) rfl kR kR kR (Yld.skip rfl) HS ?_; simp only [pS]
    refine rg_take (i := 24) rfl kR kR kR (Yld.pick rfl rfl rfl) HS ?_; simp only [pS, pE]
    refine rg_done (by kernel_rfl) ?_
    go_wp2_with fail
    go_ret2
    exact ⟨_, rfl, rfl, H.below⟩
end Go.Proofs.Ytmokecicjmjkbaa
namespace Go.Proofs.Ytmokecicjmjkbaa
open Go.ChangeShapes Go.WideShapes Go.ChangeAt Go.RowKit Go.Maps
set_option linter.unusedVariables false
set_option linter.unusedSimpArgs false
/-- Where a command's slices lie. -/
structure Hd where
  ba : Option Addr
  ma : Option Addr
  la : Option Addr
  da : Option Addr
  bc : Nat
  mc : Nat
  lc : Nat
  dc : Nat
abbrev cmH (c : Cm) (h : Hd) : Array Value := cmC c h.ba h.ma h.la h.da h.bc h.mc h.lc h.dc
/-- Commands, as values. -/
def kv (ks : List (Cm × Hd)) : List Value := ks.flatMap fun p => (cmH p.1 p.2).toList
theorem kv_app (ks ls : List (Cm × Hd)) : kv (ks ++ ls) = kv ks ++ kv ls := by unfold kv; rw [List.flatMap_append]
theorem kv_one (c : Cm) (h : Hd) : kv [(c, h)] = (cmH c h).toList := by simp [kv]
theorem kv_drop (ks : List (Cm × Hd)) (k : Nat) : (kv ks).drop (k * 10) = kv (ks.drop k) := by
  induction ks generalizing k with
  | nil => simp [kv]
  | cons p ks ih =>
    cases k with
    | zero => simp
    | succ k =>
      have hc : kv (p :: ks) = (cmH p.1 p.2).toList ++ kv ks := by simp [kv]
      rw [hc, List.drop_succ_cons, ← ih k, List.drop_append, List.drop_of_length_le (by simp; omega)]
      simp only [List.nil_append]
      congr 1
      simp
      omega
theorem kv_get (ks : List (Cm × Hd)) (k : Nat) (p : Cm × Hd) (h : ks[k]? = some p) : ∀ j, j < 10 → (kv ks)[k * 10 + j]? = (cmH p.1 p.2)[j]? := by
  induction ks generalizing k with
  | nil => cases h
  | cons q ks ih =>
    intro j hj
    have hc : kv (q :: ks) = (cmH q.1 q.2).toList ++ kv ks := by simp [kv]
    rw [hc]
    cases k with
    | zero =>
      have : q = p := by simpa using h
      subst this
      rw [Nat.zero_mul, Nat.zero_add, List.getElem?_append_left (by simpa using hj)]
      simp
    | succ k =>
      rw [List.getElem?_append_right (by simp; omega)]
      have := ih k (by simpa using h) j hj
      rw [← this]
      congr 1
      simp
      omega
/-- Commands of the call's own, that are no longer written. -/
def cmsr (G : Nat → Prop) (ks : List (Cm × Hd)) : Res := (fun g => G g, fun w => ∀ p ∈ ks, CmG G w (.slice p.2.ba p.1.data.length p.2.bc) (.slice p.2.ma p.1.v.mem.length p.2.mc) (.slice p.2.la p.1.v.lvs.length p.2.lc) (.slice p.2.da p.1.v.ldr.length p.2.dc) p.1)
theorem cmsr_loc (G : Nat → Prop) (ks : List (Cm × Hd)) : Loc (cmsr G ks) := fun _ _ hb h p hp => (h p hp).loc hb
theorem St.getCms {B : Nat} {w0 w : World} {L : List Res} {G : Nat → Prop} {ks : List (Cm × Hd)} (H : St B w0 w L) (h : cmsr G ks ∈ L) : ∀ p ∈ ks, CmG G w (.slice p.2.ba p.1.data.length p.2.bc) (.slice p.2.ma p.1.v.mem.length p.2.mc) (.slice p.2.la p.1.v.lvs.length p.2.lc) (.slice p.2.da p.1.v.ldr.length p.2.dc) p.1 := H.get h
theorem St.cms0 {B : Nat} {w0 w : World} {L : List Res} (H : St B w0 w L) : St B w0 w (cmsr (fun _ => False) [] :: L) :=
  St.emp (p := (cmsr (fun _ => False) []).2) (fun _ p hp => by cases hp) H
theorem St.cms1 {B : Nat} {w0 w : World} {L : List Res} {G G2 : Nat → Prop} {ks : List (Cm × Hd)} {c : Cm} {h : Hd} (H : St B w0 w (cmr G2 (.slice h.ba c.data.length h.bc) (.slice h.ma c.v.mem.length h.mc) (.slice h.la c.v.lvs.length h.lc) (.slice h.da c.v.ldr.length h.dc) c :: cmsr G ks :: L)) :
    ∃ G', St B w0 w (cmsr G' (ks ++ [(c, h)]) :: L) := by
  refine ⟨fun g => G2 g ∨ G g, H.join.conv (fun g h => h) (fun hS => ⟨?_, hS.lt, cmsr_loc _ _⟩)⟩
  obtain ⟨h1, h2⟩ := hS.here
  intro p hp
  rcases List.mem_append.1 hp with hp | hp
  · exact (h2 p hp).mono (fun g h => .inr h)
  · rw [List.mem_singleton] at hp
    subst hp
    exact CmG.mono (fun g h => .inl h) h1
theorem St.cmsd {B : Nat} {w0 w : World} {L : List Res} {G : Nat → Prop} {ks ls : List (Cm × Hd)} (H : St B w0 w (cmsr G ks :: L)) (h : ∀ p ∈ ls, p ∈ ks) : St B w0 w (cmsr G ls :: L) :=
  H.conv (fun g h => h) (fun hS => ⟨fun p hp => hS.here p (h p hp), hS.lt, cmsr_loc _ _⟩)
theorem cm_one (c : Cm) (ba ma la da : Option Addr) (bc mc lc dc : Nat) : ∀ u ∈ (cmC c ba ma la da bc mc lc dc).toList, u.oneCell' = true := by
  intro u hu
  simp only [cmC, List.mem_cons, List.not_mem_nil, or_false] at hu
  rcases hu with rfl | rfl | rfl | rfl | rfl | rfl | rfl | rfl | rfl | rfl <;> rfl
/-- A ledger: how far all was applied, what is kept. -/
def LdSt (B : Nat) (w0 w : World) (g0 ap : Nat) (ks : List (Cm × Hd)) (L : List Res) : Prop :=
  ∃ (ka : Option Addr) (kc : Nat) (G : Nat → Prop), St B w0 w (row 97 g0 #[.int .u64 (ap : Int), .slice ka ks.length kc] :: slo 36 10 (.slice ka ks.length kc) ks.length (kv ks) :: cmsr G ks :: L)
theorem lnew_ok {B : Nat} {w0 : World} {L : List Res} (ap : Nat) (w : World) (H : St B w0 w L) :
    Calls Try.prog 14 #[.int .u64 (ap : Int)] w (Ret fun v w' => ∃ g0, v = .pointer (some ⟨g0, 0, none⟩) ∧ LdSt B w0 w' g0 ap [] L) := by
  go_enter Try.func14, Try.ntmps14
  go_wp2_with (first | (with_reducible refine wpl rfl (dQ 4 rfl ?_); with_reducible refine (Stp.build (v := (.agg #[.int .u64 (ap : Int), .slice none 0 0])) 4 rfl rfl (fun W => by kernel_rfl) ?_); simp only [pS]) | (with_reducible refine wpl rfl (dQ 5 rfl ?_); with_reducible refine (Stp.box 5 rfl rfl rfl H ?_); clear H; intro g5 w1 H; simp only [pS]; simp only [pE, nC, pS] at H))
  go_ret
  exact ⟨_, rfl, g5, rfl, none, 0, fun _ => False, ((H.cms0.nilo 36 10).pull (r := row 97 g5 #[.int .u64 (ap : Int), .slice none 0 0]) pU)⟩
/-- What Add answers. -/
def addE (ap n slot : Nat) (c : Cm) : Int := if cErr c ≠ 0 then 1 else if slot ≤ ap then 10 else if 1 < slot - ap then 11 else if 4611686018427387904 < slot then 16 else if 64 ≤ n then 7 else 0
attribute [local irreducible] cErr
set_option maxRecDepth 100000 in
set_option maxHeartbeats 4000000 in
theorem ladd_ok {B : Nat} {w0 : World} {L : List Res} {G1 : Nat → Prop} (g0 ap slot : Nat) (ks : List (Cm × Hd)) (c : Cm) (ba ma la da : Option Addr) (bc mc lc dc : Nat) (hn : ks.length ≤ 64) (ha : ap < 18446744073709551616) (hs : slot < 18446744073709551616) (hm : smC c) (hw : wfC c)
    (hx : Rd B w0 L fun W => CmG G1 W (.slice ba c.data.length bc) (.slice ma c.v.mem.length mc) (.slice la c.v.lvs.length lc) (.slice da c.v.ldr.length dc) c) (w : World) (H0 : LdSt B w0 w g0 ap ks L) :
    Calls Try.prog 15 #[.pointer (some ⟨g0, 0, none⟩), .int .u64 (slot : Int), .agg (cmC c ba ma la da bc mc lc dc)] w (Ret fun v w' => v = .int .i64 (addE ap ks.length slot c) ∧ ((addE ap ks.length slot c = 0 ∧ ∃ h, LdSt B w0 w' g0 slot (ks ++ [(c, h)]) L) ∨ (addE ap ks.length slot c ≠ 0 ∧ LdSt B w0 w' g0 ap ks L))) := by
  obtain ⟨ka, kc, G, H⟩ := H0
  obtain ⟨e, he⟩ : ∃ e, cErr c = e := ⟨_, rfl⟩
  obtain ⟨n, hkn⟩ : ∃ n, ks.length = n := ⟨_, rfl⟩
  have HKN := Lib.hid hkn
  have HE := Lib.hid he
  rw [hkn] at H hn ⊢
  clear hkn
  simp only [cmC]
  by_cases he0 : e = 0
  · subst he0
    by_cases h1 : slot ≤ ap
    · have HV : Hid (addE ap n slot c = 10) := Lib.hid (by unfold addE; simp [HE.out, h1])
      have hi : (slot : Int) ≤ (ap : Int) := by omega
      clear he
      go_enter Try.func15, Try.ntmps15
      go_wp2_with (first | (go_at_call 48; (with_reducible refine (ccheck_ok c ba ma la da bc mc lc dc hm.v hw _ (hx.at H (by repeat (first | exact List.Sublist.refl _ | apply List.Sublist.cons)))).mono ?_); rintro e w1 ⟨v, rfl, hr⟩; obtain ⟨rfl, hb1⟩ := hr; replace H := H.grow hb1; clear hb1; rw [HE.out]) | (with_reducible refine wpl rfl (dQ 5 rfl ?_); with_reducible refine (Stp.box 5 rfl rfl rfl H ?_); clear H; intro g5 w1 H; simp only [pS]; simp only [pE, nC, pS] at H) | (with_reducible refine wpl rfl (ldQ (ty := 36) rfl ?_); first | (with_reducible refine (Stp.ldor rfl agg36 size36 rfl H (by assumption) sZ (by assumption) ?_); simp only [pS]) | (with_reducible refine (Stp.ldr rfl agg36 size36 rfl H mR sZ ?_); simp only [pS]) | (with_reducible refine (Stp.ldl rfl agg36 size36 rfl H mR (by simp) ?_); simp only [pS]; simp only [List.drop_succ_cons, List.drop_zero, List.take_succ_cons, List.take_zero])) | (with_reducible refine wpl rfl (ldQ (ty := 26) rfl ?_); first | (with_reducible refine (Stp.ldo rfl agg26 rfl H (by assumption) (by assumption) ?_); simp only [pS]) | (with_reducible refine (Stp.ldc rfl agg26 rfl H mR cE ?_); simp only [pS])) | (with_reducible refine wpl rfl (ldQ (ty := 93) rfl ?_); first | (with_reducible refine (Stp.ldo rfl agg93 rfl H (by assumption) (by assumption) ?_); simp only [pS]) | (with_reducible refine (Stp.ldc rfl agg93 rfl H mR cE ?_); simp only [pS])) | (with_reducible refine wpl rfl (stQ (ty := 26) rfl ?_); first | (with_reducible refine (Stp.stc rfl size26 rfl rfl rfl rfl H uP (by first | omega | (simp; done) | (simp; omega)) ?_); clear H; intro w1 H; simp only [pS]; simp only [pE, nC, pS] at H)))
      go_ret
      exact ⟨_, rfl, by rw [HV.out]; rfl, .inr ⟨by rw [HV.out]; omega, ka, kc, G, by rw [HKN.out]; exact H.sub sU⟩⟩
    · have hi : ¬ (slot : Int) ≤ (ap : Int) := by omega
      have W1 : IntKind.u64.wrap ((slot : Int) - (ap : Int)) = (slot : Int) - (ap : Int) := wrap_u64_in _ (by omega) (by omega)
      by_cases h2 : 1 < slot - ap
      · have HV : Hid (addE ap n slot c = 11) := Lib.hid (by unfold addE; simp [HE.out, h1, h2])
        have hj : (1 : Int) < (slot : Int) - (ap : Int) := by omega
        clear he
        go_enter Try.func15, Try.ntmps15
        go_wp2_with (first | (go_at_call 48; (with_reducible refine (ccheck_ok c ba ma la da bc mc lc dc hm.v hw _ (hx.at H (by repeat (first | exact List.Sublist.refl _ | apply List.Sublist.cons)))).mono ?_); rintro e w1 ⟨v, rfl, hr⟩; obtain ⟨rfl, hb1⟩ := hr; replace H := H.grow hb1; clear hb1; rw [HE.out]) | (with_reducible refine wpl rfl (dQ 5 rfl ?_); with_reducible refine (Stp.box 5 rfl rfl rfl H ?_); clear H; intro g5 w1 H; simp only [pS]; simp only [pE, nC, pS] at H) | (with_reducible refine wpl rfl (ldQ (ty := 36) rfl ?_); first | (with_reducible refine (Stp.ldor rfl agg36 size36 rfl H (by assumption) sZ (by assumption) ?_); simp only [pS]) | (with_reducible refine (Stp.ldr rfl agg36 size36 rfl H mR sZ ?_); simp only [pS]) | (with_reducible refine (Stp.ldl rfl agg36 size36 rfl H mR (by simp) ?_); simp only [pS]; simp only [List.drop_succ_cons, List.drop_zero, List.take_succ_cons, List.take_zero])) | (with_reducible refine wpl rfl (ldQ (ty := 26) rfl ?_); first | (with_reducible refine (Stp.ldo rfl agg26 rfl H (by assumption) (by assumption) ?_); simp only [pS]) | (with_reducible refine (Stp.ldc rfl agg26 rfl H mR cE ?_); simp only [pS])) | (with_reducible refine wpl rfl (ldQ (ty := 93) rfl ?_); first | (with_reducible refine (Stp.ldo rfl agg93 rfl H (by assumption) (by assumption) ?_); simp only [pS]) | (with_reducible refine (Stp.ldc rfl agg93 rfl H mR cE ?_); simp only [pS])) | (with_reducible refine wpl rfl (stQ (ty := 26) rfl ?_); first | (with_reducible refine (Stp.stc rfl size26 rfl rfl rfl rfl H uP (by first | omega | (simp; done) | (simp; omega)) ?_); clear H; intro w1 H; simp only [pS]; simp only [pE, nC, pS] at H)))
        go_ret
        exact ⟨_, rfl, by rw [HV.out]; rfl, .inr ⟨by rw [HV.out]; omega, ka, kc, G, by rw [HKN.out]; exact H.sub sU⟩⟩
      · have hj : ¬ (1 : Int) < (slot : Int) - (ap : Int) := by omega
        by_cases h3 : 4611686018427387904 < slot
        · have HV : Hid (addE ap n slot c = 16) := Lib.hid (by unfold addE; simp [HE.out, h1, h2, h3])
          have hk : (4611686018427387904 : Int) < (slot : Int) := by omega
          clear he
          go_enter Try.func15, Try.ntmps15
          go_wp2_with (first | (go_at_call 48; (with_reducible refine (ccheck_ok c ba ma la da bc mc lc dc hm.v hw _ (hx.at H (by repeat (first | exact List.Sublist.refl _ | apply List.Sublist.cons)))).mono ?_); rintro e w1 ⟨v, rfl, hr⟩; obtain ⟨rfl, hb1⟩ := hr; replace H := H.grow hb1; clear hb1; rw [HE.out]) | (with_reducible refine wpl rfl (dQ 5 rfl ?_); with_reducible refine (Stp.box 5 rfl rfl rfl H ?_); clear H; intro g5 w1 H; simp only [pS]; simp only [pE, nC, pS] at H) | (with_reducible refine wpl rfl (ldQ (ty := 36) rfl ?_); first | (with_reducible refine (Stp.ldor rfl agg36 size36 rfl H (by assumption) sZ (by assumption) ?_); simp only [pS]) | (with_reducible refine (Stp.ldr rfl agg36 size36 rfl H mR sZ ?_); simp only [pS]) | (with_reducible refine (Stp.ldl rfl agg36 size36 rfl H mR (by simp) ?_); simp only [pS]; simp only [List.drop_succ_cons, List.drop_zero, List.take_succ_cons, List.take_zero])) | (with_reducible refine wpl rfl (ldQ (ty := 26) rfl ?_); first | (with_reducible refine (Stp.ldo rfl agg26 rfl H (by assumption) (by assumption) ?_); simp only [pS]) | (with_reducible refine (Stp.ldc rfl agg26 rfl H mR cE ?_); simp only [pS])) | (with_reducible refine wpl rfl (ldQ (ty := 93) rfl ?_); first | (with_reducible refine (Stp.ldo rfl agg93 rfl H (by assumption) (by assumption) ?_); simp only [pS]) | (with_reducible refine (Stp.ldc rfl agg93 rfl H mR cE ?_); simp only [pS])) | (with_reducible refine wpl rfl (stQ (ty := 26) rfl ?_); first | (with_reducible refine (Stp.stc rfl size26 rfl rfl rfl rfl H uP (by first | omega | (simp; done) | (simp; omega)) ?_); clear H; intro w1 H; simp only [pS]; simp only [pE, nC, pS] at H)))
          go_ret
          exact ⟨_, rfl, by rw [HV.out]; rfl, .inr ⟨by rw [HV.out]; omega, ka, kc, G, by rw [HKN.out]; exact H.sub sU⟩⟩
        · have hk : ¬ (4611686018427387904 : Int) < (slot : Int) := by omega
          by_cases h4 : 64 ≤ n
          · have HV : Hid (addE ap n slot c = 7) := Lib.hid (by unfold addE; simp [HE.out, h1, h2, h3, h4])
            have hl : (64 : Int) ≤ (n : Int) := by omega
            clear he
            go_enter Try.func15, Try.ntmps15
            go_wp2_with (first | (go_at_call 48; (with_reducible refine (ccheck_ok c ba ma la da bc mc lc dc hm.v hw _ (hx.at H (by repeat (first | exact List.Sublist.refl _ | apply List.Sublist.cons)))).mono ?_); rintro e w1 ⟨v, rfl, hr⟩; obtain ⟨rfl, hb1⟩ := hr; replace H := H.grow hb1; clear hb1; rw [HE.out]) | (with_reducible refine wpl rfl (dQ 5 rfl ?_); with_reducible refine (Stp.box 5 rfl rfl rfl H ?_); clear H; intro g5 w1 H; simp only [pS]; simp only [pE, nC, pS] at H) | (with_reducible refine wpl rfl (ldQ (ty := 36) rfl ?_); first | (with_reducible refine (Stp.ldor rfl agg36 size36 rfl H (by assumption) sZ (by assumption) ?_); simp only [pS]) | (with_reducible refine (Stp.ldr rfl agg36 size36 rfl H mR sZ ?_); simp only [pS]) | (with_reducible refine (Stp.ldl rfl agg36 size36 rfl H mR (by simp) ?_); simp only [pS]; simp only [List.drop_succ_cons, List.drop_zero, List.take_succ_cons, List.take_zero])) | (with_reducible refine wpl rfl (ldQ (ty := 26) rfl ?_); first | (with_reducible refine (Stp.ldo rfl agg26 rfl H (by assumption) (by assumption) ?_); simp only [pS]) | (with_reducible refine (Stp.ldc rfl agg26 rfl H mR cE ?_); simp only [pS])) | (with_reducible refine wpl rfl (ldQ (ty := 93) rfl ?_); first | (with_reducible refine (Stp.ldo rfl agg93 rfl H (by assumption) (by assumption) ?_); simp only [pS]) | (with_reducible refine (Stp.ldc rfl agg93 rfl H mR cE ?_); simp only [pS])) | (with_reducible refine wpl rfl (stQ (ty := 26) rfl ?_); first | (with_reducible refine (Stp.stc rfl size26 rfl rfl rfl rfl H uP (by first | omega | (simp; done) | (simp; omega)) ?_); clear H; intro w1 H; simp only [pS]; simp only [pE, nC, pS] at H)))
            go_ret
            exact ⟨_, rfl, by rw [HV.out]; rfl, .inr ⟨by rw [HV.out]; omega, ka, kc, G, by rw [HKN.out]; exact H.sub sU⟩⟩
          · have HV : Hid (addE ap n slot c = 0) := Lib.hid (by unfold addE; simp [HE.out, h1, h2, h3, h4])
            have hl : ¬ (64 : Int) ≤ (n : Int) := by omega
            clear he h1 h2 h3 h4
            go_enter Try.func15, Try.ntmps15
            go_wp2_with (first | (go_at_call 48; (with_reducible refine (ccheck_ok c ba ma la da bc mc lc dc hm.v hw _ (hx.at H (by repeat (first | exact List.Sublist.refl _ | apply List.Sublist.cons)))).mono ?_); rintro e w1 ⟨v, rfl, hr⟩; obtain ⟨rfl, hb1⟩ := hr; replace H := H.grow hb1; clear hb1; rw [HE.out]) | (with_reducible refine wpl rfl (dQ 5 rfl ?_); with_reducible refine (Stp.box 5 rfl rfl rfl H ?_); clear H; intro g5 w1 H; simp only [pS]; simp only [pE, nC, pS] at H) | (with_reducible refine wpl rfl (ldQ (ty := 36) rfl ?_); first | (with_reducible refine (Stp.ldor rfl agg36 size36 rfl H (by assumption) sZ (by assumption) ?_); simp only [pS]) | (with_reducible refine (Stp.ldr rfl agg36 size36 rfl H mR sZ ?_); simp only [pS]) | (with_reducible refine (Stp.ldl rfl agg36 size36 rfl H mR (by simp) ?_); simp only [pS]; simp only [List.drop_succ_cons, List.drop_zero, List.take_succ_cons, List.take_zero])) | (with_reducible refine wpl rfl (ldQ (ty := 26) rfl ?_); first | (with_reducible refine (Stp.ldo rfl agg26 rfl H (by assumption) (by assumption) ?_); simp only [pS]) | (with_reducible refine (Stp.ldc rfl agg26 rfl H mR cE ?_); simp only [pS])) | (with_reducible refine wpl rfl (ldQ (ty := 93) rfl ?_); first | (with_reducible refine (Stp.ldo rfl agg93 rfl H (by assumption) (by assumption) ?_); simp only [pS]) | (with_reducible refine (Stp.ldc rfl agg93 rfl H mR cE ?_); simp only [pS])) | (with_reducible refine wpl rfl (stQ (ty := 26) rfl ?_); first | (with_reducible refine (Stp.stc rfl size26 rfl rfl rfl rfl H uP (by first | omega | (simp; done) | (simp; omega)) ?_); clear H; intro w1 H; simp only [pS]; simp only [pE, nC, pS] at H)))
            refine rk_begin 11 12 (fun W => St B w0 W (row 36 g5 (cmC c ba ma la da bc mc lc dc) :: row 97 g0 #[.int .u64 (ap : Int), .slice ka n kc] :: L)) rfl (by kernel_rfl) ?_
            replace H := H.drew
            have HS := H
            refine rk_free (i := 0) rfl kR kR kR kR (Yld.move rfl rfl) (fun _ => (H.sub sU)) ?_; simp only [pS, pE]
            refine rk_free (i := 1) rfl kR kR kR kR (Yld.move rfl rfl) (fun _ => (H.sub sU)) ?_; simp only [pS, pE]
            refine rk_free (i := 2) rfl kR kR kR kR (Yld.o rfl) (fun _ => (H.sub sU)) ?_; simp only [pS]
            refine rk_free (i := 3) rfl kR kR kR kR (Yld.o rfl) (fun _ => (H.sub sU)) ?_; simp only [pS]
            first | (refine rk_take (i := 4) rfl kR kR kR kR kR kR (Yld.ldc rfl rfl agg93 rfl mR cE) (H.sub sU) ?_; simp only [pS]) | (refine rk_take (i := 4) rfl kR kR kR kR kR kR (Yld.ldo rfl rfl agg93 rfl (by assumption) (by assumption)) (H.sub sU) ?_; simp only [pS])
            first | (refine rk_take (i := 5) rfl kR kR kR kR kR kR (Yld.ldr rfl rfl agg36 size36 rfl mR sZ) (H.sub sU) ?_; simp only [pS]) | (refine rk_take (i := 5) rfl kR kR kR kR kR kR (Yld.ldl rfl rfl agg36 size36 rfl mR (by simp)) (H.sub sU) ?_; simp only [pS]; simp only [List.drop_succ_cons, List.drop_zero, List.take_succ_cons, List.take_zero]) | (refine rk_take (i := 5) rfl kR kR kR kR kR kR (Yld.ldor rfl rfl agg36 size36 rfl (by assumption) sZ (by assumption)) (H.sub sU) ?_; simp only [pS])
            refine rk_one (i := 6) (by kernel_rfl) rfl rfl (fun K hK => ?_)
            refine wp_callf rfl ent49 (ccopy_ok c ba ma la da bc mc lc dc hm _ (hx.at H (by repeat (first | exact List.Sublist.refl _ | apply List.Sublist.cons)))) rfl (fun v w1 hr => ?_)
            obtain ⟨G2, ab, am, al, ad, cb, cm, cl, cd, rfl, hG2, hv2, hb1⟩ := hr
            replace H := H.new hb1 (cmr_sound hG2 hv2) (fun g hg => (hG2 g hg).1)
            clear hb1 hG2 hv2
            clear HS
            have HS := H
            refine hK.out _ _ (fun _ => (H.sub sU)) ?_
            clear hK K
            simp only [pS]
            refine rk_one (i := 7) (by kernel_rfl) rfl rfl (fun K hK => ?_)
            refine Stp.wp (Stp.bsl (e := 36) (cs := (cmC c ab am al ad cb cm cl cd)) 46 rfl rfl (fun W => by kernel_rfl) H ?_)
            clear H
            intro g46 w1 H
            clear HS
            have HS := H
            refine hK.out _ _ (fun _ => (H.sub sU)) ?_
            clear hK K
            simp only [pS]
            refine rk_one (i := 8) (by kernel_rfl) rfl rfl (fun K hK => ?_)
            refine Stp.wp (Stp.appo 47 rfl rfl Try.underlying93 info36 rfl (by decide) rfl rfl H (fun _ => uP) (show ((cmC c ab am al ad cb cm cl cd).toList).length = 1 * 10 from rfl) (by omega) (newN (H.gr 36)) (cm_one _ _ _ _ _ _ _ _ _) (by unfold maxLen; omega) (by omega) ?_)
            clear H
            intro a47 c47 w1 H
            clear HS
            have HS := H
            refine hK.out _ _ (fun _ => (H.sub sU)) ?_
            clear hK K
            simp only [pS]
            refine rk_free (i := 9) rfl kR kR kR kR (Yld.o rfl) (fun _ => (H.sub sU)) ?_; simp only [pS]
            refine rk_free (i := 10) rfl kR kR kR kR (Yld.o rfl) (fun _ => (H.sub sU)) ?_; simp only [pS]
            refine rk_one (i := 11) (by kernel_rfl) rfl rfl (fun K hK => ?_)
            refine Stp.wp (Stp.stc rfl size93 rfl rfl rfl rfl H uP (by simp) ?_)
            clear H
            intro w1 H
            simp only [pE, nC, pS] at H
            clear HS
            have HS := H
            refine hK.out _ _ (fun h => by cases (show true = false from h)) ?_
            clear hK K
            simp only [pS]
            refine rk_done (by kernel_rfl) ?_
            go_wp2_with (first | (go_at_call 48; (with_reducible refine (ccheck_ok c ba ma la da bc mc lc dc hm.v hw _ (hx.at H (by repeat (first | exact List.Sublist.refl _ | apply List.Sublist.cons)))).mono ?_); rintro e w1 ⟨v, rfl, hr⟩; obtain ⟨rfl, hb1⟩ := hr; replace H := H.grow hb1; clear hb1; rw [HE.out]) | (with_reducible refine wpl rfl (dQ 5 rfl ?_); with_reducible refine (Stp.box 5 rfl rfl rfl H ?_); clear H; intro g5 w1 H; simp only [pS]; simp only [pE, nC, pS] at H) | (with_reducible refine wpl rfl (ldQ (ty := 36) rfl ?_); first | (with_reducible refine (Stp.ldor rfl agg36 size36 rfl H (by assumption) sZ (by assumption) ?_); simp only [pS]) | (with_reducible refine (Stp.ldr rfl agg36 size36 rfl H mR sZ ?_); simp only [pS]) | (with_reducible refine (Stp.ldl rfl agg36 size36 rfl H mR (by simp) ?_); simp only [pS]; simp only [List.drop_succ_cons, List.drop_zero, List.take_succ_cons, List.take_zero])) | (with_reducible refine wpl rfl (ldQ (ty := 26) rfl ?_); first | (with_reducible refine (Stp.ldo rfl agg26 rfl H (by assumption) (by assumption) ?_); simp only [pS]) | (with_reducible refine (Stp.ldc rfl agg26 rfl H mR cE ?_); simp only [pS])) | (with_reducible refine wpl rfl (ldQ (ty := 93) rfl ?_); first | (with_reducible refine (Stp.ldo rfl agg93 rfl H (by assumption) (by assumption) ?_); simp only [pS]) | (with_reducible refine (Stp.ldc rfl agg93 rfl H mR cE ?_); simp only [pS])) | (with_reducible refine wpl rfl (stQ (ty := 26) rfl ?_); first | (with_reducible refine (Stp.stc rfl size26 rfl rfl rfl rfl H uP (by first | omega | (simp; done) | (simp; omega)) ?_); clear H; intro w1 H; simp only [pS]; simp only [pE, nC, pS] at H)))
            go_ret
            obtain ⟨G', H2⟩ := St.cms1 (h := ⟨ab, am, al, ad, cb, cm, cl, cd⟩) ((H.pull (r := cmsr G ks) pU).pull (r := cmr G2 _ _ _ _ c) pU)
            have hl : (ks ++ [(c, (⟨ab, am, al, ad, cb, cm, cl, cd⟩ : Hd))]).length = n + 1 := by rw [List.length_append, HKN.out]; rfl
            have hv : kv (ks ++ [(c, (⟨ab, am, al, ad, cb, cm, cl, cd⟩ : Hd))]) = kv ks ++ (cmH c ⟨ab, am, al, ad, cb, cm, cl, cd⟩).toList := by rw [kv_app, kv_one]
            refine ⟨_, rfl, by rw [HV.out]; rfl, .inl ⟨HV.out, ⟨ab, am, al, ad, cb, cm, cl, cd⟩, a47, c47, G', ?_⟩⟩
            rw [hl, hv]
            exact ((H2.pull (r := slo 36 10 (.slice a47 (n + 1) c47) (n + 1) _) pU).pull (r := row 97 g0 _) pU).sub sU
  · have HV : Hid (addE ap n slot c = 1) := Lib.hid (by unfold addE; simp [HE.out, he0])
    have hi : (e == 0) = false := by simp [he0]
    have hj : (e != 0) = true := by simp [he0]
    clear he he0
    go_enter Try.func15, Try.ntmps15
    go_wp2_with (first | (go_at_call 48; (with_reducible refine (ccheck_ok c ba ma la da bc mc lc dc hm.v hw _ (hx.at H (by repeat (first | exact List.Sublist.refl _ | apply List.Sublist.cons)))).mono ?_); rintro e w1 ⟨v, rfl, hr⟩; obtain ⟨rfl, hb1⟩ := hr; replace H := H.grow hb1; clear hb1; rw [HE.out]) | (with_reducible refine wpl rfl (dQ 5 rfl ?_); with_reducible refine (Stp.box 5 rfl rfl rfl H ?_); clear H; intro g5 w1 H; simp only [pS]; simp only [pE, nC, pS] at H) | (with_reducible refine wpl rfl (ldQ (ty := 36) rfl ?_); first | (with_reducible refine (Stp.ldor rfl agg36 size36 rfl H (by assumption) sZ (by assumption) ?_); simp only [pS]) | (with_reducible refine (Stp.ldr rfl agg36 size36 rfl H mR sZ ?_); simp only [pS]) | (with_reducible refine (Stp.ldl rfl agg36 size36 rfl H mR (by simp) ?_); simp only [pS]; simp only [List.drop_succ_cons, List.drop_zero, List.take_succ_cons, List.take_zero])) | (with_reducible refine wpl rfl (ldQ (ty := 26) rfl ?_); first | (with_reducible refine (Stp.ldo rfl agg26 rfl H (by assumption) (by assumption) ?_); simp only [pS]) | (with_reducible refine (Stp.ldc rfl agg26 rfl H mR cE ?_); simp only [pS])) | (with_reducible refine wpl rfl (ldQ (ty := 93) rfl ?_); first | (with_reducible refine (Stp.ldo rfl agg93 rfl H (by assumption) (by assumption) ?_); simp only [pS]) | (with_reducible refine (Stp.ldc rfl agg93 rfl H mR cE ?_); simp only [pS])) | (with_reducible refine wpl rfl (stQ (ty := 26) rfl ?_); first | (with_reducible refine (Stp.stc rfl size26 rfl rfl rfl rfl H uP (by first | omega | (simp; done) | (simp; omega)) ?_); clear H; intro w1 H; simp only [pS]; simp only [pE, nC, pS] at H)))
    go_ret
    exact ⟨_, rfl, by rw [HV.out]; rfl, .inr ⟨by rw [HV.out]; omega, ka, kc, G, by rw [HKN.out]; exact H.sub sU⟩⟩
set_option maxRecDepth 100000 in
set_option maxHeartbeats 4000000 in
theorem lget_ok {B : Nat} {w0 : World} {L : List Res} (g0 ap slot : Nat) (ks : List (Cm × Hd)) (hn : ks.length ≤ 64) (ha : ap < 18446744073709551616) (hs : slot < 18446744073709551616) (hm : ∀ p ∈ ks, smC p.1) (w : World) (H0 : LdSt B w0 w g0 ap ks L) :
    Calls Try.prog 16 #[.pointer (some ⟨g0, 0, none⟩), .int .u64 (slot : Int)] w (Ret fun v w' => (plc ap ks.length slot = none ∧ v = .tuple #[.agg #[.int .i64 0, .int .u16 0, .int .u32 0, .int .u64 0, .int .u64 0, .slice none 0 0, .int .u64 0, .slice none 0 0, .slice none 0 0, .slice none 0 0], .int .i64 8] ∧ LdSt B w0 w' g0 ap ks L) ∨
      (∃ k p G2 h, plc ap ks.length slot = some k ∧ ks[k]? = some p ∧ v = .tuple #[.agg (cmH p.1 h), .int .i64 0] ∧ LdSt B w0 w' g0 ap ks (cmr G2 (.slice h.ba p.1.data.length h.bc) (.slice h.ma p.1.v.mem.length h.mc) (.slice h.la p.1.v.lvs.length h.lc) (.slice h.da p.1.v.ldr.length h.dc) p.1 :: L))) := by
  obtain ⟨ka, kc, G, H⟩ := H0
  obtain ⟨n, hkn⟩ : ∃ n, ks.length = n := ⟨_, rfl⟩
  have HKN := Lib.hid hkn
  have HM := Lib.hid hm
  rw [hkn] at H hn ⊢
  clear hkn hm
  cases hp : plc ap n slot with
  | none =>
    have HP := Lib.hid hp
    clear hp
    go_enter Try.func16, Try.ntmps16
    go_wp2_with (first | (go_at_call 50; (with_reducible refine (place_ok g0 ap n kc slot _ ha hs (by omega) _ (H.getHeap mE)).mono ?_); rintro e w1 ⟨v, rfl, hr⟩; rw [HP.out] at hr; obtain ⟨rfl, hb1⟩ := hr; replace H := H.grow hb1; clear hb1) | (with_reducible refine wpl rfl (dQ 16 rfl ?_); with_reducible refine (Stp.build (v := (.agg #[.int .i64 0, .int .u16 0, .int .u32 0, .int .u64 0, .int .u64 0, .slice none 0 0, .int .u64 0, .slice none 0 0, .slice none 0 0, .slice none 0 0])) 16 rfl rfl (fun W => by kernel_rfl) ?_); simp only [pS]) | (with_reducible refine wpl rfl (dQ 4 rfl ?_); with_reducible refine (Stp.alloc 4 rfl rfl zero36 H ?_); clear H; intro g4 w1 H; simp only [pS]; simp only [nC] at H) | (with_reducible refine wpl rfl (stQ (ty := 36) rfl ?_); first | (with_reducible refine (Stp.str rfl size36 rfl rfl (by first | rfl | (simp [Value.oneCell']; done) | assumption) H uP sZ sZ ?_); clear H; intro w1 H; simp only [pS]) | (with_reducible refine (Stp.stl rfl size36 rfl rfl rfl rfl H uP (by simp) ?_); clear H; intro w1 H; simp only [pS]; simp only [List.drop_succ_cons, List.drop_zero, List.take_succ_cons, List.take_zero, List.nil_append, List.cons_append, Nat.reduceAdd] at H)) | (with_reducible refine wpl rfl (ldQ (ty := 93) rfl ?_); first | (with_reducible refine (Stp.ldo rfl agg93 rfl H (by assumption) (by assumption) ?_); simp only [pS]) | (with_reducible refine (Stp.ldc rfl agg93 rfl H mR cE ?_); simp only [pS])) | (with_reducible refine wpl rfl (ldQ (ty := 36) rfl ?_); first | (with_reducible refine (Stp.ldor rfl agg36 size36 rfl H (by assumption) sZ (by assumption) ?_); simp only [pS]) | (with_reducible refine (Stp.ldr rfl agg36 size36 rfl H mR sZ ?_); simp only [pS]) | (with_reducible refine (Stp.ldl rfl agg36 size36 rfl H mR (by simp) ?_); simp only [pS]; simp only [List.drop_succ_cons, List.drop_zero, List.take_succ_cons, List.take_zero])))
    refine post_row2 rfl agg36 size36 rfl H mE rfl rfl ⟨_, rfl, .inl ⟨by first | rfl | trivial, rfl, ka, kc, G, by rw [HKN.out]; exact H.sub sU⟩⟩
  | some k =>
    have hk := plc_lt hp
    have HP := Lib.hid hp
    have hkl : k < ks.length := by rw [HKN.out]; exact hk
    have hgk : ks[k]? = some ks[k] := List.getElem?_eq_getElem hkl
    obtain ⟨p, hpk⟩ : ∃ p, ks[k] = p := ⟨_, rfl⟩
    rw [hpk] at hgk
    have HGK := Lib.hid hgk
    have hmem : p ∈ ks := List.mem_of_getElem? hgk
    have hsm := HM.out p hmem
    have HCE := Lib.hid (kv_get ks k p hgk)
    have HCM := Lib.hid hmem
    obtain ⟨gk, ok, rfl⟩ := H.slo_addr (e := 36) (size := 10) (xs := kv ks) mE (by omega)
    obtain ⟨c, h⟩ := p
    obtain ⟨ba, ma, la, da, bc, mc, lc, dc⟩ := h
    have kni : (k : Int) < (n : Int) := by omega
    clear hp hgk hpk hmem
    go_enter Try.func16, Try.ntmps16
    go_wp2_with (first | (go_at_call 50; (with_reducible refine (place_ok g0 ap n kc slot _ ha hs (by omega) _ (H.getHeap mE)).mono ?_); rintro e w1 ⟨v, rfl, hr⟩; rw [HP.out] at hr; obtain ⟨rfl, hb1⟩ := hr; replace H := H.grow hb1; clear hb1) | (with_reducible refine wpl rfl (Stp.loa (cs := cmC c ba ma la da bc mc lc dc) (d := k * 10) rfl agg36 size36 rfl H mE HCE.out rfl ?_); simp only [pS]) | (go_at_call 49; (with_reducible refine (ccopy_ok c ba ma la da bc mc lc dc hsm _ ((H.getCms mE) (c, ⟨ba, ma, la, da, bc, mc, lc, dc⟩) HCM.out)).mono ?_); rintro e w1 ⟨v, rfl, hr⟩; obtain ⟨G2, ab, am, al, ad, cb, cm, cl, cd, rfl, hG2, hv2, hb1⟩ := hr; replace H := H.new hb1 (cmr_sound hG2 hv2) (fun g hg => (hG2 g hg).1); clear hb1 hG2 hv2) | (with_reducible refine wpl rfl (dQ 4 rfl ?_); with_reducible refine (Stp.alloc 4 rfl rfl zero36 H ?_); clear H; intro g4 w1 H; simp only [pS]; simp only [nC] at H) | (with_reducible refine wpl rfl (stQ (ty := 36) rfl ?_); first | (with_reducible refine (Stp.str rfl size36 rfl rfl (by first | rfl | (simp [Value.oneCell']; done) | assumption) H uP sZ sZ ?_); clear H; intro w1 H; simp only [pS]) | (with_reducible refine (Stp.stl rfl size36 rfl rfl rfl rfl H uP (by simp) ?_); clear H; intro w1 H; simp only [pS]; simp only [List.drop_succ_cons, List.drop_zero, List.take_succ_cons, List.take_zero, List.nil_append, List.cons_append, Nat.reduceAdd] at H)) | (with_reducible refine wpl rfl (ldQ (ty := 93) rfl ?_); first | (with_reducible refine (Stp.ldo rfl agg93 rfl H (by assumption) (by assumption) ?_); simp only [pS]) | (with_reducible refine (Stp.ldc rfl agg93 rfl H mR cE ?_); simp only [pS])) | (with_reducible refine wpl rfl (ldQ (ty := 36) rfl ?_); first | (with_reducible refine (Stp.ldor rfl agg36 size36 rfl H (by assumption) sZ (by assumption) ?_); simp only [pS]) | (with_reducible refine (Stp.ldr rfl agg36 size36 rfl H mR sZ ?_); simp only [pS]) | (with_reducible refine (Stp.ldl rfl agg36 size36 rfl H mR (by simp) ?_); simp only [pS]; simp only [List.drop_succ_cons, List.drop_zero, List.take_succ_cons, List.take_zero])))
    refine post_row2 rfl agg36 size36 rfl H mE rfl rfl ⟨_, rfl, .inr ⟨k, _, G2, ⟨ab, am, al, ad, cb, cm, cl, cd⟩, rfl, HGK.out, rfl, some ⟨gk, ok, none⟩, kc, G, ?_⟩⟩
    rw [HKN.out]
    exact (((H.pull (r := cmr G2 _ _ _ _ c) pU).pull (r := cmsr G ks) pU).pull (r := slo 36 10 _ n (kv ks)) pU).pull (r := row 97 g0 _) pU |>.sub sU
end Go.Proofs.Ytmokecicjmjkbaa
