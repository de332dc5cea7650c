/- What any number stands for among 0 to n - 1 (choragusref01.Pick); no condition. -/
import Derived.Test.YtmokecicjmjkbaaPidL
namespace Go.Proofs.Ytmokecicjmjkbaa
open Go.ChangeShapes Go.WideShapes Go.ChangeAt Go.RowKit
set_option linter.unusedVariables false
set_option linter.unusedSimpArgs false
/-- A number of 0 to n - 1 that any number stands for. -/
theorem pick_mod (b z : Int) (n : Nat) (hz : z = n) (hn : 0 < n) (hn2 : n ≤ 1000000) (w : World) :
    Calls Try.prog 58 #[.int .i64 b, .int .i64 z] w (Ret fun v w' => v = .int .i64 (((b % n).toNat : Nat) : Int) ∧ Below w.heap.size w w') := by
  subst hz
  have H := St.init w
  have e1 := Int.emod_nonneg b (show (n : Int) ≠ 0 by omega)
  have e2 := Int.emod_lt_of_pos b (show (0 : Int) < n by omega)
  have h := Int.tmod_eq_emod (a := b) (b := (n : Int))
  rw [Int.natAbs_natCast] at h
  have hr : (b.tmod n < 0 → b.tmod n + n = b % n) ∧ (¬ b.tmod n < 0 → b.tmod n = b % n) := by
    split at h <;> constructor <;> intro h' <;> omega
  obtain ⟨e, he⟩ : ∃ e, b.tmod n = e := ⟨_, rfl⟩
  obtain ⟨q, hq⟩ : ∃ q, b % (n : Int) = q := ⟨_, rfl⟩
  rw [he, hq] at hr
  rw [hq] at e1 e2 ⊢
  have eb : -(n : Int) ≤ e ∧ e < n := by
    by_cases h0 : e < 0
    · have := hr.1 h0; omega
    · have := hr.2 h0; omega
  obtain ⟨eb1, eb2⟩ := eb
  have n1 : ¬ (n : Int) < 1 := by omega
  have nz : ((n : Int) == 0) = false := by simp; omega
  clear hq h
  by_cases h0 : e < 0
  · have HQ := Lib.hid (hr.1 h0)
    clear hr
    go_enter Try.func58, Try.ntmps58
    go_wp2
    go_ret
    exact ⟨_, rfl, congrArg (Value.int IntKind.i64) (show e + (n : Int) = _ by have := HQ.out; omega), H.below⟩
  · have HQ := Lib.hid (hr.2 h0)
    clear hr
    go_enter Try.func58, Try.ntmps58
    go_wp2
    go_ret
    exact ⟨_, rfl, congrArg (Value.int IntKind.i64) (show e = _ by have := HQ.out; omega), H.below⟩
end Go.Proofs.Ytmokecicjmjkbaa
