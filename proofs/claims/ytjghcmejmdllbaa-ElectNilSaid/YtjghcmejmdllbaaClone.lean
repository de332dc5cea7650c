/- The contract of bytes.Clone, of any bytes, none too; the bound stands in it. -/
import Derived.Test.YtjghcmejmdllbaaPidL
namespace Go.Proofs.Ytjghcmejmdllbaa
open Go.ChangeShapes Go.WideShapes Go.ChangeAt Go.RowKit
set_option linter.unusedVariables false
set_option linter.unusedSimpArgs false
attribute [local go_sem] nil_bs
set_option maxRecDepth 100000 in
theorem clone_any (v : Value) (l : List Nat) (m : Nat) (hm : l.length = m) (hl : m ≤ 100000) (w : World) (hs : Sl w 1 l.length v (elB l)) :
    Calls Try.prog 61 #[v] w (Ret fun v' w' => (∃ ap cp, v' = .slice ap m cp) ∧ w'.ownsRow w.heap.size 5 1 v' m (bv l) ∧ Below w.heap.size w w') := by
  have hs' := hs
  obtain ⟨A, c, rfl, hm'⟩ := hs'.len
  subst hm
  cases A with
  | none =>
    have h0 : l = [] := by
      cases l with
      | nil => rfl
      | cons x t => obtain ⟨b, off, e, _⟩ := hs.byte (k := 0) (by simp); cases e
    subst h0
    have H := St.init w
    go_enter Try.func61, Try.ntmps61
    go_wp2_with fail
    go_ret
    exact ⟨_, rfl, ⟨_, _, rfl⟩, World.ownsRow_nil _ _ _ _, H.below⟩
  | some a =>
    obtain ⟨b, o, sp⟩ := a
    have hsp : l.length = 0 ∨ sp = none := by
      rcases Nat.eq_zero_or_pos l.length with h | h
      · exact .inl h
      · obtain ⟨b', off, e, _⟩ := hs.byte (k := 0) h
        cases e; exact .inr rfl
    have H := St.init w
    go_enter Try.func61, Try.ntmps61
    go_wp2_with (first | (with_reducible refine wpl rfl (Stp.bsl0 (e := 5) 5 rfl rfl (fun W => by kernel_rfl) H ?_); clear H; intro a5 c5 w1 H; simp only [pS]; (try simp only [Nat.zero_add, List.nil_append] at H ⊢)) | (with_reducible refine wpl rfl (Stp.apps 7 rfl rfl Try.underlying37 info5 rfl (by decide) rfl rfl H (fun _ => uP) (by rw [bv_len, Nat.mul_one]) (hs.grow H.below).src (bv_one l) (by unfold maxLen; omega) (by omega) ?_); clear H; intro a7 c7 w1 H; simp only [pS]; (try simp only [Nat.zero_add, List.nil_append] at H ⊢)))
    go_ret
    exact ⟨_, rfl, ⟨_, _, rfl⟩, H.getSlc mE, H.below⟩
end Go.Proofs.Ytjghcmejmdllbaa
