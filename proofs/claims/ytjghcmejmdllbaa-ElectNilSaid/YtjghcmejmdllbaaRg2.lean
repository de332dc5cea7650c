/- Regions that draw their order: a load that comes ahead of number k by a chain of operations; no condition. -/
import Derived.Test.YtjghcmejmdllbaaRg
import Derived.Test.YtjghcmejmdllbaaHeld
namespace Go.Proofs.Ytjghcmejmdllbaa
open Go.ChangeShapes Go.WideShapes Go.ChangeAt Go.RowKit
set_option linter.unusedVariables false
set_option linter.unusedSimpArgs false
/-! ### A load that comes ahead of number k by a chain of operations -/
def chainB (l : List Oper) : Nat → List Nat → Bool
  | _, [] => true
  | i, c :: r => (l[c]?.map fun o => o.after.any fun e => Region.binds .any e && e.on == i) == some true && chainB l c r
theorem chain_pre {l : List Oper} : ∀ (ch : List Nat) (i : Nat), chainB l i ch = true → ∀ c ∈ ch, ∃ p, (p = i ∨ p ∈ ch) ∧ ∃ o, l[c]? = some o ∧ ∃ e ∈ o.after, Region.binds .any e = true ∧ e.on = p
  | [], _, _, c, hc => by cases hc
  | x :: r, i, h, c, hc => by
    simp only [chainB, Bool.and_eq_true, beq_iff_eq] at h
    rcases List.mem_cons.1 hc with rfl | hc
    · cases ho : l[c]? with
      | none => rw [ho] at h; simp at h
      | some o =>
        rw [ho] at h
        simp only [Option.map_some, Option.some.injEq, Array.any_eq_true', Bool.and_eq_true, beq_iff_eq] at h
        obtain ⟨⟨e, he, hb, hon⟩, _⟩ := h
        exact ⟨i, .inl rfl, o, rfl, e, he, hb, hon⟩
    · obtain ⟨p, hp, q⟩ := chain_pre r x h.2 c hc
      refine ⟨p, .inr ?_, q⟩
      rcases hp with rfl | hp
      · exact List.mem_cons_self
      · exact List.mem_cons_of_mem _ hp
section
variable {P : Program} {Q : Exit → Act → World → Prop} {S : World → Prop} {k : Nat} {a : Act} {w : World} {l : List Oper} {i : Nat} {oi : Oper} {v : Value} {fuel : Nat} {listed : Array Bool}
theorem rk_via (ch : List Nat) (hi : l[i]? = some oi) (hs : Region.noSelect l.toArray = true) (hf : Region.free .any l.toArray listed i = true) (hr : (Region.ready .any l.toArray listed).contains i = true)
    (hc : chainB l i ch = true) (hk : ch.contains k = true) (hl : (ch.all fun c => listed.getD c true == false) = true) (hki : (k == i) = false)
    (hy : YieldsIf P l.toArray S oi v a) (hS : S w) (h : Kept P l.toArray (NoPanic Q) S k fuel (listed.setIfInBounds i true) (a.put oi.dst v) w) : Kept P l.toArray (NoPanic Q) S k (fuel + 1) listed a w := by
  have hik : i ≠ k := fun e => by subst e; simp at hki
  have hkm : k ∈ ch := by simpa using hk
  refine Kept.first (T := S) (J := fun l' => ∀ c ∈ ch, l'.getD c true = false) (by simpa using hi) hik (Region.noSelect_spec hs) (fun _ _ _ h => h) (fun l' w' hj hS' => hS' (hj k hkm)) (fun l' j hj hri hrj hji c hcm => ?_) fuel listed a w (Region.free_spec (by simpa using hi) hf) (by simpa using hr) (fun c hcm => by simpa using List.all_eq_true.1 hl c hcm) hy (fun _ => hS) h
  by_cases hjc : j = c
  · exfalso
    subst hjc
    obtain ⟨p, hp, o, ho, e, he, hb, hon⟩ := chain_pre ch i hc j hcm
    obtain ⟨_, ok, hok, hall⟩ := mem_ready.1 hrj
    have hok' : l[j]? = some ok := by simpa using hok
    rw [ho] at hok'
    cases hok'
    have h1 := hall e he hb
    rw [hon] at h1
    have h0 : l'.getD p true = false := by
      rcases hp with rfl | hp
      · exact (mem_ready.1 hri).1
      · exact hj p hp
    rcases Nat.lt_or_ge p l'.size with h' | h'
    · simp [h'] at h0 h1; rw [h0] at h1; cases h1
    · simp [Array.getElem?_eq_none h'] at h1
  · rw [getD_set_ne true hjc]; exact hj c hcm
end
theorem listed_keeps {l : Array Bool} {k i : Nat} (h : l.getD k false = true) : (l.setIfInBounds i true).getD k false = true ∧ ¬ (l.setIfInBounds i true).getD k true = false := by
  have hk : k < l.size := by
    rcases Nat.lt_or_ge k l.size with h' | h'
    · exact h'
    · simp [Array.getElem?_eq_none h'] at h
  have h1 : l[k] = true := by simpa [hk] using h
  by_cases hik : i = k
  · subst hik; simp [hk]
  · simp [hk, h1, Array.getElem_setIfInBounds, hik]
/-- Behind number k nothing is asked any more: from there on anything may be kept. -/
theorem Kept.later {ops : Array Oper} {S S' : World → Prop} {P : Program} {Q : Exit → Act → World → Prop} {k : Nat} : ∀ (fuel : Nat) (listed : Array Bool) (a : Act) (w : World), listed.getD k false = true → wpAnyH P .any ops Q S' fuel listed a w → Kept P ops Q S k fuel listed a w
  | 0, _, _, _, _, h => h
  | n + 1, l, _, _, hk, h => ⟨h.1, fun i hi => wpOp_mono (fun a' w' h' => ⟨fun hc => absurd hc (listed_keeps hk).2, Kept.later n _ a' w' (listed_keeps hk).1 h'.2⟩) (h.2 i hi)⟩
theorem rk_on {ops : Array Oper} {S : World → Prop} {P : Program} {Q : Exit → Act → World → Prop} {k fuel : Nat} {listed : Array Bool} {a : Act} {w : World} (S' : World → Prop) (hk : listed.getD k false = true) (h : wpAnyH P .any ops Q S' fuel listed a w) : Kept P ops Q S k fuel listed a w := Kept.later _ _ _ _ hk h
end Go.Proofs.Ytjghcmejmdllbaa
