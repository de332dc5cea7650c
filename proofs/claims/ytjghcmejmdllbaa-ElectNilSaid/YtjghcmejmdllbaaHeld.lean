/- Regions that draw their order and end in a store: a condition on the world that must hold up to operation k alone; no condition. -/
import Derived.Test.YtjghcmejmdllbaaBase
namespace Go.Proofs.Ytjghcmejmdllbaa
open Go.ChangeShapes Go.WideShapes Go.ChangeAt Go.RowKit
set_option linter.unusedVariables false
set_option linter.unusedSimpArgs false
section
variable {P : Program} {ops : Array Oper} {Q : Exit → Act → World → Prop} {S : World → Prop} {k : Nat} {a : Act} {w : World}
/-- Whatever order is picked, and S holds as long as number k has not come up. -/
def Kept (P : Program) (ops : Array Oper) (Q : Exit → Act → World → Prop) (S : World → Prop) (k : Nat) : Nat → Array Bool → Act → World → Prop
  | 0, l, a, w => Region.ready .any ops l = [] ∧ Q .normal a w
  | n + 1, l, a, w => (Region.ready .any ops l = [] → Q .normal a w) ∧
      ∀ i ∈ Region.ready .any ops l, wpOp P ops Q i (fun a' w' => ((l.setIfInBounds i true).getD k true = false → S w') ∧ Kept P ops Q S k n (l.setIfInBounds i true) a' w') a w
theorem Kept.any : ∀ (n : Nat) (l : Array Bool) (a : Act) (w : World), Kept P ops Q S k n l a w → wpAny P .any ops Q n l a w
  | 0, _, _, _, h => h
  | n + 1, _, _, _, h => ⟨h.1, fun i hi => wpOp_mono (fun _ _ h' => Kept.any n _ _ _ h'.2) (h.2 i hi)⟩
/-- What T says of i's value: T is S, and i comes ahead of k; or T asks nothing. -/
theorem Kept.first {T : World → Prop} {J : Array Bool → Prop} {i : Nat} {oi : Oper} {v : Value} (hi : ops[i]? = some oi) (hik : i ≠ k) (hsel : ∀ (j : Nat) (o : Oper) cs b, ops[j]? = some o → o.op ≠ .select cs b)
    (hQ : ∀ c a w, Q (.panic c) (a.put oi.dst v) w → Q (.panic c) a w)
    (hT : ∀ (l : Array Bool) (w : World), J l → (l.getD k true = false → S w) → T w) (hJ : ∀ (l : Array Bool) (j : Nat), J l → i ∈ Region.ready .any ops l → j ∈ Region.ready .any ops l → j ≠ i → J (l.setIfInBounds j true)) :
    ∀ (n : Nat) (l : Array Bool) (a : Act) (w : World),
      (∀ j oj, ops[j]? = some oj → j ≠ i → l.getD j true = false → (∀ e ∈ oj.after, Region.binds .any e = true → e.on ≠ i) → oi.apart ops oj = true) →
      i ∈ Region.ready .any ops l → J l → YieldsIf P ops T oi v a → (l.getD k true = false → S w) →
      Kept P ops Q S k n (l.setIfInBounds i true) (a.put oi.dst v) w → Kept P ops Q S k (n + 1) l a w := by
  have self : ∀ (n : Nat) (l : Array Bool) (a : Act) (w : World), J l → YieldsIf P ops T oi v a → (l.getD k true = false → S w) → Kept P ops Q S k n (l.setIfInBounds i true) (a.put oi.dst v) w →
      wpOp P ops Q i (fun a' w' => ((l.setIfInBounds i true).getD k true = false → S w') ∧ Kept P ops Q S k n (l.setIfInBounds i true) a' w') a w := by
    intro n l a w hj0 hy hS H
    refine hy.wpOp hi (hT l w hj0 hS) ⟨fun h => hS ?_, H⟩
    rw [getD_set_ne true hik] at h; exact h
  intro n
  induction n with
  | zero =>
    intro l a w _ hr hj0 hy hS H
    refine ⟨fun h => (by rw [h] at hr; cases hr), fun j hj => ?_⟩
    by_cases hji : j = i
    · subst hji; exact self 0 l a w hj0 hy hS H
    · have := ready_mono hj hji
      rw [H.1] at this
      cases this
  | succ n ih =>
    intro l a w hfree hr hj0 hy hS H
    refine ⟨fun h => (by rw [h] at hr; cases hr), fun j hj => ?_⟩
    by_cases hji : j = i
    · subst hji; exact self (n + 1) l a w hj0 hy hS H
    · obtain ⟨hun, oj, hoj, hall⟩ := mem_ready.1 hj
      have hnot : ∀ e ∈ oj.after, Region.binds .any e = true → e.on ≠ i := fun e he hb heq => by
        have h1 := hall e he hb
        have h0 := (mem_ready.1 hr).1
        rw [heq] at h1
        rcases Nat.lt_or_ge i l.size with h' | h'
        · simp [h'] at h0 h1; rw [h0] at h1; cases h1
        · simp [Array.getElem?_eq_none h'] at h1
      have step := wpOp_putIf hoj (hfree j oj hoj hji hun hnot) (fun cs b => hsel i oi cs b hi) (fun cs b => hsel j oj cs b hoj) hQ hy (H.2 j (ready_mono hj hji))
      refine wpOp_mono (fun a' w' hp => ?_) step
      obtain ⟨hy', hS', hK⟩ := hp
      have hS2 : (l.setIfInBounds j true).getD k true = false → S w' := fun h => hS' (by
        rw [Array.setIfInBounds_comm _ _ (Ne.symm hji), getD_set_ne true hik]; exact h)
      refine ⟨hS2, ih _ a' w' (fun m om hm hmi hmun hno => hfree m om hm hmi ?_ hno) (ready_mono hr (Ne.symm hji)) (hJ l j hj0 hr hj hji) hy' hS2 ?_⟩
      · by_cases hjm : j = m
        · subst hjm; exact hun
        · rw [getD_set_ne true hjm] at hmun; exact hmun
      · rw [Array.setIfInBounds_comm _ _ hji]
        exact hK
/-- A condition that ends with k, for the walk: S holds if k has not come up. -/
theorem rk_begin {id : Nat} (k n : Nat) (S : World → Prop) (hn : ops.size = n) (hm : P.follows .mixedOrders = true) (h : Kept P ops (NoPanic Q) S k n (Array.replicate n false) a w.drew) : (Code.region id ops true).wp P Q a w := by
  subst hn; exact wp_region_noPanic (wp_region_any hm (Kept.any _ _ _ _ h))
variable {l : List Oper} {i : Nat} {oi o : Oper} {v : Value} {fuel : Nat} {listed : Array Bool}
/-- Number i's value hangs on S, and i comes ahead of k. -/
theorem rk_take (hi : l[i]? = some oi) (hs : Region.noSelect l.toArray = true) (hf : Region.free .any l.toArray listed i = true) (hr : (Region.ready .any l.toArray listed).contains i = true)
    (hk : (l[k]?.map fun o => o.after.any fun e => Region.binds .any e && e.on == i) = some true) (hki : (k == i) = false) (hl : listed.getD k true = false)
    (hy : YieldsIf P l.toArray S oi v a) (hS : S w) (h : Kept P l.toArray (NoPanic Q) S k fuel (listed.setIfInBounds i true) (a.put oi.dst v) w) : Kept P l.toArray (NoPanic Q) S k (fuel + 1) listed a w := by
  have hik : i ≠ k := fun e => by subst e; simp at hki
  refine Kept.first (T := S) (J := fun l => l.getD k true = false) (by simpa using hi) hik (Region.noSelect_spec hs) (fun _ _ _ h => h) (fun l' w' hj hS' => hS' hj) (fun l' j hj hri hrj hji => ?_) fuel listed a w (Region.free_spec (by simpa using hi) hf) (by simpa using hr) hl hy (fun _ => hS) h
  have hjk : j ≠ k := by
    rintro rfl
    obtain ⟨_, ok, hok, hall⟩ := mem_ready.1 hrj
    have hok' : l[j]? = some ok := by simpa using hok
    rw [hok'] at hk
    simp only [Option.map_some, Option.some.injEq, List.any_eq_true, Array.any_eq_true', Bool.and_eq_true, beq_iff_eq] at hk
    obtain ⟨e, he, hb, hon⟩ := hk
    have h1 := hall e he hb
    have h0 := (mem_ready.1 hri).1
    rw [hon] at h1
    rcases Nat.lt_or_ge i l'.size with h' | h'
    · simp [h'] at h0 h1; rw [h0] at h1; cases h1
    · simp [Array.getElem?_eq_none h'] at h1
  rw [getD_set_ne true hjk]; exact hj
/-- Number i's value hangs on nothing. -/
theorem rk_free (hi : l[i]? = some oi) (hs : Region.noSelect l.toArray = true) (hf : Region.free .any l.toArray listed i = true) (hr : (Region.ready .any l.toArray listed).contains i = true) (hki : (k == i) = false)
    (hy : YieldsIf P l.toArray (fun _ => True) oi v a) (hS : listed.getD k true = false → S w) (h : Kept P l.toArray (NoPanic Q) S k fuel (listed.setIfInBounds i true) (a.put oi.dst v) w) : Kept P l.toArray (NoPanic Q) S k (fuel + 1) listed a w := by
  have hik : i ≠ k := fun e => by subst e; simp at hki
  exact Kept.first (T := fun _ => True) (J := fun _ => True) (by simpa using hi) hik (Region.noSelect_spec hs) (fun _ _ _ h => h) (fun _ _ _ _ => trivial) (fun _ _ _ _ _ _ => trivial) fuel listed a w (Region.free_spec (by simpa using hi) hf) (by simpa using hr) trivial hy hS h
theorem rk_one (hr : Region.ready .any l.toArray listed = [i]) (ho : l[i]? = some o) (hw : Region.wanted o (yielded l.toArray a.tmps) = true)
    (h : ∀ K : Act → World → Prop, Shut (∀ a w, ((listed.setIfInBounds i true).getD k true = false → S w) → Kept P l.toArray (NoPanic Q) S k fuel (listed.setIfInBounds i true) a w → K a w) → Oper.wp P o a w K (NoPanic Q)) : Kept P l.toArray (NoPanic Q) S k (fuel + 1) listed a w := by
  unfold Kept
  refine ⟨fun h0 => (by rw [hr] at h0; cases h0), fun j hj => ?_⟩
  rw [hr] at hj
  obtain rfl := List.mem_singleton.1 hj
  unfold wpOp
  have ho' : l.toArray[j]? = some o := by simpa using ho
  rw [ho']
  simp only [hw, if_true]
  exact .inl (h _ (fun a w hS hK => ⟨hS, hK⟩))
theorem rk_done (hr : Region.ready .any ops listed = []) (h : Q .normal a w) : Kept P ops (NoPanic Q) S k fuel listed a w := by
  cases fuel with
  | zero => exact ⟨hr, NoPanic.normal h⟩
  | succ n => exact ⟨fun _ => NoPanic.normal h, by rw [hr]; simp⟩
end
end Go.Proofs.Ytjghcmejmdllbaa
