/- The statement MaskLists of layer 5 (mask), proved; no condition: the law's walk, and the row round it. -/
import Derived.Test.YtcgogcolfbpcfaaMask11
namespace Go.Proofs.Ytcgogcolfbpcfaa
open Go.ChangeShapes Go.WideShapes Go.ChangeAt Go.RowKit Go.Deep
set_option linter.unusedVariables false
set_option linter.unusedSimpArgs false
theorem rcount_as (a b p : Nat) (ha : a < 18446744073709551616) (hb : b < 18446744073709551616) (hp : (rkN (a, b) 128).length = p) (w : World) :
    Calls Try.prog 21 #[.agg #[.int .u64 (a : Int), .int .u64 (b : Int)], .int .i64 128] w (Ret fun v w' => v = .int .i64 (p : Int) ∧ Below w.heap.size w w') := by
  subst hp; exact rcount_ok a b ha hb w
/-! ### Which ranks are told -/
def inF (l : List Int) : Nat → Bool := fun j => l.any fun r => r == (j : Int)
theorem has_set (m : Nat × Nat) (r : Int) (j : Nat) (hj : j < 128) : hasM (setM m r) (j : Int) = (hasM m (j : Int) || r == (j : Int)) := by
  obtain ⟨a, b⟩ := m
  by_cases hr : r < 0 ∨ 128 ≤ r
  · have e : setM (a, b) r = (a, b) := by unfold setM; exact if_pos hr
    have h : (r == (j : Int)) = false := by simp; omega
    rw [e, h, Bool.or_false]
  · obtain ⟨k, rfl⟩ : ∃ k : Nat, r = k := ⟨r.toNat, by omega⟩
    have hk : k < 128 := by omega
    have eta : setM (a, b) (k : Int) = ((setM (a, b) (k : Int)).1, (setM (a, b) (k : Int)).2) := rfl
    by_cases h64 : j < 64
    · rw [eta, (has_bit _ _ j h64).1, (set_bit a b k hk j h64).1]
      by_cases e : j = k
      · subst e; simp
      · have : ((k : Int) == (j : Int)) = false := by simp; omega
        rw [if_neg e, this, Bool.or_false]
    · have hj2 : j - 64 < 64 := by omega
      have e64 : 64 + (j - 64) = j := by omega
      have h1 := (has_bit (setM (a, b) (k : Int)).1 (setM (a, b) (k : Int)).2 (j - 64) hj2).2
      have h2 := (set_bit a b k hk (j - 64) hj2).2
      rw [e64] at h1 h2
      rw [eta, h1, h2]
      by_cases e : j = k
      · subst e; simp
      · have : ((k : Int) == (j : Int)) = false := by simp; omega
        rw [if_neg e, this, Bool.or_false]
theorem has_fold : ∀ (l : List Int) (m : Nat × Nat) (j : Nat), j < 128 → hasM (l.foldl setM m) (j : Int) = (hasM m (j : Int) || inF l j)
  | [], m, j, _ => by simp [inF]
  | r :: l, m, j, hj => by
    show hasM (l.foldl setM (setM m r)) (j : Int) = _
    rw [has_fold l (setM m r) j hj, has_set m r j hj, Bool.or_assoc]
    simp [inF]
theorem has_of (l : List Int) (j : Nat) (hj : j < 128) : hasM (ofM l) (j : Int) = inF l j := by
  unfold ofM
  rw [has_fold l (0, 0) j hj]
  have : hasM (0, 0) (j : Int) = false := by unfold hasM; split <;> simp
  rw [this, Bool.false_or]
theorem words {m : Nat × Nat} {f : Nat → Bool} (h1 : m.1 < 18446744073709551616) (h2 : m.2 < 18446744073709551616) (h : ∀ j, j < 128 → f j = hasM m (j : Int)) : numF f 0 64 = m.1 ∧ numF f 64 64 = m.2 :=
  of_eq h1 h2 (fun i hi => by rw [h i (by omega)]; exact (has_bit m.1 m.2 i hi).1) (fun i hi => by rw [h (64 + i) (by omega)]; exact (has_bit m.1 m.2 i hi).2)
theorem of_flags (l : List Int) : numF (inF l) 0 64 = (ofM l).1 ∧ numF (inF l) 64 64 = (ofM l).2 :=
  words (ofM_lt l).1 (ofM_lt l).2 (fun j hj => (has_of l j hj).symm)
theorem of_ranks (a b : Nat) (ha : a < 18446744073709551616) (hb : b < 18446744073709551616) : ofM ((rkN (a, b) 128).map fun (x : Nat) => (x : Int)) = (a, b) := by
  have h1 := words (m := ofM ((rkN (a, b) 128).map fun (x : Nat) => (x : Int))) (f := fun j => hasM (a, b) (j : Int)) (ofM_lt _).1 (ofM_lt _).2 (fun j hj => by
    rw [has_of _ j hj, Bool.eq_iff_iff]
    unfold inF rkN
    simp only [List.any_map, List.any_filter, List.any_eq_true, List.mem_range, Function.comp, Bool.and_eq_true, beq_iff_eq]
    constructor
    · intro h; exact ⟨j, hj, h, rfl⟩
    · rintro ⟨i, hi, h, e⟩
      have : i = j := by omega
      subst this; exact h)
  have h2 := words (m := (a, b)) (f := fun j => hasM (a, b) (j : Int)) ha hb (fun j _ => rfl)
  exact Prod.ext (h1.1.symm.trans h2.1) (h1.2.symm.trans h2.2)
theorem rk_pop0 (a b : Nat) : ∀ k, k ≤ 64 → (rkN (a, b) k).length = pop k a
  | 0, _ => rfl
  | k + 1, hk => by
    rw [rkN_succ, List.length_append, rk_pop0 a b k (by omega), pop_add k 1, (has_bit a b k (by omega)).1, Nat.testBit_eq_decide_div_mod_eq]
    have h1 : a / 2 ^ k % 2 = 0 ∨ a / 2 ^ k % 2 = 1 := by omega
    rcases h1 with e | e <;> simp [pop, e]
theorem pop_one (x : Nat) : pop 1 x = x % 2 := by simp [pop]
theorem rk_pop1 (a b s : Nat) (hs : (rkN (a, b) 64).length = s) : ∀ k, k ≤ 64 → (rkN (a, b) (64 + k)).length = s + pop k b
  | 0, _ => hs
  | k + 1, hk => by
    rw [show 64 + (k + 1) = (64 + k) + 1 by omega, rkN_succ, List.length_append, rk_pop1 a b s hs k (by omega), pop_add k 1, (has_bit a b k (by omega)).2, Nat.testBit_eq_decide_div_mod_eq]
    have h1 : b / 2 ^ k % 2 = 0 ∨ b / 2 ^ k % 2 = 1 := by omega
    rw [pop_one]
    rcases h1 with e | e
    · rw [e, if_neg (by decide)]; simp only [List.length_nil]; omega
    · rw [e, if_pos (by decide)]; simp only [List.length_cons, List.length_nil]; omega
theorem rk_pop (a b p : Nat) (hp : pop 64 a + pop 64 b = p) : (rkN (a, b) 128).length = p := by
  rw [← hp]
  exact rk_pop1 a b _ (rk_pop0 a b 64 (by omega)) 64 (by omega)
theorem rk_rise (m : Nat × Nat) (i j : Nat) (hi : i < (rkN m 128).length) (hj : j < (rkN m 128).length) (h : i < j) : (rkN m 128)[i] < (rkN m 128)[j] := by
  have hp : (rkN m 128).Pairwise (· < ·) := List.pairwise_lt_range.filter _
  exact (List.pairwise_iff_getElem.1 hp) i j hi hj h
theorem rk_has (m : Nat × Nat) (i : Nat) (hi : i < (rkN m 128).length) : hasM m ((rkN m 128)[i] : Int) = true ∧ (rkN m 128)[i] < 128 := by
  have := List.getElem_mem hi
  have h2 := List.mem_filter.1 this
  exact ⟨h2.2, List.mem_range.1 h2.1⟩
theorem open_is {H : Type} {enc : TypeId × Value → H} {W : World} {base : Nat} {v : Value} {d : DataW H} {p : List MemPlace} (hv : Value.okWide Try.prog W .any base 37 v) (h : DataW.Trod enc Try.prog W 0 (fun _ => true) true 37 v d p) :
    ∃ l : List Int, Sl W 1 l.length v (elI l) := by
  obtain ⟨n, E, hS, hel⟩ := open_sl (size := 1) Try.underlying37 (by kernel_rfl) (by omega) hv h
  have hex : ∀ i, ∃ q : Int, i < n → E i = #[.int .i64 q] := fun i => by
    by_cases hi : i < n
    · obtain ⟨hs, fuel, y, ht⟩ := hel i hi
      obtain ⟨k, e0, _, w0⟩ := DataW.trod_int Try.underlying3 ht
      exact ⟨k, fun _ => Array.toList_inj.1 e0⟩
    · exact ⟨0, fun hn => absurd hn hi⟩
  refine ⟨(List.range n).map fun i => Classical.choose (hex i), ?_⟩
  have hlen : ((List.range n).map fun i => Classical.choose (hex i)).length = n := by simp
  rw [hlen]
  obtain ⟨a, c, rfl, hm, hc⟩ := hS
  refine ⟨a, c, rfl, hm, fun h0 => ?_⟩
  obtain ⟨b, off, rfl, hb, hcell⟩ := hc h0
  refine ⟨b, off, rfl, hb, fun i hi j hj => ?_⟩
  rw [hcell i hi j hj, Classical.choose_spec (hex i) hi]
  simp [elI, List.getD, hi]
attribute [local irreducible] pop low mn hasM BA numF rkN setM ofM
end Go.Proofs.Ytcgogcolfbpcfaa
