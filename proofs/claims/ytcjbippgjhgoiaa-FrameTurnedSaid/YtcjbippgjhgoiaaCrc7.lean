/- The statement CrcTurned of layer 2 (crc), proved; no condition: the law's walk, and the row round it. -/
import Derived.Test.YtcjbippgjhgoiaaCrc6
namespace Go.Proofs.Ytcjbippgjhgoiaa
open Go.ChangeShapes Go.WideShapes Go.ChangeAt Go.RowKit Go.Deep
set_option linter.unusedVariables false
set_option linter.unusedSimpArgs false
theorem stepC_inj {s t : Nat} (hs : s < 4294967296) (ht : t < 4294967296) (h : stepC s = stepC t) : s = t := by
  unfold stepC at h
  have key : ∀ a b : Nat, a < 2147483648 → b < 2147483648 → a ^^^ 3988292384 ≠ b := fun a b ha hb e => by
    have h1 := congrArg (fun x => x.testBit 31) e
    simp only [Nat.testBit_xor] at h1
    rw [Nat.testBit_lt_two_pow (i := 31) (x := a) ha, Nat.testBit_lt_two_pow (i := 31) (x := b) hb] at h1
    exact absurd h1 (by decide)
  by_cases h1 : s % 2 = 1 <;> by_cases h2 : t % 2 = 1
  · rw [if_pos h1, if_pos h2] at h
    have : s / 2 = t / 2 := by
      have := congrArg (· ^^^ 3988292384) h
      simpa [Nat.xor_assoc] using this
    omega
  · rw [if_pos h1, if_neg h2, Nat.xor_zero] at h
    exact absurd h (key _ _ (by omega) (by omega))
  · rw [if_neg h1, if_pos h2, Nat.xor_zero] at h
    exact absurd h.symm (key _ _ (by omega) (by omega))
  · rw [if_neg h1, if_neg h2, Nat.xor_zero, Nat.xor_zero] at h
    omega
theorem stepsC_inj {s t : Nat} (hs : s < 4294967296) (ht : t < 4294967296) : ∀ k, stepsC k s = stepsC k t → s = t
  | 0, h => h
  | k + 1, h => stepsC_inj hs ht k (stepC_inj (stepsC_lt hs k) (stepsC_lt ht k) h)
theorem xor_cancel {a b c : Nat} (h : a ^^^ b = a ^^^ c) : b = c := by
  have := congrArg (a ^^^ ·) h
  simpa [← Nat.xor_assoc] using this
theorem goC_inj : ∀ (l : List Nat) {s t : Nat}, (∀ x ∈ l, x < 256) → s < 4294967296 → t < 4294967296 → goC s l = goC t l → s = t
  | [], _, _, _, _, _, h => h
  | c :: l, s, t, hx, hs, ht, h => by
    have hc := hx c List.mem_cons_self
    have := goC_inj l (fun x hm => hx x (List.mem_cons_of_mem _ hm)) (byteC_lt hs hc) (byteC_lt ht hc) h
    have h2 := stepsC_inj (xor32 hs (by omega)) (xor32 ht (by omega)) 8 this
    rw [Nat.xor_comm s, Nat.xor_comm t] at h2
    exact xor_cancel h2
theorem sum_ne (p q : List Nat) (x y : Nat) (hp : ∀ z ∈ p, z < 256) (hq : ∀ z ∈ q, z < 256) (hx : x < 256) (hy : y < 256) (h : x ≠ y) : sumC (p ++ x :: q) ≠ sumC (p ++ y :: q) := fun e => by
  unfold sumC at e
  rw [Nat.xor_comm, Nat.xor_comm _ 4294967295] at e
  have e := xor_cancel e
  rw [goC_app, goC_app] at e
  have hs : goC 4294967295 p < 4294967296 := goC_lt (by omega) hp
  have := goC_inj q (s := byteC _ x) (t := byteC _ y) hq (byteC_lt hs hx) (byteC_lt hs hy) e
  exact h (xor_cancel (stepsC_inj (xor32 hs (by omega)) (xor32 hs (by omega)) 8 this))
theorem fold_inj : ∀ (a b : List Nat) (u v : Nat), a.length = b.length → (∀ x ∈ a, x < 256) → (∀ x ∈ b, x < 256) → a.foldl (fun a c => a * 256 + c) u = b.foldl (fun a c => a * 256 + c) v → u = v ∧ a = b
  | [], [], u, v, _, _, _, h => ⟨h, rfl⟩
  | [], _ :: _, _, _, hl, _, _, _ => by simp at hl
  | _ :: _, [], _, _, hl, _, _, _ => by simp at hl
  | x :: a, y :: b, u, v, hl, ha, hb, h => by
    have h1 := ha x List.mem_cons_self
    have h2 := hb y List.mem_cons_self
    obtain ⟨e, rfl⟩ := fold_inj a b _ _ (by simpa using hl) (fun z hz => ha z (List.mem_cons_of_mem _ hz)) (fun z hz => hb z (List.mem_cons_of_mem _ hz)) h
    have e : u * 256 + x = v * 256 + y := e
    exact ⟨by omega, by rw [show x = y by omega]⟩
theorem xor_moves {x y : Nat} (h : y ≠ 0) : x ^^^ y ≠ x := fun e => h (by
  have : x ^^^ y = x ^^^ 0 := by rw [e, Nat.xor_zero]
  exact xor_cancel this)
theorem set_split (l : List Nat) (k y : Nat) (hk : k < l.length) : l = l.take k ++ l.getD k 0 :: l.drop (k + 1) ∧ l.set k y = l.take k ++ y :: l.drop (k + 1) := by
  have h1 : l.getD k 0 = l[k] := by simp [List.getD, hk]
  refine ⟨?_, ?_⟩
  · rw [h1, ← List.drop_eq_getElem_cons hk, List.take_append_drop]
  · rw [List.set_eq_take_append_cons_drop, if_pos hk]
theorem seal_turned {l : List Nat} (hx : ∀ x ∈ l, x < 256) (k y : Nat) (hk : k < l.length + 4) (hy : y < 256) (hne : y ≠ (sealL l).getD k 0) :
    numB (((sealL l).set k y).drop l.length) ≠ sumC (((sealL l).set k y).take l.length) := by
  by_cases hkl : k < l.length
  · have e : (sealL l).set k y = l.set k y ++ putB (sumC l) 4 4 := by
      unfold sealL; rw [List.set_append, if_pos hkl]
    have hl : (l.set k y).length = l.length := List.length_set
    have hg : (sealL l).getD k 0 = l.getD k 0 := by unfold sealL; simp only [List.getD, List.getElem?_append_left hkl]
    rw [hg] at hne
    rw [e, ← hl, List.drop_left, List.take_left, num_putB4 (sumC_lt hx)]
    obtain ⟨s1, s2⟩ := set_split l k y hkl
    rw [s2]
    conv => lhs; rw [s1]
    refine sum_ne _ _ _ _ (fun z hz => hx z (List.mem_of_mem_take hz)) (fun z hz => hx z (List.mem_of_mem_drop hz)) (getD_byte hx k) hy (fun h => hne h.symm)
  · have e : (sealL l).set k y = l ++ (putB (sumC l) 4 4).set (k - l.length) y := by
      unfold sealL; rw [List.set_append, if_neg hkl]
    have hg : (sealL l).getD k 0 = (putB (sumC l) 4 4).getD (k - l.length) 0 := by unfold sealL; simp only [List.getD, List.getElem?_append_right (by omega : l.length ≤ k)]
    rw [hg] at hne
    rw [e, List.drop_left, List.take_left]
    intro h
    have h2 : numB ((putB (sumC l) 4 4).set (k - l.length) y) = numB (putB (sumC l) 4 4) := by rw [h, num_putB4 (sumC_lt hx)]
    have hpl := putB_len (sumC l) 4 4
    have hj : k - l.length < (putB (sumC l) 4 4).length := by rw [hpl]; omega
    have := (fold_inj _ _ 0 0 (by rw [List.length_set]) (fun z hz => by
      rcases List.mem_or_eq_of_mem_set hz with h | h
      · exact putB_byte _ _ _ z h
      · rw [h]; exact hy) (putB_byte _ _ _) h2).2
    have h3 := congrArg (fun m : List Nat => m.getD (k - l.length) 0) this
    simp only [List.getD, List.getElem?_set_self hj] at h3
    exact hne (by simpa [List.getD] using h3)
theorem nat_u8 {n : Int} (h : (Lit.int .u8 n).wf = true) : ∃ k : Nat, n = k ∧ k < 256 := ⟨n.toNat, by have := bounds_u8 h; omega, by have := bounds_u8 h; omega⟩
theorem set_sl {w : World} {g n c k y : Nat} {cs : Array Value} {L : List Nat} (h : rowAt w g = some (cs.setIfInBounds k (.int .u8 (y : Int)))) (hn : L.length = n) (hm : n ≤ 1000000) (hk : k < n) (hcs : n ≤ cs.size) (ht : cs.toList.take n = bv L) :
    Sl w 1 (L.set k y).length (.slice (some ⟨g, 0, none⟩) (L.set k y).length c) (elB (L.set k y)) := by
  refine Sl.of_row h (by rw [List.length_set]; unfold maxLen; omega) (fun i hi j hj => ?_)
  obtain rfl : j = 0 := by omega
  rw [List.length_set] at hi
  rw [Nat.mul_one, Nat.add_zero, Array.getElem?_setIfInBounds]
  have hc : cs[i]? = some (.int .u8 ((L.getD i 0 : Nat) : Int)) := by
    have : (cs.toList.take n)[i]? = (bv L)[i]? := by rw [ht]
    rw [List.getElem?_take, if_pos (by omega)] at this
    rw [← Array.getElem?_toList, this]
    simp [bv, List.getD, hi]
  by_cases hik : k = i
  · subst hik
    rw [if_pos rfl, if_pos (by omega)]
    simp [elB, List.getD, hi]
  · rw [if_neg hik, hc]
    simp [elB, List.getD, List.getElem?_set_ne hik]
end Go.Proofs.Ytcjbippgjhgoiaa
