/- Bytes that came in, and bytes of the call's own, as one reads them; the bounds on lengths stand in each. -/
import Derived.Test.YtjghcmejmdllbaaBits4
import Derived.Test.YtjghcmejmdllbaaBits9
import Derived.Test.YtjghcmejmdllbaaBase2
import Derived.Test.YtjghcmejmdllbaaLaw
namespace Go.Proofs.Ytjghcmejmdllbaa
open Go.ChangeShapes Go.WideShapes Go.ChangeAt Go.RowKit Go.Deep
set_option linter.unusedVariables false
set_option linter.unusedSimpArgs false
theorem own_sl {w : World} {b : Nat} {v : Value} {l : List Nat} (h : w.ownsRow b 5 1 v l.length (bv l)) (hm : l.length ≤ 1000000) : Sl w 1 l.length v (elB l) :=
  Sl.of_own h (fun i hi => by simp [bv, elB, List.getD, hi]) (by unfold maxLen; omega)
theorem row_sl {w : World} {g c : Nat} {l : List Nat} (h : rowAt w g = some (bv l).toArray) (hm : l.length ≤ 1000000) : Sl w 1 l.length (.slice (some ⟨g, 0, none⟩) l.length c) (elB l) :=
  Sl.of_row h (by unfold maxLen; omega) (fun i hi j hj => by
    obtain rfl : j = 0 := by omega
    simp [bv, elB, List.getD, hi])
theorem own_slk {w : World} {b m : Nat} {v : Value} {l : List Nat} (h : w.ownsRow b 5 1 v m (bv l)) (hm : m = l.length) (hl : l.length ≤ 1000000) : Sl w 1 l.length v (elB l) := by
  subst hm; exact own_sl h hl
theorem own_src {w : World} {b m c : Nat} {A : Option Addr} {xs : List Value} (h : w.ownsRow b 5 1 (.slice A m c) m xs) : 0 < m → ∃ ad, A = some ad ∧ ∀ j u, xs[j]? = some u → w.cell? (ad.add j) = some u := fun h0 => by
  have h' := h
  rcases h'.2 with ⟨_, e1⟩ | ⟨g, cap, cur, e1, _⟩
  · omega
  · cases e1
    exact ⟨_, rfl, h.cells (g := g) rfl⟩
theorem lent_sl {w : World} {g : Nat} {l : List Nat} (h : rowAt w g = some (bv (lent l)).toArray) (hl : l.length ≤ 1000000) : Sl w 1 l.length (.slice (some ⟨g, 0, none⟩) l.length (l.length + 8)) (elB l) :=
  Sl.of_row h (by unfold maxLen; omega) (fun i hi j hj => by
    obtain rfl : j = 0 := by omega
    have := lent_lt l i hi
    rw [Nat.mul_one, Nat.add_zero]
    simp only [elB, bv, List.getElem?_toArray, List.getElem?_map]
    rw [List.getElem?_eq_getElem (by rw [lent_len]; omega)]
    rw [← this]
    simp [List.getD, lent, hi]
    rw [List.getElem?_append_left hi]; simp [hi])
set_option maxRecDepth 100000 in
/-- Bytes that came in. -/
theorem open_bs {H : Type} {enc : TypeId × Value → H} {W : World} {base : Nat} {v : Value} {d : DataW H} {p : List MemPlace} (hv : Value.okWide Try.prog W .any base 37 v) (h : DataW.Trod enc Try.prog W 0 (fun _ => true) true 37 v d p) :
    ∃ l : List Nat, (∀ x ∈ l, x < 256) ∧ Sl W 1 l.length v (elB l) := by
  obtain ⟨n, E, hS, hel⟩ := open_sl (size := 1) Try.underlying37 (by kernel_rfl) (by omega) hv h
  have hex : ∀ i, ∃ q : Nat, i < n → E i = #[.int .u8 (q : Int)] ∧ q < 256 := fun i => by
    by_cases hi : i < n
    · obtain ⟨hs, fuel, y, ht⟩ := hel i hi
      obtain ⟨k, e0, _, w0⟩ := DataW.trod_int Try.underlying5 ht
      have hb := bounds_u8 w0
      refine ⟨k.toNat, fun _ => ⟨?_, by omega⟩⟩
      rw [show ((k.toNat : Nat) : Int) = k by omega]
      exact Array.toList_inj.1 e0
    · exact ⟨0, fun hn => absurd hn hi⟩
  refine ⟨(List.range n).map fun i => Classical.choose (hex i), ?_, ?_⟩
  · intro q hq
    obtain ⟨i, hi, rfl⟩ := List.mem_map.1 hq
    exact ((Classical.choose_spec (hex i)) (by simpa using hi)).2
  · have hlen : ((List.range n).map fun i => Classical.choose (hex i)).length = n := by simp
    rw [hlen]
    obtain ⟨a, c, rfl, hm, hc⟩ := hS
    refine ⟨a, c, rfl, hm, fun h0 => ?_⟩
    obtain ⟨b, off, rfl, hb, hcell⟩ := hc h0
    refine ⟨b, off, rfl, hb, fun i hi j hj => ?_⟩
    rw [hcell i hi j hj, (Classical.choose_spec (hex i) hi).1]
    simp [elB, List.getD, hi]
theorem nat_u64 {n : Int} (h : (Lit.int .u64 n).wf = true) : ∃ k : Nat, n = k ∧ k < 18446744073709551616 := ⟨n.toNat, by have := bounds_u64 h; omega, by have := bounds_u64 h; omega⟩
theorem cap_in {H : Type} {enc : TypeId × Value → H} {P : Program} {W : World} {base : Nat} {t e : TypeId} {v : Value} {d : DataW H} {p : List MemPlace} (ht : P.underlying t = some (.slice e)) (hv : Value.okWide P W .any base t v) (h : DataW.Trod enc P W 0 (fun _ => true) true t v d p) :
    ∀ (a : Option Addr) (n c : Nat), v = .slice a n c → n ≤ c := by
  intro a n c e0
  subst e0
  obtain ⟨fuel, hf⟩ := h
  rcases open_slice ht hf with ⟨hcs, _⟩ | ⟨a, len, cap, m, n, D, Pl, hcs, _, hl, hm, hmm, _, hi⟩
  · simp [Value.cells] at hcs
    omega
  · simp [Value.cells] at hcs
    omega
theorem take_sl {w : World} {a : Option Addr} {c : Nat} {l : List Nat} (W : Nat) (h : Sl w 1 l.length (.slice a l.length c) (elB l)) (hW : W ≤ l.length) : Sl w 1 (l.take W).length (.slice a (l.take W).length c) (elB (l.take W)) := by
  have hm : (l.take W).length = W := by rw [List.length_take]; exact Nat.min_eq_left hW
  obtain ⟨a', c', e, hml, hc⟩ := h
  injection e with e1 e2 e3
  subst e1
  refine ⟨a, c, rfl, by rw [hm]; exact Nat.le_trans hW hml, fun h0 => ?_⟩
  rw [hm] at h0
  obtain ⟨b, off, rfl, hb, hcell⟩ := hc (by omega)
  refine ⟨b, off, rfl, hb, fun i hi j hj => ?_⟩
  rw [hm] at hi
  rw [hcell i (by omega) j hj]
  simp [elB, List.getD, List.getElem?_take, hi]
end Go.Proofs.Ytjghcmejmdllbaa
