/- The statement CrcSums of layer 2 (crc), proved; no condition: the law's walk, and the row round it. -/
import Derived.Test.YtcjbippgjhgoiaaCrc2
namespace Go.Proofs.Ytcjbippgjhgoiaa
open Go.ChangeShapes Go.WideShapes Go.ChangeAt Go.RowKit Go.Deep
set_option linter.unusedVariables false
set_option linter.unusedSimpArgs false
theorem sl_take {w : World} {a : Option Addr} {c : Nat} {l : List Nat} (k c' : Nat) (h : Sl w 1 l.length (.slice a l.length c) (elB l)) (hk : k ≤ l.length) : Sl w 1 (l.take k).length (.slice a k c') (elB (l.take k)) := by
  have hm : (l.take k).length = k := by rw [List.length_take]; exact Nat.min_eq_left hk
  obtain ⟨a', c0, e, hml, hc⟩ := h
  injection e with e1 e2 e3
  subst e1
  rw [hm]
  refine ⟨a, c', rfl, Nat.le_trans hk hml, fun h0 => ?_⟩
  obtain ⟨b, off, rfl, hb, hcell⟩ := hc (by omega)
  refine ⟨b, off, rfl, hb, fun i hi j hj => ?_⟩
  rw [hcell i (by omega) j hj]
  simp [elB, List.getD, List.getElem?_take, hi]
theorem sl_drop {w : World} {b off c : Nat} {l : List Nat} (k c' : Nat) (h : Sl w 1 l.length (.slice (some ⟨b, off, none⟩) l.length c) (elB l)) (hk : k ≤ l.length) : Sl w 1 (l.drop k).length (.slice (some ⟨b, off + k, none⟩) (l.length - k) c') (elB (l.drop k)) := by
  have hm : (l.drop k).length = l.length - k := List.length_drop
  obtain ⟨a', c0, e, hml, hc⟩ := h
  injection e with e1 e2 e3
  subst e1
  rw [hm]
  refine ⟨_, c', rfl, Nat.le_trans (Nat.sub_le _ _) hml, fun h0 => ?_⟩
  obtain ⟨b', off', e, hb, hcell⟩ := hc (by omega)
  cases e
  refine ⟨b, off + k, rfl, hb, fun i hi j hj => ?_⟩
  have := hcell (k + i) (by omega) j hj
  rw [Nat.mul_one] at this ⊢
  rw [show off + k + i + j = off + (k + i) + j by omega, this]
  simp [elB, List.getD, List.getElem?_drop]
theorem pick_at (b z : Int) (n : Nat) (hz : z = n) (hn : 0 < n) (hn2 : n ≤ 1000000) (w : World) :
    Calls Try.prog 25 #[.int .i64 b, .int .i64 z] w (Ret fun v w' => ∃ k : Nat, k < n ∧ v = .int .i64 (k : Int) ∧ Below w.heap.size w w') := by
  subst hz; exact pick_any b n hn hn2 w
theorem rsum_as (v : Value) (l : List Nat) (hl : l.length ≤ 1000000) (hx : ∀ x ∈ l, x < 256) (S : Nat) (hS : sumC l = S) (w : World) (hs : Sl w 1 l.length v (elB l)) :
    Calls Try.prog 82 #[v] w (Ret fun v w' => v = .int .u32 (S : Int) ∧ Below w.heap.size w w') := by
  subst hS; exact rsum_ok v l hl hx w hs
theorem one_as (v u : Value) (l : List Nat) (hl : l.length ≤ 1000000) (hx : ∀ x ∈ l, x < 256) (S : Nat) (hS : sumC l = S) (w : World) (h1 : Sl w 1 1 u (elP [(v, l)])) (hs : Sl w 1 l.length v (elB l)) :
    Calls Try.prog 81 #[u] w (Ret fun v w' => v = .int .u32 (S : Int) ∧ Below w.heap.size w w') := by
  subst hS; exact sum_one v u l hl hx w h1 hs
theorem two_as (v v' u : Value) (l m : List Nat) (hl : l.length ≤ 1000000) (hm : m.length ≤ 1000000) (hx : ∀ x ∈ l ++ m, x < 256) (S : Nat) (hS : sumC (l ++ m) = S) (w : World) (h1 : Sl w 1 2 u (elP [(v, l), (v', m)])) (hs : Sl w 1 l.length v (elB l)) (hs' : Sl w 1 m.length v' (elB m)) :
    Calls Try.prog 81 #[u] w (Ret fun v w' => v = .int .u32 (S : Int) ∧ Below w.heap.size w w') := by
  subst hS; exact sum_two v v' u l m hl hm hx w h1 hs hs'
theorem go_as (s : Nat) (hs0 : s < 4294967296) (v : Value) (l : List Nat) (hl : l.length ≤ 1000000) (hx : ∀ x ∈ l, x < 256) (r : Nat) (hr : goC s l = r) (w : World) (hs : Sl w 1 l.length v (elB l)) :
    Calls Try.prog 85 #[.int .u32 (s : Int), v] w (Ret fun v w' => v = .int .u32 (r : Int) ∧ Below w.heap.size w w') := by
  subst hr; exact go_ok s hs0 v l hl hx w hs
theorem end_as (s r : Nat) (hs : s < 4294967296) (hr : s ^^^ 4294967295 = r) (w : World) : Calls Try.prog 86 #[.int .u32 (s : Int)] w (Ret fun v w' => v = .int .u32 (r : Int) ∧ Below w.heap.size w w') := by
  subst hr; exact end_ok s hs w
theorem lent_take {W : World} {g : Nat} {l : List Nat} (k : Nat) (h : rowAt W g = some (bv (lent l)).toArray) (hl : l.length ≤ 1000000) (hk : k ≤ l.length) (c' : Nat) : Sl W 1 (l.take k).length (.slice (some ⟨g, 0, none⟩) k c') (elB (l.take k)) :=
  sl_take k c' (lent_sl h hl) hk
theorem lent_drop {W : World} {g : Nat} {l : List Nat} (k : Nat) (h : rowAt W g = some (bv (lent l)).toArray) (hl : l.length ≤ 1000000) (hk : k ≤ l.length) (c' : Nat) : Sl W 1 (l.drop k).length (.slice (some ⟨g, k, none⟩) (l.length - k) c') (elB (l.drop k)) := by
  have := sl_drop k c' (lent_sl h hl) hk
  rwa [Nat.zero_add] at this
end Go.Proofs.Ytcjbippgjhgoiaa
