/- Contracts of layer 1's functions (bits) and of its references: what each call returns; the bounds on lengths stand in each. -/
import Derived.Test.YtmeampigomhdpaaBase
import Derived.Test.YtmeampigomhdpaaRows
namespace Go.Proofs.Ytmeampigomhdpaa
open Go.ChangeShapes Go.WideShapes Go.ChangeAt Go.RowKit
set_option linter.unusedVariables false
set_option linter.unusedSimpArgs false
theorem agg5 : ∀ W : World, (isAgg 5).run Try.prog W = .ok false W := fun _ => by kernel_rfl
theorem size5 : ∀ W : World, (sizeOf 5).run Try.prog W = .ok 1 W := fun _ => by kernel_rfl
theorem cpsz22 : (Try.prog.info? 5).map (·.size) = some 1 := by kernel_rfl
theorem info5 : (Try.prog.info? 5).map (fun i => (i.zero, i.size, i.bytes)) = some (some (.int .u8 0), 1, 1) := by kernel_rfl
theorem zero5 : ∀ W : World, (zeroValue 5).run Try.prog W = .ok (.int .u8 0) W := fun _ => by kernel_rfl
theorem ent13 : ∀ (xs : Array Value) (W : World), (callFunc 13 xs).run Try.prog W = .ok (.enter 13 xs) W := fun _ _ => by kernel_rfl
theorem ent14 : ∀ (xs : Array Value) (W : World), (callFunc 14 xs).run Try.prog W = .ok (.enter 14 xs) W := fun _ _ => by kernel_rfl
theorem ent15 : ∀ (xs : Array Value) (W : World), (callFunc 15 xs).run Try.prog W = .ok (.enter 15 xs) W := fun _ _ => by kernel_rfl
theorem ent16 : ∀ (xs : Array Value) (W : World), (callFunc 16 xs).run Try.prog W = .ok (.enter 16 xs) W := fun _ _ => by kernel_rfl
theorem ent17 : ∀ (xs : Array Value) (W : World), (callFunc 17 xs).run Try.prog W = .ok (.enter 17 xs) W := fun _ _ => by kernel_rfl
theorem ent18 : ∀ (xs : Array Value) (W : World), (callFunc 18 xs).run Try.prog W = .ok (.enter 18 xs) W := fun _ _ => by kernel_rfl
theorem ent19 : ∀ (xs : Array Value) (W : World), (callFunc 19 xs).run Try.prog W = .ok (.enter 19 xs) W := fun _ _ => by kernel_rfl
theorem ent20 : ∀ (xs : Array Value) (W : World), (callFunc 20 xs).run Try.prog W = .ok (.enter 20 xs) W := fun _ _ => by kernel_rfl
theorem ent21 : ∀ (xs : Array Value) (W : World), (callFunc 21 xs).run Try.prog W = .ok (.enter 21 xs) W := fun _ _ => by kernel_rfl
theorem ent22 : ∀ (xs : Array Value) (W : World), (callFunc 22 xs).run Try.prog W = .ok (.enter 22 xs) W := fun _ _ => by kernel_rfl
theorem ent23 : ∀ (xs : Array Value) (W : World), (callFunc 23 xs).run Try.prog W = .ok (.enter 23 xs) W := fun _ _ => by kernel_rfl
theorem ent24 : ∀ (xs : Array Value) (W : World), (callFunc 24 xs).run Try.prog W = .ok (.enter 24 xs) W := fun _ _ => by kernel_rfl
theorem ent25 : ∀ (xs : Array Value) (W : World), (callFunc 25 xs).run Try.prog W = .ok (.enter 25 xs) W := fun _ _ => by kernel_rfl
theorem ent26 : ∀ (xs : Array Value) (W : World), (callFunc 26 xs).run Try.prog W = .ok (.enter 26 xs) W := fun _ _ => by kernel_rfl
theorem ent27 : ∀ (xs : Array Value) (W : World), (callFunc 27 xs).run Try.prog W = .ok (.enter 27 xs) W := fun _ _ => by kernel_rfl
theorem ent28 : ∀ (xs : Array Value) (W : World), (callFunc 28 xs).run Try.prog W = .ok (.enter 28 xs) W := fun _ _ => by kernel_rfl
theorem ent29 : ∀ (xs : Array Value) (W : World), (callFunc 29 xs).run Try.prog W = .ok (.enter 29 xs) W := fun _ _ => by kernel_rfl
theorem ent30 : ∀ (xs : Array Value) (W : World), (callFunc 30 xs).run Try.prog W = .ok (.enter 30 xs) W := fun _ _ => by kernel_rfl
theorem ent31 : ∀ (xs : Array Value) (W : World), (callFunc 31 xs).run Try.prog W = .ok (.enter 31 xs) W := fun _ _ => by kernel_rfl
theorem ent32 : ∀ (xs : Array Value) (W : World), (callFunc 32 xs).run Try.prog W = .ok (.enter 32 xs) W := fun _ _ => by kernel_rfl
theorem ent33 : ∀ (xs : Array Value) (W : World), (callFunc 33 xs).run Try.prog W = .ok (.enter 33 xs) W := fun _ _ => by kernel_rfl
theorem ent34 : ∀ (xs : Array Value) (W : World), (callFunc 34 xs).run Try.prog W = .ok (.enter 34 xs) W := fun _ _ => by kernel_rfl
theorem ent35 : ∀ (xs : Array Value) (W : World), (callFunc 35 xs).run Try.prog W = .ok (.enter 35 xs) W := fun _ _ => by kernel_rfl
theorem ent36 : ∀ (xs : Array Value) (W : World), (callFunc 36 xs).run Try.prog W = .ok (.enter 36 xs) W := fun _ _ => by kernel_rfl
theorem ent37 : ∀ (xs : Array Value) (W : World), (callFunc 37 xs).run Try.prog W = .ok (.enter 37 xs) W := fun _ _ => by kernel_rfl
theorem ent38 : ∀ (xs : Array Value) (W : World), (callFunc 38 xs).run Try.prog W = .ok (.enter 38 xs) W := fun _ _ => by kernel_rfl
theorem ent39 : ∀ (xs : Array Value) (W : World), (callFunc 39 xs).run Try.prog W = .ok (.enter 39 xs) W := fun _ _ => by kernel_rfl
theorem ent40 : ∀ (xs : Array Value) (W : World), (callFunc 40 xs).run Try.prog W = .ok (.enter 40 xs) W := fun _ _ => by kernel_rfl
theorem ent41 : ∀ (xs : Array Value) (W : World), (callFunc 41 xs).run Try.prog W = .ok (.enter 41 xs) W := fun _ _ => by kernel_rfl
theorem ent42 : ∀ (xs : Array Value) (W : World), (callFunc 42 xs).run Try.prog W = .ok (.enter 42 xs) W := fun _ _ => by kernel_rfl
/-- Bytes, as values. -/
def bv (l : List Nat) : List Value := l.map fun (x : Nat) => .int .u8 (x : Int)
def elB (l : List Nat) (i : Nat) : Array Value := #[.int .u8 ((l.getD i 0 : Nat) : Int)]
theorem bv_len (l : List Nat) : (bv l).length = l.length := by simp [bv]
theorem bv_one (l : List Nat) : ∀ u ∈ bv l, u.oneCell' = true := by
  intro u hu; obtain ⟨x, _, rfl⟩ := List.mem_map.1 hu; rfl
theorem bv_app (l m : List Nat) : bv l ++ bv m = bv (l ++ m) := by simp [bv]
theorem Sl.src {w : World} {a : Option Addr} {c : Nat} {l : List Nat} (h : Sl w 1 l.length (.slice a l.length c) (elB l)) : 0 < l.length → ∃ ad, a = some ad ∧ ∀ j u, (bv l)[j]? = some u → w.cell? (ad.add j) = some u := by
  obtain ⟨a', c', e, hm, hE⟩ := h
  injection e with e1 e2 e3
  subst e1
  intro h0
  obtain ⟨b, off, rfl, hb, hc⟩ := hE h0
  refine ⟨_, rfl, fun j u hu => ?_⟩
  have hj : j < l.length := by
    rcases Nat.lt_or_ge j l.length with h | h
    · exact h
    · rw [List.getElem?_eq_none (by rw [bv_len]; exact h)] at hu; cases hu
  have hadd : (⟨b, off, none⟩ : Addr).add j = ⟨b, off + j, none⟩ := by unfold Addr.add; split <;> simp_all
  have := hc j hj 0 (by omega)
  rw [Nat.mul_one, Nat.add_zero] at this
  rw [hadd, this, ← hu]
  simp [elB, bv, List.getD, hj]
theorem room_ok (v : Value) (l : List Nat) (more : Int) (hm0 : 0 ≤ more) (hm1 : more ≤ 1000) (hl : l.length ≤ 1000000) (w : World) (hs : Sl w 1 l.length v (elB l)) :
    Calls Try.prog 38 #[v, .int .i64 more] w (Ret fun v' w' => (∃ ap cp, v' = .slice ap l.length cp) ∧ w'.ownsRow w.heap.size 5 1 v' l.length (bv l) ∧ Below w.heap.size w w') := by
  have hs' := hs
  obtain ⟨a, c, rfl, hm, _⟩ := hs'
  unfold maxLen at hm
  have H := St.init w
  go_enter Try.func38, Try.ntmps38
  go_wp2_with (first | (with_reducible refine wpl rfl (Stp.mk 12 rfl rfl Try.underlying22 info5 rfl rfl rfl (by omega) (by omega) (by omega) (by omega) H ?_); clear H; intro a12 c12 w1 H; simp only [Act.put, List.setIfInBounds_toArray, List.set_cons_zero, List.set_cons_succ]; (try simp only [Int.toNat_natCast, toNat_add8] at H ⊢)) | (with_reducible refine wpl rfl (Stp.cp 15 rfl rfl Try.underlying22 cpsz22 rfl rfl H (by repeat (first | exact Upd.head | apply Upd.tail)) (bv_len l) (hs.grow H.below).src (bv_one l) ?_); clear H; intro w1 H; simp only [Act.put, List.setIfInBounds_toArray, List.set_cons_zero, List.set_cons_succ]))
  go_ret
  have ho := H.getSlc List.mem_cons_self
  have e1 : (bv l).take l.length ++ (List.replicate l.length (Value.int .u8 0)).drop l.length = bv l := by
    rw [List.take_of_length_le (by rw [bv_len]; exact Nat.le_refl _), List.drop_of_length_le (by simp), List.append_nil]
  rw [e1] at ho
  exact ⟨_, rfl, ⟨_, _, rfl⟩, ho, H.below⟩
/-- Is it a width? -/
def wide (n : Int) : Bool := n == 1 || n == 2 || n == 4 || n == 8
theorem wide_ok (n : Int) (w : World) : Calls Try.prog 39 #[.int .i64 n] w (Ret fun v w' => v = .bool (wide n) ∧ Below w.heap.size w w') := by
  have H := St.init w
  by_cases h1 : n = 1
  · subst h1
    go_enter Try.func39, Try.ntmps39
    go_wp2
    go_ret
    exact ⟨_, rfl, rfl, H.below⟩
  by_cases h2 : n = 2
  · subst h2
    go_enter Try.func39, Try.ntmps39
    go_wp2
    go_ret
    exact ⟨_, rfl, rfl, H.below⟩
  by_cases h4 : n = 4
  · subst h4
    go_enter Try.func39, Try.ntmps39
    go_wp2
    go_ret
    exact ⟨_, rfl, rfl, H.below⟩
  by_cases h8 : n = 8
  · subst h8
    go_enter Try.func39, Try.ntmps39
    go_wp2
    go_ret
    exact ⟨_, rfl, rfl, H.below⟩
  have b1 : (n == 1) = false := by simpa using h1
  have b2 : (n == 2) = false := by simpa using h2
  have b4 : (n == 4) = false := by simpa using h4
  have b8 : (n == 8) = false := by simpa using h8
  go_enter Try.func39, Try.ntmps39
  go_wp2
  go_ret
  exact ⟨_, rfl, by simp [wide, b1, b2, b4, b8], H.below⟩
end Go.Proofs.Ytmeampigomhdpaa
