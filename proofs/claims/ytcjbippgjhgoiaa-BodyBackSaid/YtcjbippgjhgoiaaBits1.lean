/- Contracts of layer 1's functions (bits) and of its references: what each call returns; the bounds on lengths stand in each. -/
import Derived.Test.YtcjbippgjhgoiaaBase
import Derived.Test.YtcjbippgjhgoiaaRows
namespace Go.Proofs.Ytcjbippgjhgoiaa
open Go.ChangeShapes Go.WideShapes Go.ChangeAt Go.RowKit
set_option linter.unusedVariables false
set_option linter.unusedSimpArgs false
theorem agg3 : ∀ W : World, (isAgg 3).run Try.prog W = .ok false W := fun _ => by kernel_rfl
theorem size3 : ∀ W : World, (sizeOf 3).run Try.prog W = .ok 1 W := fun _ => by kernel_rfl
theorem agg4 : ∀ W : World, (isAgg 4).run Try.prog W = .ok false W := fun _ => by kernel_rfl
theorem size4 : ∀ W : World, (sizeOf 4).run Try.prog W = .ok 1 W := fun _ => by kernel_rfl
theorem agg5 : ∀ W : World, (isAgg 5).run Try.prog W = .ok false W := fun _ => by kernel_rfl
theorem size5 : ∀ W : World, (sizeOf 5).run Try.prog W = .ok 1 W := fun _ => by kernel_rfl
theorem agg26 : ∀ W : World, (isAgg 26).run Try.prog W = .ok false W := fun _ => by kernel_rfl
theorem size26 : ∀ W : World, (sizeOf 26).run Try.prog W = .ok 1 W := fun _ => by kernel_rfl
theorem agg30 : ∀ W : World, (isAgg 30).run Try.prog W = .ok false W := fun _ => by kernel_rfl
theorem size30 : ∀ W : World, (sizeOf 30).run Try.prog W = .ok 1 W := fun _ => by kernel_rfl
theorem agg31 : ∀ W : World, (isAgg 31).run Try.prog W = .ok false W := fun _ => by kernel_rfl
theorem size31 : ∀ W : World, (sizeOf 31).run Try.prog W = .ok 1 W := fun _ => by kernel_rfl
theorem agg32 : ∀ W : World, (isAgg 32).run Try.prog W = .ok false W := fun _ => by kernel_rfl
theorem size32 : ∀ W : World, (sizeOf 32).run Try.prog W = .ok 1 W := fun _ => by kernel_rfl
theorem agg34 : ∀ W : World, (isAgg 34).run Try.prog W = .ok true W := fun _ => by kernel_rfl
theorem size34 : ∀ W : World, (sizeOf 34).run Try.prog W = .ok 2 W := fun _ => by kernel_rfl
theorem agg36 : ∀ W : World, (isAgg 36).run Try.prog W = .ok true W := fun _ => by kernel_rfl
theorem size36 : ∀ W : World, (sizeOf 36).run Try.prog W = .ok 3 W := fun _ => by kernel_rfl
theorem agg37 : ∀ W : World, (isAgg 37).run Try.prog W = .ok false W := fun _ => by kernel_rfl
theorem size37 : ∀ W : World, (sizeOf 37).run Try.prog W = .ok 1 W := fun _ => by kernel_rfl
theorem agg39 : ∀ W : World, (isAgg 39).run Try.prog W = .ok true W := fun _ => by kernel_rfl
theorem size39 : ∀ W : World, (sizeOf 39).run Try.prog W = .ok 9 W := fun _ => by kernel_rfl
theorem agg43 : ∀ W : World, (isAgg 43).run Try.prog W = .ok true W := fun _ => by kernel_rfl
theorem size43 : ∀ W : World, (sizeOf 43).run Try.prog W = .ok 7 W := fun _ => by kernel_rfl
theorem agg45 : ∀ W : World, (isAgg 45).run Try.prog W = .ok false W := fun _ => by kernel_rfl
theorem size45 : ∀ W : World, (sizeOf 45).run Try.prog W = .ok 1 W := fun _ => by kernel_rfl
theorem agg60 : ∀ W : World, (isAgg 60).run Try.prog W = .ok false W := fun _ => by kernel_rfl
theorem size60 : ∀ W : World, (sizeOf 60).run Try.prog W = .ok 1 W := fun _ => by kernel_rfl
theorem agg90 : ∀ W : World, (isAgg 90).run Try.prog W = .ok false W := fun _ => by kernel_rfl
theorem size90 : ∀ W : World, (sizeOf 90).run Try.prog W = .ok 1 W := fun _ => by kernel_rfl
theorem zero5 : ∀ W : World, (zeroValue 5).run Try.prog W = .ok (.int .u8 0) W := fun _ => by kernel_rfl
theorem zero26 : ∀ W : World, (zeroValue 26).run Try.prog W = .ok (.slice none 0 0) W := fun _ => by kernel_rfl
theorem zero30 : ∀ W : World, (zeroValue 30).run Try.prog W = .ok (.int .u64 0) W := fun _ => by kernel_rfl
theorem zero34 : ∀ W : World, (zeroValue 34).run Try.prog W = .ok (.agg #[(.int .u16 0), (.int .u32 0)]) W := fun _ => by kernel_rfl
theorem zero36 : ∀ W : World, (zeroValue 36).run Try.prog W = .ok (.agg #[(.int .u32 0), (.int .u16 0), (.int .u32 0)]) W := fun _ => by kernel_rfl
theorem zero37 : ∀ W : World, (zeroValue 37).run Try.prog W = .ok (.slice none 0 0) W := fun _ => by kernel_rfl
theorem zero39 : ∀ W : World, (zeroValue 39).run Try.prog W = .ok (.agg #[(.int .i64 0), (.int .u64 0), (.bool false), (.int .u32 0), (.int .u16 0), (.int .u32 0), (.slice none 0 0), (.slice none 0 0), (.int .i64 0)]) W := fun _ => by kernel_rfl
theorem zero43 : ∀ W : World, (zeroValue 43).run Try.prog W = .ok (.agg #[(.int .i64 0), (.int .u16 0), (.int .u32 0), (.int .u16 0), (.int .u32 0), (.int .u64 0), (.slice none 0 0)]) W := fun _ => by kernel_rfl
theorem cpsz26 : (Try.prog.info? 5).map (·.size) = some 1 := by kernel_rfl
theorem info5 : (Try.prog.info? 5).map (fun i => (i.zero, i.size, i.bytes)) = some (some (.int .u8 0), 1, 1) := by kernel_rfl
theorem info26 : (Try.prog.info? 26).map (fun i => (i.zero, i.size, i.bytes)) = some (some (.slice none 0 0), 1, 24) := by kernel_rfl
theorem info34 : (Try.prog.info? 34).map (fun i => (i.zero, i.size, i.bytes)) = some (some (.agg #[(.int .u16 0), (.int .u32 0)]), 2, 8) := by kernel_rfl
theorem info90 : (Try.prog.info? 90).map (fun i => (i.zero, i.size, i.bytes)) = some (some (.pointer none), 1, 8) := by kernel_rfl
theorem zero90 : ∀ W : World, (zeroValue 90).run Try.prog W = .ok (.pointer none) W := fun _ => by kernel_rfl
theorem ent10 : ∀ (xs : Array Value) (W : World), (callFunc 10 xs).run Try.prog W = .ok (.enter 10 xs) W := fun _ _ => by kernel_rfl
theorem ent11 : ∀ (xs : Array Value) (W : World), (callFunc 11 xs).run Try.prog W = .ok (.enter 11 xs) W := fun _ _ => by kernel_rfl
theorem ent12 : ∀ (xs : Array Value) (W : World), (callFunc 12 xs).run Try.prog W = .ok (.enter 12 xs) W := fun _ _ => by kernel_rfl
theorem ent13 : ∀ (xs : Array Value) (W : World), (callFunc 13 xs).run Try.prog W = .ok (.enter 13 xs) W := fun _ _ => by kernel_rfl
theorem ent14 : ∀ (xs : Array Value) (W : World), (callFunc 14 xs).run Try.prog W = .ok (.enter 14 xs) W := fun _ _ => by kernel_rfl
theorem ent15 : ∀ (xs : Array Value) (W : World), (callFunc 15 xs).run Try.prog W = .ok (.enter 15 xs) W := fun _ _ => by kernel_rfl
theorem ent16 : ∀ (xs : Array Value) (W : World), (callFunc 16 xs).run Try.prog W = .ok (.enter 16 xs) W := fun _ _ => by kernel_rfl
theorem ent17 : ∀ (xs : Array Value) (W : World), (callFunc 17 xs).run Try.prog W = .ok (.enter 17 xs) W := fun _ _ => by kernel_rfl
theorem ent18 : ∀ (xs : Array Value) (W : World), (callFunc 18 xs).run Try.prog W = .ok (.enter 18 xs) W := fun _ _ => by kernel_rfl
theorem ent19 : ∀ (xs : Array Value) (W : World), (callFunc 19 xs).run Try.prog W = .ok (.enter 19 xs) W := fun _ _ => by kernel_rfl
theorem ent20 : ∀ (xs : Array Value) (W : World), (callFunc 20 xs).run Try.prog W = .ok (.enter 20 xs) W := fun _ _ => by kernel_rfl
theorem ent21 : ∀ (xs : Array Value) (W : World), (callFunc 21 xs).run Try.prog W = .ok (.enter 21 xs) W := fun _ _ => by kernel_rfl
theorem ent22 : ∀ (xs : Array Value) (W : World), (callFunc 22 xs).run Try.prog W = .ok (.enter 22 xs) W := fun _ _ => by kernel_rfl
theorem ent23 : ∀ (xs : Array Value) (W : World), (callFunc 23 xs).run Try.prog W = .ok (.enter 23 xs) W := fun _ _ => by kernel_rfl
theorem ent24 : ∀ (xs : Array Value) (W : World), (callFunc 24 xs).run Try.prog W = .ok (.enter 24 xs) W := fun _ _ => by kernel_rfl
theorem ent25 : ∀ (xs : Array Value) (W : World), (callFunc 25 xs).run Try.prog W = .ok (.enter 25 xs) W := fun _ _ => by kernel_rfl
theorem ent26 : ∀ (xs : Array Value) (W : World), (callFunc 26 xs).run Try.prog W = .ok (.enter 26 xs) W := fun _ _ => by kernel_rfl
theorem ent27 : ∀ (xs : Array Value) (W : World), (callFunc 27 xs).run Try.prog W = .ok (.enter 27 xs) W := fun _ _ => by kernel_rfl
theorem ent28 : ∀ (xs : Array Value) (W : World), (callFunc 28 xs).run Try.prog W = .ok (.enter 28 xs) W := fun _ _ => by kernel_rfl
theorem ent29 : ∀ (xs : Array Value) (W : World), (callFunc 29 xs).run Try.prog W = .ok (.enter 29 xs) W := fun _ _ => by kernel_rfl
theorem ent30 : ∀ (xs : Array Value) (W : World), (callFunc 30 xs).run Try.prog W = .ok (.enter 30 xs) W := fun _ _ => by kernel_rfl
theorem ent31 : ∀ (xs : Array Value) (W : World), (callFunc 31 xs).run Try.prog W = .ok (.enter 31 xs) W := fun _ _ => by kernel_rfl
theorem ent32 : ∀ (xs : Array Value) (W : World), (callFunc 32 xs).run Try.prog W = .ok (.enter 32 xs) W := fun _ _ => by kernel_rfl
theorem ent33 : ∀ (xs : Array Value) (W : World), (callFunc 33 xs).run Try.prog W = .ok (.enter 33 xs) W := fun _ _ => by kernel_rfl
theorem ent34 : ∀ (xs : Array Value) (W : World), (callFunc 34 xs).run Try.prog W = .ok (.enter 34 xs) W := fun _ _ => by kernel_rfl
theorem ent35 : ∀ (xs : Array Value) (W : World), (callFunc 35 xs).run Try.prog W = .ok (.enter 35 xs) W := fun _ _ => by kernel_rfl
theorem ent36 : ∀ (xs : Array Value) (W : World), (callFunc 36 xs).run Try.prog W = .ok (.enter 36 xs) W := fun _ _ => by kernel_rfl
theorem ent37 : ∀ (xs : Array Value) (W : World), (callFunc 37 xs).run Try.prog W = .ok (.enter 37 xs) W := fun _ _ => by kernel_rfl
theorem ent38 : ∀ (xs : Array Value) (W : World), (callFunc 38 xs).run Try.prog W = .ok (.enter 38 xs) W := fun _ _ => by kernel_rfl
theorem ent39 : ∀ (xs : Array Value) (W : World), (callFunc 39 xs).run Try.prog W = .ok (.enter 39 xs) W := fun _ _ => by kernel_rfl
theorem ent40 : ∀ (xs : Array Value) (W : World), (callFunc 40 xs).run Try.prog W = .ok (.enter 40 xs) W := fun _ _ => by kernel_rfl
theorem ent41 : ∀ (xs : Array Value) (W : World), (callFunc 41 xs).run Try.prog W = .ok (.enter 41 xs) W := fun _ _ => by kernel_rfl
theorem ent42 : ∀ (xs : Array Value) (W : World), (callFunc 42 xs).run Try.prog W = .ok (.enter 42 xs) W := fun _ _ => by kernel_rfl
theorem ent43 : ∀ (xs : Array Value) (W : World), (callFunc 43 xs).run Try.prog W = .ok (.enter 43 xs) W := fun _ _ => by kernel_rfl
theorem ent44 : ∀ (xs : Array Value) (W : World), (callFunc 44 xs).run Try.prog W = .ok (.enter 44 xs) W := fun _ _ => by kernel_rfl
theorem ent45 : ∀ (xs : Array Value) (W : World), (callFunc 45 xs).run Try.prog W = .ok (.enter 45 xs) W := fun _ _ => by kernel_rfl
theorem ent46 : ∀ (xs : Array Value) (W : World), (callFunc 46 xs).run Try.prog W = .ok (.enter 46 xs) W := fun _ _ => by kernel_rfl
theorem ent47 : ∀ (xs : Array Value) (W : World), (callFunc 47 xs).run Try.prog W = .ok (.enter 47 xs) W := fun _ _ => by kernel_rfl
theorem ent48 : ∀ (xs : Array Value) (W : World), (callFunc 48 xs).run Try.prog W = .ok (.enter 48 xs) W := fun _ _ => by kernel_rfl
theorem ent49 : ∀ (xs : Array Value) (W : World), (callFunc 49 xs).run Try.prog W = .ok (.enter 49 xs) W := fun _ _ => by kernel_rfl
theorem ent50 : ∀ (xs : Array Value) (W : World), (callFunc 50 xs).run Try.prog W = .ok (.enter 50 xs) W := fun _ _ => by kernel_rfl
theorem ent51 : ∀ (xs : Array Value) (W : World), (callFunc 51 xs).run Try.prog W = .ok (.enter 51 xs) W := fun _ _ => by kernel_rfl
theorem ent52 : ∀ (xs : Array Value) (W : World), (callFunc 52 xs).run Try.prog W = .ok (.enter 52 xs) W := fun _ _ => by kernel_rfl
theorem ent53 : ∀ (xs : Array Value) (W : World), (callFunc 53 xs).run Try.prog W = .ok (.enter 53 xs) W := fun _ _ => by kernel_rfl
theorem ent54 : ∀ (xs : Array Value) (W : World), (callFunc 54 xs).run Try.prog W = .ok (.enter 54 xs) W := fun _ _ => by kernel_rfl
theorem ent55 : ∀ (xs : Array Value) (W : World), (callFunc 55 xs).run Try.prog W = .ok (.enter 55 xs) W := fun _ _ => by kernel_rfl
theorem ent56 : ∀ (xs : Array Value) (W : World), (callFunc 56 xs).run Try.prog W = .ok (.enter 56 xs) W := fun _ _ => by kernel_rfl
theorem ent57 : ∀ (xs : Array Value) (W : World), (callFunc 57 xs).run Try.prog W = .ok (.enter 57 xs) W := fun _ _ => by kernel_rfl
theorem ent58 : ∀ (xs : Array Value) (W : World), (callFunc 58 xs).run Try.prog W = .ok (.enter 58 xs) W := fun _ _ => by kernel_rfl
theorem ent59 : ∀ (xs : Array Value) (W : World), (callFunc 59 xs).run Try.prog W = .ok (.enter 59 xs) W := fun _ _ => by kernel_rfl
theorem ent60 : ∀ (xs : Array Value) (W : World), (callFunc 60 xs).run Try.prog W = .ok (.enter 60 xs) W := fun _ _ => by kernel_rfl
theorem ent61 : ∀ (xs : Array Value) (W : World), (callFunc 61 xs).run Try.prog W = .ok (.enter 61 xs) W := fun _ _ => by kernel_rfl
theorem ent62 : ∀ (xs : Array Value) (W : World), (callFunc 62 xs).run Try.prog W = .ok (.enter 62 xs) W := fun _ _ => by kernel_rfl
theorem ent63 : ∀ (xs : Array Value) (W : World), (callFunc 63 xs).run Try.prog W = .ok (.enter 63 xs) W := fun _ _ => by kernel_rfl
theorem ent64 : ∀ (xs : Array Value) (W : World), (callFunc 64 xs).run Try.prog W = .ok (.enter 64 xs) W := fun _ _ => by kernel_rfl
theorem ent65 : ∀ (xs : Array Value) (W : World), (callFunc 65 xs).run Try.prog W = .ok (.enter 65 xs) W := fun _ _ => by kernel_rfl
theorem ent66 : ∀ (xs : Array Value) (W : World), (callFunc 66 xs).run Try.prog W = .ok (.enter 66 xs) W := fun _ _ => by kernel_rfl
theorem ent67 : ∀ (xs : Array Value) (W : World), (callFunc 67 xs).run Try.prog W = .ok (.enter 67 xs) W := fun _ _ => by kernel_rfl
theorem ent68 : ∀ (xs : Array Value) (W : World), (callFunc 68 xs).run Try.prog W = .ok (.enter 68 xs) W := fun _ _ => by kernel_rfl
theorem ent70 : ∀ (xs : Array Value) (W : World), (callFunc 70 xs).run Try.prog W = .ok (.enter 70 xs) W := fun _ _ => by kernel_rfl
theorem ent72 : ∀ (xs : Array Value) (W : World), (callFunc 72 xs).run Try.prog W = .ok (.enter 72 xs) W := fun _ _ => by kernel_rfl
theorem ent74 : ∀ (xs : Array Value) (W : World), (callFunc 74 xs).run Try.prog W = .ok (.enter 74 xs) W := fun _ _ => by kernel_rfl
theorem ent76 : ∀ (xs : Array Value) (W : World), (callFunc 76 xs).run Try.prog W = .ok (.enter 76 xs) W := fun _ _ => by kernel_rfl
theorem ent79 : ∀ (xs : Array Value) (W : World), (callFunc 79 xs).run Try.prog W = .ok (.enter 79 xs) W := fun _ _ => by kernel_rfl
theorem ent80 : ∀ (xs : Array Value) (W : World), (callFunc 80 xs).run Try.prog W = .ok (.enter 80 xs) W := fun _ _ => by kernel_rfl
theorem ent81 : ∀ (xs : Array Value) (W : World), (callFunc 81 xs).run Try.prog W = .ok (.enter 81 xs) W := fun _ _ => by kernel_rfl
theorem ent82 : ∀ (xs : Array Value) (W : World), (callFunc 82 xs).run Try.prog W = .ok (.enter 82 xs) W := fun _ _ => by kernel_rfl
theorem ent84 : ∀ (xs : Array Value) (W : World), (callFunc 84 xs).run Try.prog W = .ok (.enter 84 xs) W := fun _ _ => by kernel_rfl
theorem ent85 : ∀ (xs : Array Value) (W : World), (callFunc 85 xs).run Try.prog W = .ok (.enter 85 xs) W := fun _ _ => by kernel_rfl
theorem ent86 : ∀ (xs : Array Value) (W : World), (callFunc 86 xs).run Try.prog W = .ok (.enter 86 xs) W := fun _ _ => by kernel_rfl
theorem ent87 : ∀ (xs : Array Value) (W : World), (callFunc 87 xs).run Try.prog W = .ok (.enter 87 xs) W := fun _ _ => by kernel_rfl
theorem ent88 : ∀ (xs : Array Value) (W : World), (callFunc 88 xs).run Try.prog W = .ok (.enter 88 xs) W := fun _ _ => by kernel_rfl
/-- Bytes, as values. -/
def bv (l : List Nat) : List Value := l.map fun (x : Nat) => .int .u8 (x : Int)
def elB (l : List Nat) (i : Nat) : Array Value := #[.int .u8 ((l.getD i 0 : Nat) : Int)]
theorem bv_len (l : List Nat) : (bv l).length = l.length := by simp [bv]
theorem bv_one (l : List Nat) : ∀ u ∈ bv l, u.oneCell' = true := by
  intro u hu; obtain ⟨x, _, rfl⟩ := List.mem_map.1 hu; rfl
theorem bv_app (l m : List Nat) : bv l ++ bv m = bv (l ++ m) := by simp [bv]
theorem Sl.src {w : World} {a : Option Addr} {c : Nat} {l : List Nat} (h : Sl w 1 l.length (.slice a l.length c) (elB l)) : 0 < l.length → ∃ ad, a = some ad ∧ ∀ j u, (bv l)[j]? = some u → w.cell? (ad.add j) = some u := by
  obtain ⟨a', c', e, hm, hE⟩ := h
  injection e with e1 e2 e3
  subst e1
  intro h0
  obtain ⟨b, off, rfl, hb, hc⟩ := hE h0
  refine ⟨_, rfl, fun j u hu => ?_⟩
  have hj : j < l.length := by
    rcases Nat.lt_or_ge j l.length with h | h
    · exact h
    · rw [List.getElem?_eq_none (by rw [bv_len]; exact h)] at hu; cases hu
  have hadd : (⟨b, off, none⟩ : Addr).add j = ⟨b, off + j, none⟩ := by unfold Addr.add; split <;> simp_all
  have := hc j hj 0 (by omega)
  rw [Nat.mul_one, Nat.add_zero] at this
  rw [hadd, this, ← hu]
  simp [elB, bv, List.getD, hj]
theorem room_ok (v : Value) (l : List Nat) (more : Int) (hm0 : 0 ≤ more) (hm1 : more ≤ 1000) (hl : l.length ≤ 1000000) (w : World) (hs : Sl w 1 l.length v (elB l)) :
    Calls Try.prog 79 #[v, .int .i64 more] w (Ret fun v' w' => (∃ ap cp, v' = .slice ap l.length cp) ∧ w'.ownsRow w.heap.size 5 1 v' l.length (bv l) ∧ Below w.heap.size w w') := by
  have hs' := hs
  obtain ⟨a, c, rfl, hm, _⟩ := hs'
  unfold maxLen at hm
  have H := St.init w
  go_enter Try.func79, Try.ntmps79
  go_wp2_with (first | (with_reducible refine wpl rfl (Stp.mk 12 rfl rfl Try.underlying26 info5 rfl rfl rfl (by omega) (by omega) (by omega) (by omega) H ?_); clear H; intro a12 c12 w1 H; simp only [Act.put, List.setIfInBounds_toArray, List.set_cons_zero, List.set_cons_succ]; (try simp only [Int.toNat_natCast, toNat_add8] at H ⊢)) | (with_reducible refine wpl rfl (Stp.cp 15 rfl rfl Try.underlying26 cpsz26 rfl rfl H (by repeat (first | exact Upd.head | apply Upd.tail)) (bv_len l) (hs.grow H.below).src (bv_one l) ?_); clear H; intro w1 H; simp only [Act.put, List.setIfInBounds_toArray, List.set_cons_zero, List.set_cons_succ]))
  go_ret
  have ho := H.getSlc List.mem_cons_self
  have e1 : (bv l).take l.length ++ (List.replicate l.length (Value.int .u8 0)).drop l.length = bv l := by
    rw [List.take_of_length_le (by rw [bv_len]; exact Nat.le_refl _), List.drop_of_length_le (by simp), List.append_nil]
  rw [e1] at ho
  exact ⟨_, rfl, ⟨_, _, rfl⟩, ho, H.below⟩
/-- Is it a width? -/
def wide (n : Int) : Bool := n == 1 || n == 2 || n == 4 || n == 8
theorem wide_ok (n : Int) (w : World) : Calls Try.prog 80 #[.int .i64 n] w (Ret fun v w' => v = .bool (wide n) ∧ Below w.heap.size w w') := by
  have H := St.init w
  by_cases h1 : n = 1
  · subst h1
    go_enter Try.func80, Try.ntmps80
    go_wp2
    go_ret
    exact ⟨_, rfl, rfl, H.below⟩
  by_cases h2 : n = 2
  · subst h2
    go_enter Try.func80, Try.ntmps80
    go_wp2
    go_ret
    exact ⟨_, rfl, rfl, H.below⟩
  by_cases h4 : n = 4
  · subst h4
    go_enter Try.func80, Try.ntmps80
    go_wp2
    go_ret
    exact ⟨_, rfl, rfl, H.below⟩
  by_cases h8 : n = 8
  · subst h8
    go_enter Try.func80, Try.ntmps80
    go_wp2
    go_ret
    exact ⟨_, rfl, rfl, H.below⟩
  have b1 : (n == 1) = false := by simpa using h1
  have b2 : (n == 2) = false := by simpa using h2
  have b4 : (n == 4) = false := by simpa using h4
  have b8 : (n == 8) = false := by simpa using h8
  go_enter Try.func80, Try.ntmps80
  go_wp2
  go_ret
  exact ⟨_, rfl, by simp [wide, b1, b2, b4, b8], H.below⟩
end Go.Proofs.Ytcjbippgjhgoiaa
