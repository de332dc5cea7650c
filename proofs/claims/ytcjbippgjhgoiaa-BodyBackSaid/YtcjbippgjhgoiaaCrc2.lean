/- Contracts of layer 2's sums, by program and by reference, of Pick, and the document's example of that layer; the bounds stand in each. -/
import Derived.Test.YtcjbippgjhgoiaaCrc1
import Derived.Test.YtcjbippgjhgoiaaBase4
namespace Go.Proofs.Ytcjbippgjhgoiaa
open Go.ChangeShapes Go.WideShapes Go.ChangeAt Go.RowKit
set_option linter.unusedVariables false
set_option linter.unusedSimpArgs false
/-- Some parts. -/
def cat (ps : List (Value × List Nat)) : List Nat := ps.flatMap (·.2)
def elP (ps : List (Value × List Nat)) (i : Nat) : Array Value := #[(ps.getD i (undef, [])).1]
/-- Parts that are bytes. -/
def okP (w : World) (p : Value × List Nat) : Prop := Sl w 1 p.2.length p.1 (elB p.2) ∧ p.2.length ≤ 1000000 ∧ ∀ x ∈ p.2, x < 256
theorem cat_snoc (ps : List (Value × List Nat)) (k : Nat) (h : k < ps.length) : cat (ps.take (k + 1)) = cat (ps.take k) ++ (ps.getD k (undef, [])).2 := by
  unfold cat
  rw [List.take_succ_eq_append_getElem h, List.flatMap_append]
  simp [List.getD, h]
theorem cat_byte {w : World} {ps : List (Value × List Nat)} (h : ∀ p ∈ ps, okP w p) : ∀ x ∈ cat ps, x < 256 := fun x hx => by
  obtain ⟨p, hp, hx⟩ := List.mem_flatMap.1 hx
  exact (h p hp).2.2 x hx
set_option maxRecDepth 100000 in
theorem sum_ok (v : Value) (ps : List (Value × List Nat)) (w : World) (hp : ∀ p ∈ ps, okP w p) (hl : ps.length ≤ 1000) (hs : Sl w 1 ps.length v (elP ps)) :
    Calls Try.prog 81 #[v] w (Ret fun v w' => v = .int .u32 ((sumC (cat ps) : Nat) : Int) ∧ Below w.heap.size w w') := by
  have hs' := hs
  obtain ⟨ad, cp, rfl, hm, hE⟩ := hs'
  have HE := Lib.hid hE
  clear hE
  have hm : ps.length ≤ 9223372036854775807 := by unfold maxLen at hm; exact hm
  have H := St.init w
  have HPS := Lib.hid hp
  clear hp
  go_enter Try.func81, Try.ntmps81
  go_wp2_with (first | (go_at_call 84; refine (begin_ok _).mono ?_; rintro e w1 ⟨v, rfl, hr⟩; obtain ⟨rfl, hb1⟩ := hr; replace H := H.grow hb1; clear hb1) | (with_reducible refine wpl rfl (Stp.ldc rfl agg26 rfl H (by repeat (first | exact List.mem_cons_self | apply List.mem_cons_of_mem)) (by first | (repeat (first | exact lit0 _ _ | apply lits)) | rfl | assumption) ?_); simp only [Act.put, List.setIfInBounds_toArray, List.set_cons_zero, List.set_cons_succ]) | (with_reducible refine wpl rfl (Stp.ldo rfl agg26 rfl H (by assumption) (by assumption) ?_); simp only [Act.put, List.setIfInBounds_toArray, List.set_cons_zero, List.set_cons_succ]))
  go_loopw [9, 3] (fun i x wr => ∃ k t : Nat, k ≤ ps.length ∧ i = .int .i64 (k : Int) ∧ x = .int .u32 (t : Int) ∧ Hid (goC 4294967295 (cat (ps.take k)) = t) ∧ St w.heap.size w wr []) (fun i _ _ => ps.length - (intOf i).toNat)
  case atStart => exact ⟨0, 4294967295, Nat.zero_le _, rfl, rfl, Lib.hid rfl, H⟩
  case round =>
    clear H
    obtain ⟨k, t, hk, rfl, rfl, HT, H⟩ := hrel
    by_cases hlt : k < ps.length
    · obtain ⟨b1, o1, rfl, hb1, hc⟩ := HE.out (by omega)
      clear HE
      have hc1 := hc k hlt 0 (by omega)
      rw [Nat.mul_one, Nat.add_zero] at hc1
      have hok := HPS.out (ps.getD k (undef, [])) (by simp [List.getD, hlt])
      have hcat := cat_snoc ps k hlt
      have hby : ∀ x ∈ cat (ps.take k), x < 256 := cat_byte (w := w) (fun p hp => HPS.out p (List.mem_of_mem_take hp))
      have hgl : goC 4294967295 (cat (ps.take k)) < 4294967296 := goC_lt (by omega) hby
      rw [HT.out] at hgl
      unfold elP at hc1
      rcases hpp : ps.getD k (undef, []) with ⟨pv, pl⟩
      rw [hpp] at hok hcat hc1
      obtain ⟨hsl, hpl, hpx⟩ := hok
      have hc1 : w.cell? ⟨b1, o1 + k, none⟩ = some pv := hc1
      have HC := Lib.hid hcat
      clear hc hpp hcat hby
      go_wp2_with (first | (go_at_call 85; refine (go_ok t hgl pv pl hpl hpx _ (hsl.grow H.below)).mono ?_; rintro e w1 ⟨v, rfl, hr⟩; obtain ⟨rfl, hb1⟩ := hr; replace H := H.grow hb1; clear hb1) | (with_reducible refine wpl rfl (Stp.ldc rfl agg26 rfl H (by repeat (first | exact List.mem_cons_self | apply List.mem_cons_of_mem)) (by first | (repeat (first | exact lit0 _ _ | apply lits)) | rfl | assumption) ?_); simp only [Act.put, List.setIfInBounds_toArray, List.set_cons_zero, List.set_cons_succ]) | (with_reducible refine wpl rfl (Stp.ldo rfl agg26 rfl H (by assumption) (by assumption) ?_); simp only [Act.put, List.setIfInBounds_toArray, List.set_cons_zero, List.set_cons_succ]))
      go_roundw
      case rel => exact ⟨k + 1, _, by omega, by go_num, rfl, Lib.hid (by rw [HC.out, goC_app, HT.out]), H⟩
      case measure => simp [intOf]; omega
    · obtain rfl : k = ps.length := by omega
      rw [List.take_length] at HT
      have htl : t < 4294967296 := by rw [← HT.out]; exact goC_lt (by omega) (cat_byte HPS.out)
      go_wp2_with (first | (go_at_call 86; refine (end_ok t htl _).mono ?_; rintro e w1 ⟨v, rfl, hr⟩; obtain ⟨rfl, hb1⟩ := hr; replace H := H.grow hb1; clear hb1) | (with_reducible refine wpl rfl (Stp.ldc rfl agg26 rfl H (by repeat (first | exact List.mem_cons_self | apply List.mem_cons_of_mem)) (by first | (repeat (first | exact lit0 _ _ | apply lits)) | rfl | assumption) ?_); simp only [Act.put, List.setIfInBounds_toArray, List.set_cons_zero, List.set_cons_succ]) | (with_reducible refine wpl rfl (Stp.ldo rfl agg26 rfl H (by assumption) (by assumption) ?_); simp only [Act.put, List.setIfInBounds_toArray, List.set_cons_zero, List.set_cons_succ]))
      go_ret
      refine ⟨_, rfl, ?_, H.below⟩
      rw [sumC, HT.out]
      rfl
set_option maxRecDepth 100000 in
theorem rsum_ok (v : Value) (l : List Nat) (hl : l.length ≤ 1000000) (hx : ∀ x ∈ l, x < 256) (w : World) (hs : Sl w 1 l.length v (elB l)) :
    Calls Try.prog 82 #[v] w (Ret fun v w' => v = .int .u32 ((sumC l : Nat) : Int) ∧ Below w.heap.size w w') := by
  have hs' := hs
  obtain ⟨ad, cp, rfl, hm⟩ := hs'.len
  have H := St.init w
  have HX := Lib.hid hx
  clear hx
  go_enter Try.func82, Try.ntmps82
  go_wp2_with (first | (with_reducible refine wpl rfl (Stp.ldc rfl agg5 rfl H (by repeat (first | exact List.mem_cons_self | apply List.mem_cons_of_mem)) (by first | (repeat (first | exact lit0 _ _ | apply lits)) | rfl | assumption) ?_); simp only [Act.put, List.setIfInBounds_toArray, List.set_cons_zero, List.set_cons_succ]) | (with_reducible refine wpl rfl (Stp.ldo rfl agg5 rfl H (by assumption) (by assumption) ?_); simp only [Act.put, List.setIfInBounds_toArray, List.set_cons_zero, List.set_cons_succ]))
  go_loopw [4, 3] (fun i x wr => ∃ k t : Nat, k ≤ l.length ∧ i = .int .i64 (k : Int) ∧ x = .int .u32 (t : Int) ∧ Hid (goC 4294967295 (l.take k) = t) ∧ St w.heap.size w wr []) (fun i _ _ => l.length - (intOf i).toNat)
  case atStart => exact ⟨0, 4294967295, Nat.zero_le _, rfl, rfl, Lib.hid rfl, H⟩
  case round =>
    clear H
    obtain ⟨k, t, hk, rfl, rfl, HT, H⟩ := hrel
    have ht : t < 4294967296 := by rw [← HT.out]; exact goC_lt (by omega) (fun x hm => HX.out x (List.mem_of_mem_take hm))
    by_cases hlt : k < l.length
    · obtain ⟨b1, o1, rfl, hb1, hc1⟩ := hs.byte hlt
      obtain ⟨y, hy⟩ : ∃ y : Nat, y = l.getD k 0 := ⟨_, rfl⟩
      have hy8 : y < 256 := by rw [hy]; exact getD_byte HX.out k
      rw [← hy] at hc1
      have hsn : goC 4294967295 (l.take (k + 1)) = byteC t y := by rw [take_snoc l k hlt, goC_snoc, HT.out, hy]
      have HS := Lib.hid hsn
      clear hsn hy
      go_wp2_with (first | (go_at_call 87; refine (refgo_ok t y ht hy8 _).mono ?_; rintro e w1 ⟨v, rfl, hr⟩; obtain ⟨rfl, hb1⟩ := hr; replace H := H.grow hb1; clear hb1) | (with_reducible refine wpl rfl (Stp.ldc rfl agg5 rfl H (by repeat (first | exact List.mem_cons_self | apply List.mem_cons_of_mem)) (by first | (repeat (first | exact lit0 _ _ | apply lits)) | rfl | assumption) ?_); simp only [Act.put, List.setIfInBounds_toArray, List.set_cons_zero, List.set_cons_succ]) | (with_reducible refine wpl rfl (Stp.ldo rfl agg5 rfl H (by assumption) (by assumption) ?_); simp only [Act.put, List.setIfInBounds_toArray, List.set_cons_zero, List.set_cons_succ]))
      go_roundw
      case rel => exact ⟨k + 1, _, by omega, by go_num, rfl, HS, H⟩
      case measure => simp [intOf]; omega
    · obtain rfl : k = l.length := by omega
      rw [List.take_length] at HT
      go_wp2_with (first | (go_at_call 88; refine (turned_ok t 4294967295 ht (by omega) _).mono ?_; rintro e w1 ⟨v, rfl, hr⟩; obtain ⟨rfl, hb1⟩ := hr; replace H := H.grow hb1; clear hb1) | (with_reducible refine wpl rfl (Stp.ldc rfl agg5 rfl H (by repeat (first | exact List.mem_cons_self | apply List.mem_cons_of_mem)) (by first | (repeat (first | exact lit0 _ _ | apply lits)) | rfl | assumption) ?_); simp only [Act.put, List.setIfInBounds_toArray, List.set_cons_zero, List.set_cons_succ]) | (with_reducible refine wpl rfl (Stp.ldo rfl agg5 rfl H (by assumption) (by assumption) ?_); simp only [Act.put, List.setIfInBounds_toArray, List.set_cons_zero, List.set_cons_succ]))
      go_ret
      refine ⟨_, rfl, ?_, H.below⟩
      rw [sumC, HT.out]
      rfl
/-- A slice literal of one part. -/
theorem one_part {w : World} {g : Nat} {v : Value} {l : List Nat} (h : rowAt w g = some #[v]) : Sl w 1 [(v, l)].length (.slice (some ⟨g, 0, none⟩) 1 1) (elP [(v, l)]) :=
  Sl.of_row h (by simp [maxLen]) (fun i hi j hj => by
    obtain rfl : j = 0 := by omega
    obtain rfl : i = 0 := by simp at hi; omega
    simp [elP])
theorem two_parts {w : World} {g : Nat} {u v : Value} {l m : List Nat} (h : rowAt w g = some #[u, v]) : Sl w 1 [(u, l), (v, m)].length (.slice (some ⟨g, 0, none⟩) 2 2) (elP [(u, l), (v, m)]) :=
  Sl.of_row h (by simp [maxLen]) (fun i hi j hj => by
    obtain rfl : j = 0 := by omega
    have hi' : i = 0 ∨ i = 1 := by simp at hi; omega
    rcases hi' with rfl | rfl <;> simp [elP])
theorem sum_one (v u : Value) (l : List Nat) (hl : l.length ≤ 1000000) (hx : ∀ x ∈ l, x < 256) (w : World) (h1 : Sl w 1 1 u (elP [(v, l)])) (hs : Sl w 1 l.length v (elB l)) :
    Calls Try.prog 81 #[u] w (Ret fun v w' => v = .int .u32 ((sumC l : Nat) : Int) ∧ Below w.heap.size w w') := by
  have := sum_ok u [(v, l)] w (fun p hp => by rw [List.mem_singleton] at hp; subst hp; exact ⟨hs, hl, hx⟩) (by simp) h1
  simpa [cat] using this
theorem sum_two (v v' u : Value) (l m : List Nat) (hl : l.length ≤ 1000000) (hm : m.length ≤ 1000000) (hx : ∀ x ∈ l ++ m, x < 256) (w : World) (h1 : Sl w 1 2 u (elP [(v, l), (v', m)])) (hs : Sl w 1 l.length v (elB l)) (hs' : Sl w 1 m.length v' (elB m)) :
    Calls Try.prog 81 #[u] w (Ret fun v w' => v = .int .u32 ((sumC (l ++ m) : Nat) : Int) ∧ Below w.heap.size w w') := by
  have := sum_ok u [(v, l), (v', m)] w (fun p hp => by
    rcases List.mem_cons.1 hp with rfl | hp
    · exact ⟨hs, hl, fun x h => hx x (List.mem_append_left _ h)⟩
    · rw [List.mem_singleton] at hp; subst hp; exact ⟨hs', hm, fun x h => hx x (List.mem_append_right _ h)⟩) (by simp) h1
  simpa [cat] using this
theorem sum_none (w : World) : Calls Try.prog 81 #[.slice none 0 0] w (Ret fun v w' => v = .int .u32 0 ∧ Below w.heap.size w w') := by
  have := sum_ok (.slice none 0 0) [] w (fun p hp => by cases hp) (by simp) ⟨_, _, rfl, by simp [maxLen], fun h => absurd h (Nat.lt_irrefl _)⟩
  simpa [cat, sumC, goC] using this
theorem sum_ex : sumC [49, 50, 51, 52, 53, 54, 55, 56, 57] = 3421780262 := by decide +kernel
theorem pick_any (b : Int) (n : Nat) (hn : 0 < n) (hn2 : n ≤ 1000000) (w : World) :
    Calls Try.prog 25 #[.int .i64 b, .int .i64 (n : Int)] w (Ret fun v w' => ∃ k : Nat, k < n ∧ v = .int .i64 (k : Int) ∧ Below w.heap.size w w') := by
  have H := St.init w
  have hr : -(n : Int) < b.tmod n ∧ b.tmod n < n := by
    have h1 := Int.emod_nonneg b (show (n : Int) ≠ 0 by omega)
    have h2 := Int.emod_lt_of_pos b (show (0 : Int) < n by omega)
    have h := Int.tmod_eq_emod (a := b) (b := (n : Int))
    rw [Int.natAbs_natCast] at h
    split at h <;> omega
  obtain ⟨e, he⟩ : ∃ e, b.tmod n = e := ⟨_, rfl⟩
  rw [he] at hr
  obtain ⟨h1, h2⟩ := hr
  have n1 : ¬ (n : Int) < 1 := by omega
  have nz : ((n : Int) == 0) = false := by simp; omega
  by_cases h0 : e < 0
  · go_enter Try.func25, Try.ntmps25
    go_wp2
    go_ret
    exact ⟨_, rfl, (e + n).toNat, by omega, congrArg (Value.int IntKind.i64) (show e + (n : Int) = _ by omega), H.below⟩
  · go_enter Try.func25, Try.ntmps25
    go_wp2
    go_ret
    exact ⟨_, rfl, e.toNat, by omega, congrArg (Value.int IntKind.i64) (show e = _ by omega), H.below⟩
end Go.Proofs.Ytcjbippgjhgoiaa
