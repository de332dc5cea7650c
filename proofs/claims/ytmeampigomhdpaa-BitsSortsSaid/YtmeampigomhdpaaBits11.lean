/- The statement BitsBack of layer 1 (bits), proved; no condition: the law's walk, and the row round it. -/
import Derived.Test.YtmeampigomhdpaaBits10
import Derived.Laws.BitsAllLaws
namespace Go.Proofs.Ytmeampigomhdpaa
open Go.ChangeShapes Go.WideShapes Go.ChangeAt Go.RowKit Go.Deep
set_option linter.unusedVariables false
set_option linter.unusedSimpArgs false
theorem numB_put (n W : Nat) : ∀ k, k ≤ W → numB (putB n W k) = n / 256 ^ (W - k) % 256 ^ k := by
  intro k
  induction k with
  | zero => intro _; simp [putB, numB, Nat.mod_one]
  | succ k ih =>
    intro hk
    rw [putB_succ, numB_snoc, ih (by omega)]
    have e1 : W - k = (W - (k + 1)) + 1 := by omega
    have e2 : W - 1 - k = W - (k + 1) := by omega
    rw [e1, e2, Nat.pow_succ, ← Nat.div_div_eq_div_mul]
    generalize n / 256 ^ (W - (k + 1)) = m
    rw [Nat.pow_succ, Nat.mul_comm (256 ^ k) 256, Nat.mod_mul]
    omega
theorem putnil_ok (n : Nat) (hn : n < 18446744073709551616) (W : Nat) (hw : wide W = true) (w : World) :
    Calls Try.prog 15 #[.slice none 0 0, .int .u64 (n : Int), .int .i64 (W : Int)] w (Ret fun v' w' => (∃ ap cp, v' = .slice ap W cp) ∧ w'.ownsRow w.heap.size 5 1 v' W (bv (putB n W W)) ∧ Below w.heap.size w w') := by
  have hnil : Sl w 1 ([] : List Nat).length (.slice none 0 0) (elB []) := ⟨_, _, rfl, by simp [maxLen], fun h => absurd h (Nat.lt_irrefl _)⟩
  have := put_ok _ [] n hn W hw (by simp) w hnil
  simpa using this
theorem getown_ok (n : Nat) (W : Nat) (hw : wide W = true) {ap : Option Addr} {cp B : Nat} {w : World} (ho : w.ownsRow B 5 1 (.slice ap W cp) W (bv (putB n W W))) :
    Calls Try.prog 27 #[.slice ap W cp, .int .i64 (W : Int)] w (Ret fun v w' => v = .tuple #[.int .u64 ((n % 256 ^ W : Nat) : Int), .int .i64 0] ∧ Below w.heap.size w w') := by
  have hW8 : 1 ≤ W ∧ W ≤ 8 := by simp [wide] at hw; omega
  have hl := putB_len n W W
  have hc : W ≤ cp := by
    rcases ho.2 with ⟨_, e2⟩ | ⟨g, cap, cur, e1, hbg, hgc, hnc, hcm, hcs, htake⟩
    · omega
    · cases e1; exact hnc
  have hs := own_slk ho hl.symm (by omega)
  have hb : ∀ x ∈ putB n W W, x < 256 := fun x hx => by
    unfold putB at hx
    obtain ⟨j, _, rfl⟩ := List.mem_map.1 hx
    exact Nat.mod_lt _ (by omega)
  have e := numB_put n W W (Nat.le_refl _)
  rw [Nat.sub_self, Nat.pow_zero, Nat.div_one] at e
  have ht : (putB n W W).take W = putB n W W := List.take_of_length_le (by omega)
  have h := fun h1 => get_ok ap cp (putB n W W) W hw (by omega) (by omega) hb w h1
  rw [ht, e, hl] at h
  rw [hl] at hs
  exact h hs
theorem narrow_no (n : Nat) (hn : n < 18446744073709551616) (width : Int) (hw : wide width = false) (w : World) :
    Calls Try.prog 37 #[.int .u64 (n : Int), .int .i64 width] w (Ret fun v w' => v = .tuple #[.int .u64 0, .bool false] ∧ Below w.heap.size w w') := by
  have h1 : (width == 1) = false ∧ (width == 2) = false ∧ (width == 4) = false ∧ (width == 8) = false := by
    unfold wide at hw; simp only [Bool.or_eq_false_iff] at hw; exact ⟨hw.1.1.1, hw.1.1.2, hw.1.2, hw.2⟩
  obtain ⟨h1, h2, h4, h8⟩ := h1
  have HN := Lib.hid hn
  clear hn hw
  have H := St.init w
  go_enter Try.func37, Try.ntmps37
  go_wp2_with fail
  go_ret2
  exact ⟨_, rfl, rfl, H.below⟩
theorem narrow1_ok (n : Nat) (hn : n < 18446744073709551616) (w : World) :
    Calls Try.prog 37 #[.int .u64 (n : Int), .int .i64 1] w (Ret fun v w' => v = .tuple #[.int .u64 ((n % 256 ^ 1 : Nat) : Int), .bool (((n % 256 ^ 1 : Nat) : Int) == (n : Int))] ∧ Below w.heap.size w w') := by
  have H := St.init w
  go_enter Try.func37, Try.ntmps37
  go_wp2_with fail
  go_ret2
  refine ⟨_, rfl, ?_, H.below⟩
  rw [show (256 : Nat) ^ 1 = 256 by decide +kernel]
  first
    | rfl
    | (simp [IntKind.wrap_u64, IntKind.wrap_u8, IntKind.wrap_u16, IntKind.wrap_u32]; done)
    | (have h : IntKind.u64.wrap (IntKind.u16.wrap (n : Int)) = ((n % 65536 : Nat) : Int) := by
         simp only [IntKind.wrap_u64, IntKind.wrap_u16]; omega
       rw [← h]; rfl)
    | (rw [show ((n % 256 : Nat) : Int) = (n : Int) by omega]; simp; done)

theorem narrow2_ok (n : Nat) (hn : n < 18446744073709551616) (w : World) :
    Calls Try.prog 37 #[.int .u64 (n : Int), .int .i64 2] w (Ret fun v w' => v = .tuple #[.int .u64 ((n % 256 ^ 2 : Nat) : Int), .bool (((n % 256 ^ 2 : Nat) : Int) == (n : Int))] ∧ Below w.heap.size w w') := by
  have H := St.init w
  go_enter Try.func37, Try.ntmps37
  go_wp2_with fail
  go_ret2
  refine ⟨_, rfl, ?_, H.below⟩
  rw [show (256 : Nat) ^ 2 = 65536 by decide +kernel]
  first
    | rfl
    | (simp [IntKind.wrap_u64, IntKind.wrap_u8, IntKind.wrap_u16, IntKind.wrap_u32]; done)
    | (have h : IntKind.u64.wrap (IntKind.u16.wrap (n : Int)) = ((n % 65536 : Nat) : Int) := by
         simp only [IntKind.wrap_u64, IntKind.wrap_u16]; omega
       rw [← h]; rfl)
    | (rw [show ((n % 65536 : Nat) : Int) = (n : Int) by omega]; simp; done)

theorem narrow4_ok (n : Nat) (hn : n < 18446744073709551616) (w : World) :
    Calls Try.prog 37 #[.int .u64 (n : Int), .int .i64 4] w (Ret fun v w' => v = .tuple #[.int .u64 ((n % 256 ^ 4 : Nat) : Int), .bool (((n % 256 ^ 4 : Nat) : Int) == (n : Int))] ∧ Below w.heap.size w w') := by
  have H := St.init w
  go_enter Try.func37, Try.ntmps37
  go_wp2_with fail
  go_ret2
  refine ⟨_, rfl, ?_, H.below⟩
  rw [show (256 : Nat) ^ 4 = 4294967296 by decide +kernel]
  first
    | rfl
    | (simp [IntKind.wrap_u64, IntKind.wrap_u8, IntKind.wrap_u16, IntKind.wrap_u32]; done)
    | (have h : IntKind.u64.wrap (IntKind.u16.wrap (n : Int)) = ((n % 65536 : Nat) : Int) := by
         simp only [IntKind.wrap_u64, IntKind.wrap_u16]; omega
       rw [← h]; rfl)
    | (rw [show ((n % 4294967296 : Nat) : Int) = (n : Int) by omega]; simp; done)

theorem narrow8_ok (n : Nat) (hn : n < 18446744073709551616) (w : World) :
    Calls Try.prog 37 #[.int .u64 (n : Int), .int .i64 8] w (Ret fun v w' => v = .tuple #[.int .u64 ((n % 256 ^ 8 : Nat) : Int), .bool (((n % 256 ^ 8 : Nat) : Int) == (n : Int))] ∧ Below w.heap.size w w') := by
  have H := St.init w
  go_enter Try.func37, Try.ntmps37
  go_wp2_with fail
  go_ret2
  refine ⟨_, rfl, ?_, H.below⟩
  rw [show (256 : Nat) ^ 8 = 18446744073709551616 by decide +kernel]
  first
    | rfl
    | (simp [IntKind.wrap_u64, IntKind.wrap_u8, IntKind.wrap_u16, IntKind.wrap_u32]; done)
    | (have h : IntKind.u64.wrap (IntKind.u16.wrap (n : Int)) = ((n % 65536 : Nat) : Int) := by
         simp only [IntKind.wrap_u64, IntKind.wrap_u16]; omega
       rw [← h]; rfl)
    | (rw [show ((n % 18446744073709551616 : Nat) : Int) = (n : Int) by omega]; simp; done)

set_option maxRecDepth 100000 in
set_option maxHeartbeats 1000000 in
theorem law_back1 (n : Nat) (hn : n < 18446744073709551616) (w : World) :
    Calls Try.prog 12 #[.int .u64 (n : Int), .int .i64 1] w (Ret fun v w' => v = .bool true ∧ Below w.heap.size w w') := by
  have H := St.init w
  have hN : ∀ w, Calls Try.prog 37 #[.int .u64 (n : Int), .int .i64 1] w (Ret fun v w' => v = .tuple #[.int .u64 ((n % 256 ^ 1 : Nat) : Int), .bool (((n % 256 ^ 1 : Nat) : Int) == (n : Int))] ∧ Below w.heap.size w w') := fun w => narrow1_ok n hn w
  have hP : ∀ w, Calls Try.prog 15 #[.slice none 0 0, .int .u64 (n : Int), .int .i64 1] w (Ret fun v' w' => (∃ ap cp, v' = .slice ap 1 cp) ∧ w'.ownsRow w.heap.size 5 1 v' 1 (bv (putB n 1 1)) ∧ Below w.heap.size w w') := fun w => putnil_ok n hn 1 (by decide) w
  have hG : ∀ (ap : Option Addr) (cp B : Nat) (w : World), w.ownsRow B 5 1 (.slice ap 1 cp) 1 (bv (putB n 1 1)) → Calls Try.prog 27 #[.slice ap 1 cp, .int .i64 1] w (Ret fun v w' => v = .tuple #[.int .u64 ((n % 256 ^ 1 : Nat) : Int), .int .i64 0] ∧ Below w.heap.size w w') := fun ap cp B w ho => getown_ok n 1 (by decide) ho
  have h8 : 1 = 8 → n % 256 ^ 1 = n := fun h => by first | (exact absurd h (by decide)) | (exact Nat.mod_eq_of_lt (by rw [show (256 : Nat) ^ 8 = 18446744073709551616 by decide +kernel]; exact hn))
  revert hN hG h8
  generalize n % 256 ^ 1 = x
  intro hN hG h8
  generalize putB n 1 1 = l at hP hG
  clear h8
  cases hb : ((x : Int) == (n : Int))
  all_goals have HNA := Lib.hid hN
  all_goals have HPU := Lib.hid hP
  all_goals have HGE := Lib.hid hG
  all_goals clear hN hP hG hn
  all_goals go_enter Try.func12, Try.ntmps12
  all_goals (go_wp2_with (first | (go_at_call 13; refine (awake_ok _).mono ?_; rintro e w1 ⟨v, rfl, hr⟩; obtain ⟨rfl, hb1⟩ := hr; replace H := H.grow hb1; clear hb1) | (go_at_call 37; refine (HNA.out _).mono ?_; rintro e w1 ⟨v, rfl, hr⟩; obtain ⟨rfl, hb1⟩ := hr; replace H := H.grow hb1; clear hb1) | (go_at_call 16; refine (rwidth_ok _ _).mono ?_; rintro e w1 ⟨v, rfl, hr⟩; obtain ⟨rfl, hb1⟩ := hr; replace H := H.grow hb1; clear hb1; rw [show wide 1 = true by decide]) | (go_at_call 15; refine (HPU.out _).mono ?_; rintro e w1 ⟨v, rfl, hr⟩; obtain ⟨⟨ap, cp, rfl⟩, ho, hb1⟩ := hr; replace H := H.new hb1 (slc_sound ho) (fun g hg => (ho.lt g hg).1); clear hb1 ho) | (go_at_call 27; refine (HGE.out _ _ _ _ (H.getSlc (by repeat (first | exact List.mem_cons_self | apply List.mem_cons_of_mem)))).mono ?_; rintro e w1 ⟨v, rfl, hr⟩; obtain ⟨rfl, hb1⟩ := hr; replace H := H.grow hb1; clear hb1)))
  all_goals go_ret
  all_goals exact ⟨_, rfl, rfl, H.below⟩
set_option maxRecDepth 100000 in
set_option maxHeartbeats 1000000 in
theorem law_back2 (n : Nat) (hn : n < 18446744073709551616) (w : World) :
    Calls Try.prog 12 #[.int .u64 (n : Int), .int .i64 2] w (Ret fun v w' => v = .bool true ∧ Below w.heap.size w w') := by
  have H := St.init w
  have hN : ∀ w, Calls Try.prog 37 #[.int .u64 (n : Int), .int .i64 2] w (Ret fun v w' => v = .tuple #[.int .u64 ((n % 256 ^ 2 : Nat) : Int), .bool (((n % 256 ^ 2 : Nat) : Int) == (n : Int))] ∧ Below w.heap.size w w') := fun w => narrow2_ok n hn w
  have hP : ∀ w, Calls Try.prog 15 #[.slice none 0 0, .int .u64 (n : Int), .int .i64 2] w (Ret fun v' w' => (∃ ap cp, v' = .slice ap 2 cp) ∧ w'.ownsRow w.heap.size 5 1 v' 2 (bv (putB n 2 2)) ∧ Below w.heap.size w w') := fun w => putnil_ok n hn 2 (by decide) w
  have hG : ∀ (ap : Option Addr) (cp B : Nat) (w : World), w.ownsRow B 5 1 (.slice ap 2 cp) 2 (bv (putB n 2 2)) → Calls Try.prog 27 #[.slice ap 2 cp, .int .i64 2] w (Ret fun v w' => v = .tuple #[.int .u64 ((n % 256 ^ 2 : Nat) : Int), .int .i64 0] ∧ Below w.heap.size w w') := fun ap cp B w ho => getown_ok n 2 (by decide) ho
  have h8 : 2 = 8 → n % 256 ^ 2 = n := fun h => by first | (exact absurd h (by decide)) | (exact Nat.mod_eq_of_lt (by rw [show (256 : Nat) ^ 8 = 18446744073709551616 by decide +kernel]; exact hn))
  revert hN hG h8
  generalize n % 256 ^ 2 = x
  intro hN hG h8
  generalize putB n 2 2 = l at hP hG
  clear h8
  cases hb : ((x : Int) == (n : Int))
  all_goals have HNA := Lib.hid hN
  all_goals have HPU := Lib.hid hP
  all_goals have HGE := Lib.hid hG
  all_goals clear hN hP hG hn
  all_goals go_enter Try.func12, Try.ntmps12
  all_goals (go_wp2_with (first | (go_at_call 13; refine (awake_ok _).mono ?_; rintro e w1 ⟨v, rfl, hr⟩; obtain ⟨rfl, hb1⟩ := hr; replace H := H.grow hb1; clear hb1) | (go_at_call 37; refine (HNA.out _).mono ?_; rintro e w1 ⟨v, rfl, hr⟩; obtain ⟨rfl, hb1⟩ := hr; replace H := H.grow hb1; clear hb1) | (go_at_call 16; refine (rwidth_ok _ _).mono ?_; rintro e w1 ⟨v, rfl, hr⟩; obtain ⟨rfl, hb1⟩ := hr; replace H := H.grow hb1; clear hb1; rw [show wide 2 = true by decide]) | (go_at_call 15; refine (HPU.out _).mono ?_; rintro e w1 ⟨v, rfl, hr⟩; obtain ⟨⟨ap, cp, rfl⟩, ho, hb1⟩ := hr; replace H := H.new hb1 (slc_sound ho) (fun g hg => (ho.lt g hg).1); clear hb1 ho) | (go_at_call 27; refine (HGE.out _ _ _ _ (H.getSlc (by repeat (first | exact List.mem_cons_self | apply List.mem_cons_of_mem)))).mono ?_; rintro e w1 ⟨v, rfl, hr⟩; obtain ⟨rfl, hb1⟩ := hr; replace H := H.grow hb1; clear hb1)))
  all_goals go_ret
  all_goals exact ⟨_, rfl, rfl, H.below⟩
set_option maxRecDepth 100000 in
set_option maxHeartbeats 1000000 in
theorem law_back4 (n : Nat) (hn : n < 18446744073709551616) (w : World) :
    Calls Try.prog 12 #[.int .u64 (n : Int), .int .i64 4] w (Ret fun v w' => v = .bool true ∧ Below w.heap.size w w') := by
  have H := St.init w
  have hN : ∀ w, Calls Try.prog 37 #[.int .u64 (n : Int), .int .i64 4] w (Ret fun v w' => v = .tuple #[.int .u64 ((n % 256 ^ 4 : Nat) : Int), .bool (((n % 256 ^ 4 : Nat) : Int) == (n : Int))] ∧ Below w.heap.size w w') := fun w => narrow4_ok n hn w
  have hP : ∀ w, Calls Try.prog 15 #[.slice none 0 0, .int .u64 (n : Int), .int .i64 4] w (Ret fun v' w' => (∃ ap cp, v' = .slice ap 4 cp) ∧ w'.ownsRow w.heap.size 5 1 v' 4 (bv (putB n 4 4)) ∧ Below w.heap.size w w') := fun w => putnil_ok n hn 4 (by decide) w
  have hG : ∀ (ap : Option Addr) (cp B : Nat) (w : World), w.ownsRow B 5 1 (.slice ap 4 cp) 4 (bv (putB n 4 4)) → Calls Try.prog 27 #[.slice ap 4 cp, .int .i64 4] w (Ret fun v w' => v = .tuple #[.int .u64 ((n % 256 ^ 4 : Nat) : Int), .int .i64 0] ∧ Below w.heap.size w w') := fun ap cp B w ho => getown_ok n 4 (by decide) ho
  have h8 : 4 = 8 → n % 256 ^ 4 = n := fun h => by first | (exact absurd h (by decide)) | (exact Nat.mod_eq_of_lt (by rw [show (256 : Nat) ^ 8 = 18446744073709551616 by decide +kernel]; exact hn))
  revert hN hG h8
  generalize n % 256 ^ 4 = x
  intro hN hG h8
  generalize putB n 4 4 = l at hP hG
  clear h8
  cases hb : ((x : Int) == (n : Int))
  all_goals have HNA := Lib.hid hN
  all_goals have HPU := Lib.hid hP
  all_goals have HGE := Lib.hid hG
  all_goals clear hN hP hG hn
  all_goals go_enter Try.func12, Try.ntmps12
  all_goals (go_wp2_with (first | (go_at_call 13; refine (awake_ok _).mono ?_; rintro e w1 ⟨v, rfl, hr⟩; obtain ⟨rfl, hb1⟩ := hr; replace H := H.grow hb1; clear hb1) | (go_at_call 37; refine (HNA.out _).mono ?_; rintro e w1 ⟨v, rfl, hr⟩; obtain ⟨rfl, hb1⟩ := hr; replace H := H.grow hb1; clear hb1) | (go_at_call 16; refine (rwidth_ok _ _).mono ?_; rintro e w1 ⟨v, rfl, hr⟩; obtain ⟨rfl, hb1⟩ := hr; replace H := H.grow hb1; clear hb1; rw [show wide 4 = true by decide]) | (go_at_call 15; refine (HPU.out _).mono ?_; rintro e w1 ⟨v, rfl, hr⟩; obtain ⟨⟨ap, cp, rfl⟩, ho, hb1⟩ := hr; replace H := H.new hb1 (slc_sound ho) (fun g hg => (ho.lt g hg).1); clear hb1 ho) | (go_at_call 27; refine (HGE.out _ _ _ _ (H.getSlc (by repeat (first | exact List.mem_cons_self | apply List.mem_cons_of_mem)))).mono ?_; rintro e w1 ⟨v, rfl, hr⟩; obtain ⟨rfl, hb1⟩ := hr; replace H := H.grow hb1; clear hb1)))
  all_goals go_ret
  all_goals exact ⟨_, rfl, rfl, H.below⟩
set_option maxRecDepth 100000 in
set_option maxHeartbeats 1000000 in
theorem law_back8 (n : Nat) (hn : n < 18446744073709551616) (w : World) :
    Calls Try.prog 12 #[.int .u64 (n : Int), .int .i64 8] w (Ret fun v w' => v = .bool true ∧ Below w.heap.size w w') := by
  have H := St.init w
  have hN : ∀ w, Calls Try.prog 37 #[.int .u64 (n : Int), .int .i64 8] w (Ret fun v w' => v = .tuple #[.int .u64 ((n % 256 ^ 8 : Nat) : Int), .bool (((n % 256 ^ 8 : Nat) : Int) == (n : Int))] ∧ Below w.heap.size w w') := fun w => narrow8_ok n hn w
  have hP : ∀ w, Calls Try.prog 15 #[.slice none 0 0, .int .u64 (n : Int), .int .i64 8] w (Ret fun v' w' => (∃ ap cp, v' = .slice ap 8 cp) ∧ w'.ownsRow w.heap.size 5 1 v' 8 (bv (putB n 8 8)) ∧ Below w.heap.size w w') := fun w => putnil_ok n hn 8 (by decide) w
  have hG : ∀ (ap : Option Addr) (cp B : Nat) (w : World), w.ownsRow B 5 1 (.slice ap 8 cp) 8 (bv (putB n 8 8)) → Calls Try.prog 27 #[.slice ap 8 cp, .int .i64 8] w (Ret fun v w' => v = .tuple #[.int .u64 ((n % 256 ^ 8 : Nat) : Int), .int .i64 0] ∧ Below w.heap.size w w') := fun ap cp B w ho => getown_ok n 8 (by decide) ho
  have h8 : 8 = 8 → n % 256 ^ 8 = n := fun h => by first | (exact absurd h (by decide)) | (exact Nat.mod_eq_of_lt (by rw [show (256 : Nat) ^ 8 = 18446744073709551616 by decide +kernel]; exact hn))
  revert hN hG h8
  generalize n % 256 ^ 8 = x
  intro hN hG h8
  generalize putB n 8 8 = l at hP hG
  obtain rfl := h8 rfl
  have hb : ((x : Int) == (x : Int)) = true := beq_self_eq_true _
  all_goals have HNA := Lib.hid hN
  all_goals have HPU := Lib.hid hP
  all_goals have HGE := Lib.hid hG
  all_goals clear hN hP hG hn
  all_goals go_enter Try.func12, Try.ntmps12
  all_goals (go_wp2_with (first | (go_at_call 13; refine (awake_ok _).mono ?_; rintro e w1 ⟨v, rfl, hr⟩; obtain ⟨rfl, hb1⟩ := hr; replace H := H.grow hb1; clear hb1) | (go_at_call 37; refine (HNA.out _).mono ?_; rintro e w1 ⟨v, rfl, hr⟩; obtain ⟨rfl, hb1⟩ := hr; replace H := H.grow hb1; clear hb1) | (go_at_call 16; refine (rwidth_ok _ _).mono ?_; rintro e w1 ⟨v, rfl, hr⟩; obtain ⟨rfl, hb1⟩ := hr; replace H := H.grow hb1; clear hb1; rw [show wide 8 = true by decide]) | (go_at_call 15; refine (HPU.out _).mono ?_; rintro e w1 ⟨v, rfl, hr⟩; obtain ⟨⟨ap, cp, rfl⟩, ho, hb1⟩ := hr; replace H := H.new hb1 (slc_sound ho) (fun g hg => (ho.lt g hg).1); clear hb1 ho) | (go_at_call 27; refine (HGE.out _ _ _ _ (H.getSlc (by repeat (first | exact List.mem_cons_self | apply List.mem_cons_of_mem)))).mono ?_; rintro e w1 ⟨v, rfl, hr⟩; obtain ⟨rfl, hb1⟩ := hr; replace H := H.grow hb1; clear hb1)))
  all_goals go_ret
  all_goals exact ⟨_, rfl, rfl, H.below⟩
theorem law_backno (n : Nat) (hn : n < 18446744073709551616) (width : Int) (hw : wide width = false) (w : World) :
    Calls Try.prog 12 #[.int .u64 (n : Int), .int .i64 width] w (Ret fun v w' => v = .bool true ∧ Below w.heap.size w w') := by
  have H := St.init w
  have HN := Lib.hid hn
  have HW := Lib.hid hw
  clear hn hw
  go_enter Try.func12, Try.ntmps12
  go_wp2_with (first | (go_at_call 13; refine (awake_ok _).mono ?_; rintro e w1 ⟨v, rfl, hr⟩; obtain ⟨rfl, hb1⟩ := hr; replace H := H.grow hb1; clear hb1) | (go_at_call 37; refine (narrow_no n HN.out _ HW.out _).mono ?_; rintro e w1 ⟨v, rfl, hr⟩; obtain ⟨rfl, hb1⟩ := hr; replace H := H.grow hb1; clear hb1) | (go_at_call 16; refine (rwidth_ok _ _).mono ?_; rintro e w1 ⟨v, rfl, hr⟩; obtain ⟨rfl, hb1⟩ := hr; replace H := H.grow hb1; clear hb1; rw [HW.out]))
  go_ret
  exact ⟨_, rfl, rfl, H.below⟩
theorem law_back (n : Nat) (hn : n < 18446744073709551616) (width : Int) (w : World) :
    Calls Try.prog 12 #[.int .u64 (n : Int), .int .i64 width] w (Ret fun v w' => v = .bool true ∧ Below w.heap.size w w') := by
  cases hw : wide width
  · exact law_backno n hn width hw w
  · have : width = 1 ∨ width = 2 ∨ width = 4 ∨ width = 8 := by simp [wide] at hw; omega
    rcases this with rfl | rfl | rfl | rfl
    · exact law_back1 n hn w
    · exact law_back2 n hn w
    · exact law_back4 n hn w
    · exact law_back8 n hn w
set_option maxRecDepth 100000 in
theorem bitsBack_lifted (os : Os) (started : os.Started) (H : Type) (enc : TypeId × Value → H) :
    ReturnsInHanded {} Try.checked os 12 .any (Rows.bitsBackSpec.pre6 enc Try.prog Try.f12 Rows.bitsBackRow.domain false) (Rows.bitsBackSpec.post enc Try.prog Try.f12 false true false false) := by
  refine law_lifted (C := Try.checked) own started (by kernel_rfl) Try.func12 laidOut rfl Try.underlying4 rfl (by kernel_rfl) (fun ds hd => ?_)
    (ChangeSpec.witness6 (enc := enc) (C := Try.checked) false ⟨#[], #[.int .u64 0, .int .i64 0], []⟩ 8 (by kernel_rfl) (by kernel_rfl) (by kernel_rfl) (by kernel_rfl)) ?_
  · match ds, hd with
    | [d0, d1], _ => exact ⟨rfl, rfl, rfl⟩
  intro W base args ds p hval hA
  rw [Try.params12] at hA hval
  obtain ⟨v0, vs0, d0, ds0, p0, q0, hargs, rfl, rfl, h0, r0⟩ := trodAll_cons hA
  obtain ⟨v1, vs1, d1, ds1, p1, q1, rfl, rfl, rfl, h1, r1⟩ := trodAll_cons r0
  obtain ⟨rfl, rfl, rfl⟩ := trodAll_nil r1
  obtain rfl : args = #[v0, v1] := by cases args; simp_all
  obtain ⟨n, rfl, _, _, nw⟩ := open_int Try.underlying23 (hval 0 23 v0 rfl rfl) h0
  obtain ⟨wd, rfl, _, _, wdw⟩ := open_int Try.underlying3 (hval 1 3 v1 rfl rfl) h1
  exact by obtain ⟨k, rfl, hk⟩ := nat_u64 nw; exact law_back k hk wd W
theorem bitsBack_over : Rows.bitsBackRow.holds Try.pinned (OpenSpec.ofChange Rows.bitsBackSpec) :=
  OpenClaim.holds_of_wide 12 Try.f12 rfl rfl rfl rfl rfl rfl rfl ⟨rfl, rfl, rfl, rfl, rfl⟩ rfl rfl rfl rfl rfl (by kernel_rfl) Try.func12 (by kernel_rfl)
    (of_decide_eq_true (by kernel_rfl)) (by unfold Func.isWrapper; first | (rw [if_pos (by decide +kernel)]; kernel_rfl) | (rw [if_neg (by decide +kernel)]; exact ⟨rfl, rfl⟩))
    (fun os started H enc _ => bitsBack_lifted os started H enc)
theorem bitsBack_holds : Rows.BitsBackSaid := bitsBack_over
#print axioms bitsBack_holds
end Go.Proofs.Ytmeampigomhdpaa
