/- The contract of layer 1's Unhex as the document says it; the bounds stand in it. -/
import Derived.Test.YtmeampigomhdpaaHex3
namespace Go.Proofs.Ytmeampigomhdpaa
open Go.ChangeShapes Go.WideShapes Go.ChangeAt Go.RowKit
set_option linter.unusedVariables false
set_option linter.unusedSimpArgs false
theorem digit_ok (c : Nat) (hc : c < 256) (w : World) : Calls Try.prog 41 #[.int .u8 (c : Int)] w (Ret fun v w' => v = (match val c with | some x => .tuple #[.int .u8 (x : Int), .bool true] | none => .tuple #[.int .u8 0, .bool false]) ∧ Below w.heap.size w w') := by
  have H := St.init w
  unfold val
  by_cases h1 : 48 ≤ c ∧ c ≤ 57
  · obtain ⟨ha, hb⟩ := h1
    have hai : (48 : Int) ≤ (c : Int) := by omega
    have hbi : (c : Int) ≤ 57 := by omega
    rw [if_pos ⟨ha, hb⟩]
    go_enter Try.func41, Try.ntmps41
    go_wp2
    go_ret2
    exact ⟨_, rfl, by first | rfl | (simp; omega), H.below⟩
  · rw [if_neg h1]
    by_cases h2 : 97 ≤ c ∧ c ≤ 102
    · obtain ⟨ha, hb⟩ := h2
      have hai : (97 : Int) ≤ (c : Int) := by omega
      have hbi : (c : Int) ≤ 102 := by omega
      have hn : ¬ (c : Int) ≤ 57 := by omega
      have h48 : (48 : Int) ≤ (c : Int) := by omega
      rw [if_pos ⟨ha, hb⟩]
      go_enter Try.func41, Try.ntmps41
      go_wp2
      go_ret2
      exact ⟨_, rfl, by first | rfl | (simp; omega), H.below⟩
    · rw [if_neg h2]
      rcases Nat.lt_or_ge c 48 with h | h
      · have a1 : ¬ (48 : Int) ≤ (c : Int) := by omega
        have a2 : ¬ (97 : Int) ≤ (c : Int) := by omega
        go_enter Try.func41, Try.ntmps41
        go_wp2
        go_ret2
        exact ⟨_, rfl, rfl, H.below⟩
      · have a1 : (48 : Int) ≤ (c : Int) := by omega
        have a3 : ¬ (c : Int) ≤ 57 := by omega
        rcases Nat.lt_or_ge c 97 with h3 | h3
        · have a2 : ¬ (97 : Int) ≤ (c : Int) := by omega
          go_enter Try.func41, Try.ntmps41
          go_wp2
          go_ret2
          exact ⟨_, rfl, rfl, H.below⟩
        · have a2 : (97 : Int) ≤ (c : Int) := by omega
          have a4 : ¬ (c : Int) ≤ 102 := by omega
          go_enter Try.func41, Try.ntmps41
          go_wp2
          go_ret2
          exact ⟨_, rfl, rfl, H.below⟩
theorem digit_some (c x : Nat) (hc : c < 256) (h : val c = some x) (w : World) : Calls Try.prog 41 #[.int .u8 (c : Int)] w (Ret fun v w' => v = .tuple #[.int .u8 (x : Int), .bool true] ∧ Below w.heap.size w w') := by
  have := digit_ok c hc w
  rw [h] at this
  exact this
theorem digit_none (c : Nat) (hc : c < 256) (h : val c = none) (w : World) : Calls Try.prog 41 #[.int .u8 (c : Int)] w (Ret fun v w' => v = .tuple #[.int .u8 0, .bool false] ∧ Below w.heap.size w w') := by
  have := digit_ok c hc w
  rw [h] at this
  exact this
attribute [local irreducible] strOf dig iv val
theorem str_ix (s : List Nat) (i x : Nat) (hi : s[i]? = some x) (hx : x < 256) (k : IntKind) (z : Int) (hz : z = (i : Int)) (w : World) : (Instr.index 9 (.string (strOf s)) (.int k z)).run Try.prog w = .ok (.int .u8 (x : Int)) w := str_index s k z i x hz hi hx w
set_option maxRecDepth 100000 in
set_option maxHeartbeats 1000000 in
theorem runhex_ok (s : List Nat) (hl : s.length ≤ 2000) (hx : ∀ x ∈ s, x < 256) (w : World) :
    Calls Try.prog 35 #[.string (strOf s)] w (Ret fun v w' => ∃ ap cp, v = .tuple #[.slice ap (unR s).length cp, .int .i64 (unE s)] ∧ w'.ownsRow w.heap.size 5 1 (.slice ap (unR s).length cp) (unR s).length (bv (unR s)) ∧ Below w.heap.size w w') := by
  have H := St.init w
  have hsz := str_size s
  have HXB := Lib.hid hx
  clear hx
  go_enter Try.func35, Try.ntmps35
  go_wp2_with fail
  replace H := H.nil 5 1
  go_loopw [4, 5] (fun out i wr => ∃ (k : Nat) (a : Option Addr) (c : Nat) (m : List Nat), 2 * k ≤ s.length ∧ i = .int .i64 ((2 * k : Nat) : Int) ∧ Hid (unV s k = m) ∧ m.length = k ∧ out = .slice a k c ∧ Hid (∀ j, j < k → (dv s (2 * j)).isSome ∧ (dv s (2 * j + 1)).isSome) ∧ St w.heap.size w wr [slc 5 1 (.slice a k c) k (bv m)]) (fun _ i _ => s.length - (intOf i).toNat)
  case atStart => exact ⟨0, none, 0, [], by omega, rfl, Lib.hid rfl, rfl, rfl, Lib.hid (fun j h => absurd h (Nat.not_lt_zero _)), H⟩
  case round =>
    clear H
    obtain ⟨k, ao, co, m, hk, rfl, HM, hmn, rfl, HA, H⟩ := hrel
    by_cases hlt : 2 * k + 1 < s.length
    · have h1 := str_at (s := s) (i := 2 * k) (by omega)
      have h2 := str_at (s := s) (i := 2 * k + 1) (by omega)
      obtain ⟨x, hx⟩ : ∃ x, s.getD (2 * k) 0 = x := ⟨_, rfl⟩
      obtain ⟨y, hy⟩ : ∃ y, s.getD (2 * k + 1) 0 = y := ⟨_, rfl⟩
      have x256 : x < 256 := by rw [← hx]; exact str_lt HXB.out _
      have y256 : y < 256 := by rw [← hy]; exact str_lt HXB.out _
      have dx : dv s (2 * k) = val x := by unfold dv; rw [hx]
      have dy : dv s (2 * k + 1) = val y := by unfold dv; rw [hy]
      rw [hx] at h1
      rw [hy] at h2
      have ix := str_ix s (2 * k) x h1 x256 .i64 (2 * (k : Int)) (by omega)
      have iy := str_ix s (2 * k + 1) y h2 y256 .i64 (2 * (k : Int) + 1) (by omega)
      have kli : (2 : Int) * (k : Int) + 1 < (s.length : Int) := by omega
      clear h1 h2 hx hy
      cases hvx : val x with
      | none =>
        have hb := un_bad s k hlt (.inl (dx.trans hvx))
        have HE := Lib.hid hb
        have HRX := Lib.hid hvx
        cases hvy : val y with
        | none =>
          have HRY := Lib.hid hvy
          clear hb hvx hvy dx dy
          go_wp2_with (first | (go_at_call 41; (with_reducible refine (digit_none x x256 HRX.out _).mono ?_); rintro e w1 ⟨v, rfl, hr⟩; obtain ⟨rfl, hb1⟩ := hr; replace H := H.grow hb1; clear hb1) | (go_at_call 41; (with_reducible refine (digit_none y y256 HRY.out _).mono ?_); rintro e w1 ⟨v, rfl, hr⟩; obtain ⟨rfl, hb1⟩ := hr; replace H := H.grow hb1; clear hb1))
          go_ret2
          rw [HE.out.1, HE.out.2]
          exact ⟨_, rfl, none, 0, rfl, World.ownsRow_nil _ _ _ _, H.below⟩
        | some b =>
          have HRY := Lib.hid hvy
          clear hb hvx hvy dx dy
          go_wp2_with (first | (go_at_call 41; (with_reducible refine (digit_none x x256 HRX.out _).mono ?_); rintro e w1 ⟨v, rfl, hr⟩; obtain ⟨rfl, hb1⟩ := hr; replace H := H.grow hb1; clear hb1) | (go_at_call 41; (with_reducible refine (digit_some y b y256 HRY.out _).mono ?_); rintro e w1 ⟨v, rfl, hr⟩; obtain ⟨rfl, hb1⟩ := hr; replace H := H.grow hb1; clear hb1))
          go_ret2
          rw [HE.out.1, HE.out.2]
          exact ⟨_, rfl, none, 0, rfl, World.ownsRow_nil _ _ _ _, H.below⟩
      | some a =>
        have a16 := val_lt hvx
        have HRX := Lib.hid hvx
        have dx' := dx.trans hvx
        cases hvy : val y with
        | none =>
          have HE := Lib.hid (un_bad s k hlt (.inr (dy.trans hvy)))
          have HRY := Lib.hid hvy
          clear hvx hvy dx dy dx'
          go_wp2_with (first | (go_at_call 41; (with_reducible refine (digit_some x a x256 HRX.out _).mono ?_); rintro e w1 ⟨v, rfl, hr⟩; obtain ⟨rfl, hb1⟩ := hr; replace H := H.grow hb1; clear hb1) | (go_at_call 41; (with_reducible refine (digit_none y y256 HRY.out _).mono ?_); rintro e w1 ⟨v, rfl, hr⟩; obtain ⟨rfl, hb1⟩ := hr; replace H := H.grow hb1; clear hb1))
          go_ret2
          rw [HE.out.1, HE.out.2]
          exact ⟨_, rfl, none, 0, rfl, World.ownsRow_nil _ _ _ _, H.below⟩
        | some b =>
          have b16 := val_lt hvy
          have HRY := Lib.hid hvy
          have dy' := dy.trans hvy
          have hsn := unV_succ s k a b dx' dy'
          rw [HM.out] at hsn
          have HSN := Lib.hid hsn
          have HD := Lib.hid (And.intro dx' dy')
          clear hvx hvy dx dy dx' dy' hsn
          go_wp2_with (first | (with_reducible refine wpl rfl (Stp.bsl1 43 rfl rfl Try.underlying22 size5 zero5 rfl rfl H ?_); clear H; intro g43 w1 H; simp only [Act.put, List.setIfInBounds_toArray, List.set_cons_zero, List.set_cons_succ]) | (with_reducible refine wpl rfl (Stp.app 44 rfl rfl Try.underlying22 info5 rfl (by decide) rfl rfl H (fun _ => (by repeat (first | exact Upd.head | apply Upd.tail))) rfl (new1 (H.getRow (by repeat (first | exact List.mem_cons_self | apply List.mem_cons_of_mem)))) (by simp [Value.oneCell']) (by unfold maxLen; omega) (by omega) ?_); clear H; intro a44 c44 w1 H; simp only [Act.put, List.setIfInBounds_toArray, List.set_cons_zero, List.set_cons_succ]) | (go_at_call 41; (with_reducible refine (digit_some x a x256 HRX.out _).mono ?_); rintro e w1 ⟨v, rfl, hr⟩; obtain ⟨rfl, hb1⟩ := hr; replace H := H.grow hb1; clear hb1) | (go_at_call 41; (with_reducible refine (digit_some y b y256 HRY.out _).mono ?_); rintro e w1 ⟨v, rfl, hr⟩; obtain ⟨rfl, hb1⟩ := hr; replace H := H.grow hb1; clear hb1))
          go_roundw
          case rel =>
            exact ⟨k + 1, _, _, m ++ [a * 16 + b], by omega, by go_num, HSN, by simp [hmn], rfl, Lib.hid (fun j hj => by
              rcases Nat.lt_or_ge j k with h | h
              · exact HA.out j h
              · obtain rfl : j = k := by omega
                rw [HD.out.1, HD.out.2]; exact ⟨rfl, rfl⟩), by rw [← bv_app]; exact H.sub (by repeat (first | exact List.Sublist.refl _ | exact List.nil_sublist _ | (with_reducible apply List.Sublist.cons_cons) | apply List.Sublist.cons))⟩
          case measure => simp [intOf]; omega
    · have kge : ¬ (2 : Int) * (k : Int) + 1 < (s.length : Int) := by omega
      have hk2 : s.length / 2 = k := by omega
      by_cases hodd : s.length % 2 = 1
      · have hoi : ((s.length : Int) % 2 == 1) = true := by simp; omega
        have hot : ((s.length : Int).tmod 2 == 1) = true := by rw [Int.tmod_eq_emod_of_nonneg (by omega)]; exact hoi
        have HE := Lib.hid (un_odd s hodd)
        clear hodd hk2
        go_wp2_with fail
        go_ret2
        rw [HE.out.1, HE.out.2]
        exact ⟨_, rfl, none, 0, rfl, World.ownsRow_nil _ _ _ _, H.below⟩
      · have hoi : ((s.length : Int) % 2 == 1) = false := by simp; omega
        have hot : ((s.length : Int).tmod 2 == 1) = false := by rw [Int.tmod_eq_emod_of_nonneg (by omega)]; exact hoi
        obtain ⟨e1, e2⟩ := un_good s (by omega) (by rw [hk2]; exact HA.out)
        rw [hk2, HM.out] at e1
        have HE := Lib.hid (And.intro e1 e2)
        clear e1 e2 hodd hk2
        go_wp2_with fail
        go_ret2
        subst hmn
        rw [HE.out.1, HE.out.2]
        exact ⟨_, rfl, _, _, rfl, H.getSlc (by repeat (first | exact List.mem_cons_self | apply List.mem_cons_of_mem)), H.below⟩
end Go.Proofs.Ytmeampigomhdpaa
