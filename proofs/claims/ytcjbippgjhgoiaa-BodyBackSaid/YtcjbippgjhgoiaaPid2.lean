/- Contracts of layer 3's Get and its reference; the bounds stand in each. -/
import Derived.Test.YtcjbippgjhgoiaaPid1
namespace Go.Proofs.Ytcjbippgjhgoiaa
open Go.ChangeShapes Go.WideShapes Go.ChangeAt Go.RowKit
set_option linter.unusedVariables false
set_option linter.unusedSimpArgs false
theorem gs_le (l : List Nat) : ∀ (f i n a b c : Nat), gs l f i n = (a, b, c) → (c ≠ 0 → a = 0 ∧ b = 0) ∧ (c = 0 → i < b ∧ b ≤ l.length)
  | 0, i, n, a, b, c, h => by
    simp only [gs, Prod.mk.injEq] at h
    obtain ⟨rfl, rfl, rfl⟩ := h
    exact ⟨fun _ => ⟨rfl, rfl⟩, fun h => absurd h (by omega)⟩
  | f + 1, i, n, a, b, c, h => by
    by_cases h1 : l.length ≤ i
    · rw [gs, if_pos h1] at h
      simp only [Prod.mk.injEq] at h
      obtain ⟨rfl, rfl, rfl⟩ := h
      exact ⟨fun _ => ⟨rfl, rfl⟩, fun h => absurd h (by omega)⟩
    · rw [gs, if_neg h1] at h
      by_cases h2 : i = 9 ∧ 1 < l.getD i 0
      · rw [if_pos h2] at h
        simp only [Prod.mk.injEq] at h
        obtain ⟨rfl, rfl, rfl⟩ := h
        exact ⟨fun _ => ⟨rfl, rfl⟩, fun h => absurd h (by omega)⟩
      · rw [if_neg h2] at h
        by_cases h3 : l.getD i 0 < 128
        · rw [if_pos h3] at h
          by_cases h4 : l.getD i 0 = 0 ∧ 0 < i
          · rw [if_pos h4] at h
            simp only [Prod.mk.injEq] at h
            obtain ⟨rfl, rfl, rfl⟩ := h
            exact ⟨fun _ => ⟨rfl, rfl⟩, fun h => absurd h (by omega)⟩
          · rw [if_neg h4] at h
            simp only [Prod.mk.injEq] at h
            obtain ⟨_, rfl, rfl⟩ := h
            exact ⟨fun h => absurd rfl h, fun _ => ⟨by omega, by omega⟩⟩
        · rw [if_neg h3] at h
          have := gs_le l f (i + 1) _ a b c h
          exact ⟨this.1, fun h => ⟨by have := (this.2 h).1; omega, (this.2 h).2⟩⟩
theorem gs_lt (l : List Nat) (hx : ∀ x ∈ l, x < 256) : ∀ (f i n a b c : Nat), i + f = 10 → n < 2 ^ (7 * i) → gs l f i n = (a, b, c) → a < 18446744073709551616
  | 0, i, n, a, b, c, _, _, h => by
    simp only [gs, Prod.mk.injEq] at h
    omega
  | f + 1, i, n, a, b, c, hi, hn, h => by
    by_cases h1 : l.length ≤ i
    · rw [gs, if_pos h1] at h
      simp only [Prod.mk.injEq] at h
      omega
    · rw [gs, if_neg h1] at h
      by_cases h2 : i = 9 ∧ 1 < l.getD i 0
      · rw [if_pos h2] at h
        simp only [Prod.mk.injEq] at h
        omega
      · rw [if_neg h2] at h
        have hy := Nat.mod_lt (l.getD i 0) (show 0 < 128 by omega)
        have hm : i = 9 → l.getD i 0 % 128 ≤ 1 := fun e => by
          have : ¬ 1 < l.getD i 0 := fun h => h2 ⟨e, h⟩
          exact Nat.le_trans (Nat.mod_le _ _) (by omega)
        have hs := sh_small n (l.getD i 0 % 128) i (by omega) hn hy hm
        by_cases h3 : l.getD i 0 < 128
        · rw [if_pos h3] at h
          by_cases h4 : l.getD i 0 = 0 ∧ 0 < i
          · rw [if_pos h4] at h
            simp only [Prod.mk.injEq] at h
            omega
          · rw [if_neg h4] at h
            simp only [Prod.mk.injEq] at h
            obtain ⟨rfl, _, _⟩ := h
            exact hs.2
        · rw [if_neg h3] at h
          exact gs_lt l hx f (i + 1) _ a b c (by omega) hs.1 h
/-- The process that some bytes begin with, how many bytes it takes, and what is wrong. -/
def getP (l : List Nat) : Nat × Nat × Nat × Nat :=
  if (gs l 10 0 0).2.2 ≠ 0 then (0, 0, 0, (gs l 10 0 0).2.2)
  else if (gs (l.drop (gs l 10 0 0).2.1) 10 0 0).2.2 ≠ 0 then (0, 0, 0, (gs (l.drop (gs l 10 0 0).2.1) 10 0 0).2.2)
  else if 65535 < (gs l 10 0 0).1 ∨ 4294967295 < (gs (l.drop (gs l 10 0 0).2.1) 10 0 0).1 then (0, 0, 0, 5)
  else ((gs l 10 0 0).1, (gs (l.drop (gs l 10 0 0).2.1) 10 0 0).1, (gs l 10 0 0).2.1 + (gs (l.drop (gs l 10 0 0).2.1) 10 0 0).2.1, 0)
theorem sl_from {w : World} {a A : Option Addr} {n c : Nat} {l : List Nat} (k : Nat) (h : Sl w 1 l.length (.slice a n c) (elB l)) (hl : l.length = n) (hk : k ≤ n) (hc : n ≤ c) (hA : A = (if c = k then a else a.map (·.add k))) : Sl w 1 (l.drop k).length (.slice A (n - k) (c - k)) (elB (l.drop k)) := by
  subst hl
  have hm : (l.drop k).length = l.length - k := List.length_drop
  rcases Nat.lt_or_ge k l.length with hlt | hge
  · obtain ⟨b, off, rfl, hb, _⟩ := h.byte hlt
    rw [if_neg (by omega)] at hA
    subst hA
    have := sl_drop k (c - k) h hk
    have e : (Option.map (·.add k) (some (⟨b, off, none⟩ : Addr))) = some ⟨b, off + k, none⟩ := by
      simp [Addr.add]
    rw [e]
    exact this
  · rw [hm, show l.length - k = 0 by omega]
    exact ⟨_, _, rfl, by simp [maxLen], fun h => absurd h (Nat.lt_irrefl _)⟩
theorem lens {l : List Nat} (hx : ∀ x ∈ l, x < 256) (k : Nat) : ∀ x ∈ l.drop k, x < 256 := fun x h => hx x (List.mem_of_mem_drop h)
set_option maxRecDepth 100000 in
set_option maxHeartbeats 1000000 in
theorem pget_ok (A : Option Addr) (n0 cap : Nat) (l : List Nat) (hn0 : l.length = n0) (hcap : n0 ≤ cap) (hl : l.length ≤ 1000000) (hx : ∀ x ∈ l, x < 256) (w : World) (hs : Sl w 1 l.length (.slice A n0 cap) (elB l)) (r1 r2 r3 r4 : Nat) (hr : getP l = (r1, r2, r3, r4)) :
    Calls Try.prog 61 #[.slice A n0 cap] w (Ret fun v w' => v = .tuple #[.agg #[.int .u16 (r1 : Int), .int .u32 (r2 : Int)], .int .i64 (r3 : Int), .int .i64 (r4 : Int)] ∧ Below w.heap.size w w') := by
  have H := St.init w
  obtain ⟨a, n, e, hg⟩ : ∃ a n e, gs l 10 0 0 = (a, n, e) := ⟨_, _, _, rfl⟩
  obtain ⟨c, m, f, hg2⟩ : ∃ c m f, gs (l.drop n) 10 0 0 = (c, m, f) := ⟨_, _, _, rfl⟩
  have l1 := gs_le l 10 0 0 a n e hg
  have l2 := gs_le (l.drop n) 10 0 0 c m f hg2
  have b1 := gs_lt l hx 10 0 0 a n e rfl (by decide) hg
  have b2 := gs_lt (l.drop n) (lens hx n) 10 0 0 c m f rfl (by decide) hg2
  unfold getP at hr
  simp only [hg] at hr
  simp only [hg2] at hr
  have G1 := Lib.hid hg
  have G2 := Lib.hid hg2
  have HX := Lib.hid hx
  have HX2 := Lib.hid (lens hx n)
  clear hg hg2 hx
  by_cases he : e = 0
  · obtain ⟨_, hnl⟩ := l1.2 he
    subst he
    clear l1
    rw [if_neg (by simp)] at hr
    have hd2 : (l.drop n).length ≤ 1000000 := by rw [List.length_drop]; omega
    have hd3 : (l.drop n).length = n0 - n := by rw [List.length_drop]; omega
    by_cases hf : f = 0
    · obtain ⟨_, hml⟩ := l2.2 hf
      subst hf
      clear l2
      rw [if_neg (by simp)] at hr
      by_cases ha : 65535 < a
      · rw [if_pos (.inl ha)] at hr
        cases hr
        go_enter Try.func61, Try.ntmps61
        go_wp2_with (first | (go_at_call 62; (with_reducible refine (getshort_ok _ l hl HX.out _ (hs.grow H.below) a n 0 G1.out).mono ?_); rintro e w1 ⟨v, rfl, hr⟩; obtain ⟨rfl, hb1⟩ := hr; replace H := H.grow hb1; clear hb1) | (with_reducible refine wpl rfl (Stp.slfrom (k := n) 22 rfl rfl Try.underlying26 size5 rfl rfl (by omega) (by omega) ?_); intro A22 hA22; have sx := sl_from n (hs.grow H.below) (by omega) (by omega) (by omega) hA22; clear hA22; simp only [Act.put, List.setIfInBounds_toArray, List.set_cons_zero, List.set_cons_succ]) | (go_at_call 62; (with_reducible refine (getshort_ok _ (l.drop n) hd2 HX2.out _ sx c m 0 G2.out).mono ?_); rintro e w1 ⟨v, rfl, hr⟩; obtain ⟨rfl, hb1⟩ := hr; replace H := H.grow hb1; clear hb1) | (with_reducible refine wpl rfl (Stp.alloc 2 rfl rfl zero34 H ?_); clear H; intro g2 w1 H; simp only [Act.put, List.setIfInBounds_toArray, List.set_cons_zero, List.set_cons_succ]; simp only [cells_agg, cells_int, cells_bool, cells_string, cells_pointer, cells_slice, cells_map] at H) | (with_reducible refine wpl rfl (Stp.str rfl size34 rfl rfl (by first | rfl | (simp [Value.oneCell']; done) | assumption) H (by repeat (first | exact Upd.head | apply Upd.tail)) (by first | rfl | (simp; done) | assumption) (by first | rfl | (simp; done) | assumption) ?_); clear H; intro w1 H; simp only [Act.put, List.setIfInBounds_toArray, List.set_cons_zero, List.set_cons_succ]) | (with_reducible refine wpl rfl (Stp.stl rfl size34 rfl rfl rfl rfl H (by repeat (first | exact Upd.head | apply Upd.tail)) (by simp) ?_); clear H; intro w1 H; simp only [Act.put, List.setIfInBounds_toArray, List.set_cons_zero, List.set_cons_succ]; simp only [List.drop_succ_cons, List.drop_zero, List.take_succ_cons, List.take_zero, List.nil_append, List.cons_append, Nat.reduceAdd] at H))
        refine post_row3 rfl agg34 size34 rfl H (by repeat (first | exact List.mem_cons_self | apply List.mem_cons_of_mem)) rfl rfl ⟨_, rfl, rfl, H.below⟩
      · by_cases hc : 4294967295 < c
        · rw [if_pos (.inr hc)] at hr
          cases hr
          go_enter Try.func61, Try.ntmps61
          go_wp2_with (first | (go_at_call 62; (with_reducible refine (getshort_ok _ l hl HX.out _ (hs.grow H.below) a n 0 G1.out).mono ?_); rintro e w1 ⟨v, rfl, hr⟩; obtain ⟨rfl, hb1⟩ := hr; replace H := H.grow hb1; clear hb1) | (with_reducible refine wpl rfl (Stp.slfrom (k := n) 22 rfl rfl Try.underlying26 size5 rfl rfl (by omega) (by omega) ?_); intro A22 hA22; have sx := sl_from n (hs.grow H.below) (by omega) (by omega) (by omega) hA22; clear hA22; simp only [Act.put, List.setIfInBounds_toArray, List.set_cons_zero, List.set_cons_succ]) | (go_at_call 62; (with_reducible refine (getshort_ok _ (l.drop n) hd2 HX2.out _ sx c m 0 G2.out).mono ?_); rintro e w1 ⟨v, rfl, hr⟩; obtain ⟨rfl, hb1⟩ := hr; replace H := H.grow hb1; clear hb1) | (with_reducible refine wpl rfl (Stp.alloc 2 rfl rfl zero34 H ?_); clear H; intro g2 w1 H; simp only [Act.put, List.setIfInBounds_toArray, List.set_cons_zero, List.set_cons_succ]; simp only [cells_agg, cells_int, cells_bool, cells_string, cells_pointer, cells_slice, cells_map] at H) | (with_reducible refine wpl rfl (Stp.str rfl size34 rfl rfl (by first | rfl | (simp [Value.oneCell']; done) | assumption) H (by repeat (first | exact Upd.head | apply Upd.tail)) (by first | rfl | (simp; done) | assumption) (by first | rfl | (simp; done) | assumption) ?_); clear H; intro w1 H; simp only [Act.put, List.setIfInBounds_toArray, List.set_cons_zero, List.set_cons_succ]) | (with_reducible refine wpl rfl (Stp.stl rfl size34 rfl rfl rfl rfl H (by repeat (first | exact Upd.head | apply Upd.tail)) (by simp) ?_); clear H; intro w1 H; simp only [Act.put, List.setIfInBounds_toArray, List.set_cons_zero, List.set_cons_succ]; simp only [List.drop_succ_cons, List.drop_zero, List.take_succ_cons, List.take_zero, List.nil_append, List.cons_append, Nat.reduceAdd] at H))
          refine post_row3 rfl agg34 size34 rfl H (by repeat (first | exact List.mem_cons_self | apply List.mem_cons_of_mem)) rfl rfl ⟨_, rfl, rfl, H.below⟩
        · rw [if_neg (by omega)] at hr
          cases hr
          have ea : IntKind.u16.wrap (r1 : Int) = (r1 : Int) := by rw [IntKind.wrap_u16]; omega
          have ec : IntKind.u32.wrap (r2 : Int) = (r2 : Int) := by rw [IntKind.wrap_u32]; omega
          go_enter Try.func61, Try.ntmps61
          go_wp2_with (first | (go_at_call 62; (with_reducible refine (getshort_ok _ l hl HX.out _ (hs.grow H.below) r1 n 0 G1.out).mono ?_); rintro e w1 ⟨v, rfl, hr⟩; obtain ⟨rfl, hb1⟩ := hr; replace H := H.grow hb1; clear hb1) | (with_reducible refine wpl rfl (Stp.slfrom (k := n) 22 rfl rfl Try.underlying26 size5 rfl rfl (by omega) (by omega) ?_); intro A22 hA22; have sx := sl_from n (hs.grow H.below) (by omega) (by omega) (by omega) hA22; clear hA22; simp only [Act.put, List.setIfInBounds_toArray, List.set_cons_zero, List.set_cons_succ]) | (go_at_call 62; (with_reducible refine (getshort_ok _ (l.drop n) hd2 HX2.out _ sx r2 m 0 G2.out).mono ?_); rintro e w1 ⟨v, rfl, hr⟩; obtain ⟨rfl, hb1⟩ := hr; replace H := H.grow hb1; clear hb1) | (with_reducible refine wpl rfl (Stp.alloc 2 rfl rfl zero34 H ?_); clear H; intro g2 w1 H; simp only [Act.put, List.setIfInBounds_toArray, List.set_cons_zero, List.set_cons_succ]; simp only [cells_agg, cells_int, cells_bool, cells_string, cells_pointer, cells_slice, cells_map] at H) | (with_reducible refine wpl rfl (Stp.str rfl size34 rfl rfl (by first | rfl | (simp [Value.oneCell']; done) | assumption) H (by repeat (first | exact Upd.head | apply Upd.tail)) (by first | rfl | (simp; done) | assumption) (by first | rfl | (simp; done) | assumption) ?_); clear H; intro w1 H; simp only [Act.put, List.setIfInBounds_toArray, List.set_cons_zero, List.set_cons_succ]) | (with_reducible refine wpl rfl (Stp.stl rfl size34 rfl rfl rfl rfl H (by repeat (first | exact Upd.head | apply Upd.tail)) (by simp) ?_); clear H; intro w1 H; simp only [Act.put, List.setIfInBounds_toArray, List.set_cons_zero, List.set_cons_succ]; simp only [List.drop_succ_cons, List.drop_zero, List.take_succ_cons, List.take_zero, List.nil_append, List.cons_append, Nat.reduceAdd] at H))
          refine post_row3 rfl agg34 size34 rfl H (by repeat (first | exact List.mem_cons_self | apply List.mem_cons_of_mem)) rfl rfl ⟨_, rfl, ?_, H.below⟩
          simp only [ea, ec, Int.natCast_add, getD_lit0, getD_lits]
          rfl
    · obtain ⟨rfl, rfl⟩ := l2.1 hf
      rw [if_pos hf] at hr
      cases hr
      have hfi : ¬ (r4 : Int) = 0 := by omega
      go_enter Try.func61, Try.ntmps61
      go_wp2_with (first | (go_at_call 62; (with_reducible refine (getshort_ok _ l hl HX.out _ (hs.grow H.below) a n 0 G1.out).mono ?_); rintro e w1 ⟨v, rfl, hr⟩; obtain ⟨rfl, hb1⟩ := hr; replace H := H.grow hb1; clear hb1) | (with_reducible refine wpl rfl (Stp.slfrom (k := n) 22 rfl rfl Try.underlying26 size5 rfl rfl (by omega) (by omega) ?_); intro A22 hA22; have sx := sl_from n (hs.grow H.below) (by omega) (by omega) (by omega) hA22; clear hA22; simp only [Act.put, List.setIfInBounds_toArray, List.set_cons_zero, List.set_cons_succ]) | (go_at_call 62; (with_reducible refine (getshort_ok _ (l.drop n) hd2 HX2.out _ sx 0 0 r4 G2.out).mono ?_); rintro e w1 ⟨v, rfl, hr⟩; obtain ⟨rfl, hb1⟩ := hr; replace H := H.grow hb1; clear hb1) | (with_reducible refine wpl rfl (Stp.alloc 2 rfl rfl zero34 H ?_); clear H; intro g2 w1 H; simp only [Act.put, List.setIfInBounds_toArray, List.set_cons_zero, List.set_cons_succ]; simp only [cells_agg, cells_int, cells_bool, cells_string, cells_pointer, cells_slice, cells_map] at H) | (with_reducible refine wpl rfl (Stp.str rfl size34 rfl rfl (by first | rfl | (simp [Value.oneCell']; done) | assumption) H (by repeat (first | exact Upd.head | apply Upd.tail)) (by first | rfl | (simp; done) | assumption) (by first | rfl | (simp; done) | assumption) ?_); clear H; intro w1 H; simp only [Act.put, List.setIfInBounds_toArray, List.set_cons_zero, List.set_cons_succ]) | (with_reducible refine wpl rfl (Stp.stl rfl size34 rfl rfl rfl rfl H (by repeat (first | exact Upd.head | apply Upd.tail)) (by simp) ?_); clear H; intro w1 H; simp only [Act.put, List.setIfInBounds_toArray, List.set_cons_zero, List.set_cons_succ]; simp only [List.drop_succ_cons, List.drop_zero, List.take_succ_cons, List.take_zero, List.nil_append, List.cons_append, Nat.reduceAdd] at H))
      refine post_row3 rfl agg34 size34 rfl H (by repeat (first | exact List.mem_cons_self | apply List.mem_cons_of_mem)) rfl rfl ⟨_, rfl, rfl, H.below⟩
  · obtain ⟨rfl, rfl⟩ := l1.1 he
    rw [if_pos he] at hr
    cases hr
    have hei : ¬ (r4 : Int) = 0 := by omega
    go_enter Try.func61, Try.ntmps61
    go_wp2_with (first | (go_at_call 62; (with_reducible refine (getshort_ok _ l hl HX.out _ (hs.grow H.below) 0 0 r4 G1.out).mono ?_); rintro e w1 ⟨v, rfl, hr⟩; obtain ⟨rfl, hb1⟩ := hr; replace H := H.grow hb1; clear hb1) | (with_reducible refine wpl rfl (Stp.alloc 2 rfl rfl zero34 H ?_); clear H; intro g2 w1 H; simp only [Act.put, List.setIfInBounds_toArray, List.set_cons_zero, List.set_cons_succ]; simp only [cells_agg, cells_int, cells_bool, cells_string, cells_pointer, cells_slice, cells_map] at H) | (with_reducible refine wpl rfl (Stp.str rfl size34 rfl rfl (by first | rfl | (simp [Value.oneCell']; done) | assumption) H (by repeat (first | exact Upd.head | apply Upd.tail)) (by first | rfl | (simp; done) | assumption) (by first | rfl | (simp; done) | assumption) ?_); clear H; intro w1 H; simp only [Act.put, List.setIfInBounds_toArray, List.set_cons_zero, List.set_cons_succ]) | (with_reducible refine wpl rfl (Stp.stl rfl size34 rfl rfl rfl rfl H (by repeat (first | exact Upd.head | apply Upd.tail)) (by simp) ?_); clear H; intro w1 H; simp only [Act.put, List.setIfInBounds_toArray, List.set_cons_zero, List.set_cons_succ]; simp only [List.drop_succ_cons, List.drop_zero, List.take_succ_cons, List.take_zero, List.nil_append, List.cons_append, Nat.reduceAdd] at H))
    refine post_row3 rfl agg34 size34 rfl H (by repeat (first | exact List.mem_cons_self | apply List.mem_cons_of_mem)) rfl rfl ⟨_, rfl, rfl, H.below⟩
set_option maxRecDepth 100000 in
set_option maxHeartbeats 1000000 in
theorem rpget_ok (A : Option Addr) (n0 cap : Nat) (l : List Nat) (hn0 : l.length = n0) (hcap : n0 ≤ cap) (hl : l.length ≤ 1000000) (hx : ∀ x ∈ l, x < 256) (w : World) (hs : Sl w 1 l.length (.slice A n0 cap) (elB l)) (r1 r2 r3 r4 : Nat) (hr : getP l = (r1, r2, r3, r4)) :
    Calls Try.prog 65 #[.slice A n0 cap] w (Ret fun v w' => v = .tuple #[.agg #[.int .u16 (r1 : Int), .int .u32 (r2 : Int)], .int .i64 (r3 : Int), .int .i64 (r4 : Int)] ∧ Below w.heap.size w w') := by
  have H := St.init w
  obtain ⟨a, n, e, hg⟩ : ∃ a n e, gs l 10 0 0 = (a, n, e) := ⟨_, _, _, rfl⟩
  obtain ⟨c, m, f, hg2⟩ : ∃ c m f, gs (l.drop n) 10 0 0 = (c, m, f) := ⟨_, _, _, rfl⟩
  have l1 := gs_le l 10 0 0 a n e hg
  have l2 := gs_le (l.drop n) 10 0 0 c m f hg2
  have b1 := gs_lt l hx 10 0 0 a n e rfl (by decide) hg
  have b2 := gs_lt (l.drop n) (lens hx n) 10 0 0 c m f rfl (by decide) hg2
  unfold getP at hr
  simp only [hg] at hr
  simp only [hg2] at hr
  have G1 := Lib.hid hg
  have G2 := Lib.hid hg2
  have HX := Lib.hid hx
  have HX2 := Lib.hid (lens hx n)
  clear hg hg2 hx
  by_cases he : e = 0
  · obtain ⟨_, hnl⟩ := l1.2 he
    subst he
    clear l1
    rw [if_neg (by simp)] at hr
    have hd2 : (l.drop n).length ≤ 1000000 := by rw [List.length_drop]; omega
    have hd3 : (l.drop n).length = n0 - n := by rw [List.length_drop]; omega
    by_cases hf : f = 0
    · obtain ⟨_, hml⟩ := l2.2 hf
      subst hf
      clear l2
      rw [if_neg (by simp)] at hr
      by_cases ha : 65535 < a
      · rw [if_pos (.inl ha)] at hr
        cases hr
        go_enter Try.func65, Try.ntmps65
        go_wp2_with (first | (go_at_call 66; (with_reducible refine (rgetshort_ok _ l hl HX.out _ (hs.grow H.below) a n 0 G1.out).mono ?_); rintro e w1 ⟨v, rfl, hr⟩; obtain ⟨rfl, hb1⟩ := hr; replace H := H.grow hb1; clear hb1) | (with_reducible refine wpl rfl (Stp.slfrom (k := n) 24 rfl rfl Try.underlying26 size5 rfl rfl (by omega) (by omega) ?_); intro A24 hA24; have sx := sl_from n (hs.grow H.below) (by omega) (by omega) (by omega) hA24; clear hA24; simp only [Act.put, List.setIfInBounds_toArray, List.set_cons_zero, List.set_cons_succ]) | (go_at_call 66; (with_reducible refine (rgetshort_ok _ (l.drop n) hd2 HX2.out _ sx c m 0 G2.out).mono ?_); rintro e w1 ⟨v, rfl, hr⟩; obtain ⟨rfl, hb1⟩ := hr; replace H := H.grow hb1; clear hb1) | (with_reducible refine wpl rfl (Stp.alloc 2 rfl rfl zero34 H ?_); clear H; intro g2 w1 H; simp only [Act.put, List.setIfInBounds_toArray, List.set_cons_zero, List.set_cons_succ]; simp only [cells_agg, cells_int, cells_bool, cells_string, cells_pointer, cells_slice, cells_map] at H) | (with_reducible refine wpl rfl (Stp.str rfl size34 rfl rfl (by first | rfl | (simp [Value.oneCell']; done) | assumption) H (by repeat (first | exact Upd.head | apply Upd.tail)) (by first | rfl | (simp; done) | assumption) (by first | rfl | (simp; done) | assumption) ?_); clear H; intro w1 H; simp only [Act.put, List.setIfInBounds_toArray, List.set_cons_zero, List.set_cons_succ]) | (with_reducible refine wpl rfl (Stp.stl rfl size34 rfl rfl rfl rfl H (by repeat (first | exact Upd.head | apply Upd.tail)) (by simp) ?_); clear H; intro w1 H; simp only [Act.put, List.setIfInBounds_toArray, List.set_cons_zero, List.set_cons_succ]; simp only [List.drop_succ_cons, List.drop_zero, List.take_succ_cons, List.take_zero, List.nil_append, List.cons_append, Nat.reduceAdd] at H))
        refine post_row3 rfl agg34 size34 rfl H (by repeat (first | exact List.mem_cons_self | apply List.mem_cons_of_mem)) rfl rfl ⟨_, rfl, rfl, H.below⟩
      · by_cases hc : 4294967295 < c
        · rw [if_pos (.inr hc)] at hr
          cases hr
          go_enter Try.func65, Try.ntmps65
          go_wp2_with (first | (go_at_call 66; (with_reducible refine (rgetshort_ok _ l hl HX.out _ (hs.grow H.below) a n 0 G1.out).mono ?_); rintro e w1 ⟨v, rfl, hr⟩; obtain ⟨rfl, hb1⟩ := hr; replace H := H.grow hb1; clear hb1) | (with_reducible refine wpl rfl (Stp.slfrom (k := n) 24 rfl rfl Try.underlying26 size5 rfl rfl (by omega) (by omega) ?_); intro A24 hA24; have sx := sl_from n (hs.grow H.below) (by omega) (by omega) (by omega) hA24; clear hA24; simp only [Act.put, List.setIfInBounds_toArray, List.set_cons_zero, List.set_cons_succ]) | (go_at_call 66; (with_reducible refine (rgetshort_ok _ (l.drop n) hd2 HX2.out _ sx c m 0 G2.out).mono ?_); rintro e w1 ⟨v, rfl, hr⟩; obtain ⟨rfl, hb1⟩ := hr; replace H := H.grow hb1; clear hb1) | (with_reducible refine wpl rfl (Stp.alloc 2 rfl rfl zero34 H ?_); clear H; intro g2 w1 H; simp only [Act.put, List.setIfInBounds_toArray, List.set_cons_zero, List.set_cons_succ]; simp only [cells_agg, cells_int, cells_bool, cells_string, cells_pointer, cells_slice, cells_map] at H) | (with_reducible refine wpl rfl (Stp.str rfl size34 rfl rfl (by first | rfl | (simp [Value.oneCell']; done) | assumption) H (by repeat (first | exact Upd.head | apply Upd.tail)) (by first | rfl | (simp; done) | assumption) (by first | rfl | (simp; done) | assumption) ?_); clear H; intro w1 H; simp only [Act.put, List.setIfInBounds_toArray, List.set_cons_zero, List.set_cons_succ]) | (with_reducible refine wpl rfl (Stp.stl rfl size34 rfl rfl rfl rfl H (by repeat (first | exact Upd.head | apply Upd.tail)) (by simp) ?_); clear H; intro w1 H; simp only [Act.put, List.setIfInBounds_toArray, List.set_cons_zero, List.set_cons_succ]; simp only [List.drop_succ_cons, List.drop_zero, List.take_succ_cons, List.take_zero, List.nil_append, List.cons_append, Nat.reduceAdd] at H))
          refine post_row3 rfl agg34 size34 rfl H (by repeat (first | exact List.mem_cons_self | apply List.mem_cons_of_mem)) rfl rfl ⟨_, rfl, rfl, H.below⟩
        · rw [if_neg (by omega)] at hr
          cases hr
          have ea : IntKind.u16.wrap (r1 : Int) = (r1 : Int) := by rw [IntKind.wrap_u16]; omega
          have ec : IntKind.u32.wrap (r2 : Int) = (r2 : Int) := by rw [IntKind.wrap_u32]; omega
          go_enter Try.func65, Try.ntmps65
          go_wp2_with (first | (go_at_call 66; (with_reducible refine (rgetshort_ok _ l hl HX.out _ (hs.grow H.below) r1 n 0 G1.out).mono ?_); rintro e w1 ⟨v, rfl, hr⟩; obtain ⟨rfl, hb1⟩ := hr; replace H := H.grow hb1; clear hb1) | (with_reducible refine wpl rfl (Stp.slfrom (k := n) 24 rfl rfl Try.underlying26 size5 rfl rfl (by omega) (by omega) ?_); intro A24 hA24; have sx := sl_from n (hs.grow H.below) (by omega) (by omega) (by omega) hA24; clear hA24; simp only [Act.put, List.setIfInBounds_toArray, List.set_cons_zero, List.set_cons_succ]) | (go_at_call 66; (with_reducible refine (rgetshort_ok _ (l.drop n) hd2 HX2.out _ sx r2 m 0 G2.out).mono ?_); rintro e w1 ⟨v, rfl, hr⟩; obtain ⟨rfl, hb1⟩ := hr; replace H := H.grow hb1; clear hb1) | (with_reducible refine wpl rfl (Stp.alloc 2 rfl rfl zero34 H ?_); clear H; intro g2 w1 H; simp only [Act.put, List.setIfInBounds_toArray, List.set_cons_zero, List.set_cons_succ]; simp only [cells_agg, cells_int, cells_bool, cells_string, cells_pointer, cells_slice, cells_map] at H) | (with_reducible refine wpl rfl (Stp.str rfl size34 rfl rfl (by first | rfl | (simp [Value.oneCell']; done) | assumption) H (by repeat (first | exact Upd.head | apply Upd.tail)) (by first | rfl | (simp; done) | assumption) (by first | rfl | (simp; done) | assumption) ?_); clear H; intro w1 H; simp only [Act.put, List.setIfInBounds_toArray, List.set_cons_zero, List.set_cons_succ]) | (with_reducible refine wpl rfl (Stp.stl rfl size34 rfl rfl rfl rfl H (by repeat (first | exact Upd.head | apply Upd.tail)) (by simp) ?_); clear H; intro w1 H; simp only [Act.put, List.setIfInBounds_toArray, List.set_cons_zero, List.set_cons_succ]; simp only [List.drop_succ_cons, List.drop_zero, List.take_succ_cons, List.take_zero, List.nil_append, List.cons_append, Nat.reduceAdd] at H))
          refine post_row3 rfl agg34 size34 rfl H (by repeat (first | exact List.mem_cons_self | apply List.mem_cons_of_mem)) rfl rfl ⟨_, rfl, ?_, H.below⟩
          simp only [ea, ec, Int.natCast_add, getD_lit0, getD_lits]
          rfl
    · obtain ⟨rfl, rfl⟩ := l2.1 hf
      rw [if_pos hf] at hr
      cases hr
      have hfi : ¬ (r4 : Int) = 0 := by omega
      go_enter Try.func65, Try.ntmps65
      go_wp2_with (first | (go_at_call 66; (with_reducible refine (rgetshort_ok _ l hl HX.out _ (hs.grow H.below) a n 0 G1.out).mono ?_); rintro e w1 ⟨v, rfl, hr⟩; obtain ⟨rfl, hb1⟩ := hr; replace H := H.grow hb1; clear hb1) | (with_reducible refine wpl rfl (Stp.slfrom (k := n) 24 rfl rfl Try.underlying26 size5 rfl rfl (by omega) (by omega) ?_); intro A24 hA24; have sx := sl_from n (hs.grow H.below) (by omega) (by omega) (by omega) hA24; clear hA24; simp only [Act.put, List.setIfInBounds_toArray, List.set_cons_zero, List.set_cons_succ]) | (go_at_call 66; (with_reducible refine (rgetshort_ok _ (l.drop n) hd2 HX2.out _ sx 0 0 r4 G2.out).mono ?_); rintro e w1 ⟨v, rfl, hr⟩; obtain ⟨rfl, hb1⟩ := hr; replace H := H.grow hb1; clear hb1) | (with_reducible refine wpl rfl (Stp.alloc 2 rfl rfl zero34 H ?_); clear H; intro g2 w1 H; simp only [Act.put, List.setIfInBounds_toArray, List.set_cons_zero, List.set_cons_succ]; simp only [cells_agg, cells_int, cells_bool, cells_string, cells_pointer, cells_slice, cells_map] at H) | (with_reducible refine wpl rfl (Stp.str rfl size34 rfl rfl (by first | rfl | (simp [Value.oneCell']; done) | assumption) H (by repeat (first | exact Upd.head | apply Upd.tail)) (by first | rfl | (simp; done) | assumption) (by first | rfl | (simp; done) | assumption) ?_); clear H; intro w1 H; simp only [Act.put, List.setIfInBounds_toArray, List.set_cons_zero, List.set_cons_succ]) | (with_reducible refine wpl rfl (Stp.stl rfl size34 rfl rfl rfl rfl H (by repeat (first | exact Upd.head | apply Upd.tail)) (by simp) ?_); clear H; intro w1 H; simp only [Act.put, List.setIfInBounds_toArray, List.set_cons_zero, List.set_cons_succ]; simp only [List.drop_succ_cons, List.drop_zero, List.take_succ_cons, List.take_zero, List.nil_append, List.cons_append, Nat.reduceAdd] at H))
      refine post_row3 rfl agg34 size34 rfl H (by repeat (first | exact List.mem_cons_self | apply List.mem_cons_of_mem)) rfl rfl ⟨_, rfl, rfl, H.below⟩
  · obtain ⟨rfl, rfl⟩ := l1.1 he
    rw [if_pos he] at hr
    cases hr
    have hei : ¬ (r4 : Int) = 0 := by omega
    go_enter Try.func65, Try.ntmps65
    go_wp2_with (first | (go_at_call 66; (with_reducible refine (rgetshort_ok _ l hl HX.out _ (hs.grow H.below) 0 0 r4 G1.out).mono ?_); rintro e w1 ⟨v, rfl, hr⟩; obtain ⟨rfl, hb1⟩ := hr; replace H := H.grow hb1; clear hb1) | (with_reducible refine wpl rfl (Stp.alloc 2 rfl rfl zero34 H ?_); clear H; intro g2 w1 H; simp only [Act.put, List.setIfInBounds_toArray, List.set_cons_zero, List.set_cons_succ]; simp only [cells_agg, cells_int, cells_bool, cells_string, cells_pointer, cells_slice, cells_map] at H) | (with_reducible refine wpl rfl (Stp.str rfl size34 rfl rfl (by first | rfl | (simp [Value.oneCell']; done) | assumption) H (by repeat (first | exact Upd.head | apply Upd.tail)) (by first | rfl | (simp; done) | assumption) (by first | rfl | (simp; done) | assumption) ?_); clear H; intro w1 H; simp only [Act.put, List.setIfInBounds_toArray, List.set_cons_zero, List.set_cons_succ]) | (with_reducible refine wpl rfl (Stp.stl rfl size34 rfl rfl rfl rfl H (by repeat (first | exact Upd.head | apply Upd.tail)) (by simp) ?_); clear H; intro w1 H; simp only [Act.put, List.setIfInBounds_toArray, List.set_cons_zero, List.set_cons_succ]; simp only [List.drop_succ_cons, List.drop_zero, List.take_succ_cons, List.take_zero, List.nil_append, List.cons_append, Nat.reduceAdd] at H))
    refine post_row3 rfl agg34 size34 rfl H (by repeat (first | exact List.mem_cons_self | apply List.mem_cons_of_mem)) rfl rfl ⟨_, rfl, rfl, H.below⟩
end Go.Proofs.Ytcjbippgjhgoiaa
