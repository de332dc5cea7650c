/- More contracts of layer 7's Writer (body) and of its references; the bounds stand in each. -/
import Derived.Test.YtcjbippgjhgoiaaBody1
namespace Go.Proofs.Ytcjbippgjhgoiaa
open Go.ChangeShapes Go.WideShapes Go.ChangeAt Go.RowKit
set_option linter.unusedVariables false
set_option linter.unusedSimpArgs false
set_option maxRecDepth 100000 in
set_option maxHeartbeats 1000000 in
theorem wpids_ok {B : Nat} {w0 : World} {L : List Res} (g : Nat) (l m : List Nat) (ps : List (Nat × Nat)) (v : Value) (hp : okPids ps) (hpl : ps.length ≤ 1000) (hl : l.length ≤ 500000) (hm : l ++ (shortB ps.length ++ pidsB ps) = m) (w : World) (H : WSt B w0 w g l L) (hs : Rd B w0 L fun W => Sl W 2 ps.length v (elQ ps)) :
    Calls Try.prog 47 #[.pointer (some ⟨g, 0, none⟩), v] w (Ret fun v w' => v = .tuple #[] ∧ WSt B w0 w' g m L) := by
  obtain ⟨a, cc, H⟩ := H
  obtain ⟨ab, cb, e0, hm9, _⟩ := hs.at H (.cons _ (.cons _ (.refl _)))
  subst e0
  unfold maxLen at hm9
  have w1r : IntKind.u64.wrap (ps.length : Int) = (ps.length : Int) := wrap_u64_in _ (by omega) (by omega)
  obtain ⟨q, hq⟩ : ∃ q, l ++ shortB ps.length = q := ⟨_, rfl⟩
  have ql : q.length ≤ 500010 := by rw [← hq, List.length_append]; have := shortB_len ps.length; omega
  have HQ := Lib.hid hq
  have HM2 : Hid (q ++ pidsB ps = m) := Lib.hid (by rw [← hq, ← hm, List.append_assoc])
  have HP := Lib.hid hp
  clear hq hm hp
  go_enter Try.func47, Try.ntmps47
  go_wp2_with (first | (go_at_call 37; (with_reducible refine (wnum_ok g l q ps.length (by omega) (by omega) HQ.out _ (WSt.of H (by repeat (first | (with_reducible exact Pull.head) | apply Pull.tail)) (by repeat (first | (with_reducible exact Pull.head) | apply Pull.tail)) (List.Sublist.refl _))).mono ?_); rintro e w1 ⟨v, rfl, hr⟩; obtain ⟨rfl, a1, c1, H1⟩ := hr; clear H; have H := H1; clear H1) | (with_reducible refine wpl rfl (Stp.ldr rfl agg34 size34 rfl H (by repeat (first | exact List.mem_cons_self | apply List.mem_cons_of_mem)) (by first | rfl | (simp; done) | assumption) ?_); simp only [Act.put, List.setIfInBounds_toArray, List.set_cons_zero, List.set_cons_succ]) | (with_reducible refine wpl rfl (Stp.ldl rfl agg34 size34 rfl H (by repeat (first | exact List.mem_cons_self | apply List.mem_cons_of_mem)) (by simp) ?_); simp only [Act.put, List.setIfInBounds_toArray, List.set_cons_zero, List.set_cons_succ]; simp only [List.drop_succ_cons, List.drop_zero, List.take_succ_cons, List.take_zero]) | (with_reducible refine wpl rfl (Stp.ldor rfl agg34 size34 rfl H (by assumption) (by first | rfl | (simp; done) | assumption) (by assumption) ?_); simp only [Act.put, List.setIfInBounds_toArray, List.set_cons_zero, List.set_cons_succ]) | (with_reducible refine wpl rfl (Stp.alloc 5 rfl rfl zero34 H ?_); clear H; intro g5 w1 H; simp only [Act.put, List.setIfInBounds_toArray, List.set_cons_zero, List.set_cons_succ]; simp only [cells_agg, cells_int, cells_bool, cells_string, cells_pointer, cells_slice, cells_map] at H) | (with_reducible refine wpl rfl (Stp.str rfl size34 rfl rfl (by first | rfl | (simp [Value.oneCell']; done) | assumption) H (by repeat (first | exact Upd.head | apply Upd.tail)) (by first | rfl | (simp; done) | assumption) (by first | rfl | (simp; done) | assumption) ?_); clear H; intro w1 H; simp only [Act.put, List.setIfInBounds_toArray, List.set_cons_zero, List.set_cons_succ]) | (with_reducible refine wpl rfl (Stp.stl rfl size34 rfl rfl rfl rfl H (by repeat (first | exact Upd.head | apply Upd.tail)) (by simp) ?_); clear H; intro w1 H; simp only [Act.put, List.setIfInBounds_toArray, List.set_cons_zero, List.set_cons_succ]; simp only [List.drop_succ_cons, List.drop_zero, List.take_succ_cons, List.take_zero, List.nil_append, List.cons_append, Nat.reduceAdd] at H))
  clear HQ
  go_loopw [13] (fun i wr => ∃ (k : Nat) (a : Option Addr) (c : Nat) (r : List Nat), k ≤ ps.length ∧ i = .int .i64 (k : Int) ∧ Hid (q ++ pidsB (ps.take k) = r) ∧ St B w0 wr (row 28 g #[.slice a r.length c] :: slc 5 1 (.slice a r.length c) r.length (bv r) :: L)) (fun i _ => ps.length - (intOf i).toNat)
  case atStart => exact ⟨0, _, _, q, Nat.zero_le _, rfl, Lib.hid (by simp [pidsB]), H⟩
  case round =>
    clear H
    obtain ⟨k, a2, c2, r, hk, rfl, HR, H⟩ := hrel
    by_cases hlt : k < ps.length
    · obtain ⟨b, off, rfl, hbb⟩ := (hs.at H (.cons _ (.cons _ (.refl _)))).addr (by omega)
      obtain ⟨p1, p2⟩ := okPids_at HP.out k hlt
      have hsn := pidsB_snoc ps k hlt
      obtain ⟨x, hx⟩ : ∃ x, (ps.getD k (0, 0)).1 = x := ⟨_, rfl⟩
      obtain ⟨y, hy⟩ : ∃ y, (ps.getD k (0, 0)).2 = y := ⟨_, rfl⟩
      have he : elQ ps k = #[.int .u16 (x : Int), .int .u32 (y : Int)] := by unfold elQ; rw [hx, hy]
      rw [hx, hy] at hsn
      rw [hx] at p1
      rw [hy] at p2
      obtain ⟨r2, hr2⟩ : ∃ r2, r ++ pidB x y = r2 := ⟨_, rfl⟩
      have HR2 := Lib.hid hr2
      have HR3 : Hid (q ++ pidsB (ps.take (k + 1)) = r2) := Lib.hid (by rw [hsn, ← List.append_assoc, HR.out, hr2])
      have rl : r.length ≤ 600000 := by
        rw [← HR.out, List.length_append]
        have := pidsB_len (ps.take k)
        rw [List.length_take] at this
        omega
      have HEL := Lib.hid he
      have kli : (k : Int) < (ps.length : Int) := by omega
      clear hsn hx hy hr2 he
      go_wp2_with (first | (with_reducible refine wpl rfl (Stp.ldq (cs := #[.int .u16 (x : Int), .int .u32 (y : Int)]) rfl agg34 size34 rfl (by rw [← HEL.out]; exact (hs.at H (by repeat (first | exact List.Sublist.refl _ | exact List.nil_sublist _ | (with_reducible apply List.Sublist.cons_cons) | apply List.Sublist.cons))).cell hlt) rfl ?_); simp only [Act.put, List.setIfInBounds_toArray, List.set_cons_zero, List.set_cons_succ]) | (go_at_call 41; (with_reducible refine (wpid_ok g r r2 x y (by omega) p1 p2 HR2.out _ (WSt.of H (by repeat (first | (with_reducible exact Pull.head) | apply Pull.tail)) (by repeat (first | (with_reducible exact Pull.head) | apply Pull.tail)) (List.Sublist.refl _))).mono ?_); rintro e w1 ⟨v, rfl, hr⟩; obtain ⟨rfl, a1, c1, H1⟩ := hr; clear H; have H := H1; clear H1) | (with_reducible refine wpl rfl (Stp.ldr rfl agg34 size34 rfl H (by repeat (first | exact List.mem_cons_self | apply List.mem_cons_of_mem)) (by first | rfl | (simp; done) | assumption) ?_); simp only [Act.put, List.setIfInBounds_toArray, List.set_cons_zero, List.set_cons_succ]) | (with_reducible refine wpl rfl (Stp.ldl rfl agg34 size34 rfl H (by repeat (first | exact List.mem_cons_self | apply List.mem_cons_of_mem)) (by simp) ?_); simp only [Act.put, List.setIfInBounds_toArray, List.set_cons_zero, List.set_cons_succ]; simp only [List.drop_succ_cons, List.drop_zero, List.take_succ_cons, List.take_zero]) | (with_reducible refine wpl rfl (Stp.ldor rfl agg34 size34 rfl H (by assumption) (by first | rfl | (simp; done) | assumption) (by assumption) ?_); simp only [Act.put, List.setIfInBounds_toArray, List.set_cons_zero, List.set_cons_succ]) | (with_reducible refine wpl rfl (Stp.alloc 5 rfl rfl zero34 H ?_); clear H; intro g5 w1 H; simp only [Act.put, List.setIfInBounds_toArray, List.set_cons_zero, List.set_cons_succ]; simp only [cells_agg, cells_int, cells_bool, cells_string, cells_pointer, cells_slice, cells_map] at H) | (with_reducible refine wpl rfl (Stp.str rfl size34 rfl rfl (by first | rfl | (simp [Value.oneCell']; done) | assumption) H (by repeat (first | exact Upd.head | apply Upd.tail)) (by first | rfl | (simp; done) | assumption) (by first | rfl | (simp; done) | assumption) ?_); clear H; intro w1 H; simp only [Act.put, List.setIfInBounds_toArray, List.set_cons_zero, List.set_cons_succ]) | (with_reducible refine wpl rfl (Stp.stl rfl size34 rfl rfl rfl rfl H (by repeat (first | exact Upd.head | apply Upd.tail)) (by simp) ?_); clear H; intro w1 H; simp only [Act.put, List.setIfInBounds_toArray, List.set_cons_zero, List.set_cons_succ]; simp only [List.drop_succ_cons, List.drop_zero, List.take_succ_cons, List.take_zero, List.nil_append, List.cons_append, Nat.reduceAdd] at H))
      go_roundw
      case rel => exact ⟨k + 1, _, _, r2, by omega, by go_num, HR3, H.sub (by repeat (first | exact List.Sublist.refl _ | exact List.nil_sublist _ | (with_reducible apply List.Sublist.cons_cons) | apply List.Sublist.cons))⟩
      case measure => simp [intOf]; omega
    · obtain rfl : k = ps.length := by omega
      rw [List.take_length, HM2.out] at HR
      obtain rfl := HR.out
      go_wp2_with (first | (with_reducible refine wpl rfl (Stp.ldr rfl agg34 size34 rfl H (by repeat (first | exact List.mem_cons_self | apply List.mem_cons_of_mem)) (by first | rfl | (simp; done) | assumption) ?_); simp only [Act.put, List.setIfInBounds_toArray, List.set_cons_zero, List.set_cons_succ]) | (with_reducible refine wpl rfl (Stp.ldl rfl agg34 size34 rfl H (by repeat (first | exact List.mem_cons_self | apply List.mem_cons_of_mem)) (by simp) ?_); simp only [Act.put, List.setIfInBounds_toArray, List.set_cons_zero, List.set_cons_succ]; simp only [List.drop_succ_cons, List.drop_zero, List.take_succ_cons, List.take_zero]) | (with_reducible refine wpl rfl (Stp.ldor rfl agg34 size34 rfl H (by assumption) (by first | rfl | (simp; done) | assumption) (by assumption) ?_); simp only [Act.put, List.setIfInBounds_toArray, List.set_cons_zero, List.set_cons_succ]) | (with_reducible refine wpl rfl (Stp.alloc 5 rfl rfl zero34 H ?_); clear H; intro g5 w1 H; simp only [Act.put, List.setIfInBounds_toArray, List.set_cons_zero, List.set_cons_succ]; simp only [cells_agg, cells_int, cells_bool, cells_string, cells_pointer, cells_slice, cells_map] at H) | (with_reducible refine wpl rfl (Stp.str rfl size34 rfl rfl (by first | rfl | (simp [Value.oneCell']; done) | assumption) H (by repeat (first | exact Upd.head | apply Upd.tail)) (by first | rfl | (simp; done) | assumption) (by first | rfl | (simp; done) | assumption) ?_); clear H; intro w1 H; simp only [Act.put, List.setIfInBounds_toArray, List.set_cons_zero, List.set_cons_succ]) | (with_reducible refine wpl rfl (Stp.stl rfl size34 rfl rfl rfl rfl H (by repeat (first | exact Upd.head | apply Upd.tail)) (by simp) ?_); clear H; intro w1 H; simp only [Act.put, List.setIfInBounds_toArray, List.set_cons_zero, List.set_cons_succ]; simp only [List.drop_succ_cons, List.drop_zero, List.take_succ_cons, List.take_zero, List.nil_append, List.cons_append, Nat.reduceAdd] at H))
      go_end0
      exact ⟨_, rfl, rfl, WSt.of H (by repeat (first | (with_reducible exact Pull.head) | apply Pull.tail)) (by repeat (first | (with_reducible exact Pull.head) | apply Pull.tail)) (by repeat (first | exact List.Sublist.refl _ | exact List.nil_sublist _ | (with_reducible apply List.Sublist.cons_cons) | apply List.Sublist.cons))⟩
end Go.Proofs.Ytcjbippgjhgoiaa
