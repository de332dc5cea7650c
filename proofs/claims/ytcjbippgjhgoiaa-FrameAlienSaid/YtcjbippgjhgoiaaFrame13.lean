/- The statements FrameDecodes and FrameAlien of layer 6 (frame), proved; no condition: the laws' walks, and the rows round them. -/
import Derived.Test.YtcjbippgjhgoiaaFrame12
namespace Go.Proofs.Ytcjbippgjhgoiaa
open Go.ChangeShapes Go.WideShapes Go.ChangeAt Go.RowKit Go.Deep
set_option linter.unusedVariables false
set_option linter.unusedSimpArgs false
theorem decR_sub {q : Nat} {y : List Nat} {e k fi fc ti tc s : Nat} {b : List Nat} (h : decR q y = (e, k, fi, fc, ti, tc, s, b)) : (∀ x ∈ b, x ∈ y) ∧ b.length ≤ y.length := by
  unfold decR bad at h
  repeat' split at h
  all_goals
    simp only [Prod.mk.injEq] at h
    obtain ⟨_, _, _, _, _, _, _, rfl⟩ := h
  · exact ⟨by simp, by simp⟩
  · exact ⟨by simp, by simp⟩
  · exact ⟨by simp, by simp⟩
  · exact ⟨by simp, by simp⟩
  · exact ⟨fun x hx => List.mem_of_mem_drop (List.mem_of_mem_drop (List.mem_of_mem_drop hx)), by simp only [List.length_drop]; omega⟩
theorem decL_sub {l : List Nat} {e k fi fc ti tc s : Nat} {b : List Nat} (h : decL l = (e, k, fi, fc, ti, tc, s, b)) : (∀ x ∈ b, x ∈ l) ∧ b.length ≤ l.length := by
  unfold decL at h
  repeat' split at h
  · unfold bad at h; cases h; exact ⟨by simp, by simp⟩
  · unfold bad at h; cases h; exact ⟨by simp, by simp⟩
  · unfold bad at h; cases h; exact ⟨by simp, by simp⟩
  · unfold bad at h; cases h; exact ⟨by simp, by simp⟩
  · obtain ⟨h1, h2⟩ := decR_sub h
    refine ⟨fun x hx => List.mem_of_mem_take (List.mem_of_mem_drop (h1 x hx)), ?_⟩
    simp only [List.length_drop, List.length_take] at h2
    omega
attribute [local irreducible] formL chk decL
set_option maxRecDepth 100000 in
set_option maxHeartbeats 2000000 in
theorem law_decodes (A : Option Addr) (c : Nat) (b : List Nat) (hcap : b.length ≤ c) (hb : ∀ x ∈ b, x < 256) (w : World) (hs : Sl w 1 b.length (.slice A b.length c) (elB b)) :
    Calls Try.prog 5 #[.slice A b.length c] w (Ret fun v w' => v = .bool true ∧ Below w.heap.size w w') := by
  have H := St.init w
  have hl9 := hs.len
  obtain ⟨_, _, _, hm⟩ := hl9
  by_cases h5 : 5000 < b.length
  · have h5i : (5000 : Int) < (b.length : Int) := by omega
    go_enter Try.func5, Try.ntmps5
    go_wp2_with (first | (go_at_call 15; (with_reducible refine (awake_ok _).mono ?_); rintro e w1 ⟨v, rfl, hr⟩; obtain ⟨rfl, hb1⟩ := hr; replace H := H.grow hb1; clear hb1) | (with_reducible refine wpl rfl (Stp.alloc 4 rfl rfl zero43 H ?_); clear H; intro g4 w1 H; simp only [Act.put, List.setIfInBounds_toArray, List.set_cons_zero, List.set_cons_succ]; simp only [cells_agg, cells_int, cells_bool, cells_string, cells_pointer, cells_slice, cells_map] at H) | (with_reducible refine wpl rfl (Stp.str rfl size43 rfl rfl (by first | rfl | (simp [Value.oneCell']; done) | assumption) H (by repeat (first | exact Upd.head | apply Upd.tail)) (by first | rfl | (simp; done) | assumption) (by first | rfl | (simp; done) | assumption) ?_); clear H; intro w1 H; simp only [Act.put, List.setIfInBounds_toArray, List.set_cons_zero, List.set_cons_succ]) | (with_reducible refine wpl rfl (Stp.stl rfl size43 rfl rfl rfl rfl H (by repeat (first | exact Upd.head | apply Upd.tail)) (by simp) ?_); clear H; intro w1 H; simp only [Act.put, List.setIfInBounds_toArray, List.set_cons_zero, List.set_cons_succ]; simp only [List.drop_succ_cons, List.drop_zero, List.take_succ_cons, List.take_zero, List.nil_append, List.cons_append, Nat.reduceAdd] at H) | (with_reducible refine wpl rfl (Stp.alloc 6 rfl rfl zero43 H ?_); clear H; intro g6 w1 H; simp only [Act.put, List.setIfInBounds_toArray, List.set_cons_zero, List.set_cons_succ]; simp only [cells_agg, cells_int, cells_bool, cells_string, cells_pointer, cells_slice, cells_map] at H) | (with_reducible refine wpl rfl (Stp.ldr rfl agg43 size43 rfl H (by repeat (first | exact List.mem_cons_self | apply List.mem_cons_of_mem)) (by first | rfl | (simp; done) | assumption) ?_); simp only [Act.put, List.setIfInBounds_toArray, List.set_cons_zero, List.set_cons_succ]) | (with_reducible refine wpl rfl (Stp.ldl rfl agg43 size43 rfl H (by repeat (first | exact List.mem_cons_self | apply List.mem_cons_of_mem)) (by simp) ?_); simp only [Act.put, List.setIfInBounds_toArray, List.set_cons_zero, List.set_cons_succ]; simp only [List.drop_succ_cons, List.drop_zero, List.take_succ_cons, List.take_zero]) | (with_reducible refine wpl rfl (Stp.ldor rfl agg43 size43 rfl H (by assumption) (by first | rfl | (simp; done) | assumption) (by assumption) ?_); simp only [Act.put, List.setIfInBounds_toArray, List.set_cons_zero, List.set_cons_succ]))
    go_ret
    exact ⟨_, rfl, rfl, H.below⟩
  have h5i : ¬ (5000 : Int) < (b.length : Int) := by omega
  obtain ⟨e, k, fi, fc, ti, tc, s, y, hd⟩ : ∃ e k fi fc ti tc s y, decL b = (e, k, fi, fc, ti, tc, s, y) := ⟨_, _, _, _, _, _, _, _, rfl⟩
  obtain ⟨y1, y2⟩ := decL_sub hd
  have YB := Lib.hid (fun x hx => hb x (y1 x hx))
  have HB := Lib.hid hb
  have HD := Lib.hid hd
  have y5 : y.length ≤ 5000 := by omega
  clear hb hd y1 y2
  go_enter Try.func5, Try.ntmps5
  go_wp2_with (first | (go_at_call 16; (with_reducible refine (lent_ok _ b (by omega) _ (hs.grow H.below)).mono ?_); rintro e w1 ⟨v, rfl, hr⟩; obtain ⟨g0, rfl, hg, hge, hb1⟩ := hr; replace H := H.new hb1 (row_sound hg) (fun k hk => by cases hk; exact hge); clear hb1 hg hge) | (go_at_call 22; (with_reducible refine (decode_ok _ b.length (b.length + 8) b rfl (by omega) (by omega) HB.out e k fi fc ti tc s y HD.out _ (lent_sl (H.getRow (t := 5) (by repeat (first | exact List.mem_cons_self | apply List.mem_cons_of_mem))) (by omega))).mono ?_); rintro e w1 ⟨v, rfl, hr⟩; obtain ⟨⟨ap, cp, rfl, ho⟩, hb1⟩ := hr; replace H := H.new hb1 (slc_sound ho) (fun g hg => (ho.lt g hg).1); clear hb1 ho) | (go_at_call 23; (with_reducible refine (rdecode_ok A b.length c b rfl hcap (by omega) HB.out e k fi fc ti tc s y HD.out _ (hs.grow H.below)).mono ?_); rintro e w1 ⟨v, rfl, hr⟩; obtain ⟨⟨aq, cq, rfl, ho⟩, hb1⟩ := hr; replace H := H.new hb1 (slc_sound ho) (fun g hg => (ho.lt g hg).1); clear hb1 ho) | (with_reducible refine wpl rfl (Stp.alloc 4 rfl rfl zero43 H ?_); clear H; intro g4 w1 H; simp only [Act.put, List.setIfInBounds_toArray, List.set_cons_zero, List.set_cons_succ]; simp only [cells_agg, cells_int, cells_bool, cells_string, cells_pointer, cells_slice, cells_map] at H) | (with_reducible refine wpl rfl (Stp.str rfl size43 rfl rfl (by first | rfl | (simp [Value.oneCell']; done) | assumption) H (by repeat (first | exact Upd.head | apply Upd.tail)) (by first | rfl | (simp; done) | assumption) (by first | rfl | (simp; done) | assumption) ?_); clear H; intro w1 H; simp only [Act.put, List.setIfInBounds_toArray, List.set_cons_zero, List.set_cons_succ]) | (with_reducible refine wpl rfl (Stp.stl rfl size43 rfl rfl rfl rfl H (by repeat (first | exact Upd.head | apply Upd.tail)) (by simp) ?_); clear H; intro w1 H; simp only [Act.put, List.setIfInBounds_toArray, List.set_cons_zero, List.set_cons_succ]; simp only [List.drop_succ_cons, List.drop_zero, List.take_succ_cons, List.take_zero, List.nil_append, List.cons_append, Nat.reduceAdd] at H) | (with_reducible refine wpl rfl (Stp.alloc 6 rfl rfl zero43 H ?_); clear H; intro g6 w1 H; simp only [Act.put, List.setIfInBounds_toArray, List.set_cons_zero, List.set_cons_succ]; simp only [cells_agg, cells_int, cells_bool, cells_string, cells_pointer, cells_slice, cells_map] at H) | (with_reducible refine wpl rfl (Stp.ldr rfl agg43 size43 rfl H (by repeat (first | exact List.mem_cons_self | apply List.mem_cons_of_mem)) (by first | rfl | (simp; done) | assumption) ?_); simp only [Act.put, List.setIfInBounds_toArray, List.set_cons_zero, List.set_cons_succ]) | (with_reducible refine wpl rfl (Stp.ldl rfl agg43 size43 rfl H (by repeat (first | exact List.mem_cons_self | apply List.mem_cons_of_mem)) (by simp) ?_); simp only [Act.put, List.setIfInBounds_toArray, List.set_cons_zero, List.set_cons_succ]; simp only [List.drop_succ_cons, List.drop_zero, List.take_succ_cons, List.take_zero]) | (with_reducible refine wpl rfl (Stp.ldor rfl agg43 size43 rfl H (by assumption) (by first | rfl | (simp; done) | assumption) (by assumption) ?_); simp only [Act.put, List.setIfInBounds_toArray, List.set_cons_zero, List.set_cons_succ]))
  have s1 := own_slk (l := y) (H.getSlc (v := .slice ap y.length cp) (n := y.length) (xs := bv y) (by repeat (first | exact List.mem_cons_self | apply List.mem_cons_of_mem))) rfl (by omega)
  have s2 := own_slk (l := y) (H.getSlc (v := .slice aq y.length cq) (n := y.length) (xs := bv y) (by repeat (first | exact List.mem_cons_self | apply List.mem_cons_of_mem))) rfl (by omega)
  refine (rpsame_ok k k fi fc ti tc s fi fc ti tc s ap aq cp cq y y YB.out YB.out _ s1 s2).mono ?_
  rintro e' w1 ⟨v, rfl, rfl, hb1⟩
  replace H := H.grow hb1
  clear hb1 s1 s2
  simp only [beq_self_eq_true, Bool.and_self]
  go_wp2_with (first | (go_at_call 15; (with_reducible refine (awake_ok _).mono ?_); rintro e w1 ⟨v, rfl, hr⟩; obtain ⟨rfl, hb1⟩ := hr; replace H := H.grow hb1; clear hb1) | (go_at_call 21; (with_reducible refine (kept_ok _ b b g0 (by omega) _ (H.getHeap (by repeat (first | exact List.mem_cons_self | apply List.mem_cons_of_mem))) (hs.grow H.below)).mono ?_); rintro e w1 ⟨v, rfl, hr⟩; obtain ⟨rfl, hb1⟩ := hr; replace H := H.grow hb1; clear hb1; rw [beq_self_eq_true]) | (with_reducible refine wpl rfl (Stp.alloc 4 rfl rfl zero43 H ?_); clear H; intro g4 w1 H; simp only [Act.put, List.setIfInBounds_toArray, List.set_cons_zero, List.set_cons_succ]; simp only [cells_agg, cells_int, cells_bool, cells_string, cells_pointer, cells_slice, cells_map] at H) | (with_reducible refine wpl rfl (Stp.str rfl size43 rfl rfl (by first | rfl | (simp [Value.oneCell']; done) | assumption) H (by repeat (first | exact Upd.head | apply Upd.tail)) (by first | rfl | (simp; done) | assumption) (by first | rfl | (simp; done) | assumption) ?_); clear H; intro w1 H; simp only [Act.put, List.setIfInBounds_toArray, List.set_cons_zero, List.set_cons_succ]) | (with_reducible refine wpl rfl (Stp.stl rfl size43 rfl rfl rfl rfl H (by repeat (first | exact Upd.head | apply Upd.tail)) (by simp) ?_); clear H; intro w1 H; simp only [Act.put, List.setIfInBounds_toArray, List.set_cons_zero, List.set_cons_succ]; simp only [List.drop_succ_cons, List.drop_zero, List.take_succ_cons, List.take_zero, List.nil_append, List.cons_append, Nat.reduceAdd] at H) | (with_reducible refine wpl rfl (Stp.alloc 6 rfl rfl zero43 H ?_); clear H; intro g6 w1 H; simp only [Act.put, List.setIfInBounds_toArray, List.set_cons_zero, List.set_cons_succ]; simp only [cells_agg, cells_int, cells_bool, cells_string, cells_pointer, cells_slice, cells_map] at H) | (with_reducible refine wpl rfl (Stp.ldr rfl agg43 size43 rfl H (by repeat (first | exact List.mem_cons_self | apply List.mem_cons_of_mem)) (by first | rfl | (simp; done) | assumption) ?_); simp only [Act.put, List.setIfInBounds_toArray, List.set_cons_zero, List.set_cons_succ]) | (with_reducible refine wpl rfl (Stp.ldl rfl agg43 size43 rfl H (by repeat (first | exact List.mem_cons_self | apply List.mem_cons_of_mem)) (by simp) ?_); simp only [Act.put, List.setIfInBounds_toArray, List.set_cons_zero, List.set_cons_succ]; simp only [List.drop_succ_cons, List.drop_zero, List.take_succ_cons, List.take_zero]) | (with_reducible refine wpl rfl (Stp.ldor rfl agg43 size43 rfl H (by assumption) (by first | rfl | (simp; done) | assumption) (by assumption) ?_); simp only [Act.put, List.setIfInBounds_toArray, List.set_cons_zero, List.set_cons_succ]))
  go_ret
  exact ⟨_, rfl, rfl, H.below⟩
set_option maxRecDepth 100000 in
theorem frameDecodes_lifted (os : Os) (started : os.Started) (H : Type) (enc : TypeId × Value → H) :
    ReturnsInHanded {} Try.checked os 5 .any (Rows.frameDecodesSpec.pre6 enc Try.prog Try.f5 Rows.frameDecodesRow.domain false) (Rows.frameDecodesSpec.post enc Try.prog Try.f5 false true false false) := by
  refine law_lifted (C := Try.checked) own started (by kernel_rfl) Try.func5 laidOut rfl Try.underlying4 rfl (by kernel_rfl) (fun ds hd => ?_)
    (ChangeSpec.witness6 (enc := enc) (C := Try.checked) false ⟨#[], #[.slice none 0 0], []⟩ 8 (by kernel_rfl) (by kernel_rfl) (by kernel_rfl) (by kernel_rfl)) ?_
  · match ds, hd with
    | [d0], _ => exact ⟨rfl, rfl, rfl⟩
  intro W base args ds p hval hA
  rw [Try.params5] at hA hval
  obtain ⟨v0, vs0, d0, ds0, p0, q0, hargs, rfl, rfl, h0, r0⟩ := trodAll_cons hA
  obtain ⟨rfl, rfl, rfl⟩ := trodAll_nil r0
  obtain rfl : args = #[v0] := by cases args; simp_all
  obtain ⟨l, lb, hs⟩ := open_bs (hval 0 26 v0 rfl rfl) h0
  have hcap := cap_in Try.underlying26 (hval 0 26 v0 rfl rfl) h0
  obtain ⟨A1, c1, rfl, hm1, hz1⟩ := hs
  have hc := hcap _ _ _ rfl
  have hs2 : Sl W 1 l.length (.slice A1 l.length c1) (elB l) := ⟨A1, c1, rfl, hm1, hz1⟩
  exact law_decodes _ _ _ hc lb W hs2
theorem frameDecodes_over : Rows.frameDecodesRow.holds Try.pinned (OpenSpec.ofChange Rows.frameDecodesSpec) :=
  OpenClaim.holds_of_wide 5 Try.f5 rfl rfl rfl rfl rfl rfl rfl ⟨rfl, rfl, rfl, rfl, rfl⟩ rfl rfl rfl rfl rfl (by kernel_rfl) Try.func5 (by kernel_rfl)
    (of_decide_eq_true (by kernel_rfl)) (by unfold Func.isWrapper; first | (rw [if_pos (by decide +kernel)]; kernel_rfl) | (rw [if_neg (by decide +kernel)]; exact ⟨rfl, rfl⟩))
    (fun os started H enc _ => frameDecodes_lifted os started H enc)
theorem frameDecodes_holds : Rows.FrameDecodesSaid := frameDecodes_over
#print axioms frameDecodes_holds
end Go.Proofs.Ytcjbippgjhgoiaa
