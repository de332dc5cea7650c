/- The statement BitsForms of layer 1 (bits), proved; no condition: the law's walk, and the row round it. -/
import Derived.Test.YtmeampigomhdpaaBits6
import Derived.Test.YtmeampigomhdpaaBase2
import Derived.Test.YtmeampigomhdpaaLaw
namespace Go.Proofs.Ytmeampigomhdpaa
open Go.ChangeShapes Go.WideShapes Go.ChangeAt Go.RowKit Go.Deep
set_option linter.unusedVariables false
set_option linter.unusedSimpArgs false
theorem own_slk {w : World} {b m : Nat} {v : Value} {l : List Nat} (h : w.ownsRow b 5 1 v m (bv l)) (hm : m = l.length) (hl : l.length ≤ 1000000) : Sl w 1 l.length v (elB l) := by
  subst hm; exact own_sl h hl
theorem own_src {w : World} {b m c : Nat} {A : Option Addr} {xs : List Value} (h : w.ownsRow b 5 1 (.slice A m c) m xs) : 0 < m → ∃ ad, A = some ad ∧ ∀ j u, xs[j]? = some u → w.cell? (ad.add j) = some u := fun h0 => by
  have h' := h
  rcases h'.2 with ⟨_, e1⟩ | ⟨g, cap, cur, e1, _⟩
  · omega
  · cases e1
    exact ⟨_, rfl, h.cells (g := g) rfl⟩
theorem lent_sl {w : World} {g : Nat} {l : List Nat} (h : rowAt w g = some (bv (lent l)).toArray) (hl : l.length ≤ 1000000) : Sl w 1 l.length (.slice (some ⟨g, 0, none⟩) l.length (l.length + 8)) (elB l) :=
  Sl.of_row h (by unfold maxLen; omega) (fun i hi j hj => by
    obtain rfl : j = 0 := by omega
    have := lent_lt l i hi
    rw [Nat.mul_one, Nat.add_zero]
    simp only [elB, bv, List.getElem?_toArray, List.getElem?_map]
    rw [List.getElem?_eq_getElem (by rw [lent_len]; omega)]
    rw [← this]
    simp [List.getD, lent, hi]
    rw [List.getElem?_append_left hi]; simp [hi])
/-- Bytes that came in. -/
theorem open_bs {H : Type} {enc : TypeId × Value → H} {W : World} {base : Nat} {v : Value} {d : DataW H} {p : List MemPlace} (hv : Value.okWide Try.prog W .any base 22 v) (h : DataW.Trod enc Try.prog W 0 (fun _ => true) true 22 v d p) :
    ∃ l : List Nat, (∀ x ∈ l, x < 256) ∧ Sl W 1 l.length v (elB l) := by
  obtain ⟨n, E, hS, hel⟩ := open_sl (size := 1) Try.underlying22 (by kernel_rfl) (by omega) hv h
  have hex : ∀ i, ∃ q : Nat, i < n → E i = #[.int .u8 (q : Int)] ∧ q < 256 := fun i => by
    by_cases hi : i < n
    · obtain ⟨hs, fuel, y, ht⟩ := hel i hi
      obtain ⟨k, e0, _, w0⟩ := DataW.trod_int Try.underlying5 ht
      have hb := bounds_u8 w0
      refine ⟨k.toNat, fun _ => ⟨?_, by omega⟩⟩
      rw [show ((k.toNat : Nat) : Int) = k by omega]
      exact Array.toList_inj.1 e0
    · exact ⟨0, fun hn => absurd hn hi⟩
  refine ⟨(List.range n).map fun i => Classical.choose (hex i), ?_, ?_⟩
  · intro q hq
    obtain ⟨i, hi, rfl⟩ := List.mem_map.1 hq
    exact ((Classical.choose_spec (hex i)) (by simpa using hi)).2
  · have hlen : ((List.range n).map fun i => Classical.choose (hex i)).length = n := by simp
    rw [hlen]
    obtain ⟨a, c, rfl, hm, hc⟩ := hS
    refine ⟨a, c, rfl, hm, fun h0 => ?_⟩
    obtain ⟨b, off, rfl, hb, hcell⟩ := hc h0
    refine ⟨b, off, rfl, hb, fun i hi j hj => ?_⟩
    rw [hcell i hi j hj, (Classical.choose_spec (hex i) hi).1]
    simp [elB, List.getD, hi]
set_option maxRecDepth 100000 in
set_option maxHeartbeats 1000000 in
theorem law_forms (v : Value) (l : List Nat) (n : Nat) (hn : n < 18446744073709551616) (width : Int) (w : World) (hs : Sl w 1 l.length v (elB l)) :
    Calls Try.prog 3 #[v, .int .u64 (n : Int), .int .i64 width] w (Ret fun v w' => v = .bool true ∧ Below w.heap.size w w') := by
  have H := St.init w
  have hs' := hs
  obtain ⟨ad, c, rfl, hm⟩ := hs'.len
  have HN := Lib.hid hn
  clear hn
  by_cases h20 : 2000 < l.length
  · go_enter Try.func3, Try.ntmps3
    go_wp2_with (first | (go_at_call 13; refine (awake_ok _).mono ?_; rintro e w1 ⟨v, rfl, hr⟩; obtain ⟨rfl, hb1⟩ := hr; replace H := H.grow hb1; clear hb1))
    go_ret
    exact ⟨_, rfl, rfl, H.below⟩
  · cases hw : wide width
    · have HW := Lib.hid hw
      clear hw
      go_enter Try.func3, Try.ntmps3
      go_wp2_with (first | (go_at_call 13; refine (awake_ok _).mono ?_; rintro e w1 ⟨v, rfl, hr⟩; obtain ⟨rfl, hb1⟩ := hr; replace H := H.grow hb1; clear hb1) | (go_at_call 14; refine (lent_ok _ l (by omega) _ (hs.grow H.below)).mono ?_; rintro e w1 ⟨v, rfl, hr⟩; obtain ⟨g0, rfl, hg, hge, hb1⟩ := hr; replace H := H.new hb1 (row_sound hg) (fun k hk => by cases hk; exact hge); clear hb1 hg hge) | (go_at_call 15; refine (put_no _ l n HN.out width HW.out (by omega) _ (lent_sl (H.getRow (by repeat (first | exact List.mem_cons_self | apply List.mem_cons_of_mem))) (by omega))).mono ?_; rintro e w1 ⟨v, rfl, hr⟩; obtain ⟨⟨ap, cp, rfl⟩, ho, hb1⟩ := hr; replace H := H.new hb1 (slc_sound ho) (fun g hg => (ho.lt g hg).1); clear hb1 ho) | (with_reducible refine wpl rfl (Stp.bsl0 (e := 5) 20 rfl rfl (fun W => by kernel_rfl) H ?_); clear H; intro a20 c20 w1 H; simp only [Act.put, List.setIfInBounds_toArray, List.set_cons_zero, List.set_cons_succ]; (try simp only [Nat.zero_add, List.nil_append] at H ⊢)) | (with_reducible refine wpl rfl (Stp.apps 22 rfl rfl Try.underlying22 info5 rfl (by decide) rfl rfl H (fun _ => (by repeat (first | exact Upd.head | apply Upd.tail))) (by rw [bv_len, Nat.mul_one]) (hs.grow H.below).src (bv_one l) (by unfold maxLen; omega) (by omega) ?_); clear H; intro a22 c22 w1 H; simp only [Act.put, List.setIfInBounds_toArray, List.set_cons_zero, List.set_cons_succ]; (try simp only [Nat.zero_add, List.nil_append] at H ⊢)) | (go_at_call 16; refine (rwidth_ok _ _).mono ?_; rintro e w1 ⟨v, rfl, hr⟩; obtain ⟨rfl, hb1⟩ := hr; replace H := H.grow hb1; clear hb1; rw [HW.out]))
      have s1 := own_slk (l := l) (H.getSlc (v := .slice ap l.length cp) (n := l.length) (xs := bv l) (by repeat (first | exact List.mem_cons_self | apply List.mem_cons_of_mem))) rfl (by omega)
      have s2 := own_slk (l := l) (H.getSlc (v := .slice a22 l.length c22) (n := l.length) (xs := bv l) (by repeat (first | exact List.mem_cons_self | apply List.mem_cons_of_mem))) rfl (by omega)
      refine (same_ok _ _ l l _ s1 s2).mono ?_
      rintro e w1 ⟨v, rfl, rfl, hb1⟩
      replace H := H.grow hb1
      clear hb1 s1 s2
      rw [beq_self_eq_true]
      go_wp2_with (first | (go_at_call 13; refine (awake_ok _).mono ?_; rintro e w1 ⟨v, rfl, hr⟩; obtain ⟨rfl, hb1⟩ := hr; replace H := H.grow hb1; clear hb1) | (go_at_call 19; refine (kept_ok _ l l g0 (by omega) _ (H.getHeap (by repeat (first | exact List.mem_cons_self | apply List.mem_cons_of_mem))) (hs.grow H.below)).mono ?_; rintro e w1 ⟨v, rfl, hr⟩; obtain ⟨rfl, hb1⟩ := hr; replace H := H.grow hb1; clear hb1; rw [beq_self_eq_true]))
      go_ret
      exact ⟨_, rfl, rfl, H.below⟩
    · obtain ⟨k, rfl⟩ : ∃ k : Nat, width = k := ⟨width.toNat, by simp [wide] at hw; omega⟩
      have hk : 1 ≤ k ∧ k ≤ 8 := by simp [wide] at hw; omega
      obtain ⟨hk1, hk8⟩ := hk
      have HW := Lib.hid hw
      clear hw
      have hl2 : (l ++ putB n k k).length = l.length + k := by rw [List.length_append, putB_len]
      go_enter Try.func3, Try.ntmps3
      go_wp2_with (first | (go_at_call 13; refine (awake_ok _).mono ?_; rintro e w1 ⟨v, rfl, hr⟩; obtain ⟨rfl, hb1⟩ := hr; replace H := H.grow hb1; clear hb1) | (go_at_call 14; refine (lent_ok _ l (by omega) _ (hs.grow H.below)).mono ?_; rintro e w1 ⟨v, rfl, hr⟩; obtain ⟨g0, rfl, hg, hge, hb1⟩ := hr; replace H := H.new hb1 (row_sound hg) (fun k hk => by cases hk; exact hge); clear hb1 hg hge) | (go_at_call 15; refine (put_ok _ l n HN.out k HW.out (by omega) _ (lent_sl (H.getRow (by repeat (first | exact List.mem_cons_self | apply List.mem_cons_of_mem))) (by omega))).mono ?_; rintro e w1 ⟨v, rfl, hr⟩; obtain ⟨⟨ap, cp, rfl⟩, ho, hb1⟩ := hr; replace H := H.new hb1 (slc_sound ho) (fun g hg => (ho.lt g hg).1); clear hb1 ho) | (with_reducible refine wpl rfl (Stp.bsl0 (e := 5) 20 rfl rfl (fun W => by kernel_rfl) H ?_); clear H; intro a20 c20 w1 H; simp only [Act.put, List.setIfInBounds_toArray, List.set_cons_zero, List.set_cons_succ]; (try simp only [Nat.zero_add, List.nil_append] at H ⊢)) | (with_reducible refine wpl rfl (Stp.apps 22 rfl rfl Try.underlying22 info5 rfl (by decide) rfl rfl H (fun _ => (by repeat (first | exact Upd.head | apply Upd.tail))) (by rw [bv_len, Nat.mul_one]) (hs.grow H.below).src (bv_one l) (by unfold maxLen; omega) (by omega) ?_); clear H; intro a22 c22 w1 H; simp only [Act.put, List.setIfInBounds_toArray, List.set_cons_zero, List.set_cons_succ]; (try simp only [Nat.zero_add, List.nil_append] at H ⊢)) | (go_at_call 16; refine (rwidth_ok _ _).mono ?_; rintro e w1 ⟨v, rfl, hr⟩; obtain ⟨rfl, hb1⟩ := hr; replace H := H.grow hb1; clear hb1; rw [HW.out]) | (go_at_call 17; refine (form_ok n HN.out k hk1 hk8 _).mono ?_; rintro e w1 ⟨v, rfl, hr⟩; obtain ⟨⟨aq, cq, rfl⟩, ho, hb1⟩ := hr; replace H := H.new hb1 (slc_sound ho) (fun g hg => (ho.lt g hg).1); clear hb1 ho) | (with_reducible refine wpl rfl (Stp.apps 29 rfl rfl Try.underlying22 info5 rfl (by decide) rfl rfl H (fun _ => (by repeat (first | exact Upd.head | apply Upd.tail))) (by rw [bv_len, putB_len, Nat.mul_one]) (own_src (H.getSlc (by repeat (first | exact List.mem_cons_self | apply List.mem_cons_of_mem)))) (bv_one (putB n k k)) (by unfold maxLen; omega) (by omega) ?_); clear H; intro a29 c29 w1 H; simp only [Act.put, List.setIfInBounds_toArray, List.set_cons_zero, List.set_cons_succ]))
      rw [bv_app] at H
      have s1 := own_slk (l := l ++ putB n k k) (H.getSlc (v := .slice ap (l.length + k) cp) (n := l.length + k) (xs := bv (l ++ putB n k k)) (by repeat (first | exact List.mem_cons_self | apply List.mem_cons_of_mem))) hl2.symm (by omega)
      have s2 := own_slk (l := l ++ putB n k k) (H.getSlc (v := .slice a29 (l.length + k) c29) (n := l.length + k) (xs := bv (l ++ putB n k k)) (by repeat (first | exact List.mem_cons_self | apply List.mem_cons_of_mem))) hl2.symm (by omega)
      refine (same_ok _ _ (l ++ putB n k k) (l ++ putB n k k) _ s1 s2).mono ?_
      rintro e w1 ⟨v, rfl, rfl, hb1⟩
      replace H := H.grow hb1
      clear hb1 s1 s2
      rw [beq_self_eq_true]
      go_wp2_with (first | (go_at_call 13; refine (awake_ok _).mono ?_; rintro e w1 ⟨v, rfl, hr⟩; obtain ⟨rfl, hb1⟩ := hr; replace H := H.grow hb1; clear hb1) | (go_at_call 19; refine (kept_ok _ l l g0 (by omega) _ (H.getHeap (by repeat (first | exact List.mem_cons_self | apply List.mem_cons_of_mem))) (hs.grow H.below)).mono ?_; rintro e w1 ⟨v, rfl, hr⟩; obtain ⟨rfl, hb1⟩ := hr; replace H := H.grow hb1; clear hb1; rw [beq_self_eq_true]))
      go_ret
      exact ⟨_, rfl, rfl, H.below⟩
theorem nat_u64 {n : Int} (h : (Lit.int .u64 n).wf = true) : ∃ k : Nat, n = k ∧ k < 18446744073709551616 := ⟨n.toNat, by have := bounds_u64 h; omega, by have := bounds_u64 h; omega⟩
theorem own : ownKnob Try.prog.godebug = none := by kernel_rfl
theorem laidOut : laidOutB Try.prog = true := by kernel_rfl
set_option maxRecDepth 100000 in
theorem bitsForms_lifted (os : Os) (started : os.Started) (H : Type) (enc : TypeId × Value → H) :
    ReturnsInHanded {} Try.checked os 3 .any (Rows.bitsFormsSpec.pre6 enc Try.prog Try.f3 Rows.bitsFormsRow.domain false) (Rows.bitsFormsSpec.post enc Try.prog Try.f3 false true false false) := by
  refine law_lifted (C := Try.checked) own started (by kernel_rfl) Try.func3 laidOut rfl Try.underlying4 rfl (by kernel_rfl) (fun ds hd => ?_)
    (ChangeSpec.witness6 (enc := enc) (C := Try.checked) false ⟨#[], #[.slice none 0 0, .int .u64 0, .int .i64 0], []⟩ 8 (by kernel_rfl) (by kernel_rfl) (by kernel_rfl) (by kernel_rfl)) ?_
  · match ds, hd with
    | [d0, d1, d2], _ => exact ⟨rfl, rfl, rfl⟩
  intro W base args ds p hval hA
  rw [Try.params3] at hA hval
  obtain ⟨v0, vs0, d0, ds0, p0, q0, hargs, rfl, rfl, h0, r0⟩ := trodAll_cons hA
  obtain ⟨v1, vs1, d1, ds1, p1, q1, rfl, rfl, rfl, h1, r1⟩ := trodAll_cons r0
  obtain ⟨v2, vs2, d2, ds2, p2, q2, rfl, rfl, rfl, h2, r2⟩ := trodAll_cons r1
  obtain ⟨rfl, rfl, rfl⟩ := trodAll_nil r2
  obtain rfl : args = #[v0, v1, v2] := by cases args; simp_all
  obtain ⟨l, lb, hs⟩ := open_bs (hval 0 22 v0 rfl rfl) h0
  obtain ⟨n, rfl, _, _, nw⟩ := open_int Try.underlying23 (hval 1 23 v1 rfl rfl) h1
  obtain ⟨wd, rfl, _, _, wdw⟩ := open_int Try.underlying3 (hval 2 3 v2 rfl rfl) h2
  exact by obtain ⟨k, rfl, hk⟩ := nat_u64 nw; exact law_forms _ l k hk wd W hs
theorem bitsForms_over : Rows.bitsFormsRow.holds Try.pinned (OpenSpec.ofChange Rows.bitsFormsSpec) :=
  OpenClaim.holds_of_wide 3 Try.f3 rfl rfl rfl rfl rfl rfl rfl ⟨rfl, rfl, rfl, rfl, rfl⟩ rfl rfl rfl rfl rfl (by kernel_rfl) Try.func3 (by kernel_rfl)
    (of_decide_eq_true (by kernel_rfl)) (by unfold Func.isWrapper; first | (rw [if_pos (by decide +kernel)]; kernel_rfl) | (rw [if_neg (by decide +kernel)]; exact ⟨rfl, rfl⟩))
    (fun os started H enc _ => bitsForms_lifted os started H enc)
theorem bitsForms_holds : Rows.BitsFormsSaid := bitsForms_over
#print axioms bitsForms_holds
end Go.Proofs.Ytmeampigomhdpaa
