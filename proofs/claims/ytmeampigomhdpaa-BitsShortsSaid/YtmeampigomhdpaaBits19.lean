/- The statement BitsShorts of layer 1 (bits), proved; no condition: the law's walk, and the row round it. -/
import Derived.Test.YtmeampigomhdpaaBits17
import Derived.Test.YtmeampigomhdpaaBits8
namespace Go.Proofs.Ytmeampigomhdpaa
open Go.ChangeShapes Go.WideShapes Go.ChangeAt Go.RowKit Go.Deep
set_option linter.unusedVariables false
set_option linter.unusedSimpArgs false
theorem shortB_len (n : Nat) : (shortB n).length ≤ 10 := shortF_len 9 n
attribute [local irreducible] shortB
set_option maxRecDepth 100000 in
set_option maxHeartbeats 2000000 in
theorem law_shorts (n : Nat) (hn : n < 18446744073709551616) (v : Value) (l : List Nat) (hx : ∀ x ∈ l, x < 256) (w : World) (hs : Sl w 1 l.length v (elB l)) :
    Calls Try.prog 9 #[v, .int .u64 (n : Int)] w (Ret fun v w' => v = .bool true ∧ Below w.heap.size w w') := by
  have H := St.init w
  have hs' := hs
  obtain ⟨ad, c, rfl, hml⟩ := hs'.len
  have HN := Lib.hid hn
  have HX := Lib.hid hx
  clear hn hx
  obtain ⟨⟨a, b, z⟩, hg⟩ : ∃ r, gs l 10 0 0 = r := ⟨_, rfl⟩
  have HG := Lib.hid hg
  clear hg
  have n10 : (shortB n).length ≤ 10 := shortB_len n
  have hl2 : (l ++ shortB n).length = l.length + (shortB n).length := List.length_append
  have HL := Lib.hid hl2
  clear hl2
  go_enter Try.func9, Try.ntmps9
  by_cases h20 : 2000 < l.length
  · go_wp2_with (first | (go_at_call 13; refine (awake_ok _).mono ?_; rintro e w1 ⟨v, rfl, hr⟩; obtain ⟨rfl, hb1⟩ := hr; replace H := H.grow hb1; clear hb1))
    go_ret
    exact ⟨_, rfl, rfl, H.below⟩
  · go_wp2_with (first | (go_at_call 13; refine (awake_ok _).mono ?_; rintro e w1 ⟨v, rfl, hr⟩; obtain ⟨rfl, hb1⟩ := hr; replace H := H.grow hb1; clear hb1) | (go_at_call 14; refine (lent_ok _ l (by omega) _ (hs.grow H.below)).mono ?_; rintro e w1 ⟨v, rfl, hr⟩; obtain ⟨g0, rfl, hg, hge, hb1⟩ := hr; replace H := H.new hb1 (row_sound hg) (fun k hk => by cases hk; exact hge); clear hb1 hg hge) | (go_at_call 29; refine (putshort_ok _ l n HN.out (by omega) _ (lent_sl (H.getRow (by repeat (first | exact List.mem_cons_self | apply List.mem_cons_of_mem))) (by omega))).mono ?_; rintro e w1 ⟨v, rfl, hr⟩; obtain ⟨⟨ap, cp, rfl⟩, ho, hb1⟩ := hr; replace H := H.new hb1 (slc_sound ho) (fun g hg => (ho.lt g hg).1); clear hb1 ho; simp only [List.length_append] at H) | (go_at_call 30; refine (getshort_ok _ l (by omega) HX.out _ (lent_sl (H.getRow (t := 5) (List.mem_cons_of_mem _ List.mem_cons_self)) (by omega)) a b z HG.out).mono ?_; rintro e w1 ⟨v, rfl, hr⟩; obtain ⟨rfl, hb1⟩ := hr; replace H := H.grow hb1; clear hb1) | (go_at_call 31; refine (rgetshort_ok _ l (by omega) HX.out _ (hs.grow H.below) a b z HG.out).mono ?_; rintro e w1 ⟨v, rfl, hr⟩; obtain ⟨rfl, hb1⟩ := hr; replace H := H.grow hb1; clear hb1) | (with_reducible refine wpl rfl (Stp.bsl0 (e := 5) 35 rfl rfl (fun W => by kernel_rfl) H ?_); clear H; intro a35 c35 w1 H; simp only [Act.put, List.setIfInBounds_toArray, List.set_cons_zero, List.set_cons_succ]; (try simp only [Nat.zero_add, List.nil_append] at H ⊢)) | (with_reducible refine wpl rfl (Stp.apps 37 rfl rfl Try.underlying22 info5 rfl (by decide) rfl rfl H (fun _ => (by repeat (first | exact Upd.head | apply Upd.tail))) (by rw [bv_len, Nat.mul_one]) (hs.grow H.below).src (bv_one l) (by unfold maxLen; omega) (by omega) ?_); clear H; intro a37 c37 w1 H; simp only [Act.put, List.setIfInBounds_toArray, List.set_cons_zero, List.set_cons_succ]; (try simp only [Nat.zero_add, List.nil_append] at H ⊢)) | (go_at_call 32; refine (rshort_ok n HN.out _).mono ?_; rintro e w1 ⟨v, rfl, hr⟩; obtain ⟨⟨aq, cq, rfl⟩, ho, hb1⟩ := hr; replace H := H.new hb1 (slc_sound ho) (fun g hg => (ho.lt g hg).1); clear hb1 ho) | (with_reducible refine wpl rfl (Stp.apps 40 rfl rfl Try.underlying22 info5 rfl (by decide) rfl rfl H (fun _ => (by repeat (first | exact Upd.head | apply Upd.tail))) (by rw [bv_len, Nat.mul_one]) (own_src (H.getSlc (by repeat (first | exact List.mem_cons_self | apply List.mem_cons_of_mem)))) (bv_one (shortB n)) (by unfold maxLen; omega) (by omega) ?_); clear H; intro a40 c40 w1 H; simp only [Act.put, List.setIfInBounds_toArray, List.set_cons_zero, List.set_cons_succ]; rw [bv_app] at H))
    have s1 := own_slk (l := l ++ shortB n) (H.getSlc (v := .slice ap (l.length + (shortB n).length) cp) (n := l.length + (shortB n).length) (xs := bv (l ++ shortB n)) (by repeat (first | exact List.mem_cons_self | apply List.mem_cons_of_mem))) HL.out.symm (by rw [List.length_append]; omega)
    have s2 := own_slk (l := l ++ shortB n) (H.getSlc (v := .slice a40 (l.length + (shortB n).length) c40) (n := l.length + (shortB n).length) (xs := bv (l ++ shortB n)) (by repeat (first | exact List.mem_cons_self | apply List.mem_cons_of_mem))) HL.out.symm (by rw [List.length_append]; omega)
    refine (same_ok _ _ (l ++ shortB n) (l ++ shortB n) _ s1 s2).mono ?_
    rintro e w1 ⟨v, rfl, rfl, hb1⟩
    replace H := H.grow hb1
    clear hb1 s1 s2
    rw [beq_self_eq_true]
    go_wp2_with (first | (go_at_call 13; refine (awake_ok _).mono ?_; rintro e w1 ⟨v, rfl, hr⟩; obtain ⟨rfl, hb1⟩ := hr; replace H := H.grow hb1; clear hb1) | (go_at_call 19; refine (kept_ok _ l l g0 (by omega) _ (H.getHeap (by repeat (first | exact List.mem_cons_self | apply List.mem_cons_of_mem))) (hs.grow H.below)).mono ?_; rintro e w1 ⟨v, rfl, hr⟩; obtain ⟨rfl, hb1⟩ := hr; replace H := H.grow hb1; clear hb1; rw [beq_self_eq_true]))
    go_ret
    exact ⟨_, rfl, rfl, H.below⟩
set_option maxRecDepth 100000 in
theorem bitsShorts_lifted (os : Os) (started : os.Started) (H : Type) (enc : TypeId × Value → H) :
    ReturnsInHanded {} Try.checked os 9 .any (Rows.bitsShortsSpec.pre6 enc Try.prog Try.f9 Rows.bitsShortsRow.domain false) (Rows.bitsShortsSpec.post enc Try.prog Try.f9 false true false false) := by
  refine law_lifted (C := Try.checked) own started (by kernel_rfl) Try.func9 laidOut rfl Try.underlying4 rfl (by kernel_rfl) (fun ds hd => ?_)
    (ChangeSpec.witness6 (enc := enc) (C := Try.checked) false ⟨#[], #[.slice none 0 0, .int .u64 0], []⟩ 8 (by kernel_rfl) (by kernel_rfl) (by kernel_rfl) (by kernel_rfl)) ?_
  · match ds, hd with
    | [d0, d1], _ => exact ⟨rfl, rfl, rfl⟩
  intro W base args ds p hval hA
  rw [Try.params9] at hA hval
  obtain ⟨v0, vs0, d0, ds0, p0, q0, hargs, rfl, rfl, h0, r0⟩ := trodAll_cons hA
  obtain ⟨v1, vs1, d1, ds1, p1, q1, rfl, rfl, rfl, h1, r1⟩ := trodAll_cons r0
  obtain ⟨rfl, rfl, rfl⟩ := trodAll_nil r1
  obtain rfl : args = #[v0, v1] := by cases args; simp_all
  obtain ⟨l, lb, hs⟩ := open_bs (hval 0 22 v0 rfl rfl) h0
  obtain ⟨n, rfl, _, _, nw⟩ := open_int Try.underlying23 (hval 1 23 v1 rfl rfl) h1
  exact by obtain ⟨k, rfl, hk⟩ := nat_u64 nw; exact law_shorts k hk _ l lb W hs
theorem bitsShorts_over : Rows.bitsShortsRow.holds Try.pinned (OpenSpec.ofChange Rows.bitsShortsSpec) :=
  OpenClaim.holds_of_wide 9 Try.f9 rfl rfl rfl rfl rfl rfl rfl ⟨rfl, rfl, rfl, rfl, rfl⟩ rfl rfl rfl rfl rfl (by kernel_rfl) Try.func9 (by kernel_rfl)
    (of_decide_eq_true (by kernel_rfl)) (by unfold Func.isWrapper; first | (rw [if_pos (by decide +kernel)]; kernel_rfl) | (rw [if_neg (by decide +kernel)]; exact ⟨rfl, rfl⟩))
    (fun os started H enc _ => bitsShorts_lifted os started H enc)
theorem bitsShorts_holds : Rows.BitsShortsSaid := bitsShorts_over
#print axioms bitsShorts_holds
end Go.Proofs.Ytmeampigomhdpaa
