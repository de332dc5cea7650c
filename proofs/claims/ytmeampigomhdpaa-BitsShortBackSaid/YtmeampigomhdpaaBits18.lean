/- The statement BitsShortBack of layer 1 (bits), proved; no condition: the law's walk, and the row round it. -/
import Derived.Test.YtmeampigomhdpaaBits17
import Derived.Test.YtmeampigomhdpaaBits8
namespace Go.Proofs.Ytmeampigomhdpaa
open Go.ChangeShapes Go.WideShapes Go.ChangeAt Go.RowKit Go.Deep
set_option linter.unusedVariables false
set_option linter.unusedSimpArgs false
theorem putshort_nil (n : Nat) (hn : n < 18446744073709551616) (w : World) :
    Calls Try.prog 29 #[.slice none 0 0, .int .u64 (n : Int)] w (Ret fun v' w' => (∃ ap cp, v' = .slice ap (shortB n).length cp) ∧ w'.ownsRow w.heap.size 5 1 v' (shortB n).length (bv (shortB n)) ∧ Below w.heap.size w w') := by
  have hnil : Sl w 1 ([] : List Nat).length (.slice none 0 0) (elB []) := ⟨_, _, rfl, by simp [maxLen], fun h => absurd h (Nat.lt_irrefl _)⟩
  have := putshort_ok _ [] n hn (by simp) w hnil
  simpa using this
theorem shortF_byte : ∀ (f n x : Nat), x ∈ shortF f n → x < 256
  | 0, n, x, h => by simp [shortF] at h; omega
  | f + 1, n, x, h => by
    unfold shortF at h
    split at h
    · simp at h; omega
    · rcases List.mem_cons.1 h with rfl | h
      · omega
      · exact shortF_byte f _ x h
set_option maxRecDepth 100000 in
set_option maxHeartbeats 4000000 in
theorem law_shortback (n m : Nat) (hn : n < 18446744073709551616) (hm : m < 18446744073709551616) (v : Value) (l : List Nat) (hx : ∀ x ∈ l, x < 256) (w : World) (hs : Sl w 1 l.length v (elB l)) :
    Calls Try.prog 10 #[.int .u64 (n : Int), .int .u64 (m : Int), v] w (Ret fun v w' => v = .bool true ∧ Below w.heap.size w w') := by
  have H := St.init w
  have hs' := hs
  obtain ⟨ad, c, rfl, hml⟩ := hs'.len
  have HN := Lib.hid hn
  have HM := Lib.hid hm
  clear hn hm
  have HX : Hid (∀ x ∈ shortB n ++ l, x < 256) := Lib.hid (fun x h => by
    rcases List.mem_append.1 h with h | h
    · exact shortF_byte _ _ _ h
    · exact hx x h)
  clear hx
  have HG := Lib.hid (gs_back n HN.out l)
  have HL : Hid ((shortB n).length + l.length = (shortB n ++ l).length) := Lib.hid (by rw [List.length_append])
  have n10 : (shortB n).length ≤ 10 := shortF_len 9 n
  go_enter Try.func10, Try.ntmps10
  by_cases h20 : 2000 < l.length
  · go_wp2_with (first | (go_at_call 13; refine (awake_ok _).mono ?_; rintro e w1 ⟨v, rfl, hr⟩; obtain ⟨rfl, hb1⟩ := hr; replace H := H.grow hb1; clear hb1))
    go_ret
    exact ⟨_, rfl, rfl, H.below⟩
  · by_cases hnm : m < n
    · have hi : (m : Int) < (n : Int) := by omega
      go_wp2_with (first | (go_at_call 13; refine (awake_ok _).mono ?_; rintro e w1 ⟨v, rfl, hr⟩; obtain ⟨rfl, hb1⟩ := hr; replace H := H.grow hb1; clear hb1) | (go_at_call 29; refine (putshort_nil _ (by first | exact HN.out | exact HM.out) _).mono ?_; rintro e w1 ⟨v, rfl, hr⟩; obtain ⟨⟨ap, cp, rfl⟩, ho, hb1⟩ := hr; replace H := H.new hb1 (slc_sound ho) (fun g hg => (ho.lt g hg).1); clear hb1 ho) | (with_reducible refine wpl rfl (Stp.bsl0 (e := 5) 19 rfl rfl (fun W => by kernel_rfl) H ?_); clear H; intro a19 c19 w1 H; simp only [Act.put, List.setIfInBounds_toArray, List.set_cons_zero, List.set_cons_succ]; (try simp only [Nat.zero_add, List.nil_append] at H ⊢)) | (with_reducible refine wpl rfl (Stp.apps 21 rfl rfl Try.underlying22 info5 rfl (by decide) rfl rfl H (fun _ => (by repeat (first | exact Upd.head | apply Upd.tail))) (by rw [bv_len, Nat.mul_one]) (own_src (H.getSlc (by repeat (first | exact List.mem_cons_self | apply List.mem_cons_of_mem)))) (bv_one (shortB n)) (by unfold maxLen; omega) (by omega) ?_); clear H; intro a21 c21 w1 H; simp only [Act.put, List.setIfInBounds_toArray, List.set_cons_zero, List.set_cons_succ]; (try simp only [Nat.zero_add, List.nil_append] at H ⊢)) | (with_reducible refine wpl rfl (Stp.apps 23 rfl rfl Try.underlying22 info5 rfl (by decide) rfl rfl H (fun _ => (by repeat (first | exact Upd.head | apply Upd.tail))) (by rw [bv_len, Nat.mul_one]) (hs.grow H.below).src (bv_one l) (by unfold maxLen; omega) (by omega) ?_); clear H; intro a23 c23 w1 H; simp only [Act.put, List.setIfInBounds_toArray, List.set_cons_zero, List.set_cons_succ]; rw [bv_app] at H) | (go_at_call 30; refine (getshort_ok _ (shortB n ++ l) (by rw [List.length_append]; omega) HX.out _ (own_slk (l := shortB n ++ l) (H.getSlc (by repeat (first | exact List.mem_cons_self | apply List.mem_cons_of_mem))) HL.out (by rw [List.length_append]; omega)) n (shortB n).length 0 HG.out).mono ?_; rintro e w1 ⟨v, rfl, hr⟩; obtain ⟨rfl, hb1⟩ := hr; replace H := H.grow hb1; clear hb1))
      go_ret
      exact ⟨_, rfl, rfl, H.below⟩
    · have hi : ¬ (m : Int) < (n : Int) := by omega
      have hle : (shortB n).length ≤ (shortB m).length := short_mono 9 n m (by omega)
      have hlei : ((shortB n).length : Int) ≤ ((shortB m).length : Int) := by omega
      go_wp2_with (first | (go_at_call 13; refine (awake_ok _).mono ?_; rintro e w1 ⟨v, rfl, hr⟩; obtain ⟨rfl, hb1⟩ := hr; replace H := H.grow hb1; clear hb1) | (go_at_call 29; refine (putshort_nil _ (by first | exact HN.out | exact HM.out) _).mono ?_; rintro e w1 ⟨v, rfl, hr⟩; obtain ⟨⟨ap, cp, rfl⟩, ho, hb1⟩ := hr; replace H := H.new hb1 (slc_sound ho) (fun g hg => (ho.lt g hg).1); clear hb1 ho) | (with_reducible refine wpl rfl (Stp.bsl0 (e := 5) 19 rfl rfl (fun W => by kernel_rfl) H ?_); clear H; intro a19 c19 w1 H; simp only [Act.put, List.setIfInBounds_toArray, List.set_cons_zero, List.set_cons_succ]; (try simp only [Nat.zero_add, List.nil_append] at H ⊢)) | (with_reducible refine wpl rfl (Stp.apps 21 rfl rfl Try.underlying22 info5 rfl (by decide) rfl rfl H (fun _ => (by repeat (first | exact Upd.head | apply Upd.tail))) (by rw [bv_len, Nat.mul_one]) (own_src (H.getSlc (by repeat (first | exact List.mem_cons_self | apply List.mem_cons_of_mem)))) (bv_one (shortB n)) (by unfold maxLen; omega) (by omega) ?_); clear H; intro a21 c21 w1 H; simp only [Act.put, List.setIfInBounds_toArray, List.set_cons_zero, List.set_cons_succ]; (try simp only [Nat.zero_add, List.nil_append] at H ⊢)) | (with_reducible refine wpl rfl (Stp.apps 23 rfl rfl Try.underlying22 info5 rfl (by decide) rfl rfl H (fun _ => (by repeat (first | exact Upd.head | apply Upd.tail))) (by rw [bv_len, Nat.mul_one]) (hs.grow H.below).src (bv_one l) (by unfold maxLen; omega) (by omega) ?_); clear H; intro a23 c23 w1 H; simp only [Act.put, List.setIfInBounds_toArray, List.set_cons_zero, List.set_cons_succ]; rw [bv_app] at H) | (go_at_call 30; refine (getshort_ok _ (shortB n ++ l) (by rw [List.length_append]; omega) HX.out _ (own_slk (l := shortB n ++ l) (H.getSlc (by repeat (first | exact List.mem_cons_self | apply List.mem_cons_of_mem))) HL.out (by rw [List.length_append]; omega)) n (shortB n).length 0 HG.out).mono ?_; rintro e w1 ⟨v, rfl, hr⟩; obtain ⟨rfl, hb1⟩ := hr; replace H := H.grow hb1; clear hb1))
      go_ret
      exact ⟨_, rfl, rfl, H.below⟩
set_option maxRecDepth 100000 in
theorem bitsShortBack_lifted (os : Os) (started : os.Started) (H : Type) (enc : TypeId × Value → H) :
    ReturnsInHanded {} Try.checked os 10 .any (Rows.bitsShortBackSpec.pre6 enc Try.prog Try.f10 Rows.bitsShortBackRow.domain false) (Rows.bitsShortBackSpec.post enc Try.prog Try.f10 false true false false) := by
  refine law_lifted (C := Try.checked) own started (by kernel_rfl) Try.func10 laidOut rfl Try.underlying4 rfl (by kernel_rfl) (fun ds hd => ?_)
    (ChangeSpec.witness6 (enc := enc) (C := Try.checked) false ⟨#[], #[.int .u64 0, .int .u64 0, .slice none 0 0], []⟩ 8 (by kernel_rfl) (by kernel_rfl) (by kernel_rfl) (by kernel_rfl)) ?_
  · match ds, hd with
    | [d0, d1, d2], _ => exact ⟨rfl, rfl, rfl⟩
  intro W base args ds p hval hA
  rw [Try.params10] at hA hval
  obtain ⟨v0, vs0, d0, ds0, p0, q0, hargs, rfl, rfl, h0, r0⟩ := trodAll_cons hA
  obtain ⟨v1, vs1, d1, ds1, p1, q1, rfl, rfl, rfl, h1, r1⟩ := trodAll_cons r0
  obtain ⟨v2, vs2, d2, ds2, p2, q2, rfl, rfl, rfl, h2, r2⟩ := trodAll_cons r1
  obtain ⟨rfl, rfl, rfl⟩ := trodAll_nil r2
  obtain rfl : args = #[v0, v1, v2] := by cases args; simp_all
  obtain ⟨n, rfl, _, _, nw⟩ := open_int Try.underlying23 (hval 0 23 v0 rfl rfl) h0
  obtain ⟨m, rfl, _, _, mw⟩ := open_int Try.underlying23 (hval 1 23 v1 rfl rfl) h1
  obtain ⟨l, lb, hs⟩ := open_bs (hval 2 22 v2 rfl rfl) h2
  exact by obtain ⟨k, rfl, hk⟩ := nat_u64 nw; obtain ⟨j, rfl, hj⟩ := nat_u64 mw; exact law_shortback k j hk hj _ l lb W hs
theorem bitsShortBack_over : Rows.bitsShortBackRow.holds Try.pinned (OpenSpec.ofChange Rows.bitsShortBackSpec) :=
  OpenClaim.holds_of_wide 10 Try.f10 rfl rfl rfl rfl rfl rfl rfl ⟨rfl, rfl, rfl, rfl, rfl⟩ rfl rfl rfl rfl rfl (by kernel_rfl) Try.func10 (by kernel_rfl)
    (of_decide_eq_true (by kernel_rfl)) (by unfold Func.isWrapper; first | (rw [if_pos (by decide +kernel)]; kernel_rfl) | (rw [if_neg (by decide +kernel)]; exact ⟨rfl, rfl⟩))
    (fun os started H enc _ => bitsShortBack_lifted os started H enc)
theorem bitsShortBack_holds : Rows.BitsShortBackSaid := bitsShortBack_over
#print axioms bitsShortBack_holds
end Go.Proofs.Ytmeampigomhdpaa
