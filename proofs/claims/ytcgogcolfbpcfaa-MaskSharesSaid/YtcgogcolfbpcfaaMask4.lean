/- The statement MaskMeet of layer 5 (mask), proved; no condition: the law's walk, and the row round it. -/
import Derived.Test.YtcgogcolfbpcfaaMask3
import Derived.Test.YtcgogcolfbpcfaaLaw
namespace Go.Proofs.Ytcgogcolfbpcfaa
open Go.ChangeShapes Go.WideShapes Go.ChangeAt Go.RowKit Go.Deep
set_option linter.unusedVariables false
set_option linter.unusedSimpArgs false
theorem ones_pop : ∀ (f k : Nat), k ≤ f → pop f (2 ^ k - 1) = k
  | 0, k, h => by obtain rfl : k = 0 := by omega
                  rfl
  | f + 1, 0, _ => by
    have := ones_pop f 0 (by omega)
    simpa [pop] using this
  | f + 1, k + 1, h => by
    have h2 := Nat.two_pow_pos k
    have e : 2 ^ (k + 1) = 2 * 2 ^ k := by rw [Nat.pow_succ, Nat.mul_comm]
    simp only [pop]
    rw [show (2 ^ (k + 1) - 1) / 2 = 2 ^ k - 1 by omega, ones_pop f k (by omega), show (2 ^ (k + 1) - 1) % 2 = 1 by omega]
    omega
theorem low_pop (n : Int) : pop 64 (low n) = min n.toNat 64 := ones_pop 64 _ (by omega)
theorem meet_and (a b c : Nat) : (a &&& c) &&& (b &&& c) = (a &&& b) &&& c := by
  refine Nat.eq_of_testBit_eq fun i => ?_
  simp only [Nat.testBit_and]
  cases a.testBit i <;> cases b.testBit i <;> cases c.testBit i <;> rfl
theorem meet_or (a b c : Nat) : ((a &&& c) ||| (b &&& c)) &&& c = (a &&& c) ||| (b &&& c) := by
  refine Nat.eq_of_testBit_eq fun i => ?_
  simp only [Nat.testBit_and, Nat.testBit_or]
  cases a.testBit i <;> cases b.testBit i <;> cases c.testBit i <;> rfl
theorem meet_one (a b c : Nat) : pop 64 (a &&& c) + pop 64 (b &&& c) ≤ pop 64 ((a &&& b) &&& c) + pop 64 c := by
  have h1 := pop_split 64 (a &&& c) (b &&& c)
  have h2 := pop_mono 64 _ _ (meet_or a b c)
  rw [meet_and] at h1
  omega
theorem meet (a1 a2 b1 b2 : Nat) (n : Int) (hn : 1 ≤ n) (hn2 : n ≤ 128) (ha : majM a1 a2 n = true) (hb : majM b1 b2 n = true) :
    0 < pop 64 ((a1 &&& b1) &&& low n) + pop 64 ((a2 &&& b2) &&& low (n - 64)) := by
  unfold majM at ha hb
  simp only [decide_eq_true_eq] at ha hb
  have h1 := meet_one a1 b1 (low n)
  have h2 := meet_one a2 b2 (low (n - 64))
  rw [low_pop] at h1 h2
  omega
theorem open_M {H : Type} {enc : TypeId × Value → H} {W : World} {base : Nat} {v : Value} {d : DataW H} {p : List MemPlace} (hv : Value.okWide Try.prog W .any base 24 v) (h : DataW.Trod enc Try.prog W 0 (fun _ => true) true 24 v d p) :
    ∃ a b : Nat, v = .agg #[.int .u64 (a : Int), .int .u64 (b : Int)] ∧ a < 18446744073709551616 ∧ b < 18446744073709551616 := by
  have hc : Try.prog.cellsOf 24 = 2 := by kernel_rfl
  have hc1 : Try.prog.cellsOf 22 = 1 := by kernel_rfl
  unfold Value.okWide at hv
  simp only [Try.underlying24] at hv
  obtain ⟨cs, rfl, hs, _⟩ := hv
  obtain ⟨fuel, hf⟩ := h
  obtain ⟨xs, m, _, _, _, hl, hel⟩ := DataW.trod_array Try.underlying24 hf
  rw [hc] at hs
  have key : ∀ i, i < 2 → ∃ z : Nat, cs[i]? = some (.int .u64 (z : Int)) ∧ z < 18446744073709551616 := fun i hi => by
    have hE := hel i hi
    rw [hc1, Nat.mul_one, List.getElem?_eq_getElem (by omega)] at hE
    obtain ⟨z, e1, _, hz⟩ := DataW.trod_int Try.underlying22 hE
    have h0 : (((Value.agg cs).cells.toList.drop i).take 1)[0]? = some (.int .u64 z) := by rw [e1]; rfl
    have hb := bounds_u64 hz
    refine ⟨z.toNat, ?_, by omega⟩
    rw [show ((z.toNat : Nat) : Int) = z by omega]
    simpa [cells_agg] using h0
  obtain ⟨a, ha, la⟩ := key 0 (by omega)
  obtain ⟨b, hb, lb⟩ := key 1 (by omega)
  refine ⟨a, b, ?_, la, lb⟩
  congr 1
  apply Array.ext_getElem?
  intro i
  match i with
  | 0 => rw [ha]; rfl
  | 1 => rw [hb]; rfl
  | i + 2 => rw [Array.getElem?_eq_none (by omega), Array.getElem?_eq_none (by simp)]
theorem nat_u8 {n : Int} (h : (Lit.int .u8 n).wf = true) : ∃ k : Nat, n = k ∧ k < 256 := ⟨n.toNat, by have := bounds_u8 h; omega, by have := bounds_u8 h; omega⟩
attribute [local irreducible] pop low
set_option maxRecDepth 100000 in
set_option maxHeartbeats 1000000 in
theorem law_meet (a1 a2 b1 b2 n : Nat) (ha1 : a1 < 18446744073709551616) (ha2 : a2 < 18446744073709551616) (hb1 : b1 < 18446744073709551616) (hb2 : b2 < 18446744073709551616) (hn : n < 256) (w : World) :
    Calls Try.prog 3 #[.agg #[.int .u64 (a1 : Int), .int .u64 (a2 : Int)], .agg #[.int .u64 (b1 : Int), .int .u64 (b2 : Int)], .int .u8 (n : Int)] w (Ret fun v w' => v = .bool true ∧ Below w.heap.size w w') := by
  have H := St.init w
  obtain ⟨k, hk⟩ : ∃ k, n % 129 = k := ⟨_, rfl⟩
  have hki : (n : Int) % 129 = (k : Int) := by omega
  have hk9 : k < 129 := by omega
  have la1 := Lib.hid ha1
  have la2 := Lib.hid ha2
  have lb1 := Lib.hid hb1
  have lb2 := Lib.hid hb2
  clear ha1 ha2 hb1 hb2 hk
  have hm : ∀ (x y : Nat), Hid (x < 18446744073709551616) → Hid (y < 18446744073709551616) → ∃ r : Bool, (∀ w, Calls Try.prog 8 #[.agg #[.int .u64 (x : Int), .int .u64 (y : Int)], .int .i64 (k : Int)] w (Ret fun v w' => v = .bool r ∧ Below w.heap.size w w')) ∧ (r = true → 0 < k ∧ majM x y (k : Int) = true) := fun x y hx hy => by
    rcases Nat.eq_zero_or_pos k with h | h
    · exact ⟨false, fun w => majority_no x y _ (by omega) w, fun h => by cases h⟩
    · exact ⟨majM x y k, fun w => majority_ok x y k hx.out hy.out (by omega) (by omega) _ rfl w, fun e => ⟨h, e⟩⟩
  obtain ⟨ra, ca, ea⟩ := hm a1 a2 la1 la2
  obtain ⟨rb, cb, eb⟩ := hm b1 b2 lb1 lb2
  have MA := Lib.hid ca
  have MB := Lib.hid cb
  clear hm ca cb
  cases ra
  · clear ea eb
    go_enter Try.func3, Try.ntmps3
    go_wp2_with (first | (go_at_call 9; refine (awake_ok _).mono ?_; rintro e w1 ⟨v, rfl, hr⟩; obtain ⟨rfl, hb1⟩ := hr; replace H := H.grow hb1; clear hb1) | (go_at_call 8; (first | with_reducible refine (MA.out _).mono ?_ | with_reducible refine (MB.out _).mono ?_); rintro e w1 ⟨v, rfl, hr⟩; obtain ⟨rfl, hb1⟩ := hr; replace H := H.grow hb1; clear hb1) | (with_reducible refine wpl rfl (Stp.box 3 rfl rfl rfl H ?_); clear H; intro g3 w1 H; simp only [Act.put, List.setIfInBounds_toArray, List.set_cons_zero, List.set_cons_succ]; simp only [eval_tmp, eval_const, getD_lit0, getD_lits, cells_agg, cells_int, cells_bool, cells_string, cells_pointer, cells_slice, cells_map, List.setIfInBounds_toArray, List.set_cons_zero, List.set_cons_succ] at H) | (with_reducible refine wpl rfl (Stp.box 4 rfl rfl rfl H ?_); clear H; intro g4 w1 H; simp only [Act.put, List.setIfInBounds_toArray, List.set_cons_zero, List.set_cons_succ]; simp only [eval_tmp, eval_const, getD_lit0, getD_lits, cells_agg, cells_int, cells_bool, cells_string, cells_pointer, cells_slice, cells_map, List.setIfInBounds_toArray, List.set_cons_zero, List.set_cons_succ] at H) | (with_reducible refine wpl rfl (Stp.ldr rfl agg24 size24 rfl H (by repeat (first | exact List.mem_cons_self | apply List.mem_cons_of_mem)) (by first | rfl | (simp; done) | assumption) ?_); simp only [Act.put, List.setIfInBounds_toArray, List.set_cons_zero, List.set_cons_succ]) | (with_reducible refine wpl rfl (Stp.ldor rfl agg24 size24 rfl H (by assumption) (by first | rfl | (simp; done) | assumption) (by assumption) ?_); simp only [Act.put, List.setIfInBounds_toArray, List.set_cons_zero, List.set_cons_succ]))
    go_ret
    exact ⟨_, rfl, rfl, H.below⟩
  cases rb
  · clear ea eb
    go_enter Try.func3, Try.ntmps3
    go_wp2_with (first | (go_at_call 9; refine (awake_ok _).mono ?_; rintro e w1 ⟨v, rfl, hr⟩; obtain ⟨rfl, hb1⟩ := hr; replace H := H.grow hb1; clear hb1) | (go_at_call 8; (first | with_reducible refine (MA.out _).mono ?_ | with_reducible refine (MB.out _).mono ?_); rintro e w1 ⟨v, rfl, hr⟩; obtain ⟨rfl, hb1⟩ := hr; replace H := H.grow hb1; clear hb1) | (with_reducible refine wpl rfl (Stp.box 3 rfl rfl rfl H ?_); clear H; intro g3 w1 H; simp only [Act.put, List.setIfInBounds_toArray, List.set_cons_zero, List.set_cons_succ]; simp only [eval_tmp, eval_const, getD_lit0, getD_lits, cells_agg, cells_int, cells_bool, cells_string, cells_pointer, cells_slice, cells_map, List.setIfInBounds_toArray, List.set_cons_zero, List.set_cons_succ] at H) | (with_reducible refine wpl rfl (Stp.box 4 rfl rfl rfl H ?_); clear H; intro g4 w1 H; simp only [Act.put, List.setIfInBounds_toArray, List.set_cons_zero, List.set_cons_succ]; simp only [eval_tmp, eval_const, getD_lit0, getD_lits, cells_agg, cells_int, cells_bool, cells_string, cells_pointer, cells_slice, cells_map, List.setIfInBounds_toArray, List.set_cons_zero, List.set_cons_succ] at H) | (with_reducible refine wpl rfl (Stp.ldr rfl agg24 size24 rfl H (by repeat (first | exact List.mem_cons_self | apply List.mem_cons_of_mem)) (by first | rfl | (simp; done) | assumption) ?_); simp only [Act.put, List.setIfInBounds_toArray, List.set_cons_zero, List.set_cons_succ]) | (with_reducible refine wpl rfl (Stp.ldor rfl agg24 size24 rfl H (by assumption) (by first | rfl | (simp; done) | assumption) (by assumption) ?_); simp only [Act.put, List.setIfInBounds_toArray, List.set_cons_zero, List.set_cons_succ]))
    go_ret
    exact ⟨_, rfl, rfl, H.below⟩
  obtain ⟨k0, ja⟩ := ea rfl
  obtain ⟨_, jb⟩ := eb rfl
  have hmeet := meet a1 a2 b1 b2 k (by omega) (by omega) ja jb
  obtain ⟨p, hp⟩ : ∃ p, pop 64 ((a1 &&& b1) &&& low k) + pop 64 ((a2 &&& b2) &&& low ((k : Int) - 64)) = p := ⟨_, rfl⟩
  rw [hp] at hmeet
  have HP := Lib.hid hp
  have hpi : (0 : Int) < (p : Int) := by omega
  clear ea eb ja jb hp
  go_enter Try.func3, Try.ntmps3
  go_wp2_with (first | (go_at_call 9; refine (awake_ok _).mono ?_; rintro e w1 ⟨v, rfl, hr⟩; obtain ⟨rfl, hb1⟩ := hr; replace H := H.grow hb1; clear hb1) | (go_at_call 8; (first | with_reducible refine (MA.out _).mono ?_ | with_reducible refine (MB.out _).mono ?_); rintro e w1 ⟨v, rfl, hr⟩; obtain ⟨rfl, hb1⟩ := hr; replace H := H.grow hb1; clear hb1) | (go_at_call 11; (first | with_reducible refine (and_ok a1 a2 b1 b2 la1.out la2.out lb1.out lb2.out _).mono ?_ | with_reducible refine (and_ok (a1 &&& b1) (a2 &&& b2) (low (k : Int)) (low ((k : Int) - 64)) (and_lt la1.out) (and_lt la2.out) (low_lt _) (low_lt _) _).mono ?_); rintro e w1 ⟨v, rfl, hr⟩; obtain ⟨rfl, hb1⟩ := hr; replace H := H.grow hb1; clear hb1) | (go_at_call 12; refine (first_ok (k : Int) (by omega) _).mono ?_; rintro e w1 ⟨v, rfl, hr⟩; obtain ⟨rfl, hb1⟩ := hr; replace H := H.grow hb1; clear hb1) | (go_at_call 10; refine (count_ok ((a1 &&& b1) &&& low k) ((a2 &&& b2) &&& low ((k : Int) - 64)) p (and_lt (and_lt la1.out)) (and_lt (and_lt la2.out)) HP.out _).mono ?_; rintro e w1 ⟨v, rfl, hr⟩; obtain ⟨rfl, hb1⟩ := hr; replace H := H.grow hb1; clear hb1) | (with_reducible refine wpl rfl (Stp.box 3 rfl rfl rfl H ?_); clear H; intro g3 w1 H; simp only [Act.put, List.setIfInBounds_toArray, List.set_cons_zero, List.set_cons_succ]; simp only [eval_tmp, eval_const, getD_lit0, getD_lits, cells_agg, cells_int, cells_bool, cells_string, cells_pointer, cells_slice, cells_map, List.setIfInBounds_toArray, List.set_cons_zero, List.set_cons_succ] at H) | (with_reducible refine wpl rfl (Stp.box 4 rfl rfl rfl H ?_); clear H; intro g4 w1 H; simp only [Act.put, List.setIfInBounds_toArray, List.set_cons_zero, List.set_cons_succ]; simp only [eval_tmp, eval_const, getD_lit0, getD_lits, cells_agg, cells_int, cells_bool, cells_string, cells_pointer, cells_slice, cells_map, List.setIfInBounds_toArray, List.set_cons_zero, List.set_cons_succ] at H) | (with_reducible refine wpl rfl (Stp.ldr rfl agg24 size24 rfl H (by repeat (first | exact List.mem_cons_self | apply List.mem_cons_of_mem)) (by first | rfl | (simp; done) | assumption) ?_); simp only [Act.put, List.setIfInBounds_toArray, List.set_cons_zero, List.set_cons_succ]) | (with_reducible refine wpl rfl (Stp.ldor rfl agg24 size24 rfl H (by assumption) (by first | rfl | (simp; done) | assumption) (by assumption) ?_); simp only [Act.put, List.setIfInBounds_toArray, List.set_cons_zero, List.set_cons_succ]))
  go_ret
  exact ⟨_, rfl, rfl, H.below⟩
theorem own : ownKnob Try.prog.godebug = none := by kernel_rfl
theorem laidOut : laidOutB Try.prog = true := by kernel_rfl
set_option maxRecDepth 100000 in
theorem maskMeet_lifted (os : Os) (started : os.Started) (H : Type) (enc : TypeId × Value → H) :
    ReturnsInHanded {} Try.checked os 3 .any (Rows.maskMeetSpec.pre6 enc Try.prog Try.f3 Rows.maskMeetRow.domain false) (Rows.maskMeetSpec.post enc Try.prog Try.f3 false true false false) := by
  refine law_lifted (C := Try.checked) own started (by kernel_rfl) Try.func3 laidOut rfl Try.underlying4 rfl (by kernel_rfl) (fun ds hd => ?_)
    (ChangeSpec.witness6 (enc := enc) (C := Try.checked) false ⟨#[], #[.agg #[.int .u64 0, .int .u64 0], .agg #[.int .u64 0, .int .u64 0], .int .u8 0], []⟩ 8 (by kernel_rfl) (by kernel_rfl) (by kernel_rfl) (by kernel_rfl)) ?_
  · match ds, hd with
    | [d0, d1, d2], _ => exact ⟨rfl, rfl, rfl⟩
  intro W base args ds p hval hA
  rw [Try.params3] at hA hval
  obtain ⟨v0, vs0, d0, ds0, p0, q0, hargs, rfl, rfl, h0, r0⟩ := trodAll_cons hA
  obtain ⟨v1, vs1, d1, ds1, p1, q1, rfl, rfl, rfl, h1, r1⟩ := trodAll_cons r0
  obtain ⟨v2, vs2, d2, ds2, p2, q2, rfl, rfl, rfl, h2, r2⟩ := trodAll_cons r1
  obtain ⟨rfl, rfl, rfl⟩ := trodAll_nil r2
  obtain rfl : args = #[v0, v1, v2] := by cases args; simp_all
  obtain ⟨a1, a2, rfl, a1l, a2l⟩ := open_M (hval 0 24 v0 rfl rfl) h0
  obtain ⟨b1, b2, rfl, b1l, b2l⟩ := open_M (hval 1 24 v1 rfl rfl) h1
  obtain ⟨nq, rfl, _, _, nqw⟩ := open_int Try.underlying5 (hval 2 5 v2 rfl rfl) h2
  exact by obtain ⟨n, rfl, hn⟩ := nat_u8 nqw; exact law_meet a1 a2 b1 b2 n a1l a2l b1l b2l hn W
theorem maskMeet_over : Rows.maskMeetRow.holds Try.pinned (OpenSpec.ofChange Rows.maskMeetSpec) :=
  OpenClaim.holds_of_wide 3 Try.f3 rfl rfl rfl rfl rfl rfl rfl ⟨rfl, rfl, rfl, rfl, rfl⟩ rfl rfl rfl rfl rfl (by kernel_rfl) Try.func3 (by kernel_rfl)
    (of_decide_eq_true (by kernel_rfl)) (by unfold Func.isWrapper; first | (rw [if_pos (by decide +kernel)]; kernel_rfl) | (rw [if_neg (by decide +kernel)]; exact ⟨rfl, rfl⟩))
    (fun os started H enc _ => maskMeet_lifted os started H enc)
theorem maskMeet_holds : Rows.MaskMeetSaid := maskMeet_over
#print axioms maskMeet_holds
end Go.Proofs.Ytcgogcolfbpcfaa
