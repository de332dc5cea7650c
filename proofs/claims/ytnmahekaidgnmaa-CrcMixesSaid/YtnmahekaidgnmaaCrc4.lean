/- The statement CrcMixes of layer 2 (crc), proved; no condition: the law's walk, and the row round it. -/
import Derived.Test.YtnmahekaidgnmaaCrc3
import Derived.Test.YtnmahekaidgnmaaBase3
namespace Go.Proofs.Ytnmahekaidgnmaa
open Go.ChangeShapes Go.WideShapes Go.ChangeAt Go.RowKit Go.Deep
set_option linter.unusedVariables false
set_option linter.unusedSimpArgs false
theorem stepC_xor (x y : Nat) : stepC (x ^^^ y) = stepC x ^^^ stepC y := by
  unfold stepC
  rw [Nat.xor_div_two]
  have hx : x % 2 = 0 ∨ x % 2 = 1 := by omega
  have hy : y % 2 = 0 ∨ y % 2 = 1 := by omega
  have h0 : (x ^^^ y) % 2 = if x % 2 = y % 2 then 0 else 1 := by
    have := xor_bit x y 0
    simpa [Nat.mod_one] using this
  rw [h0]
  rcases hx with e | e <;> rcases hy with f | f <;> simp [e, f]
  · rw [Nat.xor_assoc]
  · rw [Nat.xor_assoc, Nat.xor_assoc, Nat.xor_comm 3988292384]
  · rw [show x / 2 ^^^ 3988292384 ^^^ (y / 2 ^^^ 3988292384) = x / 2 ^^^ y / 2 ^^^ (3988292384 ^^^ 3988292384) by ac_rfl, Nat.xor_self, Nat.xor_zero]
theorem stepsC_xor (x y : Nat) : ∀ k, stepsC k (x ^^^ y) = stepsC k x ^^^ stepsC k y
  | 0 => rfl
  | k + 1 => by
    show stepC _ = stepC _ ^^^ stepC _
    rw [stepsC_xor x y k, stepC_xor]
theorem byteC_xor (x y z p q r : Nat) : byteC (x ^^^ y ^^^ z) (p ^^^ q ^^^ r) = byteC x p ^^^ byteC y q ^^^ byteC z r := by
  unfold byteC
  rw [show x ^^^ y ^^^ z ^^^ (p ^^^ q ^^^ r) = (x ^^^ p) ^^^ (y ^^^ q) ^^^ (z ^^^ r) by ac_rfl, stepsC_xor, stepsC_xor]
/-- Three texts, turned in one another. -/
def mixC (a b c : List Nat) (n : Nat) : List Nat := (List.range n).map fun i => a.getD i 0 ^^^ b.getD i 0 ^^^ c.getD i 0
theorem mixC_snoc (a b c : List Nat) (n : Nat) : mixC a b c (n + 1) = mixC a b c n ++ [a.getD n 0 ^^^ b.getD n 0 ^^^ c.getD n 0] := by simp [mixC, List.range_succ]
theorem mixC_len (a b c : List Nat) (n : Nat) : (mixC a b c n).length = n := by simp [mixC]
theorem mixC_go (a b c : List Nat) : ∀ n, n ≤ a.length → n ≤ b.length → n ≤ c.length → goC 4294967295 (mixC a b c n) = goC 4294967295 (a.take n) ^^^ goC 4294967295 (b.take n) ^^^ goC 4294967295 (c.take n)
  | 0, _, _, _ => by simp [mixC, goC]
  | n + 1, ha, hb, hc => by
    rw [mixC_snoc, goC_snoc, mixC_go a b c n (by omega) (by omega) (by omega), take_snoc a n ha, take_snoc b n hb, take_snoc c n hc, goC_snoc, goC_snoc, goC_snoc, byteC_xor]
theorem mixC_sum (a b c : List Nat) (n : Nat) (ha : n ≤ a.length) (hb : n ≤ b.length) (hc : n ≤ c.length) : sumC (mixC a b c n) = sumC (a.take n) ^^^ sumC (b.take n) ^^^ sumC (c.take n) := by
  unfold sumC
  rw [mixC_go a b c n ha hb hc]
  generalize goC 4294967295 (a.take n) = x
  generalize goC 4294967295 (b.take n) = y
  generalize goC 4294967295 (c.take n) = z
  rw [show x ^^^ 4294967295 ^^^ (y ^^^ 4294967295) ^^^ (z ^^^ 4294967295) = x ^^^ y ^^^ z ^^^ 4294967295 ^^^ (4294967295 ^^^ 4294967295) by ac_rfl, Nat.xor_self, Nat.xor_zero]
theorem fill_zero (n : Nat) : (List.replicate n (Value.int .u8 0)).toArray = (bv (mixC [] [] [] 0 ++ List.replicate (n - 0) 0)).toArray := by simp [bv, mixC]
theorem fill_step (L : List Nat) (n k x : Nat) (hk : k < n) (hL : L.length = k) : (bv (L ++ List.replicate (n - k) 0)).set k (.int .u8 (x : Int)) = bv ((L ++ [x]) ++ List.replicate (n - (k + 1)) 0) := by
  have h2 : List.replicate (n - k) 0 = 0 :: List.replicate (n - (k + 1)) 0 := by
    rw [show n - k = (n - (k + 1)) + 1 by omega, List.replicate_succ]
  rw [h2]
  simp only [bv, List.map_append, List.map_cons, List.map_nil]
  rw [List.set_append, if_neg (by rw [List.length_map, hL]; omega), List.length_map, hL, Nat.sub_self]
  simp
theorem row_slk {w : World} {g m c : Nat} {l : List Nat} (h : rowAt w g = some (bv l).toArray) (hm : m = l.length) (hl : l.length ≤ 1000000) : Sl w 1 l.length (.slice (some ⟨g, 0, none⟩) m c) (elB l) := by
  subst hm; exact row_sl h hl
set_option maxRecDepth 100000 in
set_option maxHeartbeats 16000000 in
theorem law_mixes (va vb vc : Value) (a b c : List Nat) (ab : ∀ x ∈ a, x < 256) (bb : ∀ x ∈ b, x < 256) (cb : ∀ x ∈ c, x < 256) (w : World) (sa : Sl w 1 a.length va (elB a)) (sb : Sl w 1 b.length vb (elB b)) (sc : Sl w 1 c.length vc (elB c))
    (ac : ∀ (x : Option Addr) (n c : Nat), va = .slice x n c → n ≤ c) (bc : ∀ (x : Option Addr) (n c : Nat), vb = .slice x n c → n ≤ c) (cc : ∀ (x : Option Addr) (n c : Nat), vc = .slice x n c → n ≤ c) :
    Calls Try.prog 4 #[va, vb, vc] w (Ret fun v w' => v = .bool true ∧ Below w.heap.size w w') := by
  have H := St.init w
  have sa' := sa
  have sb' := sb
  have sc' := sc
  obtain ⟨pa, ca, rfl, hma⟩ := sa'.len
  obtain ⟨pb, cb', rfl, hmb⟩ := sb'.len
  obtain ⟨pc, cc', rfl, hmc⟩ := sc'.len
  have hca := ac _ _ _ rfl
  have hcb := bc _ _ _ rfl
  have hcc := cc _ _ _ rfl
  have HA := Lib.hid ab
  have HB := Lib.hid bb
  have HC := Lib.hid cb
  clear ac bc cc ab bb cb
  obtain ⟨n, hn⟩ : ∃ n, min (min a.length b.length) c.length = n := ⟨_, rfl⟩
  have hna : n ≤ a.length := by omega
  have hnb : n ≤ b.length := by omega
  have hnc : n ≤ c.length := by omega
  have hE : (if (c.length : Int) < (if b.length < a.length then (b.length : Int) else (a.length : Int)) then (c.length : Int) else (if b.length < a.length then (b.length : Int) else (a.length : Int))) = (n : Int) := by
    split <;> split at * <;> omega
  clear hn
  go_enter Try.func4, Try.ntmps4
  by_cases h10 : 1000 < n
  · go_wp2_with (first | (go_at_call 8; refine (awake_ok _).mono ?_; rintro e w1 ⟨v, rfl, hr⟩; obtain ⟨rfl, hb1⟩ := hr; replace H := H.grow hb1; clear hb1))
    go_ret
    exact ⟨_, rfl, rfl, H.below⟩
  · have n10 : (n : Int) ≤ 1000 := by omega
    go_wp2_with (first | (go_at_call 8; refine (awake_ok _).mono ?_; rintro e w1 ⟨v, rfl, hr⟩; obtain ⟨rfl, hb1⟩ := hr; replace H := H.grow hb1; clear hb1) | (with_reducible refine wpl rfl (Stp.mkr 21 rfl rfl Try.underlying22 info5 rfl rfl rfl (by omega) (by omega) (by omega) (by omega) H ?_); clear H; intro g21 w1 H; simp only [Act.put, List.setIfInBounds_toArray, List.set_cons_zero, List.set_cons_succ]; (try simp only [Int.toNat_natCast, toNat_add8] at H ⊢)))
    have hw0 := fill_zero n
    rw [hw0] at H
    go_loopw [9] (fun i wr => ∃ k : Nat, k ≤ n ∧ i = .int .i64 (k : Int) ∧ St w.heap.size w wr [row 5 g21 (bv (mixC a b c k ++ List.replicate (n - k) 0)).toArray]) (fun i _ => n - (intOf i).toNat)
    case atStart => exact ⟨0, Nat.zero_le _, rfl, H⟩
    case round =>
      clear H hw0
      obtain ⟨k, hk, rfl, H⟩ := hrel
      by_cases hlt : k < n
      · have hka : k < a.length := by omega
        have hkb : k < b.length := by omega
        have hkc : k < c.length := by omega
        have hsz : k < (bv (mixC a b c k ++ List.replicate (n - k) 0)).toArray.size := by simp [bv, mixC_len]; omega
        obtain ⟨b1, o1, rfl, hb1, hc1⟩ := sa.byte hka
        obtain ⟨b2, o2, rfl, hb2, hc2⟩ := sb.byte hkb
        obtain ⟨b3, o3, rfl, hb3, hc3⟩ := sc.byte hkc
        have hfs := fill_step (mixC a b c k) n k (a.getD k 0 ^^^ b.getD k 0 ^^^ c.getD k 0) hlt (mixC_len a b c k)
        rw [← mixC_snoc] at hfs
        have x8 := getD_byte HA.out k
        have y8 := getD_byte HB.out k
        have z8 := getD_byte HC.out k
        revert hc1 hc2 hc3 hfs x8 y8 z8
        generalize a.getD k 0 = x
        generalize b.getD k 0 = y
        generalize c.getD k 0 = z
        intro hc1 hc2 hc3 hfs x8 y8 z8
        have e1 := bits_xor_u8 x y x8 y8
        have e2 := bits_xor_u8 (x ^^^ y) z (Nat.xor_lt_two_pow (n := 8) x8 y8) z8
        have HF := Lib.hid hfs
        clear hfs
        go_wp2_with fail
        refine tl_begin 17 (by kernel_rfl) (by kernel_rfl) ?_
        replace H := H.drew
        simp only [List.take_succ_cons, List.take_zero, List.drop_succ_cons, List.drop_zero]
        refine tl_take (Yld.move (S := fun _ => True) rfl rfl) trivial ?_; simp only [Act.put, eval_tmp, eval_const, getD_lit0, getD_lits, if_true, if_false, List.setIfInBounds_toArray, List.set_cons_zero, List.set_cons_succ]
        refine tl_take (Yld.move (S := fun _ => True) rfl rfl) trivial ?_; simp only [Act.put, eval_tmp, eval_const, getD_lit0, getD_lits, if_true, if_false, List.setIfInBounds_toArray, List.set_cons_zero, List.set_cons_succ]
        refine tl_take (Yld.move (S := fun _ => True) rfl rfl) trivial ?_; simp only [Act.put, eval_tmp, eval_const, getD_lit0, getD_lits, if_true, if_false, List.setIfInBounds_toArray, List.set_cons_zero, List.set_cons_succ]
        refine tl_take (Yld.move (S := fun _ => True) rfl rfl) trivial ?_; simp only [Act.put, eval_tmp, eval_const, getD_lit0, getD_lits, if_true, if_false, List.setIfInBounds_toArray, List.set_cons_zero, List.set_cons_succ]
        refine tl_take (Yld.of (S := fun _ => True) rfl (fun W _ => by go_simp; first | done | with_reducible rfl)) trivial ?_; simp only [Act.put, List.setIfInBounds_toArray, List.set_cons_zero, List.set_cons_succ]
        first | (refine tl_take (Yld.ldc rfl rfl agg5 rfl (by repeat (first | exact List.mem_cons_self | apply List.mem_cons_of_mem)) (by first | (repeat (first | exact lit0 _ _ | apply lits)) | rfl | assumption)) H ?_; simp only [Act.put, List.setIfInBounds_toArray, List.set_cons_zero, List.set_cons_succ]) | (refine tl_take (Yld.ldo rfl rfl agg5 rfl (by assumption) (by assumption)) H ?_; simp only [Act.put, List.setIfInBounds_toArray, List.set_cons_zero, List.set_cons_succ])
        refine tl_take (Yld.move (S := fun _ => True) rfl rfl) trivial ?_; simp only [Act.put, eval_tmp, eval_const, getD_lit0, getD_lits, if_true, if_false, List.setIfInBounds_toArray, List.set_cons_zero, List.set_cons_succ]
        refine tl_take (Yld.move (S := fun _ => True) rfl rfl) trivial ?_; simp only [Act.put, eval_tmp, eval_const, getD_lit0, getD_lits, if_true, if_false, List.setIfInBounds_toArray, List.set_cons_zero, List.set_cons_succ]
        refine tl_take (Yld.of (S := fun _ => True) rfl (fun W _ => by go_simp; first | done | with_reducible rfl)) trivial ?_; simp only [Act.put, List.setIfInBounds_toArray, List.set_cons_zero, List.set_cons_succ]
        first | (refine tl_take (Yld.ldc rfl rfl agg5 rfl (by repeat (first | exact List.mem_cons_self | apply List.mem_cons_of_mem)) (by first | (repeat (first | exact lit0 _ _ | apply lits)) | rfl | assumption)) H ?_; simp only [Act.put, List.setIfInBounds_toArray, List.set_cons_zero, List.set_cons_succ]) | (refine tl_take (Yld.ldo rfl rfl agg5 rfl (by assumption) (by assumption)) H ?_; simp only [Act.put, List.setIfInBounds_toArray, List.set_cons_zero, List.set_cons_succ])
        refine tl_take (Yld.of (S := fun _ => True) rfl (fun W _ => by go_simp; first | done | with_reducible rfl)) trivial ?_; simp only [Act.put, List.setIfInBounds_toArray, List.set_cons_zero, List.set_cons_succ]
        refine tl_take (Yld.move (S := fun _ => True) rfl rfl) trivial ?_; simp only [Act.put, eval_tmp, eval_const, getD_lit0, getD_lits, if_true, if_false, List.setIfInBounds_toArray, List.set_cons_zero, List.set_cons_succ]
        refine tl_take (Yld.move (S := fun _ => True) rfl rfl) trivial ?_; simp only [Act.put, eval_tmp, eval_const, getD_lit0, getD_lits, if_true, if_false, List.setIfInBounds_toArray, List.set_cons_zero, List.set_cons_succ]
        refine tl_take (Yld.of (S := fun _ => True) rfl (fun W _ => by go_simp; first | done | with_reducible rfl)) trivial ?_; simp only [Act.put, List.setIfInBounds_toArray, List.set_cons_zero, List.set_cons_succ]
        first | (refine tl_take (Yld.ldc rfl rfl agg5 rfl (by repeat (first | exact List.mem_cons_self | apply List.mem_cons_of_mem)) (by first | (repeat (first | exact lit0 _ _ | apply lits)) | rfl | assumption)) H ?_; simp only [Act.put, List.setIfInBounds_toArray, List.set_cons_zero, List.set_cons_succ]) | (refine tl_take (Yld.ldo rfl rfl agg5 rfl (by assumption) (by assumption)) H ?_; simp only [Act.put, List.setIfInBounds_toArray, List.set_cons_zero, List.set_cons_succ])
        refine tl_take (Yld.of (S := fun _ => True) rfl (fun W _ => by go_simp; first | done | with_reducible rfl)) trivial ?_; simp only [Act.put, List.setIfInBounds_toArray, List.set_cons_zero, List.set_cons_succ]
        refine tl_take (Yld.of (S := fun _ => True) rfl (fun W _ => by go_simp; first | done | with_reducible rfl)) trivial ?_; simp only [Act.put, List.setIfInBounds_toArray, List.set_cons_zero, List.set_cons_succ]
        refine wpStill_nil ?_
        go_wp2_with (first | (with_reducible refine wpl rfl (Stp.ldc rfl agg5 rfl H (by repeat (first | exact List.mem_cons_self | apply List.mem_cons_of_mem)) (by first | (repeat (first | exact lit0 _ _ | apply lits)) | rfl | assumption) ?_); simp only [Act.put, List.setIfInBounds_toArray, List.set_cons_zero, List.set_cons_succ]) | (with_reducible refine wpl rfl (Stp.ldo rfl agg5 rfl H (by assumption) (by assumption) ?_); simp only [Act.put, List.setIfInBounds_toArray, List.set_cons_zero, List.set_cons_succ]) | (with_reducible refine wpl rfl (Stp.stc rfl size5 rfl rfl rfl rfl H (by repeat (first | exact Upd.head | apply Upd.tail)) (by first | omega | (simp; done) | (simp; omega)) ?_); clear H; intro w1 H; simp only [Act.put, List.setIfInBounds_toArray, List.set_cons_zero, List.set_cons_succ]; simp only [eval_tmp, eval_const, getD_lit0, getD_lits, cells_agg, cells_int, cells_bool, cells_string, cells_pointer, cells_slice, cells_map, List.setIfInBounds_toArray, List.set_cons_zero, List.set_cons_succ] at H))
        go_roundw
        case rel => exact ⟨k + 1, by omega, by go_num, by rw [HF.out] at H; exact H⟩
        case measure => simp [intOf]; omega
      · obtain rfl : k = n := by omega
        rw [Nat.sub_self, List.replicate_zero, List.append_nil] at H
        have kl := mixC_sum a b c k hna hnb hnc
        have HMX : Hid (∀ x ∈ mixC a b c k, x < 256) := Lib.hid (fun x hx => by
          obtain ⟨i, _, rfl⟩ := List.mem_map.1 hx
          exact Nat.xor_lt_two_pow (n := 8) (Nat.xor_lt_two_pow (n := 8) (getD_byte HA.out i) (getD_byte HB.out i)) (getD_byte HC.out i))
        have HTA := Lib.hid (fun x (hm : x ∈ a.take k) => HA.out x (List.mem_of_mem_take hm))
        have HTB := Lib.hid (fun x (hm : x ∈ b.take k) => HB.out x (List.mem_of_mem_take hm))
        have HTC := Lib.hid (fun x (hm : x ∈ c.take k) => HC.out x (List.mem_of_mem_take hm))
        have ta : (a.take k).length ≤ 1000000 := by rw [List.length_take]; omega
        have tb : (b.take k).length ≤ 1000000 := by rw [List.length_take]; omega
        have tc : (c.take k).length ≤ 1000000 := by rw [List.length_take]; omega
        have td : (mixC a b c k).length ≤ 1000000 := by rw [mixC_len]; omega
        have la := sumC_lt HTA.out
        have lb := sumC_lt HTB.out
        have lc := sumC_lt HTC.out
        obtain ⟨SA, hSA⟩ : ∃ s, sumC (a.take k) = s := ⟨_, rfl⟩
        obtain ⟨SB, hSB⟩ : ∃ s, sumC (b.take k) = s := ⟨_, rfl⟩
        obtain ⟨SC, hSC⟩ : ∃ s, sumC (c.take k) = s := ⟨_, rfl⟩
        rw [hSA, hSB, hSC] at kl
        rw [hSA] at la
        rw [hSB] at lb
        rw [hSC] at lc
        have e1 := bits_xor_u32 SA SB la lb
        have e2 := bits_xor_u32 (SA ^^^ SB) SC (xor32 la lb) lc
        have HSA := Lib.hid hSA
        have HSB := Lib.hid hSB
        have HSC := Lib.hid hSC
        have HSD := Lib.hid kl
        have kca : (k : Int) ≤ (ca : Int) := by omega
        have kcb : (k : Int) ≤ (cb' : Int) := by omega
        have kcc : (k : Int) ≤ (cc' : Int) := by omega
        clear hSA hSB hSC kl
        have kD : Hid (∀ (W : World) (g : Nat), rowAt W g = some #[.slice (some ⟨g21, 0, none⟩) k k] → rowAt W g21 = some (bv (mixC a b c k)).toArray → Calls Try.prog 12 #[.slice (some ⟨g, 0, none⟩) 1 1] W (Ret fun v w' => v = .int .u32 ((SA ^^^ SB ^^^ SC : Nat) : Int) ∧ Below W.heap.size W w')) := Lib.hid (fun W g h h2 => one_as (.slice (some ⟨g21, 0, none⟩) k k) _ (mixC a b c k) td HMX.out (SA ^^^ SB ^^^ SC) HSD.out _ (one_part h) (row_slk h2 (mixC_len a b c k).symm td))
        have KD := kD
        clear kD
        have kA : Hid (∀ (W : World) (g : Nat), rowAt W g = some #[.slice pa k ca] → Below w.heap.size w W → Calls Try.prog 12 #[.slice (some ⟨g, 0, none⟩) 1 1] W (Ret fun v w' => v = .int .u32 ((SA : Nat) : Int) ∧ Below W.heap.size W w')) := Lib.hid (fun W g h h2 => one_as (.slice pa k ca) _ (a.take k) ta HTA.out (SA) HSA.out _ (one_part h) (sl_take k _ (sa.grow h2) hna))
        have KA := kA
        clear kA
        have kB : Hid (∀ (W : World) (g : Nat), rowAt W g = some #[.slice pb k cb'] → Below w.heap.size w W → Calls Try.prog 12 #[.slice (some ⟨g, 0, none⟩) 1 1] W (Ret fun v w' => v = .int .u32 ((SB : Nat) : Int) ∧ Below W.heap.size W w')) := Lib.hid (fun W g h h2 => one_as (.slice pb k cb') _ (b.take k) tb HTB.out (SB) HSB.out _ (one_part h) (sl_take k _ (sb.grow h2) hnb))
        have KB := kB
        clear kB
        have kC : Hid (∀ (W : World) (g : Nat), rowAt W g = some #[.slice pc k cc'] → Below w.heap.size w W → Calls Try.prog 12 #[.slice (some ⟨g, 0, none⟩) 1 1] W (Ret fun v w' => v = .int .u32 ((SC : Nat) : Int) ∧ Below W.heap.size W w')) := Lib.hid (fun W g h h2 => one_as (.slice pc k cc') _ (c.take k) tc HTC.out (SC) HSC.out _ (one_part h) (sl_take k _ (sc.grow h2) hnc))
        have KC := kC
        clear kC
        go_wp2_with fail
        refine cut (fun a0 a' w' => a'.tmps.getD 6 undef = .bool true ∧ a'.defers = [] ∧ Below w.heap.size w w') ?_ ?_
        · refine rg_begin 25 rfl (S := fun _ => True) (by kernel_rfl) trivial ?_
          replace H := H.drew
          refine rt 0 rfl (Yld.move rfl rfl) trivial ?_; simp only [putE]
          refine rt 3 rfl (Yld.move rfl rfl) trivial ?_; simp only [putE]
          refine rt 4 rfl (Yld.move rfl rfl) trivial ?_; simp only [putE]
          refine rt 5 rfl (Yld.of rfl (fun W _ => by go_simp; first | done | with_reducible rfl)) trivial ?_; simp only [putS]
          refine rt 8 rfl (Yld.move rfl rfl) trivial ?_; simp only [putE]
          refine rt 9 rfl (Yld.move rfl rfl) trivial ?_; simp only [putE]
          refine rt 10 rfl (Yld.of rfl (fun W _ => by go_simp; first | done | with_reducible rfl)) trivial ?_; simp only [putS]
          refine rt 14 rfl (Yld.move rfl rfl) trivial ?_; simp only [putE]
          refine rt 15 rfl (Yld.move rfl rfl) trivial ?_; simp only [putE]
          refine rt 16 rfl (Yld.of rfl (fun W _ => by go_simp; first | done | with_reducible rfl)) trivial ?_; simp only [putS]
          refine ra [1, 6, 11, 17] ?_
          refine rc 1 rfl (fun K hK => ?_) ?_
          · as_aux_lemma => -- 1
           refine Stp.wp (Stp.bsl (e := 22) (cs := #[.slice (some ⟨g21, 0, none⟩) k k]) 45 rfl rfl (fun W => by kernel_rfl) H ?_); clear H; intro g45 w1 H; refine hK.out _ _ trivial ?_; clear hK K; simp only [putS]
           refine ra [2, 6, 11, 17] ?_
           refine rc 2 rfl (fun K hK => ?_) ?_
           · as_aux_lemma => -- 2
            refine wp_callf rfl ent12 (KD.out _ _ (H.gr 22) (H.gr 5)) rfl (fun v w1 hr => ?_); obtain ⟨rfl, hb1⟩ := hr; replace H := H.grow hb1; clear hb1; refine hK.out _ _ trivial ?_; clear hK K; simp only [putS]
            refine ra [6, 11, 17] ?_
            refine rc 6 rfl (fun K hK => ?_) ?_
            · as_aux_lemma => -- 6
             refine Stp.wp (Stp.bsl (e := 22) (cs := #[.slice pa k ca]) 50 rfl rfl (fun W => by kernel_rfl) H ?_); clear H; intro g50 w1 H; refine hK.out _ _ trivial ?_; clear hK K; simp only [putS]
             refine ra [7, 11, 17] ?_
             refine rc 7 rfl (fun K hK => ?_) ?_
             · as_aux_lemma => -- 7
              refine wp_callf rfl ent12 (KA.out _ _ (H.gr 22) H.below) rfl (fun v w1 hr => ?_); obtain ⟨rfl, hb1⟩ := hr; replace H := H.grow hb1; clear hb1; refine hK.out _ _ trivial ?_; clear hK K; simp only [putS]
              refine ra [11, 17] ?_
              refine rc 11 rfl (fun K hK => ?_) ?_
              · as_aux_lemma => -- 11
               refine Stp.wp (Stp.bsl (e := 22) (cs := #[.slice pb k cb']) 55 rfl rfl (fun W => by kernel_rfl) H ?_); clear H; intro g55 w1 H; refine hK.out _ _ trivial ?_; clear hK K; simp only [putS]
               refine ra [12, 17] ?_
               refine rc 12 rfl (fun K hK => ?_) ?_
               · as_aux_lemma => -- 12
                refine wp_callf rfl ent12 (KB.out _ _ (H.gr 22) H.below) rfl (fun v w1 hr => ?_); obtain ⟨rfl, hb1⟩ := hr; replace H := H.grow hb1; clear hb1; refine hK.out _ _ trivial ?_; clear hK K; simp only [putS]
                refine rt 13 rfl (Yld.of rfl (fun W _ => by go_simp; first | done | with_reducible rfl)) trivial ?_; simp only [putS]
                refine rg_one (i := 17) (by kernel_rfl) rfl rfl (fun K hK => ?_)
                refine Stp.wp (Stp.bsl (e := 22) (cs := #[.slice pc k cc']) 61 rfl rfl (fun W => by kernel_rfl) H ?_); clear H; intro g61 w1 H; refine hK.out _ _ trivial ?_; clear hK K; simp only [putS]
                refine rg_one (i := 18) (by kernel_rfl) rfl rfl (fun K hK => ?_)
                refine wp_callf rfl ent12 (KC.out _ _ (H.gr 22) H.below) rfl (fun v w1 hr => ?_); obtain ⟨rfl, hb1⟩ := hr; replace H := H.grow hb1; clear hb1; refine hK.out _ _ trivial ?_; clear hK K; simp only [putS]
                refine rt 19 rfl (Yld.of rfl (fun W _ => by go_simp; first | done | with_reducible rfl)) trivial ?_; simp only [putS]
                refine rt 20 rfl (Yld.of rfl (fun W _ => by go_simp; first | done | with_reducible rfl)) trivial ?_; simp only [putS]
                refine rt 21 rfl (Yld.move rfl rfl) trivial ?_; simp only [putE]
                refine rg_one (i := 22) (by kernel_rfl) rfl rfl (fun K hK => ?_)
                refine wp_callf rfl ent8 (awake_ok _) rfl (fun v w1 hr => ?_); obtain ⟨rfl, hb1⟩ := hr; replace H := H.grow hb1; clear hb1; refine hK.out _ _ trivial ?_; clear hK K; simp only [putS]
                refine rt 23 rfl (Yld.pick rfl rfl rfl) trivial ?_; simp only [putE]
                refine rt 24 rfl (Yld.assign rfl rfl) trivial ?_; simp only [putE]
                refine rg_done (by kernel_rfl) ?_
                exact ⟨rfl, rfl, rfl, H.below⟩
               refine rc 17 rfl (fun K hK => ?_) ?_
               · as_aux_lemma => -- 17
                refine Stp.wp (Stp.bsl (e := 22) (cs := #[.slice pc k cc']) 61 rfl rfl (fun W => by kernel_rfl) H ?_); clear H; intro g61 w1 H; refine hK.out _ _ trivial ?_; clear hK K; simp only [putS]
                refine rg_one (i := 12) (by kernel_rfl) rfl rfl (fun K hK => ?_)
                refine wp_callf rfl ent12 (KB.out _ _ (H.gr 22) H.below) rfl (fun v w1 hr => ?_); obtain ⟨rfl, hb1⟩ := hr; replace H := H.grow hb1; clear hb1; refine hK.out _ _ trivial ?_; clear hK K; simp only [putS]
                refine rt 13 rfl (Yld.of rfl (fun W _ => by go_simp; first | done | with_reducible rfl)) trivial ?_; simp only [putS]
                refine rg_one (i := 18) (by kernel_rfl) rfl rfl (fun K hK => ?_)
                refine wp_callf rfl ent12 (KC.out _ _ (H.gr 22) H.below) rfl (fun v w1 hr => ?_); obtain ⟨rfl, hb1⟩ := hr; replace H := H.grow hb1; clear hb1; refine hK.out _ _ trivial ?_; clear hK K; simp only [putS]
                refine rt 19 rfl (Yld.of rfl (fun W _ => by go_simp; first | done | with_reducible rfl)) trivial ?_; simp only [putS]
                refine rt 20 rfl (Yld.of rfl (fun W _ => by go_simp; first | done | with_reducible rfl)) trivial ?_; simp only [putS]
                refine rt 21 rfl (Yld.move rfl rfl) trivial ?_; simp only [putE]
                refine rg_one (i := 22) (by kernel_rfl) rfl rfl (fun K hK => ?_)
                refine wp_callf rfl ent8 (awake_ok _) rfl (fun v w1 hr => ?_); obtain ⟨rfl, hb1⟩ := hr; replace H := H.grow hb1; clear hb1; refine hK.out _ _ trivial ?_; clear hK K; simp only [putS]
                refine rt 23 rfl (Yld.pick rfl rfl rfl) trivial ?_; simp only [putE]
                refine rt 24 rfl (Yld.assign rfl rfl) trivial ?_; simp only [putE]
                refine rg_done (by kernel_rfl) ?_
                exact ⟨rfl, rfl, rfl, H.below⟩
               exact AllReadyH.nil
              refine rc 17 rfl (fun K hK => ?_) ?_
              · as_aux_lemma => -- 17
               refine Stp.wp (Stp.bsl (e := 22) (cs := #[.slice pc k cc']) 61 rfl rfl (fun W => by kernel_rfl) H ?_); clear H; intro g61 w1 H; refine hK.out _ _ trivial ?_; clear hK K; simp only [putS]
               refine rg_one (i := 11) (by kernel_rfl) rfl rfl (fun K hK => ?_)
               refine Stp.wp (Stp.bsl (e := 22) (cs := #[.slice pb k cb']) 55 rfl rfl (fun W => by kernel_rfl) H ?_); clear H; intro g55 w1 H; refine hK.out _ _ trivial ?_; clear hK K; simp only [putS]
               refine rg_one (i := 12) (by kernel_rfl) rfl rfl (fun K hK => ?_)
               refine wp_callf rfl ent12 (KB.out _ _ (H.gr 22) H.below) rfl (fun v w1 hr => ?_); obtain ⟨rfl, hb1⟩ := hr; replace H := H.grow hb1; clear hb1; refine hK.out _ _ trivial ?_; clear hK K; simp only [putS]
               refine rt 13 rfl (Yld.of rfl (fun W _ => by go_simp; first | done | with_reducible rfl)) trivial ?_; simp only [putS]
               refine rg_one (i := 18) (by kernel_rfl) rfl rfl (fun K hK => ?_)
               refine wp_callf rfl ent12 (KC.out _ _ (H.gr 22) H.below) rfl (fun v w1 hr => ?_); obtain ⟨rfl, hb1⟩ := hr; replace H := H.grow hb1; clear hb1; refine hK.out _ _ trivial ?_; clear hK K; simp only [putS]
               refine rt 19 rfl (Yld.of rfl (fun W _ => by go_simp; first | done | with_reducible rfl)) trivial ?_; simp only [putS]
               refine rt 20 rfl (Yld.of rfl (fun W _ => by go_simp; first | done | with_reducible rfl)) trivial ?_; simp only [putS]
               refine rt 21 rfl (Yld.move rfl rfl) trivial ?_; simp only [putE]
               refine rg_one (i := 22) (by kernel_rfl) rfl rfl (fun K hK => ?_)
               refine wp_callf rfl ent8 (awake_ok _) rfl (fun v w1 hr => ?_); obtain ⟨rfl, hb1⟩ := hr; replace H := H.grow hb1; clear hb1; refine hK.out _ _ trivial ?_; clear hK K; simp only [putS]
               refine rt 23 rfl (Yld.pick rfl rfl rfl) trivial ?_; simp only [putE]
               refine rt 24 rfl (Yld.assign rfl rfl) trivial ?_; simp only [putE]
               refine rg_done (by kernel_rfl) ?_
               exact ⟨rfl, rfl, rfl, H.below⟩
              exact AllReadyH.nil
             refine rc 11 rfl (fun K hK => ?_) ?_
             · as_aux_lemma => -- 11
              refine Stp.wp (Stp.bsl (e := 22) (cs := #[.slice pb k cb']) 55 rfl rfl (fun W => by kernel_rfl) H ?_); clear H; intro g55 w1 H; refine hK.out _ _ trivial ?_; clear hK K; simp only [putS]
              refine ra [7, 17] ?_
              refine rc 7 rfl (fun K hK => ?_) ?_
              · as_aux_lemma => -- 7
               refine wp_callf rfl ent12 (KA.out _ _ (H.gr 22) H.below) rfl (fun v w1 hr => ?_); obtain ⟨rfl, hb1⟩ := hr; replace H := H.grow hb1; clear hb1; refine hK.out _ _ trivial ?_; clear hK K; simp only [putS]
               refine ra [12, 17] ?_
               refine rc 12 rfl (fun K hK => ?_) ?_
               · as_aux_lemma => -- 12
                refine wp_callf rfl ent12 (KB.out _ _ (H.gr 22) H.below) rfl (fun v w1 hr => ?_); obtain ⟨rfl, hb1⟩ := hr; replace H := H.grow hb1; clear hb1; refine hK.out _ _ trivial ?_; clear hK K; simp only [putS]
                refine rt 13 rfl (Yld.of rfl (fun W _ => by go_simp; first | done | with_reducible rfl)) trivial ?_; simp only [putS]
                refine rg_one (i := 17) (by kernel_rfl) rfl rfl (fun K hK => ?_)
                refine Stp.wp (Stp.bsl (e := 22) (cs := #[.slice pc k cc']) 61 rfl rfl (fun W => by kernel_rfl) H ?_); clear H; intro g61 w1 H; refine hK.out _ _ trivial ?_; clear hK K; simp only [putS]
                refine rg_one (i := 18) (by kernel_rfl) rfl rfl (fun K hK => ?_)
                refine wp_callf rfl ent12 (KC.out _ _ (H.gr 22) H.below) rfl (fun v w1 hr => ?_); obtain ⟨rfl, hb1⟩ := hr; replace H := H.grow hb1; clear hb1; refine hK.out _ _ trivial ?_; clear hK K; simp only [putS]
                refine rt 19 rfl (Yld.of rfl (fun W _ => by go_simp; first | done | with_reducible rfl)) trivial ?_; simp only [putS]
                refine rt 20 rfl (Yld.of rfl (fun W _ => by go_simp; first | done | with_reducible rfl)) trivial ?_; simp only [putS]
                refine rt 21 rfl (Yld.move rfl rfl) trivial ?_; simp only [putE]
                refine rg_one (i := 22) (by kernel_rfl) rfl rfl (fun K hK => ?_)
                refine wp_callf rfl ent8 (awake_ok _) rfl (fun v w1 hr => ?_); obtain ⟨rfl, hb1⟩ := hr; replace H := H.grow hb1; clear hb1; refine hK.out _ _ trivial ?_; clear hK K; simp only [putS]
                refine rt 23 rfl (Yld.pick rfl rfl rfl) trivial ?_; simp only [putE]
                refine rt 24 rfl (Yld.assign rfl rfl) trivial ?_; simp only [putE]
                refine rg_done (by kernel_rfl) ?_
                exact ⟨rfl, rfl, rfl, H.below⟩
               refine rc 17 rfl (fun K hK => ?_) ?_
               · as_aux_lemma => -- 17
                refine Stp.wp (Stp.bsl (e := 22) (cs := #[.slice pc k cc']) 61 rfl rfl (fun W => by kernel_rfl) H ?_); clear H; intro g61 w1 H; refine hK.out _ _ trivial ?_; clear hK K; simp only [putS]
                refine rg_one (i := 12) (by kernel_rfl) rfl rfl (fun K hK => ?_)
                refine wp_callf rfl ent12 (KB.out _ _ (H.gr 22) H.below) rfl (fun v w1 hr => ?_); obtain ⟨rfl, hb1⟩ := hr; replace H := H.grow hb1; clear hb1; refine hK.out _ _ trivial ?_; clear hK K; simp only [putS]
                refine rt 13 rfl (Yld.of rfl (fun W _ => by go_simp; first | done | with_reducible rfl)) trivial ?_; simp only [putS]
                refine rg_one (i := 18) (by kernel_rfl) rfl rfl (fun K hK => ?_)
                refine wp_callf rfl ent12 (KC.out _ _ (H.gr 22) H.below) rfl (fun v w1 hr => ?_); obtain ⟨rfl, hb1⟩ := hr; replace H := H.grow hb1; clear hb1; refine hK.out _ _ trivial ?_; clear hK K; simp only [putS]
                refine rt 19 rfl (Yld.of rfl (fun W _ => by go_simp; first | done | with_reducible rfl)) trivial ?_; simp only [putS]
                refine rt 20 rfl (Yld.of rfl (fun W _ => by go_simp; first | done | with_reducible rfl)) trivial ?_; simp only [putS]
                refine rt 21 rfl (Yld.move rfl rfl) trivial ?_; simp only [putE]
                refine rg_one (i := 22) (by kernel_rfl) rfl rfl (fun K hK => ?_)
                refine wp_callf rfl ent8 (awake_ok _) rfl (fun v w1 hr => ?_); obtain ⟨rfl, hb1⟩ := hr; replace H := H.grow hb1; clear hb1; refine hK.out _ _ trivial ?_; clear hK K; simp only [putS]
                refine rt 23 rfl (Yld.pick rfl rfl rfl) trivial ?_; simp only [putE]
                refine rt 24 rfl (Yld.assign rfl rfl) trivial ?_; simp only [putE]
                refine rg_done (by kernel_rfl) ?_
                exact ⟨rfl, rfl, rfl, H.below⟩
               exact AllReadyH.nil
              refine rc 17 rfl (fun K hK => ?_) ?_
              · as_aux_lemma => -- 17
               refine Stp.wp (Stp.bsl (e := 22) (cs := #[.slice pc k cc']) 61 rfl rfl (fun W => by kernel_rfl) H ?_); clear H; intro g61 w1 H; refine hK.out _ _ trivial ?_; clear hK K; simp only [putS]
               refine rg_one (i := 7) (by kernel_rfl) rfl rfl (fun K hK => ?_)
               refine wp_callf rfl ent12 (KA.out _ _ (H.gr 22) H.below) rfl (fun v w1 hr => ?_); obtain ⟨rfl, hb1⟩ := hr; replace H := H.grow hb1; clear hb1; refine hK.out _ _ trivial ?_; clear hK K; simp only [putS]
               refine rg_one (i := 12) (by kernel_rfl) rfl rfl (fun K hK => ?_)
               refine wp_callf rfl ent12 (KB.out _ _ (H.gr 22) H.below) rfl (fun v w1 hr => ?_); obtain ⟨rfl, hb1⟩ := hr; replace H := H.grow hb1; clear hb1; refine hK.out _ _ trivial ?_; clear hK K; simp only [putS]
               refine rt 13 rfl (Yld.of rfl (fun W _ => by go_simp; first | done | with_reducible rfl)) trivial ?_; simp only [putS]
               refine rg_one (i := 18) (by kernel_rfl) rfl rfl (fun K hK => ?_)
               refine wp_callf rfl ent12 (KC.out _ _ (H.gr 22) H.below) rfl (fun v w1 hr => ?_); obtain ⟨rfl, hb1⟩ := hr; replace H := H.grow hb1; clear hb1; refine hK.out _ _ trivial ?_; clear hK K; simp only [putS]
               refine rt 19 rfl (Yld.of rfl (fun W _ => by go_simp; first | done | with_reducible rfl)) trivial ?_; simp only [putS]
               refine rt 20 rfl (Yld.of rfl (fun W _ => by go_simp; first | done | with_reducible rfl)) trivial ?_; simp only [putS]
               refine rt 21 rfl (Yld.move rfl rfl) trivial ?_; simp only [putE]
               refine rg_one (i := 22) (by kernel_rfl) rfl rfl (fun K hK => ?_)
               refine wp_callf rfl ent8 (awake_ok _) rfl (fun v w1 hr => ?_); obtain ⟨rfl, hb1⟩ := hr; replace H := H.grow hb1; clear hb1; refine hK.out _ _ trivial ?_; clear hK K; simp only [putS]
               refine rt 23 rfl (Yld.pick rfl rfl rfl) trivial ?_; simp only [putE]
               refine rt 24 rfl (Yld.assign rfl rfl) trivial ?_; simp only [putE]
               refine rg_done (by kernel_rfl) ?_
               exact ⟨rfl, rfl, rfl, H.below⟩
              exact AllReadyH.nil
             refine rc 17 rfl (fun K hK => ?_) ?_
             · as_aux_lemma => -- 17
              refine Stp.wp (Stp.bsl (e := 22) (cs := #[.slice pc k cc']) 61 rfl rfl (fun W => by kernel_rfl) H ?_); clear H; intro g61 w1 H; refine hK.out _ _ trivial ?_; clear hK K; simp only [putS]
              refine ra [7, 11] ?_
              refine rc 7 rfl (fun K hK => ?_) ?_
              · as_aux_lemma => -- 7
               refine wp_callf rfl ent12 (KA.out _ _ (H.gr 22) H.below) rfl (fun v w1 hr => ?_); obtain ⟨rfl, hb1⟩ := hr; replace H := H.grow hb1; clear hb1; refine hK.out _ _ trivial ?_; clear hK K; simp only [putS]
               refine rg_one (i := 11) (by kernel_rfl) rfl rfl (fun K hK => ?_)
               refine Stp.wp (Stp.bsl (e := 22) (cs := #[.slice pb k cb']) 55 rfl rfl (fun W => by kernel_rfl) H ?_); clear H; intro g55 w1 H; refine hK.out _ _ trivial ?_; clear hK K; simp only [putS]
               refine rg_one (i := 12) (by kernel_rfl) rfl rfl (fun K hK => ?_)
               refine wp_callf rfl ent12 (KB.out _ _ (H.gr 22) H.below) rfl (fun v w1 hr => ?_); obtain ⟨rfl, hb1⟩ := hr; replace H := H.grow hb1; clear hb1; refine hK.out _ _ trivial ?_; clear hK K; simp only [putS]
               refine rt 13 rfl (Yld.of rfl (fun W _ => by go_simp; first | done | with_reducible rfl)) trivial ?_; simp only [putS]
               refine rg_one (i := 18) (by kernel_rfl) rfl rfl (fun K hK => ?_)
               refine wp_callf rfl ent12 (KC.out _ _ (H.gr 22) H.below) rfl (fun v w1 hr => ?_); obtain ⟨rfl, hb1⟩ := hr; replace H := H.grow hb1; clear hb1; refine hK.out _ _ trivial ?_; clear hK K; simp only [putS]
               refine rt 19 rfl (Yld.of rfl (fun W _ => by go_simp; first | done | with_reducible rfl)) trivial ?_; simp only [putS]
               refine rt 20 rfl (Yld.of rfl (fun W _ => by go_simp; first | done | with_reducible rfl)) trivial ?_; simp only [putS]
               refine rt 21 rfl (Yld.move rfl rfl) trivial ?_; simp only [putE]
               refine rg_one (i := 22) (by kernel_rfl) rfl rfl (fun K hK => ?_)
               refine wp_callf rfl ent8 (awake_ok _) rfl (fun v w1 hr => ?_); obtain ⟨rfl, hb1⟩ := hr; replace H := H.grow hb1; clear hb1; refine hK.out _ _ trivial ?_; clear hK K; simp only [putS]
               refine rt 23 rfl (Yld.pick rfl rfl rfl) trivial ?_; simp only [putE]
               refine rt 24 rfl (Yld.assign rfl rfl) trivial ?_; simp only [putE]
               refine rg_done (by kernel_rfl) ?_
               exact ⟨rfl, rfl, rfl, H.below⟩
              refine rc 11 rfl (fun K hK => ?_) ?_
              · as_aux_lemma => -- 11
               refine Stp.wp (Stp.bsl (e := 22) (cs := #[.slice pb k cb']) 55 rfl rfl (fun W => by kernel_rfl) H ?_); clear H; intro g55 w1 H; refine hK.out _ _ trivial ?_; clear hK K; simp only [putS]
               refine rg_one (i := 7) (by kernel_rfl) rfl rfl (fun K hK => ?_)
               refine wp_callf rfl ent12 (KA.out _ _ (H.gr 22) H.below) rfl (fun v w1 hr => ?_); obtain ⟨rfl, hb1⟩ := hr; replace H := H.grow hb1; clear hb1; refine hK.out _ _ trivial ?_; clear hK K; simp only [putS]
               refine rg_one (i := 12) (by kernel_rfl) rfl rfl (fun K hK => ?_)
               refine wp_callf rfl ent12 (KB.out _ _ (H.gr 22) H.below) rfl (fun v w1 hr => ?_); obtain ⟨rfl, hb1⟩ := hr; replace H := H.grow hb1; clear hb1; refine hK.out _ _ trivial ?_; clear hK K; simp only [putS]
               refine rt 13 rfl (Yld.of rfl (fun W _ => by go_simp; first | done | with_reducible rfl)) trivial ?_; simp only [putS]
               refine rg_one (i := 18) (by kernel_rfl) rfl rfl (fun K hK => ?_)
               refine wp_callf rfl ent12 (KC.out _ _ (H.gr 22) H.below) rfl (fun v w1 hr => ?_); obtain ⟨rfl, hb1⟩ := hr; replace H := H.grow hb1; clear hb1; refine hK.out _ _ trivial ?_; clear hK K; simp only [putS]
               refine rt 19 rfl (Yld.of rfl (fun W _ => by go_simp; first | done | with_reducible rfl)) trivial ?_; simp only [putS]
               refine rt 20 rfl (Yld.of rfl (fun W _ => by go_simp; first | done | with_reducible rfl)) trivial ?_; simp only [putS]
               refine rt 21 rfl (Yld.move rfl rfl) trivial ?_; simp only [putE]
               refine rg_one (i := 22) (by kernel_rfl) rfl rfl (fun K hK => ?_)
               refine wp_callf rfl ent8 (awake_ok _) rfl (fun v w1 hr => ?_); obtain ⟨rfl, hb1⟩ := hr; replace H := H.grow hb1; clear hb1; refine hK.out _ _ trivial ?_; clear hK K; simp only [putS]
               refine rt 23 rfl (Yld.pick rfl rfl rfl) trivial ?_; simp only [putE]
               refine rt 24 rfl (Yld.assign rfl rfl) trivial ?_; simp only [putE]
               refine rg_done (by kernel_rfl) ?_
               exact ⟨rfl, rfl, rfl, H.below⟩
              exact AllReadyH.nil
             exact AllReadyH.nil
            refine rc 11 rfl (fun K hK => ?_) ?_
            · as_aux_lemma => -- 11
             refine Stp.wp (Stp.bsl (e := 22) (cs := #[.slice pb k cb']) 55 rfl rfl (fun W => by kernel_rfl) H ?_); clear H; intro g55 w1 H; refine hK.out _ _ trivial ?_; clear hK K; simp only [putS]
             refine ra [6, 17] ?_
             refine rc 6 rfl (fun K hK => ?_) ?_
             · as_aux_lemma => -- 6
              refine Stp.wp (Stp.bsl (e := 22) (cs := #[.slice pa k ca]) 50 rfl rfl (fun W => by kernel_rfl) H ?_); clear H; intro g50 w1 H; refine hK.out _ _ trivial ?_; clear hK K; simp only [putS]
              refine ra [7, 17] ?_
              refine rc 7 rfl (fun K hK => ?_) ?_
              · as_aux_lemma => -- 7
               refine wp_callf rfl ent12 (KA.out _ _ (H.gr 22) H.below) rfl (fun v w1 hr => ?_); obtain ⟨rfl, hb1⟩ := hr; replace H := H.grow hb1; clear hb1; refine hK.out _ _ trivial ?_; clear hK K; simp only [putS]
               refine ra [12, 17] ?_
               refine rc 12 rfl (fun K hK => ?_) ?_
               · as_aux_lemma => -- 12
                refine wp_callf rfl ent12 (KB.out _ _ (H.gr 22) H.below) rfl (fun v w1 hr => ?_); obtain ⟨rfl, hb1⟩ := hr; replace H := H.grow hb1; clear hb1; refine hK.out _ _ trivial ?_; clear hK K; simp only [putS]
                refine rt 13 rfl (Yld.of rfl (fun W _ => by go_simp; first | done | with_reducible rfl)) trivial ?_; simp only [putS]
                refine rg_one (i := 17) (by kernel_rfl) rfl rfl (fun K hK => ?_)
                refine Stp.wp (Stp.bsl (e := 22) (cs := #[.slice pc k cc']) 61 rfl rfl (fun W => by kernel_rfl) H ?_); clear H; intro g61 w1 H; refine hK.out _ _ trivial ?_; clear hK K; simp only [putS]
                refine rg_one (i := 18) (by kernel_rfl) rfl rfl (fun K hK => ?_)
                refine wp_callf rfl ent12 (KC.out _ _ (H.gr 22) H.below) rfl (fun v w1 hr => ?_); obtain ⟨rfl, hb1⟩ := hr; replace H := H.grow hb1; clear hb1; refine hK.out _ _ trivial ?_; clear hK K; simp only [putS]
                refine rt 19 rfl (Yld.of rfl (fun W _ => by go_simp; first | done | with_reducible rfl)) trivial ?_; simp only [putS]
                refine rt 20 rfl (Yld.of rfl (fun W _ => by go_simp; first | done | with_reducible rfl)) trivial ?_; simp only [putS]
                refine rt 21 rfl (Yld.move rfl rfl) trivial ?_; simp only [putE]
                refine rg_one (i := 22) (by kernel_rfl) rfl rfl (fun K hK => ?_)
                refine wp_callf rfl ent8 (awake_ok _) rfl (fun v w1 hr => ?_); obtain ⟨rfl, hb1⟩ := hr; replace H := H.grow hb1; clear hb1; refine hK.out _ _ trivial ?_; clear hK K; simp only [putS]
                refine rt 23 rfl (Yld.pick rfl rfl rfl) trivial ?_; simp only [putE]
                refine rt 24 rfl (Yld.assign rfl rfl) trivial ?_; simp only [putE]
                refine rg_done (by kernel_rfl) ?_
                exact ⟨rfl, rfl, rfl, H.below⟩
               refine rc 17 rfl (fun K hK => ?_) ?_
               · as_aux_lemma => -- 17
                refine Stp.wp (Stp.bsl (e := 22) (cs := #[.slice pc k cc']) 61 rfl rfl (fun W => by kernel_rfl) H ?_); clear H; intro g61 w1 H; refine hK.out _ _ trivial ?_; clear hK K; simp only [putS]
                refine rg_one (i := 12) (by kernel_rfl) rfl rfl (fun K hK => ?_)
                refine wp_callf rfl ent12 (KB.out _ _ (H.gr 22) H.below) rfl (fun v w1 hr => ?_); obtain ⟨rfl, hb1⟩ := hr; replace H := H.grow hb1; clear hb1; refine hK.out _ _ trivial ?_; clear hK K; simp only [putS]
                refine rt 13 rfl (Yld.of rfl (fun W _ => by go_simp; first | done | with_reducible rfl)) trivial ?_; simp only [putS]
                refine rg_one (i := 18) (by kernel_rfl) rfl rfl (fun K hK => ?_)
                refine wp_callf rfl ent12 (KC.out _ _ (H.gr 22) H.below) rfl (fun v w1 hr => ?_); obtain ⟨rfl, hb1⟩ := hr; replace H := H.grow hb1; clear hb1; refine hK.out _ _ trivial ?_; clear hK K; simp only [putS]
                refine rt 19 rfl (Yld.of rfl (fun W _ => by go_simp; first | done | with_reducible rfl)) trivial ?_; simp only [putS]
                refine rt 20 rfl (Yld.of rfl (fun W _ => by go_simp; first | done | with_reducible rfl)) trivial ?_; simp only [putS]
                refine rt 21 rfl (Yld.move rfl rfl) trivial ?_; simp only [putE]
                refine rg_one (i := 22) (by kernel_rfl) rfl rfl (fun K hK => ?_)
                refine wp_callf rfl ent8 (awake_ok _) rfl (fun v w1 hr => ?_); obtain ⟨rfl, hb1⟩ := hr; replace H := H.grow hb1; clear hb1; refine hK.out _ _ trivial ?_; clear hK K; simp only [putS]
                refine rt 23 rfl (Yld.pick rfl rfl rfl) trivial ?_; simp only [putE]
                refine rt 24 rfl (Yld.assign rfl rfl) trivial ?_; simp only [putE]
                refine rg_done (by kernel_rfl) ?_
                exact ⟨rfl, rfl, rfl, H.below⟩
               exact AllReadyH.nil
              refine rc 17 rfl (fun K hK => ?_) ?_
              · as_aux_lemma => -- 17
               refine Stp.wp (Stp.bsl (e := 22) (cs := #[.slice pc k cc']) 61 rfl rfl (fun W => by kernel_rfl) H ?_); clear H; intro g61 w1 H; refine hK.out _ _ trivial ?_; clear hK K; simp only [putS]
               refine rg_one (i := 7) (by kernel_rfl) rfl rfl (fun K hK => ?_)
               refine wp_callf rfl ent12 (KA.out _ _ (H.gr 22) H.below) rfl (fun v w1 hr => ?_); obtain ⟨rfl, hb1⟩ := hr; replace H := H.grow hb1; clear hb1; refine hK.out _ _ trivial ?_; clear hK K; simp only [putS]
               refine rg_one (i := 12) (by kernel_rfl) rfl rfl (fun K hK => ?_)
               refine wp_callf rfl ent12 (KB.out _ _ (H.gr 22) H.below) rfl (fun v w1 hr => ?_); obtain ⟨rfl, hb1⟩ := hr; replace H := H.grow hb1; clear hb1; refine hK.out _ _ trivial ?_; clear hK K; simp only [putS]
               refine rt 13 rfl (Yld.of rfl (fun W _ => by go_simp; first | done | with_reducible rfl)) trivial ?_; simp only [putS]
               refine rg_one (i := 18) (by kernel_rfl) rfl rfl (fun K hK => ?_)
               refine wp_callf rfl ent12 (KC.out _ _ (H.gr 22) H.below) rfl (fun v w1 hr => ?_); obtain ⟨rfl, hb1⟩ := hr; replace H := H.grow hb1; clear hb1; refine hK.out _ _ trivial ?_; clear hK K; simp only [putS]
               refine rt 19 rfl (Yld.of rfl (fun W _ => by go_simp; first | done | with_reducible rfl)) trivial ?_; simp only [putS]
               refine rt 20 rfl (Yld.of rfl (fun W _ => by go_simp; first | done | with_reducible rfl)) trivial ?_; simp only [putS]
               refine rt 21 rfl (Yld.move rfl rfl) trivial ?_; simp only [putE]
               refine rg_one (i := 22) (by kernel_rfl) rfl rfl (fun K hK => ?_)
               refine wp_callf rfl ent8 (awake_ok _) rfl (fun v w1 hr => ?_); obtain ⟨rfl, hb1⟩ := hr; replace H := H.grow hb1; clear hb1; refine hK.out _ _ trivial ?_; clear hK K; simp only [putS]
               refine rt 23 rfl (Yld.pick rfl rfl rfl) trivial ?_; simp only [putE]
               refine rt 24 rfl (Yld.assign rfl rfl) trivial ?_; simp only [putE]
               refine rg_done (by kernel_rfl) ?_
               exact ⟨rfl, rfl, rfl, H.below⟩
              exact AllReadyH.nil
             refine rc 17 rfl (fun K hK => ?_) ?_
             · as_aux_lemma => -- 17
              refine Stp.wp (Stp.bsl (e := 22) (cs := #[.slice pc k cc']) 61 rfl rfl (fun W => by kernel_rfl) H ?_); clear H; intro g61 w1 H; refine hK.out _ _ trivial ?_; clear hK K; simp only [putS]
              refine rg_one (i := 6) (by kernel_rfl) rfl rfl (fun K hK => ?_)
              refine Stp.wp (Stp.bsl (e := 22) (cs := #[.slice pa k ca]) 50 rfl rfl (fun W => by kernel_rfl) H ?_); clear H; intro g50 w1 H; refine hK.out _ _ trivial ?_; clear hK K; simp only [putS]
              refine rg_one (i := 7) (by kernel_rfl) rfl rfl (fun K hK => ?_)
              refine wp_callf rfl ent12 (KA.out _ _ (H.gr 22) H.below) rfl (fun v w1 hr => ?_); obtain ⟨rfl, hb1⟩ := hr; replace H := H.grow hb1; clear hb1; refine hK.out _ _ trivial ?_; clear hK K; simp only [putS]
              refine rg_one (i := 12) (by kernel_rfl) rfl rfl (fun K hK => ?_)
              refine wp_callf rfl ent12 (KB.out _ _ (H.gr 22) H.below) rfl (fun v w1 hr => ?_); obtain ⟨rfl, hb1⟩ := hr; replace H := H.grow hb1; clear hb1; refine hK.out _ _ trivial ?_; clear hK K; simp only [putS]
              refine rt 13 rfl (Yld.of rfl (fun W _ => by go_simp; first | done | with_reducible rfl)) trivial ?_; simp only [putS]
              refine rg_one (i := 18) (by kernel_rfl) rfl rfl (fun K hK => ?_)
              refine wp_callf rfl ent12 (KC.out _ _ (H.gr 22) H.below) rfl (fun v w1 hr => ?_); obtain ⟨rfl, hb1⟩ := hr; replace H := H.grow hb1; clear hb1; refine hK.out _ _ trivial ?_; clear hK K; simp only [putS]
              refine rt 19 rfl (Yld.of rfl (fun W _ => by go_simp; first | done | with_reducible rfl)) trivial ?_; simp only [putS]
              refine rt 20 rfl (Yld.of rfl (fun W _ => by go_simp; first | done | with_reducible rfl)) trivial ?_; simp only [putS]
              refine rt 21 rfl (Yld.move rfl rfl) trivial ?_; simp only [putE]
              refine rg_one (i := 22) (by kernel_rfl) rfl rfl (fun K hK => ?_)
              refine wp_callf rfl ent8 (awake_ok _) rfl (fun v w1 hr => ?_); obtain ⟨rfl, hb1⟩ := hr; replace H := H.grow hb1; clear hb1; refine hK.out _ _ trivial ?_; clear hK K; simp only [putS]
              refine rt 23 rfl (Yld.pick rfl rfl rfl) trivial ?_; simp only [putE]
              refine rt 24 rfl (Yld.assign rfl rfl) trivial ?_; simp only [putE]
              refine rg_done (by kernel_rfl) ?_
              exact ⟨rfl, rfl, rfl, H.below⟩
             exact AllReadyH.nil
            refine rc 17 rfl (fun K hK => ?_) ?_
            · as_aux_lemma => -- 17
             refine Stp.wp (Stp.bsl (e := 22) (cs := #[.slice pc k cc']) 61 rfl rfl (fun W => by kernel_rfl) H ?_); clear H; intro g61 w1 H; refine hK.out _ _ trivial ?_; clear hK K; simp only [putS]
             refine ra [6, 11] ?_
             refine rc 6 rfl (fun K hK => ?_) ?_
             · as_aux_lemma => -- 6
              refine Stp.wp (Stp.bsl (e := 22) (cs := #[.slice pa k ca]) 50 rfl rfl (fun W => by kernel_rfl) H ?_); clear H; intro g50 w1 H; refine hK.out _ _ trivial ?_; clear hK K; simp only [putS]
              refine ra [7, 11] ?_
              refine rc 7 rfl (fun K hK => ?_) ?_
              · as_aux_lemma => -- 7
               refine wp_callf rfl ent12 (KA.out _ _ (H.gr 22) H.below) rfl (fun v w1 hr => ?_); obtain ⟨rfl, hb1⟩ := hr; replace H := H.grow hb1; clear hb1; refine hK.out _ _ trivial ?_; clear hK K; simp only [putS]
               refine rg_one (i := 11) (by kernel_rfl) rfl rfl (fun K hK => ?_)
               refine Stp.wp (Stp.bsl (e := 22) (cs := #[.slice pb k cb']) 55 rfl rfl (fun W => by kernel_rfl) H ?_); clear H; intro g55 w1 H; refine hK.out _ _ trivial ?_; clear hK K; simp only [putS]
               refine rg_one (i := 12) (by kernel_rfl) rfl rfl (fun K hK => ?_)
               refine wp_callf rfl ent12 (KB.out _ _ (H.gr 22) H.below) rfl (fun v w1 hr => ?_); obtain ⟨rfl, hb1⟩ := hr; replace H := H.grow hb1; clear hb1; refine hK.out _ _ trivial ?_; clear hK K; simp only [putS]
               refine rt 13 rfl (Yld.of rfl (fun W _ => by go_simp; first | done | with_reducible rfl)) trivial ?_; simp only [putS]
               refine rg_one (i := 18) (by kernel_rfl) rfl rfl (fun K hK => ?_)
               refine wp_callf rfl ent12 (KC.out _ _ (H.gr 22) H.below) rfl (fun v w1 hr => ?_); obtain ⟨rfl, hb1⟩ := hr; replace H := H.grow hb1; clear hb1; refine hK.out _ _ trivial ?_; clear hK K; simp only [putS]
               refine rt 19 rfl (Yld.of rfl (fun W _ => by go_simp; first | done | with_reducible rfl)) trivial ?_; simp only [putS]
               refine rt 20 rfl (Yld.of rfl (fun W _ => by go_simp; first | done | with_reducible rfl)) trivial ?_; simp only [putS]
               refine rt 21 rfl (Yld.move rfl rfl) trivial ?_; simp only [putE]
               refine rg_one (i := 22) (by kernel_rfl) rfl rfl (fun K hK => ?_)
               refine wp_callf rfl ent8 (awake_ok _) rfl (fun v w1 hr => ?_); obtain ⟨rfl, hb1⟩ := hr; replace H := H.grow hb1; clear hb1; refine hK.out _ _ trivial ?_; clear hK K; simp only [putS]
               refine rt 23 rfl (Yld.pick rfl rfl rfl) trivial ?_; simp only [putE]
               refine rt 24 rfl (Yld.assign rfl rfl) trivial ?_; simp only [putE]
               refine rg_done (by kernel_rfl) ?_
               exact ⟨rfl, rfl, rfl, H.below⟩
              refine rc 11 rfl (fun K hK => ?_) ?_
              · as_aux_lemma => -- 11
               refine Stp.wp (Stp.bsl (e := 22) (cs := #[.slice pb k cb']) 55 rfl rfl (fun W => by kernel_rfl) H ?_); clear H; intro g55 w1 H; refine hK.out _ _ trivial ?_; clear hK K; simp only [putS]
               refine rg_one (i := 7) (by kernel_rfl) rfl rfl (fun K hK => ?_)
               refine wp_callf rfl ent12 (KA.out _ _ (H.gr 22) H.below) rfl (fun v w1 hr => ?_); obtain ⟨rfl, hb1⟩ := hr; replace H := H.grow hb1; clear hb1; refine hK.out _ _ trivial ?_; clear hK K; simp only [putS]
               refine rg_one (i := 12) (by kernel_rfl) rfl rfl (fun K hK => ?_)
               refine wp_callf rfl ent12 (KB.out _ _ (H.gr 22) H.below) rfl (fun v w1 hr => ?_); obtain ⟨rfl, hb1⟩ := hr; replace H := H.grow hb1; clear hb1; refine hK.out _ _ trivial ?_; clear hK K; simp only [putS]
               refine rt 13 rfl (Yld.of rfl (fun W _ => by go_simp; first | done | with_reducible rfl)) trivial ?_; simp only [putS]
               refine rg_one (i := 18) (by kernel_rfl) rfl rfl (fun K hK => ?_)
               refine wp_callf rfl ent12 (KC.out _ _ (H.gr 22) H.below) rfl (fun v w1 hr => ?_); obtain ⟨rfl, hb1⟩ := hr; replace H := H.grow hb1; clear hb1; refine hK.out _ _ trivial ?_; clear hK K; simp only [putS]
               refine rt 19 rfl (Yld.of rfl (fun W _ => by go_simp; first | done | with_reducible rfl)) trivial ?_; simp only [putS]
               refine rt 20 rfl (Yld.of rfl (fun W _ => by go_simp; first | done | with_reducible rfl)) trivial ?_; simp only [putS]
               refine rt 21 rfl (Yld.move rfl rfl) trivial ?_; simp only [putE]
               refine rg_one (i := 22) (by kernel_rfl) rfl rfl (fun K hK => ?_)
               refine wp_callf rfl ent8 (awake_ok _) rfl (fun v w1 hr => ?_); obtain ⟨rfl, hb1⟩ := hr; replace H := H.grow hb1; clear hb1; refine hK.out _ _ trivial ?_; clear hK K; simp only [putS]
               refine rt 23 rfl (Yld.pick rfl rfl rfl) trivial ?_; simp only [putE]
               refine rt 24 rfl (Yld.assign rfl rfl) trivial ?_; simp only [putE]
               refine rg_done (by kernel_rfl) ?_
               exact ⟨rfl, rfl, rfl, H.below⟩
              exact AllReadyH.nil
             refine rc 11 rfl (fun K hK => ?_) ?_
             · as_aux_lemma => -- 11
              refine Stp.wp (Stp.bsl (e := 22) (cs := #[.slice pb k cb']) 55 rfl rfl (fun W => by kernel_rfl) H ?_); clear H; intro g55 w1 H; refine hK.out _ _ trivial ?_; clear hK K; simp only [putS]
              refine rg_one (i := 6) (by kernel_rfl) rfl rfl (fun K hK => ?_)
              refine Stp.wp (Stp.bsl (e := 22) (cs := #[.slice pa k ca]) 50 rfl rfl (fun W => by kernel_rfl) H ?_); clear H; intro g50 w1 H; refine hK.out _ _ trivial ?_; clear hK K; simp only [putS]
              refine rg_one (i := 7) (by kernel_rfl) rfl rfl (fun K hK => ?_)
              refine wp_callf rfl ent12 (KA.out _ _ (H.gr 22) H.below) rfl (fun v w1 hr => ?_); obtain ⟨rfl, hb1⟩ := hr; replace H := H.grow hb1; clear hb1; refine hK.out _ _ trivial ?_; clear hK K; simp only [putS]
              refine rg_one (i := 12) (by kernel_rfl) rfl rfl (fun K hK => ?_)
              refine wp_callf rfl ent12 (KB.out _ _ (H.gr 22) H.below) rfl (fun v w1 hr => ?_); obtain ⟨rfl, hb1⟩ := hr; replace H := H.grow hb1; clear hb1; refine hK.out _ _ trivial ?_; clear hK K; simp only [putS]
              refine rt 13 rfl (Yld.of rfl (fun W _ => by go_simp; first | done | with_reducible rfl)) trivial ?_; simp only [putS]
              refine rg_one (i := 18) (by kernel_rfl) rfl rfl (fun K hK => ?_)
              refine wp_callf rfl ent12 (KC.out _ _ (H.gr 22) H.below) rfl (fun v w1 hr => ?_); obtain ⟨rfl, hb1⟩ := hr; replace H := H.grow hb1; clear hb1; refine hK.out _ _ trivial ?_; clear hK K; simp only [putS]
              refine rt 19 rfl (Yld.of rfl (fun W _ => by go_simp; first | done | with_reducible rfl)) trivial ?_; simp only [putS]
              refine rt 20 rfl (Yld.of rfl (fun W _ => by go_simp; first | done | with_reducible rfl)) trivial ?_; simp only [putS]
              refine rt 21 rfl (Yld.move rfl rfl) trivial ?_; simp only [putE]
              refine rg_one (i := 22) (by kernel_rfl) rfl rfl (fun K hK => ?_)
              refine wp_callf rfl ent8 (awake_ok _) rfl (fun v w1 hr => ?_); obtain ⟨rfl, hb1⟩ := hr; replace H := H.grow hb1; clear hb1; refine hK.out _ _ trivial ?_; clear hK K; simp only [putS]
              refine rt 23 rfl (Yld.pick rfl rfl rfl) trivial ?_; simp only [putE]
              refine rt 24 rfl (Yld.assign rfl rfl) trivial ?_; simp only [putE]
              refine rg_done (by kernel_rfl) ?_
              exact ⟨rfl, rfl, rfl, H.below⟩
             exact AllReadyH.nil
            exact AllReadyH.nil
           refine rc 6 rfl (fun K hK => ?_) ?_
           · as_aux_lemma => -- 6
            refine Stp.wp (Stp.bsl (e := 22) (cs := #[.slice pa k ca]) 50 rfl rfl (fun W => by kernel_rfl) H ?_); clear H; intro g50 w1 H; refine hK.out _ _ trivial ?_; clear hK K; simp only [putS]
            refine ra [2, 11, 17] ?_
            refine rc 2 rfl (fun K hK => ?_) ?_
            · as_aux_lemma => -- 2
             refine wp_callf rfl ent12 (KD.out _ _ (H.gr 22) (H.gr 5)) rfl (fun v w1 hr => ?_); obtain ⟨rfl, hb1⟩ := hr; replace H := H.grow hb1; clear hb1; refine hK.out _ _ trivial ?_; clear hK K; simp only [putS]
             refine ra [7, 11, 17] ?_
             refine rc 7 rfl (fun K hK => ?_) ?_
             · as_aux_lemma => -- 7
              refine wp_callf rfl ent12 (KA.out _ _ (H.gr 22) H.below) rfl (fun v w1 hr => ?_); obtain ⟨rfl, hb1⟩ := hr; replace H := H.grow hb1; clear hb1; refine hK.out _ _ trivial ?_; clear hK K; simp only [putS]
              refine ra [11, 17] ?_
              refine rc 11 rfl (fun K hK => ?_) ?_
              · as_aux_lemma => -- 11
               refine Stp.wp (Stp.bsl (e := 22) (cs := #[.slice pb k cb']) 55 rfl rfl (fun W => by kernel_rfl) H ?_); clear H; intro g55 w1 H; refine hK.out _ _ trivial ?_; clear hK K; simp only [putS]
               refine ra [12, 17] ?_
               refine rc 12 rfl (fun K hK => ?_) ?_
               · as_aux_lemma => -- 12
                refine wp_callf rfl ent12 (KB.out _ _ (H.gr 22) H.below) rfl (fun v w1 hr => ?_); obtain ⟨rfl, hb1⟩ := hr; replace H := H.grow hb1; clear hb1; refine hK.out _ _ trivial ?_; clear hK K; simp only [putS]
                refine rt 13 rfl (Yld.of rfl (fun W _ => by go_simp; first | done | with_reducible rfl)) trivial ?_; simp only [putS]
                refine rg_one (i := 17) (by kernel_rfl) rfl rfl (fun K hK => ?_)
                refine Stp.wp (Stp.bsl (e := 22) (cs := #[.slice pc k cc']) 61 rfl rfl (fun W => by kernel_rfl) H ?_); clear H; intro g61 w1 H; refine hK.out _ _ trivial ?_; clear hK K; simp only [putS]
                refine rg_one (i := 18) (by kernel_rfl) rfl rfl (fun K hK => ?_)
                refine wp_callf rfl ent12 (KC.out _ _ (H.gr 22) H.below) rfl (fun v w1 hr => ?_); obtain ⟨rfl, hb1⟩ := hr; replace H := H.grow hb1; clear hb1; refine hK.out _ _ trivial ?_; clear hK K; simp only [putS]
                refine rt 19 rfl (Yld.of rfl (fun W _ => by go_simp; first | done | with_reducible rfl)) trivial ?_; simp only [putS]
                refine rt 20 rfl (Yld.of rfl (fun W _ => by go_simp; first | done | with_reducible rfl)) trivial ?_; simp only [putS]
                refine rt 21 rfl (Yld.move rfl rfl) trivial ?_; simp only [putE]
                refine rg_one (i := 22) (by kernel_rfl) rfl rfl (fun K hK => ?_)
                refine wp_callf rfl ent8 (awake_ok _) rfl (fun v w1 hr => ?_); obtain ⟨rfl, hb1⟩ := hr; replace H := H.grow hb1; clear hb1; refine hK.out _ _ trivial ?_; clear hK K; simp only [putS]
                refine rt 23 rfl (Yld.pick rfl rfl rfl) trivial ?_; simp only [putE]
                refine rt 24 rfl (Yld.assign rfl rfl) trivial ?_; simp only [putE]
                refine rg_done (by kernel_rfl) ?_
                exact ⟨rfl, rfl, rfl, H.below⟩
               refine rc 17 rfl (fun K hK => ?_) ?_
               · as_aux_lemma => -- 17
                refine Stp.wp (Stp.bsl (e := 22) (cs := #[.slice pc k cc']) 61 rfl rfl (fun W => by kernel_rfl) H ?_); clear H; intro g61 w1 H; refine hK.out _ _ trivial ?_; clear hK K; simp only [putS]
                refine rg_one (i := 12) (by kernel_rfl) rfl rfl (fun K hK => ?_)
                refine wp_callf rfl ent12 (KB.out _ _ (H.gr 22) H.below) rfl (fun v w1 hr => ?_); obtain ⟨rfl, hb1⟩ := hr; replace H := H.grow hb1; clear hb1; refine hK.out _ _ trivial ?_; clear hK K; simp only [putS]
                refine rt 13 rfl (Yld.of rfl (fun W _ => by go_simp; first | done | with_reducible rfl)) trivial ?_; simp only [putS]
                refine rg_one (i := 18) (by kernel_rfl) rfl rfl (fun K hK => ?_)
                refine wp_callf rfl ent12 (KC.out _ _ (H.gr 22) H.below) rfl (fun v w1 hr => ?_); obtain ⟨rfl, hb1⟩ := hr; replace H := H.grow hb1; clear hb1; refine hK.out _ _ trivial ?_; clear hK K; simp only [putS]
                refine rt 19 rfl (Yld.of rfl (fun W _ => by go_simp; first | done | with_reducible rfl)) trivial ?_; simp only [putS]
                refine rt 20 rfl (Yld.of rfl (fun W _ => by go_simp; first | done | with_reducible rfl)) trivial ?_; simp only [putS]
                refine rt 21 rfl (Yld.move rfl rfl) trivial ?_; simp only [putE]
                refine rg_one (i := 22) (by kernel_rfl) rfl rfl (fun K hK => ?_)
                refine wp_callf rfl ent8 (awake_ok _) rfl (fun v w1 hr => ?_); obtain ⟨rfl, hb1⟩ := hr; replace H := H.grow hb1; clear hb1; refine hK.out _ _ trivial ?_; clear hK K; simp only [putS]
                refine rt 23 rfl (Yld.pick rfl rfl rfl) trivial ?_; simp only [putE]
                refine rt 24 rfl (Yld.assign rfl rfl) trivial ?_; simp only [putE]
                refine rg_done (by kernel_rfl) ?_
                exact ⟨rfl, rfl, rfl, H.below⟩
               exact AllReadyH.nil
              refine rc 17 rfl (fun K hK => ?_) ?_
              · as_aux_lemma => -- 17
               refine Stp.wp (Stp.bsl (e := 22) (cs := #[.slice pc k cc']) 61 rfl rfl (fun W => by kernel_rfl) H ?_); clear H; intro g61 w1 H; refine hK.out _ _ trivial ?_; clear hK K; simp only [putS]
               refine rg_one (i := 11) (by kernel_rfl) rfl rfl (fun K hK => ?_)
               refine Stp.wp (Stp.bsl (e := 22) (cs := #[.slice pb k cb']) 55 rfl rfl (fun W => by kernel_rfl) H ?_); clear H; intro g55 w1 H; refine hK.out _ _ trivial ?_; clear hK K; simp only [putS]
               refine rg_one (i := 12) (by kernel_rfl) rfl rfl (fun K hK => ?_)
               refine wp_callf rfl ent12 (KB.out _ _ (H.gr 22) H.below) rfl (fun v w1 hr => ?_); obtain ⟨rfl, hb1⟩ := hr; replace H := H.grow hb1; clear hb1; refine hK.out _ _ trivial ?_; clear hK K; simp only [putS]
               refine rt 13 rfl (Yld.of rfl (fun W _ => by go_simp; first | done | with_reducible rfl)) trivial ?_; simp only [putS]
               refine rg_one (i := 18) (by kernel_rfl) rfl rfl (fun K hK => ?_)
               refine wp_callf rfl ent12 (KC.out _ _ (H.gr 22) H.below) rfl (fun v w1 hr => ?_); obtain ⟨rfl, hb1⟩ := hr; replace H := H.grow hb1; clear hb1; refine hK.out _ _ trivial ?_; clear hK K; simp only [putS]
               refine rt 19 rfl (Yld.of rfl (fun W _ => by go_simp; first | done | with_reducible rfl)) trivial ?_; simp only [putS]
               refine rt 20 rfl (Yld.of rfl (fun W _ => by go_simp; first | done | with_reducible rfl)) trivial ?_; simp only [putS]
               refine rt 21 rfl (Yld.move rfl rfl) trivial ?_; simp only [putE]
               refine rg_one (i := 22) (by kernel_rfl) rfl rfl (fun K hK => ?_)
               refine wp_callf rfl ent8 (awake_ok _) rfl (fun v w1 hr => ?_); obtain ⟨rfl, hb1⟩ := hr; replace H := H.grow hb1; clear hb1; refine hK.out _ _ trivial ?_; clear hK K; simp only [putS]
               refine rt 23 rfl (Yld.pick rfl rfl rfl) trivial ?_; simp only [putE]
               refine rt 24 rfl (Yld.assign rfl rfl) trivial ?_; simp only [putE]
               refine rg_done (by kernel_rfl) ?_
               exact ⟨rfl, rfl, rfl, H.below⟩
              exact AllReadyH.nil
             refine rc 11 rfl (fun K hK => ?_) ?_
             · as_aux_lemma => -- 11
              refine Stp.wp (Stp.bsl (e := 22) (cs := #[.slice pb k cb']) 55 rfl rfl (fun W => by kernel_rfl) H ?_); clear H; intro g55 w1 H; refine hK.out _ _ trivial ?_; clear hK K; simp only [putS]
              refine ra [7, 17] ?_
              refine rc 7 rfl (fun K hK => ?_) ?_
              · as_aux_lemma => -- 7
               refine wp_callf rfl ent12 (KA.out _ _ (H.gr 22) H.below) rfl (fun v w1 hr => ?_); obtain ⟨rfl, hb1⟩ := hr; replace H := H.grow hb1; clear hb1; refine hK.out _ _ trivial ?_; clear hK K; simp only [putS]
               refine ra [12, 17] ?_
               refine rc 12 rfl (fun K hK => ?_) ?_
               · as_aux_lemma => -- 12
                refine wp_callf rfl ent12 (KB.out _ _ (H.gr 22) H.below) rfl (fun v w1 hr => ?_); obtain ⟨rfl, hb1⟩ := hr; replace H := H.grow hb1; clear hb1; refine hK.out _ _ trivial ?_; clear hK K; simp only [putS]
                refine rt 13 rfl (Yld.of rfl (fun W _ => by go_simp; first | done | with_reducible rfl)) trivial ?_; simp only [putS]
                refine rg_one (i := 17) (by kernel_rfl) rfl rfl (fun K hK => ?_)
                refine Stp.wp (Stp.bsl (e := 22) (cs := #[.slice pc k cc']) 61 rfl rfl (fun W => by kernel_rfl) H ?_); clear H; intro g61 w1 H; refine hK.out _ _ trivial ?_; clear hK K; simp only [putS]
                refine rg_one (i := 18) (by kernel_rfl) rfl rfl (fun K hK => ?_)
                refine wp_callf rfl ent12 (KC.out _ _ (H.gr 22) H.below) rfl (fun v w1 hr => ?_); obtain ⟨rfl, hb1⟩ := hr; replace H := H.grow hb1; clear hb1; refine hK.out _ _ trivial ?_; clear hK K; simp only [putS]
                refine rt 19 rfl (Yld.of rfl (fun W _ => by go_simp; first | done | with_reducible rfl)) trivial ?_; simp only [putS]
                refine rt 20 rfl (Yld.of rfl (fun W _ => by go_simp; first | done | with_reducible rfl)) trivial ?_; simp only [putS]
                refine rt 21 rfl (Yld.move rfl rfl) trivial ?_; simp only [putE]
                refine rg_one (i := 22) (by kernel_rfl) rfl rfl (fun K hK => ?_)
                refine wp_callf rfl ent8 (awake_ok _) rfl (fun v w1 hr => ?_); obtain ⟨rfl, hb1⟩ := hr; replace H := H.grow hb1; clear hb1; refine hK.out _ _ trivial ?_; clear hK K; simp only [putS]
                refine rt 23 rfl (Yld.pick rfl rfl rfl) trivial ?_; simp only [putE]
                refine rt 24 rfl (Yld.assign rfl rfl) trivial ?_; simp only [putE]
                refine rg_done (by kernel_rfl) ?_
                exact ⟨rfl, rfl, rfl, H.below⟩
               refine rc 17 rfl (fun K hK => ?_) ?_
               · as_aux_lemma => -- 17
                refine Stp.wp (Stp.bsl (e := 22) (cs := #[.slice pc k cc']) 61 rfl rfl (fun W => by kernel_rfl) H ?_); clear H; intro g61 w1 H; refine hK.out _ _ trivial ?_; clear hK K; simp only [putS]
                refine rg_one (i := 12) (by kernel_rfl) rfl rfl (fun K hK => ?_)
                refine wp_callf rfl ent12 (KB.out _ _ (H.gr 22) H.below) rfl (fun v w1 hr => ?_); obtain ⟨rfl, hb1⟩ := hr; replace H := H.grow hb1; clear hb1; refine hK.out _ _ trivial ?_; clear hK K; simp only [putS]
                refine rt 13 rfl (Yld.of rfl (fun W _ => by go_simp; first | done | with_reducible rfl)) trivial ?_; simp only [putS]
                refine rg_one (i := 18) (by kernel_rfl) rfl rfl (fun K hK => ?_)
                refine wp_callf rfl ent12 (KC.out _ _ (H.gr 22) H.below) rfl (fun v w1 hr => ?_); obtain ⟨rfl, hb1⟩ := hr; replace H := H.grow hb1; clear hb1; refine hK.out _ _ trivial ?_; clear hK K; simp only [putS]
                refine rt 19 rfl (Yld.of rfl (fun W _ => by go_simp; first | done | with_reducible rfl)) trivial ?_; simp only [putS]
                refine rt 20 rfl (Yld.of rfl (fun W _ => by go_simp; first | done | with_reducible rfl)) trivial ?_; simp only [putS]
                refine rt 21 rfl (Yld.move rfl rfl) trivial ?_; simp only [putE]
                refine rg_one (i := 22) (by kernel_rfl) rfl rfl (fun K hK => ?_)
                refine wp_callf rfl ent8 (awake_ok _) rfl (fun v w1 hr => ?_); obtain ⟨rfl, hb1⟩ := hr; replace H := H.grow hb1; clear hb1; refine hK.out _ _ trivial ?_; clear hK K; simp only [putS]
                refine rt 23 rfl (Yld.pick rfl rfl rfl) trivial ?_; simp only [putE]
                refine rt 24 rfl (Yld.assign rfl rfl) trivial ?_; simp only [putE]
                refine rg_done (by kernel_rfl) ?_
                exact ⟨rfl, rfl, rfl, H.below⟩
               exact AllReadyH.nil
              refine rc 17 rfl (fun K hK => ?_) ?_
              · as_aux_lemma => -- 17
               refine Stp.wp (Stp.bsl (e := 22) (cs := #[.slice pc k cc']) 61 rfl rfl (fun W => by kernel_rfl) H ?_); clear H; intro g61 w1 H; refine hK.out _ _ trivial ?_; clear hK K; simp only [putS]
               refine rg_one (i := 7) (by kernel_rfl) rfl rfl (fun K hK => ?_)
               refine wp_callf rfl ent12 (KA.out _ _ (H.gr 22) H.below) rfl (fun v w1 hr => ?_); obtain ⟨rfl, hb1⟩ := hr; replace H := H.grow hb1; clear hb1; refine hK.out _ _ trivial ?_; clear hK K; simp only [putS]
               refine rg_one (i := 12) (by kernel_rfl) rfl rfl (fun K hK => ?_)
               refine wp_callf rfl ent12 (KB.out _ _ (H.gr 22) H.below) rfl (fun v w1 hr => ?_); obtain ⟨rfl, hb1⟩ := hr; replace H := H.grow hb1; clear hb1; refine hK.out _ _ trivial ?_; clear hK K; simp only [putS]
               refine rt 13 rfl (Yld.of rfl (fun W _ => by go_simp; first | done | with_reducible rfl)) trivial ?_; simp only [putS]
               refine rg_one (i := 18) (by kernel_rfl) rfl rfl (fun K hK => ?_)
               refine wp_callf rfl ent12 (KC.out _ _ (H.gr 22) H.below) rfl (fun v w1 hr => ?_); obtain ⟨rfl, hb1⟩ := hr; replace H := H.grow hb1; clear hb1; refine hK.out _ _ trivial ?_; clear hK K; simp only [putS]
               refine rt 19 rfl (Yld.of rfl (fun W _ => by go_simp; first | done | with_reducible rfl)) trivial ?_; simp only [putS]
               refine rt 20 rfl (Yld.of rfl (fun W _ => by go_simp; first | done | with_reducible rfl)) trivial ?_; simp only [putS]
               refine rt 21 rfl (Yld.move rfl rfl) trivial ?_; simp only [putE]
               refine rg_one (i := 22) (by kernel_rfl) rfl rfl (fun K hK => ?_)
               refine wp_callf rfl ent8 (awake_ok _) rfl (fun v w1 hr => ?_); obtain ⟨rfl, hb1⟩ := hr; replace H := H.grow hb1; clear hb1; refine hK.out _ _ trivial ?_; clear hK K; simp only [putS]
               refine rt 23 rfl (Yld.pick rfl rfl rfl) trivial ?_; simp only [putE]
               refine rt 24 rfl (Yld.assign rfl rfl) trivial ?_; simp only [putE]
               refine rg_done (by kernel_rfl) ?_
               exact ⟨rfl, rfl, rfl, H.below⟩
              exact AllReadyH.nil
             refine rc 17 rfl (fun K hK => ?_) ?_
             · as_aux_lemma => -- 17
              refine Stp.wp (Stp.bsl (e := 22) (cs := #[.slice pc k cc']) 61 rfl rfl (fun W => by kernel_rfl) H ?_); clear H; intro g61 w1 H; refine hK.out _ _ trivial ?_; clear hK K; simp only [putS]
              refine ra [7, 11] ?_
              refine rc 7 rfl (fun K hK => ?_) ?_
              · as_aux_lemma => -- 7
               refine wp_callf rfl ent12 (KA.out _ _ (H.gr 22) H.below) rfl (fun v w1 hr => ?_); obtain ⟨rfl, hb1⟩ := hr; replace H := H.grow hb1; clear hb1; refine hK.out _ _ trivial ?_; clear hK K; simp only [putS]
               refine rg_one (i := 11) (by kernel_rfl) rfl rfl (fun K hK => ?_)
               refine Stp.wp (Stp.bsl (e := 22) (cs := #[.slice pb k cb']) 55 rfl rfl (fun W => by kernel_rfl) H ?_); clear H; intro g55 w1 H; refine hK.out _ _ trivial ?_; clear hK K; simp only [putS]
               refine rg_one (i := 12) (by kernel_rfl) rfl rfl (fun K hK => ?_)
               refine wp_callf rfl ent12 (KB.out _ _ (H.gr 22) H.below) rfl (fun v w1 hr => ?_); obtain ⟨rfl, hb1⟩ := hr; replace H := H.grow hb1; clear hb1; refine hK.out _ _ trivial ?_; clear hK K; simp only [putS]
               refine rt 13 rfl (Yld.of rfl (fun W _ => by go_simp; first | done | with_reducible rfl)) trivial ?_; simp only [putS]
               refine rg_one (i := 18) (by kernel_rfl) rfl rfl (fun K hK => ?_)
               refine wp_callf rfl ent12 (KC.out _ _ (H.gr 22) H.below) rfl (fun v w1 hr => ?_); obtain ⟨rfl, hb1⟩ := hr; replace H := H.grow hb1; clear hb1; refine hK.out _ _ trivial ?_; clear hK K; simp only [putS]
               refine rt 19 rfl (Yld.of rfl (fun W _ => by go_simp; first | done | with_reducible rfl)) trivial ?_; simp only [putS]
               refine rt 20 rfl (Yld.of rfl (fun W _ => by go_simp; first | done | with_reducible rfl)) trivial ?_; simp only [putS]
               refine rt 21 rfl (Yld.move rfl rfl) trivial ?_; simp only [putE]
               refine rg_one (i := 22) (by kernel_rfl) rfl rfl (fun K hK => ?_)
               refine wp_callf rfl ent8 (awake_ok _) rfl (fun v w1 hr => ?_); obtain ⟨rfl, hb1⟩ := hr; replace H := H.grow hb1; clear hb1; refine hK.out _ _ trivial ?_; clear hK K; simp only [putS]
               refine rt 23 rfl (Yld.pick rfl rfl rfl) trivial ?_; simp only [putE]
               refine rt 24 rfl (Yld.assign rfl rfl) trivial ?_; simp only [putE]
               refine rg_done (by kernel_rfl) ?_
               exact ⟨rfl, rfl, rfl, H.below⟩
              refine rc 11 rfl (fun K hK => ?_) ?_
              · as_aux_lemma => -- 11
               refine Stp.wp (Stp.bsl (e := 22) (cs := #[.slice pb k cb']) 55 rfl rfl (fun W => by kernel_rfl) H ?_); clear H; intro g55 w1 H; refine hK.out _ _ trivial ?_; clear hK K; simp only [putS]
               refine rg_one (i := 7) (by kernel_rfl) rfl rfl (fun K hK => ?_)
               refine wp_callf rfl ent12 (KA.out _ _ (H.gr 22) H.below) rfl (fun v w1 hr => ?_); obtain ⟨rfl, hb1⟩ := hr; replace H := H.grow hb1; clear hb1; refine hK.out _ _ trivial ?_; clear hK K; simp only [putS]
               refine rg_one (i := 12) (by kernel_rfl) rfl rfl (fun K hK => ?_)
               refine wp_callf rfl ent12 (KB.out _ _ (H.gr 22) H.below) rfl (fun v w1 hr => ?_); obtain ⟨rfl, hb1⟩ := hr; replace H := H.grow hb1; clear hb1; refine hK.out _ _ trivial ?_; clear hK K; simp only [putS]
               refine rt 13 rfl (Yld.of rfl (fun W _ => by go_simp; first | done | with_reducible rfl)) trivial ?_; simp only [putS]
               refine rg_one (i := 18) (by kernel_rfl) rfl rfl (fun K hK => ?_)
               refine wp_callf rfl ent12 (KC.out _ _ (H.gr 22) H.below) rfl (fun v w1 hr => ?_); obtain ⟨rfl, hb1⟩ := hr; replace H := H.grow hb1; clear hb1; refine hK.out _ _ trivial ?_; clear hK K; simp only [putS]
               refine rt 19 rfl (Yld.of rfl (fun W _ => by go_simp; first | done | with_reducible rfl)) trivial ?_; simp only [putS]
               refine rt 20 rfl (Yld.of rfl (fun W _ => by go_simp; first | done | with_reducible rfl)) trivial ?_; simp only [putS]
               refine rt 21 rfl (Yld.move rfl rfl) trivial ?_; simp only [putE]
               refine rg_one (i := 22) (by kernel_rfl) rfl rfl (fun K hK => ?_)
               refine wp_callf rfl ent8 (awake_ok _) rfl (fun v w1 hr => ?_); obtain ⟨rfl, hb1⟩ := hr; replace H := H.grow hb1; clear hb1; refine hK.out _ _ trivial ?_; clear hK K; simp only [putS]
               refine rt 23 rfl (Yld.pick rfl rfl rfl) trivial ?_; simp only [putE]
               refine rt 24 rfl (Yld.assign rfl rfl) trivial ?_; simp only [putE]
               refine rg_done (by kernel_rfl) ?_
               exact ⟨rfl, rfl, rfl, H.below⟩
              exact AllReadyH.nil
             exact AllReadyH.nil
            refine rc 11 rfl (fun K hK => ?_) ?_
            · as_aux_lemma => -- 11
             refine Stp.wp (Stp.bsl (e := 22) (cs := #[.slice pb k cb']) 55 rfl rfl (fun W => by kernel_rfl) H ?_); clear H; intro g55 w1 H; refine hK.out _ _ trivial ?_; clear hK K; simp only [putS]
             refine ra [2, 17] ?_
             refine rc 2 rfl (fun K hK => ?_) ?_
             · as_aux_lemma => -- 2
              refine wp_callf rfl ent12 (KD.out _ _ (H.gr 22) (H.gr 5)) rfl (fun v w1 hr => ?_); obtain ⟨rfl, hb1⟩ := hr; replace H := H.grow hb1; clear hb1; refine hK.out _ _ trivial ?_; clear hK K; simp only [putS]
              refine ra [7, 17] ?_
              refine rc 7 rfl (fun K hK => ?_) ?_
              · as_aux_lemma => -- 7
               refine wp_callf rfl ent12 (KA.out _ _ (H.gr 22) H.below) rfl (fun v w1 hr => ?_); obtain ⟨rfl, hb1⟩ := hr; replace H := H.grow hb1; clear hb1; refine hK.out _ _ trivial ?_; clear hK K; simp only [putS]
               refine ra [12, 17] ?_
               refine rc 12 rfl (fun K hK => ?_) ?_
               · as_aux_lemma => -- 12
                refine wp_callf rfl ent12 (KB.out _ _ (H.gr 22) H.below) rfl (fun v w1 hr => ?_); obtain ⟨rfl, hb1⟩ := hr; replace H := H.grow hb1; clear hb1; refine hK.out _ _ trivial ?_; clear hK K; simp only [putS]
                refine rt 13 rfl (Yld.of rfl (fun W _ => by go_simp; first | done | with_reducible rfl)) trivial ?_; simp only [putS]
                refine rg_one (i := 17) (by kernel_rfl) rfl rfl (fun K hK => ?_)
                refine Stp.wp (Stp.bsl (e := 22) (cs := #[.slice pc k cc']) 61 rfl rfl (fun W => by kernel_rfl) H ?_); clear H; intro g61 w1 H; refine hK.out _ _ trivial ?_; clear hK K; simp only [putS]
                refine rg_one (i := 18) (by kernel_rfl) rfl rfl (fun K hK => ?_)
                refine wp_callf rfl ent12 (KC.out _ _ (H.gr 22) H.below) rfl (fun v w1 hr => ?_); obtain ⟨rfl, hb1⟩ := hr; replace H := H.grow hb1; clear hb1; refine hK.out _ _ trivial ?_; clear hK K; simp only [putS]
                refine rt 19 rfl (Yld.of rfl (fun W _ => by go_simp; first | done | with_reducible rfl)) trivial ?_; simp only [putS]
                refine rt 20 rfl (Yld.of rfl (fun W _ => by go_simp; first | done | with_reducible rfl)) trivial ?_; simp only [putS]
                refine rt 21 rfl (Yld.move rfl rfl) trivial ?_; simp only [putE]
                refine rg_one (i := 22) (by kernel_rfl) rfl rfl (fun K hK => ?_)
                refine wp_callf rfl ent8 (awake_ok _) rfl (fun v w1 hr => ?_); obtain ⟨rfl, hb1⟩ := hr; replace H := H.grow hb1; clear hb1; refine hK.out _ _ trivial ?_; clear hK K; simp only [putS]
                refine rt 23 rfl (Yld.pick rfl rfl rfl) trivial ?_; simp only [putE]
                refine rt 24 rfl (Yld.assign rfl rfl) trivial ?_; simp only [putE]
                refine rg_done (by kernel_rfl) ?_
                exact ⟨rfl, rfl, rfl, H.below⟩
               refine rc 17 rfl (fun K hK => ?_) ?_
               · as_aux_lemma => -- 17
                refine Stp.wp (Stp.bsl (e := 22) (cs := #[.slice pc k cc']) 61 rfl rfl (fun W => by kernel_rfl) H ?_); clear H; intro g61 w1 H; refine hK.out _ _ trivial ?_; clear hK K; simp only [putS]
                refine rg_one (i := 12) (by kernel_rfl) rfl rfl (fun K hK => ?_)
                refine wp_callf rfl ent12 (KB.out _ _ (H.gr 22) H.below) rfl (fun v w1 hr => ?_); obtain ⟨rfl, hb1⟩ := hr; replace H := H.grow hb1; clear hb1; refine hK.out _ _ trivial ?_; clear hK K; simp only [putS]
                refine rt 13 rfl (Yld.of rfl (fun W _ => by go_simp; first | done | with_reducible rfl)) trivial ?_; simp only [putS]
                refine rg_one (i := 18) (by kernel_rfl) rfl rfl (fun K hK => ?_)
                refine wp_callf rfl ent12 (KC.out _ _ (H.gr 22) H.below) rfl (fun v w1 hr => ?_); obtain ⟨rfl, hb1⟩ := hr; replace H := H.grow hb1; clear hb1; refine hK.out _ _ trivial ?_; clear hK K; simp only [putS]
                refine rt 19 rfl (Yld.of rfl (fun W _ => by go_simp; first | done | with_reducible rfl)) trivial ?_; simp only [putS]
                refine rt 20 rfl (Yld.of rfl (fun W _ => by go_simp; first | done | with_reducible rfl)) trivial ?_; simp only [putS]
                refine rt 21 rfl (Yld.move rfl rfl) trivial ?_; simp only [putE]
                refine rg_one (i := 22) (by kernel_rfl) rfl rfl (fun K hK => ?_)
                refine wp_callf rfl ent8 (awake_ok _) rfl (fun v w1 hr => ?_); obtain ⟨rfl, hb1⟩ := hr; replace H := H.grow hb1; clear hb1; refine hK.out _ _ trivial ?_; clear hK K; simp only [putS]
                refine rt 23 rfl (Yld.pick rfl rfl rfl) trivial ?_; simp only [putE]
                refine rt 24 rfl (Yld.assign rfl rfl) trivial ?_; simp only [putE]
                refine rg_done (by kernel_rfl) ?_
                exact ⟨rfl, rfl, rfl, H.below⟩
               exact AllReadyH.nil
              refine rc 17 rfl (fun K hK => ?_) ?_
              · as_aux_lemma => -- 17
               refine Stp.wp (Stp.bsl (e := 22) (cs := #[.slice pc k cc']) 61 rfl rfl (fun W => by kernel_rfl) H ?_); clear H; intro g61 w1 H; refine hK.out _ _ trivial ?_; clear hK K; simp only [putS]
               refine rg_one (i := 7) (by kernel_rfl) rfl rfl (fun K hK => ?_)
               refine wp_callf rfl ent12 (KA.out _ _ (H.gr 22) H.below) rfl (fun v w1 hr => ?_); obtain ⟨rfl, hb1⟩ := hr; replace H := H.grow hb1; clear hb1; refine hK.out _ _ trivial ?_; clear hK K; simp only [putS]
               refine rg_one (i := 12) (by kernel_rfl) rfl rfl (fun K hK => ?_)
               refine wp_callf rfl ent12 (KB.out _ _ (H.gr 22) H.below) rfl (fun v w1 hr => ?_); obtain ⟨rfl, hb1⟩ := hr; replace H := H.grow hb1; clear hb1; refine hK.out _ _ trivial ?_; clear hK K; simp only [putS]
               refine rt 13 rfl (Yld.of rfl (fun W _ => by go_simp; first | done | with_reducible rfl)) trivial ?_; simp only [putS]
               refine rg_one (i := 18) (by kernel_rfl) rfl rfl (fun K hK => ?_)
               refine wp_callf rfl ent12 (KC.out _ _ (H.gr 22) H.below) rfl (fun v w1 hr => ?_); obtain ⟨rfl, hb1⟩ := hr; replace H := H.grow hb1; clear hb1; refine hK.out _ _ trivial ?_; clear hK K; simp only [putS]
               refine rt 19 rfl (Yld.of rfl (fun W _ => by go_simp; first | done | with_reducible rfl)) trivial ?_; simp only [putS]
               refine rt 20 rfl (Yld.of rfl (fun W _ => by go_simp; first | done | with_reducible rfl)) trivial ?_; simp only [putS]
               refine rt 21 rfl (Yld.move rfl rfl) trivial ?_; simp only [putE]
               refine rg_one (i := 22) (by kernel_rfl) rfl rfl (fun K hK => ?_)
               refine wp_callf rfl ent8 (awake_ok _) rfl (fun v w1 hr => ?_); obtain ⟨rfl, hb1⟩ := hr; replace H := H.grow hb1; clear hb1; refine hK.out _ _ trivial ?_; clear hK K; simp only [putS]
               refine rt 23 rfl (Yld.pick rfl rfl rfl) trivial ?_; simp only [putE]
               refine rt 24 rfl (Yld.assign rfl rfl) trivial ?_; simp only [putE]
               refine rg_done (by kernel_rfl) ?_
               exact ⟨rfl, rfl, rfl, H.below⟩
              exact AllReadyH.nil
             refine rc 17 rfl (fun K hK => ?_) ?_
             · as_aux_lemma => -- 17
              refine Stp.wp (Stp.bsl (e := 22) (cs := #[.slice pc k cc']) 61 rfl rfl (fun W => by kernel_rfl) H ?_); clear H; intro g61 w1 H; refine hK.out _ _ trivial ?_; clear hK K; simp only [putS]
              refine rg_one (i := 2) (by kernel_rfl) rfl rfl (fun K hK => ?_)
              refine wp_callf rfl ent12 (KD.out _ _ (H.gr 22) (H.gr 5)) rfl (fun v w1 hr => ?_); obtain ⟨rfl, hb1⟩ := hr; replace H := H.grow hb1; clear hb1; refine hK.out _ _ trivial ?_; clear hK K; simp only [putS]
              refine rg_one (i := 7) (by kernel_rfl) rfl rfl (fun K hK => ?_)
              refine wp_callf rfl ent12 (KA.out _ _ (H.gr 22) H.below) rfl (fun v w1 hr => ?_); obtain ⟨rfl, hb1⟩ := hr; replace H := H.grow hb1; clear hb1; refine hK.out _ _ trivial ?_; clear hK K; simp only [putS]
              refine rg_one (i := 12) (by kernel_rfl) rfl rfl (fun K hK => ?_)
              refine wp_callf rfl ent12 (KB.out _ _ (H.gr 22) H.below) rfl (fun v w1 hr => ?_); obtain ⟨rfl, hb1⟩ := hr; replace H := H.grow hb1; clear hb1; refine hK.out _ _ trivial ?_; clear hK K; simp only [putS]
              refine rt 13 rfl (Yld.of rfl (fun W _ => by go_simp; first | done | with_reducible rfl)) trivial ?_; simp only [putS]
              refine rg_one (i := 18) (by kernel_rfl) rfl rfl (fun K hK => ?_)
              refine wp_callf rfl ent12 (KC.out _ _ (H.gr 22) H.below) rfl (fun v w1 hr => ?_); obtain ⟨rfl, hb1⟩ := hr; replace H := H.grow hb1; clear hb1; refine hK.out _ _ trivial ?_; clear hK K; simp only [putS]
              refine rt 19 rfl (Yld.of rfl (fun W _ => by go_simp; first | done | with_reducible rfl)) trivial ?_; simp only [putS]
              refine rt 20 rfl (Yld.of rfl (fun W _ => by go_simp; first | done | with_reducible rfl)) trivial ?_; simp only [putS]
              refine rt 21 rfl (Yld.move rfl rfl) trivial ?_; simp only [putE]
              refine rg_one (i := 22) (by kernel_rfl) rfl rfl (fun K hK => ?_)
              refine wp_callf rfl ent8 (awake_ok _) rfl (fun v w1 hr => ?_); obtain ⟨rfl, hb1⟩ := hr; replace H := H.grow hb1; clear hb1; refine hK.out _ _ trivial ?_; clear hK K; simp only [putS]
              refine rt 23 rfl (Yld.pick rfl rfl rfl) trivial ?_; simp only [putE]
              refine rt 24 rfl (Yld.assign rfl rfl) trivial ?_; simp only [putE]
              refine rg_done (by kernel_rfl) ?_
              exact ⟨rfl, rfl, rfl, H.below⟩
             exact AllReadyH.nil
            refine rc 17 rfl (fun K hK => ?_) ?_
            · as_aux_lemma => -- 17
             refine Stp.wp (Stp.bsl (e := 22) (cs := #[.slice pc k cc']) 61 rfl rfl (fun W => by kernel_rfl) H ?_); clear H; intro g61 w1 H; refine hK.out _ _ trivial ?_; clear hK K; simp only [putS]
             refine ra [2, 11] ?_
             refine rc 2 rfl (fun K hK => ?_) ?_
             · as_aux_lemma => -- 2
              refine wp_callf rfl ent12 (KD.out _ _ (H.gr 22) (H.gr 5)) rfl (fun v w1 hr => ?_); obtain ⟨rfl, hb1⟩ := hr; replace H := H.grow hb1; clear hb1; refine hK.out _ _ trivial ?_; clear hK K; simp only [putS]
              refine ra [7, 11] ?_
              refine rc 7 rfl (fun K hK => ?_) ?_
              · as_aux_lemma => -- 7
               refine wp_callf rfl ent12 (KA.out _ _ (H.gr 22) H.below) rfl (fun v w1 hr => ?_); obtain ⟨rfl, hb1⟩ := hr; replace H := H.grow hb1; clear hb1; refine hK.out _ _ trivial ?_; clear hK K; simp only [putS]
               refine rg_one (i := 11) (by kernel_rfl) rfl rfl (fun K hK => ?_)
               refine Stp.wp (Stp.bsl (e := 22) (cs := #[.slice pb k cb']) 55 rfl rfl (fun W => by kernel_rfl) H ?_); clear H; intro g55 w1 H; refine hK.out _ _ trivial ?_; clear hK K; simp only [putS]
               refine rg_one (i := 12) (by kernel_rfl) rfl rfl (fun K hK => ?_)
               refine wp_callf rfl ent12 (KB.out _ _ (H.gr 22) H.below) rfl (fun v w1 hr => ?_); obtain ⟨rfl, hb1⟩ := hr; replace H := H.grow hb1; clear hb1; refine hK.out _ _ trivial ?_; clear hK K; simp only [putS]
               refine rt 13 rfl (Yld.of rfl (fun W _ => by go_simp; first | done | with_reducible rfl)) trivial ?_; simp only [putS]
               refine rg_one (i := 18) (by kernel_rfl) rfl rfl (fun K hK => ?_)
               refine wp_callf rfl ent12 (KC.out _ _ (H.gr 22) H.below) rfl (fun v w1 hr => ?_); obtain ⟨rfl, hb1⟩ := hr; replace H := H.grow hb1; clear hb1; refine hK.out _ _ trivial ?_; clear hK K; simp only [putS]
               refine rt 19 rfl (Yld.of rfl (fun W _ => by go_simp; first | done | with_reducible rfl)) trivial ?_; simp only [putS]
               refine rt 20 rfl (Yld.of rfl (fun W _ => by go_simp; first | done | with_reducible rfl)) trivial ?_; simp only [putS]
               refine rt 21 rfl (Yld.move rfl rfl) trivial ?_; simp only [putE]
               refine rg_one (i := 22) (by kernel_rfl) rfl rfl (fun K hK => ?_)
               refine wp_callf rfl ent8 (awake_ok _) rfl (fun v w1 hr => ?_); obtain ⟨rfl, hb1⟩ := hr; replace H := H.grow hb1; clear hb1; refine hK.out _ _ trivial ?_; clear hK K; simp only [putS]
               refine rt 23 rfl (Yld.pick rfl rfl rfl) trivial ?_; simp only [putE]
               refine rt 24 rfl (Yld.assign rfl rfl) trivial ?_; simp only [putE]
               refine rg_done (by kernel_rfl) ?_
               exact ⟨rfl, rfl, rfl, H.below⟩
              refine rc 11 rfl (fun K hK => ?_) ?_
              · as_aux_lemma => -- 11
               refine Stp.wp (Stp.bsl (e := 22) (cs := #[.slice pb k cb']) 55 rfl rfl (fun W => by kernel_rfl) H ?_); clear H; intro g55 w1 H; refine hK.out _ _ trivial ?_; clear hK K; simp only [putS]
               refine rg_one (i := 7) (by kernel_rfl) rfl rfl (fun K hK => ?_)
               refine wp_callf rfl ent12 (KA.out _ _ (H.gr 22) H.below) rfl (fun v w1 hr => ?_); obtain ⟨rfl, hb1⟩ := hr; replace H := H.grow hb1; clear hb1; refine hK.out _ _ trivial ?_; clear hK K; simp only [putS]
               refine rg_one (i := 12) (by kernel_rfl) rfl rfl (fun K hK => ?_)
               refine wp_callf rfl ent12 (KB.out _ _ (H.gr 22) H.below) rfl (fun v w1 hr => ?_); obtain ⟨rfl, hb1⟩ := hr; replace H := H.grow hb1; clear hb1; refine hK.out _ _ trivial ?_; clear hK K; simp only [putS]
               refine rt 13 rfl (Yld.of rfl (fun W _ => by go_simp; first | done | with_reducible rfl)) trivial ?_; simp only [putS]
               refine rg_one (i := 18) (by kernel_rfl) rfl rfl (fun K hK => ?_)
               refine wp_callf rfl ent12 (KC.out _ _ (H.gr 22) H.below) rfl (fun v w1 hr => ?_); obtain ⟨rfl, hb1⟩ := hr; replace H := H.grow hb1; clear hb1; refine hK.out _ _ trivial ?_; clear hK K; simp only [putS]
               refine rt 19 rfl (Yld.of rfl (fun W _ => by go_simp; first | done | with_reducible rfl)) trivial ?_; simp only [putS]
               refine rt 20 rfl (Yld.of rfl (fun W _ => by go_simp; first | done | with_reducible rfl)) trivial ?_; simp only [putS]
               refine rt 21 rfl (Yld.move rfl rfl) trivial ?_; simp only [putE]
               refine rg_one (i := 22) (by kernel_rfl) rfl rfl (fun K hK => ?_)
               refine wp_callf rfl ent8 (awake_ok _) rfl (fun v w1 hr => ?_); obtain ⟨rfl, hb1⟩ := hr; replace H := H.grow hb1; clear hb1; refine hK.out _ _ trivial ?_; clear hK K; simp only [putS]
               refine rt 23 rfl (Yld.pick rfl rfl rfl) trivial ?_; simp only [putE]
               refine rt 24 rfl (Yld.assign rfl rfl) trivial ?_; simp only [putE]
               refine rg_done (by kernel_rfl) ?_
               exact ⟨rfl, rfl, rfl, H.below⟩
              exact AllReadyH.nil
             refine rc 11 rfl (fun K hK => ?_) ?_
             · as_aux_lemma => -- 11
              refine Stp.wp (Stp.bsl (e := 22) (cs := #[.slice pb k cb']) 55 rfl rfl (fun W => by kernel_rfl) H ?_); clear H; intro g55 w1 H; refine hK.out _ _ trivial ?_; clear hK K; simp only [putS]
              refine rg_one (i := 2) (by kernel_rfl) rfl rfl (fun K hK => ?_)
              refine wp_callf rfl ent12 (KD.out _ _ (H.gr 22) (H.gr 5)) rfl (fun v w1 hr => ?_); obtain ⟨rfl, hb1⟩ := hr; replace H := H.grow hb1; clear hb1; refine hK.out _ _ trivial ?_; clear hK K; simp only [putS]
              refine rg_one (i := 7) (by kernel_rfl) rfl rfl (fun K hK => ?_)
              refine wp_callf rfl ent12 (KA.out _ _ (H.gr 22) H.below) rfl (fun v w1 hr => ?_); obtain ⟨rfl, hb1⟩ := hr; replace H := H.grow hb1; clear hb1; refine hK.out _ _ trivial ?_; clear hK K; simp only [putS]
              refine rg_one (i := 12) (by kernel_rfl) rfl rfl (fun K hK => ?_)
              refine wp_callf rfl ent12 (KB.out _ _ (H.gr 22) H.below) rfl (fun v w1 hr => ?_); obtain ⟨rfl, hb1⟩ := hr; replace H := H.grow hb1; clear hb1; refine hK.out _ _ trivial ?_; clear hK K; simp only [putS]
              refine rt 13 rfl (Yld.of rfl (fun W _ => by go_simp; first | done | with_reducible rfl)) trivial ?_; simp only [putS]
              refine rg_one (i := 18) (by kernel_rfl) rfl rfl (fun K hK => ?_)
              refine wp_callf rfl ent12 (KC.out _ _ (H.gr 22) H.below) rfl (fun v w1 hr => ?_); obtain ⟨rfl, hb1⟩ := hr; replace H := H.grow hb1; clear hb1; refine hK.out _ _ trivial ?_; clear hK K; simp only [putS]
              refine rt 19 rfl (Yld.of rfl (fun W _ => by go_simp; first | done | with_reducible rfl)) trivial ?_; simp only [putS]
              refine rt 20 rfl (Yld.of rfl (fun W _ => by go_simp; first | done | with_reducible rfl)) trivial ?_; simp only [putS]
              refine rt 21 rfl (Yld.move rfl rfl) trivial ?_; simp only [putE]
              refine rg_one (i := 22) (by kernel_rfl) rfl rfl (fun K hK => ?_)
              refine wp_callf rfl ent8 (awake_ok _) rfl (fun v w1 hr => ?_); obtain ⟨rfl, hb1⟩ := hr; replace H := H.grow hb1; clear hb1; refine hK.out _ _ trivial ?_; clear hK K; simp only [putS]
              refine rt 23 rfl (Yld.pick rfl rfl rfl) trivial ?_; simp only [putE]
              refine rt 24 rfl (Yld.assign rfl rfl) trivial ?_; simp only [putE]
              refine rg_done (by kernel_rfl) ?_
              exact ⟨rfl, rfl, rfl, H.below⟩
             exact AllReadyH.nil
            exact AllReadyH.nil
           refine rc 11 rfl (fun K hK => ?_) ?_
           · as_aux_lemma => -- 11
            refine Stp.wp (Stp.bsl (e := 22) (cs := #[.slice pb k cb']) 55 rfl rfl (fun W => by kernel_rfl) H ?_); clear H; intro g55 w1 H; refine hK.out _ _ trivial ?_; clear hK K; simp only [putS]
            refine ra [2, 6, 17] ?_
            refine rc 2 rfl (fun K hK => ?_) ?_
            · as_aux_lemma => -- 2
             refine wp_callf rfl ent12 (KD.out _ _ (H.gr 22) (H.gr 5)) rfl (fun v w1 hr => ?_); obtain ⟨rfl, hb1⟩ := hr; replace H := H.grow hb1; clear hb1; refine hK.out _ _ trivial ?_; clear hK K; simp only [putS]
             refine ra [6, 17] ?_
             refine rc 6 rfl (fun K hK => ?_) ?_
             · as_aux_lemma => -- 6
              refine Stp.wp (Stp.bsl (e := 22) (cs := #[.slice pa k ca]) 50 rfl rfl (fun W => by kernel_rfl) H ?_); clear H; intro g50 w1 H; refine hK.out _ _ trivial ?_; clear hK K; simp only [putS]
              refine ra [7, 17] ?_
              refine rc 7 rfl (fun K hK => ?_) ?_
              · as_aux_lemma => -- 7
               refine wp_callf rfl ent12 (KA.out _ _ (H.gr 22) H.below) rfl (fun v w1 hr => ?_); obtain ⟨rfl, hb1⟩ := hr; replace H := H.grow hb1; clear hb1; refine hK.out _ _ trivial ?_; clear hK K; simp only [putS]
               refine ra [12, 17] ?_
               refine rc 12 rfl (fun K hK => ?_) ?_
               · as_aux_lemma => -- 12
                refine wp_callf rfl ent12 (KB.out _ _ (H.gr 22) H.below) rfl (fun v w1 hr => ?_); obtain ⟨rfl, hb1⟩ := hr; replace H := H.grow hb1; clear hb1; refine hK.out _ _ trivial ?_; clear hK K; simp only [putS]
                refine rt 13 rfl (Yld.of rfl (fun W _ => by go_simp; first | done | with_reducible rfl)) trivial ?_; simp only [putS]
                refine rg_one (i := 17) (by kernel_rfl) rfl rfl (fun K hK => ?_)
                refine Stp.wp (Stp.bsl (e := 22) (cs := #[.slice pc k cc']) 61 rfl rfl (fun W => by kernel_rfl) H ?_); clear H; intro g61 w1 H; refine hK.out _ _ trivial ?_; clear hK K; simp only [putS]
                refine rg_one (i := 18) (by kernel_rfl) rfl rfl (fun K hK => ?_)
                refine wp_callf rfl ent12 (KC.out _ _ (H.gr 22) H.below) rfl (fun v w1 hr => ?_); obtain ⟨rfl, hb1⟩ := hr; replace H := H.grow hb1; clear hb1; refine hK.out _ _ trivial ?_; clear hK K; simp only [putS]
                refine rt 19 rfl (Yld.of rfl (fun W _ => by go_simp; first | done | with_reducible rfl)) trivial ?_; simp only [putS]
                refine rt 20 rfl (Yld.of rfl (fun W _ => by go_simp; first | done | with_reducible rfl)) trivial ?_; simp only [putS]
                refine rt 21 rfl (Yld.move rfl rfl) trivial ?_; simp only [putE]
                refine rg_one (i := 22) (by kernel_rfl) rfl rfl (fun K hK => ?_)
                refine wp_callf rfl ent8 (awake_ok _) rfl (fun v w1 hr => ?_); obtain ⟨rfl, hb1⟩ := hr; replace H := H.grow hb1; clear hb1; refine hK.out _ _ trivial ?_; clear hK K; simp only [putS]
                refine rt 23 rfl (Yld.pick rfl rfl rfl) trivial ?_; simp only [putE]
                refine rt 24 rfl (Yld.assign rfl rfl) trivial ?_; simp only [putE]
                refine rg_done (by kernel_rfl) ?_
                exact ⟨rfl, rfl, rfl, H.below⟩
               refine rc 17 rfl (fun K hK => ?_) ?_
               · as_aux_lemma => -- 17
                refine Stp.wp (Stp.bsl (e := 22) (cs := #[.slice pc k cc']) 61 rfl rfl (fun W => by kernel_rfl) H ?_); clear H; intro g61 w1 H; refine hK.out _ _ trivial ?_; clear hK K; simp only [putS]
                refine rg_one (i := 12) (by kernel_rfl) rfl rfl (fun K hK => ?_)
                refine wp_callf rfl ent12 (KB.out _ _ (H.gr 22) H.below) rfl (fun v w1 hr => ?_); obtain ⟨rfl, hb1⟩ := hr; replace H := H.grow hb1; clear hb1; refine hK.out _ _ trivial ?_; clear hK K; simp only [putS]
                refine rt 13 rfl (Yld.of rfl (fun W _ => by go_simp; first | done | with_reducible rfl)) trivial ?_; simp only [putS]
                refine rg_one (i := 18) (by kernel_rfl) rfl rfl (fun K hK => ?_)
                refine wp_callf rfl ent12 (KC.out _ _ (H.gr 22) H.below) rfl (fun v w1 hr => ?_); obtain ⟨rfl, hb1⟩ := hr; replace H := H.grow hb1; clear hb1; refine hK.out _ _ trivial ?_; clear hK K; simp only [putS]
                refine rt 19 rfl (Yld.of rfl (fun W _ => by go_simp; first | done | with_reducible rfl)) trivial ?_; simp only [putS]
                refine rt 20 rfl (Yld.of rfl (fun W _ => by go_simp; first | done | with_reducible rfl)) trivial ?_; simp only [putS]
                refine rt 21 rfl (Yld.move rfl rfl) trivial ?_; simp only [putE]
                refine rg_one (i := 22) (by kernel_rfl) rfl rfl (fun K hK => ?_)
                refine wp_callf rfl ent8 (awake_ok _) rfl (fun v w1 hr => ?_); obtain ⟨rfl, hb1⟩ := hr; replace H := H.grow hb1; clear hb1; refine hK.out _ _ trivial ?_; clear hK K; simp only [putS]
                refine rt 23 rfl (Yld.pick rfl rfl rfl) trivial ?_; simp only [putE]
                refine rt 24 rfl (Yld.assign rfl rfl) trivial ?_; simp only [putE]
                refine rg_done (by kernel_rfl) ?_
                exact ⟨rfl, rfl, rfl, H.below⟩
               exact AllReadyH.nil
              refine rc 17 rfl (fun K hK => ?_) ?_
              · as_aux_lemma => -- 17
               refine Stp.wp (Stp.bsl (e := 22) (cs := #[.slice pc k cc']) 61 rfl rfl (fun W => by kernel_rfl) H ?_); clear H; intro g61 w1 H; refine hK.out _ _ trivial ?_; clear hK K; simp only [putS]
               refine rg_one (i := 7) (by kernel_rfl) rfl rfl (fun K hK => ?_)
               refine wp_callf rfl ent12 (KA.out _ _ (H.gr 22) H.below) rfl (fun v w1 hr => ?_); obtain ⟨rfl, hb1⟩ := hr; replace H := H.grow hb1; clear hb1; refine hK.out _ _ trivial ?_; clear hK K; simp only [putS]
               refine rg_one (i := 12) (by kernel_rfl) rfl rfl (fun K hK => ?_)
               refine wp_callf rfl ent12 (KB.out _ _ (H.gr 22) H.below) rfl (fun v w1 hr => ?_); obtain ⟨rfl, hb1⟩ := hr; replace H := H.grow hb1; clear hb1; refine hK.out _ _ trivial ?_; clear hK K; simp only [putS]
               refine rt 13 rfl (Yld.of rfl (fun W _ => by go_simp; first | done | with_reducible rfl)) trivial ?_; simp only [putS]
               refine rg_one (i := 18) (by kernel_rfl) rfl rfl (fun K hK => ?_)
               refine wp_callf rfl ent12 (KC.out _ _ (H.gr 22) H.below) rfl (fun v w1 hr => ?_); obtain ⟨rfl, hb1⟩ := hr; replace H := H.grow hb1; clear hb1; refine hK.out _ _ trivial ?_; clear hK K; simp only [putS]
               refine rt 19 rfl (Yld.of rfl (fun W _ => by go_simp; first | done | with_reducible rfl)) trivial ?_; simp only [putS]
               refine rt 20 rfl (Yld.of rfl (fun W _ => by go_simp; first | done | with_reducible rfl)) trivial ?_; simp only [putS]
               refine rt 21 rfl (Yld.move rfl rfl) trivial ?_; simp only [putE]
               refine rg_one (i := 22) (by kernel_rfl) rfl rfl (fun K hK => ?_)
               refine wp_callf rfl ent8 (awake_ok _) rfl (fun v w1 hr => ?_); obtain ⟨rfl, hb1⟩ := hr; replace H := H.grow hb1; clear hb1; refine hK.out _ _ trivial ?_; clear hK K; simp only [putS]
               refine rt 23 rfl (Yld.pick rfl rfl rfl) trivial ?_; simp only [putE]
               refine rt 24 rfl (Yld.assign rfl rfl) trivial ?_; simp only [putE]
               refine rg_done (by kernel_rfl) ?_
               exact ⟨rfl, rfl, rfl, H.below⟩
              exact AllReadyH.nil
             refine rc 17 rfl (fun K hK => ?_) ?_
             · as_aux_lemma => -- 17
              refine Stp.wp (Stp.bsl (e := 22) (cs := #[.slice pc k cc']) 61 rfl rfl (fun W => by kernel_rfl) H ?_); clear H; intro g61 w1 H; refine hK.out _ _ trivial ?_; clear hK K; simp only [putS]
              refine rg_one (i := 6) (by kernel_rfl) rfl rfl (fun K hK => ?_)
              refine Stp.wp (Stp.bsl (e := 22) (cs := #[.slice pa k ca]) 50 rfl rfl (fun W => by kernel_rfl) H ?_); clear H; intro g50 w1 H; refine hK.out _ _ trivial ?_; clear hK K; simp only [putS]
              refine rg_one (i := 7) (by kernel_rfl) rfl rfl (fun K hK => ?_)
              refine wp_callf rfl ent12 (KA.out _ _ (H.gr 22) H.below) rfl (fun v w1 hr => ?_); obtain ⟨rfl, hb1⟩ := hr; replace H := H.grow hb1; clear hb1; refine hK.out _ _ trivial ?_; clear hK K; simp only [putS]
              refine rg_one (i := 12) (by kernel_rfl) rfl rfl (fun K hK => ?_)
              refine wp_callf rfl ent12 (KB.out _ _ (H.gr 22) H.below) rfl (fun v w1 hr => ?_); obtain ⟨rfl, hb1⟩ := hr; replace H := H.grow hb1; clear hb1; refine hK.out _ _ trivial ?_; clear hK K; simp only [putS]
              refine rt 13 rfl (Yld.of rfl (fun W _ => by go_simp; first | done | with_reducible rfl)) trivial ?_; simp only [putS]
              refine rg_one (i := 18) (by kernel_rfl) rfl rfl (fun K hK => ?_)
              refine wp_callf rfl ent12 (KC.out _ _ (H.gr 22) H.below) rfl (fun v w1 hr => ?_); obtain ⟨rfl, hb1⟩ := hr; replace H := H.grow hb1; clear hb1; refine hK.out _ _ trivial ?_; clear hK K; simp only [putS]
              refine rt 19 rfl (Yld.of rfl (fun W _ => by go_simp; first | done | with_reducible rfl)) trivial ?_; simp only [putS]
              refine rt 20 rfl (Yld.of rfl (fun W _ => by go_simp; first | done | with_reducible rfl)) trivial ?_; simp only [putS]
              refine rt 21 rfl (Yld.move rfl rfl) trivial ?_; simp only [putE]
              refine rg_one (i := 22) (by kernel_rfl) rfl rfl (fun K hK => ?_)
              refine wp_callf rfl ent8 (awake_ok _) rfl (fun v w1 hr => ?_); obtain ⟨rfl, hb1⟩ := hr; replace H := H.grow hb1; clear hb1; refine hK.out _ _ trivial ?_; clear hK K; simp only [putS]
              refine rt 23 rfl (Yld.pick rfl rfl rfl) trivial ?_; simp only [putE]
              refine rt 24 rfl (Yld.assign rfl rfl) trivial ?_; simp only [putE]
              refine rg_done (by kernel_rfl) ?_
              exact ⟨rfl, rfl, rfl, H.below⟩
             exact AllReadyH.nil
            refine rc 6 rfl (fun K hK => ?_) ?_
            · as_aux_lemma => -- 6
             refine Stp.wp (Stp.bsl (e := 22) (cs := #[.slice pa k ca]) 50 rfl rfl (fun W => by kernel_rfl) H ?_); clear H; intro g50 w1 H; refine hK.out _ _ trivial ?_; clear hK K; simp only [putS]
             refine ra [2, 17] ?_
             refine rc 2 rfl (fun K hK => ?_) ?_
             · as_aux_lemma => -- 2
              refine wp_callf rfl ent12 (KD.out _ _ (H.gr 22) (H.gr 5)) rfl (fun v w1 hr => ?_); obtain ⟨rfl, hb1⟩ := hr; replace H := H.grow hb1; clear hb1; refine hK.out _ _ trivial ?_; clear hK K; simp only [putS]
              refine ra [7, 17] ?_
              refine rc 7 rfl (fun K hK => ?_) ?_
              · as_aux_lemma => -- 7
               refine wp_callf rfl ent12 (KA.out _ _ (H.gr 22) H.below) rfl (fun v w1 hr => ?_); obtain ⟨rfl, hb1⟩ := hr; replace H := H.grow hb1; clear hb1; refine hK.out _ _ trivial ?_; clear hK K; simp only [putS]
               refine ra [12, 17] ?_
               refine rc 12 rfl (fun K hK => ?_) ?_
               · as_aux_lemma => -- 12
                refine wp_callf rfl ent12 (KB.out _ _ (H.gr 22) H.below) rfl (fun v w1 hr => ?_); obtain ⟨rfl, hb1⟩ := hr; replace H := H.grow hb1; clear hb1; refine hK.out _ _ trivial ?_; clear hK K; simp only [putS]
                refine rt 13 rfl (Yld.of rfl (fun W _ => by go_simp; first | done | with_reducible rfl)) trivial ?_; simp only [putS]
                refine rg_one (i := 17) (by kernel_rfl) rfl rfl (fun K hK => ?_)
                refine Stp.wp (Stp.bsl (e := 22) (cs := #[.slice pc k cc']) 61 rfl rfl (fun W => by kernel_rfl) H ?_); clear H; intro g61 w1 H; refine hK.out _ _ trivial ?_; clear hK K; simp only [putS]
                refine rg_one (i := 18) (by kernel_rfl) rfl rfl (fun K hK => ?_)
                refine wp_callf rfl ent12 (KC.out _ _ (H.gr 22) H.below) rfl (fun v w1 hr => ?_); obtain ⟨rfl, hb1⟩ := hr; replace H := H.grow hb1; clear hb1; refine hK.out _ _ trivial ?_; clear hK K; simp only [putS]
                refine rt 19 rfl (Yld.of rfl (fun W _ => by go_simp; first | done | with_reducible rfl)) trivial ?_; simp only [putS]
                refine rt 20 rfl (Yld.of rfl (fun W _ => by go_simp; first | done | with_reducible rfl)) trivial ?_; simp only [putS]
                refine rt 21 rfl (Yld.move rfl rfl) trivial ?_; simp only [putE]
                refine rg_one (i := 22) (by kernel_rfl) rfl rfl (fun K hK => ?_)
                refine wp_callf rfl ent8 (awake_ok _) rfl (fun v w1 hr => ?_); obtain ⟨rfl, hb1⟩ := hr; replace H := H.grow hb1; clear hb1; refine hK.out _ _ trivial ?_; clear hK K; simp only [putS]
                refine rt 23 rfl (Yld.pick rfl rfl rfl) trivial ?_; simp only [putE]
                refine rt 24 rfl (Yld.assign rfl rfl) trivial ?_; simp only [putE]
                refine rg_done (by kernel_rfl) ?_
                exact ⟨rfl, rfl, rfl, H.below⟩
               refine rc 17 rfl (fun K hK => ?_) ?_
               · as_aux_lemma => -- 17
                refine Stp.wp (Stp.bsl (e := 22) (cs := #[.slice pc k cc']) 61 rfl rfl (fun W => by kernel_rfl) H ?_); clear H; intro g61 w1 H; refine hK.out _ _ trivial ?_; clear hK K; simp only [putS]
                refine rg_one (i := 12) (by kernel_rfl) rfl rfl (fun K hK => ?_)
                refine wp_callf rfl ent12 (KB.out _ _ (H.gr 22) H.below) rfl (fun v w1 hr => ?_); obtain ⟨rfl, hb1⟩ := hr; replace H := H.grow hb1; clear hb1; refine hK.out _ _ trivial ?_; clear hK K; simp only [putS]
                refine rt 13 rfl (Yld.of rfl (fun W _ => by go_simp; first | done | with_reducible rfl)) trivial ?_; simp only [putS]
                refine rg_one (i := 18) (by kernel_rfl) rfl rfl (fun K hK => ?_)
                refine wp_callf rfl ent12 (KC.out _ _ (H.gr 22) H.below) rfl (fun v w1 hr => ?_); obtain ⟨rfl, hb1⟩ := hr; replace H := H.grow hb1; clear hb1; refine hK.out _ _ trivial ?_; clear hK K; simp only [putS]
                refine rt 19 rfl (Yld.of rfl (fun W _ => by go_simp; first | done | with_reducible rfl)) trivial ?_; simp only [putS]
                refine rt 20 rfl (Yld.of rfl (fun W _ => by go_simp; first | done | with_reducible rfl)) trivial ?_; simp only [putS]
                refine rt 21 rfl (Yld.move rfl rfl) trivial ?_; simp only [putE]
                refine rg_one (i := 22) (by kernel_rfl) rfl rfl (fun K hK => ?_)
                refine wp_callf rfl ent8 (awake_ok _) rfl (fun v w1 hr => ?_); obtain ⟨rfl, hb1⟩ := hr; replace H := H.grow hb1; clear hb1; refine hK.out _ _ trivial ?_; clear hK K; simp only [putS]
                refine rt 23 rfl (Yld.pick rfl rfl rfl) trivial ?_; simp only [putE]
                refine rt 24 rfl (Yld.assign rfl rfl) trivial ?_; simp only [putE]
                refine rg_done (by kernel_rfl) ?_
                exact ⟨rfl, rfl, rfl, H.below⟩
               exact AllReadyH.nil
              refine rc 17 rfl (fun K hK => ?_) ?_
              · as_aux_lemma => -- 17
               refine Stp.wp (Stp.bsl (e := 22) (cs := #[.slice pc k cc']) 61 rfl rfl (fun W => by kernel_rfl) H ?_); clear H; intro g61 w1 H; refine hK.out _ _ trivial ?_; clear hK K; simp only [putS]
               refine rg_one (i := 7) (by kernel_rfl) rfl rfl (fun K hK => ?_)
               refine wp_callf rfl ent12 (KA.out _ _ (H.gr 22) H.below) rfl (fun v w1 hr => ?_); obtain ⟨rfl, hb1⟩ := hr; replace H := H.grow hb1; clear hb1; refine hK.out _ _ trivial ?_; clear hK K; simp only [putS]
               refine rg_one (i := 12) (by kernel_rfl) rfl rfl (fun K hK => ?_)
               refine wp_callf rfl ent12 (KB.out _ _ (H.gr 22) H.below) rfl (fun v w1 hr => ?_); obtain ⟨rfl, hb1⟩ := hr; replace H := H.grow hb1; clear hb1; refine hK.out _ _ trivial ?_; clear hK K; simp only [putS]
               refine rt 13 rfl (Yld.of rfl (fun W _ => by go_simp; first | done | with_reducible rfl)) trivial ?_; simp only [putS]
               refine rg_one (i := 18) (by kernel_rfl) rfl rfl (fun K hK => ?_)
               refine wp_callf rfl ent12 (KC.out _ _ (H.gr 22) H.below) rfl (fun v w1 hr => ?_); obtain ⟨rfl, hb1⟩ := hr; replace H := H.grow hb1; clear hb1; refine hK.out _ _ trivial ?_; clear hK K; simp only [putS]
               refine rt 19 rfl (Yld.of rfl (fun W _ => by go_simp; first | done | with_reducible rfl)) trivial ?_; simp only [putS]
               refine rt 20 rfl (Yld.of rfl (fun W _ => by go_simp; first | done | with_reducible rfl)) trivial ?_; simp only [putS]
               refine rt 21 rfl (Yld.move rfl rfl) trivial ?_; simp only [putE]
               refine rg_one (i := 22) (by kernel_rfl) rfl rfl (fun K hK => ?_)
               refine wp_callf rfl ent8 (awake_ok _) rfl (fun v w1 hr => ?_); obtain ⟨rfl, hb1⟩ := hr; replace H := H.grow hb1; clear hb1; refine hK.out _ _ trivial ?_; clear hK K; simp only [putS]
               refine rt 23 rfl (Yld.pick rfl rfl rfl) trivial ?_; simp only [putE]
               refine rt 24 rfl (Yld.assign rfl rfl) trivial ?_; simp only [putE]
               refine rg_done (by kernel_rfl) ?_
               exact ⟨rfl, rfl, rfl, H.below⟩
              exact AllReadyH.nil
             refine rc 17 rfl (fun K hK => ?_) ?_
             · as_aux_lemma => -- 17
              refine Stp.wp (Stp.bsl (e := 22) (cs := #[.slice pc k cc']) 61 rfl rfl (fun W => by kernel_rfl) H ?_); clear H; intro g61 w1 H; refine hK.out _ _ trivial ?_; clear hK K; simp only [putS]
              refine rg_one (i := 2) (by kernel_rfl) rfl rfl (fun K hK => ?_)
              refine wp_callf rfl ent12 (KD.out _ _ (H.gr 22) (H.gr 5)) rfl (fun v w1 hr => ?_); obtain ⟨rfl, hb1⟩ := hr; replace H := H.grow hb1; clear hb1; refine hK.out _ _ trivial ?_; clear hK K; simp only [putS]
              refine rg_one (i := 7) (by kernel_rfl) rfl rfl (fun K hK => ?_)
              refine wp_callf rfl ent12 (KA.out _ _ (H.gr 22) H.below) rfl (fun v w1 hr => ?_); obtain ⟨rfl, hb1⟩ := hr; replace H := H.grow hb1; clear hb1; refine hK.out _ _ trivial ?_; clear hK K; simp only [putS]
              refine rg_one (i := 12) (by kernel_rfl) rfl rfl (fun K hK => ?_)
              refine wp_callf rfl ent12 (KB.out _ _ (H.gr 22) H.below) rfl (fun v w1 hr => ?_); obtain ⟨rfl, hb1⟩ := hr; replace H := H.grow hb1; clear hb1; refine hK.out _ _ trivial ?_; clear hK K; simp only [putS]
              refine rt 13 rfl (Yld.of rfl (fun W _ => by go_simp; first | done | with_reducible rfl)) trivial ?_; simp only [putS]
              refine rg_one (i := 18) (by kernel_rfl) rfl rfl (fun K hK => ?_)
              refine wp_callf rfl ent12 (KC.out _ _ (H.gr 22) H.below) rfl (fun v w1 hr => ?_); obtain ⟨rfl, hb1⟩ := hr; replace H := H.grow hb1; clear hb1; refine hK.out _ _ trivial ?_; clear hK K; simp only [putS]
              refine rt 19 rfl (Yld.of rfl (fun W _ => by go_simp; first | done | with_reducible rfl)) trivial ?_; simp only [putS]
              refine rt 20 rfl (Yld.of rfl (fun W _ => by go_simp; first | done | with_reducible rfl)) trivial ?_; simp only [putS]
              refine rt 21 rfl (Yld.move rfl rfl) trivial ?_; simp only [putE]
              refine rg_one (i := 22) (by kernel_rfl) rfl rfl (fun K hK => ?_)
              refine wp_callf rfl ent8 (awake_ok _) rfl (fun v w1 hr => ?_); obtain ⟨rfl, hb1⟩ := hr; replace H := H.grow hb1; clear hb1; refine hK.out _ _ trivial ?_; clear hK K; simp only [putS]
              refine rt 23 rfl (Yld.pick rfl rfl rfl) trivial ?_; simp only [putE]
              refine rt 24 rfl (Yld.assign rfl rfl) trivial ?_; simp only [putE]
              refine rg_done (by kernel_rfl) ?_
              exact ⟨rfl, rfl, rfl, H.below⟩
             exact AllReadyH.nil
            refine rc 17 rfl (fun K hK => ?_) ?_
            · as_aux_lemma => -- 17
             refine Stp.wp (Stp.bsl (e := 22) (cs := #[.slice pc k cc']) 61 rfl rfl (fun W => by kernel_rfl) H ?_); clear H; intro g61 w1 H; refine hK.out _ _ trivial ?_; clear hK K; simp only [putS]
             refine ra [2, 6] ?_
             refine rc 2 rfl (fun K hK => ?_) ?_
             · as_aux_lemma => -- 2
              refine wp_callf rfl ent12 (KD.out _ _ (H.gr 22) (H.gr 5)) rfl (fun v w1 hr => ?_); obtain ⟨rfl, hb1⟩ := hr; replace H := H.grow hb1; clear hb1; refine hK.out _ _ trivial ?_; clear hK K; simp only [putS]
              refine rg_one (i := 6) (by kernel_rfl) rfl rfl (fun K hK => ?_)
              refine Stp.wp (Stp.bsl (e := 22) (cs := #[.slice pa k ca]) 50 rfl rfl (fun W => by kernel_rfl) H ?_); clear H; intro g50 w1 H; refine hK.out _ _ trivial ?_; clear hK K; simp only [putS]
              refine rg_one (i := 7) (by kernel_rfl) rfl rfl (fun K hK => ?_)
              refine wp_callf rfl ent12 (KA.out _ _ (H.gr 22) H.below) rfl (fun v w1 hr => ?_); obtain ⟨rfl, hb1⟩ := hr; replace H := H.grow hb1; clear hb1; refine hK.out _ _ trivial ?_; clear hK K; simp only [putS]
              refine rg_one (i := 12) (by kernel_rfl) rfl rfl (fun K hK => ?_)
              refine wp_callf rfl ent12 (KB.out _ _ (H.gr 22) H.below) rfl (fun v w1 hr => ?_); obtain ⟨rfl, hb1⟩ := hr; replace H := H.grow hb1; clear hb1; refine hK.out _ _ trivial ?_; clear hK K; simp only [putS]
              refine rt 13 rfl (Yld.of rfl (fun W _ => by go_simp; first | done | with_reducible rfl)) trivial ?_; simp only [putS]
              refine rg_one (i := 18) (by kernel_rfl) rfl rfl (fun K hK => ?_)
              refine wp_callf rfl ent12 (KC.out _ _ (H.gr 22) H.below) rfl (fun v w1 hr => ?_); obtain ⟨rfl, hb1⟩ := hr; replace H := H.grow hb1; clear hb1; refine hK.out _ _ trivial ?_; clear hK K; simp only [putS]
              refine rt 19 rfl (Yld.of rfl (fun W _ => by go_simp; first | done | with_reducible rfl)) trivial ?_; simp only [putS]
              refine rt 20 rfl (Yld.of rfl (fun W _ => by go_simp; first | done | with_reducible rfl)) trivial ?_; simp only [putS]
              refine rt 21 rfl (Yld.move rfl rfl) trivial ?_; simp only [putE]
              refine rg_one (i := 22) (by kernel_rfl) rfl rfl (fun K hK => ?_)
              refine wp_callf rfl ent8 (awake_ok _) rfl (fun v w1 hr => ?_); obtain ⟨rfl, hb1⟩ := hr; replace H := H.grow hb1; clear hb1; refine hK.out _ _ trivial ?_; clear hK K; simp only [putS]
              refine rt 23 rfl (Yld.pick rfl rfl rfl) trivial ?_; simp only [putE]
              refine rt 24 rfl (Yld.assign rfl rfl) trivial ?_; simp only [putE]
              refine rg_done (by kernel_rfl) ?_
              exact ⟨rfl, rfl, rfl, H.below⟩
             refine rc 6 rfl (fun K hK => ?_) ?_
             · as_aux_lemma => -- 6
              refine Stp.wp (Stp.bsl (e := 22) (cs := #[.slice pa k ca]) 50 rfl rfl (fun W => by kernel_rfl) H ?_); clear H; intro g50 w1 H; refine hK.out _ _ trivial ?_; clear hK K; simp only [putS]
              refine rg_one (i := 2) (by kernel_rfl) rfl rfl (fun K hK => ?_)
              refine wp_callf rfl ent12 (KD.out _ _ (H.gr 22) (H.gr 5)) rfl (fun v w1 hr => ?_); obtain ⟨rfl, hb1⟩ := hr; replace H := H.grow hb1; clear hb1; refine hK.out _ _ trivial ?_; clear hK K; simp only [putS]
              refine rg_one (i := 7) (by kernel_rfl) rfl rfl (fun K hK => ?_)
              refine wp_callf rfl ent12 (KA.out _ _ (H.gr 22) H.below) rfl (fun v w1 hr => ?_); obtain ⟨rfl, hb1⟩ := hr; replace H := H.grow hb1; clear hb1; refine hK.out _ _ trivial ?_; clear hK K; simp only [putS]
              refine rg_one (i := 12) (by kernel_rfl) rfl rfl (fun K hK => ?_)
              refine wp_callf rfl ent12 (KB.out _ _ (H.gr 22) H.below) rfl (fun v w1 hr => ?_); obtain ⟨rfl, hb1⟩ := hr; replace H := H.grow hb1; clear hb1; refine hK.out _ _ trivial ?_; clear hK K; simp only [putS]
              refine rt 13 rfl (Yld.of rfl (fun W _ => by go_simp; first | done | with_reducible rfl)) trivial ?_; simp only [putS]
              refine rg_one (i := 18) (by kernel_rfl) rfl rfl (fun K hK => ?_)
              refine wp_callf rfl ent12 (KC.out _ _ (H.gr 22) H.below) rfl (fun v w1 hr => ?_); obtain ⟨rfl, hb1⟩ := hr; replace H := H.grow hb1; clear hb1; refine hK.out _ _ trivial ?_; clear hK K; simp only [putS]
              refine rt 19 rfl (Yld.of rfl (fun W _ => by go_simp; first | done | with_reducible rfl)) trivial ?_; simp only [putS]
              refine rt 20 rfl (Yld.of rfl (fun W _ => by go_simp; first | done | with_reducible rfl)) trivial ?_; simp only [putS]
              refine rt 21 rfl (Yld.move rfl rfl) trivial ?_; simp only [putE]
              refine rg_one (i := 22) (by kernel_rfl) rfl rfl (fun K hK => ?_)
              refine wp_callf rfl ent8 (awake_ok _) rfl (fun v w1 hr => ?_); obtain ⟨rfl, hb1⟩ := hr; replace H := H.grow hb1; clear hb1; refine hK.out _ _ trivial ?_; clear hK K; simp only [putS]
              refine rt 23 rfl (Yld.pick rfl rfl rfl) trivial ?_; simp only [putE]
              refine rt 24 rfl (Yld.assign rfl rfl) trivial ?_; simp only [putE]
              refine rg_done (by kernel_rfl) ?_
              exact ⟨rfl, rfl, rfl, H.below⟩
             exact AllReadyH.nil
            exact AllReadyH.nil
           refine rc 17 rfl (fun K hK => ?_) ?_
           · as_aux_lemma => -- 17
            refine Stp.wp (Stp.bsl (e := 22) (cs := #[.slice pc k cc']) 61 rfl rfl (fun W => by kernel_rfl) H ?_); clear H; intro g61 w1 H; refine hK.out _ _ trivial ?_; clear hK K; simp only [putS]
            refine ra [2, 6, 11] ?_
            refine rc 2 rfl (fun K hK => ?_) ?_
            · as_aux_lemma => -- 2
             refine wp_callf rfl ent12 (KD.out _ _ (H.gr 22) (H.gr 5)) rfl (fun v w1 hr => ?_); obtain ⟨rfl, hb1⟩ := hr; replace H := H.grow hb1; clear hb1; refine hK.out _ _ trivial ?_; clear hK K; simp only [putS]
             refine ra [6, 11] ?_
             refine rc 6 rfl (fun K hK => ?_) ?_
             · as_aux_lemma => -- 6
              refine Stp.wp (Stp.bsl (e := 22) (cs := #[.slice pa k ca]) 50 rfl rfl (fun W => by kernel_rfl) H ?_); clear H; intro g50 w1 H; refine hK.out _ _ trivial ?_; clear hK K; simp only [putS]
              refine ra [7, 11] ?_
              refine rc 7 rfl (fun K hK => ?_) ?_
              · as_aux_lemma => -- 7
               refine wp_callf rfl ent12 (KA.out _ _ (H.gr 22) H.below) rfl (fun v w1 hr => ?_); obtain ⟨rfl, hb1⟩ := hr; replace H := H.grow hb1; clear hb1; refine hK.out _ _ trivial ?_; clear hK K; simp only [putS]
               refine rg_one (i := 11) (by kernel_rfl) rfl rfl (fun K hK => ?_)
               refine Stp.wp (Stp.bsl (e := 22) (cs := #[.slice pb k cb']) 55 rfl rfl (fun W => by kernel_rfl) H ?_); clear H; intro g55 w1 H; refine hK.out _ _ trivial ?_; clear hK K; simp only [putS]
               refine rg_one (i := 12) (by kernel_rfl) rfl rfl (fun K hK => ?_)
               refine wp_callf rfl ent12 (KB.out _ _ (H.gr 22) H.below) rfl (fun v w1 hr => ?_); obtain ⟨rfl, hb1⟩ := hr; replace H := H.grow hb1; clear hb1; refine hK.out _ _ trivial ?_; clear hK K; simp only [putS]
               refine rt 13 rfl (Yld.of rfl (fun W _ => by go_simp; first | done | with_reducible rfl)) trivial ?_; simp only [putS]
               refine rg_one (i := 18) (by kernel_rfl) rfl rfl (fun K hK => ?_)
               refine wp_callf rfl ent12 (KC.out _ _ (H.gr 22) H.below) rfl (fun v w1 hr => ?_); obtain ⟨rfl, hb1⟩ := hr; replace H := H.grow hb1; clear hb1; refine hK.out _ _ trivial ?_; clear hK K; simp only [putS]
               refine rt 19 rfl (Yld.of rfl (fun W _ => by go_simp; first | done | with_reducible rfl)) trivial ?_; simp only [putS]
               refine rt 20 rfl (Yld.of rfl (fun W _ => by go_simp; first | done | with_reducible rfl)) trivial ?_; simp only [putS]
               refine rt 21 rfl (Yld.move rfl rfl) trivial ?_; simp only [putE]
               refine rg_one (i := 22) (by kernel_rfl) rfl rfl (fun K hK => ?_)
               refine wp_callf rfl ent8 (awake_ok _) rfl (fun v w1 hr => ?_); obtain ⟨rfl, hb1⟩ := hr; replace H := H.grow hb1; clear hb1; refine hK.out _ _ trivial ?_; clear hK K; simp only [putS]
               refine rt 23 rfl (Yld.pick rfl rfl rfl) trivial ?_; simp only [putE]
               refine rt 24 rfl (Yld.assign rfl rfl) trivial ?_; simp only [putE]
               refine rg_done (by kernel_rfl) ?_
               exact ⟨rfl, rfl, rfl, H.below⟩
              refine rc 11 rfl (fun K hK => ?_) ?_
              · as_aux_lemma => -- 11
               refine Stp.wp (Stp.bsl (e := 22) (cs := #[.slice pb k cb']) 55 rfl rfl (fun W => by kernel_rfl) H ?_); clear H; intro g55 w1 H; refine hK.out _ _ trivial ?_; clear hK K; simp only [putS]
               refine rg_one (i := 7) (by kernel_rfl) rfl rfl (fun K hK => ?_)
               refine wp_callf rfl ent12 (KA.out _ _ (H.gr 22) H.below) rfl (fun v w1 hr => ?_); obtain ⟨rfl, hb1⟩ := hr; replace H := H.grow hb1; clear hb1; refine hK.out _ _ trivial ?_; clear hK K; simp only [putS]
               refine rg_one (i := 12) (by kernel_rfl) rfl rfl (fun K hK => ?_)
               refine wp_callf rfl ent12 (KB.out _ _ (H.gr 22) H.below) rfl (fun v w1 hr => ?_); obtain ⟨rfl, hb1⟩ := hr; replace H := H.grow hb1; clear hb1; refine hK.out _ _ trivial ?_; clear hK K; simp only [putS]
               refine rt 13 rfl (Yld.of rfl (fun W _ => by go_simp; first | done | with_reducible rfl)) trivial ?_; simp only [putS]
               refine rg_one (i := 18) (by kernel_rfl) rfl rfl (fun K hK => ?_)
               refine wp_callf rfl ent12 (KC.out _ _ (H.gr 22) H.below) rfl (fun v w1 hr => ?_); obtain ⟨rfl, hb1⟩ := hr; replace H := H.grow hb1; clear hb1; refine hK.out _ _ trivial ?_; clear hK K; simp only [putS]
               refine rt 19 rfl (Yld.of rfl (fun W _ => by go_simp; first | done | with_reducible rfl)) trivial ?_; simp only [putS]
               refine rt 20 rfl (Yld.of rfl (fun W _ => by go_simp; first | done | with_reducible rfl)) trivial ?_; simp only [putS]
               refine rt 21 rfl (Yld.move rfl rfl) trivial ?_; simp only [putE]
               refine rg_one (i := 22) (by kernel_rfl) rfl rfl (fun K hK => ?_)
               refine wp_callf rfl ent8 (awake_ok _) rfl (fun v w1 hr => ?_); obtain ⟨rfl, hb1⟩ := hr; replace H := H.grow hb1; clear hb1; refine hK.out _ _ trivial ?_; clear hK K; simp only [putS]
               refine rt 23 rfl (Yld.pick rfl rfl rfl) trivial ?_; simp only [putE]
               refine rt 24 rfl (Yld.assign rfl rfl) trivial ?_; simp only [putE]
               refine rg_done (by kernel_rfl) ?_
               exact ⟨rfl, rfl, rfl, H.below⟩
              exact AllReadyH.nil
             refine rc 11 rfl (fun K hK => ?_) ?_
             · as_aux_lemma => -- 11
              refine Stp.wp (Stp.bsl (e := 22) (cs := #[.slice pb k cb']) 55 rfl rfl (fun W => by kernel_rfl) H ?_); clear H; intro g55 w1 H; refine hK.out _ _ trivial ?_; clear hK K; simp only [putS]
              refine rg_one (i := 6) (by kernel_rfl) rfl rfl (fun K hK => ?_)
              refine Stp.wp (Stp.bsl (e := 22) (cs := #[.slice pa k ca]) 50 rfl rfl (fun W => by kernel_rfl) H ?_); clear H; intro g50 w1 H; refine hK.out _ _ trivial ?_; clear hK K; simp only [putS]
              refine rg_one (i := 7) (by kernel_rfl) rfl rfl (fun K hK => ?_)
              refine wp_callf rfl ent12 (KA.out _ _ (H.gr 22) H.below) rfl (fun v w1 hr => ?_); obtain ⟨rfl, hb1⟩ := hr; replace H := H.grow hb1; clear hb1; refine hK.out _ _ trivial ?_; clear hK K; simp only [putS]
              refine rg_one (i := 12) (by kernel_rfl) rfl rfl (fun K hK => ?_)
              refine wp_callf rfl ent12 (KB.out _ _ (H.gr 22) H.below) rfl (fun v w1 hr => ?_); obtain ⟨rfl, hb1⟩ := hr; replace H := H.grow hb1; clear hb1; refine hK.out _ _ trivial ?_; clear hK K; simp only [putS]
              refine rt 13 rfl (Yld.of rfl (fun W _ => by go_simp; first | done | with_reducible rfl)) trivial ?_; simp only [putS]
              refine rg_one (i := 18) (by kernel_rfl) rfl rfl (fun K hK => ?_)
              refine wp_callf rfl ent12 (KC.out _ _ (H.gr 22) H.below) rfl (fun v w1 hr => ?_); obtain ⟨rfl, hb1⟩ := hr; replace H := H.grow hb1; clear hb1; refine hK.out _ _ trivial ?_; clear hK K; simp only [putS]
              refine rt 19 rfl (Yld.of rfl (fun W _ => by go_simp; first | done | with_reducible rfl)) trivial ?_; simp only [putS]
              refine rt 20 rfl (Yld.of rfl (fun W _ => by go_simp; first | done | with_reducible rfl)) trivial ?_; simp only [putS]
              refine rt 21 rfl (Yld.move rfl rfl) trivial ?_; simp only [putE]
              refine rg_one (i := 22) (by kernel_rfl) rfl rfl (fun K hK => ?_)
              refine wp_callf rfl ent8 (awake_ok _) rfl (fun v w1 hr => ?_); obtain ⟨rfl, hb1⟩ := hr; replace H := H.grow hb1; clear hb1; refine hK.out _ _ trivial ?_; clear hK K; simp only [putS]
              refine rt 23 rfl (Yld.pick rfl rfl rfl) trivial ?_; simp only [putE]
              refine rt 24 rfl (Yld.assign rfl rfl) trivial ?_; simp only [putE]
              refine rg_done (by kernel_rfl) ?_
              exact ⟨rfl, rfl, rfl, H.below⟩
             exact AllReadyH.nil
            refine rc 6 rfl (fun K hK => ?_) ?_
            · as_aux_lemma => -- 6
             refine Stp.wp (Stp.bsl (e := 22) (cs := #[.slice pa k ca]) 50 rfl rfl (fun W => by kernel_rfl) H ?_); clear H; intro g50 w1 H; refine hK.out _ _ trivial ?_; clear hK K; simp only [putS]
             refine ra [2, 11] ?_
             refine rc 2 rfl (fun K hK => ?_) ?_
             · as_aux_lemma => -- 2
              refine wp_callf rfl ent12 (KD.out _ _ (H.gr 22) (H.gr 5)) rfl (fun v w1 hr => ?_); obtain ⟨rfl, hb1⟩ := hr; replace H := H.grow hb1; clear hb1; refine hK.out _ _ trivial ?_; clear hK K; simp only [putS]
              refine ra [7, 11] ?_
              refine rc 7 rfl (fun K hK => ?_) ?_
              · as_aux_lemma => -- 7
               refine wp_callf rfl ent12 (KA.out _ _ (H.gr 22) H.below) rfl (fun v w1 hr => ?_); obtain ⟨rfl, hb1⟩ := hr; replace H := H.grow hb1; clear hb1; refine hK.out _ _ trivial ?_; clear hK K; simp only [putS]
               refine rg_one (i := 11) (by kernel_rfl) rfl rfl (fun K hK => ?_)
               refine Stp.wp (Stp.bsl (e := 22) (cs := #[.slice pb k cb']) 55 rfl rfl (fun W => by kernel_rfl) H ?_); clear H; intro g55 w1 H; refine hK.out _ _ trivial ?_; clear hK K; simp only [putS]
               refine rg_one (i := 12) (by kernel_rfl) rfl rfl (fun K hK => ?_)
               refine wp_callf rfl ent12 (KB.out _ _ (H.gr 22) H.below) rfl (fun v w1 hr => ?_); obtain ⟨rfl, hb1⟩ := hr; replace H := H.grow hb1; clear hb1; refine hK.out _ _ trivial ?_; clear hK K; simp only [putS]
               refine rt 13 rfl (Yld.of rfl (fun W _ => by go_simp; first | done | with_reducible rfl)) trivial ?_; simp only [putS]
               refine rg_one (i := 18) (by kernel_rfl) rfl rfl (fun K hK => ?_)
               refine wp_callf rfl ent12 (KC.out _ _ (H.gr 22) H.below) rfl (fun v w1 hr => ?_); obtain ⟨rfl, hb1⟩ := hr; replace H := H.grow hb1; clear hb1; refine hK.out _ _ trivial ?_; clear hK K; simp only [putS]
               refine rt 19 rfl (Yld.of rfl (fun W _ => by go_simp; first | done | with_reducible rfl)) trivial ?_; simp only [putS]
               refine rt 20 rfl (Yld.of rfl (fun W _ => by go_simp; first | done | with_reducible rfl)) trivial ?_; simp only [putS]
               refine rt 21 rfl (Yld.move rfl rfl) trivial ?_; simp only [putE]
               refine rg_one (i := 22) (by kernel_rfl) rfl rfl (fun K hK => ?_)
               refine wp_callf rfl ent8 (awake_ok _) rfl (fun v w1 hr => ?_); obtain ⟨rfl, hb1⟩ := hr; replace H := H.grow hb1; clear hb1; refine hK.out _ _ trivial ?_; clear hK K; simp only [putS]
               refine rt 23 rfl (Yld.pick rfl rfl rfl) trivial ?_; simp only [putE]
               refine rt 24 rfl (Yld.assign rfl rfl) trivial ?_; simp only [putE]
               refine rg_done (by kernel_rfl) ?_
               exact ⟨rfl, rfl, rfl, H.below⟩
              refine rc 11 rfl (fun K hK => ?_) ?_
              · as_aux_lemma => -- 11
               refine Stp.wp (Stp.bsl (e := 22) (cs := #[.slice pb k cb']) 55 rfl rfl (fun W => by kernel_rfl) H ?_); clear H; intro g55 w1 H; refine hK.out _ _ trivial ?_; clear hK K; simp only [putS]
               refine rg_one (i := 7) (by kernel_rfl) rfl rfl (fun K hK => ?_)
               refine wp_callf rfl ent12 (KA.out _ _ (H.gr 22) H.below) rfl (fun v w1 hr => ?_); obtain ⟨rfl, hb1⟩ := hr; replace H := H.grow hb1; clear hb1; refine hK.out _ _ trivial ?_; clear hK K; simp only [putS]
               refine rg_one (i := 12) (by kernel_rfl) rfl rfl (fun K hK => ?_)
               refine wp_callf rfl ent12 (KB.out _ _ (H.gr 22) H.below) rfl (fun v w1 hr => ?_); obtain ⟨rfl, hb1⟩ := hr; replace H := H.grow hb1; clear hb1; refine hK.out _ _ trivial ?_; clear hK K; simp only [putS]
               refine rt 13 rfl (Yld.of rfl (fun W _ => by go_simp; first | done | with_reducible rfl)) trivial ?_; simp only [putS]
               refine rg_one (i := 18) (by kernel_rfl) rfl rfl (fun K hK => ?_)
               refine wp_callf rfl ent12 (KC.out _ _ (H.gr 22) H.below) rfl (fun v w1 hr => ?_); obtain ⟨rfl, hb1⟩ := hr; replace H := H.grow hb1; clear hb1; refine hK.out _ _ trivial ?_; clear hK K; simp only [putS]
               refine rt 19 rfl (Yld.of rfl (fun W _ => by go_simp; first | done | with_reducible rfl)) trivial ?_; simp only [putS]
               refine rt 20 rfl (Yld.of rfl (fun W _ => by go_simp; first | done | with_reducible rfl)) trivial ?_; simp only [putS]
               refine rt 21 rfl (Yld.move rfl rfl) trivial ?_; simp only [putE]
               refine rg_one (i := 22) (by kernel_rfl) rfl rfl (fun K hK => ?_)
               refine wp_callf rfl ent8 (awake_ok _) rfl (fun v w1 hr => ?_); obtain ⟨rfl, hb1⟩ := hr; replace H := H.grow hb1; clear hb1; refine hK.out _ _ trivial ?_; clear hK K; simp only [putS]
               refine rt 23 rfl (Yld.pick rfl rfl rfl) trivial ?_; simp only [putE]
               refine rt 24 rfl (Yld.assign rfl rfl) trivial ?_; simp only [putE]
               refine rg_done (by kernel_rfl) ?_
               exact ⟨rfl, rfl, rfl, H.below⟩
              exact AllReadyH.nil
             refine rc 11 rfl (fun K hK => ?_) ?_
             · as_aux_lemma => -- 11
              refine Stp.wp (Stp.bsl (e := 22) (cs := #[.slice pb k cb']) 55 rfl rfl (fun W => by kernel_rfl) H ?_); clear H; intro g55 w1 H; refine hK.out _ _ trivial ?_; clear hK K; simp only [putS]
              refine rg_one (i := 2) (by kernel_rfl) rfl rfl (fun K hK => ?_)
              refine wp_callf rfl ent12 (KD.out _ _ (H.gr 22) (H.gr 5)) rfl (fun v w1 hr => ?_); obtain ⟨rfl, hb1⟩ := hr; replace H := H.grow hb1; clear hb1; refine hK.out _ _ trivial ?_; clear hK K; simp only [putS]
              refine rg_one (i := 7) (by kernel_rfl) rfl rfl (fun K hK => ?_)
              refine wp_callf rfl ent12 (KA.out _ _ (H.gr 22) H.below) rfl (fun v w1 hr => ?_); obtain ⟨rfl, hb1⟩ := hr; replace H := H.grow hb1; clear hb1; refine hK.out _ _ trivial ?_; clear hK K; simp only [putS]
              refine rg_one (i := 12) (by kernel_rfl) rfl rfl (fun K hK => ?_)
              refine wp_callf rfl ent12 (KB.out _ _ (H.gr 22) H.below) rfl (fun v w1 hr => ?_); obtain ⟨rfl, hb1⟩ := hr; replace H := H.grow hb1; clear hb1; refine hK.out _ _ trivial ?_; clear hK K; simp only [putS]
              refine rt 13 rfl (Yld.of rfl (fun W _ => by go_simp; first | done | with_reducible rfl)) trivial ?_; simp only [putS]
              refine rg_one (i := 18) (by kernel_rfl) rfl rfl (fun K hK => ?_)
              refine wp_callf rfl ent12 (KC.out _ _ (H.gr 22) H.below) rfl (fun v w1 hr => ?_); obtain ⟨rfl, hb1⟩ := hr; replace H := H.grow hb1; clear hb1; refine hK.out _ _ trivial ?_; clear hK K; simp only [putS]
              refine rt 19 rfl (Yld.of rfl (fun W _ => by go_simp; first | done | with_reducible rfl)) trivial ?_; simp only [putS]
              refine rt 20 rfl (Yld.of rfl (fun W _ => by go_simp; first | done | with_reducible rfl)) trivial ?_; simp only [putS]
              refine rt 21 rfl (Yld.move rfl rfl) trivial ?_; simp only [putE]
              refine rg_one (i := 22) (by kernel_rfl) rfl rfl (fun K hK => ?_)
              refine wp_callf rfl ent8 (awake_ok _) rfl (fun v w1 hr => ?_); obtain ⟨rfl, hb1⟩ := hr; replace H := H.grow hb1; clear hb1; refine hK.out _ _ trivial ?_; clear hK K; simp only [putS]
              refine rt 23 rfl (Yld.pick rfl rfl rfl) trivial ?_; simp only [putE]
              refine rt 24 rfl (Yld.assign rfl rfl) trivial ?_; simp only [putE]
              refine rg_done (by kernel_rfl) ?_
              exact ⟨rfl, rfl, rfl, H.below⟩
             exact AllReadyH.nil
            refine rc 11 rfl (fun K hK => ?_) ?_
            · as_aux_lemma => -- 11
             refine Stp.wp (Stp.bsl (e := 22) (cs := #[.slice pb k cb']) 55 rfl rfl (fun W => by kernel_rfl) H ?_); clear H; intro g55 w1 H; refine hK.out _ _ trivial ?_; clear hK K; simp only [putS]
             refine ra [2, 6] ?_
             refine rc 2 rfl (fun K hK => ?_) ?_
             · as_aux_lemma => -- 2
              refine wp_callf rfl ent12 (KD.out _ _ (H.gr 22) (H.gr 5)) rfl (fun v w1 hr => ?_); obtain ⟨rfl, hb1⟩ := hr; replace H := H.grow hb1; clear hb1; refine hK.out _ _ trivial ?_; clear hK K; simp only [putS]
              refine rg_one (i := 6) (by kernel_rfl) rfl rfl (fun K hK => ?_)
              refine Stp.wp (Stp.bsl (e := 22) (cs := #[.slice pa k ca]) 50 rfl rfl (fun W => by kernel_rfl) H ?_); clear H; intro g50 w1 H; refine hK.out _ _ trivial ?_; clear hK K; simp only [putS]
              refine rg_one (i := 7) (by kernel_rfl) rfl rfl (fun K hK => ?_)
              refine wp_callf rfl ent12 (KA.out _ _ (H.gr 22) H.below) rfl (fun v w1 hr => ?_); obtain ⟨rfl, hb1⟩ := hr; replace H := H.grow hb1; clear hb1; refine hK.out _ _ trivial ?_; clear hK K; simp only [putS]
              refine rg_one (i := 12) (by kernel_rfl) rfl rfl (fun K hK => ?_)
              refine wp_callf rfl ent12 (KB.out _ _ (H.gr 22) H.below) rfl (fun v w1 hr => ?_); obtain ⟨rfl, hb1⟩ := hr; replace H := H.grow hb1; clear hb1; refine hK.out _ _ trivial ?_; clear hK K; simp only [putS]
              refine rt 13 rfl (Yld.of rfl (fun W _ => by go_simp; first | done | with_reducible rfl)) trivial ?_; simp only [putS]
              refine rg_one (i := 18) (by kernel_rfl) rfl rfl (fun K hK => ?_)
              refine wp_callf rfl ent12 (KC.out _ _ (H.gr 22) H.below) rfl (fun v w1 hr => ?_); obtain ⟨rfl, hb1⟩ := hr; replace H := H.grow hb1; clear hb1; refine hK.out _ _ trivial ?_; clear hK K; simp only [putS]
              refine rt 19 rfl (Yld.of rfl (fun W _ => by go_simp; first | done | with_reducible rfl)) trivial ?_; simp only [putS]
              refine rt 20 rfl (Yld.of rfl (fun W _ => by go_simp; first | done | with_reducible rfl)) trivial ?_; simp only [putS]
              refine rt 21 rfl (Yld.move rfl rfl) trivial ?_; simp only [putE]
              refine rg_one (i := 22) (by kernel_rfl) rfl rfl (fun K hK => ?_)
              refine wp_callf rfl ent8 (awake_ok _) rfl (fun v w1 hr => ?_); obtain ⟨rfl, hb1⟩ := hr; replace H := H.grow hb1; clear hb1; refine hK.out _ _ trivial ?_; clear hK K; simp only [putS]
              refine rt 23 rfl (Yld.pick rfl rfl rfl) trivial ?_; simp only [putE]
              refine rt 24 rfl (Yld.assign rfl rfl) trivial ?_; simp only [putE]
              refine rg_done (by kernel_rfl) ?_
              exact ⟨rfl, rfl, rfl, H.below⟩
             refine rc 6 rfl (fun K hK => ?_) ?_
             · as_aux_lemma => -- 6
              refine Stp.wp (Stp.bsl (e := 22) (cs := #[.slice pa k ca]) 50 rfl rfl (fun W => by kernel_rfl) H ?_); clear H; intro g50 w1 H; refine hK.out _ _ trivial ?_; clear hK K; simp only [putS]
              refine rg_one (i := 2) (by kernel_rfl) rfl rfl (fun K hK => ?_)
              refine wp_callf rfl ent12 (KD.out _ _ (H.gr 22) (H.gr 5)) rfl (fun v w1 hr => ?_); obtain ⟨rfl, hb1⟩ := hr; replace H := H.grow hb1; clear hb1; refine hK.out _ _ trivial ?_; clear hK K; simp only [putS]
              refine rg_one (i := 7) (by kernel_rfl) rfl rfl (fun K hK => ?_)
              refine wp_callf rfl ent12 (KA.out _ _ (H.gr 22) H.below) rfl (fun v w1 hr => ?_); obtain ⟨rfl, hb1⟩ := hr; replace H := H.grow hb1; clear hb1; refine hK.out _ _ trivial ?_; clear hK K; simp only [putS]
              refine rg_one (i := 12) (by kernel_rfl) rfl rfl (fun K hK => ?_)
              refine wp_callf rfl ent12 (KB.out _ _ (H.gr 22) H.below) rfl (fun v w1 hr => ?_); obtain ⟨rfl, hb1⟩ := hr; replace H := H.grow hb1; clear hb1; refine hK.out _ _ trivial ?_; clear hK K; simp only [putS]
              refine rt 13 rfl (Yld.of rfl (fun W _ => by go_simp; first | done | with_reducible rfl)) trivial ?_; simp only [putS]
              refine rg_one (i := 18) (by kernel_rfl) rfl rfl (fun K hK => ?_)
              refine wp_callf rfl ent12 (KC.out _ _ (H.gr 22) H.below) rfl (fun v w1 hr => ?_); obtain ⟨rfl, hb1⟩ := hr; replace H := H.grow hb1; clear hb1; refine hK.out _ _ trivial ?_; clear hK K; simp only [putS]
              refine rt 19 rfl (Yld.of rfl (fun W _ => by go_simp; first | done | with_reducible rfl)) trivial ?_; simp only [putS]
              refine rt 20 rfl (Yld.of rfl (fun W _ => by go_simp; first | done | with_reducible rfl)) trivial ?_; simp only [putS]
              refine rt 21 rfl (Yld.move rfl rfl) trivial ?_; simp only [putE]
              refine rg_one (i := 22) (by kernel_rfl) rfl rfl (fun K hK => ?_)
              refine wp_callf rfl ent8 (awake_ok _) rfl (fun v w1 hr => ?_); obtain ⟨rfl, hb1⟩ := hr; replace H := H.grow hb1; clear hb1; refine hK.out _ _ trivial ?_; clear hK K; simp only [putS]
              refine rt 23 rfl (Yld.pick rfl rfl rfl) trivial ?_; simp only [putE]
              refine rt 24 rfl (Yld.assign rfl rfl) trivial ?_; simp only [putE]
              refine rg_done (by kernel_rfl) ?_
              exact ⟨rfl, rfl, rfl, H.below⟩
             exact AllReadyH.nil
            exact AllReadyH.nil
           exact AllReadyH.nil
          refine rc 6 rfl (fun K hK => ?_) ?_
          · as_aux_lemma => -- 6
           refine Stp.wp (Stp.bsl (e := 22) (cs := #[.slice pa k ca]) 50 rfl rfl (fun W => by kernel_rfl) H ?_); clear H; intro g50 w1 H; refine hK.out _ _ trivial ?_; clear hK K; simp only [putS]
           refine ra [1, 11, 17] ?_
           refine rc 1 rfl (fun K hK => ?_) ?_
           · as_aux_lemma => -- 1
            refine Stp.wp (Stp.bsl (e := 22) (cs := #[.slice (some ⟨g21, 0, none⟩) k k]) 45 rfl rfl (fun W => by kernel_rfl) H ?_); clear H; intro g45 w1 H; refine hK.out _ _ trivial ?_; clear hK K; simp only [putS]
            refine ra [2, 11, 17] ?_
            refine rc 2 rfl (fun K hK => ?_) ?_
            · as_aux_lemma => -- 2
             refine wp_callf rfl ent12 (KD.out _ _ (H.gr 22) (H.gr 5)) rfl (fun v w1 hr => ?_); obtain ⟨rfl, hb1⟩ := hr; replace H := H.grow hb1; clear hb1; refine hK.out _ _ trivial ?_; clear hK K; simp only [putS]
             refine ra [7, 11, 17] ?_
             refine rc 7 rfl (fun K hK => ?_) ?_
             · as_aux_lemma => -- 7
              refine wp_callf rfl ent12 (KA.out _ _ (H.gr 22) H.below) rfl (fun v w1 hr => ?_); obtain ⟨rfl, hb1⟩ := hr; replace H := H.grow hb1; clear hb1; refine hK.out _ _ trivial ?_; clear hK K; simp only [putS]
              refine ra [11, 17] ?_
              refine rc 11 rfl (fun K hK => ?_) ?_
              · as_aux_lemma => -- 11
               refine Stp.wp (Stp.bsl (e := 22) (cs := #[.slice pb k cb']) 55 rfl rfl (fun W => by kernel_rfl) H ?_); clear H; intro g55 w1 H; refine hK.out _ _ trivial ?_; clear hK K; simp only [putS]
               refine ra [12, 17] ?_
               refine rc 12 rfl (fun K hK => ?_) ?_
               · as_aux_lemma => -- 12
                refine wp_callf rfl ent12 (KB.out _ _ (H.gr 22) H.below) rfl (fun v w1 hr => ?_); obtain ⟨rfl, hb1⟩ := hr; replace H := H.grow hb1; clear hb1; refine hK.out _ _ trivial ?_; clear hK K; simp only [putS]
                refine rt 13 rfl (Yld.of rfl (fun W _ => by go_simp; first | done | with_reducible rfl)) trivial ?_; simp only [putS]
                refine rg_one (i := 17) (by kernel_rfl) rfl rfl (fun K hK => ?_)
                refine Stp.wp (Stp.bsl (e := 22) (cs := #[.slice pc k cc']) 61 rfl rfl (fun W => by kernel_rfl) H ?_); clear H; intro g61 w1 H; refine hK.out _ _ trivial ?_; clear hK K; simp only [putS]
                refine rg_one (i := 18) (by kernel_rfl) rfl rfl (fun K hK => ?_)
                refine wp_callf rfl ent12 (KC.out _ _ (H.gr 22) H.below) rfl (fun v w1 hr => ?_); obtain ⟨rfl, hb1⟩ := hr; replace H := H.grow hb1; clear hb1; refine hK.out _ _ trivial ?_; clear hK K; simp only [putS]
                refine rt 19 rfl (Yld.of rfl (fun W _ => by go_simp; first | done | with_reducible rfl)) trivial ?_; simp only [putS]
                refine rt 20 rfl (Yld.of rfl (fun W _ => by go_simp; first | done | with_reducible rfl)) trivial ?_; simp only [putS]
                refine rt 21 rfl (Yld.move rfl rfl) trivial ?_; simp only [putE]
                refine rg_one (i := 22) (by kernel_rfl) rfl rfl (fun K hK => ?_)
                refine wp_callf rfl ent8 (awake_ok _) rfl (fun v w1 hr => ?_); obtain ⟨rfl, hb1⟩ := hr; replace H := H.grow hb1; clear hb1; refine hK.out _ _ trivial ?_; clear hK K; simp only [putS]
                refine rt 23 rfl (Yld.pick rfl rfl rfl) trivial ?_; simp only [putE]
                refine rt 24 rfl (Yld.assign rfl rfl) trivial ?_; simp only [putE]
                refine rg_done (by kernel_rfl) ?_
                exact ⟨rfl, rfl, rfl, H.below⟩
               refine rc 17 rfl (fun K hK => ?_) ?_
               · as_aux_lemma => -- 17
                refine Stp.wp (Stp.bsl (e := 22) (cs := #[.slice pc k cc']) 61 rfl rfl (fun W => by kernel_rfl) H ?_); clear H; intro g61 w1 H; refine hK.out _ _ trivial ?_; clear hK K; simp only [putS]
                refine rg_one (i := 12) (by kernel_rfl) rfl rfl (fun K hK => ?_)
                refine wp_callf rfl ent12 (KB.out _ _ (H.gr 22) H.below) rfl (fun v w1 hr => ?_); obtain ⟨rfl, hb1⟩ := hr; replace H := H.grow hb1; clear hb1; refine hK.out _ _ trivial ?_; clear hK K; simp only [putS]
                refine rt 13 rfl (Yld.of rfl (fun W _ => by go_simp; first | done | with_reducible rfl)) trivial ?_; simp only [putS]
                refine rg_one (i := 18) (by kernel_rfl) rfl rfl (fun K hK => ?_)
                refine wp_callf rfl ent12 (KC.out _ _ (H.gr 22) H.below) rfl (fun v w1 hr => ?_); obtain ⟨rfl, hb1⟩ := hr; replace H := H.grow hb1; clear hb1; refine hK.out _ _ trivial ?_; clear hK K; simp only [putS]
                refine rt 19 rfl (Yld.of rfl (fun W _ => by go_simp; first | done | with_reducible rfl)) trivial ?_; simp only [putS]
                refine rt 20 rfl (Yld.of rfl (fun W _ => by go_simp; first | done | with_reducible rfl)) trivial ?_; simp only [putS]
                refine rt 21 rfl (Yld.move rfl rfl) trivial ?_; simp only [putE]
                refine rg_one (i := 22) (by kernel_rfl) rfl rfl (fun K hK => ?_)
                refine wp_callf rfl ent8 (awake_ok _) rfl (fun v w1 hr => ?_); obtain ⟨rfl, hb1⟩ := hr; replace H := H.grow hb1; clear hb1; refine hK.out _ _ trivial ?_; clear hK K; simp only [putS]
                refine rt 23 rfl (Yld.pick rfl rfl rfl) trivial ?_; simp only [putE]
                refine rt 24 rfl (Yld.assign rfl rfl) trivial ?_; simp only [putE]
                refine rg_done (by kernel_rfl) ?_
                exact ⟨rfl, rfl, rfl, H.below⟩
               exact AllReadyH.nil
              refine rc 17 rfl (fun K hK => ?_) ?_
              · as_aux_lemma => -- 17
               refine Stp.wp (Stp.bsl (e := 22) (cs := #[.slice pc k cc']) 61 rfl rfl (fun W => by kernel_rfl) H ?_); clear H; intro g61 w1 H; refine hK.out _ _ trivial ?_; clear hK K; simp only [putS]
               refine rg_one (i := 11) (by kernel_rfl) rfl rfl (fun K hK => ?_)
               refine Stp.wp (Stp.bsl (e := 22) (cs := #[.slice pb k cb']) 55 rfl rfl (fun W => by kernel_rfl) H ?_); clear H; intro g55 w1 H; refine hK.out _ _ trivial ?_; clear hK K; simp only [putS]
               refine rg_one (i := 12) (by kernel_rfl) rfl rfl (fun K hK => ?_)
               refine wp_callf rfl ent12 (KB.out _ _ (H.gr 22) H.below) rfl (fun v w1 hr => ?_); obtain ⟨rfl, hb1⟩ := hr; replace H := H.grow hb1; clear hb1; refine hK.out _ _ trivial ?_; clear hK K; simp only [putS]
               refine rt 13 rfl (Yld.of rfl (fun W _ => by go_simp; first | done | with_reducible rfl)) trivial ?_; simp only [putS]
               refine rg_one (i := 18) (by kernel_rfl) rfl rfl (fun K hK => ?_)
               refine wp_callf rfl ent12 (KC.out _ _ (H.gr 22) H.below) rfl (fun v w1 hr => ?_); obtain ⟨rfl, hb1⟩ := hr; replace H := H.grow hb1; clear hb1; refine hK.out _ _ trivial ?_; clear hK K; simp only [putS]
               refine rt 19 rfl (Yld.of rfl (fun W _ => by go_simp; first | done | with_reducible rfl)) trivial ?_; simp only [putS]
               refine rt 20 rfl (Yld.of rfl (fun W _ => by go_simp; first | done | with_reducible rfl)) trivial ?_; simp only [putS]
               refine rt 21 rfl (Yld.move rfl rfl) trivial ?_; simp only [putE]
               refine rg_one (i := 22) (by kernel_rfl) rfl rfl (fun K hK => ?_)
               refine wp_callf rfl ent8 (awake_ok _) rfl (fun v w1 hr => ?_); obtain ⟨rfl, hb1⟩ := hr; replace H := H.grow hb1; clear hb1; refine hK.out _ _ trivial ?_; clear hK K; simp only [putS]
               refine rt 23 rfl (Yld.pick rfl rfl rfl) trivial ?_; simp only [putE]
               refine rt 24 rfl (Yld.assign rfl rfl) trivial ?_; simp only [putE]
               refine rg_done (by kernel_rfl) ?_
               exact ⟨rfl, rfl, rfl, H.below⟩
              exact AllReadyH.nil
             refine rc 11 rfl (fun K hK => ?_) ?_
             · as_aux_lemma => -- 11
              refine Stp.wp (Stp.bsl (e := 22) (cs := #[.slice pb k cb']) 55 rfl rfl (fun W => by kernel_rfl) H ?_); clear H; intro g55 w1 H; refine hK.out _ _ trivial ?_; clear hK K; simp only [putS]
              refine ra [7, 17] ?_
              refine rc 7 rfl (fun K hK => ?_) ?_
              · as_aux_lemma => -- 7
               refine wp_callf rfl ent12 (KA.out _ _ (H.gr 22) H.below) rfl (fun v w1 hr => ?_); obtain ⟨rfl, hb1⟩ := hr; replace H := H.grow hb1; clear hb1; refine hK.out _ _ trivial ?_; clear hK K; simp only [putS]
               refine ra [12, 17] ?_
               refine rc 12 rfl (fun K hK => ?_) ?_
               · as_aux_lemma => -- 12
                refine wp_callf rfl ent12 (KB.out _ _ (H.gr 22) H.below) rfl (fun v w1 hr => ?_); obtain ⟨rfl, hb1⟩ := hr; replace H := H.grow hb1; clear hb1; refine hK.out _ _ trivial ?_; clear hK K; simp only [putS]
                refine rt 13 rfl (Yld.of rfl (fun W _ => by go_simp; first | done | with_reducible rfl)) trivial ?_; simp only [putS]
                refine rg_one (i := 17) (by kernel_rfl) rfl rfl (fun K hK => ?_)
                refine Stp.wp (Stp.bsl (e := 22) (cs := #[.slice pc k cc']) 61 rfl rfl (fun W => by kernel_rfl) H ?_); clear H; intro g61 w1 H; refine hK.out _ _ trivial ?_; clear hK K; simp only [putS]
                refine rg_one (i := 18) (by kernel_rfl) rfl rfl (fun K hK => ?_)
                refine wp_callf rfl ent12 (KC.out _ _ (H.gr 22) H.below) rfl (fun v w1 hr => ?_); obtain ⟨rfl, hb1⟩ := hr; replace H := H.grow hb1; clear hb1; refine hK.out _ _ trivial ?_; clear hK K; simp only [putS]
                refine rt 19 rfl (Yld.of rfl (fun W _ => by go_simp; first | done | with_reducible rfl)) trivial ?_; simp only [putS]
                refine rt 20 rfl (Yld.of rfl (fun W _ => by go_simp; first | done | with_reducible rfl)) trivial ?_; simp only [putS]
                refine rt 21 rfl (Yld.move rfl rfl) trivial ?_; simp only [putE]
                refine rg_one (i := 22) (by kernel_rfl) rfl rfl (fun K hK => ?_)
                refine wp_callf rfl ent8 (awake_ok _) rfl (fun v w1 hr => ?_); obtain ⟨rfl, hb1⟩ := hr; replace H := H.grow hb1; clear hb1; refine hK.out _ _ trivial ?_; clear hK K; simp only [putS]
                refine rt 23 rfl (Yld.pick rfl rfl rfl) trivial ?_; simp only [putE]
                refine rt 24 rfl (Yld.assign rfl rfl) trivial ?_; simp only [putE]
                refine rg_done (by kernel_rfl) ?_
                exact ⟨rfl, rfl, rfl, H.below⟩
               refine rc 17 rfl (fun K hK => ?_) ?_
               · as_aux_lemma => -- 17
                refine Stp.wp (Stp.bsl (e := 22) (cs := #[.slice pc k cc']) 61 rfl rfl (fun W => by kernel_rfl) H ?_); clear H; intro g61 w1 H; refine hK.out _ _ trivial ?_; clear hK K; simp only [putS]
                refine rg_one (i := 12) (by kernel_rfl) rfl rfl (fun K hK => ?_)
                refine wp_callf rfl ent12 (KB.out _ _ (H.gr 22) H.below) rfl (fun v w1 hr => ?_); obtain ⟨rfl, hb1⟩ := hr; replace H := H.grow hb1; clear hb1; refine hK.out _ _ trivial ?_; clear hK K; simp only [putS]
                refine rt 13 rfl (Yld.of rfl (fun W _ => by go_simp; first | done | with_reducible rfl)) trivial ?_; simp only [putS]
                refine rg_one (i := 18) (by kernel_rfl) rfl rfl (fun K hK => ?_)
                refine wp_callf rfl ent12 (KC.out _ _ (H.gr 22) H.below) rfl (fun v w1 hr => ?_); obtain ⟨rfl, hb1⟩ := hr; replace H := H.grow hb1; clear hb1; refine hK.out _ _ trivial ?_; clear hK K; simp only [putS]
                refine rt 19 rfl (Yld.of rfl (fun W _ => by go_simp; first | done | with_reducible rfl)) trivial ?_; simp only [putS]
                refine rt 20 rfl (Yld.of rfl (fun W _ => by go_simp; first | done | with_reducible rfl)) trivial ?_; simp only [putS]
                refine rt 21 rfl (Yld.move rfl rfl) trivial ?_; simp only [putE]
                refine rg_one (i := 22) (by kernel_rfl) rfl rfl (fun K hK => ?_)
                refine wp_callf rfl ent8 (awake_ok _) rfl (fun v w1 hr => ?_); obtain ⟨rfl, hb1⟩ := hr; replace H := H.grow hb1; clear hb1; refine hK.out _ _ trivial ?_; clear hK K; simp only [putS]
                refine rt 23 rfl (Yld.pick rfl rfl rfl) trivial ?_; simp only [putE]
                refine rt 24 rfl (Yld.assign rfl rfl) trivial ?_; simp only [putE]
                refine rg_done (by kernel_rfl) ?_
                exact ⟨rfl, rfl, rfl, H.below⟩
               exact AllReadyH.nil
              refine rc 17 rfl (fun K hK => ?_) ?_
              · as_aux_lemma => -- 17
               refine Stp.wp (Stp.bsl (e := 22) (cs := #[.slice pc k cc']) 61 rfl rfl (fun W => by kernel_rfl) H ?_); clear H; intro g61 w1 H; refine hK.out _ _ trivial ?_; clear hK K; simp only [putS]
               refine rg_one (i := 7) (by kernel_rfl) rfl rfl (fun K hK => ?_)
               refine wp_callf rfl ent12 (KA.out _ _ (H.gr 22) H.below) rfl (fun v w1 hr => ?_); obtain ⟨rfl, hb1⟩ := hr; replace H := H.grow hb1; clear hb1; refine hK.out _ _ trivial ?_; clear hK K; simp only [putS]
               refine rg_one (i := 12) (by kernel_rfl) rfl rfl (fun K hK => ?_)
               refine wp_callf rfl ent12 (KB.out _ _ (H.gr 22) H.below) rfl (fun v w1 hr => ?_); obtain ⟨rfl, hb1⟩ := hr; replace H := H.grow hb1; clear hb1; refine hK.out _ _ trivial ?_; clear hK K; simp only [putS]
               refine rt 13 rfl (Yld.of rfl (fun W _ => by go_simp; first | done | with_reducible rfl)) trivial ?_; simp only [putS]
               refine rg_one (i := 18) (by kernel_rfl) rfl rfl (fun K hK => ?_)
               refine wp_callf rfl ent12 (KC.out _ _ (H.gr 22) H.below) rfl (fun v w1 hr => ?_); obtain ⟨rfl, hb1⟩ := hr; replace H := H.grow hb1; clear hb1; refine hK.out _ _ trivial ?_; clear hK K; simp only [putS]
               refine rt 19 rfl (Yld.of rfl (fun W _ => by go_simp; first | done | with_reducible rfl)) trivial ?_; simp only [putS]
               refine rt 20 rfl (Yld.of rfl (fun W _ => by go_simp; first | done | with_reducible rfl)) trivial ?_; simp only [putS]
               refine rt 21 rfl (Yld.move rfl rfl) trivial ?_; simp only [putE]
               refine rg_one (i := 22) (by kernel_rfl) rfl rfl (fun K hK => ?_)
               refine wp_callf rfl ent8 (awake_ok _) rfl (fun v w1 hr => ?_); obtain ⟨rfl, hb1⟩ := hr; replace H := H.grow hb1; clear hb1; refine hK.out _ _ trivial ?_; clear hK K; simp only [putS]
               refine rt 23 rfl (Yld.pick rfl rfl rfl) trivial ?_; simp only [putE]
               refine rt 24 rfl (Yld.assign rfl rfl) trivial ?_; simp only [putE]
               refine rg_done (by kernel_rfl) ?_
               exact ⟨rfl, rfl, rfl, H.below⟩
              exact AllReadyH.nil
             refine rc 17 rfl (fun K hK => ?_) ?_
             · as_aux_lemma => -- 17
              refine Stp.wp (Stp.bsl (e := 22) (cs := #[.slice pc k cc']) 61 rfl rfl (fun W => by kernel_rfl) H ?_); clear H; intro g61 w1 H; refine hK.out _ _ trivial ?_; clear hK K; simp only [putS]
              refine ra [7, 11] ?_
              refine rc 7 rfl (fun K hK => ?_) ?_
              · as_aux_lemma => -- 7
               refine wp_callf rfl ent12 (KA.out _ _ (H.gr 22) H.below) rfl (fun v w1 hr => ?_); obtain ⟨rfl, hb1⟩ := hr; replace H := H.grow hb1; clear hb1; refine hK.out _ _ trivial ?_; clear hK K; simp only [putS]
               refine rg_one (i := 11) (by kernel_rfl) rfl rfl (fun K hK => ?_)
               refine Stp.wp (Stp.bsl (e := 22) (cs := #[.slice pb k cb']) 55 rfl rfl (fun W => by kernel_rfl) H ?_); clear H; intro g55 w1 H; refine hK.out _ _ trivial ?_; clear hK K; simp only [putS]
               refine rg_one (i := 12) (by kernel_rfl) rfl rfl (fun K hK => ?_)
               refine wp_callf rfl ent12 (KB.out _ _ (H.gr 22) H.below) rfl (fun v w1 hr => ?_); obtain ⟨rfl, hb1⟩ := hr; replace H := H.grow hb1; clear hb1; refine hK.out _ _ trivial ?_; clear hK K; simp only [putS]
               refine rt 13 rfl (Yld.of rfl (fun W _ => by go_simp; first | done | with_reducible rfl)) trivial ?_; simp only [putS]
               refine rg_one (i := 18) (by kernel_rfl) rfl rfl (fun K hK => ?_)
               refine wp_callf rfl ent12 (KC.out _ _ (H.gr 22) H.below) rfl (fun v w1 hr => ?_); obtain ⟨rfl, hb1⟩ := hr; replace H := H.grow hb1; clear hb1; refine hK.out _ _ trivial ?_; clear hK K; simp only [putS]
               refine rt 19 rfl (Yld.of rfl (fun W _ => by go_simp; first | done | with_reducible rfl)) trivial ?_; simp only [putS]
               refine rt 20 rfl (Yld.of rfl (fun W _ => by go_simp; first | done | with_reducible rfl)) trivial ?_; simp only [putS]
               refine rt 21 rfl (Yld.move rfl rfl) trivial ?_; simp only [putE]
               refine rg_one (i := 22) (by kernel_rfl) rfl rfl (fun K hK => ?_)
               refine wp_callf rfl ent8 (awake_ok _) rfl (fun v w1 hr => ?_); obtain ⟨rfl, hb1⟩ := hr; replace H := H.grow hb1; clear hb1; refine hK.out _ _ trivial ?_; clear hK K; simp only [putS]
               refine rt 23 rfl (Yld.pick rfl rfl rfl) trivial ?_; simp only [putE]
               refine rt 24 rfl (Yld.assign rfl rfl) trivial ?_; simp only [putE]
               refine rg_done (by kernel_rfl) ?_
               exact ⟨rfl, rfl, rfl, H.below⟩
              refine rc 11 rfl (fun K hK => ?_) ?_
              · as_aux_lemma => -- 11
               refine Stp.wp (Stp.bsl (e := 22) (cs := #[.slice pb k cb']) 55 rfl rfl (fun W => by kernel_rfl) H ?_); clear H; intro g55 w1 H; refine hK.out _ _ trivial ?_; clear hK K; simp only [putS]
               refine rg_one (i := 7) (by kernel_rfl) rfl rfl (fun K hK => ?_)
               refine wp_callf rfl ent12 (KA.out _ _ (H.gr 22) H.below) rfl (fun v w1 hr => ?_); obtain ⟨rfl, hb1⟩ := hr; replace H := H.grow hb1; clear hb1; refine hK.out _ _ trivial ?_; clear hK K; simp only [putS]
               refine rg_one (i := 12) (by kernel_rfl) rfl rfl (fun K hK => ?_)
               refine wp_callf rfl ent12 (KB.out _ _ (H.gr 22) H.below) rfl (fun v w1 hr => ?_); obtain ⟨rfl, hb1⟩ := hr; replace H := H.grow hb1; clear hb1; refine hK.out _ _ trivial ?_; clear hK K; simp only [putS]
               refine rt 13 rfl (Yld.of rfl (fun W _ => by go_simp; first | done | with_reducible rfl)) trivial ?_; simp only [putS]
               refine rg_one (i := 18) (by kernel_rfl) rfl rfl (fun K hK => ?_)
               refine wp_callf rfl ent12 (KC.out _ _ (H.gr 22) H.below) rfl (fun v w1 hr => ?_); obtain ⟨rfl, hb1⟩ := hr; replace H := H.grow hb1; clear hb1; refine hK.out _ _ trivial ?_; clear hK K; simp only [putS]
               refine rt 19 rfl (Yld.of rfl (fun W _ => by go_simp; first | done | with_reducible rfl)) trivial ?_; simp only [putS]
               refine rt 20 rfl (Yld.of rfl (fun W _ => by go_simp; first | done | with_reducible rfl)) trivial ?_; simp only [putS]
               refine rt 21 rfl (Yld.move rfl rfl) trivial ?_; simp only [putE]
               refine rg_one (i := 22) (by kernel_rfl) rfl rfl (fun K hK => ?_)
               refine wp_callf rfl ent8 (awake_ok _) rfl (fun v w1 hr => ?_); obtain ⟨rfl, hb1⟩ := hr; replace H := H.grow hb1; clear hb1; refine hK.out _ _ trivial ?_; clear hK K; simp only [putS]
               refine rt 23 rfl (Yld.pick rfl rfl rfl) trivial ?_; simp only [putE]
               refine rt 24 rfl (Yld.assign rfl rfl) trivial ?_; simp only [putE]
               refine rg_done (by kernel_rfl) ?_
               exact ⟨rfl, rfl, rfl, H.below⟩
              exact AllReadyH.nil
             exact AllReadyH.nil
            refine rc 11 rfl (fun K hK => ?_) ?_
            · as_aux_lemma => -- 11
             refine Stp.wp (Stp.bsl (e := 22) (cs := #[.slice pb k cb']) 55 rfl rfl (fun W => by kernel_rfl) H ?_); clear H; intro g55 w1 H; refine hK.out _ _ trivial ?_; clear hK K; simp only [putS]
             refine ra [2, 17] ?_
             refine rc 2 rfl (fun K hK => ?_) ?_
             · as_aux_lemma => -- 2
              refine wp_callf rfl ent12 (KD.out _ _ (H.gr 22) (H.gr 5)) rfl (fun v w1 hr => ?_); obtain ⟨rfl, hb1⟩ := hr; replace H := H.grow hb1; clear hb1; refine hK.out _ _ trivial ?_; clear hK K; simp only [putS]
              refine ra [7, 17] ?_
              refine rc 7 rfl (fun K hK => ?_) ?_
              · as_aux_lemma => -- 7
               refine wp_callf rfl ent12 (KA.out _ _ (H.gr 22) H.below) rfl (fun v w1 hr => ?_); obtain ⟨rfl, hb1⟩ := hr; replace H := H.grow hb1; clear hb1; refine hK.out _ _ trivial ?_; clear hK K; simp only [putS]
               refine ra [12, 17] ?_
               refine rc 12 rfl (fun K hK => ?_) ?_
               · as_aux_lemma => -- 12
                refine wp_callf rfl ent12 (KB.out _ _ (H.gr 22) H.below) rfl (fun v w1 hr => ?_); obtain ⟨rfl, hb1⟩ := hr; replace H := H.grow hb1; clear hb1; refine hK.out _ _ trivial ?_; clear hK K; simp only [putS]
                refine rt 13 rfl (Yld.of rfl (fun W _ => by go_simp; first | done | with_reducible rfl)) trivial ?_; simp only [putS]
                refine rg_one (i := 17) (by kernel_rfl) rfl rfl (fun K hK => ?_)
                refine Stp.wp (Stp.bsl (e := 22) (cs := #[.slice pc k cc']) 61 rfl rfl (fun W => by kernel_rfl) H ?_); clear H; intro g61 w1 H; refine hK.out _ _ trivial ?_; clear hK K; simp only [putS]
                refine rg_one (i := 18) (by kernel_rfl) rfl rfl (fun K hK => ?_)
                refine wp_callf rfl ent12 (KC.out _ _ (H.gr 22) H.below) rfl (fun v w1 hr => ?_); obtain ⟨rfl, hb1⟩ := hr; replace H := H.grow hb1; clear hb1; refine hK.out _ _ trivial ?_; clear hK K; simp only [putS]
                refine rt 19 rfl (Yld.of rfl (fun W _ => by go_simp; first | done | with_reducible rfl)) trivial ?_; simp only [putS]
                refine rt 20 rfl (Yld.of rfl (fun W _ => by go_simp; first | done | with_reducible rfl)) trivial ?_; simp only [putS]
                refine rt 21 rfl (Yld.move rfl rfl) trivial ?_; simp only [putE]
                refine rg_one (i := 22) (by kernel_rfl) rfl rfl (fun K hK => ?_)
                refine wp_callf rfl ent8 (awake_ok _) rfl (fun v w1 hr => ?_); obtain ⟨rfl, hb1⟩ := hr; replace H := H.grow hb1; clear hb1; refine hK.out _ _ trivial ?_; clear hK K; simp only [putS]
                refine rt 23 rfl (Yld.pick rfl rfl rfl) trivial ?_; simp only [putE]
                refine rt 24 rfl (Yld.assign rfl rfl) trivial ?_; simp only [putE]
                refine rg_done (by kernel_rfl) ?_
                exact ⟨rfl, rfl, rfl, H.below⟩
               refine rc 17 rfl (fun K hK => ?_) ?_
               · as_aux_lemma => -- 17
                refine Stp.wp (Stp.bsl (e := 22) (cs := #[.slice pc k cc']) 61 rfl rfl (fun W => by kernel_rfl) H ?_); clear H; intro g61 w1 H; refine hK.out _ _ trivial ?_; clear hK K; simp only [putS]
                refine rg_one (i := 12) (by kernel_rfl) rfl rfl (fun K hK => ?_)
                refine wp_callf rfl ent12 (KB.out _ _ (H.gr 22) H.below) rfl (fun v w1 hr => ?_); obtain ⟨rfl, hb1⟩ := hr; replace H := H.grow hb1; clear hb1; refine hK.out _ _ trivial ?_; clear hK K; simp only [putS]
                refine rt 13 rfl (Yld.of rfl (fun W _ => by go_simp; first | done | with_reducible rfl)) trivial ?_; simp only [putS]
                refine rg_one (i := 18) (by kernel_rfl) rfl rfl (fun K hK => ?_)
                refine wp_callf rfl ent12 (KC.out _ _ (H.gr 22) H.below) rfl (fun v w1 hr => ?_); obtain ⟨rfl, hb1⟩ := hr; replace H := H.grow hb1; clear hb1; refine hK.out _ _ trivial ?_; clear hK K; simp only [putS]
                refine rt 19 rfl (Yld.of rfl (fun W _ => by go_simp; first | done | with_reducible rfl)) trivial ?_; simp only [putS]
                refine rt 20 rfl (Yld.of rfl (fun W _ => by go_simp; first | done | with_reducible rfl)) trivial ?_; simp only [putS]
                refine rt 21 rfl (Yld.move rfl rfl) trivial ?_; simp only [putE]
                refine rg_one (i := 22) (by kernel_rfl) rfl rfl (fun K hK => ?_)
                refine wp_callf rfl ent8 (awake_ok _) rfl (fun v w1 hr => ?_); obtain ⟨rfl, hb1⟩ := hr; replace H := H.grow hb1; clear hb1; refine hK.out _ _ trivial ?_; clear hK K; simp only [putS]
                refine rt 23 rfl (Yld.pick rfl rfl rfl) trivial ?_; simp only [putE]
                refine rt 24 rfl (Yld.assign rfl rfl) trivial ?_; simp only [putE]
                refine rg_done (by kernel_rfl) ?_
                exact ⟨rfl, rfl, rfl, H.below⟩
               exact AllReadyH.nil
              refine rc 17 rfl (fun K hK => ?_) ?_
              · as_aux_lemma => -- 17
               refine Stp.wp (Stp.bsl (e := 22) (cs := #[.slice pc k cc']) 61 rfl rfl (fun W => by kernel_rfl) H ?_); clear H; intro g61 w1 H; refine hK.out _ _ trivial ?_; clear hK K; simp only [putS]
               refine rg_one (i := 7) (by kernel_rfl) rfl rfl (fun K hK => ?_)
               refine wp_callf rfl ent12 (KA.out _ _ (H.gr 22) H.below) rfl (fun v w1 hr => ?_); obtain ⟨rfl, hb1⟩ := hr; replace H := H.grow hb1; clear hb1; refine hK.out _ _ trivial ?_; clear hK K; simp only [putS]
               refine rg_one (i := 12) (by kernel_rfl) rfl rfl (fun K hK => ?_)
               refine wp_callf rfl ent12 (KB.out _ _ (H.gr 22) H.below) rfl (fun v w1 hr => ?_); obtain ⟨rfl, hb1⟩ := hr; replace H := H.grow hb1; clear hb1; refine hK.out _ _ trivial ?_; clear hK K; simp only [putS]
               refine rt 13 rfl (Yld.of rfl (fun W _ => by go_simp; first | done | with_reducible rfl)) trivial ?_; simp only [putS]
               refine rg_one (i := 18) (by kernel_rfl) rfl rfl (fun K hK => ?_)
               refine wp_callf rfl ent12 (KC.out _ _ (H.gr 22) H.below) rfl (fun v w1 hr => ?_); obtain ⟨rfl, hb1⟩ := hr; replace H := H.grow hb1; clear hb1; refine hK.out _ _ trivial ?_; clear hK K; simp only [putS]
               refine rt 19 rfl (Yld.of rfl (fun W _ => by go_simp; first | done | with_reducible rfl)) trivial ?_; simp only [putS]
               refine rt 20 rfl (Yld.of rfl (fun W _ => by go_simp; first | done | with_reducible rfl)) trivial ?_; simp only [putS]
               refine rt 21 rfl (Yld.move rfl rfl) trivial ?_; simp only [putE]
               refine rg_one (i := 22) (by kernel_rfl) rfl rfl (fun K hK => ?_)
               refine wp_callf rfl ent8 (awake_ok _) rfl (fun v w1 hr => ?_); obtain ⟨rfl, hb1⟩ := hr; replace H := H.grow hb1; clear hb1; refine hK.out _ _ trivial ?_; clear hK K; simp only [putS]
               refine rt 23 rfl (Yld.pick rfl rfl rfl) trivial ?_; simp only [putE]
               refine rt 24 rfl (Yld.assign rfl rfl) trivial ?_; simp only [putE]
               refine rg_done (by kernel_rfl) ?_
               exact ⟨rfl, rfl, rfl, H.below⟩
              exact AllReadyH.nil
             refine rc 17 rfl (fun K hK => ?_) ?_
             · as_aux_lemma => -- 17
              refine Stp.wp (Stp.bsl (e := 22) (cs := #[.slice pc k cc']) 61 rfl rfl (fun W => by kernel_rfl) H ?_); clear H; intro g61 w1 H; refine hK.out _ _ trivial ?_; clear hK K; simp only [putS]
              refine rg_one (i := 2) (by kernel_rfl) rfl rfl (fun K hK => ?_)
              refine wp_callf rfl ent12 (KD.out _ _ (H.gr 22) (H.gr 5)) rfl (fun v w1 hr => ?_); obtain ⟨rfl, hb1⟩ := hr; replace H := H.grow hb1; clear hb1; refine hK.out _ _ trivial ?_; clear hK K; simp only [putS]
              refine rg_one (i := 7) (by kernel_rfl) rfl rfl (fun K hK => ?_)
              refine wp_callf rfl ent12 (KA.out _ _ (H.gr 22) H.below) rfl (fun v w1 hr => ?_); obtain ⟨rfl, hb1⟩ := hr; replace H := H.grow hb1; clear hb1; refine hK.out _ _ trivial ?_; clear hK K; simp only [putS]
              refine rg_one (i := 12) (by kernel_rfl) rfl rfl (fun K hK => ?_)
              refine wp_callf rfl ent12 (KB.out _ _ (H.gr 22) H.below) rfl (fun v w1 hr => ?_); obtain ⟨rfl, hb1⟩ := hr; replace H := H.grow hb1; clear hb1; refine hK.out _ _ trivial ?_; clear hK K; simp only [putS]
              refine rt 13 rfl (Yld.of rfl (fun W _ => by go_simp; first | done | with_reducible rfl)) trivial ?_; simp only [putS]
              refine rg_one (i := 18) (by kernel_rfl) rfl rfl (fun K hK => ?_)
              refine wp_callf rfl ent12 (KC.out _ _ (H.gr 22) H.below) rfl (fun v w1 hr => ?_); obtain ⟨rfl, hb1⟩ := hr; replace H := H.grow hb1; clear hb1; refine hK.out _ _ trivial ?_; clear hK K; simp only [putS]
              refine rt 19 rfl (Yld.of rfl (fun W _ => by go_simp; first | done | with_reducible rfl)) trivial ?_; simp only [putS]
              refine rt 20 rfl (Yld.of rfl (fun W _ => by go_simp; first | done | with_reducible rfl)) trivial ?_; simp only [putS]
              refine rt 21 rfl (Yld.move rfl rfl) trivial ?_; simp only [putE]
              refine rg_one (i := 22) (by kernel_rfl) rfl rfl (fun K hK => ?_)
              refine wp_callf rfl ent8 (awake_ok _) rfl (fun v w1 hr => ?_); obtain ⟨rfl, hb1⟩ := hr; replace H := H.grow hb1; clear hb1; refine hK.out _ _ trivial ?_; clear hK K; simp only [putS]
              refine rt 23 rfl (Yld.pick rfl rfl rfl) trivial ?_; simp only [putE]
              refine rt 24 rfl (Yld.assign rfl rfl) trivial ?_; simp only [putE]
              refine rg_done (by kernel_rfl) ?_
              exact ⟨rfl, rfl, rfl, H.below⟩
             exact AllReadyH.nil
            refine rc 17 rfl (fun K hK => ?_) ?_
            · as_aux_lemma => -- 17
             refine Stp.wp (Stp.bsl (e := 22) (cs := #[.slice pc k cc']) 61 rfl rfl (fun W => by kernel_rfl) H ?_); clear H; intro g61 w1 H; refine hK.out _ _ trivial ?_; clear hK K; simp only [putS]
             refine ra [2, 11] ?_
             refine rc 2 rfl (fun K hK => ?_) ?_
             · as_aux_lemma => -- 2
              refine wp_callf rfl ent12 (KD.out _ _ (H.gr 22) (H.gr 5)) rfl (fun v w1 hr => ?_); obtain ⟨rfl, hb1⟩ := hr; replace H := H.grow hb1; clear hb1; refine hK.out _ _ trivial ?_; clear hK K; simp only [putS]
              refine ra [7, 11] ?_
              refine rc 7 rfl (fun K hK => ?_) ?_
              · as_aux_lemma => -- 7
               refine wp_callf rfl ent12 (KA.out _ _ (H.gr 22) H.below) rfl (fun v w1 hr => ?_); obtain ⟨rfl, hb1⟩ := hr; replace H := H.grow hb1; clear hb1; refine hK.out _ _ trivial ?_; clear hK K; simp only [putS]
               refine rg_one (i := 11) (by kernel_rfl) rfl rfl (fun K hK => ?_)
               refine Stp.wp (Stp.bsl (e := 22) (cs := #[.slice pb k cb']) 55 rfl rfl (fun W => by kernel_rfl) H ?_); clear H; intro g55 w1 H; refine hK.out _ _ trivial ?_; clear hK K; simp only [putS]
               refine rg_one (i := 12) (by kernel_rfl) rfl rfl (fun K hK => ?_)
               refine wp_callf rfl ent12 (KB.out _ _ (H.gr 22) H.below) rfl (fun v w1 hr => ?_); obtain ⟨rfl, hb1⟩ := hr; replace H := H.grow hb1; clear hb1; refine hK.out _ _ trivial ?_; clear hK K; simp only [putS]
               refine rt 13 rfl (Yld.of rfl (fun W _ => by go_simp; first | done | with_reducible rfl)) trivial ?_; simp only [putS]
               refine rg_one (i := 18) (by kernel_rfl) rfl rfl (fun K hK => ?_)
               refine wp_callf rfl ent12 (KC.out _ _ (H.gr 22) H.below) rfl (fun v w1 hr => ?_); obtain ⟨rfl, hb1⟩ := hr; replace H := H.grow hb1; clear hb1; refine hK.out _ _ trivial ?_; clear hK K; simp only [putS]
               refine rt 19 rfl (Yld.of rfl (fun W _ => by go_simp; first | done | with_reducible rfl)) trivial ?_; simp only [putS]
               refine rt 20 rfl (Yld.of rfl (fun W _ => by go_simp; first | done | with_reducible rfl)) trivial ?_; simp only [putS]
               refine rt 21 rfl (Yld.move rfl rfl) trivial ?_; simp only [putE]
               refine rg_one (i := 22) (by kernel_rfl) rfl rfl (fun K hK => ?_)
               refine wp_callf rfl ent8 (awake_ok _) rfl (fun v w1 hr => ?_); obtain ⟨rfl, hb1⟩ := hr; replace H := H.grow hb1; clear hb1; refine hK.out _ _ trivial ?_; clear hK K; simp only [putS]
               refine rt 23 rfl (Yld.pick rfl rfl rfl) trivial ?_; simp only [putE]
               refine rt 24 rfl (Yld.assign rfl rfl) trivial ?_; simp only [putE]
               refine rg_done (by kernel_rfl) ?_
               exact ⟨rfl, rfl, rfl, H.below⟩
              refine rc 11 rfl (fun K hK => ?_) ?_
              · as_aux_lemma => -- 11
               refine Stp.wp (Stp.bsl (e := 22) (cs := #[.slice pb k cb']) 55 rfl rfl (fun W => by kernel_rfl) H ?_); clear H; intro g55 w1 H; refine hK.out _ _ trivial ?_; clear hK K; simp only [putS]
               refine rg_one (i := 7) (by kernel_rfl) rfl rfl (fun K hK => ?_)
               refine wp_callf rfl ent12 (KA.out _ _ (H.gr 22) H.below) rfl (fun v w1 hr => ?_); obtain ⟨rfl, hb1⟩ := hr; replace H := H.grow hb1; clear hb1; refine hK.out _ _ trivial ?_; clear hK K; simp only [putS]
               refine rg_one (i := 12) (by kernel_rfl) rfl rfl (fun K hK => ?_)
               refine wp_callf rfl ent12 (KB.out _ _ (H.gr 22) H.below) rfl (fun v w1 hr => ?_); obtain ⟨rfl, hb1⟩ := hr; replace H := H.grow hb1; clear hb1; refine hK.out _ _ trivial ?_; clear hK K; simp only [putS]
               refine rt 13 rfl (Yld.of rfl (fun W _ => by go_simp; first | done | with_reducible rfl)) trivial ?_; simp only [putS]
               refine rg_one (i := 18) (by kernel_rfl) rfl rfl (fun K hK => ?_)
               refine wp_callf rfl ent12 (KC.out _ _ (H.gr 22) H.below) rfl (fun v w1 hr => ?_); obtain ⟨rfl, hb1⟩ := hr; replace H := H.grow hb1; clear hb1; refine hK.out _ _ trivial ?_; clear hK K; simp only [putS]
               refine rt 19 rfl (Yld.of rfl (fun W _ => by go_simp; first | done | with_reducible rfl)) trivial ?_; simp only [putS]
               refine rt 20 rfl (Yld.of rfl (fun W _ => by go_simp; first | done | with_reducible rfl)) trivial ?_; simp only [putS]
               refine rt 21 rfl (Yld.move rfl rfl) trivial ?_; simp only [putE]
               refine rg_one (i := 22) (by kernel_rfl) rfl rfl (fun K hK => ?_)
               refine wp_callf rfl ent8 (awake_ok _) rfl (fun v w1 hr => ?_); obtain ⟨rfl, hb1⟩ := hr; replace H := H.grow hb1; clear hb1; refine hK.out _ _ trivial ?_; clear hK K; simp only [putS]
               refine rt 23 rfl (Yld.pick rfl rfl rfl) trivial ?_; simp only [putE]
               refine rt 24 rfl (Yld.assign rfl rfl) trivial ?_; simp only [putE]
               refine rg_done (by kernel_rfl) ?_
               exact ⟨rfl, rfl, rfl, H.below⟩
              exact AllReadyH.nil
             refine rc 11 rfl (fun K hK => ?_) ?_
             · as_aux_lemma => -- 11
              refine Stp.wp (Stp.bsl (e := 22) (cs := #[.slice pb k cb']) 55 rfl rfl (fun W => by kernel_rfl) H ?_); clear H; intro g55 w1 H; refine hK.out _ _ trivial ?_; clear hK K; simp only [putS]
              refine rg_one (i := 2) (by kernel_rfl) rfl rfl (fun K hK => ?_)
              refine wp_callf rfl ent12 (KD.out _ _ (H.gr 22) (H.gr 5)) rfl (fun v w1 hr => ?_); obtain ⟨rfl, hb1⟩ := hr; replace H := H.grow hb1; clear hb1; refine hK.out _ _ trivial ?_; clear hK K; simp only [putS]
              refine rg_one (i := 7) (by kernel_rfl) rfl rfl (fun K hK => ?_)
              refine wp_callf rfl ent12 (KA.out _ _ (H.gr 22) H.below) rfl (fun v w1 hr => ?_); obtain ⟨rfl, hb1⟩ := hr; replace H := H.grow hb1; clear hb1; refine hK.out _ _ trivial ?_; clear hK K; simp only [putS]
              refine rg_one (i := 12) (by kernel_rfl) rfl rfl (fun K hK => ?_)
              refine wp_callf rfl ent12 (KB.out _ _ (H.gr 22) H.below) rfl (fun v w1 hr => ?_); obtain ⟨rfl, hb1⟩ := hr; replace H := H.grow hb1; clear hb1; refine hK.out _ _ trivial ?_; clear hK K; simp only [putS]
              refine rt 13 rfl (Yld.of rfl (fun W _ => by go_simp; first | done | with_reducible rfl)) trivial ?_; simp only [putS]
              refine rg_one (i := 18) (by kernel_rfl) rfl rfl (fun K hK => ?_)
              refine wp_callf rfl ent12 (KC.out _ _ (H.gr 22) H.below) rfl (fun v w1 hr => ?_); obtain ⟨rfl, hb1⟩ := hr; replace H := H.grow hb1; clear hb1; refine hK.out _ _ trivial ?_; clear hK K; simp only [putS]
              refine rt 19 rfl (Yld.of rfl (fun W _ => by go_simp; first | done | with_reducible rfl)) trivial ?_; simp only [putS]
              refine rt 20 rfl (Yld.of rfl (fun W _ => by go_simp; first | done | with_reducible rfl)) trivial ?_; simp only [putS]
              refine rt 21 rfl (Yld.move rfl rfl) trivial ?_; simp only [putE]
              refine rg_one (i := 22) (by kernel_rfl) rfl rfl (fun K hK => ?_)
              refine wp_callf rfl ent8 (awake_ok _) rfl (fun v w1 hr => ?_); obtain ⟨rfl, hb1⟩ := hr; replace H := H.grow hb1; clear hb1; refine hK.out _ _ trivial ?_; clear hK K; simp only [putS]
              refine rt 23 rfl (Yld.pick rfl rfl rfl) trivial ?_; simp only [putE]
              refine rt 24 rfl (Yld.assign rfl rfl) trivial ?_; simp only [putE]
              refine rg_done (by kernel_rfl) ?_
              exact ⟨rfl, rfl, rfl, H.below⟩
             exact AllReadyH.nil
            exact AllReadyH.nil
           refine rc 11 rfl (fun K hK => ?_) ?_
           · as_aux_lemma => -- 11
            refine Stp.wp (Stp.bsl (e := 22) (cs := #[.slice pb k cb']) 55 rfl rfl (fun W => by kernel_rfl) H ?_); clear H; intro g55 w1 H; refine hK.out _ _ trivial ?_; clear hK K; simp only [putS]
            refine ra [1, 17] ?_
            refine rc 1 rfl (fun K hK => ?_) ?_
            · as_aux_lemma => -- 1
             refine Stp.wp (Stp.bsl (e := 22) (cs := #[.slice (some ⟨g21, 0, none⟩) k k]) 45 rfl rfl (fun W => by kernel_rfl) H ?_); clear H; intro g45 w1 H; refine hK.out _ _ trivial ?_; clear hK K; simp only [putS]
             refine ra [2, 17] ?_
             refine rc 2 rfl (fun K hK => ?_) ?_
             · as_aux_lemma => -- 2
              refine wp_callf rfl ent12 (KD.out _ _ (H.gr 22) (H.gr 5)) rfl (fun v w1 hr => ?_); obtain ⟨rfl, hb1⟩ := hr; replace H := H.grow hb1; clear hb1; refine hK.out _ _ trivial ?_; clear hK K; simp only [putS]
              refine ra [7, 17] ?_
              refine rc 7 rfl (fun K hK => ?_) ?_
              · as_aux_lemma => -- 7
               refine wp_callf rfl ent12 (KA.out _ _ (H.gr 22) H.below) rfl (fun v w1 hr => ?_); obtain ⟨rfl, hb1⟩ := hr; replace H := H.grow hb1; clear hb1; refine hK.out _ _ trivial ?_; clear hK K; simp only [putS]
               refine ra [12, 17] ?_
               refine rc 12 rfl (fun K hK => ?_) ?_
               · as_aux_lemma => -- 12
                refine wp_callf rfl ent12 (KB.out _ _ (H.gr 22) H.below) rfl (fun v w1 hr => ?_); obtain ⟨rfl, hb1⟩ := hr; replace H := H.grow hb1; clear hb1; refine hK.out _ _ trivial ?_; clear hK K; simp only [putS]
                refine rt 13 rfl (Yld.of rfl (fun W _ => by go_simp; first | done | with_reducible rfl)) trivial ?_; simp only [putS]
                refine rg_one (i := 17) (by kernel_rfl) rfl rfl (fun K hK => ?_)
                refine Stp.wp (Stp.bsl (e := 22) (cs := #[.slice pc k cc']) 61 rfl rfl (fun W => by kernel_rfl) H ?_); clear H; intro g61 w1 H; refine hK.out _ _ trivial ?_; clear hK K; simp only [putS]
                refine rg_one (i := 18) (by kernel_rfl) rfl rfl (fun K hK => ?_)
                refine wp_callf rfl ent12 (KC.out _ _ (H.gr 22) H.below) rfl (fun v w1 hr => ?_); obtain ⟨rfl, hb1⟩ := hr; replace H := H.grow hb1; clear hb1; refine hK.out _ _ trivial ?_; clear hK K; simp only [putS]
                refine rt 19 rfl (Yld.of rfl (fun W _ => by go_simp; first | done | with_reducible rfl)) trivial ?_; simp only [putS]
                refine rt 20 rfl (Yld.of rfl (fun W _ => by go_simp; first | done | with_reducible rfl)) trivial ?_; simp only [putS]
                refine rt 21 rfl (Yld.move rfl rfl) trivial ?_; simp only [putE]
                refine rg_one (i := 22) (by kernel_rfl) rfl rfl (fun K hK => ?_)
                refine wp_callf rfl ent8 (awake_ok _) rfl (fun v w1 hr => ?_); obtain ⟨rfl, hb1⟩ := hr; replace H := H.grow hb1; clear hb1; refine hK.out _ _ trivial ?_; clear hK K; simp only [putS]
                refine rt 23 rfl (Yld.pick rfl rfl rfl) trivial ?_; simp only [putE]
                refine rt 24 rfl (Yld.assign rfl rfl) trivial ?_; simp only [putE]
                refine rg_done (by kernel_rfl) ?_
                exact ⟨rfl, rfl, rfl, H.below⟩
               refine rc 17 rfl (fun K hK => ?_) ?_
               · as_aux_lemma => -- 17
                refine Stp.wp (Stp.bsl (e := 22) (cs := #[.slice pc k cc']) 61 rfl rfl (fun W => by kernel_rfl) H ?_); clear H; intro g61 w1 H; refine hK.out _ _ trivial ?_; clear hK K; simp only [putS]
                refine rg_one (i := 12) (by kernel_rfl) rfl rfl (fun K hK => ?_)
                refine wp_callf rfl ent12 (KB.out _ _ (H.gr 22) H.below) rfl (fun v w1 hr => ?_); obtain ⟨rfl, hb1⟩ := hr; replace H := H.grow hb1; clear hb1; refine hK.out _ _ trivial ?_; clear hK K; simp only [putS]
                refine rt 13 rfl (Yld.of rfl (fun W _ => by go_simp; first | done | with_reducible rfl)) trivial ?_; simp only [putS]
                refine rg_one (i := 18) (by kernel_rfl) rfl rfl (fun K hK => ?_)
                refine wp_callf rfl ent12 (KC.out _ _ (H.gr 22) H.below) rfl (fun v w1 hr => ?_); obtain ⟨rfl, hb1⟩ := hr; replace H := H.grow hb1; clear hb1; refine hK.out _ _ trivial ?_; clear hK K; simp only [putS]
                refine rt 19 rfl (Yld.of rfl (fun W _ => by go_simp; first | done | with_reducible rfl)) trivial ?_; simp only [putS]
                refine rt 20 rfl (Yld.of rfl (fun W _ => by go_simp; first | done | with_reducible rfl)) trivial ?_; simp only [putS]
                refine rt 21 rfl (Yld.move rfl rfl) trivial ?_; simp only [putE]
                refine rg_one (i := 22) (by kernel_rfl) rfl rfl (fun K hK => ?_)
                refine wp_callf rfl ent8 (awake_ok _) rfl (fun v w1 hr => ?_); obtain ⟨rfl, hb1⟩ := hr; replace H := H.grow hb1; clear hb1; refine hK.out _ _ trivial ?_; clear hK K; simp only [putS]
                refine rt 23 rfl (Yld.pick rfl rfl rfl) trivial ?_; simp only [putE]
                refine rt 24 rfl (Yld.assign rfl rfl) trivial ?_; simp only [putE]
                refine rg_done (by kernel_rfl) ?_
                exact ⟨rfl, rfl, rfl, H.below⟩
               exact AllReadyH.nil
              refine rc 17 rfl (fun K hK => ?_) ?_
              · as_aux_lemma => -- 17
               refine Stp.wp (Stp.bsl (e := 22) (cs := #[.slice pc k cc']) 61 rfl rfl (fun W => by kernel_rfl) H ?_); clear H; intro g61 w1 H; refine hK.out _ _ trivial ?_; clear hK K; simp only [putS]
               refine rg_one (i := 7) (by kernel_rfl) rfl rfl (fun K hK => ?_)
               refine wp_callf rfl ent12 (KA.out _ _ (H.gr 22) H.below) rfl (fun v w1 hr => ?_); obtain ⟨rfl, hb1⟩ := hr; replace H := H.grow hb1; clear hb1; refine hK.out _ _ trivial ?_; clear hK K; simp only [putS]
               refine rg_one (i := 12) (by kernel_rfl) rfl rfl (fun K hK => ?_)
               refine wp_callf rfl ent12 (KB.out _ _ (H.gr 22) H.below) rfl (fun v w1 hr => ?_); obtain ⟨rfl, hb1⟩ := hr; replace H := H.grow hb1; clear hb1; refine hK.out _ _ trivial ?_; clear hK K; simp only [putS]
               refine rt 13 rfl (Yld.of rfl (fun W _ => by go_simp; first | done | with_reducible rfl)) trivial ?_; simp only [putS]
               refine rg_one (i := 18) (by kernel_rfl) rfl rfl (fun K hK => ?_)
               refine wp_callf rfl ent12 (KC.out _ _ (H.gr 22) H.below) rfl (fun v w1 hr => ?_); obtain ⟨rfl, hb1⟩ := hr; replace H := H.grow hb1; clear hb1; refine hK.out _ _ trivial ?_; clear hK K; simp only [putS]
               refine rt 19 rfl (Yld.of rfl (fun W _ => by go_simp; first | done | with_reducible rfl)) trivial ?_; simp only [putS]
               refine rt 20 rfl (Yld.of rfl (fun W _ => by go_simp; first | done | with_reducible rfl)) trivial ?_; simp only [putS]
               refine rt 21 rfl (Yld.move rfl rfl) trivial ?_; simp only [putE]
               refine rg_one (i := 22) (by kernel_rfl) rfl rfl (fun K hK => ?_)
               refine wp_callf rfl ent8 (awake_ok _) rfl (fun v w1 hr => ?_); obtain ⟨rfl, hb1⟩ := hr; replace H := H.grow hb1; clear hb1; refine hK.out _ _ trivial ?_; clear hK K; simp only [putS]
               refine rt 23 rfl (Yld.pick rfl rfl rfl) trivial ?_; simp only [putE]
               refine rt 24 rfl (Yld.assign rfl rfl) trivial ?_; simp only [putE]
               refine rg_done (by kernel_rfl) ?_
               exact ⟨rfl, rfl, rfl, H.below⟩
              exact AllReadyH.nil
             refine rc 17 rfl (fun K hK => ?_) ?_
             · as_aux_lemma => -- 17
              refine Stp.wp (Stp.bsl (e := 22) (cs := #[.slice pc k cc']) 61 rfl rfl (fun W => by kernel_rfl) H ?_); clear H; intro g61 w1 H; refine hK.out _ _ trivial ?_; clear hK K; simp only [putS]
              refine rg_one (i := 2) (by kernel_rfl) rfl rfl (fun K hK => ?_)
              refine wp_callf rfl ent12 (KD.out _ _ (H.gr 22) (H.gr 5)) rfl (fun v w1 hr => ?_); obtain ⟨rfl, hb1⟩ := hr; replace H := H.grow hb1; clear hb1; refine hK.out _ _ trivial ?_; clear hK K; simp only [putS]
              refine rg_one (i := 7) (by kernel_rfl) rfl rfl (fun K hK => ?_)
              refine wp_callf rfl ent12 (KA.out _ _ (H.gr 22) H.below) rfl (fun v w1 hr => ?_); obtain ⟨rfl, hb1⟩ := hr; replace H := H.grow hb1; clear hb1; refine hK.out _ _ trivial ?_; clear hK K; simp only [putS]
              refine rg_one (i := 12) (by kernel_rfl) rfl rfl (fun K hK => ?_)
              refine wp_callf rfl ent12 (KB.out _ _ (H.gr 22) H.below) rfl (fun v w1 hr => ?_); obtain ⟨rfl, hb1⟩ := hr; replace H := H.grow hb1; clear hb1; refine hK.out _ _ trivial ?_; clear hK K; simp only [putS]
              refine rt 13 rfl (Yld.of rfl (fun W _ => by go_simp; first | done | with_reducible rfl)) trivial ?_; simp only [putS]
              refine rg_one (i := 18) (by kernel_rfl) rfl rfl (fun K hK => ?_)
              refine wp_callf rfl ent12 (KC.out _ _ (H.gr 22) H.below) rfl (fun v w1 hr => ?_); obtain ⟨rfl, hb1⟩ := hr; replace H := H.grow hb1; clear hb1; refine hK.out _ _ trivial ?_; clear hK K; simp only [putS]
              refine rt 19 rfl (Yld.of rfl (fun W _ => by go_simp; first | done | with_reducible rfl)) trivial ?_; simp only [putS]
              refine rt 20 rfl (Yld.of rfl (fun W _ => by go_simp; first | done | with_reducible rfl)) trivial ?_; simp only [putS]
              refine rt 21 rfl (Yld.move rfl rfl) trivial ?_; simp only [putE]
              refine rg_one (i := 22) (by kernel_rfl) rfl rfl (fun K hK => ?_)
              refine wp_callf rfl ent8 (awake_ok _) rfl (fun v w1 hr => ?_); obtain ⟨rfl, hb1⟩ := hr; replace H := H.grow hb1; clear hb1; refine hK.out _ _ trivial ?_; clear hK K; simp only [putS]
              refine rt 23 rfl (Yld.pick rfl rfl rfl) trivial ?_; simp only [putE]
              refine rt 24 rfl (Yld.assign rfl rfl) trivial ?_; simp only [putE]
              refine rg_done (by kernel_rfl) ?_
              exact ⟨rfl, rfl, rfl, H.below⟩
             exact AllReadyH.nil
            refine rc 17 rfl (fun K hK => ?_) ?_
            · as_aux_lemma => -- 17
             refine Stp.wp (Stp.bsl (e := 22) (cs := #[.slice pc k cc']) 61 rfl rfl (fun W => by kernel_rfl) H ?_); clear H; intro g61 w1 H; refine hK.out _ _ trivial ?_; clear hK K; simp only [putS]
             refine rg_one (i := 1) (by kernel_rfl) rfl rfl (fun K hK => ?_)
             refine Stp.wp (Stp.bsl (e := 22) (cs := #[.slice (some ⟨g21, 0, none⟩) k k]) 45 rfl rfl (fun W => by kernel_rfl) H ?_); clear H; intro g45 w1 H; refine hK.out _ _ trivial ?_; clear hK K; simp only [putS]
             refine rg_one (i := 2) (by kernel_rfl) rfl rfl (fun K hK => ?_)
             refine wp_callf rfl ent12 (KD.out _ _ (H.gr 22) (H.gr 5)) rfl (fun v w1 hr => ?_); obtain ⟨rfl, hb1⟩ := hr; replace H := H.grow hb1; clear hb1; refine hK.out _ _ trivial ?_; clear hK K; simp only [putS]
             refine rg_one (i := 7) (by kernel_rfl) rfl rfl (fun K hK => ?_)
             refine wp_callf rfl ent12 (KA.out _ _ (H.gr 22) H.below) rfl (fun v w1 hr => ?_); obtain ⟨rfl, hb1⟩ := hr; replace H := H.grow hb1; clear hb1; refine hK.out _ _ trivial ?_; clear hK K; simp only [putS]
             refine rg_one (i := 12) (by kernel_rfl) rfl rfl (fun K hK => ?_)
             refine wp_callf rfl ent12 (KB.out _ _ (H.gr 22) H.below) rfl (fun v w1 hr => ?_); obtain ⟨rfl, hb1⟩ := hr; replace H := H.grow hb1; clear hb1; refine hK.out _ _ trivial ?_; clear hK K; simp only [putS]
             refine rt 13 rfl (Yld.of rfl (fun W _ => by go_simp; first | done | with_reducible rfl)) trivial ?_; simp only [putS]
             refine rg_one (i := 18) (by kernel_rfl) rfl rfl (fun K hK => ?_)
             refine wp_callf rfl ent12 (KC.out _ _ (H.gr 22) H.below) rfl (fun v w1 hr => ?_); obtain ⟨rfl, hb1⟩ := hr; replace H := H.grow hb1; clear hb1; refine hK.out _ _ trivial ?_; clear hK K; simp only [putS]
             refine rt 19 rfl (Yld.of rfl (fun W _ => by go_simp; first | done | with_reducible rfl)) trivial ?_; simp only [putS]
             refine rt 20 rfl (Yld.of rfl (fun W _ => by go_simp; first | done | with_reducible rfl)) trivial ?_; simp only [putS]
             refine rt 21 rfl (Yld.move rfl rfl) trivial ?_; simp only [putE]
             refine rg_one (i := 22) (by kernel_rfl) rfl rfl (fun K hK => ?_)
             refine wp_callf rfl ent8 (awake_ok _) rfl (fun v w1 hr => ?_); obtain ⟨rfl, hb1⟩ := hr; replace H := H.grow hb1; clear hb1; refine hK.out _ _ trivial ?_; clear hK K; simp only [putS]
             refine rt 23 rfl (Yld.pick rfl rfl rfl) trivial ?_; simp only [putE]
             refine rt 24 rfl (Yld.assign rfl rfl) trivial ?_; simp only [putE]
             refine rg_done (by kernel_rfl) ?_
             exact ⟨rfl, rfl, rfl, H.below⟩
            exact AllReadyH.nil
           refine rc 17 rfl (fun K hK => ?_) ?_
           · as_aux_lemma => -- 17
            refine Stp.wp (Stp.bsl (e := 22) (cs := #[.slice pc k cc']) 61 rfl rfl (fun W => by kernel_rfl) H ?_); clear H; intro g61 w1 H; refine hK.out _ _ trivial ?_; clear hK K; simp only [putS]
            refine ra [1, 11] ?_
            refine rc 1 rfl (fun K hK => ?_) ?_
            · as_aux_lemma => -- 1
             refine Stp.wp (Stp.bsl (e := 22) (cs := #[.slice (some ⟨g21, 0, none⟩) k k]) 45 rfl rfl (fun W => by kernel_rfl) H ?_); clear H; intro g45 w1 H; refine hK.out _ _ trivial ?_; clear hK K; simp only [putS]
             refine ra [2, 11] ?_
             refine rc 2 rfl (fun K hK => ?_) ?_
             · as_aux_lemma => -- 2
              refine wp_callf rfl ent12 (KD.out _ _ (H.gr 22) (H.gr 5)) rfl (fun v w1 hr => ?_); obtain ⟨rfl, hb1⟩ := hr; replace H := H.grow hb1; clear hb1; refine hK.out _ _ trivial ?_; clear hK K; simp only [putS]
              refine ra [7, 11] ?_
              refine rc 7 rfl (fun K hK => ?_) ?_
              · as_aux_lemma => -- 7
               refine wp_callf rfl ent12 (KA.out _ _ (H.gr 22) H.below) rfl (fun v w1 hr => ?_); obtain ⟨rfl, hb1⟩ := hr; replace H := H.grow hb1; clear hb1; refine hK.out _ _ trivial ?_; clear hK K; simp only [putS]
               refine rg_one (i := 11) (by kernel_rfl) rfl rfl (fun K hK => ?_)
               refine Stp.wp (Stp.bsl (e := 22) (cs := #[.slice pb k cb']) 55 rfl rfl (fun W => by kernel_rfl) H ?_); clear H; intro g55 w1 H; refine hK.out _ _ trivial ?_; clear hK K; simp only [putS]
               refine rg_one (i := 12) (by kernel_rfl) rfl rfl (fun K hK => ?_)
               refine wp_callf rfl ent12 (KB.out _ _ (H.gr 22) H.below) rfl (fun v w1 hr => ?_); obtain ⟨rfl, hb1⟩ := hr; replace H := H.grow hb1; clear hb1; refine hK.out _ _ trivial ?_; clear hK K; simp only [putS]
               refine rt 13 rfl (Yld.of rfl (fun W _ => by go_simp; first | done | with_reducible rfl)) trivial ?_; simp only [putS]
               refine rg_one (i := 18) (by kernel_rfl) rfl rfl (fun K hK => ?_)
               refine wp_callf rfl ent12 (KC.out _ _ (H.gr 22) H.below) rfl (fun v w1 hr => ?_); obtain ⟨rfl, hb1⟩ := hr; replace H := H.grow hb1; clear hb1; refine hK.out _ _ trivial ?_; clear hK K; simp only [putS]
               refine rt 19 rfl (Yld.of rfl (fun W _ => by go_simp; first | done | with_reducible rfl)) trivial ?_; simp only [putS]
               refine rt 20 rfl (Yld.of rfl (fun W _ => by go_simp; first | done | with_reducible rfl)) trivial ?_; simp only [putS]
               refine rt 21 rfl (Yld.move rfl rfl) trivial ?_; simp only [putE]
               refine rg_one (i := 22) (by kernel_rfl) rfl rfl (fun K hK => ?_)
               refine wp_callf rfl ent8 (awake_ok _) rfl (fun v w1 hr => ?_); obtain ⟨rfl, hb1⟩ := hr; replace H := H.grow hb1; clear hb1; refine hK.out _ _ trivial ?_; clear hK K; simp only [putS]
               refine rt 23 rfl (Yld.pick rfl rfl rfl) trivial ?_; simp only [putE]
               refine rt 24 rfl (Yld.assign rfl rfl) trivial ?_; simp only [putE]
               refine rg_done (by kernel_rfl) ?_
               exact ⟨rfl, rfl, rfl, H.below⟩
              refine rc 11 rfl (fun K hK => ?_) ?_
              · as_aux_lemma => -- 11
               refine Stp.wp (Stp.bsl (e := 22) (cs := #[.slice pb k cb']) 55 rfl rfl (fun W => by kernel_rfl) H ?_); clear H; intro g55 w1 H; refine hK.out _ _ trivial ?_; clear hK K; simp only [putS]
               refine rg_one (i := 7) (by kernel_rfl) rfl rfl (fun K hK => ?_)
               refine wp_callf rfl ent12 (KA.out _ _ (H.gr 22) H.below) rfl (fun v w1 hr => ?_); obtain ⟨rfl, hb1⟩ := hr; replace H := H.grow hb1; clear hb1; refine hK.out _ _ trivial ?_; clear hK K; simp only [putS]
               refine rg_one (i := 12) (by kernel_rfl) rfl rfl (fun K hK => ?_)
               refine wp_callf rfl ent12 (KB.out _ _ (H.gr 22) H.below) rfl (fun v w1 hr => ?_); obtain ⟨rfl, hb1⟩ := hr; replace H := H.grow hb1; clear hb1; refine hK.out _ _ trivial ?_; clear hK K; simp only [putS]
               refine rt 13 rfl (Yld.of rfl (fun W _ => by go_simp; first | done | with_reducible rfl)) trivial ?_; simp only [putS]
               refine rg_one (i := 18) (by kernel_rfl) rfl rfl (fun K hK => ?_)
               refine wp_callf rfl ent12 (KC.out _ _ (H.gr 22) H.below) rfl (fun v w1 hr => ?_); obtain ⟨rfl, hb1⟩ := hr; replace H := H.grow hb1; clear hb1; refine hK.out _ _ trivial ?_; clear hK K; simp only [putS]
               refine rt 19 rfl (Yld.of rfl (fun W _ => by go_simp; first | done | with_reducible rfl)) trivial ?_; simp only [putS]
               refine rt 20 rfl (Yld.of rfl (fun W _ => by go_simp; first | done | with_reducible rfl)) trivial ?_; simp only [putS]
               refine rt 21 rfl (Yld.move rfl rfl) trivial ?_; simp only [putE]
               refine rg_one (i := 22) (by kernel_rfl) rfl rfl (fun K hK => ?_)
               refine wp_callf rfl ent8 (awake_ok _) rfl (fun v w1 hr => ?_); obtain ⟨rfl, hb1⟩ := hr; replace H := H.grow hb1; clear hb1; refine hK.out _ _ trivial ?_; clear hK K; simp only [putS]
               refine rt 23 rfl (Yld.pick rfl rfl rfl) trivial ?_; simp only [putE]
               refine rt 24 rfl (Yld.assign rfl rfl) trivial ?_; simp only [putE]
               refine rg_done (by kernel_rfl) ?_
               exact ⟨rfl, rfl, rfl, H.below⟩
              exact AllReadyH.nil
             refine rc 11 rfl (fun K hK => ?_) ?_
             · as_aux_lemma => -- 11
              refine Stp.wp (Stp.bsl (e := 22) (cs := #[.slice pb k cb']) 55 rfl rfl (fun W => by kernel_rfl) H ?_); clear H; intro g55 w1 H; refine hK.out _ _ trivial ?_; clear hK K; simp only [putS]
              refine rg_one (i := 2) (by kernel_rfl) rfl rfl (fun K hK => ?_)
              refine wp_callf rfl ent12 (KD.out _ _ (H.gr 22) (H.gr 5)) rfl (fun v w1 hr => ?_); obtain ⟨rfl, hb1⟩ := hr; replace H := H.grow hb1; clear hb1; refine hK.out _ _ trivial ?_; clear hK K; simp only [putS]
              refine rg_one (i := 7) (by kernel_rfl) rfl rfl (fun K hK => ?_)
              refine wp_callf rfl ent12 (KA.out _ _ (H.gr 22) H.below) rfl (fun v w1 hr => ?_); obtain ⟨rfl, hb1⟩ := hr; replace H := H.grow hb1; clear hb1; refine hK.out _ _ trivial ?_; clear hK K; simp only [putS]
              refine rg_one (i := 12) (by kernel_rfl) rfl rfl (fun K hK => ?_)
              refine wp_callf rfl ent12 (KB.out _ _ (H.gr 22) H.below) rfl (fun v w1 hr => ?_); obtain ⟨rfl, hb1⟩ := hr; replace H := H.grow hb1; clear hb1; refine hK.out _ _ trivial ?_; clear hK K; simp only [putS]
              refine rt 13 rfl (Yld.of rfl (fun W _ => by go_simp; first | done | with_reducible rfl)) trivial ?_; simp only [putS]
              refine rg_one (i := 18) (by kernel_rfl) rfl rfl (fun K hK => ?_)
              refine wp_callf rfl ent12 (KC.out _ _ (H.gr 22) H.below) rfl (fun v w1 hr => ?_); obtain ⟨rfl, hb1⟩ := hr; replace H := H.grow hb1; clear hb1; refine hK.out _ _ trivial ?_; clear hK K; simp only [putS]
              refine rt 19 rfl (Yld.of rfl (fun W _ => by go_simp; first | done | with_reducible rfl)) trivial ?_; simp only [putS]
              refine rt 20 rfl (Yld.of rfl (fun W _ => by go_simp; first | done | with_reducible rfl)) trivial ?_; simp only [putS]
              refine rt 21 rfl (Yld.move rfl rfl) trivial ?_; simp only [putE]
              refine rg_one (i := 22) (by kernel_rfl) rfl rfl (fun K hK => ?_)
              refine wp_callf rfl ent8 (awake_ok _) rfl (fun v w1 hr => ?_); obtain ⟨rfl, hb1⟩ := hr; replace H := H.grow hb1; clear hb1; refine hK.out _ _ trivial ?_; clear hK K; simp only [putS]
              refine rt 23 rfl (Yld.pick rfl rfl rfl) trivial ?_; simp only [putE]
              refine rt 24 rfl (Yld.assign rfl rfl) trivial ?_; simp only [putE]
              refine rg_done (by kernel_rfl) ?_
              exact ⟨rfl, rfl, rfl, H.below⟩
             exact AllReadyH.nil
            refine rc 11 rfl (fun K hK => ?_) ?_
            · as_aux_lemma => -- 11
             refine Stp.wp (Stp.bsl (e := 22) (cs := #[.slice pb k cb']) 55 rfl rfl (fun W => by kernel_rfl) H ?_); clear H; intro g55 w1 H; refine hK.out _ _ trivial ?_; clear hK K; simp only [putS]
             refine rg_one (i := 1) (by kernel_rfl) rfl rfl (fun K hK => ?_)
             refine Stp.wp (Stp.bsl (e := 22) (cs := #[.slice (some ⟨g21, 0, none⟩) k k]) 45 rfl rfl (fun W => by kernel_rfl) H ?_); clear H; intro g45 w1 H; refine hK.out _ _ trivial ?_; clear hK K; simp only [putS]
             refine rg_one (i := 2) (by kernel_rfl) rfl rfl (fun K hK => ?_)
             refine wp_callf rfl ent12 (KD.out _ _ (H.gr 22) (H.gr 5)) rfl (fun v w1 hr => ?_); obtain ⟨rfl, hb1⟩ := hr; replace H := H.grow hb1; clear hb1; refine hK.out _ _ trivial ?_; clear hK K; simp only [putS]
             refine rg_one (i := 7) (by kernel_rfl) rfl rfl (fun K hK => ?_)
             refine wp_callf rfl ent12 (KA.out _ _ (H.gr 22) H.below) rfl (fun v w1 hr => ?_); obtain ⟨rfl, hb1⟩ := hr; replace H := H.grow hb1; clear hb1; refine hK.out _ _ trivial ?_; clear hK K; simp only [putS]
             refine rg_one (i := 12) (by kernel_rfl) rfl rfl (fun K hK => ?_)
             refine wp_callf rfl ent12 (KB.out _ _ (H.gr 22) H.below) rfl (fun v w1 hr => ?_); obtain ⟨rfl, hb1⟩ := hr; replace H := H.grow hb1; clear hb1; refine hK.out _ _ trivial ?_; clear hK K; simp only [putS]
             refine rt 13 rfl (Yld.of rfl (fun W _ => by go_simp; first | done | with_reducible rfl)) trivial ?_; simp only [putS]
             refine rg_one (i := 18) (by kernel_rfl) rfl rfl (fun K hK => ?_)
             refine wp_callf rfl ent12 (KC.out _ _ (H.gr 22) H.below) rfl (fun v w1 hr => ?_); obtain ⟨rfl, hb1⟩ := hr; replace H := H.grow hb1; clear hb1; refine hK.out _ _ trivial ?_; clear hK K; simp only [putS]
             refine rt 19 rfl (Yld.of rfl (fun W _ => by go_simp; first | done | with_reducible rfl)) trivial ?_; simp only [putS]
             refine rt 20 rfl (Yld.of rfl (fun W _ => by go_simp; first | done | with_reducible rfl)) trivial ?_; simp only [putS]
             refine rt 21 rfl (Yld.move rfl rfl) trivial ?_; simp only [putE]
             refine rg_one (i := 22) (by kernel_rfl) rfl rfl (fun K hK => ?_)
             refine wp_callf rfl ent8 (awake_ok _) rfl (fun v w1 hr => ?_); obtain ⟨rfl, hb1⟩ := hr; replace H := H.grow hb1; clear hb1; refine hK.out _ _ trivial ?_; clear hK K; simp only [putS]
             refine rt 23 rfl (Yld.pick rfl rfl rfl) trivial ?_; simp only [putE]
             refine rt 24 rfl (Yld.assign rfl rfl) trivial ?_; simp only [putE]
             refine rg_done (by kernel_rfl) ?_
             exact ⟨rfl, rfl, rfl, H.below⟩
            exact AllReadyH.nil
           exact AllReadyH.nil
          refine rc 11 rfl (fun K hK => ?_) ?_
          · as_aux_lemma => -- 11
           refine Stp.wp (Stp.bsl (e := 22) (cs := #[.slice pb k cb']) 55 rfl rfl (fun W => by kernel_rfl) H ?_); clear H; intro g55 w1 H; refine hK.out _ _ trivial ?_; clear hK K; simp only [putS]
           refine ra [1, 6, 17] ?_
           refine rc 1 rfl (fun K hK => ?_) ?_
           · as_aux_lemma => -- 1
            refine Stp.wp (Stp.bsl (e := 22) (cs := #[.slice (some ⟨g21, 0, none⟩) k k]) 45 rfl rfl (fun W => by kernel_rfl) H ?_); clear H; intro g45 w1 H; refine hK.out _ _ trivial ?_; clear hK K; simp only [putS]
            refine ra [2, 6, 17] ?_
            refine rc 2 rfl (fun K hK => ?_) ?_
            · as_aux_lemma => -- 2
             refine wp_callf rfl ent12 (KD.out _ _ (H.gr 22) (H.gr 5)) rfl (fun v w1 hr => ?_); obtain ⟨rfl, hb1⟩ := hr; replace H := H.grow hb1; clear hb1; refine hK.out _ _ trivial ?_; clear hK K; simp only [putS]
             refine ra [6, 17] ?_
             refine rc 6 rfl (fun K hK => ?_) ?_
             · as_aux_lemma => -- 6
              refine Stp.wp (Stp.bsl (e := 22) (cs := #[.slice pa k ca]) 50 rfl rfl (fun W => by kernel_rfl) H ?_); clear H; intro g50 w1 H; refine hK.out _ _ trivial ?_; clear hK K; simp only [putS]
              refine ra [7, 17] ?_
              refine rc 7 rfl (fun K hK => ?_) ?_
              · as_aux_lemma => -- 7
               refine wp_callf rfl ent12 (KA.out _ _ (H.gr 22) H.below) rfl (fun v w1 hr => ?_); obtain ⟨rfl, hb1⟩ := hr; replace H := H.grow hb1; clear hb1; refine hK.out _ _ trivial ?_; clear hK K; simp only [putS]
               refine ra [12, 17] ?_
               refine rc 12 rfl (fun K hK => ?_) ?_
               · as_aux_lemma => -- 12
                refine wp_callf rfl ent12 (KB.out _ _ (H.gr 22) H.below) rfl (fun v w1 hr => ?_); obtain ⟨rfl, hb1⟩ := hr; replace H := H.grow hb1; clear hb1; refine hK.out _ _ trivial ?_; clear hK K; simp only [putS]
                refine rt 13 rfl (Yld.of rfl (fun W _ => by go_simp; first | done | with_reducible rfl)) trivial ?_; simp only [putS]
                refine rg_one (i := 17) (by kernel_rfl) rfl rfl (fun K hK => ?_)
                refine Stp.wp (Stp.bsl (e := 22) (cs := #[.slice pc k cc']) 61 rfl rfl (fun W => by kernel_rfl) H ?_); clear H; intro g61 w1 H; refine hK.out _ _ trivial ?_; clear hK K; simp only [putS]
                refine rg_one (i := 18) (by kernel_rfl) rfl rfl (fun K hK => ?_)
                refine wp_callf rfl ent12 (KC.out _ _ (H.gr 22) H.below) rfl (fun v w1 hr => ?_); obtain ⟨rfl, hb1⟩ := hr; replace H := H.grow hb1; clear hb1; refine hK.out _ _ trivial ?_; clear hK K; simp only [putS]
                refine rt 19 rfl (Yld.of rfl (fun W _ => by go_simp; first | done | with_reducible rfl)) trivial ?_; simp only [putS]
                refine rt 20 rfl (Yld.of rfl (fun W _ => by go_simp; first | done | with_reducible rfl)) trivial ?_; simp only [putS]
                refine rt 21 rfl (Yld.move rfl rfl) trivial ?_; simp only [putE]
                refine rg_one (i := 22) (by kernel_rfl) rfl rfl (fun K hK => ?_)
                refine wp_callf rfl ent8 (awake_ok _) rfl (fun v w1 hr => ?_); obtain ⟨rfl, hb1⟩ := hr; replace H := H.grow hb1; clear hb1; refine hK.out _ _ trivial ?_; clear hK K; simp only [putS]
                refine rt 23 rfl (Yld.pick rfl rfl rfl) trivial ?_; simp only [putE]
                refine rt 24 rfl (Yld.assign rfl rfl) trivial ?_; simp only [putE]
                refine rg_done (by kernel_rfl) ?_
                exact ⟨rfl, rfl, rfl, H.below⟩
               refine rc 17 rfl (fun K hK => ?_) ?_
               · as_aux_lemma => -- 17
                refine Stp.wp (Stp.bsl (e := 22) (cs := #[.slice pc k cc']) 61 rfl rfl (fun W => by kernel_rfl) H ?_); clear H; intro g61 w1 H; refine hK.out _ _ trivial ?_; clear hK K; simp only [putS]
                refine rg_one (i := 12) (by kernel_rfl) rfl rfl (fun K hK => ?_)
                refine wp_callf rfl ent12 (KB.out _ _ (H.gr 22) H.below) rfl (fun v w1 hr => ?_); obtain ⟨rfl, hb1⟩ := hr; replace H := H.grow hb1; clear hb1; refine hK.out _ _ trivial ?_; clear hK K; simp only [putS]
                refine rt 13 rfl (Yld.of rfl (fun W _ => by go_simp; first | done | with_reducible rfl)) trivial ?_; simp only [putS]
                refine rg_one (i := 18) (by kernel_rfl) rfl rfl (fun K hK => ?_)
                refine wp_callf rfl ent12 (KC.out _ _ (H.gr 22) H.below) rfl (fun v w1 hr => ?_); obtain ⟨rfl, hb1⟩ := hr; replace H := H.grow hb1; clear hb1; refine hK.out _ _ trivial ?_; clear hK K; simp only [putS]
                refine rt 19 rfl (Yld.of rfl (fun W _ => by go_simp; first | done | with_reducible rfl)) trivial ?_; simp only [putS]
                refine rt 20 rfl (Yld.of rfl (fun W _ => by go_simp; first | done | with_reducible rfl)) trivial ?_; simp only [putS]
                refine rt 21 rfl (Yld.move rfl rfl) trivial ?_; simp only [putE]
                refine rg_one (i := 22) (by kernel_rfl) rfl rfl (fun K hK => ?_)
                refine wp_callf rfl ent8 (awake_ok _) rfl (fun v w1 hr => ?_); obtain ⟨rfl, hb1⟩ := hr; replace H := H.grow hb1; clear hb1; refine hK.out _ _ trivial ?_; clear hK K; simp only [putS]
                refine rt 23 rfl (Yld.pick rfl rfl rfl) trivial ?_; simp only [putE]
                refine rt 24 rfl (Yld.assign rfl rfl) trivial ?_; simp only [putE]
                refine rg_done (by kernel_rfl) ?_
                exact ⟨rfl, rfl, rfl, H.below⟩
               exact AllReadyH.nil
              refine rc 17 rfl (fun K hK => ?_) ?_
              · as_aux_lemma => -- 17
               refine Stp.wp (Stp.bsl (e := 22) (cs := #[.slice pc k cc']) 61 rfl rfl (fun W => by kernel_rfl) H ?_); clear H; intro g61 w1 H; refine hK.out _ _ trivial ?_; clear hK K; simp only [putS]
               refine rg_one (i := 7) (by kernel_rfl) rfl rfl (fun K hK => ?_)
               refine wp_callf rfl ent12 (KA.out _ _ (H.gr 22) H.below) rfl (fun v w1 hr => ?_); obtain ⟨rfl, hb1⟩ := hr; replace H := H.grow hb1; clear hb1; refine hK.out _ _ trivial ?_; clear hK K; simp only [putS]
               refine rg_one (i := 12) (by kernel_rfl) rfl rfl (fun K hK => ?_)
               refine wp_callf rfl ent12 (KB.out _ _ (H.gr 22) H.below) rfl (fun v w1 hr => ?_); obtain ⟨rfl, hb1⟩ := hr; replace H := H.grow hb1; clear hb1; refine hK.out _ _ trivial ?_; clear hK K; simp only [putS]
               refine rt 13 rfl (Yld.of rfl (fun W _ => by go_simp; first | done | with_reducible rfl)) trivial ?_; simp only [putS]
               refine rg_one (i := 18) (by kernel_rfl) rfl rfl (fun K hK => ?_)
               refine wp_callf rfl ent12 (KC.out _ _ (H.gr 22) H.below) rfl (fun v w1 hr => ?_); obtain ⟨rfl, hb1⟩ := hr; replace H := H.grow hb1; clear hb1; refine hK.out _ _ trivial ?_; clear hK K; simp only [putS]
               refine rt 19 rfl (Yld.of rfl (fun W _ => by go_simp; first | done | with_reducible rfl)) trivial ?_; simp only [putS]
               refine rt 20 rfl (Yld.of rfl (fun W _ => by go_simp; first | done | with_reducible rfl)) trivial ?_; simp only [putS]
               refine rt 21 rfl (Yld.move rfl rfl) trivial ?_; simp only [putE]
               refine rg_one (i := 22) (by kernel_rfl) rfl rfl (fun K hK => ?_)
               refine wp_callf rfl ent8 (awake_ok _) rfl (fun v w1 hr => ?_); obtain ⟨rfl, hb1⟩ := hr; replace H := H.grow hb1; clear hb1; refine hK.out _ _ trivial ?_; clear hK K; simp only [putS]
               refine rt 23 rfl (Yld.pick rfl rfl rfl) trivial ?_; simp only [putE]
               refine rt 24 rfl (Yld.assign rfl rfl) trivial ?_; simp only [putE]
               refine rg_done (by kernel_rfl) ?_
               exact ⟨rfl, rfl, rfl, H.below⟩
              exact AllReadyH.nil
             refine rc 17 rfl (fun K hK => ?_) ?_
             · as_aux_lemma => -- 17
              refine Stp.wp (Stp.bsl (e := 22) (cs := #[.slice pc k cc']) 61 rfl rfl (fun W => by kernel_rfl) H ?_); clear H; intro g61 w1 H; refine hK.out _ _ trivial ?_; clear hK K; simp only [putS]
              refine rg_one (i := 6) (by kernel_rfl) rfl rfl (fun K hK => ?_)
              refine Stp.wp (Stp.bsl (e := 22) (cs := #[.slice pa k ca]) 50 rfl rfl (fun W => by kernel_rfl) H ?_); clear H; intro g50 w1 H; refine hK.out _ _ trivial ?_; clear hK K; simp only [putS]
              refine rg_one (i := 7) (by kernel_rfl) rfl rfl (fun K hK => ?_)
              refine wp_callf rfl ent12 (KA.out _ _ (H.gr 22) H.below) rfl (fun v w1 hr => ?_); obtain ⟨rfl, hb1⟩ := hr; replace H := H.grow hb1; clear hb1; refine hK.out _ _ trivial ?_; clear hK K; simp only [putS]
              refine rg_one (i := 12) (by kernel_rfl) rfl rfl (fun K hK => ?_)
              refine wp_callf rfl ent12 (KB.out _ _ (H.gr 22) H.below) rfl (fun v w1 hr => ?_); obtain ⟨rfl, hb1⟩ := hr; replace H := H.grow hb1; clear hb1; refine hK.out _ _ trivial ?_; clear hK K; simp only [putS]
              refine rt 13 rfl (Yld.of rfl (fun W _ => by go_simp; first | done | with_reducible rfl)) trivial ?_; simp only [putS]
              refine rg_one (i := 18) (by kernel_rfl) rfl rfl (fun K hK => ?_)
              refine wp_callf rfl ent12 (KC.out _ _ (H.gr 22) H.below) rfl (fun v w1 hr => ?_); obtain ⟨rfl, hb1⟩ := hr; replace H := H.grow hb1; clear hb1; refine hK.out _ _ trivial ?_; clear hK K; simp only [putS]
              refine rt 19 rfl (Yld.of rfl (fun W _ => by go_simp; first | done | with_reducible rfl)) trivial ?_; simp only [putS]
              refine rt 20 rfl (Yld.of rfl (fun W _ => by go_simp; first | done | with_reducible rfl)) trivial ?_; simp only [putS]
              refine rt 21 rfl (Yld.move rfl rfl) trivial ?_; simp only [putE]
              refine rg_one (i := 22) (by kernel_rfl) rfl rfl (fun K hK => ?_)
              refine wp_callf rfl ent8 (awake_ok _) rfl (fun v w1 hr => ?_); obtain ⟨rfl, hb1⟩ := hr; replace H := H.grow hb1; clear hb1; refine hK.out _ _ trivial ?_; clear hK K; simp only [putS]
              refine rt 23 rfl (Yld.pick rfl rfl rfl) trivial ?_; simp only [putE]
              refine rt 24 rfl (Yld.assign rfl rfl) trivial ?_; simp only [putE]
              refine rg_done (by kernel_rfl) ?_
              exact ⟨rfl, rfl, rfl, H.below⟩
             exact AllReadyH.nil
            refine rc 6 rfl (fun K hK => ?_) ?_
            · as_aux_lemma => -- 6
             refine Stp.wp (Stp.bsl (e := 22) (cs := #[.slice pa k ca]) 50 rfl rfl (fun W => by kernel_rfl) H ?_); clear H; intro g50 w1 H; refine hK.out _ _ trivial ?_; clear hK K; simp only [putS]
             refine ra [2, 17] ?_
             refine rc 2 rfl (fun K hK => ?_) ?_
             · as_aux_lemma => -- 2
              refine wp_callf rfl ent12 (KD.out _ _ (H.gr 22) (H.gr 5)) rfl (fun v w1 hr => ?_); obtain ⟨rfl, hb1⟩ := hr; replace H := H.grow hb1; clear hb1; refine hK.out _ _ trivial ?_; clear hK K; simp only [putS]
              refine ra [7, 17] ?_
              refine rc 7 rfl (fun K hK => ?_) ?_
              · as_aux_lemma => -- 7
               refine wp_callf rfl ent12 (KA.out _ _ (H.gr 22) H.below) rfl (fun v w1 hr => ?_); obtain ⟨rfl, hb1⟩ := hr; replace H := H.grow hb1; clear hb1; refine hK.out _ _ trivial ?_; clear hK K; simp only [putS]
               refine ra [12, 17] ?_
               refine rc 12 rfl (fun K hK => ?_) ?_
               · as_aux_lemma => -- 12
                refine wp_callf rfl ent12 (KB.out _ _ (H.gr 22) H.below) rfl (fun v w1 hr => ?_); obtain ⟨rfl, hb1⟩ := hr; replace H := H.grow hb1; clear hb1; refine hK.out _ _ trivial ?_; clear hK K; simp only [putS]
                refine rt 13 rfl (Yld.of rfl (fun W _ => by go_simp; first | done | with_reducible rfl)) trivial ?_; simp only [putS]
                refine rg_one (i := 17) (by kernel_rfl) rfl rfl (fun K hK => ?_)
                refine Stp.wp (Stp.bsl (e := 22) (cs := #[.slice pc k cc']) 61 rfl rfl (fun W => by kernel_rfl) H ?_); clear H; intro g61 w1 H; refine hK.out _ _ trivial ?_; clear hK K; simp only [putS]
                refine rg_one (i := 18) (by kernel_rfl) rfl rfl (fun K hK => ?_)
                refine wp_callf rfl ent12 (KC.out _ _ (H.gr 22) H.below) rfl (fun v w1 hr => ?_); obtain ⟨rfl, hb1⟩ := hr; replace H := H.grow hb1; clear hb1; refine hK.out _ _ trivial ?_; clear hK K; simp only [putS]
                refine rt 19 rfl (Yld.of rfl (fun W _ => by go_simp; first | done | with_reducible rfl)) trivial ?_; simp only [putS]
                refine rt 20 rfl (Yld.of rfl (fun W _ => by go_simp; first | done | with_reducible rfl)) trivial ?_; simp only [putS]
                refine rt 21 rfl (Yld.move rfl rfl) trivial ?_; simp only [putE]
                refine rg_one (i := 22) (by kernel_rfl) rfl rfl (fun K hK => ?_)
                refine wp_callf rfl ent8 (awake_ok _) rfl (fun v w1 hr => ?_); obtain ⟨rfl, hb1⟩ := hr; replace H := H.grow hb1; clear hb1; refine hK.out _ _ trivial ?_; clear hK K; simp only [putS]
                refine rt 23 rfl (Yld.pick rfl rfl rfl) trivial ?_; simp only [putE]
                refine rt 24 rfl (Yld.assign rfl rfl) trivial ?_; simp only [putE]
                refine rg_done (by kernel_rfl) ?_
                exact ⟨rfl, rfl, rfl, H.below⟩
               refine rc 17 rfl (fun K hK => ?_) ?_
               · as_aux_lemma => -- 17
                refine Stp.wp (Stp.bsl (e := 22) (cs := #[.slice pc k cc']) 61 rfl rfl (fun W => by kernel_rfl) H ?_); clear H; intro g61 w1 H; refine hK.out _ _ trivial ?_; clear hK K; simp only [putS]
                refine rg_one (i := 12) (by kernel_rfl) rfl rfl (fun K hK => ?_)
                refine wp_callf rfl ent12 (KB.out _ _ (H.gr 22) H.below) rfl (fun v w1 hr => ?_); obtain ⟨rfl, hb1⟩ := hr; replace H := H.grow hb1; clear hb1; refine hK.out _ _ trivial ?_; clear hK K; simp only [putS]
                refine rt 13 rfl (Yld.of rfl (fun W _ => by go_simp; first | done | with_reducible rfl)) trivial ?_; simp only [putS]
                refine rg_one (i := 18) (by kernel_rfl) rfl rfl (fun K hK => ?_)
                refine wp_callf rfl ent12 (KC.out _ _ (H.gr 22) H.below) rfl (fun v w1 hr => ?_); obtain ⟨rfl, hb1⟩ := hr; replace H := H.grow hb1; clear hb1; refine hK.out _ _ trivial ?_; clear hK K; simp only [putS]
                refine rt 19 rfl (Yld.of rfl (fun W _ => by go_simp; first | done | with_reducible rfl)) trivial ?_; simp only [putS]
                refine rt 20 rfl (Yld.of rfl (fun W _ => by go_simp; first | done | with_reducible rfl)) trivial ?_; simp only [putS]
                refine rt 21 rfl (Yld.move rfl rfl) trivial ?_; simp only [putE]
                refine rg_one (i := 22) (by kernel_rfl) rfl rfl (fun K hK => ?_)
                refine wp_callf rfl ent8 (awake_ok _) rfl (fun v w1 hr => ?_); obtain ⟨rfl, hb1⟩ := hr; replace H := H.grow hb1; clear hb1; refine hK.out _ _ trivial ?_; clear hK K; simp only [putS]
                refine rt 23 rfl (Yld.pick rfl rfl rfl) trivial ?_; simp only [putE]
                refine rt 24 rfl (Yld.assign rfl rfl) trivial ?_; simp only [putE]
                refine rg_done (by kernel_rfl) ?_
                exact ⟨rfl, rfl, rfl, H.below⟩
               exact AllReadyH.nil
              refine rc 17 rfl (fun K hK => ?_) ?_
              · as_aux_lemma => -- 17
               refine Stp.wp (Stp.bsl (e := 22) (cs := #[.slice pc k cc']) 61 rfl rfl (fun W => by kernel_rfl) H ?_); clear H; intro g61 w1 H; refine hK.out _ _ trivial ?_; clear hK K; simp only [putS]
               refine rg_one (i := 7) (by kernel_rfl) rfl rfl (fun K hK => ?_)
               refine wp_callf rfl ent12 (KA.out _ _ (H.gr 22) H.below) rfl (fun v w1 hr => ?_); obtain ⟨rfl, hb1⟩ := hr; replace H := H.grow hb1; clear hb1; refine hK.out _ _ trivial ?_; clear hK K; simp only [putS]
               refine rg_one (i := 12) (by kernel_rfl) rfl rfl (fun K hK => ?_)
               refine wp_callf rfl ent12 (KB.out _ _ (H.gr 22) H.below) rfl (fun v w1 hr => ?_); obtain ⟨rfl, hb1⟩ := hr; replace H := H.grow hb1; clear hb1; refine hK.out _ _ trivial ?_; clear hK K; simp only [putS]
               refine rt 13 rfl (Yld.of rfl (fun W _ => by go_simp; first | done | with_reducible rfl)) trivial ?_; simp only [putS]
               refine rg_one (i := 18) (by kernel_rfl) rfl rfl (fun K hK => ?_)
               refine wp_callf rfl ent12 (KC.out _ _ (H.gr 22) H.below) rfl (fun v w1 hr => ?_); obtain ⟨rfl, hb1⟩ := hr; replace H := H.grow hb1; clear hb1; refine hK.out _ _ trivial ?_; clear hK K; simp only [putS]
               refine rt 19 rfl (Yld.of rfl (fun W _ => by go_simp; first | done | with_reducible rfl)) trivial ?_; simp only [putS]
               refine rt 20 rfl (Yld.of rfl (fun W _ => by go_simp; first | done | with_reducible rfl)) trivial ?_; simp only [putS]
               refine rt 21 rfl (Yld.move rfl rfl) trivial ?_; simp only [putE]
               refine rg_one (i := 22) (by kernel_rfl) rfl rfl (fun K hK => ?_)
               refine wp_callf rfl ent8 (awake_ok _) rfl (fun v w1 hr => ?_); obtain ⟨rfl, hb1⟩ := hr; replace H := H.grow hb1; clear hb1; refine hK.out _ _ trivial ?_; clear hK K; simp only [putS]
               refine rt 23 rfl (Yld.pick rfl rfl rfl) trivial ?_; simp only [putE]
               refine rt 24 rfl (Yld.assign rfl rfl) trivial ?_; simp only [putE]
               refine rg_done (by kernel_rfl) ?_
               exact ⟨rfl, rfl, rfl, H.below⟩
              exact AllReadyH.nil
             refine rc 17 rfl (fun K hK => ?_) ?_
             · as_aux_lemma => -- 17
              refine Stp.wp (Stp.bsl (e := 22) (cs := #[.slice pc k cc']) 61 rfl rfl (fun W => by kernel_rfl) H ?_); clear H; intro g61 w1 H; refine hK.out _ _ trivial ?_; clear hK K; simp only [putS]
              refine rg_one (i := 2) (by kernel_rfl) rfl rfl (fun K hK => ?_)
              refine wp_callf rfl ent12 (KD.out _ _ (H.gr 22) (H.gr 5)) rfl (fun v w1 hr => ?_); obtain ⟨rfl, hb1⟩ := hr; replace H := H.grow hb1; clear hb1; refine hK.out _ _ trivial ?_; clear hK K; simp only [putS]
              refine rg_one (i := 7) (by kernel_rfl) rfl rfl (fun K hK => ?_)
              refine wp_callf rfl ent12 (KA.out _ _ (H.gr 22) H.below) rfl (fun v w1 hr => ?_); obtain ⟨rfl, hb1⟩ := hr; replace H := H.grow hb1; clear hb1; refine hK.out _ _ trivial ?_; clear hK K; simp only [putS]
              refine rg_one (i := 12) (by kernel_rfl) rfl rfl (fun K hK => ?_)
              refine wp_callf rfl ent12 (KB.out _ _ (H.gr 22) H.below) rfl (fun v w1 hr => ?_); obtain ⟨rfl, hb1⟩ := hr; replace H := H.grow hb1; clear hb1; refine hK.out _ _ trivial ?_; clear hK K; simp only [putS]
              refine rt 13 rfl (Yld.of rfl (fun W _ => by go_simp; first | done | with_reducible rfl)) trivial ?_; simp only [putS]
              refine rg_one (i := 18) (by kernel_rfl) rfl rfl (fun K hK => ?_)
              refine wp_callf rfl ent12 (KC.out _ _ (H.gr 22) H.below) rfl (fun v w1 hr => ?_); obtain ⟨rfl, hb1⟩ := hr; replace H := H.grow hb1; clear hb1; refine hK.out _ _ trivial ?_; clear hK K; simp only [putS]
              refine rt 19 rfl (Yld.of rfl (fun W _ => by go_simp; first | done | with_reducible rfl)) trivial ?_; simp only [putS]
              refine rt 20 rfl (Yld.of rfl (fun W _ => by go_simp; first | done | with_reducible rfl)) trivial ?_; simp only [putS]
              refine rt 21 rfl (Yld.move rfl rfl) trivial ?_; simp only [putE]
              refine rg_one (i := 22) (by kernel_rfl) rfl rfl (fun K hK => ?_)
              refine wp_callf rfl ent8 (awake_ok _) rfl (fun v w1 hr => ?_); obtain ⟨rfl, hb1⟩ := hr; replace H := H.grow hb1; clear hb1; refine hK.out _ _ trivial ?_; clear hK K; simp only [putS]
              refine rt 23 rfl (Yld.pick rfl rfl rfl) trivial ?_; simp only [putE]
              refine rt 24 rfl (Yld.assign rfl rfl) trivial ?_; simp only [putE]
              refine rg_done (by kernel_rfl) ?_
              exact ⟨rfl, rfl, rfl, H.below⟩
             exact AllReadyH.nil
            refine rc 17 rfl (fun K hK => ?_) ?_
            · as_aux_lemma => -- 17
             refine Stp.wp (Stp.bsl (e := 22) (cs := #[.slice pc k cc']) 61 rfl rfl (fun W => by kernel_rfl) H ?_); clear H; intro g61 w1 H; refine hK.out _ _ trivial ?_; clear hK K; simp only [putS]
             refine ra [2, 6] ?_
             refine rc 2 rfl (fun K hK => ?_) ?_
             · as_aux_lemma => -- 2
              refine wp_callf rfl ent12 (KD.out _ _ (H.gr 22) (H.gr 5)) rfl (fun v w1 hr => ?_); obtain ⟨rfl, hb1⟩ := hr; replace H := H.grow hb1; clear hb1; refine hK.out _ _ trivial ?_; clear hK K; simp only [putS]
              refine rg_one (i := 6) (by kernel_rfl) rfl rfl (fun K hK => ?_)
              refine Stp.wp (Stp.bsl (e := 22) (cs := #[.slice pa k ca]) 50 rfl rfl (fun W => by kernel_rfl) H ?_); clear H; intro g50 w1 H; refine hK.out _ _ trivial ?_; clear hK K; simp only [putS]
              refine rg_one (i := 7) (by kernel_rfl) rfl rfl (fun K hK => ?_)
              refine wp_callf rfl ent12 (KA.out _ _ (H.gr 22) H.below) rfl (fun v w1 hr => ?_); obtain ⟨rfl, hb1⟩ := hr; replace H := H.grow hb1; clear hb1; refine hK.out _ _ trivial ?_; clear hK K; simp only [putS]
              refine rg_one (i := 12) (by kernel_rfl) rfl rfl (fun K hK => ?_)
              refine wp_callf rfl ent12 (KB.out _ _ (H.gr 22) H.below) rfl (fun v w1 hr => ?_); obtain ⟨rfl, hb1⟩ := hr; replace H := H.grow hb1; clear hb1; refine hK.out _ _ trivial ?_; clear hK K; simp only [putS]
              refine rt 13 rfl (Yld.of rfl (fun W _ => by go_simp; first | done | with_reducible rfl)) trivial ?_; simp only [putS]
              refine rg_one (i := 18) (by kernel_rfl) rfl rfl (fun K hK => ?_)
              refine wp_callf rfl ent12 (KC.out _ _ (H.gr 22) H.below) rfl (fun v w1 hr => ?_); obtain ⟨rfl, hb1⟩ := hr; replace H := H.grow hb1; clear hb1; refine hK.out _ _ trivial ?_; clear hK K; simp only [putS]
              refine rt 19 rfl (Yld.of rfl (fun W _ => by go_simp; first | done | with_reducible rfl)) trivial ?_; simp only [putS]
              refine rt 20 rfl (Yld.of rfl (fun W _ => by go_simp; first | done | with_reducible rfl)) trivial ?_; simp only [putS]
              refine rt 21 rfl (Yld.move rfl rfl) trivial ?_; simp only [putE]
              refine rg_one (i := 22) (by kernel_rfl) rfl rfl (fun K hK => ?_)
              refine wp_callf rfl ent8 (awake_ok _) rfl (fun v w1 hr => ?_); obtain ⟨rfl, hb1⟩ := hr; replace H := H.grow hb1; clear hb1; refine hK.out _ _ trivial ?_; clear hK K; simp only [putS]
              refine rt 23 rfl (Yld.pick rfl rfl rfl) trivial ?_; simp only [putE]
              refine rt 24 rfl (Yld.assign rfl rfl) trivial ?_; simp only [putE]
              refine rg_done (by kernel_rfl) ?_
              exact ⟨rfl, rfl, rfl, H.below⟩
             refine rc 6 rfl (fun K hK => ?_) ?_
             · as_aux_lemma => -- 6
              refine Stp.wp (Stp.bsl (e := 22) (cs := #[.slice pa k ca]) 50 rfl rfl (fun W => by kernel_rfl) H ?_); clear H; intro g50 w1 H; refine hK.out _ _ trivial ?_; clear hK K; simp only [putS]
              refine rg_one (i := 2) (by kernel_rfl) rfl rfl (fun K hK => ?_)
              refine wp_callf rfl ent12 (KD.out _ _ (H.gr 22) (H.gr 5)) rfl (fun v w1 hr => ?_); obtain ⟨rfl, hb1⟩ := hr; replace H := H.grow hb1; clear hb1; refine hK.out _ _ trivial ?_; clear hK K; simp only [putS]
              refine rg_one (i := 7) (by kernel_rfl) rfl rfl (fun K hK => ?_)
              refine wp_callf rfl ent12 (KA.out _ _ (H.gr 22) H.below) rfl (fun v w1 hr => ?_); obtain ⟨rfl, hb1⟩ := hr; replace H := H.grow hb1; clear hb1; refine hK.out _ _ trivial ?_; clear hK K; simp only [putS]
              refine rg_one (i := 12) (by kernel_rfl) rfl rfl (fun K hK => ?_)
              refine wp_callf rfl ent12 (KB.out _ _ (H.gr 22) H.below) rfl (fun v w1 hr => ?_); obtain ⟨rfl, hb1⟩ := hr; replace H := H.grow hb1; clear hb1; refine hK.out _ _ trivial ?_; clear hK K; simp only [putS]
              refine rt 13 rfl (Yld.of rfl (fun W _ => by go_simp; first | done | with_reducible rfl)) trivial ?_; simp only [putS]
              refine rg_one (i := 18) (by kernel_rfl) rfl rfl (fun K hK => ?_)
              refine wp_callf rfl ent12 (KC.out _ _ (H.gr 22) H.below) rfl (fun v w1 hr => ?_); obtain ⟨rfl, hb1⟩ := hr; replace H := H.grow hb1; clear hb1; refine hK.out _ _ trivial ?_; clear hK K; simp only [putS]
              refine rt 19 rfl (Yld.of rfl (fun W _ => by go_simp; first | done | with_reducible rfl)) trivial ?_; simp only [putS]
              refine rt 20 rfl (Yld.of rfl (fun W _ => by go_simp; first | done | with_reducible rfl)) trivial ?_; simp only [putS]
              refine rt 21 rfl (Yld.move rfl rfl) trivial ?_; simp only [putE]
              refine rg_one (i := 22) (by kernel_rfl) rfl rfl (fun K hK => ?_)
              refine wp_callf rfl ent8 (awake_ok _) rfl (fun v w1 hr => ?_); obtain ⟨rfl, hb1⟩ := hr; replace H := H.grow hb1; clear hb1; refine hK.out _ _ trivial ?_; clear hK K; simp only [putS]
              refine rt 23 rfl (Yld.pick rfl rfl rfl) trivial ?_; simp only [putE]
              refine rt 24 rfl (Yld.assign rfl rfl) trivial ?_; simp only [putE]
              refine rg_done (by kernel_rfl) ?_
              exact ⟨rfl, rfl, rfl, H.below⟩
             exact AllReadyH.nil
            exact AllReadyH.nil
           refine rc 6 rfl (fun K hK => ?_) ?_
           · as_aux_lemma => -- 6
            refine Stp.wp (Stp.bsl (e := 22) (cs := #[.slice pa k ca]) 50 rfl rfl (fun W => by kernel_rfl) H ?_); clear H; intro g50 w1 H; refine hK.out _ _ trivial ?_; clear hK K; simp only [putS]
            refine ra [1, 17] ?_
            refine rc 1 rfl (fun K hK => ?_) ?_
            · as_aux_lemma => -- 1
             refine Stp.wp (Stp.bsl (e := 22) (cs := #[.slice (some ⟨g21, 0, none⟩) k k]) 45 rfl rfl (fun W => by kernel_rfl) H ?_); clear H; intro g45 w1 H; refine hK.out _ _ trivial ?_; clear hK K; simp only [putS]
             refine ra [2, 17] ?_
             refine rc 2 rfl (fun K hK => ?_) ?_
             · as_aux_lemma => -- 2
              refine wp_callf rfl ent12 (KD.out _ _ (H.gr 22) (H.gr 5)) rfl (fun v w1 hr => ?_); obtain ⟨rfl, hb1⟩ := hr; replace H := H.grow hb1; clear hb1; refine hK.out _ _ trivial ?_; clear hK K; simp only [putS]
              refine ra [7, 17] ?_
              refine rc 7 rfl (fun K hK => ?_) ?_
              · as_aux_lemma => -- 7
               refine wp_callf rfl ent12 (KA.out _ _ (H.gr 22) H.below) rfl (fun v w1 hr => ?_); obtain ⟨rfl, hb1⟩ := hr; replace H := H.grow hb1; clear hb1; refine hK.out _ _ trivial ?_; clear hK K; simp only [putS]
               refine ra [12, 17] ?_
               refine rc 12 rfl (fun K hK => ?_) ?_
               · as_aux_lemma => -- 12
                refine wp_callf rfl ent12 (KB.out _ _ (H.gr 22) H.below) rfl (fun v w1 hr => ?_); obtain ⟨rfl, hb1⟩ := hr; replace H := H.grow hb1; clear hb1; refine hK.out _ _ trivial ?_; clear hK K; simp only [putS]
                refine rt 13 rfl (Yld.of rfl (fun W _ => by go_simp; first | done | with_reducible rfl)) trivial ?_; simp only [putS]
                refine rg_one (i := 17) (by kernel_rfl) rfl rfl (fun K hK => ?_)
                refine Stp.wp (Stp.bsl (e := 22) (cs := #[.slice pc k cc']) 61 rfl rfl (fun W => by kernel_rfl) H ?_); clear H; intro g61 w1 H; refine hK.out _ _ trivial ?_; clear hK K; simp only [putS]
                refine rg_one (i := 18) (by kernel_rfl) rfl rfl (fun K hK => ?_)
                refine wp_callf rfl ent12 (KC.out _ _ (H.gr 22) H.below) rfl (fun v w1 hr => ?_); obtain ⟨rfl, hb1⟩ := hr; replace H := H.grow hb1; clear hb1; refine hK.out _ _ trivial ?_; clear hK K; simp only [putS]
                refine rt 19 rfl (Yld.of rfl (fun W _ => by go_simp; first | done | with_reducible rfl)) trivial ?_; simp only [putS]
                refine rt 20 rfl (Yld.of rfl (fun W _ => by go_simp; first | done | with_reducible rfl)) trivial ?_; simp only [putS]
                refine rt 21 rfl (Yld.move rfl rfl) trivial ?_; simp only [putE]
                refine rg_one (i := 22) (by kernel_rfl) rfl rfl (fun K hK => ?_)
                refine wp_callf rfl ent8 (awake_ok _) rfl (fun v w1 hr => ?_); obtain ⟨rfl, hb1⟩ := hr; replace H := H.grow hb1; clear hb1; refine hK.out _ _ trivial ?_; clear hK K; simp only [putS]
                refine rt 23 rfl (Yld.pick rfl rfl rfl) trivial ?_; simp only [putE]
                refine rt 24 rfl (Yld.assign rfl rfl) trivial ?_; simp only [putE]
                refine rg_done (by kernel_rfl) ?_
                exact ⟨rfl, rfl, rfl, H.below⟩
               refine rc 17 rfl (fun K hK => ?_) ?_
               · as_aux_lemma => -- 17
                refine Stp.wp (Stp.bsl (e := 22) (cs := #[.slice pc k cc']) 61 rfl rfl (fun W => by kernel_rfl) H ?_); clear H; intro g61 w1 H; refine hK.out _ _ trivial ?_; clear hK K; simp only [putS]
                refine rg_one (i := 12) (by kernel_rfl) rfl rfl (fun K hK => ?_)
                refine wp_callf rfl ent12 (KB.out _ _ (H.gr 22) H.below) rfl (fun v w1 hr => ?_); obtain ⟨rfl, hb1⟩ := hr; replace H := H.grow hb1; clear hb1; refine hK.out _ _ trivial ?_; clear hK K; simp only [putS]
                refine rt 13 rfl (Yld.of rfl (fun W _ => by go_simp; first | done | with_reducible rfl)) trivial ?_; simp only [putS]
                refine rg_one (i := 18) (by kernel_rfl) rfl rfl (fun K hK => ?_)
                refine wp_callf rfl ent12 (KC.out _ _ (H.gr 22) H.below) rfl (fun v w1 hr => ?_); obtain ⟨rfl, hb1⟩ := hr; replace H := H.grow hb1; clear hb1; refine hK.out _ _ trivial ?_; clear hK K; simp only [putS]
                refine rt 19 rfl (Yld.of rfl (fun W _ => by go_simp; first | done | with_reducible rfl)) trivial ?_; simp only [putS]
                refine rt 20 rfl (Yld.of rfl (fun W _ => by go_simp; first | done | with_reducible rfl)) trivial ?_; simp only [putS]
                refine rt 21 rfl (Yld.move rfl rfl) trivial ?_; simp only [putE]
                refine rg_one (i := 22) (by kernel_rfl) rfl rfl (fun K hK => ?_)
                refine wp_callf rfl ent8 (awake_ok _) rfl (fun v w1 hr => ?_); obtain ⟨rfl, hb1⟩ := hr; replace H := H.grow hb1; clear hb1; refine hK.out _ _ trivial ?_; clear hK K; simp only [putS]
                refine rt 23 rfl (Yld.pick rfl rfl rfl) trivial ?_; simp only [putE]
                refine rt 24 rfl (Yld.assign rfl rfl) trivial ?_; simp only [putE]
                refine rg_done (by kernel_rfl) ?_
                exact ⟨rfl, rfl, rfl, H.below⟩
               exact AllReadyH.nil
              refine rc 17 rfl (fun K hK => ?_) ?_
              · as_aux_lemma => -- 17
               refine Stp.wp (Stp.bsl (e := 22) (cs := #[.slice pc k cc']) 61 rfl rfl (fun W => by kernel_rfl) H ?_); clear H; intro g61 w1 H; refine hK.out _ _ trivial ?_; clear hK K; simp only [putS]
               refine rg_one (i := 7) (by kernel_rfl) rfl rfl (fun K hK => ?_)
               refine wp_callf rfl ent12 (KA.out _ _ (H.gr 22) H.below) rfl (fun v w1 hr => ?_); obtain ⟨rfl, hb1⟩ := hr; replace H := H.grow hb1; clear hb1; refine hK.out _ _ trivial ?_; clear hK K; simp only [putS]
               refine rg_one (i := 12) (by kernel_rfl) rfl rfl (fun K hK => ?_)
               refine wp_callf rfl ent12 (KB.out _ _ (H.gr 22) H.below) rfl (fun v w1 hr => ?_); obtain ⟨rfl, hb1⟩ := hr; replace H := H.grow hb1; clear hb1; refine hK.out _ _ trivial ?_; clear hK K; simp only [putS]
               refine rt 13 rfl (Yld.of rfl (fun W _ => by go_simp; first | done | with_reducible rfl)) trivial ?_; simp only [putS]
               refine rg_one (i := 18) (by kernel_rfl) rfl rfl (fun K hK => ?_)
               refine wp_callf rfl ent12 (KC.out _ _ (H.gr 22) H.below) rfl (fun v w1 hr => ?_); obtain ⟨rfl, hb1⟩ := hr; replace H := H.grow hb1; clear hb1; refine hK.out _ _ trivial ?_; clear hK K; simp only [putS]
               refine rt 19 rfl (Yld.of rfl (fun W _ => by go_simp; first | done | with_reducible rfl)) trivial ?_; simp only [putS]
               refine rt 20 rfl (Yld.of rfl (fun W _ => by go_simp; first | done | with_reducible rfl)) trivial ?_; simp only [putS]
               refine rt 21 rfl (Yld.move rfl rfl) trivial ?_; simp only [putE]
               refine rg_one (i := 22) (by kernel_rfl) rfl rfl (fun K hK => ?_)
               refine wp_callf rfl ent8 (awake_ok _) rfl (fun v w1 hr => ?_); obtain ⟨rfl, hb1⟩ := hr; replace H := H.grow hb1; clear hb1; refine hK.out _ _ trivial ?_; clear hK K; simp only [putS]
               refine rt 23 rfl (Yld.pick rfl rfl rfl) trivial ?_; simp only [putE]
               refine rt 24 rfl (Yld.assign rfl rfl) trivial ?_; simp only [putE]
               refine rg_done (by kernel_rfl) ?_
               exact ⟨rfl, rfl, rfl, H.below⟩
              exact AllReadyH.nil
             refine rc 17 rfl (fun K hK => ?_) ?_
             · as_aux_lemma => -- 17
              refine Stp.wp (Stp.bsl (e := 22) (cs := #[.slice pc k cc']) 61 rfl rfl (fun W => by kernel_rfl) H ?_); clear H; intro g61 w1 H; refine hK.out _ _ trivial ?_; clear hK K; simp only [putS]
              refine rg_one (i := 2) (by kernel_rfl) rfl rfl (fun K hK => ?_)
              refine wp_callf rfl ent12 (KD.out _ _ (H.gr 22) (H.gr 5)) rfl (fun v w1 hr => ?_); obtain ⟨rfl, hb1⟩ := hr; replace H := H.grow hb1; clear hb1; refine hK.out _ _ trivial ?_; clear hK K; simp only [putS]
              refine rg_one (i := 7) (by kernel_rfl) rfl rfl (fun K hK => ?_)
              refine wp_callf rfl ent12 (KA.out _ _ (H.gr 22) H.below) rfl (fun v w1 hr => ?_); obtain ⟨rfl, hb1⟩ := hr; replace H := H.grow hb1; clear hb1; refine hK.out _ _ trivial ?_; clear hK K; simp only [putS]
              refine rg_one (i := 12) (by kernel_rfl) rfl rfl (fun K hK => ?_)
              refine wp_callf rfl ent12 (KB.out _ _ (H.gr 22) H.below) rfl (fun v w1 hr => ?_); obtain ⟨rfl, hb1⟩ := hr; replace H := H.grow hb1; clear hb1; refine hK.out _ _ trivial ?_; clear hK K; simp only [putS]
              refine rt 13 rfl (Yld.of rfl (fun W _ => by go_simp; first | done | with_reducible rfl)) trivial ?_; simp only [putS]
              refine rg_one (i := 18) (by kernel_rfl) rfl rfl (fun K hK => ?_)
              refine wp_callf rfl ent12 (KC.out _ _ (H.gr 22) H.below) rfl (fun v w1 hr => ?_); obtain ⟨rfl, hb1⟩ := hr; replace H := H.grow hb1; clear hb1; refine hK.out _ _ trivial ?_; clear hK K; simp only [putS]
              refine rt 19 rfl (Yld.of rfl (fun W _ => by go_simp; first | done | with_reducible rfl)) trivial ?_; simp only [putS]
              refine rt 20 rfl (Yld.of rfl (fun W _ => by go_simp; first | done | with_reducible rfl)) trivial ?_; simp only [putS]
              refine rt 21 rfl (Yld.move rfl rfl) trivial ?_; simp only [putE]
              refine rg_one (i := 22) (by kernel_rfl) rfl rfl (fun K hK => ?_)
              refine wp_callf rfl ent8 (awake_ok _) rfl (fun v w1 hr => ?_); obtain ⟨rfl, hb1⟩ := hr; replace H := H.grow hb1; clear hb1; refine hK.out _ _ trivial ?_; clear hK K; simp only [putS]
              refine rt 23 rfl (Yld.pick rfl rfl rfl) trivial ?_; simp only [putE]
              refine rt 24 rfl (Yld.assign rfl rfl) trivial ?_; simp only [putE]
              refine rg_done (by kernel_rfl) ?_
              exact ⟨rfl, rfl, rfl, H.below⟩
             exact AllReadyH.nil
            refine rc 17 rfl (fun K hK => ?_) ?_
            · as_aux_lemma => -- 17
             refine Stp.wp (Stp.bsl (e := 22) (cs := #[.slice pc k cc']) 61 rfl rfl (fun W => by kernel_rfl) H ?_); clear H; intro g61 w1 H; refine hK.out _ _ trivial ?_; clear hK K; simp only [putS]
             refine rg_one (i := 1) (by kernel_rfl) rfl rfl (fun K hK => ?_)
             refine Stp.wp (Stp.bsl (e := 22) (cs := #[.slice (some ⟨g21, 0, none⟩) k k]) 45 rfl rfl (fun W => by kernel_rfl) H ?_); clear H; intro g45 w1 H; refine hK.out _ _ trivial ?_; clear hK K; simp only [putS]
             refine rg_one (i := 2) (by kernel_rfl) rfl rfl (fun K hK => ?_)
             refine wp_callf rfl ent12 (KD.out _ _ (H.gr 22) (H.gr 5)) rfl (fun v w1 hr => ?_); obtain ⟨rfl, hb1⟩ := hr; replace H := H.grow hb1; clear hb1; refine hK.out _ _ trivial ?_; clear hK K; simp only [putS]
             refine rg_one (i := 7) (by kernel_rfl) rfl rfl (fun K hK => ?_)
             refine wp_callf rfl ent12 (KA.out _ _ (H.gr 22) H.below) rfl (fun v w1 hr => ?_); obtain ⟨rfl, hb1⟩ := hr; replace H := H.grow hb1; clear hb1; refine hK.out _ _ trivial ?_; clear hK K; simp only [putS]
             refine rg_one (i := 12) (by kernel_rfl) rfl rfl (fun K hK => ?_)
             refine wp_callf rfl ent12 (KB.out _ _ (H.gr 22) H.below) rfl (fun v w1 hr => ?_); obtain ⟨rfl, hb1⟩ := hr; replace H := H.grow hb1; clear hb1; refine hK.out _ _ trivial ?_; clear hK K; simp only [putS]
             refine rt 13 rfl (Yld.of rfl (fun W _ => by go_simp; first | done | with_reducible rfl)) trivial ?_; simp only [putS]
             refine rg_one (i := 18) (by kernel_rfl) rfl rfl (fun K hK => ?_)
             refine wp_callf rfl ent12 (KC.out _ _ (H.gr 22) H.below) rfl (fun v w1 hr => ?_); obtain ⟨rfl, hb1⟩ := hr; replace H := H.grow hb1; clear hb1; refine hK.out _ _ trivial ?_; clear hK K; simp only [putS]
             refine rt 19 rfl (Yld.of rfl (fun W _ => by go_simp; first | done | with_reducible rfl)) trivial ?_; simp only [putS]
             refine rt 20 rfl (Yld.of rfl (fun W _ => by go_simp; first | done | with_reducible rfl)) trivial ?_; simp only [putS]
             refine rt 21 rfl (Yld.move rfl rfl) trivial ?_; simp only [putE]
             refine rg_one (i := 22) (by kernel_rfl) rfl rfl (fun K hK => ?_)
             refine wp_callf rfl ent8 (awake_ok _) rfl (fun v w1 hr => ?_); obtain ⟨rfl, hb1⟩ := hr; replace H := H.grow hb1; clear hb1; refine hK.out _ _ trivial ?_; clear hK K; simp only [putS]
             refine rt 23 rfl (Yld.pick rfl rfl rfl) trivial ?_; simp only [putE]
             refine rt 24 rfl (Yld.assign rfl rfl) trivial ?_; simp only [putE]
             refine rg_done (by kernel_rfl) ?_
             exact ⟨rfl, rfl, rfl, H.below⟩
            exact AllReadyH.nil
           refine rc 17 rfl (fun K hK => ?_) ?_
           · as_aux_lemma => -- 17
            refine Stp.wp (Stp.bsl (e := 22) (cs := #[.slice pc k cc']) 61 rfl rfl (fun W => by kernel_rfl) H ?_); clear H; intro g61 w1 H; refine hK.out _ _ trivial ?_; clear hK K; simp only [putS]
            refine ra [1, 6] ?_
            refine rc 1 rfl (fun K hK => ?_) ?_
            · as_aux_lemma => -- 1
             refine Stp.wp (Stp.bsl (e := 22) (cs := #[.slice (some ⟨g21, 0, none⟩) k k]) 45 rfl rfl (fun W => by kernel_rfl) H ?_); clear H; intro g45 w1 H; refine hK.out _ _ trivial ?_; clear hK K; simp only [putS]
             refine ra [2, 6] ?_
             refine rc 2 rfl (fun K hK => ?_) ?_
             · as_aux_lemma => -- 2
              refine wp_callf rfl ent12 (KD.out _ _ (H.gr 22) (H.gr 5)) rfl (fun v w1 hr => ?_); obtain ⟨rfl, hb1⟩ := hr; replace H := H.grow hb1; clear hb1; refine hK.out _ _ trivial ?_; clear hK K; simp only [putS]
              refine rg_one (i := 6) (by kernel_rfl) rfl rfl (fun K hK => ?_)
              refine Stp.wp (Stp.bsl (e := 22) (cs := #[.slice pa k ca]) 50 rfl rfl (fun W => by kernel_rfl) H ?_); clear H; intro g50 w1 H; refine hK.out _ _ trivial ?_; clear hK K; simp only [putS]
              refine rg_one (i := 7) (by kernel_rfl) rfl rfl (fun K hK => ?_)
              refine wp_callf rfl ent12 (KA.out _ _ (H.gr 22) H.below) rfl (fun v w1 hr => ?_); obtain ⟨rfl, hb1⟩ := hr; replace H := H.grow hb1; clear hb1; refine hK.out _ _ trivial ?_; clear hK K; simp only [putS]
              refine rg_one (i := 12) (by kernel_rfl) rfl rfl (fun K hK => ?_)
              refine wp_callf rfl ent12 (KB.out _ _ (H.gr 22) H.below) rfl (fun v w1 hr => ?_); obtain ⟨rfl, hb1⟩ := hr; replace H := H.grow hb1; clear hb1; refine hK.out _ _ trivial ?_; clear hK K; simp only [putS]
              refine rt 13 rfl (Yld.of rfl (fun W _ => by go_simp; first | done | with_reducible rfl)) trivial ?_; simp only [putS]
              refine rg_one (i := 18) (by kernel_rfl) rfl rfl (fun K hK => ?_)
              refine wp_callf rfl ent12 (KC.out _ _ (H.gr 22) H.below) rfl (fun v w1 hr => ?_); obtain ⟨rfl, hb1⟩ := hr; replace H := H.grow hb1; clear hb1; refine hK.out _ _ trivial ?_; clear hK K; simp only [putS]
              refine rt 19 rfl (Yld.of rfl (fun W _ => by go_simp; first | done | with_reducible rfl)) trivial ?_; simp only [putS]
              refine rt 20 rfl (Yld.of rfl (fun W _ => by go_simp; first | done | with_reducible rfl)) trivial ?_; simp only [putS]
              refine rt 21 rfl (Yld.move rfl rfl) trivial ?_; simp only [putE]
              refine rg_one (i := 22) (by kernel_rfl) rfl rfl (fun K hK => ?_)
              refine wp_callf rfl ent8 (awake_ok _) rfl (fun v w1 hr => ?_); obtain ⟨rfl, hb1⟩ := hr; replace H := H.grow hb1; clear hb1; refine hK.out _ _ trivial ?_; clear hK K; simp only [putS]
              refine rt 23 rfl (Yld.pick rfl rfl rfl) trivial ?_; simp only [putE]
              refine rt 24 rfl (Yld.assign rfl rfl) trivial ?_; simp only [putE]
              refine rg_done (by kernel_rfl) ?_
              exact ⟨rfl, rfl, rfl, H.below⟩
             refine rc 6 rfl (fun K hK => ?_) ?_
             · as_aux_lemma => -- 6
              refine Stp.wp (Stp.bsl (e := 22) (cs := #[.slice pa k ca]) 50 rfl rfl (fun W => by kernel_rfl) H ?_); clear H; intro g50 w1 H; refine hK.out _ _ trivial ?_; clear hK K; simp only [putS]
              refine rg_one (i := 2) (by kernel_rfl) rfl rfl (fun K hK => ?_)
              refine wp_callf rfl ent12 (KD.out _ _ (H.gr 22) (H.gr 5)) rfl (fun v w1 hr => ?_); obtain ⟨rfl, hb1⟩ := hr; replace H := H.grow hb1; clear hb1; refine hK.out _ _ trivial ?_; clear hK K; simp only [putS]
              refine rg_one (i := 7) (by kernel_rfl) rfl rfl (fun K hK => ?_)
              refine wp_callf rfl ent12 (KA.out _ _ (H.gr 22) H.below) rfl (fun v w1 hr => ?_); obtain ⟨rfl, hb1⟩ := hr; replace H := H.grow hb1; clear hb1; refine hK.out _ _ trivial ?_; clear hK K; simp only [putS]
              refine rg_one (i := 12) (by kernel_rfl) rfl rfl (fun K hK => ?_)
              refine wp_callf rfl ent12 (KB.out _ _ (H.gr 22) H.below) rfl (fun v w1 hr => ?_); obtain ⟨rfl, hb1⟩ := hr; replace H := H.grow hb1; clear hb1; refine hK.out _ _ trivial ?_; clear hK K; simp only [putS]
              refine rt 13 rfl (Yld.of rfl (fun W _ => by go_simp; first | done | with_reducible rfl)) trivial ?_; simp only [putS]
              refine rg_one (i := 18) (by kernel_rfl) rfl rfl (fun K hK => ?_)
              refine wp_callf rfl ent12 (KC.out _ _ (H.gr 22) H.below) rfl (fun v w1 hr => ?_); obtain ⟨rfl, hb1⟩ := hr; replace H := H.grow hb1; clear hb1; refine hK.out _ _ trivial ?_; clear hK K; simp only [putS]
              refine rt 19 rfl (Yld.of rfl (fun W _ => by go_simp; first | done | with_reducible rfl)) trivial ?_; simp only [putS]
              refine rt 20 rfl (Yld.of rfl (fun W _ => by go_simp; first | done | with_reducible rfl)) trivial ?_; simp only [putS]
              refine rt 21 rfl (Yld.move rfl rfl) trivial ?_; simp only [putE]
              refine rg_one (i := 22) (by kernel_rfl) rfl rfl (fun K hK => ?_)
              refine wp_callf rfl ent8 (awake_ok _) rfl (fun v w1 hr => ?_); obtain ⟨rfl, hb1⟩ := hr; replace H := H.grow hb1; clear hb1; refine hK.out _ _ trivial ?_; clear hK K; simp only [putS]
              refine rt 23 rfl (Yld.pick rfl rfl rfl) trivial ?_; simp only [putE]
              refine rt 24 rfl (Yld.assign rfl rfl) trivial ?_; simp only [putE]
              refine rg_done (by kernel_rfl) ?_
              exact ⟨rfl, rfl, rfl, H.below⟩
             exact AllReadyH.nil
            refine rc 6 rfl (fun K hK => ?_) ?_
            · as_aux_lemma => -- 6
             refine Stp.wp (Stp.bsl (e := 22) (cs := #[.slice pa k ca]) 50 rfl rfl (fun W => by kernel_rfl) H ?_); clear H; intro g50 w1 H; refine hK.out _ _ trivial ?_; clear hK K; simp only [putS]
             refine rg_one (i := 1) (by kernel_rfl) rfl rfl (fun K hK => ?_)
             refine Stp.wp (Stp.bsl (e := 22) (cs := #[.slice (some ⟨g21, 0, none⟩) k k]) 45 rfl rfl (fun W => by kernel_rfl) H ?_); clear H; intro g45 w1 H; refine hK.out _ _ trivial ?_; clear hK K; simp only [putS]
             refine rg_one (i := 2) (by kernel_rfl) rfl rfl (fun K hK => ?_)
             refine wp_callf rfl ent12 (KD.out _ _ (H.gr 22) (H.gr 5)) rfl (fun v w1 hr => ?_); obtain ⟨rfl, hb1⟩ := hr; replace H := H.grow hb1; clear hb1; refine hK.out _ _ trivial ?_; clear hK K; simp only [putS]
             refine rg_one (i := 7) (by kernel_rfl) rfl rfl (fun K hK => ?_)
             refine wp_callf rfl ent12 (KA.out _ _ (H.gr 22) H.below) rfl (fun v w1 hr => ?_); obtain ⟨rfl, hb1⟩ := hr; replace H := H.grow hb1; clear hb1; refine hK.out _ _ trivial ?_; clear hK K; simp only [putS]
             refine rg_one (i := 12) (by kernel_rfl) rfl rfl (fun K hK => ?_)
             refine wp_callf rfl ent12 (KB.out _ _ (H.gr 22) H.below) rfl (fun v w1 hr => ?_); obtain ⟨rfl, hb1⟩ := hr; replace H := H.grow hb1; clear hb1; refine hK.out _ _ trivial ?_; clear hK K; simp only [putS]
             refine rt 13 rfl (Yld.of rfl (fun W _ => by go_simp; first | done | with_reducible rfl)) trivial ?_; simp only [putS]
             refine rg_one (i := 18) (by kernel_rfl) rfl rfl (fun K hK => ?_)
             refine wp_callf rfl ent12 (KC.out _ _ (H.gr 22) H.below) rfl (fun v w1 hr => ?_); obtain ⟨rfl, hb1⟩ := hr; replace H := H.grow hb1; clear hb1; refine hK.out _ _ trivial ?_; clear hK K; simp only [putS]
             refine rt 19 rfl (Yld.of rfl (fun W _ => by go_simp; first | done | with_reducible rfl)) trivial ?_; simp only [putS]
             refine rt 20 rfl (Yld.of rfl (fun W _ => by go_simp; first | done | with_reducible rfl)) trivial ?_; simp only [putS]
             refine rt 21 rfl (Yld.move rfl rfl) trivial ?_; simp only [putE]
             refine rg_one (i := 22) (by kernel_rfl) rfl rfl (fun K hK => ?_)
             refine wp_callf rfl ent8 (awake_ok _) rfl (fun v w1 hr => ?_); obtain ⟨rfl, hb1⟩ := hr; replace H := H.grow hb1; clear hb1; refine hK.out _ _ trivial ?_; clear hK K; simp only [putS]
             refine rt 23 rfl (Yld.pick rfl rfl rfl) trivial ?_; simp only [putE]
             refine rt 24 rfl (Yld.assign rfl rfl) trivial ?_; simp only [putE]
             refine rg_done (by kernel_rfl) ?_
             exact ⟨rfl, rfl, rfl, H.below⟩
            exact AllReadyH.nil
           exact AllReadyH.nil
          refine rc 17 rfl (fun K hK => ?_) ?_
          · as_aux_lemma => -- 17
           refine Stp.wp (Stp.bsl (e := 22) (cs := #[.slice pc k cc']) 61 rfl rfl (fun W => by kernel_rfl) H ?_); clear H; intro g61 w1 H; refine hK.out _ _ trivial ?_; clear hK K; simp only [putS]
           refine ra [1, 6, 11] ?_
           refine rc 1 rfl (fun K hK => ?_) ?_
           · as_aux_lemma => -- 1
            refine Stp.wp (Stp.bsl (e := 22) (cs := #[.slice (some ⟨g21, 0, none⟩) k k]) 45 rfl rfl (fun W => by kernel_rfl) H ?_); clear H; intro g45 w1 H; refine hK.out _ _ trivial ?_; clear hK K; simp only [putS]
            refine ra [2, 6, 11] ?_
            refine rc 2 rfl (fun K hK => ?_) ?_
            · as_aux_lemma => -- 2
             refine wp_callf rfl ent12 (KD.out _ _ (H.gr 22) (H.gr 5)) rfl (fun v w1 hr => ?_); obtain ⟨rfl, hb1⟩ := hr; replace H := H.grow hb1; clear hb1; refine hK.out _ _ trivial ?_; clear hK K; simp only [putS]
             refine ra [6, 11] ?_
             refine rc 6 rfl (fun K hK => ?_) ?_
             · as_aux_lemma => -- 6
              refine Stp.wp (Stp.bsl (e := 22) (cs := #[.slice pa k ca]) 50 rfl rfl (fun W => by kernel_rfl) H ?_); clear H; intro g50 w1 H; refine hK.out _ _ trivial ?_; clear hK K; simp only [putS]
              refine ra [7, 11] ?_
              refine rc 7 rfl (fun K hK => ?_) ?_
              · as_aux_lemma => -- 7
               refine wp_callf rfl ent12 (KA.out _ _ (H.gr 22) H.below) rfl (fun v w1 hr => ?_); obtain ⟨rfl, hb1⟩ := hr; replace H := H.grow hb1; clear hb1; refine hK.out _ _ trivial ?_; clear hK K; simp only [putS]
               refine rg_one (i := 11) (by kernel_rfl) rfl rfl (fun K hK => ?_)
               refine Stp.wp (Stp.bsl (e := 22) (cs := #[.slice pb k cb']) 55 rfl rfl (fun W => by kernel_rfl) H ?_); clear H; intro g55 w1 H; refine hK.out _ _ trivial ?_; clear hK K; simp only [putS]
               refine rg_one (i := 12) (by kernel_rfl) rfl rfl (fun K hK => ?_)
               refine wp_callf rfl ent12 (KB.out _ _ (H.gr 22) H.below) rfl (fun v w1 hr => ?_); obtain ⟨rfl, hb1⟩ := hr; replace H := H.grow hb1; clear hb1; refine hK.out _ _ trivial ?_; clear hK K; simp only [putS]
               refine rt 13 rfl (Yld.of rfl (fun W _ => by go_simp; first | done | with_reducible rfl)) trivial ?_; simp only [putS]
               refine rg_one (i := 18) (by kernel_rfl) rfl rfl (fun K hK => ?_)
               refine wp_callf rfl ent12 (KC.out _ _ (H.gr 22) H.below) rfl (fun v w1 hr => ?_); obtain ⟨rfl, hb1⟩ := hr; replace H := H.grow hb1; clear hb1; refine hK.out _ _ trivial ?_; clear hK K; simp only [putS]
               refine rt 19 rfl (Yld.of rfl (fun W _ => by go_simp; first | done | with_reducible rfl)) trivial ?_; simp only [putS]
               refine rt 20 rfl (Yld.of rfl (fun W _ => by go_simp; first | done | with_reducible rfl)) trivial ?_; simp only [putS]
               refine rt 21 rfl (Yld.move rfl rfl) trivial ?_; simp only [putE]
               refine rg_one (i := 22) (by kernel_rfl) rfl rfl (fun K hK => ?_)
               refine wp_callf rfl ent8 (awake_ok _) rfl (fun v w1 hr => ?_); obtain ⟨rfl, hb1⟩ := hr; replace H := H.grow hb1; clear hb1; refine hK.out _ _ trivial ?_; clear hK K; simp only [putS]
               refine rt 23 rfl (Yld.pick rfl rfl rfl) trivial ?_; simp only [putE]
               refine rt 24 rfl (Yld.assign rfl rfl) trivial ?_; simp only [putE]
               refine rg_done (by kernel_rfl) ?_
               exact ⟨rfl, rfl, rfl, H.below⟩
              refine rc 11 rfl (fun K hK => ?_) ?_
              · as_aux_lemma => -- 11
               refine Stp.wp (Stp.bsl (e := 22) (cs := #[.slice pb k cb']) 55 rfl rfl (fun W => by kernel_rfl) H ?_); clear H; intro g55 w1 H; refine hK.out _ _ trivial ?_; clear hK K; simp only [putS]
               refine rg_one (i := 7) (by kernel_rfl) rfl rfl (fun K hK => ?_)
               refine wp_callf rfl ent12 (KA.out _ _ (H.gr 22) H.below) rfl (fun v w1 hr => ?_); obtain ⟨rfl, hb1⟩ := hr; replace H := H.grow hb1; clear hb1; refine hK.out _ _ trivial ?_; clear hK K; simp only [putS]
               refine rg_one (i := 12) (by kernel_rfl) rfl rfl (fun K hK => ?_)
               refine wp_callf rfl ent12 (KB.out _ _ (H.gr 22) H.below) rfl (fun v w1 hr => ?_); obtain ⟨rfl, hb1⟩ := hr; replace H := H.grow hb1; clear hb1; refine hK.out _ _ trivial ?_; clear hK K; simp only [putS]
               refine rt 13 rfl (Yld.of rfl (fun W _ => by go_simp; first | done | with_reducible rfl)) trivial ?_; simp only [putS]
               refine rg_one (i := 18) (by kernel_rfl) rfl rfl (fun K hK => ?_)
               refine wp_callf rfl ent12 (KC.out _ _ (H.gr 22) H.below) rfl (fun v w1 hr => ?_); obtain ⟨rfl, hb1⟩ := hr; replace H := H.grow hb1; clear hb1; refine hK.out _ _ trivial ?_; clear hK K; simp only [putS]
               refine rt 19 rfl (Yld.of rfl (fun W _ => by go_simp; first | done | with_reducible rfl)) trivial ?_; simp only [putS]
               refine rt 20 rfl (Yld.of rfl (fun W _ => by go_simp; first | done | with_reducible rfl)) trivial ?_; simp only [putS]
               refine rt 21 rfl (Yld.move rfl rfl) trivial ?_; simp only [putE]
               refine rg_one (i := 22) (by kernel_rfl) rfl rfl (fun K hK => ?_)
               refine wp_callf rfl ent8 (awake_ok _) rfl (fun v w1 hr => ?_); obtain ⟨rfl, hb1⟩ := hr; replace H := H.grow hb1; clear hb1; refine hK.out _ _ trivial ?_; clear hK K; simp only [putS]
               refine rt 23 rfl (Yld.pick rfl rfl rfl) trivial ?_; simp only [putE]
               refine rt 24 rfl (Yld.assign rfl rfl) trivial ?_; simp only [putE]
               refine rg_done (by kernel_rfl) ?_
               exact ⟨rfl, rfl, rfl, H.below⟩
              exact AllReadyH.nil
             refine rc 11 rfl (fun K hK => ?_) ?_
             · as_aux_lemma => -- 11
              refine Stp.wp (Stp.bsl (e := 22) (cs := #[.slice pb k cb']) 55 rfl rfl (fun W => by kernel_rfl) H ?_); clear H; intro g55 w1 H; refine hK.out _ _ trivial ?_; clear hK K; simp only [putS]
              refine rg_one (i := 6) (by kernel_rfl) rfl rfl (fun K hK => ?_)
              refine Stp.wp (Stp.bsl (e := 22) (cs := #[.slice pa k ca]) 50 rfl rfl (fun W => by kernel_rfl) H ?_); clear H; intro g50 w1 H; refine hK.out _ _ trivial ?_; clear hK K; simp only [putS]
              refine rg_one (i := 7) (by kernel_rfl) rfl rfl (fun K hK => ?_)
              refine wp_callf rfl ent12 (KA.out _ _ (H.gr 22) H.below) rfl (fun v w1 hr => ?_); obtain ⟨rfl, hb1⟩ := hr; replace H := H.grow hb1; clear hb1; refine hK.out _ _ trivial ?_; clear hK K; simp only [putS]
              refine rg_one (i := 12) (by kernel_rfl) rfl rfl (fun K hK => ?_)
              refine wp_callf rfl ent12 (KB.out _ _ (H.gr 22) H.below) rfl (fun v w1 hr => ?_); obtain ⟨rfl, hb1⟩ := hr; replace H := H.grow hb1; clear hb1; refine hK.out _ _ trivial ?_; clear hK K; simp only [putS]
              refine rt 13 rfl (Yld.of rfl (fun W _ => by go_simp; first | done | with_reducible rfl)) trivial ?_; simp only [putS]
              refine rg_one (i := 18) (by kernel_rfl) rfl rfl (fun K hK => ?_)
              refine wp_callf rfl ent12 (KC.out _ _ (H.gr 22) H.below) rfl (fun v w1 hr => ?_); obtain ⟨rfl, hb1⟩ := hr; replace H := H.grow hb1; clear hb1; refine hK.out _ _ trivial ?_; clear hK K; simp only [putS]
              refine rt 19 rfl (Yld.of rfl (fun W _ => by go_simp; first | done | with_reducible rfl)) trivial ?_; simp only [putS]
              refine rt 20 rfl (Yld.of rfl (fun W _ => by go_simp; first | done | with_reducible rfl)) trivial ?_; simp only [putS]
              refine rt 21 rfl (Yld.move rfl rfl) trivial ?_; simp only [putE]
              refine rg_one (i := 22) (by kernel_rfl) rfl rfl (fun K hK => ?_)
              refine wp_callf rfl ent8 (awake_ok _) rfl (fun v w1 hr => ?_); obtain ⟨rfl, hb1⟩ := hr; replace H := H.grow hb1; clear hb1; refine hK.out _ _ trivial ?_; clear hK K; simp only [putS]
              refine rt 23 rfl (Yld.pick rfl rfl rfl) trivial ?_; simp only [putE]
              refine rt 24 rfl (Yld.assign rfl rfl) trivial ?_; simp only [putE]
              refine rg_done (by kernel_rfl) ?_
              exact ⟨rfl, rfl, rfl, H.below⟩
             exact AllReadyH.nil
            refine rc 6 rfl (fun K hK => ?_) ?_
            · as_aux_lemma => -- 6
             refine Stp.wp (Stp.bsl (e := 22) (cs := #[.slice pa k ca]) 50 rfl rfl (fun W => by kernel_rfl) H ?_); clear H; intro g50 w1 H; refine hK.out _ _ trivial ?_; clear hK K; simp only [putS]
             refine ra [2, 11] ?_
             refine rc 2 rfl (fun K hK => ?_) ?_
             · as_aux_lemma => -- 2
              refine wp_callf rfl ent12 (KD.out _ _ (H.gr 22) (H.gr 5)) rfl (fun v w1 hr => ?_); obtain ⟨rfl, hb1⟩ := hr; replace H := H.grow hb1; clear hb1; refine hK.out _ _ trivial ?_; clear hK K; simp only [putS]
              refine ra [7, 11] ?_
              refine rc 7 rfl (fun K hK => ?_) ?_
              · as_aux_lemma => -- 7
               refine wp_callf rfl ent12 (KA.out _ _ (H.gr 22) H.below) rfl (fun v w1 hr => ?_); obtain ⟨rfl, hb1⟩ := hr; replace H := H.grow hb1; clear hb1; refine hK.out _ _ trivial ?_; clear hK K; simp only [putS]
               refine rg_one (i := 11) (by kernel_rfl) rfl rfl (fun K hK => ?_)
               refine Stp.wp (Stp.bsl (e := 22) (cs := #[.slice pb k cb']) 55 rfl rfl (fun W => by kernel_rfl) H ?_); clear H; intro g55 w1 H; refine hK.out _ _ trivial ?_; clear hK K; simp only [putS]
               refine rg_one (i := 12) (by kernel_rfl) rfl rfl (fun K hK => ?_)
               refine wp_callf rfl ent12 (KB.out _ _ (H.gr 22) H.below) rfl (fun v w1 hr => ?_); obtain ⟨rfl, hb1⟩ := hr; replace H := H.grow hb1; clear hb1; refine hK.out _ _ trivial ?_; clear hK K; simp only [putS]
               refine rt 13 rfl (Yld.of rfl (fun W _ => by go_simp; first | done | with_reducible rfl)) trivial ?_; simp only [putS]
               refine rg_one (i := 18) (by kernel_rfl) rfl rfl (fun K hK => ?_)
               refine wp_callf rfl ent12 (KC.out _ _ (H.gr 22) H.below) rfl (fun v w1 hr => ?_); obtain ⟨rfl, hb1⟩ := hr; replace H := H.grow hb1; clear hb1; refine hK.out _ _ trivial ?_; clear hK K; simp only [putS]
               refine rt 19 rfl (Yld.of rfl (fun W _ => by go_simp; first | done | with_reducible rfl)) trivial ?_; simp only [putS]
               refine rt 20 rfl (Yld.of rfl (fun W _ => by go_simp; first | done | with_reducible rfl)) trivial ?_; simp only [putS]
               refine rt 21 rfl (Yld.move rfl rfl) trivial ?_; simp only [putE]
               refine rg_one (i := 22) (by kernel_rfl) rfl rfl (fun K hK => ?_)
               refine wp_callf rfl ent8 (awake_ok _) rfl (fun v w1 hr => ?_); obtain ⟨rfl, hb1⟩ := hr; replace H := H.grow hb1; clear hb1; refine hK.out _ _ trivial ?_; clear hK K; simp only [putS]
               refine rt 23 rfl (Yld.pick rfl rfl rfl) trivial ?_; simp only [putE]
               refine rt 24 rfl (Yld.assign rfl rfl) trivial ?_; simp only [putE]
               refine rg_done (by kernel_rfl) ?_
               exact ⟨rfl, rfl, rfl, H.below⟩
              refine rc 11 rfl (fun K hK => ?_) ?_
              · as_aux_lemma => -- 11
               refine Stp.wp (Stp.bsl (e := 22) (cs := #[.slice pb k cb']) 55 rfl rfl (fun W => by kernel_rfl) H ?_); clear H; intro g55 w1 H; refine hK.out _ _ trivial ?_; clear hK K; simp only [putS]
               refine rg_one (i := 7) (by kernel_rfl) rfl rfl (fun K hK => ?_)
               refine wp_callf rfl ent12 (KA.out _ _ (H.gr 22) H.below) rfl (fun v w1 hr => ?_); obtain ⟨rfl, hb1⟩ := hr; replace H := H.grow hb1; clear hb1; refine hK.out _ _ trivial ?_; clear hK K; simp only [putS]
               refine rg_one (i := 12) (by kernel_rfl) rfl rfl (fun K hK => ?_)
               refine wp_callf rfl ent12 (KB.out _ _ (H.gr 22) H.below) rfl (fun v w1 hr => ?_); obtain ⟨rfl, hb1⟩ := hr; replace H := H.grow hb1; clear hb1; refine hK.out _ _ trivial ?_; clear hK K; simp only [putS]
               refine rt 13 rfl (Yld.of rfl (fun W _ => by go_simp; first | done | with_reducible rfl)) trivial ?_; simp only [putS]
               refine rg_one (i := 18) (by kernel_rfl) rfl rfl (fun K hK => ?_)
               refine wp_callf rfl ent12 (KC.out _ _ (H.gr 22) H.below) rfl (fun v w1 hr => ?_); obtain ⟨rfl, hb1⟩ := hr; replace H := H.grow hb1; clear hb1; refine hK.out _ _ trivial ?_; clear hK K; simp only [putS]
               refine rt 19 rfl (Yld.of rfl (fun W _ => by go_simp; first | done | with_reducible rfl)) trivial ?_; simp only [putS]
               refine rt 20 rfl (Yld.of rfl (fun W _ => by go_simp; first | done | with_reducible rfl)) trivial ?_; simp only [putS]
               refine rt 21 rfl (Yld.move rfl rfl) trivial ?_; simp only [putE]
               refine rg_one (i := 22) (by kernel_rfl) rfl rfl (fun K hK => ?_)
               refine wp_callf rfl ent8 (awake_ok _) rfl (fun v w1 hr => ?_); obtain ⟨rfl, hb1⟩ := hr; replace H := H.grow hb1; clear hb1; refine hK.out _ _ trivial ?_; clear hK K; simp only [putS]
               refine rt 23 rfl (Yld.pick rfl rfl rfl) trivial ?_; simp only [putE]
               refine rt 24 rfl (Yld.assign rfl rfl) trivial ?_; simp only [putE]
               refine rg_done (by kernel_rfl) ?_
               exact ⟨rfl, rfl, rfl, H.below⟩
              exact AllReadyH.nil
             refine rc 11 rfl (fun K hK => ?_) ?_
             · as_aux_lemma => -- 11
              refine Stp.wp (Stp.bsl (e := 22) (cs := #[.slice pb k cb']) 55 rfl rfl (fun W => by kernel_rfl) H ?_); clear H; intro g55 w1 H; refine hK.out _ _ trivial ?_; clear hK K; simp only [putS]
              refine rg_one (i := 2) (by kernel_rfl) rfl rfl (fun K hK => ?_)
              refine wp_callf rfl ent12 (KD.out _ _ (H.gr 22) (H.gr 5)) rfl (fun v w1 hr => ?_); obtain ⟨rfl, hb1⟩ := hr; replace H := H.grow hb1; clear hb1; refine hK.out _ _ trivial ?_; clear hK K; simp only [putS]
              refine rg_one (i := 7) (by kernel_rfl) rfl rfl (fun K hK => ?_)
              refine wp_callf rfl ent12 (KA.out _ _ (H.gr 22) H.below) rfl (fun v w1 hr => ?_); obtain ⟨rfl, hb1⟩ := hr; replace H := H.grow hb1; clear hb1; refine hK.out _ _ trivial ?_; clear hK K; simp only [putS]
              refine rg_one (i := 12) (by kernel_rfl) rfl rfl (fun K hK => ?_)
              refine wp_callf rfl ent12 (KB.out _ _ (H.gr 22) H.below) rfl (fun v w1 hr => ?_); obtain ⟨rfl, hb1⟩ := hr; replace H := H.grow hb1; clear hb1; refine hK.out _ _ trivial ?_; clear hK K; simp only [putS]
              refine rt 13 rfl (Yld.of rfl (fun W _ => by go_simp; first | done | with_reducible rfl)) trivial ?_; simp only [putS]
              refine rg_one (i := 18) (by kernel_rfl) rfl rfl (fun K hK => ?_)
              refine wp_callf rfl ent12 (KC.out _ _ (H.gr 22) H.below) rfl (fun v w1 hr => ?_); obtain ⟨rfl, hb1⟩ := hr; replace H := H.grow hb1; clear hb1; refine hK.out _ _ trivial ?_; clear hK K; simp only [putS]
              refine rt 19 rfl (Yld.of rfl (fun W _ => by go_simp; first | done | with_reducible rfl)) trivial ?_; simp only [putS]
              refine rt 20 rfl (Yld.of rfl (fun W _ => by go_simp; first | done | with_reducible rfl)) trivial ?_; simp only [putS]
              refine rt 21 rfl (Yld.move rfl rfl) trivial ?_; simp only [putE]
              refine rg_one (i := 22) (by kernel_rfl) rfl rfl (fun K hK => ?_)
              refine wp_callf rfl ent8 (awake_ok _) rfl (fun v w1 hr => ?_); obtain ⟨rfl, hb1⟩ := hr; replace H := H.grow hb1; clear hb1; refine hK.out _ _ trivial ?_; clear hK K; simp only [putS]
              refine rt 23 rfl (Yld.pick rfl rfl rfl) trivial ?_; simp only [putE]
              refine rt 24 rfl (Yld.assign rfl rfl) trivial ?_; simp only [putE]
              refine rg_done (by kernel_rfl) ?_
              exact ⟨rfl, rfl, rfl, H.below⟩
             exact AllReadyH.nil
            refine rc 11 rfl (fun K hK => ?_) ?_
            · as_aux_lemma => -- 11
             refine Stp.wp (Stp.bsl (e := 22) (cs := #[.slice pb k cb']) 55 rfl rfl (fun W => by kernel_rfl) H ?_); clear H; intro g55 w1 H; refine hK.out _ _ trivial ?_; clear hK K; simp only [putS]
             refine ra [2, 6] ?_
             refine rc 2 rfl (fun K hK => ?_) ?_
             · as_aux_lemma => -- 2
              refine wp_callf rfl ent12 (KD.out _ _ (H.gr 22) (H.gr 5)) rfl (fun v w1 hr => ?_); obtain ⟨rfl, hb1⟩ := hr; replace H := H.grow hb1; clear hb1; refine hK.out _ _ trivial ?_; clear hK K; simp only [putS]
              refine rg_one (i := 6) (by kernel_rfl) rfl rfl (fun K hK => ?_)
              refine Stp.wp (Stp.bsl (e := 22) (cs := #[.slice pa k ca]) 50 rfl rfl (fun W => by kernel_rfl) H ?_); clear H; intro g50 w1 H; refine hK.out _ _ trivial ?_; clear hK K; simp only [putS]
              refine rg_one (i := 7) (by kernel_rfl) rfl rfl (fun K hK => ?_)
              refine wp_callf rfl ent12 (KA.out _ _ (H.gr 22) H.below) rfl (fun v w1 hr => ?_); obtain ⟨rfl, hb1⟩ := hr; replace H := H.grow hb1; clear hb1; refine hK.out _ _ trivial ?_; clear hK K; simp only [putS]
              refine rg_one (i := 12) (by kernel_rfl) rfl rfl (fun K hK => ?_)
              refine wp_callf rfl ent12 (KB.out _ _ (H.gr 22) H.below) rfl (fun v w1 hr => ?_); obtain ⟨rfl, hb1⟩ := hr; replace H := H.grow hb1; clear hb1; refine hK.out _ _ trivial ?_; clear hK K; simp only [putS]
              refine rt 13 rfl (Yld.of rfl (fun W _ => by go_simp; first | done | with_reducible rfl)) trivial ?_; simp only [putS]
              refine rg_one (i := 18) (by kernel_rfl) rfl rfl (fun K hK => ?_)
              refine wp_callf rfl ent12 (KC.out _ _ (H.gr 22) H.below) rfl (fun v w1 hr => ?_); obtain ⟨rfl, hb1⟩ := hr; replace H := H.grow hb1; clear hb1; refine hK.out _ _ trivial ?_; clear hK K; simp only [putS]
              refine rt 19 rfl (Yld.of rfl (fun W _ => by go_simp; first | done | with_reducible rfl)) trivial ?_; simp only [putS]
              refine rt 20 rfl (Yld.of rfl (fun W _ => by go_simp; first | done | with_reducible rfl)) trivial ?_; simp only [putS]
              refine rt 21 rfl (Yld.move rfl rfl) trivial ?_; simp only [putE]
              refine rg_one (i := 22) (by kernel_rfl) rfl rfl (fun K hK => ?_)
              refine wp_callf rfl ent8 (awake_ok _) rfl (fun v w1 hr => ?_); obtain ⟨rfl, hb1⟩ := hr; replace H := H.grow hb1; clear hb1; refine hK.out _ _ trivial ?_; clear hK K; simp only [putS]
              refine rt 23 rfl (Yld.pick rfl rfl rfl) trivial ?_; simp only [putE]
              refine rt 24 rfl (Yld.assign rfl rfl) trivial ?_; simp only [putE]
              refine rg_done (by kernel_rfl) ?_
              exact ⟨rfl, rfl, rfl, H.below⟩
             refine rc 6 rfl (fun K hK => ?_) ?_
             · as_aux_lemma => -- 6
              refine Stp.wp (Stp.bsl (e := 22) (cs := #[.slice pa k ca]) 50 rfl rfl (fun W => by kernel_rfl) H ?_); clear H; intro g50 w1 H; refine hK.out _ _ trivial ?_; clear hK K; simp only [putS]
              refine rg_one (i := 2) (by kernel_rfl) rfl rfl (fun K hK => ?_)
              refine wp_callf rfl ent12 (KD.out _ _ (H.gr 22) (H.gr 5)) rfl (fun v w1 hr => ?_); obtain ⟨rfl, hb1⟩ := hr; replace H := H.grow hb1; clear hb1; refine hK.out _ _ trivial ?_; clear hK K; simp only [putS]
              refine rg_one (i := 7) (by kernel_rfl) rfl rfl (fun K hK => ?_)
              refine wp_callf rfl ent12 (KA.out _ _ (H.gr 22) H.below) rfl (fun v w1 hr => ?_); obtain ⟨rfl, hb1⟩ := hr; replace H := H.grow hb1; clear hb1; refine hK.out _ _ trivial ?_; clear hK K; simp only [putS]
              refine rg_one (i := 12) (by kernel_rfl) rfl rfl (fun K hK => ?_)
              refine wp_callf rfl ent12 (KB.out _ _ (H.gr 22) H.below) rfl (fun v w1 hr => ?_); obtain ⟨rfl, hb1⟩ := hr; replace H := H.grow hb1; clear hb1; refine hK.out _ _ trivial ?_; clear hK K; simp only [putS]
              refine rt 13 rfl (Yld.of rfl (fun W _ => by go_simp; first | done | with_reducible rfl)) trivial ?_; simp only [putS]
              refine rg_one (i := 18) (by kernel_rfl) rfl rfl (fun K hK => ?_)
              refine wp_callf rfl ent12 (KC.out _ _ (H.gr 22) H.below) rfl (fun v w1 hr => ?_); obtain ⟨rfl, hb1⟩ := hr; replace H := H.grow hb1; clear hb1; refine hK.out _ _ trivial ?_; clear hK K; simp only [putS]
              refine rt 19 rfl (Yld.of rfl (fun W _ => by go_simp; first | done | with_reducible rfl)) trivial ?_; simp only [putS]
              refine rt 20 rfl (Yld.of rfl (fun W _ => by go_simp; first | done | with_reducible rfl)) trivial ?_; simp only [putS]
              refine rt 21 rfl (Yld.move rfl rfl) trivial ?_; simp only [putE]
              refine rg_one (i := 22) (by kernel_rfl) rfl rfl (fun K hK => ?_)
              refine wp_callf rfl ent8 (awake_ok _) rfl (fun v w1 hr => ?_); obtain ⟨rfl, hb1⟩ := hr; replace H := H.grow hb1; clear hb1; refine hK.out _ _ trivial ?_; clear hK K; simp only [putS]
              refine rt 23 rfl (Yld.pick rfl rfl rfl) trivial ?_; simp only [putE]
              refine rt 24 rfl (Yld.assign rfl rfl) trivial ?_; simp only [putE]
              refine rg_done (by kernel_rfl) ?_
              exact ⟨rfl, rfl, rfl, H.below⟩
             exact AllReadyH.nil
            exact AllReadyH.nil
           refine rc 6 rfl (fun K hK => ?_) ?_
           · as_aux_lemma => -- 6
            refine Stp.wp (Stp.bsl (e := 22) (cs := #[.slice pa k ca]) 50 rfl rfl (fun W => by kernel_rfl) H ?_); clear H; intro g50 w1 H; refine hK.out _ _ trivial ?_; clear hK K; simp only [putS]
            refine ra [1, 11] ?_
            refine rc 1 rfl (fun K hK => ?_) ?_
            · as_aux_lemma => -- 1
             refine Stp.wp (Stp.bsl (e := 22) (cs := #[.slice (some ⟨g21, 0, none⟩) k k]) 45 rfl rfl (fun W => by kernel_rfl) H ?_); clear H; intro g45 w1 H; refine hK.out _ _ trivial ?_; clear hK K; simp only [putS]
             refine ra [2, 11] ?_
             refine rc 2 rfl (fun K hK => ?_) ?_
             · as_aux_lemma => -- 2
              refine wp_callf rfl ent12 (KD.out _ _ (H.gr 22) (H.gr 5)) rfl (fun v w1 hr => ?_); obtain ⟨rfl, hb1⟩ := hr; replace H := H.grow hb1; clear hb1; refine hK.out _ _ trivial ?_; clear hK K; simp only [putS]
              refine ra [7, 11] ?_
              refine rc 7 rfl (fun K hK => ?_) ?_
              · as_aux_lemma => -- 7
               refine wp_callf rfl ent12 (KA.out _ _ (H.gr 22) H.below) rfl (fun v w1 hr => ?_); obtain ⟨rfl, hb1⟩ := hr; replace H := H.grow hb1; clear hb1; refine hK.out _ _ trivial ?_; clear hK K; simp only [putS]
               refine rg_one (i := 11) (by kernel_rfl) rfl rfl (fun K hK => ?_)
               refine Stp.wp (Stp.bsl (e := 22) (cs := #[.slice pb k cb']) 55 rfl rfl (fun W => by kernel_rfl) H ?_); clear H; intro g55 w1 H; refine hK.out _ _ trivial ?_; clear hK K; simp only [putS]
               refine rg_one (i := 12) (by kernel_rfl) rfl rfl (fun K hK => ?_)
               refine wp_callf rfl ent12 (KB.out _ _ (H.gr 22) H.below) rfl (fun v w1 hr => ?_); obtain ⟨rfl, hb1⟩ := hr; replace H := H.grow hb1; clear hb1; refine hK.out _ _ trivial ?_; clear hK K; simp only [putS]
               refine rt 13 rfl (Yld.of rfl (fun W _ => by go_simp; first | done | with_reducible rfl)) trivial ?_; simp only [putS]
               refine rg_one (i := 18) (by kernel_rfl) rfl rfl (fun K hK => ?_)
               refine wp_callf rfl ent12 (KC.out _ _ (H.gr 22) H.below) rfl (fun v w1 hr => ?_); obtain ⟨rfl, hb1⟩ := hr; replace H := H.grow hb1; clear hb1; refine hK.out _ _ trivial ?_; clear hK K; simp only [putS]
               refine rt 19 rfl (Yld.of rfl (fun W _ => by go_simp; first | done | with_reducible rfl)) trivial ?_; simp only [putS]
               refine rt 20 rfl (Yld.of rfl (fun W _ => by go_simp; first | done | with_reducible rfl)) trivial ?_; simp only [putS]
               refine rt 21 rfl (Yld.move rfl rfl) trivial ?_; simp only [putE]
               refine rg_one (i := 22) (by kernel_rfl) rfl rfl (fun K hK => ?_)
               refine wp_callf rfl ent8 (awake_ok _) rfl (fun v w1 hr => ?_); obtain ⟨rfl, hb1⟩ := hr; replace H := H.grow hb1; clear hb1; refine hK.out _ _ trivial ?_; clear hK K; simp only [putS]
               refine rt 23 rfl (Yld.pick rfl rfl rfl) trivial ?_; simp only [putE]
               refine rt 24 rfl (Yld.assign rfl rfl) trivial ?_; simp only [putE]
               refine rg_done (by kernel_rfl) ?_
               exact ⟨rfl, rfl, rfl, H.below⟩
              refine rc 11 rfl (fun K hK => ?_) ?_
              · as_aux_lemma => -- 11
               refine Stp.wp (Stp.bsl (e := 22) (cs := #[.slice pb k cb']) 55 rfl rfl (fun W => by kernel_rfl) H ?_); clear H; intro g55 w1 H; refine hK.out _ _ trivial ?_; clear hK K; simp only [putS]
               refine rg_one (i := 7) (by kernel_rfl) rfl rfl (fun K hK => ?_)
               refine wp_callf rfl ent12 (KA.out _ _ (H.gr 22) H.below) rfl (fun v w1 hr => ?_); obtain ⟨rfl, hb1⟩ := hr; replace H := H.grow hb1; clear hb1; refine hK.out _ _ trivial ?_; clear hK K; simp only [putS]
               refine rg_one (i := 12) (by kernel_rfl) rfl rfl (fun K hK => ?_)
               refine wp_callf rfl ent12 (KB.out _ _ (H.gr 22) H.below) rfl (fun v w1 hr => ?_); obtain ⟨rfl, hb1⟩ := hr; replace H := H.grow hb1; clear hb1; refine hK.out _ _ trivial ?_; clear hK K; simp only [putS]
               refine rt 13 rfl (Yld.of rfl (fun W _ => by go_simp; first | done | with_reducible rfl)) trivial ?_; simp only [putS]
               refine rg_one (i := 18) (by kernel_rfl) rfl rfl (fun K hK => ?_)
               refine wp_callf rfl ent12 (KC.out _ _ (H.gr 22) H.below) rfl (fun v w1 hr => ?_); obtain ⟨rfl, hb1⟩ := hr; replace H := H.grow hb1; clear hb1; refine hK.out _ _ trivial ?_; clear hK K; simp only [putS]
               refine rt 19 rfl (Yld.of rfl (fun W _ => by go_simp; first | done | with_reducible rfl)) trivial ?_; simp only [putS]
               refine rt 20 rfl (Yld.of rfl (fun W _ => by go_simp; first | done | with_reducible rfl)) trivial ?_; simp only [putS]
               refine rt 21 rfl (Yld.move rfl rfl) trivial ?_; simp only [putE]
               refine rg_one (i := 22) (by kernel_rfl) rfl rfl (fun K hK => ?_)
               refine wp_callf rfl ent8 (awake_ok _) rfl (fun v w1 hr => ?_); obtain ⟨rfl, hb1⟩ := hr; replace H := H.grow hb1; clear hb1; refine hK.out _ _ trivial ?_; clear hK K; simp only [putS]
               refine rt 23 rfl (Yld.pick rfl rfl rfl) trivial ?_; simp only [putE]
               refine rt 24 rfl (Yld.assign rfl rfl) trivial ?_; simp only [putE]
               refine rg_done (by kernel_rfl) ?_
               exact ⟨rfl, rfl, rfl, H.below⟩
              exact AllReadyH.nil
             refine rc 11 rfl (fun K hK => ?_) ?_
             · as_aux_lemma => -- 11
              refine Stp.wp (Stp.bsl (e := 22) (cs := #[.slice pb k cb']) 55 rfl rfl (fun W => by kernel_rfl) H ?_); clear H; intro g55 w1 H; refine hK.out _ _ trivial ?_; clear hK K; simp only [putS]
              refine rg_one (i := 2) (by kernel_rfl) rfl rfl (fun K hK => ?_)
              refine wp_callf rfl ent12 (KD.out _ _ (H.gr 22) (H.gr 5)) rfl (fun v w1 hr => ?_); obtain ⟨rfl, hb1⟩ := hr; replace H := H.grow hb1; clear hb1; refine hK.out _ _ trivial ?_; clear hK K; simp only [putS]
              refine rg_one (i := 7) (by kernel_rfl) rfl rfl (fun K hK => ?_)
              refine wp_callf rfl ent12 (KA.out _ _ (H.gr 22) H.below) rfl (fun v w1 hr => ?_); obtain ⟨rfl, hb1⟩ := hr; replace H := H.grow hb1; clear hb1; refine hK.out _ _ trivial ?_; clear hK K; simp only [putS]
              refine rg_one (i := 12) (by kernel_rfl) rfl rfl (fun K hK => ?_)
              refine wp_callf rfl ent12 (KB.out _ _ (H.gr 22) H.below) rfl (fun v w1 hr => ?_); obtain ⟨rfl, hb1⟩ := hr; replace H := H.grow hb1; clear hb1; refine hK.out _ _ trivial ?_; clear hK K; simp only [putS]
              refine rt 13 rfl (Yld.of rfl (fun W _ => by go_simp; first | done | with_reducible rfl)) trivial ?_; simp only [putS]
              refine rg_one (i := 18) (by kernel_rfl) rfl rfl (fun K hK => ?_)
              refine wp_callf rfl ent12 (KC.out _ _ (H.gr 22) H.below) rfl (fun v w1 hr => ?_); obtain ⟨rfl, hb1⟩ := hr; replace H := H.grow hb1; clear hb1; refine hK.out _ _ trivial ?_; clear hK K; simp only [putS]
              refine rt 19 rfl (Yld.of rfl (fun W _ => by go_simp; first | done | with_reducible rfl)) trivial ?_; simp only [putS]
              refine rt 20 rfl (Yld.of rfl (fun W _ => by go_simp; first | done | with_reducible rfl)) trivial ?_; simp only [putS]
              refine rt 21 rfl (Yld.move rfl rfl) trivial ?_; simp only [putE]
              refine rg_one (i := 22) (by kernel_rfl) rfl rfl (fun K hK => ?_)
              refine wp_callf rfl ent8 (awake_ok _) rfl (fun v w1 hr => ?_); obtain ⟨rfl, hb1⟩ := hr; replace H := H.grow hb1; clear hb1; refine hK.out _ _ trivial ?_; clear hK K; simp only [putS]
              refine rt 23 rfl (Yld.pick rfl rfl rfl) trivial ?_; simp only [putE]
              refine rt 24 rfl (Yld.assign rfl rfl) trivial ?_; simp only [putE]
              refine rg_done (by kernel_rfl) ?_
              exact ⟨rfl, rfl, rfl, H.below⟩
             exact AllReadyH.nil
            refine rc 11 rfl (fun K hK => ?_) ?_
            · as_aux_lemma => -- 11
             refine Stp.wp (Stp.bsl (e := 22) (cs := #[.slice pb k cb']) 55 rfl rfl (fun W => by kernel_rfl) H ?_); clear H; intro g55 w1 H; refine hK.out _ _ trivial ?_; clear hK K; simp only [putS]
             refine rg_one (i := 1) (by kernel_rfl) rfl rfl (fun K hK => ?_)
             refine Stp.wp (Stp.bsl (e := 22) (cs := #[.slice (some ⟨g21, 0, none⟩) k k]) 45 rfl rfl (fun W => by kernel_rfl) H ?_); clear H; intro g45 w1 H; refine hK.out _ _ trivial ?_; clear hK K; simp only [putS]
             refine rg_one (i := 2) (by kernel_rfl) rfl rfl (fun K hK => ?_)
             refine wp_callf rfl ent12 (KD.out _ _ (H.gr 22) (H.gr 5)) rfl (fun v w1 hr => ?_); obtain ⟨rfl, hb1⟩ := hr; replace H := H.grow hb1; clear hb1; refine hK.out _ _ trivial ?_; clear hK K; simp only [putS]
             refine rg_one (i := 7) (by kernel_rfl) rfl rfl (fun K hK => ?_)
             refine wp_callf rfl ent12 (KA.out _ _ (H.gr 22) H.below) rfl (fun v w1 hr => ?_); obtain ⟨rfl, hb1⟩ := hr; replace H := H.grow hb1; clear hb1; refine hK.out _ _ trivial ?_; clear hK K; simp only [putS]
             refine rg_one (i := 12) (by kernel_rfl) rfl rfl (fun K hK => ?_)
             refine wp_callf rfl ent12 (KB.out _ _ (H.gr 22) H.below) rfl (fun v w1 hr => ?_); obtain ⟨rfl, hb1⟩ := hr; replace H := H.grow hb1; clear hb1; refine hK.out _ _ trivial ?_; clear hK K; simp only [putS]
             refine rt 13 rfl (Yld.of rfl (fun W _ => by go_simp; first | done | with_reducible rfl)) trivial ?_; simp only [putS]
             refine rg_one (i := 18) (by kernel_rfl) rfl rfl (fun K hK => ?_)
             refine wp_callf rfl ent12 (KC.out _ _ (H.gr 22) H.below) rfl (fun v w1 hr => ?_); obtain ⟨rfl, hb1⟩ := hr; replace H := H.grow hb1; clear hb1; refine hK.out _ _ trivial ?_; clear hK K; simp only [putS]
             refine rt 19 rfl (Yld.of rfl (fun W _ => by go_simp; first | done | with_reducible rfl)) trivial ?_; simp only [putS]
             refine rt 20 rfl (Yld.of rfl (fun W _ => by go_simp; first | done | with_reducible rfl)) trivial ?_; simp only [putS]
             refine rt 21 rfl (Yld.move rfl rfl) trivial ?_; simp only [putE]
             refine rg_one (i := 22) (by kernel_rfl) rfl rfl (fun K hK => ?_)
             refine wp_callf rfl ent8 (awake_ok _) rfl (fun v w1 hr => ?_); obtain ⟨rfl, hb1⟩ := hr; replace H := H.grow hb1; clear hb1; refine hK.out _ _ trivial ?_; clear hK K; simp only [putS]
             refine rt 23 rfl (Yld.pick rfl rfl rfl) trivial ?_; simp only [putE]
             refine rt 24 rfl (Yld.assign rfl rfl) trivial ?_; simp only [putE]
             refine rg_done (by kernel_rfl) ?_
             exact ⟨rfl, rfl, rfl, H.below⟩
            exact AllReadyH.nil
           refine rc 11 rfl (fun K hK => ?_) ?_
           · as_aux_lemma => -- 11
            refine Stp.wp (Stp.bsl (e := 22) (cs := #[.slice pb k cb']) 55 rfl rfl (fun W => by kernel_rfl) H ?_); clear H; intro g55 w1 H; refine hK.out _ _ trivial ?_; clear hK K; simp only [putS]
            refine ra [1, 6] ?_
            refine rc 1 rfl (fun K hK => ?_) ?_
            · as_aux_lemma => -- 1
             refine Stp.wp (Stp.bsl (e := 22) (cs := #[.slice (some ⟨g21, 0, none⟩) k k]) 45 rfl rfl (fun W => by kernel_rfl) H ?_); clear H; intro g45 w1 H; refine hK.out _ _ trivial ?_; clear hK K; simp only [putS]
             refine ra [2, 6] ?_
             refine rc 2 rfl (fun K hK => ?_) ?_
             · as_aux_lemma => -- 2
              refine wp_callf rfl ent12 (KD.out _ _ (H.gr 22) (H.gr 5)) rfl (fun v w1 hr => ?_); obtain ⟨rfl, hb1⟩ := hr; replace H := H.grow hb1; clear hb1; refine hK.out _ _ trivial ?_; clear hK K; simp only [putS]
              refine rg_one (i := 6) (by kernel_rfl) rfl rfl (fun K hK => ?_)
              refine Stp.wp (Stp.bsl (e := 22) (cs := #[.slice pa k ca]) 50 rfl rfl (fun W => by kernel_rfl) H ?_); clear H; intro g50 w1 H; refine hK.out _ _ trivial ?_; clear hK K; simp only [putS]
              refine rg_one (i := 7) (by kernel_rfl) rfl rfl (fun K hK => ?_)
              refine wp_callf rfl ent12 (KA.out _ _ (H.gr 22) H.below) rfl (fun v w1 hr => ?_); obtain ⟨rfl, hb1⟩ := hr; replace H := H.grow hb1; clear hb1; refine hK.out _ _ trivial ?_; clear hK K; simp only [putS]
              refine rg_one (i := 12) (by kernel_rfl) rfl rfl (fun K hK => ?_)
              refine wp_callf rfl ent12 (KB.out _ _ (H.gr 22) H.below) rfl (fun v w1 hr => ?_); obtain ⟨rfl, hb1⟩ := hr; replace H := H.grow hb1; clear hb1; refine hK.out _ _ trivial ?_; clear hK K; simp only [putS]
              refine rt 13 rfl (Yld.of rfl (fun W _ => by go_simp; first | done | with_reducible rfl)) trivial ?_; simp only [putS]
              refine rg_one (i := 18) (by kernel_rfl) rfl rfl (fun K hK => ?_)
              refine wp_callf rfl ent12 (KC.out _ _ (H.gr 22) H.below) rfl (fun v w1 hr => ?_); obtain ⟨rfl, hb1⟩ := hr; replace H := H.grow hb1; clear hb1; refine hK.out _ _ trivial ?_; clear hK K; simp only [putS]
              refine rt 19 rfl (Yld.of rfl (fun W _ => by go_simp; first | done | with_reducible rfl)) trivial ?_; simp only [putS]
              refine rt 20 rfl (Yld.of rfl (fun W _ => by go_simp; first | done | with_reducible rfl)) trivial ?_; simp only [putS]
              refine rt 21 rfl (Yld.move rfl rfl) trivial ?_; simp only [putE]
              refine rg_one (i := 22) (by kernel_rfl) rfl rfl (fun K hK => ?_)
              refine wp_callf rfl ent8 (awake_ok _) rfl (fun v w1 hr => ?_); obtain ⟨rfl, hb1⟩ := hr; replace H := H.grow hb1; clear hb1; refine hK.out _ _ trivial ?_; clear hK K; simp only [putS]
              refine rt 23 rfl (Yld.pick rfl rfl rfl) trivial ?_; simp only [putE]
              refine rt 24 rfl (Yld.assign rfl rfl) trivial ?_; simp only [putE]
              refine rg_done (by kernel_rfl) ?_
              exact ⟨rfl, rfl, rfl, H.below⟩
             refine rc 6 rfl (fun K hK => ?_) ?_
             · as_aux_lemma => -- 6
              refine Stp.wp (Stp.bsl (e := 22) (cs := #[.slice pa k ca]) 50 rfl rfl (fun W => by kernel_rfl) H ?_); clear H; intro g50 w1 H; refine hK.out _ _ trivial ?_; clear hK K; simp only [putS]
              refine rg_one (i := 2) (by kernel_rfl) rfl rfl (fun K hK => ?_)
              refine wp_callf rfl ent12 (KD.out _ _ (H.gr 22) (H.gr 5)) rfl (fun v w1 hr => ?_); obtain ⟨rfl, hb1⟩ := hr; replace H := H.grow hb1; clear hb1; refine hK.out _ _ trivial ?_; clear hK K; simp only [putS]
              refine rg_one (i := 7) (by kernel_rfl) rfl rfl (fun K hK => ?_)
              refine wp_callf rfl ent12 (KA.out _ _ (H.gr 22) H.below) rfl (fun v w1 hr => ?_); obtain ⟨rfl, hb1⟩ := hr; replace H := H.grow hb1; clear hb1; refine hK.out _ _ trivial ?_; clear hK K; simp only [putS]
              refine rg_one (i := 12) (by kernel_rfl) rfl rfl (fun K hK => ?_)
              refine wp_callf rfl ent12 (KB.out _ _ (H.gr 22) H.below) rfl (fun v w1 hr => ?_); obtain ⟨rfl, hb1⟩ := hr; replace H := H.grow hb1; clear hb1; refine hK.out _ _ trivial ?_; clear hK K; simp only [putS]
              refine rt 13 rfl (Yld.of rfl (fun W _ => by go_simp; first | done | with_reducible rfl)) trivial ?_; simp only [putS]
              refine rg_one (i := 18) (by kernel_rfl) rfl rfl (fun K hK => ?_)
              refine wp_callf rfl ent12 (KC.out _ _ (H.gr 22) H.below) rfl (fun v w1 hr => ?_); obtain ⟨rfl, hb1⟩ := hr; replace H := H.grow hb1; clear hb1; refine hK.out _ _ trivial ?_; clear hK K; simp only [putS]
              refine rt 19 rfl (Yld.of rfl (fun W _ => by go_simp; first | done | with_reducible rfl)) trivial ?_; simp only [putS]
              refine rt 20 rfl (Yld.of rfl (fun W _ => by go_simp; first | done | with_reducible rfl)) trivial ?_; simp only [putS]
              refine rt 21 rfl (Yld.move rfl rfl) trivial ?_; simp only [putE]
              refine rg_one (i := 22) (by kernel_rfl) rfl rfl (fun K hK => ?_)
              refine wp_callf rfl ent8 (awake_ok _) rfl (fun v w1 hr => ?_); obtain ⟨rfl, hb1⟩ := hr; replace H := H.grow hb1; clear hb1; refine hK.out _ _ trivial ?_; clear hK K; simp only [putS]
              refine rt 23 rfl (Yld.pick rfl rfl rfl) trivial ?_; simp only [putE]
              refine rt 24 rfl (Yld.assign rfl rfl) trivial ?_; simp only [putE]
              refine rg_done (by kernel_rfl) ?_
              exact ⟨rfl, rfl, rfl, H.below⟩
             exact AllReadyH.nil
            refine rc 6 rfl (fun K hK => ?_) ?_
            · as_aux_lemma => -- 6
             refine Stp.wp (Stp.bsl (e := 22) (cs := #[.slice pa k ca]) 50 rfl rfl (fun W => by kernel_rfl) H ?_); clear H; intro g50 w1 H; refine hK.out _ _ trivial ?_; clear hK K; simp only [putS]
             refine rg_one (i := 1) (by kernel_rfl) rfl rfl (fun K hK => ?_)
             refine Stp.wp (Stp.bsl (e := 22) (cs := #[.slice (some ⟨g21, 0, none⟩) k k]) 45 rfl rfl (fun W => by kernel_rfl) H ?_); clear H; intro g45 w1 H; refine hK.out _ _ trivial ?_; clear hK K; simp only [putS]
             refine rg_one (i := 2) (by kernel_rfl) rfl rfl (fun K hK => ?_)
             refine wp_callf rfl ent12 (KD.out _ _ (H.gr 22) (H.gr 5)) rfl (fun v w1 hr => ?_); obtain ⟨rfl, hb1⟩ := hr; replace H := H.grow hb1; clear hb1; refine hK.out _ _ trivial ?_; clear hK K; simp only [putS]
             refine rg_one (i := 7) (by kernel_rfl) rfl rfl (fun K hK => ?_)
             refine wp_callf rfl ent12 (KA.out _ _ (H.gr 22) H.below) rfl (fun v w1 hr => ?_); obtain ⟨rfl, hb1⟩ := hr; replace H := H.grow hb1; clear hb1; refine hK.out _ _ trivial ?_; clear hK K; simp only [putS]
             refine rg_one (i := 12) (by kernel_rfl) rfl rfl (fun K hK => ?_)
             refine wp_callf rfl ent12 (KB.out _ _ (H.gr 22) H.below) rfl (fun v w1 hr => ?_); obtain ⟨rfl, hb1⟩ := hr; replace H := H.grow hb1; clear hb1; refine hK.out _ _ trivial ?_; clear hK K; simp only [putS]
             refine rt 13 rfl (Yld.of rfl (fun W _ => by go_simp; first | done | with_reducible rfl)) trivial ?_; simp only [putS]
             refine rg_one (i := 18) (by kernel_rfl) rfl rfl (fun K hK => ?_)
             refine wp_callf rfl ent12 (KC.out _ _ (H.gr 22) H.below) rfl (fun v w1 hr => ?_); obtain ⟨rfl, hb1⟩ := hr; replace H := H.grow hb1; clear hb1; refine hK.out _ _ trivial ?_; clear hK K; simp only [putS]
             refine rt 19 rfl (Yld.of rfl (fun W _ => by go_simp; first | done | with_reducible rfl)) trivial ?_; simp only [putS]
             refine rt 20 rfl (Yld.of rfl (fun W _ => by go_simp; first | done | with_reducible rfl)) trivial ?_; simp only [putS]
             refine rt 21 rfl (Yld.move rfl rfl) trivial ?_; simp only [putE]
             refine rg_one (i := 22) (by kernel_rfl) rfl rfl (fun K hK => ?_)
             refine wp_callf rfl ent8 (awake_ok _) rfl (fun v w1 hr => ?_); obtain ⟨rfl, hb1⟩ := hr; replace H := H.grow hb1; clear hb1; refine hK.out _ _ trivial ?_; clear hK K; simp only [putS]
             refine rt 23 rfl (Yld.pick rfl rfl rfl) trivial ?_; simp only [putE]
             refine rt 24 rfl (Yld.assign rfl rfl) trivial ?_; simp only [putE]
             refine rg_done (by kernel_rfl) ?_
             exact ⟨rfl, rfl, rfl, H.below⟩
            exact AllReadyH.nil
           exact AllReadyH.nil
          exact AllReadyH.nil
        rintro a' w' ⟨h6, hd, hb⟩
        go_wp2
        refine bodyPost_ret (results_tmp rfl _ _ _) hd ?_
        rw [h6]
        exact ⟨_, rfl, rfl, hb⟩
set_option maxRecDepth 100000 in
theorem crcMixes_lifted (os : Os) (started : os.Started) (H : Type) (enc : TypeId × Value → H) :
    ReturnsInHanded {} Try.checked os 4 .any (Rows.crcMixesSpec.pre6 enc Try.prog Try.f4 Rows.crcMixesRow.domain false) (Rows.crcMixesSpec.post enc Try.prog Try.f4 false true false false) := by
  refine law_lifted (C := Try.checked) own started (by kernel_rfl) Try.func4 laidOut rfl Try.underlying4 rfl (by kernel_rfl) (fun ds hd => ?_)
    (ChangeSpec.witness6 (enc := enc) (C := Try.checked) false ⟨#[], #[.slice none 0 0, .slice none 0 0, .slice none 0 0], []⟩ 8 (by kernel_rfl) (by kernel_rfl) (by kernel_rfl) (by kernel_rfl)) ?_
  · match ds, hd with
    | [d0, d1, d2], _ => exact ⟨rfl, rfl, rfl⟩
  intro W base args ds p hval hA
  rw [Try.params4] at hA hval
  obtain ⟨v0, vs0, d0, ds0, p0, q0, hargs, rfl, rfl, h0, r0⟩ := trodAll_cons hA
  obtain ⟨v1, vs1, d1, ds1, p1, q1, rfl, rfl, rfl, h1, r1⟩ := trodAll_cons r0
  obtain ⟨v2, vs2, d2, ds2, p2, q2, rfl, rfl, rfl, h2, r2⟩ := trodAll_cons r1
  obtain ⟨rfl, rfl, rfl⟩ := trodAll_nil r2
  obtain rfl : args = #[v0, v1, v2] := by cases args; simp_all
  obtain ⟨la, lab, las⟩ := open_bs (hval 0 22 v0 rfl rfl) h0
  have lac := cap_in Try.underlying22 (hval 0 22 v0 rfl rfl) h0
  obtain ⟨lb, lbb, lbs⟩ := open_bs (hval 1 22 v1 rfl rfl) h1
  have lbc := cap_in Try.underlying22 (hval 1 22 v1 rfl rfl) h1
  obtain ⟨lc, lcb, lcs⟩ := open_bs (hval 2 22 v2 rfl rfl) h2
  have lcc := cap_in Try.underlying22 (hval 2 22 v2 rfl rfl) h2
  exact law_mixes _ _ _ la lb lc lab lbb lcb W las lbs lcs lac lbc lcc
theorem crcMixes_over : Rows.crcMixesRow.holds Try.pinned (OpenSpec.ofChange Rows.crcMixesSpec) :=
  OpenClaim.holds_of_wide 4 Try.f4 rfl rfl rfl rfl rfl rfl rfl ⟨rfl, rfl, rfl, rfl, rfl⟩ rfl rfl rfl rfl rfl (by kernel_rfl) Try.func4 (by kernel_rfl)
    (of_decide_eq_true (by kernel_rfl)) (by unfold Func.isWrapper; first | (rw [if_pos (by decide +kernel)]; kernel_rfl) | (rw [if_neg (by decide +kernel)]; exact ⟨rfl, rfl⟩))
    (fun os started H enc _ => crcMixes_lifted os started H enc)
theorem crcMixes_holds : Rows.CrcMixesSaid := crcMixes_over
#print axioms crcMixes_holds
end Go.Proofs.Ytnmahekaidgnmaa
