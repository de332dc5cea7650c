/- Contracts of layer 2's Seal and Open, by program and by reference; the bounds stand in each. -/
import Derived.Test.YtcjbippgjhgoiaaCrc3
import Derived.Lib.SliceRun
namespace Go.Proofs.Ytcjbippgjhgoiaa
open Go.ChangeShapes Go.WideShapes Go.ChangeAt Go.RowKit
set_option linter.unusedVariables false
set_option linter.unusedSimpArgs false
theorem numB_put (n W : Nat) : ∀ k, k ≤ W → numB (putB n W k) = n / 256 ^ (W - k) % 256 ^ k := by
  intro k
  induction k with
  | zero => intro _; simp [putB, numB, Nat.mod_one]
  | succ k ih =>
    intro hk
    rw [putB_succ, numB_snoc, ih (by omega)]
    have e1 : W - k = (W - (k + 1)) + 1 := by omega
    have e2 : W - 1 - k = W - (k + 1) := by omega
    rw [e1, e2, Nat.pow_succ, ← Nat.div_div_eq_div_mul]
    generalize n / 256 ^ (W - (k + 1)) = m
    rw [Nat.pow_succ, Nat.mul_comm (256 ^ k) 256, Nat.mod_mul]
    omega
/-- What is sealed. -/
def sealL (l : List Nat) : List Nat := l ++ putB (sumC l) 4 4
theorem sealL_len (l : List Nat) : (sealL l).length = l.length + 4 := by simp [sealL, putB_len]
theorem putB_byte (n W k : Nat) : ∀ x ∈ putB n W k, x < 256 := fun x hx => by
  unfold putB at hx
  obtain ⟨j, _, rfl⟩ := List.mem_map.1 hx
  exact Nat.mod_lt _ (by omega)
theorem sealL_byte {l : List Nat} (h : ∀ x ∈ l, x < 256) : ∀ x ∈ sealL l, x < 256 := fun x hx => by
  rcases List.mem_append.1 hx with h1 | h1
  · exact h x h1
  · exact putB_byte _ _ _ x h1
set_option maxRecDepth 100000 in
theorem seal_ok (v : Value) (l : List Nat) (hl : l.length ≤ 100000) (hx : ∀ x ∈ l, x < 256) (w : World) (hs : Sl w 1 l.length v (elB l)) :
    Calls Try.prog 53 #[v] w (Ret fun v' w' => (∃ ap cp, v' = .slice ap (l.length + 4) cp) ∧ w'.ownsRow w.heap.size 5 1 v' (l.length + 4) (bv (sealL l)) ∧ Below w.heap.size w w') := by
  have hs' := hs
  obtain ⟨ad, c, rfl, hm⟩ := hs'.len
  have H := St.init w
  have HX := Lib.hid hx
  obtain ⟨S, hS⟩ : ∃ S, sumC l = S := ⟨_, rfl⟩
  have hSl : S < 4294967296 := by rw [← hS]; exact sumC_lt hx
  have HSUM := Lib.hid hS
  have hw1 : IntKind.u64.wrap (S : Int) = (S : Int) := wrap_u64_in _ (by omega) (by omega)
  clear hx hS
  go_enter Try.func53, Try.ntmps53
  go_wp2_with (first | (with_reducible refine wpl rfl (Stp.bsl (e := 26) (cs := #[.slice ad l.length c]) 5 rfl rfl (fun W => by kernel_rfl) H ?_); clear H; intro g5 w1 H; simp only [Act.put, List.setIfInBounds_toArray, List.set_cons_zero, List.set_cons_succ]) | (go_at_call 81; refine (one_as (.slice ad l.length c) (.slice (some ⟨g5, 0, none⟩) 1 1) l (by omega) HX.out S HSUM.out _ (one_part (H.getRow (t := 26) List.mem_cons_self)) (hs.grow H.below)).mono ?_; rintro e w1 ⟨v, rfl, hr⟩; obtain ⟨rfl, hb1⟩ := hr; replace H := H.grow hb1; clear hb1) | (go_at_call 52; refine (put_ok _ l S (by omega) 4 (by decide) (by omega) _ (hs.grow H.below)).mono ?_; rintro e w1 ⟨v, rfl, hr⟩; obtain ⟨⟨ap, cp, rfl⟩, ho, hb1⟩ := hr; replace H := H.new hb1 (slc_sound ho) (fun g hg => (ho.lt g hg).1); clear hb1 ho))
  go_ret
  have e : sealL l = l ++ putB S 4 4 := by rw [sealL, HSUM.out]
  rw [e]
  exact ⟨_, rfl, ⟨_, _, rfl⟩, H.getSlc (by repeat (first | exact List.mem_cons_self | apply List.mem_cons_of_mem)), H.below⟩
set_option maxRecDepth 100000 in
theorem rseal_ok (v : Value) (l : List Nat) (hl : l.length ≤ 100000) (hx : ∀ x ∈ l, x < 256) (w : World) (hs : Sl w 1 l.length v (elB l)) :
    Calls Try.prog 58 #[v] w (Ret fun v' w' => (∃ ap cp, v' = .slice ap (l.length + 4) cp) ∧ w'.ownsRow w.heap.size 5 1 v' (l.length + 4) (bv (sealL l)) ∧ Below w.heap.size w w') := by
  have hs' := hs
  obtain ⟨ad, c, rfl, hm⟩ := hs'.len
  have H := St.init w
  have HX := Lib.hid hx
  obtain ⟨S, hS⟩ : ∃ S, sumC l = S := ⟨_, rfl⟩
  have hSl : S < 4294967296 := by rw [← hS]; exact sumC_lt hx
  have HSUM := Lib.hid hS
  have hw1 : IntKind.u64.wrap (S : Int) = (S : Int) := wrap_u64_in _ (by omega) (by omega)
  clear hx hS
  go_enter Try.func58, Try.ntmps58
  go_wp2_with (first | (with_reducible refine wpl rfl (Stp.bsl0 (e := 5) 3 rfl rfl (fun W => by kernel_rfl) H ?_); clear H; intro a3 c3 w1 H; simp only [Act.put, List.setIfInBounds_toArray, List.set_cons_zero, List.set_cons_succ]; (try simp only [Nat.zero_add, List.nil_append] at H ⊢)) | (with_reducible refine wpl rfl (Stp.apps 5 rfl rfl Try.underlying26 info5 rfl (by decide) rfl rfl H (fun _ => (by repeat (first | exact Upd.head | apply Upd.tail))) (by rw [bv_len, Nat.mul_one]) (hs.grow H.below).src (bv_one l) (by unfold maxLen; omega) (by omega) ?_); clear H; intro a5 c5 w1 H; simp only [Act.put, List.setIfInBounds_toArray, List.set_cons_zero, List.set_cons_succ]; (try simp only [Nat.zero_add, List.nil_append] at H ⊢)) | (go_at_call 82; refine (rsum_as _ l (by omega) HX.out S HSUM.out _ (hs.grow H.below)).mono ?_; rintro e w1 ⟨v, rfl, hr⟩; obtain ⟨rfl, hb1⟩ := hr; replace H := H.grow hb1; clear hb1) | (go_at_call 57; refine (form_ok S (by omega) 4 (by omega) (by omega) _).mono ?_; rintro e w1 ⟨v, rfl, hr⟩; obtain ⟨⟨aq, cq, rfl⟩, ho, hb1⟩ := hr; replace H := H.new hb1 (slc_sound ho) (fun g hg => (ho.lt g hg).1); clear hb1 ho) | (with_reducible refine wpl rfl (Stp.apps 10 rfl rfl Try.underlying26 info5 rfl (by decide) rfl rfl H (fun _ => (by repeat (first | exact Upd.head | apply Upd.tail))) (by rw [bv_len, putB_len, Nat.mul_one]) (own_src (H.getSlc (by repeat (first | exact List.mem_cons_self | apply List.mem_cons_of_mem)))) (bv_one (putB S 4 4)) (by unfold maxLen; omega) (by omega) ?_); clear H; intro a10 c10 w1 H; simp only [Act.put, List.setIfInBounds_toArray, List.set_cons_zero, List.set_cons_succ]; rw [bv_app] at H))
  go_ret
  have e : sealL l = l ++ putB S 4 4 := by rw [sealL, HSUM.out]
  rw [e]
  exact ⟨_, rfl, ⟨_, _, rfl⟩, H.getSlc (by repeat (first | exact List.mem_cons_self | apply List.mem_cons_of_mem)), H.below⟩
theorem open_short (a : Option Addr) (L c : Nat) (h4 : L < 4) (w : World) :
    Calls Try.prog 60 #[.slice a L c] w (Ret fun v w' => v = .tuple #[.slice none 0 0, .int .i64 2] ∧ Below w.heap.size w w') := by
  have H := St.init w
  have hi : (L : Int) - 4 < 0 := by omega
  have hi2 : (L : Int) < 4 := by omega
  go_enter Try.func60, Try.ntmps60
  go_wp2
  go_ret2
  exact ⟨_, rfl, rfl, H.below⟩
theorem ropen_short (a : Option Addr) (L c : Nat) (h4 : L < 4) (w : World) :
    Calls Try.prog 64 #[.slice a L c] w (Ret fun v w' => v = .tuple #[.slice none 0 0, .int .i64 2] ∧ Below w.heap.size w w') := by
  have H := St.init w
  have hi : (L : Int) - 4 < 0 := by omega
  have hi2 : (L : Int) < 4 := by omega
  go_enter Try.func64, Try.ntmps64
  go_wp2
  go_ret2
  exact ⟨_, rfl, rfl, H.below⟩
theorem get4_ok (a : Option Addr) (m c : Nat) (l : List Nat) (hm : m = 4) (hl : l.length = 4) (hc : 4 ≤ c) (hx : ∀ x ∈ l, x < 256) (q : Nat) (hq : numB l = q) (w : World) (hs : Sl w 1 l.length (.slice a m c) (elB l)) :
    Calls Try.prog 59 #[.slice a m c, .int .i64 4] w (Ret fun v w' => v = .tuple #[.int .u64 (q : Int), .int .i64 0] ∧ Below w.heap.size w w') := by
  subst hm hq
  have hs2 : Sl w 1 l.length (.slice a l.length c) (elB l) := by rw [hl] at hs ⊢; exact hs
  have := get_ok a c l 4 (by decide) (by omega) (by omega) hx w hs2
  rw [List.take_of_length_le (by omega), hl] at this
  exact this
theorem nil_bs (a : Option Addr) (n c : Nat) (w : World) : (binOp .eql 26 (.slice a n c) (.slice none 0 0)).run Try.prog w = .ok (.bool a.isNone) w := Lib.run_eql_slice_nil w 26 5 a n c 0 0 Try.underlying26
attribute [local go_sem] nil_bs
set_option maxRecDepth 100000 in
theorem clone_ok (b o m c : Nat) (l : List Nat) (hm : l.length = m) (hl : l.length ≤ 100000) (w : World) (hs : Sl w 1 l.length (.slice (some ⟨b, o, none⟩) m c) (elB l)) :
    Calls Try.prog 49 #[.slice (some ⟨b, o, none⟩) m c] w (Ret fun v w' => (∃ ap cp, v = .slice ap m cp) ∧ w'.ownsRow w.heap.size 5 1 v m (bv l) ∧ Below w.heap.size w w') := by
  subst hm
  have H := St.init w
  go_enter Try.func49, Try.ntmps49
  go_wp2_with (first | (with_reducible refine wpl rfl (Stp.bsl0 (e := 5) 5 rfl rfl (fun W => by kernel_rfl) H ?_); clear H; intro a5 c5 w1 H; simp only [Act.put, List.setIfInBounds_toArray, List.set_cons_zero, List.set_cons_succ]; (try simp only [Nat.zero_add, List.nil_append] at H ⊢)) | (with_reducible refine wpl rfl (Stp.apps 7 rfl rfl Try.underlying26 info5 rfl (by decide) rfl rfl H (fun _ => (by repeat (first | exact Upd.head | apply Upd.tail))) (by rw [bv_len, Nat.mul_one]) (hs.grow H.below).src (bv_one l) (by unfold maxLen; omega) (by omega) ?_); clear H; intro a7 c7 w1 H; simp only [Act.put, List.setIfInBounds_toArray, List.set_cons_zero, List.set_cons_succ]; (try simp only [Nat.zero_add, List.nil_append] at H ⊢)))
  go_ret
  exact ⟨_, rfl, ⟨_, _, rfl⟩, H.getSlc (by repeat (first | exact List.mem_cons_self | apply List.mem_cons_of_mem)), H.below⟩
set_option maxRecDepth 100000 in
theorem open_bad (a : Option Addr) (L n c : Nat) (l : List Nat) (hL : l.length = L) (hn : L = n + 4) (hc : L ≤ c) (hl : l.length ≤ 100000) (hx : ∀ x ∈ l, x < 256) (hne : numB (l.drop n) ≠ sumC (l.take n)) (w : World) (hs : Sl w 1 l.length (.slice a l.length c) (elB l)) :
    Calls Try.prog 60 #[.slice a L c] w (Ret fun v w' => v = .tuple #[.slice none 0 0, .int .i64 4] ∧ Below w.heap.size w w') := by
  subst hn
  obtain ⟨b1, o1, rfl, hb1, hc1⟩ := hs.byte (k := 0) (by omega)
  have H := St.init w
  have hld : (l.drop n).length = 4 := by rw [List.length_drop]; omega
  have hlt : (l.take n).length = n := by rw [List.length_take]; omega
  obtain ⟨q, hq⟩ : ∃ q, numB (l.drop n) = q := ⟨_, rfl⟩
  obtain ⟨S, hS⟩ : ∃ S, sumC (l.take n) = S := ⟨_, rfl⟩
  rw [hq, hS] at hne
  have hq32 : q < 4294967296 := by rw [← hq]; have := numB_lt (l.drop n) (fun x hm => hx x (List.mem_of_mem_drop hm)); rw [hld] at this; exact this
  have hwq : IntKind.u32.wrap (q : Int) = (q : Int) := wrap_u32_in _ (by omega) (by omega)
  have HX1 := Lib.hid (fun x (hm : x ∈ l.take n) => hx x (List.mem_of_mem_take hm))
  have HX2 := Lib.hid (fun x (hm : x ∈ l.drop n) => hx x (List.mem_of_mem_drop hm))
  have HQ := Lib.hid hq
  have HSUM := Lib.hid hS
  have hnei : ¬ (q : Int) = (S : Int) := by omega
  have hdr := sl_drop n (c - n) hs (by omega)
  rw [hL, Nat.add_sub_cancel_left] at hdr
  have htk := sl_take n c hs (by omega)
  clear hc1 hx hq hS
  have cn : ¬ c = n := by omega
  have cn2 : n ≤ c := by omega
  have cn3 : (n : Int) ≤ (c : Int) := by omega
  have n44 : (n : Int) ≤ (n : Int) + 4 := by omega
  go_enter Try.func60, Try.ntmps60
  go_wp2_with (first | (go_at_call 59; refine (get4_ok _ _ _ (l.drop n) rfl hld (by omega) HX2.out q HQ.out _ (hdr.grow H.below)).mono ?_; rintro e w1 ⟨v, rfl, hr⟩; obtain ⟨rfl, hb1⟩ := hr; replace H := H.grow hb1; clear hb1) | (with_reducible refine wpl rfl (Stp.bsl (e := 26) (cs := #[.slice (some ⟨b1, o1, none⟩) n c]) 24 rfl rfl (fun W => by kernel_rfl) H ?_); clear H; intro g24 w1 H; simp only [Act.put, List.setIfInBounds_toArray, List.set_cons_zero, List.set_cons_succ]) | (go_at_call 81; refine (one_as (.slice (some ⟨b1, o1, none⟩) n c) (.slice (some ⟨g24, 0, none⟩) 1 1) (l.take n) (by omega) HX1.out S HSUM.out _ (one_part (H.getRow (t := 26) List.mem_cons_self)) (htk.grow H.below)).mono ?_; rintro e w1 ⟨v, rfl, hr⟩; obtain ⟨rfl, hb1⟩ := hr; replace H := H.grow hb1; clear hb1))
  go_ret2
  exact ⟨_, rfl, rfl, H.below⟩
set_option maxRecDepth 100000 in
theorem open_good (a : Option Addr) (L n c : Nat) (l : List Nat) (hL : l.length = L) (hn : L = n + 4) (hc : L ≤ c) (hl : l.length ≤ 100000) (hx : ∀ x ∈ l, x < 256) (hne : numB (l.drop n) = sumC (l.take n)) (w : World) (hs : Sl w 1 l.length (.slice a l.length c) (elB l)) :
    Calls Try.prog 60 #[.slice a L c] w (Ret fun v w' => (∃ ap cp, v = .tuple #[.slice ap n cp, .int .i64 0] ∧ w'.ownsRow w.heap.size 5 1 (.slice ap n cp) n (bv (l.take n))) ∧ Below w.heap.size w w') := by
  subst hn
  obtain ⟨b1, o1, rfl, hb1, hc1⟩ := hs.byte (k := 0) (by omega)
  have H := St.init w
  have hld : (l.drop n).length = 4 := by rw [List.length_drop]; omega
  have hlt : (l.take n).length = n := by rw [List.length_take]; omega
  obtain ⟨q, hq⟩ : ∃ q, numB (l.drop n) = q := ⟨_, rfl⟩
  obtain ⟨S, hS⟩ : ∃ S, sumC (l.take n) = S := ⟨_, rfl⟩
  rw [hq, hS] at hne
  have hq32 : q < 4294967296 := by rw [← hq]; have := numB_lt (l.drop n) (fun x hm => hx x (List.mem_of_mem_drop hm)); rw [hld] at this; exact this
  have hwq : IntKind.u32.wrap (q : Int) = (q : Int) := wrap_u32_in _ (by omega) (by omega)
  have HX1 := Lib.hid (fun x (hm : x ∈ l.take n) => hx x (List.mem_of_mem_take hm))
  have HX2 := Lib.hid (fun x (hm : x ∈ l.drop n) => hx x (List.mem_of_mem_drop hm))
  have HQ := Lib.hid hq
  have HSUM := Lib.hid hS
  subst hne
  have hdr := sl_drop n (c - n) hs (by omega)
  rw [hL, Nat.add_sub_cancel_left] at hdr
  have htk := sl_take n c hs (by omega)
  clear hc1 hx hq hS
  have cn : ¬ c = n := by omega
  have cn2 : n ≤ c := by omega
  have cn3 : (n : Int) ≤ (c : Int) := by omega
  have n44 : (n : Int) ≤ (n : Int) + 4 := by omega
  go_enter Try.func60, Try.ntmps60
  go_wp2_with (first | (go_at_call 59; refine (get4_ok _ _ _ (l.drop n) rfl hld (by omega) HX2.out q HQ.out _ (hdr.grow H.below)).mono ?_; rintro e w1 ⟨v, rfl, hr⟩; obtain ⟨rfl, hb1⟩ := hr; replace H := H.grow hb1; clear hb1) | (with_reducible refine wpl rfl (Stp.bsl (e := 26) (cs := #[.slice (some ⟨b1, o1, none⟩) n c]) 24 rfl rfl (fun W => by kernel_rfl) H ?_); clear H; intro g24 w1 H; simp only [Act.put, List.setIfInBounds_toArray, List.set_cons_zero, List.set_cons_succ]) | (go_at_call 81; refine (one_as (.slice (some ⟨b1, o1, none⟩) n c) (.slice (some ⟨g24, 0, none⟩) 1 1) (l.take n) (by omega) HX1.out q HSUM.out _ (one_part (H.getRow (t := 26) List.mem_cons_self)) (htk.grow H.below)).mono ?_; rintro e w1 ⟨v, rfl, hr⟩; obtain ⟨rfl, hb1⟩ := hr; replace H := H.grow hb1; clear hb1) | (go_at_call 49; refine (clone_ok b1 o1 n c (l.take n) hlt (by omega) _ (htk.grow H.below)).mono ?_; rintro e w1 ⟨v, rfl, hr⟩; obtain ⟨⟨ap, cp, rfl⟩, ho, hb1⟩ := hr; replace H := H.new hb1 (slc_sound ho) (fun g hg => (ho.lt g hg).1); clear hb1 ho))
  go_ret2
  exact ⟨_, rfl, ⟨_, _, rfl, H.getSlc (by repeat (first | exact List.mem_cons_self | apply List.mem_cons_of_mem))⟩, H.below⟩
theorem number_as (v : Value) (l : List Nat) (hl : l.length ≤ 8) (hx : ∀ x ∈ l, x < 256) (q : Nat) (hq : numB l = q) (w : World) (hs : Sl w 1 l.length v (elB l)) :
    Calls Try.prog 63 #[v] w (Ret fun v w' => v = .int .u64 (q : Int) ∧ Below w.heap.size w w') := by
  subst hq; exact number_ok v l hl hx w hs
theorem src_of {w w1 : World} {a : Option Addr} {n c : Nat} {l : List Nat} (h : Sl w 1 l.length (.slice a n c) (elB l)) (hn : l.length = n) (hb : Below w.heap.size w w1) : 0 < n → ∃ ad, a = some ad ∧ ∀ j u, (bv l)[j]? = some u → w1.cell? (ad.add j) = some u := by
  subst hn; exact (h.grow hb).src
set_option maxRecDepth 100000 in
theorem ropen_bad (a : Option Addr) (L n c : Nat) (l : List Nat) (hL : l.length = L) (hn : L = n + 4) (hc : L ≤ c) (hl : l.length ≤ 100000) (hx : ∀ x ∈ l, x < 256) (hne : numB (l.drop n) ≠ sumC (l.take n)) (w : World) (hs : Sl w 1 l.length (.slice a l.length c) (elB l)) :
    Calls Try.prog 64 #[.slice a L c] w (Ret fun v w' => v = .tuple #[.slice none 0 0, .int .i64 4] ∧ Below w.heap.size w w') := by
  subst hn
  obtain ⟨b1, o1, rfl, hb1, hc1⟩ := hs.byte (k := 0) (by omega)
  have H := St.init w
  have hld : (l.drop n).length = 4 := by rw [List.length_drop]; omega
  have hlt : (l.take n).length = n := by rw [List.length_take]; omega
  obtain ⟨q, hq⟩ : ∃ q, numB (l.drop n) = q := ⟨_, rfl⟩
  obtain ⟨S, hS⟩ : ∃ S, sumC (l.take n) = S := ⟨_, rfl⟩
  rw [hq, hS] at hne
  have hq32 : q < 4294967296 := by rw [← hq]; have := numB_lt (l.drop n) (fun x hm => hx x (List.mem_of_mem_drop hm)); rw [hld] at this; exact this
  have hSl : S < 4294967296 := by rw [← hS]; exact sumC_lt (fun x hm => hx x (List.mem_of_mem_take hm))
  have hwS : IntKind.u64.wrap (S : Int) = (S : Int) := wrap_u64_in _ (by omega) (by omega)
  have hwq : IntKind.u32.wrap (q : Int) = (q : Int) := wrap_u32_in _ (by omega) (by omega)
  have HX1 := Lib.hid (fun x (hm : x ∈ l.take n) => hx x (List.mem_of_mem_take hm))
  have HX2 := Lib.hid (fun x (hm : x ∈ l.drop n) => hx x (List.mem_of_mem_drop hm))
  have HQ := Lib.hid hq
  have HSUM := Lib.hid hS
  have hnei : ¬ (q : Int) = (S : Int) := by omega
  have hdr := sl_drop n (c - n) hs (by omega)
  rw [hL, Nat.add_sub_cancel_left] at hdr
  have htk := sl_take n c hs (by omega)
  clear hc1 hx hq hS
  have cn : ¬ c = n := by omega
  have cn2 : n ≤ c := by omega
  have cn3 : (n : Int) ≤ (c : Int) := by omega
  have n44 : (n : Int) ≤ (n : Int) + 4 := by omega
  go_enter Try.func64, Try.ntmps64
  go_wp2_with fail
  refine rg_begin 10 rfl (S := fun W => St _ _ W _) (by kernel_rfl) H.drew ?_
  replace H := H.drew
  have HS := H
  refine rg_take (i := 0) rfl (by kernel_rfl) (by kernel_rfl) (by kernel_rfl) (Yld.move rfl rfl) HS ?_; simp only [Act.put, eval_tmp, eval_const, getD_lit0, getD_lits, if_true, if_false, List.setIfInBounds_toArray, List.set_cons_zero, List.set_cons_succ]
  refine rg_take (i := 1) rfl (by kernel_rfl) (by kernel_rfl) (by kernel_rfl) (Yld.move rfl rfl) HS ?_; simp only [Act.put, eval_tmp, eval_const, getD_lit0, getD_lits, if_true, if_false, List.setIfInBounds_toArray, List.set_cons_zero, List.set_cons_succ]
  refine rg_take (i := 2) rfl (by kernel_rfl) (by kernel_rfl) (by kernel_rfl) (Yld.of rfl (fun W _ => by go_simp; first | done | with_reducible rfl)) HS ?_; simp only [Act.put, List.setIfInBounds_toArray, List.set_cons_zero, List.set_cons_succ]
  refine rg_take (i := 4) rfl (by kernel_rfl) (by kernel_rfl) (by kernel_rfl) (Yld.move rfl rfl) HS ?_; simp only [Act.put, eval_tmp, eval_const, getD_lit0, getD_lits, if_true, if_false, List.setIfInBounds_toArray, List.set_cons_zero, List.set_cons_succ]
  refine rg_take (i := 5) rfl (by kernel_rfl) (by kernel_rfl) (by kernel_rfl) (Yld.move rfl rfl) HS ?_; simp only [Act.put, eval_tmp, eval_const, getD_lit0, getD_lits, if_true, if_false, List.setIfInBounds_toArray, List.set_cons_zero, List.set_cons_succ]
  refine rg_take (i := 6) rfl (by kernel_rfl) (by kernel_rfl) (by kernel_rfl) (Yld.of rfl (fun W _ => by go_simp; first | done | with_reducible rfl)) HS ?_; simp only [Act.put, List.setIfInBounds_toArray, List.set_cons_zero, List.set_cons_succ]
  refine rg_one (i := 3) (by kernel_rfl) rfl rfl (fun K hK => ?_)
  refine wp_callf rfl ent63 (number_as _ (l.drop n) (by omega) HX2.out q HQ.out _ (hdr.grow H.below)) rfl (fun v w1 hr => ?_)
  obtain ⟨rfl, hb1⟩ := hr
  replace H := H.grow hb1
  clear hb1
  clear HS
  have HS := H
  refine hK.out _ _ HS ?_
  clear hK K
  simp only [Act.put, List.setIfInBounds_toArray, List.set_cons_zero, List.set_cons_succ]
  refine rg_one (i := 7) (by kernel_rfl) rfl rfl (fun K hK => ?_)
  refine wp_callf rfl ent82 (rsum_as _ (l.take n) (by omega) HX1.out S HSUM.out _ (htk.grow H.below)) rfl (fun v w1 hr => ?_)
  obtain ⟨rfl, hb1⟩ := hr
  replace H := H.grow hb1
  clear hb1
  clear HS
  have HS := H
  refine hK.out _ _ HS ?_
  clear hK K
  simp only [Act.put, List.setIfInBounds_toArray, List.set_cons_zero, List.set_cons_succ]
  refine rg_take (i := 8) rfl (by kernel_rfl) (by kernel_rfl) (by kernel_rfl) (Yld.of rfl (fun W _ => by go_simp; first | done | with_reducible rfl)) HS ?_; simp only [Act.put, List.setIfInBounds_toArray, List.set_cons_zero, List.set_cons_succ]
  refine rg_take (i := 9) rfl (by kernel_rfl) (by kernel_rfl) (by kernel_rfl) (Yld.of rfl (fun W _ => by go_simp; first | done | with_reducible rfl)) HS ?_; simp only [Act.put, List.setIfInBounds_toArray, List.set_cons_zero, List.set_cons_succ]
  refine rg_done (by kernel_rfl) ?_
  go_wp2
  go_ret2
  exact ⟨_, rfl, rfl, H.below⟩
set_option maxRecDepth 100000 in
theorem ropen_good (a : Option Addr) (L n c : Nat) (l : List Nat) (hL : l.length = L) (hn : L = n + 4) (hc : L ≤ c) (hl : l.length ≤ 100000) (hx : ∀ x ∈ l, x < 256) (hne : numB (l.drop n) = sumC (l.take n)) (w : World) (hs : Sl w 1 l.length (.slice a l.length c) (elB l)) :
    Calls Try.prog 64 #[.slice a L c] w (Ret fun v w' => (∃ ap cp, v = .tuple #[.slice ap n cp, .int .i64 0] ∧ w'.ownsRow w.heap.size 5 1 (.slice ap n cp) n (bv (l.take n))) ∧ Below w.heap.size w w') := by
  subst hn
  obtain ⟨b1, o1, rfl, hb1, hc1⟩ := hs.byte (k := 0) (by omega)
  have H := St.init w
  have hld : (l.drop n).length = 4 := by rw [List.length_drop]; omega
  have hlt : (l.take n).length = n := by rw [List.length_take]; omega
  obtain ⟨q, hq⟩ : ∃ q, numB (l.drop n) = q := ⟨_, rfl⟩
  obtain ⟨S, hS⟩ : ∃ S, sumC (l.take n) = S := ⟨_, rfl⟩
  rw [hq, hS] at hne
  have hq32 : q < 4294967296 := by rw [← hq]; have := numB_lt (l.drop n) (fun x hm => hx x (List.mem_of_mem_drop hm)); rw [hld] at this; exact this
  have hSl : S < 4294967296 := by rw [← hS]; exact sumC_lt (fun x hm => hx x (List.mem_of_mem_take hm))
  have hwS : IntKind.u64.wrap (S : Int) = (S : Int) := wrap_u64_in _ (by omega) (by omega)
  have hwq : IntKind.u32.wrap (q : Int) = (q : Int) := wrap_u32_in _ (by omega) (by omega)
  have HX1 := Lib.hid (fun x (hm : x ∈ l.take n) => hx x (List.mem_of_mem_take hm))
  have HX2 := Lib.hid (fun x (hm : x ∈ l.drop n) => hx x (List.mem_of_mem_drop hm))
  have HQ := Lib.hid hq
  have HSUM := Lib.hid hS
  subst hne
  have hdr := sl_drop n (c - n) hs (by omega)
  rw [hL, Nat.add_sub_cancel_left] at hdr
  have htk := sl_take n c hs (by omega)
  clear hc1 hx hq hS
  have cn : ¬ c = n := by omega
  have cn2 : n ≤ c := by omega
  have cn3 : (n : Int) ≤ (c : Int) := by omega
  have n44 : (n : Int) ≤ (n : Int) + 4 := by omega
  go_enter Try.func64, Try.ntmps64
  go_wp2_with fail
  refine rg_begin 10 rfl (S := fun W => St _ _ W _) (by kernel_rfl) H.drew ?_
  replace H := H.drew
  have HS := H
  refine rg_take (i := 0) rfl (by kernel_rfl) (by kernel_rfl) (by kernel_rfl) (Yld.move rfl rfl) HS ?_; simp only [Act.put, eval_tmp, eval_const, getD_lit0, getD_lits, if_true, if_false, List.setIfInBounds_toArray, List.set_cons_zero, List.set_cons_succ]
  refine rg_take (i := 1) rfl (by kernel_rfl) (by kernel_rfl) (by kernel_rfl) (Yld.move rfl rfl) HS ?_; simp only [Act.put, eval_tmp, eval_const, getD_lit0, getD_lits, if_true, if_false, List.setIfInBounds_toArray, List.set_cons_zero, List.set_cons_succ]
  refine rg_take (i := 2) rfl (by kernel_rfl) (by kernel_rfl) (by kernel_rfl) (Yld.of rfl (fun W _ => by go_simp; first | done | with_reducible rfl)) HS ?_; simp only [Act.put, List.setIfInBounds_toArray, List.set_cons_zero, List.set_cons_succ]
  refine rg_take (i := 4) rfl (by kernel_rfl) (by kernel_rfl) (by kernel_rfl) (Yld.move rfl rfl) HS ?_; simp only [Act.put, eval_tmp, eval_const, getD_lit0, getD_lits, if_true, if_false, List.setIfInBounds_toArray, List.set_cons_zero, List.set_cons_succ]
  refine rg_take (i := 5) rfl (by kernel_rfl) (by kernel_rfl) (by kernel_rfl) (Yld.move rfl rfl) HS ?_; simp only [Act.put, eval_tmp, eval_const, getD_lit0, getD_lits, if_true, if_false, List.setIfInBounds_toArray, List.set_cons_zero, List.set_cons_succ]
  refine rg_take (i := 6) rfl (by kernel_rfl) (by kernel_rfl) (by kernel_rfl) (Yld.of rfl (fun W _ => by go_simp; first | done | with_reducible rfl)) HS ?_; simp only [Act.put, List.setIfInBounds_toArray, List.set_cons_zero, List.set_cons_succ]
  refine rg_one (i := 3) (by kernel_rfl) rfl rfl (fun K hK => ?_)
  refine wp_callf rfl ent63 (number_as _ (l.drop n) (by omega) HX2.out q HQ.out _ (hdr.grow H.below)) rfl (fun v w1 hr => ?_)
  obtain ⟨rfl, hb1⟩ := hr
  replace H := H.grow hb1
  clear hb1
  clear HS
  have HS := H
  refine hK.out _ _ HS ?_
  clear hK K
  simp only [Act.put, List.setIfInBounds_toArray, List.set_cons_zero, List.set_cons_succ]
  refine rg_one (i := 7) (by kernel_rfl) rfl rfl (fun K hK => ?_)
  refine wp_callf rfl ent82 (rsum_as _ (l.take n) (by omega) HX1.out q HSUM.out _ (htk.grow H.below)) rfl (fun v w1 hr => ?_)
  obtain ⟨rfl, hb1⟩ := hr
  replace H := H.grow hb1
  clear hb1
  clear HS
  have HS := H
  refine hK.out _ _ HS ?_
  clear hK K
  simp only [Act.put, List.setIfInBounds_toArray, List.set_cons_zero, List.set_cons_succ]
  refine rg_take (i := 8) rfl (by kernel_rfl) (by kernel_rfl) (by kernel_rfl) (Yld.of rfl (fun W _ => by go_simp; first | done | with_reducible rfl)) HS ?_; simp only [Act.put, List.setIfInBounds_toArray, List.set_cons_zero, List.set_cons_succ]
  refine rg_take (i := 9) rfl (by kernel_rfl) (by kernel_rfl) (by kernel_rfl) (Yld.of rfl (fun W _ => by go_simp; first | done | with_reducible rfl)) HS ?_; simp only [Act.put, List.setIfInBounds_toArray, List.set_cons_zero, List.set_cons_succ]
  refine rg_done (by kernel_rfl) ?_
  go_wp2_with (first | (with_reducible refine wpl rfl (Stp.bsl0 (e := 5) 20 rfl rfl (fun W => by kernel_rfl) H ?_); clear H; intro a20 c20 w1 H; simp only [Act.put, List.setIfInBounds_toArray, List.set_cons_zero, List.set_cons_succ]; (try simp only [Nat.zero_add, List.nil_append] at H ⊢)) | (with_reducible refine wpl rfl (Stp.apps 24 rfl rfl Try.underlying26 info5 rfl (by decide) rfl rfl H (fun _ => (by repeat (first | exact Upd.head | apply Upd.tail))) (by rw [bv_len, Nat.mul_one]; exact hlt) (src_of htk hlt H.below) (bv_one (l.take n)) (by unfold maxLen; omega) (by omega) ?_); clear H; intro a24 c24 w1 H; simp only [Act.put, List.setIfInBounds_toArray, List.set_cons_zero, List.set_cons_succ]; (try simp only [Nat.zero_add, List.nil_append] at H ⊢)))
  go_ret2
  exact ⟨_, rfl, ⟨_, _, rfl, H.getSlc (by repeat (first | exact List.mem_cons_self | apply List.mem_cons_of_mem))⟩, H.below⟩
end Go.Proofs.Ytcjbippgjhgoiaa
