/- The statement CrcSums of layer 2 (crc), proved; no condition: the law's walk, and the row round it. -/
import Derived.Test.YtnmahekaidgnmaaCrc2
namespace Go.Proofs.Ytnmahekaidgnmaa
open Go.ChangeShapes Go.WideShapes Go.ChangeAt Go.RowKit Go.Deep
set_option linter.unusedVariables false
set_option linter.unusedSimpArgs false
theorem sl_take {w : World} {a : Option Addr} {c : Nat} {l : List Nat} (k c' : Nat) (h : Sl w 1 l.length (.slice a l.length c) (elB l)) (hk : k ≤ l.length) : Sl w 1 (l.take k).length (.slice a k c') (elB (l.take k)) := by
  have hm : (l.take k).length = k := by rw [List.length_take]; exact Nat.min_eq_left hk
  obtain ⟨a', c0, e, hml, hc⟩ := h
  injection e with e1 e2 e3
  subst e1
  rw [hm]
  refine ⟨a, c', rfl, Nat.le_trans hk hml, fun h0 => ?_⟩
  obtain ⟨b, off, rfl, hb, hcell⟩ := hc (by omega)
  refine ⟨b, off, rfl, hb, fun i hi j hj => ?_⟩
  rw [hcell i (by omega) j hj]
  simp [elB, List.getD, List.getElem?_take, hi]
theorem sl_drop {w : World} {b off c : Nat} {l : List Nat} (k c' : Nat) (h : Sl w 1 l.length (.slice (some ⟨b, off, none⟩) l.length c) (elB l)) (hk : k ≤ l.length) : Sl w 1 (l.drop k).length (.slice (some ⟨b, off + k, none⟩) (l.length - k) c') (elB (l.drop k)) := by
  have hm : (l.drop k).length = l.length - k := List.length_drop
  obtain ⟨a', c0, e, hml, hc⟩ := h
  injection e with e1 e2 e3
  subst e1
  rw [hm]
  refine ⟨_, c', rfl, Nat.le_trans (Nat.sub_le _ _) hml, fun h0 => ?_⟩
  obtain ⟨b', off', e, hb, hcell⟩ := hc (by omega)
  cases e
  refine ⟨b, off + k, rfl, hb, fun i hi j hj => ?_⟩
  have := hcell (k + i) (by omega) j hj
  rw [Nat.mul_one] at this ⊢
  rw [show off + k + i + j = off + (k + i) + j by omega, this]
  simp [elB, List.getD, List.getElem?_drop]
theorem pick_at (b z : Int) (n : Nat) (hz : z = n) (hn : 0 < n) (hn2 : n ≤ 1000000) (w : World) :
    Calls Try.prog 10 #[.int .i64 b, .int .i64 z] w (Ret fun v w' => ∃ k : Nat, k < n ∧ v = .int .i64 (k : Int) ∧ Below w.heap.size w w') := by
  subst hz; exact pick_any b n hn hn2 w
theorem rsum_as (v : Value) (l : List Nat) (hl : l.length ≤ 1000000) (hx : ∀ x ∈ l, x < 256) (S : Nat) (hS : sumC l = S) (w : World) (hs : Sl w 1 l.length v (elB l)) :
    Calls Try.prog 11 #[v] w (Ret fun v w' => v = .int .u32 (S : Int) ∧ Below w.heap.size w w') := by
  subst hS; exact rsum_ok v l hl hx w hs
theorem one_as (v u : Value) (l : List Nat) (hl : l.length ≤ 1000000) (hx : ∀ x ∈ l, x < 256) (S : Nat) (hS : sumC l = S) (w : World) (h1 : Sl w 1 1 u (elP [(v, l)])) (hs : Sl w 1 l.length v (elB l)) :
    Calls Try.prog 12 #[u] w (Ret fun v w' => v = .int .u32 (S : Int) ∧ Below w.heap.size w w') := by
  subst hS; exact sum_one v u l hl hx w h1 hs
theorem two_as (v v' u : Value) (l m : List Nat) (hl : l.length ≤ 1000000) (hm : m.length ≤ 1000000) (hx : ∀ x ∈ l ++ m, x < 256) (S : Nat) (hS : sumC (l ++ m) = S) (w : World) (h1 : Sl w 1 2 u (elP [(v, l), (v', m)])) (hs : Sl w 1 l.length v (elB l)) (hs' : Sl w 1 m.length v' (elB m)) :
    Calls Try.prog 12 #[u] w (Ret fun v w' => v = .int .u32 (S : Int) ∧ Below w.heap.size w w') := by
  subst hS; exact sum_two v v' u l m hl hm hx w h1 hs hs'
theorem go_as (s : Nat) (hs0 : s < 4294967296) (v : Value) (l : List Nat) (hl : l.length ≤ 1000000) (hx : ∀ x ∈ l, x < 256) (r : Nat) (hr : goC s l = r) (w : World) (hs : Sl w 1 l.length v (elB l)) :
    Calls Try.prog 14 #[.int .u32 (s : Int), v] w (Ret fun v w' => v = .int .u32 (r : Int) ∧ Below w.heap.size w w') := by
  subst hr; exact go_ok s hs0 v l hl hx w hs
theorem end_as (s r : Nat) (hs : s < 4294967296) (hr : s ^^^ 4294967295 = r) (w : World) : Calls Try.prog 13 #[.int .u32 (s : Int)] w (Ret fun v w' => v = .int .u32 (r : Int) ∧ Below w.heap.size w w') := by
  subst hr; exact end_ok s hs w
theorem lent_take {W : World} {g : Nat} {l : List Nat} (k : Nat) (h : rowAt W g = some (bv (lent l)).toArray) (hl : l.length ≤ 1000000) (hk : k ≤ l.length) (c' : Nat) : Sl W 1 (l.take k).length (.slice (some ⟨g, 0, none⟩) k c') (elB (l.take k)) :=
  sl_take k c' (lent_sl h hl) hk
theorem lent_drop {W : World} {g : Nat} {l : List Nat} (k : Nat) (h : rowAt W g = some (bv (lent l)).toArray) (hl : l.length ≤ 1000000) (hk : k ≤ l.length) (c' : Nat) : Sl W 1 (l.drop k).length (.slice (some ⟨g, k, none⟩) (l.length - k) c') (elB (l.drop k)) := by
  have := sl_drop k c' (lent_sl h hl) hk
  rwa [Nat.zero_add] at this
set_option maxRecDepth 100000 in
set_option maxHeartbeats 1000000 in
theorem law_sums (v : Value) (l : List Nat) (hx : ∀ x ∈ l, x < 256) (ct : Int) (w : World) (hs : Sl w 1 l.length v (elB l)) :
    Calls Try.prog 3 #[v, .int .i64 ct] w (Ret fun v w' => v = .bool true ∧ Below w.heap.size w w') := by
  have H := St.init w
  have hs' := hs
  obtain ⟨ad, c, rfl, hm⟩ := hs'.len
  have HX := Lib.hid hx
  clear hx
  obtain ⟨S, hS⟩ : ∃ S, sumC l = S := ⟨_, rfl⟩
  have HSUM := Lib.hid hS
  clear hS
  go_enter Try.func3, Try.ntmps3
  by_cases h10 : 1000 < l.length
  · go_wp2_with (first | (go_at_call 8; refine (awake_ok _).mono ?_; rintro e w1 ⟨v, rfl, hr⟩; obtain ⟨rfl, hb1⟩ := hr; replace H := H.grow hb1; clear hb1))
    go_ret
    exact ⟨_, rfl, rfl, H.below⟩
  · go_wp2_with (first | (go_at_call 9; refine (lent_ok _ l (by omega) _ (hs.grow H.below)).mono ?_; rintro e w1 ⟨v, rfl, hr⟩; obtain ⟨g0, rfl, hg, hge, hb1⟩ := hr; replace H := H.new hb1 (row_sound hg) (fun k hk => by cases hk; exact hge); clear hb1 hg hge) | (go_at_call 10; refine (pick_at _ _ (l.length + 1) (by omega) (by omega) (by omega) _).mono ?_; rintro e w1 ⟨v, rfl, hr⟩; obtain ⟨k, hk, rfl, hb1⟩ := hr; replace H := H.grow hb1; clear hb1) | (go_at_call 11; refine (rsum_as _ l (by omega) HX.out S HSUM.out _ (hs.grow H.below)).mono ?_; rintro e w1 ⟨v, rfl, hr⟩; obtain ⟨rfl, hb1⟩ := hr; replace H := H.grow hb1; clear hb1))
    have kle : k ≤ l.length := by omega
    have kle8 : k ≤ l.length + 8 := by omega
    have kli : (k : Int) ≤ (l.length : Int) + 8 := by omega
    have kne : ¬ l.length + 8 = k := by omega
    have kli2 : (k : Int) ≤ (l.length : Int) := by omega
    have ktl : (l.take k).length ≤ 1000000 := by rw [List.length_take]; omega
    have kdl : (l.drop k).length ≤ 1000000 := by rw [List.length_drop]; omega
    have HX1 := Lib.hid (fun x (hm : x ∈ l.take k) => HX.out x (List.mem_of_mem_take hm))
    have HX2 := Lib.hid (fun x (hm : x ∈ l.drop k) => HX.out x (List.mem_of_mem_drop hm))
    have HX3 : Hid (∀ x ∈ l.take k ++ l.drop k, x < 256) := Lib.hid (by rw [List.take_append_drop]; exact HX.out)
    have HS3 : Hid (sumC (l.take k ++ l.drop k) = S) := Lib.hid (by rw [List.take_append_drop]; exact HSUM.out)
    obtain ⟨t1, ht1⟩ : ∃ t, goC 4294967295 (l.take k) = t := ⟨_, rfl⟩
    obtain ⟨t2, ht2⟩ : ∃ t, goC t1 (l.drop k) = t := ⟨_, rfl⟩
    have t1l : t1 < 4294967296 := by rw [← ht1]; exact goC_lt (by omega) HX1.out
    have t2l : t2 < 4294967296 := by rw [← ht2]; exact goC_lt t1l HX2.out
    have ht3 : t2 ^^^ 4294967295 = S := by rw [← ht2, ← ht1, ← goC_app, List.take_append_drop, ← HSUM.out]; rfl
    have HT1 := Lib.hid ht1
    have HT2 := Lib.hid ht2
    have HT3 := Lib.hid ht3
    clear ht1 ht2 ht3
    refine rg_begin 25 rfl (S := fun W => St _ _ W _) (by kernel_rfl) H.drew ?_
    replace H := H.drew
    have HS := H
    refine rg_take (i := 0) rfl (by kernel_rfl) (by kernel_rfl) (by kernel_rfl) (Yld.move rfl rfl) (H.sub (by repeat (first | exact List.Sublist.refl _ | apply List.Sublist.cons))) ?_; simp only [Act.put, eval_tmp, eval_const, getD_lit0, getD_lits, if_true, if_false, List.setIfInBounds_toArray, List.set_cons_zero, List.set_cons_succ]
    refine rg_take (i := 1) rfl (by kernel_rfl) (by kernel_rfl) (by kernel_rfl) (Yld.move rfl rfl) (H.sub (by repeat (first | exact List.Sublist.refl _ | apply List.Sublist.cons))) ?_; simp only [Act.put, eval_tmp, eval_const, getD_lit0, getD_lits, if_true, if_false, List.setIfInBounds_toArray, List.set_cons_zero, List.set_cons_succ]
    refine rg_take (i := 2) rfl (by kernel_rfl) (by kernel_rfl) (by kernel_rfl) (Yld.of rfl (fun W _ => by go_simp; first | done | with_reducible rfl)) (H.sub (by repeat (first | exact List.Sublist.refl _ | apply List.Sublist.cons))) ?_; simp only [Act.put, List.setIfInBounds_toArray, List.set_cons_zero, List.set_cons_succ]
    refine rg_take (i := 3) rfl (by kernel_rfl) (by kernel_rfl) (by kernel_rfl) (Yld.move rfl rfl) (H.sub (by repeat (first | exact List.Sublist.refl _ | apply List.Sublist.cons))) ?_; simp only [Act.put, eval_tmp, eval_const, getD_lit0, getD_lits, if_true, if_false, List.setIfInBounds_toArray, List.set_cons_zero, List.set_cons_succ]
    refine rg_take (i := 4) rfl (by kernel_rfl) (by kernel_rfl) (by kernel_rfl) (Yld.move rfl rfl) (H.sub (by repeat (first | exact List.Sublist.refl _ | apply List.Sublist.cons))) ?_; simp only [Act.put, eval_tmp, eval_const, getD_lit0, getD_lits, if_true, if_false, List.setIfInBounds_toArray, List.set_cons_zero, List.set_cons_succ]
    refine rg_take (i := 5) rfl (by kernel_rfl) (by kernel_rfl) (by kernel_rfl) (Yld.of rfl (fun W _ => by go_simp; first | done | with_reducible rfl)) (H.sub (by repeat (first | exact List.Sublist.refl _ | apply List.Sublist.cons))) ?_; simp only [Act.put, List.setIfInBounds_toArray, List.set_cons_zero, List.set_cons_succ]
    refine rg_take (i := 8) rfl (by kernel_rfl) (by kernel_rfl) (by kernel_rfl) (Yld.move rfl rfl) (H.sub (by repeat (first | exact List.Sublist.refl _ | apply List.Sublist.cons))) ?_; simp only [Act.put, eval_tmp, eval_const, getD_lit0, getD_lits, if_true, if_false, List.setIfInBounds_toArray, List.set_cons_zero, List.set_cons_succ]
    refine rg_one (i := 6) (by kernel_rfl) rfl rfl (fun K hK => ?_)
    refine Stp.wp (Stp.bsl (e := 22) (cs := #[.slice (some ⟨g0, 0, none⟩) k (l.length + 8), .slice (some ⟨g0, k, none⟩) (l.length - k) (l.length + 8 - k)]) 28 rfl rfl (fun W => by kernel_rfl) H ?_)
    clear H
    intro g28 w1 H
    clear HS
    have HS := H
    refine hK.out _ _ (H.sub (by repeat (first | exact List.Sublist.refl _ | apply List.Sublist.cons))) ?_
    clear hK K
    simp only [Act.put, List.setIfInBounds_toArray, List.set_cons_zero, List.set_cons_succ]
    refine rg_one (i := 7) (by kernel_rfl) rfl rfl (fun K hK => ?_)
    refine wp_callf rfl ent12 (two_as (.slice (some ⟨g0, 0, none⟩) k (l.length + 8)) (.slice (some ⟨g0, k, none⟩) (l.length - k) (l.length + 8 - k)) (.slice (some ⟨g28, 0, none⟩) 2 2) (l.take k) (l.drop k) ktl kdl HX3.out S HS3.out _ (two_parts (H.getRow (t := 22) List.mem_cons_self)) (lent_take k (H.getRow (t := 5) (by repeat (first | exact List.mem_cons_self | apply List.mem_cons_of_mem))) (by omega) kle _) (lent_drop k (H.getRow (t := 5) (by repeat (first | exact List.mem_cons_self | apply List.mem_cons_of_mem))) (by omega) kle _)) rfl (fun v w1 hr => ?_)
    obtain ⟨rfl, hb1⟩ := hr
    replace H := H.grow hb1
    clear hb1
    clear HS
    have HS := H
    refine hK.out _ _ (H.sub (by repeat (first | exact List.Sublist.refl _ | apply List.Sublist.cons))) ?_
    clear hK K
    simp only [Act.put, List.setIfInBounds_toArray, List.set_cons_zero, List.set_cons_succ]
    refine rg_take (i := 9) rfl (by kernel_rfl) (by kernel_rfl) (by kernel_rfl) (Yld.of rfl (fun W _ => by go_simp; first | done | with_reducible rfl)) (H.sub (by repeat (first | exact List.Sublist.refl _ | apply List.Sublist.cons))) ?_; simp only [Act.put, List.setIfInBounds_toArray, List.set_cons_zero, List.set_cons_succ]
    refine rg_take (i := 10) rfl (by kernel_rfl) (by kernel_rfl) (by kernel_rfl) (Yld.move rfl rfl) (H.sub (by repeat (first | exact List.Sublist.refl _ | apply List.Sublist.cons))) ?_; simp only [Act.put, eval_tmp, eval_const, getD_lit0, getD_lits, if_true, if_false, List.setIfInBounds_toArray, List.set_cons_zero, List.set_cons_succ]
    refine rg_take (i := 12) rfl (by kernel_rfl) (by kernel_rfl) (by kernel_rfl) (Yld.move rfl rfl) (H.sub (by repeat (first | exact List.Sublist.refl _ | apply List.Sublist.cons))) ?_; simp only [Act.put, eval_tmp, eval_const, getD_lit0, getD_lits, if_true, if_false, List.setIfInBounds_toArray, List.set_cons_zero, List.set_cons_succ]
    refine rg_take (i := 13) rfl (by kernel_rfl) (by kernel_rfl) (by kernel_rfl) (Yld.move rfl rfl) (H.sub (by repeat (first | exact List.Sublist.refl _ | apply List.Sublist.cons))) ?_; simp only [Act.put, eval_tmp, eval_const, getD_lit0, getD_lits, if_true, if_false, List.setIfInBounds_toArray, List.set_cons_zero, List.set_cons_succ]
    refine rg_take (i := 14) rfl (by kernel_rfl) (by kernel_rfl) (by kernel_rfl) (Yld.of rfl (fun W _ => by go_simp; first | done | with_reducible rfl)) (H.sub (by repeat (first | exact List.Sublist.refl _ | apply List.Sublist.cons))) ?_; simp only [Act.put, List.setIfInBounds_toArray, List.set_cons_zero, List.set_cons_succ]
    refine rg_take (i := 16) rfl (by kernel_rfl) (by kernel_rfl) (by kernel_rfl) (Yld.move rfl rfl) (H.sub (by repeat (first | exact List.Sublist.refl _ | apply List.Sublist.cons))) ?_; simp only [Act.put, eval_tmp, eval_const, getD_lit0, getD_lits, if_true, if_false, List.setIfInBounds_toArray, List.set_cons_zero, List.set_cons_succ]
    refine rg_take (i := 17) rfl (by kernel_rfl) (by kernel_rfl) (by kernel_rfl) (Yld.move rfl rfl) (H.sub (by repeat (first | exact List.Sublist.refl _ | apply List.Sublist.cons))) ?_; simp only [Act.put, eval_tmp, eval_const, getD_lit0, getD_lits, if_true, if_false, List.setIfInBounds_toArray, List.set_cons_zero, List.set_cons_succ]
    refine rg_take (i := 18) rfl (by kernel_rfl) (by kernel_rfl) (by kernel_rfl) (Yld.of rfl (fun W _ => by go_simp; first | done | with_reducible rfl)) (H.sub (by repeat (first | exact List.Sublist.refl _ | apply List.Sublist.cons))) ?_; simp only [Act.put, List.setIfInBounds_toArray, List.set_cons_zero, List.set_cons_succ]
    refine rg_take (i := 21) rfl (by kernel_rfl) (by kernel_rfl) (by kernel_rfl) (Yld.move rfl rfl) (H.sub (by repeat (first | exact List.Sublist.refl _ | apply List.Sublist.cons))) ?_; simp only [Act.put, eval_tmp, eval_const, getD_lit0, getD_lits, if_true, if_false, List.setIfInBounds_toArray, List.set_cons_zero, List.set_cons_succ]
    refine rg_one (i := 11) (by kernel_rfl) rfl rfl (fun K hK => ?_)
    refine wp_callf rfl ent15 (begin_ok _) rfl (fun v w1 hr => ?_)
    obtain ⟨rfl, hb1⟩ := hr
    replace H := H.grow hb1
    clear hb1
    clear HS
    have HS := H
    refine hK.out _ _ (H.sub (by repeat (first | exact List.Sublist.refl _ | apply List.Sublist.cons))) ?_
    clear hK K
    simp only [Act.put, List.setIfInBounds_toArray, List.set_cons_zero, List.set_cons_succ]
    refine rg_one (i := 15) (by kernel_rfl) rfl rfl (fun K hK => ?_)
    refine wp_callf rfl ent14 (go_as 4294967295 (by omega) (.slice (some ⟨g0, 0, none⟩) k (l.length + 8)) (l.take k) ktl HX1.out t1 HT1.out _ (lent_take k (H.getRow (t := 5) (by repeat (first | exact List.mem_cons_self | apply List.mem_cons_of_mem))) (by omega) kle _)) rfl (fun v w1 hr => ?_)
    obtain ⟨rfl, hb1⟩ := hr
    replace H := H.grow hb1
    clear hb1
    clear HS
    have HS := H
    refine hK.out _ _ (H.sub (by repeat (first | exact List.Sublist.refl _ | apply List.Sublist.cons))) ?_
    clear hK K
    simp only [Act.put, List.setIfInBounds_toArray, List.set_cons_zero, List.set_cons_succ]
    refine rg_one (i := 19) (by kernel_rfl) rfl rfl (fun K hK => ?_)
    refine wp_callf rfl ent14 (go_as t1 t1l (.slice (some ⟨g0, k, none⟩) (l.length - k) (l.length + 8 - k)) (l.drop k) kdl HX2.out t2 HT2.out _ (lent_drop k (H.getRow (t := 5) (by repeat (first | exact List.mem_cons_self | apply List.mem_cons_of_mem))) (by omega) kle _)) rfl (fun v w1 hr => ?_)
    obtain ⟨rfl, hb1⟩ := hr
    replace H := H.grow hb1
    clear hb1
    clear HS
    have HS := H
    refine hK.out _ _ (H.sub (by repeat (first | exact List.Sublist.refl _ | apply List.Sublist.cons))) ?_
    clear hK K
    simp only [Act.put, List.setIfInBounds_toArray, List.set_cons_zero, List.set_cons_succ]
    refine rg_one (i := 20) (by kernel_rfl) rfl rfl (fun K hK => ?_)
    refine wp_callf rfl ent13 (end_as t2 S t2l HT3.out _) rfl (fun v w1 hr => ?_)
    obtain ⟨rfl, hb1⟩ := hr
    replace H := H.grow hb1
    clear hb1
    clear HS
    have HS := H
    refine hK.out _ _ (H.sub (by repeat (first | exact List.Sublist.refl _ | apply List.Sublist.cons))) ?_
    clear hK K
    simp only [Act.put, List.setIfInBounds_toArray, List.set_cons_zero, List.set_cons_succ]
    refine rg_take (i := 22) rfl (by kernel_rfl) (by kernel_rfl) (by kernel_rfl) (Yld.of rfl (fun W _ => by go_simp; first | done | with_reducible rfl)) (H.sub (by repeat (first | exact List.Sublist.refl _ | apply List.Sublist.cons))) ?_; simp only [Act.put, List.setIfInBounds_toArray, List.set_cons_zero, List.set_cons_succ]
    refine rg_take (i := 23) rfl (by kernel_rfl) (by kernel_rfl) (by kernel_rfl) (Yld.pick rfl rfl rfl) (H.sub (by repeat (first | exact List.Sublist.refl _ | apply List.Sublist.cons))) ?_; simp only [Act.put, eval_tmp, eval_const, getD_lit0, getD_lits, if_true, if_false, List.setIfInBounds_toArray, List.set_cons_zero, List.set_cons_succ]
    refine rg_take (i := 24) rfl (by kernel_rfl) (by kernel_rfl) (by kernel_rfl) (Yld.assign rfl rfl) (H.sub (by repeat (first | exact List.Sublist.refl _ | apply List.Sublist.cons))) ?_; simp only [Act.put, eval_tmp, eval_const, getD_lit0, getD_lits, if_true, if_false, List.setIfInBounds_toArray, List.set_cons_zero, List.set_cons_succ]
    refine rg_done (by kernel_rfl) ?_
    go_wp2_with (first | (with_reducible refine wpl rfl (Stp.bsl (e := 22) (cs := #[.slice (some ⟨g0, 0, none⟩) l.length (l.length + 8)]) 47 rfl rfl (fun W => by kernel_rfl) H ?_); clear H; intro g47 w1 H; simp only [Act.put, List.setIfInBounds_toArray, List.set_cons_zero, List.set_cons_succ]) | (go_at_call 12; refine (one_as (.slice (some ⟨g0, 0, none⟩) l.length (l.length + 8)) (.slice (some ⟨g47, 0, none⟩) 1 1) l (by omega) HX.out S HSUM.out _ (one_part (H.getRow (t := 22) List.mem_cons_self)) (lent_sl (H.getRow (t := 5) (by repeat (first | exact List.mem_cons_self | apply List.mem_cons_of_mem))) (by omega))).mono ?_; rintro e w1 ⟨v, rfl, hr⟩; obtain ⟨rfl, hb1⟩ := hr; replace H := H.grow hb1; clear hb1) | (go_at_call 16; refine (kept_ok _ l l g0 (by omega) _ (H.getHeap (by repeat (first | exact List.mem_cons_self | apply List.mem_cons_of_mem))) (hs.grow H.below)).mono ?_; rintro e w1 ⟨v, rfl, hr⟩; obtain ⟨rfl, hb1⟩ := hr; replace H := H.grow hb1; clear hb1; rw [beq_self_eq_true]) | (go_at_call 8; refine (awake_ok _).mono ?_; rintro e w1 ⟨v, rfl, hr⟩; obtain ⟨rfl, hb1⟩ := hr; replace H := H.grow hb1; clear hb1))
    go_ret
    exact ⟨_, rfl, rfl, H.below⟩
theorem own : ownKnob Try.prog.godebug = none := by kernel_rfl
theorem laidOut : laidOutB Try.prog = true := by kernel_rfl
set_option maxRecDepth 100000 in
theorem crcSums_lifted (os : Os) (started : os.Started) (H : Type) (enc : TypeId × Value → H) :
    ReturnsInHanded {} Try.checked os 3 .any (Rows.crcSumsSpec.pre6 enc Try.prog Try.f3 Rows.crcSumsRow.domain false) (Rows.crcSumsSpec.post enc Try.prog Try.f3 false true false false) := by
  refine law_lifted (C := Try.checked) own started (by kernel_rfl) Try.func3 laidOut rfl Try.underlying4 rfl (by kernel_rfl) (fun ds hd => ?_)
    (ChangeSpec.witness6 (enc := enc) (C := Try.checked) false ⟨#[], #[.slice none 0 0, .int .i64 0], []⟩ 8 (by kernel_rfl) (by kernel_rfl) (by kernel_rfl) (by kernel_rfl)) ?_
  · match ds, hd with
    | [d0, d1], _ => exact ⟨rfl, rfl, rfl⟩
  intro W base args ds p hval hA
  rw [Try.params3] at hA hval
  obtain ⟨v0, vs0, d0, ds0, p0, q0, hargs, rfl, rfl, h0, r0⟩ := trodAll_cons hA
  obtain ⟨v1, vs1, d1, ds1, p1, q1, rfl, rfl, rfl, h1, r1⟩ := trodAll_cons r0
  obtain ⟨rfl, rfl, rfl⟩ := trodAll_nil r1
  obtain rfl : args = #[v0, v1] := by cases args; simp_all
  obtain ⟨l, lb, hs⟩ := open_bs (hval 0 22 v0 rfl rfl) h0
  obtain ⟨ct, rfl, _, _, ctw⟩ := open_int Try.underlying3 (hval 1 3 v1 rfl rfl) h1
  exact law_sums _ l lb ct W hs
theorem crcSums_over : Rows.crcSumsRow.holds Try.pinned (OpenSpec.ofChange Rows.crcSumsSpec) :=
  OpenClaim.holds_of_wide 3 Try.f3 rfl rfl rfl rfl rfl rfl rfl ⟨rfl, rfl, rfl, rfl, rfl⟩ rfl rfl rfl rfl rfl (by kernel_rfl) Try.func3 (by kernel_rfl)
    (of_decide_eq_true (by kernel_rfl)) (by unfold Func.isWrapper; first | (rw [if_pos (by decide +kernel)]; kernel_rfl) | (rw [if_neg (by decide +kernel)]; exact ⟨rfl, rfl⟩))
    (fun os started H enc _ => crcSums_lifted os started H enc)
theorem crcSums_holds : Rows.CrcSumsSaid := crcSums_over
#print axioms crcSums_holds
end Go.Proofs.Ytnmahekaidgnmaa
