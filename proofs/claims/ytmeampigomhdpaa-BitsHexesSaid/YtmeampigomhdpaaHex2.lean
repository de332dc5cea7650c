/- The contracts of layer 1's Hex, its own and the document's; the bounds stand in each. -/
import Derived.Test.YtmeampigomhdpaaHex1
namespace Go.Proofs.Ytmeampigomhdpaa
open Go.ChangeShapes Go.WideShapes Go.ChangeAt Go.RowKit
set_option linter.unusedVariables false
set_option linter.unusedSimpArgs false
/-- The digits of some bytes. -/
def hexL (l : List Nat) : List Nat := l.flatMap fun x => [dig (x / 16), dig (x % 16)]
theorem hexL_snoc (l : List Nat) (x : Nat) : hexL (l ++ [x]) = hexL l ++ [dig (x / 16), dig (x % 16)] := by unfold hexL; rw [List.flatMap_append]; rfl
theorem hexL_len (l : List Nat) : (hexL l).length = l.length * 2 := by
  unfold hexL
  induction l with
  | nil => rfl
  | cons x l ih => simp only [List.flatMap_cons, List.length_append, List.length_cons, List.length_nil] at ih ⊢; omega
theorem newV {w : World} {g : Nat} {l : List Nat} (h : rowAt w g = some (bv l).toArray) : ∀ j u, (bv l)[j]? = some u → w.cell? ((⟨g, 0, none⟩ : Addr).add j) = some u := fun j u hu => by
  have : (⟨g, 0, none⟩ : Addr).add j = ⟨g, j, none⟩ := by unfold Addr.add; split <;> simp_all
  rw [this, cell_of_rowAt h]; simpa using hu
attribute [local irreducible] strOf dig
set_option maxRecDepth 100000 in
theorem hex_ok (v : Value) (l : List Nat) (hl : l.length ≤ 1000) (hx : ∀ x ∈ l, x < 256) (w : World) (hs : Sl w 1 l.length v (elB l)) :
    Calls Try.prog 33 #[v] w (Ret fun v w' => v = .string (strOf (hexL l)) ∧ Below w.heap.size w w') := by
  have hs' := hs
  obtain ⟨ad, c0, rfl, hm⟩ := hs'.len
  have HX := Lib.hid hx
  clear hx
  have H := St.init w
  go_enter Try.func33, Try.ntmps33
  go_wp2_with (first | (with_reducible refine wpl rfl (Stp.mk 9 rfl rfl Try.underlying22 info5 rfl rfl rfl (by omega) (by omega) (by omega) (by omega) H ?_); clear H; intro a9 c9 w1 H; simp only [Act.put, List.setIfInBounds_toArray, List.set_cons_zero, List.set_cons_succ]; (try simp only [Int.toNat_natCast, toNat_add8] at H ⊢)) | (with_reducible refine wpl rfl (Stp.ldc rfl agg5 rfl H (by repeat (first | exact List.mem_cons_self | apply List.mem_cons_of_mem)) (by first | (repeat (first | exact lit0 _ _ | apply lits)) | rfl | assumption) ?_); simp only [Act.put, List.setIfInBounds_toArray, List.set_cons_zero, List.set_cons_succ]) | (with_reducible refine wpl rfl (Stp.ldo rfl agg5 rfl H (by assumption) (by assumption) ?_); simp only [Act.put, List.setIfInBounds_toArray, List.set_cons_zero, List.set_cons_succ]))
  go_loopw [3, 12] (fun out i wr => ∃ (k n : Nat) (a : Option Addr) (c : Nat) (m : List Nat), k ≤ l.length ∧ i = .int .i64 (k : Int) ∧ n = k * 2 ∧ Hid (hexL (l.take k) = m) ∧ m.length = n ∧ out = .slice a n c ∧ St w.heap.size w wr [slc 5 1 (.slice a n c) n (bv m)]) (fun _ i _ => l.length - (intOf i).toNat)
  case atStart => exact ⟨0, 0, _, _, [], Nat.zero_le _, rfl, rfl, Lib.hid rfl, rfl, rfl, H⟩
  case round =>
    clear H
    obtain ⟨k, n, ao, co, m, hk, rfl, hn, HM, hmn, rfl, H⟩ := hrel
    by_cases hlt : k < l.length
    · obtain ⟨b1, o1, rfl, hb1⟩ := hs.addr (by omega)
      have hc1 := hs.cell hlt
      have hmem : l[k] ∈ l := List.getElem_mem hlt
      have hsn : l.take (k + 1) = l.take k ++ [l[k]] := List.take_succ_eq_append_getElem hlt
      have hgd : l.getD k 0 = l[k] := by simp [List.getD, hlt]
      unfold elB at hc1
      rw [hgd] at hc1
      obtain ⟨x, hx⟩ : ∃ x, l[k] = x := ⟨_, rfl⟩
      rw [hx] at hc1 hmem hsn
      have hx256 := HX.out x hmem
      have hcell : w.cell? ⟨b1, o1 + k, none⟩ = some (.int .u8 (x : Int)) := by have := hc1 0 (by omega); simpa using this
      obtain ⟨q, hq⟩ : ∃ q, m ++ [dig (x / 16), dig (x % 16)] = q := ⟨_, rfl⟩
      have hcq : hexL (l.take (k + 1)) = q := by rw [hsn, hexL_snoc, HM.out, hq]
      have hbq : bv m ++ bv [dig (x / 16), dig (x % 16)] = bv q := by rw [bv_app, hq]
      have hql : q.length = n + 2 := by rw [← hq, List.length_append, hmn]; rfl
      have HQ := Lib.hid hcq
      have HB := Lib.hid hbq
      have kli : (k : Int) < (l.length : Int) := by omega
      have HA : Hid (bits .and .u8 (x : Int) 15 = (x : Int) % 16) := Lib.hid (by rw [and15 x hx256]; omega)
      clear hc1 hgd hx hmem hsn hq hcq hbq
      go_wp2_with (first | (with_reducible refine wpl rfl (Stp.ldc rfl agg5 rfl H (by repeat (first | exact List.mem_cons_self | apply List.mem_cons_of_mem)) (by first | (repeat (first | exact lit0 _ _ | apply lits)) | rfl | assumption) ?_); simp only [Act.put, List.setIfInBounds_toArray, List.set_cons_zero, List.set_cons_succ]) | (with_reducible refine wpl rfl (Stp.ldo rfl agg5 rfl H (by assumption) (by assumption) ?_); simp only [Act.put, List.setIfInBounds_toArray, List.set_cons_zero, List.set_cons_succ]))
      refine rg_begin 10 rfl (S := fun W => St _ _ W []) (by kernel_rfl) (H.drew.sub (by repeat (first | exact List.Sublist.refl _ | exact List.nil_sublist _ | (with_reducible apply List.Sublist.cons_cons) | apply List.Sublist.cons))) ?_
      replace H := H.drew
      have HS := H
      refine rg_take (i := 0) rfl (by kernel_rfl) (by kernel_rfl) (by kernel_rfl) (Yld.move rfl rfl) (H.sub (by repeat (first | exact List.Sublist.refl _ | exact List.nil_sublist _ | (with_reducible apply List.Sublist.cons_cons) | apply List.Sublist.cons))) ?_; simp only [Act.put, eval_tmp, eval_const, getD_lit0, getD_lits, if_true, if_false, List.setIfInBounds_toArray, List.set_cons_zero, List.set_cons_succ]
      refine rg_take (i := 1) rfl (by kernel_rfl) (by kernel_rfl) (by kernel_rfl) (Yld.move rfl rfl) (H.sub (by repeat (first | exact List.Sublist.refl _ | exact List.nil_sublist _ | (with_reducible apply List.Sublist.cons_cons) | apply List.Sublist.cons))) ?_; simp only [Act.put, eval_tmp, eval_const, getD_lit0, getD_lits, if_true, if_false, List.setIfInBounds_toArray, List.set_cons_zero, List.set_cons_succ]
      refine rg_take (i := 2) rfl (by kernel_rfl) (by kernel_rfl) (by kernel_rfl) (Yld.of (v := .int .u8 ((x / 16 : Nat) : Int)) rfl (fun W _ => by go_simp)) (H.sub (by repeat (first | exact List.Sublist.refl _ | exact List.nil_sublist _ | (with_reducible apply List.Sublist.cons_cons) | apply List.Sublist.cons))) ?_; simp only [Act.put, eval_tmp, eval_const, getD_lit0, getD_lits, if_true, if_false, List.setIfInBounds_toArray, List.set_cons_zero, List.set_cons_succ]
      refine rg_take (i := 3) rfl (by kernel_rfl) (by kernel_rfl) (by kernel_rfl) (Yld.index rfl rfl rfl rfl (fun W => dig_index _ _ (x / 16) rfl (by omega) W)) (H.sub (by repeat (first | exact List.Sublist.refl _ | exact List.nil_sublist _ | (with_reducible apply List.Sublist.cons_cons) | apply List.Sublist.cons))) ?_; simp only [Act.put, eval_tmp, eval_const, getD_lit0, getD_lits, if_true, if_false, List.setIfInBounds_toArray, List.set_cons_zero, List.set_cons_succ]
      refine rg_take (i := 4) rfl (by kernel_rfl) (by kernel_rfl) (by kernel_rfl) (Yld.move rfl rfl) (H.sub (by repeat (first | exact List.Sublist.refl _ | exact List.nil_sublist _ | (with_reducible apply List.Sublist.cons_cons) | apply List.Sublist.cons))) ?_; simp only [Act.put, eval_tmp, eval_const, getD_lit0, getD_lits, if_true, if_false, List.setIfInBounds_toArray, List.set_cons_zero, List.set_cons_succ]
      refine rg_take (i := 5) rfl (by kernel_rfl) (by kernel_rfl) (by kernel_rfl) (Yld.of (v := .int .u8 ((x % 16 : Nat) : Int)) rfl (fun W _ => by go_simp; exact HA.out)) (H.sub (by repeat (first | exact List.Sublist.refl _ | exact List.nil_sublist _ | (with_reducible apply List.Sublist.cons_cons) | apply List.Sublist.cons))) ?_; simp only [Act.put, eval_tmp, eval_const, getD_lit0, getD_lits, if_true, if_false, List.setIfInBounds_toArray, List.set_cons_zero, List.set_cons_succ]
      refine rg_take (i := 6) rfl (by kernel_rfl) (by kernel_rfl) (by kernel_rfl) (Yld.index rfl rfl rfl rfl (fun W => dig_index _ _ (x % 16) rfl (by omega) W)) (H.sub (by repeat (first | exact List.Sublist.refl _ | exact List.nil_sublist _ | (with_reducible apply List.Sublist.cons_cons) | apply List.Sublist.cons))) ?_; simp only [Act.put, eval_tmp, eval_const, getD_lit0, getD_lits, if_true, if_false, List.setIfInBounds_toArray, List.set_cons_zero, List.set_cons_succ]
      refine rg_one (i := 7) (by kernel_rfl) rfl rfl (fun K hK => ?_)
      refine Stp.wp (Stp.bsl (e := 5) (cs := #[.int .u8 (dig (x / 16) : Int), .int .u8 (dig (x % 16) : Int)]) 23 rfl rfl (fun W => by kernel_rfl) H ?_)
      clear H
      intro g23 w1 H
      clear HS
      have HS := H
      refine hK.out _ _ (H.sub (by repeat (first | exact List.Sublist.refl _ | exact List.nil_sublist _ | (with_reducible apply List.Sublist.cons_cons) | apply List.Sublist.cons))) ?_
      clear hK K
      simp only [Act.put, List.setIfInBounds_toArray, List.set_cons_zero, List.set_cons_succ]
      refine rg_one (i := 8) (by kernel_rfl) rfl rfl (fun K hK => ?_)
      refine Stp.wp (Stp.apps 24 rfl rfl Try.underlying22 info5 rfl (by decide) rfl rfl H (fun _ => (by repeat (first | exact Upd.head | apply Upd.tail))) (show (bv [dig (x / 16), dig (x % 16)]).length = 2 * 1 from rfl) (fun _ => ⟨_, rfl, newV (H.getRow (t := 5) (by repeat (first | exact List.mem_cons_self | apply List.mem_cons_of_mem)))⟩) (bv_one _) (by unfold maxLen; omega) (by omega) ?_)
      clear H
      intro a24 c24 w1 H
      rw [HB.out] at H
      clear HS
      have HS := H
      refine hK.out _ _ (H.sub (by repeat (first | exact List.Sublist.refl _ | exact List.nil_sublist _ | (with_reducible apply List.Sublist.cons_cons) | apply List.Sublist.cons))) ?_
      clear hK K
      simp only [Act.put, List.setIfInBounds_toArray, List.set_cons_zero, List.set_cons_succ]
      refine rg_take (i := 9) rfl (by kernel_rfl) (by kernel_rfl) (by kernel_rfl) (Yld.assign rfl rfl) (H.sub (by repeat (first | exact List.Sublist.refl _ | exact List.nil_sublist _ | (with_reducible apply List.Sublist.cons_cons) | apply List.Sublist.cons))) ?_; simp only [Act.put, eval_tmp, eval_const, getD_lit0, getD_lits, if_true, if_false, List.setIfInBounds_toArray, List.set_cons_zero, List.set_cons_succ]
      refine rg_done (by kernel_rfl) ?_
      go_wp2_with (first | (with_reducible refine wpl rfl (Stp.ldc rfl agg5 rfl H (by repeat (first | exact List.mem_cons_self | apply List.mem_cons_of_mem)) (by first | (repeat (first | exact lit0 _ _ | apply lits)) | rfl | assumption) ?_); simp only [Act.put, List.setIfInBounds_toArray, List.set_cons_zero, List.set_cons_succ]) | (with_reducible refine wpl rfl (Stp.ldo rfl agg5 rfl H (by assumption) (by assumption) ?_); simp only [Act.put, List.setIfInBounds_toArray, List.set_cons_zero, List.set_cons_succ]))
      go_roundw
      case rel => exact ⟨k + 1, n + 2, _, _, q, by omega, by go_num, by omega, HQ, hql, rfl, H.sub (by repeat (first | exact List.Sublist.refl _ | exact List.nil_sublist _ | (with_reducible apply List.Sublist.cons_cons) | apply List.Sublist.cons))⟩
      case measure => simp [intOf]; omega
    · obtain rfl : k = l.length := by omega
      have hm2 := HM.out
      rw [List.take_length] at hm2
      subst hm2
      go_wp2_with (first | (with_reducible refine wpl rfl (Stp.b2s (v := .slice ao n co) (l := hexL l) 27 rfl rfl rfl (own_slk (H.getSlc (v := .slice ao n co) (n := n) (xs := bv (hexL l)) (by repeat (first | exact List.mem_cons_self | apply List.mem_cons_of_mem))) hmn.symm (by omega)) ?_); simp only [Act.put, List.setIfInBounds_toArray, List.set_cons_zero, List.set_cons_succ]) | (with_reducible refine wpl rfl (Stp.ldc rfl agg5 rfl H (by repeat (first | exact List.mem_cons_self | apply List.mem_cons_of_mem)) (by first | (repeat (first | exact lit0 _ _ | apply lits)) | rfl | assumption) ?_); simp only [Act.put, List.setIfInBounds_toArray, List.set_cons_zero, List.set_cons_succ]) | (with_reducible refine wpl rfl (Stp.ldo rfl agg5 rfl H (by assumption) (by assumption) ?_); simp only [Act.put, List.setIfInBounds_toArray, List.set_cons_zero, List.set_cons_succ]))
      go_ret
      exact ⟨_, rfl, rfl, H.below⟩
set_option maxRecDepth 100000 in
theorem rhex_ok (v : Value) (l : List Nat) (hl : l.length ≤ 1000) (hx : ∀ x ∈ l, x < 256) (w : World) (hs : Sl w 1 l.length v (elB l)) :
    Calls Try.prog 36 #[v] w (Ret fun v w' => v = .string (strOf (hexL l)) ∧ Below w.heap.size w w') := by
  have hs' := hs
  obtain ⟨ad, c0, rfl, hm⟩ := hs'.len
  have HX := Lib.hid hx
  clear hx
  have hse : (⟨#[]⟩ : ByteArray) = strOf [] := by with_unfolding_all rfl
  have H := St.init w
  go_enter Try.func36, Try.ntmps36
  go_wp2_with fail
  go_loopw [3, 4] (fun out i wr => ∃ (k : Nat) (m : List Nat), k ≤ l.length ∧ i = .int .i64 (k : Int) ∧ Hid (hexL (l.take k) = m) ∧ m.length = k * 2 ∧ out = .string (strOf m) ∧ St w.heap.size w wr []) (fun _ i _ => l.length - (intOf i).toNat)
  case atStart => exact ⟨0, [], Nat.zero_le _, rfl, Lib.hid rfl, rfl, by rw [← hse], H⟩
  case round =>
    clear H
    obtain ⟨k, m, hk, rfl, HM, hmn, rfl, H⟩ := hrel
    by_cases hlt : k < l.length
    · obtain ⟨b1, o1, rfl, hb1⟩ := hs.addr (by omega)
      have hc1 := hs.cell hlt
      have hmem : l[k] ∈ l := List.getElem_mem hlt
      have hsn : l.take (k + 1) = l.take k ++ [l[k]] := List.take_succ_eq_append_getElem hlt
      have hgd : l.getD k 0 = l[k] := by simp [List.getD, hlt]
      unfold elB at hc1
      rw [hgd] at hc1
      obtain ⟨x, hx⟩ : ∃ x, l[k] = x := ⟨_, rfl⟩
      rw [hx] at hc1 hmem hsn
      have hx256 := HX.out x hmem
      have hcell : w.cell? ⟨b1, o1 + k, none⟩ = some (.int .u8 (x : Int)) := by have := hc1 0 (by omega); simpa using this
      have hcq : hexL (l.take (k + 1)) = m ++ [dig (x / 16)] ++ [dig (x % 16)] := by rw [hsn, hexL_snoc, HM.out, List.append_assoc]; rfl
      have HQ := Lib.hid hcq
      have kli : (k : Int) < (l.length : Int) := by omega
      have W1 : Hid (IntKind.u8.wrap ((x : Int) / 16) = (x : Int) / 16) := Lib.hid (by rw [IntKind.wrap_u8]; omega)
      have W2 : Hid (IntKind.u8.wrap ((x : Int) / 16 + 1) = (x : Int) / 16 + 1) := Lib.hid (by rw [IntKind.wrap_u8]; omega)
      have W3 : Hid ((x : Int).tmod 16 = (x : Int) % 16) := Lib.hid (Int.tmod_eq_emod_of_nonneg (by omega))
      have W4 : Hid (IntKind.u8.wrap ((x : Int) % 16 + 1) = (x : Int) % 16 + 1) := Lib.hid (by rw [IntKind.wrap_u8]; omega)
      clear hc1 hgd hx hmem hsn hcq
      go_wp2_with fail
      refine rg_begin 28 rfl (S := fun W => St _ _ W _) (by kernel_rfl) H.drew ?_
      replace H := H.drew
      have HS := H
      refine rg_take (i := 0) rfl (by kernel_rfl) (by kernel_rfl) (by kernel_rfl) (Yld.move rfl rfl) HS ?_; simp only [Act.put, eval_tmp, eval_const, getD_lit0, getD_lits, if_true, if_false, List.setIfInBounds_toArray, List.set_cons_zero, List.set_cons_succ]
      refine rg_take (i := 1) rfl (by kernel_rfl) (by kernel_rfl) (by kernel_rfl) (Yld.move rfl rfl) HS ?_; simp only [Act.put, eval_tmp, eval_const, getD_lit0, getD_lits, if_true, if_false, List.setIfInBounds_toArray, List.set_cons_zero, List.set_cons_succ]
      refine rg_take (i := 2) rfl (by kernel_rfl) (by kernel_rfl) (by kernel_rfl) (Yld.move rfl rfl) HS ?_; simp only [Act.put, eval_tmp, eval_const, getD_lit0, getD_lits, if_true, if_false, List.setIfInBounds_toArray, List.set_cons_zero, List.set_cons_succ]
      refine rg_take (i := 3) rfl (by kernel_rfl) (by kernel_rfl) (by kernel_rfl) (Yld.of rfl (fun W _ => by go_simp; first | done | with_reducible rfl)) HS ?_; simp only [Act.put, List.setIfInBounds_toArray, List.set_cons_zero, List.set_cons_succ]
      first | (refine rg_take (i := 4) rfl (by kernel_rfl) (by kernel_rfl) (by kernel_rfl) (Yld.ldc rfl rfl agg5 rfl (by repeat (first | exact List.mem_cons_self | apply List.mem_cons_of_mem)) (by first | (repeat (first | exact lit0 _ _ | apply lits)) | rfl | assumption)) HS ?_; simp only [Act.put, List.setIfInBounds_toArray, List.set_cons_zero, List.set_cons_succ]) | (refine rg_take (i := 4) rfl (by kernel_rfl) (by kernel_rfl) (by kernel_rfl) (Yld.ldo rfl rfl agg5 rfl (by assumption) (by assumption)) HS ?_; simp only [Act.put, List.setIfInBounds_toArray, List.set_cons_zero, List.set_cons_succ])
      refine rg_take (i := 5) rfl (by kernel_rfl) (by kernel_rfl) (by kernel_rfl) (Yld.of (v := .int .u8 ((x / 16 : Nat) : Int)) rfl (fun W _ => by go_simp; exact W1.out)) HS ?_; simp only [Act.put, eval_tmp, eval_const, getD_lit0, getD_lits, if_true, if_false, List.setIfInBounds_toArray, List.set_cons_zero, List.set_cons_succ]
      refine rg_take (i := 6) rfl (by kernel_rfl) (by kernel_rfl) (by kernel_rfl) (Yld.move rfl rfl) HS ?_; simp only [Act.put, eval_tmp, eval_const, getD_lit0, getD_lits, if_true, if_false, List.setIfInBounds_toArray, List.set_cons_zero, List.set_cons_succ]
      refine rg_take (i := 7) rfl (by kernel_rfl) (by kernel_rfl) (by kernel_rfl) (Yld.move rfl rfl) HS ?_; simp only [Act.put, eval_tmp, eval_const, getD_lit0, getD_lits, if_true, if_false, List.setIfInBounds_toArray, List.set_cons_zero, List.set_cons_succ]
      refine rg_take (i := 8) rfl (by kernel_rfl) (by kernel_rfl) (by kernel_rfl) (Yld.of rfl (fun W _ => by go_simp; first | done | with_reducible rfl)) HS ?_; simp only [Act.put, List.setIfInBounds_toArray, List.set_cons_zero, List.set_cons_succ]
      first | (refine rg_take (i := 9) rfl (by kernel_rfl) (by kernel_rfl) (by kernel_rfl) (Yld.ldc rfl rfl agg5 rfl (by repeat (first | exact List.mem_cons_self | apply List.mem_cons_of_mem)) (by first | (repeat (first | exact lit0 _ _ | apply lits)) | rfl | assumption)) HS ?_; simp only [Act.put, List.setIfInBounds_toArray, List.set_cons_zero, List.set_cons_succ]) | (refine rg_take (i := 9) rfl (by kernel_rfl) (by kernel_rfl) (by kernel_rfl) (Yld.ldo rfl rfl agg5 rfl (by assumption) (by assumption)) HS ?_; simp only [Act.put, List.setIfInBounds_toArray, List.set_cons_zero, List.set_cons_succ])
      refine rg_take (i := 10) rfl (by kernel_rfl) (by kernel_rfl) (by kernel_rfl) (Yld.of (v := .int .u8 ((x / 16 : Nat) : Int)) rfl (fun W _ => by go_simp; exact W1.out)) HS ?_; simp only [Act.put, eval_tmp, eval_const, getD_lit0, getD_lits, if_true, if_false, List.setIfInBounds_toArray, List.set_cons_zero, List.set_cons_succ]
      refine rg_take (i := 11) rfl (by kernel_rfl) (by kernel_rfl) (by kernel_rfl) (Yld.of (v := .int .u8 (((x / 16 : Nat) : Int) + 1)) rfl (fun W _ => by go_simp; exact W2.out)) HS ?_; simp only [Act.put, eval_tmp, eval_const, getD_lit0, getD_lits, if_true, if_false, List.setIfInBounds_toArray, List.set_cons_zero, List.set_cons_succ]
      refine rg_take (i := 12) rfl (by kernel_rfl) (by kernel_rfl) (by kernel_rfl) (Yld.slice2 rfl rfl rfl rfl rfl Try.underlying9 (fun W => dig_slice _ _ _ _ (x / 16) rfl rfl (by omega) W)) HS ?_; simp only [Act.put, eval_tmp, eval_const, getD_lit0, getD_lits, if_true, if_false, List.setIfInBounds_toArray, List.set_cons_zero, List.set_cons_succ]
      refine rg_take (i := 13) rfl (by kernel_rfl) (by kernel_rfl) (by kernel_rfl) (Yld.cat rfl rfl rfl rfl (by simp; omega)) HS ?_; simp only [Act.put, eval_tmp, eval_const, getD_lit0, getD_lits, if_true, if_false, List.setIfInBounds_toArray, List.set_cons_zero, List.set_cons_succ]
      refine rg_take (i := 14) rfl (by kernel_rfl) (by kernel_rfl) (by kernel_rfl) (Yld.move rfl rfl) HS ?_; simp only [Act.put, eval_tmp, eval_const, getD_lit0, getD_lits, if_true, if_false, List.setIfInBounds_toArray, List.set_cons_zero, List.set_cons_succ]
      refine rg_take (i := 15) rfl (by kernel_rfl) (by kernel_rfl) (by kernel_rfl) (Yld.move rfl rfl) HS ?_; simp only [Act.put, eval_tmp, eval_const, getD_lit0, getD_lits, if_true, if_false, List.setIfInBounds_toArray, List.set_cons_zero, List.set_cons_succ]
      refine rg_take (i := 16) rfl (by kernel_rfl) (by kernel_rfl) (by kernel_rfl) (Yld.of rfl (fun W _ => by go_simp; first | done | with_reducible rfl)) HS ?_; simp only [Act.put, List.setIfInBounds_toArray, List.set_cons_zero, List.set_cons_succ]
      first | (refine rg_take (i := 17) rfl (by kernel_rfl) (by kernel_rfl) (by kernel_rfl) (Yld.ldc rfl rfl agg5 rfl (by repeat (first | exact List.mem_cons_self | apply List.mem_cons_of_mem)) (by first | (repeat (first | exact lit0 _ _ | apply lits)) | rfl | assumption)) HS ?_; simp only [Act.put, List.setIfInBounds_toArray, List.set_cons_zero, List.set_cons_succ]) | (refine rg_take (i := 17) rfl (by kernel_rfl) (by kernel_rfl) (by kernel_rfl) (Yld.ldo rfl rfl agg5 rfl (by assumption) (by assumption)) HS ?_; simp only [Act.put, List.setIfInBounds_toArray, List.set_cons_zero, List.set_cons_succ])
      refine rg_take (i := 18) rfl (by kernel_rfl) (by kernel_rfl) (by kernel_rfl) (Yld.of (v := .int .u8 ((x % 16 : Nat) : Int)) rfl (fun W _ => by go_simp; exact W3.out)) HS ?_; simp only [Act.put, eval_tmp, eval_const, getD_lit0, getD_lits, if_true, if_false, List.setIfInBounds_toArray, List.set_cons_zero, List.set_cons_succ]
      refine rg_take (i := 19) rfl (by kernel_rfl) (by kernel_rfl) (by kernel_rfl) (Yld.move rfl rfl) HS ?_; simp only [Act.put, eval_tmp, eval_const, getD_lit0, getD_lits, if_true, if_false, List.setIfInBounds_toArray, List.set_cons_zero, List.set_cons_succ]
      refine rg_take (i := 20) rfl (by kernel_rfl) (by kernel_rfl) (by kernel_rfl) (Yld.move rfl rfl) HS ?_; simp only [Act.put, eval_tmp, eval_const, getD_lit0, getD_lits, if_true, if_false, List.setIfInBounds_toArray, List.set_cons_zero, List.set_cons_succ]
      refine rg_take (i := 21) rfl (by kernel_rfl) (by kernel_rfl) (by kernel_rfl) (Yld.of rfl (fun W _ => by go_simp; first | done | with_reducible rfl)) HS ?_; simp only [Act.put, List.setIfInBounds_toArray, List.set_cons_zero, List.set_cons_succ]
      first | (refine rg_take (i := 22) rfl (by kernel_rfl) (by kernel_rfl) (by kernel_rfl) (Yld.ldc rfl rfl agg5 rfl (by repeat (first | exact List.mem_cons_self | apply List.mem_cons_of_mem)) (by first | (repeat (first | exact lit0 _ _ | apply lits)) | rfl | assumption)) HS ?_; simp only [Act.put, List.setIfInBounds_toArray, List.set_cons_zero, List.set_cons_succ]) | (refine rg_take (i := 22) rfl (by kernel_rfl) (by kernel_rfl) (by kernel_rfl) (Yld.ldo rfl rfl agg5 rfl (by assumption) (by assumption)) HS ?_; simp only [Act.put, List.setIfInBounds_toArray, List.set_cons_zero, List.set_cons_succ])
      refine rg_take (i := 23) rfl (by kernel_rfl) (by kernel_rfl) (by kernel_rfl) (Yld.of (v := .int .u8 ((x % 16 : Nat) : Int)) rfl (fun W _ => by go_simp; exact W3.out)) HS ?_; simp only [Act.put, eval_tmp, eval_const, getD_lit0, getD_lits, if_true, if_false, List.setIfInBounds_toArray, List.set_cons_zero, List.set_cons_succ]
      refine rg_take (i := 24) rfl (by kernel_rfl) (by kernel_rfl) (by kernel_rfl) (Yld.of (v := .int .u8 (((x % 16 : Nat) : Int) + 1)) rfl (fun W _ => by go_simp; exact W4.out)) HS ?_; simp only [Act.put, eval_tmp, eval_const, getD_lit0, getD_lits, if_true, if_false, List.setIfInBounds_toArray, List.set_cons_zero, List.set_cons_succ]
      refine rg_take (i := 25) rfl (by kernel_rfl) (by kernel_rfl) (by kernel_rfl) (Yld.slice2 rfl rfl rfl rfl rfl Try.underlying9 (fun W => dig_slice _ _ _ _ (x % 16) rfl rfl (by omega) W)) HS ?_; simp only [Act.put, eval_tmp, eval_const, getD_lit0, getD_lits, if_true, if_false, List.setIfInBounds_toArray, List.set_cons_zero, List.set_cons_succ]
      refine rg_take (i := 26) rfl (by kernel_rfl) (by kernel_rfl) (by kernel_rfl) (Yld.cat rfl rfl rfl rfl (by simp; omega)) HS ?_; simp only [Act.put, eval_tmp, eval_const, getD_lit0, getD_lits, if_true, if_false, List.setIfInBounds_toArray, List.set_cons_zero, List.set_cons_succ]
      refine rg_take (i := 27) rfl (by kernel_rfl) (by kernel_rfl) (by kernel_rfl) (Yld.assign rfl rfl) HS ?_; simp only [Act.put, eval_tmp, eval_const, getD_lit0, getD_lits, if_true, if_false, List.setIfInBounds_toArray, List.set_cons_zero, List.set_cons_succ]
      refine rg_done (by kernel_rfl) ?_
      go_wp2_with fail
      go_roundw
      case rel => exact ⟨k + 1, _, by omega, by go_num, HQ, by simp; omega, rfl, H.sub (by repeat (first | exact List.Sublist.refl _ | exact List.nil_sublist _ | (with_reducible apply List.Sublist.cons_cons) | apply List.Sublist.cons))⟩
      case measure => simp [intOf]; omega
    · obtain rfl : k = l.length := by omega
      have hm2 := HM.out
      rw [List.take_length] at hm2
      subst hm2
      go_wp2_with fail
      go_ret
      exact ⟨_, rfl, rfl, H.below⟩
end Go.Proofs.Ytmeampigomhdpaa
