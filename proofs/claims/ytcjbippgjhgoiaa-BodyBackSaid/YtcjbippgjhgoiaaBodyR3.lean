/- The closure of layer 7's Reader that reads processes (body), where nothing is wrong; the bounds stand in it. -/
import Derived.Test.YtcjbippgjhgoiaaBodyR2
import Derived.Test.YtcjbippgjhgoiaaBase3
namespace Go.Proofs.Ytcjbippgjhgoiaa
open Go.ChangeShapes Go.WideShapes Go.ChangeAt Go.RowKit Go.Deep
set_option linter.unusedVariables false
set_option linter.unusedSimpArgs false
/-- Processes, as values. -/
def pv (ps : List (Nat × Nat)) : List Value := ps.flatMap fun p => [.int .u16 (p.1 : Int), .int .u32 (p.2 : Int)]
theorem pv_len (ps : List (Nat × Nat)) : (pv ps).length = ps.length * 2 := by
  induction ps with
  | nil => rfl
  | cons p ps ih => simp [pv] at ih ⊢; omega
theorem pv_snoc (ps : List (Nat × Nat)) (k : Nat) (h : k < ps.length) : pv (ps.take (k + 1)) = pv (ps.take k) ++ [.int .u16 (((ps.getD k (0, 0)).1 : Nat) : Int), .int .u32 (((ps.getD k (0, 0)).2 : Nat) : Int)] := by
  unfold pv
  rw [List.take_succ_eq_append_getElem h, List.flatMap_append]
  simp [List.getD, h]
theorem pidsB_drop (ps : List (Nat × Nat)) (k : Nat) (h : k < ps.length) : pidsB (ps.drop k) = pidB (ps.getD k (0, 0)).1 (ps.getD k (0, 0)).2 ++ pidsB (ps.drop (k + 1)) := by
  unfold pidsB
  have e : ps.getD k (0, 0) = ps[k] := by simp [List.getD, h]
  rw [List.drop_eq_getElem_cons h, List.flatMap_cons, e]
set_option maxRecDepth 100000 in
set_option maxHeartbeats 1000000 in
theorem pidsc_ok {B : Nat} {w0 : World} {L M : List Res} (g rb mb nb : Nat) (s : Value) (l r : List Nat) (ps : List (Nat × Nat)) (most : Nat) (hb : Byt B w0 L s l) (hl : l = shortB ps.length ++ (pidsB ps ++ r)) (hp : okPids ps) (hmo : ps.length ≤ most) (hmo2 : most ≤ 100000) (hML : L.Sublist M) (w : World)
    (H : St B w0 w (row 104 g #[s, .int .i64 0] :: row 60 rb #[.pointer (some ⟨g, 0, none⟩)] :: row 3 mb #[.int .i64 (most : Int)] :: row 37 nb #[.slice none 0 0] :: M)) :
    Calls Try.prog 78 #[.pointer (some ⟨rb, 0, none⟩), .pointer (some ⟨mb, 0, none⟩), .pointer (some ⟨nb, 0, none⟩)] w (Ret fun v w' => v = .tuple #[] ∧ ∃ s' ab cb, Byt B w0 L s' r ∧ St B w0 w' (row 104 g #[s', .int .i64 0] :: row 60 rb #[.pointer (some ⟨g, 0, none⟩)] :: row 3 mb #[.int .i64 (most : Int)] :: row 37 nb #[.slice ab ps.length cb] :: slc 34 2 (.slice ab ps.length cb) ps.length (pv ps) :: M)) := by
  have wm : IntKind.u64.wrap (most : Int) = (most : Int) := wrap_u64_in _ (by omega) (by omega)
  have mm : (if (most : Int) ≥ 0 then (most : Int) else 0) = (most : Int) := if_pos (by omega)
  have HP := Lib.hid hp
  clear hp
  go_enter Try.func78, Try.ntmps78
  go_wp2_with (first | (with_reducible refine wpl rfl (Stp.ldc rfl agg60 rfl H (by repeat (first | exact List.mem_cons_self | apply List.mem_cons_of_mem)) (by first | (repeat (first | exact lit0 _ _ | apply lits)) | rfl | assumption) ?_); simp only [Act.put, List.setIfInBounds_toArray, List.set_cons_zero, List.set_cons_succ]) | (with_reducible refine wpl rfl (Stp.ldo rfl agg60 rfl H (by assumption) (by assumption) ?_); simp only [Act.put, List.setIfInBounds_toArray, List.set_cons_zero, List.set_cons_succ]) | (with_reducible refine wpl rfl (Stp.ldc rfl agg3 rfl H (by repeat (first | exact List.mem_cons_self | apply List.mem_cons_of_mem)) (by first | (repeat (first | exact lit0 _ _ | apply lits)) | rfl | assumption) ?_); simp only [Act.put, List.setIfInBounds_toArray, List.set_cons_zero, List.set_cons_succ]) | (with_reducible refine wpl rfl (Stp.ldo rfl agg3 rfl H (by assumption) (by assumption) ?_); simp only [Act.put, List.setIfInBounds_toArray, List.set_cons_zero, List.set_cons_succ]) | (with_reducible refine wpl rfl (Stp.ldc rfl agg45 rfl H (by repeat (first | exact List.mem_cons_self | apply List.mem_cons_of_mem)) (by first | (repeat (first | exact lit0 _ _ | apply lits)) | rfl | assumption) ?_); simp only [Act.put, List.setIfInBounds_toArray, List.set_cons_zero, List.set_cons_succ]) | (with_reducible refine wpl rfl (Stp.ldo rfl agg45 rfl H (by assumption) (by assumption) ?_); simp only [Act.put, List.setIfInBounds_toArray, List.set_cons_zero, List.set_cons_succ]))
  refine (num_ok g s l (pidsB ps ++ r) ps.length most hb hl (by omega) hmo (.cons _ (.cons _ (.cons _ hML))) _ H).mono ?_
  rintro e w1 ⟨v, rfl, rfl, s2, hb2, H2⟩
  clear H hb hl
  have H := bytes_perm (H2.nil 34 2)
  clear H2
  go_wp2_with (first | (with_reducible refine wpl rfl (Stp.ldc rfl agg60 rfl H (by repeat (first | exact List.mem_cons_self | apply List.mem_cons_of_mem)) (by first | (repeat (first | exact lit0 _ _ | apply lits)) | rfl | assumption) ?_); simp only [Act.put, List.setIfInBounds_toArray, List.set_cons_zero, List.set_cons_succ]) | (with_reducible refine wpl rfl (Stp.ldo rfl agg60 rfl H (by assumption) (by assumption) ?_); simp only [Act.put, List.setIfInBounds_toArray, List.set_cons_zero, List.set_cons_succ]) | (with_reducible refine wpl rfl (Stp.ldc rfl agg3 rfl H (by repeat (first | exact List.mem_cons_self | apply List.mem_cons_of_mem)) (by first | (repeat (first | exact lit0 _ _ | apply lits)) | rfl | assumption) ?_); simp only [Act.put, List.setIfInBounds_toArray, List.set_cons_zero, List.set_cons_succ]) | (with_reducible refine wpl rfl (Stp.ldo rfl agg3 rfl H (by assumption) (by assumption) ?_); simp only [Act.put, List.setIfInBounds_toArray, List.set_cons_zero, List.set_cons_succ]) | (with_reducible refine wpl rfl (Stp.ldc rfl agg45 rfl H (by repeat (first | exact List.mem_cons_self | apply List.mem_cons_of_mem)) (by first | (repeat (first | exact lit0 _ _ | apply lits)) | rfl | assumption) ?_); simp only [Act.put, List.setIfInBounds_toArray, List.set_cons_zero, List.set_cons_succ]) | (with_reducible refine wpl rfl (Stp.ldo rfl agg45 rfl H (by assumption) (by assumption) ?_); simp only [Act.put, List.setIfInBounds_toArray, List.set_cons_zero, List.set_cons_succ]))
  go_loopw [4] (fun i wr => ∃ (k : Nat) (s : Value) (a : Option Addr) (c : Nat), k ≤ ps.length ∧ i = .int .u64 (k : Int) ∧ Byt B w0 L s (pidsB (ps.drop k) ++ r) ∧ St B w0 wr (row 104 g #[s, .int .i64 0] :: row 60 rb #[.pointer (some ⟨g, 0, none⟩)] :: row 3 mb #[.int .i64 (most : Int)] :: row 37 nb #[.slice a k c] :: slc 34 2 (.slice a k c) k (pv (ps.take k)) :: M)) (fun i _ => ps.length - (intOf i).toNat)
  case atStart => exact ⟨0, s2, none, 0, Nat.zero_le _, rfl, hb2, H⟩
  case round =>
    clear H hb2
    obtain ⟨k, s3, a, c, hk, rfl, hb3, H⟩ := hrel
    by_cases hlt : k < ps.length
    · obtain ⟨p1, p2⟩ := okPids_at HP.out k hlt
      have hd := pidsB_drop ps k hlt
      have hsn := pv_snoc ps k hlt
      obtain ⟨x, hx⟩ : ∃ x, (ps.getD k (0, 0)).1 = x := ⟨_, rfl⟩
      obtain ⟨y, hy⟩ : ∃ y, (ps.getD k (0, 0)).2 = y := ⟨_, rfl⟩
      rw [hx, hy] at hd hsn
      rw [hx] at p1
      rw [hy] at p2
      have HD := Lib.hid hd
      have HSN := Lib.hid hsn
      have kli : (k : Int) < (ps.length : Int) := by omega
      clear hd hsn hx hy
      go_wp2_with (first | (with_reducible refine wpl rfl (Stp.ldc rfl agg60 rfl H (by repeat (first | exact List.mem_cons_self | apply List.mem_cons_of_mem)) (by first | (repeat (first | exact lit0 _ _ | apply lits)) | rfl | assumption) ?_); simp only [Act.put, List.setIfInBounds_toArray, List.set_cons_zero, List.set_cons_succ]) | (with_reducible refine wpl rfl (Stp.ldo rfl agg60 rfl H (by assumption) (by assumption) ?_); simp only [Act.put, List.setIfInBounds_toArray, List.set_cons_zero, List.set_cons_succ]) | (with_reducible refine wpl rfl (Stp.ldc rfl agg3 rfl H (by repeat (first | exact List.mem_cons_self | apply List.mem_cons_of_mem)) (by first | (repeat (first | exact lit0 _ _ | apply lits)) | rfl | assumption) ?_); simp only [Act.put, List.setIfInBounds_toArray, List.set_cons_zero, List.set_cons_succ]) | (with_reducible refine wpl rfl (Stp.ldo rfl agg3 rfl H (by assumption) (by assumption) ?_); simp only [Act.put, List.setIfInBounds_toArray, List.set_cons_zero, List.set_cons_succ]) | (with_reducible refine wpl rfl (Stp.ldc rfl agg45 rfl H (by repeat (first | exact List.mem_cons_self | apply List.mem_cons_of_mem)) (by first | (repeat (first | exact lit0 _ _ | apply lits)) | rfl | assumption) ?_); simp only [Act.put, List.setIfInBounds_toArray, List.set_cons_zero, List.set_cons_succ]) | (with_reducible refine wpl rfl (Stp.ldo rfl agg45 rfl H (by assumption) (by assumption) ?_); simp only [Act.put, List.setIfInBounds_toArray, List.set_cons_zero, List.set_cons_succ]))
      refine rk_begin 5 6 (fun W => St B w0 W [row 60 rb #[.pointer (some ⟨g, 0, none⟩)], row 37 nb #[.slice a k c]]) rfl (by kernel_rfl) ?_
      replace H := H.drew
      have HS := H
      first | (refine rk_take (i := 0) rfl (by kernel_rfl) (by kernel_rfl) (by kernel_rfl) (by kernel_rfl) (by kernel_rfl) (by kernel_rfl) (Yld.ldc rfl rfl agg37 rfl (by repeat (first | exact List.mem_cons_self | apply List.mem_cons_of_mem)) (by first | (repeat (first | exact lit0 _ _ | apply lits)) | rfl | assumption)) (H.sub (by repeat (first | exact List.Sublist.refl _ | exact List.nil_sublist _ | (with_reducible apply List.Sublist.cons_cons) | apply List.Sublist.cons))) ?_; simp only [Act.put, List.setIfInBounds_toArray, List.set_cons_zero, List.set_cons_succ]) | (refine rk_take (i := 0) rfl (by kernel_rfl) (by kernel_rfl) (by kernel_rfl) (by kernel_rfl) (by kernel_rfl) (by kernel_rfl) (Yld.ldo rfl rfl agg37 rfl (by assumption) (by assumption)) (H.sub (by repeat (first | exact List.Sublist.refl _ | exact List.nil_sublist _ | (with_reducible apply List.Sublist.cons_cons) | apply List.Sublist.cons))) ?_; simp only [Act.put, List.setIfInBounds_toArray, List.set_cons_zero, List.set_cons_succ])
      first | (refine rk_take (i := 1) rfl (by kernel_rfl) (by kernel_rfl) (by kernel_rfl) (by kernel_rfl) (by kernel_rfl) (by kernel_rfl) (Yld.ldc rfl rfl agg60 rfl (by repeat (first | exact List.mem_cons_self | apply List.mem_cons_of_mem)) (by first | (repeat (first | exact lit0 _ _ | apply lits)) | rfl | assumption)) (H.sub (by repeat (first | exact List.Sublist.refl _ | exact List.nil_sublist _ | (with_reducible apply List.Sublist.cons_cons) | apply List.Sublist.cons))) ?_; simp only [Act.put, List.setIfInBounds_toArray, List.set_cons_zero, List.set_cons_succ]) | (refine rk_take (i := 1) rfl (by kernel_rfl) (by kernel_rfl) (by kernel_rfl) (by kernel_rfl) (by kernel_rfl) (by kernel_rfl) (Yld.ldo rfl rfl agg60 rfl (by assumption) (by assumption)) (H.sub (by repeat (first | exact List.Sublist.refl _ | exact List.nil_sublist _ | (with_reducible apply List.Sublist.cons_cons) | apply List.Sublist.cons))) ?_; simp only [Act.put, List.setIfInBounds_toArray, List.set_cons_zero, List.set_cons_succ])
      refine rk_one (i := 2) (by kernel_rfl) rfl rfl (fun K hK => ?_)
      refine wp_callf rfl ent74 (rpid_ok g s3 _ (pidsB (ps.drop (k + 1)) ++ r) x y hb3 (by rw [HD.out, List.append_assoc]) p1 p2 (by repeat (first | exact hML | apply List.Sublist.cons)) _ H) rfl (fun v w1 hr => ?_)
      obtain ⟨rfl, s4, hb4, H2⟩ := hr
      clear H
      have H := H2
      clear H2
      clear HS
      have HS := H
      refine hK.out _ _ (fun _ => (H.sub (by repeat (first | exact List.Sublist.refl _ | exact List.nil_sublist _ | (with_reducible apply List.Sublist.cons_cons) | apply List.Sublist.cons)))) ?_
      clear hK K
      simp only [Act.put, List.setIfInBounds_toArray, List.set_cons_zero, List.set_cons_succ]
      refine rk_one (i := 3) (by kernel_rfl) rfl rfl (fun K hK => ?_)
      refine Stp.wp (Stp.bsl (e := 34) (cs := #[.int .u16 (x : Int), .int .u32 (y : Int)]) 25 rfl rfl (fun W => by kernel_rfl) H ?_)
      clear H
      intro g25 w1 H
      clear HS
      have HS := H
      refine hK.out _ _ (fun _ => (H.sub (by repeat (first | exact List.Sublist.refl _ | exact List.nil_sublist _ | (with_reducible apply List.Sublist.cons_cons) | apply List.Sublist.cons)))) ?_
      clear hK K
      simp only [Act.put, List.setIfInBounds_toArray, List.set_cons_zero, List.set_cons_succ]
      refine rk_one (i := 4) (by kernel_rfl) rfl rfl (fun K hK => ?_)
      refine Stp.wp (Stp.app 26 rfl rfl Try.underlying37 info34 rfl (by decide) rfl rfl H (fun _ => (by repeat (first | exact Upd.head | apply Upd.tail))) rfl (newN (H.getRow (t := 34) (by repeat (first | exact List.mem_cons_self | apply List.mem_cons_of_mem)))) (by simp [Value.oneCell']) (by unfold maxLen; omega) (by omega) ?_)
      clear H
      intro a26 c26 w1 H
      simp only [List.toList_toArray] at H
      rw [← HSN.out] at H
      clear HS
      have HS := H
      refine hK.out _ _ (fun _ => (H.sub (by repeat (first | exact List.Sublist.refl _ | exact List.nil_sublist _ | (with_reducible apply List.Sublist.cons_cons) | apply List.Sublist.cons)))) ?_
      clear hK K
      simp only [Act.put, List.setIfInBounds_toArray, List.set_cons_zero, List.set_cons_succ]
      refine rk_one (i := 5) (by kernel_rfl) rfl rfl (fun K hK => ?_)
      refine Stp.wp (Stp.stc rfl size37 rfl rfl rfl rfl H (by repeat (first | exact Upd.head | apply Upd.tail)) (by simp) ?_)
      clear H
      intro w1 H
      simp only [eval_tmp, eval_const, getD_lit0, getD_lits, cells_agg, cells_int, cells_bool, cells_string, cells_pointer, cells_slice, cells_map, List.setIfInBounds_toArray, List.set_cons_zero, List.set_cons_succ] at H
      clear HS
      have HS := H
      refine hK.out _ _ (fun h => by cases (show true = false from h)) ?_
      clear hK K
      simp only [Act.put, List.setIfInBounds_toArray, List.set_cons_zero, List.set_cons_succ]
      refine rk_done (by kernel_rfl) ?_
      go_wp2_with (first | (with_reducible refine wpl rfl (Stp.ldc rfl agg60 rfl H (by repeat (first | exact List.mem_cons_self | apply List.mem_cons_of_mem)) (by first | (repeat (first | exact lit0 _ _ | apply lits)) | rfl | assumption) ?_); simp only [Act.put, List.setIfInBounds_toArray, List.set_cons_zero, List.set_cons_succ]) | (with_reducible refine wpl rfl (Stp.ldo rfl agg60 rfl H (by assumption) (by assumption) ?_); simp only [Act.put, List.setIfInBounds_toArray, List.set_cons_zero, List.set_cons_succ]) | (with_reducible refine wpl rfl (Stp.ldc rfl agg3 rfl H (by repeat (first | exact List.mem_cons_self | apply List.mem_cons_of_mem)) (by first | (repeat (first | exact lit0 _ _ | apply lits)) | rfl | assumption) ?_); simp only [Act.put, List.setIfInBounds_toArray, List.set_cons_zero, List.set_cons_succ]) | (with_reducible refine wpl rfl (Stp.ldo rfl agg3 rfl H (by assumption) (by assumption) ?_); simp only [Act.put, List.setIfInBounds_toArray, List.set_cons_zero, List.set_cons_succ]) | (with_reducible refine wpl rfl (Stp.ldc rfl agg45 rfl H (by repeat (first | exact List.mem_cons_self | apply List.mem_cons_of_mem)) (by first | (repeat (first | exact lit0 _ _ | apply lits)) | rfl | assumption) ?_); simp only [Act.put, List.setIfInBounds_toArray, List.set_cons_zero, List.set_cons_succ]) | (with_reducible refine wpl rfl (Stp.ldo rfl agg45 rfl H (by assumption) (by assumption) ?_); simp only [Act.put, List.setIfInBounds_toArray, List.set_cons_zero, List.set_cons_succ]))
      go_roundw
      case rel => exact ⟨k + 1, s4, a26, c26, by omega, by go_num, hb4, H.sub (by repeat (first | exact List.Sublist.refl _ | exact List.nil_sublist _ | (with_reducible apply List.Sublist.cons_cons) | apply List.Sublist.cons))⟩
      case measure => simp [intOf]; omega
    · obtain rfl : k = ps.length := by omega
      rw [List.take_length, List.drop_length] at *
      go_wp2_with (first | (with_reducible refine wpl rfl (Stp.ldc rfl agg60 rfl H (by repeat (first | exact List.mem_cons_self | apply List.mem_cons_of_mem)) (by first | (repeat (first | exact lit0 _ _ | apply lits)) | rfl | assumption) ?_); simp only [Act.put, List.setIfInBounds_toArray, List.set_cons_zero, List.set_cons_succ]) | (with_reducible refine wpl rfl (Stp.ldo rfl agg60 rfl H (by assumption) (by assumption) ?_); simp only [Act.put, List.setIfInBounds_toArray, List.set_cons_zero, List.set_cons_succ]) | (with_reducible refine wpl rfl (Stp.ldc rfl agg3 rfl H (by repeat (first | exact List.mem_cons_self | apply List.mem_cons_of_mem)) (by first | (repeat (first | exact lit0 _ _ | apply lits)) | rfl | assumption) ?_); simp only [Act.put, List.setIfInBounds_toArray, List.set_cons_zero, List.set_cons_succ]) | (with_reducible refine wpl rfl (Stp.ldo rfl agg3 rfl H (by assumption) (by assumption) ?_); simp only [Act.put, List.setIfInBounds_toArray, List.set_cons_zero, List.set_cons_succ]) | (with_reducible refine wpl rfl (Stp.ldc rfl agg45 rfl H (by repeat (first | exact List.mem_cons_self | apply List.mem_cons_of_mem)) (by first | (repeat (first | exact lit0 _ _ | apply lits)) | rfl | assumption) ?_); simp only [Act.put, List.setIfInBounds_toArray, List.set_cons_zero, List.set_cons_succ]) | (with_reducible refine wpl rfl (Stp.ldo rfl agg45 rfl H (by assumption) (by assumption) ?_); simp only [Act.put, List.setIfInBounds_toArray, List.set_cons_zero, List.set_cons_succ]))
      go_end0
      exact ⟨_, rfl, rfl, s3, a, c, by simpa [pidsB] using hb3, H⟩
end Go.Proofs.Ytcjbippgjhgoiaa
