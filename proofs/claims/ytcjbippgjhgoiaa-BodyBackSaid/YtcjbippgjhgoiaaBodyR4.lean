/- What layer 7's Reader does round each reading (body), where nothing is wrong; no condition. -/
import Derived.Test.YtcjbippgjhgoiaaBodyR3
import Derived.Defers
namespace Go.Proofs.Ytcjbippgjhgoiaa
open Go.ChangeShapes Go.WideShapes Go.ChangeAt Go.RowKit Go.Deep
set_option linter.unusedVariables false
set_option linter.unusedSimpArgs false
theorem err_ok (g : Nat) (s : Value) (w : World) (hc : w.heap[g]? = some (.cells #[s, .int .i64 0] 104 (0, 0))) :
    Calls Try.prog 76 #[.pointer (some ⟨g, 0, none⟩)] w (Ret fun v w' => v = .int .i64 0 ∧ Below w.heap.size w w') := by
  have hc1 : w.cell? ⟨g, 1, none⟩ = some (.int .i64 0) := by rw [cell_of_rowAt (rowAt_of hc)]; rfl
  have hg : g < w.heap.size := rowAt_lt (rowAt_of hc)
  clear hc
  have H := St.init w
  go_enter Try.func76, Try.ntmps76
  go_wp2_with (first | (with_reducible refine wpl rfl (Stp.ldc rfl agg45 rfl H (by repeat (first | exact List.mem_cons_self | apply List.mem_cons_of_mem)) (by first | (repeat (first | exact lit0 _ _ | apply lits)) | rfl | assumption) ?_); simp only [Act.put, List.setIfInBounds_toArray, List.set_cons_zero, List.set_cons_succ]) | (with_reducible refine wpl rfl (Stp.ldo rfl agg45 rfl H (by assumption) (by assumption) ?_); simp only [Act.put, List.setIfInBounds_toArray, List.set_cons_zero, List.set_cons_succ]))
  go_ret
  exact ⟨_, rfl, rfl, H.below⟩
theorem whole_perm {B : Nat} {w0 w : World} {X : List Res} {a b r : Res} (H : St B w0 w (a :: b :: r :: X)) : St B w0 w (r :: (X ++ [a, b])) :=
  H.perm (((List.Perm.swap r b X).cons a).trans ((List.Perm.swap r a _).trans ((List.perm_append_comm (l₁ := [a, b]) (l₂ := X)).cons r)))
theorem wholed_ok (a b g : Nat) (u : FrameMode) (w : World) (ha : w.cell? ⟨a, 0, none⟩ = some (.pointer (some ⟨g, 0, none⟩))) (hc : w.cell? ⟨g, 1, none⟩ = some (.int .i64 0)) :
    CallsD Try.prog 83 #[.pointer (some ⟨a, 0, none⟩), .pointer (some ⟨b, 0, none⟩)] u w fun e u' w' => u' = u ∧ (e = .returned (.tuple #[]) ∧ w' = w) := by
  go_enter_d Try.func83, Try.ntmps83
  go_wp2
  go_end0
  exact ⟨rfl, rfl⟩
set_option maxRecDepth 100000 in
theorem wholeNum_ok {B : Nat} {w0 : World} {X : List Res} (g : Nat) (A : Option Addr) (n c : Nat) (caps : Array Value) (T : Value → List Res → Prop)
    (hf : ∀ (M : List Res) (w1 : World), St B w0 w1 (row 104 g #[.slice A n c, .int .i64 0] :: (X ++ M)) → Calls Try.prog 69 caps w1 (Ret fun v w2 => v = .tuple #[] ∧ ∃ s' Z, T s' Z ∧ St B w0 w2 (row 104 g #[s', .int .i64 0] :: (Z ++ M))))
    (w : World) (H : St B w0 w (row 104 g #[.slice A n c, .int .i64 0] :: X)) :
    Calls Try.prog 68 #[.pointer (some ⟨g, 0, none⟩), .func (.func 69) #[] caps] w (Ret fun v w' => v = .tuple #[] ∧ ∃ s' Z, T s' Z ∧ St B w0 w' (row 104 g #[s', .int .i64 0] :: Z)) := by
  have hmf : ∀ (fn : Fn) (first cap : Array Value) (w : World), (Instr.makeFunc fn first cap).run Try.prog w = .ok (.func fn first cap) w := fun _ _ _ _ => rfl
  have HF := Lib.hid hf
  clear hf
  go_enter_defers Try.func68, Try.ntmps68
  go_wp2_with (first | (go_at_call 76; (with_reducible refine (err_ok _ _ _ (H.getHeap (by repeat (first | exact List.mem_cons_self | apply List.mem_cons_of_mem)))).mono ?_); rintro e w1 ⟨v, rfl, hr⟩; obtain ⟨rfl, hb1⟩ := hr; replace H := H.grow hb1; clear hb1) | (with_reducible refine wpl rfl (Stp.box 2 rfl rfl rfl H ?_); clear H; intro g2 w1 H; simp only [Act.put, List.setIfInBounds_toArray, List.set_cons_zero, List.set_cons_succ]; simp only [eval_tmp, eval_const, getD_lit0, getD_lits, cells_agg, cells_int, cells_bool, cells_string, cells_pointer, cells_slice, cells_map, List.setIfInBounds_toArray, List.set_cons_zero, List.set_cons_succ] at H) | (with_reducible refine wpl rfl (Stp.ldc rfl agg60 rfl H (by repeat (first | exact List.mem_cons_self | apply List.mem_cons_of_mem)) (by first | (repeat (first | exact lit0 _ _ | apply lits)) | rfl | assumption) ?_); simp only [Act.put, List.setIfInBounds_toArray, List.set_cons_zero, List.set_cons_succ]) | (with_reducible refine wpl rfl (Stp.ldo rfl agg60 rfl H (by assumption) (by assumption) ?_); simp only [Act.put, List.setIfInBounds_toArray, List.set_cons_zero, List.set_cons_succ]) | (with_reducible refine wpl rfl (Stp.ldc rfl agg26 rfl H (by repeat (first | exact List.mem_cons_self | apply List.mem_cons_of_mem)) (by first | (repeat (first | exact lit0 _ _ | apply lits)) | rfl | assumption) ?_); simp only [Act.put, List.setIfInBounds_toArray, List.set_cons_zero, List.set_cons_succ]) | (with_reducible refine wpl rfl (Stp.ldo rfl agg26 rfl H (by assumption) (by assumption) ?_); simp only [Act.put, List.setIfInBounds_toArray, List.set_cons_zero, List.set_cons_succ]) | (with_reducible refine wpl rfl (Stp.alloc 4 rfl rfl zero26 H ?_); clear H; intro g4 w1 H; simp only [Act.put, List.setIfInBounds_toArray, List.set_cons_zero, List.set_cons_succ]; simp only [cells_agg, cells_int, cells_bool, cells_string, cells_pointer, cells_slice, cells_map] at H) | (with_reducible refine wpl rfl (Stp.stc rfl size26 rfl rfl rfl rfl H (by repeat (first | exact Upd.head | apply Upd.tail)) (by first | omega | (simp; done) | (simp; omega)) ?_); clear H; intro w1 H; simp only [Act.put, List.setIfInBounds_toArray, List.set_cons_zero, List.set_cons_succ]; simp only [eval_tmp, eval_const, getD_lit0, getD_lits, cells_agg, cells_int, cells_bool, cells_string, cells_pointer, cells_slice, cells_map, List.setIfInBounds_toArray, List.set_cons_zero, List.set_cons_succ] at H))
  refine (HF.out [row 26 g4 #[.slice A n c], row 60 g2 #[.pointer (some ⟨g, 0, none⟩)]] _ (whole_perm H)).mono ?_
  rintro e w1 ⟨v, rfl, rfl, s', Z, hT, H2⟩
  clear H
  have H := H2
  clear H2
  go_wp2_with fail
  refine leaves_cons (f := 83) (args := #[.pointer (some ⟨g2, 0, none⟩), .pointer (some ⟨g4, 0, none⟩)]) (by simp) (by simp [go_sem]) ?_
  refine (wholed_ok g2 g4 g _ _ (by rw [cell_of_rowAt (H.getRow (t := 60) (cs := #[.pointer (some ⟨g, 0, none⟩)]) (by simp))]; rfl) (by rw [cell_of_rowAt (H.getRow (t := 104) List.mem_cons_self)]; rfl)).mono ?_
  rintro e u' w'' ⟨rfl, rfl, rfl⟩
  exact ⟨.tuple #[], results_none rfl _ _ _, _, rfl, rfl, s', Z, hT, H.sub (.cons_cons _ (List.sublist_append_left Z _))⟩
set_option maxRecDepth 100000 in
theorem wholeTruth_ok {B : Nat} {w0 : World} {X : List Res} (g : Nat) (A : Option Addr) (n c : Nat) (caps : Array Value) (T : Value → List Res → Prop)
    (hf : ∀ (M : List Res) (w1 : World), St B w0 w1 (row 104 g #[.slice A n c, .int .i64 0] :: (X ++ M)) → Calls Try.prog 71 caps w1 (Ret fun v w2 => v = .tuple #[] ∧ ∃ s' Z, T s' Z ∧ St B w0 w2 (row 104 g #[s', .int .i64 0] :: (Z ++ M))))
    (w : World) (H : St B w0 w (row 104 g #[.slice A n c, .int .i64 0] :: X)) :
    Calls Try.prog 68 #[.pointer (some ⟨g, 0, none⟩), .func (.func 71) #[] caps] w (Ret fun v w' => v = .tuple #[] ∧ ∃ s' Z, T s' Z ∧ St B w0 w' (row 104 g #[s', .int .i64 0] :: Z)) := by
  have hmf : ∀ (fn : Fn) (first cap : Array Value) (w : World), (Instr.makeFunc fn first cap).run Try.prog w = .ok (.func fn first cap) w := fun _ _ _ _ => rfl
  have HF := Lib.hid hf
  clear hf
  go_enter_defers Try.func68, Try.ntmps68
  go_wp2_with (first | (go_at_call 76; (with_reducible refine (err_ok _ _ _ (H.getHeap (by repeat (first | exact List.mem_cons_self | apply List.mem_cons_of_mem)))).mono ?_); rintro e w1 ⟨v, rfl, hr⟩; obtain ⟨rfl, hb1⟩ := hr; replace H := H.grow hb1; clear hb1) | (with_reducible refine wpl rfl (Stp.box 2 rfl rfl rfl H ?_); clear H; intro g2 w1 H; simp only [Act.put, List.setIfInBounds_toArray, List.set_cons_zero, List.set_cons_succ]; simp only [eval_tmp, eval_const, getD_lit0, getD_lits, cells_agg, cells_int, cells_bool, cells_string, cells_pointer, cells_slice, cells_map, List.setIfInBounds_toArray, List.set_cons_zero, List.set_cons_succ] at H) | (with_reducible refine wpl rfl (Stp.ldc rfl agg60 rfl H (by repeat (first | exact List.mem_cons_self | apply List.mem_cons_of_mem)) (by first | (repeat (first | exact lit0 _ _ | apply lits)) | rfl | assumption) ?_); simp only [Act.put, List.setIfInBounds_toArray, List.set_cons_zero, List.set_cons_succ]) | (with_reducible refine wpl rfl (Stp.ldo rfl agg60 rfl H (by assumption) (by assumption) ?_); simp only [Act.put, List.setIfInBounds_toArray, List.set_cons_zero, List.set_cons_succ]) | (with_reducible refine wpl rfl (Stp.ldc rfl agg26 rfl H (by repeat (first | exact List.mem_cons_self | apply List.mem_cons_of_mem)) (by first | (repeat (first | exact lit0 _ _ | apply lits)) | rfl | assumption) ?_); simp only [Act.put, List.setIfInBounds_toArray, List.set_cons_zero, List.set_cons_succ]) | (with_reducible refine wpl rfl (Stp.ldo rfl agg26 rfl H (by assumption) (by assumption) ?_); simp only [Act.put, List.setIfInBounds_toArray, List.set_cons_zero, List.set_cons_succ]) | (with_reducible refine wpl rfl (Stp.alloc 4 rfl rfl zero26 H ?_); clear H; intro g4 w1 H; simp only [Act.put, List.setIfInBounds_toArray, List.set_cons_zero, List.set_cons_succ]; simp only [cells_agg, cells_int, cells_bool, cells_string, cells_pointer, cells_slice, cells_map] at H) | (with_reducible refine wpl rfl (Stp.stc rfl size26 rfl rfl rfl rfl H (by repeat (first | exact Upd.head | apply Upd.tail)) (by first | omega | (simp; done) | (simp; omega)) ?_); clear H; intro w1 H; simp only [Act.put, List.setIfInBounds_toArray, List.set_cons_zero, List.set_cons_succ]; simp only [eval_tmp, eval_const, getD_lit0, getD_lits, cells_agg, cells_int, cells_bool, cells_string, cells_pointer, cells_slice, cells_map, List.setIfInBounds_toArray, List.set_cons_zero, List.set_cons_succ] at H))
  refine (HF.out [row 26 g4 #[.slice A n c], row 60 g2 #[.pointer (some ⟨g, 0, none⟩)]] _ (whole_perm H)).mono ?_
  rintro e w1 ⟨v, rfl, rfl, s', Z, hT, H2⟩
  clear H
  have H := H2
  clear H2
  go_wp2_with fail
  refine leaves_cons (f := 83) (args := #[.pointer (some ⟨g2, 0, none⟩), .pointer (some ⟨g4, 0, none⟩)]) (by simp) (by simp [go_sem]) ?_
  refine (wholed_ok g2 g4 g _ _ (by rw [cell_of_rowAt (H.getRow (t := 60) (cs := #[.pointer (some ⟨g, 0, none⟩)]) (by simp))]; rfl) (by rw [cell_of_rowAt (H.getRow (t := 104) List.mem_cons_self)]; rfl)).mono ?_
  rintro e u' w'' ⟨rfl, rfl, rfl⟩
  exact ⟨.tuple #[], results_none rfl _ _ _, _, rfl, rfl, s', Z, hT, H.sub (.cons_cons _ (List.sublist_append_left Z _))⟩
set_option maxRecDepth 100000 in
theorem wholePid_ok {B : Nat} {w0 : World} {X : List Res} (g : Nat) (A : Option Addr) (n c : Nat) (caps : Array Value) (T : Value → List Res → Prop)
    (hf : ∀ (M : List Res) (w1 : World), St B w0 w1 (row 104 g #[.slice A n c, .int .i64 0] :: (X ++ M)) → Calls Try.prog 73 caps w1 (Ret fun v w2 => v = .tuple #[] ∧ ∃ s' Z, T s' Z ∧ St B w0 w2 (row 104 g #[s', .int .i64 0] :: (Z ++ M))))
    (w : World) (H : St B w0 w (row 104 g #[.slice A n c, .int .i64 0] :: X)) :
    Calls Try.prog 68 #[.pointer (some ⟨g, 0, none⟩), .func (.func 73) #[] caps] w (Ret fun v w' => v = .tuple #[] ∧ ∃ s' Z, T s' Z ∧ St B w0 w' (row 104 g #[s', .int .i64 0] :: Z)) := by
  have hmf : ∀ (fn : Fn) (first cap : Array Value) (w : World), (Instr.makeFunc fn first cap).run Try.prog w = .ok (.func fn first cap) w := fun _ _ _ _ => rfl
  have HF := Lib.hid hf
  clear hf
  go_enter_defers Try.func68, Try.ntmps68
  go_wp2_with (first | (go_at_call 76; (with_reducible refine (err_ok _ _ _ (H.getHeap (by repeat (first | exact List.mem_cons_self | apply List.mem_cons_of_mem)))).mono ?_); rintro e w1 ⟨v, rfl, hr⟩; obtain ⟨rfl, hb1⟩ := hr; replace H := H.grow hb1; clear hb1) | (with_reducible refine wpl rfl (Stp.box 2 rfl rfl rfl H ?_); clear H; intro g2 w1 H; simp only [Act.put, List.setIfInBounds_toArray, List.set_cons_zero, List.set_cons_succ]; simp only [eval_tmp, eval_const, getD_lit0, getD_lits, cells_agg, cells_int, cells_bool, cells_string, cells_pointer, cells_slice, cells_map, List.setIfInBounds_toArray, List.set_cons_zero, List.set_cons_succ] at H) | (with_reducible refine wpl rfl (Stp.ldc rfl agg60 rfl H (by repeat (first | exact List.mem_cons_self | apply List.mem_cons_of_mem)) (by first | (repeat (first | exact lit0 _ _ | apply lits)) | rfl | assumption) ?_); simp only [Act.put, List.setIfInBounds_toArray, List.set_cons_zero, List.set_cons_succ]) | (with_reducible refine wpl rfl (Stp.ldo rfl agg60 rfl H (by assumption) (by assumption) ?_); simp only [Act.put, List.setIfInBounds_toArray, List.set_cons_zero, List.set_cons_succ]) | (with_reducible refine wpl rfl (Stp.ldc rfl agg26 rfl H (by repeat (first | exact List.mem_cons_self | apply List.mem_cons_of_mem)) (by first | (repeat (first | exact lit0 _ _ | apply lits)) | rfl | assumption) ?_); simp only [Act.put, List.setIfInBounds_toArray, List.set_cons_zero, List.set_cons_succ]) | (with_reducible refine wpl rfl (Stp.ldo rfl agg26 rfl H (by assumption) (by assumption) ?_); simp only [Act.put, List.setIfInBounds_toArray, List.set_cons_zero, List.set_cons_succ]) | (with_reducible refine wpl rfl (Stp.alloc 4 rfl rfl zero26 H ?_); clear H; intro g4 w1 H; simp only [Act.put, List.setIfInBounds_toArray, List.set_cons_zero, List.set_cons_succ]; simp only [cells_agg, cells_int, cells_bool, cells_string, cells_pointer, cells_slice, cells_map] at H) | (with_reducible refine wpl rfl (Stp.stc rfl size26 rfl rfl rfl rfl H (by repeat (first | exact Upd.head | apply Upd.tail)) (by first | omega | (simp; done) | (simp; omega)) ?_); clear H; intro w1 H; simp only [Act.put, List.setIfInBounds_toArray, List.set_cons_zero, List.set_cons_succ]; simp only [eval_tmp, eval_const, getD_lit0, getD_lits, cells_agg, cells_int, cells_bool, cells_string, cells_pointer, cells_slice, cells_map, List.setIfInBounds_toArray, List.set_cons_zero, List.set_cons_succ] at H))
  refine (HF.out [row 26 g4 #[.slice A n c], row 60 g2 #[.pointer (some ⟨g, 0, none⟩)]] _ (whole_perm H)).mono ?_
  rintro e w1 ⟨v, rfl, rfl, s', Z, hT, H2⟩
  clear H
  have H := H2
  clear H2
  go_wp2_with fail
  refine leaves_cons (f := 83) (args := #[.pointer (some ⟨g2, 0, none⟩), .pointer (some ⟨g4, 0, none⟩)]) (by simp) (by simp [go_sem]) ?_
  refine (wholed_ok g2 g4 g _ _ (by rw [cell_of_rowAt (H.getRow (t := 60) (cs := #[.pointer (some ⟨g, 0, none⟩)]) (by simp))]; rfl) (by rw [cell_of_rowAt (H.getRow (t := 104) List.mem_cons_self)]; rfl)).mono ?_
  rintro e u' w'' ⟨rfl, rfl, rfl⟩
  exact ⟨.tuple #[], results_none rfl _ _ _, _, rfl, rfl, s', Z, hT, H.sub (.cons_cons _ (List.sublist_append_left Z _))⟩
set_option maxRecDepth 100000 in
theorem wholeBallot_ok {B : Nat} {w0 : World} {X : List Res} (g : Nat) (A : Option Addr) (n c : Nat) (caps : Array Value) (T : Value → List Res → Prop)
    (hf : ∀ (M : List Res) (w1 : World), St B w0 w1 (row 104 g #[.slice A n c, .int .i64 0] :: (X ++ M)) → Calls Try.prog 75 caps w1 (Ret fun v w2 => v = .tuple #[] ∧ ∃ s' Z, T s' Z ∧ St B w0 w2 (row 104 g #[s', .int .i64 0] :: (Z ++ M))))
    (w : World) (H : St B w0 w (row 104 g #[.slice A n c, .int .i64 0] :: X)) :
    Calls Try.prog 68 #[.pointer (some ⟨g, 0, none⟩), .func (.func 75) #[] caps] w (Ret fun v w' => v = .tuple #[] ∧ ∃ s' Z, T s' Z ∧ St B w0 w' (row 104 g #[s', .int .i64 0] :: Z)) := by
  have hmf : ∀ (fn : Fn) (first cap : Array Value) (w : World), (Instr.makeFunc fn first cap).run Try.prog w = .ok (.func fn first cap) w := fun _ _ _ _ => rfl
  have HF := Lib.hid hf
  clear hf
  go_enter_defers Try.func68, Try.ntmps68
  go_wp2_with (first | (go_at_call 76; (with_reducible refine (err_ok _ _ _ (H.getHeap (by repeat (first | exact List.mem_cons_self | apply List.mem_cons_of_mem)))).mono ?_); rintro e w1 ⟨v, rfl, hr⟩; obtain ⟨rfl, hb1⟩ := hr; replace H := H.grow hb1; clear hb1) | (with_reducible refine wpl rfl (Stp.box 2 rfl rfl rfl H ?_); clear H; intro g2 w1 H; simp only [Act.put, List.setIfInBounds_toArray, List.set_cons_zero, List.set_cons_succ]; simp only [eval_tmp, eval_const, getD_lit0, getD_lits, cells_agg, cells_int, cells_bool, cells_string, cells_pointer, cells_slice, cells_map, List.setIfInBounds_toArray, List.set_cons_zero, List.set_cons_succ] at H) | (with_reducible refine wpl rfl (Stp.ldc rfl agg60 rfl H (by repeat (first | exact List.mem_cons_self | apply List.mem_cons_of_mem)) (by first | (repeat (first | exact lit0 _ _ | apply lits)) | rfl | assumption) ?_); simp only [Act.put, List.setIfInBounds_toArray, List.set_cons_zero, List.set_cons_succ]) | (with_reducible refine wpl rfl (Stp.ldo rfl agg60 rfl H (by assumption) (by assumption) ?_); simp only [Act.put, List.setIfInBounds_toArray, List.set_cons_zero, List.set_cons_succ]) | (with_reducible refine wpl rfl (Stp.ldc rfl agg26 rfl H (by repeat (first | exact List.mem_cons_self | apply List.mem_cons_of_mem)) (by first | (repeat (first | exact lit0 _ _ | apply lits)) | rfl | assumption) ?_); simp only [Act.put, List.setIfInBounds_toArray, List.set_cons_zero, List.set_cons_succ]) | (with_reducible refine wpl rfl (Stp.ldo rfl agg26 rfl H (by assumption) (by assumption) ?_); simp only [Act.put, List.setIfInBounds_toArray, List.set_cons_zero, List.set_cons_succ]) | (with_reducible refine wpl rfl (Stp.alloc 4 rfl rfl zero26 H ?_); clear H; intro g4 w1 H; simp only [Act.put, List.setIfInBounds_toArray, List.set_cons_zero, List.set_cons_succ]; simp only [cells_agg, cells_int, cells_bool, cells_string, cells_pointer, cells_slice, cells_map] at H) | (with_reducible refine wpl rfl (Stp.stc rfl size26 rfl rfl rfl rfl H (by repeat (first | exact Upd.head | apply Upd.tail)) (by first | omega | (simp; done) | (simp; omega)) ?_); clear H; intro w1 H; simp only [Act.put, List.setIfInBounds_toArray, List.set_cons_zero, List.set_cons_succ]; simp only [eval_tmp, eval_const, getD_lit0, getD_lits, cells_agg, cells_int, cells_bool, cells_string, cells_pointer, cells_slice, cells_map, List.setIfInBounds_toArray, List.set_cons_zero, List.set_cons_succ] at H))
  refine (HF.out [row 26 g4 #[.slice A n c], row 60 g2 #[.pointer (some ⟨g, 0, none⟩)]] _ (whole_perm H)).mono ?_
  rintro e w1 ⟨v, rfl, rfl, s', Z, hT, H2⟩
  clear H
  have H := H2
  clear H2
  go_wp2_with fail
  refine leaves_cons (f := 83) (args := #[.pointer (some ⟨g2, 0, none⟩), .pointer (some ⟨g4, 0, none⟩)]) (by simp) (by simp [go_sem]) ?_
  refine (wholed_ok g2 g4 g _ _ (by rw [cell_of_rowAt (H.getRow (t := 60) (cs := #[.pointer (some ⟨g, 0, none⟩)]) (by simp))]; rfl) (by rw [cell_of_rowAt (H.getRow (t := 104) List.mem_cons_self)]; rfl)).mono ?_
  rintro e u' w'' ⟨rfl, rfl, rfl⟩
  exact ⟨.tuple #[], results_none rfl _ _ _, _, rfl, rfl, s', Z, hT, H.sub (.cons_cons _ (List.sublist_append_left Z _))⟩
set_option maxRecDepth 100000 in
theorem wholeBytes_ok {B : Nat} {w0 : World} {X : List Res} (g : Nat) (A : Option Addr) (n c : Nat) (caps : Array Value) (T : Value → List Res → Prop)
    (hf : ∀ (M : List Res) (w1 : World), St B w0 w1 (row 104 g #[.slice A n c, .int .i64 0] :: (X ++ M)) → Calls Try.prog 77 caps w1 (Ret fun v w2 => v = .tuple #[] ∧ ∃ s' Z, T s' Z ∧ St B w0 w2 (row 104 g #[s', .int .i64 0] :: (Z ++ M))))
    (w : World) (H : St B w0 w (row 104 g #[.slice A n c, .int .i64 0] :: X)) :
    Calls Try.prog 68 #[.pointer (some ⟨g, 0, none⟩), .func (.func 77) #[] caps] w (Ret fun v w' => v = .tuple #[] ∧ ∃ s' Z, T s' Z ∧ St B w0 w' (row 104 g #[s', .int .i64 0] :: Z)) := by
  have hmf : ∀ (fn : Fn) (first cap : Array Value) (w : World), (Instr.makeFunc fn first cap).run Try.prog w = .ok (.func fn first cap) w := fun _ _ _ _ => rfl
  have HF := Lib.hid hf
  clear hf
  go_enter_defers Try.func68, Try.ntmps68
  go_wp2_with (first | (go_at_call 76; (with_reducible refine (err_ok _ _ _ (H.getHeap (by repeat (first | exact List.mem_cons_self | apply List.mem_cons_of_mem)))).mono ?_); rintro e w1 ⟨v, rfl, hr⟩; obtain ⟨rfl, hb1⟩ := hr; replace H := H.grow hb1; clear hb1) | (with_reducible refine wpl rfl (Stp.box 2 rfl rfl rfl H ?_); clear H; intro g2 w1 H; simp only [Act.put, List.setIfInBounds_toArray, List.set_cons_zero, List.set_cons_succ]; simp only [eval_tmp, eval_const, getD_lit0, getD_lits, cells_agg, cells_int, cells_bool, cells_string, cells_pointer, cells_slice, cells_map, List.setIfInBounds_toArray, List.set_cons_zero, List.set_cons_succ] at H) | (with_reducible refine wpl rfl (Stp.ldc rfl agg60 rfl H (by repeat (first | exact List.mem_cons_self | apply List.mem_cons_of_mem)) (by first | (repeat (first | exact lit0 _ _ | apply lits)) | rfl | assumption) ?_); simp only [Act.put, List.setIfInBounds_toArray, List.set_cons_zero, List.set_cons_succ]) | (with_reducible refine wpl rfl (Stp.ldo rfl agg60 rfl H (by assumption) (by assumption) ?_); simp only [Act.put, List.setIfInBounds_toArray, List.set_cons_zero, List.set_cons_succ]) | (with_reducible refine wpl rfl (Stp.ldc rfl agg26 rfl H (by repeat (first | exact List.mem_cons_self | apply List.mem_cons_of_mem)) (by first | (repeat (first | exact lit0 _ _ | apply lits)) | rfl | assumption) ?_); simp only [Act.put, List.setIfInBounds_toArray, List.set_cons_zero, List.set_cons_succ]) | (with_reducible refine wpl rfl (Stp.ldo rfl agg26 rfl H (by assumption) (by assumption) ?_); simp only [Act.put, List.setIfInBounds_toArray, List.set_cons_zero, List.set_cons_succ]) | (with_reducible refine wpl rfl (Stp.alloc 4 rfl rfl zero26 H ?_); clear H; intro g4 w1 H; simp only [Act.put, List.setIfInBounds_toArray, List.set_cons_zero, List.set_cons_succ]; simp only [cells_agg, cells_int, cells_bool, cells_string, cells_pointer, cells_slice, cells_map] at H) | (with_reducible refine wpl rfl (Stp.stc rfl size26 rfl rfl rfl rfl H (by repeat (first | exact Upd.head | apply Upd.tail)) (by first | omega | (simp; done) | (simp; omega)) ?_); clear H; intro w1 H; simp only [Act.put, List.setIfInBounds_toArray, List.set_cons_zero, List.set_cons_succ]; simp only [eval_tmp, eval_const, getD_lit0, getD_lits, cells_agg, cells_int, cells_bool, cells_string, cells_pointer, cells_slice, cells_map, List.setIfInBounds_toArray, List.set_cons_zero, List.set_cons_succ] at H))
  refine (HF.out [row 26 g4 #[.slice A n c], row 60 g2 #[.pointer (some ⟨g, 0, none⟩)]] _ (whole_perm H)).mono ?_
  rintro e w1 ⟨v, rfl, rfl, s', Z, hT, H2⟩
  clear H
  have H := H2
  clear H2
  go_wp2_with fail
  refine leaves_cons (f := 83) (args := #[.pointer (some ⟨g2, 0, none⟩), .pointer (some ⟨g4, 0, none⟩)]) (by simp) (by simp [go_sem]) ?_
  refine (wholed_ok g2 g4 g _ _ (by rw [cell_of_rowAt (H.getRow (t := 60) (cs := #[.pointer (some ⟨g, 0, none⟩)]) (by simp))]; rfl) (by rw [cell_of_rowAt (H.getRow (t := 104) List.mem_cons_self)]; rfl)).mono ?_
  rintro e u' w'' ⟨rfl, rfl, rfl⟩
  exact ⟨.tuple #[], results_none rfl _ _ _, _, rfl, rfl, s', Z, hT, H.sub (.cons_cons _ (List.sublist_append_left Z _))⟩
set_option maxRecDepth 100000 in
theorem wholePids_ok {B : Nat} {w0 : World} {X : List Res} (g : Nat) (A : Option Addr) (n c : Nat) (caps : Array Value) (T : Value → List Res → Prop)
    (hf : ∀ (M : List Res) (w1 : World), St B w0 w1 (row 104 g #[.slice A n c, .int .i64 0] :: (X ++ M)) → Calls Try.prog 78 caps w1 (Ret fun v w2 => v = .tuple #[] ∧ ∃ s' Z, T s' Z ∧ St B w0 w2 (row 104 g #[s', .int .i64 0] :: (Z ++ M))))
    (w : World) (H : St B w0 w (row 104 g #[.slice A n c, .int .i64 0] :: X)) :
    Calls Try.prog 68 #[.pointer (some ⟨g, 0, none⟩), .func (.func 78) #[] caps] w (Ret fun v w' => v = .tuple #[] ∧ ∃ s' Z, T s' Z ∧ St B w0 w' (row 104 g #[s', .int .i64 0] :: Z)) := by
  have hmf : ∀ (fn : Fn) (first cap : Array Value) (w : World), (Instr.makeFunc fn first cap).run Try.prog w = .ok (.func fn first cap) w := fun _ _ _ _ => rfl
  have HF := Lib.hid hf
  clear hf
  go_enter_defers Try.func68, Try.ntmps68
  go_wp2_with (first | (go_at_call 76; (with_reducible refine (err_ok _ _ _ (H.getHeap (by repeat (first | exact List.mem_cons_self | apply List.mem_cons_of_mem)))).mono ?_); rintro e w1 ⟨v, rfl, hr⟩; obtain ⟨rfl, hb1⟩ := hr; replace H := H.grow hb1; clear hb1) | (with_reducible refine wpl rfl (Stp.box 2 rfl rfl rfl H ?_); clear H; intro g2 w1 H; simp only [Act.put, List.setIfInBounds_toArray, List.set_cons_zero, List.set_cons_succ]; simp only [eval_tmp, eval_const, getD_lit0, getD_lits, cells_agg, cells_int, cells_bool, cells_string, cells_pointer, cells_slice, cells_map, List.setIfInBounds_toArray, List.set_cons_zero, List.set_cons_succ] at H) | (with_reducible refine wpl rfl (Stp.ldc rfl agg60 rfl H (by repeat (first | exact List.mem_cons_self | apply List.mem_cons_of_mem)) (by first | (repeat (first | exact lit0 _ _ | apply lits)) | rfl | assumption) ?_); simp only [Act.put, List.setIfInBounds_toArray, List.set_cons_zero, List.set_cons_succ]) | (with_reducible refine wpl rfl (Stp.ldo rfl agg60 rfl H (by assumption) (by assumption) ?_); simp only [Act.put, List.setIfInBounds_toArray, List.set_cons_zero, List.set_cons_succ]) | (with_reducible refine wpl rfl (Stp.ldc rfl agg26 rfl H (by repeat (first | exact List.mem_cons_self | apply List.mem_cons_of_mem)) (by first | (repeat (first | exact lit0 _ _ | apply lits)) | rfl | assumption) ?_); simp only [Act.put, List.setIfInBounds_toArray, List.set_cons_zero, List.set_cons_succ]) | (with_reducible refine wpl rfl (Stp.ldo rfl agg26 rfl H (by assumption) (by assumption) ?_); simp only [Act.put, List.setIfInBounds_toArray, List.set_cons_zero, List.set_cons_succ]) | (with_reducible refine wpl rfl (Stp.alloc 4 rfl rfl zero26 H ?_); clear H; intro g4 w1 H; simp only [Act.put, List.setIfInBounds_toArray, List.set_cons_zero, List.set_cons_succ]; simp only [cells_agg, cells_int, cells_bool, cells_string, cells_pointer, cells_slice, cells_map] at H) | (with_reducible refine wpl rfl (Stp.stc rfl size26 rfl rfl rfl rfl H (by repeat (first | exact Upd.head | apply Upd.tail)) (by first | omega | (simp; done) | (simp; omega)) ?_); clear H; intro w1 H; simp only [Act.put, List.setIfInBounds_toArray, List.set_cons_zero, List.set_cons_succ]; simp only [eval_tmp, eval_const, getD_lit0, getD_lits, cells_agg, cells_int, cells_bool, cells_string, cells_pointer, cells_slice, cells_map, List.setIfInBounds_toArray, List.set_cons_zero, List.set_cons_succ] at H))
  refine (HF.out [row 26 g4 #[.slice A n c], row 60 g2 #[.pointer (some ⟨g, 0, none⟩)]] _ (whole_perm H)).mono ?_
  rintro e w1 ⟨v, rfl, rfl, s', Z, hT, H2⟩
  clear H
  have H := H2
  clear H2
  go_wp2_with fail
  refine leaves_cons (f := 83) (args := #[.pointer (some ⟨g2, 0, none⟩), .pointer (some ⟨g4, 0, none⟩)]) (by simp) (by simp [go_sem]) ?_
  refine (wholed_ok g2 g4 g _ _ (by rw [cell_of_rowAt (H.getRow (t := 60) (cs := #[.pointer (some ⟨g, 0, none⟩)]) (by simp))]; rfl) (by rw [cell_of_rowAt (H.getRow (t := 104) List.mem_cons_self)]; rfl)).mono ?_
  rintro e u' w'' ⟨rfl, rfl, rfl⟩
  exact ⟨.tuple #[], results_none rfl _ _ _, _, rfl, rfl, s', Z, hT, H.sub (.cons_cons _ (List.sublist_append_left Z _))⟩

end Go.Proofs.Ytcjbippgjhgoiaa
