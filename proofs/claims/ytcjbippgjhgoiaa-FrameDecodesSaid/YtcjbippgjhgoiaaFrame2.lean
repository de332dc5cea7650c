/- Contracts of layer 6's Encode and of its reference Form (frame); the bounds stand in each. -/
import Derived.Test.YtcjbippgjhgoiaaFrame1
import Derived.Test.YtcjbippgjhgoiaaAs
import Derived.Test.YtcjbippgjhgoiaaCrc6
namespace Go.Proofs.Ytcjbippgjhgoiaa
open Go.ChangeShapes Go.WideShapes Go.ChangeAt Go.RowKit
set_option linter.unusedVariables false
set_option linter.unusedSimpArgs false
/-! Contracts whose result is named. -/
theorem put4_as (v : Value) (l r : List Nat) (n : Nat) (hn : n < 18446744073709551616) (hl : l.length ≤ 900000) (hr : l ++ putB n 4 4 = r) (w : World) (hs : Sl w 1 l.length v (elB l)) :
    Calls Try.prog 52 #[v, .int .u64 (n : Int), .int .i64 4] w (Ret fun v' w' => (∃ ap cp, v' = .slice ap r.length cp) ∧ w'.ownsRow w.heap.size 5 1 v' r.length (bv r) ∧ Below w.heap.size w w') := by
  subst hr
  have := put_ok v l n hn 4 (by decide) hl w hs
  rw [show (l ++ putB n 4 4).length = l.length + 4 by rw [List.length_append, putB_len]]
  exact this
theorem form4_as (r : List Nat) (n : Nat) (hn : n < 18446744073709551616) (hr : putB n 4 4 = r) (w : World) :
    Calls Try.prog 57 #[.int .u64 (n : Int), .int .i64 4] w (Ret fun v' w' => (∃ ap cp, v' = .slice ap r.length cp) ∧ w'.ownsRow w.heap.size 5 1 v' r.length (bv r) ∧ Below w.heap.size w w') := by
  subst hr
  have := form_ok n hn 4 (by omega) (by omega) w
  rw [putB_len]
  exact this
theorem seal_as (v : Value) (l r : List Nat) (hl : l.length ≤ 100000) (hx : ∀ x ∈ l, x < 256) (hr : sealL l = r) (w : World) (hs : Sl w 1 l.length v (elB l)) :
    Calls Try.prog 53 #[v] w (Ret fun v' w' => (∃ ap cp, v' = .slice ap r.length cp) ∧ w'.ownsRow w.heap.size 5 1 v' r.length (bv r) ∧ Below w.heap.size w w') := by
  subst hr; rw [sealL_len]; exact seal_ok v l hl hx w hs
theorem rseal_as (v : Value) (l r : List Nat) (hl : l.length ≤ 100000) (hx : ∀ x ∈ l, x < 256) (hr : sealL l = r) (w : World) (hs : Sl w 1 l.length v (elB l)) :
    Calls Try.prog 58 #[v] w (Ret fun v' w' => (∃ ap cp, v' = .slice ap r.length cp) ∧ w'.ownsRow w.heap.size 5 1 v' r.length (bv r) ∧ Below w.heap.size w w') := by
  subst hr; rw [sealL_len]; exact rseal_ok v l hl hx w hs
/-! A packet's form. -/
def restL (fi fc ti tc s : Nat) : List Nat := pidB fi fc ++ pidB ti tc ++ shortB s
def innL (k fi fc ti tc s : Nat) (b : List Nat) : List Nat := [86, 83, 1, k] ++ putB (12 + (restL fi fc ti tc s).length + b.length) 4 4 ++ (restL fi fc ti tc s ++ b)
def formL (k fi fc ti tc s : Nat) (b : List Nat) : List Nat := sealL (innL k fi fc ti tc s b)
theorem restL_len (fi fc ti tc s : Nat) : (restL fi fc ti tc s).length ≤ 50 := by
  have := pidB_len fi fc
  have := pidB_len ti tc
  have := shortB_len s
  simp [restL]; omega
theorem restL_byte (fi fc ti tc s : Nat) : ∀ x ∈ restL fi fc ti tc s, x < 256 := fun x h => by
  rcases List.mem_append.1 h with h | h
  · rcases List.mem_append.1 h with h | h
    · exact pidB_byte _ _ x h
    · exact pidB_byte _ _ x h
  · exact shortB_byte _ x h
theorem innL_byte {k : Nat} (hk : k < 256) (fi fc ti tc s : Nat) {b : List Nat} (hb : ∀ x ∈ b, x < 256) : ∀ x ∈ innL k fi fc ti tc s b, x < 256 := fun x h => by
  rcases List.mem_append.1 h with h | h
  · rcases List.mem_append.1 h with h | h
    · simp at h; omega
    · exact putB_byte _ _ _ x h
  · rcases List.mem_append.1 h with h | h
    · exact restL_byte _ _ _ _ _ x h
    · exact hb x h
theorem innL_len (k fi fc ti tc s : Nat) (b : List Nat) : (innL k fi fc ti tc s b).length = 8 + (restL fi fc ti tc s).length + b.length := by
  simp [innL, putB_len]; omega
theorem head_put (k : Nat) (h1 : 1 ≤ k) (h3 : k ≤ 3) : putB (1448280320 + k) 4 4 = [86, 83, 1, k] ∧ bits .or .u64 1448280320 (k : Int) = ((1448280320 + k : Nat) : Int) := by
  have : k = 1 ∨ k = 2 ∨ k = 3 := by omega
  rcases this with rfl | rfl | rfl <;> exact ⟨by decide +kernel, by decide +kernel⟩
theorem chk_zero {k : Int} {fi fc ti tc n : Nat} (h : chk k fi fc ti tc n = 0) : ¬ k < 1 ∧ ¬ 3 < k ∧ may fi fc = true ∧ may ti tc = true ∧ n ≤ 4096 := by
  unfold chk at h
  split at h
  · omega
  · rename_i h1
    split at h
    · omega
    · rename_i h2
      simp only [not_or, Bool.not_eq_false] at h1
      exact ⟨h1.1, h1.2.1, h1.2.2.1, h1.2.2.2, by omega⟩
theorem fcheck_as (k : Int) (fi fc ti tc s : Nat) (A : Option Addr) (n c e : Nat) (he : chk k fi fc ti tc n = e) (w : World) :
    Calls Try.prog 19 #[.agg #[.int .i64 k, .int .u16 (fi : Int), .int .u32 (fc : Int), .int .u16 (ti : Int), .int .u32 (tc : Int), .int .u64 (s : Int), .slice A n c]] w (Ret fun v w' => v = .int .i64 (e : Int) ∧ Below w.heap.size w w') := by
  subst he; exact fcheck_ok k fi fc ti tc s A n c w
theorem rcheck_as (k : Int) (fi fc ti tc s : Nat) (A : Option Addr) (n c e : Nat) (he : chk k fi fc ti tc n = e) (w : World) :
    Calls Try.prog 18 #[.agg #[.int .i64 k, .int .u16 (fi : Int), .int .u32 (fc : Int), .int .u16 (ti : Int), .int .u32 (tc : Int), .int .u64 (s : Int), .slice A n c]] w (Ret fun v w' => v = .int .i64 (e : Int) ∧ Below w.heap.size w w') := by
  subst he; exact rcheck_ok k fi fc ti tc s A n c w
set_option maxRecDepth 100000 in
theorem encode_no (k : Int) (fi fc ti tc s : Nat) (A : Option Addr) (n c e : Nat) (he : chk k fi fc ti tc n = e) (h0 : e ≠ 0) (w : World) :
    Calls Try.prog 17 #[.agg #[.int .i64 k, .int .u16 (fi : Int), .int .u32 (fc : Int), .int .u16 (ti : Int), .int .u32 (tc : Int), .int .u64 (s : Int), .slice A n c]] w (Ret fun v w' => v = .tuple #[.slice none 0 0, .int .i64 (e : Int)] ∧ Below w.heap.size w w') := by
  have H := St.init w
  have HE := Lib.hid he
  have hi : ¬ (e : Int) = 0 := by omega
  clear he
  go_enter Try.func17, Try.ntmps17
  go_wp2_with (first | (go_at_call 19; (with_reducible refine (fcheck_as k fi fc ti tc s A n c e HE.out _).mono ?_); rintro e w1 ⟨v, rfl, hr⟩; obtain ⟨rfl, hb1⟩ := hr; replace H := H.grow hb1; clear hb1) | (with_reducible refine wpl rfl (Stp.box 1 rfl rfl rfl H ?_); clear H; intro g1 w1 H; simp only [Act.put, List.setIfInBounds_toArray, List.set_cons_zero, List.set_cons_succ]; simp only [eval_tmp, eval_const, getD_lit0, getD_lits, cells_agg, cells_int, cells_bool, cells_string, cells_pointer, cells_slice, cells_map, List.setIfInBounds_toArray, List.set_cons_zero, List.set_cons_succ] at H) | (with_reducible refine wpl rfl (Stp.ldr rfl agg43 size43 rfl H (by repeat (first | exact List.mem_cons_self | apply List.mem_cons_of_mem)) (by first | rfl | (simp; done) | assumption) ?_); simp only [Act.put, List.setIfInBounds_toArray, List.set_cons_zero, List.set_cons_succ]) | (with_reducible refine wpl rfl (Stp.ldl rfl agg43 size43 rfl H (by repeat (first | exact List.mem_cons_self | apply List.mem_cons_of_mem)) (by simp) ?_); simp only [Act.put, List.setIfInBounds_toArray, List.set_cons_zero, List.set_cons_succ]; simp only [List.drop_succ_cons, List.drop_zero, List.take_succ_cons, List.take_zero]) | (with_reducible refine wpl rfl (Stp.ldor rfl agg43 size43 rfl H (by assumption) (by first | rfl | (simp; done) | assumption) (by assumption) ?_); simp only [Act.put, List.setIfInBounds_toArray, List.set_cons_zero, List.set_cons_succ]) | (with_reducible refine wpl rfl (Stp.ldc rfl agg26 rfl H (by repeat (first | exact List.mem_cons_self | apply List.mem_cons_of_mem)) (by first | (repeat (first | exact lit0 _ _ | apply lits)) | rfl | assumption) ?_); simp only [Act.put, List.setIfInBounds_toArray, List.set_cons_zero, List.set_cons_succ]) | (with_reducible refine wpl rfl (Stp.ldo rfl agg26 rfl H (by assumption) (by assumption) ?_); simp only [Act.put, List.setIfInBounds_toArray, List.set_cons_zero, List.set_cons_succ]) | (with_reducible refine wpl rfl (Stp.ldc rfl agg3 rfl H (by repeat (first | exact List.mem_cons_self | apply List.mem_cons_of_mem)) (by first | (repeat (first | exact lit0 _ _ | apply lits)) | rfl | assumption) ?_); simp only [Act.put, List.setIfInBounds_toArray, List.set_cons_zero, List.set_cons_succ]) | (with_reducible refine wpl rfl (Stp.ldo rfl agg3 rfl H (by assumption) (by assumption) ?_); simp only [Act.put, List.setIfInBounds_toArray, List.set_cons_zero, List.set_cons_succ]))
  go_ret2
  exact ⟨_, rfl, rfl, H.below⟩
attribute [local irreducible] sealL
set_option maxRecDepth 100000 in
set_option maxHeartbeats 1000000 in
theorem encode_ok (k fi fc ti tc s : Nat) (hfi : fi < 65536) (hfc : fc < 4294967296) (hti : ti < 65536) (htc : tc < 4294967296) (hs0 : s < 18446744073709551616) (A : Option Addr) (c : Nat) (b f : List Nat) (hb : ∀ x ∈ b, x < 256) (he : chk (k : Int) fi fc ti tc b.length = 0) (hf : formL k fi fc ti tc s b = f) (w : World) (hs : Sl w 1 b.length (.slice A b.length c) (elB b)) :
    Calls Try.prog 17 #[.agg #[.int .i64 (k : Int), .int .u16 (fi : Int), .int .u32 (fc : Int), .int .u16 (ti : Int), .int .u32 (tc : Int), .int .u64 (s : Int), .slice A b.length c]] w (Ret fun v w' => (∃ ap cp, v = .tuple #[.slice ap f.length cp, .int .i64 0] ∧ w'.ownsRow w.heap.size 5 1 (.slice ap f.length cp) f.length (bv f)) ∧ Below w.heap.size w w') := by
  have H := St.init w
  obtain ⟨z1, z2, z3, z4, z5⟩ := chk_zero he
  have hk1 : 1 ≤ k := by omega
  have hk3 : k ≤ 3 := by omega
  obtain ⟨hp, ho⟩ := head_put k hk1 hk3
  obtain ⟨q, hq⟩ : ∃ q : Nat, 1448280320 + k = q := ⟨_, rfl⟩
  rw [hq] at hp ho
  have hq64 : q < 18446744073709551616 := by omega
  have e8 : IntKind.u8.wrap (k : Int) = (k : Int) := by rw [IntKind.wrap_u8]; omega
  have e64 : IntKind.u64.wrap (k : Int) = (k : Int) := wrap_u64_in _ (by omega) (by omega)
  have rl := restL_len fi fc ti tc s
  have ib := innL_byte (show k < 256 by omega) fi fc ti tc s hb
  obtain ⟨r1, h1⟩ : ∃ r, [] ++ pidB fi fc = r := ⟨_, rfl⟩
  obtain ⟨r2, h2⟩ : ∃ r, r1 ++ pidB ti tc = r := ⟨_, rfl⟩
  obtain ⟨r3, h3⟩ : ∃ r, r2 ++ shortB s = r := ⟨_, rfl⟩
  have hr3 : restL fi fc ti tc s = r3 := by rw [← h3, ← h2, ← h1]; rfl
  have m1 : r1.length ≤ 20 := by rw [← h1, List.nil_append]; exact pidB_len _ _
  have m2 : r2.length ≤ 40 := by rw [← h2, List.length_append]; have := pidB_len ti tc; omega
  rw [hr3] at rl
  obtain ⟨z, hz⟩ : ∃ z : Nat, 12 + r3.length + b.length = z := ⟨_, rfl⟩
  have hz64 : z < 18446744073709551616 := by omega
  have ez : IntKind.u64.wrap (8 + (r3.length : Int) + (b.length : Int) + 4) = (z : Int) := by rw [wrap_u64_in _ (by omega) (by omega)]; omega
  obtain ⟨p1, g1⟩ : ∃ r, [] ++ putB q 4 4 = r := ⟨_, rfl⟩
  obtain ⟨p2, g2⟩ : ∃ r, p1 ++ putB z 4 4 = r := ⟨_, rfl⟩
  obtain ⟨p3, g3⟩ : ∃ r, p2 ++ r3 = r := ⟨_, rfl⟩
  obtain ⟨p4, g4⟩ : ∃ r, p3 ++ b = r := ⟨_, rfl⟩
  have n1 : p1.length = 4 := by rw [← g1, List.nil_append, putB_len]
  have n2 : p2.length = 8 := by rw [← g2, List.length_append, putB_len, n1]
  have n3 : p2.length + r3.length = p3.length := by rw [← g3, List.length_append]
  have n4 : p3.length + b.length = p4.length := by rw [← g4, List.length_append]
  have h4 : innL k fi fc ti tc s b = p4 := by
    rw [innL, hr3, hz, ← g4, ← g3, ← g2, ← g1, hp]; simp
  rw [h4] at ib
  have hf' : sealL p4 = f := by rw [← hf, formL, h4]
  have n4' : p4.length ≤ 5000 := by omega
  have HE := Lib.hid he
  have H1 := Lib.hid h1
  have H2 := Lib.hid h2
  have H3 := Lib.hid h3
  have G1 := Lib.hid g1
  have G2 := Lib.hid g2
  have G3 := Lib.hid g3
  have G4 := Lib.hid g4
  have N1 : p1.length ≤ 4 := by omega
  have N2 : p2.length ≤ 8 := by omega
  have N3 := Lib.hid n3
  have N4 := Lib.hid n4
  have B4 : p3.length ≤ 100 := by omega
  have HB := Lib.hid ib
  have HF := Lib.hid hf'
  clear he h1 h2 h3 g1 g2 g3 g4 n1 n2 n3 n4 ib hf hf' hb hp hq hr3 hz h4 z1 z2 z3 z4
  go_enter Try.func17, Try.ntmps17
  go_wp2_with (first | (go_at_call 19; (with_reducible refine (fcheck_as _ fi fc ti tc s A b.length c 0 HE.out _).mono ?_); rintro e w1 ⟨v, rfl, hr⟩; obtain ⟨rfl, hb1⟩ := hr; replace H := H.grow hb1; clear hb1) | (with_reducible refine wpl rfl (Stp.box 1 rfl rfl rfl H ?_); clear H; intro g1 w1 H; simp only [Act.put, List.setIfInBounds_toArray, List.set_cons_zero, List.set_cons_succ]; simp only [eval_tmp, eval_const, getD_lit0, getD_lits, cells_agg, cells_int, cells_bool, cells_string, cells_pointer, cells_slice, cells_map, List.setIfInBounds_toArray, List.set_cons_zero, List.set_cons_succ] at H) | (with_reducible refine wpl rfl (Stp.ldr rfl agg43 size43 rfl H (by repeat (first | exact List.mem_cons_self | apply List.mem_cons_of_mem)) (by first | rfl | (simp; done) | assumption) ?_); simp only [Act.put, List.setIfInBounds_toArray, List.set_cons_zero, List.set_cons_succ]) | (with_reducible refine wpl rfl (Stp.ldl rfl agg43 size43 rfl H (by repeat (first | exact List.mem_cons_self | apply List.mem_cons_of_mem)) (by simp) ?_); simp only [Act.put, List.setIfInBounds_toArray, List.set_cons_zero, List.set_cons_succ]; simp only [List.drop_succ_cons, List.drop_zero, List.take_succ_cons, List.take_zero]) | (with_reducible refine wpl rfl (Stp.ldor rfl agg43 size43 rfl H (by assumption) (by first | rfl | (simp; done) | assumption) (by assumption) ?_); simp only [Act.put, List.setIfInBounds_toArray, List.set_cons_zero, List.set_cons_succ]) | (with_reducible refine wpl rfl (Stp.ldc rfl agg26 rfl H (by repeat (first | exact List.mem_cons_self | apply List.mem_cons_of_mem)) (by first | (repeat (first | exact lit0 _ _ | apply lits)) | rfl | assumption) ?_); simp only [Act.put, List.setIfInBounds_toArray, List.set_cons_zero, List.set_cons_succ]) | (with_reducible refine wpl rfl (Stp.ldo rfl agg26 rfl H (by assumption) (by assumption) ?_); simp only [Act.put, List.setIfInBounds_toArray, List.set_cons_zero, List.set_cons_succ]) | (with_reducible refine wpl rfl (Stp.ldc rfl agg3 rfl H (by repeat (first | exact List.mem_cons_self | apply List.mem_cons_of_mem)) (by first | (repeat (first | exact lit0 _ _ | apply lits)) | rfl | assumption) ?_); simp only [Act.put, List.setIfInBounds_toArray, List.set_cons_zero, List.set_cons_succ]) | (with_reducible refine wpl rfl (Stp.ldo rfl agg3 rfl H (by assumption) (by assumption) ?_); simp only [Act.put, List.setIfInBounds_toArray, List.set_cons_zero, List.set_cons_succ]))
  refine rg_begin 10 rfl (S := fun W => St _ _ W _) (by kernel_rfl) H.drew ?_
  replace H := H.drew
  have HS := H
  refine rg_take (i := 0) rfl (by kernel_rfl) (by kernel_rfl) (by kernel_rfl) (Yld.of rfl (fun W _ => by go_simp; first | done | with_reducible rfl)) (H.sub (by repeat (first | exact List.Sublist.refl _ | exact List.nil_sublist _ | (with_reducible apply List.Sublist.cons_cons) | apply List.Sublist.cons))) ?_; simp only [Act.put, List.setIfInBounds_toArray, List.set_cons_zero, List.set_cons_succ]
  first | (refine rg_take (i := 1) rfl (by kernel_rfl) (by kernel_rfl) (by kernel_rfl) (Yld.ldr rfl rfl agg34 size34 rfl (by repeat (first | exact List.mem_cons_self | apply List.mem_cons_of_mem)) (by first | rfl | (simp; done) | assumption)) (H.sub (by repeat (first | exact List.Sublist.refl _ | exact List.nil_sublist _ | (with_reducible apply List.Sublist.cons_cons) | apply List.Sublist.cons))) ?_; simp only [Act.put, List.setIfInBounds_toArray, List.set_cons_zero, List.set_cons_succ]) | (refine rg_take (i := 1) rfl (by kernel_rfl) (by kernel_rfl) (by kernel_rfl) (Yld.ldl rfl rfl agg34 size34 rfl (by repeat (first | exact List.mem_cons_self | apply List.mem_cons_of_mem)) (by simp)) (H.sub (by repeat (first | exact List.Sublist.refl _ | exact List.nil_sublist _ | (with_reducible apply List.Sublist.cons_cons) | apply List.Sublist.cons))) ?_; simp only [Act.put, List.setIfInBounds_toArray, List.set_cons_zero, List.set_cons_succ]; simp only [List.drop_succ_cons, List.drop_zero, List.take_succ_cons, List.take_zero]) | (refine rg_take (i := 1) rfl (by kernel_rfl) (by kernel_rfl) (by kernel_rfl) (Yld.ldor rfl rfl agg34 size34 rfl (by assumption) (by first | rfl | (simp; done) | assumption) (by assumption)) (H.sub (by repeat (first | exact List.Sublist.refl _ | exact List.nil_sublist _ | (with_reducible apply List.Sublist.cons_cons) | apply List.Sublist.cons))) ?_; simp only [Act.put, List.setIfInBounds_toArray, List.set_cons_zero, List.set_cons_succ])
  refine rg_take (i := 3) rfl (by kernel_rfl) (by kernel_rfl) (by kernel_rfl) (Yld.of rfl (fun W _ => by go_simp; first | done | with_reducible rfl)) (H.sub (by repeat (first | exact List.Sublist.refl _ | exact List.nil_sublist _ | (with_reducible apply List.Sublist.cons_cons) | apply List.Sublist.cons))) ?_; simp only [Act.put, List.setIfInBounds_toArray, List.set_cons_zero, List.set_cons_succ]
  first | (refine rg_take (i := 4) rfl (by kernel_rfl) (by kernel_rfl) (by kernel_rfl) (Yld.ldr rfl rfl agg34 size34 rfl (by repeat (first | exact List.mem_cons_self | apply List.mem_cons_of_mem)) (by first | rfl | (simp; done) | assumption)) (H.sub (by repeat (first | exact List.Sublist.refl _ | exact List.nil_sublist _ | (with_reducible apply List.Sublist.cons_cons) | apply List.Sublist.cons))) ?_; simp only [Act.put, List.setIfInBounds_toArray, List.set_cons_zero, List.set_cons_succ]) | (refine rg_take (i := 4) rfl (by kernel_rfl) (by kernel_rfl) (by kernel_rfl) (Yld.ldl rfl rfl agg34 size34 rfl (by repeat (first | exact List.mem_cons_self | apply List.mem_cons_of_mem)) (by simp)) (H.sub (by repeat (first | exact List.Sublist.refl _ | exact List.nil_sublist _ | (with_reducible apply List.Sublist.cons_cons) | apply List.Sublist.cons))) ?_; simp only [Act.put, List.setIfInBounds_toArray, List.set_cons_zero, List.set_cons_succ]; simp only [List.drop_succ_cons, List.drop_zero, List.take_succ_cons, List.take_zero]) | (refine rg_take (i := 4) rfl (by kernel_rfl) (by kernel_rfl) (by kernel_rfl) (Yld.ldor rfl rfl agg34 size34 rfl (by assumption) (by first | rfl | (simp; done) | assumption) (by assumption)) (H.sub (by repeat (first | exact List.Sublist.refl _ | exact List.nil_sublist _ | (with_reducible apply List.Sublist.cons_cons) | apply List.Sublist.cons))) ?_; simp only [Act.put, List.setIfInBounds_toArray, List.set_cons_zero, List.set_cons_succ])
  refine rg_take (i := 6) rfl (by kernel_rfl) (by kernel_rfl) (by kernel_rfl) (Yld.of rfl (fun W _ => by go_simp; first | done | with_reducible rfl)) (H.sub (by repeat (first | exact List.Sublist.refl _ | exact List.nil_sublist _ | (with_reducible apply List.Sublist.cons_cons) | apply List.Sublist.cons))) ?_; simp only [Act.put, List.setIfInBounds_toArray, List.set_cons_zero, List.set_cons_succ]
  first | (refine rg_take (i := 7) rfl (by kernel_rfl) (by kernel_rfl) (by kernel_rfl) (Yld.ldc rfl rfl agg30 rfl (by repeat (first | exact List.mem_cons_self | apply List.mem_cons_of_mem)) (by first | (repeat (first | exact lit0 _ _ | apply lits)) | rfl | assumption)) (H.sub (by repeat (first | exact List.Sublist.refl _ | exact List.nil_sublist _ | (with_reducible apply List.Sublist.cons_cons) | apply List.Sublist.cons))) ?_; simp only [Act.put, List.setIfInBounds_toArray, List.set_cons_zero, List.set_cons_succ]) | (refine rg_take (i := 7) rfl (by kernel_rfl) (by kernel_rfl) (by kernel_rfl) (Yld.ldo rfl rfl agg30 rfl (by assumption) (by assumption)) (H.sub (by repeat (first | exact List.Sublist.refl _ | exact List.nil_sublist _ | (with_reducible apply List.Sublist.cons_cons) | apply List.Sublist.cons))) ?_; simp only [Act.put, List.setIfInBounds_toArray, List.set_cons_zero, List.set_cons_succ])
  refine rg_one (i := 2) (by kernel_rfl) rfl rfl (fun K hK => ?_)
  refine wp_callf rfl ent51 (pput_as _ [] r1 (by simp) fi fc hfi hfc H1.out _ (nil_sl _)) rfl (fun v w1 hr => ?_)
  obtain ⟨⟨ar1, cr1, rfl⟩, ho, hb1⟩ := hr
  replace H := H.new hb1 (slc_sound ho) (fun g hg => (ho.lt g hg).1)
  clear hb1 ho
  clear HS
  have HS := H
  refine hK.out _ _ (H.sub (by repeat (first | exact List.Sublist.refl _ | exact List.nil_sublist _ | (with_reducible apply List.Sublist.cons_cons) | apply List.Sublist.cons))) ?_
  clear hK K
  simp only [Act.put, List.setIfInBounds_toArray, List.set_cons_zero, List.set_cons_succ]
  refine rg_one (i := 5) (by kernel_rfl) rfl rfl (fun K hK => ?_)
  refine wp_callf rfl ent51 (pput_as _ r1 r2 (by omega) ti tc hti htc H2.out _ (own_sla (H.getSlc (xs := bv r1) (by repeat (first | exact List.mem_cons_self | apply List.mem_cons_of_mem))) (by omega))) rfl (fun v w1 hr => ?_)
  obtain ⟨⟨ar2, cr2, rfl⟩, ho, hb1⟩ := hr
  replace H := H.new hb1 (slc_sound ho) (fun g hg => (ho.lt g hg).1)
  clear hb1 ho
  clear HS
  have HS := H
  refine hK.out _ _ (H.sub (by repeat (first | exact List.Sublist.refl _ | exact List.nil_sublist _ | (with_reducible apply List.Sublist.cons_cons) | apply List.Sublist.cons))) ?_
  clear hK K
  simp only [Act.put, List.setIfInBounds_toArray, List.set_cons_zero, List.set_cons_succ]
  refine rg_one (i := 8) (by kernel_rfl) rfl rfl (fun K hK => ?_)
  refine wp_callf rfl ent50 (putshort_as _ r2 r3 s hs0 (by omega) H3.out _ (own_sla (H.getSlc (xs := bv r2) (by repeat (first | exact List.mem_cons_self | apply List.mem_cons_of_mem))) (by omega))) rfl (fun v w1 hr => ?_)
  obtain ⟨⟨ar3, cr3, rfl⟩, ho, hb1⟩ := hr
  replace H := H.new hb1 (slc_sound ho) (fun g hg => (ho.lt g hg).1)
  clear hb1 ho
  clear HS
  have HS := H
  refine hK.out _ _ (H.sub (by repeat (first | exact List.Sublist.refl _ | exact List.nil_sublist _ | (with_reducible apply List.Sublist.cons_cons) | apply List.Sublist.cons))) ?_
  clear hK K
  simp only [Act.put, List.setIfInBounds_toArray, List.set_cons_zero, List.set_cons_succ]
  refine rg_take (i := 9) rfl (by kernel_rfl) (by kernel_rfl) (by kernel_rfl) (Yld.assign rfl rfl) (H.sub (by repeat (first | exact List.Sublist.refl _ | exact List.nil_sublist _ | (with_reducible apply List.Sublist.cons_cons) | apply List.Sublist.cons))) ?_; simp only [Act.put, eval_tmp, eval_const, getD_lit0, getD_lits, if_true, if_false, List.setIfInBounds_toArray, List.set_cons_zero, List.set_cons_succ]
  refine rg_done (by kernel_rfl) ?_
  go_wp2_with (first | (go_at_call 52; (with_reducible refine (put4_as _ [] p1 q hq64 (by simp) G1.out _ (nil_sl _)).mono ?_); rintro e w1 ⟨v, rfl, hr⟩; obtain ⟨⟨ap1, cp1, rfl⟩, ho, hb1⟩ := hr; replace H := H.new hb1 (slc_sound ho) (fun g hg => (ho.lt g hg).1); clear hb1 ho) | (go_at_call 52; (with_reducible refine (put4_as _ p1 p2 z hz64 (by omega) G2.out _ (own_sla (H.getSlc (xs := bv p1) (by repeat (first | exact List.mem_cons_self | apply List.mem_cons_of_mem))) (by omega))).mono ?_); rintro e w1 ⟨v, rfl, hr⟩; obtain ⟨⟨ap2, cp2, rfl⟩, ho, hb1⟩ := hr; replace H := H.new hb1 (slc_sound ho) (fun g hg => (ho.lt g hg).1); clear hb1 ho) | (with_reducible refine wpl rfl (Stp.box 1 rfl rfl rfl H ?_); clear H; intro g1 w1 H; simp only [Act.put, List.setIfInBounds_toArray, List.set_cons_zero, List.set_cons_succ]; simp only [eval_tmp, eval_const, getD_lit0, getD_lits, cells_agg, cells_int, cells_bool, cells_string, cells_pointer, cells_slice, cells_map, List.setIfInBounds_toArray, List.set_cons_zero, List.set_cons_succ] at H) | (with_reducible refine wpl rfl (Stp.ldr rfl agg43 size43 rfl H (by repeat (first | exact List.mem_cons_self | apply List.mem_cons_of_mem)) (by first | rfl | (simp; done) | assumption) ?_); simp only [Act.put, List.setIfInBounds_toArray, List.set_cons_zero, List.set_cons_succ]) | (with_reducible refine wpl rfl (Stp.ldl rfl agg43 size43 rfl H (by repeat (first | exact List.mem_cons_self | apply List.mem_cons_of_mem)) (by simp) ?_); simp only [Act.put, List.setIfInBounds_toArray, List.set_cons_zero, List.set_cons_succ]; simp only [List.drop_succ_cons, List.drop_zero, List.take_succ_cons, List.take_zero]) | (with_reducible refine wpl rfl (Stp.ldor rfl agg43 size43 rfl H (by assumption) (by first | rfl | (simp; done) | assumption) (by assumption) ?_); simp only [Act.put, List.setIfInBounds_toArray, List.set_cons_zero, List.set_cons_succ]) | (with_reducible refine wpl rfl (Stp.ldc rfl agg26 rfl H (by repeat (first | exact List.mem_cons_self | apply List.mem_cons_of_mem)) (by first | (repeat (first | exact lit0 _ _ | apply lits)) | rfl | assumption) ?_); simp only [Act.put, List.setIfInBounds_toArray, List.set_cons_zero, List.set_cons_succ]) | (with_reducible refine wpl rfl (Stp.ldo rfl agg26 rfl H (by assumption) (by assumption) ?_); simp only [Act.put, List.setIfInBounds_toArray, List.set_cons_zero, List.set_cons_succ]) | (with_reducible refine wpl rfl (Stp.ldc rfl agg3 rfl H (by repeat (first | exact List.mem_cons_self | apply List.mem_cons_of_mem)) (by first | (repeat (first | exact lit0 _ _ | apply lits)) | rfl | assumption) ?_); simp only [Act.put, List.setIfInBounds_toArray, List.set_cons_zero, List.set_cons_succ]) | (with_reducible refine wpl rfl (Stp.ldo rfl agg3 rfl H (by assumption) (by assumption) ?_); simp only [Act.put, List.setIfInBounds_toArray, List.set_cons_zero, List.set_cons_succ]))
  refine rg_begin 7 rfl (S := fun W => St _ _ W [row 43 g1 #[.int .i64 (k : Int), .int .u16 (fi : Int), .int .u32 (fc : Int), .int .u16 (ti : Int), .int .u32 (tc : Int), .int .u64 (s : Int), .slice A b.length c]]) (by kernel_rfl) (H.drew.sub (by repeat (first | exact List.Sublist.refl _ | exact List.nil_sublist _ | (with_reducible apply List.Sublist.cons_cons) | apply List.Sublist.cons))) ?_
  replace H := H.drew
  have HS := H
  refine rg_take (i := 0) rfl (by kernel_rfl) (by kernel_rfl) (by kernel_rfl) (Yld.move rfl rfl) (H.sub (by repeat (first | exact List.Sublist.refl _ | exact List.nil_sublist _ | (with_reducible apply List.Sublist.cons_cons) | apply List.Sublist.cons))) ?_; simp only [Act.put, eval_tmp, eval_const, getD_lit0, getD_lits, if_true, if_false, List.setIfInBounds_toArray, List.set_cons_zero, List.set_cons_succ]
  refine rg_take (i := 1) rfl (by kernel_rfl) (by kernel_rfl) (by kernel_rfl) (Yld.move rfl rfl) (H.sub (by repeat (first | exact List.Sublist.refl _ | exact List.nil_sublist _ | (with_reducible apply List.Sublist.cons_cons) | apply List.Sublist.cons))) ?_; simp only [Act.put, eval_tmp, eval_const, getD_lit0, getD_lits, if_true, if_false, List.setIfInBounds_toArray, List.set_cons_zero, List.set_cons_succ]
  refine rg_take (i := 3) rfl (by kernel_rfl) (by kernel_rfl) (by kernel_rfl) (Yld.of rfl (fun W _ => by go_simp; first | done | with_reducible rfl)) (H.sub (by repeat (first | exact List.Sublist.refl _ | exact List.nil_sublist _ | (with_reducible apply List.Sublist.cons_cons) | apply List.Sublist.cons))) ?_; simp only [Act.put, List.setIfInBounds_toArray, List.set_cons_zero, List.set_cons_succ]
  first | (refine rg_take (i := 4) rfl (by kernel_rfl) (by kernel_rfl) (by kernel_rfl) (Yld.ldc rfl rfl agg26 rfl (by repeat (first | exact List.mem_cons_self | apply List.mem_cons_of_mem)) (by first | (repeat (first | exact lit0 _ _ | apply lits)) | rfl | assumption)) (H.sub (by repeat (first | exact List.Sublist.refl _ | exact List.nil_sublist _ | (with_reducible apply List.Sublist.cons_cons) | apply List.Sublist.cons))) ?_; simp only [Act.put, List.setIfInBounds_toArray, List.set_cons_zero, List.set_cons_succ]) | (refine rg_take (i := 4) rfl (by kernel_rfl) (by kernel_rfl) (by kernel_rfl) (Yld.ldo rfl rfl agg26 rfl (by assumption) (by assumption)) (H.sub (by repeat (first | exact List.Sublist.refl _ | exact List.nil_sublist _ | (with_reducible apply List.Sublist.cons_cons) | apply List.Sublist.cons))) ?_; simp only [Act.put, List.setIfInBounds_toArray, List.set_cons_zero, List.set_cons_succ])
  refine rg_one (i := 2) (by kernel_rfl) rfl rfl (fun K hK => ?_)
  refine Stp.wp (Stp.apps 42 rfl rfl Try.underlying26 info5 rfl (by decide) rfl rfl H (fun _ => Upd.head) (by rw [bv_len, Nat.mul_one]) (own_src (H.getSlc (xs := bv r3) (by repeat (first | exact List.mem_cons_self | apply List.mem_cons_of_mem)))) (bv_one r3) (by unfold maxLen; omega) (by omega) ?_)
  clear H
  intro ap3 cp3 w1 H
  rw [bv_app, G3.out, N3.out] at H
  rw [N3.out]
  clear HS
  have HS := H
  refine hK.out _ _ (H.sub (by repeat (first | exact List.Sublist.refl _ | exact List.nil_sublist _ | (with_reducible apply List.Sublist.cons_cons) | apply List.Sublist.cons))) ?_
  clear hK K
  simp only [Act.put, List.setIfInBounds_toArray, List.set_cons_zero, List.set_cons_succ]
  refine rg_one (i := 5) (by kernel_rfl) rfl rfl (fun K hK => ?_)
  refine Stp.wp (Stp.apps 45 rfl rfl Try.underlying26 info5 rfl (by decide) rfl rfl H (fun _ => Upd.head) (by rw [bv_len, Nat.mul_one]) (hs.grow H.below).src (bv_one b) (by unfold maxLen; omega) (by omega) ?_)
  clear H
  intro ap4 cp4 w1 H
  rw [bv_app, G4.out, N4.out] at H
  rw [N4.out]
  clear HS
  have HS := H
  refine hK.out _ _ (H.sub (by repeat (first | exact List.Sublist.refl _ | exact List.nil_sublist _ | (with_reducible apply List.Sublist.cons_cons) | apply List.Sublist.cons))) ?_
  clear hK K
  simp only [Act.put, List.setIfInBounds_toArray, List.set_cons_zero, List.set_cons_succ]
  refine rg_take (i := 6) rfl (by kernel_rfl) (by kernel_rfl) (by kernel_rfl) (Yld.assign rfl rfl) (H.sub (by repeat (first | exact List.Sublist.refl _ | exact List.nil_sublist _ | (with_reducible apply List.Sublist.cons_cons) | apply List.Sublist.cons))) ?_; simp only [Act.put, eval_tmp, eval_const, getD_lit0, getD_lits, if_true, if_false, List.setIfInBounds_toArray, List.set_cons_zero, List.set_cons_succ]
  refine rg_done (by kernel_rfl) ?_
  go_wp2_with (first | (go_at_call 53; (with_reducible refine (seal_as _ p4 f (by omega) HB.out HF.out _ (own_sla (H.getSlc (xs := bv p4) (by repeat (first | exact List.mem_cons_self | apply List.mem_cons_of_mem))) (by omega))).mono ?_); rintro e w1 ⟨v, rfl, hr⟩; obtain ⟨⟨af, cf, rfl⟩, ho, hb1⟩ := hr; replace H := H.new hb1 (slc_sound ho) (fun g hg => (ho.lt g hg).1); clear hb1 ho) | (with_reducible refine wpl rfl (Stp.box 1 rfl rfl rfl H ?_); clear H; intro g1 w1 H; simp only [Act.put, List.setIfInBounds_toArray, List.set_cons_zero, List.set_cons_succ]; simp only [eval_tmp, eval_const, getD_lit0, getD_lits, cells_agg, cells_int, cells_bool, cells_string, cells_pointer, cells_slice, cells_map, List.setIfInBounds_toArray, List.set_cons_zero, List.set_cons_succ] at H) | (with_reducible refine wpl rfl (Stp.ldr rfl agg43 size43 rfl H (by repeat (first | exact List.mem_cons_self | apply List.mem_cons_of_mem)) (by first | rfl | (simp; done) | assumption) ?_); simp only [Act.put, List.setIfInBounds_toArray, List.set_cons_zero, List.set_cons_succ]) | (with_reducible refine wpl rfl (Stp.ldl rfl agg43 size43 rfl H (by repeat (first | exact List.mem_cons_self | apply List.mem_cons_of_mem)) (by simp) ?_); simp only [Act.put, List.setIfInBounds_toArray, List.set_cons_zero, List.set_cons_succ]; simp only [List.drop_succ_cons, List.drop_zero, List.take_succ_cons, List.take_zero]) | (with_reducible refine wpl rfl (Stp.ldor rfl agg43 size43 rfl H (by assumption) (by first | rfl | (simp; done) | assumption) (by assumption) ?_); simp only [Act.put, List.setIfInBounds_toArray, List.set_cons_zero, List.set_cons_succ]) | (with_reducible refine wpl rfl (Stp.ldc rfl agg26 rfl H (by repeat (first | exact List.mem_cons_self | apply List.mem_cons_of_mem)) (by first | (repeat (first | exact lit0 _ _ | apply lits)) | rfl | assumption) ?_); simp only [Act.put, List.setIfInBounds_toArray, List.set_cons_zero, List.set_cons_succ]) | (with_reducible refine wpl rfl (Stp.ldo rfl agg26 rfl H (by assumption) (by assumption) ?_); simp only [Act.put, List.setIfInBounds_toArray, List.set_cons_zero, List.set_cons_succ]) | (with_reducible refine wpl rfl (Stp.ldc rfl agg3 rfl H (by repeat (first | exact List.mem_cons_self | apply List.mem_cons_of_mem)) (by first | (repeat (first | exact lit0 _ _ | apply lits)) | rfl | assumption) ?_); simp only [Act.put, List.setIfInBounds_toArray, List.set_cons_zero, List.set_cons_succ]) | (with_reducible refine wpl rfl (Stp.ldo rfl agg3 rfl H (by assumption) (by assumption) ?_); simp only [Act.put, List.setIfInBounds_toArray, List.set_cons_zero, List.set_cons_succ]))
  go_ret2
  exact ⟨_, rfl, ⟨_, _, rfl, H.getSlc (by repeat (first | exact List.mem_cons_self | apply List.mem_cons_of_mem))⟩, H.below⟩
end Go.Proofs.Ytcjbippgjhgoiaa
