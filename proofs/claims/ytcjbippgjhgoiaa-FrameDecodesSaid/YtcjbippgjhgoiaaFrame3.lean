/- The contract of layer 6's reference Form (frame); the bounds stand in it. -/
import Derived.Test.YtcjbippgjhgoiaaFrame2
namespace Go.Proofs.Ytcjbippgjhgoiaa
open Go.ChangeShapes Go.WideShapes Go.ChangeAt Go.RowKit
set_option linter.unusedVariables false
set_option linter.unusedSimpArgs false
theorem shut_head {B : Nat} {w0 w : World} {g k : Nat} {L : List Res} {p : List Nat} (H : St B w0 w (row 5 g #[.int .u8 86, .int .u8 83, .int .u8 1, .int .u8 (k : Int)] :: L)) (h : [86, 83, 1, k] = p) :
    St B w0 w (slc 5 1 (.slice (some ⟨g, 0, none⟩) 4 4) 4 (bv p) :: L) := by
  subst h
  have e1 : (4 : Nat) ≤ 4 := Nat.le_refl _
  have e2 : (4 : Nat) ≤ maxLen := by unfold maxLen; omega
  have e3 : (#[Value.int .u8 86, .int .u8 83, .int .u8 1, .int .u8 (k : Int)] : Array Value).size = 4 * 1 := rfl
  have e4 : (#[Value.int .u8 86, .int .u8 83, .int .u8 1, .int .u8 (k : Int)] : Array Value).toList.take (4 * 1) = bv [86, 83, 1, k] := rfl
  exact H.shut_slc (e := 5) (size := 1) (n := 4) (cap := 4) Upd.head e1 e2 e3 e4
attribute [local irreducible] sealL
set_option maxRecDepth 100000 in
set_option maxHeartbeats 1000000 in
theorem rform_ok (k fi fc ti tc s : Nat) (hfi : fi < 65536) (hfc : fc < 4294967296) (hti : ti < 65536) (htc : tc < 4294967296) (hs0 : s < 18446744073709551616) (A : Option Addr) (c : Nat) (b f : List Nat) (hb : ∀ x ∈ b, x < 256) (hk1 : 1 ≤ k) (hk3 : k ≤ 3) (hbl : b.length ≤ 5000) (hf : formL k fi fc ti tc s b = f) (w : World) (hs : Sl w 1 b.length (.slice A b.length c) (elB b)) :
    Calls Try.prog 20 #[.agg #[.int .i64 (k : Int), .int .u16 (fi : Int), .int .u32 (fc : Int), .int .u16 (ti : Int), .int .u32 (tc : Int), .int .u64 (s : Int), .slice A b.length c]] w (Ret fun v w' => (∃ ap cp, v = .slice ap f.length cp) ∧ w'.ownsRow w.heap.size 5 1 v f.length (bv f) ∧ Below w.heap.size w w') := by
  have H := St.init w
  have e8 : IntKind.u8.wrap (k : Int) = (k : Int) := by rw [IntKind.wrap_u8]; omega
  have rl := restL_len fi fc ti tc s
  have ib := innL_byte (show k < 256 by omega) fi fc ti tc s hb
  obtain ⟨r1, h1⟩ : ∃ r, pidB fi fc = r := ⟨_, rfl⟩
  obtain ⟨r2, h2⟩ : ∃ r, pidB ti tc = r := ⟨_, rfl⟩
  obtain ⟨r3, h3⟩ : ∃ r, r1 ++ r2 = r := ⟨_, rfl⟩
  obtain ⟨r4, h4⟩ : ∃ r, shortB s = r := ⟨_, rfl⟩
  obtain ⟨r5, h5⟩ : ∃ r, r3 ++ r4 = r := ⟨_, rfl⟩
  obtain ⟨r6, h6⟩ : ∃ r, r5 ++ b = r := ⟨_, rfl⟩
  have hr5 : restL fi fc ti tc s = r5 := by rw [← h5, ← h3, ← h1, ← h2, ← h4]; rfl
  have m1 : r1.length ≤ 20 := by rw [← h1]; exact pidB_len _ _
  have m2 : r2.length ≤ 20 := by rw [← h2]; exact pidB_len _ _
  have m3 : r1.length + r2.length = r3.length := by rw [← h3, List.length_append]
  have m4 : r4.length ≤ 10 := by rw [← h4]; exact shortB_len _
  have m5 : r3.length + r4.length = r5.length := by rw [← h5, List.length_append]
  have m6 : r5.length + b.length = r6.length := by rw [← h6, List.length_append]
  obtain ⟨z, hz⟩ : ∃ z : Nat, r6.length + 12 = z := ⟨_, rfl⟩
  have hz64 : z < 18446744073709551616 := by omega
  have ez : IntKind.u64.wrap ((r6.length : Int) + 12) = (z : Int) := by rw [wrap_u64_in _ (by omega) (by omega)]; omega
  obtain ⟨p1, g1⟩ : ∃ r : List Nat, [86, 83, 1, k] = r := ⟨_, rfl⟩
  obtain ⟨p2, g2⟩ : ∃ r, putB z 4 4 = r := ⟨_, rfl⟩
  obtain ⟨p3, g3⟩ : ∃ r, p1 ++ p2 = r := ⟨_, rfl⟩
  obtain ⟨p4, g4⟩ : ∃ r, p3 ++ r6 = r := ⟨_, rfl⟩
  have n1 : p1.length = 4 := by rw [← g1]; rfl
  have n2 : p2.length = 4 := by rw [← g2, putB_len]
  have n3 : 4 + p2.length = p3.length := by rw [← g3, List.length_append, n1]
  have n4 : p3.length + r6.length = p4.length := by rw [← g4, List.length_append]
  have hi4 : innL k fi fc ti tc s b = p4 := by
    rw [innL, hr5, ← g4, ← g3, ← g2, ← g1, ← h6]
    rw [show 12 + r5.length + b.length = z by omega]
  rw [hi4] at ib
  have hf' : sealL p4 = f := by rw [← hf, formL, hi4]
  have H1 := Lib.hid h1
  have H2 := Lib.hid h2
  have H3 := Lib.hid h3
  have H4 := Lib.hid h4
  have H5 := Lib.hid h5
  have H6 := Lib.hid h6
  have M3 := Lib.hid m3
  have M5 := Lib.hid m5
  have M6 := Lib.hid m6
  have G1 := Lib.hid g1
  have G2 := Lib.hid g2
  have G3 := Lib.hid g3
  have G4 := Lib.hid g4
  have N1 := Lib.hid n1
  have N2 : p2.length ≤ 4 := by omega
  have N3 := Lib.hid n3
  have N4 := Lib.hid n4
  have B1 : p1.length ≤ 4 := by omega
  have B3 : p3.length ≤ 8 := by omega
  have B4 : p4.length ≤ 6000 := by omega
  have B5 : r3.length ≤ 40 := by omega
  have B6 : r5.length ≤ 50 := by omega
  have B7 : r6.length ≤ 5050 := by omega
  have HB := Lib.hid ib
  have HF := Lib.hid hf'
  clear h1 h2 h3 h4 h5 h6 g1 g2 g3 g4 n1 n2 n3 n4 m3 m5 m6 ib hf hf' hb hr5 hz hi4
  go_enter Try.func20, Try.ntmps20
  go_wp2_with (first | (with_reducible refine wpl rfl (Stp.box 1 rfl rfl rfl H ?_); clear H; intro g1 w1 H; simp only [Act.put, List.setIfInBounds_toArray, List.set_cons_zero, List.set_cons_succ]; simp only [eval_tmp, eval_const, getD_lit0, getD_lits, cells_agg, cells_int, cells_bool, cells_string, cells_pointer, cells_slice, cells_map, List.setIfInBounds_toArray, List.set_cons_zero, List.set_cons_succ] at H) | (with_reducible refine wpl rfl (Stp.ldc rfl agg30 rfl H (by repeat (first | exact List.mem_cons_self | apply List.mem_cons_of_mem)) (by first | (repeat (first | exact lit0 _ _ | apply lits)) | rfl | assumption) ?_); simp only [Act.put, List.setIfInBounds_toArray, List.set_cons_zero, List.set_cons_succ]) | (with_reducible refine wpl rfl (Stp.ldo rfl agg30 rfl H (by assumption) (by assumption) ?_); simp only [Act.put, List.setIfInBounds_toArray, List.set_cons_zero, List.set_cons_succ]) | (with_reducible refine wpl rfl (Stp.ldc rfl agg26 rfl H (by repeat (first | exact List.mem_cons_self | apply List.mem_cons_of_mem)) (by first | (repeat (first | exact lit0 _ _ | apply lits)) | rfl | assumption) ?_); simp only [Act.put, List.setIfInBounds_toArray, List.set_cons_zero, List.set_cons_succ]) | (with_reducible refine wpl rfl (Stp.ldo rfl agg26 rfl H (by assumption) (by assumption) ?_); simp only [Act.put, List.setIfInBounds_toArray, List.set_cons_zero, List.set_cons_succ]) | (with_reducible refine wpl rfl (Stp.ldc rfl agg3 rfl H (by repeat (first | exact List.mem_cons_self | apply List.mem_cons_of_mem)) (by first | (repeat (first | exact lit0 _ _ | apply lits)) | rfl | assumption) ?_); simp only [Act.put, List.setIfInBounds_toArray, List.set_cons_zero, List.set_cons_succ]) | (with_reducible refine wpl rfl (Stp.ldo rfl agg3 rfl H (by assumption) (by assumption) ?_); simp only [Act.put, List.setIfInBounds_toArray, List.set_cons_zero, List.set_cons_succ]))
  refine rg_begin 8 rfl (S := fun W => St _ _ W [row 43 g1 #[.int .i64 (k : Int), .int .u16 (fi : Int), .int .u32 (fc : Int), .int .u16 (ti : Int), .int .u32 (tc : Int), .int .u64 (s : Int), .slice A b.length c]]) (by kernel_rfl) (H.drew.sub (by repeat (first | exact List.Sublist.refl _ | exact List.nil_sublist _ | (with_reducible apply List.Sublist.cons_cons) | apply List.Sublist.cons))) ?_
  replace H := H.drew
  have HS := H
  refine rg_take (i := 0) rfl (by kernel_rfl) (by kernel_rfl) (by kernel_rfl) (Yld.of rfl (fun W _ => by go_simp; first | done | with_reducible rfl)) (H.sub (by repeat (first | exact List.Sublist.refl _ | exact List.nil_sublist _ | (with_reducible apply List.Sublist.cons_cons) | apply List.Sublist.cons))) ?_; simp only [Act.put, List.setIfInBounds_toArray, List.set_cons_zero, List.set_cons_succ]
  first | (refine rg_take (i := 1) rfl (by kernel_rfl) (by kernel_rfl) (by kernel_rfl) (Yld.ldr rfl rfl agg34 size34 rfl (by repeat (first | exact List.mem_cons_self | apply List.mem_cons_of_mem)) (by first | rfl | (simp; done) | assumption)) (H.sub (by repeat (first | exact List.Sublist.refl _ | exact List.nil_sublist _ | (with_reducible apply List.Sublist.cons_cons) | apply List.Sublist.cons))) ?_; simp only [Act.put, List.setIfInBounds_toArray, List.set_cons_zero, List.set_cons_succ]) | (refine rg_take (i := 1) rfl (by kernel_rfl) (by kernel_rfl) (by kernel_rfl) (Yld.ldl rfl rfl agg34 size34 rfl (by repeat (first | exact List.mem_cons_self | apply List.mem_cons_of_mem)) (by simp)) (H.sub (by repeat (first | exact List.Sublist.refl _ | exact List.nil_sublist _ | (with_reducible apply List.Sublist.cons_cons) | apply List.Sublist.cons))) ?_; simp only [Act.put, List.setIfInBounds_toArray, List.set_cons_zero, List.set_cons_succ]; simp only [List.drop_succ_cons, List.drop_zero, List.take_succ_cons, List.take_zero]) | (refine rg_take (i := 1) rfl (by kernel_rfl) (by kernel_rfl) (by kernel_rfl) (Yld.ldor rfl rfl agg34 size34 rfl (by assumption) (by first | rfl | (simp; done) | assumption) (by assumption)) (H.sub (by repeat (first | exact List.Sublist.refl _ | exact List.nil_sublist _ | (with_reducible apply List.Sublist.cons_cons) | apply List.Sublist.cons))) ?_; simp only [Act.put, List.setIfInBounds_toArray, List.set_cons_zero, List.set_cons_succ])
  refine rg_take (i := 3) rfl (by kernel_rfl) (by kernel_rfl) (by kernel_rfl) (Yld.of rfl (fun W _ => by go_simp; first | done | with_reducible rfl)) (H.sub (by repeat (first | exact List.Sublist.refl _ | exact List.nil_sublist _ | (with_reducible apply List.Sublist.cons_cons) | apply List.Sublist.cons))) ?_; simp only [Act.put, List.setIfInBounds_toArray, List.set_cons_zero, List.set_cons_succ]
  first | (refine rg_take (i := 4) rfl (by kernel_rfl) (by kernel_rfl) (by kernel_rfl) (Yld.ldr rfl rfl agg34 size34 rfl (by repeat (first | exact List.mem_cons_self | apply List.mem_cons_of_mem)) (by first | rfl | (simp; done) | assumption)) (H.sub (by repeat (first | exact List.Sublist.refl _ | exact List.nil_sublist _ | (with_reducible apply List.Sublist.cons_cons) | apply List.Sublist.cons))) ?_; simp only [Act.put, List.setIfInBounds_toArray, List.set_cons_zero, List.set_cons_succ]) | (refine rg_take (i := 4) rfl (by kernel_rfl) (by kernel_rfl) (by kernel_rfl) (Yld.ldl rfl rfl agg34 size34 rfl (by repeat (first | exact List.mem_cons_self | apply List.mem_cons_of_mem)) (by simp)) (H.sub (by repeat (first | exact List.Sublist.refl _ | exact List.nil_sublist _ | (with_reducible apply List.Sublist.cons_cons) | apply List.Sublist.cons))) ?_; simp only [Act.put, List.setIfInBounds_toArray, List.set_cons_zero, List.set_cons_succ]; simp only [List.drop_succ_cons, List.drop_zero, List.take_succ_cons, List.take_zero]) | (refine rg_take (i := 4) rfl (by kernel_rfl) (by kernel_rfl) (by kernel_rfl) (Yld.ldor rfl rfl agg34 size34 rfl (by assumption) (by first | rfl | (simp; done) | assumption) (by assumption)) (H.sub (by repeat (first | exact List.Sublist.refl _ | exact List.nil_sublist _ | (with_reducible apply List.Sublist.cons_cons) | apply List.Sublist.cons))) ?_; simp only [Act.put, List.setIfInBounds_toArray, List.set_cons_zero, List.set_cons_succ])
  refine rg_one (i := 2) (by kernel_rfl) rfl rfl (fun K hK => ?_)
  refine wp_callf rfl ent42 (rpput_as r1 fi fc hfi hfc H1.out _) rfl (fun v w1 hr => ?_)
  obtain ⟨⟨ar1, cr1, rfl⟩, ho, hb1⟩ := hr
  replace H := H.new hb1 (slc_sound ho) (fun g hg => (ho.lt g hg).1)
  clear hb1 ho
  clear HS
  have HS := H
  refine hK.out _ _ (H.sub (by repeat (first | exact List.Sublist.refl _ | exact List.nil_sublist _ | (with_reducible apply List.Sublist.cons_cons) | apply List.Sublist.cons))) ?_
  clear hK K
  simp only [Act.put, List.setIfInBounds_toArray, List.set_cons_zero, List.set_cons_succ]
  refine rg_one (i := 5) (by kernel_rfl) rfl rfl (fun K hK => ?_)
  refine wp_callf rfl ent42 (rpput_as r2 ti tc hti htc H2.out _) rfl (fun v w1 hr => ?_)
  obtain ⟨⟨ar2, cr2, rfl⟩, ho, hb1⟩ := hr
  replace H := H.new hb1 (slc_sound ho) (fun g hg => (ho.lt g hg).1)
  clear hb1 ho
  clear HS
  have HS := H
  refine hK.out _ _ (H.sub (by repeat (first | exact List.Sublist.refl _ | exact List.nil_sublist _ | (with_reducible apply List.Sublist.cons_cons) | apply List.Sublist.cons))) ?_
  clear hK K
  simp only [Act.put, List.setIfInBounds_toArray, List.set_cons_zero, List.set_cons_succ]
  refine rg_one (i := 6) (by kernel_rfl) rfl rfl (fun K hK => ?_)
  refine Stp.wp (Stp.apps 11 rfl rfl Try.underlying26 info5 rfl (by decide) rfl rfl H (fun _ => Upd.tail Upd.head) (by rw [bv_len, Nat.mul_one]) (own_src (H.getSlc (xs := bv r2) (by repeat (first | exact List.mem_cons_self | apply List.mem_cons_of_mem)))) (bv_one r2) (by unfold maxLen; omega) (by omega) ?_)
  clear H
  intro ar3 cr3 w1 H
  rw [bv_app, H3.out, M3.out] at H
  rw [M3.out]
  clear HS
  have HS := H
  refine hK.out _ _ (H.sub (by repeat (first | exact List.Sublist.refl _ | exact List.nil_sublist _ | (with_reducible apply List.Sublist.cons_cons) | apply List.Sublist.cons))) ?_
  clear hK K
  simp only [Act.put, List.setIfInBounds_toArray, List.set_cons_zero, List.set_cons_succ]
  refine rg_take (i := 7) rfl (by kernel_rfl) (by kernel_rfl) (by kernel_rfl) (Yld.assign rfl rfl) (H.sub (by repeat (first | exact List.Sublist.refl _ | exact List.nil_sublist _ | (with_reducible apply List.Sublist.cons_cons) | apply List.Sublist.cons))) ?_; simp only [Act.put, eval_tmp, eval_const, getD_lit0, getD_lits, if_true, if_false, List.setIfInBounds_toArray, List.set_cons_zero, List.set_cons_succ]
  refine rg_done (by kernel_rfl) ?_
  go_wp2_with (first | (go_at_call 56; (with_reducible refine (rshort_as r4 s hs0 H4.out _).mono ?_); rintro e w1 ⟨v, rfl, hr⟩; obtain ⟨⟨ar4, cr4, rfl⟩, ho, hb1⟩ := hr; replace H := H.new hb1 (slc_sound ho) (fun g hg => (ho.lt g hg).1); clear hb1 ho) | (with_reducible refine wpl rfl (Stp.apps 16 rfl rfl Try.underlying26 info5 rfl (by decide) rfl rfl H (fun _ => (by repeat (first | exact Upd.head | apply Upd.tail))) (by rw [bv_len, Nat.mul_one]) (own_src (H.getSlc (xs := bv r4) (by repeat (first | exact List.mem_cons_self | apply List.mem_cons_of_mem)))) (bv_one r4) (by unfold maxLen; omega) (by omega) ?_); clear H; intro ar5 cr5 w1 H; simp only [Act.put, List.setIfInBounds_toArray, List.set_cons_zero, List.set_cons_succ]; rw [bv_app, H5.out, M5.out] at H; rw [M5.out]) | (with_reducible refine wpl rfl (Stp.apps 20 rfl rfl Try.underlying26 info5 rfl (by decide) rfl rfl H (fun _ => (by repeat (first | exact Upd.head | apply Upd.tail))) (by rw [bv_len, Nat.mul_one]) (hs.grow H.below).src (bv_one b) (by unfold maxLen; omega) (by omega) ?_); clear H; intro ar6 cr6 w1 H; simp only [Act.put, List.setIfInBounds_toArray, List.set_cons_zero, List.set_cons_succ]; rw [bv_app, H6.out, M6.out] at H; rw [M6.out]) | (with_reducible refine wpl rfl (Stp.bsl (e := 5) (cs := #[.int .u8 86, .int .u8 83, .int .u8 1, .int .u8 (k : Int)]) 24 rfl rfl (fun W => by kernel_rfl) H ?_); clear H; intro g24 w1 H; simp only [Act.put, List.setIfInBounds_toArray, List.set_cons_zero, List.set_cons_succ]; replace H := shut_head H G1.out) | (go_at_call 57; (with_reducible refine (form4_as p2 z hz64 G2.out _).mono ?_); rintro e w1 ⟨v, rfl, hr⟩; obtain ⟨⟨ap2, cp2, rfl⟩, ho, hb1⟩ := hr; replace H := H.new hb1 (slc_sound ho) (fun g hg => (ho.lt g hg).1); clear hb1 ho) | (with_reducible refine wpl rfl (Stp.apps 31 rfl rfl Try.underlying26 info5 rfl (by decide) rfl rfl H (fun _ => (by repeat (first | exact Upd.head | apply Upd.tail))) (by rw [bv_len, Nat.mul_one]) (own_src (H.getSlc (xs := bv p2) (by repeat (first | exact List.mem_cons_self | apply List.mem_cons_of_mem)))) (bv_one p2) (by unfold maxLen; omega) (by omega) ?_); clear H; intro a31 c31 w1 H; simp only [Act.put, List.setIfInBounds_toArray, List.set_cons_zero, List.set_cons_succ]; rw [bv_app, G3.out, N3.out] at H; rw [N3.out]) | (with_reducible refine wpl rfl (Stp.apps 34 rfl rfl Try.underlying26 info5 rfl (by decide) rfl rfl H (fun _ => (by repeat (first | exact Upd.head | apply Upd.tail))) (by rw [bv_len, Nat.mul_one]) (own_src (H.getSlc (xs := bv r6) (by repeat (first | exact List.mem_cons_self | apply List.mem_cons_of_mem)))) (bv_one r6) (by unfold maxLen; omega) (by omega) ?_); clear H; intro a34 c34 w1 H; simp only [Act.put, List.setIfInBounds_toArray, List.set_cons_zero, List.set_cons_succ]; rw [bv_app, G4.out, N4.out] at H; rw [N4.out]) | (go_at_call 58; (with_reducible refine (rseal_as _ p4 f (by omega) HB.out HF.out _ (own_sla (H.getSlc (xs := bv p4) (by repeat (first | exact List.mem_cons_self | apply List.mem_cons_of_mem))) (by omega))).mono ?_); rintro e w1 ⟨v, rfl, hr⟩; obtain ⟨⟨af, cf, rfl⟩, ho, hb1⟩ := hr; replace H := H.new hb1 (slc_sound ho) (fun g hg => (ho.lt g hg).1); clear hb1 ho) | (with_reducible refine wpl rfl (Stp.box 1 rfl rfl rfl H ?_); clear H; intro g1 w1 H; simp only [Act.put, List.setIfInBounds_toArray, List.set_cons_zero, List.set_cons_succ]; simp only [eval_tmp, eval_const, getD_lit0, getD_lits, cells_agg, cells_int, cells_bool, cells_string, cells_pointer, cells_slice, cells_map, List.setIfInBounds_toArray, List.set_cons_zero, List.set_cons_succ] at H) | (with_reducible refine wpl rfl (Stp.ldc rfl agg30 rfl H (by repeat (first | exact List.mem_cons_self | apply List.mem_cons_of_mem)) (by first | (repeat (first | exact lit0 _ _ | apply lits)) | rfl | assumption) ?_); simp only [Act.put, List.setIfInBounds_toArray, List.set_cons_zero, List.set_cons_succ]) | (with_reducible refine wpl rfl (Stp.ldo rfl agg30 rfl H (by assumption) (by assumption) ?_); simp only [Act.put, List.setIfInBounds_toArray, List.set_cons_zero, List.set_cons_succ]) | (with_reducible refine wpl rfl (Stp.ldc rfl agg26 rfl H (by repeat (first | exact List.mem_cons_self | apply List.mem_cons_of_mem)) (by first | (repeat (first | exact lit0 _ _ | apply lits)) | rfl | assumption) ?_); simp only [Act.put, List.setIfInBounds_toArray, List.set_cons_zero, List.set_cons_succ]) | (with_reducible refine wpl rfl (Stp.ldo rfl agg26 rfl H (by assumption) (by assumption) ?_); simp only [Act.put, List.setIfInBounds_toArray, List.set_cons_zero, List.set_cons_succ]) | (with_reducible refine wpl rfl (Stp.ldc rfl agg3 rfl H (by repeat (first | exact List.mem_cons_self | apply List.mem_cons_of_mem)) (by first | (repeat (first | exact lit0 _ _ | apply lits)) | rfl | assumption) ?_); simp only [Act.put, List.setIfInBounds_toArray, List.set_cons_zero, List.set_cons_succ]) | (with_reducible refine wpl rfl (Stp.ldo rfl agg3 rfl H (by assumption) (by assumption) ?_); simp only [Act.put, List.setIfInBounds_toArray, List.set_cons_zero, List.set_cons_succ]))
  go_ret
  exact ⟨_, rfl, ⟨_, _, rfl⟩, H.getSlc (by repeat (first | exact List.mem_cons_self | apply List.mem_cons_of_mem)), H.below⟩
end Go.Proofs.Ytcjbippgjhgoiaa
