/- Contracts of layer 7's Writer (body) and of its references; the bounds stand in each. -/
import Derived.Test.YtcjbippgjhgoiaaAs
import Derived.Test.YtcjbippgjhgoiaaHeld
import Derived.Test.YtcjbippgjhgoiaaClone
import Derived.Test.YtcjbippgjhgoiaaPids
namespace Go.Proofs.Ytcjbippgjhgoiaa
open Go.ChangeShapes Go.WideShapes Go.ChangeAt Go.RowKit
set_option linter.unusedVariables false
set_option linter.unusedSimpArgs false
/-- The Writer in block g holds the bytes l. -/
def WSt (B : Nat) (w0 w : World) (g : Nat) (l : List Nat) (L : List Res) : Prop := ∃ a c, St B w0 w (row 28 g #[.slice a l.length c] :: slc 5 1 (.slice a l.length c) l.length (bv l) :: L)
theorem WSt.mk {B : Nat} {w0 w : World} {g : Nat} {l : List Nat} {L : List Res} {a : Option Addr} {c : Nat} (H : St B w0 w (row 28 g #[.slice a l.length c] :: slc 5 1 (.slice a l.length c) l.length (bv l) :: L)) : WSt B w0 w g l L := ⟨a, c, H⟩
theorem St.two {B : Nat} {w0 w : World} {L L1 L2 : List Res} {r s : Res} (H : St B w0 w L) (h1 : Pull L r L1) (h2 : Pull L1 s L2) : St B w0 w (r :: s :: L2) := H.perm (h1.trans (h2.cons r))
theorem WSt.of {B : Nat} {w0 w : World} {g : Nat} {l : List Nat} {L L0 L1 L2 : List Res} {a : Option Addr} {c : Nat} (H : St B w0 w L0) (h1 : Pull L0 (row 28 g #[.slice a l.length c]) L1) (h2 : Pull L1 (slc 5 1 (.slice a l.length c) l.length (bv l)) L2) (h3 : L.Sublist L2) : WSt B w0 w g l L :=
  ⟨a, c, (H.two h1 h2).sub (.cons_cons _ (.cons_cons _ h3))⟩
set_option maxRecDepth 100000 in
theorem wnum_ok {B : Nat} {w0 : World} {L : List Res} (g : Nat) (l m : List Nat) (n : Nat) (hl : l.length ≤ 700000) (hn : n < 18446744073709551616) (hm : l ++ shortB n = m) (w : World) (H : WSt B w0 w g l L) :
    Calls Try.prog 37 #[.pointer (some ⟨g, 0, none⟩), .int .u64 (n : Int)] w (Ret fun v w' => v = .tuple #[] ∧ WSt B w0 w' g m L) := by
  obtain ⟨a, c, H⟩ := H
  have HM := Lib.hid hm
  clear hm
  go_enter Try.func37, Try.ntmps37
  go_wp2_with (first | (go_at_call 50; (with_reducible refine (putshort_as _ l m n hn (by omega) HM.out _ (own_sla (H.getSlc (xs := bv l) (by repeat (first | exact List.mem_cons_self | apply List.mem_cons_of_mem))) (by omega))).mono ?_); rintro e w1 ⟨v, rfl, hr⟩; obtain ⟨⟨am, cm, rfl⟩, ho, hb1⟩ := hr; replace H := H.new hb1 (slc_sound ho) (fun g hg => (ho.lt g hg).1); clear hb1 ho) | (with_reducible refine wpl rfl (Stp.ldc rfl agg26 rfl H (by repeat (first | exact List.mem_cons_self | apply List.mem_cons_of_mem)) (by first | (repeat (first | exact lit0 _ _ | apply lits)) | rfl | assumption) ?_); simp only [Act.put, List.setIfInBounds_toArray, List.set_cons_zero, List.set_cons_succ]) | (with_reducible refine wpl rfl (Stp.ldo rfl agg26 rfl H (by assumption) (by assumption) ?_); simp only [Act.put, List.setIfInBounds_toArray, List.set_cons_zero, List.set_cons_succ]) | (with_reducible refine wpl rfl (Stp.stc rfl size26 rfl rfl rfl rfl H (by repeat (first | exact Upd.head | apply Upd.tail)) (by first | omega | (simp; done) | (simp; omega)) ?_); clear H; intro w1 H; simp only [Act.put, List.setIfInBounds_toArray, List.set_cons_zero, List.set_cons_succ]; simp only [eval_tmp, eval_const, getD_lit0, getD_lits, cells_agg, cells_int, cells_bool, cells_string, cells_pointer, cells_slice, cells_map, List.setIfInBounds_toArray, List.set_cons_zero, List.set_cons_succ] at H))
  go_end0
  exact ⟨_, rfl, rfl, WSt.of H (by repeat (first | (with_reducible exact Pull.head) | apply Pull.tail)) (by repeat (first | (with_reducible exact Pull.head) | apply Pull.tail)) (by repeat (first | exact List.Sublist.refl _ | exact List.nil_sublist _ | (with_reducible apply List.Sublist.cons_cons) | apply List.Sublist.cons))⟩
set_option maxRecDepth 100000 in
theorem wtruth_ok {B : Nat} {w0 : World} {L : List Res} (g : Nat) (l m : List Nat) (b : Bool) (hl : l.length ≤ 700000) (hm : l ++ [b.toNat] = m) (w : World) (H : WSt B w0 w g l L) :
    Calls Try.prog 38 #[.pointer (some ⟨g, 0, none⟩), .bool b] w (Ret fun v w' => v = .tuple #[] ∧ WSt B w0 w' g m L) := by
  obtain ⟨a, c, H⟩ := H
  have HM : Hid (l ++ shortB b.toNat = m) := Lib.hid (by rw [← hm]; cases b <;> rfl)
  clear hm
  cases b
  · go_enter Try.func38, Try.ntmps38
    go_wp2_with fail
    refine (wnum_ok g l m 0 hl (by omega) HM.out _ (WSt.mk H)).mono ?_
    rintro e w1 ⟨v, rfl, rfl, a1, c1, H1⟩
    go_wp2_with fail
    go_end0
    exact ⟨_, rfl, rfl, _, _, H1⟩
  · go_enter Try.func38, Try.ntmps38
    go_wp2_with fail
    refine (wnum_ok g l m 1 hl (by omega) HM.out _ (WSt.mk H)).mono ?_
    rintro e w1 ⟨v, rfl, rfl, a1, c1, H1⟩
    go_wp2_with fail
    go_end0
    exact ⟨_, rfl, rfl, _, _, H1⟩
set_option maxRecDepth 100000 in
theorem wpid_ok {B : Nat} {w0 : World} {L : List Res} (g : Nat) (l m : List Nat) (i c : Nat) (hl : l.length ≤ 700000) (hi : i < 65536) (hc : c < 4294967296) (hm : l ++ pidB i c = m) (w : World) (H : WSt B w0 w g l L) :
    Calls Try.prog 41 #[.pointer (some ⟨g, 0, none⟩), .agg #[.int .u16 (i : Int), .int .u32 (c : Int)]] w (Ret fun v w' => v = .tuple #[] ∧ WSt B w0 w' g m L) := by
  obtain ⟨a, cc, H⟩ := H
  have HM := Lib.hid hm
  clear hm
  go_enter Try.func41, Try.ntmps41
  go_wp2_with (first | (with_reducible refine wpl rfl (Stp.box 3 rfl rfl rfl H ?_); clear H; intro g3 w1 H; simp only [Act.put, List.setIfInBounds_toArray, List.set_cons_zero, List.set_cons_succ]; simp only [eval_tmp, eval_const, getD_lit0, getD_lits, cells_agg, cells_int, cells_bool, cells_string, cells_pointer, cells_slice, cells_map, List.setIfInBounds_toArray, List.set_cons_zero, List.set_cons_succ] at H))
  refine rk_begin 9 10 (fun W => St B w0 W [row 34 g3 #[.int .u16 (i : Int), .int .u32 (c : Int)], row 28 g #[.slice a l.length cc], slc 5 1 (.slice a l.length cc) l.length (bv l)]) rfl (by kernel_rfl) ?_
  replace H := H.drew
  have HS := H
  refine rk_free (i := 0) rfl (by kernel_rfl) (by kernel_rfl) (by kernel_rfl) (by kernel_rfl) (Yld.move rfl rfl) (fun _ => (H.sub (by repeat (first | exact List.Sublist.refl _ | exact List.nil_sublist _ | (with_reducible apply List.Sublist.cons_cons) | apply List.Sublist.cons)))) ?_; simp only [Act.put, eval_tmp, eval_const, getD_lit0, getD_lits, if_true, if_false, List.setIfInBounds_toArray, List.set_cons_zero, List.set_cons_succ]
  refine rk_free (i := 1) rfl (by kernel_rfl) (by kernel_rfl) (by kernel_rfl) (by kernel_rfl) (Yld.move rfl rfl) (fun _ => (H.sub (by repeat (first | exact List.Sublist.refl _ | exact List.nil_sublist _ | (with_reducible apply List.Sublist.cons_cons) | apply List.Sublist.cons)))) ?_; simp only [Act.put, eval_tmp, eval_const, getD_lit0, getD_lits, if_true, if_false, List.setIfInBounds_toArray, List.set_cons_zero, List.set_cons_succ]
  refine rk_free (i := 2) rfl (by kernel_rfl) (by kernel_rfl) (by kernel_rfl) (by kernel_rfl) (Yld.of rfl (fun W _ => by go_simp; first | done | with_reducible rfl)) (fun _ => (H.sub (by repeat (first | exact List.Sublist.refl _ | exact List.nil_sublist _ | (with_reducible apply List.Sublist.cons_cons) | apply List.Sublist.cons)))) ?_; simp only [Act.put, List.setIfInBounds_toArray, List.set_cons_zero, List.set_cons_succ]
  refine rk_free (i := 3) rfl (by kernel_rfl) (by kernel_rfl) (by kernel_rfl) (by kernel_rfl) (Yld.of rfl (fun W _ => by go_simp; first | done | with_reducible rfl)) (fun _ => (H.sub (by repeat (first | exact List.Sublist.refl _ | exact List.nil_sublist _ | (with_reducible apply List.Sublist.cons_cons) | apply List.Sublist.cons)))) ?_; simp only [Act.put, List.setIfInBounds_toArray, List.set_cons_zero, List.set_cons_succ]
  first | (refine rk_take (i := 4) rfl (by kernel_rfl) (by kernel_rfl) (by kernel_rfl) (by kernel_rfl) (by kernel_rfl) (by kernel_rfl) (Yld.ldc rfl rfl agg26 rfl (by repeat (first | exact List.mem_cons_self | apply List.mem_cons_of_mem)) (by first | (repeat (first | exact lit0 _ _ | apply lits)) | rfl | assumption)) (H.sub (by repeat (first | exact List.Sublist.refl _ | exact List.nil_sublist _ | (with_reducible apply List.Sublist.cons_cons) | apply List.Sublist.cons))) ?_; simp only [Act.put, List.setIfInBounds_toArray, List.set_cons_zero, List.set_cons_succ]) | (refine rk_take (i := 4) rfl (by kernel_rfl) (by kernel_rfl) (by kernel_rfl) (by kernel_rfl) (by kernel_rfl) (by kernel_rfl) (Yld.ldo rfl rfl agg26 rfl (by assumption) (by assumption)) (H.sub (by repeat (first | exact List.Sublist.refl _ | exact List.nil_sublist _ | (with_reducible apply List.Sublist.cons_cons) | apply List.Sublist.cons))) ?_; simp only [Act.put, List.setIfInBounds_toArray, List.set_cons_zero, List.set_cons_succ])
  first | (refine rk_take (i := 5) rfl (by kernel_rfl) (by kernel_rfl) (by kernel_rfl) (by kernel_rfl) (by kernel_rfl) (by kernel_rfl) (Yld.ldr rfl rfl agg34 size34 rfl (by repeat (first | exact List.mem_cons_self | apply List.mem_cons_of_mem)) (by first | rfl | (simp; done) | assumption)) (H.sub (by repeat (first | exact List.Sublist.refl _ | exact List.nil_sublist _ | (with_reducible apply List.Sublist.cons_cons) | apply List.Sublist.cons))) ?_; simp only [Act.put, List.setIfInBounds_toArray, List.set_cons_zero, List.set_cons_succ]) | (refine rk_take (i := 5) rfl (by kernel_rfl) (by kernel_rfl) (by kernel_rfl) (by kernel_rfl) (by kernel_rfl) (by kernel_rfl) (Yld.ldl rfl rfl agg34 size34 rfl (by repeat (first | exact List.mem_cons_self | apply List.mem_cons_of_mem)) (by simp)) (H.sub (by repeat (first | exact List.Sublist.refl _ | exact List.nil_sublist _ | (with_reducible apply List.Sublist.cons_cons) | apply List.Sublist.cons))) ?_; simp only [Act.put, List.setIfInBounds_toArray, List.set_cons_zero, List.set_cons_succ]; simp only [List.drop_succ_cons, List.drop_zero, List.take_succ_cons, List.take_zero]) | (refine rk_take (i := 5) rfl (by kernel_rfl) (by kernel_rfl) (by kernel_rfl) (by kernel_rfl) (by kernel_rfl) (by kernel_rfl) (Yld.ldor rfl rfl agg34 size34 rfl (by assumption) (by first | rfl | (simp; done) | assumption) (by assumption)) (H.sub (by repeat (first | exact List.Sublist.refl _ | exact List.nil_sublist _ | (with_reducible apply List.Sublist.cons_cons) | apply List.Sublist.cons))) ?_; simp only [Act.put, List.setIfInBounds_toArray, List.set_cons_zero, List.set_cons_succ])
  refine rk_one (i := 6) (by kernel_rfl) rfl rfl (fun K hK => ?_)
  refine wp_callf rfl ent51 (pput_as _ l m (by omega) i c hi hc HM.out _ (own_sla (H.getSlc (xs := bv l) (by repeat (first | exact List.mem_cons_self | apply List.mem_cons_of_mem))) (by omega))) rfl (fun v w1 hr => ?_)
  obtain ⟨⟨am, cm, rfl⟩, ho, hb1⟩ := hr
  replace H := H.new hb1 (slc_sound ho) (fun g hg => (ho.lt g hg).1)
  clear hb1 ho
  clear HS
  have HS := H
  refine hK.out _ _ (fun _ => (H.sub (by repeat (first | exact List.Sublist.refl _ | exact List.nil_sublist _ | (with_reducible apply List.Sublist.cons_cons) | apply List.Sublist.cons)))) ?_
  clear hK K
  simp only [Act.put, List.setIfInBounds_toArray, List.set_cons_zero, List.set_cons_succ]
  refine rk_free (i := 7) rfl (by kernel_rfl) (by kernel_rfl) (by kernel_rfl) (by kernel_rfl) (Yld.of rfl (fun W _ => by go_simp; first | done | with_reducible rfl)) (fun _ => (H.sub (by repeat (first | exact List.Sublist.refl _ | exact List.nil_sublist _ | (with_reducible apply List.Sublist.cons_cons) | apply List.Sublist.cons)))) ?_; simp only [Act.put, List.setIfInBounds_toArray, List.set_cons_zero, List.set_cons_succ]
  refine rk_free (i := 8) rfl (by kernel_rfl) (by kernel_rfl) (by kernel_rfl) (by kernel_rfl) (Yld.of rfl (fun W _ => by go_simp; first | done | with_reducible rfl)) (fun _ => (H.sub (by repeat (first | exact List.Sublist.refl _ | exact List.nil_sublist _ | (with_reducible apply List.Sublist.cons_cons) | apply List.Sublist.cons)))) ?_; simp only [Act.put, List.setIfInBounds_toArray, List.set_cons_zero, List.set_cons_succ]
  refine rk_one (i := 9) (by kernel_rfl) rfl rfl (fun K hK => ?_)
  refine Stp.wp (Stp.stc rfl size26 rfl rfl rfl rfl H (by repeat (first | exact Upd.head | apply Upd.tail)) (by simp) ?_)
  clear H
  intro w1 H
  simp only [eval_tmp, eval_const, getD_lit0, getD_lits, cells_agg, cells_int, cells_bool, cells_string, cells_pointer, cells_slice, cells_map, List.setIfInBounds_toArray, List.set_cons_zero, List.set_cons_succ] at H
  clear HS
  have HS := H
  refine hK.out _ _ (fun h => by cases (show true = false from h)) ?_
  clear hK K
  simp only [Act.put, List.setIfInBounds_toArray, List.set_cons_zero, List.set_cons_succ]
  refine rk_done (by kernel_rfl) ?_
  go_end0
  exact ⟨_, rfl, rfl, WSt.of H (by repeat (first | (with_reducible exact Pull.head) | apply Pull.tail)) (by repeat (first | (with_reducible exact Pull.head) | apply Pull.tail)) (by repeat (first | exact List.Sublist.refl _ | exact List.nil_sublist _ | (with_reducible apply List.Sublist.cons_cons) | apply List.Sublist.cons))⟩
set_option maxRecDepth 100000 in
theorem wballot_ok {B : Nat} {w0 : World} {L : List Res} (g : Nat) (l m : List Nat) (r i c : Nat) (hl : l.length ≤ 600000) (hr : r < 4294967296) (hi : i < 65536) (hc : c < 4294967296) (hm : l ++ (shortB r ++ pidB i c) = m) (w : World) (H : WSt B w0 w g l L) :
    Calls Try.prog 43 #[.pointer (some ⟨g, 0, none⟩), .agg #[.int .u32 (r : Int), .int .u16 (i : Int), .int .u32 (c : Int)]] w (Ret fun v w' => v = .tuple #[] ∧ WSt B w0 w' g m L) := by
  obtain ⟨a, cc, H⟩ := H
  have HM := Lib.hid hm
  clear hm
  have w1r : IntKind.u64.wrap (r : Int) = (r : Int) := wrap_u64_in _ (by omega) (by omega)
  obtain ⟨q, hq⟩ : ∃ q, l ++ shortB r = q := ⟨_, rfl⟩
  have ql : q.length ≤ 600010 := by rw [← hq, List.length_append]; have := shortB_len r; omega
  have HQ := Lib.hid hq
  have HM2 : Hid (q ++ pidB i c = m) := Lib.hid (by rw [← hq, ← HM.out, List.append_assoc])
  clear hq
  go_enter Try.func43, Try.ntmps43
  go_wp2_with (first | (go_at_call 37; (with_reducible refine (wnum_ok g l q r (by omega) (by omega) HQ.out _ (WSt.of H (by repeat (first | (with_reducible exact Pull.head) | apply Pull.tail)) (by repeat (first | (with_reducible exact Pull.head) | apply Pull.tail)) (List.Sublist.refl _))).mono ?_); rintro e w1 ⟨v, rfl, hr⟩; obtain ⟨rfl, a1, c1, H1⟩ := hr; clear H; have H := H1; clear H1) | (go_at_call 41; (with_reducible refine (wpid_ok g q m i c (by omega) hi hc HM2.out _ (WSt.of H (by repeat (first | (with_reducible exact Pull.head) | apply Pull.tail)) (by repeat (first | (with_reducible exact Pull.head) | apply Pull.tail)) (List.Sublist.refl _))).mono ?_); rintro e w1 ⟨v, rfl, hr⟩; obtain ⟨rfl, a1, c1, H1⟩ := hr; clear H; have H := H1; clear H1) | (with_reducible refine wpl rfl (Stp.box 3 rfl rfl rfl H ?_); clear H; intro g3 w1 H; simp only [Act.put, List.setIfInBounds_toArray, List.set_cons_zero, List.set_cons_succ]; simp only [eval_tmp, eval_const, getD_lit0, getD_lits, cells_agg, cells_int, cells_bool, cells_string, cells_pointer, cells_slice, cells_map, List.setIfInBounds_toArray, List.set_cons_zero, List.set_cons_succ] at H) | (with_reducible refine wpl rfl (Stp.ldc rfl agg31 rfl H (by repeat (first | exact List.mem_cons_self | apply List.mem_cons_of_mem)) (by first | (repeat (first | exact lit0 _ _ | apply lits)) | rfl | assumption) ?_); simp only [Act.put, List.setIfInBounds_toArray, List.set_cons_zero, List.set_cons_succ]) | (with_reducible refine wpl rfl (Stp.ldo rfl agg31 rfl H (by assumption) (by assumption) ?_); simp only [Act.put, List.setIfInBounds_toArray, List.set_cons_zero, List.set_cons_succ]) | (with_reducible refine wpl rfl (Stp.ldr rfl agg34 size34 rfl H (by repeat (first | exact List.mem_cons_self | apply List.mem_cons_of_mem)) (by first | rfl | (simp; done) | assumption) ?_); simp only [Act.put, List.setIfInBounds_toArray, List.set_cons_zero, List.set_cons_succ]) | (with_reducible refine wpl rfl (Stp.ldl rfl agg34 size34 rfl H (by repeat (first | exact List.mem_cons_self | apply List.mem_cons_of_mem)) (by simp) ?_); simp only [Act.put, List.setIfInBounds_toArray, List.set_cons_zero, List.set_cons_succ]; simp only [List.drop_succ_cons, List.drop_zero, List.take_succ_cons, List.take_zero]) | (with_reducible refine wpl rfl (Stp.ldor rfl agg34 size34 rfl H (by assumption) (by first | rfl | (simp; done) | assumption) (by assumption) ?_); simp only [Act.put, List.setIfInBounds_toArray, List.set_cons_zero, List.set_cons_succ]))
  go_end0
  exact ⟨_, rfl, rfl, WSt.of H (by repeat (first | (with_reducible exact Pull.head) | apply Pull.tail)) (by repeat (first | (with_reducible exact Pull.head) | apply Pull.tail)) (by repeat (first | exact List.Sublist.refl _ | exact List.nil_sublist _ | (with_reducible apply List.Sublist.cons_cons) | apply List.Sublist.cons))⟩
set_option maxRecDepth 100000 in
theorem wbytes_ok {B : Nat} {w0 : World} {L : List Res} (g : Nat) (l m b : List Nat) (v : Value) (hb : b.length ≤ 10000) (hl : l.length ≤ 700000) (hm : l ++ (shortB b.length ++ b) = m) (w : World) (H : WSt B w0 w g l L) (hs : Rd B w0 L fun W => Sl W 1 b.length v (elB b)) :
    Calls Try.prog 45 #[.pointer (some ⟨g, 0, none⟩), v] w (Ret fun v w' => v = .tuple #[] ∧ WSt B w0 w' g m L) := by
  obtain ⟨a, cc, H⟩ := H
  obtain ⟨ab, cb, rfl, hm9⟩ := (hs.at H (.cons _ (.cons _ (.refl _)))).len
  have w1r : IntKind.u64.wrap (b.length : Int) = (b.length : Int) := wrap_u64_in _ (by omega) (by omega)
  obtain ⟨q, hq⟩ : ∃ q, l ++ shortB b.length = q := ⟨_, rfl⟩
  have ql : q.length ≤ 700010 := by rw [← hq, List.length_append]; have := shortB_len b.length; omega
  have HQ := Lib.hid hq
  have HM2 : Hid (q ++ b = m) := Lib.hid (by rw [← hq, ← hm, List.append_assoc])
  have HML : Hid (q.length + b.length = m.length) := Lib.hid (by rw [← HM2.out, List.length_append])
  clear hq hm
  go_enter Try.func45, Try.ntmps45
  go_wp2_with (first | (go_at_call 37; (with_reducible refine (wnum_ok g l q b.length hl (by omega) HQ.out _ (WSt.of H (by repeat (first | (with_reducible exact Pull.head) | apply Pull.tail)) (by repeat (first | (with_reducible exact Pull.head) | apply Pull.tail)) (List.Sublist.refl _))).mono ?_); rintro e w1 ⟨v, rfl, hr⟩; obtain ⟨rfl, a1, c1, H1⟩ := hr; clear H; have H := H1; clear H1) | (with_reducible refine wpl rfl (Stp.apps 17 rfl rfl Try.underlying26 info5 rfl (by decide) rfl rfl H (fun _ => (by repeat (first | exact Upd.head | apply Upd.tail))) (by rw [bv_len, Nat.mul_one]) (hs.at H (by repeat (first | exact List.Sublist.refl _ | exact List.nil_sublist _ | (with_reducible apply List.Sublist.cons_cons) | apply List.Sublist.cons))).src (bv_one b) (by unfold maxLen; omega) (by omega) ?_); clear H; intro a17 c17 w1 H; simp only [Act.put, List.setIfInBounds_toArray, List.set_cons_zero, List.set_cons_succ]; rw [bv_app, HM2.out, HML.out] at H; rw [HML.out]) | (with_reducible refine wpl rfl (Stp.ldc rfl agg26 rfl H (by repeat (first | exact List.mem_cons_self | apply List.mem_cons_of_mem)) (by first | (repeat (first | exact lit0 _ _ | apply lits)) | rfl | assumption) ?_); simp only [Act.put, List.setIfInBounds_toArray, List.set_cons_zero, List.set_cons_succ]) | (with_reducible refine wpl rfl (Stp.ldo rfl agg26 rfl H (by assumption) (by assumption) ?_); simp only [Act.put, List.setIfInBounds_toArray, List.set_cons_zero, List.set_cons_succ]) | (with_reducible refine wpl rfl (Stp.stc rfl size26 rfl rfl rfl rfl H (by repeat (first | exact Upd.head | apply Upd.tail)) (by first | omega | (simp; done) | (simp; omega)) ?_); clear H; intro w1 H; simp only [Act.put, List.setIfInBounds_toArray, List.set_cons_zero, List.set_cons_succ]; simp only [eval_tmp, eval_const, getD_lit0, getD_lits, cells_agg, cells_int, cells_bool, cells_string, cells_pointer, cells_slice, cells_map, List.setIfInBounds_toArray, List.set_cons_zero, List.set_cons_succ] at H))
  go_end0
  exact ⟨_, rfl, rfl, WSt.of H (by repeat (first | (with_reducible exact Pull.head) | apply Pull.tail)) (by repeat (first | (with_reducible exact Pull.head) | apply Pull.tail)) (by repeat (first | exact List.Sublist.refl _ | exact List.nil_sublist _ | (with_reducible apply List.Sublist.cons_cons) | apply List.Sublist.cons))⟩
set_option maxRecDepth 100000 in
theorem wdone_ok {B : Nat} {w0 : World} {L : List Res} (g : Nat) (l : List Nat) (hl : l.length ≤ 100000) (w : World) (H : WSt B w0 w g l L) :
    Calls Try.prog 13 #[.pointer (some ⟨g, 0, none⟩)] w (Ret fun v w' => (∃ ap cp, v = .slice ap l.length cp) ∧ w'.ownsRow w.heap.size 5 1 v l.length (bv l) ∧ Below w.heap.size w w') := by
  obtain ⟨a, c, H0⟩ := H
  have hrow := H0.getRow (t := 28) List.mem_cons_self
  have hown := H0.getSlc (List.mem_cons_of_mem _ List.mem_cons_self)
  have hc0 : w.cell? ⟨g, 0, none⟩ = some (.slice a l.length c) := by rw [cell_of_rowAt hrow]; rfl
  have hg : g < w.heap.size := rowAt_lt hrow
  have hs := own_sla hown (by omega)
  clear H0 hrow hown
  have H := St.init w
  go_enter Try.func13, Try.ntmps13
  go_wp2_with (first | (go_at_call 49; (with_reducible refine (clone_any _ l l.length rfl hl _ (hs.grow H.below)).mono ?_); rintro e w1 ⟨v, rfl, hr⟩; obtain ⟨⟨am, cm, rfl⟩, ho, hb1⟩ := hr; replace H := H.new hb1 (slc_sound ho) (fun g hg => (ho.lt g hg).1); clear hb1 ho) | (with_reducible refine wpl rfl (Stp.ldc rfl agg26 rfl H (by repeat (first | exact List.mem_cons_self | apply List.mem_cons_of_mem)) (by first | (repeat (first | exact lit0 _ _ | apply lits)) | rfl | assumption) ?_); simp only [Act.put, List.setIfInBounds_toArray, List.set_cons_zero, List.set_cons_succ]) | (with_reducible refine wpl rfl (Stp.ldo rfl agg26 rfl H (by assumption) (by assumption) ?_); simp only [Act.put, List.setIfInBounds_toArray, List.set_cons_zero, List.set_cons_succ]))
  go_ret
  exact ⟨_, rfl, ⟨_, _, rfl⟩, H.getSlc (by repeat (first | exact List.mem_cons_self | apply List.mem_cons_of_mem)), H.below⟩
end Go.Proofs.Ytcjbippgjhgoiaa
