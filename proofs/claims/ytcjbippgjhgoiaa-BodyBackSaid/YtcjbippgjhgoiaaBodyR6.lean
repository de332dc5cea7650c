/- More contracts of layer 7's Reader (body), and of the reference's Same of processes; the bounds stand in each. -/
import Derived.Test.YtcjbippgjhgoiaaBodyR5
import Derived.Test.YtcjbippgjhgoiaaCrc6
import Derived.Laws.StructEq
namespace Go.Proofs.Ytcjbippgjhgoiaa
open Go.ChangeShapes Go.WideShapes Go.ChangeAt Go.RowKit Go.Deep
set_option linter.unusedVariables false
set_option linter.unusedSimpArgs false
theorem eqPD (a b c d : Int) (w : World) : (Op.equalIn 10000 34 (.agg #[.int .u16 a, .int .u32 b]) (.agg #[.int .u16 c, .int .u32 d])).run Try.prog w = .ok (a == c && b == d) w := by
  have u1 := Try.underlying32
  have u2 := Try.underlying31
  have hS : Try.prog.underlying 34 = some (.struct (Try.prog.fieldsOf 34)) := by kernel_rfl
  rw [show (10000 : Nat) = 9999 + 1 from rfl, run_equalIn_struct w 9999 34 _ _ hS (by kernel_rfl)]
  simp only [Program.fieldsOf, Try.underlying34]
  go_simp
  by_cases h1 : a = c <;> by_cases h2 : b = d <;> simp [h1, h2]
theorem eqPD_self (a b : Int) (w : World) : (Op.equalIn 10000 34 (.agg #[.int .u16 a, .int .u32 b]) (.agg #[.int .u16 a, .int .u32 b])).run Try.prog w = .ok true w := by rw [eqPD]; simp
theorem eqBT_at (d : Nat) (q a b : Int) (w : World) : (Op.equalIn (d + 1 + 1 + 1) 36 (.agg #[.int .u32 q, .int .u16 a, .int .u32 b]) (.agg #[.int .u32 q, .int .u16 a, .int .u32 b])).run Try.prog w = .ok true w := by
  have u2 := Try.underlying31
  have hS : Try.prog.underlying 36 = some (.struct (Try.prog.fieldsOf 36)) := by kernel_rfl
  have hP : Try.prog.underlying 34 = some (.struct (Try.prog.fieldsOf 34)) := by kernel_rfl
  have u1 := Try.underlying32
  rw [run_equalIn_struct w (d + 1 + 1) 36 _ _ hS (by kernel_rfl)]
  simp only [Program.fieldsOf, Try.underlying36]
  have hp : (Op.equalIn (d + 1 + 1) 34 (.agg #[.int .u16 a, .int .u32 b]) (.agg #[.int .u16 a, .int .u32 b])).run Try.prog w = .ok true w := by
    rw [run_equalIn_struct w (d + 1) 34 _ _ hP (by kernel_rfl)]
    simp only [Program.fieldsOf, Try.underlying34]
    go_simp
  have hq : ((part 34 #[.int .u32 q, .int .u16 a, .int .u32 b] 1).run Try.prog w) = .ok (.agg #[.int .u16 a, .int .u32 b]) w := by kernel_rfl
  have hr : ((part 31 #[.int .u32 q, .int .u16 a, .int .u32 b] 0).run Try.prog w) = .ok (.int .u32 q) w := by kernel_rfl
  have hi : (Op.equalIn (d + 1 + 1) 31 (.int .u32 q) (.int .u32 q)).run Try.prog w = .ok true w := by go_simp
  simp only [Op.eqFields, Sem.run_bind, hp, hq, hr, hi, Result.andThen_ok, List.toList_toArray, Sem.run_ite]
  go_simp
theorem eqBT_self (q a b : Int) (w : World) : (Op.equalIn 10000 36 (.agg #[.int .u32 q, .int .u16 a, .int .u32 b]) (.agg #[.int .u32 q, .int .u16 a, .int .u32 b])).run Try.prog w = .ok true w := eqBT_at 9997 q a b w
theorem rread_ok {B : Nat} {w0 : World} {M : List Res} (v : Value) (l : List Nat) (hl : l.length ≤ 100000) (hx : ∀ x ∈ l, x < 256) (w : World) (hs : Sl w 1 l.length v (elB l)) (H : St B w0 w M) :
    Calls Try.prog 27 #[v] w (Ret fun v' w' => ∃ g s ap cp, v' = .pointer (some ⟨g, 0, none⟩) ∧ Byt B w0 (slc 5 1 (.slice ap l.length cp) l.length (bv l) :: M) s l ∧ St B w0 w' (row 104 g #[s, .int .i64 0] :: slc 5 1 (.slice ap l.length cp) l.length (bv l) :: M)) := by
  go_enter Try.func27, Try.ntmps27
  go_wp2_with fail
  refine (clone_any v l l.length rfl (by omega) _ hs).mono ?_
  rintro e w1 ⟨v, rfl, ⟨ap, cp, rfl⟩, ho, hb1⟩
  have kp := own_cap ho
  replace H := H.new hb1 (slc_sound ho) (fun g hg => (ho.lt g hg).1)
  clear hb1 ho hs
  go_wp2_with (first | (with_reducible refine wpl rfl (Stp.box 6 rfl rfl rfl H ?_); clear H; intro g6 w1 H; simp only [Act.put, List.setIfInBounds_toArray, List.set_cons_zero, List.set_cons_succ]; simp only [eval_tmp, eval_const, getD_lit0, getD_lits, cells_agg, cells_int, cells_bool, cells_string, cells_pointer, cells_slice, cells_map, List.setIfInBounds_toArray, List.set_cons_zero, List.set_cons_succ] at H))
  go_ret
  refine ⟨_, rfl, _, _, ap, cp, rfl, ⟨ap, l.length, cp, rfl, rfl, kp, hx, hl, fun W hb hr => ?_⟩, H⟩
  have h1 : W.ownsRow 0 5 1 (.slice ap l.length cp) l.length (bv l) := hr _ List.mem_cons_self
  exact own_sla h1 (by omega)
theorem left_ok (g : Nat) (A : Option Addr) (c : Nat) (w : World) (hc : w.heap[g]? = some (.cells #[.slice A 0 c, .int .i64 0] 104 (0, 0))) :
    Calls Try.prog 36 #[.pointer (some ⟨g, 0, none⟩)] w (Ret fun v w' => v = .int .i64 0 ∧ Below w.heap.size w w') := by
  have hc1 : w.cell? ⟨g, 0, none⟩ = some (.slice A 0 c) := by rw [cell_of_rowAt (rowAt_of hc)]; rfl
  have hg : g < w.heap.size := rowAt_lt (rowAt_of hc)
  clear hc
  have H := St.init w
  go_enter Try.func36, Try.ntmps36
  go_wp2_with (first | (with_reducible refine wpl rfl (Stp.ldc rfl agg26 rfl H (by repeat (first | exact List.mem_cons_self | apply List.mem_cons_of_mem)) (by first | (repeat (first | exact lit0 _ _ | apply lits)) | rfl | assumption) ?_); simp only [Act.put, List.setIfInBounds_toArray, List.set_cons_zero, List.set_cons_succ]) | (with_reducible refine wpl rfl (Stp.ldo rfl agg26 rfl H (by assumption) (by assumption) ?_); simp only [Act.put, List.setIfInBounds_toArray, List.set_cons_zero, List.set_cons_succ]))
  go_ret
  exact ⟨_, rfl, rfl, H.below⟩
theorem rend_ok (g : Nat) (A : Option Addr) (c : Nat) (w : World) (hc : w.heap[g]? = some (.cells #[.slice A 0 c, .int .i64 0] 104 (0, 0))) :
    Calls Try.prog 35 #[.pointer (some ⟨g, 0, none⟩)] w (Ret fun v w' => v = .int .i64 0 ∧ Below w.heap.size w w') := by
  have hc1 : w.cell? ⟨g, 0, none⟩ = some (.slice A 0 c) := by rw [cell_of_rowAt (rowAt_of hc)]; rfl
  have hg : g < w.heap.size := rowAt_lt (rowAt_of hc)
  have H := St.init w
  go_enter Try.func35, Try.ntmps35
  go_wp2_with (first | (go_at_call 76; (with_reducible refine (err_ok _ _ _ hc).mono ?_); rintro e w1 ⟨v, rfl, hr⟩; obtain ⟨rfl, hb1⟩ := hr; replace H := H.grow hb1; clear hb1) | (with_reducible refine wpl rfl (Stp.ldc rfl agg26 rfl H (by repeat (first | exact List.mem_cons_self | apply List.mem_cons_of_mem)) (by first | (repeat (first | exact lit0 _ _ | apply lits)) | rfl | assumption) ?_); simp only [Act.put, List.setIfInBounds_toArray, List.set_cons_zero, List.set_cons_succ]) | (with_reducible refine wpl rfl (Stp.ldo rfl agg26 rfl H (by assumption) (by assumption) ?_); simp only [Act.put, List.setIfInBounds_toArray, List.set_cons_zero, List.set_cons_succ]))
  go_ret
  exact ⟨_, rfl, rfl, H.below⟩
set_option maxRecDepth 100000 in
set_option maxHeartbeats 1000000 in
theorem psame_eq (va vb : Value) (ps : List (Nat × Nat)) (w : World) (ha : Sl w 2 ps.length va (elQ ps)) (hb : Sl w 2 ps.length vb (elQ ps)) :
    Calls Try.prog 33 #[va, vb] w (Ret fun v w' => v = .bool true ∧ Below w.heap.size w w') := by
  have ha' := ha
  have hb' := hb
  obtain ⟨aa, ca, rfl, hma, _⟩ := ha'
  obtain ⟨ab, cb, rfl, hmb, _⟩ := hb'
  unfold maxLen at hma
  have H := St.init w
  go_enter Try.func33, Try.ntmps33
  go_wp2_with fail
  go_loopw [5] (fun i wr => ∃ k : Nat, k ≤ ps.length ∧ i = .int .i64 k ∧ St w.heap.size w wr []) (fun i _ => ps.length - (intOf i).toNat)
  case atStart => exact ⟨0, Nat.zero_le _, rfl, H⟩
  case round =>
    clear H
    obtain ⟨k, hk, rfl, H⟩ := hrel
    by_cases hlt : k < ps.length
    · obtain ⟨b1, o1, rfl, hb1⟩ := ha.addr (by omega)
      obtain ⟨b2, o2, rfl, hb2⟩ := hb.addr (by omega)
      have hc1 := ha.cell hlt
      have hc2 := hb.cell hlt
      unfold elQ at hc1 hc2
      obtain ⟨x, hx⟩ : ∃ x, (ps.getD k (0, 0)).1 = x := ⟨_, rfl⟩
      obtain ⟨y, hy⟩ : ∃ y, (ps.getD k (0, 0)).2 = y := ⟨_, rfl⟩
      rw [hx, hy] at hc1 hc2
      have he := eqPD_self (x : Int) (y : Int)
      have kli : (k : Int) < (ps.length : Int) := by omega
      clear hx hy
      go_wp2_with fail
      refine rg_begin 9 rfl (S := fun W => St _ _ W _) (by kernel_rfl) H.drew ?_
      replace H := H.drew
      have HS := H
      refine rg_take (i := 0) rfl (by kernel_rfl) (by kernel_rfl) (by kernel_rfl) (Yld.move rfl rfl) HS ?_; simp only [Act.put, eval_tmp, eval_const, getD_lit0, getD_lits, if_true, if_false, List.setIfInBounds_toArray, List.set_cons_zero, List.set_cons_succ]
      refine rg_take (i := 1) rfl (by kernel_rfl) (by kernel_rfl) (by kernel_rfl) (Yld.move rfl rfl) HS ?_; simp only [Act.put, eval_tmp, eval_const, getD_lit0, getD_lits, if_true, if_false, List.setIfInBounds_toArray, List.set_cons_zero, List.set_cons_succ]
      refine rg_take (i := 2) rfl (by kernel_rfl) (by kernel_rfl) (by kernel_rfl) (Yld.of rfl (fun W _ => by go_simp; first | done | with_reducible rfl)) HS ?_; simp only [Act.put, List.setIfInBounds_toArray, List.set_cons_zero, List.set_cons_succ]
      first | (refine rg_take (i := 3) rfl (by kernel_rfl) (by kernel_rfl) (by kernel_rfl) (Yld.ldr rfl rfl agg34 size34 rfl (by repeat (first | exact List.mem_cons_self | apply List.mem_cons_of_mem)) (by first | rfl | (simp; done) | assumption)) HS ?_; simp only [Act.put, List.setIfInBounds_toArray, List.set_cons_zero, List.set_cons_succ]) | (refine rg_take (i := 3) rfl (by kernel_rfl) (by kernel_rfl) (by kernel_rfl) (Yld.ldl rfl rfl agg34 size34 rfl (by repeat (first | exact List.mem_cons_self | apply List.mem_cons_of_mem)) (by simp)) HS ?_; simp only [Act.put, List.setIfInBounds_toArray, List.set_cons_zero, List.set_cons_succ]; simp only [List.drop_succ_cons, List.drop_zero, List.take_succ_cons, List.take_zero]) | (refine rg_take (i := 3) rfl (by kernel_rfl) (by kernel_rfl) (by kernel_rfl) (Yld.ldor rfl rfl agg34 size34 rfl (by assumption) (by first | rfl | (simp; done) | assumption) (by assumption)) HS ?_; simp only [Act.put, List.setIfInBounds_toArray, List.set_cons_zero, List.set_cons_succ])
      refine rg_take (i := 4) rfl (by kernel_rfl) (by kernel_rfl) (by kernel_rfl) (Yld.move rfl rfl) HS ?_; simp only [Act.put, eval_tmp, eval_const, getD_lit0, getD_lits, if_true, if_false, List.setIfInBounds_toArray, List.set_cons_zero, List.set_cons_succ]
      refine rg_take (i := 5) rfl (by kernel_rfl) (by kernel_rfl) (by kernel_rfl) (Yld.move rfl rfl) HS ?_; simp only [Act.put, eval_tmp, eval_const, getD_lit0, getD_lits, if_true, if_false, List.setIfInBounds_toArray, List.set_cons_zero, List.set_cons_succ]
      refine rg_take (i := 6) rfl (by kernel_rfl) (by kernel_rfl) (by kernel_rfl) (Yld.of rfl (fun W _ => by go_simp; first | done | with_reducible rfl)) HS ?_; simp only [Act.put, List.setIfInBounds_toArray, List.set_cons_zero, List.set_cons_succ]
      first | (refine rg_take (i := 7) rfl (by kernel_rfl) (by kernel_rfl) (by kernel_rfl) (Yld.ldr rfl rfl agg34 size34 rfl (by repeat (first | exact List.mem_cons_self | apply List.mem_cons_of_mem)) (by first | rfl | (simp; done) | assumption)) HS ?_; simp only [Act.put, List.setIfInBounds_toArray, List.set_cons_zero, List.set_cons_succ]) | (refine rg_take (i := 7) rfl (by kernel_rfl) (by kernel_rfl) (by kernel_rfl) (Yld.ldl rfl rfl agg34 size34 rfl (by repeat (first | exact List.mem_cons_self | apply List.mem_cons_of_mem)) (by simp)) HS ?_; simp only [Act.put, List.setIfInBounds_toArray, List.set_cons_zero, List.set_cons_succ]; simp only [List.drop_succ_cons, List.drop_zero, List.take_succ_cons, List.take_zero]) | (refine rg_take (i := 7) rfl (by kernel_rfl) (by kernel_rfl) (by kernel_rfl) (Yld.ldor rfl rfl agg34 size34 rfl (by assumption) (by first | rfl | (simp; done) | assumption) (by assumption)) HS ?_; simp only [Act.put, List.setIfInBounds_toArray, List.set_cons_zero, List.set_cons_succ])
      refine rg_take (i := 8) rfl (by kernel_rfl) (by kernel_rfl) (by kernel_rfl) (Yld.of rfl (fun W _ => by go_simp; first | done | with_reducible rfl)) HS ?_; simp only [Act.put, List.setIfInBounds_toArray, List.set_cons_zero, List.set_cons_succ]
      refine rg_done (by kernel_rfl) ?_
      go_wp2_with fail
      go_roundw
      case rel => exact ⟨k + 1, by omega, by go_num, H⟩
      case measure => simp [intOf]; omega
    · obtain rfl : k = ps.length := by omega
      go_wp2_with fail
      go_ret
      exact ⟨_, rfl, rfl, H.below⟩
end Go.Proofs.Ytcjbippgjhgoiaa
