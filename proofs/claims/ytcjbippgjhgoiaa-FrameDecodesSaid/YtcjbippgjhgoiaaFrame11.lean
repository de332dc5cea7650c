/- The document's example of layer 6 (frame), and what opens a packet that came in; no condition. -/
import Derived.Test.YtcjbippgjhgoiaaFrame10
import Derived.Test.YtcjbippgjhgoiaaOpen
namespace Go.Proofs.Ytcjbippgjhgoiaa
open Go.ChangeShapes Go.WideShapes Go.ChangeAt Go.RowKit Go.Deep
set_option linter.unusedVariables false
set_option linter.unusedSimpArgs false
theorem ex_form : (formL 3 1 1 2 1 5 []).length = 17 ∧ (formL 3 1 1 2 1 5 []).take 13 = [86, 83, 1, 3, 0, 0, 0, 17, 1, 1, 2, 1, 5] ∧ chk 3 1 1 2 1 0 = 0 := by decide +kernel
attribute [local irreducible] formL chk
theorem own_take {w : World} {b m c : Nat} {A : Option Addr} {l : List Nat} (k : Nat) (h : w.ownsRow b 5 1 (.slice A m c) m (bv l)) (hm : l.length = m) (hk : k ≤ m) (hl : m ≤ 1000000) : Sl w 1 (l.take k).length (.slice A k c) (elB (l.take k)) := by
  subst hm; exact sl_take k c (own_slk h rfl hl) hk
theorem encode_ex (f : List Nat) (he : chk ((3 : Nat) : Int) 1 1 2 1 ([] : List Nat).length = 0) (hf : formL 3 1 1 2 1 5 [] = f) (w : World) :
    Calls Try.prog 17 #[.agg #[.int .i64 3, .int .u16 1, .int .u32 1, .int .u16 2, .int .u32 1, .int .u64 5, .slice none 0 0]] w (Ret fun v w' => (∃ ap cp, v = .tuple #[.slice ap f.length cp, .int .i64 0] ∧ w'.ownsRow w.heap.size 5 1 (.slice ap f.length cp) f.length (bv f)) ∧ Below w.heap.size w w') :=
  encode_ok 3 1 1 2 1 5 (by omega) (by omega) (by omega) (by omega) (by omega) none 0 [] f (by simp) he hf w (nil_sl _)
set_option maxRecDepth 100000 in
set_option maxHeartbeats 1000000 in
theorem awake_ok (w : World) : Calls Try.prog 15 #[] w (Ret fun v w' => v = .bool true ∧ Below w.heap.size w w') := by
  have H := St.init w
  obtain ⟨e1, e2, e3⟩ := ex_form
  have CK : Hid (chk ((3 : Nat) : Int) 1 1 2 1 ([] : List Nat).length = 0) := Lib.hid e3
  obtain ⟨f, hf⟩ : ∃ f, formL 3 1 1 2 1 5 [] = f := ⟨_, rfl⟩
  rw [hf] at e1 e2
  have HF := Lib.hid hf
  have E1 := Lib.hid e1
  have E2 := Lib.hid e2
  clear hf e1 e2 e3
  go_enter Try.func15, Try.ntmps15
  go_wp2_with fail
  refine (encode_ex f CK.out HF.out _).mono ?_
  rintro e w1 ⟨v, rfl, ⟨⟨af, cf, rfl, ho⟩, hb1⟩⟩
  have kf := own_cap ho
  have s0 := own_slk ho rfl (by rw [E1.out]; omega)
  obtain ⟨b1, o1, rfl, hb, _⟩ := s0.byte (k := 0) (by rw [E1.out]; omega)
  rw [E1.out] at kf
  replace H := H.new hb1 (slc_sound ho) (fun g hg => (ho.lt g hg).1)
  clear hb1 ho hb s0
  rw [E1.out] at H ⊢
  have c0 : ¬ cf = 0 := by omega
  have c13 : 13 ≤ cf := by omega
  have c13i : (13 : Int) ≤ (cf : Int) := by omega
  go_wp2_with (first | (with_reducible refine wpl rfl (Stp.bsl (e := 5) (cs := #[.int .u8 86, .int .u8 83, .int .u8 1, .int .u8 3, .int .u8 0, .int .u8 0, .int .u8 0, .int .u8 17, .int .u8 1, .int .u8 1, .int .u8 2, .int .u8 1, .int .u8 5]) 20 rfl rfl (fun W => by kernel_rfl) H ?_); clear H; intro g20 w1 H; simp only [Act.put, List.setIfInBounds_toArray, List.set_cons_zero, List.set_cons_succ]))
  have s2 : Sl w1 1 ([86, 83, 1, 3, 0, 0, 0, 17, 1, 1, 2, 1, 5] : List Nat).length (.slice (some ⟨g20, 0, none⟩) 13 13) (elB [86, 83, 1, 3, 0, 0, 0, 17, 1, 1, 2, 1, 5]) := row_sl (l := [86, 83, 1, 3, 0, 0, 0, 17, 1, 1, 2, 1, 5]) (H.getRow (t := 5) (by repeat (first | exact List.mem_cons_self | apply List.mem_cons_of_mem))) (by decide)
  have s13 := own_take 13 (H.getSlc (xs := bv f) (by repeat (first | exact List.mem_cons_self | apply List.mem_cons_of_mem))) E1.out (by omega) (by omega)
  rw [E2.out] at s13
  refine (same_ok _ _ [86, 83, 1, 3, 0, 0, 0, 17, 1, 1, 2, 1, 5] [86, 83, 1, 3, 0, 0, 0, 17, 1, 1, 2, 1, 5] _ s13 s2).mono ?_
  rintro e w1 ⟨v, rfl, rfl, hb1⟩
  replace H := H.grow hb1
  clear hb1 s13 s2
  rw [beq_self_eq_true]
  go_wp2_with fail
  go_ret
  exact ⟨_, rfl, rfl, H.below⟩
theorem nat_of_u64 {n : Int} (h : (Lit.int .u64 n).wf = true) : ∃ k : Nat, n = k ∧ k < 18446744073709551616 := ⟨n.toNat, by have := bounds_u64 h; omega, by have := bounds_u64 h; omega⟩
set_option maxRecDepth 100000 in
/-- A packet that came in. -/
theorem open_pk {H : Type} {enc : TypeId × Value → H} {W : World} {base : Nat} {v : Value} {d : DataW H} {p : List MemPlace} (hv : Value.okWide Try.prog W .any base 43 v) (h : DataW.Trod enc Try.prog W 0 (fun _ => true) true 43 v d p) :
    ∃ (k : Int) (fi fc ti tc s : Nat) (A : Option Addr) (c : Nat) (b : List Nat), v = .agg #[.int .i64 k, .int .u16 (fi : Int), .int .u32 (fc : Int), .int .u16 (ti : Int), .int .u32 (tc : Int), .int .u64 (s : Int), .slice A b.length c] ∧ fi < 65536 ∧ fc < 4294967296 ∧ ti < 65536 ∧ tc < 4294967296 ∧ s < 18446744073709551616 ∧ (∀ x ∈ b, x < 256) ∧ Sl W 1 b.length (.slice A b.length c) (elB b) ∧ b.length ≤ c := by
  obtain ⟨cs, rfl, hsz⟩ := okWide_struct Try.underlying43 hv
  obtain ⟨fuel, hf⟩ := h
  obtain ⟨xs, n, _, _, hl, hx, hfl⟩ := DataW.trod_struct Try.underlying43 hf
  have hC : Try.prog.cellsOf 43 = 7 := by kernel_rfl
  have C1 : Try.prog.cellsOf 3 = 1 := by kernel_rfl
  have C2 : Try.prog.cellsOf 34 = 2 := by kernel_rfl
  have C3 : Try.prog.cellsOf 30 = 1 := by kernel_rfl
  have C4 : Try.prog.cellsOf 26 = 1 := by kernel_rfl
  rw [hC] at hsz
  obtain ⟨cs, rfl⟩ : ∃ l : List Value, cs = l.toArray := ⟨cs.toList, by simp⟩
  simp only [List.size_toArray] at hsz
  match cs, hsz with
  | [c0, c1, c2, c3, c4, c5, c6], _ =>
    match xs, hx with
    | [x0, x1, x2, x3, x4], _ =>
      have h0 := hfl 0 _ rfl
      have h1 := hfl 1 _ rfl
      have h2 := hfl 2 _ rfl
      have h3 := hfl 3 _ rfl
      have h4 := hfl 4 _ rfl
      simp only [List.getElem_toArray, List.getElem_cons_zero, List.getElem_cons_succ, Value.cells, C1, C2, C3, C4, List.drop_zero, List.drop_succ_cons, List.take_succ_cons, List.take_zero, List.getElem?_cons_zero, List.getElem?_cons_succ] at h0 h1 h2 h3 h4
      obtain ⟨k, e0, _, w0⟩ := DataW.trod_int Try.underlying3 h0
      obtain ⟨fi, fc, e1, b1, b2⟩ := cells_pid h1
      obtain ⟨ti, tc, e2, b3, b4⟩ := cells_pid h2
      obtain ⟨s, e3, _, w3⟩ := DataW.trod_int Try.underlying30 h3
      obtain ⟨s, rfl, b5⟩ := nat_of_u64 w3
      obtain ⟨A, c, b, e4, hc, hb, hS⟩ := cells_bs h4
      simp only [List.cons.injEq, and_true] at e0 e1 e2 e3 e4
      obtain ⟨rfl, rfl⟩ := e1
      obtain ⟨rfl, rfl⟩ := e2
      subst e0 e3 e4
      exact ⟨k, fi, fc, ti, tc, s, A, c, b, rfl, b1, b2, b3, b4, b5, hb, hS, hc⟩
end Go.Proofs.Ytcjbippgjhgoiaa
