/- Things that came in (layer 7's laws), what is laid of one, the document's example; the bounds stand in each. -/
import Derived.Test.YtcjbippgjhgoiaaBody4
import Derived.Test.YtcjbippgjhgoiaaOpen
namespace Go.Proofs.Ytcjbippgjhgoiaa
open Go.ChangeShapes Go.WideShapes Go.ChangeAt Go.RowKit Go.Deep
set_option linter.unusedVariables false
set_option linter.unusedSimpArgs false
structure Th where
  kind : Int
  n : Nat
  t : Bool
  r : Nat
  i : Nat
  c : Nat
  v1 : Value
  b : List Nat
  v2 : Value
  ps : List (Nat × Nat)
  most : Int
def th0 : Th := ⟨0, 0, false, 0, 0, 0, .slice none 0 0, [], .slice none 0 0, [], 0⟩
def thC (x : Th) : Array Value := #[.int .i64 x.kind, .int .u64 (x.n : Int), .bool x.t, .int .u32 (x.r : Int), .int .u16 (x.i : Int), .int .u32 (x.c : Int), x.v1, x.v2, .int .i64 x.most]
def elT (xs : List Th) (i : Nat) : Array Value := thC (xs.getD i th0)
structure okTh (w : World) (x : Th) : Prop where
  n : x.n < 18446744073709551616
  r : x.r < 4294967296
  i : x.i < 65536
  c : x.c < 4294967296
  b : ∀ y ∈ x.b, y < 256
  ps : okPids x.ps
  s1 : Sl w 1 x.b.length x.v1 (elB x.b)
  s2 : Sl w 2 x.ps.length x.v2 (elQ x.ps)
section
variable {H : Type} {enc : TypeId × Value → H}
set_option maxRecDepth 100000 in
/-- Some processes' cells. -/
theorem cells_pids {fuel : Nat} {W : World} {cs : List Value} {y : DataW H × List MemPlace} (hf : DataW.trod enc Try.prog W 0 (fun _ => true) true fuel 37 cs = some y) :
    ∃ (a : Option Addr) (c : Nat) (l : List (Nat × Nat)), cs = [.slice a l.length c] ∧ l.length ≤ c ∧ okPids l ∧ Sl W 2 l.length (.slice a l.length c) (elQ l) := by
  obtain ⟨a, n, c, E, rfl, hc, hS, hel⟩ := cells_sl (size := 2) Try.underlying37 (by kernel_rfl) (by omega) hf
  have hex : ∀ i, ∃ q : Nat × Nat, i < n → E i = #[.int .u16 (q.1 : Int), .int .u32 (q.2 : Int)] ∧ q.1 < 65536 ∧ q.2 < 4294967296 := fun i => by
    by_cases hi : i < n
    · obtain ⟨hs, fuel, y, ht⟩ := hel i hi
      obtain ⟨p, q, e0, b1, b2⟩ := cells_pid ht
      exact ⟨(p, q), fun _ => ⟨Array.toList_inj.1 e0, b1, b2⟩⟩
    · exact ⟨(0, 0), fun hn => absurd hn hi⟩
  have hlen : ((List.range n).map fun i => Classical.choose (hex i)).length = n := by simp
  refine ⟨a, c, (List.range n).map fun i => Classical.choose (hex i), by rw [hlen], by rw [hlen]; exact hc, ?_, ?_⟩
  · intro q hq
    obtain ⟨i, hi, rfl⟩ := List.mem_map.1 hq
    exact ((Classical.choose_spec (hex i)) (by simpa using hi)).2
  · rw [hlen]
    obtain ⟨a', c', e, hm, hc'⟩ := hS
    injection e with e1 e2 e3
    subst e1
    refine ⟨a, c, rfl, hm, fun h0 => ?_⟩
    obtain ⟨b, off, rfl, hb, hcell⟩ := hc' h0
    refine ⟨b, off, rfl, hb, fun i hi j hj => ?_⟩
    rw [hcell i hi j hj, (Classical.choose_spec (hex i) hi).1]
    simp [elQ, List.getD, hi]
set_option maxRecDepth 100000 in
theorem cells_ballot {fuel : Nat} {W : World} {cs : List Value} {y : DataW H × List MemPlace} (hf : DataW.trod enc Try.prog W 0 (fun _ => true) true fuel 36 cs = some y) :
    ∃ r i c : Nat, cs = [.int .u32 (r : Int), .int .u16 (i : Int), .int .u32 (c : Int)] ∧ r < 4294967296 ∧ i < 65536 ∧ c < 4294967296 := by
  obtain ⟨xs, n, _, _, hl, hx, hfl⟩ := DataW.trod_struct Try.underlying36 hf
  have hC : Try.prog.cellsOf 36 = 3 := by kernel_rfl
  rw [hC] at hl
  have C1 : Try.prog.cellsOf 31 = 1 := by kernel_rfl
  have C2 : Try.prog.cellsOf 34 = 2 := by kernel_rfl
  match cs, hl with
  | [c0, c1, c2], _ =>
    match xs, hx with
    | [x0, x1], _ =>
      have h0 := hfl 0 _ rfl
      have h1 := hfl 1 _ rfl
      simp only [List.getElem_toArray, List.getElem_cons_zero, List.getElem_cons_succ, C1, C2, List.drop_zero, List.drop_succ_cons, List.take_succ_cons, List.take_zero, List.getElem?_cons_zero, List.getElem?_cons_succ] at h0 h1
      obtain ⟨k0, e0, _, w0⟩ := DataW.trod_int Try.underlying31 h0
      obtain ⟨p, q, e1, b1, b2⟩ := cells_pid h1
      have b0 := bounds_u32 w0
      simp only [List.cons.injEq, and_true] at e0 e1
      obtain ⟨rfl, rfl⟩ := e1
      subst e0
      exact ⟨k0.toNat, p, q, by rw [show ((k0.toNat : Nat) : Int) = k0 by omega], by omega, b1, b2⟩
set_option maxRecDepth 100000 in
theorem cells_th {fuel : Nat} {W : World} {cs : List Value} {y : DataW H × List MemPlace} (hf : DataW.trod enc Try.prog W 0 (fun _ => true) true fuel 39 cs = some y) : ∃ x : Th, cs = (thC x).toList ∧ okTh W x := by
  obtain ⟨xs, n, _, _, hl, hx, hfl⟩ := DataW.trod_struct Try.underlying39 hf
  have hC : Try.prog.cellsOf 39 = 9 := by kernel_rfl
  rw [hC] at hl
  have C1 : Try.prog.cellsOf 3 = 1 := by kernel_rfl
  have C2 : Try.prog.cellsOf 30 = 1 := by kernel_rfl
  have C3 : Try.prog.cellsOf 4 = 1 := by kernel_rfl
  have C4 : Try.prog.cellsOf 36 = 3 := by kernel_rfl
  have C5 : Try.prog.cellsOf 26 = 1 := by kernel_rfl
  have C6 : Try.prog.cellsOf 37 = 1 := by kernel_rfl
  match cs, hl with
  | [c0, c1, c2, c3, c4, c5, c6, c7, c8], _ =>
    match xs, hx with
    | [x0, x1, x2, x3, x4, x5, x6], _ =>
      have h0 := hfl 0 _ rfl
      have h1 := hfl 1 _ rfl
      have h2 := hfl 2 _ rfl
      have h3 := hfl 3 _ rfl
      have h4 := hfl 4 _ rfl
      have h5 := hfl 5 _ rfl
      have h6 := hfl 6 _ rfl
      simp only [List.getElem_toArray, List.getElem_cons_zero, List.getElem_cons_succ, C1, C2, C3, C4, C5, C6, List.drop_zero, List.drop_succ_cons, List.take_succ_cons, List.take_zero, List.getElem?_cons_zero, List.getElem?_cons_succ] at h0 h1 h2 h3 h4 h5 h6
      obtain ⟨k, e0, _, w0⟩ := DataW.trod_int Try.underlying3 h0
      obtain ⟨n, e1, _, w1⟩ := DataW.trod_int Try.underlying30 h1
      obtain ⟨n, rfl, b1⟩ := nat_u64 w1
      obtain ⟨tv, e2, _⟩ := DataW.trod_bool Try.underlying4 h2
      obtain ⟨r, i, c, e3, b2, b3, b4⟩ := cells_ballot h3
      obtain ⟨A, cb, b, e4, hc, hb, hS⟩ := cells_bs h4
      obtain ⟨A2, cp, ps, e5, hc2, hp, hS2⟩ := cells_pids h5
      obtain ⟨mo, e6, _, w6⟩ := DataW.trod_int Try.underlying3 h6
      simp only [List.cons.injEq, and_true] at e0 e1 e2 e3 e4 e5 e6
      obtain ⟨rfl, rfl, rfl⟩ := e3
      subst e0 e1 e2 e4 e5 e6
      exact ⟨⟨k, n, tv, r, i, c, _, b, _, ps, mo⟩, rfl, ⟨b1, b2, b3, b4, hb, hp, hS, hS2⟩⟩
set_option maxRecDepth 100000 in
theorem open_things {W : World} {base : Nat} {v : Value} {d : DataW H} {p : List MemPlace} (hv : Value.okWide Try.prog W .any base 22 v) (h : DataW.Trod enc Try.prog W 0 (fun _ => true) true 22 v d p) :
    ∃ xs : List Th, (∀ x ∈ xs, okTh W x) ∧ Sl W 9 xs.length v (elT xs) := by
  obtain ⟨n, E, hS, hel⟩ := open_sl (size := 9) Try.underlying22 (by kernel_rfl) (by omega) hv h
  have hex : ∀ i, ∃ q : Th, i < n → E i = thC q ∧ okTh W q := fun i => by
    by_cases hi : i < n
    · obtain ⟨hs, fuel, y, ht⟩ := hel i hi
      obtain ⟨q, e0, ho⟩ := cells_th ht
      exact ⟨q, fun _ => ⟨Array.toList_inj.1 e0, ho⟩⟩
    · exact ⟨th0, fun hn => absurd hn hi⟩
  refine ⟨(List.range n).map fun i => Classical.choose (hex i), ?_, ?_⟩
  · intro q hq
    obtain ⟨i, hi, rfl⟩ := List.mem_map.1 hq
    exact ((Classical.choose_spec (hex i)) (by simpa using hi)).2
  · have hlen : ((List.range n).map fun i => Classical.choose (hex i)).length = n := by simp
    rw [hlen]
    obtain ⟨a, c, rfl, hm, hc⟩ := hS
    refine ⟨a, c, rfl, hm, fun h0 => ?_⟩
    obtain ⟨b, off, rfl, hb, hcell⟩ := hc h0
    refine ⟨b, off, rfl, hb, fun i hi j hj => ?_⟩
    rw [hcell i hi j hj, (Classical.choose_spec (hex i) hi).1]
    simp [elT, List.getD, hi]
end
/-- What is laid of a thing. -/
def layB (x : Th) : List Nat := match (x.kind % ((6 : Nat) : Int)).toNat with
  | 0 => shortB x.n
  | 1 => [x.t.toNat]
  | 2 => pidB x.i x.c
  | 3 => shortB x.r ++ pidB x.i x.c
  | 4 => shortB x.b.length ++ x.b
  | _ => shortB x.ps.length ++ pidsB x.ps
theorem shortB_pos (n : Nat) : 0 < (shortB n).length := by
  unfold shortB
  by_cases h : n < 128
  · rw [shortF_small _ _ h]; simp
  · rw [shortF_big _ _ h]; simp
theorem layB_len (x : Th) (h1 : x.b.length ≤ 300) (h2 : x.ps.length ≤ 60) : 0 < (layB x).length ∧ (layB x).length ≤ 1210 := by
  have a1 := shortB_len x.n
  have a2 := shortB_len x.r
  have a3 := shortB_len x.b.length
  have a4 := shortB_len x.ps.length
  have a5 := pidB_len x.i x.c
  have a6 := pidsB_len x.ps
  have p1 := shortB_pos x.n
  have p2 := shortB_pos x.r
  have p3 := shortB_pos x.b.length
  have p4 := shortB_pos x.ps.length
  have p5 : 0 < (pidB x.i x.c).length := by
    have := shortB_pos x.i
    simp [pidB]; omega
  unfold layB
  split <;> (try simp only [List.length_append, List.length_cons, List.length_nil]) <;> omega
theorem layB_byte (x : Th) (hb : ∀ y ∈ x.b, y < 256) : ∀ y ∈ layB x, y < 256 := by
  intro y hy
  unfold layB at hy
  split at hy
  · exact shortB_byte _ y hy
  · simp only [List.mem_singleton] at hy
    subst hy
    cases x.t <;> decide
  · exact pidB_byte _ _ y hy
  · rcases List.mem_append.1 hy with h | h
    · exact shortB_byte _ y h
    · exact pidB_byte _ _ y h
  · rcases List.mem_append.1 hy with h | h
    · exact shortB_byte _ y h
    · exact hb y h
  · rcases List.mem_append.1 hy with h | h
    · exact shortB_byte _ y h
    · unfold pidsB at h
      obtain ⟨p, _, hp⟩ := List.mem_flatMap.1 h
      exact pidB_byte _ _ y hp
theorem lay_ok {B : Nat} {w0 : World} {L : List Res} (g : Nat) (l m f : List Nat) (x : Th) (hn : x.n < 18446744073709551616) (hr : x.r < 4294967296) (hi : x.i < 65536) (hc : x.c < 4294967296) (hb : x.b.length ≤ 10000) (hp : okPids x.ps) (hpl : x.ps.length ≤ 1000) (hl : l.length ≤ 400000)
    (hf : layB x = f) (hm : l ++ f = m) (w : World) (hs1 : Rd B w0 L fun W => Sl W 1 x.b.length x.v1 (elB x.b)) (hs2 : Rd B w0 L fun W => Sl W 2 x.ps.length x.v2 (elQ x.ps)) (H : WSt B w0 w g l L) :
    Calls Try.prog 12 #[.pointer (some ⟨g, 0, none⟩), .agg (thC x)] w (Ret fun v' w' => ∃ ap cp, v' = .slice ap f.length cp ∧ WSt B w0 w' g m (slc 5 1 (.slice ap f.length cp) f.length (bv f) :: L)) := by
  have h6 := Int.emod_lt_of_pos x.kind (show (0 : Int) < ((6 : Nat) : Int) by omega)
  have h0 := Int.emod_nonneg x.kind (show ((6 : Nat) : Int) ≠ 0 by omega)
  obtain ⟨j, hj⟩ : ∃ j, (x.kind % ((6 : Nat) : Int)).toNat = j := ⟨_, rfl⟩
  have hj6 : j < 6 := by omega
  unfold layB at hf
  rw [hj] at hf
  have : j = 0 ∨ j = 1 ∨ j = 2 ∨ j = 3 ∨ j = 4 ∨ j = 5 := by omega
  rcases this with rfl | rfl | rfl | rfl | rfl | rfl
  · exact lay0_ok g l m f x.kind x.most x.n x.r x.i x.c x.t x.b x.ps x.v1 x.v2 hn hr hi hc hb hp hpl hl hj hf hm w hs1 hs2 H
  · exact lay1_ok g l m f x.kind x.most x.n x.r x.i x.c x.t x.b x.ps x.v1 x.v2 hn hr hi hc hb hp hpl hl hj hf hm w hs1 hs2 H
  · exact lay2_ok g l m f x.kind x.most x.n x.r x.i x.c x.t x.b x.ps x.v1 x.v2 hn hr hi hc hb hp hpl hl hj hf hm w hs1 hs2 H
  · exact lay3_ok g l m f x.kind x.most x.n x.r x.i x.c x.t x.b x.ps x.v1 x.v2 hn hr hi hc hb hp hpl hl hj hf hm w hs1 hs2 H
  · exact lay4_ok g l m f x.kind x.most x.n x.r x.i x.c x.t x.b x.ps x.v1 x.v2 hn hr hi hc hb hp hpl hl hj hf hm w hs1 hs2 H
  · exact lay5_ok g l m f x.kind x.most x.n x.r x.i x.c x.t x.b x.ps x.v1 x.v2 hn hr hi hc hb hp hpl hl hj hf hm w hs1 hs2 H
/-- Is there more than is looked at? -/
def greatB (xs : List Th) : Bool := (xs.take 60).any fun x => decide (300 < x.b.length) || decide (60 < x.ps.length)
theorem th_shape {w : World} {x : Th} (h : okTh w x) : ∃ a c a2 c2, x.v1 = .slice a x.b.length c ∧ x.v2 = .slice a2 x.ps.length c2 ∧ x.b.length ≤ 9223372036854775807 ∧ x.ps.length ≤ 9223372036854775807 := by
  obtain ⟨a, c, e1, m1, _⟩ := h.s1
  obtain ⟨a2, c2, e2, m2, _⟩ := h.s2
  unfold maxLen at m1 m2
  exact ⟨a, c, a2, c2, e1, e2, m1, m2⟩
theorem elT_at (xs : List Th) (k : Nat) (h : k < xs.length) : elT xs k = thC xs[k] := by simp [elT, List.getD, h]
set_option maxRecDepth 100000 in
set_option maxHeartbeats 1000000 in
theorem great_ok (v : Value) (xs : List Th) (w : World) (ho : ∀ x ∈ xs, okTh w x) (hs : Sl w 9 xs.length v (elT xs)) :
    Calls Try.prog 10 #[v] w (Ret fun v w' => v = .bool (greatB xs) ∧ Below w.heap.size w w') := by
  have H := St.init w
  have hs' := hs
  obtain ⟨ad, c, rfl, hm, _⟩ := hs'
  unfold maxLen at hm
  have HO := Lib.hid ho
  clear ho
  go_enter Try.func10, Try.ntmps10
  go_wp2_with (first | (with_reducible refine wpl rfl (Stp.ldc rfl agg26 rfl H (by repeat (first | exact List.mem_cons_self | apply List.mem_cons_of_mem)) (by first | (repeat (first | exact lit0 _ _ | apply lits)) | rfl | assumption) ?_); simp only [Act.put, List.setIfInBounds_toArray, List.set_cons_zero, List.set_cons_succ]) | (with_reducible refine wpl rfl (Stp.ldo rfl agg26 rfl H (by assumption) (by assumption) ?_); simp only [Act.put, List.setIfInBounds_toArray, List.set_cons_zero, List.set_cons_succ]) | (with_reducible refine wpl rfl (Stp.ldc rfl agg37 rfl H (by repeat (first | exact List.mem_cons_self | apply List.mem_cons_of_mem)) (by first | (repeat (first | exact lit0 _ _ | apply lits)) | rfl | assumption) ?_); simp only [Act.put, List.setIfInBounds_toArray, List.set_cons_zero, List.set_cons_succ]) | (with_reducible refine wpl rfl (Stp.ldo rfl agg37 rfl H (by assumption) (by assumption) ?_); simp only [Act.put, List.setIfInBounds_toArray, List.set_cons_zero, List.set_cons_succ]))
  go_loopw [3] (fun i wr => ∃ k : Nat, k ≤ xs.length ∧ k ≤ 60 ∧ i = .int .i64 (k : Int) ∧ Hid ((xs.take k).any (fun x => decide (300 < x.b.length) || decide (60 < x.ps.length)) = false) ∧ St w.heap.size w wr []) (fun i _ => 60 - (intOf i).toNat)
  case atStart => exact ⟨0, Nat.zero_le _, by omega, rfl, Lib.hid (by simp), H⟩
  case round =>
    clear H
    obtain ⟨k, hk, hk6, rfl, HA, H⟩ := hrel
    by_cases hlt : k < xs.length
    · by_cases h60 : k < 60
      · have hmem : xs[k] ∈ xs := List.getElem_mem hlt
        obtain ⟨b, off, rfl, hbb⟩ := hs.addr (by omega)
        have hcell := hs.cell hlt
        rw [elT_at xs k hlt] at hcell
        have htk : xs.take (k + 1) = xs.take k ++ [xs[k]] := List.take_succ_eq_append_getElem hlt
        obtain ⟨x, hx⟩ : ∃ x, xs[k] = x := ⟨_, rfl⟩
        rw [hx] at hmem hcell htk
        obtain ⟨a1, c1, a2, c2, e1, e2, m1, m2⟩ := th_shape (HO.out x hmem)
        have hcB : w.cell? ⟨b, off + k * 9 + 6, none⟩ = some (.slice a1 x.b.length c1) := by rw [hcell 6 (by omega), ← e1]; rfl
        have hcP : w.cell? ⟨b, off + k * 9 + 7, none⟩ = some (.slice a2 x.ps.length c2) := by rw [hcell 7 (by omega), ← e2]; rfl
        have HTK := Lib.hid htk
        have kli : (k : Int) < (xs.length : Int) := by omega
        have k6i : (k : Int) < 60 := by omega
        clear hcell htk hx e1 e2
        by_cases g1 : 300 < x.b.length
        · have g1i : (300 : Int) < (x.b.length : Int) := by omega
          go_wp2_with (first | (with_reducible refine wpl rfl (Stp.ldc rfl agg26 rfl H (by repeat (first | exact List.mem_cons_self | apply List.mem_cons_of_mem)) (by first | (repeat (first | exact lit0 _ _ | apply lits)) | rfl | assumption) ?_); simp only [Act.put, List.setIfInBounds_toArray, List.set_cons_zero, List.set_cons_succ]) | (with_reducible refine wpl rfl (Stp.ldo rfl agg26 rfl H (by assumption) (by assumption) ?_); simp only [Act.put, List.setIfInBounds_toArray, List.set_cons_zero, List.set_cons_succ]) | (with_reducible refine wpl rfl (Stp.ldc rfl agg37 rfl H (by repeat (first | exact List.mem_cons_self | apply List.mem_cons_of_mem)) (by first | (repeat (first | exact lit0 _ _ | apply lits)) | rfl | assumption) ?_); simp only [Act.put, List.setIfInBounds_toArray, List.set_cons_zero, List.set_cons_succ]) | (with_reducible refine wpl rfl (Stp.ldo rfl agg37 rfl H (by assumption) (by assumption) ?_); simp only [Act.put, List.setIfInBounds_toArray, List.set_cons_zero, List.set_cons_succ]))
          go_ret
          refine ⟨_, rfl, ?_, H.below⟩
          have : greatB xs = true := by
            unfold greatB
            refine List.any_eq_true.2 ⟨x, ?_, by simp [g1]⟩
            have h1 : x ∈ xs.take (k + 1) := by rw [HTK.out]; simp
            exact List.mem_of_mem_take (i := k + 1) (by rw [List.take_take, Nat.min_eq_left (by omega)]; exact h1)
          rw [this]; rfl
        · have g1i : ¬ (300 : Int) < (x.b.length : Int) := by omega
          by_cases g2 : 60 < x.ps.length
          · have g2i : (60 : Int) < (x.ps.length : Int) := by omega
            go_wp2_with (first | (with_reducible refine wpl rfl (Stp.ldc rfl agg26 rfl H (by repeat (first | exact List.mem_cons_self | apply List.mem_cons_of_mem)) (by first | (repeat (first | exact lit0 _ _ | apply lits)) | rfl | assumption) ?_); simp only [Act.put, List.setIfInBounds_toArray, List.set_cons_zero, List.set_cons_succ]) | (with_reducible refine wpl rfl (Stp.ldo rfl agg26 rfl H (by assumption) (by assumption) ?_); simp only [Act.put, List.setIfInBounds_toArray, List.set_cons_zero, List.set_cons_succ]) | (with_reducible refine wpl rfl (Stp.ldc rfl agg37 rfl H (by repeat (first | exact List.mem_cons_self | apply List.mem_cons_of_mem)) (by first | (repeat (first | exact lit0 _ _ | apply lits)) | rfl | assumption) ?_); simp only [Act.put, List.setIfInBounds_toArray, List.set_cons_zero, List.set_cons_succ]) | (with_reducible refine wpl rfl (Stp.ldo rfl agg37 rfl H (by assumption) (by assumption) ?_); simp only [Act.put, List.setIfInBounds_toArray, List.set_cons_zero, List.set_cons_succ]))
            go_ret
            refine ⟨_, rfl, ?_, H.below⟩
            have : greatB xs = true := by
              unfold greatB
              refine List.any_eq_true.2 ⟨x, ?_, by simp [g2]⟩
              have h1 : x ∈ xs.take (k + 1) := by rw [HTK.out]; simp
              exact List.mem_of_mem_take (i := k + 1) (by rw [List.take_take, Nat.min_eq_left (by omega)]; exact h1)
            rw [this]; rfl
          · have g2i : ¬ (60 : Int) < (x.ps.length : Int) := by omega
            go_wp2_with (first | (with_reducible refine wpl rfl (Stp.ldc rfl agg26 rfl H (by repeat (first | exact List.mem_cons_self | apply List.mem_cons_of_mem)) (by first | (repeat (first | exact lit0 _ _ | apply lits)) | rfl | assumption) ?_); simp only [Act.put, List.setIfInBounds_toArray, List.set_cons_zero, List.set_cons_succ]) | (with_reducible refine wpl rfl (Stp.ldo rfl agg26 rfl H (by assumption) (by assumption) ?_); simp only [Act.put, List.setIfInBounds_toArray, List.set_cons_zero, List.set_cons_succ]) | (with_reducible refine wpl rfl (Stp.ldc rfl agg37 rfl H (by repeat (first | exact List.mem_cons_self | apply List.mem_cons_of_mem)) (by first | (repeat (first | exact lit0 _ _ | apply lits)) | rfl | assumption) ?_); simp only [Act.put, List.setIfInBounds_toArray, List.set_cons_zero, List.set_cons_succ]) | (with_reducible refine wpl rfl (Stp.ldo rfl agg37 rfl H (by assumption) (by assumption) ?_); simp only [Act.put, List.setIfInBounds_toArray, List.set_cons_zero, List.set_cons_succ]))
            go_roundw
            case rel => exact ⟨k + 1, by omega, by omega, by go_num, Lib.hid (by rw [HTK.out, List.any_append, HA.out]; simp [g1, g2]; try omega), H⟩
            case measure => simp [intOf]; omega
      · obtain rfl : k = 60 := by omega
        have kli : (60 : Int) < (xs.length : Int) := by omega
        go_wp2_with (first | (with_reducible refine wpl rfl (Stp.ldc rfl agg26 rfl H (by repeat (first | exact List.mem_cons_self | apply List.mem_cons_of_mem)) (by first | (repeat (first | exact lit0 _ _ | apply lits)) | rfl | assumption) ?_); simp only [Act.put, List.setIfInBounds_toArray, List.set_cons_zero, List.set_cons_succ]) | (with_reducible refine wpl rfl (Stp.ldo rfl agg26 rfl H (by assumption) (by assumption) ?_); simp only [Act.put, List.setIfInBounds_toArray, List.set_cons_zero, List.set_cons_succ]) | (with_reducible refine wpl rfl (Stp.ldc rfl agg37 rfl H (by repeat (first | exact List.mem_cons_self | apply List.mem_cons_of_mem)) (by first | (repeat (first | exact lit0 _ _ | apply lits)) | rfl | assumption) ?_); simp only [Act.put, List.setIfInBounds_toArray, List.set_cons_zero, List.set_cons_succ]) | (with_reducible refine wpl rfl (Stp.ldo rfl agg37 rfl H (by assumption) (by assumption) ?_); simp only [Act.put, List.setIfInBounds_toArray, List.set_cons_zero, List.set_cons_succ]))
        go_ret
        exact ⟨_, rfl, by unfold greatB; rw [HA.out]; rfl, H.below⟩
    · obtain rfl : k = xs.length := by omega
      go_wp2_with (first | (with_reducible refine wpl rfl (Stp.ldc rfl agg26 rfl H (by repeat (first | exact List.mem_cons_self | apply List.mem_cons_of_mem)) (by first | (repeat (first | exact lit0 _ _ | apply lits)) | rfl | assumption) ?_); simp only [Act.put, List.setIfInBounds_toArray, List.set_cons_zero, List.set_cons_succ]) | (with_reducible refine wpl rfl (Stp.ldo rfl agg26 rfl H (by assumption) (by assumption) ?_); simp only [Act.put, List.setIfInBounds_toArray, List.set_cons_zero, List.set_cons_succ]) | (with_reducible refine wpl rfl (Stp.ldc rfl agg37 rfl H (by repeat (first | exact List.mem_cons_self | apply List.mem_cons_of_mem)) (by first | (repeat (first | exact lit0 _ _ | apply lits)) | rfl | assumption) ?_); simp only [Act.put, List.setIfInBounds_toArray, List.set_cons_zero, List.set_cons_succ]) | (with_reducible refine wpl rfl (Stp.ldo rfl agg37 rfl H (by assumption) (by assumption) ?_); simp only [Act.put, List.setIfInBounds_toArray, List.set_cons_zero, List.set_cons_succ]))
      go_ret
      refine ⟨_, rfl, ?_, H.below⟩
      have : greatB xs = false := by
        unfold greatB
        have h1 := HA.out
        rw [List.take_length] at h1
        rw [List.take_of_length_le (by omega)]
        exact h1
      rw [this]; rfl
end Go.Proofs.Ytcjbippgjhgoiaa
