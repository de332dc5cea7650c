/- Layer 7's Reader (body): Bytes, whatever is wrong; the bounds stand in it. Bytes as a string: what string(b) is, and when two such are one; the bytes are below 256. What came in, opened by its cells: slices of any elements, bytes, processes; no condition. Views and commands in memory: what they read as, on which blocks; no condition. What is read of bytes as processes, and what they are laid as: functions, and how they meet; no condition but widths. Layer 7's Writer (body) and its reference's Bytes and Num (choragusref07); the bounds stand in each. -/
import Derived.Laws.BytesString
import Derived.Laws.StructEq
import Derived.Laws.Bits64
import Derived.Test.YtmokecicjmjkbaaGy2
import Derived.Test.YtmokecicjmjkbaaGy3
import Derived.Test.YtmokecicjmjkbaaGy4
namespace Go.Proofs.Ytmokecicjmjkbaa
open Go.ChangeShapes Go.WideShapes Go.ChangeAt Go.RowKit Go.Deep
set_option linter.unusedVariables false
set_option linter.unusedSimpArgs false
set_option linter.unusedSectionVars false
set_option maxRecDepth 100000
set_option maxHeartbeats 2000000
theorem rev4G {B : Nat} {w0 w : World} {M : List Res} {a b c d : Res} (H : St B w0 w (d :: c :: b :: a :: M)) : St B w0 w (a :: b :: c :: d :: M) :=
  H.perm (((List.Perm.swap b c _).trans (((List.Perm.swap a c _).cons b).trans (.swap a b _))).cons d |>.trans ((List.Perm.swap a d _).trans (((List.Perm.swap b d _).trans ((List.Perm.swap c d _).cons b)).cons a)))
theorem post_cellG {P : Program} {fn : Func} {R : Ending → World → Prop} {a : Act} {w : World} {p : Tmp} {ty : TypeId} {B : Nat} {w0 : World} {L : List Res} {tg : TypeId} {g : Nat} {v : Value} (hr : fn.results = #[.cell p ty])
    (hagg : ∀ W : World, (isAgg ty).run P W = .ok false W) (hp : a.tmps.getD p undef = .pointer (some ⟨g, 0, none⟩)) (H : St B w0 w L) (hm : row tg g #[v] ∈ L)
    (hd : a.defers = []) (hR : R (.returned v) w) : bodyPost P fn R .ret a w := by
  refine bodyPost_ret ?_ hd hR
  have hp' : a.tmps[p]?.getD undef = .pointer (some ⟨g, 0, none⟩) := by simpa using hp
  simp [results, hr, hp', asAddr, run_load_cell (H.getRow hm) (off := 0) rfl hagg]
theorem mBytesG_ok {B : Nat} {w0 : World} {L M : List Res} (g : Nat) (s : Value) (l : List Nat) (e most : Nat) (hb : Byt B w0 L s l) (hmo2 : most ≤ 100000) (hML : L.Sublist M) (w : World) (H : St B w0 w (row 144 g #[s, .int .i64 (e : Int)] :: M)) :
    Calls Try.prog 95 #[.pointer (some ⟨g, 0, none⟩), .int .i64 (most : Int)] w (Ret fun v w' => ∃ s' ab cb d e', v = .slice ab d.length cb ∧ bytesF most (l, e) = (d, ((bytesF most (l, e)).2.1, e')) ∧ Byt B w0 L s' (bytesF most (l, e)).2.1 ∧ St B w0 w' (row 144 g #[s', .int .i64 (e' : Int)] :: slc 5 1 (.slice ab d.length cb) d.length (bv d) :: M)) := by
  have hmf : ∀ (fn : Fn) (first cap : Array Value) (w : World), (Instr.makeFunc fn first cap).run Try.prog w = .ok (.func fn first cap) w := fun _ _ _ _ => rfl
  by_cases he : e ≠ 0
  · have HE := Lib.hid he
    have HBF : Hid (bytesF most (l, e) = ([], (l, e))) := Lib.hid (if_pos he)
    clear he
    go_enter Try.func95, Try.ntmps95
    go_wp2_with (first | (go_at_call 90; (with_reducible refine (wholeGBytes_bad g e _ _ HE.out _ (H.getHeap mE)).mono ?_); rintro e w1 ⟨v, rfl, hr⟩; obtain ⟨rfl, hb1⟩ := hr; replace H := H.grow hb1; clear hb1) | (with_reducible refine wpl rfl (dQ 2 rfl ?_); with_reducible refine (Stp.box 2 rfl rfl rfl H ?_); clear H; intro g2 w1 H; simp only [pS]; simp only [pE, nC, pS] at H) | (with_reducible refine wpl rfl (dQ 3 rfl ?_); with_reducible refine (Stp.box 3 rfl rfl rfl H ?_); clear H; intro g3 w1 H; simp only [pS]; simp only [pE, nC, pS] at H) | (with_reducible refine wpl rfl (dQ 4 rfl ?_); with_reducible refine (Stp.alloc 4 rfl rfl zero22 H ?_); clear H; intro g4 w1 H; simp only [pS]; simp only [nC] at H) | (with_reducible refine wpl rfl (ldQ (ty := 121) rfl ?_); first | (with_reducible refine (Stp.ldo rfl agg121 rfl H (by assumption) (by assumption) ?_); simp only [pS]) | (with_reducible refine (Stp.ldc rfl agg121 rfl H mR cE ?_); simp only [pS])) | (with_reducible refine wpl rfl (ldQ (ty := 22) rfl ?_); first | (with_reducible refine (Stp.ldo rfl agg22 rfl H (by assumption) (by assumption) ?_); simp only [pS]) | (with_reducible refine (Stp.ldc rfl agg22 rfl H mR cE ?_); simp only [pS])) | (with_reducible refine wpl rfl (stQ (ty := 22) rfl ?_); first | (with_reducible refine (Stp.stc rfl size22 rfl rfl rfl rfl H uP (by first | omega | (simp; done) | (simp; omega)) ?_); clear H; intro w1 H; simp only [pS]; simp only [pE, nC, pS] at H)))
    refine post_cellG rfl agg22 rfl H mE rfl ⟨_, rfl, s, none, 0, [], e, rfl, by rw [HBF.out], by rw [HBF.out]; exact hb, ?_⟩
    have H5 : St B w0 _ (row 144 g #[s, .int .i64 (e : Int)] :: slc 5 1 (.slice none 0 0) 0 [] :: M) := (((H.nil 5 1).pull (r := row 144 g #[s, .int .i64 (e : Int)]) pU)).sub sU
    exact H5
  obtain rfl : e = 0 := by omega
  obtain ⟨A, m9, c9, rfl, e1, e2, e3, e4, e5⟩ := hb
  have HB : Hid (Byt B w0 L (.slice A m9 c9) l) := Lib.hid ⟨A, m9, c9, rfl, e1, e2, e3, e4, e5⟩
  clear e1 e2 e3 e4 e5 he
  go_enter Try.func95, Try.ntmps95
  go_wp2_with (first | (with_reducible refine wpl rfl (dQ 2 rfl ?_); with_reducible refine (Stp.box 2 rfl rfl rfl H ?_); clear H; intro g2 w1 H; simp only [pS]; simp only [pE, nC, pS] at H) | (with_reducible refine wpl rfl (dQ 3 rfl ?_); with_reducible refine (Stp.box 3 rfl rfl rfl H ?_); clear H; intro g3 w1 H; simp only [pS]; simp only [pE, nC, pS] at H) | (with_reducible refine wpl rfl (dQ 4 rfl ?_); with_reducible refine (Stp.alloc 4 rfl rfl zero22 H ?_); clear H; intro g4 w1 H; simp only [pS]; simp only [nC] at H) | (with_reducible refine wpl rfl (ldQ (ty := 121) rfl ?_); first | (with_reducible refine (Stp.ldo rfl agg121 rfl H (by assumption) (by assumption) ?_); simp only [pS]) | (with_reducible refine (Stp.ldc rfl agg121 rfl H mR cE ?_); simp only [pS])) | (with_reducible refine wpl rfl (ldQ (ty := 22) rfl ?_); first | (with_reducible refine (Stp.ldo rfl agg22 rfl H (by assumption) (by assumption) ?_); simp only [pS]) | (with_reducible refine (Stp.ldc rfl agg22 rfl H mR cE ?_); simp only [pS])) | (with_reducible refine wpl rfl (stQ (ty := 22) rfl ?_); first | (with_reducible refine (Stp.stc rfl size22 rfl rfl rfl rfl H uP (by first | omega | (simp; done) | (simp; omega)) ?_); clear H; intro w1 H; simp only [pS]; simp only [pE, nC, pS] at H)))
  refine (wholeGBytes_ok g A m9 c9 #[.pointer (some ⟨g2, 0, none⟩), .pointer (some ⟨g3, 0, none⟩), .pointer (some ⟨g4, 0, none⟩)] (fun s' e' Z => ∃ ab cb d, bytesF most (l, 0) = (d, ((bytesF most (l, 0)).2.1, e')) ∧ (e' = 0 → Byt B w0 L s' (bytesF most (l, 0)).2.1) ∧ Z = row 121 g2 #[.pointer (some ⟨g, 0, none⟩)] :: row 3 g3 #[.int .i64 (most : Int)] :: row 22 g4 #[.slice ab d.length cb] :: slc 5 1 (.slice ab d.length cb) d.length (bv d) :: M) (fun M' w1 H1 => ?_) _ (rev4G H)).mono ?_
  · refine (bytescG_ok g g2 g3 g4 _ l most HB.out hmo2 (hML.trans (List.sublist_append_left M M')) w1 H1).mono ?_
    rintro e w2 ⟨v, rfl, rfl, s2, e', ab, cb, d, h1, h2, H2⟩
    exact ⟨_, rfl, rfl, s2, e', _, ⟨ab, cb, d, h1, h2, rfl⟩, H2⟩
  rintro e w1 ⟨v, rfl, rfl, s3, e', Z, ⟨ab, cb, d, h1, h2, rfl⟩, hor⟩
  clear H
  have HBF := Lib.hid h1
  clear h1
  rcases hor with ⟨rfl, H⟩ | ⟨he, H⟩
  · have HY := Lib.hid (h2 rfl)
    clear h2
    go_wp2_with (first | (with_reducible refine wpl rfl (dQ 2 rfl ?_); with_reducible refine (Stp.box 2 rfl rfl rfl H ?_); clear H; intro g2 w1 H; simp only [pS]; simp only [pE, nC, pS] at H) | (with_reducible refine wpl rfl (dQ 3 rfl ?_); with_reducible refine (Stp.box 3 rfl rfl rfl H ?_); clear H; intro g3 w1 H; simp only [pS]; simp only [pE, nC, pS] at H) | (with_reducible refine wpl rfl (dQ 4 rfl ?_); with_reducible refine (Stp.alloc 4 rfl rfl zero22 H ?_); clear H; intro g4 w1 H; simp only [pS]; simp only [nC] at H) | (with_reducible refine wpl rfl (ldQ (ty := 121) rfl ?_); first | (with_reducible refine (Stp.ldo rfl agg121 rfl H (by assumption) (by assumption) ?_); simp only [pS]) | (with_reducible refine (Stp.ldc rfl agg121 rfl H mR cE ?_); simp only [pS])) | (with_reducible refine wpl rfl (ldQ (ty := 22) rfl ?_); first | (with_reducible refine (Stp.ldo rfl agg22 rfl H (by assumption) (by assumption) ?_); simp only [pS]) | (with_reducible refine (Stp.ldc rfl agg22 rfl H mR cE ?_); simp only [pS])) | (with_reducible refine wpl rfl (stQ (ty := 22) rfl ?_); first | (with_reducible refine (Stp.stc rfl size22 rfl rfl rfl rfl H uP (by first | omega | (simp; done) | (simp; omega)) ?_); clear H; intro w1 H; simp only [pS]; simp only [pE, nC, pS] at H)))
    exact post_cellG rfl agg22 rfl H mE rfl ⟨_, rfl, s3, ab, cb, d, 0, rfl, HBF.out, HY.out, H.sub sU⟩
  · have HY : Hid (Byt B w0 L (.slice A m9 c9) (bytesF most (l, 0)).2.1) := Lib.hid (by
      have h3 : (bytesF most (l, 0)).2.1 = l := by
        have h4 : (bytesF most (l, 0)).2.2 = e' := by rw [HBF.out]
        exact bytesF_keep (by rw [h4]; exact he)
      rw [h3]; exact HB.out)
    clear h2 he
    go_wp2_with (first | (with_reducible refine wpl rfl (dQ 2 rfl ?_); with_reducible refine (Stp.box 2 rfl rfl rfl H ?_); clear H; intro g2 w1 H; simp only [pS]; simp only [pE, nC, pS] at H) | (with_reducible refine wpl rfl (dQ 3 rfl ?_); with_reducible refine (Stp.box 3 rfl rfl rfl H ?_); clear H; intro g3 w1 H; simp only [pS]; simp only [pE, nC, pS] at H) | (with_reducible refine wpl rfl (dQ 4 rfl ?_); with_reducible refine (Stp.alloc 4 rfl rfl zero22 H ?_); clear H; intro g4 w1 H; simp only [pS]; simp only [nC] at H) | (with_reducible refine wpl rfl (ldQ (ty := 121) rfl ?_); first | (with_reducible refine (Stp.ldo rfl agg121 rfl H (by assumption) (by assumption) ?_); simp only [pS]) | (with_reducible refine (Stp.ldc rfl agg121 rfl H mR cE ?_); simp only [pS])) | (with_reducible refine wpl rfl (ldQ (ty := 22) rfl ?_); first | (with_reducible refine (Stp.ldo rfl agg22 rfl H (by assumption) (by assumption) ?_); simp only [pS]) | (with_reducible refine (Stp.ldc rfl agg22 rfl H mR cE ?_); simp only [pS])) | (with_reducible refine wpl rfl (stQ (ty := 22) rfl ?_); first | (with_reducible refine (Stp.stc rfl size22 rfl rfl rfl rfl H uP (by first | omega | (simp; done) | (simp; omega)) ?_); clear H; intro w1 H; simp only [pS]; simp only [pE, nC, pS] at H)))
    exact post_cellG rfl agg22 rfl H mE rfl ⟨_, rfl, _, ab, cb, d, e', rfl, HBF.out, HY.out, H.sub sU⟩
end Go.Proofs.Ytmokecicjmjkbaa
namespace Go.Proofs.Ytmokecicjmjkbaa
open Go.ChangeShapes Go.WideShapes Go.ChangeAt Go.RowKit
set_option linter.unusedVariables false
set_option linter.unusedSimpArgs false
/-- The string of some bytes. -/
def strOf (l : List Nat) : ByteArray := ⟨(l.map UInt8.ofNat).toArray⟩
theorem foldl_push : ∀ (l : List Nat) (s : ByteArray), (l.map fun (x : Nat) => (x : Int)).foldl (fun r n => r.push (UInt8.ofNat n.toNat)) s = ⟨s.data ++ (l.map UInt8.ofNat).toArray⟩
  | [], s => by simp
  | x :: l, s => by
    simp only [List.map_cons, List.foldl_cons]
    rw [foldl_push l]
    simp [ByteArray.push]
theorem strOf_inj {a b : List Nat} (ha : ∀ x ∈ a, x < 256) (hb : ∀ x ∈ b, x < 256) : ((strOf a).toList == (strOf b).toList) = (a == b) := by
  rw [ByteArray.toList_eq, ByteArray.toList_eq, Bool.eq_iff_iff]
  simp only [beq_iff_eq]
  refine ⟨fun h => ?_, fun h => by rw [h]⟩
  have h1 : a.map UInt8.ofNat = b.map UInt8.ofNat := by
    simpa [strOf] using h
  have key : ∀ l : List Nat, (∀ x ∈ l, x < 256) → (l.map UInt8.ofNat).map UInt8.toNat = l := fun l hl => by
    rw [List.map_map]
    conv => rhs; rw [← List.map_id l]
    exact List.map_congr_left fun x hx => by
      have := hl x hx
      simp only [Function.comp, id]
      exact Nat.mod_eq_of_lt this
  rw [← key a ha, ← key b hb, h1]
theorem run_b2s {w : World} {v : Value} {l : List Nat} (hs : Sl w 1 l.length v (elB l)) : (convert 22 9 v).run Try.prog w = .ok (.string (strOf l)) w := by
  obtain ⟨a, c, rfl, hm, h⟩ := hs
  rw [run_convert_bytes_string w 22 9 5 a l.length c Try.underlying22 Try.underlying5 Try.underlying9]
  cases a with
  | none =>
    have h0 : l = [] := by
      cases l with
      | nil => rfl
      | cons x t => obtain ⟨b, off, e, _⟩ := h (by simp); cases e
    subst h0
    rfl
  | some a =>
    have hl : (loadCells a l.length).run Try.prog w = .ok ((l.map fun (x : Nat) => (x : Int)).map (Value.int .u8)).toArray w := by
      have := run_loadCells_list (P := Try.prog) w a ((l.map fun (x : Nat) => (x : Int)).map (Value.int .u8)) (fun j u hu => by
        have hj : j < l.length := by
          rcases Nat.lt_or_ge j l.length with h | h
          · exact h
          · rw [List.getElem?_eq_none (by simpa using h)] at hu; cases hu
        obtain ⟨b, off, e, hb, hc⟩ := h (by omega)
        cases e
        have hadd : (⟨b, off, none⟩ : Addr).add j = ⟨b, off + j, none⟩ := by unfold Addr.add; split <;> simp_all
        have := hc j hj 0 (by omega)
        rw [Nat.mul_one, Nat.add_zero] at this
        rw [hadd, this, ← hu]
        simp [elB, List.getD, hj])
      simpa using this
    rw [run_bytesToString w a l.length c _ hl, foldl_push]
    have : ByteArray.empty.data ++ (List.map UInt8.ofNat l).toArray = (List.map UInt8.ofNat l).toArray := by
      show #[] ++ _ = _
      simp
    rw [this]; rfl
section
variable {P : Program} {ops : Array Oper} {a : Act} {w : World} {o : Oper} {N : Act → World → Prop}
end
attribute [local irreducible] strOf
set_option maxRecDepth 100000 in
theorem bequal_ok (va vb : Value) (la lb : List Nat) (hxa : ∀ x ∈ la, x < 256) (hxb : ∀ x ∈ lb, x < 256) (w : World) (ha : Sl w 1 la.length va (elB la)) (hb : Sl w 1 lb.length vb (elB lb)) :
    Calls Try.prog 115 #[va, vb] w (Ret fun v w' => v = .bool (la == lb) ∧ Below w.heap.size w w') := by
  have H := St.init w
  have he := strOf_inj hxa hxb
  have ca := run_b2s ha
  have cb := run_b2s hb
  clear hxa hxb
  go_enter Try.func115, Try.ntmps115
  go_wp2
  go_ret
  exact ⟨_, rfl, rfl, H.below⟩
end Go.Proofs.Ytmokecicjmjkbaa
namespace Go.Proofs.Ytmokecicjmjkbaa
open Go.ChangeShapes Go.WideShapes Go.ChangeAt Go.RowKit Go.Deep
set_option linter.unusedVariables false
set_option linter.unusedSimpArgs false
section
variable {H : Type} {enc : TypeId × Value → H} {P : Program}
theorem cells_sl {t e : TypeId} {size fuel : Nat} {W : World} {cs : List Value} {y : DataW H × List MemPlace} (ht : P.underlying t = some (.slice e)) (hC : P.cellsOf e = size) (hpos : 0 < size)
    (hf : DataW.trod enc P W 0 (fun _ => true) true fuel t cs = some y) :
    ∃ (a : Option Addr) (n c : Nat) (E : Nat → Array Value), cs = [.slice a n c] ∧ n ≤ c ∧ Sl W size n (.slice a n c) E ∧ ∀ i, i < n → (E i).size = size ∧ ∃ (fuel : Nat) (y : DataW H × List MemPlace), DataW.trod enc P W 0 (fun _ => true) true fuel e (E i).toList = some y := by
  rcases open_slice ht hf with ⟨hcs, _⟩ | ⟨a, len, cap, m, n, D, Pl, hcs, _, hl, hm, hmm, _, hi⟩
  · exact ⟨none, 0, 0, fun _ => #[], hcs, Nat.le_refl _, ⟨_, _, rfl, by simp [maxLen], fun h => absurd h (Nat.lt_irrefl _)⟩, fun i h => absurd h (Nat.not_lt_zero _)⟩
  · subst hcs
    have hlm : len ≤ m := by rw [hmm]; simp; omega
    have hex : ∀ i, ∃ cs' : List Value, i < len → W.cells? 0 (a.add (i * size)) size = some cs' ∧ DataW.trod enc P W 0 (fun _ => true) true n e cs' = some (D i, Pl i) := fun i => by
      by_cases hlt : i < len
      · obtain ⟨cs', h1, h2⟩ := hi i (by omega)
        rw [hC] at h1
        exact ⟨cs', fun _ => ⟨h1, h2⟩⟩
      · exact ⟨[], fun hn => absurd hn hlt⟩
    obtain ⟨F, hF⟩ := Classical.axiomOfChoice hex
    refine ⟨some a, len, cap, fun i => (F i).toArray, rfl, hl, ⟨_, _, rfl, by omega, fun h0 => ?_⟩, fun i hlt => ?_⟩
    · obtain ⟨b, off, spot⟩ := a
      obtain ⟨h1, _⟩ := hF 0 h0
      obtain ⟨_, hcl, hat⟩ := World.cells?_some h1
      have h2 := hat 0 hpos
      rw [List.getElem?_eq_getElem (by omega)] at h2
      have hspot : spot = none := by
        have := World.cell?_spot h2
        simpa [Addr.add] using this
      subst hspot
      have hb : b < W.heap.size := by
        have := World.block_lt_of_cell? W _ h2
        simpa [add_none] using this
      refine ⟨b, off, rfl, hb, fun i hlt j hj => ?_⟩
      obtain ⟨h3, _⟩ := hF i hlt
      obtain ⟨_, _, hat'⟩ := World.cells?_some h3
      have := hat' j hj
      rw [add_none, add_none] at this
      rw [this]; simp
    · obtain ⟨h3, h4⟩ := hF i hlt
      obtain ⟨_, hcl, _⟩ := World.cells?_some h3
      exact ⟨by simpa using hcl, n, _, h4⟩
end
section
variable {H : Type} {enc : TypeId × Value → H}
set_option maxRecDepth 100000 in
theorem cells_bs {fuel : Nat} {W : World} {cs : List Value} {y : DataW H × List MemPlace} (hf : DataW.trod enc Try.prog W 0 (fun _ => true) true fuel 22 cs = some y) :
    ∃ (a : Option Addr) (c : Nat) (l : List Nat), cs = [.slice a l.length c] ∧ l.length ≤ c ∧ (∀ x ∈ l, x < 256) ∧ Sl W 1 l.length (.slice a l.length c) (elB l) := by
  obtain ⟨a, n, c, E, rfl, hc, hS, hel⟩ := cells_sl (size := 1) Try.underlying22 (by kernel_rfl) (by omega) hf
  have hex : ∀ i, ∃ q : Nat, i < n → E i = #[.int .u8 (q : Int)] ∧ q < 256 := fun i => by
    by_cases hi : i < n
    · obtain ⟨hs, fuel, y, ht⟩ := hel i hi
      obtain ⟨k, e0, _, w0⟩ := DataW.trod_int Try.underlying5 ht
      have hb := bounds_u8 w0
      refine ⟨k.toNat, fun _ => ⟨?_, by omega⟩⟩
      rw [show ((k.toNat : Nat) : Int) = k by omega]
      exact Array.toList_inj.1 e0
    · exact ⟨0, fun hn => absurd hn hi⟩
  have hlen : ((List.range n).map fun i => Classical.choose (hex i)).length = n := by simp
  refine ⟨a, c, (List.range n).map fun i => Classical.choose (hex i), by rw [hlen], by rw [hlen]; exact hc, ?_, ?_⟩
  · intro q hq
    obtain ⟨i, hi, rfl⟩ := List.mem_map.1 hq
    exact ((Classical.choose_spec (hex i)) (by simpa using hi)).2
  · rw [hlen]
    obtain ⟨a', c', e, hm, hc'⟩ := hS
    injection e with e1 e2 e3
    subst e1
    refine ⟨a, c, rfl, hm, fun h0 => ?_⟩
    obtain ⟨b, off, rfl, hb, hcell⟩ := hc' h0
    refine ⟨b, off, rfl, hb, fun i hi j hj => ?_⟩
    rw [hcell i hi j hj, (Classical.choose_spec (hex i) hi).1]
    simp [elB, List.getD, hi]
set_option maxRecDepth 100000 in
/-- A process's cells. -/
theorem cells_pid {fuel : Nat} {W : World} {cs : List Value} {y : DataW H × List MemPlace} (hf : DataW.trod enc Try.prog W 0 (fun _ => true) true fuel 30 cs = some y) :
    ∃ i c : Nat, cs = [.int .u16 (i : Int), .int .u32 (c : Int)] ∧ i < 65536 ∧ c < 4294967296 := by
  obtain ⟨xs, n, _, _, hl, hx, hfl⟩ := DataW.trod_struct Try.underlying30 hf
  have hC : Try.prog.cellsOf 30 = 2 := by kernel_rfl
  rw [hC] at hl
  have hC1 : Try.prog.cellsOf 27 = 1 := by kernel_rfl
  have hC2 : Try.prog.cellsOf 28 = 1 := by kernel_rfl
  match cs, hl with
  | [c0, c1], _ =>
    match xs, hx with
    | [x0, x1], _ =>
      have h0 := hfl 0 _ rfl
      have h1 := hfl 1 _ rfl
      simp only [List.getElem_toArray, List.getElem_cons_zero, List.getElem_cons_succ, hC1, hC2, List.drop_zero, List.drop_succ_cons, List.take_succ_cons, List.take_zero, List.getElem?_cons_zero, List.getElem?_cons_succ] at h0 h1
      obtain ⟨k0, e0, _, w0⟩ := DataW.trod_int Try.underlying27 h0
      obtain ⟨k1, e1, _, w1⟩ := DataW.trod_int Try.underlying28 h1
      have b0 := bounds_u16 w0
      have b1 := bounds_u32 w1
      simp only [List.cons.injEq, and_true] at e0 e1
      subst e0 e1
      exact ⟨k0.toNat, k1.toNat, by rw [show ((k0.toNat : Nat) : Int) = k0 by omega, show ((k1.toNat : Nat) : Int) = k1 by omega], by omega, by omega⟩
end
end Go.Proofs.Ytmokecicjmjkbaa
namespace Go.Proofs.Ytmokecicjmjkbaa
open Go.ChangeShapes Go.WideShapes Go.ChangeAt Go.RowKit Go.Maps
set_option linter.unusedVariables false
set_option linter.unusedSimpArgs false
/-- As Sl, and it lies on a block of G. -/
def SlG (G : Nat → Prop) (w : World) (size n : Nat) (v : Value) (E : Nat → Array Value) : Prop :=
  ∃ a c, v = .slice a n c ∧ n ≤ maxLen ∧ (0 < n → ∃ b off, a = some ⟨b, off, none⟩ ∧ G b ∧ b < w.heap.size ∧ ∀ i, i < n → ∀ j, j < size → w.cell? ⟨b, off + i * size + j, none⟩ = (E i)[j]?)
theorem SlG.sl {G : Nat → Prop} {w : World} {size n : Nat} {v : Value} {E : Nat → Array Value} (h : SlG G w size n v E) : Sl w size n v E := by
  obtain ⟨a, c, rfl, hm, hE⟩ := h
  refine ⟨a, c, rfl, hm, fun h0 => ?_⟩
  obtain ⟨b, off, e, _, hb, hc⟩ := hE h0
  exact ⟨b, off, e, hb, hc⟩
theorem SlG.of_sl {w : World} {size n : Nat} {v : Value} {E : Nat → Array Value} (h : Sl w size n v E) : SlG (fun b => b < w.heap.size) w size n v E := by
  obtain ⟨a, c, rfl, hm, hE⟩ := h
  refine ⟨a, c, rfl, hm, fun h0 => ?_⟩
  obtain ⟨b, off, e, hb, hc⟩ := hE h0
  exact ⟨b, off, e, hb, hb, hc⟩
theorem cell_heap {w w' : World} {b : Nat} (h : w'.heap[b]? = w.heap[b]?) (off : Nat) : w'.cell? ⟨b, off, none⟩ = w.cell? ⟨b, off, none⟩ := by
  unfold World.cell?; rw [h]
theorem lt_heap {w w' : World} {b : Nat} (h : w'.heap[b]? = w.heap[b]?) (hb : b < w.heap.size) : b < w'.heap.size := by
  rw [Array.getElem?_eq_getElem hb] at h
  exact (Array.getElem?_eq_some_iff.1 h).1
theorem SlG.loc {G : Nat → Prop} {w w' : World} {size n : Nat} {v : Value} {E : Nat → Array Value} (hg : ∀ g, G g → w'.heap[g]? = w.heap[g]?) (h : SlG G w size n v E) : SlG G w' size n v E := by
  obtain ⟨a, c, rfl, hm, hE⟩ := h
  refine ⟨a, c, rfl, hm, fun h0 => ?_⟩
  obtain ⟨b, off, e, hG, hb, hc⟩ := hE h0
  exact ⟨b, off, e, hG, lt_heap (hg b hG) hb, fun i hi j hj => (cell_heap (hg b hG) _).trans (hc i hi j hj)⟩
theorem SlG.mono {G G' : Nat → Prop} {w : World} {size n : Nat} {v : Value} {E : Nat → Array Value} (hg : ∀ g, G g → G' g) (h : SlG G w size n v E) : SlG G' w size n v E := by
  obtain ⟨a, c, rfl, hm, hE⟩ := h
  refine ⟨a, c, rfl, hm, fun h0 => ?_⟩
  obtain ⟨b, off, e, hG, hb, hc⟩ := hE h0
  exact ⟨b, off, e, hg b hG, hb, hc⟩
theorem SlG.grow {G : Nat → Prop} {w w' : World} {size n : Nat} {v : Value} {E : Nat → Array Value} (h : SlG G w size n v E) (hb : Below w.heap.size w w') : SlG G w' size n v E := by
  obtain ⟨a, c, rfl, hm, hE⟩ := h
  refine ⟨a, c, rfl, hm, fun h0 => ?_⟩
  obtain ⟨b, off, e, hG, hlt, hc⟩ := hE h0
  exact ⟨b, off, e, hG, Nat.lt_of_lt_of_le hlt hb.size, fun i hi j hj => (cell_heap (hb.block b hlt) _).trans (hc i hi j hj)⟩
theorem SlG.shape {G : Nat → Prop} {w : World} {size n : Nat} {v : Value} {E : Nat → Array Value} (h : SlG G w size n v E) : ∃ a c, v = .slice a n c := by
  obtain ⟨a, c, rfl, _⟩ := h; exact ⟨a, c, rfl⟩
theorem SlG.nil (G : Nat → Prop) (w : World) (size : Nat) (E : Nat → Array Value) : SlG G w size 0 (.slice none 0 0) E := ⟨none, 0, rfl, by simp [maxLen], fun h => absurd h (Nat.lt_irrefl _)⟩
theorem SlG.below {G : Nat → Prop} {w : World} {size n : Nat} {v : Value} {E : Nat → Array Value} (h : SlG G w size n v E) : SlG (fun g => G g ∧ g < w.heap.size) w size n v E := by
  obtain ⟨a, c, rfl, hm, hE⟩ := h
  refine ⟨a, c, rfl, hm, fun h0 => ?_⟩
  obtain ⟨b, off, e, hG, hb, hc⟩ := hE h0
  exact ⟨b, off, e, ⟨hG, hb⟩, hb, hc⟩
/-- A slice of the call's own, as one that is read. -/
theorem SlG.of_own {w : World} {b : Nat} {e : TypeId} {size : Nat} {v : Value} {n : Nat} {xs : List Value} {E : Nat → Array Value} (h : w.ownsRow b e size v n xs) (hE : ∀ i, i < n → ∀ j, j < size → xs[i * size + j]? = (E i)[j]?) (hm : n ≤ maxLen) : SlG (fun g => v.ownBlock = some g) w size n v E := by
  obtain ⟨a, c, rfl, hm, hc⟩ := Sl.of_ownN h hE hm
  refine ⟨a, c, rfl, hm, fun h0 => ?_⟩
  obtain ⟨b', off, rfl, hb, hc⟩ := hc h0
  refine ⟨b', off, rfl, ?_, hb, hc⟩
  rcases h.2 with ⟨hv, h00⟩ | ⟨g, cap, cur, hv, _⟩
  · omega
  · injection hv with e1 _ _
    injection e1 with e1
    injection e1 with e1
    subst e1
    rfl
abbrev Pr := Nat × Nat
structure Vw where
  id : Nat
  mem : List Pr
  lvs : List (List Pr)
  ldr : List Pr
structure Cm where
  kind : Int
  fr : Pr
  num : Nat
  vw : Nat
  data : List Nat
  v : Vw
def vw0 : Vw := ⟨0, [], [], []⟩
def cm0 : Cm := ⟨0, (0, 0), 0, 0, [], vw0⟩
/-- What any view that is read has. -/
structure wfV (x : Vw) : Prop where
  id : x.id < 18446744073709551616
  mem : okPids x.mem
  lvs : ∀ l ∈ x.lvs, okPids l
  ldr : okPids x.ldr
structure wfC (c : Cm) : Prop where
  fr1 : c.fr.1 < 65536
  fr2 : c.fr.2 < 4294967296
  num : c.num < 18446744073709551616
  vw : c.vw < 18446744073709551616
  data : ∀ x ∈ c.data, x < 256
  v : wfV c.v
/-- Leaves: a slice of slices. -/
def LvG (G : Nat → Prop) (w : World) (v : Value) (ls : List (List Pr)) : Prop :=
  ∃ hd : Nat → Value, SlG G w 1 ls.length v (fun i => #[hd i]) ∧ ∀ i, i < ls.length → SlG G w 2 (ls.getD i []).length (hd i) (elQ (ls.getD i []))
def VwG (G : Nat → Prop) (w : World) (va vl vd : Value) (x : Vw) : Prop := SlG G w 2 x.mem.length va (elQ x.mem) ∧ LvG G w vl x.lvs ∧ SlG G w 2 x.ldr.length vd (elQ x.ldr)
def CmG (G : Nat → Prop) (w : World) (vb va vl vd : Value) (c : Cm) : Prop := SlG G w 1 c.data.length vb (elB c.data) ∧ VwG G w va vl vd c.v
theorem LvG.loc {G : Nat → Prop} {w w' : World} {v : Value} {ls : List (List Pr)} (hg : ∀ g, G g → w'.heap[g]? = w.heap[g]?) (h : LvG G w v ls) : LvG G w' v ls := by
  obtain ⟨hd, h1, h2⟩ := h
  exact ⟨hd, h1.loc hg, fun i hi => (h2 i hi).loc hg⟩
theorem LvG.mono {G G' : Nat → Prop} {w : World} {v : Value} {ls : List (List Pr)} (hg : ∀ g, G g → G' g) (h : LvG G w v ls) : LvG G' w v ls := by
  obtain ⟨hd, h1, h2⟩ := h
  exact ⟨hd, h1.mono hg, fun i hi => (h2 i hi).mono hg⟩
theorem LvG.grow {G : Nat → Prop} {w w' : World} {v : Value} {ls : List (List Pr)} (h : LvG G w v ls) (hb : Below w.heap.size w w') : LvG G w' v ls := by
  obtain ⟨hd, h1, h2⟩ := h
  exact ⟨hd, h1.grow hb, fun i hi => (h2 i hi).grow hb⟩
theorem LvG.nil (G : Nat → Prop) (w : World) : LvG G w (.slice none 0 0) [] := ⟨fun _ => undef, SlG.nil _ _ _ _, fun i h => absurd h (Nat.not_lt_zero _)⟩
theorem VwG.loc {G : Nat → Prop} {w w' : World} {va vl vd : Value} {x : Vw} (hg : ∀ g, G g → w'.heap[g]? = w.heap[g]?) (h : VwG G w va vl vd x) : VwG G w' va vl vd x := ⟨h.1.loc hg, h.2.1.loc hg, h.2.2.loc hg⟩
theorem VwG.mono {G G' : Nat → Prop} {w : World} {va vl vd : Value} {x : Vw} (hg : ∀ g, G g → G' g) (h : VwG G w va vl vd x) : VwG G' w va vl vd x := ⟨h.1.mono hg, h.2.1.mono hg, h.2.2.mono hg⟩
theorem VwG.grow {G : Nat → Prop} {w w' : World} {va vl vd : Value} {x : Vw} (h : VwG G w va vl vd x) (hb : Below w.heap.size w w') : VwG G w' va vl vd x := ⟨h.1.grow hb, h.2.1.grow hb, h.2.2.grow hb⟩
theorem VwG.nil (G : Nat → Prop) (w : World) (n : Nat) : VwG G w (.slice none 0 0) (.slice none 0 0) (.slice none 0 0) ⟨n, [], [], []⟩ := ⟨SlG.nil _ _ _ _, LvG.nil _ _, SlG.nil _ _ _ _⟩
theorem CmG.loc {G : Nat → Prop} {w w' : World} {vb va vl vd : Value} {c : Cm} (hg : ∀ g, G g → w'.heap[g]? = w.heap[g]?) (h : CmG G w vb va vl vd c) : CmG G w' vb va vl vd c := ⟨h.1.loc hg, h.2.loc hg⟩
theorem CmG.mono {G G' : Nat → Prop} {w : World} {vb va vl vd : Value} {c : Cm} (hg : ∀ g, G g → G' g) (h : CmG G w vb va vl vd c) : CmG G' w vb va vl vd c := ⟨h.1.mono hg, h.2.mono hg⟩
theorem CmG.grow {G : Nat → Prop} {w w' : World} {vb va vl vd : Value} {c : Cm} (h : CmG G w vb va vl vd c) (hb : Below w.heap.size w w') : CmG G w' vb va vl vd c := ⟨h.1.grow hb, h.2.grow hb⟩
theorem CmG.nil (G : Nat → Prop) (w : World) (k : Int) : CmG G w (.slice none 0 0) (.slice none 0 0) (.slice none 0 0) (.slice none 0 0) ⟨k, (0, 0), 0, 0, [], vw0⟩ := ⟨SlG.nil _ _ _ _, VwG.nil _ _ _⟩
/-- When two views, two commands are one. -/
def vSame (x y : Vw) : Bool := decide (x.id = y.id) && decide (x.mem = y.mem) && decide (x.lvs = y.lvs) && decide (x.ldr = y.ldr)
def cSame (c d : Cm) : Bool := decide (c.kind = d.kind) && decide (c.fr = d.fr) && decide (c.num = d.num) && decide (c.vw = d.vw) && decide (c.data = d.data) && vSame c.v d.v
theorem vSame_iff {x y : Vw} : vSame x y = true ↔ x = y := by
  cases x; cases y; simp [vSame, and_assoc]
theorem cSame_iff {c d : Cm} : cSame c d = true ↔ c = d := by
  cases c; cases d; simp [cSame, vSame_iff, and_assoc]
/-- Their cells. -/
abbrev vwC (x : Vw) (ma la da : Option Addr) (mc lc dc : Nat) : Array Value := #[.int .u64 (x.id : Int), .slice ma x.mem.length mc, .slice la x.lvs.length lc, .slice da x.ldr.length dc]
abbrev cmC (c : Cm) (ba ma la da : Option Addr) (bc mc lc dc : Nat) : Array Value := #[.int .i64 c.kind, .int .u16 (c.fr.1 : Int), .int .u32 (c.fr.2 : Int), .int .u64 (c.num : Int), .int .u64 (c.vw : Int), .slice ba c.data.length bc, .int .u64 (c.v.id : Int), .slice ma c.v.mem.length mc, .slice la c.v.lvs.length lc, .slice da c.v.ldr.length dc]
end Go.Proofs.Ytmokecicjmjkbaa
namespace Go.Proofs.Ytmokecicjmjkbaa
set_option linter.unusedVariables false
set_option linter.unusedSimpArgs false
/-- A process's bytes. -/
def pidB (i c : Nat) : List Nat := shortB i ++ shortB c
/-- Processes' bytes, one behind another. -/
def pidsB (ps : List (Nat × Nat)) : List Nat := ps.flatMap fun p => pidB p.1 p.2
/-- The process that some bytes begin with, how many bytes it takes, and what is wrong. -/
def getP (l : List Nat) : Nat × Nat × Nat × Nat :=
  if (gs l 10 0 0).2.2 ≠ 0 then (0, 0, 0, (gs l 10 0 0).2.2)
  else if (gs (l.drop (gs l 10 0 0).2.1) 10 0 0).2.2 ≠ 0 then (0, 0, 0, (gs (l.drop (gs l 10 0 0).2.1) 10 0 0).2.2)
  else if 65535 < (gs l 10 0 0).1 ∨ 4294967295 < (gs (l.drop (gs l 10 0 0).2.1) 10 0 0).1 then (0, 0, 0, 5)
  else ((gs l 10 0 0).1, (gs (l.drop (gs l 10 0 0).2.1) 10 0 0).1, (gs l 10 0 0).2.1 + (gs (l.drop (gs l 10 0 0).2.1) 10 0 0).2.1, 0)
/-- A process is read. -/
def pidF (s : Rs) : Pr × Rs :=
  if s.2 ≠ 0 then ((0, 0), s)
  else if (getP s.1).2.2.2 ≠ 0 then ((0, 0), (s.1, (getP s.1).2.2.2))
  else (((getP s.1).1, (getP s.1).2.1), (s.1.drop (getP s.1).2.2.1, 0))
theorem pidF_bad {l : List Nat} {e : Nat} (h : e ≠ 0) : pidF (l, e) = ((0, 0), (l, e)) := if_pos h
theorem pidF_err {l : List Nat} {i c k e : Nat} (h : getP l = (i, c, k, e)) (he : e ≠ 0) : pidF (l, 0) = ((0, 0), (l, e)) := by
  unfold pidF; simp only [h]; rw [if_neg (by simp), if_pos he]
theorem pidF_ok {l : List Nat} {i c k : Nat} (h : getP l = (i, c, k, 0)) : pidF (l, 0) = ((i, c), (l.drop k, 0)) := by
  unfold pidF; simp only [h]; rw [if_neg (by simp), if_neg (by simp)]
theorem getP_le {l : List Nat} {i c k : Nat} (h : getP l = (i, c, k, 0)) : k ≤ l.length ∧ i < 65536 ∧ c < 4294967296 := by
  unfold getP at h
  obtain ⟨a, n, e, hg⟩ : ∃ a n e, gs l 10 0 0 = (a, n, e) := ⟨_, _, _, rfl⟩
  obtain ⟨c', m, f, hg2⟩ : ∃ c m f, gs (l.drop n) 10 0 0 = (c, m, f) := ⟨_, _, _, rfl⟩
  simp only [hg] at h
  simp only [hg2] at h
  by_cases he : e = 0
  · rw [if_neg (by simp [he])] at h
    by_cases hf : f = 0
    · rw [if_neg (by simp [hf])] at h
      by_cases hb : 65535 < a ∨ 4294967295 < c'
      · rw [if_pos hb] at h; cases h
      · rw [if_neg hb] at h
        cases h
        have l1 := (gs_le l 10 0 0 _ n e hg).2 he
        have l2 := (gs_le (l.drop n) 10 0 0 _ m f hg2).2 hf
        rw [List.length_drop] at l2
        omega
    · rw [if_pos (by simpa using hf)] at h; cases h; exact absurd rfl hf
  · rw [if_pos (by simpa using he)] at h; cases h; exact absurd rfl he
theorem pidF_lt {s : Rs} : (pidF s).1.1 < 65536 ∧ (pidF s).1.2 < 4294967296 := by
  unfold pidF
  split
  · exact ⟨(show (0 : Nat) < 65536 from by decide), (show (0 : Nat) < 4294967296 from by decide)⟩
  · split
    · exact ⟨(show (0 : Nat) < 65536 from by decide), (show (0 : Nat) < 4294967296 from by decide)⟩
    · rename_i h1 h2
      obtain ⟨i, c, k, e, hg⟩ : ∃ i c k e, getP s.1 = (i, c, k, e) := ⟨_, _, _, _, rfl⟩
      rw [hg] at h2 ⊢
      simp only at h2 ⊢
      obtain rfl : e = 0 := by omega
      have := getP_le hg
      exact this.2
theorem numF_keep {most : Nat} {l : List Nat} (h : (numF most (l, 0)).2.2 ≠ 0) : (numF most (l, 0)).2.1 = l := by
  unfold numF at h ⊢
  rw [if_neg (by simp)] at h ⊢
  split
  · rfl
  · rename_i h1
    rw [if_neg h1] at h
    split
    · rfl
    · rename_i h2
      rw [if_neg h2] at h
      exact absurd rfl h
theorem pidF_keep {l : List Nat} (h : (pidF (l, 0)).2.2 ≠ 0) : (pidF (l, 0)).2.1 = l := by
  unfold pidF at h ⊢
  rw [if_neg (by simp)] at h ⊢
  split
  · rfl
  · rename_i h1
    rw [if_neg h1] at h
    exact absurd rfl h
/-- n processes are read, behind those that were. -/
def pidsL : Nat → List Pr × Rs → List Pr × Rs
  | 0, a => a
  | n + 1, a => if a.2.2 ≠ 0 then a else pidsL n (a.1 ++ [(pidF a.2).1], (pidF a.2).2)
theorem pidsL_stop {n : Nat} {a : List Pr × Rs} (h : a.2.2 ≠ 0) : pidsL n a = a := by
  cases n with
  | zero => rfl
  | succ n => exact if_pos h
/-- Processes are read, at most 'most'. -/
def pidsF (most : Nat) (s : Rs) : List Pr × Rs :=
  if s.2 ≠ 0 then ([], s)
  else if (pidsL (numF most s).1 ([], (numF most s).2)).2.2 ≠ 0 then ([], (s.1, (pidsL (numF most s).1 ([], (numF most s).2)).2.2))
  else pidsL (numF most s).1 ([], (numF most s).2)
theorem numF_back {most n : Nat} (hn : n < 18446744073709551616) (hm : n ≤ most) (r : List Nat) : numF most (shortB n ++ r, 0) = (n, (r, 0)) := by
  rw [numF_ok (gs_back n hn r) (by omega), List.drop_left]
theorem getP_back (i c : Nat) (hi : i < 65536) (hc : c < 4294967296) (t : List Nat) : getP (pidB i c ++ t) = (i, c, (pidB i c).length, 0) := by
  have h1 := gs_back i (by omega) (shortB c ++ t)
  have h2 := gs_back c (by omega) t
  have e : pidB i c ++ t = shortB i ++ (shortB c ++ t) := by rw [pidB, List.append_assoc]
  unfold getP
  rw [e, h1]
  simp only [List.drop_left]
  rw [h2, if_neg (by simp), if_neg (by simp), if_neg (by omega)]
  rw [pidB, List.length_append]
theorem pidF_back {p : Pr} (h1 : p.1 < 65536) (h2 : p.2 < 4294967296) (r : List Nat) : pidF (pidB p.1 p.2 ++ r, 0) = (p, (r, 0)) := by
  rw [pidF_ok (getP_back _ _ h1 h2 r), List.drop_left]
theorem bytesF_back {most : Nat} (d r : List Nat) (hd : d.length ≤ most) (hn : d.length < 18446744073709551616) : bytesF most (shortB d.length ++ (d ++ r), 0) = (d, (r, 0)) := by
  unfold bytesF
  rw [if_neg (by simp), numF_back hn hd]
  simp only
  rw [if_neg (by simp), if_neg (by rw [List.length_append]; omega), List.take_left, List.drop_left]
theorem pidsL_back : ∀ (qs acc : List Pr) (r : List Nat), (∀ p ∈ qs, p.1 < 65536 ∧ p.2 < 4294967296) → pidsL qs.length (acc, (pidsB qs ++ r, 0)) = (acc ++ qs, (r, 0))
  | [], acc, r, h => by simp [pidsL, pidsB]
  | p :: qs, acc, r, h => by
    have hp := h p List.mem_cons_self
    have h1 : pidsB (p :: qs) ++ r = pidB p.1 p.2 ++ (pidsB qs ++ r) := by simp [pidsB, List.append_assoc]
    rw [List.length_cons]
    unfold pidsL
    rw [if_neg (by simp), h1, pidF_back hp.1 hp.2]
    simp only
    rw [pidsL_back qs _ r (fun q hq => h q (List.mem_cons_of_mem _ hq))]
    simp
theorem pidsF_back {most : Nat} (ps : List Pr) (r : List Nat) (hp : ∀ p ∈ ps, p.1 < 65536 ∧ p.2 < 4294967296) (hm : ps.length ≤ most) (hn : ps.length < 18446744073709551616) : pidsF most (shortB ps.length ++ (pidsB ps ++ r), 0) = (ps, (r, 0)) := by
  unfold pidsF
  rw [if_neg (by simp), numF_back hn hm]
  simp only
  rw [pidsL_back ps [] r hp, List.nil_append]
  rw [if_neg (by simp)]
end Go.Proofs.Ytmokecicjmjkbaa
namespace Go.Proofs.Ytmokecicjmjkbaa
open Go.ChangeShapes Go.WideShapes Go.ChangeAt Go.RowKit
set_option linter.unusedVariables false
set_option linter.unusedSimpArgs false
theorem shortB_len (n : Nat) : (shortB n).length ≤ 10 := shortF_len 9 n
theorem putshort_as (v : Value) (l r : List Nat) (n : Nat) (hn : n < 18446744073709551616) (hl : l.length ≤ 900000) (hr : l ++ shortB n = r) (w : World) (hs : Sl w 1 l.length v (elB l)) :
    Calls Try.prog 101 #[v, .int .u64 (n : Int)] w (Ret fun v' w' => (∃ ap cp, v' = .slice ap r.length cp) ∧ w'.ownsRow w.heap.size 5 1 v' r.length (bv r) ∧ Below w.heap.size w w') := by
  subst hr; exact putshort_ok v l n hn hl w hs
theorem rshort_as (r : List Nat) (n : Nat) (hn : n < 18446744073709551616) (hr : shortB n = r) (w : World) :
    Calls Try.prog 105 #[.int .u64 (n : Int)] w (Ret fun v' w' => (∃ ap cp, v' = .slice ap r.length cp) ∧ w'.ownsRow w.heap.size 5 1 v' r.length (bv r) ∧ Below w.heap.size w w') := by
  subst hr; exact rshort_ok n hn w
/-- The Writer in block g holds the bytes l. -/
def WSt (B : Nat) (w0 w : World) (g : Nat) (l : List Nat) (L : List Res) : Prop := ∃ a c, St B w0 w (row 133 g #[.slice a l.length c] :: slc 5 1 (.slice a l.length c) l.length (bv l) :: L)
theorem WSt.mk {B : Nat} {w0 w : World} {g : Nat} {l : List Nat} {L : List Res} {a : Option Addr} {c : Nat} (H : St B w0 w (row 133 g #[.slice a l.length c] :: slc 5 1 (.slice a l.length c) l.length (bv l) :: L)) : WSt B w0 w g l L := ⟨a, c, H⟩
theorem St.two {B : Nat} {w0 w : World} {L L1 L2 : List Res} {r s : Res} (H : St B w0 w L) (h1 : Pull L r L1) (h2 : Pull L1 s L2) : St B w0 w (r :: s :: L2) := H.perm (h1.trans (h2.cons r))
theorem WSt.of {B : Nat} {w0 w : World} {g : Nat} {l : List Nat} {L L0 L1 L2 : List Res} {a : Option Addr} {c : Nat} (H : St B w0 w L0) (h1 : Pull L0 (row 133 g #[.slice a l.length c]) L1) (h2 : Pull L1 (slc 5 1 (.slice a l.length c) l.length (bv l)) L2) (h3 : L.Sublist L2) : WSt B w0 w g l L :=
  ⟨a, c, (H.two h1 h2).sub (.cons_cons _ (.cons_cons _ h3))⟩
set_option maxRecDepth 100000 in
theorem wnum_ok {B : Nat} {w0 : World} {L : List Res} (g : Nat) (l m : List Nat) (n : Nat) (hl : l.length ≤ 700000) (hn : n < 18446744073709551616) (hm : l ++ shortB n = m) (w : World) (H : WSt B w0 w g l L) :
    Calls Try.prog 75 #[.pointer (some ⟨g, 0, none⟩), .int .u64 (n : Int)] w (Ret fun v w' => v = .tuple #[] ∧ WSt B w0 w' g m L) := by
  obtain ⟨a, c, H⟩ := H
  have HM := Lib.hid hm
  clear hm
  go_enter Try.func75, Try.ntmps75
  go_wp2_with (first | (go_at_call 101; (with_reducible refine (putshort_as _ l m n hn (by omega) HM.out _ (own_sla (H.getSlc (xs := bv l) mE) (by omega))).mono ?_); rintro e w1 ⟨v, rfl, hr⟩; obtain ⟨⟨am, cm, rfl⟩, ho, hb1⟩ := hr; replace H := H.new hb1 (slc_sound ho) (fun g hg => (ho.lt g hg).1); clear hb1 ho) | (with_reducible refine wpl rfl (ldQ (ty := 22) rfl ?_); first | (with_reducible refine (Stp.ldo rfl agg22 rfl H (by assumption) (by assumption) ?_); simp only [pS]) | (with_reducible refine (Stp.ldc rfl agg22 rfl H mR cE ?_); simp only [pS])) | (with_reducible refine wpl rfl (stQ (ty := 22) rfl ?_); first | (with_reducible refine (Stp.stc rfl size22 rfl rfl rfl rfl H uP (by first | omega | (simp; done) | (simp; omega)) ?_); clear H; intro w1 H; simp only [pS]; simp only [pE, nC, pS] at H)))
  go_end0
  exact ⟨_, rfl, rfl, WSt.of H pU pU sU⟩
set_option maxRecDepth 100000 in
theorem wbytes_ok {B : Nat} {w0 : World} {L : List Res} (g : Nat) (l m b : List Nat) (v : Value) (hb : b.length ≤ 10000) (hl : l.length ≤ 700000) (hm : l ++ (shortB b.length ++ b) = m) (w : World) (H : WSt B w0 w g l L) (hs : Rd B w0 L fun W => Sl W 1 b.length v (elB b)) :
    Calls Try.prog 103 #[.pointer (some ⟨g, 0, none⟩), v] w (Ret fun v w' => v = .tuple #[] ∧ WSt B w0 w' g m L) := by
  obtain ⟨a, cc, H⟩ := H
  obtain ⟨ab, cb, rfl, hm9⟩ := (hs.at H (.cons _ (.cons _ (.refl _)))).len
  have w1r : IntKind.u64.wrap (b.length : Int) = (b.length : Int) := wrap_u64_in _ (by omega) (by omega)
  obtain ⟨q, hq⟩ : ∃ q, l ++ shortB b.length = q := ⟨_, rfl⟩
  have ql : q.length ≤ 700010 := by rw [← hq, List.length_append]; have := shortB_len b.length; omega
  have HQ := Lib.hid hq
  have HM2 : Hid (q ++ b = m) := Lib.hid (by rw [← hq, ← hm, List.append_assoc])
  have HML : Hid (q.length + b.length = m.length) := Lib.hid (by rw [← HM2.out, List.length_append])
  clear hq hm
  go_enter Try.func103, Try.ntmps103
  go_wp2_with (first | (go_at_call 75; (with_reducible refine (wnum_ok g l q b.length hl (by omega) HQ.out _ (WSt.of H pU pU (List.Sublist.refl _))).mono ?_); rintro e w1 ⟨v, rfl, hr⟩; obtain ⟨rfl, a1, c1, H1⟩ := hr; clear H; have H := H1; clear H1) | (with_reducible refine wpl rfl (dQ 17 rfl ?_); with_reducible refine (Stp.apps 17 rfl rfl Try.underlying22 info5 rfl (by decide) rfl rfl H (fun _ => uP) (by rw [bv_len, Nat.mul_one]) (hs.at H sU).src (bv_one b) (by unfold maxLen; omega) (by omega) ?_); clear H; intro a17 c17 w1 H; simp only [pS]; rw [bv_app, HM2.out, HML.out] at H; rw [HML.out]) | (with_reducible refine wpl rfl (ldQ (ty := 22) rfl ?_); first | (with_reducible refine (Stp.ldo rfl agg22 rfl H (by assumption) (by assumption) ?_); simp only [pS]) | (with_reducible refine (Stp.ldc rfl agg22 rfl H mR cE ?_); simp only [pS])) | (with_reducible refine wpl rfl (stQ (ty := 22) rfl ?_); first | (with_reducible refine (Stp.stc rfl size22 rfl rfl rfl rfl H uP (by first | omega | (simp; done) | (simp; omega)) ?_); clear H; intro w1 H; simp only [pS]; simp only [pE, nC, pS] at H)))
  go_end0
  exact ⟨_, rfl, rfl, WSt.of H pU pU sU⟩
set_option maxRecDepth 100000 in
theorem wdone_ok {B : Nat} {w0 : World} {L : List Res} (g : Nat) (l : List Nat) (hl : l.length ≤ 100000) (w : World) (H : WSt B w0 w g l L) :
    Calls Try.prog 77 #[.pointer (some ⟨g, 0, none⟩)] w (Ret fun v w' => (∃ ap cp, v = .slice ap l.length cp) ∧ w'.ownsRow w.heap.size 5 1 v l.length (bv l) ∧ Below w.heap.size w w') := by
  obtain ⟨a, c, H0⟩ := H
  have hrow := H0.getRow (t := 133) List.mem_cons_self
  have hown := H0.getSlc (List.mem_cons_of_mem _ List.mem_cons_self)
  have hc0 : w.cell? ⟨g, 0, none⟩ = some (.slice a l.length c) := by rw [cell_of_rowAt hrow]; rfl
  have hg : g < w.heap.size := rowAt_lt hrow
  have hs := own_sla hown (by omega)
  clear H0 hrow hown
  have H := St.init w
  go_enter Try.func77, Try.ntmps77
  go_wp2_with (first | (go_at_call 84; (with_reducible refine (clone_any _ l l.length rfl hl _ (hs.grow H.below)).mono ?_); rintro e w1 ⟨v, rfl, hr⟩; obtain ⟨⟨am, cm, rfl⟩, ho, hb1⟩ := hr; replace H := H.new hb1 (slc_sound ho) (fun g hg => (ho.lt g hg).1); clear hb1 ho) | (with_reducible refine wpl rfl (ldQ (ty := 22) rfl ?_); first | (with_reducible refine (Stp.ldo rfl agg22 rfl H (by assumption) (by assumption) ?_); simp only [pS]) | (with_reducible refine (Stp.ldc rfl agg22 rfl H mR cE ?_); simp only [pS])))
  go_ret
  exact ⟨_, rfl, ⟨_, _, rfl⟩, H.getSlc mE, H.below⟩
theorem rnum_ok (r : List Nat) (n : Nat) (hn : n < 18446744073709551616) (hr : shortB n = r) (w : World) :
    Calls Try.prog 78 #[.int .u64 (n : Int)] w (Ret fun v' w' => (∃ ap cp, v' = .slice ap r.length cp) ∧ w'.ownsRow w.heap.size 5 1 v' r.length (bv r) ∧ Below w.heap.size w w') := by
  have H := St.init w
  have HR := Lib.hid hr
  clear hr
  go_enter Try.func78, Try.ntmps78
  go_wp2_with (first | (go_at_call 105; (with_reducible refine (rshort_as r n hn HR.out _).mono ?_); rintro e w1 ⟨v, rfl, hr⟩; obtain ⟨⟨ar, cr, rfl⟩, ho, hb1⟩ := hr; replace H := H.new hb1 (slc_sound ho) (fun g hg => (ho.lt g hg).1); clear hb1 ho))
  go_ret
  exact ⟨_, rfl, ⟨_, _, rfl⟩, H.getSlc mE, H.below⟩
set_option maxRecDepth 100000 in
theorem rbytes_ok (b r : List Nat) (v : Value) (hb : b.length ≤ 10000) (hr : shortB b.length ++ b = r) (w : World) (hs : Sl w 1 b.length v (elB b)) :
    Calls Try.prog 107 #[v] w (Ret fun v' w' => (∃ ap cp, v' = .slice ap r.length cp) ∧ w'.ownsRow w.heap.size 5 1 v' r.length (bv r) ∧ Below w.heap.size w w') := by
  have H := St.init w
  have hs' := hs
  obtain ⟨ab, cb, rfl, hm9⟩ := hs'.len
  have w1r : IntKind.u64.wrap (b.length : Int) = (b.length : Int) := wrap_u64_in _ (by omega) (by omega)
  obtain ⟨x, hx⟩ : ∃ x, shortB b.length = x := ⟨_, rfl⟩
  have xl : x.length ≤ 10 := by rw [← hx]; exact shortB_len _
  rw [hx] at hr
  have HL : Hid (x.length + b.length = r.length) := Lib.hid (by rw [← hr, List.length_append])
  have HX := Lib.hid hx
  have HR := Lib.hid hr
  clear hx hr
  go_enter Try.func107, Try.ntmps107
  go_wp2_with (first | (go_at_call 78; (with_reducible refine (rnum_ok x b.length (by omega) HX.out _).mono ?_); rintro e w1 ⟨v, rfl, hr⟩; obtain ⟨⟨ax, cx, rfl⟩, ho, hb1⟩ := hr; replace H := H.new hb1 (slc_sound ho) (fun g hg => (ho.lt g hg).1); clear hb1 ho) | (with_reducible refine wpl rfl (dQ 8 rfl ?_); with_reducible refine (Stp.apps 8 rfl rfl Try.underlying22 info5 rfl (by decide) rfl rfl H (fun _ => uP) (by rw [bv_len, Nat.mul_one]) (hs.grow H.below).src (bv_one b) (by unfold maxLen; omega) (by omega) ?_); clear H; intro a8 c8 w1 H; simp only [pS]; rw [bv_app, HR.out, HL.out] at H; rw [HL.out]))
  go_ret
  exact ⟨_, rfl, ⟨_, _, rfl⟩, H.getSlc mE, H.below⟩
end Go.Proofs.Ytmokecicjmjkbaa
