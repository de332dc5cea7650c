/- Processes: may one be; some in memory; when two are one; reading while one writes elsewhere. No condition. Bytes as a string: what string(b) is, and when two such are one; the bytes are below 256. The contract of bytes.Clone, of any bytes, none too; the bound stands in it. Views and commands in memory: what they read as, on which blocks; no condition. Contracts of slices.Equal, slices.EqualFunc over processes, and of layers 8's and 9's Same (view, cmd); no condition. -/
import Derived.Laws.BitsLemmas
import Derived.Laws.Bits64b
import Derived.Laws.StructEq
import Derived.Laws.BytesString
import Derived.Laws.Bits64
import Derived.Test.YtjghcmejmdllbaaEy3
namespace Go.Proofs.Ytjghcmejmdllbaa
open Go.ChangeShapes Go.WideShapes Go.ChangeAt Go.RowKit
set_option linter.unusedVariables false
set_option linter.unusedSimpArgs false
theorem nil_bs (a : Option Addr) (n c : Nat) (w : World) : (binOp .eql 37 (.slice a n c) (.slice none 0 0)).run Try.prog w = .ok (.bool a.isNone) w := Lib.run_eql_slice_nil w 37 5 a n c 0 0 Try.underlying37
/-- May it be a process? -/
def may (i c : Nat) : Bool := decide (i < 16) && !(c == 0)
theorem may_ok (i c : Nat) (w : World) : Calls Try.prog 99 #[.agg #[.int .u16 (i : Int), .int .u32 (c : Int)]] w (Ret fun v w' => v = .bool (may i c) ∧ Below w.heap.size w w') := by
  have H := St.init w
  by_cases h : i < 16
  · have hi : (i : Int) < 16 := by omega
    go_enter Try.func99, Try.ntmps99
    go_wp2_with (first | (with_reducible refine wpl rfl (dQ 1 rfl ?_); with_reducible refine (Stp.box 1 rfl rfl rfl H ?_); clear H; intro g1 w1 H; simp only [pS]; simp only [pE, nC, pS] at H) | (with_reducible refine wpl rfl (ldQ (ty := 33) rfl ?_); first | (with_reducible refine (Stp.ldo rfl agg33 rfl H (by assumption) (by assumption) ?_); simp only [pS]) | (with_reducible refine (Stp.ldc rfl agg33 rfl H mR cE ?_); simp only [pS])) | (with_reducible refine wpl rfl (ldQ (ty := 34) rfl ?_); first | (with_reducible refine (Stp.ldo rfl agg34 rfl H (by assumption) (by assumption) ?_); simp only [pS]) | (with_reducible refine (Stp.ldc rfl agg34 rfl H mR cE ?_); simp only [pS])))
    go_ret
    exact ⟨_, rfl, congrArg Value.bool (show ((c : Int) != 0) = may i c by rw [Bool.eq_iff_iff]; simp [may, h]), H.below⟩
  · have hd : decide ((i : Int) < 16) = false := by simp; omega
    go_enter Try.func99, Try.ntmps99
    go_wp2_with (first | (with_reducible refine wpl rfl (dQ 1 rfl ?_); with_reducible refine (Stp.box 1 rfl rfl rfl H ?_); clear H; intro g1 w1 H; simp only [pS]; simp only [pE, nC, pS] at H) | (with_reducible refine wpl rfl (ldQ (ty := 33) rfl ?_); first | (with_reducible refine (Stp.ldo rfl agg33 rfl H (by assumption) (by assumption) ?_); simp only [pS]) | (with_reducible refine (Stp.ldc rfl agg33 rfl H mR cE ?_); simp only [pS])) | (with_reducible refine wpl rfl (ldQ (ty := 34) rfl ?_); first | (with_reducible refine (Stp.ldo rfl agg34 rfl H (by assumption) (by assumption) ?_); simp only [pS]) | (with_reducible refine (Stp.ldc rfl agg34 rfl H mR cE ?_); simp only [pS])))
    go_ret
    exact ⟨_, rfl, by simp [may, h], H.below⟩
/-- What holds as long as nothing below B and nothing of L is turned. -/
def Rd (B : Nat) (w0 : World) (L : List Res) (F : World → Prop) : Prop := ∀ W : World, Below B w0 W → (∀ r ∈ L, r.2 W) → F W
theorem Rd.at {B : Nat} {w0 w : World} {L L0 : List Res} {F : World → Prop} (h : Rd B w0 L F) (H : St B w0 w L0) (hl : L.Sublist L0) : F w := h w H.below fun r hr => H.get (hl.subset hr)
theorem Rd.of_old {w0 : World} {L : List Res} {size n : Nat} {v : Value} {E : Nat → Array Value} (h : Sl w0 size n v E) : Rd w0.heap.size w0 L fun W => Sl W size n v E := fun W hb _ => h.grow hb
theorem Rd.mono {B : Nat} {w0 : World} {L L' : List Res} {F : World → Prop} (h : Rd B w0 L F) (hl : ∀ r ∈ L, r ∈ L') : Rd B w0 L' F := fun W hb hr => h W hb fun r h1 => hr r (hl r h1)
/-- Processes, as values. -/
def elQ (ps : List (Nat × Nat)) (i : Nat) : Array Value := #[.int .u16 (((ps.getD i (0, 0)).1 : Nat) : Int), .int .u32 (((ps.getD i (0, 0)).2 : Nat) : Int)]
def okPids (ps : List (Nat × Nat)) : Prop := ∀ p ∈ ps, p.1 < 65536 ∧ p.2 < 4294967296
theorem eqPD (a b c d : Int) (w : World) : (Op.equalIn 10000 36 (.agg #[.int .u16 a, .int .u32 b]) (.agg #[.int .u16 c, .int .u32 d])).run Try.prog w = .ok (a == c && b == d) w := by
  have u1 := Try.underlying33
  have u2 := Try.underlying34
  have hS : Try.prog.underlying 36 = some (.struct (Try.prog.fieldsOf 36)) := by kernel_rfl
  rw [show (10000 : Nat) = 9999 + 1 from rfl, run_equalIn_struct w 9999 36 _ _ hS (by kernel_rfl)]
  simp only [Program.fieldsOf, Try.underlying36]
  go_simp
  by_cases h1 : a = c <;> by_cases h2 : b = d <;> simp [h1, h2]
theorem eqPD_self (a b : Int) (w : World) : (Op.equalIn 10000 36 (.agg #[.int .u16 a, .int .u32 b]) (.agg #[.int .u16 a, .int .u32 b])).run Try.prog w = .ok true w := by rw [eqPD]; simp
/-- Processes, as values. -/
def pv (ps : List (Nat × Nat)) : List Value := ps.flatMap fun p => [.int .u16 (p.1 : Int), .int .u32 (p.2 : Int)]
theorem pv_len (ps : List (Nat × Nat)) : (pv ps).length = ps.length * 2 := by
  induction ps with
  | nil => rfl
  | cons p ps ih => simp [pv] at ih ⊢; omega
theorem pv_get (ps : List (Nat × Nat)) : ∀ i, i < ps.length → ∀ j, j < 2 → (pv ps)[i * 2 + j]? = (elQ ps i)[j]? := by
  induction ps with
  | nil => intro i h; exact absurd h (Nat.not_lt_zero _)
  | cons p l ih =>
    intro i h j hj
    have hc : pv (p :: l) = .int .u16 (p.1 : Int) :: .int .u32 (p.2 : Int) :: pv l := by simp [pv]
    cases i with
    | zero =>
      rw [hc]
      match j, hj with
      | 0, _ => rfl
      | 1, _ => rfl
    | succ i =>
      rw [hc, show (i + 1) * 2 + j = (i * 2 + j) + 1 + 1 by omega, List.getElem?_cons_succ, List.getElem?_cons_succ, ih i (by simpa using h) j hj]
      simp [elQ]
end Go.Proofs.Ytjghcmejmdllbaa
namespace Go.Proofs.Ytjghcmejmdllbaa
open Go.ChangeShapes Go.WideShapes Go.ChangeAt Go.RowKit
set_option linter.unusedVariables false
set_option linter.unusedSimpArgs false
/-- The string of some bytes. -/
def strOf (l : List Nat) : ByteArray := ⟨(l.map UInt8.ofNat).toArray⟩
theorem foldl_push : ∀ (l : List Nat) (s : ByteArray), (l.map fun (x : Nat) => (x : Int)).foldl (fun r n => r.push (UInt8.ofNat n.toNat)) s = ⟨s.data ++ (l.map UInt8.ofNat).toArray⟩
  | [], s => by simp
  | x :: l, s => by
    simp only [List.map_cons, List.foldl_cons]
    rw [foldl_push l]
    simp [ByteArray.push]
theorem strOf_inj {a b : List Nat} (ha : ∀ x ∈ a, x < 256) (hb : ∀ x ∈ b, x < 256) : ((strOf a).toList == (strOf b).toList) = (a == b) := by
  rw [ByteArray.toList_eq, ByteArray.toList_eq, Bool.eq_iff_iff]
  simp only [beq_iff_eq]
  refine ⟨fun h => ?_, fun h => by rw [h]⟩
  have h1 : a.map UInt8.ofNat = b.map UInt8.ofNat := by
    simpa [strOf] using h
  have key : ∀ l : List Nat, (∀ x ∈ l, x < 256) → (l.map UInt8.ofNat).map UInt8.toNat = l := fun l hl => by
    rw [List.map_map]
    conv => rhs; rw [← List.map_id l]
    exact List.map_congr_left fun x hx => by
      have := hl x hx
      simp only [Function.comp, id]
      exact Nat.mod_eq_of_lt this
  rw [← key a ha, ← key b hb, h1]
theorem run_b2s {w : World} {v : Value} {l : List Nat} (hs : Sl w 1 l.length v (elB l)) : (convert 37 9 v).run Try.prog w = .ok (.string (strOf l)) w := by
  obtain ⟨a, c, rfl, hm, h⟩ := hs
  rw [run_convert_bytes_string w 37 9 5 a l.length c Try.underlying37 Try.underlying5 Try.underlying9]
  cases a with
  | none =>
    have h0 : l = [] := by
      cases l with
      | nil => rfl
      | cons x t => obtain ⟨b, off, e, _⟩ := h (by simp); cases e
    subst h0
    rfl
  | some a =>
    have hl : (loadCells a l.length).run Try.prog w = .ok ((l.map fun (x : Nat) => (x : Int)).map (Value.int .u8)).toArray w := by
      have := run_loadCells_list (P := Try.prog) w a ((l.map fun (x : Nat) => (x : Int)).map (Value.int .u8)) (fun j u hu => by
        have hj : j < l.length := by
          rcases Nat.lt_or_ge j l.length with h | h
          · exact h
          · rw [List.getElem?_eq_none (by simpa using h)] at hu; cases hu
        obtain ⟨b, off, e, hb, hc⟩ := h (by omega)
        cases e
        have hadd : (⟨b, off, none⟩ : Addr).add j = ⟨b, off + j, none⟩ := by unfold Addr.add; split <;> simp_all
        have := hc j hj 0 (by omega)
        rw [Nat.mul_one, Nat.add_zero] at this
        rw [hadd, this, ← hu]
        simp [elB, List.getD, hj])
      simpa using this
    rw [run_bytesToString w a l.length c _ hl, foldl_push]
    have : ByteArray.empty.data ++ (List.map UInt8.ofNat l).toArray = (List.map UInt8.ofNat l).toArray := by
      show #[] ++ _ = _
      simp
    rw [this]; rfl
section
variable {P : Program} {ops : Array Oper} {a : Act} {w : World} {o : Oper} {N : Act → World → Prop}
end
attribute [local irreducible] strOf
set_option maxRecDepth 100000 in
theorem bequal_ok (va vb : Value) (la lb : List Nat) (hxa : ∀ x ∈ la, x < 256) (hxb : ∀ x ∈ lb, x < 256) (w : World) (ha : Sl w 1 la.length va (elB la)) (hb : Sl w 1 lb.length vb (elB lb)) :
    Calls Try.prog 129 #[va, vb] w (Ret fun v w' => v = .bool (la == lb) ∧ Below w.heap.size w w') := by
  have H := St.init w
  have he := strOf_inj hxa hxb
  have ca := run_b2s ha
  have cb := run_b2s hb
  clear hxa hxb
  go_enter Try.func129, Try.ntmps129
  go_wp2
  go_ret
  exact ⟨_, rfl, rfl, H.below⟩
end Go.Proofs.Ytjghcmejmdllbaa
namespace Go.Proofs.Ytjghcmejmdllbaa
open Go.ChangeShapes Go.WideShapes Go.ChangeAt Go.RowKit
set_option linter.unusedVariables false
set_option linter.unusedSimpArgs false
attribute [local go_sem] nil_bs
set_option maxRecDepth 100000 in
theorem clone_any (v : Value) (l : List Nat) (m : Nat) (hm : l.length = m) (hl : m ≤ 100000) (w : World) (hs : Sl w 1 l.length v (elB l)) :
    Calls Try.prog 61 #[v] w (Ret fun v' w' => (∃ ap cp, v' = .slice ap m cp) ∧ w'.ownsRow w.heap.size 5 1 v' m (bv l) ∧ Below w.heap.size w w') := by
  have hs' := hs
  obtain ⟨A, c, rfl, hm'⟩ := hs'.len
  subst hm
  cases A with
  | none =>
    have h0 : l = [] := by
      cases l with
      | nil => rfl
      | cons x t => obtain ⟨b, off, e, _⟩ := hs.byte (k := 0) (by simp); cases e
    subst h0
    have H := St.init w
    go_enter Try.func61, Try.ntmps61
    go_wp2_with fail
    go_ret
    exact ⟨_, rfl, ⟨_, _, rfl⟩, World.ownsRow_nil _ _ _ _, H.below⟩
  | some a =>
    obtain ⟨b, o, sp⟩ := a
    have hsp : l.length = 0 ∨ sp = none := by
      rcases Nat.eq_zero_or_pos l.length with h | h
      · exact .inl h
      · obtain ⟨b', off, e, _⟩ := hs.byte (k := 0) h
        cases e; exact .inr rfl
    have H := St.init w
    go_enter Try.func61, Try.ntmps61
    go_wp2_with (first | (with_reducible refine wpl rfl (dQ 5 rfl ?_); with_reducible refine (Stp.bsl0 (e := 5) 5 rfl rfl (fun W => by kernel_rfl) H ?_); clear H; intro a5 c5 w1 H; simp only [pS]; (try simp only [Nat.zero_add, List.nil_append] at H ⊢)) | (with_reducible refine wpl rfl (dQ 7 rfl ?_); with_reducible refine (Stp.apps 7 rfl rfl Try.underlying37 info5 rfl (by decide) rfl rfl H (fun _ => uP) (by rw [bv_len, Nat.mul_one]) (hs.grow H.below).src (bv_one l) (by unfold maxLen; omega) (by omega) ?_); clear H; intro a7 c7 w1 H; simp only [pS]; (try simp only [Nat.zero_add, List.nil_append] at H ⊢)))
    go_ret
    exact ⟨_, rfl, ⟨_, _, rfl⟩, H.getSlc mE, H.below⟩
end Go.Proofs.Ytjghcmejmdllbaa
namespace Go.Proofs.Ytjghcmejmdllbaa
open Go.ChangeShapes Go.WideShapes Go.ChangeAt Go.RowKit Go.Maps
set_option linter.unusedVariables false
set_option linter.unusedSimpArgs false
/-- As Sl, and it lies on a block of G. -/
def SlG (G : Nat → Prop) (w : World) (size n : Nat) (v : Value) (E : Nat → Array Value) : Prop :=
  ∃ a c, v = .slice a n c ∧ n ≤ maxLen ∧ (0 < n → ∃ b off, a = some ⟨b, off, none⟩ ∧ G b ∧ b < w.heap.size ∧ ∀ i, i < n → ∀ j, j < size → w.cell? ⟨b, off + i * size + j, none⟩ = (E i)[j]?)
theorem SlG.sl {G : Nat → Prop} {w : World} {size n : Nat} {v : Value} {E : Nat → Array Value} (h : SlG G w size n v E) : Sl w size n v E := by
  obtain ⟨a, c, rfl, hm, hE⟩ := h
  refine ⟨a, c, rfl, hm, fun h0 => ?_⟩
  obtain ⟨b, off, e, _, hb, hc⟩ := hE h0
  exact ⟨b, off, e, hb, hc⟩
theorem cell_heap {w w' : World} {b : Nat} (h : w'.heap[b]? = w.heap[b]?) (off : Nat) : w'.cell? ⟨b, off, none⟩ = w.cell? ⟨b, off, none⟩ := by
  unfold World.cell?; rw [h]
theorem lt_heap {w w' : World} {b : Nat} (h : w'.heap[b]? = w.heap[b]?) (hb : b < w.heap.size) : b < w'.heap.size := by
  rw [Array.getElem?_eq_getElem hb] at h
  exact (Array.getElem?_eq_some_iff.1 h).1
theorem SlG.loc {G : Nat → Prop} {w w' : World} {size n : Nat} {v : Value} {E : Nat → Array Value} (hg : ∀ g, G g → w'.heap[g]? = w.heap[g]?) (h : SlG G w size n v E) : SlG G w' size n v E := by
  obtain ⟨a, c, rfl, hm, hE⟩ := h
  refine ⟨a, c, rfl, hm, fun h0 => ?_⟩
  obtain ⟨b, off, e, hG, hb, hc⟩ := hE h0
  exact ⟨b, off, e, hG, lt_heap (hg b hG) hb, fun i hi j hj => (cell_heap (hg b hG) _).trans (hc i hi j hj)⟩
theorem SlG.mono {G G' : Nat → Prop} {w : World} {size n : Nat} {v : Value} {E : Nat → Array Value} (hg : ∀ g, G g → G' g) (h : SlG G w size n v E) : SlG G' w size n v E := by
  obtain ⟨a, c, rfl, hm, hE⟩ := h
  refine ⟨a, c, rfl, hm, fun h0 => ?_⟩
  obtain ⟨b, off, e, hG, hb, hc⟩ := hE h0
  exact ⟨b, off, e, hg b hG, hb, hc⟩
theorem SlG.grow {G : Nat → Prop} {w w' : World} {size n : Nat} {v : Value} {E : Nat → Array Value} (h : SlG G w size n v E) (hb : Below w.heap.size w w') : SlG G w' size n v E := by
  obtain ⟨a, c, rfl, hm, hE⟩ := h
  refine ⟨a, c, rfl, hm, fun h0 => ?_⟩
  obtain ⟨b, off, e, hG, hlt, hc⟩ := hE h0
  exact ⟨b, off, e, hG, Nat.lt_of_lt_of_le hlt hb.size, fun i hi j hj => (cell_heap (hb.block b hlt) _).trans (hc i hi j hj)⟩
theorem SlG.shape {G : Nat → Prop} {w : World} {size n : Nat} {v : Value} {E : Nat → Array Value} (h : SlG G w size n v E) : ∃ a c, v = .slice a n c := by
  obtain ⟨a, c, rfl, _⟩ := h; exact ⟨a, c, rfl⟩
theorem SlG.nil (G : Nat → Prop) (w : World) (size : Nat) (E : Nat → Array Value) : SlG G w size 0 (.slice none 0 0) E := ⟨none, 0, rfl, by simp [maxLen], fun h => absurd h (Nat.lt_irrefl _)⟩
theorem SlG.below {G : Nat → Prop} {w : World} {size n : Nat} {v : Value} {E : Nat → Array Value} (h : SlG G w size n v E) : SlG (fun g => G g ∧ g < w.heap.size) w size n v E := by
  obtain ⟨a, c, rfl, hm, hE⟩ := h
  refine ⟨a, c, rfl, hm, fun h0 => ?_⟩
  obtain ⟨b, off, e, hG, hb, hc⟩ := hE h0
  exact ⟨b, off, e, ⟨hG, hb⟩, hb, hc⟩
/-- A slice of the call's own, as one that is read. -/
theorem SlG.of_own {w : World} {b : Nat} {e : TypeId} {size : Nat} {v : Value} {n : Nat} {xs : List Value} {E : Nat → Array Value} (h : w.ownsRow b e size v n xs) (hE : ∀ i, i < n → ∀ j, j < size → xs[i * size + j]? = (E i)[j]?) (hm : n ≤ maxLen) : SlG (fun g => v.ownBlock = some g) w size n v E := by
  obtain ⟨a, c, rfl, hm, hc⟩ := Sl.of_ownN h hE hm
  refine ⟨a, c, rfl, hm, fun h0 => ?_⟩
  obtain ⟨b', off, rfl, hb, hc⟩ := hc h0
  refine ⟨b', off, rfl, ?_, hb, hc⟩
  rcases h.2 with ⟨hv, h00⟩ | ⟨g, cap, cur, hv, _⟩
  · omega
  · injection hv with e1 _ _
    injection e1 with e1
    injection e1 with e1
    subst e1
    rfl
abbrev Pr := Nat × Nat
structure Vw where
  id : Nat
  mem : List Pr
  lvs : List (List Pr)
  ldr : List Pr
structure Cm where
  kind : Int
  fr : Pr
  num : Nat
  vw : Nat
  data : List Nat
  v : Vw
def vw0 : Vw := ⟨0, [], [], []⟩
def cm0 : Cm := ⟨0, (0, 0), 0, 0, [], vw0⟩
/-- What any view that is read has. -/
structure wfV (x : Vw) : Prop where
  id : x.id < 18446744073709551616
  mem : okPids x.mem
  lvs : ∀ l ∈ x.lvs, okPids l
  ldr : okPids x.ldr
structure wfC (c : Cm) : Prop where
  fr1 : c.fr.1 < 65536
  fr2 : c.fr.2 < 4294967296
  num : c.num < 18446744073709551616
  vw : c.vw < 18446744073709551616
  data : ∀ x ∈ c.data, x < 256
  v : wfV c.v
/-- Leaves: a slice of slices. -/
def LvG (G : Nat → Prop) (w : World) (v : Value) (ls : List (List Pr)) : Prop :=
  ∃ hd : Nat → Value, SlG G w 1 ls.length v (fun i => #[hd i]) ∧ ∀ i, i < ls.length → SlG G w 2 (ls.getD i []).length (hd i) (elQ (ls.getD i []))
def VwG (G : Nat → Prop) (w : World) (va vl vd : Value) (x : Vw) : Prop := SlG G w 2 x.mem.length va (elQ x.mem) ∧ LvG G w vl x.lvs ∧ SlG G w 2 x.ldr.length vd (elQ x.ldr)
def CmG (G : Nat → Prop) (w : World) (vb va vl vd : Value) (c : Cm) : Prop := SlG G w 1 c.data.length vb (elB c.data) ∧ VwG G w va vl vd c.v
theorem LvG.loc {G : Nat → Prop} {w w' : World} {v : Value} {ls : List (List Pr)} (hg : ∀ g, G g → w'.heap[g]? = w.heap[g]?) (h : LvG G w v ls) : LvG G w' v ls := by
  obtain ⟨hd, h1, h2⟩ := h
  exact ⟨hd, h1.loc hg, fun i hi => (h2 i hi).loc hg⟩
theorem LvG.mono {G G' : Nat → Prop} {w : World} {v : Value} {ls : List (List Pr)} (hg : ∀ g, G g → G' g) (h : LvG G w v ls) : LvG G' w v ls := by
  obtain ⟨hd, h1, h2⟩ := h
  exact ⟨hd, h1.mono hg, fun i hi => (h2 i hi).mono hg⟩
theorem LvG.grow {G : Nat → Prop} {w w' : World} {v : Value} {ls : List (List Pr)} (h : LvG G w v ls) (hb : Below w.heap.size w w') : LvG G w' v ls := by
  obtain ⟨hd, h1, h2⟩ := h
  exact ⟨hd, h1.grow hb, fun i hi => (h2 i hi).grow hb⟩
theorem LvG.nil (G : Nat → Prop) (w : World) : LvG G w (.slice none 0 0) [] := ⟨fun _ => undef, SlG.nil _ _ _ _, fun i h => absurd h (Nat.not_lt_zero _)⟩
theorem VwG.loc {G : Nat → Prop} {w w' : World} {va vl vd : Value} {x : Vw} (hg : ∀ g, G g → w'.heap[g]? = w.heap[g]?) (h : VwG G w va vl vd x) : VwG G w' va vl vd x := ⟨h.1.loc hg, h.2.1.loc hg, h.2.2.loc hg⟩
theorem VwG.mono {G G' : Nat → Prop} {w : World} {va vl vd : Value} {x : Vw} (hg : ∀ g, G g → G' g) (h : VwG G w va vl vd x) : VwG G' w va vl vd x := ⟨h.1.mono hg, h.2.1.mono hg, h.2.2.mono hg⟩
theorem VwG.grow {G : Nat → Prop} {w w' : World} {va vl vd : Value} {x : Vw} (h : VwG G w va vl vd x) (hb : Below w.heap.size w w') : VwG G w' va vl vd x := ⟨h.1.grow hb, h.2.1.grow hb, h.2.2.grow hb⟩
theorem VwG.nil (G : Nat → Prop) (w : World) (n : Nat) : VwG G w (.slice none 0 0) (.slice none 0 0) (.slice none 0 0) ⟨n, [], [], []⟩ := ⟨SlG.nil _ _ _ _, LvG.nil _ _, SlG.nil _ _ _ _⟩
theorem CmG.loc {G : Nat → Prop} {w w' : World} {vb va vl vd : Value} {c : Cm} (hg : ∀ g, G g → w'.heap[g]? = w.heap[g]?) (h : CmG G w vb va vl vd c) : CmG G w' vb va vl vd c := ⟨h.1.loc hg, h.2.loc hg⟩
theorem CmG.mono {G G' : Nat → Prop} {w : World} {vb va vl vd : Value} {c : Cm} (hg : ∀ g, G g → G' g) (h : CmG G w vb va vl vd c) : CmG G' w vb va vl vd c := ⟨h.1.mono hg, h.2.mono hg⟩
theorem CmG.grow {G : Nat → Prop} {w w' : World} {vb va vl vd : Value} {c : Cm} (h : CmG G w vb va vl vd c) (hb : Below w.heap.size w w') : CmG G w' vb va vl vd c := ⟨h.1.grow hb, h.2.grow hb⟩
theorem CmG.nil (G : Nat → Prop) (w : World) (k : Int) : CmG G w (.slice none 0 0) (.slice none 0 0) (.slice none 0 0) (.slice none 0 0) ⟨k, (0, 0), 0, 0, [], vw0⟩ := ⟨SlG.nil _ _ _ _, VwG.nil _ _ _⟩
/-- When two views, two commands are one. -/
def vSame (x y : Vw) : Bool := decide (x.id = y.id) && decide (x.mem = y.mem) && decide (x.lvs = y.lvs) && decide (x.ldr = y.ldr)
def cSame (c d : Cm) : Bool := decide (c.kind = d.kind) && decide (c.fr = d.fr) && decide (c.num = d.num) && decide (c.vw = d.vw) && decide (c.data = d.data) && vSame c.v d.v
theorem vSame_iff {x y : Vw} : vSame x y = true ↔ x = y := by
  cases x; cases y; simp [vSame, and_assoc]
theorem cSame_iff {c d : Cm} : cSame c d = true ↔ c = d := by
  cases c; cases d; simp [cSame, vSame_iff, and_assoc]
/-- Their cells. -/
abbrev vwC (x : Vw) (ma la da : Option Addr) (mc lc dc : Nat) : Array Value := #[.int .u64 (x.id : Int), .slice ma x.mem.length mc, .slice la x.lvs.length lc, .slice da x.ldr.length dc]
abbrev cmC (c : Cm) (ba ma la da : Option Addr) (bc mc lc dc : Nat) : Array Value := #[.int .i64 c.kind, .int .u16 (c.fr.1 : Int), .int .u32 (c.fr.2 : Int), .int .u64 (c.num : Int), .int .u64 (c.vw : Int), .slice ba c.data.length bc, .int .u64 (c.v.id : Int), .slice ma c.v.mem.length mc, .slice la c.v.lvs.length lc, .slice da c.v.ldr.length dc]
end Go.Proofs.Ytjghcmejmdllbaa
namespace Go.Proofs.Ytjghcmejmdllbaa
open Go.ChangeShapes Go.WideShapes Go.ChangeAt Go.RowKit Go.Maps
set_option linter.unusedVariables false
set_option linter.unusedSimpArgs false
theorem eqPD_no (a b c d : Nat) (h : (a, b) ≠ (c, d)) (w : World) : (Op.equalIn 10000 36 (.agg #[.int .u16 (a : Int), .int .u32 (b : Int)]) (.agg #[.int .u16 (c : Int), .int .u32 (d : Int)])).run Try.prog w = .ok false w := by
  rw [eqPD]
  congr 1
  rw [Bool.and_eq_false_iff]
  by_cases h1 : a = c
  · refine .inr ?_
    have : b ≠ d := fun e => h (by rw [h1, e])
    simp; omega
  · refine .inl ?_
    simp; omega
theorem eqPD_yes (a b : Nat) (w : World) : (Op.equalIn 10000 36 (.agg #[.int .u16 (a : Int), .int .u32 (b : Int)]) (.agg #[.int .u16 (a : Int), .int .u32 (b : Int)])).run Try.prog w = .ok true w := eqPD_self _ _ w
theorem eqg_PD : Try.prog.eqGuardType Try.prog.depth 36 = false := by kernel_rfl
theorem getD_at {α : Type} {l : List α} {k : Nat} {d : α} (h : k < l.length) : l.getD k d = l[k] := by simp [List.getD, h]
set_option maxRecDepth 100000 in
set_option maxHeartbeats 1000000 in
theorem peq_ok (va vb : Value) (l m : List Pr) (w : World) (ha : Sl w 2 l.length va (elQ l)) (hb : Sl w 2 m.length vb (elQ m)) :
    Calls Try.prog 106 #[va, vb] w (Ret fun v w' => v = .bool (decide (l = m)) ∧ Below w.heap.size w w') := by
  have H := St.init w
  have ha' := ha
  have hb' := hb
  obtain ⟨aa, ca, rfl, hma, _⟩ := ha'
  obtain ⟨ab, cb, rfl, hmb, _⟩ := hb'
  unfold maxLen at hma hmb
  by_cases hlen : l.length = m.length
  · obtain ⟨n, hn⟩ : ∃ n, m.length = n := ⟨_, rfl⟩
    have hln : l.length = n := hlen.trans hn
    have HN := Lib.hid hn
    have HL := Lib.hid hln
    rw [hn] at hb hmb
    rw [hln] at ha hma
    simp only [hn, hln]
    clear hn hln hlen
    go_enter Try.func106, Try.ntmps106
    go_wp2_with fail
    go_loopw [13] (fun i wr => ∃ k : Nat, k ≤ n ∧ i = .int .i64 k ∧ Hid (l.take k = m.take k) ∧ St w.heap.size w wr []) (fun i _ => n - (intOf i).toNat)
    case atStart => exact ⟨0, Nat.zero_le _, rfl, Lib.hid (by simp), H⟩
    case round =>
      clear H
      obtain ⟨k, hk, rfl, HT, H⟩ := hrel
      by_cases hlt : k < n
      · have hl1 : k < l.length := by rw [HL.out]; exact hlt
        have hm1 : k < m.length := by rw [HN.out]; exact hlt
        obtain ⟨b1, o1, rfl, hb1⟩ := ha.addr (by omega)
        obtain ⟨b2, o2, rfl, hb2⟩ := hb.addr (by omega)
        have hc1 := ha.cell hlt
        have hc2 := hb.cell hlt
        unfold elQ at hc1 hc2
        rw [getD_at hl1] at hc1
        rw [getD_at hm1] at hc2
        have hs1 := List.take_succ_eq_append_getElem hl1
        have hs2 := List.take_succ_eq_append_getElem hm1
        obtain ⟨⟨x, y⟩, hx⟩ : ∃ x, l[k] = x := ⟨_, rfl⟩
        obtain ⟨⟨z, t⟩, hz⟩ : ∃ z, m[k] = z := ⟨_, rfl⟩
        rw [hx] at hc1 hs1
        rw [hz] at hc2 hs2
        have kli : (k : Int) < (n : Int) := by omega
        by_cases he0 : (x, y) = (z, t)
        · injection he0 with e1 e2
          subst e1 e2
          have he := eqPD_yes x y
          have HS1 := Lib.hid hs1
          have HS2 := Lib.hid hs2
          clear hs1 hs2 hx hz
          go_wp2_with fail
          refine rg_begin 9 rfl (S := fun W => St _ _ W _) (by kernel_rfl) H.drew ?_
          replace H := H.drew
          have HS := H
          refine rg_take (i := 0) rfl kR kR kR (Yld.move rfl rfl) HS ?_; simp only [pS, pE]
          refine rg_take (i := 1) rfl kR kR kR (Yld.move rfl rfl) HS ?_; simp only [pS, pE]
          refine rg_take (i := 2) rfl kR kR kR (Yld.o rfl) HS ?_; simp only [pS]
          first | (refine rg_take (i := 3) rfl kR kR kR (Yld.ldor rfl rfl agg36 size36 rfl (by assumption) sZ (by assumption)) HS ?_; simp only [pS]) | (refine rg_take (i := 3) rfl kR kR kR (Yld.ldr rfl rfl agg36 size36 rfl mR sZ) HS ?_; simp only [pS]) | (refine rg_take (i := 3) rfl kR kR kR (Yld.ldl rfl rfl agg36 size36 rfl mR (by simp)) HS ?_; simp only [pS]; simp only [List.drop_succ_cons, List.drop_zero, List.take_succ_cons, List.take_zero])
          refine rg_take (i := 4) rfl kR kR kR (Yld.move rfl rfl) HS ?_; simp only [pS, pE]
          refine rg_take (i := 5) rfl kR kR kR (Yld.move rfl rfl) HS ?_; simp only [pS, pE]
          refine rg_take (i := 6) rfl kR kR kR (Yld.o rfl) HS ?_; simp only [pS]
          first | (refine rg_take (i := 7) rfl kR kR kR (Yld.ldor rfl rfl agg36 size36 rfl (by assumption) sZ (by assumption)) HS ?_; simp only [pS]) | (refine rg_take (i := 7) rfl kR kR kR (Yld.ldr rfl rfl agg36 size36 rfl mR sZ) HS ?_; simp only [pS]) | (refine rg_take (i := 7) rfl kR kR kR (Yld.ldl rfl rfl agg36 size36 rfl mR (by simp)) HS ?_; simp only [pS]; simp only [List.drop_succ_cons, List.drop_zero, List.take_succ_cons, List.take_zero])
          refine rg_take (i := 8) rfl kR kR kR (Yld.o rfl) HS ?_; simp only [pS]
          refine rg_done (by kernel_rfl) ?_
          go_wp2_with fail
          go_roundw
          case rel => exact ⟨k + 1, by omega, by go_num, Lib.hid (by rw [HS1.out, HS2.out, HT.out]), H⟩
          case measure => simp [intOf]; omega
        · have he := eqPD_no x y z t he0
          have hnn : ¬ l = m := fun e => he0 (by subst e; rw [← hx, ← hz])
          have hne : decide (l = m) = false := decide_eq_false hnn
          have HNE := Lib.hid hne
          clear hs1 hs2 hx hz hne hnn he0
          go_wp2_with fail
          refine rg_begin 9 rfl (S := fun W => St _ _ W _) (by kernel_rfl) H.drew ?_
          replace H := H.drew
          have HS := H
          refine rg_take (i := 0) rfl kR kR kR (Yld.move rfl rfl) HS ?_; simp only [pS, pE]
          refine rg_take (i := 1) rfl kR kR kR (Yld.move rfl rfl) HS ?_; simp only [pS, pE]
          refine rg_take (i := 2) rfl kR kR kR (Yld.o rfl) HS ?_; simp only [pS]
          first | (refine rg_take (i := 3) rfl kR kR kR (Yld.ldor rfl rfl agg36 size36 rfl (by assumption) sZ (by assumption)) HS ?_; simp only [pS]) | (refine rg_take (i := 3) rfl kR kR kR (Yld.ldr rfl rfl agg36 size36 rfl mR sZ) HS ?_; simp only [pS]) | (refine rg_take (i := 3) rfl kR kR kR (Yld.ldl rfl rfl agg36 size36 rfl mR (by simp)) HS ?_; simp only [pS]; simp only [List.drop_succ_cons, List.drop_zero, List.take_succ_cons, List.take_zero])
          refine rg_take (i := 4) rfl kR kR kR (Yld.move rfl rfl) HS ?_; simp only [pS, pE]
          refine rg_take (i := 5) rfl kR kR kR (Yld.move rfl rfl) HS ?_; simp only [pS, pE]
          refine rg_take (i := 6) rfl kR kR kR (Yld.o rfl) HS ?_; simp only [pS]
          first | (refine rg_take (i := 7) rfl kR kR kR (Yld.ldor rfl rfl agg36 size36 rfl (by assumption) sZ (by assumption)) HS ?_; simp only [pS]) | (refine rg_take (i := 7) rfl kR kR kR (Yld.ldr rfl rfl agg36 size36 rfl mR sZ) HS ?_; simp only [pS]) | (refine rg_take (i := 7) rfl kR kR kR (Yld.ldl rfl rfl agg36 size36 rfl mR (by simp)) HS ?_; simp only [pS]; simp only [List.drop_succ_cons, List.drop_zero, List.take_succ_cons, List.take_zero])
          refine rg_take (i := 8) rfl kR kR kR (Yld.o rfl) HS ?_; simp only [pS]
          refine rg_done (by kernel_rfl) ?_
          go_wp2_with fail
          go_ret
          exact ⟨_, rfl, by rw [HNE.out]; rfl, H.below⟩
      · obtain rfl : k = n := by omega
        have hE : decide (l = m) = true := by
          refine decide_eq_true ?_
          have := HT.out
          rw [List.take_of_length_le (by rw [HL.out]; omega), List.take_of_length_le (by rw [HN.out]; omega)] at this
          exact this
        have HE := Lib.hid hE
        clear hE
        go_wp2_with fail
        go_ret
        exact ⟨_, rfl, by rw [HE.out]; rfl, H.below⟩
  · have hd : decide (l = m) = false := decide_eq_false (fun e => hlen (by rw [e]))
    have HD := Lib.hid hd
    have hli : ((l.length : Int) != (m.length : Int)) = true := by simp; omega
    clear hd
    go_enter Try.func106, Try.ntmps106
    go_wp2_with fail
    go_ret
    exact ⟨_, rfl, by rw [HD.out]; rfl, H.below⟩
/-- One of some leaves: its header's cell, and what it reads as. -/
theorem LvG.at {G : Nat → Prop} {w : World} {a : Option Addr} {n c : Nat} {ls : List (List Pr)} (h : LvG G w (.slice a n c) ls) (hn : ls.length = n) {k : Nat} (hk : k < ls.length) :
    ∃ b off ak ck, a = some ⟨b, off, none⟩ ∧ b < w.heap.size ∧ w.cell? ⟨b, off + k, none⟩ = some (.slice ak ls[k].length ck) ∧ SlG G w 2 ls[k].length (.slice ak ls[k].length ck) (elQ ls[k]) := by
  obtain ⟨hd, h1, h2⟩ := h
  obtain ⟨a', c', e, hm, hE⟩ := h1
  obtain ⟨b, off, e2, hG, hb, hc⟩ := hE (by omega)
  injection e with e _ _
  have h3 := h2 k hk
  rw [getD_at hk] at h3
  obtain ⟨ak, ck, hs⟩ := h3.shape
  rw [hs] at h3
  refine ⟨b, off, ak, ck, e.trans e2, hb, ?_, h3⟩
  have := hc k hk 0 (by omega)
  rw [Nat.mul_one, Nat.add_zero] at this
  rw [this, ← hs]
  rfl
set_option maxRecDepth 100000 in
set_option maxHeartbeats 1000000 in
theorem lveq_ok {G1 G2 : Nat → Prop} (va vb : Value) (l m : List (List Pr)) (w : World) (ha : LvG G1 w va l) (hb : LvG G2 w vb m) :
    Calls Try.prog 107 #[va, vb, .func (.func 106) #[] #[]] w (Ret fun v w' => v = .bool (decide (l = m)) ∧ Below w.heap.size w w') := by
  have H := St.init w
  have ha' := ha
  have hb' := hb
  obtain ⟨_, h1, _⟩ := ha'
  obtain ⟨_, h2, _⟩ := hb'
  obtain ⟨aa, ca, rfl, hma, _⟩ := h1
  obtain ⟨ab, cb, rfl, hmb, _⟩ := h2
  unfold maxLen at hma hmb
  by_cases hlen : l.length = m.length
  · obtain ⟨n, hn⟩ : ∃ n, m.length = n := ⟨_, rfl⟩
    have hln : l.length = n := hlen.trans hn
    have HN := Lib.hid hn
    have HL := Lib.hid hln
    rw [hn] at hb hmb
    rw [hln] at ha hma
    simp only [hn, hln]
    clear hn hln hlen
    go_enter Try.func107, Try.ntmps107
    go_wp2_with (first | (with_reducible refine wpl rfl (ldQ (ty := 23) rfl ?_); first | (with_reducible refine (Stp.ldo rfl agg23 rfl H (by assumption) (by assumption) ?_); simp only [pS]) | (with_reducible refine (Stp.ldc rfl agg23 rfl H mR cE ?_); simp only [pS])))
    go_loopw [17] (fun i wr => ∃ k : Nat, k ≤ n ∧ i = .int .i64 k ∧ Hid (l.take k = m.take k) ∧ St w.heap.size w wr []) (fun i _ => n - (intOf i).toNat)
    case atStart => exact ⟨0, Nat.zero_le _, rfl, Lib.hid (by simp), H⟩
    case round =>
      clear H
      obtain ⟨k, hk, rfl, HT, H⟩ := hrel
      by_cases hlt : k < n
      · have hl1 : k < l.length := by rw [HL.out]; exact hlt
        have hm1 : k < m.length := by rw [HN.out]; exact hlt
        obtain ⟨b1, o1, a1, c1, rfl, hb1, hc1, hs1⟩ := ha.at HL.out hl1
        obtain ⟨b2, o2, a2, c2, rfl, hb2, hc2, hs2⟩ := hb.at HN.out hm1
        have ht1 := List.take_succ_eq_append_getElem hl1
        have ht2 := List.take_succ_eq_append_getElem hm1
        obtain ⟨x, hx⟩ : ∃ x, l[k] = x := ⟨_, rfl⟩
        obtain ⟨z, hz⟩ : ∃ z, m[k] = z := ⟨_, rfl⟩
        rw [hx] at hc1 ht1 hs1
        rw [hz] at hc2 ht2 hs2
        have kli : (k : Int) < (n : Int) := by omega
        have HT1 := Lib.hid ht1
        have HT2 := Lib.hid ht2
        by_cases he0 : x = z
        · have hE : decide (x = z) = true := decide_eq_true he0
          have HE := Lib.hid hE
          have HX := Lib.hid he0
          clear ht1 ht2 hx hz hE he0
          go_wp2_with (first | (go_at_call 106; (with_reducible refine (peq_ok _ _ x z _ (hs1.sl.grow H.below) (hs2.sl.grow H.below)).mono ?_); rintro e w1 ⟨v, rfl, hr⟩; obtain ⟨rfl, hb1⟩ := hr; replace H := H.grow hb1; clear hb1; rw [HE.out]) | (with_reducible refine wpl rfl (ldQ (ty := 23) rfl ?_); first | (with_reducible refine (Stp.ldo rfl agg23 rfl H (by assumption) (by assumption) ?_); simp only [pS]) | (with_reducible refine (Stp.ldc rfl agg23 rfl H mR cE ?_); simp only [pS])))
          go_roundw
          case rel => exact ⟨k + 1, by omega, by go_num, Lib.hid (by rw [HT1.out, HT2.out, HT.out, HX.out]), H⟩
          case measure => simp [intOf]; omega
        · have hnn : ¬ l = m := fun e => he0 (by subst e; rw [← hx, ← hz])
          have HNE := Lib.hid (decide_eq_false hnn)
          have HE := Lib.hid (decide_eq_false he0)
          clear ht1 ht2 hx hz hnn he0
          go_wp2_with (first | (go_at_call 106; (with_reducible refine (peq_ok _ _ x z _ (hs1.sl.grow H.below) (hs2.sl.grow H.below)).mono ?_); rintro e w1 ⟨v, rfl, hr⟩; obtain ⟨rfl, hb1⟩ := hr; replace H := H.grow hb1; clear hb1; rw [HE.out]) | (with_reducible refine wpl rfl (ldQ (ty := 23) rfl ?_); first | (with_reducible refine (Stp.ldo rfl agg23 rfl H (by assumption) (by assumption) ?_); simp only [pS]) | (with_reducible refine (Stp.ldc rfl agg23 rfl H mR cE ?_); simp only [pS])))
          go_ret
          exact ⟨_, rfl, by rw [HNE.out]; rfl, H.below⟩
      · obtain rfl : k = n := by omega
        have hE : decide (l = m) = true := by
          refine decide_eq_true ?_
          have := HT.out
          rw [List.take_of_length_le (by rw [HL.out]; omega), List.take_of_length_le (by rw [HN.out]; omega)] at this
          exact this
        have HE := Lib.hid hE
        clear hE
        go_wp2_with (first | (with_reducible refine wpl rfl (ldQ (ty := 23) rfl ?_); first | (with_reducible refine (Stp.ldo rfl agg23 rfl H (by assumption) (by assumption) ?_); simp only [pS]) | (with_reducible refine (Stp.ldc rfl agg23 rfl H mR cE ?_); simp only [pS])))
        go_ret
        exact ⟨_, rfl, by rw [HE.out]; rfl, H.below⟩
  · have hd : decide (l = m) = false := decide_eq_false (fun e => hlen (by rw [e]))
    have HD := Lib.hid hd
    have hli : ((l.length : Int) != (m.length : Int)) = true := by simp; omega
    clear hd
    go_enter Try.func107, Try.ntmps107
    go_wp2_with (first | (with_reducible refine wpl rfl (ldQ (ty := 23) rfl ?_); first | (with_reducible refine (Stp.ldo rfl agg23 rfl H (by assumption) (by assumption) ?_); simp only [pS]) | (with_reducible refine (Stp.ldc rfl agg23 rfl H mR cE ?_); simp only [pS])))
    go_ret
    exact ⟨_, rfl, by rw [HD.out]; rfl, H.below⟩
end Go.Proofs.Ytjghcmejmdllbaa
