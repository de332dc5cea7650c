/- Views and commands in memory: what they read as, on which blocks; no condition. -/
import Derived.Test.YtjghcmejmdllbaaPidL
import Derived.Test.YtjghcmejmdllbaaStr
import Derived.Test.YtjghcmejmdllbaaClone
import Derived.Test.YtjghcmejmdllbaaOpen
import Derived.Test.YtjghcmejmdllbaaWords
namespace Go.Proofs.Ytjghcmejmdllbaa
open Go.ChangeShapes Go.WideShapes Go.ChangeAt Go.RowKit Go.Maps
set_option linter.unusedVariables false
set_option linter.unusedSimpArgs false
/-! ### A slice that is only read, on some blocks -/
/-- As Sl, and it lies on a block of G. -/
def SlG (G : Nat → Prop) (w : World) (size n : Nat) (v : Value) (E : Nat → Array Value) : Prop :=
  ∃ a c, v = .slice a n c ∧ n ≤ maxLen ∧ (0 < n → ∃ b off, a = some ⟨b, off, none⟩ ∧ G b ∧ b < w.heap.size ∧ ∀ i, i < n → ∀ j, j < size → w.cell? ⟨b, off + i * size + j, none⟩ = (E i)[j]?)
theorem SlG.sl {G : Nat → Prop} {w : World} {size n : Nat} {v : Value} {E : Nat → Array Value} (h : SlG G w size n v E) : Sl w size n v E := by
  obtain ⟨a, c, rfl, hm, hE⟩ := h
  refine ⟨a, c, rfl, hm, fun h0 => ?_⟩
  obtain ⟨b, off, e, _, hb, hc⟩ := hE h0
  exact ⟨b, off, e, hb, hc⟩
theorem SlG.of_sl {w : World} {size n : Nat} {v : Value} {E : Nat → Array Value} (h : Sl w size n v E) : SlG (fun b => b < w.heap.size) w size n v E := by
  obtain ⟨a, c, rfl, hm, hE⟩ := h
  refine ⟨a, c, rfl, hm, fun h0 => ?_⟩
  obtain ⟨b, off, e, hb, hc⟩ := hE h0
  exact ⟨b, off, e, hb, hb, hc⟩
theorem cell_heap {w w' : World} {b : Nat} (h : w'.heap[b]? = w.heap[b]?) (off : Nat) : w'.cell? ⟨b, off, none⟩ = w.cell? ⟨b, off, none⟩ := by
  unfold World.cell?; rw [h]
theorem lt_heap {w w' : World} {b : Nat} (h : w'.heap[b]? = w.heap[b]?) (hb : b < w.heap.size) : b < w'.heap.size := by
  rw [Array.getElem?_eq_getElem hb] at h
  exact (Array.getElem?_eq_some_iff.1 h).1
theorem SlG.loc {G : Nat → Prop} {w w' : World} {size n : Nat} {v : Value} {E : Nat → Array Value} (hg : ∀ g, G g → w'.heap[g]? = w.heap[g]?) (h : SlG G w size n v E) : SlG G w' size n v E := by
  obtain ⟨a, c, rfl, hm, hE⟩ := h
  refine ⟨a, c, rfl, hm, fun h0 => ?_⟩
  obtain ⟨b, off, e, hG, hb, hc⟩ := hE h0
  exact ⟨b, off, e, hG, lt_heap (hg b hG) hb, fun i hi j hj => (cell_heap (hg b hG) _).trans (hc i hi j hj)⟩
theorem SlG.mono {G G' : Nat → Prop} {w : World} {size n : Nat} {v : Value} {E : Nat → Array Value} (hg : ∀ g, G g → G' g) (h : SlG G w size n v E) : SlG G' w size n v E := by
  obtain ⟨a, c, rfl, hm, hE⟩ := h
  refine ⟨a, c, rfl, hm, fun h0 => ?_⟩
  obtain ⟨b, off, e, hG, hb, hc⟩ := hE h0
  exact ⟨b, off, e, hg b hG, hb, hc⟩
theorem SlG.grow {G : Nat → Prop} {w w' : World} {size n : Nat} {v : Value} {E : Nat → Array Value} (h : SlG G w size n v E) (hb : Below w.heap.size w w') : SlG G w' size n v E := by
  obtain ⟨a, c, rfl, hm, hE⟩ := h
  refine ⟨a, c, rfl, hm, fun h0 => ?_⟩
  obtain ⟨b, off, e, hG, hlt, hc⟩ := hE h0
  exact ⟨b, off, e, hG, Nat.lt_of_lt_of_le hlt hb.size, fun i hi j hj => (cell_heap (hb.block b hlt) _).trans (hc i hi j hj)⟩
theorem SlG.shape {G : Nat → Prop} {w : World} {size n : Nat} {v : Value} {E : Nat → Array Value} (h : SlG G w size n v E) : ∃ a c, v = .slice a n c := by
  obtain ⟨a, c, rfl, _⟩ := h; exact ⟨a, c, rfl⟩
theorem SlG.nil (G : Nat → Prop) (w : World) (size : Nat) (E : Nat → Array Value) : SlG G w size 0 (.slice none 0 0) E := ⟨none, 0, rfl, by simp [maxLen], fun h => absurd h (Nat.lt_irrefl _)⟩
theorem SlG.below {G : Nat → Prop} {w : World} {size n : Nat} {v : Value} {E : Nat → Array Value} (h : SlG G w size n v E) : SlG (fun g => G g ∧ g < w.heap.size) w size n v E := by
  obtain ⟨a, c, rfl, hm, hE⟩ := h
  refine ⟨a, c, rfl, hm, fun h0 => ?_⟩
  obtain ⟨b, off, e, hG, hb, hc⟩ := hE h0
  exact ⟨b, off, e, ⟨hG, hb⟩, hb, hc⟩
/-- A slice of the call's own, as one that is read. -/
theorem SlG.of_own {w : World} {b : Nat} {e : TypeId} {size : Nat} {v : Value} {n : Nat} {xs : List Value} {E : Nat → Array Value} (h : w.ownsRow b e size v n xs) (hE : ∀ i, i < n → ∀ j, j < size → xs[i * size + j]? = (E i)[j]?) (hm : n ≤ maxLen) : SlG (fun g => v.ownBlock = some g) w size n v E := by
  obtain ⟨a, c, rfl, hm, hc⟩ := Sl.of_ownN h hE hm
  refine ⟨a, c, rfl, hm, fun h0 => ?_⟩
  obtain ⟨b', off, rfl, hb, hc⟩ := hc h0
  refine ⟨b', off, rfl, ?_, hb, hc⟩
  rcases h.2 with ⟨hv, h00⟩ | ⟨g, cap, cur, hv, _⟩
  · omega
  · injection hv with e1 _ _
    injection e1 with e1
    injection e1 with e1
    subst e1
    rfl
/-! ### Views and commands -/
abbrev Pr := Nat × Nat
structure Vw where
  id : Nat
  mem : List Pr
  lvs : List (List Pr)
  ldr : List Pr
structure Cm where
  kind : Int
  fr : Pr
  num : Nat
  vw : Nat
  data : List Nat
  v : Vw
def vw0 : Vw := ⟨0, [], [], []⟩
def cm0 : Cm := ⟨0, (0, 0), 0, 0, [], vw0⟩
/-- What any view that is read has. -/
structure wfV (x : Vw) : Prop where
  id : x.id < 18446744073709551616
  mem : okPids x.mem
  lvs : ∀ l ∈ x.lvs, okPids l
  ldr : okPids x.ldr
structure wfC (c : Cm) : Prop where
  fr1 : c.fr.1 < 65536
  fr2 : c.fr.2 < 4294967296
  num : c.num < 18446744073709551616
  vw : c.vw < 18446744073709551616
  data : ∀ x ∈ c.data, x < 256
  v : wfV c.v
/-- Leaves: a slice of slices. -/
def LvG (G : Nat → Prop) (w : World) (v : Value) (ls : List (List Pr)) : Prop :=
  ∃ hd : Nat → Value, SlG G w 1 ls.length v (fun i => #[hd i]) ∧ ∀ i, i < ls.length → SlG G w 2 (ls.getD i []).length (hd i) (elQ (ls.getD i []))
def VwG (G : Nat → Prop) (w : World) (va vl vd : Value) (x : Vw) : Prop := SlG G w 2 x.mem.length va (elQ x.mem) ∧ LvG G w vl x.lvs ∧ SlG G w 2 x.ldr.length vd (elQ x.ldr)
def CmG (G : Nat → Prop) (w : World) (vb va vl vd : Value) (c : Cm) : Prop := SlG G w 1 c.data.length vb (elB c.data) ∧ VwG G w va vl vd c.v
theorem LvG.loc {G : Nat → Prop} {w w' : World} {v : Value} {ls : List (List Pr)} (hg : ∀ g, G g → w'.heap[g]? = w.heap[g]?) (h : LvG G w v ls) : LvG G w' v ls := by
  obtain ⟨hd, h1, h2⟩ := h
  exact ⟨hd, h1.loc hg, fun i hi => (h2 i hi).loc hg⟩
theorem LvG.mono {G G' : Nat → Prop} {w : World} {v : Value} {ls : List (List Pr)} (hg : ∀ g, G g → G' g) (h : LvG G w v ls) : LvG G' w v ls := by
  obtain ⟨hd, h1, h2⟩ := h
  exact ⟨hd, h1.mono hg, fun i hi => (h2 i hi).mono hg⟩
theorem LvG.grow {G : Nat → Prop} {w w' : World} {v : Value} {ls : List (List Pr)} (h : LvG G w v ls) (hb : Below w.heap.size w w') : LvG G w' v ls := by
  obtain ⟨hd, h1, h2⟩ := h
  exact ⟨hd, h1.grow hb, fun i hi => (h2 i hi).grow hb⟩
theorem LvG.nil (G : Nat → Prop) (w : World) : LvG G w (.slice none 0 0) [] := ⟨fun _ => undef, SlG.nil _ _ _ _, fun i h => absurd h (Nat.not_lt_zero _)⟩
theorem VwG.loc {G : Nat → Prop} {w w' : World} {va vl vd : Value} {x : Vw} (hg : ∀ g, G g → w'.heap[g]? = w.heap[g]?) (h : VwG G w va vl vd x) : VwG G w' va vl vd x := ⟨h.1.loc hg, h.2.1.loc hg, h.2.2.loc hg⟩
theorem VwG.mono {G G' : Nat → Prop} {w : World} {va vl vd : Value} {x : Vw} (hg : ∀ g, G g → G' g) (h : VwG G w va vl vd x) : VwG G' w va vl vd x := ⟨h.1.mono hg, h.2.1.mono hg, h.2.2.mono hg⟩
theorem VwG.grow {G : Nat → Prop} {w w' : World} {va vl vd : Value} {x : Vw} (h : VwG G w va vl vd x) (hb : Below w.heap.size w w') : VwG G w' va vl vd x := ⟨h.1.grow hb, h.2.1.grow hb, h.2.2.grow hb⟩
theorem VwG.nil (G : Nat → Prop) (w : World) (n : Nat) : VwG G w (.slice none 0 0) (.slice none 0 0) (.slice none 0 0) ⟨n, [], [], []⟩ := ⟨SlG.nil _ _ _ _, LvG.nil _ _, SlG.nil _ _ _ _⟩
theorem CmG.loc {G : Nat → Prop} {w w' : World} {vb va vl vd : Value} {c : Cm} (hg : ∀ g, G g → w'.heap[g]? = w.heap[g]?) (h : CmG G w vb va vl vd c) : CmG G w' vb va vl vd c := ⟨h.1.loc hg, h.2.loc hg⟩
theorem CmG.mono {G G' : Nat → Prop} {w : World} {vb va vl vd : Value} {c : Cm} (hg : ∀ g, G g → G' g) (h : CmG G w vb va vl vd c) : CmG G' w vb va vl vd c := ⟨h.1.mono hg, h.2.mono hg⟩
theorem CmG.grow {G : Nat → Prop} {w w' : World} {vb va vl vd : Value} {c : Cm} (h : CmG G w vb va vl vd c) (hb : Below w.heap.size w w') : CmG G w' vb va vl vd c := ⟨h.1.grow hb, h.2.grow hb⟩
theorem CmG.nil (G : Nat → Prop) (w : World) (k : Int) : CmG G w (.slice none 0 0) (.slice none 0 0) (.slice none 0 0) (.slice none 0 0) ⟨k, (0, 0), 0, 0, [], vw0⟩ := ⟨SlG.nil _ _ _ _, VwG.nil _ _ _⟩
/-- When two views, two commands are one. -/
def vSame (x y : Vw) : Bool := decide (x.id = y.id) && decide (x.mem = y.mem) && decide (x.lvs = y.lvs) && decide (x.ldr = y.ldr)
def cSame (c d : Cm) : Bool := decide (c.kind = d.kind) && decide (c.fr = d.fr) && decide (c.num = d.num) && decide (c.vw = d.vw) && decide (c.data = d.data) && vSame c.v d.v
theorem vSame_iff {x y : Vw} : vSame x y = true ↔ x = y := by
  cases x; cases y; simp [vSame, and_assoc]
theorem cSame_iff {c d : Cm} : cSame c d = true ↔ c = d := by
  cases c; cases d; simp [cSame, vSame_iff, and_assoc]
/-- Their cells. -/
abbrev vwC (x : Vw) (ma la da : Option Addr) (mc lc dc : Nat) : Array Value := #[.int .u64 (x.id : Int), .slice ma x.mem.length mc, .slice la x.lvs.length lc, .slice da x.ldr.length dc]
abbrev cmC (c : Cm) (ba ma la da : Option Addr) (bc mc lc dc : Nat) : Array Value := #[.int .i64 c.kind, .int .u16 (c.fr.1 : Int), .int .u32 (c.fr.2 : Int), .int .u64 (c.num : Int), .int .u64 (c.vw : Int), .slice ba c.data.length bc, .int .u64 (c.v.id : Int), .slice ma c.v.mem.length mc, .slice la c.v.lvs.length lc, .slice da c.v.ldr.length dc]
end Go.Proofs.Ytjghcmejmdllbaa
