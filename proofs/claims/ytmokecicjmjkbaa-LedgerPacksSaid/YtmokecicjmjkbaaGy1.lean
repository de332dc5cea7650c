/- A small logic of owned memory over the model's own 'wpList': what a call makes is listed as resources; each operation's rule says how the list turns. No condition: plain laws over any program. -/
import Derived.WalkKit
import Derived.ProofKit
import Derived.OpenShut
import Derived.WalkLawsBesides
import Derived.WalkSpells
import Derived.Deep.QuietTactic
import Derived.BigQuiet
import Derived.Deep.RegionHeld3
import Derived.Lib.Hide
import Derived.StillTail
namespace Go.Proofs.Ytmokecicjmjkbaa
open Go.ChangeShapes Go.WideShapes Go.ChangeAt Go.RowKit
/-- The cells of block g (none: it is no unfrozen row of cells). -/
def rowAt (w : World) (g : Nat) : Option (Array Value) := match w.heap[g]? with | some (.cells cs _ (0, 0)) => some cs | _ => none
theorem rowAt_some {w : World} {g : Nat} {cs : Array Value} (h : rowAt w g = some cs) : ∃ t, w.heap[g]? = some (.cells cs t (0, 0)) := by
  unfold rowAt at h; split at h <;> simp_all
theorem rowAt_of {w : World} {g : Nat} {cs : Array Value} {t : TypeId} (h : w.heap[g]? = some (.cells cs t (0, 0))) : rowAt w g = some cs := by
  unfold rowAt; simp only [h]
theorem rowAt_lt {w : World} {g : Nat} {cs : Array Value} (h : rowAt w g = some cs) : g < w.heap.size := by
  obtain ⟨t, ht⟩ := rowAt_some h; exact (Array.getElem?_eq_some_iff.1 ht).1
theorem cell_of_rowAt {w : World} {g : Nat} {cs : Array Value} (h : rowAt w g = some cs) (j : Nat) : w.cell? ⟨g, j, none⟩ = cs[j]? := by
  obtain ⟨t, ht⟩ := rowAt_some h; exact cell_of_row w g j cs t _ ht
theorem frozen_of_rowAt {w : World} {g : Nat} {cs : Array Value} (h : rowAt w g = some cs) (j : Nat) : w.frozen? ⟨g, j, none⟩ = false := by
  obtain ⟨t, ht⟩ := rowAt_some h; exact frozen_of_row w g j cs t ht
/-- Which blocks it lies on, and what it says of them. -/
abbrev Res := (Nat → Prop) × (World → Prop)
/-- It hangs on its own blocks alone. -/
def Loc (r : Res) : Prop := ∀ w1 w2 : World, (∀ g, r.1 g → w2.heap[g]? = w1.heap[g]?) → r.2 w1 → r.2 w2
/-- Block g holds the cells cs, of type t. -/
def row (t : TypeId) (g : Nat) (cs : Array Value) : Res := (fun k => some g = some k, fun w => w.heap[g]? = some (.cells cs t (0, 0)))
/-- The slice v of n elements (of 'size' cells each) is nil, or owns a row whose first cells are xs. -/
def slc (e : TypeId) (size : Nat) (v : Value) (n : Nat) (xs : List Value) : Res := (fun k => v.ownBlock = some k, fun w => w.ownsRow 0 e size v n xs)

/-- A resource holds, hangs on its own blocks alone, and they are there. -/
structure Sound (r : Res) (w : World) : Prop where
  here : r.2 w
  lt : ∀ g, r.1 g → g < w.heap.size
  loc : Loc r

theorem row_sound {w : World} {t : TypeId} {g : Nat} {cs : Array Value} (h : w.heap[g]? = some (.cells cs t (0, 0))) : Sound (row t g cs) w :=
  ⟨h, fun k hk => by cases hk; exact rowAt_lt (rowAt_of h), fun _ _ hb h1 => (hb g rfl).trans h1⟩
theorem ownsRow_loc {w1 w2 : World} {b : Nat} {e : TypeId} {size : Nat} {v : Value} {n : Nat} {xs : List Value} (hb : ∀ g, v.ownBlock = some g → w2.heap[g]? = w1.heap[g]?) (h : w1.ownsRow b e size v n xs) : w2.ownsRow b e size v n xs := by
  refine ⟨h.1, ?_⟩
  rcases h.2 with h2 | ⟨g, cap, cur, rfl, h3, h4, r⟩
  · exact .inl h2
  · exact .inr ⟨g, cap, cur, rfl, h3, (hb g rfl).trans h4, r⟩
theorem slc_loc (e : TypeId) (size : Nat) (v : Value) (n : Nat) (xs : List Value) : Loc (slc e size v n xs) := fun _ _ hb h1 => ownsRow_loc hb h1
theorem slc_sound {w : World} {b : Nat} {e : TypeId} {size : Nat} {v : Value} {n : Nat} {xs : List Value} (h : w.ownsRow b e size v n xs) : Sound (slc e size v n xs) w :=
  ⟨⟨h.1, h.2.imp id fun ⟨g, cap, cur, h1, _, h3⟩ => ⟨g, cap, cur, h1, Nat.zero_le _, h3⟩⟩, fun k hk => (h.lt k hk).2, slc_loc _ _ _ _ _⟩
theorem ownsRow_base {w : World} {b b' : Nat} {e : TypeId} {size : Nat} {v : Value} {n : Nat} {xs : List Value} (h : w.ownsRow b e size v n xs) (hb : ∀ g, v.ownBlock = some g → b' ≤ g) : w.ownsRow b' e size v n xs :=
  ⟨h.1, h.2.imp id fun ⟨g, cap, cur, h1, _, h3⟩ => ⟨g, cap, cur, h1, hb g (by rw [h1]; rfl), h3⟩⟩

/-- The world has grown, and what was there and isn't of D is as it was. -/
structure Grew (D : Nat → Prop) (w w' : World) : Prop where
  os : w'.os = w.os
  tape : w'.tape = w.tape
  output : w'.output = w.output
  size : w.heap.size ≤ w'.heap.size
  block : ∀ k, k < w.heap.size → ¬ D k → w'.heap[k]? = w.heap[k]?
theorem Grew.refl (D : Nat → Prop) (w : World) : Grew D w w := ⟨rfl, rfl, rfl, Nat.le_refl _, fun _ _ _ => rfl⟩
theorem Grew.of_by {w w' : World} {r : Option Nat} (h : w.grownBy w' r) : Grew (fun k => r = some k) w w' := ⟨h.os, h.tape, h.output, h.size, fun k hk hn => h.block k hk (fun e => hn e.symm)⟩
theorem Grew.of_below {D : Nat → Prop} {w w' : World} (h : Below w.heap.size w w') : Grew D w w' := ⟨h.os, h.tape, h.output, h.size, fun k hk _ => h.block k hk⟩

/-- THE STATE OF A WALK: below B all is as it was in w0; what is listed holds, each on blocks of its own from B on. -/
structure St (B : Nat) (w0 w : World) (L : List Res) : Prop where
  below : Below B w0 w
  size : B ≤ w.heap.size
  sound : ∀ r ∈ L, Sound r w
  base : ∀ r ∈ L, ∀ g, r.1 g → B ≤ g
  apart : L.Pairwise fun r s => ∀ g, r.1 g → ¬ s.1 g

theorem St.init (w : World) : St w.heap.size w w [] := ⟨Below.refl _ _, Nat.le_refl _, by simp, by simp, .nil⟩
theorem St.get {B : Nat} {w0 w : World} {L : List Res} {r : Res} (H : St B w0 w L) (h : r ∈ L) : r.2 w := (H.sound r h).here
theorem St.getHeap {B : Nat} {w0 w : World} {L : List Res} {t : TypeId} {g : Nat} {cs : Array Value} (H : St B w0 w L) (h : row t g cs ∈ L) : w.heap[g]? = some (.cells cs t (0, 0)) := H.get h
theorem St.getRow {B : Nat} {w0 w : World} {L : List Res} {t : TypeId} {g : Nat} {cs : Array Value} (H : St B w0 w L) (h : row t g cs ∈ L) : rowAt w g = some cs := rowAt_of (H.get h)
theorem St.getSlc {B : Nat} {w0 w : World} {L : List Res} {e : TypeId} {size : Nat} {v : Value} {n : Nat} {xs : List Value} (H : St B w0 w L) (h : slc e size v n xs ∈ L) : w.ownsRow B e size v n xs :=
  ownsRow_base (H.get h) (H.base _ h)
theorem Sound.keep {r : Res} {w w' : World} (h : Sound r w) (hs : w.heap.size ≤ w'.heap.size) (hb : ∀ g, r.1 g → w'.heap[g]? = w.heap[g]?) : Sound r w' :=
  ⟨h.loc w w' hb h.here, fun g hg => Nat.lt_of_lt_of_le (h.lt g hg) hs, h.loc⟩
/-- Nothing that was there has turned. -/
theorem St.grow {B : Nat} {w0 w w' : World} {L : List Res} (H : St B w0 w L) (hb : Below w.heap.size w w') : St B w0 w' L :=
  ⟨H.below.trans (hb.mono H.size), Nat.le_trans H.size hb.size, fun r hr => (H.sound r hr).keep hb.size (fun g hg => hb.block g ((H.sound r hr).lt g hg)), H.base, H.apart⟩
/-- Nothing that was there has turned, and there is a new resource (on new blocks). -/
theorem St.new {B : Nat} {w0 w w' : World} {L : List Res} (H : St B w0 w L) (hb : Below w.heap.size w w') {r : Res} (hr : Sound r w') (hn : ∀ g, r.1 g → w.heap.size ≤ g) : St B w0 w' (r :: L) := by
  have H' := H.grow hb
  refine ⟨H'.below, H'.size, ?_, ?_, ?_⟩
  · intro x hx
    rcases List.mem_cons.1 hx with rfl | hx
    · exact hr
    · exact H'.sound x hx
  · intro x hx
    rcases List.mem_cons.1 hx with rfl | hx
    · intro g hg; exact Nat.le_trans H.size (hn g hg)
    · exact H'.base x hx
  · refine List.pairwise_cons.2 ⟨fun s hs g hg hsg => ?_, H.apart⟩
    have h1 := (H.sound s hs).lt g hsg
    have h2 := hn g hg
    omega
theorem St.alloc {B : Nat} {w0 w : World} {L : List Res} (H : St B w0 w L) (cs : Array Value) (t : TypeId) : St B w0 (w.alloc (.cells cs t)) (row t w.heap.size cs :: L) :=
  H.new ((Below.refl _ _).alloc (Nat.le_refl _) _) (row_sound (heap_alloc_new w _)) (fun g hg => by cases hg; exact Nat.le_refl _)
theorem St.drew {B : Nat} {w0 w : World} {L : List Res} (H : St B w0 w L) : St B w0 w.drew L := H.grow (Below.refl _ _).drew

/-- L' is L with r' in r's place. -/
def Upd (L : List Res) (r r' : Res) (L' : List Res) : Prop := ∃ A C, L = A ++ r :: C ∧ L' = A ++ r' :: C
theorem Upd.head {L : List Res} {r r' : Res} : Upd (r :: L) r r' (r' :: L) := ⟨[], L, rfl, rfl⟩
theorem Upd.tail {L L' : List Res} {r r' x : Res} (h : Upd L r r' L') : Upd (x :: L) r r' (x :: L') := by
  obtain ⟨A, C, rfl, rfl⟩ := h; exact ⟨x :: A, C, rfl, rfl⟩
theorem Upd.mem {L L' : List Res} {r r' : Res} (h : Upd L r r' L') : r ∈ L := by
  obtain ⟨A, C, rfl, rfl⟩ := h; simp
theorem apart_symm {r s : Res} (h : ∀ g, r.1 g → ¬ s.1 g) : ∀ g, s.1 g → ¬ r.1 g := fun g hs hr => h g hr hs
theorem St.perm {B : Nat} {w0 w : World} {L L' : List Res} (H : St B w0 w L) (h : L.Perm L') : St B w0 w L' :=
  ⟨H.below, H.size, fun r hr => H.sound r (h.mem_iff.2 hr), fun r hr => H.base r (h.mem_iff.2 hr), (List.Perm.pairwise_iff (fun {_ _} => apart_symm) h).1 H.apart⟩
/-- L is r and L'. -/
def Pull (L : List Res) (r : Res) (L' : List Res) : Prop := L.Perm (r :: L')
theorem Pull.head {L : List Res} {r : Res} : Pull (r :: L) r L := .refl _
theorem Pull.tail {L L' : List Res} {r x : Res} (h : Pull L r L') : Pull (x :: L) r (x :: L') := (h.cons x).trans (.swap _ _ _)
theorem St.pull {B : Nat} {w0 w : World} {L L' : List Res} {r : Res} (H : St B w0 w L) (h : Pull L r L') : St B w0 w (r :: L') := H.perm h
/-- The first resource's blocks may have been written, new blocks may have come; what stands in its place lies on the same blocks, or on new ones. -/
theorem St.upd1 {B : Nat} {w0 w w' : World} {L : List Res} {r r' : Res} (H : St B w0 w (r :: L)) (hg : Grew r.1 w w') (hr : Sound r' w') (hn : ∀ g, r'.1 g → r.1 g ∨ w.heap.size ≤ g) : St B w0 w' (r' :: L) := by
  have hB : Below B w0 w' := H.below.trans ⟨hg.os, hg.tape, hg.output, hg.size, fun k hk => hg.block k (Nat.lt_of_lt_of_le hk H.size) (fun h => by have := H.base r List.mem_cons_self k h; omega)⟩
  obtain ⟨ha, hp⟩ := List.pairwise_cons.1 H.apart
  have keep : ∀ x, x ∈ L → Sound x w' := fun x hx => by
    have hs := H.sound x (List.mem_cons_of_mem _ hx)
    exact hs.keep hg.size (fun g hxg => hg.block g (hs.lt g hxg) (fun e => ha x hx g e hxg))
  refine ⟨hB, Nat.le_trans H.size hg.size, ?_, ?_, ?_⟩
  · intro x hx
    rcases List.mem_cons.1 hx with rfl | hx
    · exact hr
    · exact keep x hx
  · intro x hx g hxg
    rcases List.mem_cons.1 hx with rfl | hx
    · rcases hn g hxg with h | h
      · exact H.base r List.mem_cons_self g h
      · exact Nat.le_trans H.size h
    · exact H.base x (List.mem_cons_of_mem _ hx) g hxg
  · refine List.pairwise_cons.2 ⟨fun s hs g hg1 hsg => ?_, hp⟩
    rcases hn g hg1 with h | h
    · exact ha s hs g h hsg
    · have := (H.sound s (List.mem_cons_of_mem _ hs)).lt g hsg
      omega
/-- One resource's blocks may have been written, new blocks may have come; the resource that stands in its place lies on the same blocks, or on new ones, or on none. -/
theorem St.upd {B : Nat} {w0 w w' : World} {L L' : List Res} {r r' : Res} (H : St B w0 w L) (hu : Upd L r r' L') (hg : Grew r.1 w w') (hr : Sound r' w')
    (hn : ∀ g, r'.1 g → r.1 g ∨ w.heap.size ≤ g) : St B w0 w' L' := by
  obtain ⟨A, C, rfl, rfl⟩ := hu
  exact ((H.perm List.perm_middle).upd1 hg hr hn).perm List.perm_middle.symm
/-- A nil slice is of the call's own. -/
theorem St.nil {B : Nat} {w0 w : World} {L : List Res} (e : TypeId) (size : Nat) (H : St B w0 w L) : St B w0 w (slc e size (.slice none 0 0) 0 [] :: L) :=
  H.new (Below.refl _ _) (slc_sound (World.ownsRow_nil w 0 e size)) (fun g hg => by cases hg)
/-- What is no longer wanted is left out. -/
theorem St.sub {B : Nat} {w0 w : World} {L L' : List Res} (H : St B w0 w L) (h : L'.Sublist L) : St B w0 w L' :=
  ⟨H.below, H.size, fun r hr => H.sound r (h.subset hr), fun r hr => H.base r (h.subset hr), H.apart.sublist h⟩
theorem St.tl {B : Nat} {w0 w : World} {L : List Res} {r : Res} (H : St B w0 w (r :: L)) : St B w0 w L := H.sub (List.sublist_cons_self _ _)
theorem grownBy_setRow (w : World) (g : Nat) (cs : Array Value) : Grew (fun k => some g = some k) w (w.setRow g cs) :=
  ⟨rfl, rfl, rfl, by simp, fun k _ hk => setRow_other w g k cs (fun e => hk (by rw [e]))⟩
/-- Two resources as one. -/
def star (r s : Res) : Res := (fun g => r.1 g ∨ s.1 g, fun w => r.2 w ∧ s.2 w)
theorem star_loc {r s : Res} (hr : Loc r) (hs : Loc s) : Loc (star r s) := fun w1 w2 hb h => ⟨hr w1 w2 (fun g hg => hb g (.inl hg)) h.1, hs w1 w2 (fun g hg => hb g (.inr hg)) h.2⟩
theorem St.join {B : Nat} {w0 w : World} {L : List Res} {r s : Res} (H : St B w0 w (r :: s :: L)) : St B w0 w (star r s :: L) := by
  have hr := H.sound r List.mem_cons_self
  have hs := H.sound s (List.mem_cons_of_mem _ List.mem_cons_self)
  obtain ⟨ha, hp⟩ := List.pairwise_cons.1 H.apart
  obtain ⟨hb, hq⟩ := List.pairwise_cons.1 hp
  refine ⟨H.below, H.size, ?_, ?_, List.pairwise_cons.2 ⟨fun x hx g hg => ?_, hq⟩⟩
  · intro x hx
    rcases List.mem_cons.1 hx with rfl | hx
    · exact ⟨⟨hr.here, hs.here⟩, fun g hg => hg.elim (hr.lt g) (hs.lt g), star_loc hr.loc hs.loc⟩
    · exact H.sound x (List.mem_cons_of_mem _ (List.mem_cons_of_mem _ hx))
  · intro x hx
    rcases List.mem_cons.1 hx with rfl | hx
    · exact fun g hg => hg.elim (H.base r List.mem_cons_self g) (H.base s (List.mem_cons_of_mem _ List.mem_cons_self) g)
    · exact H.base x (List.mem_cons_of_mem _ (List.mem_cons_of_mem _ hx))
  · exact hg.elim (ha x (List.mem_cons_of_mem _ hx) g) (hb x hx g)
theorem St.emp {B : Nat} {w0 w : World} {L : List Res} {p : World → Prop} (hp : ∀ w, p w) (H : St B w0 w L) : St B w0 w ((fun _ => False, p) :: L) :=
  H.new (Below.refl _ _) ⟨hp w, fun _ h => h.elim, fun _ _ _ _ => hp _⟩ (fun _ h => h.elim)

section
variable {P : Program} {ops : Array Oper} {Q : Exit → Act → World → Prop} {a : Act} {w : World} {rest : List Oper} {o : Oper} {N : Act → World → Prop}
/-- The operation yields a value (or nothing), and then N. -/
def Stp (P : Program) (o : Oper) (a : Act) (w : World) (N : Act → World → Prop) : Prop :=
  ∃ w', (∃ v, (execOp a.eval o).run P w = .ok (.value v) w' ∧ N (a.put o.dst v) w') ∨ ((execOp a.eval o).run P w = .ok .skip w' ∧ N (a.put o.dst undef) w')
theorem Stp.wp (h : Stp P o a w N) : o.wp P a w N Q := by
  obtain ⟨w', ⟨v, h1, h2⟩ | ⟨h1, h2⟩⟩ := h <;> (unfold Oper.wp; rw [h1]; exact h2)
theorem Stp.mono {N' : Act → World → Prop} (h : Stp P o a w N) (hm : ∀ a w, N a w → N' a w) : Stp P o a w N' := by
  obtain ⟨w', ⟨v, h1, h2⟩ | ⟨h1, h2⟩⟩ := h
  · exact ⟨w', .inl ⟨v, h1, hm _ _ h2⟩⟩
  · exact ⟨w', .inr ⟨h1, hm _ _ h2⟩⟩
/-- At the head of a list of operations. -/
theorem wpl (hw : Region.wanted o (yielded ops a.tmps) = true) (h : Stp P o a w (wpList P ops Q rest)) : wpList P ops Q (o :: rest) a w := by
  unfold wpList; rw [if_pos hw]; exact .inl h.wp
theorem getD_lit0 (v : Value) (l : List Value) (d : Value) : (List.toArray (v :: l)).getD 0 d = v := rfl
theorem getD_lits (v : Value) (l : List Value) (n : Nat) (d : Value) : (List.toArray (v :: l)).getD (n + 1) d = (List.toArray l).getD n d := by simp
theorem lit0 (v : Value) (l : List Value) : (List.toArray (v :: l))[0]? = some v := rfl
theorem lits {x v : Value} {l : List Value} {n : Nat} (h : (List.toArray l)[n]? = some v) : (List.toArray (x :: l))[n + 1]? = some v := by simpa using h
theorem toNat_add8 (n : Nat) : ((n : Int) + 8).toNat = n + 8 := by omega
theorem cells_agg (cs : Array Value) : Value.cells (.agg cs) = cs := rfl
theorem run_newVar (w : World) (t : TypeId) (v : Value) : (newVar t v).run P w = .ok ⟨w.heap.size, 0, none⟩ (w.alloc (.cells v.cells t)) := rfl
theorem Stp.box {B : Nat} {w0 : World} {L : List Res} {ty : TypeId} {x : Operand} {v : Value} (d : Tmp) (hd : o.dst = some d) (ho : o.op = .box ty x) (hx : a.eval x = v) (H : St B w0 w L)
    (h : ∀ g w', St B w0 w' (row ty g v.cells :: L) → N (a.put (some d) (.pointer (some ⟨g, 0, none⟩))) w') : Stp P o a w N := by
  rw [← hd] at h
  refine ⟨w.alloc (.cells v.cells ty), .inl ⟨_, ?_, h w.heap.size _ (H.alloc _ _)⟩⟩
  unfold execOp; simp only [ho, hx, Instr.box]
  simp [run_newVar]
theorem Stp.alloc {B : Nat} {w0 : World} {L : List Res} {ty : TypeId} {z : Value} (d : Tmp) (hd : o.dst = some d) (ho : o.op = .alloc ty) (hz : ∀ W : World, (zeroValue ty).run P W = .ok z W) (H : St B w0 w L)
    (h : ∀ g w', St B w0 w' (row ty g z.cells :: L) → N (a.put (some d) (.pointer (some ⟨g, 0, none⟩))) w') : Stp P o a w N := by
  rw [← hd] at h
  refine ⟨w.alloc (.cells z.cells ty), .inl ⟨_, ?_, h w.heap.size _ (H.alloc _ _)⟩⟩
  unfold execOp; simp only [ho, Instr.alloc]
  simp [hz, run_newVar]
/-- A variable of a plain type, loaded out of a row. -/
theorem run_load_cell {g off : Nat} {cs : Array Value} {v : Value} {ty : TypeId} (hr : rowAt w g = some cs) (hc : cs[off]? = some v) (hagg : ∀ W : World, (isAgg ty).run P W = .ok false W) :
    (loadVar ty ⟨g, off, none⟩).run P w = .ok v w := by
  have h := (cell_of_rowAt hr off).trans hc
  simp [loadVar, hagg, h]
/-- A whole row loaded. -/
theorem run_load_row {g : Nat} {cs : Array Value} {ty : TypeId} (hr : rowAt w g = some cs) (hagg : ∀ W : World, (isAgg ty).run P W = .ok true W) (hs : ∀ W : World, (sizeOf ty).run P W = .ok cs.size W) :
    (loadVar ty ⟨g, 0, none⟩).run P w = .ok (.agg cs) w := by
  have hl : (loadCells ⟨g, 0, none⟩ cs.toList.length).run P w = .ok cs.toList.toArray w :=
    run_loadCells_list (P := P) w ⟨g, 0, none⟩ cs.toList (fun j v hv => by
      have hadd : (⟨g, 0, none⟩ : Addr).add j = ⟨g, j, none⟩ := by unfold Addr.add; split <;> simp_all
      rw [hadd, cell_of_rowAt hr]
      simpa using hv)
  simp only [Array.length_toList, Array.toArray_toList] at hl
  simp [loadVar, hagg, hs, hl]
theorem Stp.ldc {tg : TypeId} {B : Nat} {w0 : World} {L : List Res} {ty : TypeId} {x : Operand} {g off : Nat} {cs : Array Value} {v : Value} (ho : o.op = .load ty x) (hagg : ∀ W : World, (isAgg ty).run P W = .ok false W) (hx : a.eval x = .pointer (some ⟨g, off, none⟩)) (H : St B w0 w L)
    (hm : row tg g cs ∈ L) (hc : cs[off]? = some v) (h : N (a.put o.dst v) w) : Stp P o a w N := by
  refine ⟨w, .inl ⟨v, ?_, h⟩⟩
  unfold execOp; simp only [ho, hx, Instr.loadAt, Instr.sureAddr]
  simp [run_load_cell (H.getRow hm) hc hagg]
theorem Stp.ldr {tg : TypeId} {B : Nat} {w0 : World} {L : List Res} {ty : TypeId} {x : Operand} {g : Nat} {cs : Array Value} {n : Nat} (ho : o.op = .load ty x) (hagg : ∀ W : World, (isAgg ty).run P W = .ok true W) (hs : ∀ W : World, (sizeOf ty).run P W = .ok n W) (hx : a.eval x = .pointer (some ⟨g, 0, none⟩)) (H : St B w0 w L)
    (hm : row tg g cs ∈ L) (hn : cs.size = n) (h : N (a.put o.dst (.agg cs)) w) : Stp P o a w N := by
  refine ⟨w, .inl ⟨_, ?_, h⟩⟩
  unfold execOp; simp only [ho, hx, Instr.loadAt, Instr.sureAddr]
  simp [run_load_row (H.getRow hm) hagg (by rw [hn]; exact hs)]
/-- A load of a cell that was there ahead of the call. -/
theorem Stp.ldo {B : Nat} {w0 : World} {L : List Res} {ty : TypeId} {x : Operand} {b off : Nat} {v : Value} (ho : o.op = .load ty x) (hagg : ∀ W : World, (isAgg ty).run P W = .ok false W) (hx : a.eval x = .pointer (some ⟨b, off, none⟩)) (H : St B w0 w L)
    (hc : w0.cell? ⟨b, off, none⟩ = some v) (hb : b < B) (h : N (a.put o.dst v) w) : Stp P o a w N := by
  refine ⟨w, .inl ⟨v, ?_, h⟩⟩
  have hc' := (H.below.cell (p := ⟨b, off, none⟩) hb).trans hc
  unfold execOp; simp only [ho, hx, Instr.loadAt, Instr.sureAddr]
  simp [loadVar, hagg, hc']
/-- A struct that was there ahead of the call, loaded. -/
theorem run_load_range {b off : Nat} {cs : Array Value} {ty : TypeId} (hc : ∀ j, j < cs.size → w.cell? ⟨b, off + j, none⟩ = cs[j]?) (hagg : ∀ W : World, (isAgg ty).run P W = .ok true W) (hs : ∀ W : World, (sizeOf ty).run P W = .ok cs.size W) :
    (loadVar ty ⟨b, off, none⟩).run P w = .ok (.agg cs) w := by
  have hl : (loadCells ⟨b, off, none⟩ cs.toList.length).run P w = .ok cs.toList.toArray w :=
    run_loadCells_list (P := P) w ⟨b, off, none⟩ cs.toList (fun j v hv => by
      have hadd : (⟨b, off, none⟩ : Addr).add j = ⟨b, off + j, none⟩ := by unfold Addr.add; split <;> simp_all
      have hj : j < cs.size := by
        rcases Nat.lt_or_ge j cs.size with h | h
        · exact h
        · rw [List.getElem?_eq_none (by simpa using h)] at hv; cases hv
      rw [hadd, hc j hj]
      simpa using hv)
  simp only [Array.length_toList, Array.toArray_toList] at hl
  simp [loadVar, hagg, hs, hl]
theorem Stp.ldor {B : Nat} {w0 : World} {L : List Res} {ty : TypeId} {x : Operand} {b off n : Nat} {cs : Array Value} (ho : o.op = .load ty x) (hagg : ∀ W : World, (isAgg ty).run P W = .ok true W) (hs : ∀ W : World, (sizeOf ty).run P W = .ok n W) (hx : a.eval x = .pointer (some ⟨b, off, none⟩)) (H : St B w0 w L)
    (hc : ∀ j, j < n → w0.cell? ⟨b, off + j, none⟩ = cs[j]?) (hn : cs.size = n) (hb : b < B) (h : N (a.put o.dst (.agg cs)) w) : Stp P o a w N := by
  refine ⟨w, .inl ⟨_, ?_, h⟩⟩
  subst hn
  have hc' : ∀ j, j < cs.size → w.cell? ⟨b, off + j, none⟩ = cs[j]? := fun j hj => (H.below.cell (p := ⟨b, off + j, none⟩) hb).trans (hc j hj)
  unfold execOp; simp only [ho, hx, Instr.loadAt, Instr.sureAddr]
  simp [run_load_range hc' hagg hs]
/-- Some of a row's cells, loaded as a struct. -/
theorem Stp.ldx {tg : TypeId} {B : Nat} {w0 : World} {L : List Res} {ty : TypeId} {x : Operand} {g off n : Nat} {cs ds : Array Value} (ho : o.op = .load ty x) (hagg : ∀ W : World, (isAgg ty).run P W = .ok true W) (hs : ∀ W : World, (sizeOf ty).run P W = .ok n W) (hx : a.eval x = .pointer (some ⟨g, off, none⟩)) (H : St B w0 w L)
    (hm : row tg g cs ∈ L) (hc : ∀ j, j < n → cs[off + j]? = ds[j]?) (hn : ds.size = n) (h : N (a.put o.dst (.agg ds)) w) : Stp P o a w N := by
  refine ⟨w, .inl ⟨_, ?_, h⟩⟩
  subst hn
  have hc' : ∀ j, j < ds.size → w.cell? ⟨g, off + j, none⟩ = ds[j]? := fun j hj => (cell_of_rowAt (H.getRow hm) (off + j)).trans (hc j hj)
  unfold execOp; simp only [ho, hx, Instr.loadAt, Instr.sureAddr]
  simp [run_load_range hc' hagg hs]
/-- A composite literal's value, reckoned. -/
theorem Stp.build {ty : TypeId} {parts : Array (Nat × Operand)} {v : Value} (d : Tmp) (hd : o.dst = some d) (ho : o.op = .build ty parts) (hv : ∀ W : World, (Instr.build ty (parts.map fun (i, x) => (i, a.eval x))).run P W = .ok v W) (h : N (a.put (some d) v) w) : Stp P o a w N := by
  rw [← hd] at h
  refine ⟨w, .inl ⟨v, ?_, h⟩⟩
  unfold execOp; simp only [ho]
  simp [hv]
/-- A slice literal: a new row. -/
theorem Stp.bsl {B : Nat} {w0 : World} {L : List Res} {ty e : TypeId} {len : Nat} {parts : Array (Nat × Operand)} {cs : Array Value} (d : Tmp) (hd : o.dst = some d) (ho : o.op = .buildSlice ty len parts)
    (hv : ∀ W : World, (Instr.buildSlice ty len (parts.map fun (i, x) => (i, a.eval x))).run P W = .ok (.slice (some ⟨W.heap.size, 0, none⟩) len len) (W.alloc (.cells cs e))) (H : St B w0 w L)
    (h : ∀ g w', St B w0 w' (row e g cs :: L) → N (a.put (some d) (.slice (some ⟨g, 0, none⟩) len len)) w') : Stp P o a w N := by
  rw [← hd] at h
  refine ⟨w.alloc (.cells cs e), .inl ⟨_, ?_, h w.heap.size _ (H.alloc _ _)⟩⟩
  unfold execOp; simp only [ho]
  simp [hv]
/-- A store of one cell into a row. -/
theorem Stp.stc {tg : TypeId} {B : Nat} {w0 : World} {L L' : List Res} {ty : TypeId} {x y : Operand} {g off : Nat} {cs : Array Value} {v : Value} (ho : o.op = .store ty x y) (hs : ∀ W : World, (sizeOf ty).run P W = .ok 1 W) (hx : a.eval x = .pointer (some ⟨g, off, none⟩)) (hy : a.eval y = v) (hv : v.oneCell' = true) (hv1 : v.cells = #[v]) (H : St B w0 w L)
    (hu : Upd L (row tg g cs) (row tg g (cs.setIfInBounds off v)) L') (hin : off < cs.size) (h : ∀ w', St B w0 w' L' → N (a.put o.dst undef) w') : Stp P o a w N := by
  have hr := H.getRow hu.mem
  have ht := H.getHeap hu.mem
  have hc := cell_of_rowAt hr off
  rw [Array.getElem?_eq_getElem hin] at hc
  have hst : (storeVar ty ⟨g, off, none⟩ v).run P w = .ok () (w.setCell ⟨g, off, none⟩ v) := by
    have hf := frozen_of_rowAt hr off
    have h1 : (store ⟨g, off, none⟩ v).run P w = .ok () (w.setCell ⟨g, off, none⟩ v) := by
      rw [run_store _ _ _ _ _ hv]; simp [hc, hf]
    simp [storeVar, hs, hv1, storeCells, h1, Addr.add]
  refine ⟨w.setCell ⟨g, off, none⟩ v, .inr ⟨?_, h _ ?_⟩⟩
  · unfold execOp; simp only [ho, hx, hy, Instr.storeAt, Instr.sureAddr]
    simp [hst]
  · rw [setCell_eq_setRow w g off cs tg (0, 0) v ht]
    exact H.upd hu (grownBy_setRow w g _) (row_sound (setRow_heap w g cs _ tg _ ht)) (fun k hk => .inl hk)
/-- A store of a whole row. -/
theorem Stp.str {tg : TypeId} {B : Nat} {w0 : World} {L L' : List Res} {ty : TypeId} {x y : Operand} {g : Nat} {cs ds : Array Value} {n : Nat} (ho : o.op = .store ty x y) (hs : ∀ W : World, (sizeOf ty).run P W = .ok n W) (hx : a.eval x = .pointer (some ⟨g, 0, none⟩)) (hy : a.eval y = .agg ds) (h1 : ds.all (·.oneCell') = true) (H : St B w0 w L)
    (hu : Upd L (row tg g cs) (row tg g ds) L') (hcs : cs.size = n) (hds : ds.size = n) (h : ∀ w', St B w0 w' L' → N (a.put o.dst undef) w') : Stp P o a w N := by
  have hr := H.getRow hu.mem
  have ht := H.getHeap hu.mem
  have hst : (storeCells ⟨g, 0, none⟩ ds.toList).run P w = .ok () (w.setRow g ds) :=
    run_storeCells_from (P := P) g tg ds.toList 0 cs w ht (by simp; omega) (fun v hv => (Array.all_eq_true_iff_forall_mem.1 h1) v (by simpa using hv))
  refine ⟨w.setRow g ds, .inr ⟨?_, h _ ?_⟩⟩
  · unfold execOp; simp only [ho, hx, hy, Instr.storeAt, Instr.sureAddr]
    simp [storeVar, hs, Value.cells, hds, hst]
  · exact H.upd hu (grownBy_setRow w g _) (row_sound (setRow_heap w g cs _ tg _ ht)) (fun k hk => .inl hk)
end
/-- It returns, and R holds of what comes back. -/
def Ret (R : Value → World → Prop) (e : Ending) (w' : World) : Prop := ∃ v, e = .returned v ∧ R v w'
theorem wp_callf {P : Program} {o : Oper} {a : Act} {w : World} {K : Act → World → Prop} {Q : Exit → Act → World → Prop} {f : FuncId} {l : List Operand} {ats : Array TypeId} {vl : List Value} {R : Value → World → Prop}
    (ho : o.op = .call { callee := .value (.func f), args := l.toArray, argTypes := ats }) (hen : ∀ (xs : Array Value) (W : World), (callFunc f xs).run P W = .ok (.enter f xs) W) (hc : Calls P f vl.toArray w (Ret R)) (hv : l.map a.eval = vl) (h : ∀ v w', R v w' → K (a.put o.dst v) w') : o.wp P a w K Q := by
  subst hv
  unfold Oper.wp
  have he : (execOp a.eval o).run P w = .ok (.enter f (l.map a.eval).toArray) w := by
    have e1 : execOp a.eval o = callFunc f (#[] ++ l.toArray.map a.eval ++ #[]) := by unfold execOp; simp only [ho]; rfl
    rw [e1, hen]; simp
  rw [he]
  refine hc.mono fun e w' hr => ?_
  obtain ⟨v, rfl, hr⟩ := hr
  exact h v w' hr
section
variable {P : Program} {ops : Array Oper} {Q : Exit → Act → World → Prop} {S : World → Prop} {a : Act} {w : World}
/-- The beginning of a region that draws its order: nothing in it panics. -/
theorem rg_begin {id : Nat} (n : Nat) (hn : ops.size = n) (hm : P.follows .mixedOrders = true) (hS : S w.drew) (h : wpAnyH P .any ops (NoPanic Q) S n (Array.replicate n false) a w.drew) : (Code.region id ops true).wp P Q a w := by
  subst hn; exact wp_region_noPanic (wp_region_held_drew hm hS (fun _ => h))
theorem rg_take {l : List Oper} {i : Nat} {oi : Oper} {v : Value} {fuel : Nat} {listed : Array Bool} (hi : l[i]? = some oi) (hs : Region.noSelect l.toArray = true) (hf : Region.free .any l.toArray listed i = true) (hr : (Region.ready .any l.toArray listed).contains i = true)
    (hy : YieldsIf P l.toArray S oi v a) (hS : S w) (h : wpAnyH P .any l.toArray (NoPanic Q) S fuel (listed.setIfInBounds i true) (a.put oi.dst v) w) : wpAnyH P .any l.toArray (NoPanic Q) S (fuel + 1) listed a w :=
  wpAnyH_take (by simpa using hi) hs hf hr (fun _ _ _ h => h) hy hS h
theorem rg_one {l : List Oper} {i : Nat} {o : Oper} {fuel : Nat} {listed : Array Bool} (hr : Region.ready .any l.toArray listed = [i]) (ho : l[i]? = some o) (hw : Region.wanted o (yielded l.toArray a.tmps) = true)
    (h : ∀ K : Act → World → Prop, Shut (∀ a w, S w → wpAnyH P .any l.toArray (NoPanic Q) S fuel (listed.setIfInBounds i true) a w → K a w) → Oper.wp P o a w K (NoPanic Q)) : wpAnyH P .any l.toArray (NoPanic Q) S (fuel + 1) listed a w :=
  wpAnyH_ready hr (by simp) (AllReadyH.cons (by simpa using ho) (fun K hK => by rw [if_pos hw]; exact h K (fun a w hS hW => hK.out a w hS (fun _ => hW))) AllReadyH.nil)
theorem rg_done {fuel : Nat} {listed : Array Bool} (hr : Region.ready .any ops listed = []) (h : Q .normal a w) : wpAnyH P .any ops (NoPanic Q) S fuel listed a w :=
  wpAnyH_done hr (NoPanic.normal h) fuel
end
section
variable {P : Program} {ops : Array Oper} {S : World → Prop} {o : Oper} {a : Act} {v : Value}
theorem Yld.of (hw : Region.wanted o (yielded ops a.tmps) = true) (h : ∀ W, S W → (execOp a.eval o).run P W = .ok (.value v) W) : YieldsIf P ops S o v a := .inl ⟨hw, h⟩
theorem Yld.skip (hw : Region.wanted o (yielded ops a.tmps) = false) : YieldsIf P ops S o undef a := .inr ⟨hw, rfl⟩
theorem Yld.move {x : Operand} (hw : Region.wanted o (yielded ops a.tmps) = true) (ho : o.op = .move x) : YieldsIf P ops S o (a.eval x) a :=
  .inl ⟨hw, fun W _ => by unfold execOp; simp only [ho]; rfl⟩
theorem Yld.assign {x : Operand} (hw : Region.wanted o (yielded ops a.tmps) = true) (ho : o.op = .assign x) : YieldsIf P ops S o (a.eval x) a :=
  .inl ⟨hw, fun W _ => by unfold execOp; simp only [ho]; rfl⟩
theorem Yld.pick {c x y : Operand} {b : Bool} (hw : Region.wanted o (yielded ops a.tmps) = true) (ho : o.op = .pick c x y) (hc : a.eval c = .bool b) : YieldsIf P ops S o (if b then a.eval x else a.eval y) a :=
  .inl ⟨hw, fun W _ => by unfold execOp; simp only [ho, hc]; cases b <;> rfl⟩
theorem Yld.ldc {tg : TypeId} {B : Nat} {w0 : World} {L : List Res} {ty : TypeId} {x : Operand} {g off : Nat} {cs : Array Value} (hw : Region.wanted o (yielded ops a.tmps) = true) (ho : o.op = .load ty x) (hagg : ∀ W : World, (isAgg ty).run P W = .ok false W) (hx : a.eval x = .pointer (some ⟨g, off, none⟩))
    (hm : row tg g cs ∈ L) (hc : cs[off]? = some v) : YieldsIf P ops (fun W => St B w0 W L) o v a :=
  .inl ⟨hw, fun W H => by
    unfold execOp; simp only [ho, hx, Instr.loadAt, Instr.sureAddr]
    simp [run_load_cell (H.getRow hm) hc hagg]⟩
theorem Yld.ldr {tg : TypeId} {B : Nat} {w0 : World} {L : List Res} {ty : TypeId} {x : Operand} {g : Nat} {cs : Array Value} {n : Nat} (hw : Region.wanted o (yielded ops a.tmps) = true) (ho : o.op = .load ty x) (hagg : ∀ W : World, (isAgg ty).run P W = .ok true W) (hs : ∀ W : World, (sizeOf ty).run P W = .ok n W) (hx : a.eval x = .pointer (some ⟨g, 0, none⟩))
    (hm : row tg g cs ∈ L) (hn : cs.size = n) : YieldsIf P ops (fun W => St B w0 W L) o (.agg cs) a :=
  .inl ⟨hw, fun W H => by
    unfold execOp; simp only [ho, hx, Instr.loadAt, Instr.sureAddr]
    simp [run_load_row (H.getRow hm) hagg (by rw [hn]; exact hs)]⟩
theorem Yld.ldo {B : Nat} {w0 : World} {L : List Res} {ty : TypeId} {x : Operand} {b off : Nat} (hw : Region.wanted o (yielded ops a.tmps) = true) (ho : o.op = .load ty x) (hagg : ∀ W : World, (isAgg ty).run P W = .ok false W) (hx : a.eval x = .pointer (some ⟨b, off, none⟩))
    (hc : w0.cell? ⟨b, off, none⟩ = some v) (hb : b < B) : YieldsIf P ops (fun W => St B w0 W L) o v a :=
  .inl ⟨hw, fun W H => by
    have hc' := (H.below.cell (p := ⟨b, off, none⟩) hb).trans hc
    unfold execOp; simp only [ho, hx, Instr.loadAt, Instr.sureAddr]
    simp [loadVar, hagg, hc']⟩
theorem Yld.ldor {B : Nat} {w0 : World} {L : List Res} {ty : TypeId} {x : Operand} {b off n : Nat} {cs : Array Value} (hw : Region.wanted o (yielded ops a.tmps) = true) (ho : o.op = .load ty x) (hagg : ∀ W : World, (isAgg ty).run P W = .ok true W) (hs : ∀ W : World, (sizeOf ty).run P W = .ok n W) (hx : a.eval x = .pointer (some ⟨b, off, none⟩))
    (hc : ∀ j, j < n → w0.cell? ⟨b, off + j, none⟩ = cs[j]?) (hn : cs.size = n) (hb : b < B) : YieldsIf P ops (fun W => St B w0 W L) o (.agg cs) a :=
  .inl ⟨hw, fun W H => by
    subst hn
    have hc' : ∀ j, j < cs.size → W.cell? ⟨b, off + j, none⟩ = cs[j]? := fun j hj => (H.below.cell (p := ⟨b, off + j, none⟩) hb).trans (hc j hj)
    unfold execOp; simp only [ho, hx, Instr.loadAt, Instr.sureAddr]
    simp [run_load_range hc' hagg hs]⟩
end
section
variable {P : Program} {ops : Array Oper} {S : World → Prop} {w : World} {a : Act}
end
section
variable {P : Program}
end
/-- v is a slice of n elements of 'size' cells each; element i's cells are E i. -/
def Sl (w : World) (size n : Nat) (v : Value) (E : Nat → Array Value) : Prop :=
  ∃ a c, v = .slice a n c ∧ n ≤ maxLen ∧ (0 < n → ∃ b off, a = some ⟨b, off, none⟩ ∧ b < w.heap.size ∧ ∀ i, i < n → ∀ j, j < size → w.cell? ⟨b, off + i * size + j, none⟩ = (E i)[j]?)
theorem Sl.grow {w w' : World} {size n : Nat} {v : Value} {E : Nat → Array Value} (h : Sl w size n v E) (hb : Below w.heap.size w w') : Sl w' size n v E := by
  obtain ⟨a, c, rfl, hm, h⟩ := h
  refine ⟨a, c, rfl, hm, fun h0 => ?_⟩
  obtain ⟨b, off, rfl, hlt, hc⟩ := h h0
  exact ⟨b, off, rfl, Nat.lt_of_lt_of_le hlt hb.size, fun i hi j hj => (hb.cell (p := ⟨b, off + i * size + j, none⟩) hlt).trans (hc i hi j hj)⟩
theorem Sl.of_row {w : World} {g c size n : Nat} {cs : Array Value} {E : Nat → Array Value} (h : rowAt w g = some cs) (hm : n ≤ maxLen) (hE : ∀ i, i < n → ∀ j, j < size → cs[i * size + j]? = (E i)[j]?) : Sl w size n (.slice (some ⟨g, 0, none⟩) n c) E :=
  ⟨_, _, rfl, hm, fun _ => ⟨g, 0, rfl, rowAt_lt h, fun i hi j hj => by rw [Nat.zero_add, cell_of_rowAt h]; exact hE i hi j hj⟩⟩
/-- n zero elements: a slice of a row of the call's own, whole. -/
theorem madeCells_one (z : Value) (n : Nat) : madeCells #[z] n = (List.replicate n z).toArray := by
  unfold madeCells
  apply Array.ext_getElem?
  intro i
  by_cases h : i < n
  · simp [h, Nat.mod_one]
  · simp [h]
section
variable {P : Program}
/-- Where the slice lies behind an append: on its own block, or on a new one. -/
theorem own_next {w w' : World} {base : Nat} {t ty e : TypeId} {i : TypeInfo} {z : Value} {v v' : Value} {n : Nat} {xs : List Value} {ad : Addr} {m c : Nat} {news : List Value} (ht : P.underlying t = some (.slice e)) (hi : P.info? e = some i) (hz : i.zero = some z)
    (hown : w.ownsRow base e i.size v n xs) (hl : news.length = m * i.size) (hnews : ∀ j u, news[j]? = some u → w.cell? (ad.add j) = some u) (h1 : ∀ u ∈ news, u.oneCell' = true) (h63 : n + m ≤ maxLen) (hbytes : (n + m) * i.bytes ≤ 140737488355328)
    (hr : (Builtin.append_ #[t, t] ty #[v, .slice (some ad) m c]).run P w = .ok v' w') {g : Nat} (hg : v'.ownBlock = some g) : v.ownBlock = some g ∨ w.heap.size ≤ g := by
  simp only [maxLen] at h63
  rcases hown.2 with ⟨rfl, rfl⟩ | ⟨g0, cap, cur, rfl, hbg, hgc, hnc, hcm, hcs, htake⟩
  · by_cases hm : m = 0
    · subst hm
      have hn : news = [] := List.eq_nil_of_length_eq_zero (by simpa using hl)
      subst hn
      have h2 : (Builtin.append_ #[t, t] ty #[.slice none 0 0, .slice (some ad) 0 c]).run P w = .ok (.slice none 0 0) w := by
        simp [Builtin.append_, run_underlying ht, sizeOf, typeInfo, hi, Builtin.lenOf, Builtin.firstCells, loadCells, loadCellsFrom]
      rw [h2] at hr
      injection hr with e1 _
      subst e1
      simp [Value.ownBlock] at hg
    · have h2 := run_append_nil (P := P) w t ty e i z ht hi hz ad m c news hl hnews (by omega) (by omega) (by have hb := hbytes; simp only [Nat.zero_add] at hb; omega)
      rw [h2] at hr
      injection hr with e1 _
      subst e1
      simp only [Value.ownBlock, Option.some.injEq] at hg
      exact .inr (by omega)
  · by_cases hroom : n + m ≤ cap
    · have hfit : n * i.size + news.length ≤ cur.size := by rw [hl, hcs, ← Nat.add_mul]; exact Nat.mul_le_mul_right _ hroom
      have h2 := run_append_room (P := P) w t ty e i ht hi g0 n cap cur hgc ad m c news hl hnews h1 hroom hfit
      rw [h2] at hr
      injection hr with e1 _
      subst e1
      exact .inl hg
    · have holds : ∀ j u, xs[j]? = some u → w.cell? ((⟨g0, 0, none⟩ : Addr).add j) = some u := hown.cells (g := g0) rfl
      have h2 := run_append_grow (P := P) w t ty e i z ht hi hz ⟨g0, 0, none⟩ n cap xs hown.1 holds ad m c news hl hnews (by omega) (by omega) (growslice_fits (by omega) hbytes)
      rw [h2] at hr
      injection hr with e1 _
      subst e1
      simp only [Value.ownBlock, Option.some.injEq] at hg
      exact .inr (by omega)
end
section
variable {P : Program} {a : Act} {w : World} {o : Oper} {N : Act → World → Prop}
theorem Stp.mk {B : Nat} {w0 : World} {L : List Res} {ty e : TypeId} {z : Value} {bytes : Nat} {x y : Operand} {kl kc : IntKind} {l c : Int} (d : Tmp) (hd : o.dst = some d) (ho : o.op = .makeSlice ty x y) (ht : P.underlying ty = some (.slice e))
    (hi : (P.info? e).map (fun i => (i.zero, i.size, i.bytes)) = some (some z, 1, bytes)) (hz : z.cells = #[z]) (hx : a.eval x = .int kl l) (hy : a.eval y = .int kc c) (h0 : 0 ≤ l) (hlc : l ≤ c) (hb : (bytes : Int) * c ≤ 281474976710656) (h63 : c ≤ 9223372036854775807) (H : St B w0 w L)
    (h : ∀ ap cp w', St B w0 w' (slc e 1 (.slice ap l.toNat cp) l.toNat (List.replicate l.toNat z) :: L) → N (a.put (some d) (.slice ap l.toNat cp)) w') : Stp P o a w N := by
  rw [← hd] at h
  obtain ⟨i, h1, h2, h3, h4⟩ := info_parts hi
  have hr := run_make (P := P) w ty e i z ht h1 h2 kl kc l c h0 hlc (by rw [h4]; exact hb) h63
  rw [h3, hz, Nat.mul_one, madeCells_one] at hr
  refine ⟨_, .inl ⟨_, ?_, h (some ⟨w.heap.size, 0, none⟩) c.toNat (w.alloc (.cells (List.replicate c.toNat z).toArray e)) ?_⟩⟩
  · unfold execOp; simp only [ho, hx, hy]; simp [hr]
  · refine H.new ((Below.refl _ _).alloc (Nat.le_refl _) _) (slc_sound (b := 0) ⟨by simp, .inr ⟨w.heap.size, c.toNat, _, rfl, Nat.zero_le _, heap_alloc_new w _, by omega, by simp only [maxLen]; omega, by simp, ?_⟩⟩) (fun g hg => by cases hg; exact Nat.le_refl _)
    simp
    omega
theorem own_shape {w : World} {b : Nat} {e : TypeId} {size : Nat} {v : Value} {n : Nat} {xs : List Value} (h : w.ownsRow b e size v n xs) : ∃ ap cp, v = .slice ap n cp := by
  rcases h.2 with ⟨rfl, rfl⟩ | ⟨g, cap, cur, rfl, _⟩
  · exact ⟨_, _, rfl⟩
  · exact ⟨_, _, rfl⟩
theorem new1 {w : World} {g : Nat} {x : Value} (h : rowAt w g = some #[x]) : ∀ j u, [x][j]? = some u → w.cell? ((⟨g, 0, none⟩ : Addr).add j) = some u := fun j u hu => by
  have : (⟨g, 0, none⟩ : Addr).add j = ⟨g, j, none⟩ := by unfold Addr.add; split <;> simp_all
  rw [this, cell_of_rowAt h]; simpa using hu
/-- append of m elements onto a slice of the call's own. -/
theorem Stp.app {B : Nat} {w0 : World} {L : List Res} {L' : Value → List Res} {ty e : TypeId} {z : Value} {size bytes : Nat} {s x : Operand} {va : Option Addr} {vc : Nat} {n : Nat} {xs : List Value} {ad : Addr} {m c : Nat} {news : List Value} (d : Tmp) (hd : o.dst = some d)
    (ho : o.op = .call { callee := .builtin .append, args := #[s, x], argTypes := #[ty, ty] }) (ht : P.underlying ty = some (.slice e)) (hi : (P.info? e).map (fun i => (i.zero, i.size, i.bytes)) = some (some z, size, bytes)) (hzs : z.cells.size = size) (hsz : 0 < size)
    (hs : a.eval s = .slice va n vc) (hx : a.eval x = .slice (some ad) m c) (H : St B w0 w L) (hu : ∀ v', Upd L (slc e size (.slice va n vc) n xs) (slc e size v' (n + m) (xs ++ news)) (L' v')) (hl : news.length = m * size) (hnews : ∀ j u, news[j]? = some u → w.cell? (ad.add j) = some u) (h1 : ∀ u ∈ news, u.oneCell' = true)
    (h63 : n + m ≤ maxLen) (hbytes : (n + m) * bytes ≤ 140737488355328)
    (h : ∀ ap cp w', St B w0 w' (L' (.slice ap (n + m) cp)) → N (a.put (some d) (.slice ap (n + m) cp)) w') : Stp P o a w N := by
  rw [← hd] at h
  obtain ⟨i, hi1, hi2, hi3, hi4⟩ := info_parts hi
  have hown := H.getSlc (hu (.slice va n vc)).mem
  obtain ⟨v', w', hr, h2, h3, h4⟩ := run_append_own (P := P) w B ty o.type e i z size bytes ht hi1 hi2 hi3 hi4 hzs hsz _ n xs hown ad m c news hl hnews h1 h63 hbytes H.size
  obtain ⟨ap, cp, rfl⟩ : ∃ ap cp, v' = .slice ap (n + m) cp := own_shape h2
  refine ⟨w', .inl ⟨_, ?_, h ap cp w' ?_⟩⟩
  · unfold execOp
    simp only [ho, resolve, invoke, builtin, Sem.run_bind, Sem.run_pure, Result.andThen_ok, List.map_toArray, List.map_cons, List.map_nil, hs, hx, hr]
  · refine H.upd (hu _) (Grew.of_by h3) (slc_sound h2) (fun g hg => ?_)
    subst hi3 hi4
    exact own_next ht hi1 hi2 hown hl hnews h1 h63 hbytes hr hg
end
/-- A row of the call's own, taken as a slice again. -/
theorem St.shut_slc {B : Nat} {w0 w : World} {L L' : List Res} {e : TypeId} {size n cap : Nat} {g : Nat} {cs : Array Value} {xs : List Value} (H : St B w0 w L) (hu : Upd L (row e g cs) (slc e size (.slice (some ⟨g, 0, none⟩) n cap) n xs) L') (hn : n ≤ cap) (hm : cap ≤ maxLen) (hcs : cs.size = cap * size) (hx : cs.toList.take (n * size) = xs) : St B w0 w L' :=
  H.upd hu ⟨rfl, rfl, rfl, Nat.le_refl _, fun _ _ _ => rfl⟩ (slc_sound (b := 0) ⟨by rw [← hx, List.length_take]; simp only [Array.length_toList, hcs]; exact Nat.min_eq_left (Nat.mul_le_mul_right _ hn), .inr ⟨g, cap, cs, rfl, Nat.zero_le _, H.getHeap hu.mem, hn, hm, hcs, hx⟩⟩) (fun k hk => .inl hk)
/-- What one reads of a slice of the call's own. -/
theorem Sl.of_own {w : World} {b : Nat} {e : TypeId} {v : Value} {n : Nat} {xs : List Value} {E : Nat → Array Value} (h : w.ownsRow b e 1 v n xs) (hE : ∀ i, i < n → xs[i]? = (E i)[0]?) (hm : n ≤ maxLen) : Sl w 1 n v E := by
  rcases h.2 with ⟨rfl, rfl⟩ | ⟨g, cap, cur, rfl, hbg, hgc, hnc, hcm, hcs, htake⟩
  · exact ⟨_, _, rfl, by simp [maxLen], fun h => absurd h (Nat.lt_irrefl _)⟩
  · refine Sl.of_row (rowAt_of hgc) hm (fun i hi j hj => ?_)
    obtain rfl : j = 0 := by omega
    rw [← hE i hi, ← htake, List.getElem?_take]
    simp [hi]
section
variable {P : Program} {a : Act} {w : World} {o : Oper} {N : Act → World → Prop}
/-- copy into a slice of the call's own. -/
theorem Stp.cp {B : Nat} {w0 : World} {L L' : List Res} {dT sT e : TypeId} {x y : Operand} {va : Option Addr} {vc n m c : Nat} {xs ys : List Value} {A : Option Addr} (d : Tmp) (hd : o.dst = some d) (ho : o.op = .call { callee := .builtin .copy, args := #[x, y], argTypes := #[dT, sT] })
    (ht : P.underlying dT = some (.slice e)) (hsz : (P.info? e).map (·.size) = some 1) (hx : a.eval x = .slice va n vc) (hy : a.eval y = .slice A m c) (H : St B w0 w L) (hu : Upd L (slc e 1 (.slice va n vc) n xs) (slc e 1 (.slice va n vc) n (ys.take n ++ xs.drop m)) L') (hlen : ys.length = m)
    (hsrc : 0 < m → ∃ ad, A = some ad ∧ ∀ j u, ys[j]? = some u → w.cell? (ad.add j) = some u) (h1 : ∀ u ∈ ys, u.oneCell' = true) (h : ∀ w', St B w0 w' L' → N (a.put (some d) (goInt (Nat.min m n))) w') : Stp P o a w N := by
  rw [← hd] at h
  have hown := H.getSlc hu.mem
  have hxl : xs.length = n := by simpa using hown.1
  by_cases hk : Nat.min m n = 0
  · have hsame : ys.take n ++ xs.drop m = xs := by
      rcases Nat.eq_zero_or_pos m with h0 | h0
      · have : ys = [] := List.eq_nil_of_length_eq_zero (by omega)
        subst this; simp [h0]
      · have hn0 : n = 0 := by
          have : Nat.min m n = if m ≤ n then m else n := rfl
          rw [this] at hk; split at hk <;> omega
        have : xs = [] := List.eq_nil_of_length_eq_zero (by omega)
        subst this; simp [hn0]
    rw [hsame] at hu
    have hrun := run_copy_none (P := P) w dT sT o.type e va A n vc m c ht hsz hk
    refine ⟨w, .inl ⟨_, ?_, h w ?_⟩⟩
    · unfold execOp
      simp only [ho, resolve, invoke, builtin, Sem.run_bind, Sem.run_pure, Result.andThen_ok, List.map_toArray, List.map_cons, List.map_nil, hx, hy, hrun, hk]
      rfl
    · exact H.upd hu ⟨rfl, rfl, rfl, Nat.le_refl _, fun _ _ _ => rfl⟩ (slc_sound hown) (fun k hk => .inl hk)
  · have hmn : 0 < m ∧ 0 < n := by
      have : Nat.min m n = if m ≤ n then m else n := rfl
      rw [this] at hk; split at hk <;> omega
    rcases hown.2 with ⟨_, h0⟩ | ⟨g, cap, cur, hve, hbg, hgc, hnc, hcm, hcs, htake⟩
    · omega
    injection hve with e1 _ e3
    subst e1
    subst e3
    obtain ⟨ad, rfl, hs⟩ := hsrc hmn.1
    have hl2 : (ys.take n).length = Nat.min m n := by
      rw [List.length_take, hlen]; exact Nat.min_comm _ _
    have hcn : (ys.take n).length ≤ n := List.length_take_le _ _
    have hrun := run_copy_row (P := P) w dT sT o.type e g 0 n vc ad m c cur e (ys.take n) ht hsz hgc hl2 (fun j u hu => hs j u (by
      rw [List.getElem?_take] at hu; split at hu
      · exact hu
      · cases hu)) (by simp at hcs ⊢; omega) (fun u hu => h1 u (List.mem_of_mem_take hu))
    refine ⟨w.setRow g (cur.toList.take 0 ++ ys.take n ++ cur.toList.drop (0 + (ys.take n).length)).toArray, .inl ⟨_, ?_, h _ ?_⟩⟩
    · unfold execOp
      simp only [ho, resolve, invoke, builtin, Sem.run_bind, Sem.run_pure, Result.andThen_ok, List.map_toArray, List.map_cons, List.map_nil, hx, hy, hrun, hl2]
    · refine H.upd hu (grownBy_setRow w g _) (slc_sound (b := B) ⟨?_, .inr ⟨g, vc, _, rfl, hbg, setRow_heap w g cur _ e _ hgc, hnc, hcm, ?_, ?_⟩⟩) (fun k hk => .inl hk)
      · simp [hxl, hlen]; omega
      · simp at hcs ⊢; omega
      · have hxs : xs = cur.toList.take n := by rw [← htake]; simp
        rw [hxs]
        simp only [List.take_zero, List.nil_append, Nat.zero_add, Nat.mul_one, List.drop_take]
        rw [List.take_append]
        congr 1
        · rw [List.take_of_length_le hcn]
        · rw [List.length_take, hlen]
          by_cases h2 : m ≤ n
          · rw [Nat.min_eq_right h2]
          · rw [Nat.min_eq_left (by omega)]; simp; omega
end
/-- A slice literal of one element of one cell. -/
theorem run_bsl1 {P : Program} {ty e : TypeId} {z v : Value} (ht : P.underlying ty = some (.slice e)) (hs : ∀ W : World, (sizeOf e).run P W = .ok 1 W) (hz : ∀ W : World, (zeroValue e).run P W = .ok z W) (hzc : z.cells = #[z]) (hv : v.cells = #[v]) (W : World) :
    (Instr.buildSlice ty 1 #[(0, v)]).run P W = .ok (.slice (some ⟨W.heap.size, 0, none⟩) 1 1) (W.alloc (.cells #[v] e)) := by
  simp [Instr.buildSlice, run_underlying ht, hs, hz, hzc, Instr.fill, hv, newRow]
  simp [show Array.range 1 = #[0] from by decide +kernel]
theorem Stp.bsl1 {P : Program} {a : Act} {w : World} {o : Oper} {N : Act → World → Prop} {B : Nat} {w0 : World} {L : List Res} {ty e : TypeId} {x : Operand} {k : IntKind} {n : Int} {z : Value} (d : Tmp) (hd : o.dst = some d) (ho : o.op = .buildSlice ty 1 #[(0, x)])
    (ht : P.underlying ty = some (.slice e)) (hs : ∀ W : World, (sizeOf e).run P W = .ok 1 W) (hz : ∀ W : World, (zeroValue e).run P W = .ok z W) (hzc : z.cells = #[z]) (hx : a.eval x = .int k n) (H : St B w0 w L)
    (h : ∀ g w', St B w0 w' (row e g #[.int k n] :: L) → N (a.put (some d) (.slice (some ⟨g, 0, none⟩) 1 1)) w') : Stp P o a w N := by
  rw [← hd] at h
  refine ⟨w.alloc (.cells #[.int k n] e), .inl ⟨_, ?_, h w.heap.size _ (H.alloc _ _)⟩⟩
  unfold execOp; simp only [ho]
  have := run_bsl1 (v := .int k n) ht hs hz hzc rfl w
  simp [hx, this]
theorem post_row {P : Program} {fn : Func} {R : Ending → World → Prop} {a : Act} {w : World} {p : Tmp} {ty : TypeId} {B : Nat} {w0 : World} {L : List Res} {tg : TypeId} {g : Nat} {cs : Array Value} {n : Nat} (hr : fn.results = #[.cell p ty])
    (hagg : ∀ W : World, (isAgg ty).run P W = .ok true W) (hs : ∀ W : World, (sizeOf ty).run P W = .ok n W) (hp : a.tmps.getD p undef = .pointer (some ⟨g, 0, none⟩)) (H : St B w0 w L) (hm : row tg g cs ∈ L) (hn : cs.size = n)
    (hd : a.defers = []) (hR : R (.returned (.agg cs)) w) : bodyPost P fn R .ret a w := by
  refine bodyPost_ret ?_ hd hR
  have hp' : a.tmps[p]?.getD undef = .pointer (some ⟨g, 0, none⟩) := by simpa using hp
  simp [results, hr, hp', asAddr, run_load_row (H.getRow hm) hagg (by rw [hn]; exact hs)]
theorem pS : (∀ (a : Act) (d : Tmp) (v : Value), a.put (some d) v = { a with tmps := a.tmps.setIfInBounds d v }) ∧ (∀ (a : Act) (v : Value), a.put none v = a) ∧ (∀ (l : List Value) (i : Nat) (x : Value), l.toArray.setIfInBounds i x = (l.set i x).toArray) ∧ (∀ (x y : Value) (l : List Value), (y :: l).set 0 x = x :: l) ∧ (∀ (x y : Value) (l : List Value) (n : Nat), (y :: l).set (n + 1) x = y :: l.set n x) :=
  ⟨fun _ _ _ => rfl, fun _ _ => rfl, fun l i x => by simp, fun _ _ _ => rfl, fun _ _ _ _ => rfl⟩
theorem pE : (∀ (a : Act) (t : Tmp), a.eval (.tmp t) = a.tmps.getD t undef) ∧ (∀ (a : Act) (v : Value), a.eval (.const v) = v) ∧ (∀ (v : Value) (l : List Value) (d : Value), (List.toArray (v :: l)).getD 0 d = v) ∧ (∀ (v : Value) (l : List Value) (n : Nat) (d : Value), (List.toArray (v :: l)).getD (n + 1) d = (List.toArray l).getD n d) ∧ (∀ (x y : Value), (if (true : Bool) = true then x else y) = x) ∧ (∀ (x y : Value), (if (false : Bool) = true then x else y) = y) ∧ (∀ (x y : Value), (if True then x else y) = x) ∧ (∀ (x y : Value), (if False then x else y) = y) :=
  ⟨fun _ _ => rfl, fun _ _ => rfl, fun _ _ _ => rfl, fun _ _ _ _ => by simp, fun _ _ => rfl, fun _ _ => rfl, fun _ _ => if_pos trivial, fun _ _ => if_neg id⟩
theorem nC : (∀ cs : Array Value, Value.cells (.agg cs) = cs) ∧ (∀ (k : IntKind) (n : Int), Value.cells (.int k n) = #[.int k n]) ∧ (∀ b : Bool, Value.cells (.bool b) = #[.bool b]) ∧ (∀ x : ByteArray, Value.cells (.string x) = #[.string x]) ∧ (∀ p : Option Addr, Value.cells (.pointer p) = #[.pointer p]) ∧ (∀ (p : Option Addr) (n c : Nat), Value.cells (.slice p n c) = #[.slice p n c]) ∧ (∀ p : Option Nat, Value.cells (.map p) = #[.map p]) :=
  ⟨fun _ => rfl, fun _ _ => rfl, fun _ => rfl, fun _ => rfl, fun _ => rfl, fun _ _ _ => rfl, fun _ => rfl⟩
theorem mE {r : Res} {L : List Res} (h : r ∈ L := by repeat (first | exact List.mem_cons_self | apply List.mem_cons_of_mem)) : r ∈ L := h
theorem mR {r : Res} {L : List Res} (h : r ∈ L := by repeat (first | (with_reducible exact List.mem_cons_self) | (with_reducible apply List.mem_cons_of_mem))) : r ∈ L := h
theorem uP {L L' : List Res} {r r' : Res} (h : Upd L r r' L' := by repeat (first | exact Upd.head | apply Upd.tail)) : Upd L r r' L' := h
theorem pU {L L' : List Res} {r : Res} (h : Pull L r L' := by repeat (first | (with_reducible exact Pull.head) | apply Pull.tail)) : Pull L r L' := h
theorem sU {L L' : List Res} (h : L'.Sublist L := by repeat (first | exact List.Sublist.refl _ | exact List.nil_sublist _ | (with_reducible apply List.Sublist.cons_cons) | apply List.Sublist.cons)) : L'.Sublist L := h
theorem cE {cs : Array Value} {n : Nat} {v : Value} (h : cs[n]? = some v := by first | (repeat (first | (with_reducible exact lit0 _ _) | (with_reducible apply lits))) | assumption) : cs[n]? = some v := h
theorem sZ {cs : Array Value} {n : Nat} (h : cs.size = n := by first | rfl | (simp; done) | assumption) : cs.size = n := h
theorem kR {α : Type} {a b : α} (h : a = b := by kernel_rfl) : a = b := h
theorem Yld.o {P : Program} {ops : Array Oper} {S : World → Prop} {a : Act} {o : Oper} {v : Value} (hw : Region.wanted o (yielded ops a.tmps) = true) (h : ∀ W, S W → (execOp a.eval o).run P W = .ok (.value v) W := by intro W _; go_simp; first | done | with_reducible rfl) : YieldsIf P ops S o v a := .inl ⟨hw, h⟩
section
variable {P : Program} {a : Act} {w : World} {o : Oper} {N : Act → World → Prop}
/-- Guards: the operation is the one that is meant. -/
theorem dQ (d : Tmp) (_ : o.dst = some d) (h : Stp P o a w N) : Stp P o a w N := h
theorem ldQ {ty : TypeId} {x : Operand} (_ : o.op = .load ty x) (h : Stp P o a w N) : Stp P o a w N := h
theorem stQ {ty : TypeId} {x y : Operand} (_ : o.op = .store ty x y) (h : Stp P o a w N) : Stp P o a w N := h
end
end Go.Proofs.Ytmokecicjmjkbaa
