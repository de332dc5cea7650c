/- Commands with the places of their slices, as values of a slice; commands of the call's own; no condition. -/
import Derived.Test.YtjghcmejmdllbaaVw10
namespace Go.Proofs.Ytjghcmejmdllbaa
open Go.ChangeShapes Go.WideShapes Go.ChangeAt Go.RowKit Go.Maps
set_option linter.unusedVariables false
set_option linter.unusedSimpArgs false
/-- Where a command's slices lie. -/
structure Hd where
  ba : Option Addr
  ma : Option Addr
  la : Option Addr
  da : Option Addr
  bc : Nat
  mc : Nat
  lc : Nat
  dc : Nat
abbrev cmH (c : Cm) (h : Hd) : Array Value := cmC c h.ba h.ma h.la h.da h.bc h.mc h.lc h.dc
/-- Commands, as values. -/
def kv (ks : List (Cm × Hd)) : List Value := ks.flatMap fun p => (cmH p.1 p.2).toList
theorem kv_len (ks : List (Cm × Hd)) : (kv ks).length = ks.length * 10 := by
  unfold kv
  induction ks with
  | nil => rfl
  | cons p ks ih => rw [List.flatMap_cons, List.length_append, ih, List.length_cons]; simp; omega
theorem kv_app (ks ls : List (Cm × Hd)) : kv (ks ++ ls) = kv ks ++ kv ls := by unfold kv; rw [List.flatMap_append]
theorem kv_one (c : Cm) (h : Hd) : kv [(c, h)] = (cmH c h).toList := by simp [kv]
theorem kv_drop (ks : List (Cm × Hd)) (k : Nat) : (kv ks).drop (k * 10) = kv (ks.drop k) := by
  induction ks generalizing k with
  | nil => simp [kv]
  | cons p ks ih =>
    cases k with
    | zero => simp
    | succ k =>
      have hc : kv (p :: ks) = (cmH p.1 p.2).toList ++ kv ks := by simp [kv]
      rw [hc, List.drop_succ_cons, ← ih k, List.drop_append, List.drop_of_length_le (by simp; omega)]
      simp only [List.nil_append]
      congr 1
      simp
      omega
theorem kv_get (ks : List (Cm × Hd)) (k : Nat) (p : Cm × Hd) (h : ks[k]? = some p) : ∀ j, j < 10 → (kv ks)[k * 10 + j]? = (cmH p.1 p.2)[j]? := by
  induction ks generalizing k with
  | nil => cases h
  | cons q ks ih =>
    intro j hj
    have hc : kv (q :: ks) = (cmH q.1 q.2).toList ++ kv ks := by simp [kv]
    rw [hc]
    cases k with
    | zero =>
      have : q = p := by simpa using h
      subst this
      rw [Nat.zero_mul, Nat.zero_add, List.getElem?_append_left (by simpa using hj)]
      simp
    | succ k =>
      rw [List.getElem?_append_right (by simp; omega)]
      have := ih k (by simpa using h) j hj
      rw [← this]
      congr 1
      simp
      omega
/-- Commands of the call's own, that are no longer written. -/
def cmsr (G : Nat → Prop) (ks : List (Cm × Hd)) : Res := (fun g => G g, fun w => ∀ p ∈ ks, CmG G w (.slice p.2.ba p.1.data.length p.2.bc) (.slice p.2.ma p.1.v.mem.length p.2.mc) (.slice p.2.la p.1.v.lvs.length p.2.lc) (.slice p.2.da p.1.v.ldr.length p.2.dc) p.1)
theorem cmsr_loc (G : Nat → Prop) (ks : List (Cm × Hd)) : Loc (cmsr G ks) := fun _ _ hb h p hp => (h p hp).loc hb
theorem St.getCms {B : Nat} {w0 w : World} {L : List Res} {G : Nat → Prop} {ks : List (Cm × Hd)} (H : St B w0 w L) (h : cmsr G ks ∈ L) : ∀ p ∈ ks, CmG G w (.slice p.2.ba p.1.data.length p.2.bc) (.slice p.2.ma p.1.v.mem.length p.2.mc) (.slice p.2.la p.1.v.lvs.length p.2.lc) (.slice p.2.da p.1.v.ldr.length p.2.dc) p.1 := H.get h
theorem St.cms0 {B : Nat} {w0 w : World} {L : List Res} (H : St B w0 w L) : St B w0 w (cmsr (fun _ => False) [] :: L) :=
  St.emp (p := (cmsr (fun _ => False) []).2) (fun _ p hp => by cases hp) H
theorem St.cms1 {B : Nat} {w0 w : World} {L : List Res} {G G2 : Nat → Prop} {ks : List (Cm × Hd)} {c : Cm} {h : Hd} (H : St B w0 w (cmr G2 (.slice h.ba c.data.length h.bc) (.slice h.ma c.v.mem.length h.mc) (.slice h.la c.v.lvs.length h.lc) (.slice h.da c.v.ldr.length h.dc) c :: cmsr G ks :: L)) :
    ∃ G', St B w0 w (cmsr G' (ks ++ [(c, h)]) :: L) := by
  refine ⟨fun g => G2 g ∨ G g, H.join.conv (fun g h => h) (fun hS => ⟨?_, hS.lt, cmsr_loc _ _⟩)⟩
  obtain ⟨h1, h2⟩ := hS.here
  intro p hp
  rcases List.mem_append.1 hp with hp | hp
  · exact (h2 p hp).mono (fun g h => .inr h)
  · rw [List.mem_singleton] at hp
    subst hp
    exact CmG.mono (fun g h => .inl h) h1
theorem St.cmsd {B : Nat} {w0 w : World} {L : List Res} {G : Nat → Prop} {ks ls : List (Cm × Hd)} (H : St B w0 w (cmsr G ks :: L)) (h : ∀ p ∈ ls, p ∈ ks) : St B w0 w (cmsr G ls :: L) :=
  H.conv (fun g h => h) (fun hS => ⟨fun p hp => hS.here p (h p hp), hS.lt, cmsr_loc _ _⟩)
theorem cm_one (c : Cm) (ba ma la da : Option Addr) (bc mc lc dc : Nat) : ∀ u ∈ (cmC c ba ma la da bc mc lc dc).toList, u.oneCell' = true := by
  intro u hu
  simp only [cmC, List.mem_cons, List.not_mem_nil, or_false] at hu
  rcases hu with rfl | rfl | rfl | rfl | rfl | rfl | rfl | rfl | rfl | rfl <;> rfl
end Go.Proofs.Ytjghcmejmdllbaa
