/- The plain law of ElectOne, in what the program's proposers and acceptors hold: each step of the script keeps the invariant; what is chosen twice is one command. The plain law of ElectOne, steps joined as the script takes them: asked to promise and answered, asked to accept and answered; the bounds that the calls want. Contracts of layer 20's Acceptor (accept): New, asked, nack; the bounds stand in each. -/
import Derived.Test.YtjghcmejmdllbaaEy1
import Derived.Test.YtjghcmejmdllbaaEy7
import Derived.Test.YtjghcmejmdllbaaEy12
import Derived.Test.YtjghcmejmdllbaaEy20
import Derived.Test.YtjghcmejmdllbaaEy21
namespace Go.Proofs.Ytjghcmejmdllbaa
set_option linter.unusedVariables false
set_option linter.unusedSimpArgs false
set_option maxRecDepth 100000
def wb (b : Bl) : Prop := b = bl0 ∨ (b.w.2 = 1 ∧ 1 ≤ b.w.1 ∧ b.w.1 ≤ 3)
def nm (b : Bl) : Nat := b.r * 65536 + b.w.1
def ldr3 (x : Nat) : Pr := (x + 1, 1)
def ownr (n : Nat) : Nat := n % 65536 - 1
theorem wb.cases {b : Bl} (h : wb b) : (b.r = 0 ∧ b.w.1 = 0 ∧ b.w.2 = 0) ∨ (b.w.2 = 1 ∧ 1 ≤ b.w.1 ∧ b.w.1 ≤ 3) := by
  rcases h with rfl | h
  · exact .inl ⟨rfl, rfl, rfl⟩
  · exact .inr h
theorem wb.lt1 {b : Bl} (h : wb b) : b.w.1 < 65536 := by have := h.cases; omega
theorem wb.lt2 {b : Bl} (h : wb b) : b.w.2 < 4294967296 := by have := h.cases; omega
theorem nm_lt {b c : Bl} (hb : wb b) (hc : wb c) : blt b c = decide (nm b < nm c) := by
  have h1 := hb.cases
  have h2 := hc.cases
  obtain ⟨r, i, j⟩ := b
  obtain ⟨s, k, l⟩ := c
  simp only at h1 h2
  unfold blt ahd nm
  simp only
  split
  · split
    · exact decide_eq_decide.2 (by omega)
    · exact decide_eq_decide.2 (by omega)
  · exact decide_eq_decide.2 (by omega)
theorem nm_le {b c : Bl} (hb : wb b) (hc : wb c) (h : blt b c = false) : nm c ≤ nm b := by
  rw [nm_lt hb hc, decide_eq_false_iff_not] at h; omega
theorem nm_own {b : Bl} {x : Nat} (hx : x < 3) (h : b.w = ldr3 x) : ownr (nm b) = x := by
  unfold ownr nm; rw [h]; show (b.r * 65536 + (x + 1)) % 65536 - 1 = x; omega
theorem wb_of {b : Bl} {x : Nat} (hx : x < 3) (h : b.w = ldr3 x) : wb b := .inr (by rw [h]; exact ⟨rfl, Nat.le_add_left _ _, by show x + 1 ≤ 3; omega⟩)
theorem bits_old : ∀ m : Nat, m < 8 → ∀ y : Nat, y < 3 → ∀ j : Nat, j < 3 → hasM ((setM (m, 0) (y : Int)).1, (setM (m, 0) (y : Int)).2) (j : Int) = true → j = y ∨ hasM (m, 0) (j : Int) = true := by decide +kernel
theorem bits_lt : ∀ m : Nat, m < 8 → ∀ y : Nat, y < 3 → (setM (m, 0) (y : Int)).1 < 8 ∧ (setM (m, 0) (y : Int)).2 = 0 := by decide +kernel
theorem bits_maj : ∀ m : Nat, m < 8 → majM m 0 3 = true → ∃ i : Nat, i < 3 ∧ ∃ j : Nat, j < 3 ∧ i ≠ j ∧ hasM (m, 0) (i : Int) = true ∧ hasM (m, 0) (j : Int) = true := by decide +kernel
theorem at_l3 : ∀ y, y < 3 → atR l3 (ldr3 y) = (y : Int) := by
  intro y hy
  have : y = 0 ∨ y = 1 ∨ y = 2 := by omega
  rcases this with rfl | rfl | rfl <;> decide +kernel
/-- What an acceptor holds. -/
structure Ad where
  pr : Bl
  has : Option (Bl × Cm)
def prepD (a : Ad) (b : Bl) : Int × Bl × Bool × Bl × Cm × Ad :=
  if blt b a.pr = true then (8, a.pr, false, bl0, cm0, a) else
    match a.has with
    | none => (5, b, false, bl0, cm0, ⟨b, none⟩)
    | some (y, c) => (5, b, true, y, c, ⟨b, some (y, c)⟩)
def takeD (a : Ad) (b : Bl) (c : Cm) : Int × Bl × Ad :=
  if blt b a.pr = true then (8, a.pr, a) else (7, b, ⟨b, some (b, c)⟩)
def Gd (c : Cm) : Prop := smC c ∧ wfC c ∧ cErr c = 0 ∧ c.kind ≠ 0
def aph (d : Pd) : Nat := if d.ph = 2 ∧ d.sl ≠ 1 then 4 else d.ph.toNat
def apOf (d : Pd) : AP Cm := ⟨aph d, nm d.bl, d.val.map fun q => (nm q.1, q.2), fun a => hasM (d.a1, d.a2) (a : Int)⟩
structure PI (x : Nat) (d : Pd) : Prop where
  w : Pw d
  p0 : d.ph = 0 ∨ d.ph = 1 ∨ d.ph = 2 ∨ d.ph = 3
  ld : d.ph ≠ 0 → d.ld = l3
  bw : d.ph ≠ 0 → d.bl.w = ldr3 x
  a2 : d.ph ≠ 0 → d.a2 = 0 ∧ d.a1 < 8
  sl : d.ph ≠ 0 → d.ph ≠ 2 → d.sl = 1
  vw : ∀ u c, d.val = some (u, c) → wb u
structure AI (a : Ad) : Prop where
  pr : wb a.pr
  pn : a.pr.r < 4294967296
  has : ∀ y c, a.has = some (y, c) → wb y ∧ Gd c
def chO (c : Cm) : Option Cm := if c.kind = 0 then none else some c
def topD (D : Nat → Pd) (x : Nat) : Nat := (D x).sn.r * 65536 + (x + 1)
def hmp (o : Option (Bl × Cm)) : Option (Nat × Cm) := o.map fun q => (nm q.1, q.2)
def SIf (D : Nat → Pd) (A : Nat → Ad) (cc : Cm) : Prop :=
  ∃ pv vt, Inv Gd ownr (fun x => apOf (D x)) (fun a => nm (A a).pr) (fun a => hmp (A a).has) (chO cc) pv vt (topD D) ∧ (∀ x, x < 3 → PI x (D x)) ∧ ∀ a, a < 3 → AI (A a)
theorem maj_ans {d : Pd} {m : Nat × Nat} (h1 : m.1 < 8) (h2 : m.2 = 0) (h : majM m.1 m.2 3 = true) (e : (d.a1, d.a2) = m) : Maj fun j => (apOf d).ans j = true := by
  obtain ⟨m1, m2⟩ := m
  simp only at h1 h2 h
  subst h2
  obtain ⟨i, hi, j, hj, hij, q1, q2⟩ := bits_maj m1 h1 h
  refine ⟨i, j, hi, hj, hij, ?_, ?_⟩
  · show hasM (d.a1, d.a2) (i : Int) = true; rw [e]; exact q1
  · show hasM (d.a1, d.a2) (j : Int) = true; rw [e]; exact q2
theorem upd_id {α : Type} (f : Nat → α) (x : Nat) : upd f x (f x) = f := by
  funext j; unfold upd; split
  · rename_i h; rw [h]
  · rfl
theorem upd_map {α β : Type} (g : α → β) (f : Nat → α) (x : Nat) (v : α) : (fun y => g (upd f x v y)) = upd (fun y => g (f y)) x (g v) := by
  funext j; unfold upd; split <;> rfl
theorem upd_all {α : Type} {P : Nat → α → Prop} {f : Nat → α} {x : Nat} {v : α} (h : ∀ y, y < 3 → P y (f y)) (hv : P x v) : ∀ y, y < 3 → P y (upd f x v y) := by
  intro y hy
  by_cases e : y = x
  · subst e; rw [upd_at]; exact hv
  · rw [upd_ne _ _ e]; exact h y hy
theorem top_le {D : Nat → Pd} {x : Nat} {d : Pd} (h : (D x).sn.r ≤ d.sn.r) : ∀ y, topD D y ≤ topD (upd D x d) y := by
  intro y
  unfold topD
  by_cases e : y = x
  · subst e; rw [upd_at]; exact Nat.add_le_add_right (Nat.mul_le_mul_right 65536 h) _
  · rw [upd_ne _ _ e]; exact Nat.le_refl _
theorem top_eq {D : Nat → Pd} {x : Nat} {d : Pd} (h : d.sn = (D x).sn) : topD (upd D x d) = topD D := by
  funext y
  unfold topD
  by_cases e : y = x
  · subst e; rw [upd_at, h]
  · rw [upd_ne _ _ e]
theorem see_r (d : Pd) (b : Bl) : d.sn.r ≤ (seeD d b).sn.r := by
  unfold seeD
  simp only
  split
  · rename_i h
    unfold blt at h
    split at h
    · omega
    · simp only [decide_eq_true_eq] at h; omega
  · exact Nat.le_refl _
section
variable {D : Nat → Pd} {A : Nat → Ad} {cc : Cm} {x y : Nat}
theorem aph_one {d : Pd} (h : d.ph = 1) : (apOf d).ph = 1 := by
  show aph d = 1
  unfold aph; rw [h]; rfl
theorem aph_three {d : Pd} (h : d.ph = 3) : (apOf d).ph = 3 := by
  show aph d = 3
  unfold aph; rw [h]; rfl
theorem aph_two {d : Pd} (h : d.ph = 2) (hs : d.sl = 1) : (apOf d).ph = 2 := by
  show aph d = 2
  unfold aph; rw [h, hs]; rfl
theorem SIf.start (h : SIf D A cc) (hx : x < 3) {b : Bl} {i : Int} {d' : Pd} (hs : startD (D x) (ldr3 x) awV3 1 = (b, i, d')) : SIf (upd D x d') A cc := by
  obtain ⟨pv, vt, hI, hP, hA⟩ := h
  have hw := (hP x hx).w
  have hs0 := hs
  have hin : ldr3 x ∈ awV3.ldr := by
    have : x = 0 ∨ x = 1 ∨ x = 2 := by omega
    rcases this with rfl | rfl | rfl <;> decide
  unfold startD at hs
  rw [if_pos ⟨awV3_err, hin⟩] at hs
  by_cases hm : (D x).sn.r = 4294967295
  · rw [if_pos hm] at hs
    injection hs with _ hs
    injection hs with _ hs
    subst hs
    rw [upd_id]
    exact ⟨pv, vt, hI, hP, hA⟩
  · rw [if_neg hm] at hs
    injection hs with _ hs
    injection hs with _ hs
    have hwd := hw.start (sf := ldr3 x) (x := awV3) (s0 := 1) (by show x + 1 < 65536; omega) (by show (1 : Nat) < 4294967296; decide) (by decide) (by decide) hs0
    refine ⟨pv, vt, ?_, upd_all hP ?_, hA⟩
    · rw [upd_map apOf D x d']
      have he : apOf d' = ⟨1, nm ⟨(D x).sn.r + 1, ldr3 x⟩, none, fun _ => false⟩ := by
        subst hs
        unfold apOf aph hasM
        simp
      rw [he]
      refine hI.start x _ (nm_own hx rfl) ?_ _ (top_le (by subst hs; exact Nat.le_succ _)) ?_
      · show (D x).sn.r * 65536 + (x + 1) < ((D x).sn.r + 1) * 65536 + (x + 1); omega
      · unfold topD; rw [upd_at]; subst hs; exact Nat.le_refl _
    · subst hs
      exact ⟨hwd, .inr (.inl rfl), fun _ => rfl, fun _ => rfl, fun _ => ⟨rfl, (show (0 : Nat) < 8 from by decide)⟩, fun _ _ => rfl, fun u c e => by cases e⟩
theorem SIf.refused (h : SIf D A cc) (hx : x < 3) (hy : y < 3) (hph : (D x).ph ≠ 0) (hb : blt (D x).bl (A y).pr = true) {r : Bool} {d' : Pd} (hn : nackD (D x) 8 (A y).pr = (r, d')) : SIf (upd D x d') A cc ∧ d'.ph = 0 := by
  obtain ⟨pv, vt, hI, hP, hA⟩ := h
  have ha := hA y hy
  have hw := (hP x hx).w.nack ha.pn ha.pr.lt1 ha.pr.lt2 hn
  unfold nackD at hn
  rw [if_pos ⟨hph, rfl, hb⟩] at hn
  injection hn with _ hn
  have h0 : d'.ph = 0 := by rw [← hn]; rfl
  refine ⟨⟨pv, vt, ?_, upd_all hP ⟨hw, .inl h0, fun e => absurd h0 e, fun e => absurd h0 e, fun e => absurd h0 e, fun e => absurd h0 e, fun u c e => by rw [← hn] at e; cases e⟩, hA⟩, h0⟩
  rw [upd_map apOf D x d']
  refine (hI.grow _ (top_le (by rw [← hn]; exact see_r _ _))).idle x _ ?_
  show aph d' = 0
  unfold aph; rw [h0]; rfl
theorem SIf.pbl (h : SIf D A cc) (hx : x < 3) (hph : (D x).ph ≠ 0) : wb (D x).bl := by
  obtain ⟨pv, vt, hI, hP, hA⟩ := h
  exact wb_of hx ((hP x hx).bw hph)
theorem hs_keep {b : Bl} {o : Option (Bl × Cm)} (h : o = (A y).has) : (fun a => hmp (upd A y ⟨b, o⟩ a).has) = fun a => hmp (A a).has := by
  rw [upd_map (fun q : Ad => hmp q.has) A y ⟨b, o⟩]
  subst h
  exact upd_id (fun a => hmp (A a).has) y
theorem pr_up (b : Bl) (o : Option (Bl × Cm)) : (fun a => nm (upd A y ⟨b, o⟩ a).pr) = upd (fun a => nm (A a).pr) y (nm b) := upd_map (fun q : Ad => nm q.pr) A y ⟨b, o⟩
theorem upd_ge {f : Nat → Nat} {n : Nat} (h : f y ≤ n) : ∀ a, f a ≤ upd f y n a := by
  intro a
  by_cases e : a = y
  · subst e; rw [upd_at]; exact h
  · rw [upd_ne _ _ e]; exact Nat.le_refl _
theorem more_upd {v : Option (Bl × Cm)} (hv : ∀ u c, v = some (u, c) → wb u) {o : Option (Bl × Cm)} (ho : ∀ u c, o = some (u, c) → wb u) (mh : Bool) (ma : Bl) (mc : Cm) (h : (o = none ∧ mh = false) ∨ (mh = true ∧ o = some (ma, mc))) :
    hmp (if updB v mh ma = true then some (ma, mc) else v) = more (hmp v) (hmp o) := by
  rcases h with ⟨rfl, rfl⟩ | ⟨rfl, rfl⟩
  · have : updB v false ma = false := rfl
    rw [this]
    rfl
  · cases v with
    | none => rfl
    | some q =>
      obtain ⟨u, c⟩ := q
      have h1 : updB (some (u, c)) true ma = decide (nm u < nm ma) := by
        show (true && blt u ma) = _
        rw [Bool.true_and, nm_lt (hv u c rfl) (ho ma mc rfl)]
      rw [h1]
      show _ = if nm u < nm ma then some (nm ma, mc) else some (nm u, c)
      by_cases hl : nm u < nm ma
      · rw [if_pos hl, decide_eq_true hl]; rfl
      · rw [if_neg hl, decide_eq_false hl]; rfl
theorem SIf.prepared (h : SIf D A cc) (hx : x < 3) (hy : y < 3) (hph : (D x).ph = 1) (hb : blt (D x).bl (A y).pr = false) (mh : Bool) (ma : Bl) (mc : Cm) (hm : ((A y).has = none ∧ mh = false) ∨ (mh = true ∧ (A y).has = some (ma, mc))) {o : Option (Bl × Cm)} (ho : o = (A y).has) {r : Bool} {d' : Pd}
    (hwd : Pw d') (hp : promD (D x) (ldr3 y) 5 1 (D x).bl mh ma mc = (r, d')) : SIf (upd D x d') (upd A y ⟨(D x).bl, o⟩) cc ∧ d'.ph ≠ 3 := by
  have hwb := h.pbl hx (by rw [hph]; decide)
  obtain ⟨pv, vt, hI, hP, hA⟩ := h
  have hPx := hP x hx
  have h0 : (D x).ph ≠ 0 := by rw [hph]; decide
  have hld := hPx.ld h0
  obtain ⟨ha2, ha1⟩ := hPx.a2 h0
  have hsl := hPx.sl h0 (by rw [hph]; decide)
  have hAy := hA y hy
  have hA' : ∀ a, a < 3 → AI (upd A y ⟨(D x).bl, o⟩ a) := upd_all hA ⟨hwb, hPx.w.sr |> fun _ => by
    have := (hI.b0 x hx (by show (apOf (D x)).ph ≠ 0; rw [aph_one hph]; decide)).2
    have h1 : nm (D x).bl ≤ (D x).sn.r * 65536 + (x + 1) := this
    unfold nm at h1
    rw [hPx.bw h0] at h1
    have h2 : (ldr3 x).1 = x + 1 := rfl
    have := hPx.w.sr
    show (D x).bl.r < 4294967296
    omega, fun u c e => hAy.has u c (by rw [← ho]; exact e)⟩
  have hR := hI.raise (upd (fun a => nm (A a).pr) y (nm (D x).bl)) (upd_ge (nm_le hwb hAy.pr hb))
  unfold promD at hp
  by_cases hh : hasM ((D x).a1, (D x).a2) (y : Int) = false
  · rw [if_pos ⟨hph, rfl, hsl.symm, rfl, by rw [hld, at_l3 y hy]; omega, by rw [hld, at_l3 y hy]; exact hh⟩] at hp
    injection hp with hr hp
    rw [hld, at_l3 y hy, ha2] at hp hr
    obtain ⟨hb1, hb2⟩ := bits_lt _ ha1 y hy
    obtain ⟨m1, m2, hm1, hm2⟩ : ∃ m1 m2, (setM ((D x).a1, 0) (y : Int)).1 = m1 ∧ (setM ((D x).a1, 0) (y : Int)).2 = m2 := ⟨_, _, rfl, rfl⟩
    have hold : ∀ j : Nat, j < 3 → hasM (m1, m2) (j : Int) = true → j = y ∨ hasM ((D x).a1, 0) (j : Int) = true := fun j hj3 hj => bits_old _ ha1 y hy j hj3 (by rw [hm1, hm2]; exact hj)
    rw [hm1, hm2] at hp hr
    rw [hm1] at hb1
    rw [hm2] at hb2
    have hr' : majM m1 m2 3 = r := hr
    have hp' : (⟨(D x).sn, if majM m1 m2 3 = true then 2 else 1, l3, (D x).sl, (D x).bl, m1, m2, if updB (D x).val mh ma = true then some (ma, mc) else (D x).val⟩ : Pd) = d' := hp
    clear hp hr
    rw [hr'] at hp'
    obtain ⟨v', hv'⟩ : ∃ v', (if updB (D x).val mh ma = true then some (ma, mc) else (D x).val) = v' := ⟨_, rfl⟩
    rw [hv'] at hp'
    have hph' : d'.ph = 1 ∨ (d'.ph = 2 ∧ r = true) := by
      subst hp'
      cases r
      · exact .inl rfl
      · exact .inr ⟨rfl, rfl⟩
    have e1 : d'.a1 = m1 := by subst hp'; rfl
    have e2 : d'.a2 = m2 := by subst hp'; rfl
    have e3 : d'.val = v' := by subst hp'; rfl
    have e4 : d'.sl = (D x).sl := by subst hp'; rfl
    have e5 : d'.bl = (D x).bl := by subst hp'; rfl
    have e6 : d'.sn = (D x).sn := by subst hp'; rfl
    have e7 : d'.ld = l3 := by subst hp'; rfl
    clear hp'
    have hvw : ∀ u c, d'.val = some (u, c) → wb u := by
      intro u c e
      rw [e3, ← hv'] at e
      split at e
      · cases e
        rcases hm with ⟨_, rfl⟩ | ⟨_, hm⟩
        · rename_i h9; exact absurd h9 (by show ¬ (false && _) = true; simp)
        · exact (hAy.has _ _ hm).1
      · exact hPx.vw u c e
    have hsl' : d'.sl = 1 := by rw [e4]; exact hsl
    have hp4 : d'.ph = 0 ∨ d'.ph = 1 ∨ d'.ph = 2 ∨ d'.ph = 3 := by
      rcases hph' with e | ⟨e, _⟩
      · exact .inr (.inl e)
      · exact .inr (.inr (.inl e))
    refine ⟨⟨pv, vt, ?_, upd_all hP ⟨hwd, hp4, fun _ => e7, fun _ => by rw [e5]; exact hPx.bw h0, fun _ => ⟨by rw [e2]; exact hb2, by rw [e1]; exact hb1⟩, fun _ _ => hsl', hvw⟩, hA'⟩, by rcases hph' with e | ⟨e, _⟩ <;> rw [e] <;> decide⟩
    rw [upd_map apOf D x d', hs_keep ho, pr_up, top_eq e6]
    refine hR.answer x y hx hy (aph_one hph) (upd_at _ _ _) (apOf d') (by show nm d'.bl = nm (D x).bl; rw [e5]) ?_ ?_ ?_ ?_
    · rcases hph' with e | ⟨e, _⟩
      · exact .inl (aph_one e)
      · exact .inr (aph_two e hsl')
    · show hmp d'.val = more (hmp (D x).val) (hmp (A y).has)
      rw [e3, ← hv']
      exact more_upd hPx.vw (fun u c e => (hAy.has u c e).1) mh ma mc hm
    · intro j hj3 hj
      have hj' : hasM (d'.a1, d'.a2) (j : Int) = true := hj
      rw [e1, e2] at hj'
      rcases hold j hj3 hj' with e | e
      · exact .inl e
      · exact .inr (by show hasM ((D x).a1, (D x).a2) (j : Int) = true; rw [ha2]; exact e)
    · intro e
      have e' : aph d' = 2 := e
      have hrt : r = true := by
        rcases hph' with h9 | ⟨_, h9⟩
        · have h8 : aph d' = 1 := aph_one h9
          rw [h8] at e'
          exact absurd e' (by decide)
        · exact h9
      exact maj_ans (m := (m1, m2)) hb1 hb2 (by rw [hr']; exact hrt) (by rw [e1, e2])
  · have hneg : ¬ ((D x).ph = 1 ∧ (5 : Int) = 5 ∧ 1 = (D x).sl ∧ (D x).bl = (D x).bl ∧ 0 ≤ atR (D x).ld (ldr3 y) ∧ hasM ((D x).a1, (D x).a2) (atR (D x).ld (ldr3 y)) = false) := fun q => hh (by
      have := q.2.2.2.2.2
      rw [hld, at_l3 y hy] at this; exact this)
    rw [if_neg hneg] at hp
    injection hp with hr hp
    subst hp
    rw [upd_id]
    refine ⟨⟨pv, vt, ?_, hP, hA'⟩, by rw [hph]; decide⟩
    rw [hs_keep ho, pr_up]
    exact hR
theorem SIf.proposed (h : SIf D A cc) (hx : x < 3) (hsl : (D x).sl = 1) {c cv : Cm} {i : Int} {d' : Pd} (hs : smC c) (hw : wfC c) (hk : c.kind ≠ 0) (hp : propD (D x) c = (cv, i, d')) : SIf (upd D x d') A cc := by
  obtain ⟨pv, vt, hI, hP, hA⟩ := id h
  have hPx := hP x hx
  have hwd := hPx.w.prop hs hp
  unfold propD at hp
  by_cases hph : (D x).ph = 2
  · have hwb := h.pbl hx (by rw [hph]; decide)
    have h0 : (D x).ph ≠ 0 := by rw [hph]; decide
    rw [if_pos hph] at hp
    by_cases hc : cErr c = 0
    · rw [if_pos hc] at hp
      have key : ∀ c', Gd c' → (∀ u e, (D x).val = some (u, e) → e = c') → ∀ u', d' = { D x with ph := 3, a1 := 0, a2 := 0, val := some (u', c') } → wb u' → SIf (upd D x d') A cc := by
        intro c' hg hq u' he hu'
        subst he
        refine ⟨fun n e => pv n e ∨ (n = nm (D x).bl ∧ e = c'), vt, ?_, upd_all hP ⟨hwd, .inr (.inr (.inr rfl)), fun _ => hPx.ld h0, fun _ => hPx.bw h0, fun _ => ⟨rfl, by show (0 : Nat) < 8; decide⟩, fun _ _ => hsl, fun u e hv => by
          have : some (u', c') = some (u, e) := hv
          cases this; exact hu'⟩, hA⟩
        rw [upd_map apOf D x _, top_eq (D := D) (x := x) (d := { D x with ph := 3, a1 := 0, a2 := 0, val := some (u', c') }) rfl]
        refine hI.propose x hx (aph_two hph hsl) c' hg ?_ _ rfl rfl ⟨nm u', rfl⟩ (fun j => ?_)
        · intro u e hv
          have hv' : hmp (D x).val = some (u, e) := hv
          cases hq9 : (D x).val with
          | none => rw [hq9] at hv'; cases hv'
          | some q =>
            obtain ⟨u9, e9⟩ := q
            rw [hq9] at hv'
            cases hv'
            exact hq _ _ hq9
        · show hasM (0, 0) (j : Int) = false
          unfold hasM; simp
      cases hv : (D x).val with
      | none =>
        rw [hv] at hp
        injection hp with _ hp
        injection hp with _ hp
        exact key c ⟨hs, hw, hc, hk⟩ (fun u e q => by rw [hv] at q; cases q) (D x).bl hp.symm hwb
      | some q =>
        obtain ⟨u, e⟩ := q
        rw [hv] at hp
        injection hp with _ hp
        injection hp with _ hp
        have hpv := hI.i7v x hx (.inr (aph_two hph hsl)) (nm u) e (by show hmp (D x).val = _; rw [hv]; rfl)
        exact key e (hI.g _ _ hpv.2) (fun u2 e2 q => by rw [hv] at q; cases q; rfl) u (by rw [← hp]) (hPx.vw u e hv)
    · rw [if_neg hc] at hp
      injection hp with _ hp
      injection hp with _ hp
      subst hp; rw [upd_id]; exact h
  · rw [if_neg hph] at hp
    injection hp with _ hp
    injection hp with _ hp
    subst hp; rw [upd_id]; exact h
theorem SIf.val3 (h : SIf D A cc) (hx : x < 3) (hph : (D x).ph = 3) : ∃ u c, (D x).val = some (u, c) ∧ Gd c := by
  obtain ⟨pv, vt, hI, hP, hA⟩ := h
  obtain ⟨u, c, h1, h2, _⟩ := hI.i9 x hx (aph_three hph)
  have h1' : hmp (D x).val = some (u, c) := h1
  cases hv : (D x).val with
  | none => rw [hv] at h1'; cases h1'
  | some q =>
    obtain ⟨u9, c9⟩ := q
    rw [hv] at h1'
    cases h1'
    exact ⟨_, _, rfl, hI.g _ _ h2⟩
theorem chO_of {c : Cm} (h : c.kind ≠ 0) : chO c = some c := if_neg h
theorem SIf.voted (h : SIf D A cc) (hx : x < 3) (hy : y < 3) (hph : (D x).ph = 3) {u : Bl} {c : Cm} (hv : (D x).val = some (u, c)) (hb : blt (D x).bl (A y).pr = false) {r : Bool} {d' : Pd}
    (hp : accD (D x) (ldr3 y) 7 1 (D x).bl = (r, d')) : (r = true → cc.kind ≠ 0 → cc = c) ∧ SIf (upd D x d') (upd A y ⟨(D x).bl, some ((D x).bl, c)⟩) (if r = true then c else cc) := by
  have h0 : (D x).ph ≠ 0 := by rw [hph]; decide
  have hwb := h.pbl hx h0
  obtain ⟨u9, c9, hv9, hg⟩ := h.val3 hx hph
  rw [hv] at hv9
  cases hv9
  obtain ⟨pv, vt, hI, hP, hA⟩ := h
  have hPx := hP x hx
  have hwd := hPx.w.acc hp
  have hld := hPx.ld h0
  obtain ⟨ha2, ha1⟩ := hPx.a2 h0
  have hsl := hPx.sl h0 (by rw [hph]; decide)
  have hAy := hA y hy
  have hpn : (D x).bl.r < 4294967296 := by
    have := (hI.b0 x hx (by show (apOf (D x)).ph ≠ 0; rw [aph_three hph]; decide)).2
    have h1 : nm (D x).bl ≤ (D x).sn.r * 65536 + (x + 1) := this
    unfold nm at h1
    rw [hPx.bw h0] at h1
    have h2 : (ldr3 x).1 = x + 1 := rfl
    have := hPx.w.sr
    omega
  have hA' : ∀ a, a < 3 → AI (upd A y ⟨(D x).bl, some ((D x).bl, c)⟩ a) := upd_all hA ⟨hwb, hpn, fun u e hq => by cases hq; exact ⟨hwb, hg⟩⟩
  have hR := hI.raise (upd (fun a => nm (A a).pr) y (nm (D x).bl)) (upd_ge (nm_le hwb hAy.pr hb))
  have hV := hR.vote x y hx (aph_three hph) (upd_at _ _ _) (nm u) c (by show hmp (D x).val = _; rw [hv]; rfl)
  have hvt : (fun a' n d => vt a' n d ∨ (a' = y ∧ n = nm (D x).bl ∧ d = c)) y (nm (D x).bl) c := .inr ⟨rfl, rfl, rfl⟩
  have ehs : (fun a => hmp (upd A y ⟨(D x).bl, some ((D x).bl, c)⟩ a).has) = upd (fun a => hmp (A a).has) y (some (nm (D x).bl, c)) := upd_map (fun q : Ad => hmp q.has) A y _
  unfold accD at hp
  by_cases hh : hasM ((D x).a1, (D x).a2) (y : Int) = false
  · rw [if_pos ⟨hph, rfl, hsl.symm, rfl, by rw [hld, at_l3 y hy]; omega, by rw [hld, at_l3 y hy]; exact hh⟩] at hp
    injection hp with hr hp
    rw [hld, at_l3 y hy, ha2] at hp hr
    obtain ⟨hb1, hb2⟩ := bits_lt _ ha1 y hy
    have hold : ∀ j : Nat, j < 3 → hasM ((setM ((D x).a1, 0) (y : Int)).1, (setM ((D x).a1, 0) (y : Int)).2) (j : Int) = true → j = y ∨ (apOf (D x)).ans j = true := fun j hj3 hj => by
      rcases bits_old _ ha1 y hy j hj3 hj with e | e
      · exact .inl e
      · exact .inr (by show hasM ((D x).a1, (D x).a2) (j : Int) = true; rw [ha2]; exact e)
    have hr' : majM (setM ((D x).a1, 0) (y : Int)).1 (setM ((D x).a1, 0) (y : Int)).2 3 = r := hr
    have hp' : (⟨(D x).sn, if majM (setM ((D x).a1, 0) (y : Int)).1 (setM ((D x).a1, 0) (y : Int)).2 3 = true then 2 else 3, l3, if majM (setM ((D x).a1, 0) (y : Int)).1 (setM ((D x).a1, 0) (y : Int)).2 3 = true then ((D x).sl + 1) % 18446744073709551616 else (D x).sl, (D x).bl, (setM ((D x).a1, 0) (y : Int)).1, (setM ((D x).a1, 0) (y : Int)).2, if majM (setM ((D x).a1, 0) (y : Int)).1 (setM ((D x).a1, 0) (y : Int)).2 3 = true then none else (D x).val⟩ : Pd) = d' := hp
    clear hp
    rw [hr'] at hp'
    cases r
    · refine ⟨fun e => (by cases e), pv, (fun a' n d => vt a' n d ∨ (a' = y ∧ n = nm (D x).bl ∧ d = c)), ?_, upd_all hP ⟨hwd, by subst hp'; exact .inr (.inr (.inr rfl)), fun _ => by subst hp'; rfl, fun _ => by subst hp'; exact hPx.bw h0, fun _ => by subst hp'; exact ⟨hb2, hb1⟩, fun _ _ => by subst hp'; exact hsl, fun u e q => by subst hp'; exact hPx.vw u e q⟩, hA'⟩
      rw [upd_map apOf D x d', ehs, pr_up, top_eq (by subst hp'; rfl)]
      refine hV.took x y hx (aph_three hph) (nm u) c (by show hmp (D x).val = _; rw [hv]; rfl) hvt (apOf d') (aph_three (by subst hp'; rfl)) (by subst hp'; rfl) (by subst hp'; rfl) (fun j hj3 hj => hold j hj3 ?_)
      subst hp'; exact hj
    · obtain ⟨q1, q2⟩ := hV.done x y hx (aph_three hph) (nm u) c (by show hmp (D x).val = _; rw [hv]; rfl) hvt (fun j => hasM ((setM ((D x).a1, 0) (y : Int)).1, (setM ((D x).a1, 0) (y : Int)).2) (j : Int)) (by
        obtain ⟨i, hi, j, hj, hij, z1, z2⟩ : ∃ i : Nat, i < 3 ∧ ∃ j : Nat, j < 3 ∧ i ≠ j ∧ hasM ((setM ((D x).a1, 0) (y : Int)).1, (setM ((D x).a1, 0) (y : Int)).2) (i : Int) = true ∧ hasM ((setM ((D x).a1, 0) (y : Int)).1, (setM ((D x).a1, 0) (y : Int)).2) (j : Int) = true := by
          rw [hb2] at hr' ⊢
          exact bits_maj _ hb1 hr'
        exact ⟨i, j, hi, hj, hij, z1, z2⟩) hold (apOf d') (by subst hp'; show aph _ = 4; unfold aph; simp [hsl]) (by subst hp'; rfl)
      refine ⟨fun _ hk => q1 cc (chO_of hk), pv, (fun a' n d => vt a' n d ∨ (a' = y ∧ n = nm (D x).bl ∧ d = c)), ?_, upd_all hP ⟨hwd, by subst hp'; exact .inr (.inr (.inl rfl)), fun _ => by subst hp'; rfl, fun _ => by subst hp'; exact hPx.bw h0, fun _ => by subst hp'; exact ⟨hb2, hb1⟩, fun _ e => absurd (by subst hp'; rfl) e, fun u e q => by subst hp'; cases q⟩, hA'⟩
      rw [upd_map apOf D x d', ehs, pr_up, top_eq (by subst hp'; rfl), if_pos rfl, chO_of hg.2.2.2]
      exact q2
  · have hneg : ¬ ((D x).ph = 3 ∧ (7 : Int) = 7 ∧ 1 = (D x).sl ∧ (D x).bl = (D x).bl ∧ 0 ≤ atR (D x).ld (ldr3 y) ∧ hasM ((D x).a1, (D x).a2) (atR (D x).ld (ldr3 y)) = false) := fun q => hh (by
      have := q.2.2.2.2.2
      rw [hld, at_l3 y hy] at this; exact this)
    rw [if_neg hneg] at hp
    injection hp with hr hp
    subst hp hr
    rw [upd_id]
    refine ⟨fun e => (by cases e), pv, (fun a' n d => vt a' n d ∨ (a' = y ∧ n = nm (D x).bl ∧ d = c)), ?_, hP, hA'⟩
    rw [ehs, pr_up]
    exact hV
theorem SIf.init : SIf (fun _ => ⟨bl0, 0, [], 0, bl0, 0, 0, none⟩) (fun _ => ⟨bl0, none⟩) cm0 :=
  ⟨fun _ _ => False, fun _ _ _ => False, {
      g := fun _ _ h => h.elim
      b0 := fun _ _ h => absurd rfl h
      b1 := fun _ _ h => h.elim
      b3 := fun _ _ _ _ h => h.elim
      i1 := fun _ _ _ _ h => h.elim
      i2 := fun _ _ _ h => h.elim
      i3 := fun _ _ _ _ h => by cases h
      i4 := fun _ _ _ _ _ h => h
      i5 := fun _ _ h => h.elim
      i6 := fun _ h => by cases h
      i7 := fun _ _ h => by rcases h with h | h <;> cases h
      i7v := fun _ _ h => by rcases h with h | h <;> cases h
      i8 := fun _ _ h => by cases h
      i9 := fun _ _ h => by cases h },
    fun _ _ => ⟨Pw.new (0, 0), .inl rfl, fun e => absurd rfl e, fun e => absurd rfl e, fun e => absurd rfl e, fun e => absurd rfl e, fun _ _ h => by cases h⟩,
    fun _ _ => ⟨.inl rfl, by show (0 : Nat) < _; decide, fun _ _ h => by cases h⟩⟩
end
end Go.Proofs.Ytjghcmejmdllbaa
namespace Go.Proofs.Ytjghcmejmdllbaa
set_option linter.unusedVariables false
set_option linter.unusedSimpArgs false
set_option maxRecDepth 100000
section
variable {D : Nat → Pd} {A : Nat → Ad} {cc : Cm} {x y : Nat}
theorem ldr3_may {b : Bl} (hx : x < 3) (h : b.w = ldr3 x) : may b.w.1 b.w.2 = true := by
  rw [h]
  have : x = 0 ∨ x = 1 ∨ x = 2 := by omega
  rcases this with rfl | rfl | rfl <;> rfl
theorem SIf.bl (h : SIf D A cc) (hx : x < 3) (hph : (D x).ph ≠ 0) : (D x).bl.w.1 < 65536 ∧ (D x).bl.w.2 < 4294967296 ∧ may (D x).bl.w.1 (D x).bl.w.2 = true := by
  have hwb := h.pbl hx hph
  obtain ⟨pv, vt, hI, hP, hA⟩ := h
  exact ⟨hwb.lt1, hwb.lt2, ldr3_may hx ((hP x hx).bw hph)⟩
theorem SIf.pd (h : SIf D A cc) (hx : x < 3) : Pw (D x) := by
  obtain ⟨pv, vt, hI, hP, hA⟩ := h
  exact (hP x hx).w
theorem SIf.ai (h : SIf D A cc) (hy : y < 3) : AI (A y) := by
  obtain ⟨pv, vt, hI, hP, hA⟩ := h
  exact hA y hy
theorem bl0_w : bl0.w.1 < 65536 ∧ bl0.w.2 < 4294967296 := ⟨by decide, by decide⟩
theorem prepD_w {a : Ad} (ha : AI a) {b : Bl} (hb1 : b.w.1 < 65536) (hb2 : b.w.2 < 4294967296) {kd : Int} {mb ma : Bl} {mh : Bool} {mc : Cm} {a' : Ad} (h : prepD a b = (kd, mb, mh, ma, mc, a')) : ma.w.1 < 65536 ∧ ma.w.2 < 4294967296 ∧ smC mc ∧ mb.w.1 < 65536 ∧ mb.w.2 < 4294967296 := by
  unfold prepD at h
  split at h
  · cases h
    exact ⟨bl0_w.1, bl0_w.2, cm0_sm, ha.pr.lt1, ha.pr.lt2⟩
  · split at h
    · cases h
      exact ⟨bl0_w.1, bl0_w.2, cm0_sm, hb1, hb2⟩
    · rename_i y c hc
      cases h
      obtain ⟨h1, h2⟩ := ha.has _ _ hc
      exact ⟨h1.lt1, h1.lt2, h2.1, hb1, hb2⟩
theorem takeD_w {a : Ad} (ha : AI a) {b : Bl} (hb1 : b.w.1 < 65536) (hb2 : b.w.2 < 4294967296) {c : Cm} {kd : Int} {mb : Bl} {a' : Ad} (h : takeD a b c = (kd, mb, a')) : mb.w.1 < 65536 ∧ mb.w.2 < 4294967296 := by
  unfold takeD at h
  split at h
  · cases h; exact ⟨ha.pr.lt1, ha.pr.lt2⟩
  · cases h; exact ⟨hb1, hb2⟩
theorem nkD_no {d d2 : Pd} {kd : Int} {mb : Bl} {r : Bool} (hk : kd ≠ 8) (h : nackD d kd mb = (r, d2)) : d2 = d := by
  unfold nackD at h
  rw [if_neg (fun q => hk q.2.1)] at h
  cases h; rfl
theorem pmD_no {d d2 : Pd} {q : Pr} {kd : Int} {ms : Nat} {mb ma : Bl} {mh : Bool} {mc : Cm} {r : Bool} (hk : kd ≠ 5) (h : promD d q kd ms mb mh ma mc = (r, d2)) : d2 = d := by
  unfold promD at h
  rw [if_neg (fun q => hk q.2.1)] at h
  cases h; rfl
theorem acD_no {d d2 : Pd} {q : Pr} {kd : Int} {ms : Nat} {mb : Bl} {r : Bool} (hk : kd ≠ 7) (h : accD d q kd ms mb = (r, d2)) : r = false ∧ d2 = d := by
  unfold accD at h
  rw [if_neg (fun q => hk q.2.1)] at h
  cases h; exact ⟨rfl, rfl⟩
theorem SIf.prep (h : SIf D A cc) (hx : x < 3) (hy : y < 3) (hph : (D x).ph = 1) {kd : Int} {mb ma : Bl} {mh : Bool} {mc : Cm} {a' : Ad} (hp : prepD (A y) (D x).bl = (kd, mb, mh, ma, mc, a'))
    {r r2 : Bool} {d1 d2 : Pd} (hw : Pw d1) (h1 : promD (D x) (ldr3 y) kd 1 mb mh ma mc = (r, d1)) (h2 : nackD d1 kd mb = (r2, d2)) : SIf (upd D x d2) (upd A y a') cc ∧ d2.ph ≠ 3 := by
  unfold prepD at hp
  by_cases hb : blt (D x).bl (A y).pr = true
  · rw [if_pos hb] at hp
    cases hp
    obtain rfl := pmD_no (by decide) h1
    obtain ⟨q1, q2⟩ := h.refused hx hy (by rw [hph]; decide) hb h2
    rw [upd_id]
    exact ⟨q1, by rw [q2]; decide⟩
  · have hbf : blt (D x).bl (A y).pr = false := by
      cases h9 : blt (D x).bl (A y).pr
      · rfl
      · exact absurd h9 hb
    rw [if_neg hb] at hp
    cases hh : (A y).has with
    | none =>
      rw [hh] at hp
      cases hp
      obtain rfl := nkD_no (by decide) h2
      exact h.prepared hx hy hph hbf _ _ _ (.inl ⟨hh, rfl⟩) hh.symm hw h1
    | some q =>
      obtain ⟨u, c⟩ := q
      rw [hh] at hp
      cases hp
      obtain rfl := nkD_no (by decide) h2
      exact h.prepared hx hy hph hbf _ _ _ (.inr ⟨rfl, hh⟩) hh.symm hw h1
theorem SIf.take (h : SIf D A cc) (hx : x < 3) (hy : y < 3) (hph : (D x).ph = 3) {c : Cm} {b : Bool} (hv : valD (D x) = (c, b)) {kd : Int} {mb : Bl} {a' : Ad} (hp : takeD (A y) (D x).bl c = (kd, mb, a'))
    {r r1 : Bool} {d1 d2 : Pd} (h1 : nackD (D x) kd mb = (r1, d1)) (h2 : accD d1 (ldr3 y) kd 1 mb = (r, d2)) : (r = true → cc.kind ≠ 0 → cc = c) ∧ SIf (upd D x d2) (upd A y a') (if r = true then c else cc) := by
  obtain ⟨u, c9, hval, hg⟩ := h.val3 hx hph
  unfold valD at hv
  rw [hval] at hv
  cases hv
  unfold takeD at hp
  by_cases hb : blt (D x).bl (A y).pr = true
  · rw [if_pos hb] at hp
    cases hp
    obtain ⟨q1, q2⟩ := h.refused hx hy (by rw [hph]; decide) hb h1
    obtain ⟨rfl, rfl⟩ := acD_no (by decide) h2
    rw [upd_id]
    exact ⟨fun e => (by cases e), q1⟩
  · have hbf : blt (D x).bl (A y).pr = false := by
      cases h9 : blt (D x).bl (A y).pr
      · rfl
      · exact absurd h9 hb
    rw [if_neg hb] at hp
    cases hp
    obtain rfl := nkD_no (by decide) h1
    exact h.voted hx hy hph hval hbf h2
/-- The value that a proposer who proposes tells. -/
theorem SIf.val (h : SIf D A cc) (hx : x < 3) (hph : (D x).ph = 3) {c : Cm} {b : Bool} (hv : valD (D x) = (c, b)) : smC c ∧ wfC c ∧ cErr c = 0 ∧ c.kind ≠ 0 := by
  obtain ⟨u, c9, hval, hg⟩ := h.val3 hx hph
  unfold valD at hv
  rw [hval] at hv
  cases hv
  exact hg
end
end Go.Proofs.Ytjghcmejmdllbaa
namespace Go.Proofs.Ytjghcmejmdllbaa
open Go.ChangeShapes Go.WideShapes Go.ChangeAt Go.RowKit Go.Maps
set_option linter.unusedVariables false
set_option linter.unusedSimpArgs false
set_option maxRecDepth 100000
set_option maxHeartbeats 2000000
/-- What is wrong with a slot and a ballot. -/
def asE (cur slot : Nat) (b : Bl) : Int := if may b.w.1 b.w.2 = false then 1 else if slot < cur then 10 else if cur < slot then 11 else 0
attribute [local irreducible] may
theorem asked_ok (g0 cur slot : Nat) (pr b : Bl) (x : Option Addr) (e : Int) (he : asE cur slot b = e) (w : World) (hr : w.heap[g0]? = some (.cells #[.int .u64 (cur : Int), .int .u32 (pr.r : Int), .int .u16 (pr.w.1 : Int), .int .u32 (pr.w.2 : Int), .pointer x] 156 (0, 0))) :
    Calls Try.prog 96 #[.pointer (some ⟨g0, 0, none⟩), .int .u64 (slot : Int), .agg (blC b)] w (Ret fun v w' => v = .int .i64 e ∧ Below w.heap.size w w') := by
  have H := St.init w
  have hc0 : w.cell? ⟨g0, 0, none⟩ = some (.int .u64 (cur : Int)) := by rw [cell_of_rowAt (rowAt_of hr)]; rfl
  have hc1 : w.cell? ⟨g0, 1, none⟩ = some (.int .u32 (pr.r : Int)) := by rw [cell_of_rowAt (rowAt_of hr)]; rfl
  have hc2 : w.cell? ⟨g0, 2, none⟩ = some (.int .u16 (pr.w.1 : Int)) := by rw [cell_of_rowAt (rowAt_of hr)]; rfl
  have hc3 : w.cell? ⟨g0, 3, none⟩ = some (.int .u32 (pr.w.2 : Int)) := by rw [cell_of_rowAt (rowAt_of hr)]; rfl
  have hlt : g0 < w.heap.size := rowAt_lt (rowAt_of hr)
  clear hr
  subst he
  unfold asE
  simp only [blC]
  cases hy : may b.w.1 b.w.2
  · have HY := Lib.hid hy
    rw [if_pos rfl]
    clear hy
    go_enter Try.func96, Try.ntmps96
    go_wp2_with (first | (go_at_call 99; (with_reducible refine (may_ok b.w.1 b.w.2 _).mono ?_); rintro e w1 ⟨v, rfl, hr⟩; obtain ⟨rfl, hb1⟩ := hr; replace H := H.grow hb1; clear hb1; rw [HY.out]) | (with_reducible refine wpl rfl (dQ 5 rfl ?_); with_reducible refine (Stp.box 5 rfl rfl rfl H ?_); clear H; intro g5 w1 H; simp only [pS]; simp only [pE, nC, pS] at H) | (with_reducible refine wpl rfl (ldQ (ty := 36) rfl ?_); first | (with_reducible refine (Stp.ldor rfl agg36 size36 rfl H (by assumption) sZ (by assumption) ?_); simp only [pS]) | (with_reducible refine (Stp.ldr rfl agg36 size36 rfl H mR sZ ?_); simp only [pS]) | (with_reducible refine (Stp.ldl rfl agg36 size36 rfl H mR (by simp) ?_); simp only [pS]; simp only [List.drop_succ_cons, List.drop_zero, List.take_succ_cons, List.take_zero])) | (with_reducible refine wpl rfl (ldQ (ty := 22) rfl ?_); first | (with_reducible refine (Stp.ldo rfl agg22 rfl H (by assumption) (by assumption) ?_); simp only [pS]) | (with_reducible refine (Stp.ldc rfl agg22 rfl H mR cE ?_); simp only [pS])))
    go_ret
    exact ⟨_, rfl, rfl, H.below⟩
  · have HY := Lib.hid hy
    rw [if_neg (by simp)]
    clear hy
    by_cases h1 : slot < cur
    · have h1i : (slot : Int) < (cur : Int) := by omega
      rw [if_pos h1]
      clear h1
      go_enter Try.func96, Try.ntmps96
      go_wp2_with (first | (go_at_call 99; (with_reducible refine (may_ok b.w.1 b.w.2 _).mono ?_); rintro e w1 ⟨v, rfl, hr⟩; obtain ⟨rfl, hb1⟩ := hr; replace H := H.grow hb1; clear hb1; rw [HY.out]) | (with_reducible refine wpl rfl (dQ 5 rfl ?_); with_reducible refine (Stp.box 5 rfl rfl rfl H ?_); clear H; intro g5 w1 H; simp only [pS]; simp only [pE, nC, pS] at H) | (with_reducible refine wpl rfl (ldQ (ty := 36) rfl ?_); first | (with_reducible refine (Stp.ldor rfl agg36 size36 rfl H (by assumption) sZ (by assumption) ?_); simp only [pS]) | (with_reducible refine (Stp.ldr rfl agg36 size36 rfl H mR sZ ?_); simp only [pS]) | (with_reducible refine (Stp.ldl rfl agg36 size36 rfl H mR (by simp) ?_); simp only [pS]; simp only [List.drop_succ_cons, List.drop_zero, List.take_succ_cons, List.take_zero])) | (with_reducible refine wpl rfl (ldQ (ty := 22) rfl ?_); first | (with_reducible refine (Stp.ldo rfl agg22 rfl H (by assumption) (by assumption) ?_); simp only [pS]) | (with_reducible refine (Stp.ldc rfl agg22 rfl H mR cE ?_); simp only [pS])))
      go_ret
      exact ⟨_, rfl, rfl, H.below⟩
    · have h1i : ¬ (slot : Int) < (cur : Int) := by omega
      rw [if_neg h1]
      by_cases h2 : cur < slot
      · have h2i : (cur : Int) < (slot : Int) := by omega
        rw [if_pos h2]
        clear h1 h2
        go_enter Try.func96, Try.ntmps96
        go_wp2_with (first | (go_at_call 99; (with_reducible refine (may_ok b.w.1 b.w.2 _).mono ?_); rintro e w1 ⟨v, rfl, hr⟩; obtain ⟨rfl, hb1⟩ := hr; replace H := H.grow hb1; clear hb1; rw [HY.out]) | (with_reducible refine wpl rfl (dQ 5 rfl ?_); with_reducible refine (Stp.box 5 rfl rfl rfl H ?_); clear H; intro g5 w1 H; simp only [pS]; simp only [pE, nC, pS] at H) | (with_reducible refine wpl rfl (ldQ (ty := 36) rfl ?_); first | (with_reducible refine (Stp.ldor rfl agg36 size36 rfl H (by assumption) sZ (by assumption) ?_); simp only [pS]) | (with_reducible refine (Stp.ldr rfl agg36 size36 rfl H mR sZ ?_); simp only [pS]) | (with_reducible refine (Stp.ldl rfl agg36 size36 rfl H mR (by simp) ?_); simp only [pS]; simp only [List.drop_succ_cons, List.drop_zero, List.take_succ_cons, List.take_zero])) | (with_reducible refine wpl rfl (ldQ (ty := 22) rfl ?_); first | (with_reducible refine (Stp.ldo rfl agg22 rfl H (by assumption) (by assumption) ?_); simp only [pS]) | (with_reducible refine (Stp.ldc rfl agg22 rfl H mR cE ?_); simp only [pS])))
        go_ret
        exact ⟨_, rfl, rfl, H.below⟩
      · have h2i : ¬ (cur : Int) < (slot : Int) := by omega
        rw [if_neg h2]
        clear h1 h2
        go_enter Try.func96, Try.ntmps96
        go_wp2_with (first | (go_at_call 99; (with_reducible refine (may_ok b.w.1 b.w.2 _).mono ?_); rintro e w1 ⟨v, rfl, hr⟩; obtain ⟨rfl, hb1⟩ := hr; replace H := H.grow hb1; clear hb1; rw [HY.out]) | (with_reducible refine wpl rfl (dQ 5 rfl ?_); with_reducible refine (Stp.box 5 rfl rfl rfl H ?_); clear H; intro g5 w1 H; simp only [pS]; simp only [pE, nC, pS] at H) | (with_reducible refine wpl rfl (ldQ (ty := 36) rfl ?_); first | (with_reducible refine (Stp.ldor rfl agg36 size36 rfl H (by assumption) sZ (by assumption) ?_); simp only [pS]) | (with_reducible refine (Stp.ldr rfl agg36 size36 rfl H mR sZ ?_); simp only [pS]) | (with_reducible refine (Stp.ldl rfl agg36 size36 rfl H mR (by simp) ?_); simp only [pS]; simp only [List.drop_succ_cons, List.drop_zero, List.take_succ_cons, List.take_zero])) | (with_reducible refine wpl rfl (ldQ (ty := 22) rfl ?_); first | (with_reducible refine (Stp.ldo rfl agg22 rfl H (by assumption) (by assumption) ?_); simp only [pS]) | (with_reducible refine (Stp.ldc rfl agg22 rfl H mR cE ?_); simp only [pS])))
        go_ret
        exact ⟨_, rfl, rfl, H.below⟩
theorem anew_ok {B : Nat} {w0 : World} {L : List Res} (s : Nat) (w : World) (H : St B w0 w L) :
    Calls Try.prog 54 #[.int .u64 (s : Int)] w (Ret fun v w' => ∃ g0, v = .pointer (some ⟨g0, 0, none⟩) ∧ St B w0 w' (row 156 g0 #[.int .u64 (s : Int), .int .u32 0, .int .u16 0, .int .u32 0, .pointer none] :: L)) := by
  go_enter Try.func54, Try.ntmps54
  go_wp2_with (first | (with_reducible refine wpl rfl (dQ 4 rfl ?_); with_reducible refine (Stp.build (v := (.agg #[.int .u64 (s : Int), .int .u32 0, .int .u16 0, .int .u32 0, .pointer none])) 4 rfl rfl (fun W => by kernel_rfl) ?_); simp only [pS]) | (with_reducible refine wpl rfl (dQ 5 rfl ?_); with_reducible refine (Stp.box 5 rfl rfl rfl H ?_); clear H; intro g5 w1 H; simp only [pS]; simp only [pE, nC, pS] at H))
  go_ret
  exact ⟨_, rfl, g5, rfl, H⟩
theorem nack_ok (g0 cur : Nat) (pr : Bl) (x : Option Addr) (w : World) (hr : w.heap[g0]? = some (.cells #[.int .u64 (cur : Int), .int .u32 (pr.r : Int), .int .u16 (pr.w.1 : Int), .int .u32 (pr.w.2 : Int), .pointer x] 156 (0, 0))) :
    Calls Try.prog 97 #[.pointer (some ⟨g0, 0, none⟩)] w (Ret fun v w' => v = .agg #[.int .i64 8, .int .u16 0, .int .u32 0, .int .u64 0, .int .u64 (cur : Int), .int .u64 0, .int .i64 0, .int .u32 (pr.r : Int), .int .u16 (pr.w.1 : Int), .int .u32 (pr.w.2 : Int), .int .u32 0, .int .u16 0, .int .u32 0, .bool false, .int .i64 0, .int .u16 0, .int .u32 0, .int .u64 0, .int .u64 0, .slice none 0 0, .int .u64 0, .slice none 0 0, .slice none 0 0, .slice none 0 0, .int .u64 0, .slice none 0 0, .slice none 0 0, .slice none 0 0, .slice none 0 0] ∧ Below w.heap.size w w') := by
  have H := St.init w
  have hc0 : w.cell? ⟨g0, 0, none⟩ = some (.int .u64 (cur : Int)) := by rw [cell_of_rowAt (rowAt_of hr)]; rfl
  have hc1 : w.cell? ⟨g0, 1, none⟩ = some (.int .u32 (pr.r : Int)) := by rw [cell_of_rowAt (rowAt_of hr)]; rfl
  have hc2 : w.cell? ⟨g0, 2, none⟩ = some (.int .u16 (pr.w.1 : Int)) := by rw [cell_of_rowAt (rowAt_of hr)]; rfl
  have hc3 : w.cell? ⟨g0, 3, none⟩ = some (.int .u32 (pr.w.2 : Int)) := by rw [cell_of_rowAt (rowAt_of hr)]; rfl
  have hcb : ∀ j, j < 3 → w.cell? ⟨g0, 1 + j, none⟩ = #[.int .u32 (pr.r : Int), .int .u16 (pr.w.1 : Int), .int .u32 (pr.w.2 : Int)][j]? := by
    intro j hj
    rw [cell_of_rowAt (rowAt_of hr)]
    have : j = 0 ∨ j = 1 ∨ j = 2 := by omega
    rcases this with rfl | rfl | rfl <;> rfl
  have hlt : g0 < w.heap.size := rowAt_lt (rowAt_of hr)
  clear hr
  go_enter Try.func97, Try.ntmps97
  go_wp2_with (first | (with_reducible refine wpl rfl (dQ 2 rfl ?_); with_reducible refine (Stp.alloc 2 rfl rfl zero74 H ?_); clear H; intro g2 w1 H; simp only [pS]; simp only [nC] at H))
  refine rg_begin 10 rfl (S := fun W => St _ _ W []) (by kernel_rfl) (H.drew.sub sU) ?_
  replace H := H.drew
  have HS := H
  refine rg_take (i := 0) rfl kR kR kR (Yld.move rfl rfl) (H.sub sU) ?_; simp only [pS, pE]
  refine rg_take (i := 1) rfl kR kR kR (Yld.o rfl) (H.sub sU) ?_; simp only [pS]
  refine rg_take (i := 2) rfl kR kR kR (Yld.o rfl) (H.sub sU) ?_; simp only [pS]
  first | (refine rg_take (i := 3) rfl kR kR kR (Yld.ldo rfl rfl agg22 rfl (by assumption) (by assumption)) (H.sub sU) ?_; simp only [pS]) | (refine rg_take (i := 3) rfl kR kR kR (Yld.ldc rfl rfl agg22 rfl mR cE) (H.sub sU) ?_; simp only [pS])
  refine rg_take (i := 4) rfl kR kR kR (Yld.move rfl rfl) (H.sub sU) ?_; simp only [pS, pE]
  refine rg_take (i := 5) rfl kR kR kR (Yld.o rfl) (H.sub sU) ?_; simp only [pS]
  refine rg_take (i := 6) rfl kR kR kR (Yld.o rfl) (H.sub sU) ?_; simp only [pS]
  first | (refine rg_take (i := 7) rfl kR kR kR (Yld.ldor rfl rfl agg67 size67 rfl (by assumption) sZ (by assumption)) (H.sub sU) ?_; simp only [pS]) | (refine rg_take (i := 7) rfl kR kR kR (Yld.ldr rfl rfl agg67 size67 rfl mR sZ) (H.sub sU) ?_; simp only [pS]) | (refine rg_take (i := 7) rfl kR kR kR (Yld.ldl rfl rfl agg67 size67 rfl mR (by simp)) (H.sub sU) ?_; simp only [pS]; simp only [List.drop_succ_cons, List.drop_zero, List.take_succ_cons, List.take_zero])
  refine rg_take (i := 8) rfl kR kR kR (Yld.of (v := .agg #[.int .i64 8, .int .u16 0, .int .u32 0, .int .u64 0, .int .u64 (cur : Int), .int .u64 0, .int .i64 0, .int .u32 (pr.r : Int), .int .u16 (pr.w.1 : Int), .int .u32 (pr.w.2 : Int), .int .u32 0, .int .u16 0, .int .u32 0, .bool false, .int .i64 0, .int .u16 0, .int .u32 0, .int .u64 0, .int .u64 0, .slice none 0 0, .int .u64 0, .slice none 0 0, .slice none 0 0, .slice none 0 0, .int .u64 0, .slice none 0 0, .slice none 0 0, .slice none 0 0, .slice none 0 0]) rfl (fun W _ => by kernel_rfl)) (H.sub sU) ?_; simp only [pS, pE]
  refine rg_one (i := 9) (by kernel_rfl) rfl rfl (fun K hK => ?_)
  refine Stp.wp (Stp.str (ds := #[.int .i64 8, .int .u16 0, .int .u32 0, .int .u64 0, .int .u64 (cur : Int), .int .u64 0, .int .i64 0, .int .u32 (pr.r : Int), .int .u16 (pr.w.1 : Int), .int .u32 (pr.w.2 : Int), .int .u32 0, .int .u16 0, .int .u32 0, .bool false, .int .i64 0, .int .u16 0, .int .u32 0, .int .u64 0, .int .u64 0, .slice none 0 0, .int .u64 0, .slice none 0 0, .slice none 0 0, .slice none 0 0, .int .u64 0, .slice none 0 0, .slice none 0 0, .slice none 0 0, .slice none 0 0]) rfl size74 rfl rfl (by simp [Value.oneCell']) H uP rfl rfl ?_)
  clear H
  intro w1 H
  clear HS
  have HS := H
  refine hK.out _ _ (H.sub sU) ?_
  clear hK K
  simp only [pS]
  refine rg_done (by kernel_rfl) ?_
  go_wp2_with (first | (with_reducible refine wpl rfl (dQ 2 rfl ?_); with_reducible refine (Stp.alloc 2 rfl rfl zero74 H ?_); clear H; intro g2 w1 H; simp only [pS]; simp only [nC] at H))
  exact post_row rfl agg74 size74 rfl H mE rfl rfl ⟨_, rfl, rfl, H.below⟩
end Go.Proofs.Ytjghcmejmdllbaa
