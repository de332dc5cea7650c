/- Layer 19: what a command does to a state and to its reference, told once for all commands; the bounds stand in each. -/
import Derived.Test.YtjghcmejmdllbaaSta7
namespace Go.Proofs.Ytjghcmejmdllbaa
open Go.ChangeShapes Go.WideShapes Go.ChangeAt Go.RowKit Go.Maps
set_option linter.unusedVariables false
set_option linter.unusedSimpArgs false
set_option linter.unusedSectionVars false
structure Ev where
  kd : Int
  x : Vw
  p : Pr
  n : Nat
  data : List Nat
def ev0 : Ev := ⟨0, vw0, (0, 0), 0, []⟩
def hdZ : Hd := ⟨none, none, none, none, 0, 0, 0, 0⟩
/-- An event's cells. -/
abbrev evA (v : Ev) (h : Hd) : Array Value := #[.int .i64 v.kd, .int .u64 (v.x.id : Int), .slice h.ma v.x.mem.length h.mc, .slice h.la v.x.lvs.length h.lc, .slice h.da v.x.ldr.length h.dc, .int .u16 (v.p.1 : Int), .int .u32 (v.p.2 : Int), .int .u64 (v.n : Int), .slice h.ba v.data.length h.bc]
def EvG (G : Nat → Prop) (w : World) (v : Ev) (h : Hd) : Prop := VwG G w (.slice h.ma v.x.mem.length h.mc) (.slice h.la v.x.lvs.length h.lc) (.slice h.da v.x.ldr.length h.dc) v.x ∧ SlG G w 1 v.data.length (.slice h.ba v.data.length h.bc) (elB v.data)
theorem EvG.vw {G : Nat → Prop} {w : World} {v : Ev} {h : Hd} (hh : EvG G w v h) : VwG G w (.slice h.ma v.x.mem.length h.mc) (.slice h.la v.x.lvs.length h.lc) (.slice h.da v.x.ldr.length h.dc) v.x := hh.1
theorem EvG.dat {G : Nat → Prop} {w : World} {v : Ev} {h : Hd} (hh : EvG G w v h) : Sl w 1 v.data.length (.slice h.ba v.data.length h.bc) (elB v.data) := hh.2.sl
theorem EvG.grow {G : Nat → Prop} {w w' : World} {v : Ev} {h : Hd} (hh : EvG G w v h) (hb : Below w.heap.size w w') : EvG G w' v h := ⟨hh.1.grow hb, hh.2.grow hb⟩
def evr (G : Nat → Prop) (v : Ev) (h : Hd) : Res := (fun g => G g, fun w => EvG G w v h)
theorem evr_loc (G : Nat → Prop) (v : Ev) (h : Hd) : Loc (evr G v h) := fun _ _ hb hh => ⟨hh.1.loc hb, hh.2.loc hb⟩
theorem St.getEv {B : Nat} {w0 w : World} {L : List Res} {G : Nat → Prop} {v : Ev} {h : Hd} (H : St B w0 w L) (hm : evr G v h ∈ L) : EvG G w v h := H.get hm
/-! What comes of a command. -/
def nxV (r : Bool) (x : Vw) (c : Cm) : Vw := if r = true ∧ c.kind = 3 then c.v else x
def nxM (r : Bool) (M : List (Pr × Nat)) (c : Cm) : List (Pr × Nat) := if r = true then (if c.kind = 3 then [] else mput M c.fr c.num) else M
def nxB (r : Bool) (b : Nat → ByteArray) (c : Cm) : Nat → ByteArray := if r = true ∧ c.kind ≠ 3 then bwr b c.data else b
def evO (r : Bool) (c : Cm) : Ev := if r = true then (if c.kind = 3 then ⟨1, c.v, (0, 0), 0, []⟩ else ⟨2, vw0, c.fr, c.num, c.data⟩) else ev0
def nxQ (r : Bool) (qs : List (Cm × Hd)) (c : Cm) (e : Hd) : List (Cm × Hd) := if r = true then (if c.kind = 3 then [] else qs ++ [(c, e)]) else qs
def nxH (r : Bool) (h : Hd) (c : Cm) (e : Hd) : Hd := if r = true ∧ c.kind = 3 then e else h
def evH (r : Bool) (c : Cm) (e : Hd) : Hd := if r = true then (if c.kind = 3 then ⟨none, e.ma, e.la, e.da, 0, e.mc, e.lc, e.dc⟩ else ⟨e.ba, none, none, none, e.bc, 0, 0, 0⟩) else hdZ
theorem cnt_kind {x : Vw} {n : Nat} {c : Cm} (h : cntS x n c = true) : c.kind = 2 ∨ c.kind = 3 := by
  unfold cntS at h
  simp only [Bool.and_eq_true, Bool.or_eq_true, decide_eq_true_eq] at h
  exact h.2.imp (·.1) (·.1)
theorem nx_rel {r : Bool} {M : List (Pr × Nat)} {qs : List (Cm × Hd)} (c : Cm) (e : Hd) (h : ∀ p, lastN M p = rl qs p) : ∀ p, lastN (nxM r M c) p = rl (nxQ r qs c e) p := by
  intro p
  unfold nxM nxQ
  cases r
  · simpa using h p
  · by_cases h3 : c.kind = 3
    · simp only [if_true, h3]; rfl
    · simp only [if_true, if_neg h3]
      rw [rl_snoc]
      unfold lastN
      rw [mget_put]
      by_cases hp : p = c.fr
      · rw [if_pos hp, if_pos hp.symm]; rfl
      · rw [if_neg hp, if_neg (fun e => hp e.symm)]; exact h p
theorem nxQ_len (r : Bool) (qs : List (Cm × Hd)) (c : Cm) (e : Hd) : (nxQ r qs c e).length ≤ qs.length + 1 := by
  unfold nxQ
  split
  · split
    · exact Nat.zero_le _
    · rw [List.length_append]; exact Nat.le_refl _
  · exact Nat.le_succ _
theorem nxV_sm {r : Bool} {x : Vw} {c : Cm} (hx : smV x) (hc : smV c.v) : smV (nxV r x c) := by unfold nxV; split <;> assumption
theorem nx_rd {B : Nat} {w0 : World} {L : List Res} {G : Nat → Prop} {r : Bool} {x : Vw} {h : Hd} {c : Cm} {e : Hd} (hx : Rd B w0 L fun W => VwG G W (.slice h.ma x.mem.length h.mc) (.slice h.la x.lvs.length h.lc) (.slice h.da x.ldr.length h.dc) x) (hc : Rd B w0 L fun W => CmG G W (.slice e.ba c.data.length e.bc) (.slice e.ma c.v.mem.length e.mc) (.slice e.la c.v.lvs.length e.lc) (.slice e.da c.v.ldr.length e.dc) c) :
    Rd B w0 L fun W => VwG G W (.slice (nxH r h c e).ma (nxV r x c).mem.length (nxH r h c e).mc) (.slice (nxH r h c e).la (nxV r x c).lvs.length (nxH r h c e).lc) (.slice (nxH r h c e).da (nxV r x c).ldr.length (nxH r h c e).dc) (nxV r x c) := by
  intro W q1 q2
  unfold nxH nxV
  by_cases h3 : r = true ∧ c.kind = 3
  · simp only [if_pos h3]; exact (hc W q1 q2).vw
  · simp only [if_neg h3]; exact hx W q1 q2
theorem ev_rd {B : Nat} {w0 : World} {L : List Res} {G : Nat → Prop} {r : Bool} {c : Cm} {e : Hd} (hc : Rd B w0 L fun W => CmG G W (.slice e.ba c.data.length e.bc) (.slice e.ma c.v.mem.length e.mc) (.slice e.la c.v.lvs.length e.lc) (.slice e.da c.v.ldr.length e.dc) c) : Rd B w0 L fun W => EvG G W (evO r c) (evH r c e) := by
  intro W q1 q2
  unfold evO evH
  cases r
  · exact ⟨VwG.nil _ _ _, SlG.nil _ _ _ _⟩
  · by_cases h3 : c.kind = 3
    · simp only [if_true, h3]; exact ⟨(hc W q1 q2).vw, SlG.nil _ _ _ _⟩
    · simp only [if_true, if_neg h3]; exact ⟨VwG.nil _ _ _, (hc W q1 q2).dat⟩
theorem sapply_all {B : Nat} {w0 : World} {L : List Res} {G1 : Nat → Prop} (g0 : Nat) (x : Vw) (M : List (Pr × Nat)) (b : Nat → ByteArray) (c : Cm) (e : Hd) (hm : smC c) (hw : wfC c) (hcap : c.data.length ≤ e.bc) (r : Bool) (hres : cntS x (lastN M c.fr) c = r) (V : Ev) (hV : evO r c = V) (x2 : Vw) (hx2 : nxV r x c = x2) (M2 : List (Pr × Nat)) (hM2 : nxM r M c = M2) (b2 : Nat → ByteArray) (hb2 : nxB r b c = b2) (R : Res) (hR : StaR g0 x M b R)
    (hx : Rd B w0 L fun W => CmG G1 W (.slice e.ba c.data.length e.bc) (.slice e.ma c.v.mem.length e.mc) (.slice e.la c.v.lvs.length e.lc) (.slice e.da c.v.ldr.length e.dc) c) (w : World) (H : St B w0 w (R :: L)) :
    Calls Try.prog 15 #[.pointer (some ⟨g0, 0, none⟩), .agg (cmH c e)] w (Ret fun v w' => ∃ (h1 : Hd) (G' : Nat → Prop) (R' : Res), v = .tuple #[.agg (evA V h1), .bool r] ∧ StaR g0 x2 M2 b2 R' ∧ St B w0 w' (R' :: evr G' V h1 :: L)) := by
  subst hV hx2 hM2 hb2
  cases r with
  | false =>
    refine (sapply_no g0 x M b c e.ba e.ma e.la e.da e.bc e.mc e.lc e.dc hm hw hres R hR hx w H).mono ?_
    rintro e1 w1 ⟨v, rfl, rfl, H2⟩
    exact ⟨_, rfl, hdZ, fun _ => False, R, rfl, hR, (St.emp (p := (evr (fun _ => False) ev0 hdZ).2) (fun W => ⟨VwG.nil _ _ _, SlG.nil _ _ _ _⟩) H2).swap⟩
  | true =>
    by_cases h3 : c.kind = 3
    · refine (sapply_view g0 x M b c e.ba e.ma e.la e.da e.bc e.mc e.lc e.dc hm hw hres h3 R hR hx w H).mono ?_
      rintro e1 w1 ⟨v, rfl, am, al, ad, cm, cl, cd, R', G', rfl, hR', H2⟩
      have e1 : evO true c = ⟨1, c.v, (0, 0), 0, []⟩ := by unfold evO; simp [h3]
      have e2 : nxV true x c = c.v := by unfold nxV; simp [h3]
      have e3 : nxM true M c = [] := by unfold nxM; simp [h3]
      have e4 : nxB true b c = b := by unfold nxB; simp [h3]
      rw [e1, e2, e3, e4]
      exact ⟨_, rfl, ⟨none, am, al, ad, 0, cm, cl, cd⟩, G', R', rfl, hR', (H2.swap.conv (r' := evr G' ⟨1, c.v, (0, 0), 0, []⟩ ⟨none, am, al, ad, 0, cm, cl, cd⟩) (fun g h => h) (fun hS => ⟨⟨hS.here, SlG.nil _ _ _ _⟩, hS.lt, evr_loc _ _ _⟩)).swap⟩
    · have h2 : c.kind = 2 := (cnt_kind hres).resolve_right h3
      refine (sapply_send g0 x M b c e.ba e.ma e.la e.da e.bc e.mc e.lc e.dc hm hw hres h2 hcap R hR hx w H).mono ?_
      rintro e1 w1 ⟨v, rfl, ba3, bc3, R', rfl, hR', H2⟩
      have e1 : evO true c = ⟨2, vw0, c.fr, c.num, c.data⟩ := by unfold evO; simp [h3]
      have e2 : nxV true x c = x := by unfold nxV; simp [h3]
      have e3 : nxM true M c = mput M c.fr c.num := by unfold nxM; simp [h3]
      have e4 : nxB true b c = bwr b c.data := by unfold nxB; simp [h3]
      rw [e1, e2, e3, e4]
      exact ⟨_, rfl, ⟨ba3, none, none, none, bc3, 0, 0, 0⟩, fun g => (Value.slice ba3 c.data.length bc3).ownBlock = some g, R', rfl, hR', (H2.swap.conv (r' := evr (fun g => (Value.slice ba3 c.data.length bc3).ownBlock = some g) ⟨2, vw0, c.fr, c.num, c.data⟩ ⟨ba3, none, none, none, bc3, 0, 0, 0⟩) (fun g h => h) (fun hS => ⟨⟨VwG.nil _ _ _, SlG.of_bv hS.here (by show c.data.length ≤ 100000; have := hm.data; omega)⟩, hS.lt, evr_loc _ _ _⟩)).swap⟩
theorem xapply_all {B : Nat} {w0 : World} {L : List Res} {G1 G2 : Nat → Prop} (gx : Nat) (x : Vw) (h : Hd) (qs : List (Cm × Hd)) (b : Nat → ByteArray) (c : Cm) (e : Hd) (hm : smC c) (hw : wfC c) (hcap : c.data.length ≤ e.bc) (hq : qs.length ≤ 1000) (r : Bool) (hres : cntS x (rl qs c.fr) c = r) (V : Ev) (hV : evO r c = V) (E2 : Hd) (hE2 : evH r c e = E2) (x2 : Vw) (hx2 : nxV r x c = x2) (h2 : Hd) (hh2 : nxH r h c e = h2) (qs2 : List (Cm × Hd)) (hq2 : nxQ r qs c e = qs2) (b2 : Nat → ByteArray) (hb2 : nxB r b c = b2) (R : Res) (hR : XsR gx x h qs b R)
    (hx : Rd B w0 L fun W => CmG G1 W (.slice e.ba c.data.length e.bc) (.slice e.ma c.v.mem.length e.mc) (.slice e.la c.v.lvs.length e.lc) (.slice e.da c.v.ldr.length e.dc) c) (hv : Rd B w0 L fun W => VwG G2 W (.slice h.ma x.mem.length h.mc) (.slice h.la x.lvs.length h.lc) (.slice h.da x.ldr.length h.dc) x) (w : World) (H : St B w0 w (R :: L)) :
    Calls Try.prog 18 #[.pointer (some ⟨gx, 0, none⟩), .agg (cmH c e)] w (Ret fun v w' => v = .tuple #[.agg (evA V E2), .bool r] ∧ ∃ (R' : Res), XsR gx x2 h2 qs2 b2 R' ∧ St B w0 w' (R' :: L)) := by
  subst hV hE2 hx2 hh2 hq2 hb2
  have hv1 : Rd B w0 L fun W => Sl W 2 x.mem.length (.slice h.ma x.mem.length h.mc) (elQ x.mem) := fun W q1 q2 => (hv W q1 q2).1.sl
  cases r with
  | false =>
    refine (xapply_no gx x h qs b c e.ba e.ma e.la e.da e.bc e.mc e.lc e.dc hm hq hres R hR hx hv1 w H).mono ?_
    rintro e1 w1 ⟨v, rfl, rfl, H2⟩
    exact ⟨_, rfl, rfl, R, hR, H2⟩
  | true =>
    by_cases h3 : c.kind = 3
    · refine (xapply_view gx x h qs b c e.ba e.ma e.la e.da e.bc e.mc e.lc e.dc hm hq hres h3 R hR hx hv1 w H).mono ?_
      rintro e1 w1 ⟨v, rfl, rfl, R', hR', H2⟩
      have e1 : evO true c = ⟨1, c.v, (0, 0), 0, []⟩ := by unfold evO; simp [h3]
      have e2 : nxV true x c = c.v := by unfold nxV; simp [h3]
      have e3 : nxQ true qs c e = [] := by unfold nxQ; simp [h3]
      have e4 : nxB true b c = b := by unfold nxB; simp [h3]
      have e5 : nxH true h c e = e := by unfold nxH; simp [h3]
      have e6 : evH true c e = ⟨none, e.ma, e.la, e.da, 0, e.mc, e.lc, e.dc⟩ := by unfold evH; simp [h3]
      rw [e1, e2, e3, e4, e5, e6]
      exact ⟨_, rfl, rfl, R', hR', H2⟩
    · have h2 : c.kind = 2 := (cnt_kind hres).resolve_right h3
      refine (xapply_send gx x h qs b c e.ba e.ma e.la e.da e.bc e.mc e.lc e.dc hm hq hres h2 hw.data hcap R hR hx hv1 w H).mono ?_
      rintro e1 w1 ⟨v, rfl, rfl, R', hR', H2⟩
      have e1 : evO true c = ⟨2, vw0, c.fr, c.num, c.data⟩ := by unfold evO; simp [h3]
      have e2 : nxV true x c = x := by unfold nxV; simp [h3]
      have e3 : nxQ true qs c e = qs ++ [(c, e)] := by unfold nxQ; simp [h3]
      have e4 : nxB true b c = bwr b c.data := by unfold nxB; simp [h3]
      have e5 : nxH true h c e = h := by unfold nxH; simp [h3]
      have e6 : evH true c e = ⟨e.ba, none, none, none, e.bc, 0, 0, 0⟩ := by unfold evH; simp [h3]
      rw [e1, e2, e3, e4, e5, e6]
      exact ⟨_, rfl, rfl, R', hR', H2⟩
theorem sevent_is {G1 G2 : Nat → Prop} (v : Ev) (h1 h2 : Hd) (w : World) (hx1 : EvG G1 w v h1) (hx2 : EvG G2 w v h2) :
    Calls Try.prog 19 #[.agg (evA v h1), .agg (evA v h2)] w (Ret fun u w' => u = .bool true ∧ Below w.heap.size w w') :=
  sevent_eq v.kd v.x v.p v.n v.data h1 h2 w hx1.1 hx2.1 hx1.dat hx2.dat
end Go.Proofs.Ytjghcmejmdllbaa
