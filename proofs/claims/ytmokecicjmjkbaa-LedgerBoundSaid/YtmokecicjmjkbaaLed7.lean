/- The program's ledger beside the reference's: each call of either, with both in one state; the bounds stand in each. -/
import Derived.Test.YtmokecicjmjkbaaLed6
import Derived.Test.YtmokecicjmjkbaaLed4
namespace Go.Proofs.Ytmokecicjmjkbaa
open Go.ChangeShapes Go.WideShapes Go.ChangeAt Go.RowKit Go.Maps
set_option linter.unusedVariables false
set_option linter.unusedSimpArgs false
set_option maxRecDepth 100000
/-- Both ledgers. -/
def LRSt (B : Nat) (w0 w : World) (g0 gx ap : Nat) (ks : List (Cm × Hd)) (aq s : Nat) (qs : List (Cm × Hd)) (xa : Option Addr) (xc : Nat) (L : List Res) : Prop :=
  ∃ (ka : Option Addr) (kc : Nat) (G : Nat → Prop), St B w0 w (row 97 g0 #[.int .u64 (ap : Int), .slice ka ks.length kc] :: slo 36 10 (.slice ka ks.length kc) ks.length (kv ks) :: cmsr G ks :: row 65 gx #[.int .u64 (aq : Int), .slice xa qs.length xc] :: slo 116 11 (.slice xa qs.length xc) qs.length (ov s qs) :: L)
theorem LRSt.of {B : Nat} {w0 w : World} {g0 gx ap aq s : Nat} {ks qs : List (Cm × Hd)} {xa : Option Addr} {xc : Nat} {L : List Res} {ka : Option Addr} {kc : Nat} {G : Nat → Prop} (H : St B w0 w (row 97 g0 #[.int .u64 (ap : Int), .slice ka ks.length kc] :: slo 36 10 (.slice ka ks.length kc) ks.length (kv ks) :: cmsr G ks :: row 65 gx #[.int .u64 (aq : Int), .slice xa qs.length xc] :: slo 116 11 (.slice xa qs.length xc) qs.length (ov s qs) :: L)) : LRSt B w0 w g0 gx ap ks aq s qs xa xc L := ⟨ka, kc, G, H⟩
/-- When they keep the same. -/
structure LRel (B : Nat) (w0 : World) (G1 : Nat → Prop) (ap s : Nat) (ks qs : List (Cm × Hd)) : Prop where
  same : ks.map (·.1) = qs.map (·.1)
  sum : s + ks.length = ap + 1
  len : ks.length ≤ 64
  sm : ∀ p ∈ ks, smC p.1
  rd : ∀ q ∈ qs, Rd B w0 [] fun W => CmG G1 W (.slice q.2.ba q.1.data.length q.2.bc) (.slice q.2.ma q.1.v.mem.length q.2.mc) (.slice q.2.la q.1.v.lvs.length q.2.lc) (.slice q.2.da q.1.v.ldr.length q.2.dc) q.1
theorem LRel.qlen {B : Nat} {w0 : World} {G1 : Nat → Prop} {ap s : Nat} {ks qs : List (Cm × Hd)} (h : LRel B w0 G1 ap s ks qs) : qs.length = ks.length := by
  have := congrArg List.length h.same; simpa using this.symm
attribute [local irreducible] cErr addE
theorem pAdd_yes {B : Nat} {w0 : World} {L : List Res} {G1 : Nat → Prop} (g0 gx ap aq s slot : Nat) (ks qs : List (Cm × Hd)) (xa : Option Addr) (xc : Nat) (c : Cm) (h : Hd) (hm : smC c) (hw : wfC c) (hx : Rd B w0 [] fun W => CmG G1 W (.slice h.ba c.data.length h.bc) (.slice h.ma c.v.mem.length h.mc) (.slice h.la c.v.lvs.length h.lc) (.slice h.da c.v.ldr.length h.dc) c) (hn : ks.length ≤ 64) (ha : ap < 18446744073709551616) (hs : slot < 18446744073709551616) (hE : addE ap ks.length slot c = 0) (w : World) (H0 : LRSt B w0 w g0 gx ap ks aq s qs xa xc L) :
    Calls Try.prog 15 #[.pointer (some ⟨g0, 0, none⟩), .int .u64 (slot : Int), .agg (cmH c h)] w (Ret fun v w' => v = .int .i64 0 ∧ ∃ h2, LRSt B w0 w' g0 gx slot (ks ++ [(c, h2)]) aq s qs xa xc L) := by
  obtain ⟨ka, kc, G, H⟩ := H0
  refine (ladd_ok g0 ap slot ks c h.ba h.ma h.la h.da h.bc h.mc h.lc h.dc hn ha hs hm hw (hx.mono (by simp)) w ⟨ka, kc, G, H⟩).mono ?_
  rintro e w1 ⟨v, rfl, rfl, hr⟩
  obtain ⟨h2, ka, kc, G, H⟩ := (hr.resolve_right (fun h => h.1 hE)).2
  exact ⟨_, rfl, by rw [hE], h2, ka, kc, G, H⟩
theorem pAdd_no {B : Nat} {w0 : World} {L : List Res} {G1 : Nat → Prop} (g0 gx ap aq s slot : Nat) (ks qs : List (Cm × Hd)) (xa : Option Addr) (xc : Nat) (c : Cm) (h : Hd) (hm : smC c) (hw : wfC c) (hx : Rd B w0 [] fun W => CmG G1 W (.slice h.ba c.data.length h.bc) (.slice h.ma c.v.mem.length h.mc) (.slice h.la c.v.lvs.length h.lc) (.slice h.da c.v.ldr.length h.dc) c) (hn : ks.length ≤ 64) (ha : ap < 18446744073709551616) (hs : slot < 18446744073709551616) (e : Int) (hE : addE ap ks.length slot c = e) (h0 : e ≠ 0) (w : World) (H0 : LRSt B w0 w g0 gx ap ks aq s qs xa xc L) :
    Calls Try.prog 15 #[.pointer (some ⟨g0, 0, none⟩), .int .u64 (slot : Int), .agg (cmH c h)] w (Ret fun v w' => v = .int .i64 e ∧ LRSt B w0 w' g0 gx ap ks aq s qs xa xc L) := by
  obtain ⟨ka, kc, G, H⟩ := H0
  refine (ladd_ok g0 ap slot ks c h.ba h.ma h.la h.da h.bc h.mc h.lc h.dc hn ha hs hm hw (hx.mono (by simp)) w ⟨ka, kc, G, H⟩).mono ?_
  rintro e' w1 ⟨v, rfl, rfl, hr⟩
  obtain ⟨ka, kc, G, H⟩ := (hr.resolve_left (fun h => h0 (hE.symm.trans h.1))).2
  exact ⟨_, rfl, by rw [hE], ka, kc, G, H⟩
theorem xAdd_yes {B : Nat} {w0 : World} {L : List Res} {G1 : Nat → Prop} (g0 gx ap aq s slot : Nat) (ks qs : List (Cm × Hd)) (xa : Option Addr) (xc : Nat) (c : Cm) (h : Hd) (hm : smC c) (hw : wfC c) (hx : Rd B w0 [] fun W => CmG G1 W (.slice h.ba c.data.length h.bc) (.slice h.ma c.v.mem.length h.mc) (.slice h.la c.v.lvs.length h.lc) (.slice h.da c.v.ldr.length h.dc) c) (hn : qs.length ≤ 64) (hsl : s + qs.length = aq + 1) (ha : aq < 18446744073709551616) (hs : slot < 18446744073709551616) (hE : addE aq qs.length slot c = 0) (w : World) (H0 : LRSt B w0 w g0 gx ap ks aq s qs xa xc L) :
    Calls Try.prog 59 #[.pointer (some ⟨gx, 0, none⟩), .int .u64 (slot : Int), .agg (cmH c h)] w (Ret fun v w' => v = .int .i64 0 ∧ ∃ xa xc, LRSt B w0 w' g0 gx ap ks slot s (qs ++ [(c, h)]) xa xc L) := by
  obtain ⟨ka, kc, G, H⟩ := H0
  refine (rladd_ok gx aq slot s qs c h hn hsl ha hs hm (hx.mono (by simp)) w ⟨xa, xc, (H.pull (r := slo 116 11 _ _ _) pU).pull (r := row 65 gx _) pU⟩).mono ?_
  rintro e w1 ⟨v, rfl, rfl, hr⟩
  obtain ⟨xa, xc, H2⟩ := (hr.resolve_right (fun h => h.1 hE)).2
  exact ⟨_, rfl, by rw [hE], ⟨xa, xc, ka, kc, G, ((H2.pull (r := cmsr G ks) pU).pull (r := slo 36 10 _ _ _) pU).pull (r := row 97 g0 _) pU⟩⟩
theorem xAdd_no {B : Nat} {w0 : World} {L : List Res} {G1 : Nat → Prop} (g0 gx ap aq s slot : Nat) (ks qs : List (Cm × Hd)) (xa : Option Addr) (xc : Nat) (c : Cm) (h : Hd) (hm : smC c) (hw : wfC c) (hx : Rd B w0 [] fun W => CmG G1 W (.slice h.ba c.data.length h.bc) (.slice h.ma c.v.mem.length h.mc) (.slice h.la c.v.lvs.length h.lc) (.slice h.da c.v.ldr.length h.dc) c) (hn : qs.length ≤ 64) (hsl : s + qs.length = aq + 1) (ha : aq < 18446744073709551616) (hs : slot < 18446744073709551616) (e : Int) (hE : addE aq qs.length slot c = e) (h0 : e ≠ 0) (w : World) (H0 : LRSt B w0 w g0 gx ap ks aq s qs xa xc L) :
    Calls Try.prog 59 #[.pointer (some ⟨gx, 0, none⟩), .int .u64 (slot : Int), .agg (cmH c h)] w (Ret fun v w' => v = .int .i64 e ∧ ∃ xa xc, LRSt B w0 w' g0 gx ap ks aq s qs xa xc L) := by
  obtain ⟨ka, kc, G, H⟩ := H0
  refine (rladd_ok gx aq slot s qs c h hn hsl ha hs hm (hx.mono (by simp)) w ⟨xa, xc, (H.pull (r := slo 116 11 _ _ _) pU).pull (r := row 65 gx _) pU⟩).mono ?_
  rintro e' w1 ⟨v, rfl, rfl, hr⟩
  obtain ⟨xa, xc, H2⟩ := (hr.resolve_left (fun h => h0 (hE.symm.trans h.1))).2
  exact ⟨_, rfl, by rw [hE], ⟨xa, xc, ka, kc, G, ((H2.pull (r := cmsr G ks) pU).pull (r := slo 36 10 _ _ _) pU).pull (r := row 97 g0 _) pU⟩⟩
theorem pCut_ok {B : Nat} {w0 : World} {L : List Res} (g0 gx ap aq s st q : Nat) (ks qs : List (Cm × Hd)) (xa : Option Addr) (xc : Nat) (hn : ks.length ≤ 64) (ha : ap + 1 < 18446744073709551616) (hna : ks.length ≤ ap + 1) (hs : st < 18446744073709551616) (hq : cutN ap ks.length st = q) (w : World) (H0 : LRSt B w0 w g0 gx ap ks aq s qs xa xc L) :
    Calls Try.prog 35 #[.pointer (some ⟨g0, 0, none⟩), .int .u64 (st : Int)] w (Ret fun v w' => v = .int .i64 (q : Int) ∧ LRSt B w0 w' g0 gx ap (ks.drop q) aq s qs xa xc L) := by
  obtain ⟨ka, kc, G, H⟩ := H0
  subst hq
  refine (lcut_ok g0 ap st ks hn ha hna hs w ⟨ka, kc, G, H⟩).mono ?_
  rintro e w1 ⟨v, rfl, rfl, ka, kc, G, H⟩
  exact ⟨_, rfl, rfl, ka, kc, G, H⟩
theorem xCut_ok {B : Nat} {w0 : World} {L : List Res} (g0 gx ap aq s st q : Nat) (ks qs : List (Cm × Hd)) (xa : Option Addr) (xc : Nat) (hn : qs.length ≤ 64) (hsl : s + qs.length = aq + 1) (hq : cutN aq qs.length st = q) (w : World) (H0 : LRSt B w0 w g0 gx ap ks aq s qs xa xc L) :
    Calls Try.prog 60 #[.pointer (some ⟨gx, 0, none⟩), .int .u64 (st : Int)] w (Ret fun v w' => v = .int .i64 (q : Int) ∧ ∃ xa xc, LRSt B w0 w' g0 gx ap ks aq (s + q) (qs.drop q) xa xc L) := by
  obtain ⟨ka, kc, G, H⟩ := H0
  subst hq
  refine (rlcut_ok gx aq st s qs hn hsl w ⟨xa, xc, (H.pull (r := slo 116 11 _ _ _) pU).pull (r := row 65 gx _) pU⟩).mono ?_
  rintro e w1 ⟨v, rfl, rfl, xa, xc, H2⟩
  exact ⟨_, rfl, rfl, ⟨xa, xc, ka, kc, G, ((H2.pull (r := cmsr G ks) pU).pull (r := slo 36 10 _ _ _) pU).pull (r := row 97 g0 _) pU⟩⟩
theorem pGet_no {B : Nat} {w0 : World} {L : List Res} (g0 gx ap aq s slot : Nat) (ks qs : List (Cm × Hd)) (xa : Option Addr) (xc : Nat) (hn : ks.length ≤ 64) (ha : ap < 18446744073709551616) (hs : slot < 18446744073709551616) (hm : ∀ p ∈ ks, smC p.1) (hp : plc ap ks.length slot = none) (w : World) (H0 : LRSt B w0 w g0 gx ap ks aq s qs xa xc L) :
    Calls Try.prog 16 #[.pointer (some ⟨g0, 0, none⟩), .int .u64 (slot : Int)] w (Ret fun v w' => v = .tuple #[.agg #[.int .i64 0, .int .u16 0, .int .u32 0, .int .u64 0, .int .u64 0, .slice none 0 0, .int .u64 0, .slice none 0 0, .slice none 0 0, .slice none 0 0], .int .i64 8] ∧ LRSt B w0 w' g0 gx ap ks aq s qs xa xc L) := by
  obtain ⟨ka, kc, G, H⟩ := H0
  refine (lget_ok g0 ap slot ks hn ha hs hm w ⟨ka, kc, G, H⟩).mono ?_
  rintro e w1 ⟨v, rfl, ⟨_, rfl, ka, kc, G, H⟩ | ⟨q, p, G2, h, hc, _⟩⟩
  · exact ⟨_, rfl, rfl, ka, kc, G, H⟩
  · rw [hp] at hc; cases hc
theorem pGet_yes {B : Nat} {w0 : World} {L : List Res} (g0 gx ap aq s slot : Nat) (ks qs : List (Cm × Hd)) (xa : Option Addr) (xc : Nat) (q : Nat) (c : Cm) (h0 : Hd) (hn : ks.length ≤ 64) (ha : ap < 18446744073709551616) (hs : slot < 18446744073709551616) (hm : ∀ p ∈ ks, smC p.1) (hp : plc ap ks.length slot = some q) (hq : ks[q]? = some (c, h0)) (w : World) (H0 : LRSt B w0 w g0 gx ap ks aq s qs xa xc L) :
    Calls Try.prog 16 #[.pointer (some ⟨g0, 0, none⟩), .int .u64 (slot : Int)] w (Ret fun v w' => ∃ (h : Hd) (G2 : Nat → Prop), v = .tuple #[.agg (cmH c h), .int .i64 0] ∧ LRSt B w0 w' g0 gx ap ks aq s qs xa xc (cmr G2 (.slice h.ba c.data.length h.bc) (.slice h.ma c.v.mem.length h.mc) (.slice h.la c.v.lvs.length h.lc) (.slice h.da c.v.ldr.length h.dc) c :: L)) := by
  obtain ⟨ka, kc, G, H⟩ := H0
  refine (lget_ok g0 ap slot ks hn ha hs hm w ⟨ka, kc, G, H⟩).mono ?_
  rintro e w1 ⟨v, rfl, ⟨hc, _⟩ | ⟨q', p, G2, h, hc, hk, rfl, ka, kc, G, H⟩⟩
  · rw [hp] at hc; cases hc
  · rw [hp] at hc
    cases hc
    rw [hq] at hk
    cases hk
    exact ⟨_, rfl, h, G2, rfl, ka, kc, G, (((((H.pull (r := cmr G2 _ _ _ _ c) pU).pull (r := slo 116 11 _ _ _) pU).pull (r := row 65 gx _) pU).pull (r := cmsr G ks) pU).pull (r := slo 36 10 _ _ _) pU).pull (r := row 97 g0 _) pU⟩
theorem xGet_no {B : Nat} {w0 : World} {L : List Res} (g0 gx ap aq s slot : Nat) (ks qs : List (Cm × Hd)) (xa : Option Addr) (xc : Nat) (hn : qs.length ≤ 64) (hsl : s + qs.length = aq + 1) (hp : plc aq qs.length slot = none) (w : World) (H0 : LRSt B w0 w g0 gx ap ks aq s qs xa xc L) :
    Calls Try.prog 61 #[.pointer (some ⟨gx, 0, none⟩), .int .u64 (slot : Int)] w (Ret fun v w' => v = .tuple #[.agg #[.int .i64 0, .int .u16 0, .int .u32 0, .int .u64 0, .int .u64 0, .slice none 0 0, .int .u64 0, .slice none 0 0, .slice none 0 0, .slice none 0 0], .int .i64 8] ∧ ∃ xa xc, LRSt B w0 w' g0 gx ap ks aq s qs xa xc L) := by
  obtain ⟨ka, kc, G, H⟩ := H0
  refine (rlget_ok gx aq slot s qs hn hsl w ⟨xa, xc, (H.pull (r := slo 116 11 _ _ _) pU).pull (r := row 65 gx _) pU⟩).mono ?_
  rintro e w1 ⟨v, rfl, ⟨_, rfl⟩ | ⟨q, p, hc, _⟩, xa, xc, H2⟩
  · exact ⟨_, rfl, rfl, ⟨xa, xc, ka, kc, G, ((H2.pull (r := cmsr G ks) pU).pull (r := slo 36 10 _ _ _) pU).pull (r := row 97 g0 _) pU⟩⟩
  · rw [hp] at hc; cases hc
theorem xGet_yes {B : Nat} {w0 : World} {L : List Res} (g0 gx ap aq s slot : Nat) (ks qs : List (Cm × Hd)) (xa : Option Addr) (xc : Nat) (q : Nat) (c : Cm) (h : Hd) (hn : qs.length ≤ 64) (hsl : s + qs.length = aq + 1) (hp : plc aq qs.length slot = some q) (hq : qs[q]? = some (c, h)) (w : World) (H0 : LRSt B w0 w g0 gx ap ks aq s qs xa xc L) :
    Calls Try.prog 61 #[.pointer (some ⟨gx, 0, none⟩), .int .u64 (slot : Int)] w (Ret fun v w' => v = .tuple #[.agg (cmH c h), .int .i64 0] ∧ ∃ xa xc, LRSt B w0 w' g0 gx ap ks aq s qs xa xc L) := by
  obtain ⟨ka, kc, G, H⟩ := H0
  refine (rlget_ok gx aq slot s qs hn hsl w ⟨xa, xc, (H.pull (r := slo 116 11 _ _ _) pU).pull (r := row 65 gx _) pU⟩).mono ?_
  rintro e w1 ⟨v, rfl, ⟨hc, _⟩ | ⟨q', p, hc, hk, rfl⟩, xa, xc, H2⟩
  · rw [hp] at hc; cases hc
  · rw [hp] at hc
    cases hc
    rw [hq] at hk
    cases hk
    exact ⟨_, rfl, rfl, ⟨xa, xc, ka, kc, G, ((H2.pull (r := cmsr G ks) pU).pull (r := slo 36 10 _ _ _) pU).pull (r := row 97 g0 _) pU⟩⟩
theorem xFrom_ok {B : Nat} {w0 : World} {L : List Res} (g0 gx ap aq s : Nat) (ks qs : List (Cm × Hd)) (xa : Option Addr) (xc : Nat) (ha : aq + 1 < 18446744073709551616) (hsl : s + qs.length = aq + 1) (w : World) (H0 : LRSt B w0 w g0 gx ap ks aq s qs xa xc L) :
    Calls Try.prog 33 #[.pointer (some ⟨gx, 0, none⟩)] w (Ret fun v w' => v = .int .u64 (s : Int) ∧ ∃ xa xc, LRSt B w0 w' g0 gx ap ks aq s qs xa xc L) := by
  obtain ⟨ka, kc, G, H⟩ := H0
  refine (rlfrom_ok gx aq s qs ha hsl w ⟨xa, xc, (H.pull (r := slo 116 11 _ _ _) pU).pull (r := row 65 gx _) pU⟩).mono ?_
  rintro e w1 ⟨v, rfl, rfl, xa, xc, H2⟩
  exact ⟨_, rfl, rfl, ⟨xa, xc, ka, kc, G, ((H2.pull (r := cmsr G ks) pU).pull (r := slo 36 10 _ _ _) pU).pull (r := row 97 g0 _) pU⟩⟩
theorem cApplied_ok {B : Nat} {w0 : World} {L : List Res} (g0 gx ap aq s : Nat) (ks qs : List (Cm × Hd)) (xa : Option Addr) (xc : Nat) (hn : ks.length ≤ 64) (ha : ap + 1 < 18446744073709551616) (hna : ks.length ≤ ap + 1) (w : World) (H0 : LRSt B w0 w g0 gx ap ks aq s qs xa xc L) :
    Calls Try.prog 31 #[.pointer (some ⟨g0, 0, none⟩)] w (Ret fun v w' => v = .int .u64 (ap : Int) ∧ LRSt B w0 w' g0 gx ap ks aq s qs xa xc L) := by
  obtain ⟨ka, kc, G, H⟩ := H0
  refine (lApplied_ok g0 ap ks.length kc ka w (H.getHeap mE)).mono ?_
  rintro e w1 ⟨v, rfl, rfl, hb⟩
  exact ⟨_, rfl, rfl, ka, kc, G, H.grow hb⟩

theorem cKept_ok {B : Nat} {w0 : World} {L : List Res} (g0 gx ap aq s : Nat) (ks qs : List (Cm × Hd)) (xa : Option Addr) (xc : Nat) (hn : ks.length ≤ 64) (ha : ap + 1 < 18446744073709551616) (hna : ks.length ≤ ap + 1) (w : World) (H0 : LRSt B w0 w g0 gx ap ks aq s qs xa xc L) :
    Calls Try.prog 30 #[.pointer (some ⟨g0, 0, none⟩)] w (Ret fun v w' => v = .int .i64 (ks.length : Int) ∧ LRSt B w0 w' g0 gx ap ks aq s qs xa xc L) := by
  obtain ⟨ka, kc, G, H⟩ := H0
  refine (lKept_ok g0 ap ks.length kc ka w (H.getHeap mE)).mono ?_
  rintro e w1 ⟨v, rfl, rfl, hb⟩
  exact ⟨_, rfl, rfl, ka, kc, G, H.grow hb⟩

theorem cRoom_ok {B : Nat} {w0 : World} {L : List Res} (g0 gx ap aq s : Nat) (ks qs : List (Cm × Hd)) (xa : Option Addr) (xc : Nat) (hn : ks.length ≤ 64) (ha : ap + 1 < 18446744073709551616) (hna : ks.length ≤ ap + 1) (w : World) (H0 : LRSt B w0 w g0 gx ap ks aq s qs xa xc L) :
    Calls Try.prog 34 #[.pointer (some ⟨g0, 0, none⟩)] w (Ret fun v w' => v = .int .i64 (64 - (ks.length : Int)) ∧ LRSt B w0 w' g0 gx ap ks aq s qs xa xc L) := by
  obtain ⟨ka, kc, G, H⟩ := H0
  refine (lRoom_ok g0 ap ks.length kc ka hn w (H.getHeap mE)).mono ?_
  rintro e w1 ⟨v, rfl, rfl, hb⟩
  exact ⟨_, rfl, rfl, ka, kc, G, H.grow hb⟩

theorem cFrom_ok {B : Nat} {w0 : World} {L : List Res} (g0 gx ap aq s : Nat) (ks qs : List (Cm × Hd)) (xa : Option Addr) (xc : Nat) (hn : ks.length ≤ 64) (ha : ap + 1 < 18446744073709551616) (hna : ks.length ≤ ap + 1) (w : World) (H0 : LRSt B w0 w g0 gx ap ks aq s qs xa xc L) :
    Calls Try.prog 32 #[.pointer (some ⟨g0, 0, none⟩)] w (Ret fun v w' => v = .int .u64 ((ap + 1 - ks.length : Nat) : Int) ∧ LRSt B w0 w' g0 gx ap ks aq s qs xa xc L) := by
  obtain ⟨ka, kc, G, H⟩ := H0
  refine (lFrom_ok g0 ap ks.length kc ka ha hna (by omega) w (H.getHeap mE)).mono ?_
  rintro e w1 ⟨v, rfl, rfl, hb⟩
  exact ⟨_, rfl, rfl, ka, kc, G, H.grow hb⟩

end Go.Proofs.Ytmokecicjmjkbaa
