/- Bytes of what is laid are bytes; tails; no condition. The program's ledger beside the reference's: each call of either, with both in one state; the bounds stand in each. What any number stands for among 0 to n - 1 (choragusref01.Pick); no condition. Regions that draw their order: a stronger condition from some operation on; two resources as one that can be parted again; elements collected; no condition. Regions that draw their order: a load that comes ahead of number k by a chain of operations; no condition. -/
import Derived.Test.YtmokecicjmjkbaaGy3
import Derived.Test.YtmokecicjmjkbaaGy22
import Derived.Test.YtmokecicjmjkbaaGy23
import Derived.Test.YtmokecicjmjkbaaGy24
import Derived.Test.YtmokecicjmjkbaaGy25
namespace Go.Proofs.Ytmokecicjmjkbaa
set_option linter.unusedVariables false
set_option linter.unusedSimpArgs false
theorem pidsB_lt (ps : List Pr) : ∀ x ∈ pidsB ps, x < 256 := by
  intro x hx
  unfold pidsB at hx
  obtain ⟨p, _, h⟩ := List.mem_flatMap.1 hx
  unfold pidB at h
  rcases List.mem_append.1 h with h | h
  · exact shortB_byte _ x h
  · exact shortB_byte _ x h
theorem rkB_lt (m l : List Pr) : ∀ x ∈ rkB m l, x < 256 := by
  intro x hx
  unfold rkB at hx
  rcases List.mem_append.1 hx with h | h
  · exact shortB_byte _ x h
  · obtain ⟨p, _, h⟩ := List.mem_flatMap.1 h
    exact shortB_byte _ x h
theorem vwB_lt (v : Vw) : ∀ x ∈ vwB v, x < 256 := by
  intro x hx
  unfold vwB at hx
  rcases List.mem_append.1 hx with h | h
  · rcases List.mem_append.1 h with h | h
    · rcases List.mem_append.1 h with h | h
      · rcases List.mem_append.1 h with h | h
        · exact shortB_byte _ x h
        · rcases List.mem_append.1 h with h | h
          · exact shortB_byte _ x h
          · exact pidsB_lt _ x h
      · exact shortB_byte _ x h
    · obtain ⟨l, _, h⟩ := List.mem_flatMap.1 h
      exact rkB_lt _ _ x h
  · exact rkB_lt _ _ x h
theorem cmB_lt {c : Cm} (hw : wfC c) : ∀ x ∈ cmB c, x < 256 := by
  intro x hx
  unfold cmB at hx
  rcases List.mem_append.1 hx with h | h
  · exact shortB_byte _ x h
  · split at h
    · rcases List.mem_append.1 h with h | h
      · rcases List.mem_append.1 h with h | h
        · rcases List.mem_append.1 h with h | h
          · unfold pidB at h
            rcases List.mem_append.1 h with h | h
            · exact shortB_byte _ x h
            · exact shortB_byte _ x h
          · exact shortB_byte _ x h
        · exact shortB_byte _ x h
      · rcases List.mem_append.1 h with h | h
        · exact shortB_byte _ x h
        · exact hw.data x h
    · split at h
      · exact vwB_lt _ x h
      · cases h
theorem lgB_lt {a : Nat} {cs : List Cm} (h : ∀ c ∈ cs, wfC c) : ∀ x ∈ lgB a cs, x < 256 := by
  intro x hx
  unfold lgB at hx
  rcases List.mem_append.1 hx with h1 | h1
  · rcases List.mem_append.1 h1 with h1 | h1
    · exact shortB_byte _ x h1
    · exact shortB_byte _ x h1
  · obtain ⟨c, hc, h1⟩ := List.mem_flatMap.1 h1
    exact cmB_lt (h c hc) x h1
/-- A tail, where the slot isn't ahead of the first one. -/
theorem tailC_eq {α : Type} {ap s slot most : Nat} {cs : List α} (hs : s + cs.length = ap + 1) (h : s ≤ slot) : tailC ap slot most cs = (cs.drop (slot - s)).take most := by
  unfold tailC plc
  by_cases h1 : slot ≤ ap ∧ ap - slot < cs.length
  · rw [if_pos h1]
    show (cs.drop (cs.length - 1 - (ap - slot))).take most = _
    rw [show cs.length - 1 - (ap - slot) = slot - s by omega]
  · rw [if_neg h1]
    show [] = _
    rw [List.drop_eq_nil_of_le (by omega), List.take_nil]
end Go.Proofs.Ytmokecicjmjkbaa
namespace Go.Proofs.Ytmokecicjmjkbaa
open Go.ChangeShapes Go.WideShapes Go.ChangeAt Go.RowKit Go.Maps
set_option linter.unusedVariables false
set_option linter.unusedSimpArgs false
set_option maxRecDepth 100000
/-- Both ledgers. -/
def LRSt (B : Nat) (w0 w : World) (g0 gx ap : Nat) (ks : List (Cm × Hd)) (aq s : Nat) (qs : List (Cm × Hd)) (xa : Option Addr) (xc : Nat) (L : List Res) : Prop :=
  ∃ (ka : Option Addr) (kc : Nat) (G : Nat → Prop), St B w0 w (row 97 g0 #[.int .u64 (ap : Int), .slice ka ks.length kc] :: slo 36 10 (.slice ka ks.length kc) ks.length (kv ks) :: cmsr G ks :: row 65 gx #[.int .u64 (aq : Int), .slice xa qs.length xc] :: slo 116 11 (.slice xa qs.length xc) qs.length (ov s qs) :: L)
theorem LRSt.of {B : Nat} {w0 w : World} {g0 gx ap aq s : Nat} {ks qs : List (Cm × Hd)} {xa : Option Addr} {xc : Nat} {L : List Res} {ka : Option Addr} {kc : Nat} {G : Nat → Prop} (H : St B w0 w (row 97 g0 #[.int .u64 (ap : Int), .slice ka ks.length kc] :: slo 36 10 (.slice ka ks.length kc) ks.length (kv ks) :: cmsr G ks :: row 65 gx #[.int .u64 (aq : Int), .slice xa qs.length xc] :: slo 116 11 (.slice xa qs.length xc) qs.length (ov s qs) :: L)) : LRSt B w0 w g0 gx ap ks aq s qs xa xc L := ⟨ka, kc, G, H⟩
/-- When they keep the same. -/
structure LRel (B : Nat) (w0 : World) (G1 : Nat → Prop) (ap s : Nat) (ks qs : List (Cm × Hd)) : Prop where
  same : ks.map (·.1) = qs.map (·.1)
  sum : s + ks.length = ap + 1
  len : ks.length ≤ 64
  sm : ∀ p ∈ ks, smC p.1
  ok : ∀ p ∈ ks, cErr p.1 = 0 ∧ wfC p.1
  rd : ∀ q ∈ qs, Rd B w0 [] fun W => CmG G1 W (.slice q.2.ba q.1.data.length q.2.bc) (.slice q.2.ma q.1.v.mem.length q.2.mc) (.slice q.2.la q.1.v.lvs.length q.2.lc) (.slice q.2.da q.1.v.ldr.length q.2.dc) q.1
theorem LRel.qlen {B : Nat} {w0 : World} {G1 : Nat → Prop} {ap s : Nat} {ks qs : List (Cm × Hd)} (h : LRel B w0 G1 ap s ks qs) : qs.length = ks.length := by
  have := congrArg List.length h.same; simpa using this.symm
attribute [local irreducible] cErr addE
theorem pAdd_yes {B : Nat} {w0 : World} {L : List Res} {G1 : Nat → Prop} (g0 gx ap aq s slot : Nat) (ks qs : List (Cm × Hd)) (xa : Option Addr) (xc : Nat) (c : Cm) (h : Hd) (hm : smC c) (hw : wfC c) (hx : Rd B w0 [] fun W => CmG G1 W (.slice h.ba c.data.length h.bc) (.slice h.ma c.v.mem.length h.mc) (.slice h.la c.v.lvs.length h.lc) (.slice h.da c.v.ldr.length h.dc) c) (hn : ks.length ≤ 64) (ha : ap < 18446744073709551616) (hs : slot < 18446744073709551616) (hE : addE ap ks.length slot c = 0) (w : World) (H0 : LRSt B w0 w g0 gx ap ks aq s qs xa xc L) :
    Calls Try.prog 15 #[.pointer (some ⟨g0, 0, none⟩), .int .u64 (slot : Int), .agg (cmH c h)] w (Ret fun v w' => v = .int .i64 0 ∧ ∃ h2, LRSt B w0 w' g0 gx slot (ks ++ [(c, h2)]) aq s qs xa xc L) := by
  obtain ⟨ka, kc, G, H⟩ := H0
  refine (ladd_ok g0 ap slot ks c h.ba h.ma h.la h.da h.bc h.mc h.lc h.dc hn ha hs hm hw (hx.mono (by simp)) w ⟨ka, kc, G, H⟩).mono ?_
  rintro e w1 ⟨v, rfl, rfl, hr⟩
  obtain ⟨h2, ka, kc, G, H⟩ := (hr.resolve_right (fun h => h.1 hE)).2
  exact ⟨_, rfl, by rw [hE], h2, ka, kc, G, H⟩
theorem pAdd_no {B : Nat} {w0 : World} {L : List Res} {G1 : Nat → Prop} (g0 gx ap aq s slot : Nat) (ks qs : List (Cm × Hd)) (xa : Option Addr) (xc : Nat) (c : Cm) (h : Hd) (hm : smC c) (hw : wfC c) (hx : Rd B w0 [] fun W => CmG G1 W (.slice h.ba c.data.length h.bc) (.slice h.ma c.v.mem.length h.mc) (.slice h.la c.v.lvs.length h.lc) (.slice h.da c.v.ldr.length h.dc) c) (hn : ks.length ≤ 64) (ha : ap < 18446744073709551616) (hs : slot < 18446744073709551616) (e : Int) (hE : addE ap ks.length slot c = e) (h0 : e ≠ 0) (w : World) (H0 : LRSt B w0 w g0 gx ap ks aq s qs xa xc L) :
    Calls Try.prog 15 #[.pointer (some ⟨g0, 0, none⟩), .int .u64 (slot : Int), .agg (cmH c h)] w (Ret fun v w' => v = .int .i64 e ∧ LRSt B w0 w' g0 gx ap ks aq s qs xa xc L) := by
  obtain ⟨ka, kc, G, H⟩ := H0
  refine (ladd_ok g0 ap slot ks c h.ba h.ma h.la h.da h.bc h.mc h.lc h.dc hn ha hs hm hw (hx.mono (by simp)) w ⟨ka, kc, G, H⟩).mono ?_
  rintro e' w1 ⟨v, rfl, rfl, hr⟩
  obtain ⟨ka, kc, G, H⟩ := (hr.resolve_left (fun h => h0 (hE.symm.trans h.1))).2
  exact ⟨_, rfl, by rw [hE], ka, kc, G, H⟩
theorem xAdd_yes {B : Nat} {w0 : World} {L : List Res} {G1 : Nat → Prop} (g0 gx ap aq s slot : Nat) (ks qs : List (Cm × Hd)) (xa : Option Addr) (xc : Nat) (c : Cm) (h : Hd) (hm : smC c) (hw : wfC c) (hx : Rd B w0 [] fun W => CmG G1 W (.slice h.ba c.data.length h.bc) (.slice h.ma c.v.mem.length h.mc) (.slice h.la c.v.lvs.length h.lc) (.slice h.da c.v.ldr.length h.dc) c) (hn : qs.length ≤ 64) (hsl : s + qs.length = aq + 1) (ha : aq < 18446744073709551616) (hs : slot < 18446744073709551616) (hE : addE aq qs.length slot c = 0) (w : World) (H0 : LRSt B w0 w g0 gx ap ks aq s qs xa xc L) :
    Calls Try.prog 59 #[.pointer (some ⟨gx, 0, none⟩), .int .u64 (slot : Int), .agg (cmH c h)] w (Ret fun v w' => v = .int .i64 0 ∧ ∃ xa xc, LRSt B w0 w' g0 gx ap ks slot s (qs ++ [(c, h)]) xa xc L) := by
  obtain ⟨ka, kc, G, H⟩ := H0
  refine (rladd_ok gx aq slot s qs c h hn hsl ha hs hm (hx.mono (by simp)) w ⟨xa, xc, (H.pull (r := slo 116 11 _ _ _) pU).pull (r := row 65 gx _) pU⟩).mono ?_
  rintro e w1 ⟨v, rfl, rfl, hr⟩
  obtain ⟨xa, xc, H2⟩ := (hr.resolve_right (fun h => h.1 hE)).2
  exact ⟨_, rfl, by rw [hE], ⟨xa, xc, ka, kc, G, ((H2.pull (r := cmsr G ks) pU).pull (r := slo 36 10 _ _ _) pU).pull (r := row 97 g0 _) pU⟩⟩
theorem xAdd_no {B : Nat} {w0 : World} {L : List Res} {G1 : Nat → Prop} (g0 gx ap aq s slot : Nat) (ks qs : List (Cm × Hd)) (xa : Option Addr) (xc : Nat) (c : Cm) (h : Hd) (hm : smC c) (hw : wfC c) (hx : Rd B w0 [] fun W => CmG G1 W (.slice h.ba c.data.length h.bc) (.slice h.ma c.v.mem.length h.mc) (.slice h.la c.v.lvs.length h.lc) (.slice h.da c.v.ldr.length h.dc) c) (hn : qs.length ≤ 64) (hsl : s + qs.length = aq + 1) (ha : aq < 18446744073709551616) (hs : slot < 18446744073709551616) (e : Int) (hE : addE aq qs.length slot c = e) (h0 : e ≠ 0) (w : World) (H0 : LRSt B w0 w g0 gx ap ks aq s qs xa xc L) :
    Calls Try.prog 59 #[.pointer (some ⟨gx, 0, none⟩), .int .u64 (slot : Int), .agg (cmH c h)] w (Ret fun v w' => v = .int .i64 e ∧ ∃ xa xc, LRSt B w0 w' g0 gx ap ks aq s qs xa xc L) := by
  obtain ⟨ka, kc, G, H⟩ := H0
  refine (rladd_ok gx aq slot s qs c h hn hsl ha hs hm (hx.mono (by simp)) w ⟨xa, xc, (H.pull (r := slo 116 11 _ _ _) pU).pull (r := row 65 gx _) pU⟩).mono ?_
  rintro e' w1 ⟨v, rfl, rfl, hr⟩
  obtain ⟨xa, xc, H2⟩ := (hr.resolve_left (fun h => h0 (hE.symm.trans h.1))).2
  exact ⟨_, rfl, by rw [hE], ⟨xa, xc, ka, kc, G, ((H2.pull (r := cmsr G ks) pU).pull (r := slo 36 10 _ _ _) pU).pull (r := row 97 g0 _) pU⟩⟩
theorem pCut_ok {B : Nat} {w0 : World} {L : List Res} (g0 gx ap aq s st q : Nat) (ks qs : List (Cm × Hd)) (xa : Option Addr) (xc : Nat) (hn : ks.length ≤ 64) (ha : ap + 1 < 18446744073709551616) (hna : ks.length ≤ ap + 1) (hs : st < 18446744073709551616) (hq : cutN ap ks.length st = q) (w : World) (H0 : LRSt B w0 w g0 gx ap ks aq s qs xa xc L) :
    Calls Try.prog 35 #[.pointer (some ⟨g0, 0, none⟩), .int .u64 (st : Int)] w (Ret fun v w' => v = .int .i64 (q : Int) ∧ LRSt B w0 w' g0 gx ap (ks.drop q) aq s qs xa xc L) := by
  obtain ⟨ka, kc, G, H⟩ := H0
  subst hq
  refine (lcut_ok g0 ap st ks hn ha hna hs w ⟨ka, kc, G, H⟩).mono ?_
  rintro e w1 ⟨v, rfl, rfl, ka, kc, G, H⟩
  exact ⟨_, rfl, rfl, ka, kc, G, H⟩
theorem xCut_ok {B : Nat} {w0 : World} {L : List Res} (g0 gx ap aq s st q : Nat) (ks qs : List (Cm × Hd)) (xa : Option Addr) (xc : Nat) (hn : qs.length ≤ 64) (hsl : s + qs.length = aq + 1) (hq : cutN aq qs.length st = q) (w : World) (H0 : LRSt B w0 w g0 gx ap ks aq s qs xa xc L) :
    Calls Try.prog 60 #[.pointer (some ⟨gx, 0, none⟩), .int .u64 (st : Int)] w (Ret fun v w' => v = .int .i64 (q : Int) ∧ ∃ xa xc, LRSt B w0 w' g0 gx ap ks aq (s + q) (qs.drop q) xa xc L) := by
  obtain ⟨ka, kc, G, H⟩ := H0
  subst hq
  refine (rlcut_ok gx aq st s qs hn hsl w ⟨xa, xc, (H.pull (r := slo 116 11 _ _ _) pU).pull (r := row 65 gx _) pU⟩).mono ?_
  rintro e w1 ⟨v, rfl, rfl, xa, xc, H2⟩
  exact ⟨_, rfl, rfl, ⟨xa, xc, ka, kc, G, ((H2.pull (r := cmsr G ks) pU).pull (r := slo 36 10 _ _ _) pU).pull (r := row 97 g0 _) pU⟩⟩
theorem pGet_no {B : Nat} {w0 : World} {L : List Res} (g0 gx ap aq s slot : Nat) (ks qs : List (Cm × Hd)) (xa : Option Addr) (xc : Nat) (hn : ks.length ≤ 64) (ha : ap < 18446744073709551616) (hs : slot < 18446744073709551616) (hm : ∀ p ∈ ks, smC p.1) (hp : plc ap ks.length slot = none) (w : World) (H0 : LRSt B w0 w g0 gx ap ks aq s qs xa xc L) :
    Calls Try.prog 16 #[.pointer (some ⟨g0, 0, none⟩), .int .u64 (slot : Int)] w (Ret fun v w' => v = .tuple #[.agg #[.int .i64 0, .int .u16 0, .int .u32 0, .int .u64 0, .int .u64 0, .slice none 0 0, .int .u64 0, .slice none 0 0, .slice none 0 0, .slice none 0 0], .int .i64 8] ∧ LRSt B w0 w' g0 gx ap ks aq s qs xa xc L) := by
  obtain ⟨ka, kc, G, H⟩ := H0
  refine (lget_ok g0 ap slot ks hn ha hs hm w ⟨ka, kc, G, H⟩).mono ?_
  rintro e w1 ⟨v, rfl, ⟨_, rfl, ka, kc, G, H⟩ | ⟨q, p, G2, h, hc, _⟩⟩
  · exact ⟨_, rfl, rfl, ka, kc, G, H⟩
  · rw [hp] at hc; cases hc
theorem pGet_yes {B : Nat} {w0 : World} {L : List Res} (g0 gx ap aq s slot : Nat) (ks qs : List (Cm × Hd)) (xa : Option Addr) (xc : Nat) (q : Nat) (c : Cm) (h0 : Hd) (hn : ks.length ≤ 64) (ha : ap < 18446744073709551616) (hs : slot < 18446744073709551616) (hm : ∀ p ∈ ks, smC p.1) (hp : plc ap ks.length slot = some q) (hq : ks[q]? = some (c, h0)) (w : World) (H0 : LRSt B w0 w g0 gx ap ks aq s qs xa xc L) :
    Calls Try.prog 16 #[.pointer (some ⟨g0, 0, none⟩), .int .u64 (slot : Int)] w (Ret fun v w' => ∃ (h : Hd) (G2 : Nat → Prop), v = .tuple #[.agg (cmH c h), .int .i64 0] ∧ LRSt B w0 w' g0 gx ap ks aq s qs xa xc (cmr G2 (.slice h.ba c.data.length h.bc) (.slice h.ma c.v.mem.length h.mc) (.slice h.la c.v.lvs.length h.lc) (.slice h.da c.v.ldr.length h.dc) c :: L)) := by
  obtain ⟨ka, kc, G, H⟩ := H0
  refine (lget_ok g0 ap slot ks hn ha hs hm w ⟨ka, kc, G, H⟩).mono ?_
  rintro e w1 ⟨v, rfl, ⟨hc, _⟩ | ⟨q', p, G2, h, hc, hk, rfl, ka, kc, G, H⟩⟩
  · rw [hp] at hc; cases hc
  · rw [hp] at hc
    cases hc
    rw [hq] at hk
    cases hk
    exact ⟨_, rfl, h, G2, rfl, ka, kc, G, (((((H.pull (r := cmr G2 _ _ _ _ c) pU).pull (r := slo 116 11 _ _ _) pU).pull (r := row 65 gx _) pU).pull (r := cmsr G ks) pU).pull (r := slo 36 10 _ _ _) pU).pull (r := row 97 g0 _) pU⟩
theorem xGet_no {B : Nat} {w0 : World} {L : List Res} (g0 gx ap aq s slot : Nat) (ks qs : List (Cm × Hd)) (xa : Option Addr) (xc : Nat) (hn : qs.length ≤ 64) (hsl : s + qs.length = aq + 1) (hp : plc aq qs.length slot = none) (w : World) (H0 : LRSt B w0 w g0 gx ap ks aq s qs xa xc L) :
    Calls Try.prog 61 #[.pointer (some ⟨gx, 0, none⟩), .int .u64 (slot : Int)] w (Ret fun v w' => v = .tuple #[.agg #[.int .i64 0, .int .u16 0, .int .u32 0, .int .u64 0, .int .u64 0, .slice none 0 0, .int .u64 0, .slice none 0 0, .slice none 0 0, .slice none 0 0], .int .i64 8] ∧ ∃ xa xc, LRSt B w0 w' g0 gx ap ks aq s qs xa xc L) := by
  obtain ⟨ka, kc, G, H⟩ := H0
  refine (rlget_ok gx aq slot s qs hn hsl w ⟨xa, xc, (H.pull (r := slo 116 11 _ _ _) pU).pull (r := row 65 gx _) pU⟩).mono ?_
  rintro e w1 ⟨v, rfl, ⟨_, rfl⟩ | ⟨q, p, hc, _⟩, xa, xc, H2⟩
  · exact ⟨_, rfl, rfl, ⟨xa, xc, ka, kc, G, ((H2.pull (r := cmsr G ks) pU).pull (r := slo 36 10 _ _ _) pU).pull (r := row 97 g0 _) pU⟩⟩
  · rw [hp] at hc; cases hc
theorem xGet_yes {B : Nat} {w0 : World} {L : List Res} (g0 gx ap aq s slot : Nat) (ks qs : List (Cm × Hd)) (xa : Option Addr) (xc : Nat) (q : Nat) (c : Cm) (h : Hd) (hn : qs.length ≤ 64) (hsl : s + qs.length = aq + 1) (hp : plc aq qs.length slot = some q) (hq : qs[q]? = some (c, h)) (w : World) (H0 : LRSt B w0 w g0 gx ap ks aq s qs xa xc L) :
    Calls Try.prog 61 #[.pointer (some ⟨gx, 0, none⟩), .int .u64 (slot : Int)] w (Ret fun v w' => v = .tuple #[.agg (cmH c h), .int .i64 0] ∧ ∃ xa xc, LRSt B w0 w' g0 gx ap ks aq s qs xa xc L) := by
  obtain ⟨ka, kc, G, H⟩ := H0
  refine (rlget_ok gx aq slot s qs hn hsl w ⟨xa, xc, (H.pull (r := slo 116 11 _ _ _) pU).pull (r := row 65 gx _) pU⟩).mono ?_
  rintro e w1 ⟨v, rfl, ⟨hc, _⟩ | ⟨q', p, hc, hk, rfl⟩, xa, xc, H2⟩
  · rw [hp] at hc; cases hc
  · rw [hp] at hc
    cases hc
    rw [hq] at hk
    cases hk
    exact ⟨_, rfl, rfl, ⟨xa, xc, ka, kc, G, ((H2.pull (r := cmsr G ks) pU).pull (r := slo 36 10 _ _ _) pU).pull (r := row 97 g0 _) pU⟩⟩
end Go.Proofs.Ytmokecicjmjkbaa
namespace Go.Proofs.Ytmokecicjmjkbaa
open Go.ChangeShapes Go.WideShapes Go.ChangeAt Go.RowKit
set_option linter.unusedVariables false
set_option linter.unusedSimpArgs false
/-- A number of 0 to n - 1 that any number stands for. -/
theorem pick_mod (b z : Int) (n : Nat) (hz : z = n) (hn : 0 < n) (hn2 : n ≤ 1000000) (w : World) :
    Calls Try.prog 58 #[.int .i64 b, .int .i64 z] w (Ret fun v w' => v = .int .i64 (((b % n).toNat : Nat) : Int) ∧ Below w.heap.size w w') := by
  subst hz
  have H := St.init w
  have e1 := Int.emod_nonneg b (show (n : Int) ≠ 0 by omega)
  have e2 := Int.emod_lt_of_pos b (show (0 : Int) < n by omega)
  have h := Int.tmod_eq_emod (a := b) (b := (n : Int))
  rw [Int.natAbs_natCast] at h
  have hr : (b.tmod n < 0 → b.tmod n + n = b % n) ∧ (¬ b.tmod n < 0 → b.tmod n = b % n) := by
    split at h <;> constructor <;> intro h' <;> omega
  obtain ⟨e, he⟩ : ∃ e, b.tmod n = e := ⟨_, rfl⟩
  obtain ⟨q, hq⟩ : ∃ q, b % (n : Int) = q := ⟨_, rfl⟩
  rw [he, hq] at hr
  rw [hq] at e1 e2 ⊢
  have eb : -(n : Int) ≤ e ∧ e < n := by
    by_cases h0 : e < 0
    · have := hr.1 h0; omega
    · have := hr.2 h0; omega
  obtain ⟨eb1, eb2⟩ := eb
  have n1 : ¬ (n : Int) < 1 := by omega
  have nz : ((n : Int) == 0) = false := by simp; omega
  clear hq h
  by_cases h0 : e < 0
  · have HQ := Lib.hid (hr.1 h0)
    clear hr
    go_enter Try.func58, Try.ntmps58
    go_wp2
    go_ret
    exact ⟨_, rfl, congrArg (Value.int IntKind.i64) (show e + (n : Int) = _ by have := HQ.out; omega), H.below⟩
  · have HQ := Lib.hid (hr.2 h0)
    clear hr
    go_enter Try.func58, Try.ntmps58
    go_wp2
    go_ret
    exact ⟨_, rfl, congrArg (Value.int IntKind.i64) (show e = _ by have := HQ.out; omega), H.below⟩
end Go.Proofs.Ytmokecicjmjkbaa
namespace Go.Proofs.Ytmokecicjmjkbaa
open Go.ChangeShapes Go.WideShapes Go.ChangeAt Go.RowKit
set_option linter.unusedVariables false
set_option linter.unusedSimpArgs false
section
variable {P : Program} {ops : Array Oper} {Q : Exit → Act → World → Prop} {S S' : World → Prop}
end
theorem Sound.heap {r : Res} {w1 w2 : World} (h : Sound r w1) (hb : ∀ g, r.1 g → w2.heap[g]? = w1.heap[g]?) : Sound r w2 :=
  ⟨h.loc w1 w2 hb h.here, fun g hg => by
    have h1 := h.lt g hg
    have h2 := hb g hg
    rw [Array.getElem?_eq_getElem h1] at h2
    exact (Array.getElem?_eq_some_iff.1 h2).1, h.loc⟩
theorem collect {α : Type} (P : Nat → α → Prop) : ∀ (n : Nat), (∀ i, i < n → ∃ a, P i a) → ∃ l : List α, l.length = n ∧ ∀ i (hi : i < l.length), P i l[i]
  | 0, _ => ⟨[], rfl, fun i hi => absurd hi (Nat.not_lt_zero _)⟩
  | n + 1, h => by
    obtain ⟨l, hl, hP⟩ := collect P n (fun i hi => h i (by omega))
    obtain ⟨a, ha⟩ := h n (by omega)
    refine ⟨l ++ [a], by simp [hl], fun i hi => ?_⟩
    by_cases hin : i < l.length
    · rw [List.getElem_append_left hin]; exact hP i hin
    · have : i = l.length := by simp at hi; omega
      subst this
      rw [List.getElem_append_right (Nat.le_refl _)]
      simpa [hl] using ha
end Go.Proofs.Ytmokecicjmjkbaa
namespace Go.Proofs.Ytmokecicjmjkbaa
open Go.ChangeShapes Go.WideShapes Go.ChangeAt Go.RowKit
set_option linter.unusedVariables false
set_option linter.unusedSimpArgs false
def chainB (l : List Oper) : Nat → List Nat → Bool
  | _, [] => true
  | i, c :: r => (l[c]?.map fun o => o.after.any fun e => Region.binds .any e && e.on == i) == some true && chainB l c r
theorem chain_pre {l : List Oper} : ∀ (ch : List Nat) (i : Nat), chainB l i ch = true → ∀ c ∈ ch, ∃ p, (p = i ∨ p ∈ ch) ∧ ∃ o, l[c]? = some o ∧ ∃ e ∈ o.after, Region.binds .any e = true ∧ e.on = p
  | [], _, _, c, hc => by cases hc
  | x :: r, i, h, c, hc => by
    simp only [chainB, Bool.and_eq_true, beq_iff_eq] at h
    rcases List.mem_cons.1 hc with rfl | hc
    · cases ho : l[c]? with
      | none => rw [ho] at h; simp at h
      | some o =>
        rw [ho] at h
        simp only [Option.map_some, Option.some.injEq, Array.any_eq_true', Bool.and_eq_true, beq_iff_eq] at h
        obtain ⟨⟨e, he, hb, hon⟩, _⟩ := h
        exact ⟨i, .inl rfl, o, rfl, e, he, hb, hon⟩
    · obtain ⟨p, hp, q⟩ := chain_pre r x h.2 c hc
      refine ⟨p, .inr ?_, q⟩
      rcases hp with rfl | hp
      · exact List.mem_cons_self
      · exact List.mem_cons_of_mem _ hp
section
variable {P : Program} {Q : Exit → Act → World → Prop} {S : World → Prop} {k : Nat} {a : Act} {w : World} {l : List Oper} {i : Nat} {oi : Oper} {v : Value} {fuel : Nat} {listed : Array Bool}
theorem rk_via (ch : List Nat) (hi : l[i]? = some oi) (hs : Region.noSelect l.toArray = true) (hf : Region.free .any l.toArray listed i = true) (hr : (Region.ready .any l.toArray listed).contains i = true)
    (hc : chainB l i ch = true) (hk : ch.contains k = true) (hl : (ch.all fun c => listed.getD c true == false) = true) (hki : (k == i) = false)
    (hy : YieldsIf P l.toArray S oi v a) (hS : S w) (h : Kept P l.toArray (NoPanic Q) S k fuel (listed.setIfInBounds i true) (a.put oi.dst v) w) : Kept P l.toArray (NoPanic Q) S k (fuel + 1) listed a w := by
  have hik : i ≠ k := fun e => by subst e; simp at hki
  have hkm : k ∈ ch := by simpa using hk
  refine Kept.first (T := S) (J := fun l' => ∀ c ∈ ch, l'.getD c true = false) (by simpa using hi) hik (Region.noSelect_spec hs) (fun _ _ _ h => h) (fun l' w' hj hS' => hS' (hj k hkm)) (fun l' j hj hri hrj hji c hcm => ?_) fuel listed a w (Region.free_spec (by simpa using hi) hf) (by simpa using hr) (fun c hcm => by simpa using List.all_eq_true.1 hl c hcm) hy (fun _ => hS) h
  by_cases hjc : j = c
  · exfalso
    subst hjc
    obtain ⟨p, hp, o, ho, e, he, hb, hon⟩ := chain_pre ch i hc j hcm
    obtain ⟨_, ok, hok, hall⟩ := mem_ready.1 hrj
    have hok' : l[j]? = some ok := by simpa using hok
    rw [ho] at hok'
    cases hok'
    have h1 := hall e he hb
    rw [hon] at h1
    have h0 : l'.getD p true = false := by
      rcases hp with rfl | hp
      · exact (mem_ready.1 hri).1
      · exact hj p hp
    rcases Nat.lt_or_ge p l'.size with h' | h'
    · simp [h'] at h0 h1; rw [h0] at h1; cases h1
    · simp [Array.getElem?_eq_none h'] at h1
  · rw [getD_set_ne true hjc]; exact hj c hcm
end
end Go.Proofs.Ytmokecicjmjkbaa
