/- Layer 20's law's act (choraguslaw20.do) whatever is done: both acceptors go on alike; what they read; the bounds stand in each. Layer 20's laws' script: acts in memory, opened; is there more than is looked at? No condition. The statement AcceptPlays of layer 20 (accept): the law's walk; the bounds stand in it. The statement AcceptGrows of layer 20 (accept): the law's walk; the bounds stand in it. -/
import Derived.Test.YtmokecicjmjkbaaAcc9
import Derived.Test.YtmokecicjmjkbaaRg
import Derived.Test.YtmokecicjmjkbaaAcc5
namespace Go.Proofs.Ytmokecicjmjkbaa
open Go.ChangeShapes Go.WideShapes Go.ChangeAt Go.RowKit Go.Maps
set_option linter.unusedVariables false
set_option linter.unusedSimpArgs false
set_option maxRecDepth 100000
set_option maxHeartbeats 4000000
theorem blt_irr (a : Bl) : blt a a = false := by unfold blt ahd; simp
theorem blt_tr {a b c : Bl} (h1 : blt a b = false) (h2 : blt b c = false) : blt a c = false := by
  have key : ∀ x y : Bl, blt x y = false ↔ (y.r < x.r ∨ (y.r = x.r ∧ (y.w.1 < x.w.1 ∨ (y.w.1 = x.w.1 ∧ y.w.2 ≤ x.w.2)))) := fun x y => by
    unfold blt ahd
    by_cases e1 : x.r = y.r
    · rw [if_pos e1]
      by_cases e2 : x.w.1 = y.w.1
      · rw [if_pos e2, decide_eq_false_iff_not]; omega
      · rw [if_neg e2, decide_eq_false_iff_not]; omega
    · rw [if_neg e1, decide_eq_false_iff_not]; omega
  rw [key] at h1 h2 ⊢
  omega
/-- An acceptor of the program: nothing is accepted, or something is. -/
def AccR (g0 cur : Nat) (pr : Bl) (hb : Bool) (y : Bl) (d : Cm) (R : Res) : Prop :=
  (hb = false ∧ y = bl0 ∧ d = cm0 ∧ R = row 105 g0 #[.int .u64 (cur : Int), .int .u32 (pr.r : Int), .int .u16 (pr.w.1 : Int), .int .u32 (pr.w.2 : Int), .pointer none]) ∨
  (hb = true ∧ ∃ (ga : Nat) (ha : Hd) (G : Nat → Prop), R = sep (row 105 g0 #[.int .u64 (cur : Int), .int .u32 (pr.r : Int), .int .u16 (pr.w.1 : Int), .int .u32 (pr.w.2 : Int), .pointer (some ⟨ga, 0, none⟩)]) (sep (row 109 ga #[.int .u32 (y.r : Int), .int .u16 (y.w.1 : Int), .int .u32 (y.w.2 : Int), .int .i64 d.kind, .int .u16 (d.fr.1 : Int), .int .u32 (d.fr.2 : Int), .int .u64 (d.num : Int), .int .u64 (d.vw : Int), .slice ha.ba d.data.length ha.bc, .int .u64 (d.v.id : Int), .slice ha.ma d.v.mem.length ha.mc, .slice ha.la d.v.lvs.length ha.lc, .slice ha.da d.v.ldr.length ha.dc]) (cmr G (.slice ha.ba d.data.length ha.bc) (.slice ha.ma d.v.mem.length ha.mc) (.slice ha.la d.v.lvs.length ha.lc) (.slice ha.da d.v.ldr.length ha.dc) d)))
structure AInv (B : Nat) (w0 : World) (G1 : Nat → Prop) (cur : Nat) (pr : Bl) (hb : Bool) (y : Bl) (d : Cm) (hd : Hd) : Prop where
  cur : cur < 18446744073709551616
  p1 : pr.w.1 < 65536
  p2 : pr.w.2 < 4294967296
  sm : smC d
  no : hb = false → y = bl0 ∧ d = cm0 ∧ hd = hd0
  rd : Rd B w0 [] fun W => CmG G1 W (.slice hd.ba d.data.length hd.bc) (.slice hd.ma d.v.mem.length hd.mc) (.slice hd.la d.v.lvs.length hd.lc) (.slice hd.da d.v.ldr.length hd.dc) d
  yes : hb = true → blt pr y = false
theorem cm0_sm : smC cm0 := ⟨Nat.zero_le 1000, ⟨Nat.zero_le 1000, Nat.zero_le 1000, (by intro l hl; cases hl), Nat.zero_le 1000⟩⟩
theorem cm0_rd {B : Nat} {w0 : World} {G1 : Nat → Prop} : Rd B w0 [] fun W => CmG G1 W (.slice hd0.ba cm0.data.length hd0.bc) (.slice hd0.ma cm0.v.mem.length hd0.mc) (.slice hd0.la cm0.v.lvs.length hd0.lc) (.slice hd0.da cm0.v.ldr.length hd0.dc) cm0 := fun W _ _ => CmG.nil G1 W 0
attribute [local irreducible] may asE blt cErr
theorem do20_ok {B : Nat} {w0 : World} {L : List Res} {G1 : Nat → Prop} (g0 gx cur : Nat) (kind by_ : Int) (pr b y : Bl) (hb : Bool) (d : Cm) (hd : Hd) (R : Res) (c : Cm) (h : Hd) (hm : smC c) (hw : wfC c) (hrd : Rd B w0 [] fun W => CmG G1 W (.slice h.ba c.data.length h.bc) (.slice h.ma c.v.mem.length h.mc) (.slice h.la c.v.lvs.length h.lc) (.slice h.da c.v.ldr.length h.dc) c)
    (b1 : b.w.1 < 65536) (b2 : b.w.2 < 4294967296) (hy1 : -128 ≤ by_) (hy2 : by_ ≤ 127) (hR : AccR g0 cur pr hb y d R) (hI : AInv B w0 G1 cur pr hb y d hd) (w : World) (H : St B w0 w (row 78 gx #[.int .u64 (cur : Int), .int .u32 (pr.r : Int), .int .u16 (pr.w.1 : Int), .int .u32 (pr.w.2 : Int), .bool hb, .int .u32 (y.r : Int), .int .u16 (y.w.1 : Int), .int .u32 (y.w.2 : Int), .int .i64 d.kind, .int .u16 (d.fr.1 : Int), .int .u32 (d.fr.2 : Int), .int .u64 (d.num : Int), .int .u64 (d.vw : Int), .slice hd.ba d.data.length hd.bc, .int .u64 (d.v.id : Int), .slice hd.ma d.v.mem.length hd.mc, .slice hd.la d.v.lvs.length hd.lc, .slice hd.da d.v.ldr.length hd.dc] :: R :: L)) :
    Calls Try.prog 37 #[.pointer (some ⟨g0, 0, none⟩), .pointer (some ⟨gx, 0, none⟩), .agg #[.int .i64 kind, .int .i8 by_, .int .u32 (b.r : Int), .int .u16 (b.w.1 : Int), .int .u32 (b.w.2 : Int), .int .i64 c.kind, .int .u16 (c.fr.1 : Int), .int .u32 (c.fr.2 : Int), .int .u64 (c.num : Int), .int .u64 (c.vw : Int), .slice h.ba c.data.length h.bc, .int .u64 (c.v.id : Int), .slice h.ma c.v.mem.length h.mc, .slice h.la c.v.lvs.length h.lc, .slice h.da c.v.ldr.length h.dc]] w (Ret fun v w' => v = .bool true ∧ ∃ (cur' : Nat) (pr' : Bl) (hb' : Bool) (y' : Bl) (d' : Cm) (hd' : Hd) (R' : Res), AccR g0 cur' pr' hb' y' d' R' ∧ AInv B w0 G1 cur' pr' hb' y' d' hd' ∧ cur ≤ cur' ∧ blt pr' pr = false ∧ St B w0 w' (row 78 gx #[.int .u64 (cur' : Int), .int .u32 (pr'.r : Int), .int .u16 (pr'.w.1 : Int), .int .u32 (pr'.w.2 : Int), .bool hb', .int .u32 (y'.r : Int), .int .u16 (y'.w.1 : Int), .int .u32 (y'.w.2 : Int), .int .i64 d'.kind, .int .u16 (d'.fr.1 : Int), .int .u32 (d'.fr.2 : Int), .int .u64 (d'.num : Int), .int .u64 (d'.vw : Int), .slice hd'.ba d'.data.length hd'.bc, .int .u64 (d'.v.id : Int), .slice hd'.ma d'.v.mem.length hd'.mc, .slice hd'.la d'.v.lvs.length hd'.lc, .slice hd'.da d'.v.ldr.length hd'.dc] :: R' :: L)) := by
  have p1 := hI.p1
  have p2 := hI.p2
  obtain ⟨slot, hsl, hslt⟩ : ∃ s : Nat, IntKind.u64.wrap ((cur : Int) + IntKind.u64.wrap by_) = (s : Int) ∧ s < 18446744073709551616 := by
    rw [IntKind.wrap_u64]
    exact ⟨(((cur : Int) + IntKind.u64.wrap by_) % 18446744073709551616).toNat, by omega, by omega⟩
  obtain ⟨j, hj⟩ : ∃ j, (kind % ((6 : Nat) : Int)).toNat = j := ⟨_, rfl⟩
  have hj6 : j < 6 := by omega
  rcases hR with ⟨rfl, rfl, rfl, rfl⟩ | ⟨rfl, ga, ha, G, rfl⟩
  · obtain ⟨_, _, rfl⟩ := hI.no rfl
    by_cases hj1 : j = 0 ∨ j = 1
    · skip
      by_cases he : asE cur slot b = 0
      · cases hbl : blt b pr
        · refine (doNpYes_ok g0 gx cur slot j kind by_ pr b bl0 cm0 hd0 c h hm hw hrd b1 b2 p1 p2 hy1 hy2 hsl hj hj1 he hbl w H).mono ?_
          rintro e1 w1 ⟨v, rfl, rfl, H2⟩
          exact ⟨_, rfl, rfl, cur, b, false, bl0, cm0, hd0, _, .inl ⟨rfl, rfl, rfl, rfl⟩, ⟨hI.cur, b1, b2, hI.sm, hI.no, hI.rd, fun h => by cases h⟩, Nat.le_refl _, hbl, H2⟩
        · refine (doNpNack_ok g0 gx cur slot j kind by_ pr b bl0 cm0 hd0 c h hm hw hrd b1 b2 p1 p2 hy1 hy2 hsl hj hj1 he hbl w H).mono ?_
          rintro e1 w1 ⟨v, rfl, rfl, H2⟩
          exact ⟨_, rfl, rfl, cur, pr, false, bl0, cm0, hd0, _, .inl ⟨rfl, rfl, rfl, rfl⟩, hI, Nat.le_refl _, blt_irr _, H2⟩
      · refine (doNpErr_ok g0 gx cur slot j kind by_ pr b bl0 cm0 hd0 c h hm hw hrd b1 b2 p1 p2 hy1 hy2 hsl hj hj1 _ rfl he w H).mono ?_
        rintro e1 w1 ⟨v, rfl, rfl, H2⟩
        exact ⟨_, rfl, rfl, cur, pr, false, bl0, cm0, hd0, _, .inl ⟨rfl, rfl, rfl, rfl⟩, hI, Nat.le_refl _, blt_irr _, H2⟩
    · by_cases hj2 : j = 2 ∨ j = 3 ∨ j = 4
      · skip
        by_cases hc : cErr c = 0
        · by_cases he : asE cur slot b = 0
          · cases hbl : blt b pr
            · refine (doNaYes_ok g0 gx cur slot j kind by_ pr b bl0 cm0 hd0 c h hm hw hrd b1 b2 p1 p2 hy1 hy2 hsl hj hj2 hc he hbl w H).mono ?_
              rintro e1 w1 ⟨v, rfl, rfl, g3, h3, G3, H2⟩
              exact ⟨_, rfl, rfl, cur, b, true, b, c, h, _, .inr ⟨rfl, g3, h3, G3, rfl⟩, ⟨hI.cur, b1, b2, hm, fun h => (by cases h), hrd, fun _ => blt_irr _⟩, Nat.le_refl _, hbl, ((((H2.pull (r := cmr G3 _ _ _ _ _) pU).pull (r := row 109 g3 _) pU).sep.pull (r := row 105 g0 _) pU).sep.pull (r := row 78 gx _) pU)⟩
            · refine (doNaNack_ok g0 gx cur slot j kind by_ pr b bl0 cm0 hd0 c h hm hw hrd b1 b2 p1 p2 hy1 hy2 hsl hj hj2 hc he hbl w H).mono ?_
              rintro e1 w1 ⟨v, rfl, rfl, H2⟩
              exact ⟨_, rfl, rfl, cur, pr, false, bl0, cm0, hd0, _, .inl ⟨rfl, rfl, rfl, rfl⟩, hI, Nat.le_refl _, blt_irr _, H2⟩
          · refine (doNaErr_ok g0 gx cur slot j kind by_ pr b bl0 cm0 hd0 c h hm hw hrd b1 b2 p1 p2 hy1 hy2 hsl hj hj2 hc _ rfl he w H).mono ?_
            rintro e1 w1 ⟨v, rfl, rfl, H2⟩
            exact ⟨_, rfl, rfl, cur, pr, false, bl0, cm0, hd0, _, .inl ⟨rfl, rfl, rfl, rfl⟩, hI, Nat.le_refl _, blt_irr _, H2⟩
        · refine (doNaErrC_ok g0 gx cur slot j kind by_ pr b bl0 cm0 hd0 c h hm hw hrd b1 b2 p1 p2 hy1 hy2 hsl hj hj2 hc w H).mono ?_
          rintro e1 w1 ⟨v, rfl, rfl, H2⟩
          exact ⟨_, rfl, rfl, cur, pr, false, bl0, cm0, hd0, _, .inl ⟨rfl, rfl, rfl, rfl⟩, hI, Nat.le_refl _, blt_irr _, H2⟩
      · have hj5 : j = 5 := by omega
        by_cases hv : slot ≤ cur
        · refine (doNvNo_ok g0 gx cur slot j kind by_ pr b bl0 cm0 hd0 c h hm hw hrd b1 b2 p1 p2 hy1 hy2 hsl hj hj5 hv w H).mono ?_
          rintro e1 w1 ⟨v, rfl, rfl, H2⟩
          exact ⟨_, rfl, rfl, cur, pr, false, bl0, cm0, hd0, _, .inl ⟨rfl, rfl, rfl, rfl⟩, hI, Nat.le_refl _, blt_irr _, H2⟩
        · refine (doNvYes_ok g0 gx cur slot j kind by_ pr b bl0 cm0 hd0 c h hm hw hrd b1 b2 p1 p2 hy1 hy2 hsl hj hj5 (by omega) w H).mono ?_
          rintro e1 w1 ⟨v, rfl, rfl, H2⟩
          exact ⟨_, rfl, rfl, slot, pr, false, bl0, cm0, hd0, _, .inl ⟨rfl, rfl, rfl, rfl⟩, ⟨hslt, p1, p2, cm0_sm, fun _ => ⟨rfl, rfl, rfl⟩, cm0_rd, fun h => (by cases h)⟩, by omega, blt_irr _, H2⟩
  · have HY := ((((H.swap.part.swap.part.pull (r := cmr G _ _ _ _ _) pU).pull (r := row 109 ga _) pU).pull (r := row 105 g0 _) pU).pull (r := row 78 gx _) pU)
    by_cases hj1 : j = 0 ∨ j = 1
    · skip
      by_cases he : asE cur slot b = 0
      · cases hbl : blt b pr
        · refine (doYpYes_ok g0 gx cur slot j kind by_ pr b y d hd ga ha hI.sm hI.rd c h hm hw hrd b1 b2 p1 p2 hy1 hy2 hsl hj hj1 he hbl w HY).mono ?_
          rintro e1 w1 ⟨v, rfl, rfl, H2⟩
          exact ⟨_, rfl, rfl, cur, b, true, y, d, hd, _, .inr ⟨rfl, ga, ha, G, rfl⟩, ⟨hI.cur, b1, b2, hI.sm, hI.no, hI.rd, fun h => blt_tr hbl (hI.yes h)⟩, Nat.le_refl _, hbl, ((((H2.pull (r := cmr G _ _ _ _ _) pU).pull (r := row 109 ga _) pU).sep.pull (r := row 105 g0 _) pU).sep.pull (r := row 78 gx _) pU)⟩
        · refine (doYpNack_ok g0 gx cur slot j kind by_ pr b y d hd ga ha hI.sm hI.rd c h hm hw hrd b1 b2 p1 p2 hy1 hy2 hsl hj hj1 he hbl w HY).mono ?_
          rintro e1 w1 ⟨v, rfl, rfl, H2⟩
          exact ⟨_, rfl, rfl, cur, pr, true, y, d, hd, _, .inr ⟨rfl, ga, ha, G, rfl⟩, hI, Nat.le_refl _, blt_irr _, ((((H2.pull (r := cmr G _ _ _ _ _) pU).pull (r := row 109 ga _) pU).sep.pull (r := row 105 g0 _) pU).sep.pull (r := row 78 gx _) pU)⟩
      · refine (doYpErr_ok g0 gx cur slot j kind by_ pr b y d hd ga ha hI.sm hI.rd c h hm hw hrd b1 b2 p1 p2 hy1 hy2 hsl hj hj1 _ rfl he w HY).mono ?_
        rintro e1 w1 ⟨v, rfl, rfl, H2⟩
        exact ⟨_, rfl, rfl, cur, pr, true, y, d, hd, _, .inr ⟨rfl, ga, ha, G, rfl⟩, hI, Nat.le_refl _, blt_irr _, ((((H2.pull (r := cmr G _ _ _ _ _) pU).pull (r := row 109 ga _) pU).sep.pull (r := row 105 g0 _) pU).sep.pull (r := row 78 gx _) pU)⟩
    · by_cases hj2 : j = 2 ∨ j = 3 ∨ j = 4
      · skip
        by_cases hc : cErr c = 0
        · by_cases he : asE cur slot b = 0
          · cases hbl : blt b pr
            · refine (doYaYes_ok g0 gx cur slot j kind by_ pr b y d hd ga ha hI.sm hI.rd c h hm hw hrd b1 b2 p1 p2 hy1 hy2 hsl hj hj2 hc he hbl w HY).mono ?_
              rintro e1 w1 ⟨v, rfl, rfl, g3, h3, G3, H2⟩
              exact ⟨_, rfl, rfl, cur, b, true, b, c, h, _, .inr ⟨rfl, g3, h3, G3, rfl⟩, ⟨hI.cur, b1, b2, hm, fun h => (by cases h), hrd, fun _ => blt_irr _⟩, Nat.le_refl _, hbl, ((((H2.pull (r := cmr G3 _ _ _ _ _) pU).pull (r := row 109 g3 _) pU).sep.pull (r := row 105 g0 _) pU).sep.pull (r := row 78 gx _) pU)⟩
            · refine (doYaNack_ok g0 gx cur slot j kind by_ pr b y d hd ga ha hI.sm hI.rd c h hm hw hrd b1 b2 p1 p2 hy1 hy2 hsl hj hj2 hc he hbl w HY).mono ?_
              rintro e1 w1 ⟨v, rfl, rfl, H2⟩
              exact ⟨_, rfl, rfl, cur, pr, true, y, d, hd, _, .inr ⟨rfl, ga, ha, G, rfl⟩, hI, Nat.le_refl _, blt_irr _, ((((H2.pull (r := cmr G _ _ _ _ _) pU).pull (r := row 109 ga _) pU).sep.pull (r := row 105 g0 _) pU).sep.pull (r := row 78 gx _) pU)⟩
          · refine (doYaErr_ok g0 gx cur slot j kind by_ pr b y d hd ga ha hI.sm hI.rd c h hm hw hrd b1 b2 p1 p2 hy1 hy2 hsl hj hj2 hc _ rfl he w HY).mono ?_
            rintro e1 w1 ⟨v, rfl, rfl, H2⟩
            exact ⟨_, rfl, rfl, cur, pr, true, y, d, hd, _, .inr ⟨rfl, ga, ha, G, rfl⟩, hI, Nat.le_refl _, blt_irr _, ((((H2.pull (r := cmr G _ _ _ _ _) pU).pull (r := row 109 ga _) pU).sep.pull (r := row 105 g0 _) pU).sep.pull (r := row 78 gx _) pU)⟩
        · refine (doYaErrC_ok g0 gx cur slot j kind by_ pr b y d hd ga ha hI.sm hI.rd c h hm hw hrd b1 b2 p1 p2 hy1 hy2 hsl hj hj2 hc w HY).mono ?_
          rintro e1 w1 ⟨v, rfl, rfl, H2⟩
          exact ⟨_, rfl, rfl, cur, pr, true, y, d, hd, _, .inr ⟨rfl, ga, ha, G, rfl⟩, hI, Nat.le_refl _, blt_irr _, ((((H2.pull (r := cmr G _ _ _ _ _) pU).pull (r := row 109 ga _) pU).sep.pull (r := row 105 g0 _) pU).sep.pull (r := row 78 gx _) pU)⟩
      · have hj5 : j = 5 := by omega
        by_cases hv : slot ≤ cur
        · refine (doYvNo_ok g0 gx cur slot j kind by_ pr b y d hd ga ha hI.sm hI.rd c h hm hw hrd b1 b2 p1 p2 hy1 hy2 hsl hj hj5 hv w HY).mono ?_
          rintro e1 w1 ⟨v, rfl, rfl, H2⟩
          exact ⟨_, rfl, rfl, cur, pr, true, y, d, hd, _, .inr ⟨rfl, ga, ha, G, rfl⟩, hI, Nat.le_refl _, blt_irr _, ((((H2.pull (r := cmr G _ _ _ _ _) pU).pull (r := row 109 ga _) pU).sep.pull (r := row 105 g0 _) pU).sep.pull (r := row 78 gx _) pU)⟩
        · refine (doYvYes_ok g0 gx cur slot j kind by_ pr b y d hd ga ha hI.sm hI.rd c h hm hw hrd b1 b2 p1 p2 hy1 hy2 hsl hj hj5 (by omega) w HY).mono ?_
          rintro e1 w1 ⟨v, rfl, rfl, H2⟩
          exact ⟨_, rfl, rfl, slot, pr, false, bl0, cm0, hd0, _, .inl ⟨rfl, rfl, rfl, rfl⟩, ⟨hslt, p1, p2, cm0_sm, fun _ => ⟨rfl, rfl, rfl⟩, cm0_rd, fun h => (by cases h)⟩, by omega, blt_irr _, H2⟩
/-! ### What is read -/
theorem aslotR_ok {B : Nat} {w0 : World} {L : List Res} (g0 cur : Nat) (pr : Bl) (hb : Bool) (y : Bl) (d : Cm) (R : Res) (hR : AccR g0 cur pr hb y d R) (w : World) (H : St B w0 w (R :: L)) :
    Calls Try.prog 38 #[.pointer (some ⟨g0, 0, none⟩)] w (Ret fun v w' => v = .int .u64 (cur : Int) ∧ St B w0 w' (R :: L)) := by
  rcases hR with ⟨rfl, rfl, rfl, rfl⟩ | ⟨rfl, ga, ha, G, rfl⟩
  · exact aslot_ok g0 cur pr none w H
  · refine (aslot_ok g0 cur pr (some ⟨ga, 0, none⟩) w H.part).mono ?_
    rintro e1 w1 ⟨v, rfl, rfl, H2⟩
    exact ⟨_, rfl, rfl, H2.sep⟩
theorem apromR_ok {B : Nat} {w0 : World} {L : List Res} (g0 cur : Nat) (pr : Bl) (hb : Bool) (y : Bl) (d : Cm) (R : Res) (hR : AccR g0 cur pr hb y d R) (w : World) (H : St B w0 w (R :: L)) :
    Calls Try.prog 39 #[.pointer (some ⟨g0, 0, none⟩)] w (Ret fun v w' => v = .agg (blC pr) ∧ St B w0 w' (R :: L)) := by
  rcases hR with ⟨rfl, rfl, rfl, rfl⟩ | ⟨rfl, ga, ha, G, rfl⟩
  · exact apromised_ok g0 cur pr none w H
  · refine (apromised_ok g0 cur pr (some ⟨ga, 0, none⟩) w H.part).mono ?_
    rintro e1 w1 ⟨v, rfl, rfl, H2⟩
    exact ⟨_, rfl, rfl, H2.sep⟩
theorem aaccR_ok {B : Nat} {w0 : World} {L : List Res} (g0 cur : Nat) (pr : Bl) (hb : Bool) (y : Bl) (d : Cm) (R : Res) (hm : smC d) (hR : AccR g0 cur pr hb y d R) (w : World) (H : St B w0 w (R :: L)) :
    Calls Try.prog 27 #[.pointer (some ⟨g0, 0, none⟩)] w (Ret fun v w' => ∃ (h : Hd) (G2 : Nat → Prop), v = .tuple #[.agg (blC y), .agg (cmH d h), .bool hb] ∧ St B w0 w' (R :: cmr G2 (.slice h.ba d.data.length h.bc) (.slice h.ma d.v.mem.length h.mc) (.slice h.la d.v.lvs.length h.lc) (.slice h.da d.v.ldr.length h.dc) d :: L)) := by
  rcases hR with ⟨rfl, rfl, rfl, rfl⟩ | ⟨rfl, ga, ha, G, rfl⟩
  · refine (aacced0_ok g0 cur pr w H).mono ?_
    rintro e1 w1 ⟨v, rfl, rfl, H2⟩
    exact ⟨_, rfl, hd0, fun _ => False, rfl, (St.emp (p := (cmr (fun _ => False) (.slice hd0.ba cm0.data.length hd0.bc) (.slice hd0.ma cm0.v.mem.length hd0.mc) (.slice hd0.la cm0.v.lvs.length hd0.lc) (.slice hd0.da cm0.v.ldr.length hd0.dc) cm0).2) (fun w => CmG.nil _ w 0) H2).swap⟩
  · refine (aacced1_ok (G := G) g0 cur pr y ga d ha.ba ha.ma ha.la ha.da ha.bc ha.mc ha.lc ha.dc hm w (((H.part.swap.part.pull (r := cmr G _ _ _ _ _) pU).pull (r := row 109 ga _) pU).pull (r := row 105 g0 _) pU)).mono ?_
    rintro e1 w1 ⟨v, rfl, h, G2, rfl, H2⟩
    exact ⟨_, rfl, h, G2, rfl, (((H2.pull (r := cmr G _ _ _ _ _) pU).pull (r := row 109 ga _) pU).sep.pull (r := row 105 g0 _) pU).sep⟩
end Go.Proofs.Ytmokecicjmjkbaa

namespace Go.Proofs.Ytmokecicjmjkbaa
open Go.ChangeShapes Go.WideShapes Go.ChangeAt Go.RowKit Go.Maps
set_option linter.unusedVariables false
set_option linter.unusedSimpArgs false
set_option maxRecDepth 100000
set_option maxHeartbeats 4000000
structure Ak where
  kind : Int
  by_ : Int
  b : Bl
  c : Cm
  h : Hd
def ak0 : Ak := ⟨0, 0, bl0, cm0, hd0⟩
abbrev akC (a : Ak) : Array Value := #[.int .i64 a.kind, .int .i8 a.by_, .int .u32 (a.b.r : Int), .int .u16 (a.b.w.1 : Int), .int .u32 (a.b.w.2 : Int), .int .i64 a.c.kind, .int .u16 (a.c.fr.1 : Int), .int .u32 (a.c.fr.2 : Int), .int .u64 (a.c.num : Int), .int .u64 (a.c.vw : Int), .slice a.h.ba a.c.data.length a.h.bc, .int .u64 (a.c.v.id : Int), .slice a.h.ma a.c.v.mem.length a.h.mc, .slice a.h.la a.c.v.lvs.length a.h.lc, .slice a.h.da a.c.v.ldr.length a.h.dc]
structure wfA (W : World) (a : Ak) : Prop where
  y1 : -128 ≤ a.by_
  y2 : a.by_ ≤ 127
  b1 : a.b.w.1 < 65536
  b2 : a.b.w.2 < 4294967296
  c : wfC a.c
  x : CmG (Old W) W (.slice a.h.ba a.c.data.length a.h.bc) (.slice a.h.ma a.c.v.mem.length a.h.mc) (.slice a.h.la a.c.v.lvs.length a.h.lc) (.slice a.h.da a.c.v.ldr.length a.h.dc) a.c
def elA (l : List Ak) (i : Nat) : Array Value := akC (l.getD i ak0)
section
variable {H : Type} {enc : TypeId × Value → H}
theorem cells_ak {fuel : Nat} {W : World} {cs : List Value} {y : DataW H × List MemPlace} (hf : DataW.trod enc Try.prog W 0 (fun _ => true) true fuel 82 cs = some y) :
    ∃ a : Ak, cs = (akC a).toList ∧ wfA W a := by
  obtain ⟨xs, n, _, _, hl, hx, hfl⟩ := DataW.trod_struct Try.underlying82 hf
  have hC82 : Try.prog.cellsOf 82 = 15 := by kernel_rfl
  have hC3 : Try.prog.cellsOf 3 = 1 := by kernel_rfl
  have hC80 : Try.prog.cellsOf 80 = 1 := by kernel_rfl
  have hC47 : Try.prog.cellsOf 47 = 3 := by kernel_rfl
  have hC36 : Try.prog.cellsOf 36 = 10 := by kernel_rfl
  rw [hC82] at hl
  match cs, hl with
  | [c0, c1, c2, c3, c4, c5, c6, c7, c8, c9, c10, c11, c12, c13, c14], _ =>
    match xs, hx with
    | [x0, x1, x2, x3], _ =>
      have h0 := hfl 0 _ rfl
      have h1 := hfl 1 _ rfl
      have h2 := hfl 2 _ rfl
      have h3 := hfl 3 _ rfl
      simp only [List.getElem_toArray, List.getElem_cons_zero, List.getElem_cons_succ, hC3, hC80, hC47, hC36, List.drop_zero, List.drop_succ_cons, List.take_succ_cons, List.take_zero, List.getElem?_cons_zero, List.getElem?_cons_succ] at h0 h1 h2 h3
      obtain ⟨k0, e0, _, w0⟩ := DataW.trod_int Try.underlying3 h0
      obtain ⟨k1, e1, _, w1⟩ := DataW.trod_int Try.underlying80 h1
      obtain ⟨b, e2, b0, b1, b2⟩ := cells_bl h2
      obtain ⟨c, ba, ma, la, da, bc, mc, lc, dc, e3, hw, hc⟩ := cells_cm h3
      have y1 := bounds_i8 w1
      simp only [blC, cmC, List.cons.injEq, and_true] at e0 e1 e2 e3
      obtain ⟨rfl, rfl, rfl⟩ := e2
      obtain ⟨rfl, rfl, rfl, rfl, rfl, rfl, rfl, rfl, rfl, rfl⟩ := e3
      subst e0 e1
      exact ⟨⟨k0, k1, b, c, ⟨ba, ma, la, da, bc, mc, lc, dc⟩⟩, rfl, ⟨by simp only; omega, by simp only; omega, b1, b2, hw, hc⟩⟩
/-- Acts that came in. -/
theorem open_aks {W : World} {base : Nat} {v : Value} {d : DataW H} {p : List MemPlace} (hv : Value.okWide Try.prog W .any base 74 v) (h : DataW.Trod enc Try.prog W 0 (fun _ => true) true 74 v d p) :
    ∃ (l : List Ak) (va : Option Addr) (vc : Nat), v = .slice va l.length vc ∧ Sl W 15 l.length (.slice va l.length vc) (elA l) ∧ ∀ a ∈ l, wfA W a := by
  obtain ⟨n, E, hs, hE⟩ := open_sl Try.underlying74 (by kernel_rfl : Try.prog.cellsOf 82 = 15) (by omega) hv h
  obtain ⟨l, rfl, hl⟩ := collect (fun i (a : Ak) => E i = akC a ∧ wfA W a) n (fun i hi => by
    obtain ⟨_, fuel, y, hf⟩ := hE i hi
    obtain ⟨a, e, hw⟩ := cells_ak hf
    exact ⟨a, Array.toList_inj.1 e, hw⟩)
  obtain ⟨va, vc, rfl, hm, hc⟩ := hs
  refine ⟨l, va, vc, rfl, ⟨va, vc, rfl, hm, fun h0 => ?_⟩, fun a ha => ?_⟩
  · obtain ⟨b, off, e, hb, hh⟩ := hc h0
    exact ⟨b, off, e, hb, fun i hi j hj => by rw [hh i hi j hj, (hl i hi).1]; unfold elA; rw [getD_at hi]⟩
  · obtain ⟨i, hi, rfl⟩ := List.getElem_of_mem ha
    exact (hl i hi).2
end
theorem any_take {α : Type} {l : List α} {p : α → Bool} {n k : Nat} (h : (l.take n).any p = false) (hk : k < l.length) (hn : k < n) : p l[k] = false := by
  rw [List.any_eq_false] at h
  have := h l[k] (List.mem_iff_getElem.2 ⟨k, by rw [List.length_take]; omega, by rw [List.getElem_take]⟩)
  simpa using this
theorem gC_sm {c : Cm} (h : gC c = false) : smC c := by
  unfold gC gV at h
  simp only [Bool.or_eq_false_iff, decide_eq_false_iff_not, List.any_eq_false] at h
  obtain ⟨h1, ⟨⟨h2, h3⟩, h4⟩, h5⟩ := h
  exact ⟨by omega, ⟨by omega, by omega, fun l hl => by have := h5 l hl; simp at this; omega, by omega⟩⟩
attribute [local irreducible] gC
theorem great20_is (va : Option Addr) (vc : Nat) (l : List Ak) (w : World) (hs : Sl w 15 l.length (.slice va l.length vc) (elA l)) (hx : ∀ a ∈ l, wfA w a) :
    Calls Try.prog 36 #[.slice va l.length vc] w (Ret fun v w' => v = .bool ((l.take 60).any fun a => gC a.c) ∧ Below w.heap.size w w') := by
  have H := St.init w
  obtain ⟨n, hn⟩ : ∃ n, l.length = n := ⟨_, rfl⟩
  have HN := Lib.hid hn
  have HXX := Lib.hid hx
  obtain ⟨_, _, _, hm, _⟩ := id hs
  unfold maxLen at hm
  rw [hn] at hs hm ⊢
  clear hn hx
  go_enter Try.func36, Try.ntmps36
  go_wp2_with (first | (with_reducible refine wpl rfl (Stp.ldr rfl agg36 size36 rfl H mR sZ ?_); simp only [pS]) | (with_reducible refine wpl rfl (Stp.ldl rfl agg36 size36 rfl H mR (by simp) ?_); simp only [pS]; simp only [List.drop_succ_cons, List.drop_zero, List.take_succ_cons, List.take_zero]) | (with_reducible refine wpl rfl (Stp.ldor rfl agg36 size36 rfl H (by assumption) sZ (by assumption) ?_); simp only [pS]))
  go_loopw [3] (fun i wr => ∃ k : Nat, k ≤ n ∧ k ≤ 60 ∧ i = .int .i64 k ∧ Hid ((l.take k).any (fun a => gC a.c) = false) ∧ St w.heap.size w wr []) (fun i _ => 60 - (intOf i).toNat)
  case atStart => exact ⟨0, Nat.zero_le _, Nat.zero_le _, rfl, Lib.hid (by simp), H⟩
  case round =>
    clear H
    obtain ⟨k, hk, hk60, rfl, HT, H⟩ := hrel
    by_cases hlt : k < n
    · have kli : (k : Int) < (n : Int) := by omega
      by_cases h60 : k < 60
      · have k60i : (k : Int) < 60 := by omega
        have hl1 : k < l.length := by rw [HN.out]; exact hlt
        obtain ⟨b1, o1, rfl, hb1⟩ := hs.addr (by omega)
        have hc1 := hs.cell hlt
        unfold elA at hc1
        rw [getD_at hl1] at hc1
        have hs1 := List.take_succ_eq_append_getElem hl1
        have hmm := List.getElem_mem hl1
        obtain ⟨a, ha⟩ : ∃ a, l[k] = a := ⟨_, rfl⟩
        rw [ha] at hc1 hs1 hmm
        have hcc : ∀ j, j < 10 → w.cell? ⟨b1, o1 + k * 15 + 5 + j, none⟩ = (cmH a.c a.h)[j]? := fun j hj => by
          have h5 := hc1 (5 + j) (by omega)
          rw [← Nat.add_assoc] at h5
          rw [h5]
          have hj' : j = 0 ∨ j = 1 ∨ j = 2 ∨ j = 3 ∨ j = 4 ∨ j = 5 ∨ j = 6 ∨ j = 7 ∨ j = 8 ∨ j = 9 := by omega
          rcases hj' with rfl | rfl | rfl | rfl | rfl | rfl | rfl | rfl | rfl | rfl <;> rfl
        have HX := Lib.hid (HXX.out a hmm).x
        have HS1 := Lib.hid hs1
        have HMM := Lib.hid hmm
        have HL1 := Lib.hid hl1
        simp only [cmH, cmC] at hcc
        clear hc1 hs1 ha
        cases he : gC a.c
        · have HE := Lib.hid he
          clear he hmm hl1
          go_wp2_with (first | (go_at_call 18; (with_reducible refine (rcgreat_is a.c a.h.ba a.h.ma a.h.la a.h.da a.h.bc a.h.mc a.h.lc a.h.dc _ _ HE.out (HX.out.grow H.below)).mono ?_); rintro e w1 ⟨v, rfl, hr⟩; obtain ⟨rfl, hb1⟩ := hr; replace H := H.grow hb1; clear hb1) | (with_reducible refine wpl rfl (Stp.ldr rfl agg36 size36 rfl H mR sZ ?_); simp only [pS]) | (with_reducible refine wpl rfl (Stp.ldl rfl agg36 size36 rfl H mR (by simp) ?_); simp only [pS]; simp only [List.drop_succ_cons, List.drop_zero, List.take_succ_cons, List.take_zero]) | (with_reducible refine wpl rfl (Stp.ldor rfl agg36 size36 rfl H (by assumption) sZ (by assumption) ?_); simp only [pS]))
          go_roundw
          case rel => exact ⟨k + 1, by omega, by omega, by go_num, Lib.hid (by rw [HS1.out, List.any_append, HT.out]; simp [HE.out]), H⟩
          case measure => simp [intOf]; omega
        · have HE := Lib.hid he
          have HV : Hid ((l.take 60).any (fun a => gC a.c) = true) := Lib.hid (List.any_eq_true.2 ⟨a, (by
            have h2 : a ∈ l.take (k + 1) := by rw [HS1.out]; simp
            exact List.take_subset_take_left l (show k + 1 ≤ 60 by omega) h2), HE.out⟩)
          clear he hmm hl1
          go_wp2_with (first | (go_at_call 18; (with_reducible refine (rcgreat_is a.c a.h.ba a.h.ma a.h.la a.h.da a.h.bc a.h.mc a.h.lc a.h.dc _ _ HE.out (HX.out.grow H.below)).mono ?_); rintro e w1 ⟨v, rfl, hr⟩; obtain ⟨rfl, hb1⟩ := hr; replace H := H.grow hb1; clear hb1) | (with_reducible refine wpl rfl (Stp.ldr rfl agg36 size36 rfl H mR sZ ?_); simp only [pS]) | (with_reducible refine wpl rfl (Stp.ldl rfl agg36 size36 rfl H mR (by simp) ?_); simp only [pS]; simp only [List.drop_succ_cons, List.drop_zero, List.take_succ_cons, List.take_zero]) | (with_reducible refine wpl rfl (Stp.ldor rfl agg36 size36 rfl H (by assumption) sZ (by assumption) ?_); simp only [pS]))
          go_ret
          exact ⟨_, rfl, by rw [HV.out]; rfl, H.below⟩
      · obtain rfl : k = 60 := by omega
        have k60i : ¬ ((60 : Nat) : Int) < 60 := by omega
        go_wp2_with (first | (with_reducible refine wpl rfl (Stp.ldr rfl agg36 size36 rfl H mR sZ ?_); simp only [pS]) | (with_reducible refine wpl rfl (Stp.ldl rfl agg36 size36 rfl H mR (by simp) ?_); simp only [pS]; simp only [List.drop_succ_cons, List.drop_zero, List.take_succ_cons, List.take_zero]) | (with_reducible refine wpl rfl (Stp.ldor rfl agg36 size36 rfl H (by assumption) sZ (by assumption) ?_); simp only [pS]))
        go_ret
        exact ⟨_, rfl, by rw [HT.out]; rfl, H.below⟩
    · obtain rfl : k = n := by omega
      have HV : Hid ((l.take 60).any (fun a => gC a.c) = false) := Lib.hid (by
        have := HT.out
        rw [List.take_of_length_le (by rw [HN.out]; omega)] at this ⊢
        exact this)
      go_wp2_with (first | (with_reducible refine wpl rfl (Stp.ldr rfl agg36 size36 rfl H mR sZ ?_); simp only [pS]) | (with_reducible refine wpl rfl (Stp.ldl rfl agg36 size36 rfl H mR (by simp) ?_); simp only [pS]; simp only [List.drop_succ_cons, List.drop_zero, List.take_succ_cons, List.take_zero]) | (with_reducible refine wpl rfl (Stp.ldor rfl agg36 size36 rfl H (by assumption) sZ (by assumption) ?_); simp only [pS]))
      go_ret
      exact ⟨_, rfl, by rw [HV.out]; rfl, H.below⟩
theorem great20_n (va : Option Addr) (vc : Nat) (l : List Ak) (n : Nat) (hn : l.length = n) (w : World) (hs : Sl w 15 n (.slice va n vc) (elA l)) (hx : ∀ a ∈ l, wfA w a) :
    Calls Try.prog 36 #[.slice va n vc] w (Ret fun v w' => v = .bool ((l.take 60).any fun a => gC a.c) ∧ Below w.heap.size w w') := by
  subst hn; exact great20_is va vc l w hs hx
end Go.Proofs.Ytmokecicjmjkbaa

namespace Go.Proofs.Ytmokecicjmjkbaa
open Go.ChangeShapes Go.WideShapes Go.ChangeAt Go.RowKit Go.Maps
set_option linter.unusedVariables false
set_option linter.unusedSimpArgs false
set_option maxRecDepth 100000
set_option maxHeartbeats 8000000
theorem wfA.grow {w w' : World} {a : Ak} (h : wfA w a) (hb : Below w.heap.size w w') : wfA w' a := ⟨h.y1, h.y2, h.b1, h.b2, h.c, (h.x.grow hb).mono (fun g hg => Nat.lt_of_lt_of_le hg hb.size)⟩
theorem AInv.begin {B : Nat} {w0 : World} {G1 : Nat → Prop} (slot : Nat) (h : slot < 18446744073709551616) : AInv B w0 G1 slot bl0 false bl0 cm0 hd0 :=
  ⟨h, (by show (0 : Nat) < 65536; decide), (by show (0 : Nat) < 4294967296; decide), cm0_sm, fun _ => ⟨rfl, rfl, rfl⟩, cm0_rd, fun h => by cases h⟩
attribute [local go_sem] eqBT_self eqg_BT
attribute [local irreducible] gC
theorem law_aplays (slot : Nat) (hslt : slot < 18446744073709551616) (va : Option Addr) (vc : Nat) (l : List Ak) (w : World) (hs : Sl w 15 l.length (.slice va l.length vc) (elA l)) (hx : ∀ a ∈ l, wfA w a) :
    Calls Try.prog 8 #[.int .u64 (slot : Int), .slice va l.length vc] w (Ret fun v w' => v = .bool true ∧ Below w.heap.size w w') := by
  have H := St.init w
  have HXX := Lib.hid hx
  clear hx
  obtain ⟨e, he⟩ : ∃ e, ((l.take 60).any fun a => gC a.c) = e := ⟨_, rfl⟩
  have HE := Lib.hid he
  obtain ⟨n, hn⟩ : ∃ n, l.length = n := ⟨_, rfl⟩
  have HN := Lib.hid hn
  have hs0 := hs
  rw [hn] at hs0 ⊢
  clear hs hn
  cases e
  · obtain ⟨_, _, _, hm, _⟩ := id hs0
    unfold maxLen at hm
    clear he
    go_enter Try.func8, Try.ntmps8
    go_wp2_with (first | (go_at_call 36; (with_reducible refine (great20_n va vc l n HN.out _ (hs0.grow H.below) (fun a ha => (HXX.out a ha).grow H.below)).mono ?_); rintro e w1 ⟨v, rfl, hr⟩; obtain ⟨rfl, hb1⟩ := hr; replace H := H.grow hb1; clear hb1; rw [HE.out]) | (go_at_call 20; (with_reducible refine (anew_ok slot _ H).mono ?_); rintro e w1 ⟨v, rfl, hr⟩; obtain ⟨g0, rfl, H2⟩ := hr; clear H; have H := H2; clear H2) | (with_reducible refine wpl rfl (Stp.build (v := (.agg #[.int .u64 (slot : Int), .int .u32 0, .int .u16 0, .int .u32 0, .bool false, .int .u32 0, .int .u16 0, .int .u32 0, .int .i64 0, .int .u16 0, .int .u32 0, .int .u64 0, .int .u64 0, .slice none 0 0, .int .u64 0, .slice none 0 0, .slice none 0 0, .slice none 0 0])) 17 rfl rfl (fun W => by kernel_rfl) ?_); simp only [pS]) | (with_reducible refine wpl rfl (Stp.box 18 rfl rfl rfl H ?_); clear H; intro g18 w1 H; simp only [pS]; simp only [pE, nC, pS] at H) | (with_reducible refine wpl rfl (Stp.alloc 8 rfl rfl zero47 H ?_); clear H; intro g8 w1 H; simp only [pS]; simp only [nC] at H) | (with_reducible refine wpl rfl (Stp.alloc 9 rfl rfl zero36 H ?_); clear H; intro g9 w1 H; simp only [pS]; simp only [nC] at H) | (with_reducible refine wpl rfl (Stp.str rfl size47 rfl rfl (by first | rfl | (simp [Value.oneCell']; done) | assumption) H uP sZ sZ ?_); clear H; intro w1 H; simp only [pS]) | (with_reducible refine wpl rfl (Stp.stl rfl size47 rfl rfl rfl rfl H uP (by simp) ?_); clear H; intro w1 H; simp only [pS]; simp only [List.drop_succ_cons, List.drop_zero, List.take_succ_cons, List.take_zero, List.nil_append, List.cons_append, Nat.reduceAdd] at H) | (with_reducible refine wpl rfl (Stp.str rfl size36 rfl rfl (by first | rfl | (simp [Value.oneCell']; done) | assumption) H uP sZ sZ ?_); clear H; intro w1 H; simp only [pS]) | (with_reducible refine wpl rfl (Stp.stl rfl size36 rfl rfl rfl rfl H uP (by simp) ?_); clear H; intro w1 H; simp only [pS]; simp only [List.drop_succ_cons, List.drop_zero, List.take_succ_cons, List.take_zero, List.nil_append, List.cons_append, Nat.reduceAdd] at H))
    have HA0 : Hid (AccR g0 slot bl0 false bl0 cm0 (row 105 g0 #[.int .u64 (slot : Int), .int .u32 0, .int .u16 0, .int .u32 0, .pointer none])) := Lib.hid (.inl ⟨rfl, rfl, rfl, rfl⟩)
    have HI0 : Hid (AInv w.heap.size w (Old w) slot bl0 false bl0 cm0 hd0) := Lib.hid (AInv.begin slot hslt)
    go_loopw [7] (fun i wr => ∃ (q cur1 : Nat) (pr1 : Bl) (hb1 : Bool) (y1 : Bl) (d1 : Cm) (hd1 : Hd) (R1 : Res), q ≤ n ∧ q ≤ 60 ∧ i = .int .i64 (q : Int) ∧ Hid (AccR g0 cur1 pr1 hb1 y1 d1 R1) ∧ Hid (AInv w.heap.size w (Old w) cur1 pr1 hb1 y1 d1 hd1) ∧ St w.heap.size w wr (row 78 g18 #[.int .u64 (cur1 : Int), .int .u32 (pr1.r : Int), .int .u16 (pr1.w.1 : Int), .int .u32 (pr1.w.2 : Int), .bool hb1, .int .u32 (y1.r : Int), .int .u16 (y1.w.1 : Int), .int .u32 (y1.w.2 : Int), .int .i64 d1.kind, .int .u16 (d1.fr.1 : Int), .int .u32 (d1.fr.2 : Int), .int .u64 (d1.num : Int), .int .u64 (d1.vw : Int), .slice hd1.ba d1.data.length hd1.bc, .int .u64 (d1.v.id : Int), .slice hd1.ma d1.v.mem.length hd1.mc, .slice hd1.la d1.v.lvs.length hd1.lc, .slice hd1.da d1.v.ldr.length hd1.dc] :: R1 :: [])) (fun i _ => 60 - (intOf i).toNat)
    case atStart => exact ⟨0, slot, bl0, false, bl0, cm0, hd0, _, Nat.zero_le _, Nat.zero_le _, rfl, HA0, HI0, H⟩
    case round =>
      clear H HA0 HI0
      obtain ⟨q, cur1, pr1, hb1, y1, d1, hd1, R1, hq, hq60, rfl, HR, HI, H⟩ := hrel
      by_cases hlt : q < n
      · have qli : (q : Int) < (n : Int) := by omega
        by_cases h60 : q < 60
        · have q60i : (q : Int) < 60 := by omega
          have hl1 : q < l.length := by rw [HN.out]; exact hlt
          obtain ⟨b1, o1, rfl, hbl1⟩ := hs0.addr (by omega)
          have hc1 := hs0.cell hlt
          unfold elA at hc1
          rw [getD_at hl1] at hc1
          have hmm := List.getElem_mem hl1
          have hgs := any_take HE.out hl1 h60
          obtain ⟨a, ha⟩ : ∃ a, l[q] = a := ⟨_, rfl⟩
          rw [ha] at hc1 hmm hgs
          have HXA := Lib.hid (HXX.out a hmm)
          have HSM := Lib.hid (gC_sm hgs)
          simp only [akC] at hc1
          clear hgs hmm ha hl1
          go_wp2_with (first | (with_reducible refine wpl rfl (Stp.box 18 rfl rfl rfl H ?_); clear H; intro g18 w1 H; simp only [pS]; simp only [pE, nC, pS] at H) | (with_reducible refine wpl rfl (Stp.alloc 8 rfl rfl zero47 H ?_); clear H; intro g8 w1 H; simp only [pS]; simp only [nC] at H) | (with_reducible refine wpl rfl (Stp.alloc 9 rfl rfl zero36 H ?_); clear H; intro g9 w1 H; simp only [pS]; simp only [nC] at H) | (with_reducible refine wpl rfl (Stp.str rfl size47 rfl rfl (by first | rfl | (simp [Value.oneCell']; done) | assumption) H uP sZ sZ ?_); clear H; intro w1 H; simp only [pS]) | (with_reducible refine wpl rfl (Stp.stl rfl size47 rfl rfl rfl rfl H uP (by simp) ?_); clear H; intro w1 H; simp only [pS]; simp only [List.drop_succ_cons, List.drop_zero, List.take_succ_cons, List.take_zero, List.nil_append, List.cons_append, Nat.reduceAdd] at H) | (with_reducible refine wpl rfl (Stp.str rfl size36 rfl rfl (by first | rfl | (simp [Value.oneCell']; done) | assumption) H uP sZ sZ ?_); clear H; intro w1 H; simp only [pS]) | (with_reducible refine wpl rfl (Stp.stl rfl size36 rfl rfl rfl rfl H uP (by simp) ?_); clear H; intro w1 H; simp only [pS]; simp only [List.drop_succ_cons, List.drop_zero, List.take_succ_cons, List.take_zero, List.nil_append, List.cons_append, Nat.reduceAdd] at H))
          refine rg_begin 26 rfl (S := fun W => St _ _ W []) (by kernel_rfl) (H.drew.sub sU) ?_
          replace H := H.drew
          have HS := H
          refine rg_take (i := 0) rfl kR kR kR (Yld.move rfl rfl) (H.sub sU) ?_; simp only [pS, pE]
          refine rg_take (i := 1) rfl kR kR kR (Yld.move rfl rfl) (H.sub sU) ?_; simp only [pS, pE]
          refine rg_take (i := 2) rfl kR kR kR (Yld.move rfl rfl) (H.sub sU) ?_; simp only [pS, pE]
          refine rg_take (i := 3) rfl kR kR kR (Yld.move rfl rfl) (H.sub sU) ?_; simp only [pS, pE]
          refine rg_take (i := 4) rfl kR kR kR (Yld.o rfl) (H.sub sU) ?_; simp only [pS]
          first | (refine rg_take (i := 5) rfl kR kR kR (Yld.ldr rfl rfl agg82 size82 rfl mR sZ) (H.sub sU) ?_; simp only [pS]) | (refine rg_take (i := 5) rfl kR kR kR (Yld.ldl rfl rfl agg82 size82 rfl mR (by simp)) (H.sub sU) ?_; simp only [pS]; simp only [List.drop_succ_cons, List.drop_zero, List.take_succ_cons, List.take_zero]) | (refine rg_take (i := 5) rfl kR kR kR (Yld.ldor rfl rfl agg82 size82 rfl (by assumption) sZ (by assumption)) (H.sub sU) ?_; simp only [pS])
          refine rg_one (i := 6) (by kernel_rfl) rfl rfl (fun K hK => ?_)
          refine wp_callf rfl ent37 (do20_ok g0 g18 cur1 a.kind a.by_ pr1 a.b y1 hb1 d1 hd1 R1 a.c a.h HSM.out (HXA.out).c (fun W hW _ => (HXA.out).x.grow hW) (HXA.out).b1 (HXA.out).b2 (HXA.out).y1 (HXA.out).y2 HR.out HI.out _ H) rfl (fun v w1 hr => ?_)
          obtain ⟨rfl, cur2, pr2, hb2, y2, d2, hd2, R2, hR2, hI2, hle, hpr, H2⟩ := hr
          clear H
          have H := H2
          have HR2 := Lib.hid hR2
          have HI2 := Lib.hid hI2
          clear H2 hR2 hI2 hle hpr
          clear HS
          have HS := H
          refine hK.out _ _ (H.sub sU) ?_
          clear hK K
          simp only [pS]
          refine rg_on (fun W => St w.heap.size w W (row 78 g18 #[.int .u64 (cur2 : Int), .int .u32 (pr2.r : Int), .int .u16 (pr2.w.1 : Int), .int .u32 (pr2.w.2 : Int), .bool hb2, .int .u32 (y2.r : Int), .int .u16 (y2.w.1 : Int), .int .u32 (y2.w.2 : Int), .int .i64 d2.kind, .int .u16 (d2.fr.1 : Int), .int .u32 (d2.fr.2 : Int), .int .u64 (d2.num : Int), .int .u64 (d2.vw : Int), .slice hd2.ba d2.data.length hd2.bc, .int .u64 (d2.v.id : Int), .slice hd2.ma d2.v.mem.length hd2.mc, .slice hd2.la d2.v.lvs.length hd2.lc, .slice hd2.da d2.v.ldr.length hd2.dc] :: R2 :: [])) (fun _ h => h.sub sU) ?_
          refine rg_take (i := 7) rfl kR kR kR (Yld.o rfl) (H.sub sU) ?_; simp only [pS]
          refine rg_take (i := 8) rfl kR kR kR (Yld.move rfl rfl) (H.sub sU) ?_; simp only [pS, pE]
          refine rg_take (i := 9) rfl kR kR kR (Yld.move rfl rfl) (H.sub sU) ?_; simp only [pS, pE]
          refine rg_take (i := 11) rfl kR kR kR (Yld.move rfl rfl) (H.sub sU) ?_; simp only [pS, pE]
          refine rg_take (i := 12) rfl kR kR kR (Yld.o rfl) (H.sub sU) ?_; simp only [pS]
          refine rg_take (i := 13) rfl kR kR kR (Yld.o rfl) (H.sub sU) ?_; simp only [pS]
          first | (refine rg_take (i := 14) rfl kR kR kR (Yld.ldc rfl rfl agg26 rfl mR cE) (H.sub sU) ?_; simp only [pS]) | (refine rg_take (i := 14) rfl kR kR kR (Yld.ldo rfl rfl agg26 rfl (by assumption) (by assumption)) (H.sub sU) ?_; simp only [pS])
          refine rg_one (i := 10) (by kernel_rfl) rfl rfl (fun K hK => ?_)
          refine wp_callf rfl ent38 (aslotR_ok g0 cur2 pr2 hb2 y2 d2 R2 HR2.out _ H.swap) rfl (fun v w1 hr => ?_)
          obtain ⟨rfl, H2⟩ := hr
          clear H
          have H := H2.swap
          clear H2
          clear HS
          have HS := H
          refine hK.out _ _ (H.sub sU) ?_
          clear hK K
          simp only [pS]
          refine rg_take (i := 15) rfl kR kR kR (Yld.o rfl) (H.sub sU) ?_; simp only [pS]
          refine rg_take (i := 16) rfl kR kR kR (Yld.pick rfl rfl rfl) (H.sub sU) ?_; simp only [pS, pE]
          refine rg_take (i := 17) rfl kR kR kR (Yld.move rfl rfl) (H.sub sU) ?_; simp only [pS, pE]
          refine rg_take (i := 18) rfl kR kR kR (Yld.move rfl rfl) (H.sub sU) ?_; simp only [pS, pE]
          refine rg_take (i := 20) rfl kR kR kR (Yld.move rfl rfl) (H.sub sU) ?_; simp only [pS, pE]
          refine rg_take (i := 21) rfl kR kR kR (Yld.o rfl) (H.sub sU) ?_; simp only [pS]
          refine rg_take (i := 22) rfl kR kR kR (Yld.o rfl) (H.sub sU) ?_; simp only [pS]
          first | (refine rg_take (i := 23) rfl kR kR kR (Yld.ldr rfl rfl agg47 size47 rfl mR sZ) (H.sub sU) ?_; simp only [pS]) | (refine rg_take (i := 23) rfl kR kR kR (Yld.ldl rfl rfl agg47 size47 rfl mR (by simp)) (H.sub sU) ?_; simp only [pS]; simp only [List.drop_succ_cons, List.drop_zero, List.take_succ_cons, List.take_zero]) | (refine rg_take (i := 23) rfl kR kR kR (Yld.ldor rfl rfl agg47 size47 rfl (by assumption) sZ (by assumption)) (H.sub sU) ?_; simp only [pS])
          refine rg_one (i := 19) (by kernel_rfl) rfl rfl (fun K hK => ?_)
          refine wp_callf rfl ent39 (apromR_ok g0 cur2 pr2 hb2 y2 d2 R2 HR2.out _ H.swap) rfl (fun v w1 hr => ?_)
          obtain ⟨rfl, H2⟩ := hr
          clear H
          have H := H2.swap
          clear H2
          clear HS
          have HS := H
          refine hK.out _ _ (H.sub sU) ?_
          clear hK K
          simp only [pS]
          refine rg_take (i := 24) rfl kR kR kR (Yld.o rfl) (H.sub sU) ?_; simp only [pS]
          refine rg_take (i := 25) rfl kR kR kR (Yld.pick rfl rfl rfl) (H.sub sU) ?_; simp only [pS, pE]
          refine rg_done (by kernel_rfl) ?_
          have HSM2 := Lib.hid HI2.out.sm
          go_wp2_with (first | (go_at_call 27; (with_reducible refine (aaccR_ok g0 cur2 pr2 hb2 y2 d2 R2 HSM2.out HR2.out _ H.swap).mono ?_); rintro e w1 ⟨v, rfl, hr⟩; obtain ⟨h3, G3, rfl, H2⟩ := hr; clear H; have H := H2; clear H2; simp only [blC, cmH, cmC]) | (with_reducible refine wpl rfl (Stp.box 18 rfl rfl rfl H ?_); clear H; intro g18 w1 H; simp only [pS]; simp only [pE, nC, pS] at H) | (with_reducible refine wpl rfl (Stp.alloc 8 rfl rfl zero47 H ?_); clear H; intro g8 w1 H; simp only [pS]; simp only [nC] at H) | (with_reducible refine wpl rfl (Stp.alloc 9 rfl rfl zero36 H ?_); clear H; intro g9 w1 H; simp only [pS]; simp only [nC] at H) | (with_reducible refine wpl rfl (Stp.str rfl size47 rfl rfl (by first | rfl | (simp [Value.oneCell']; done) | assumption) H uP sZ sZ ?_); clear H; intro w1 H; simp only [pS]) | (with_reducible refine wpl rfl (Stp.stl rfl size47 rfl rfl rfl rfl H uP (by simp) ?_); clear H; intro w1 H; simp only [pS]; simp only [List.drop_succ_cons, List.drop_zero, List.take_succ_cons, List.take_zero, List.nil_append, List.cons_append, Nat.reduceAdd] at H) | (with_reducible refine wpl rfl (Stp.str rfl size36 rfl rfl (by first | rfl | (simp [Value.oneCell']; done) | assumption) H uP sZ sZ ?_); clear H; intro w1 H; simp only [pS]) | (with_reducible refine wpl rfl (Stp.stl rfl size36 rfl rfl rfl rfl H uP (by simp) ?_); clear H; intro w1 H; simp only [pS]; simp only [List.drop_succ_cons, List.drop_zero, List.take_succ_cons, List.take_zero, List.nil_append, List.cons_append, Nat.reduceAdd] at H))
          refine rg_begin 23 rfl (S := fun W => St _ _ W _) (by kernel_rfl) H.drew ?_
          replace H := H.drew
          have HS := H
          refine rg_take (i := 0) rfl kR kR kR (Yld.move rfl rfl) (H.sub sU) ?_; simp only [pS, pE]
          refine rg_take (i := 1) rfl kR kR kR (Yld.move rfl rfl) (H.sub sU) ?_; simp only [pS, pE]
          refine rg_take (i := 2) rfl kR kR kR (Yld.o rfl) (H.sub sU) ?_; simp only [pS]
          refine rg_take (i := 3) rfl kR kR kR (Yld.o rfl) (H.sub sU) ?_; simp only [pS]
          first | (refine rg_take (i := 4) rfl kR kR kR (Yld.ldc rfl rfl agg4 rfl mR cE) (H.sub sU) ?_; simp only [pS]) | (refine rg_take (i := 4) rfl kR kR kR (Yld.ldo rfl rfl agg4 rfl (by assumption) (by assumption)) (H.sub sU) ?_; simp only [pS])
          refine rg_take (i := 5) rfl kR kR kR (Yld.o rfl) (H.sub sU) ?_; simp only [pS]
          refine rg_take (i := 6) rfl kR kR kR (Yld.move rfl rfl) (H.sub sU) ?_; simp only [pS, pE]
          first | (refine rg_take (i := 7) rfl kR kR kR (Yld.ldr rfl rfl agg47 size47 rfl mR sZ) (H.sub sU) ?_; simp only [pS]) | (refine rg_take (i := 7) rfl kR kR kR (Yld.ldl rfl rfl agg47 size47 rfl mR (by simp)) (H.sub sU) ?_; simp only [pS]; simp only [List.drop_succ_cons, List.drop_zero, List.take_succ_cons, List.take_zero]) | (refine rg_take (i := 7) rfl kR kR kR (Yld.ldor rfl rfl agg47 size47 rfl (by assumption) sZ (by assumption)) (H.sub sU) ?_; simp only [pS])
          refine rg_take (i := 8) rfl kR kR kR (Yld.move rfl rfl) (H.sub sU) ?_; simp only [pS, pE]
          refine rg_take (i := 9) rfl kR kR kR (Yld.o rfl) (H.sub sU) ?_; simp only [pS]
          refine rg_take (i := 10) rfl kR kR kR (Yld.o rfl) (H.sub sU) ?_; simp only [pS]
          first | (refine rg_take (i := 11) rfl kR kR kR (Yld.ldr rfl rfl agg47 size47 rfl mR sZ) (H.sub sU) ?_; simp only [pS]) | (refine rg_take (i := 11) rfl kR kR kR (Yld.ldl rfl rfl agg47 size47 rfl mR (by simp)) (H.sub sU) ?_; simp only [pS]; simp only [List.drop_succ_cons, List.drop_zero, List.take_succ_cons, List.take_zero]) | (refine rg_take (i := 11) rfl kR kR kR (Yld.ldor rfl rfl agg47 size47 rfl (by assumption) sZ (by assumption)) (H.sub sU) ?_; simp only [pS])
          refine rg_take (i := 12) rfl kR kR kR (Yld.o rfl) (H.sub sU) ?_; simp only [pS]
          refine rg_take (i := 13) rfl kR kR kR (Yld.pick rfl rfl rfl) (H.sub sU) ?_; simp only [pS, pE]
          refine rg_take (i := 14) rfl kR kR kR (Yld.move rfl rfl) (H.sub sU) ?_; simp only [pS, pE]
          first | (refine rg_take (i := 15) rfl kR kR kR (Yld.ldr rfl rfl agg36 size36 rfl mR sZ) (H.sub sU) ?_; simp only [pS]) | (refine rg_take (i := 15) rfl kR kR kR (Yld.ldl rfl rfl agg36 size36 rfl mR (by simp)) (H.sub sU) ?_; simp only [pS]; simp only [List.drop_succ_cons, List.drop_zero, List.take_succ_cons, List.take_zero]) | (refine rg_take (i := 15) rfl kR kR kR (Yld.ldor rfl rfl agg36 size36 rfl (by assumption) sZ (by assumption)) (H.sub sU) ?_; simp only [pS])
          refine rg_take (i := 16) rfl kR kR kR (Yld.move rfl rfl) (H.sub sU) ?_; simp only [pS, pE]
          refine rg_take (i := 17) rfl kR kR kR (Yld.o rfl) (H.sub sU) ?_; simp only [pS]
          refine rg_take (i := 18) rfl kR kR kR (Yld.o rfl) (H.sub sU) ?_; simp only [pS]
          first | (refine rg_take (i := 19) rfl kR kR kR (Yld.ldr rfl rfl agg36 size36 rfl mR sZ) (H.sub sU) ?_; simp only [pS]) | (refine rg_take (i := 19) rfl kR kR kR (Yld.ldl rfl rfl agg36 size36 rfl mR (by simp)) (H.sub sU) ?_; simp only [pS]; simp only [List.drop_succ_cons, List.drop_zero, List.take_succ_cons, List.take_zero]) | (refine rg_take (i := 19) rfl kR kR kR (Yld.ldor rfl rfl agg36 size36 rfl (by assumption) sZ (by assumption)) (H.sub sU) ?_; simp only [pS])
          refine rg_one (i := 20) (by kernel_rfl) rfl rfl (fun K hK => ?_)
          refine wp_callf rfl ent26 (rcsame_is d2 d2 _ _ _ _ _ _ _ _ _ _ _ _ _ _ _ _ _ true (cSame_iff.2 rfl) (H.getCm (G := G3) mE) (HI2.out.rd.at H (List.nil_sublist _))) rfl (fun v w1 hr => ?_)
          obtain ⟨rfl, hb1⟩ := hr
          replace H := H.grow hb1
          clear hb1
          clear HS
          have HS := H
          refine hK.out _ _ (H.sub sU) ?_
          clear hK K
          simp only [pS]
          refine rg_take (i := 21) rfl kR kR kR (Yld.o rfl) (H.sub sU) ?_; simp only [pS]
          refine rg_take (i := 22) rfl kR kR kR (Yld.pick rfl rfl rfl) (H.sub sU) ?_; simp only [pS, pE]
          refine rg_done (by kernel_rfl) ?_
          go_wp2_with (first | (with_reducible refine wpl rfl (Stp.box 18 rfl rfl rfl H ?_); clear H; intro g18 w1 H; simp only [pS]; simp only [pE, nC, pS] at H) | (with_reducible refine wpl rfl (Stp.alloc 8 rfl rfl zero47 H ?_); clear H; intro g8 w1 H; simp only [pS]; simp only [nC] at H) | (with_reducible refine wpl rfl (Stp.alloc 9 rfl rfl zero36 H ?_); clear H; intro g9 w1 H; simp only [pS]; simp only [nC] at H) | (with_reducible refine wpl rfl (Stp.str rfl size47 rfl rfl (by first | rfl | (simp [Value.oneCell']; done) | assumption) H uP sZ sZ ?_); clear H; intro w1 H; simp only [pS]) | (with_reducible refine wpl rfl (Stp.stl rfl size47 rfl rfl rfl rfl H uP (by simp) ?_); clear H; intro w1 H; simp only [pS]; simp only [List.drop_succ_cons, List.drop_zero, List.take_succ_cons, List.take_zero, List.nil_append, List.cons_append, Nat.reduceAdd] at H) | (with_reducible refine wpl rfl (Stp.str rfl size36 rfl rfl (by first | rfl | (simp [Value.oneCell']; done) | assumption) H uP sZ sZ ?_); clear H; intro w1 H; simp only [pS]) | (with_reducible refine wpl rfl (Stp.stl rfl size36 rfl rfl rfl rfl H uP (by simp) ?_); clear H; intro w1 H; simp only [pS]; simp only [List.drop_succ_cons, List.drop_zero, List.take_succ_cons, List.take_zero, List.nil_append, List.cons_append, Nat.reduceAdd] at H))
          go_roundw
          case rel => exact ⟨q + 1, cur2, pr2, hb2, y2, d2, hd2, R2, by omega, by omega, by go_num, HR2, HI2, ((H.pull (r := R2) pU).pull (r := row 78 g18 _) pU).sub sU⟩
          case measure => simp [intOf]; omega
        · have q60i : ¬ (q : Int) < 60 := by omega
          go_wp2_with (first | (go_at_call 19; (with_reducible refine (aw20_ok _).mono ?_); rintro e w1 ⟨v, rfl, hr⟩; obtain ⟨rfl, hb1⟩ := hr; replace H := H.grow hb1; clear hb1) | (with_reducible refine wpl rfl (Stp.box 18 rfl rfl rfl H ?_); clear H; intro g18 w1 H; simp only [pS]; simp only [pE, nC, pS] at H) | (with_reducible refine wpl rfl (Stp.alloc 8 rfl rfl zero47 H ?_); clear H; intro g8 w1 H; simp only [pS]; simp only [nC] at H) | (with_reducible refine wpl rfl (Stp.alloc 9 rfl rfl zero36 H ?_); clear H; intro g9 w1 H; simp only [pS]; simp only [nC] at H) | (with_reducible refine wpl rfl (Stp.str rfl size47 rfl rfl (by first | rfl | (simp [Value.oneCell']; done) | assumption) H uP sZ sZ ?_); clear H; intro w1 H; simp only [pS]) | (with_reducible refine wpl rfl (Stp.stl rfl size47 rfl rfl rfl rfl H uP (by simp) ?_); clear H; intro w1 H; simp only [pS]; simp only [List.drop_succ_cons, List.drop_zero, List.take_succ_cons, List.take_zero, List.nil_append, List.cons_append, Nat.reduceAdd] at H) | (with_reducible refine wpl rfl (Stp.str rfl size36 rfl rfl (by first | rfl | (simp [Value.oneCell']; done) | assumption) H uP sZ sZ ?_); clear H; intro w1 H; simp only [pS]) | (with_reducible refine wpl rfl (Stp.stl rfl size36 rfl rfl rfl rfl H uP (by simp) ?_); clear H; intro w1 H; simp only [pS]; simp only [List.drop_succ_cons, List.drop_zero, List.take_succ_cons, List.take_zero, List.nil_append, List.cons_append, Nat.reduceAdd] at H))
          go_ret
          exact ⟨_, rfl, rfl, H.below⟩
      · have qli : ¬ (q : Int) < (n : Int) := by omega
        go_wp2_with (first | (go_at_call 19; (with_reducible refine (aw20_ok _).mono ?_); rintro e w1 ⟨v, rfl, hr⟩; obtain ⟨rfl, hb1⟩ := hr; replace H := H.grow hb1; clear hb1) | (with_reducible refine wpl rfl (Stp.box 18 rfl rfl rfl H ?_); clear H; intro g18 w1 H; simp only [pS]; simp only [pE, nC, pS] at H) | (with_reducible refine wpl rfl (Stp.alloc 8 rfl rfl zero47 H ?_); clear H; intro g8 w1 H; simp only [pS]; simp only [nC] at H) | (with_reducible refine wpl rfl (Stp.alloc 9 rfl rfl zero36 H ?_); clear H; intro g9 w1 H; simp only [pS]; simp only [nC] at H) | (with_reducible refine wpl rfl (Stp.str rfl size47 rfl rfl (by first | rfl | (simp [Value.oneCell']; done) | assumption) H uP sZ sZ ?_); clear H; intro w1 H; simp only [pS]) | (with_reducible refine wpl rfl (Stp.stl rfl size47 rfl rfl rfl rfl H uP (by simp) ?_); clear H; intro w1 H; simp only [pS]; simp only [List.drop_succ_cons, List.drop_zero, List.take_succ_cons, List.take_zero, List.nil_append, List.cons_append, Nat.reduceAdd] at H) | (with_reducible refine wpl rfl (Stp.str rfl size36 rfl rfl (by first | rfl | (simp [Value.oneCell']; done) | assumption) H uP sZ sZ ?_); clear H; intro w1 H; simp only [pS]) | (with_reducible refine wpl rfl (Stp.stl rfl size36 rfl rfl rfl rfl H uP (by simp) ?_); clear H; intro w1 H; simp only [pS]; simp only [List.drop_succ_cons, List.drop_zero, List.take_succ_cons, List.take_zero, List.nil_append, List.cons_append, Nat.reduceAdd] at H))
        go_ret
        exact ⟨_, rfl, rfl, H.below⟩
  · clear he
    go_enter Try.func8, Try.ntmps8
    go_wp2_with (first | (go_at_call 36; (with_reducible refine (great20_n va vc l n HN.out _ (hs0.grow H.below) (fun a ha => (HXX.out a ha).grow H.below)).mono ?_); rintro e w1 ⟨v, rfl, hr⟩; obtain ⟨rfl, hb1⟩ := hr; replace H := H.grow hb1; clear hb1; rw [HE.out]) | (go_at_call 19; (with_reducible refine (aw20_ok _).mono ?_); rintro e w1 ⟨v, rfl, hr⟩; obtain ⟨rfl, hb1⟩ := hr; replace H := H.grow hb1; clear hb1) | (with_reducible refine wpl rfl (Stp.box 18 rfl rfl rfl H ?_); clear H; intro g18 w1 H; simp only [pS]; simp only [pE, nC, pS] at H) | (with_reducible refine wpl rfl (Stp.alloc 8 rfl rfl zero47 H ?_); clear H; intro g8 w1 H; simp only [pS]; simp only [nC] at H) | (with_reducible refine wpl rfl (Stp.alloc 9 rfl rfl zero36 H ?_); clear H; intro g9 w1 H; simp only [pS]; simp only [nC] at H) | (with_reducible refine wpl rfl (Stp.str rfl size47 rfl rfl (by first | rfl | (simp [Value.oneCell']; done) | assumption) H uP sZ sZ ?_); clear H; intro w1 H; simp only [pS]) | (with_reducible refine wpl rfl (Stp.stl rfl size47 rfl rfl rfl rfl H uP (by simp) ?_); clear H; intro w1 H; simp only [pS]; simp only [List.drop_succ_cons, List.drop_zero, List.take_succ_cons, List.take_zero, List.nil_append, List.cons_append, Nat.reduceAdd] at H) | (with_reducible refine wpl rfl (Stp.str rfl size36 rfl rfl (by first | rfl | (simp [Value.oneCell']; done) | assumption) H uP sZ sZ ?_); clear H; intro w1 H; simp only [pS]) | (with_reducible refine wpl rfl (Stp.stl rfl size36 rfl rfl rfl rfl H uP (by simp) ?_); clear H; intro w1 H; simp only [pS]; simp only [List.drop_succ_cons, List.drop_zero, List.take_succ_cons, List.take_zero, List.nil_append, List.cons_append, Nat.reduceAdd] at H))
    go_ret
    exact ⟨_, rfl, rfl, H.below⟩
set_option maxRecDepth 100000 in
theorem acceptPlays_lifted (os : Os) (started : os.Started) (H : Type) (enc : TypeId × Value → H) :
    ReturnsInHanded {} Try.checked os 8 .any (Rows.acceptPlaysSpec.pre6 enc Try.prog Try.f8 Rows.acceptPlaysRow.domain false) (Rows.acceptPlaysSpec.post enc Try.prog Try.f8 false true false false) := by
  refine law_lifted (C := Try.checked) own started (by kernel_rfl) Try.func8 laidOut rfl Try.underlying4 rfl (by kernel_rfl) (fun ds hd => ?_)
    (ChangeSpec.witness6 (enc := enc) (C := Try.checked) false ⟨#[], #[.int .u64 0, .slice none 0 0], []⟩ 8 (by kernel_rfl) (by kernel_rfl) (by kernel_rfl) (by kernel_rfl)) ?_
  · match ds, hd with
    | [d0, d1], _ => exact ⟨rfl, rfl, rfl⟩
  intro W base args ds p hval hA
  rw [Try.params8] at hA hval
  obtain ⟨v0, vs0, d0, ds0, p0, q0, hargs, rfl, rfl, h0, r0⟩ := trodAll_cons hA
  obtain ⟨v1, vs1, d1, ds1, p1, q1, rfl, rfl, rfl, h1, r1⟩ := trodAll_cons r0
  obtain ⟨rfl, rfl, rfl⟩ := trodAll_nil r1
  obtain rfl : args = #[v0, v1] := by cases args; simp_all
  obtain ⟨ni, rfl, _, _, nw⟩ := open_int Try.underlying26 (hval 0 26 v0 rfl rfl) h0
  obtain ⟨n, rfl, nb⟩ : ∃ q : Nat, ni = (q : Int) ∧ q < 18446744073709551616 := ⟨ni.toNat, by have := bounds_u64 nw; omega, by have := bounds_u64 nw; omega⟩
  obtain ⟨l, va, vc, rfl, hs, hx⟩ := open_aks (hval 1 74 v1 rfl rfl) h1
  exact law_aplays n nb va vc l W hs hx
theorem acceptPlays_over : Rows.acceptPlaysRow.holds Try.pinned (OpenSpec.ofChange Rows.acceptPlaysSpec) :=
  OpenClaim.holds_of_wide 8 Try.f8 rfl rfl rfl rfl rfl rfl rfl ⟨rfl, rfl, rfl, rfl, rfl⟩ rfl rfl rfl rfl rfl (by kernel_rfl) Try.func8 (by kernel_rfl)
    (of_decide_eq_true (by kernel_rfl)) (by unfold Func.isWrapper; first | (rw [if_pos (by decide +kernel)]; kernel_rfl) | (rw [if_neg (by decide +kernel)]; exact ⟨rfl, rfl⟩))
    (fun os started H enc _ => acceptPlays_lifted os started H enc)
theorem acceptPlays_holds : Rows.AcceptPlaysSaid := acceptPlays_over
#print axioms acceptPlays_holds
end Go.Proofs.Ytmokecicjmjkbaa

namespace Go.Proofs.Ytmokecicjmjkbaa
open Go.ChangeShapes Go.WideShapes Go.ChangeAt Go.RowKit Go.Maps
set_option linter.unusedVariables false
set_option linter.unusedSimpArgs false
set_option maxRecDepth 100000
set_option maxHeartbeats 8000000
attribute [local go_sem] eqBT_self eqg_BT
attribute [local irreducible] gC
theorem law_agrows (slot : Nat) (hslt : slot < 18446744073709551616) (va : Option Addr) (vc : Nat) (l : List Ak) (w : World) (hs : Sl w 15 l.length (.slice va l.length vc) (elA l)) (hx : ∀ a ∈ l, wfA w a) :
    Calls Try.prog 9 #[.int .u64 (slot : Int), .slice va l.length vc] w (Ret fun v w' => v = .bool true ∧ Below w.heap.size w w') := by
  have H := St.init w
  have HXX := Lib.hid hx
  clear hx
  obtain ⟨e, he⟩ : ∃ e, ((l.take 60).any fun a => gC a.c) = e := ⟨_, rfl⟩
  have HE := Lib.hid he
  obtain ⟨n, hn⟩ : ∃ n, l.length = n := ⟨_, rfl⟩
  have HN := Lib.hid hn
  have hs0 := hs
  rw [hn] at hs0 ⊢
  clear hs hn
  by_cases hb62 : 4611686018427387904 < slot
  · have zi : (4611686018427387904 : Int) < (slot : Int) := by omega
    cases e
    · clear he
      go_enter Try.func9, Try.ntmps9
      go_wp2_with (first | (go_at_call 36; (with_reducible refine (great20_n va vc l n HN.out _ (hs0.grow H.below) (fun a ha => (HXX.out a ha).grow H.below)).mono ?_); rintro e w1 ⟨v, rfl, hr⟩; obtain ⟨rfl, hb1⟩ := hr; replace H := H.grow hb1; clear hb1; rw [HE.out]) | (go_at_call 19; (with_reducible refine (aw20_ok _).mono ?_); rintro e w1 ⟨v, rfl, hr⟩; obtain ⟨rfl, hb1⟩ := hr; replace H := H.grow hb1; clear hb1) | (with_reducible refine wpl rfl (Stp.box 24 rfl rfl rfl H ?_); clear H; intro g24 w1 H; simp only [pS]; simp only [pE, nC, pS] at H) | (with_reducible refine wpl rfl (Stp.alloc 8 rfl rfl zero47 H ?_); clear H; intro g8 w1 H; simp only [pS]; simp only [nC] at H) | (with_reducible refine wpl rfl (Stp.str rfl size47 rfl rfl (by first | rfl | (simp [Value.oneCell']; done) | assumption) H uP sZ sZ ?_); clear H; intro w1 H; simp only [pS]) | (with_reducible refine wpl rfl (Stp.stl rfl size47 rfl rfl rfl rfl H uP (by simp) ?_); clear H; intro w1 H; simp only [pS]; simp only [List.drop_succ_cons, List.drop_zero, List.take_succ_cons, List.take_zero, List.nil_append, List.cons_append, Nat.reduceAdd] at H) | (with_reducible refine wpl rfl (Stp.ldr rfl agg82 size82 rfl H mR sZ ?_); simp only [pS]) | (with_reducible refine wpl rfl (Stp.ldl rfl agg82 size82 rfl H mR (by simp) ?_); simp only [pS]; simp only [List.drop_succ_cons, List.drop_zero, List.take_succ_cons, List.take_zero]) | (with_reducible refine wpl rfl (Stp.ldor rfl agg82 size82 rfl H (by assumption) sZ (by assumption) ?_); simp only [pS]) | (with_reducible refine wpl rfl (Stp.alloc 10 rfl rfl zero47 H ?_); clear H; intro g10 w1 H; simp only [pS]; simp only [nC] at H) | (with_reducible refine wpl rfl (Stp.alloc 11 rfl rfl zero36 H ?_); clear H; intro g11 w1 H; simp only [pS]; simp only [nC] at H) | (with_reducible refine wpl rfl (Stp.str rfl size36 rfl rfl (by first | rfl | (simp [Value.oneCell']; done) | assumption) H uP sZ sZ ?_); clear H; intro w1 H; simp only [pS]) | (with_reducible refine wpl rfl (Stp.stl rfl size36 rfl rfl rfl rfl H uP (by simp) ?_); clear H; intro w1 H; simp only [pS]; simp only [List.drop_succ_cons, List.drop_zero, List.take_succ_cons, List.take_zero, List.nil_append, List.cons_append, Nat.reduceAdd] at H))
      go_ret
      exact ⟨_, rfl, rfl, H.below⟩
    · clear he
      go_enter Try.func9, Try.ntmps9
      go_wp2_with (first | (go_at_call 36; (with_reducible refine (great20_n va vc l n HN.out _ (hs0.grow H.below) (fun a ha => (HXX.out a ha).grow H.below)).mono ?_); rintro e w1 ⟨v, rfl, hr⟩; obtain ⟨rfl, hb1⟩ := hr; replace H := H.grow hb1; clear hb1; rw [HE.out]) | (go_at_call 19; (with_reducible refine (aw20_ok _).mono ?_); rintro e w1 ⟨v, rfl, hr⟩; obtain ⟨rfl, hb1⟩ := hr; replace H := H.grow hb1; clear hb1) | (with_reducible refine wpl rfl (Stp.box 24 rfl rfl rfl H ?_); clear H; intro g24 w1 H; simp only [pS]; simp only [pE, nC, pS] at H) | (with_reducible refine wpl rfl (Stp.alloc 8 rfl rfl zero47 H ?_); clear H; intro g8 w1 H; simp only [pS]; simp only [nC] at H) | (with_reducible refine wpl rfl (Stp.str rfl size47 rfl rfl (by first | rfl | (simp [Value.oneCell']; done) | assumption) H uP sZ sZ ?_); clear H; intro w1 H; simp only [pS]) | (with_reducible refine wpl rfl (Stp.stl rfl size47 rfl rfl rfl rfl H uP (by simp) ?_); clear H; intro w1 H; simp only [pS]; simp only [List.drop_succ_cons, List.drop_zero, List.take_succ_cons, List.take_zero, List.nil_append, List.cons_append, Nat.reduceAdd] at H) | (with_reducible refine wpl rfl (Stp.ldr rfl agg82 size82 rfl H mR sZ ?_); simp only [pS]) | (with_reducible refine wpl rfl (Stp.ldl rfl agg82 size82 rfl H mR (by simp) ?_); simp only [pS]; simp only [List.drop_succ_cons, List.drop_zero, List.take_succ_cons, List.take_zero]) | (with_reducible refine wpl rfl (Stp.ldor rfl agg82 size82 rfl H (by assumption) sZ (by assumption) ?_); simp only [pS]) | (with_reducible refine wpl rfl (Stp.alloc 10 rfl rfl zero47 H ?_); clear H; intro g10 w1 H; simp only [pS]; simp only [nC] at H) | (with_reducible refine wpl rfl (Stp.alloc 11 rfl rfl zero36 H ?_); clear H; intro g11 w1 H; simp only [pS]; simp only [nC] at H) | (with_reducible refine wpl rfl (Stp.str rfl size36 rfl rfl (by first | rfl | (simp [Value.oneCell']; done) | assumption) H uP sZ sZ ?_); clear H; intro w1 H; simp only [pS]) | (with_reducible refine wpl rfl (Stp.stl rfl size36 rfl rfl rfl rfl H uP (by simp) ?_); clear H; intro w1 H; simp only [pS]; simp only [List.drop_succ_cons, List.drop_zero, List.take_succ_cons, List.take_zero, List.nil_append, List.cons_append, Nat.reduceAdd] at H))
      go_ret
      exact ⟨_, rfl, rfl, H.below⟩
  have zi : ¬ (4611686018427387904 : Int) < (slot : Int) := by omega
  cases e
  · obtain ⟨_, _, _, hm, _⟩ := id hs0
    unfold maxLen at hm
    clear he
    go_enter Try.func9, Try.ntmps9
    go_wp2_with (first | (go_at_call 36; (with_reducible refine (great20_n va vc l n HN.out _ (hs0.grow H.below) (fun a ha => (HXX.out a ha).grow H.below)).mono ?_); rintro e w1 ⟨v, rfl, hr⟩; obtain ⟨rfl, hb1⟩ := hr; replace H := H.grow hb1; clear hb1; rw [HE.out]) | (go_at_call 20; (with_reducible refine (anew_ok slot _ H).mono ?_); rintro e w1 ⟨v, rfl, hr⟩; obtain ⟨g0, rfl, H2⟩ := hr; clear H; have H := H2; clear H2) | (with_reducible refine wpl rfl (Stp.build (v := (.agg #[.int .u64 (slot : Int), .int .u32 0, .int .u16 0, .int .u32 0, .bool false, .int .u32 0, .int .u16 0, .int .u32 0, .int .i64 0, .int .u16 0, .int .u32 0, .int .u64 0, .int .u64 0, .slice none 0 0, .int .u64 0, .slice none 0 0, .slice none 0 0, .slice none 0 0])) 23 rfl rfl (fun W => by kernel_rfl) ?_); simp only [pS]) | (with_reducible refine wpl rfl (Stp.box 24 rfl rfl rfl H ?_); clear H; intro g24 w1 H; simp only [pS]; simp only [pE, nC, pS] at H) | (with_reducible refine wpl rfl (Stp.alloc 8 rfl rfl zero47 H ?_); clear H; intro g8 w1 H; simp only [pS]; simp only [nC] at H) | (with_reducible refine wpl rfl (Stp.str rfl size47 rfl rfl (by first | rfl | (simp [Value.oneCell']; done) | assumption) H uP sZ sZ ?_); clear H; intro w1 H; simp only [pS]) | (with_reducible refine wpl rfl (Stp.stl rfl size47 rfl rfl rfl rfl H uP (by simp) ?_); clear H; intro w1 H; simp only [pS]; simp only [List.drop_succ_cons, List.drop_zero, List.take_succ_cons, List.take_zero, List.nil_append, List.cons_append, Nat.reduceAdd] at H) | (with_reducible refine wpl rfl (Stp.ldr rfl agg82 size82 rfl H mR sZ ?_); simp only [pS]) | (with_reducible refine wpl rfl (Stp.ldl rfl agg82 size82 rfl H mR (by simp) ?_); simp only [pS]; simp only [List.drop_succ_cons, List.drop_zero, List.take_succ_cons, List.take_zero]) | (with_reducible refine wpl rfl (Stp.ldor rfl agg82 size82 rfl H (by assumption) sZ (by assumption) ?_); simp only [pS]) | (with_reducible refine wpl rfl (Stp.alloc 10 rfl rfl zero47 H ?_); clear H; intro g10 w1 H; simp only [pS]; simp only [nC] at H) | (with_reducible refine wpl rfl (Stp.alloc 11 rfl rfl zero36 H ?_); clear H; intro g11 w1 H; simp only [pS]; simp only [nC] at H) | (with_reducible refine wpl rfl (Stp.str rfl size36 rfl rfl (by first | rfl | (simp [Value.oneCell']; done) | assumption) H uP sZ sZ ?_); clear H; intro w1 H; simp only [pS]) | (with_reducible refine wpl rfl (Stp.stl rfl size36 rfl rfl rfl rfl H uP (by simp) ?_); clear H; intro w1 H; simp only [pS]; simp only [List.drop_succ_cons, List.drop_zero, List.take_succ_cons, List.take_zero, List.nil_append, List.cons_append, Nat.reduceAdd] at H))
    have HA0 : Hid (AccR g0 slot bl0 false bl0 cm0 (row 105 g0 #[.int .u64 (slot : Int), .int .u32 0, .int .u16 0, .int .u32 0, .pointer none])) := Lib.hid (.inl ⟨rfl, rfl, rfl, rfl⟩)
    have HI0 : Hid (AInv w.heap.size w (Old w) slot bl0 false bl0 cm0 hd0) := Lib.hid (AInv.begin slot hslt)
    go_loopw [7] (fun i wr => ∃ (q cur1 : Nat) (pr1 : Bl) (hb1 : Bool) (y1 : Bl) (d1 : Cm) (hd1 : Hd) (R1 : Res), q ≤ n ∧ q ≤ 60 ∧ i = .int .i64 (q : Int) ∧ Hid (AccR g0 cur1 pr1 hb1 y1 d1 R1) ∧ Hid (AInv w.heap.size w (Old w) cur1 pr1 hb1 y1 d1 hd1) ∧ St w.heap.size w wr (row 78 g24 #[.int .u64 (cur1 : Int), .int .u32 (pr1.r : Int), .int .u16 (pr1.w.1 : Int), .int .u32 (pr1.w.2 : Int), .bool hb1, .int .u32 (y1.r : Int), .int .u16 (y1.w.1 : Int), .int .u32 (y1.w.2 : Int), .int .i64 d1.kind, .int .u16 (d1.fr.1 : Int), .int .u32 (d1.fr.2 : Int), .int .u64 (d1.num : Int), .int .u64 (d1.vw : Int), .slice hd1.ba d1.data.length hd1.bc, .int .u64 (d1.v.id : Int), .slice hd1.ma d1.v.mem.length hd1.mc, .slice hd1.la d1.v.lvs.length hd1.lc, .slice hd1.da d1.v.ldr.length hd1.dc] :: R1 :: [])) (fun i _ => 60 - (intOf i).toNat)
    case atStart => exact ⟨0, slot, bl0, false, bl0, cm0, hd0, _, Nat.zero_le _, Nat.zero_le _, rfl, HA0, HI0, H⟩
    case round =>
      clear H HA0 HI0
      obtain ⟨q, cur1, pr1, hb1, y1, d1, hd1, R1, hq, hq60, rfl, HR, HI, H⟩ := hrel
      by_cases hlt : q < n
      · have qli : (q : Int) < (n : Int) := by omega
        by_cases h60 : q < 60
        · have q60i : (q : Int) < 60 := by omega
          have hl1 : q < l.length := by rw [HN.out]; exact hlt
          obtain ⟨b1, o1, rfl, hbl1⟩ := hs0.addr (by omega)
          have hc1 := hs0.cell hlt
          unfold elA at hc1
          rw [getD_at hl1] at hc1
          have hmm := List.getElem_mem hl1
          have hgs := any_take HE.out hl1 h60
          obtain ⟨a, ha⟩ : ∃ a, l[q] = a := ⟨_, rfl⟩
          rw [ha] at hc1 hmm hgs
          have HXA := Lib.hid (HXX.out a hmm)
          have HSM := Lib.hid (gC_sm hgs)
          have HRD : Hid (Rd w.heap.size w [] fun W => CmG (Old w) W (.slice a.h.ba a.c.data.length a.h.bc) (.slice a.h.ma a.c.v.mem.length a.h.mc) (.slice a.h.la a.c.v.lvs.length a.h.lc) (.slice a.h.da a.c.v.ldr.length a.h.dc) a.c) := Lib.hid (fun W hW _ => HXA.out.x.grow hW)
          simp only [akC] at hc1
          clear hgs hmm ha hl1
          go_wp2_with (first | (go_at_call 39; (with_reducible refine (apromR_ok g0 cur1 pr1 hb1 y1 d1 R1 HR.out _ (H.pull (r := R1) pU)).mono ?_); rintro e w1 ⟨v, rfl, hr⟩; obtain ⟨rfl, H2⟩ := hr; clear H; have H := H2; clear H2; (try simp only [blC])) | (go_at_call 38; (with_reducible refine (aslotR_ok g0 cur1 pr1 hb1 y1 d1 R1 HR.out _ (H.pull (r := R1) pU)).mono ?_); rintro e w1 ⟨v, rfl, hr⟩; obtain ⟨rfl, H2⟩ := hr; clear H; have H := H2; clear H2; (try simp only [blC])) | (go_at_call 37; (with_reducible refine (do20_ok g0 g24 cur1 a.kind a.by_ pr1 a.b y1 hb1 d1 hd1 R1 a.c a.h HSM.out (HXA.out).c HRD.out (HXA.out).b1 (HXA.out).b2 (HXA.out).y1 (HXA.out).y2 HR.out HI.out _ ((H.pull (r := R1) pU).pull (r := row 78 g24 _) pU)).mono ?_); rintro e w1 ⟨v, rfl, hr⟩; obtain ⟨rfl, cur2, pr2, hb2, y2, d2, hd2, R2, hR2, hI2, hle, hpr, H2⟩ := hr; clear H; have H := H2; have HR2 := Lib.hid hR2; have HI2 := Lib.hid hI2; have HPR := Lib.hid hpr; have HLE := Lib.hid hle; clear H2 hR2 hI2 hle hpr) | (go_at_call 27; (with_reducible refine (aaccR_ok g0 cur2 pr2 hb2 y2 d2 R2 HI2.out.sm HR2.out _ (H.pull (r := R2) pU)).mono ?_); rintro e w1 ⟨v, rfl, hr⟩; obtain ⟨h3, G3, rfl, H2⟩ := hr; clear H; have H := H2; clear H2; simp only [blC, cmH, cmC]) | (with_reducible refine wpl rfl (Stp.box 24 rfl rfl rfl H ?_); clear H; intro g24 w1 H; simp only [pS]; simp only [pE, nC, pS] at H) | (with_reducible refine wpl rfl (Stp.alloc 8 rfl rfl zero47 H ?_); clear H; intro g8 w1 H; simp only [pS]; simp only [nC] at H) | (with_reducible refine wpl rfl (Stp.str rfl size47 rfl rfl (by first | rfl | (simp [Value.oneCell']; done) | assumption) H uP sZ sZ ?_); clear H; intro w1 H; simp only [pS]) | (with_reducible refine wpl rfl (Stp.stl rfl size47 rfl rfl rfl rfl H uP (by simp) ?_); clear H; intro w1 H; simp only [pS]; simp only [List.drop_succ_cons, List.drop_zero, List.take_succ_cons, List.take_zero, List.nil_append, List.cons_append, Nat.reduceAdd] at H) | (with_reducible refine wpl rfl (Stp.ldr rfl agg82 size82 rfl H mR sZ ?_); simp only [pS]) | (with_reducible refine wpl rfl (Stp.ldl rfl agg82 size82 rfl H mR (by simp) ?_); simp only [pS]; simp only [List.drop_succ_cons, List.drop_zero, List.take_succ_cons, List.take_zero]) | (with_reducible refine wpl rfl (Stp.ldor rfl agg82 size82 rfl H (by assumption) sZ (by assumption) ?_); simp only [pS]) | (with_reducible refine wpl rfl (Stp.alloc 10 rfl rfl zero47 H ?_); clear H; intro g10 w1 H; simp only [pS]; simp only [nC] at H) | (with_reducible refine wpl rfl (Stp.alloc 11 rfl rfl zero36 H ?_); clear H; intro g11 w1 H; simp only [pS]; simp only [nC] at H) | (with_reducible refine wpl rfl (Stp.str rfl size36 rfl rfl (by first | rfl | (simp [Value.oneCell']; done) | assumption) H uP sZ sZ ?_); clear H; intro w1 H; simp only [pS]) | (with_reducible refine wpl rfl (Stp.stl rfl size36 rfl rfl rfl rfl H uP (by simp) ?_); clear H; intro w1 H; simp only [pS]; simp only [List.drop_succ_cons, List.drop_zero, List.take_succ_cons, List.take_zero, List.nil_append, List.cons_append, Nat.reduceAdd] at H))
          replace H := H.pull (r := R2) pU
          have hled : decide (cur2 < cur1) = false := decide_eq_false (by have := HLE.out; omega)
          cases hb2
          · skip
            refine rg_begin 19 rfl (S := fun W => St _ _ W _) (by kernel_rfl) H.drew ?_
            replace H := H.drew
            have HS := H
            refine rg_take (i := 0) rfl kR kR kR (Yld.move rfl rfl) (H.sub sU) ?_; simp only [pS, pE]
            first | (refine rg_take (i := 2) rfl kR kR kR (Yld.ldr rfl rfl agg47 size47 rfl mR sZ) (H.sub sU) ?_; simp only [pS]) | (refine rg_take (i := 2) rfl kR kR kR (Yld.ldl rfl rfl agg47 size47 rfl mR (by simp)) (H.sub sU) ?_; simp only [pS]; simp only [List.drop_succ_cons, List.drop_zero, List.take_succ_cons, List.take_zero]) | (refine rg_take (i := 2) rfl kR kR kR (Yld.ldor rfl rfl agg47 size47 rfl (by assumption) sZ (by assumption)) (H.sub sU) ?_; simp only [pS])
            refine rg_one (i := 1) (by kernel_rfl) rfl rfl (fun K hK => ?_)
            refine wp_callf rfl ent39 (apromR_ok g0 cur2 pr2 _ y2 d2 R2 HR2.out _ H) rfl (fun v w1 hr => ?_)
            obtain ⟨rfl, H2⟩ := hr
            clear H
            have H := H2
            clear H2
            simp only [blC]
            clear HS
            have HS := H
            refine hK.out _ _ (H.sub sU) ?_
            clear hK K
            simp only [pS]
            refine rg_one (i := 3) (by kernel_rfl) rfl rfl (fun K hK => ?_)
            refine wp_callf rfl ent40 (rbefore_ok pr2 pr1 false HPR.out _) rfl (fun v w1 hr => ?_)
            obtain ⟨rfl, hb1⟩ := hr
            replace H := H.grow hb1
            clear hb1
            clear HS
            have HS := H
            refine hK.out _ _ (H.sub sU) ?_
            clear hK K
            simp only [pS]
            refine rg_take (i := 4) rfl kR kR kR (Yld.move rfl rfl) (H.sub sU) ?_; simp only [pS, pE]
            refine rg_take (i := 5) rfl kR kR kR (Yld.move rfl rfl) (H.sub sU) ?_; simp only [pS, pE]
            refine rg_take (i := 7) rfl kR kR kR (Yld.move rfl rfl) (H.sub sU) ?_; simp only [pS, pE]
            refine rg_one (i := 6) (by kernel_rfl) rfl rfl (fun K hK => ?_)
            refine wp_callf rfl ent38 (aslotR_ok g0 cur2 pr2 _ y2 d2 R2 HR2.out _ H) rfl (fun v w1 hr => ?_)
            obtain ⟨rfl, H2⟩ := hr
            clear H
            have H := H2
            clear H2
            clear HS
            have HS := H
            refine hK.out _ _ (H.sub sU) ?_
            clear hK K
            simp only [pS]
            refine rg_take (i := 8) rfl kR kR kR (Yld.o rfl) (H.sub sU) ?_; simp only [pS]
            refine rg_take (i := 9) rfl kR kR kR (Yld.pick rfl rfl rfl) (H.sub sU) ?_; simp only [pS, pE]
            refine rg_take (i := 10) rfl kR kR kR (Yld.move rfl rfl) (H.sub sU) ?_; simp only [pS, pE]
            refine rg_take (i := 11) rfl kR kR kR (Yld.move rfl rfl) (H.sub sU) ?_; simp only [pS, pE]
            refine rg_take (i := 12) rfl kR kR kR (Yld.move rfl rfl) (H.sub sU) ?_; simp only [pS, pE]
            refine rg_take (i := 13) rfl kR kR kR (Yld.skip rfl) (H.sub sU) ?_; simp only [pS]
            refine rg_take (i := 14) rfl kR kR kR (Yld.skip rfl) (H.sub sU) ?_; simp only [pS]
            refine rg_take (i := 15) rfl kR kR kR (Yld.skip rfl) (H.sub sU) ?_; simp only [pS]
            refine rg_take (i := 16) rfl kR kR kR (Yld.skip rfl) (H.sub sU) ?_; simp only [pS]
            refine rg_take (i := 17) rfl kR kR kR (Yld.pick rfl rfl rfl) (H.sub sU) ?_; simp only [pS, pE]
            refine rg_take (i := 18) rfl kR kR kR (Yld.pick rfl rfl rfl) (H.sub sU) ?_; simp only [pS, pE]
            refine rg_done (by kernel_rfl) ?_
            go_wp2_with (first | (with_reducible refine wpl rfl (Stp.box 24 rfl rfl rfl H ?_); clear H; intro g24 w1 H; simp only [pS]; simp only [pE, nC, pS] at H) | (with_reducible refine wpl rfl (Stp.alloc 8 rfl rfl zero47 H ?_); clear H; intro g8 w1 H; simp only [pS]; simp only [nC] at H) | (with_reducible refine wpl rfl (Stp.str rfl size47 rfl rfl (by first | rfl | (simp [Value.oneCell']; done) | assumption) H uP sZ sZ ?_); clear H; intro w1 H; simp only [pS]) | (with_reducible refine wpl rfl (Stp.stl rfl size47 rfl rfl rfl rfl H uP (by simp) ?_); clear H; intro w1 H; simp only [pS]; simp only [List.drop_succ_cons, List.drop_zero, List.take_succ_cons, List.take_zero, List.nil_append, List.cons_append, Nat.reduceAdd] at H) | (with_reducible refine wpl rfl (Stp.ldr rfl agg82 size82 rfl H mR sZ ?_); simp only [pS]) | (with_reducible refine wpl rfl (Stp.ldl rfl agg82 size82 rfl H mR (by simp) ?_); simp only [pS]; simp only [List.drop_succ_cons, List.drop_zero, List.take_succ_cons, List.take_zero]) | (with_reducible refine wpl rfl (Stp.ldor rfl agg82 size82 rfl H (by assumption) sZ (by assumption) ?_); simp only [pS]) | (with_reducible refine wpl rfl (Stp.alloc 10 rfl rfl zero47 H ?_); clear H; intro g10 w1 H; simp only [pS]; simp only [nC] at H) | (with_reducible refine wpl rfl (Stp.alloc 11 rfl rfl zero36 H ?_); clear H; intro g11 w1 H; simp only [pS]; simp only [nC] at H) | (with_reducible refine wpl rfl (Stp.str rfl size36 rfl rfl (by first | rfl | (simp [Value.oneCell']; done) | assumption) H uP sZ sZ ?_); clear H; intro w1 H; simp only [pS]) | (with_reducible refine wpl rfl (Stp.stl rfl size36 rfl rfl rfl rfl H uP (by simp) ?_); clear H; intro w1 H; simp only [pS]; simp only [List.drop_succ_cons, List.drop_zero, List.take_succ_cons, List.take_zero, List.nil_append, List.cons_append, Nat.reduceAdd] at H))
            go_roundw
            case rel => exact ⟨q + 1, cur2, pr2, _, y2, d2, hd2, R2, by omega, by omega, by go_num, HR2, HI2, ((H.pull (r := R2) pU).pull (r := row 78 g24 _) pU).sub sU⟩
            case measure => simp [intOf]; omega
          · have HYE := Lib.hid (HI2.out.yes rfl)
            refine rg_begin 19 rfl (S := fun W => St _ _ W _) (by kernel_rfl) H.drew ?_
            replace H := H.drew
            have HS := H
            refine rg_take (i := 0) rfl kR kR kR (Yld.move rfl rfl) (H.sub sU) ?_; simp only [pS, pE]
            first | (refine rg_take (i := 2) rfl kR kR kR (Yld.ldr rfl rfl agg47 size47 rfl mR sZ) (H.sub sU) ?_; simp only [pS]) | (refine rg_take (i := 2) rfl kR kR kR (Yld.ldl rfl rfl agg47 size47 rfl mR (by simp)) (H.sub sU) ?_; simp only [pS]; simp only [List.drop_succ_cons, List.drop_zero, List.take_succ_cons, List.take_zero]) | (refine rg_take (i := 2) rfl kR kR kR (Yld.ldor rfl rfl agg47 size47 rfl (by assumption) sZ (by assumption)) (H.sub sU) ?_; simp only [pS])
            refine rg_one (i := 1) (by kernel_rfl) rfl rfl (fun K hK => ?_)
            refine wp_callf rfl ent39 (apromR_ok g0 cur2 pr2 _ y2 d2 R2 HR2.out _ H) rfl (fun v w1 hr => ?_)
            obtain ⟨rfl, H2⟩ := hr
            clear H
            have H := H2
            clear H2
            simp only [blC]
            clear HS
            have HS := H
            refine hK.out _ _ (H.sub sU) ?_
            clear hK K
            simp only [pS]
            refine rg_one (i := 3) (by kernel_rfl) rfl rfl (fun K hK => ?_)
            refine wp_callf rfl ent40 (rbefore_ok pr2 pr1 false HPR.out _) rfl (fun v w1 hr => ?_)
            obtain ⟨rfl, hb1⟩ := hr
            replace H := H.grow hb1
            clear hb1
            clear HS
            have HS := H
            refine hK.out _ _ (H.sub sU) ?_
            clear hK K
            simp only [pS]
            refine rg_take (i := 4) rfl kR kR kR (Yld.move rfl rfl) (H.sub sU) ?_; simp only [pS, pE]
            refine rg_take (i := 5) rfl kR kR kR (Yld.move rfl rfl) (H.sub sU) ?_; simp only [pS, pE]
            refine rg_take (i := 7) rfl kR kR kR (Yld.move rfl rfl) (H.sub sU) ?_; simp only [pS, pE]
            refine rg_one (i := 6) (by kernel_rfl) rfl rfl (fun K hK => ?_)
            refine wp_callf rfl ent38 (aslotR_ok g0 cur2 pr2 _ y2 d2 R2 HR2.out _ H) rfl (fun v w1 hr => ?_)
            obtain ⟨rfl, H2⟩ := hr
            clear H
            have H := H2
            clear H2
            clear HS
            have HS := H
            refine hK.out _ _ (H.sub sU) ?_
            clear hK K
            simp only [pS]
            refine rg_take (i := 8) rfl kR kR kR (Yld.o rfl) (H.sub sU) ?_; simp only [pS]
            refine rg_take (i := 9) rfl kR kR kR (Yld.pick rfl rfl rfl) (H.sub sU) ?_; simp only [pS, pE]
            refine rg_take (i := 10) rfl kR kR kR (Yld.move rfl rfl) (H.sub sU) ?_; simp only [pS, pE]
            refine rg_take (i := 11) rfl kR kR kR (Yld.move rfl rfl) (H.sub sU) ?_; simp only [pS, pE]
            refine rg_take (i := 12) rfl kR kR kR (Yld.move rfl rfl) (H.sub sU) ?_; simp only [pS, pE]
            refine rg_take (i := 13) rfl kR kR kR (Yld.move rfl rfl) (H.sub sU) ?_; simp only [pS, pE]
            first | (refine rg_take (i := 15) rfl kR kR kR (Yld.ldr rfl rfl agg47 size47 rfl mR sZ) (H.sub sU) ?_; simp only [pS]) | (refine rg_take (i := 15) rfl kR kR kR (Yld.ldl rfl rfl agg47 size47 rfl mR (by simp)) (H.sub sU) ?_; simp only [pS]; simp only [List.drop_succ_cons, List.drop_zero, List.take_succ_cons, List.take_zero]) | (refine rg_take (i := 15) rfl kR kR kR (Yld.ldor rfl rfl agg47 size47 rfl (by assumption) sZ (by assumption)) (H.sub sU) ?_; simp only [pS])
            refine rg_one (i := 14) (by kernel_rfl) rfl rfl (fun K hK => ?_)
            refine wp_callf rfl ent39 (apromR_ok g0 cur2 pr2 _ y2 d2 R2 HR2.out _ H) rfl (fun v w1 hr => ?_)
            obtain ⟨rfl, H2⟩ := hr
            clear H
            have H := H2
            clear H2
            simp only [blC]
            clear HS
            have HS := H
            refine hK.out _ _ (H.sub sU) ?_
            clear hK K
            simp only [pS]
            refine rg_one (i := 16) (by kernel_rfl) rfl rfl (fun K hK => ?_)
            refine wp_callf rfl ent40 (rbefore_ok pr2 y2 false HYE.out _) rfl (fun v w1 hr => ?_)
            obtain ⟨rfl, hb1⟩ := hr
            replace H := H.grow hb1
            clear hb1
            clear HS
            have HS := H
            refine hK.out _ _ (H.sub sU) ?_
            clear hK K
            simp only [pS]
            refine rg_take (i := 17) rfl kR kR kR (Yld.pick rfl rfl rfl) (H.sub sU) ?_; simp only [pS, pE]
            refine rg_take (i := 18) rfl kR kR kR (Yld.pick rfl rfl rfl) (H.sub sU) ?_; simp only [pS, pE]
            refine rg_done (by kernel_rfl) ?_
            go_wp2_with (first | (with_reducible refine wpl rfl (Stp.box 24 rfl rfl rfl H ?_); clear H; intro g24 w1 H; simp only [pS]; simp only [pE, nC, pS] at H) | (with_reducible refine wpl rfl (Stp.alloc 8 rfl rfl zero47 H ?_); clear H; intro g8 w1 H; simp only [pS]; simp only [nC] at H) | (with_reducible refine wpl rfl (Stp.str rfl size47 rfl rfl (by first | rfl | (simp [Value.oneCell']; done) | assumption) H uP sZ sZ ?_); clear H; intro w1 H; simp only [pS]) | (with_reducible refine wpl rfl (Stp.stl rfl size47 rfl rfl rfl rfl H uP (by simp) ?_); clear H; intro w1 H; simp only [pS]; simp only [List.drop_succ_cons, List.drop_zero, List.take_succ_cons, List.take_zero, List.nil_append, List.cons_append, Nat.reduceAdd] at H) | (with_reducible refine wpl rfl (Stp.ldr rfl agg82 size82 rfl H mR sZ ?_); simp only [pS]) | (with_reducible refine wpl rfl (Stp.ldl rfl agg82 size82 rfl H mR (by simp) ?_); simp only [pS]; simp only [List.drop_succ_cons, List.drop_zero, List.take_succ_cons, List.take_zero]) | (with_reducible refine wpl rfl (Stp.ldor rfl agg82 size82 rfl H (by assumption) sZ (by assumption) ?_); simp only [pS]) | (with_reducible refine wpl rfl (Stp.alloc 10 rfl rfl zero47 H ?_); clear H; intro g10 w1 H; simp only [pS]; simp only [nC] at H) | (with_reducible refine wpl rfl (Stp.alloc 11 rfl rfl zero36 H ?_); clear H; intro g11 w1 H; simp only [pS]; simp only [nC] at H) | (with_reducible refine wpl rfl (Stp.str rfl size36 rfl rfl (by first | rfl | (simp [Value.oneCell']; done) | assumption) H uP sZ sZ ?_); clear H; intro w1 H; simp only [pS]) | (with_reducible refine wpl rfl (Stp.stl rfl size36 rfl rfl rfl rfl H uP (by simp) ?_); clear H; intro w1 H; simp only [pS]; simp only [List.drop_succ_cons, List.drop_zero, List.take_succ_cons, List.take_zero, List.nil_append, List.cons_append, Nat.reduceAdd] at H))
            go_roundw
            case rel => exact ⟨q + 1, cur2, pr2, _, y2, d2, hd2, R2, by omega, by omega, by go_num, HR2, HI2, ((H.pull (r := R2) pU).pull (r := row 78 g24 _) pU).sub sU⟩
            case measure => simp [intOf]; omega
        · have q60i : ¬ (q : Int) < 60 := by omega
          go_wp2_with (first | (go_at_call 19; (with_reducible refine (aw20_ok _).mono ?_); rintro e w1 ⟨v, rfl, hr⟩; obtain ⟨rfl, hb1⟩ := hr; replace H := H.grow hb1; clear hb1) | (with_reducible refine wpl rfl (Stp.box 24 rfl rfl rfl H ?_); clear H; intro g24 w1 H; simp only [pS]; simp only [pE, nC, pS] at H) | (with_reducible refine wpl rfl (Stp.alloc 8 rfl rfl zero47 H ?_); clear H; intro g8 w1 H; simp only [pS]; simp only [nC] at H) | (with_reducible refine wpl rfl (Stp.str rfl size47 rfl rfl (by first | rfl | (simp [Value.oneCell']; done) | assumption) H uP sZ sZ ?_); clear H; intro w1 H; simp only [pS]) | (with_reducible refine wpl rfl (Stp.stl rfl size47 rfl rfl rfl rfl H uP (by simp) ?_); clear H; intro w1 H; simp only [pS]; simp only [List.drop_succ_cons, List.drop_zero, List.take_succ_cons, List.take_zero, List.nil_append, List.cons_append, Nat.reduceAdd] at H) | (with_reducible refine wpl rfl (Stp.ldr rfl agg82 size82 rfl H mR sZ ?_); simp only [pS]) | (with_reducible refine wpl rfl (Stp.ldl rfl agg82 size82 rfl H mR (by simp) ?_); simp only [pS]; simp only [List.drop_succ_cons, List.drop_zero, List.take_succ_cons, List.take_zero]) | (with_reducible refine wpl rfl (Stp.ldor rfl agg82 size82 rfl H (by assumption) sZ (by assumption) ?_); simp only [pS]) | (with_reducible refine wpl rfl (Stp.alloc 10 rfl rfl zero47 H ?_); clear H; intro g10 w1 H; simp only [pS]; simp only [nC] at H) | (with_reducible refine wpl rfl (Stp.alloc 11 rfl rfl zero36 H ?_); clear H; intro g11 w1 H; simp only [pS]; simp only [nC] at H) | (with_reducible refine wpl rfl (Stp.str rfl size36 rfl rfl (by first | rfl | (simp [Value.oneCell']; done) | assumption) H uP sZ sZ ?_); clear H; intro w1 H; simp only [pS]) | (with_reducible refine wpl rfl (Stp.stl rfl size36 rfl rfl rfl rfl H uP (by simp) ?_); clear H; intro w1 H; simp only [pS]; simp only [List.drop_succ_cons, List.drop_zero, List.take_succ_cons, List.take_zero, List.nil_append, List.cons_append, Nat.reduceAdd] at H))
          go_ret
          exact ⟨_, rfl, rfl, H.below⟩
      · have qli : ¬ (q : Int) < (n : Int) := by omega
        go_wp2_with (first | (go_at_call 19; (with_reducible refine (aw20_ok _).mono ?_); rintro e w1 ⟨v, rfl, hr⟩; obtain ⟨rfl, hb1⟩ := hr; replace H := H.grow hb1; clear hb1) | (with_reducible refine wpl rfl (Stp.box 24 rfl rfl rfl H ?_); clear H; intro g24 w1 H; simp only [pS]; simp only [pE, nC, pS] at H) | (with_reducible refine wpl rfl (Stp.alloc 8 rfl rfl zero47 H ?_); clear H; intro g8 w1 H; simp only [pS]; simp only [nC] at H) | (with_reducible refine wpl rfl (Stp.str rfl size47 rfl rfl (by first | rfl | (simp [Value.oneCell']; done) | assumption) H uP sZ sZ ?_); clear H; intro w1 H; simp only [pS]) | (with_reducible refine wpl rfl (Stp.stl rfl size47 rfl rfl rfl rfl H uP (by simp) ?_); clear H; intro w1 H; simp only [pS]; simp only [List.drop_succ_cons, List.drop_zero, List.take_succ_cons, List.take_zero, List.nil_append, List.cons_append, Nat.reduceAdd] at H) | (with_reducible refine wpl rfl (Stp.ldr rfl agg82 size82 rfl H mR sZ ?_); simp only [pS]) | (with_reducible refine wpl rfl (Stp.ldl rfl agg82 size82 rfl H mR (by simp) ?_); simp only [pS]; simp only [List.drop_succ_cons, List.drop_zero, List.take_succ_cons, List.take_zero]) | (with_reducible refine wpl rfl (Stp.ldor rfl agg82 size82 rfl H (by assumption) sZ (by assumption) ?_); simp only [pS]) | (with_reducible refine wpl rfl (Stp.alloc 10 rfl rfl zero47 H ?_); clear H; intro g10 w1 H; simp only [pS]; simp only [nC] at H) | (with_reducible refine wpl rfl (Stp.alloc 11 rfl rfl zero36 H ?_); clear H; intro g11 w1 H; simp only [pS]; simp only [nC] at H) | (with_reducible refine wpl rfl (Stp.str rfl size36 rfl rfl (by first | rfl | (simp [Value.oneCell']; done) | assumption) H uP sZ sZ ?_); clear H; intro w1 H; simp only [pS]) | (with_reducible refine wpl rfl (Stp.stl rfl size36 rfl rfl rfl rfl H uP (by simp) ?_); clear H; intro w1 H; simp only [pS]; simp only [List.drop_succ_cons, List.drop_zero, List.take_succ_cons, List.take_zero, List.nil_append, List.cons_append, Nat.reduceAdd] at H))
        go_ret
        exact ⟨_, rfl, rfl, H.below⟩
  · clear he
    go_enter Try.func9, Try.ntmps9
    go_wp2_with (first | (go_at_call 36; (with_reducible refine (great20_n va vc l n HN.out _ (hs0.grow H.below) (fun a ha => (HXX.out a ha).grow H.below)).mono ?_); rintro e w1 ⟨v, rfl, hr⟩; obtain ⟨rfl, hb1⟩ := hr; replace H := H.grow hb1; clear hb1; rw [HE.out]) | (go_at_call 19; (with_reducible refine (aw20_ok _).mono ?_); rintro e w1 ⟨v, rfl, hr⟩; obtain ⟨rfl, hb1⟩ := hr; replace H := H.grow hb1; clear hb1) | (with_reducible refine wpl rfl (Stp.box 24 rfl rfl rfl H ?_); clear H; intro g24 w1 H; simp only [pS]; simp only [pE, nC, pS] at H) | (with_reducible refine wpl rfl (Stp.alloc 8 rfl rfl zero47 H ?_); clear H; intro g8 w1 H; simp only [pS]; simp only [nC] at H) | (with_reducible refine wpl rfl (Stp.str rfl size47 rfl rfl (by first | rfl | (simp [Value.oneCell']; done) | assumption) H uP sZ sZ ?_); clear H; intro w1 H; simp only [pS]) | (with_reducible refine wpl rfl (Stp.stl rfl size47 rfl rfl rfl rfl H uP (by simp) ?_); clear H; intro w1 H; simp only [pS]; simp only [List.drop_succ_cons, List.drop_zero, List.take_succ_cons, List.take_zero, List.nil_append, List.cons_append, Nat.reduceAdd] at H) | (with_reducible refine wpl rfl (Stp.ldr rfl agg82 size82 rfl H mR sZ ?_); simp only [pS]) | (with_reducible refine wpl rfl (Stp.ldl rfl agg82 size82 rfl H mR (by simp) ?_); simp only [pS]; simp only [List.drop_succ_cons, List.drop_zero, List.take_succ_cons, List.take_zero]) | (with_reducible refine wpl rfl (Stp.ldor rfl agg82 size82 rfl H (by assumption) sZ (by assumption) ?_); simp only [pS]) | (with_reducible refine wpl rfl (Stp.alloc 10 rfl rfl zero47 H ?_); clear H; intro g10 w1 H; simp only [pS]; simp only [nC] at H) | (with_reducible refine wpl rfl (Stp.alloc 11 rfl rfl zero36 H ?_); clear H; intro g11 w1 H; simp only [pS]; simp only [nC] at H) | (with_reducible refine wpl rfl (Stp.str rfl size36 rfl rfl (by first | rfl | (simp [Value.oneCell']; done) | assumption) H uP sZ sZ ?_); clear H; intro w1 H; simp only [pS]) | (with_reducible refine wpl rfl (Stp.stl rfl size36 rfl rfl rfl rfl H uP (by simp) ?_); clear H; intro w1 H; simp only [pS]; simp only [List.drop_succ_cons, List.drop_zero, List.take_succ_cons, List.take_zero, List.nil_append, List.cons_append, Nat.reduceAdd] at H))
    go_ret
    exact ⟨_, rfl, rfl, H.below⟩
set_option maxRecDepth 100000 in
theorem acceptGrows_lifted (os : Os) (started : os.Started) (H : Type) (enc : TypeId × Value → H) :
    ReturnsInHanded {} Try.checked os 9 .any (Rows.acceptGrowsSpec.pre6 enc Try.prog Try.f9 Rows.acceptGrowsRow.domain false) (Rows.acceptGrowsSpec.post enc Try.prog Try.f9 false true false false) := by
  refine law_lifted (C := Try.checked) own started (by kernel_rfl) Try.func9 laidOut rfl Try.underlying4 rfl (by kernel_rfl) (fun ds hd => ?_)
    (ChangeSpec.witness6 (enc := enc) (C := Try.checked) false ⟨#[], #[.int .u64 0, .slice none 0 0], []⟩ 8 (by kernel_rfl) (by kernel_rfl) (by kernel_rfl) (by kernel_rfl)) ?_
  · match ds, hd with
    | [d0, d1], _ => exact ⟨rfl, rfl, rfl⟩
  intro W base args ds p hval hA
  rw [Try.params9] at hA hval
  obtain ⟨v0, vs0, d0, ds0, p0, q0, hargs, rfl, rfl, h0, r0⟩ := trodAll_cons hA
  obtain ⟨v1, vs1, d1, ds1, p1, q1, rfl, rfl, rfl, h1, r1⟩ := trodAll_cons r0
  obtain ⟨rfl, rfl, rfl⟩ := trodAll_nil r1
  obtain rfl : args = #[v0, v1] := by cases args; simp_all
  obtain ⟨ni, rfl, _, _, nw⟩ := open_int Try.underlying26 (hval 0 26 v0 rfl rfl) h0
  obtain ⟨n, rfl, nb⟩ : ∃ q : Nat, ni = (q : Int) ∧ q < 18446744073709551616 := ⟨ni.toNat, by have := bounds_u64 nw; omega, by have := bounds_u64 nw; omega⟩
  obtain ⟨l, va, vc, rfl, hs, hx⟩ := open_aks (hval 1 74 v1 rfl rfl) h1
  exact law_agrows n nb va vc l W hs hx
theorem acceptGrows_over : Rows.acceptGrowsRow.holds Try.pinned (OpenSpec.ofChange Rows.acceptGrowsSpec) :=
  OpenClaim.holds_of_wide 9 Try.f9 rfl rfl rfl rfl rfl rfl rfl ⟨rfl, rfl, rfl, rfl, rfl⟩ rfl rfl rfl rfl rfl (by kernel_rfl) Try.func9 (by kernel_rfl)
    (of_decide_eq_true (by kernel_rfl)) (by unfold Func.isWrapper; first | (rw [if_pos (by decide +kernel)]; kernel_rfl) | (rw [if_neg (by decide +kernel)]; exact ⟨rfl, rfl⟩))
    (fun os started H enc _ => acceptGrows_lifted os started H enc)
theorem acceptGrows_holds : Rows.AcceptGrowsSaid := acceptGrows_over
#print axioms acceptGrows_holds
end Go.Proofs.Ytmokecicjmjkbaa
