/- Layer 19's reference's Unpack (choragusref19) on any bytes; the bounds stand in it. A board that comes in, opened; Load on any board; the calls' contracts in the words of the law's walk. -/
import Derived.Test.YtjghcmejmdllbaaBz17
import Derived.Test.YtjghcmejmdllbaaBz20
import Derived.Test.YtjghcmejmdllbaaBz15
import Derived.Test.YtjghcmejmdllbaaBz19
namespace Go.Proofs.Ytjghcmejmdllbaa
open Go.ChangeShapes Go.WideShapes Go.ChangeAt Go.RowKit Go.Deep
set_option linter.unusedVariables false
set_option linter.unusedSimpArgs false
set_option linter.unusedSectionVars false
set_option maxRecDepth 100000
set_option maxHeartbeats 2000000
theorem rrBytes16_ok {B : Nat} {w0 : World} {L M : List Res} (g : Nat) (s : Value) (l : List Nat) (e : Nat) (hb : Byt B w0 L s l) (hML : L.Sublist M) (w : World) (H : St B w0 w (row 149 g #[s, .int .i64 (e : Int)] :: M)) :
    Calls Try.prog 91 #[.pointer (some ⟨g, 0, none⟩), .int .i64 16] w (Ret fun v w' => ∃ s' ab cb d e', v = .slice ab d.length cb ∧ bytesF 16 (l, e) = (d, ((bytesF 16 (l, e)).2.1, e')) ∧ Byt B w0 L s' (bytesF 16 (l, e)).2.1 ∧ St B w0 w' (row 149 g #[s', .int .i64 (e' : Int)] :: slc 5 1 (.slice ab d.length cb) d.length (bv d) :: M)) := rrBytes_ok g s l e 16 hb (by omega) hML w H
theorem xunpack_ok (ap : Option Addr) (cp : Nat) (l : List Nat) (hcp : l.length ≤ cp) (hl : l.length ≤ 100000) (hx : ∀ x ∈ l, x < 256) (w : World) (hs : Sl w 1 l.length (.slice ap l.length cp) (elB l)) :
    Calls Try.prog 49 #[.slice ap l.length cp] w (Ret fun v' w' => v' = .tuple #[.agg (bcs (unF l).1), .int .i64 ((unF l).2 : Int)] ∧ Below w.heap.size w w') := by
  have H := St.init w
  have hb : Byt w.heap.size w [] (.slice ap l.length cp) l := ⟨ap, l.length, cp, rfl, rfl, hcp, hx, hl, Rd.of_old hs⟩
  go_enter Try.func49, Try.ntmps49
  go_wp2_with (first | (with_reducible refine wpl rfl (dQ 2 rfl ?_); with_reducible refine (Stp.alloc 2 rfl rfl zero46 H ?_); clear H; intro g2 w1 H; simp only [pS]; simp only [nC] at H) | (with_reducible refine wpl rfl (dQ 10 rfl ?_); with_reducible refine (Stp.box 10 rfl rfl rfl H ?_); clear H; intro g10 w1 H; simp only [pS]; simp only [pE, nC, pS] at H) | (with_reducible refine wpl rfl (dQ 5 rfl ?_); with_reducible refine (Stp.alloc 5 rfl rfl zero46 H ?_); clear H; intro g5 w1 H; simp only [pS]; simp only [nC] at H) | (with_reducible refine wpl rfl (stQ (ty := 46) rfl ?_); first | (with_reducible refine (Stp.str rfl size46 rfl rfl (by first | rfl | (simp [Value.oneCell']; done) | assumption) H uP sZ sZ ?_); clear H; intro w1 H; simp only [pS]) | (with_reducible refine (Stp.stl rfl size46 rfl rfl rfl rfl H uP (by simp) ?_); clear H; intro w1 H; simp only [pS]; simp only [List.drop_succ_cons, List.drop_zero, List.take_succ_cons, List.take_zero, List.nil_append, List.cons_append, Nat.reduceAdd] at H)) | (with_reducible refine wpl rfl (stQ (ty := 9) rfl ?_); first | (with_reducible refine (Stp.stc rfl size9 rfl rfl rfl rfl H uP (by first | omega | (simp; done) | (simp; omega)) ?_); clear H; intro w1 H; simp only [pS]; simp only [pE, nC, pS] at H)) | (with_reducible refine wpl rfl (ldQ (ty := 46) rfl ?_); first | (with_reducible refine (Stp.ldor rfl agg46 size46 rfl H (by assumption) sZ (by assumption) ?_); simp only [pS]) | (with_reducible refine (Stp.ldr rfl agg46 size46 rfl H mR sZ ?_); simp only [pS]) | (with_reducible refine (Stp.ldl rfl agg46 size46 rfl H mR (by simp) ?_); simp only [pS]; simp only [List.drop_succ_cons, List.drop_zero, List.take_succ_cons, List.take_zero])))
  go_loopw [6] (fun i wr => ∃ (kk : Nat) (b : Nat → ByteArray) (s1 : Value) (l1 : List Nat) (e1 : Nat), kk ≤ 8 ∧ i = .int .i64 (kk : Int) ∧ Hid (unL (8 - kk) kk (b, (l1, e1)) = unL 8 0 (fun _ => ByteArray.empty, (l, 0))) ∧ Byt w.heap.size w [] s1 l1 ∧ St w.heap.size w wr [row 149 g10 #[s1, .int .i64 (e1 : Int)], row 46 g5 (bcs b), row 46 g2 #[.string ByteArray.empty, .string ByteArray.empty, .string ByteArray.empty, .string ByteArray.empty, .string ByteArray.empty, .string ByteArray.empty, .string ByteArray.empty, .string ByteArray.empty]]) (fun i _ => 8 - (intOf i).toNat)
  case atStart => exact ⟨0, fun _ => ByteArray.empty, _, l, 0, by omega, rfl, Lib.hid rfl, hb, H.perm (.swap _ _ _)⟩
  case round =>
    clear H hb
    obtain ⟨kk, b, s1, l1, e1, hkk, rfl, HU, hb, H⟩ := hrel
    by_cases hlt : kk < 8
    · have hlti : (kk : Int) < 8 := by omega
      go_wp2_with (first | (with_reducible refine wpl rfl (dQ 2 rfl ?_); with_reducible refine (Stp.alloc 2 rfl rfl zero46 H ?_); clear H; intro g2 w1 H; simp only [pS]; simp only [nC] at H) | (with_reducible refine wpl rfl (dQ 10 rfl ?_); with_reducible refine (Stp.box 10 rfl rfl rfl H ?_); clear H; intro g10 w1 H; simp only [pS]; simp only [pE, nC, pS] at H) | (with_reducible refine wpl rfl (dQ 5 rfl ?_); with_reducible refine (Stp.alloc 5 rfl rfl zero46 H ?_); clear H; intro g5 w1 H; simp only [pS]; simp only [nC] at H) | (with_reducible refine wpl rfl (stQ (ty := 46) rfl ?_); first | (with_reducible refine (Stp.str rfl size46 rfl rfl (by first | rfl | (simp [Value.oneCell']; done) | assumption) H uP sZ sZ ?_); clear H; intro w1 H; simp only [pS]) | (with_reducible refine (Stp.stl rfl size46 rfl rfl rfl rfl H uP (by simp) ?_); clear H; intro w1 H; simp only [pS]; simp only [List.drop_succ_cons, List.drop_zero, List.take_succ_cons, List.take_zero, List.nil_append, List.cons_append, Nat.reduceAdd] at H)) | (with_reducible refine wpl rfl (stQ (ty := 9) rfl ?_); first | (with_reducible refine (Stp.stc rfl size9 rfl rfl rfl rfl H uP (by first | omega | (simp; done) | (simp; omega)) ?_); clear H; intro w1 H; simp only [pS]; simp only [pE, nC, pS] at H)) | (with_reducible refine wpl rfl (ldQ (ty := 46) rfl ?_); first | (with_reducible refine (Stp.ldor rfl agg46 size46 rfl H (by assumption) sZ (by assumption) ?_); simp only [pS]) | (with_reducible refine (Stp.ldr rfl agg46 size46 rfl H mR sZ ?_); simp only [pS]) | (with_reducible refine (Stp.ldl rfl agg46 size46 rfl H mR (by simp) ?_); simp only [pS]; simp only [List.drop_succ_cons, List.drop_zero, List.take_succ_cons, List.take_zero])))
      refine (rrBytes16_ok g10 s1 l1 e1 hb (List.nil_sublist _) _ H).mono ?_
      rintro e w1 ⟨v, rfl, s2, ab, cb, d, e2, rfl, h1, hb2, H2⟩
      clear H hb
      have H := H2
      clear H2
      have hd16 : d.length ≤ 16 := by have := bytesF_le (most := 16) (l := l1) (e := e1); rw [h1] at this; exact this
      go_wp2_with (first | (with_reducible refine wpl rfl (dQ 19 rfl ?_); with_reducible refine (Stp.b2s (l := d) (v := .slice ab d.length cb) 19 rfl rfl rfl (own_sla (H.getSlc (xs := bv d) mE) (by omega)) ?_); simp only [pS]) | (with_reducible refine wpl rfl (Stp.stc (off := kk) (v := .string (strOf d)) rfl size9 rfl rfl rfl rfl H uP (by rw [bcs_size]; omega) ?_); clear H; intro w1 H; simp only [pS]) | (with_reducible refine wpl rfl (dQ 2 rfl ?_); with_reducible refine (Stp.alloc 2 rfl rfl zero46 H ?_); clear H; intro g2 w1 H; simp only [pS]; simp only [nC] at H) | (with_reducible refine wpl rfl (dQ 10 rfl ?_); with_reducible refine (Stp.box 10 rfl rfl rfl H ?_); clear H; intro g10 w1 H; simp only [pS]; simp only [pE, nC, pS] at H) | (with_reducible refine wpl rfl (dQ 5 rfl ?_); with_reducible refine (Stp.alloc 5 rfl rfl zero46 H ?_); clear H; intro g5 w1 H; simp only [pS]; simp only [nC] at H) | (with_reducible refine wpl rfl (stQ (ty := 46) rfl ?_); first | (with_reducible refine (Stp.str rfl size46 rfl rfl (by first | rfl | (simp [Value.oneCell']; done) | assumption) H uP sZ sZ ?_); clear H; intro w1 H; simp only [pS]) | (with_reducible refine (Stp.stl rfl size46 rfl rfl rfl rfl H uP (by simp) ?_); clear H; intro w1 H; simp only [pS]; simp only [List.drop_succ_cons, List.drop_zero, List.take_succ_cons, List.take_zero, List.nil_append, List.cons_append, Nat.reduceAdd] at H)) | (with_reducible refine wpl rfl (stQ (ty := 9) rfl ?_); first | (with_reducible refine (Stp.stc rfl size9 rfl rfl rfl rfl H uP (by first | omega | (simp; done) | (simp; omega)) ?_); clear H; intro w1 H; simp only [pS]; simp only [pE, nC, pS] at H)) | (with_reducible refine wpl rfl (ldQ (ty := 46) rfl ?_); first | (with_reducible refine (Stp.ldor rfl agg46 size46 rfl H (by assumption) sZ (by assumption) ?_); simp only [pS]) | (with_reducible refine (Stp.ldr rfl agg46 size46 rfl H mR sZ ?_); simp only [pS]) | (with_reducible refine (Stp.ldl rfl agg46 size46 rfl H mR (by simp) ?_); simp only [pS]; simp only [List.drop_succ_cons, List.drop_zero, List.take_succ_cons, List.take_zero])))
      go_roundw
      case rel =>
        rw [bcs_put b kk hlt] at H
        refine ⟨kk + 1, bputU b kk (strOf d), s2, _, e2, by omega, by go_num, Lib.hid ?_, hb2, H.sub sU⟩
        rw [← HU.out, show 8 - kk = (8 - (kk + 1)) + 1 by omega]
        show _ = unL _ (kk + 1) (bputU b kk (strOf (bytesF 16 (l1, e1)).1), (bytesF 16 (l1, e1)).2)
        rw [h1]
      case measure => simp [intOf]; omega
    · obtain rfl : kk = 8 := by omega
      have hu : (b, (l1, e1)) = unL 8 0 (fun _ => ByteArray.empty, (l, 0)) := HU.out
      have huf : unF l = if endF (l1, e1) ≠ 0 then (fun _ => ByteArray.empty, endF (l1, e1)) else (b, 0) := by unfold unF; rw [← hu]
      clear hu HU
      obtain ⟨f, hf⟩ : ∃ f, endF (l1, e1) = f := ⟨_, rfl⟩
      rw [hf] at huf
      have HF := Lib.hid hf
      clear hf
      by_cases h0 : f ≠ 0
      · rw [if_pos h0] at huf
        have HV := Lib.hid huf
        have hfi : ((f : Int) != 0) = true := by simp; omega
        clear huf h0 hlt hkk
        unfold bcs at H
        go_wp2_with (first | (with_reducible refine wpl rfl (dQ 2 rfl ?_); with_reducible refine (Stp.alloc 2 rfl rfl zero46 H ?_); clear H; intro g2 w1 H; simp only [pS]; simp only [nC] at H) | (with_reducible refine wpl rfl (dQ 10 rfl ?_); with_reducible refine (Stp.box 10 rfl rfl rfl H ?_); clear H; intro g10 w1 H; simp only [pS]; simp only [pE, nC, pS] at H) | (with_reducible refine wpl rfl (dQ 5 rfl ?_); with_reducible refine (Stp.alloc 5 rfl rfl zero46 H ?_); clear H; intro g5 w1 H; simp only [pS]; simp only [nC] at H) | (with_reducible refine wpl rfl (stQ (ty := 46) rfl ?_); first | (with_reducible refine (Stp.str rfl size46 rfl rfl (by first | rfl | (simp [Value.oneCell']; done) | assumption) H uP sZ sZ ?_); clear H; intro w1 H; simp only [pS]) | (with_reducible refine (Stp.stl rfl size46 rfl rfl rfl rfl H uP (by simp) ?_); clear H; intro w1 H; simp only [pS]; simp only [List.drop_succ_cons, List.drop_zero, List.take_succ_cons, List.take_zero, List.nil_append, List.cons_append, Nat.reduceAdd] at H)) | (with_reducible refine wpl rfl (stQ (ty := 9) rfl ?_); first | (with_reducible refine (Stp.stc rfl size9 rfl rfl rfl rfl H uP (by first | omega | (simp; done) | (simp; omega)) ?_); clear H; intro w1 H; simp only [pS]; simp only [pE, nC, pS] at H)) | (with_reducible refine wpl rfl (ldQ (ty := 46) rfl ?_); first | (with_reducible refine (Stp.ldor rfl agg46 size46 rfl H (by assumption) sZ (by assumption) ?_); simp only [pS]) | (with_reducible refine (Stp.ldr rfl agg46 size46 rfl H mR sZ ?_); simp only [pS]) | (with_reducible refine (Stp.ldl rfl agg46 size46 rfl H mR (by simp) ?_); simp only [pS]; simp only [List.drop_succ_cons, List.drop_zero, List.take_succ_cons, List.take_zero])))
        refine (rrEnd_ok g10 s1 l1 e1 hb _ H).mono ?_
        rintro e w1 ⟨v, rfl, rfl, H2⟩
        clear H hb
        have H := H2
        clear H2
        rw [HF.out]
        go_wp2_with (first | (with_reducible refine wpl rfl (dQ 2 rfl ?_); with_reducible refine (Stp.alloc 2 rfl rfl zero46 H ?_); clear H; intro g2 w1 H; simp only [pS]; simp only [nC] at H) | (with_reducible refine wpl rfl (dQ 10 rfl ?_); with_reducible refine (Stp.box 10 rfl rfl rfl H ?_); clear H; intro g10 w1 H; simp only [pS]; simp only [pE, nC, pS] at H) | (with_reducible refine wpl rfl (dQ 5 rfl ?_); with_reducible refine (Stp.alloc 5 rfl rfl zero46 H ?_); clear H; intro g5 w1 H; simp only [pS]; simp only [nC] at H) | (with_reducible refine wpl rfl (stQ (ty := 46) rfl ?_); first | (with_reducible refine (Stp.str rfl size46 rfl rfl (by first | rfl | (simp [Value.oneCell']; done) | assumption) H uP sZ sZ ?_); clear H; intro w1 H; simp only [pS]) | (with_reducible refine (Stp.stl rfl size46 rfl rfl rfl rfl H uP (by simp) ?_); clear H; intro w1 H; simp only [pS]; simp only [List.drop_succ_cons, List.drop_zero, List.take_succ_cons, List.take_zero, List.nil_append, List.cons_append, Nat.reduceAdd] at H)) | (with_reducible refine wpl rfl (stQ (ty := 9) rfl ?_); first | (with_reducible refine (Stp.stc rfl size9 rfl rfl rfl rfl H uP (by first | omega | (simp; done) | (simp; omega)) ?_); clear H; intro w1 H; simp only [pS]; simp only [pE, nC, pS] at H)) | (with_reducible refine wpl rfl (ldQ (ty := 46) rfl ?_); first | (with_reducible refine (Stp.ldor rfl agg46 size46 rfl H (by assumption) sZ (by assumption) ?_); simp only [pS]) | (with_reducible refine (Stp.ldr rfl agg46 size46 rfl H mR sZ ?_); simp only [pS]) | (with_reducible refine (Stp.ldl rfl agg46 size46 rfl H mR (by simp) ?_); simp only [pS]; simp only [List.drop_succ_cons, List.drop_zero, List.take_succ_cons, List.take_zero])))
        exact post_row2 rfl agg46 size46 rfl H mE rfl rfl ⟨_, rfl, by rw [HV.out]; rfl, H.below⟩
      · rw [if_neg h0] at huf
        have HV := Lib.hid huf
        obtain rfl : f = 0 := by omega
        have hfi : (((0 : Nat) : Int) != 0) = false := by simp
        clear huf h0 hlt hkk
        unfold bcs at H
        go_wp2_with (first | (with_reducible refine wpl rfl (dQ 2 rfl ?_); with_reducible refine (Stp.alloc 2 rfl rfl zero46 H ?_); clear H; intro g2 w1 H; simp only [pS]; simp only [nC] at H) | (with_reducible refine wpl rfl (dQ 10 rfl ?_); with_reducible refine (Stp.box 10 rfl rfl rfl H ?_); clear H; intro g10 w1 H; simp only [pS]; simp only [pE, nC, pS] at H) | (with_reducible refine wpl rfl (dQ 5 rfl ?_); with_reducible refine (Stp.alloc 5 rfl rfl zero46 H ?_); clear H; intro g5 w1 H; simp only [pS]; simp only [nC] at H) | (with_reducible refine wpl rfl (stQ (ty := 46) rfl ?_); first | (with_reducible refine (Stp.str rfl size46 rfl rfl (by first | rfl | (simp [Value.oneCell']; done) | assumption) H uP sZ sZ ?_); clear H; intro w1 H; simp only [pS]) | (with_reducible refine (Stp.stl rfl size46 rfl rfl rfl rfl H uP (by simp) ?_); clear H; intro w1 H; simp only [pS]; simp only [List.drop_succ_cons, List.drop_zero, List.take_succ_cons, List.take_zero, List.nil_append, List.cons_append, Nat.reduceAdd] at H)) | (with_reducible refine wpl rfl (stQ (ty := 9) rfl ?_); first | (with_reducible refine (Stp.stc rfl size9 rfl rfl rfl rfl H uP (by first | omega | (simp; done) | (simp; omega)) ?_); clear H; intro w1 H; simp only [pS]; simp only [pE, nC, pS] at H)) | (with_reducible refine wpl rfl (ldQ (ty := 46) rfl ?_); first | (with_reducible refine (Stp.ldor rfl agg46 size46 rfl H (by assumption) sZ (by assumption) ?_); simp only [pS]) | (with_reducible refine (Stp.ldr rfl agg46 size46 rfl H mR sZ ?_); simp only [pS]) | (with_reducible refine (Stp.ldl rfl agg46 size46 rfl H mR (by simp) ?_); simp only [pS]; simp only [List.drop_succ_cons, List.drop_zero, List.take_succ_cons, List.take_zero])))
        refine (rrEnd_ok g10 s1 l1 e1 hb _ H).mono ?_
        rintro e w1 ⟨v, rfl, rfl, H2⟩
        clear H hb
        have H := H2
        clear H2
        rw [HF.out]
        go_wp2_with (first | (with_reducible refine wpl rfl (dQ 2 rfl ?_); with_reducible refine (Stp.alloc 2 rfl rfl zero46 H ?_); clear H; intro g2 w1 H; simp only [pS]; simp only [nC] at H) | (with_reducible refine wpl rfl (dQ 10 rfl ?_); with_reducible refine (Stp.box 10 rfl rfl rfl H ?_); clear H; intro g10 w1 H; simp only [pS]; simp only [pE, nC, pS] at H) | (with_reducible refine wpl rfl (dQ 5 rfl ?_); with_reducible refine (Stp.alloc 5 rfl rfl zero46 H ?_); clear H; intro g5 w1 H; simp only [pS]; simp only [nC] at H) | (with_reducible refine wpl rfl (stQ (ty := 46) rfl ?_); first | (with_reducible refine (Stp.str rfl size46 rfl rfl (by first | rfl | (simp [Value.oneCell']; done) | assumption) H uP sZ sZ ?_); clear H; intro w1 H; simp only [pS]) | (with_reducible refine (Stp.stl rfl size46 rfl rfl rfl rfl H uP (by simp) ?_); clear H; intro w1 H; simp only [pS]; simp only [List.drop_succ_cons, List.drop_zero, List.take_succ_cons, List.take_zero, List.nil_append, List.cons_append, Nat.reduceAdd] at H)) | (with_reducible refine wpl rfl (stQ (ty := 9) rfl ?_); first | (with_reducible refine (Stp.stc rfl size9 rfl rfl rfl rfl H uP (by first | omega | (simp; done) | (simp; omega)) ?_); clear H; intro w1 H; simp only [pS]; simp only [pE, nC, pS] at H)) | (with_reducible refine wpl rfl (ldQ (ty := 46) rfl ?_); first | (with_reducible refine (Stp.ldor rfl agg46 size46 rfl H (by assumption) sZ (by assumption) ?_); simp only [pS]) | (with_reducible refine (Stp.ldr rfl agg46 size46 rfl H mR sZ ?_); simp only [pS]) | (with_reducible refine (Stp.ldl rfl agg46 size46 rfl H mR (by simp) ?_); simp only [pS]; simp only [List.drop_succ_cons, List.drop_zero, List.take_succ_cons, List.take_zero])))
        exact post_row2 rfl agg46 size46 rfl H mE rfl rfl ⟨_, rfl, by rw [HV.out]; rfl, H.below⟩
end Go.Proofs.Ytjghcmejmdllbaa

namespace Go.Proofs.Ytjghcmejmdllbaa
open Go.ChangeShapes Go.WideShapes Go.ChangeAt Go.RowKit Go.Maps Go.Deep
set_option linter.unusedVariables false
set_option linter.unusedSimpArgs false
set_option linter.unusedSectionVars false
set_option maxRecDepth 100000
set_option maxHeartbeats 4000000
section
variable {H : Type} {enc : TypeId × Value → H}
theorem open_bd {W : World} {base : Nat} {v : Value} {d : DataW H} {p : List MemPlace} (hv : Value.okWide Try.prog W .any base 46 v) (h : DataW.Trod enc Try.prog W 0 (fun _ => true) true 46 v d p) :
    ∃ b : Nat → ByteArray, v = .agg #[.string (b 0), .string (b 1), .string (b 2), .string (b 3), .string (b 4), .string (b 5), .string (b 6), .string (b 7)] ∧ ∀ i, (byL (b i)).length ≤ maxLen := by
  unfold Value.okWide at hv
  simp only [Try.underlying46] at hv
  obtain ⟨cs, rfl, hs, _⟩ := hv
  obtain ⟨fuel, hf⟩ := h
  obtain ⟨xs, m, _, _, hl, hx, hfl⟩ := DataW.trod_array Try.underlying46 hf
  have hC8 : Try.prog.cellsOf 46 = 8 := by kernel_rfl
  have hC1 : Try.prog.cellsOf 9 = 1 := by kernel_rfl
  rw [hC8] at hl
  obtain ⟨cl⟩ := cs
  replace hl : cl.length = 8 := hl
  dsimp only [Value.cells] at hfl
  match cl, hl with
  | [c0, c1, c2, c3, c4, c5, c6, c7], _ =>
    have h0 := hfl 0 (by decide)
    rw [List.getElem?_eq_getElem (by omega), hC1] at h0
    obtain ⟨s0, e0, _, z0⟩ := DataW.trod_string Try.underlying9 h0
    simp only [Value.cells, Nat.mul_one, List.drop_succ_cons, List.drop_zero, List.take_succ_cons, List.take_zero, List.cons.injEq, and_true] at e0
    subst e0
    have h1 := hfl 1 (by decide)
    rw [List.getElem?_eq_getElem (by omega), hC1] at h1
    obtain ⟨s1, e1, _, z1⟩ := DataW.trod_string Try.underlying9 h1
    simp only [Value.cells, Nat.mul_one, List.drop_succ_cons, List.drop_zero, List.take_succ_cons, List.take_zero, List.cons.injEq, and_true] at e1
    subst e1
    have h2 := hfl 2 (by decide)
    rw [List.getElem?_eq_getElem (by omega), hC1] at h2
    obtain ⟨s2, e2, _, z2⟩ := DataW.trod_string Try.underlying9 h2
    simp only [Value.cells, Nat.mul_one, List.drop_succ_cons, List.drop_zero, List.take_succ_cons, List.take_zero, List.cons.injEq, and_true] at e2
    subst e2
    have h3 := hfl 3 (by decide)
    rw [List.getElem?_eq_getElem (by omega), hC1] at h3
    obtain ⟨s3, e3, _, z3⟩ := DataW.trod_string Try.underlying9 h3
    simp only [Value.cells, Nat.mul_one, List.drop_succ_cons, List.drop_zero, List.take_succ_cons, List.take_zero, List.cons.injEq, and_true] at e3
    subst e3
    have h4 := hfl 4 (by decide)
    rw [List.getElem?_eq_getElem (by omega), hC1] at h4
    obtain ⟨s4, e4, _, z4⟩ := DataW.trod_string Try.underlying9 h4
    simp only [Value.cells, Nat.mul_one, List.drop_succ_cons, List.drop_zero, List.take_succ_cons, List.take_zero, List.cons.injEq, and_true] at e4
    subst e4
    have h5 := hfl 5 (by decide)
    rw [List.getElem?_eq_getElem (by omega), hC1] at h5
    obtain ⟨s5, e5, _, z5⟩ := DataW.trod_string Try.underlying9 h5
    simp only [Value.cells, Nat.mul_one, List.drop_succ_cons, List.drop_zero, List.take_succ_cons, List.take_zero, List.cons.injEq, and_true] at e5
    subst e5
    have h6 := hfl 6 (by decide)
    rw [List.getElem?_eq_getElem (by omega), hC1] at h6
    obtain ⟨s6, e6, _, z6⟩ := DataW.trod_string Try.underlying9 h6
    simp only [Value.cells, Nat.mul_one, List.drop_succ_cons, List.drop_zero, List.take_succ_cons, List.take_zero, List.cons.injEq, and_true] at e6
    subst e6
    have h7 := hfl 7 (by decide)
    rw [List.getElem?_eq_getElem (by omega), hC1] at h7
    obtain ⟨s7, e7, _, z7⟩ := DataW.trod_string Try.underlying9 h7
    simp only [Value.cells, Nat.mul_one, List.drop_succ_cons, List.drop_zero, List.take_succ_cons, List.take_zero, List.cons.injEq, and_true] at e7
    subst e7
    refine ⟨fun i => ([s0, s1, s2, s3, s4, s5, s6, s7] : List ByteArray).getD i ByteArray.empty, rfl, fun i => ?_⟩
    rw [byL_len]
    have hi : i = 0 ∨ i = 1 ∨ i = 2 ∨ i = 3 ∨ i = 4 ∨ i = 5 ∨ i = 6 ∨ i = 7 ∨ 8 ≤ i := by omega
    rcases hi with rfl | rfl | rfl | rfl | rfl | rfl | rfl | rfl | hi
    · exact z0
    · exact z1
    · exact z2
    · exact z3
    · exact z4
    · exact z5
    · exact z6
    · exact z7
    · have hz : ([s0, s1, s2, s3, s4, s5, s6, s7] : List ByteArray).getD i ByteArray.empty = ByteArray.empty := by
        rw [List.getD, List.getElem?_eq_none (by simpa using hi)]; rfl
      show (([s0, s1, s2, s3, s4, s5, s6, s7] : List ByteArray).getD i ByteArray.empty).size ≤ maxLen
      rw [hz]
      show (0 : Nat) ≤ maxLen
      exact Nat.zero_le _
theorem open_bsc {W : World} {base : Nat} {v : Value} {d : DataW H} {p : List MemPlace} (hv : Value.okWide Try.prog W .any base 37 v) (h : DataW.Trod enc Try.prog W 0 (fun _ => true) true 37 v d p) :
    ∃ (a : Option Addr) (c : Nat) (l : List Nat), v = .slice a l.length c ∧ l.length ≤ c ∧ (∀ x ∈ l, x < 256) ∧ Sl W 1 l.length (.slice a l.length c) (elB l) := by
  obtain ⟨l, hx, hs⟩ := open_bs hv h
  have hcap := cap_in Try.underlying37 hv h
  obtain ⟨a, c, rfl, hm, hh⟩ := id hs
  exact ⟨a, c, l, rfl, hcap _ _ _ rfl, hx, hs⟩
end
/-! ### The contracts in the walk's words -/
theorem smayE_ok (b : Nat → ByteArray) (r : Bool) (hr : mayN 8 0 b = r) (w : World) : Calls Try.prog 69 #[.agg #[.string (b 0), .string (b 1), .string (b 2), .string (b 3), .string (b 4), .string (b 5), .string (b 6), .string (b 7)]] w (Ret fun v w' => v = .bool r ∧ Below w.heap.size w w') := by
  subst hr; exact smayG_ok b w
theorem xmayE_ok (b : Nat → ByteArray) (r : Bool) (hr : mayN 8 0 b = r) (w : World) : Calls Try.prog 50 #[.agg #[.string (b 0), .string (b 1), .string (b 2), .string (b 3), .string (b 4), .string (b 5), .string (b 6), .string (b 7)]] w (Ret fun v w' => v = .bool r ∧ Below w.heap.size w w') := by
  subst hr; exact xmayG_ok b w
theorem sunE_ok (ap : Option Addr) (n cp : Nat) (l : List Nat) (hn : l.length = n) (hl : n ≤ 100000) (hx : ∀ x ∈ l, x < 256) (X : Nat → ByteArray) (e : Nat) (hu : bcs (unF l).1 = bcs X ∧ (unF l).2 = e) (w : World) (hs : Sl w 1 n (.slice ap n cp) (elB l)) :
    Calls Try.prog 48 #[.slice ap n cp] w (Ret fun v' w' => v' = .tuple #[.agg #[.string (X 0), .string (X 1), .string (X 2), .string (X 3), .string (X 4), .string (X 5), .string (X 6), .string (X 7)], .int .i64 (e : Int)] ∧ Below w.heap.size w w') := by
  subst hn
  refine (sunpack_ok _ l hl hx w hs).mono ?_
  rintro o w1 ⟨v, rfl, rfl, hb⟩
  exact ⟨_, rfl, by rw [hu.1, hu.2]; rfl, hb⟩
theorem xunE_ok (ap : Option Addr) (n cp : Nat) (l : List Nat) (hn : l.length = n) (hcp : n ≤ cp) (hl : n ≤ 100000) (hx : ∀ x ∈ l, x < 256) (X : Nat → ByteArray) (e : Nat) (hu : bcs (unF l).1 = bcs X ∧ (unF l).2 = e) (w : World) (hs : Sl w 1 n (.slice ap n cp) (elB l)) :
    Calls Try.prog 49 #[.slice ap n cp] w (Ret fun v' w' => v' = .tuple #[.agg #[.string (X 0), .string (X 1), .string (X 2), .string (X 3), .string (X 4), .string (X 5), .string (X 6), .string (X 7)], .int .i64 (e : Int)] ∧ Below w.heap.size w w') := by
  subst hn
  refine (xunpack_ok ap cp l hcp hl hx w hs).mono ?_
  rintro o w1 ⟨v, rfl, rfl, hb⟩
  exact ⟨_, rfl, by rw [hu.1, hu.2]; rfl, hb⟩
theorem spE_ok (b : Nat → ByteArray) (hm63 : ∀ i, (byL (b i)).length ≤ maxLen) (P : List Nat) (n : Nat) (hP : packF b = P) (hn : P.length = n) (w : World) : Calls Try.prog 51 #[.agg #[.string (b 0), .string (b 1), .string (b 2), .string (b 3), .string (b 4), .string (b 5), .string (b 6), .string (b 7)]] w (Ret fun v w' => ∃ ap cp, v = .slice ap n cp ∧ w'.ownsRow w.heap.size 5 1 (.slice ap n cp) n (bv P) ∧ Below w.heap.size w w') := by
  subst hP hn
  refine (spack_ok b hm63 w).mono ?_
  rintro o w1 ⟨v, rfl, ⟨ap, cp, rfl⟩, h2, hb⟩
  exact ⟨_, rfl, ap, cp, rfl, h2, hb⟩
theorem xpE_ok (b : Nat → ByteArray) (hm63 : ∀ i, (byL (b i)).length ≤ maxLen) (P : List Nat) (n : Nat) (hP : packF b = P) (hn : P.length = n) (w : World) : Calls Try.prog 52 #[.agg #[.string (b 0), .string (b 1), .string (b 2), .string (b 3), .string (b 4), .string (b 5), .string (b 6), .string (b 7)]] w (Ret fun v w' => ∃ ap cp, v = .slice ap n cp ∧ w'.ownsRow w.heap.size 5 1 (.slice ap n cp) n (bv P) ∧ Below w.heap.size w w') := by
  subst hP hn
  refine (xpack_ok b hm63 w).mono ?_
  rintro o w1 ⟨v, rfl, ⟨ap, cp, rfl⟩, h2, hb⟩
  exact ⟨_, rfl, ap, cp, rfl, h2, hb⟩
theorem snewz_ok {B : Nat} {w0 : World} {L : List Res} (w : World) (H : St B w0 w L) :
    Calls Try.prog 14 #[.agg #[.int .u64 0, .slice none 0 0, .slice none 0 0, .slice none 0 0]] w (Ret fun v w' => ∃ g0 R, v = .pointer (some ⟨g0, 0, none⟩) ∧ StaR g0 vw0 [] bd0 R ∧ St B w0 w' (R :: L)) :=
  snew_ok (G1 := fun _ => False) vw0 none none none 0 0 0 ⟨Nat.zero_le _, Nat.zero_le _, fun l hl => absurd hl List.not_mem_nil, Nat.zero_le _⟩ w (fun W _ _ => VwG.nil _ W 0) H
theorem sloadG_ok {B : Nat} {w0 : World} {L : List Res} (g0 : Nat) (x : Vw) (M : List (Pr × Nat)) (b b2 : Nat → ByteArray) (m : Bool) (hm : mayN 8 0 b2 = m) (R : Res) (hR : StaR g0 x M b R) (w : World) (H : St B w0 w (R :: L)) :
    Calls Try.prog 26 #[.pointer (some ⟨g0, 0, none⟩), .agg #[.string (b2 0), .string (b2 1), .string (b2 2), .string (b2 3), .string (b2 4), .string (b2 5), .string (b2 6), .string (b2 7)]] w (Ret fun v w' => v = .bool m ∧ ∃ R', StaR g0 x M (if m = true then b2 else b) R' ∧ St B w0 w' (R' :: L)) := by
  obtain ⟨ma, la, da, mc, lc, dc, gm, G, rfl⟩ := hR
  replace H := H.part.swap.part.pull (r := row 116 g0 (stC x ma la da mc lc dc gm b)) pU
  replace H := (H.pull (r := vwr G _ _ _ x) pU).swap
  have HMN := Lib.hid hm
  clear hm
  cases m
  · go_enter Try.func26, Try.ntmps26
    go_wp2_with (first | (go_at_call 69; (with_reducible refine (smayE_ok b2 _ HMN.out _).mono ?_); rintro e w1 ⟨v, rfl, hr⟩; obtain ⟨rfl, hb1⟩ := hr; replace H := H.grow hb1; clear hb1) | (with_reducible refine wpl rfl (dQ 3 rfl ?_); with_reducible refine (Stp.box 3 rfl rfl rfl H ?_); clear H; intro g3 w1 H; simp only [pS]; simp only [pE, nC, pS] at H) | (with_reducible refine wpl rfl (ldQ (ty := 46) rfl ?_); first | (with_reducible refine (Stp.ldor rfl agg46 size46 rfl H (by assumption) sZ (by assumption) ?_); simp only [pS]) | (with_reducible refine (Stp.ldr rfl agg46 size46 rfl H mR sZ ?_); simp only [pS]) | (with_reducible refine (Stp.ldl rfl agg46 size46 rfl H mR (by simp) ?_); simp only [pS]; simp only [List.drop_succ_cons, List.drop_zero, List.take_succ_cons, List.take_zero])) | (with_reducible refine wpl rfl (stQ (ty := 46) rfl ?_); first | (with_reducible refine (Stp.str rfl size46 rfl rfl (by first | rfl | (simp [Value.oneCell']; done) | assumption) H uP sZ sZ ?_); clear H; intro w1 H; simp only [pS]) | (with_reducible refine (Stp.stl rfl size46 rfl rfl rfl rfl H uP (by simp) ?_); clear H; intro w1 H; simp only [pS]; simp only [List.drop_succ_cons, List.drop_zero, List.take_succ_cons, List.take_zero, List.nil_append, List.cons_append, Nat.reduceAdd] at H)))
    go_ret
    refine ⟨_, rfl, rfl, _, _, ⟨ma, la, da, mc, lc, dc, gm, G, rfl⟩, ?_⟩
    exact ((((H.pull (r := mapr Try.prog 36 ekP evL gm M) pU).pull (r := vwr G _ _ _ x) pU).sep.pull (r := row 116 g0 (stC x ma la da mc lc dc gm b)) pU).sep).sub (L' := Go.Proofs.Ytjghcmejmdllbaa.sep (row 116 g0 (stC x ma la da mc lc dc gm b)) (Go.Proofs.Ytjghcmejmdllbaa.sep (vwr G (.slice ma x.mem.length mc) (.slice la x.lvs.length lc) (.slice da x.ldr.length dc) x) (mapr Try.prog 36 ekP evL gm M)) :: L) sU
  · go_enter Try.func26, Try.ntmps26
    go_wp2_with (first | (go_at_call 69; (with_reducible refine (smayE_ok b2 _ HMN.out _).mono ?_); rintro e w1 ⟨v, rfl, hr⟩; obtain ⟨rfl, hb1⟩ := hr; replace H := H.grow hb1; clear hb1) | (with_reducible refine wpl rfl (dQ 3 rfl ?_); with_reducible refine (Stp.box 3 rfl rfl rfl H ?_); clear H; intro g3 w1 H; simp only [pS]; simp only [pE, nC, pS] at H) | (with_reducible refine wpl rfl (ldQ (ty := 46) rfl ?_); first | (with_reducible refine (Stp.ldor rfl agg46 size46 rfl H (by assumption) sZ (by assumption) ?_); simp only [pS]) | (with_reducible refine (Stp.ldr rfl agg46 size46 rfl H mR sZ ?_); simp only [pS]) | (with_reducible refine (Stp.ldl rfl agg46 size46 rfl H mR (by simp) ?_); simp only [pS]; simp only [List.drop_succ_cons, List.drop_zero, List.take_succ_cons, List.take_zero])) | (with_reducible refine wpl rfl (stQ (ty := 46) rfl ?_); first | (with_reducible refine (Stp.str rfl size46 rfl rfl (by first | rfl | (simp [Value.oneCell']; done) | assumption) H uP sZ sZ ?_); clear H; intro w1 H; simp only [pS]) | (with_reducible refine (Stp.stl rfl size46 rfl rfl rfl rfl H uP (by simp) ?_); clear H; intro w1 H; simp only [pS]; simp only [List.drop_succ_cons, List.drop_zero, List.take_succ_cons, List.take_zero, List.nil_append, List.cons_append, Nat.reduceAdd] at H)))
    go_ret
    refine ⟨_, rfl, rfl, _, _, ⟨ma, la, da, mc, lc, dc, gm, G, rfl⟩, ?_⟩
    exact ((((H.pull (r := mapr Try.prog 36 ekP evL gm M) pU).pull (r := vwr G _ _ _ x) pU).sep.pull (r := row 116 g0 (stC x ma la da mc lc dc gm b2)) pU).sep).sub (L' := Go.Proofs.Ytjghcmejmdllbaa.sep (row 116 g0 (stC x ma la da mc lc dc gm b2)) (Go.Proofs.Ytjghcmejmdllbaa.sep (vwr G (.slice ma x.mem.length mc) (.slice la x.lvs.length lc) (.slice da x.ldr.length dc) x) (mapr Try.prog 36 ekP evL gm M)) :: L) sU
theorem sboardz_ok (g0 : Nat) (x : Vw) (M : List (Pr × Nat)) (w : World) (hat : StAt w g0 x M bd0) :
    Calls Try.prog 24 #[.pointer (some ⟨g0, 0, none⟩)] w (Ret fun v w' => v = .agg #[.string ByteArray.empty, .string ByteArray.empty, .string ByteArray.empty, .string ByteArray.empty, .string ByteArray.empty, .string ByteArray.empty, .string ByteArray.empty, .string ByteArray.empty] ∧ Below w.heap.size w w') := sboard_ok g0 x M bd0 w hat
end Go.Proofs.Ytjghcmejmdllbaa
