/- The functions handed to two: Add's, Sub's, Mul's, Div's. -/
import Derived.Test.YtigeipjkcidleaaGreatDoorExT
import Derived.Test.YtigeipjkcidleaaGreatDoorExS
namespace Go.Proofs.YtigeipjkcidleaaGreatDoor
open Go.RowKit

theorem Nm.open' {W : World} {x : Value} {m : Bool} {n d : Nat} (h : Nm W x m n d) : ∃ A c A' c', x = .agg #[.bool m, .slice A (Nt.digs n).length c, .slice A' (Nt.digs d).length c'] ∧ Nv W (.slice A (Nt.digs n).length c) (Nt.digs n) ∧ Nv W (.slice A' (Nt.digs d).length c') (Nt.digs d) := by
  obtain ⟨A1, c1, A2, c2, h1, h2, h3⟩ := h.at'
  exact ⟨A1, c1, A2, c2, h1, h2, h3⟩
theorem sum_o (A1 : Option Addr) (c1 : Nat) (A2 : Option Addr) (c2 : Nat) (B1 : Option Addr) (k1 : Nat) (B2 : Option Addr) (k2 : Nat) (m1 : Bool) (n1 d1 : Nat) (m2 : Bool) (n2 d2 : Nat) (w : World) (h1 : Nv w (.slice A1 (Nt.digs n1).length c1) (Nt.digs n1)) (h2 : Nv w (.slice A2 (Nt.digs d1).length c2) (Nt.digs d1)) (h3 : Nv w (.slice B1 (Nt.digs n2).length k1) (Nt.digs n2)) (h4 : Nv w (.slice B2 (Nt.digs d2).length k2) (Nt.digs d2))
    (s1 : (Nt.digs n1).length ≤ 400000) (s2 : (Nt.digs d1).length ≤ 400000) (s3 : (Nt.digs n2).length ≤ 400000) (s4 : (Nt.digs d2).length ≤ 400000) :
    Calls Tryz.prog 36 #[.agg #[.bool m1, .slice A1 (Nt.digs n1).length c1, .slice A2 (Nt.digs d1).length c2], .agg #[.bool m2, .slice B1 (Nt.digs n2).length k1, .slice B2 (Nt.digs d2).length k2]] w fun e w' =>
      ∃ m n A c A' c', e = .returned (.agg #[.bool m, .slice A (Nt.digs n).length c, .slice A' (Nt.digs (d1 * d2)).length c']) ∧ (Nt.zi m n = Nt.zi m1 (n1 * d2) + Nt.zi m2 (n2 * d1) ∧ n ≤ n1 * d2 + n2 * d1) ∧ Nv w' (.slice A (Nt.digs n).length c) (Nt.digs n) ∧ Nv w' (.slice A' (Nt.digs (d1 * d2)).length c') (Nt.digs (d1 * d2)) ∧ Below w.heap.size w w' := by
  refine (sum_any _ _ m1 n1 d1 m2 n2 d2 w ⟨_, _, rfl, h1, h2⟩ ⟨_, _, rfl, h3, h4⟩ s1 s2 s3 s4).mono ?_
  rintro e w' ⟨hb, r, m, n, rfl, hr, hz, hn⟩
  obtain ⟨A, c, A', c', rfl, g1, g2⟩ := hr.open'
  exact ⟨m, n, A, c, A', c', rfl, ⟨hz, hn⟩, g1, g2, hb⟩
def SumP (m1 : Bool) (n1 d1 : Nat) (m2 : Bool) (n2 d2 : Nat) (m : Bool) (n : Nat) : Prop := Nt.zi m n = Nt.zi m1 (n1 * d2) + Nt.zi m2 (n2 * d1) ∧ n ≤ n1 * d2 + n2 * d1

set_option maxRecDepth 100000 in
set_option maxHeartbeats 2000000 in
theorem add1_any (m1 : Bool) (n1 d1 : Nat) (m2 : Bool) (n2 d2 : Nat) (s1 : (Nt.digs n1).length ≤ 400000) (s2 : (Nt.digs d1).length ≤ 400000) (s3 : (Nt.digs n2).length ≤ 400000) (s4 : (Nt.digs d2).length ≤ 400000)
    (w : World) (A1 : Option Addr) (c1 : Nat) (A2 : Option Addr) (c2 : Nat) (B1 : Option Addr) (k1 : Nat) (B2 : Option Addr) (k2 : Nat) (h1 : Nv w (.slice A1 (Nt.digs n1).length c1) (Nt.digs n1)) (h2 : Nv w (.slice A2 (Nt.digs d1).length c2) (Nt.digs d1)) (h3 : Nv w (.slice B1 (Nt.digs n2).length k1) (Nt.digs n2)) (h4 : Nv w (.slice B2 (Nt.digs d2).length k2) (Nt.digs d2)) :
    Calls Tryz.prog 35 #[.agg #[.bool m1, .slice A1 (Nt.digs n1).length c1, .slice A2 (Nt.digs d1).length c2], .agg #[.bool m2, .slice B1 (Nt.digs n2).length k1, .slice B2 (Nt.digs d2).length k2]] w (FnRet (SumP m1 n1 d1 m2 n2 d2) (d1 * d2) w) := by
  have HS0 := Lib.hid (SP.new w (.bool m1) (.slice A1 (Nt.digs n1).length c1) (.slice A2 (Nt.digs d1).length c2) (.bool m2) (.slice B1 (Nt.digs n2).length k1) (.slice B2 (Nt.digs d2).length k2))
  have HSU := Lib.hid fun (W : World) (hb : Below w.heap.size w W) => sum_o A1 c1 A2 c2 B1 k1 B2 k2 m1 n1 d1 m2 n2 d2 W (h1.below hb) (h2.below hb) (h3.below hb) (h4.below hb) s1 s2 s3 s4
  clear h1 h2 h3 h4 s1 s2 s3 s4
  go_enter Tryz.func35, Tryz.ntmps35
  go_wp2_with (go_at_call 36; (with_reducible refine (HSU.out _ HS0.out.bel).mono ?_); rintro e w1 ⟨m, n, A, c, A', c', rfl, hp, hr1, hr2, hb⟩; have HS1 := Lib.hid (HS0.out.step hb); have HP := Lib.hid hp; have HR1 := Lib.hid hr1; have HR2 := Lib.hid hr2; clear hp hr1 hr2 hb; obtain ⟨t0, t1, t2, u0, u1, u2⟩ := HS1.out.2.2.1.three)
  obtain ⟨-, q0, q1, q2⟩ := HS1.out.2.2.1.three_set (.bool m) (.slice A (Nt.digs n).length c) (.slice A' (Nt.digs (d1 * d2)).length c')
  refine bodyPost_ret (v := .tuple #[.agg #[.bool m, .slice A (Nt.digs n).length c, .slice A' (Nt.digs (d1 * d2)).length c'], .int .i64 0]) (by simp [results, Tryz.results35, go_sem, q0, q1, q2]) rfl ?_
  exact ⟨m, n, A, c, A', c', rfl, HP.out, HR1.out.apart HS1.out.2.2.1 _ _ _, HR2.out.apart HS1.out.2.2.1 _ _ _, below_three HS1.out.bel (by omega) _ _ _⟩

/-- The sign of a product. -/
theorem SP.stored {w W : World} {a0 a1 a2 b0 b1 b2 : Value} (h : SP w a0 a1 a2 b0 b1 b2 W) (y0 y1 y2 : Value) :
    (((W.setCell ⟨w.heap.size + 2, 0, none⟩ y0).setCell ⟨w.heap.size + 2, 1, none⟩ y1).setCell ⟨w.heap.size + 2, 2, none⟩ y2).cell? ⟨w.heap.size, 0, none⟩ = some a0 ∧
    (((W.setCell ⟨w.heap.size + 2, 0, none⟩ y0).setCell ⟨w.heap.size + 2, 1, none⟩ y1).setCell ⟨w.heap.size + 2, 2, none⟩ y2).cell? ⟨w.heap.size, 1, none⟩ = some a1 ∧
    (((W.setCell ⟨w.heap.size + 2, 0, none⟩ y0).setCell ⟨w.heap.size + 2, 1, none⟩ y1).setCell ⟨w.heap.size + 2, 2, none⟩ y2).cell? ⟨w.heap.size, 2, none⟩ = some a2 ∧
    (((W.setCell ⟨w.heap.size + 2, 0, none⟩ y0).setCell ⟨w.heap.size + 2, 1, none⟩ y1).setCell ⟨w.heap.size + 2, 2, none⟩ y2).cell? ⟨w.heap.size + 1, 0, none⟩ = some b0 ∧
    (((W.setCell ⟨w.heap.size + 2, 0, none⟩ y0).setCell ⟨w.heap.size + 2, 1, none⟩ y1).setCell ⟨w.heap.size + 2, 2, none⟩ y2).cell? ⟨w.heap.size + 1, 1, none⟩ = some b1 ∧
    (((W.setCell ⟨w.heap.size + 2, 0, none⟩ y0).setCell ⟨w.heap.size + 2, 1, none⟩ y1).setCell ⟨w.heap.size + 2, 2, none⟩ y2).cell? ⟨w.heap.size + 1, 2, none⟩ = some b2 :=
  have p := h.1.three_far (g := w.heap.size + 2) (by omega) y0 y1 y2
  have q := h.2.1.three_far (g := w.heap.size + 2) (by omega) y0 y1 y2
  ⟨p.cell 0, p.cell 1, p.cell 2, q.cell 0, q.cell 1, q.cell 2⟩
theorem times_o (va vb : Value) (a b : Nat) (w : World) (ha : Nv w va (Nt.digs a)) (hb : Nv w vb (Nt.digs b)) (sa : (Nt.digs a).length ≤ 1000000) (sb : (Nt.digs b).length ≤ 1000000) :
    Calls Tryz.prog 77 #[va, vb] w fun e w' => ∃ A c, e = .returned (.slice A (Nt.digs (a * b)).length c) ∧ Nv w' (.slice A (Nt.digs (a * b)).length c) (Nt.digs (a * b)) ∧ Below w.heap.size w w' := by
  refine (times_n va vb a b w ha hb sa sb).mono ?_
  rintro e w' ⟨v, rfl, hv, hb⟩
  obtain ⟨A, c, rfl, _⟩ := hv.ex
  exact ⟨A, c, rfl, hv, hb⟩

set_option maxRecDepth 100000 in
set_option maxHeartbeats 4000000 in
theorem mul1_any (m1 : Bool) (n1 d1 : Nat) (m2 : Bool) (n2 d2 : Nat) (s1 : (Nt.digs n1).length ≤ 400000) (s2 : (Nt.digs d1).length ≤ 400000) (s3 : (Nt.digs n2).length ≤ 400000) (s4 : (Nt.digs d2).length ≤ 400000)
    (w : World) (A1 : Option Addr) (c1 : Nat) (A2 : Option Addr) (c2 : Nat) (B1 : Option Addr) (k1 : Nat) (B2 : Option Addr) (k2 : Nat) (h1 : Nv w (.slice A1 (Nt.digs n1).length c1) (Nt.digs n1)) (h2 : Nv w (.slice A2 (Nt.digs d1).length c2) (Nt.digs d1)) (h3 : Nv w (.slice B1 (Nt.digs n2).length k1) (Nt.digs n2)) (h4 : Nv w (.slice B2 (Nt.digs d2).length k2) (Nt.digs d2)) :
    Calls Tryz.prog 136 #[.agg #[.bool m1, .slice A1 (Nt.digs n1).length c1, .slice A2 (Nt.digs d1).length c2], .agg #[.bool m2, .slice B1 (Nt.digs n2).length k1, .slice B2 (Nt.digs d2).length k2]] w (FnRet (fun m n => m = (m1 != m2) ∧ n = n1 * n2) (d1 * d2) w) := by
  have HT1 := Lib.hid fun (W : World) (hb : Below w.heap.size w W) => times_o (.slice A1 (Nt.digs n1).length c1) (.slice B1 (Nt.digs n2).length k1) n1 n2 W (h1.below hb) (h3.below hb) (by omega) (by omega)
  have HT2 := Lib.hid fun (W : World) (hb : Below w.heap.size w W) => times_o (.slice A2 (Nt.digs d1).length c2) (.slice B2 (Nt.digs d2).length k2) d1 d2 W (h2.below hb) (h4.below hb) (by omega) (by omega)
  clear h1 h2 h3 h4 s1 s2 s3 s4
  have HS0 := Lib.hid (SP.new w (.bool m1) (.slice A1 (Nt.digs n1).length c1) (.slice A2 (Nt.digs d1).length c2) (.bool m2) (.slice B1 (Nt.digs n2).length k1) (.slice B2 (Nt.digs d2).length k2))
  cases m1 <;> cases m2
  · go_enter Tryz.func136, Tryz.ntmps136
    go_upto_region 1 with fail
    go_region_held3 (fun w' => w'.cell? ⟨w.heap.size, 0, none⟩ = some (.bool false) ∧ w'.cell? ⟨w.heap.size, 1, none⟩ = some (.slice A1 (Nt.digs n1).length c1) ∧ w'.cell? ⟨w.heap.size, 2, none⟩ = some (.slice A2 (Nt.digs d1).length c2) ∧ w'.cell? ⟨w.heap.size + 1, 0, none⟩ = some (.bool false) ∧ w'.cell? ⟨w.heap.size + 1, 1, none⟩ = some (.slice B1 (Nt.digs n2).length k1) ∧ w'.cell? ⟨w.heap.size + 1, 2, none⟩ = some (.slice B2 (Nt.digs d2).length k2)) (first | (with_reducible exact HS2.out.cells) | (with_reducible exact HS1.out.cells) | (with_reducible exact HS0.out.drew.cells) | (with_reducible exact HS0.out.cells) | exact HS2.out.stored _ _ _ | fail) (first | (go_at_call 77; first | ((with_reducible refine (HT1.out _ HS0.out.drew.bel).mono ?_); rintro e w1 ⟨P1, p1, rfl, hp, hb⟩; have hS1 := HS0.out.drew.step hb; obtain ⟨s10, s11, s12, s13, s14, s15⟩ := hS1.cells; have HS1 := Lib.hid hS1; have HP1 := Lib.hid hp; clear hp hb hS1) | ((with_reducible refine (HT2.out _ HS1.out.bel).mono ?_); rintro e w2 ⟨P2, p2, rfl, hq, hb⟩; have hS2 := HS1.out.step hb; obtain ⟨s20, s21, s22, s23, s24, s25⟩ := hS2.cells; obtain ⟨t0, t1, t2, u0, u1, u2⟩ := hS2.2.2.1.three; have HS2 := Lib.hid hS2; have HP2 := Lib.hid (HP1.out.below hb); have HQ2 := Lib.hid hq; clear hq hb hS2) | fail))
    obtain ⟨-, q0, q1, q2⟩ := HS2.out.2.2.1.three_set (.bool false) (.slice P1 (Nt.digs (n1 * n2)).length p1) (.slice P2 (Nt.digs (d1 * d2)).length p2)
    go_wp2_with fail
    refine bodyPost_ret (v := .tuple #[.agg #[.bool false, .slice P1 (Nt.digs (n1 * n2)).length p1, .slice P2 (Nt.digs (d1 * d2)).length p2], .int .i64 0]) (by simp [results, Tryz.results136, go_sem, q0, q1, q2]) rfl ?_
    exact ⟨false, _, P1, p1, P2, p2, rfl, ⟨rfl, rfl⟩, HP2.out.apart HS2.out.2.2.1 _ _ _, HQ2.out.apart HS2.out.2.2.1 _ _ _, below_three HS2.out.bel (by omega) _ _ _⟩
  · go_enter Tryz.func136, Tryz.ntmps136
    go_upto_region 1 with fail
    go_region_held3 (fun w' => w'.cell? ⟨w.heap.size, 0, none⟩ = some (.bool false) ∧ w'.cell? ⟨w.heap.size, 1, none⟩ = some (.slice A1 (Nt.digs n1).length c1) ∧ w'.cell? ⟨w.heap.size, 2, none⟩ = some (.slice A2 (Nt.digs d1).length c2) ∧ w'.cell? ⟨w.heap.size + 1, 0, none⟩ = some (.bool true) ∧ w'.cell? ⟨w.heap.size + 1, 1, none⟩ = some (.slice B1 (Nt.digs n2).length k1) ∧ w'.cell? ⟨w.heap.size + 1, 2, none⟩ = some (.slice B2 (Nt.digs d2).length k2)) (first | (with_reducible exact HS2.out.cells) | (with_reducible exact HS1.out.cells) | (with_reducible exact HS0.out.drew.cells) | (with_reducible exact HS0.out.cells) | exact HS2.out.stored _ _ _ | fail) (first | (go_at_call 77; first | ((with_reducible refine (HT1.out _ HS0.out.drew.bel).mono ?_); rintro e w1 ⟨P1, p1, rfl, hp, hb⟩; have hS1 := HS0.out.drew.step hb; obtain ⟨s10, s11, s12, s13, s14, s15⟩ := hS1.cells; have HS1 := Lib.hid hS1; have HP1 := Lib.hid hp; clear hp hb hS1) | ((with_reducible refine (HT2.out _ HS1.out.bel).mono ?_); rintro e w2 ⟨P2, p2, rfl, hq, hb⟩; have hS2 := HS1.out.step hb; obtain ⟨s20, s21, s22, s23, s24, s25⟩ := hS2.cells; obtain ⟨t0, t1, t2, u0, u1, u2⟩ := hS2.2.2.1.three; have HS2 := Lib.hid hS2; have HP2 := Lib.hid (HP1.out.below hb); have HQ2 := Lib.hid hq; clear hq hb hS2) | fail))
    obtain ⟨-, q0, q1, q2⟩ := HS2.out.2.2.1.three_set (.bool true) (.slice P1 (Nt.digs (n1 * n2)).length p1) (.slice P2 (Nt.digs (d1 * d2)).length p2)
    go_wp2_with fail
    refine bodyPost_ret (v := .tuple #[.agg #[.bool true, .slice P1 (Nt.digs (n1 * n2)).length p1, .slice P2 (Nt.digs (d1 * d2)).length p2], .int .i64 0]) (by simp [results, Tryz.results136, go_sem, q0, q1, q2]) rfl ?_
    exact ⟨true, _, P1, p1, P2, p2, rfl, ⟨rfl, rfl⟩, HP2.out.apart HS2.out.2.2.1 _ _ _, HQ2.out.apart HS2.out.2.2.1 _ _ _, below_three HS2.out.bel (by omega) _ _ _⟩
  · go_enter Tryz.func136, Tryz.ntmps136
    go_upto_region 1 with fail
    go_region_held3 (fun w' => w'.cell? ⟨w.heap.size, 0, none⟩ = some (.bool true) ∧ w'.cell? ⟨w.heap.size, 1, none⟩ = some (.slice A1 (Nt.digs n1).length c1) ∧ w'.cell? ⟨w.heap.size, 2, none⟩ = some (.slice A2 (Nt.digs d1).length c2) ∧ w'.cell? ⟨w.heap.size + 1, 0, none⟩ = some (.bool false) ∧ w'.cell? ⟨w.heap.size + 1, 1, none⟩ = some (.slice B1 (Nt.digs n2).length k1) ∧ w'.cell? ⟨w.heap.size + 1, 2, none⟩ = some (.slice B2 (Nt.digs d2).length k2)) (first | (with_reducible exact HS2.out.cells) | (with_reducible exact HS1.out.cells) | (with_reducible exact HS0.out.drew.cells) | (with_reducible exact HS0.out.cells) | exact HS2.out.stored _ _ _ | fail) (first | (go_at_call 77; first | ((with_reducible refine (HT1.out _ HS0.out.drew.bel).mono ?_); rintro e w1 ⟨P1, p1, rfl, hp, hb⟩; have hS1 := HS0.out.drew.step hb; obtain ⟨s10, s11, s12, s13, s14, s15⟩ := hS1.cells; have HS1 := Lib.hid hS1; have HP1 := Lib.hid hp; clear hp hb hS1) | ((with_reducible refine (HT2.out _ HS1.out.bel).mono ?_); rintro e w2 ⟨P2, p2, rfl, hq, hb⟩; have hS2 := HS1.out.step hb; obtain ⟨s20, s21, s22, s23, s24, s25⟩ := hS2.cells; obtain ⟨t0, t1, t2, u0, u1, u2⟩ := hS2.2.2.1.three; have HS2 := Lib.hid hS2; have HP2 := Lib.hid (HP1.out.below hb); have HQ2 := Lib.hid hq; clear hq hb hS2) | fail))
    obtain ⟨-, q0, q1, q2⟩ := HS2.out.2.2.1.three_set (.bool true) (.slice P1 (Nt.digs (n1 * n2)).length p1) (.slice P2 (Nt.digs (d1 * d2)).length p2)
    go_wp2_with fail
    refine bodyPost_ret (v := .tuple #[.agg #[.bool true, .slice P1 (Nt.digs (n1 * n2)).length p1, .slice P2 (Nt.digs (d1 * d2)).length p2], .int .i64 0]) (by simp [results, Tryz.results136, go_sem, q0, q1, q2]) rfl ?_
    exact ⟨true, _, P1, p1, P2, p2, rfl, ⟨rfl, rfl⟩, HP2.out.apart HS2.out.2.2.1 _ _ _, HQ2.out.apart HS2.out.2.2.1 _ _ _, below_three HS2.out.bel (by omega) _ _ _⟩
  · go_enter Tryz.func136, Tryz.ntmps136
    go_upto_region 1 with fail
    go_region_held3 (fun w' => w'.cell? ⟨w.heap.size, 0, none⟩ = some (.bool true) ∧ w'.cell? ⟨w.heap.size, 1, none⟩ = some (.slice A1 (Nt.digs n1).length c1) ∧ w'.cell? ⟨w.heap.size, 2, none⟩ = some (.slice A2 (Nt.digs d1).length c2) ∧ w'.cell? ⟨w.heap.size + 1, 0, none⟩ = some (.bool true) ∧ w'.cell? ⟨w.heap.size + 1, 1, none⟩ = some (.slice B1 (Nt.digs n2).length k1) ∧ w'.cell? ⟨w.heap.size + 1, 2, none⟩ = some (.slice B2 (Nt.digs d2).length k2)) (first | (with_reducible exact HS2.out.cells) | (with_reducible exact HS1.out.cells) | (with_reducible exact HS0.out.drew.cells) | (with_reducible exact HS0.out.cells) | exact HS2.out.stored _ _ _ | fail) (first | (go_at_call 77; first | ((with_reducible refine (HT1.out _ HS0.out.drew.bel).mono ?_); rintro e w1 ⟨P1, p1, rfl, hp, hb⟩; have hS1 := HS0.out.drew.step hb; obtain ⟨s10, s11, s12, s13, s14, s15⟩ := hS1.cells; have HS1 := Lib.hid hS1; have HP1 := Lib.hid hp; clear hp hb hS1) | ((with_reducible refine (HT2.out _ HS1.out.bel).mono ?_); rintro e w2 ⟨P2, p2, rfl, hq, hb⟩; have hS2 := HS1.out.step hb; obtain ⟨s20, s21, s22, s23, s24, s25⟩ := hS2.cells; obtain ⟨t0, t1, t2, u0, u1, u2⟩ := hS2.2.2.1.three; have HS2 := Lib.hid hS2; have HP2 := Lib.hid (HP1.out.below hb); have HQ2 := Lib.hid hq; clear hq hb hS2) | fail))
    obtain ⟨-, q0, q1, q2⟩ := HS2.out.2.2.1.three_set (.bool false) (.slice P1 (Nt.digs (n1 * n2)).length p1) (.slice P2 (Nt.digs (d1 * d2)).length p2)
    go_wp2_with fail
    refine bodyPost_ret (v := .tuple #[.agg #[.bool false, .slice P1 (Nt.digs (n1 * n2)).length p1, .slice P2 (Nt.digs (d1 * d2)).length p2], .int .i64 0]) (by simp [results, Tryz.results136, go_sem, q0, q1, q2]) rfl ?_
    exact ⟨false, _, P1, p1, P2, p2, rfl, ⟨rfl, rfl⟩, HP2.out.apart HS2.out.2.2.1 _ _ _, HQ2.out.apart HS2.out.2.2.1 _ _ _, below_three HS2.out.bel (by omega) _ _ _⟩

set_option maxRecDepth 100000 in
set_option maxHeartbeats 4000000 in
theorem div1_any (m1 : Bool) (n1 d1 : Nat) (m2 : Bool) (n2 d2 : Nat) (hn : n2 ≠ 0) (s1 : (Nt.digs n1).length ≤ 400000) (s2 : (Nt.digs d1).length ≤ 400000) (s3 : (Nt.digs n2).length ≤ 400000) (s4 : (Nt.digs d2).length ≤ 400000)
    (w : World) (A1 : Option Addr) (c1 : Nat) (A2 : Option Addr) (c2 : Nat) (B1 : Option Addr) (k1 : Nat) (B2 : Option Addr) (k2 : Nat) (h1 : Nv w (.slice A1 (Nt.digs n1).length c1) (Nt.digs n1)) (h2 : Nv w (.slice A2 (Nt.digs d1).length c2) (Nt.digs d1)) (h3 : Nv w (.slice B1 (Nt.digs n2).length k1) (Nt.digs n2)) (h4 : Nv w (.slice B2 (Nt.digs d2).length k2) (Nt.digs d2)) :
    Calls Tryz.prog 127 #[.agg #[.bool m1, .slice A1 (Nt.digs n1).length c1, .slice A2 (Nt.digs d1).length c2], .agg #[.bool m2, .slice B1 (Nt.digs n2).length k1, .slice B2 (Nt.digs d2).length k2]] w (FnRet (fun m n => m = (m1 != m2) ∧ n = n1 * d2) (d1 * n2) w) := by
  have HT1 := Lib.hid fun (W : World) (hb : Below w.heap.size w W) => times_o (.slice A1 (Nt.digs n1).length c1) (.slice B2 (Nt.digs d2).length k2) n1 d2 W (h1.below hb) (h4.below hb) (by omega) (by omega)
  have HT2 := Lib.hid fun (W : World) (hb : Below w.heap.size w W) => times_o (.slice A2 (Nt.digs d1).length c2) (.slice B1 (Nt.digs n2).length k1) d1 n2 W (h2.below hb) (h3.below hb) (by omega) (by omega)
  have hl : (Nt.digs n2).length ≠ 0 := by rw [Nt.digs_pos (by omega)]; simp
  have hz : (((Nt.digs n2).length : Int) == 0) = false := by rw [beq_eq_false_iff_ne]; omega
  clear hl hn
  clear h1 h2 h3 h4 s1 s2 s3 s4
  have HS0 := Lib.hid (SP.new w (.bool m1) (.slice A1 (Nt.digs n1).length c1) (.slice A2 (Nt.digs d1).length c2) (.bool m2) (.slice B1 (Nt.digs n2).length k1) (.slice B2 (Nt.digs d2).length k2))
  cases m1 <;> cases m2
  · go_enter Tryz.func127, Tryz.ntmps127
    go_upto_region 3 with (go_at_call 128; refine (zero_any _ _ _ _).mono ?_; rintro e w0 ⟨rfl, rfl⟩)
    go_region_held3 (fun w' => w'.cell? ⟨w.heap.size, 0, none⟩ = some (.bool false) ∧ w'.cell? ⟨w.heap.size, 1, none⟩ = some (.slice A1 (Nt.digs n1).length c1) ∧ w'.cell? ⟨w.heap.size, 2, none⟩ = some (.slice A2 (Nt.digs d1).length c2) ∧ w'.cell? ⟨w.heap.size + 1, 0, none⟩ = some (.bool false) ∧ w'.cell? ⟨w.heap.size + 1, 1, none⟩ = some (.slice B1 (Nt.digs n2).length k1) ∧ w'.cell? ⟨w.heap.size + 1, 2, none⟩ = some (.slice B2 (Nt.digs d2).length k2)) (first | (with_reducible exact HS2.out.cells) | (with_reducible exact HS1.out.cells) | (with_reducible exact HS0.out.drew.cells) | (with_reducible exact HS0.out.cells) | exact HS2.out.stored _ _ _ | fail) (first | (go_at_call 77; first | ((with_reducible refine (HT1.out _ HS0.out.drew.bel).mono ?_); rintro e w1 ⟨P1, p1, rfl, hp, hb⟩; have hS1 := HS0.out.drew.step hb; obtain ⟨s10, s11, s12, s13, s14, s15⟩ := hS1.cells; have HS1 := Lib.hid hS1; have HP1 := Lib.hid hp; clear hp hb hS1) | ((with_reducible refine (HT2.out _ HS1.out.bel).mono ?_); rintro e w2 ⟨P2, p2, rfl, hq, hb⟩; have hS2 := HS1.out.step hb; obtain ⟨s20, s21, s22, s23, s24, s25⟩ := hS2.cells; obtain ⟨t0, t1, t2, u0, u1, u2⟩ := hS2.2.2.1.three; have HS2 := Lib.hid hS2; have HP2 := Lib.hid (HP1.out.below hb); have HQ2 := Lib.hid hq; clear hq hb hS2) | fail))
    obtain ⟨-, q0, q1, q2⟩ := HS2.out.2.2.1.three_set (.bool false) (.slice P1 (Nt.digs (n1 * d2)).length p1) (.slice P2 (Nt.digs (d1 * n2)).length p2)
    go_wp2_with fail
    refine bodyPost_ret (v := .tuple #[.agg #[.bool false, .slice P1 (Nt.digs (n1 * d2)).length p1, .slice P2 (Nt.digs (d1 * n2)).length p2], .int .i64 0]) (by simp [results, Tryz.results127, go_sem, q0, q1, q2]) rfl ?_
    exact ⟨false, _, P1, p1, P2, p2, rfl, ⟨rfl, rfl⟩, HP2.out.apart HS2.out.2.2.1 _ _ _, HQ2.out.apart HS2.out.2.2.1 _ _ _, below_three HS2.out.bel (by omega) _ _ _⟩
  · go_enter Tryz.func127, Tryz.ntmps127
    go_upto_region 3 with (go_at_call 128; refine (zero_any _ _ _ _).mono ?_; rintro e w0 ⟨rfl, rfl⟩)
    go_region_held3 (fun w' => w'.cell? ⟨w.heap.size, 0, none⟩ = some (.bool false) ∧ w'.cell? ⟨w.heap.size, 1, none⟩ = some (.slice A1 (Nt.digs n1).length c1) ∧ w'.cell? ⟨w.heap.size, 2, none⟩ = some (.slice A2 (Nt.digs d1).length c2) ∧ w'.cell? ⟨w.heap.size + 1, 0, none⟩ = some (.bool true) ∧ w'.cell? ⟨w.heap.size + 1, 1, none⟩ = some (.slice B1 (Nt.digs n2).length k1) ∧ w'.cell? ⟨w.heap.size + 1, 2, none⟩ = some (.slice B2 (Nt.digs d2).length k2)) (first | (with_reducible exact HS2.out.cells) | (with_reducible exact HS1.out.cells) | (with_reducible exact HS0.out.drew.cells) | (with_reducible exact HS0.out.cells) | exact HS2.out.stored _ _ _ | fail) (first | (go_at_call 77; first | ((with_reducible refine (HT1.out _ HS0.out.drew.bel).mono ?_); rintro e w1 ⟨P1, p1, rfl, hp, hb⟩; have hS1 := HS0.out.drew.step hb; obtain ⟨s10, s11, s12, s13, s14, s15⟩ := hS1.cells; have HS1 := Lib.hid hS1; have HP1 := Lib.hid hp; clear hp hb hS1) | ((with_reducible refine (HT2.out _ HS1.out.bel).mono ?_); rintro e w2 ⟨P2, p2, rfl, hq, hb⟩; have hS2 := HS1.out.step hb; obtain ⟨s20, s21, s22, s23, s24, s25⟩ := hS2.cells; obtain ⟨t0, t1, t2, u0, u1, u2⟩ := hS2.2.2.1.three; have HS2 := Lib.hid hS2; have HP2 := Lib.hid (HP1.out.below hb); have HQ2 := Lib.hid hq; clear hq hb hS2) | fail))
    obtain ⟨-, q0, q1, q2⟩ := HS2.out.2.2.1.three_set (.bool true) (.slice P1 (Nt.digs (n1 * d2)).length p1) (.slice P2 (Nt.digs (d1 * n2)).length p2)
    go_wp2_with fail
    refine bodyPost_ret (v := .tuple #[.agg #[.bool true, .slice P1 (Nt.digs (n1 * d2)).length p1, .slice P2 (Nt.digs (d1 * n2)).length p2], .int .i64 0]) (by simp [results, Tryz.results127, go_sem, q0, q1, q2]) rfl ?_
    exact ⟨true, _, P1, p1, P2, p2, rfl, ⟨rfl, rfl⟩, HP2.out.apart HS2.out.2.2.1 _ _ _, HQ2.out.apart HS2.out.2.2.1 _ _ _, below_three HS2.out.bel (by omega) _ _ _⟩
  · go_enter Tryz.func127, Tryz.ntmps127
    go_upto_region 3 with (go_at_call 128; refine (zero_any _ _ _ _).mono ?_; rintro e w0 ⟨rfl, rfl⟩)
    go_region_held3 (fun w' => w'.cell? ⟨w.heap.size, 0, none⟩ = some (.bool true) ∧ w'.cell? ⟨w.heap.size, 1, none⟩ = some (.slice A1 (Nt.digs n1).length c1) ∧ w'.cell? ⟨w.heap.size, 2, none⟩ = some (.slice A2 (Nt.digs d1).length c2) ∧ w'.cell? ⟨w.heap.size + 1, 0, none⟩ = some (.bool false) ∧ w'.cell? ⟨w.heap.size + 1, 1, none⟩ = some (.slice B1 (Nt.digs n2).length k1) ∧ w'.cell? ⟨w.heap.size + 1, 2, none⟩ = some (.slice B2 (Nt.digs d2).length k2)) (first | (with_reducible exact HS2.out.cells) | (with_reducible exact HS1.out.cells) | (with_reducible exact HS0.out.drew.cells) | (with_reducible exact HS0.out.cells) | exact HS2.out.stored _ _ _ | fail) (first | (go_at_call 77; first | ((with_reducible refine (HT1.out _ HS0.out.drew.bel).mono ?_); rintro e w1 ⟨P1, p1, rfl, hp, hb⟩; have hS1 := HS0.out.drew.step hb; obtain ⟨s10, s11, s12, s13, s14, s15⟩ := hS1.cells; have HS1 := Lib.hid hS1; have HP1 := Lib.hid hp; clear hp hb hS1) | ((with_reducible refine (HT2.out _ HS1.out.bel).mono ?_); rintro e w2 ⟨P2, p2, rfl, hq, hb⟩; have hS2 := HS1.out.step hb; obtain ⟨s20, s21, s22, s23, s24, s25⟩ := hS2.cells; obtain ⟨t0, t1, t2, u0, u1, u2⟩ := hS2.2.2.1.three; have HS2 := Lib.hid hS2; have HP2 := Lib.hid (HP1.out.below hb); have HQ2 := Lib.hid hq; clear hq hb hS2) | fail))
    obtain ⟨-, q0, q1, q2⟩ := HS2.out.2.2.1.three_set (.bool true) (.slice P1 (Nt.digs (n1 * d2)).length p1) (.slice P2 (Nt.digs (d1 * n2)).length p2)
    go_wp2_with fail
    refine bodyPost_ret (v := .tuple #[.agg #[.bool true, .slice P1 (Nt.digs (n1 * d2)).length p1, .slice P2 (Nt.digs (d1 * n2)).length p2], .int .i64 0]) (by simp [results, Tryz.results127, go_sem, q0, q1, q2]) rfl ?_
    exact ⟨true, _, P1, p1, P2, p2, rfl, ⟨rfl, rfl⟩, HP2.out.apart HS2.out.2.2.1 _ _ _, HQ2.out.apart HS2.out.2.2.1 _ _ _, below_three HS2.out.bel (by omega) _ _ _⟩
  · go_enter Tryz.func127, Tryz.ntmps127
    go_upto_region 3 with (go_at_call 128; refine (zero_any _ _ _ _).mono ?_; rintro e w0 ⟨rfl, rfl⟩)
    go_region_held3 (fun w' => w'.cell? ⟨w.heap.size, 0, none⟩ = some (.bool true) ∧ w'.cell? ⟨w.heap.size, 1, none⟩ = some (.slice A1 (Nt.digs n1).length c1) ∧ w'.cell? ⟨w.heap.size, 2, none⟩ = some (.slice A2 (Nt.digs d1).length c2) ∧ w'.cell? ⟨w.heap.size + 1, 0, none⟩ = some (.bool true) ∧ w'.cell? ⟨w.heap.size + 1, 1, none⟩ = some (.slice B1 (Nt.digs n2).length k1) ∧ w'.cell? ⟨w.heap.size + 1, 2, none⟩ = some (.slice B2 (Nt.digs d2).length k2)) (first | (with_reducible exact HS2.out.cells) | (with_reducible exact HS1.out.cells) | (with_reducible exact HS0.out.drew.cells) | (with_reducible exact HS0.out.cells) | exact HS2.out.stored _ _ _ | fail) (first | (go_at_call 77; first | ((with_reducible refine (HT1.out _ HS0.out.drew.bel).mono ?_); rintro e w1 ⟨P1, p1, rfl, hp, hb⟩; have hS1 := HS0.out.drew.step hb; obtain ⟨s10, s11, s12, s13, s14, s15⟩ := hS1.cells; have HS1 := Lib.hid hS1; have HP1 := Lib.hid hp; clear hp hb hS1) | ((with_reducible refine (HT2.out _ HS1.out.bel).mono ?_); rintro e w2 ⟨P2, p2, rfl, hq, hb⟩; have hS2 := HS1.out.step hb; obtain ⟨s20, s21, s22, s23, s24, s25⟩ := hS2.cells; obtain ⟨t0, t1, t2, u0, u1, u2⟩ := hS2.2.2.1.three; have HS2 := Lib.hid hS2; have HP2 := Lib.hid (HP1.out.below hb); have HQ2 := Lib.hid hq; clear hq hb hS2) | fail))
    obtain ⟨-, q0, q1, q2⟩ := HS2.out.2.2.1.three_set (.bool false) (.slice P1 (Nt.digs (n1 * d2)).length p1) (.slice P2 (Nt.digs (d1 * n2)).length p2)
    go_wp2_with fail
    refine bodyPost_ret (v := .tuple #[.agg #[.bool false, .slice P1 (Nt.digs (n1 * d2)).length p1, .slice P2 (Nt.digs (d1 * n2)).length p2], .int .i64 0]) (by simp [results, Tryz.results127, go_sem, q0, q1, q2]) rfl ?_
    exact ⟨false, _, P1, p1, P2, p2, rfl, ⟨rfl, rfl⟩, HP2.out.apart HS2.out.2.2.1 _ _ _, HQ2.out.apart HS2.out.2.2.1 _ _ _, below_three HS2.out.bel (by omega) _ _ _⟩
end Go.Proofs.YtigeipjkcidleaaGreatDoor
