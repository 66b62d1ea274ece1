/- The contract of exact's sum. -/
import Derived.Test.YtllhefjblipddaaGreatDoorGaf
import Derived.Deep.RegionHeld3
import Derived.Shelf.Strings.Repeat
import Derived.Test.YtllhefjblipddaaGreatDoorLoc
set_option linter.unusedSimpArgs false
set_option linter.unusedVariables false
namespace Go.Proofs.YtllhefjblipddaaGreatDoor
open Go.RowKit

namespace Nt
/-- A number with its sign. -/
def zi (m : Bool) (n : Nat) : Int := if m then -(n : Int) else n
end Nt
theorem times_n (va vb : Value) (a b : Nat) (w : World) (ha : Nv w va (Nt.digs a)) (hb : Nv w vb (Nt.digs b)) (sa : (Nt.digs a).length ≤ 1000000) (sb : (Nt.digs b).length ≤ 1000000) :
    Calls Tryz.prog 112 #[va, vb] w fun e w' => ∃ v, e = .returned v ∧ Nv w' v (Nt.digs (a * b)) ∧ Below w.heap.size w w' := by
  have := times_any va vb _ _ w ha hb (Nt.digs_canon a) (Nt.digs_canon b) sa sb
  rwa [Nt.val_digs, Nt.val_digs] at this
theorem plus_n (va vb : Value) (a b : Nat) (w : World) (ha : Nv w va (Nt.digs a)) (hb : Nv w vb (Nt.digs b)) (sa : (Nt.digs a).length ≤ 1000000) (sb : (Nt.digs b).length ≤ 1000000) :
    Calls Tryz.prog 223 #[va, vb] w fun e w' => ∃ v, e = .returned v ∧ Nv w' v (Nt.digs (a + b)) ∧ Below w.heap.size w w' := by
  have := plus_any va vb _ _ w ha hb (Nt.digs_canon a) (Nt.digs_canon b) sa sb
  rwa [Nt.val_digs, Nt.val_digs] at this
theorem minus_n (va vb : Value) (a b : Nat) (w : World) (ha : Nv w va (Nt.digs a)) (hb : Nv w vb (Nt.digs b)) (hle : b ≤ a) :
    Calls Tryz.prog 111 #[va, vb] w fun e w' => ∃ v, e = .returned v ∧ Nv w' v (Nt.digs (a - b)) ∧ Below w.heap.size w w' := by
  have := minus_any va vb _ _ w ha hb (Nt.digs_canon a) (Nt.digs_canon b) (by rw [Nt.val_digs, Nt.val_digs]; exact hle)
  rwa [Nt.val_digs, Nt.val_digs] at this
theorem compare_n (va vb : Value) (a b : Nat) (w : World) (ha : Nv w va (Nt.digs a)) (hb : Nv w vb (Nt.digs b)) :
    Calls Tryz.prog 156 #[va, vb] w (CmpRet a b w) := by
  have := compare_any va vb _ _ w ha hb (Nt.digs_canon a) (Nt.digs_canon b)
  rwa [Nt.val_digs, Nt.val_digs] at this

def SumRet (m1 : Bool) (n1 d1 : Nat) (m2 : Bool) (n2 d2 : Nat) (w : World) (e : Ending) (w' : World) : Prop :=
  Below w.heap.size w w' ∧ ∃ r m n, e = .returned r ∧ Nm w' r m n (d1 * d2) ∧ Nt.zi m n = Nt.zi m1 (n1 * d2) + Nt.zi m2 (n2 * d1) ∧ n ≤ n1 * d2 + n2 * d1

/-- What stands in the course of sum: two numbers in boxes, the result's box. -/
def SP (w : World) (a0 a1 a2 b0 b1 b2 : Value) (W : World) : Prop := Blk W w.heap.size 53 #[a0, a1, a2] ∧ Blk W (w.heap.size + 1) 53 #[b0, b1, b2] ∧ Blk W (w.heap.size + 2) 53 #[.bool false, .slice none 0 0, .slice none 0 0] ∧ Below w.heap.size w W
section
variable {w W W' : World} {a0 a1 a2 b0 b1 b2 : Value}
theorem SP.step (h : SP w a0 a1 a2 b0 b1 b2 W) (hb : Below W.heap.size W W') : SP w a0 a1 a2 b0 b1 b2 W' := ⟨h.1.later hb, h.2.1.later hb, h.2.2.1.later hb, h.2.2.2.trans (hb.mono h.2.2.2.size)⟩
theorem SP.drew (h : SP w a0 a1 a2 b0 b1 b2 W) : SP w a0 a1 a2 b0 b1 b2 W.drew := ⟨h.1.drew, h.2.1.drew, h.2.2.1.drew, Below.drew h.2.2.2⟩
theorem SP.drewN (h : SP w a0 a1 a2 b0 b1 b2 W) (n : Nat) : SP w a0 a1 a2 b0 b1 b2 (W.drewN n) := ⟨h.1.drewN n, h.2.1.drewN n, h.2.2.1.drewN n, ⟨h.2.2.2.os, h.2.2.2.tape, h.2.2.2.output, h.2.2.2.size, h.2.2.2.block⟩⟩
theorem SP.cells (h : SP w a0 a1 a2 b0 b1 b2 W) : W.cell? ⟨w.heap.size, 0, none⟩ = some a0 ∧ W.cell? ⟨w.heap.size, 1, none⟩ = some a1 ∧ W.cell? ⟨w.heap.size, 2, none⟩ = some a2 ∧ W.cell? ⟨w.heap.size + 1, 0, none⟩ = some b0 ∧ W.cell? ⟨w.heap.size + 1, 1, none⟩ = some b1 ∧ W.cell? ⟨w.heap.size + 1, 2, none⟩ = some b2 :=
  ⟨h.1.cell 0, h.1.cell 1, h.1.cell 2, h.2.1.cell 0, h.2.1.cell 1, h.2.1.cell 2⟩
theorem SP.bel (h : SP w a0 a1 a2 b0 b1 b2 W) : Below w.heap.size w W := h.2.2.2
theorem SP.ld (h : SP w a0 a1 a2 b0 b1 b2 W) : W.cell? ⟨w.heap.size, 1, none⟩ = some a1 ∧ W.cell? ⟨w.heap.size, 2, none⟩ = some a2 ∧ W.cell? ⟨w.heap.size + 1, 1, none⟩ = some b1 ∧ W.cell? ⟨w.heap.size + 1, 2, none⟩ = some b2 :=
  ⟨h.1.cell 1, h.1.cell 2, h.2.1.cell 1, h.2.1.cell 2⟩
theorem SP.new (w : World) (a0 a1 a2 b0 b1 b2 : Value) : SP w a0 a1 a2 b0 b1 b2 (((w.alloc (.cells #[a0, a1, a2] 53)).alloc (.cells #[b0, b1, b2] 53)).alloc (.cells #[.bool false, .slice none 0 0, .slice none 0 0] 53)) := by
  refine ⟨((Blk.new w _ _).alloc _).alloc _, ?_, ?_, (((Below.refl _ w).alloc (Nat.le_refl _) _).alloc (by simp) _).alloc (by simp; omega) _⟩
  · have := (Blk.new (w.alloc (.cells #[a0, a1, a2] 53)) 53 #[b0, b1, b2]).alloc (.cells #[.bool false, .slice none 0 0, .slice none 0 0] 53)
    rw [World.size_alloc] at this
    exact this
  · have := Blk.new ((w.alloc (.cells #[a0, a1, a2] 53)).alloc (.cells #[b0, b1, b2] 53)) 53 #[.bool false, .slice none 0 0, .slice none 0 0]
    rw [World.size_alloc, World.size_alloc] at this
    exact this
end
theorem digs_mul (a b k : Nat) (ha : (Nt.digs a).length ≤ k) (hb : (Nt.digs b).length ≤ k) : (Nt.digs (a * b)).length ≤ 2 * k := by
  have h1 := Nt.val_lt (Nt.digs_canon a).1
  have h2 := Nt.val_lt (Nt.digs_canon b).1
  rw [Nt.val_digs] at h1 h2
  have h0 : 0 < Nt.B := by decide
  have e1 : Nt.B ^ (Nt.digs a).length ≤ Nt.B ^ k := Nat.pow_le_pow_right h0 ha
  have e2 : Nt.B ^ (Nt.digs b).length ≤ Nt.B ^ k := Nat.pow_le_pow_right h0 hb
  refine Nt.digs_len ?_
  rw [Nat.two_mul, Nat.pow_add]
  exact Nat.mul_lt_mul'' (Nat.lt_of_lt_of_le h1 e1) (Nat.lt_of_lt_of_le h2 e2)

set_option maxRecDepth 100000 in
set_option maxHeartbeats 4000000 in
theorem sum_any (x y : Value) (m1 : Bool) (n1 d1 : Nat) (m2 : Bool) (n2 d2 : Nat) (w : World) (hx : Nm w x m1 n1 d1) (hy : Nm w y m2 n2 d2)
    (s1 : (Nt.digs n1).length ≤ 400000) (s2 : (Nt.digs d1).length ≤ 400000) (s3 : (Nt.digs n2).length ≤ 400000) (s4 : (Nt.digs d2).length ≤ 400000) :
    Calls Tryz.prog 270 #[x, y] w (SumRet m1 n1 d1 m2 n2 d2 w) := by
  obtain ⟨a1, a2, rfl, ha1, ha2⟩ := hx.ex
  obtain ⟨b1, b2, rfl, hb1, hb2⟩ := hy.ex
  clear hx hy
  have HT1 := Lib.hid fun (W : World) (hb : Below w.heap.size w W) => times_n a1 b2 n1 d2 W (ha1.below hb) (hb2.below hb) (by omega) (by omega)
  have HT2 := Lib.hid fun (W : World) (hb : Below w.heap.size w W) => times_n b1 a2 n2 d1 W (hb1.below hb) (ha2.below hb) (by omega) (by omega)
  have HT3 := Lib.hid fun (W : World) (hb : Below w.heap.size w W) => times_n a2 b2 d1 d2 W (ha2.below hb) (hb2.below hb) (by omega) (by omega)
  have HPL := Lib.hid fun (W : World) (vp vq : Value) (h1 : Nv W vp (Nt.digs (n1 * d2))) (h2 : Nv W vq (Nt.digs (n2 * d1))) => plus_n vp vq _ _ W h1 h2 (Nat.le_trans (digs_mul _ _ _ s1 s4) (by omega)) (Nat.le_trans (digs_mul _ _ _ s3 s2) (by omega))
  obtain ⟨A1, k1, rfl, -, -, -, -⟩ := ha1.ex
  obtain ⟨A2, k2, rfl, -, -, -, -⟩ := ha2.ex
  obtain ⟨B1, l1, rfl, -, -, -, -⟩ := hb1.ex
  obtain ⟨B2, l2, rfl, -, -, -, -⟩ := hb2.ex
  clear s1 s2 s3 s4 ha1 ha2 hb1 hb2
  have HS0 := Lib.hid (SP.new w (.bool m1) (.slice A1 (Nt.digs n1).length k1) (.slice A2 (Nt.digs d1).length k2) (.bool m2) (.slice B1 (Nt.digs n2).length l1) (.slice B2 (Nt.digs d2).length l2))
  go_enter Tryz.func270, Tryz.ntmps270
  go_upto_region 1 with fail
  go_region_held3 (fun w' => w'.cell? ⟨w.heap.size, 1, none⟩ = some (.slice A1 (Nt.digs n1).length k1) ∧ w'.cell? ⟨w.heap.size, 2, none⟩ = some (.slice A2 (Nt.digs d1).length k2) ∧ w'.cell? ⟨w.heap.size + 1, 1, none⟩ = some (.slice B1 (Nt.digs n2).length l1) ∧ w'.cell? ⟨w.heap.size + 1, 2, none⟩ = some (.slice B2 (Nt.digs d2).length l2)) (first | (with_reducible exact HS2.out.ld) | (with_reducible exact HS1.out.ld) | (with_reducible exact HS0.out.drew.ld) | (with_reducible exact HS0.out.ld) | exact HS0.out.drew.ld | fail) (first | (go_at_call 112; first | ((with_reducible refine (HT1.out _ HS0.out.drew.bel).mono ?_); rintro e w1 ⟨vp, rfl, hp, hb⟩; have hS1 := HS0.out.drew.step hb; obtain ⟨s10, s11, s12, s13, s14, s15⟩ := hS1.cells; have HS1 := Lib.hid hS1; have HP1 := Lib.hid hp; clear hp hb hS1) | ((with_reducible refine (HT2.out _ HS1.out.bel).mono ?_); rintro e w2 ⟨vq, rfl, hq, hb⟩; have hS2 := HS1.out.step hb; obtain ⟨s20, s21, s22, s23, s24, s25⟩ := hS2.cells; have HS2 := Lib.hid hS2; have HP2 := Lib.hid (HP1.out.below hb); have HQ2 := Lib.hid hq; clear hq hb hS2) | fail))
  cases m1 <;> cases m2
  · go_upto_region 4 with (go_at_call 112; (with_reducible refine (HT3.out _ HS2.out.bel).mono ?_); rintro e w3 ⟨vd, rfl, hd, hb⟩; have hS3 := HS2.out.step hb; have hP3 := HP2.out.below hb; have hQ3 := HQ2.out.below hb; have HS3 := Lib.hid hS3; have HP3 := Lib.hid hP3; have HQ3 := Lib.hid hQ3; obtain ⟨A3, c3, rfl, -, -, -, -⟩ := id hd.ex; have HD3 := Lib.hid hd; clear s10 s11 s12 s13 s14 s15 s20 s21 s22 s23 s24 s25 hS3 hP3 hQ3 hb hd; obtain ⟨s30, s31, s32, s33, s34, s35⟩ := HS3.out.cells)
    go_region_held3 (fun w' => w'.cell? ⟨w.heap.size, 0, none⟩ = some (.bool false)) (first | assumption | (with_reducible exact HS4.out.cells.1) | (with_reducible exact HS4.out.drew.cells.1) | (with_reducible exact HS3.out.cells.1) | (with_reducible exact HS3.out.drew.cells.1) | exact (HS4.out.1.three_far (by omega) _ _ _).cell 0) ((go_at_call 223; (with_reducible refine (HPL.out _ _ _ HP3.out.drew HQ3.out.drew).mono ?_); rintro e w4 ⟨vr, rfl, hr, hb⟩; obtain ⟨A4, c4, rfl, -, -, -, -⟩ := id hr.ex; have hS4 := HS3.out.drew.step hb; have hD4 := HD3.out.drew.below hb; have HS4 := Lib.hid hS4; have HR4 := Lib.hid hr; have HD4 := Lib.hid hD4; clear s30 s31 s32 s33 s34 s35 hb hr hS4 hD4; obtain ⟨s40, s41, s42, s43, s44, s45⟩ := HS4.out.cells; obtain ⟨t0, t1, t2, u0, u1, u2⟩ := HS4.out.2.2.1.three))
    obtain ⟨-, q0, q1, q2⟩ := HS4.out.2.2.1.three_set (.bool false) (.slice A4 (Nt.digs (n1 * d2 + n2 * d1)).length c4) (.slice A3 (Nt.digs (d1 * d2)).length c3)
    go_wp2_with fail
    refine bodyPost_ret (v := .agg #[.bool false, (.slice A4 (Nt.digs (n1 * d2 + n2 * d1)).length c4), (.slice A3 (Nt.digs (d1 * d2)).length c3)]) (by simp [results, Tryz.results270, go_sem, q0, q1, q2]) rfl ?_
    exact ⟨below_three HS4.out.bel (by omega) _ _ _, _, false, _, rfl, ⟨_, _, rfl, HR4.out.apart HS4.out.2.2.1 _ _ _, HD4.out.apart HS4.out.2.2.1 _ _ _⟩, by simp [Nt.zi], by omega⟩
  · go_wp2_with (first | (go_at_call 112; (with_reducible refine (HT3.out _ HS2.out.bel).mono ?_); rintro e w3 ⟨vd, rfl, hd, hb⟩; have hS3 := HS2.out.step hb; have hP3 := HP2.out.below hb; have hQ3 := HQ2.out.below hb; have HS3 := Lib.hid hS3; have HP3 := Lib.hid hP3; have HQ3 := Lib.hid hQ3; obtain ⟨A3, c3, rfl, -, -, -, -⟩ := id hd.ex; have HD3 := Lib.hid hd; clear s10 s11 s12 s13 s14 s15 s20 s21 s22 s23 s24 s25 hS3 hP3 hQ3 hb hd; obtain ⟨s30, s31, s32, s33, s34, s35⟩ := HS3.out.cells) | (go_at_call 156; (with_reducible refine (compare_n _ _ _ _ _ HP3.out HQ3.out).mono ?_); rintro e w5 ⟨r, k, rfl, hc, hr1, hr2, rfl⟩; have HC := Lib.hid hc; clear hc))
    · have hle : n2 * d1 ≤ n1 * d2 := by rcases HC.out with ⟨h1, h2⟩ | ⟨h1, h2⟩ | ⟨h1, h2⟩ <;> omega
      have HMA := Lib.hid fun (W : World) (vp vq : Value) (h1 : Nv W vp (Nt.digs (n1 * d2))) (h2 : Nv W vq (Nt.digs (n2 * d1))) => minus_n vp vq _ _ W h1 h2 hle
      have HLE := Lib.hid hle
      clear hle
      go_region_held3 (fun w' => w'.cell? ⟨w.heap.size, 0, none⟩ = some (.bool false)) (first | assumption | (with_reducible exact HS4.out.cells.1) | (with_reducible exact HS4.out.drew.cells.1) | (with_reducible exact (HS3.out.drewN k).cells.1) | (with_reducible exact (HS3.out.drewN (k + 1)).cells.1) | exact (HS4.out.1.three_far (by omega) _ _ _).cell 0) ((go_at_call 111; (with_reducible refine (HMA.out _ _ _ (HP3.out.drewN (k + 1)) (HQ3.out.drewN (k + 1))).mono ?_); rintro e w4 ⟨vr, rfl, hr, hb⟩; obtain ⟨A4, c4, rfl, -, -, -, -⟩ := id hr.ex; have hS4 := (HS3.out.drewN (k + 1)).step hb; have hD4 := (HD3.out.drewN (k + 1)).below hb; have HS4 := Lib.hid hS4; have HR4 := Lib.hid hr; have HD4 := Lib.hid hD4; clear s30 s31 s32 s33 s34 s35 hb hr hS4 hD4; obtain ⟨s40, s41, s42, s43, s44, s45⟩ := HS4.out.cells; obtain ⟨t0, t1, t2, u0, u1, u2⟩ := HS4.out.2.2.1.three))
      have hle := HLE.out
      obtain ⟨-, q0, q1, q2⟩ := HS4.out.2.2.1.three_set (.bool false) (.slice A4 (Nt.digs (n1 * d2 - n2 * d1)).length c4) (.slice A3 (Nt.digs (d1 * d2)).length c3)
      go_wp2_with fail
      refine bodyPost_ret (v := .agg #[.bool false, (.slice A4 (Nt.digs (n1 * d2 - n2 * d1)).length c4), (.slice A3 (Nt.digs (d1 * d2)).length c3)]) (by simp [results, Tryz.results270, go_sem, q0, q1, q2]) rfl ?_
      exact ⟨below_three HS4.out.bel (by omega) _ _ _, _, false, _, rfl, ⟨_, _, rfl, HR4.out.apart HS4.out.2.2.1 _ _ _, HD4.out.apart HS4.out.2.2.1 _ _ _⟩, by simp [Nt.zi]; omega, by omega⟩
    · have hle : n1 * d2 ≤ n2 * d1 := by rcases HC.out with ⟨h1, h2⟩ | ⟨h1, h2⟩ | ⟨h1, h2⟩ <;> omega
      have HMB := Lib.hid fun (W : World) (vp vq : Value) (h1 : Nv W vp (Nt.digs (n2 * d1))) (h2 : Nv W vq (Nt.digs (n1 * d2))) => minus_n vp vq _ _ W h1 h2 hle
      have HLE := Lib.hid hle
      clear hle
      go_region_held3 (fun w' => w'.cell? ⟨w.heap.size + 1, 0, none⟩ = some (.bool true)) (first | assumption | (with_reducible exact HS4.out.cells.2.2.2.1) | (with_reducible exact HS4.out.drew.cells.2.2.2.1) | (with_reducible exact (HS3.out.drewN k).cells.2.2.2.1) | (with_reducible exact (HS3.out.drewN (k + 1)).cells.2.2.2.1) | exact (HS4.out.2.1.three_far (by omega) _ _ _).cell 0) ((go_at_call 111; (with_reducible refine (HMB.out _ _ _ (HQ3.out.drewN (k + 1)) (HP3.out.drewN (k + 1))).mono ?_); rintro e w4 ⟨vr, rfl, hr, hb⟩; obtain ⟨A4, c4, rfl, -, -, -, -⟩ := id hr.ex; have hS4 := (HS3.out.drewN (k + 1)).step hb; have hD4 := (HD3.out.drewN (k + 1)).below hb; have HS4 := Lib.hid hS4; have HR4 := Lib.hid hr; have HD4 := Lib.hid hD4; clear s30 s31 s32 s33 s34 s35 hb hr hS4 hD4; obtain ⟨s40, s41, s42, s43, s44, s45⟩ := HS4.out.cells; obtain ⟨t0, t1, t2, u0, u1, u2⟩ := HS4.out.2.2.1.three))
      have hle := HLE.out
      obtain ⟨-, q0, q1, q2⟩ := HS4.out.2.2.1.three_set (.bool true) (.slice A4 (Nt.digs (n2 * d1 - n1 * d2)).length c4) (.slice A3 (Nt.digs (d1 * d2)).length c3)
      go_wp2_with fail
      refine bodyPost_ret (v := .agg #[.bool true, (.slice A4 (Nt.digs (n2 * d1 - n1 * d2)).length c4), (.slice A3 (Nt.digs (d1 * d2)).length c3)]) (by simp [results, Tryz.results270, go_sem, q0, q1, q2]) rfl ?_
      exact ⟨below_three HS4.out.bel (by omega) _ _ _, _, true, _, rfl, ⟨_, _, rfl, HR4.out.apart HS4.out.2.2.1 _ _ _, HD4.out.apart HS4.out.2.2.1 _ _ _⟩, by simp [Nt.zi]; omega, by omega⟩
  · go_wp2_with (first | (go_at_call 112; (with_reducible refine (HT3.out _ HS2.out.bel).mono ?_); rintro e w3 ⟨vd, rfl, hd, hb⟩; have hS3 := HS2.out.step hb; have hP3 := HP2.out.below hb; have hQ3 := HQ2.out.below hb; have HS3 := Lib.hid hS3; have HP3 := Lib.hid hP3; have HQ3 := Lib.hid hQ3; obtain ⟨A3, c3, rfl, -, -, -, -⟩ := id hd.ex; have HD3 := Lib.hid hd; clear s10 s11 s12 s13 s14 s15 s20 s21 s22 s23 s24 s25 hS3 hP3 hQ3 hb hd; obtain ⟨s30, s31, s32, s33, s34, s35⟩ := HS3.out.cells) | (go_at_call 156; (with_reducible refine (compare_n _ _ _ _ _ HP3.out HQ3.out).mono ?_); rintro e w5 ⟨r, k, rfl, hc, hr1, hr2, rfl⟩; have HC := Lib.hid hc; clear hc))
    · have hle : n2 * d1 ≤ n1 * d2 := by rcases HC.out with ⟨h1, h2⟩ | ⟨h1, h2⟩ | ⟨h1, h2⟩ <;> omega
      have HMA := Lib.hid fun (W : World) (vp vq : Value) (h1 : Nv W vp (Nt.digs (n1 * d2))) (h2 : Nv W vq (Nt.digs (n2 * d1))) => minus_n vp vq _ _ W h1 h2 hle
      have HLE := Lib.hid hle
      clear hle
      go_region_held3 (fun w' => w'.cell? ⟨w.heap.size, 0, none⟩ = some (.bool true)) (first | assumption | (with_reducible exact HS4.out.cells.1) | (with_reducible exact HS4.out.drew.cells.1) | (with_reducible exact (HS3.out.drewN k).cells.1) | (with_reducible exact (HS3.out.drewN (k + 1)).cells.1) | exact (HS4.out.1.three_far (by omega) _ _ _).cell 0) ((go_at_call 111; (with_reducible refine (HMA.out _ _ _ (HP3.out.drewN (k + 1)) (HQ3.out.drewN (k + 1))).mono ?_); rintro e w4 ⟨vr, rfl, hr, hb⟩; obtain ⟨A4, c4, rfl, -, -, -, -⟩ := id hr.ex; have hS4 := (HS3.out.drewN (k + 1)).step hb; have hD4 := (HD3.out.drewN (k + 1)).below hb; have HS4 := Lib.hid hS4; have HR4 := Lib.hid hr; have HD4 := Lib.hid hD4; clear s30 s31 s32 s33 s34 s35 hb hr hS4 hD4; obtain ⟨s40, s41, s42, s43, s44, s45⟩ := HS4.out.cells; obtain ⟨t0, t1, t2, u0, u1, u2⟩ := HS4.out.2.2.1.three))
      have hle := HLE.out
      obtain ⟨-, q0, q1, q2⟩ := HS4.out.2.2.1.three_set (.bool true) (.slice A4 (Nt.digs (n1 * d2 - n2 * d1)).length c4) (.slice A3 (Nt.digs (d1 * d2)).length c3)
      go_wp2_with fail
      refine bodyPost_ret (v := .agg #[.bool true, (.slice A4 (Nt.digs (n1 * d2 - n2 * d1)).length c4), (.slice A3 (Nt.digs (d1 * d2)).length c3)]) (by simp [results, Tryz.results270, go_sem, q0, q1, q2]) rfl ?_
      exact ⟨below_three HS4.out.bel (by omega) _ _ _, _, true, _, rfl, ⟨_, _, rfl, HR4.out.apart HS4.out.2.2.1 _ _ _, HD4.out.apart HS4.out.2.2.1 _ _ _⟩, by simp [Nt.zi]; omega, by omega⟩
    · have hle : n1 * d2 ≤ n2 * d1 := by rcases HC.out with ⟨h1, h2⟩ | ⟨h1, h2⟩ | ⟨h1, h2⟩ <;> omega
      have HMB := Lib.hid fun (W : World) (vp vq : Value) (h1 : Nv W vp (Nt.digs (n2 * d1))) (h2 : Nv W vq (Nt.digs (n1 * d2))) => minus_n vp vq _ _ W h1 h2 hle
      have HLE := Lib.hid hle
      clear hle
      go_region_held3 (fun w' => w'.cell? ⟨w.heap.size + 1, 0, none⟩ = some (.bool false)) (first | assumption | (with_reducible exact HS4.out.cells.2.2.2.1) | (with_reducible exact HS4.out.drew.cells.2.2.2.1) | (with_reducible exact (HS3.out.drewN k).cells.2.2.2.1) | (with_reducible exact (HS3.out.drewN (k + 1)).cells.2.2.2.1) | exact (HS4.out.2.1.three_far (by omega) _ _ _).cell 0) ((go_at_call 111; (with_reducible refine (HMB.out _ _ _ (HQ3.out.drewN (k + 1)) (HP3.out.drewN (k + 1))).mono ?_); rintro e w4 ⟨vr, rfl, hr, hb⟩; obtain ⟨A4, c4, rfl, -, -, -, -⟩ := id hr.ex; have hS4 := (HS3.out.drewN (k + 1)).step hb; have hD4 := (HD3.out.drewN (k + 1)).below hb; have HS4 := Lib.hid hS4; have HR4 := Lib.hid hr; have HD4 := Lib.hid hD4; clear s30 s31 s32 s33 s34 s35 hb hr hS4 hD4; obtain ⟨s40, s41, s42, s43, s44, s45⟩ := HS4.out.cells; obtain ⟨t0, t1, t2, u0, u1, u2⟩ := HS4.out.2.2.1.three))
      have hle := HLE.out
      obtain ⟨-, q0, q1, q2⟩ := HS4.out.2.2.1.three_set (.bool false) (.slice A4 (Nt.digs (n2 * d1 - n1 * d2)).length c4) (.slice A3 (Nt.digs (d1 * d2)).length c3)
      go_wp2_with fail
      refine bodyPost_ret (v := .agg #[.bool false, (.slice A4 (Nt.digs (n2 * d1 - n1 * d2)).length c4), (.slice A3 (Nt.digs (d1 * d2)).length c3)]) (by simp [results, Tryz.results270, go_sem, q0, q1, q2]) rfl ?_
      exact ⟨below_three HS4.out.bel (by omega) _ _ _, _, false, _, rfl, ⟨_, _, rfl, HR4.out.apart HS4.out.2.2.1 _ _ _, HD4.out.apart HS4.out.2.2.1 _ _ _⟩, by simp [Nt.zi]; omega, by omega⟩
  · go_upto_region 4 with (go_at_call 112; (with_reducible refine (HT3.out _ HS2.out.bel).mono ?_); rintro e w3 ⟨vd, rfl, hd, hb⟩; have hS3 := HS2.out.step hb; have hP3 := HP2.out.below hb; have hQ3 := HQ2.out.below hb; have HS3 := Lib.hid hS3; have HP3 := Lib.hid hP3; have HQ3 := Lib.hid hQ3; obtain ⟨A3, c3, rfl, -, -, -, -⟩ := id hd.ex; have HD3 := Lib.hid hd; clear s10 s11 s12 s13 s14 s15 s20 s21 s22 s23 s24 s25 hS3 hP3 hQ3 hb hd; obtain ⟨s30, s31, s32, s33, s34, s35⟩ := HS3.out.cells)
    go_region_held3 (fun w' => w'.cell? ⟨w.heap.size, 0, none⟩ = some (.bool true)) (first | assumption | (with_reducible exact HS4.out.cells.1) | (with_reducible exact HS4.out.drew.cells.1) | (with_reducible exact HS3.out.cells.1) | (with_reducible exact HS3.out.drew.cells.1) | exact (HS4.out.1.three_far (by omega) _ _ _).cell 0) ((go_at_call 223; (with_reducible refine (HPL.out _ _ _ HP3.out.drew HQ3.out.drew).mono ?_); rintro e w4 ⟨vr, rfl, hr, hb⟩; obtain ⟨A4, c4, rfl, -, -, -, -⟩ := id hr.ex; have hS4 := HS3.out.drew.step hb; have hD4 := HD3.out.drew.below hb; have HS4 := Lib.hid hS4; have HR4 := Lib.hid hr; have HD4 := Lib.hid hD4; clear s30 s31 s32 s33 s34 s35 hb hr hS4 hD4; obtain ⟨s40, s41, s42, s43, s44, s45⟩ := HS4.out.cells; obtain ⟨t0, t1, t2, u0, u1, u2⟩ := HS4.out.2.2.1.three))
    obtain ⟨-, q0, q1, q2⟩ := HS4.out.2.2.1.three_set (.bool true) (.slice A4 (Nt.digs (n1 * d2 + n2 * d1)).length c4) (.slice A3 (Nt.digs (d1 * d2)).length c3)
    go_wp2_with fail
    refine bodyPost_ret (v := .agg #[.bool true, (.slice A4 (Nt.digs (n1 * d2 + n2 * d1)).length c4), (.slice A3 (Nt.digs (d1 * d2)).length c3)]) (by simp [results, Tryz.results270, go_sem, q0, q1, q2]) rfl ?_
    exact ⟨below_three HS4.out.bel (by omega) _ _ _, _, true, _, rfl, ⟨_, _, rfl, HR4.out.apart HS4.out.2.2.1 _ _ _, HD4.out.apart HS4.out.2.2.1 _ _ _⟩, by simp [Nt.zi]; omega, by omega⟩
end Go.Proofs.YtllhefjblipddaaGreatDoor

namespace Go.Proofs.YtllhefjblipddaaGreatDoor
open Go.RowKit

theorem Nm.open' {W : World} {x : Value} {m : Bool} {n d : Nat} (h : Nm W x m n d) : ∃ A c A' c', x = .agg #[.bool m, .slice A (Nt.digs n).length c, .slice A' (Nt.digs d).length c'] ∧ Nv W (.slice A (Nt.digs n).length c) (Nt.digs n) ∧ Nv W (.slice A' (Nt.digs d).length c') (Nt.digs d) := by
  obtain ⟨A1, c1, A2, c2, h1, h2, h3⟩ := h.at'
  exact ⟨A1, c1, A2, c2, h1, h2, h3⟩
theorem sum_o (A1 : Option Addr) (c1 : Nat) (A2 : Option Addr) (c2 : Nat) (B1 : Option Addr) (k1 : Nat) (B2 : Option Addr) (k2 : Nat) (m1 : Bool) (n1 d1 : Nat) (m2 : Bool) (n2 d2 : Nat) (w : World) (h1 : Nv w (.slice A1 (Nt.digs n1).length c1) (Nt.digs n1)) (h2 : Nv w (.slice A2 (Nt.digs d1).length c2) (Nt.digs d1)) (h3 : Nv w (.slice B1 (Nt.digs n2).length k1) (Nt.digs n2)) (h4 : Nv w (.slice B2 (Nt.digs d2).length k2) (Nt.digs d2))
    (s1 : (Nt.digs n1).length ≤ 400000) (s2 : (Nt.digs d1).length ≤ 400000) (s3 : (Nt.digs n2).length ≤ 400000) (s4 : (Nt.digs d2).length ≤ 400000) :
    Calls Tryz.prog 270 #[.agg #[.bool m1, .slice A1 (Nt.digs n1).length c1, .slice A2 (Nt.digs d1).length c2], .agg #[.bool m2, .slice B1 (Nt.digs n2).length k1, .slice B2 (Nt.digs d2).length k2]] w fun e w' =>
      ∃ m n A c A' c', e = .returned (.agg #[.bool m, .slice A (Nt.digs n).length c, .slice A' (Nt.digs (d1 * d2)).length c']) ∧ (Nt.zi m n = Nt.zi m1 (n1 * d2) + Nt.zi m2 (n2 * d1) ∧ n ≤ n1 * d2 + n2 * d1) ∧ Nv w' (.slice A (Nt.digs n).length c) (Nt.digs n) ∧ Nv w' (.slice A' (Nt.digs (d1 * d2)).length c') (Nt.digs (d1 * d2)) ∧ Below w.heap.size w w' := by
  refine (sum_any _ _ m1 n1 d1 m2 n2 d2 w ⟨_, _, rfl, h1, h2⟩ ⟨_, _, rfl, h3, h4⟩ s1 s2 s3 s4).mono ?_
  rintro e w' ⟨hb, r, m, n, rfl, hr, hz, hn⟩
  obtain ⟨A, c, A', c', rfl, g1, g2⟩ := hr.open'
  exact ⟨m, n, A, c, A', c', rfl, ⟨hz, hn⟩, g1, g2, hb⟩
def SumP (m1 : Bool) (n1 d1 : Nat) (m2 : Bool) (n2 d2 : Nat) (m : Bool) (n : Nat) : Prop := Nt.zi m n = Nt.zi m1 (n1 * d2) + Nt.zi m2 (n2 * d1) ∧ n ≤ n1 * d2 + n2 * d1

set_option maxRecDepth 100000 in
set_option maxHeartbeats 2000000 in
theorem add1_any (m1 : Bool) (n1 d1 : Nat) (m2 : Bool) (n2 d2 : Nat) (s1 : (Nt.digs n1).length ≤ 400000) (s2 : (Nt.digs d1).length ≤ 400000) (s3 : (Nt.digs n2).length ≤ 400000) (s4 : (Nt.digs d2).length ≤ 400000)
    (w : World) (A1 : Option Addr) (c1 : Nat) (A2 : Option Addr) (c2 : Nat) (B1 : Option Addr) (k1 : Nat) (B2 : Option Addr) (k2 : Nat) (h1 : Nv w (.slice A1 (Nt.digs n1).length c1) (Nt.digs n1)) (h2 : Nv w (.slice A2 (Nt.digs d1).length c2) (Nt.digs d1)) (h3 : Nv w (.slice B1 (Nt.digs n2).length k1) (Nt.digs n2)) (h4 : Nv w (.slice B2 (Nt.digs d2).length k2) (Nt.digs d2)) :
    Calls Tryz.prog 269 #[.agg #[.bool m1, .slice A1 (Nt.digs n1).length c1, .slice A2 (Nt.digs d1).length c2], .agg #[.bool m2, .slice B1 (Nt.digs n2).length k1, .slice B2 (Nt.digs d2).length k2]] w (FnRet (SumP m1 n1 d1 m2 n2 d2) (d1 * d2) w) := by
  have HS0 := Lib.hid (SP.new w (.bool m1) (.slice A1 (Nt.digs n1).length c1) (.slice A2 (Nt.digs d1).length c2) (.bool m2) (.slice B1 (Nt.digs n2).length k1) (.slice B2 (Nt.digs d2).length k2))
  have HSU := Lib.hid fun (W : World) (hb : Below w.heap.size w W) => sum_o A1 c1 A2 c2 B1 k1 B2 k2 m1 n1 d1 m2 n2 d2 W (h1.below hb) (h2.below hb) (h3.below hb) (h4.below hb) s1 s2 s3 s4
  clear h1 h2 h3 h4 s1 s2 s3 s4
  go_enter Tryz.func269, Tryz.ntmps269
  go_wp2_with (go_at_call 270; (with_reducible refine (HSU.out _ HS0.out.bel).mono ?_); rintro e w1 ⟨m, n, A, c, A', c', rfl, hp, hr1, hr2, hb⟩; have HS1 := Lib.hid (HS0.out.step hb); have HP := Lib.hid hp; have HR1 := Lib.hid hr1; have HR2 := Lib.hid hr2; clear hp hr1 hr2 hb; obtain ⟨t0, t1, t2, u0, u1, u2⟩ := HS1.out.2.2.1.three)
  obtain ⟨-, q0, q1, q2⟩ := HS1.out.2.2.1.three_set (.bool m) (.slice A (Nt.digs n).length c) (.slice A' (Nt.digs (d1 * d2)).length c')
  refine bodyPost_ret (v := .tuple #[.agg #[.bool m, .slice A (Nt.digs n).length c, .slice A' (Nt.digs (d1 * d2)).length c'], .int .i64 0]) (by simp [results, Tryz.results269, go_sem, q0, q1, q2]) rfl ?_
  exact ⟨m, n, A, c, A', c', rfl, HP.out, HR1.out.apart HS1.out.2.2.1 _ _ _, HR2.out.apart HS1.out.2.2.1 _ _ _, below_three HS1.out.bel (by omega) _ _ _⟩

/-- The sign of a product. -/
theorem SP.stored {w W : World} {a0 a1 a2 b0 b1 b2 : Value} (h : SP w a0 a1 a2 b0 b1 b2 W) (y0 y1 y2 : Value) :
    (((W.setCell ⟨w.heap.size + 2, 0, none⟩ y0).setCell ⟨w.heap.size + 2, 1, none⟩ y1).setCell ⟨w.heap.size + 2, 2, none⟩ y2).cell? ⟨w.heap.size, 0, none⟩ = some a0 ∧
    (((W.setCell ⟨w.heap.size + 2, 0, none⟩ y0).setCell ⟨w.heap.size + 2, 1, none⟩ y1).setCell ⟨w.heap.size + 2, 2, none⟩ y2).cell? ⟨w.heap.size, 1, none⟩ = some a1 ∧
    (((W.setCell ⟨w.heap.size + 2, 0, none⟩ y0).setCell ⟨w.heap.size + 2, 1, none⟩ y1).setCell ⟨w.heap.size + 2, 2, none⟩ y2).cell? ⟨w.heap.size, 2, none⟩ = some a2 ∧
    (((W.setCell ⟨w.heap.size + 2, 0, none⟩ y0).setCell ⟨w.heap.size + 2, 1, none⟩ y1).setCell ⟨w.heap.size + 2, 2, none⟩ y2).cell? ⟨w.heap.size + 1, 0, none⟩ = some b0 ∧
    (((W.setCell ⟨w.heap.size + 2, 0, none⟩ y0).setCell ⟨w.heap.size + 2, 1, none⟩ y1).setCell ⟨w.heap.size + 2, 2, none⟩ y2).cell? ⟨w.heap.size + 1, 1, none⟩ = some b1 ∧
    (((W.setCell ⟨w.heap.size + 2, 0, none⟩ y0).setCell ⟨w.heap.size + 2, 1, none⟩ y1).setCell ⟨w.heap.size + 2, 2, none⟩ y2).cell? ⟨w.heap.size + 1, 2, none⟩ = some b2 :=
  have p := h.1.three_far (g := w.heap.size + 2) (by omega) y0 y1 y2
  have q := h.2.1.three_far (g := w.heap.size + 2) (by omega) y0 y1 y2
  ⟨p.cell 0, p.cell 1, p.cell 2, q.cell 0, q.cell 1, q.cell 2⟩
theorem times_o (va vb : Value) (a b : Nat) (w : World) (ha : Nv w va (Nt.digs a)) (hb : Nv w vb (Nt.digs b)) (sa : (Nt.digs a).length ≤ 1000000) (sb : (Nt.digs b).length ≤ 1000000) :
    Calls Tryz.prog 112 #[va, vb] w fun e w' => ∃ A c, e = .returned (.slice A (Nt.digs (a * b)).length c) ∧ Nv w' (.slice A (Nt.digs (a * b)).length c) (Nt.digs (a * b)) ∧ Below w.heap.size w w' := by
  refine (times_n va vb a b w ha hb sa sb).mono ?_
  rintro e w' ⟨v, rfl, hv, hb⟩
  obtain ⟨A, c, rfl, _⟩ := hv.ex
  exact ⟨A, c, rfl, hv, hb⟩

set_option maxRecDepth 100000 in
set_option maxHeartbeats 4000000 in
theorem div1_any (m1 : Bool) (n1 d1 : Nat) (m2 : Bool) (n2 d2 : Nat) (hn : n2 ≠ 0) (s1 : (Nt.digs n1).length ≤ 400000) (s2 : (Nt.digs d1).length ≤ 400000) (s3 : (Nt.digs n2).length ≤ 400000) (s4 : (Nt.digs d2).length ≤ 400000)
    (w : World) (A1 : Option Addr) (c1 : Nat) (A2 : Option Addr) (c2 : Nat) (B1 : Option Addr) (k1 : Nat) (B2 : Option Addr) (k2 : Nat) (h1 : Nv w (.slice A1 (Nt.digs n1).length c1) (Nt.digs n1)) (h2 : Nv w (.slice A2 (Nt.digs d1).length c2) (Nt.digs d1)) (h3 : Nv w (.slice B1 (Nt.digs n2).length k1) (Nt.digs n2)) (h4 : Nv w (.slice B2 (Nt.digs d2).length k2) (Nt.digs d2)) :
    Calls Tryz.prog 267 #[.agg #[.bool m1, .slice A1 (Nt.digs n1).length c1, .slice A2 (Nt.digs d1).length c2], .agg #[.bool m2, .slice B1 (Nt.digs n2).length k1, .slice B2 (Nt.digs d2).length k2]] w (FnRet (fun m n => m = (m1 != m2) ∧ n = n1 * d2) (d1 * n2) w) := by
  have HT1 := Lib.hid fun (W : World) (hb : Below w.heap.size w W) => times_o (.slice A1 (Nt.digs n1).length c1) (.slice B2 (Nt.digs d2).length k2) n1 d2 W (h1.below hb) (h4.below hb) (by omega) (by omega)
  have HT2 := Lib.hid fun (W : World) (hb : Below w.heap.size w W) => times_o (.slice A2 (Nt.digs d1).length c2) (.slice B1 (Nt.digs n2).length k1) d1 n2 W (h2.below hb) (h3.below hb) (by omega) (by omega)
  have hl : (Nt.digs n2).length ≠ 0 := by rw [Nt.digs_pos (by omega)]; simp
  have hz : (((Nt.digs n2).length : Int) == 0) = false := by rw [beq_eq_false_iff_ne]; omega
  clear hl hn
  clear h1 h2 h3 h4 s1 s2 s3 s4
  have HS0 := Lib.hid (SP.new w (.bool m1) (.slice A1 (Nt.digs n1).length c1) (.slice A2 (Nt.digs d1).length c2) (.bool m2) (.slice B1 (Nt.digs n2).length k1) (.slice B2 (Nt.digs d2).length k2))
  cases m1 <;> cases m2
  · go_enter Tryz.func267, Tryz.ntmps267
    go_upto_region 3 with (go_at_call 67; refine (zero_any _ _ _ _).mono ?_; rintro e w0 ⟨rfl, rfl⟩)
    go_region_held3 (fun w' => w'.cell? ⟨w.heap.size, 0, none⟩ = some (.bool false) ∧ w'.cell? ⟨w.heap.size, 1, none⟩ = some (.slice A1 (Nt.digs n1).length c1) ∧ w'.cell? ⟨w.heap.size, 2, none⟩ = some (.slice A2 (Nt.digs d1).length c2) ∧ w'.cell? ⟨w.heap.size + 1, 0, none⟩ = some (.bool false) ∧ w'.cell? ⟨w.heap.size + 1, 1, none⟩ = some (.slice B1 (Nt.digs n2).length k1) ∧ w'.cell? ⟨w.heap.size + 1, 2, none⟩ = some (.slice B2 (Nt.digs d2).length k2)) (first | (with_reducible exact HS2.out.cells) | (with_reducible exact HS1.out.cells) | (with_reducible exact HS0.out.drew.cells) | (with_reducible exact HS0.out.cells) | exact HS2.out.stored _ _ _ | fail) (first | (go_at_call 112; first | ((with_reducible refine (HT1.out _ HS0.out.drew.bel).mono ?_); rintro e w1 ⟨P1, p1, rfl, hp, hb⟩; have hS1 := HS0.out.drew.step hb; obtain ⟨s10, s11, s12, s13, s14, s15⟩ := hS1.cells; have HS1 := Lib.hid hS1; have HP1 := Lib.hid hp; clear hp hb hS1) | ((with_reducible refine (HT2.out _ HS1.out.bel).mono ?_); rintro e w2 ⟨P2, p2, rfl, hq, hb⟩; have hS2 := HS1.out.step hb; obtain ⟨s20, s21, s22, s23, s24, s25⟩ := hS2.cells; obtain ⟨t0, t1, t2, u0, u1, u2⟩ := hS2.2.2.1.three; have HS2 := Lib.hid hS2; have HP2 := Lib.hid (HP1.out.below hb); have HQ2 := Lib.hid hq; clear hq hb hS2) | fail))
    obtain ⟨-, q0, q1, q2⟩ := HS2.out.2.2.1.three_set (.bool false) (.slice P1 (Nt.digs (n1 * d2)).length p1) (.slice P2 (Nt.digs (d1 * n2)).length p2)
    go_wp2_with fail
    refine bodyPost_ret (v := .tuple #[.agg #[.bool false, .slice P1 (Nt.digs (n1 * d2)).length p1, .slice P2 (Nt.digs (d1 * n2)).length p2], .int .i64 0]) (by simp [results, Tryz.results267, go_sem, q0, q1, q2]) rfl ?_
    exact ⟨false, _, P1, p1, P2, p2, rfl, ⟨rfl, rfl⟩, HP2.out.apart HS2.out.2.2.1 _ _ _, HQ2.out.apart HS2.out.2.2.1 _ _ _, below_three HS2.out.bel (by omega) _ _ _⟩
  · go_enter Tryz.func267, Tryz.ntmps267
    go_upto_region 3 with (go_at_call 67; refine (zero_any _ _ _ _).mono ?_; rintro e w0 ⟨rfl, rfl⟩)
    go_region_held3 (fun w' => w'.cell? ⟨w.heap.size, 0, none⟩ = some (.bool false) ∧ w'.cell? ⟨w.heap.size, 1, none⟩ = some (.slice A1 (Nt.digs n1).length c1) ∧ w'.cell? ⟨w.heap.size, 2, none⟩ = some (.slice A2 (Nt.digs d1).length c2) ∧ w'.cell? ⟨w.heap.size + 1, 0, none⟩ = some (.bool true) ∧ w'.cell? ⟨w.heap.size + 1, 1, none⟩ = some (.slice B1 (Nt.digs n2).length k1) ∧ w'.cell? ⟨w.heap.size + 1, 2, none⟩ = some (.slice B2 (Nt.digs d2).length k2)) (first | (with_reducible exact HS2.out.cells) | (with_reducible exact HS1.out.cells) | (with_reducible exact HS0.out.drew.cells) | (with_reducible exact HS0.out.cells) | exact HS2.out.stored _ _ _ | fail) (first | (go_at_call 112; first | ((with_reducible refine (HT1.out _ HS0.out.drew.bel).mono ?_); rintro e w1 ⟨P1, p1, rfl, hp, hb⟩; have hS1 := HS0.out.drew.step hb; obtain ⟨s10, s11, s12, s13, s14, s15⟩ := hS1.cells; have HS1 := Lib.hid hS1; have HP1 := Lib.hid hp; clear hp hb hS1) | ((with_reducible refine (HT2.out _ HS1.out.bel).mono ?_); rintro e w2 ⟨P2, p2, rfl, hq, hb⟩; have hS2 := HS1.out.step hb; obtain ⟨s20, s21, s22, s23, s24, s25⟩ := hS2.cells; obtain ⟨t0, t1, t2, u0, u1, u2⟩ := hS2.2.2.1.three; have HS2 := Lib.hid hS2; have HP2 := Lib.hid (HP1.out.below hb); have HQ2 := Lib.hid hq; clear hq hb hS2) | fail))
    obtain ⟨-, q0, q1, q2⟩ := HS2.out.2.2.1.three_set (.bool true) (.slice P1 (Nt.digs (n1 * d2)).length p1) (.slice P2 (Nt.digs (d1 * n2)).length p2)
    go_wp2_with fail
    refine bodyPost_ret (v := .tuple #[.agg #[.bool true, .slice P1 (Nt.digs (n1 * d2)).length p1, .slice P2 (Nt.digs (d1 * n2)).length p2], .int .i64 0]) (by simp [results, Tryz.results267, go_sem, q0, q1, q2]) rfl ?_
    exact ⟨true, _, P1, p1, P2, p2, rfl, ⟨rfl, rfl⟩, HP2.out.apart HS2.out.2.2.1 _ _ _, HQ2.out.apart HS2.out.2.2.1 _ _ _, below_three HS2.out.bel (by omega) _ _ _⟩
  · go_enter Tryz.func267, Tryz.ntmps267
    go_upto_region 3 with (go_at_call 67; refine (zero_any _ _ _ _).mono ?_; rintro e w0 ⟨rfl, rfl⟩)
    go_region_held3 (fun w' => w'.cell? ⟨w.heap.size, 0, none⟩ = some (.bool true) ∧ w'.cell? ⟨w.heap.size, 1, none⟩ = some (.slice A1 (Nt.digs n1).length c1) ∧ w'.cell? ⟨w.heap.size, 2, none⟩ = some (.slice A2 (Nt.digs d1).length c2) ∧ w'.cell? ⟨w.heap.size + 1, 0, none⟩ = some (.bool false) ∧ w'.cell? ⟨w.heap.size + 1, 1, none⟩ = some (.slice B1 (Nt.digs n2).length k1) ∧ w'.cell? ⟨w.heap.size + 1, 2, none⟩ = some (.slice B2 (Nt.digs d2).length k2)) (first | (with_reducible exact HS2.out.cells) | (with_reducible exact HS1.out.cells) | (with_reducible exact HS0.out.drew.cells) | (with_reducible exact HS0.out.cells) | exact HS2.out.stored _ _ _ | fail) (first | (go_at_call 112; first | ((with_reducible refine (HT1.out _ HS0.out.drew.bel).mono ?_); rintro e w1 ⟨P1, p1, rfl, hp, hb⟩; have hS1 := HS0.out.drew.step hb; obtain ⟨s10, s11, s12, s13, s14, s15⟩ := hS1.cells; have HS1 := Lib.hid hS1; have HP1 := Lib.hid hp; clear hp hb hS1) | ((with_reducible refine (HT2.out _ HS1.out.bel).mono ?_); rintro e w2 ⟨P2, p2, rfl, hq, hb⟩; have hS2 := HS1.out.step hb; obtain ⟨s20, s21, s22, s23, s24, s25⟩ := hS2.cells; obtain ⟨t0, t1, t2, u0, u1, u2⟩ := hS2.2.2.1.three; have HS2 := Lib.hid hS2; have HP2 := Lib.hid (HP1.out.below hb); have HQ2 := Lib.hid hq; clear hq hb hS2) | fail))
    obtain ⟨-, q0, q1, q2⟩ := HS2.out.2.2.1.three_set (.bool true) (.slice P1 (Nt.digs (n1 * d2)).length p1) (.slice P2 (Nt.digs (d1 * n2)).length p2)
    go_wp2_with fail
    refine bodyPost_ret (v := .tuple #[.agg #[.bool true, .slice P1 (Nt.digs (n1 * d2)).length p1, .slice P2 (Nt.digs (d1 * n2)).length p2], .int .i64 0]) (by simp [results, Tryz.results267, go_sem, q0, q1, q2]) rfl ?_
    exact ⟨true, _, P1, p1, P2, p2, rfl, ⟨rfl, rfl⟩, HP2.out.apart HS2.out.2.2.1 _ _ _, HQ2.out.apart HS2.out.2.2.1 _ _ _, below_three HS2.out.bel (by omega) _ _ _⟩
  · go_enter Tryz.func267, Tryz.ntmps267
    go_upto_region 3 with (go_at_call 67; refine (zero_any _ _ _ _).mono ?_; rintro e w0 ⟨rfl, rfl⟩)
    go_region_held3 (fun w' => w'.cell? ⟨w.heap.size, 0, none⟩ = some (.bool true) ∧ w'.cell? ⟨w.heap.size, 1, none⟩ = some (.slice A1 (Nt.digs n1).length c1) ∧ w'.cell? ⟨w.heap.size, 2, none⟩ = some (.slice A2 (Nt.digs d1).length c2) ∧ w'.cell? ⟨w.heap.size + 1, 0, none⟩ = some (.bool true) ∧ w'.cell? ⟨w.heap.size + 1, 1, none⟩ = some (.slice B1 (Nt.digs n2).length k1) ∧ w'.cell? ⟨w.heap.size + 1, 2, none⟩ = some (.slice B2 (Nt.digs d2).length k2)) (first | (with_reducible exact HS2.out.cells) | (with_reducible exact HS1.out.cells) | (with_reducible exact HS0.out.drew.cells) | (with_reducible exact HS0.out.cells) | exact HS2.out.stored _ _ _ | fail) (first | (go_at_call 112; first | ((with_reducible refine (HT1.out _ HS0.out.drew.bel).mono ?_); rintro e w1 ⟨P1, p1, rfl, hp, hb⟩; have hS1 := HS0.out.drew.step hb; obtain ⟨s10, s11, s12, s13, s14, s15⟩ := hS1.cells; have HS1 := Lib.hid hS1; have HP1 := Lib.hid hp; clear hp hb hS1) | ((with_reducible refine (HT2.out _ HS1.out.bel).mono ?_); rintro e w2 ⟨P2, p2, rfl, hq, hb⟩; have hS2 := HS1.out.step hb; obtain ⟨s20, s21, s22, s23, s24, s25⟩ := hS2.cells; obtain ⟨t0, t1, t2, u0, u1, u2⟩ := hS2.2.2.1.three; have HS2 := Lib.hid hS2; have HP2 := Lib.hid (HP1.out.below hb); have HQ2 := Lib.hid hq; clear hq hb hS2) | fail))
    obtain ⟨-, q0, q1, q2⟩ := HS2.out.2.2.1.three_set (.bool false) (.slice P1 (Nt.digs (n1 * d2)).length p1) (.slice P2 (Nt.digs (d1 * n2)).length p2)
    go_wp2_with fail
    refine bodyPost_ret (v := .tuple #[.agg #[.bool false, .slice P1 (Nt.digs (n1 * d2)).length p1, .slice P2 (Nt.digs (d1 * n2)).length p2], .int .i64 0]) (by simp [results, Tryz.results267, go_sem, q0, q1, q2]) rfl ?_
    exact ⟨false, _, P1, p1, P2, p2, rfl, ⟨rfl, rfl⟩, HP2.out.apart HS2.out.2.2.1 _ _ _, HQ2.out.apart HS2.out.2.2.1 _ _ _, below_three HS2.out.bel (by omega) _ _ _⟩
end Go.Proofs.YtllhefjblipddaaGreatDoor

namespace Go.Proofs.YtllhefjblipddaaGreatDoor
open Go.RowKit
namespace Nt

theorem zi_mul (m : Bool) (a b : Nat) : zi m (a * b) = zi m a * b := by
  cases m <;> simp [zi, Int.neg_mul]
theorem zi_abs (m : Bool) (n : Nat) : (zi m n).natAbs = n := by
  cases m <;> simp [zi]
theorem zi_zero (m : Bool) : zi m 0 = 0 := by cases m <;> rfl
/-- The texts stand for z / d. -/
structure Q (num den : List UInt8) (z : Int) (d : Nat) : Prop where
  d0 : d ≠ 0
  ex : ∃ m n e, Rd num den m n e ∧ zi m n * d = z * e

theorem mulc {a b c : Int} (hc : c ≠ 0) (h : a * c = b * c) : a = b := Int.eq_of_mul_eq_mul_right hc h
theorem red_eq {n e n' e' : Nat} (h1 : Nat.gcd n e = 1) (h2 : Nat.gcd n' e' = 1) (h : n * e' = n' * e) : n = n' ∧ e = e' := by
  have c1 : Nat.Coprime n e := h1
  have c2 : Nat.Coprime n' e' := h2
  refine ⟨Nat.dvd_antisymm (c1.dvd_of_dvd_mul_right (by rw [← h]; exact Nat.dvd_mul_right _ _)) (c2.dvd_of_dvd_mul_right (by rw [h]; exact Nat.dvd_mul_right _ _)),
    Nat.dvd_antisymm (c1.symm.dvd_of_dvd_mul_left (by rw [h]; exact Nat.dvd_mul_left _ _)) (c2.symm.dvd_of_dvd_mul_left (by rw [← h]; exact Nat.dvd_mul_left _ _))⟩
theorem zi_inj {m m' : Bool} {n : Nat} (h : zi m n = zi m' n) (a : n = 0 → m = false) (b : n = 0 → m' = false) : m = m' := by
  rcases Nat.eq_zero_or_pos n with h0 | h0
  · rw [a h0, b h0]
  · cases m <;> cases m' <;> simp [zi] at h ⊢ <;> omega
theorem Q.same {n1 d1 n2 d2 : List UInt8} {z z' : Int} {d d' : Nat} (h : Q n1 d1 z d) (h' : Q n2 d2 z' d') (e : z * d' = z' * d) : n1 = n2 ∧ d1 = d2 := by
  obtain ⟨m, n, p, r, q⟩ := h.ex
  obtain ⟨m', n', p', r', q'⟩ := h'.ex
  have hd : (d : Int) ≠ 0 := by have := h.d0; omega
  have hd' : (d' : Int) ≠ 0 := by have := h'.d0; omega
  have k : zi m n * p' = zi m' n' * p := by
    refine mulc hd (mulc hd' ?_)
    calc zi m n * p' * d * d' = (zi m n * d) * (p' * d') := by grind
      _ = z * p * (p' * d') := by rw [q]
      _ = (z * d') * (p * p') := by grind
      _ = (z' * d) * (p * p') := by rw [e]
      _ = (z' * p') * (p * d) := by grind
      _ = (zi m' n' * d') * (p * d) := by rw [q']
      _ = zi m' n' * p * d * d' := by grind
  have k2 := congrArg Int.natAbs k
  rw [Int.natAbs_mul, Int.natAbs_mul, zi_abs, zi_abs, Int.natAbs_natCast, Int.natAbs_natCast] at k2
  obtain ⟨rfl, rfl⟩ := red_eq r.g r'.g k2
  have hp : (p : Int) ≠ 0 := by have := r.d0; omega
  obtain rfl := zi_inj (mulc hp k) r.n0 r'.n0
  exact ⟨r.num.trans r'.num.symm, r.den.trans r'.den.symm⟩
theorem Q.cross {n1 d1 : List UInt8} {z z' : Int} {d d' : Nat} (h : Q n1 d1 z d) (h' : Q n1 d1 z' d') : z * d' = z' * d := by
  obtain ⟨m, n, p, r, q⟩ := h.ex
  obtain ⟨m', n', p', r', q'⟩ := h'.ex
  obtain ⟨rfl, rfl, rfl⟩ := r.uniq r'
  have hp : (p : Int) ≠ 0 := by have := r.d0; omega
  refine mulc hp ?_
  calc z * d' * p = (z * p) * d' := by grind
    _ = zi m n * d * d' := by rw [q]
    _ = zi m n * d' * d := by grind
    _ = z' * p * d := by rw [q']
    _ = z' * d * p := by grind
/-- The sign, and zero. -/
theorem Q.zero {n1 d1 : List UInt8} {z : Int} {d : Nat} (h : Q n1 d1 z d) : n1 = [48] ↔ z = 0 := by
  obtain ⟨m, n, p, r, q⟩ := h.ex
  have hp : (p : Int) ≠ 0 := by have := r.d0; omega
  have hd : (d : Int) ≠ 0 := by have := h.d0; omega
  constructor
  · intro e
    have p1 := pre_sgn m n
    rw [← r.num, e] at p1
    have p2 : Lib.decDigits n = [48] := p1.1.symm.trans (by decide)
    rw [dd_zero] at p2
    subst p2
    rw [zi_zero, Int.zero_mul] at q
    rcases Int.mul_eq_zero.1 q.symm with h0 | h0
    · exact h0
    · exact absurd h0 hp
  · rintro rfl
    rw [Int.zero_mul] at q
    rcases Int.mul_eq_zero.1 q with h0 | h0
    · have h1 := congrArg Int.natAbs h0
      rw [zi_abs] at h1
      have h2 : n = 0 := by simpa using h1
      subst h2
      rw [r.num, r.n0 rfl, (dd_zero 0).2 rfl]
      rfl
    · exact absurd h0 hd
theorem Q.neg {n1 d1 : List UInt8} {z : Int} {d : Nat} (h : Q n1 d1 z d) : Lib.hasPrefix n1 [45] = decide (z < 0) := by
  obtain ⟨m, n, p, r, q⟩ := h.ex
  have hp : (0 : Int) < p := by have := r.d0; omega
  have hd : (0 : Int) < d := by have := h.d0; omega
  have p1 := (pre_sgn m n).2
  rw [← r.num] at p1
  rw [p1]
  have hn0 := r.n0
  cases m with
  | false =>
    have h1 : 0 ≤ zi false n * d := Int.mul_nonneg (by simp [zi]) (Int.le_of_lt hd)
    rw [q] at h1
    symm
    rw [decide_eq_false_iff_not, Int.not_lt]
    exact Int.le_of_mul_le_mul_right (by simpa using h1) hp
  | true =>
    have hn : 0 < n := Nat.pos_of_ne_zero fun e => by have := hn0 e; cases this
    have h1 : zi true n * d < 0 := Int.mul_neg_of_neg_of_pos (by simp [zi]; omega) hd
    rw [q] at h1
    symm
    rw [decide_eq_true_eq]
    by_cases hz : z < 0
    · exact hz
    · exact absurd h1 (Int.not_lt.2 (Int.mul_nonneg (Int.not_lt.1 hz) (Int.le_of_lt hp)))
/-- What is written is read. -/
theorem rd_w (m : Bool) (n d : Nat) (hd : d ≠ 0) (f1 : (Lib.decDigits (n / Nat.gcd n d)).length ≤ 300) (f2 : (Lib.decDigits (d / Nat.gcd n d)).length ≤ 300) : Q (numT m n d) (denT n d) (zi m n) d := by
  refine ⟨hd, ?_⟩
  by_cases h0 : n = 0
  · subst h0
    refine ⟨false, 0, 1, ⟨?_, ?_, by decide, fun _ => rfl, by rw [(dd_zero 0).2 rfl]; decide, ?_, by decide⟩, ?_⟩
    · rw [numT, if_pos rfl, (dd_zero 0).2 rfl]; rfl
    · rw [denT, if_pos rfl, Lib.decDigits_one (by decide)]; rfl
    · rw [Lib.decDigits_one (by decide)]; decide
    · rw [zi_zero, zi_zero, Int.zero_mul, Int.zero_mul]
  · have hg : 0 < Nat.gcd n d := Nat.gcd_pos_of_pos_left d (by omega)
    obtain ⟨g, hge⟩ : ∃ g, g = Nat.gcd n d := ⟨_, rfl⟩
    have hn : g ∣ n := hge ▸ Nat.gcd_dvd_left n d
    have hdd : g ∣ d := hge ▸ Nat.gcd_dvd_right n d
    have hcop := Nat.coprime_div_gcd_div_gcd (m := n) (n := d) hg
    rw [numT, denT, if_neg h0, if_neg h0]
    rw [← hge] at f1 f2 hg hcop ⊢
    obtain ⟨a, rfl⟩ := hn
    obtain ⟨b, rfl⟩ := hdd
    rw [Nat.mul_div_cancel_left _ hg] at f1 hcop ⊢
    rw [Nat.mul_div_cancel_left _ hg] at f2 hcop ⊢
    refine ⟨m, a, b, ⟨rfl, rfl, fun e => hd (by rw [e, Nat.mul_zero]), fun e => absurd (by rw [e, Nat.mul_zero]) h0, f1, f2, hcop⟩, ?_⟩
    rw [Nat.mul_comm g a, zi_mul]
    have : ((g * b : Nat) : Int) = g * b := by simp
    rw [this, Int.mul_assoc]
/-- A fraction reduced is no longer than another text of it. -/
theorem red_le {m : Bool} {n p d : Nat} {z : Int} {k : Nat} (hp : p ≠ 0) (hd : d ≠ 0) (h : zi m n * d = z * p) (hz : z.natAbs ≤ 10 ^ k) (hd1 : d ≤ 10 ^ k) (hk : k ≤ 299) :
    (Lib.decDigits (n / Nat.gcd n p)).length ≤ 300 ∧ (Lib.decDigits (p / Nat.gcd n p)).length ≤ 300 := by
  obtain ⟨g, hge⟩ : ∃ g, g = Nat.gcd n p := ⟨_, rfl⟩
  have hg : 0 < Nat.gcd n p := Nat.gcd_pos_of_pos_right n (by omega)
  have hn : g ∣ n := hge ▸ Nat.gcd_dvd_left n p
  have hdd : g ∣ p := hge ▸ Nat.gcd_dvd_right n p
  have hcop := Nat.coprime_div_gcd_div_gcd (m := n) (n := p) hg
  rw [← hge] at hg hcop ⊢
  obtain ⟨a, rfl⟩ := hn
  obtain ⟨b, rfl⟩ := hdd
  rw [Nat.mul_div_cancel_left _ hg, Nat.mul_div_cancel_left _ hg] at hcop
  rw [Nat.mul_div_cancel_left _ hg, Nat.mul_div_cancel_left _ hg]
  have h1 := congrArg Int.natAbs h
  rw [Int.natAbs_mul, Int.natAbs_mul, zi_abs, Int.natAbs_natCast, Int.natAbs_natCast] at h1
  have h2 : a * d = z.natAbs * b := by
    have h3 : g * (a * d) = g * (z.natAbs * b) := by
      calc g * (a * d) = g * a * d := by rw [Nat.mul_assoc]
        _ = z.natAbs * (g * b) := h1
        _ = g * (z.natAbs * b) := by grind
    exact Nat.eq_of_mul_eq_mul_left hg h3
  have hcop' : Nat.Coprime a b := hcop
  have ha : a ∣ z.natAbs := hcop'.dvd_of_dvd_mul_right (by rw [← h2]; exact Nat.dvd_mul_right _ _)
  have hb : b ∣ d := hcop'.symm.dvd_of_dvd_mul_left (by rw [h2]; exact Nat.dvd_mul_left _ _)
  have hk1 : 10 ^ k < 10 ^ (k + 1) := Nat.pow_lt_pow_right (by decide) (by omega)
  have hb1 : b ≤ 10 ^ k := Nat.le_trans (Nat.le_of_dvd (by omega) hb) hd1
  have ha1 : a ≤ 10 ^ k := by
    by_cases h0 : z.natAbs = 0
    · rw [h0, Nat.zero_mul] at h2
      rcases Nat.mul_eq_zero.1 h2 with h3 | h3
      · rw [h3]; exact Nat.zero_le _
      · exact absurd h3 hd
    · exact Nat.le_trans (Nat.le_of_dvd (by omega) ha) hz
  exact ⟨Nat.le_trans (dd_le (Nat.lt_of_le_of_lt ha1 hk1)) (by omega), Nat.le_trans (dd_le (Nat.lt_of_le_of_lt hb1 hk1)) (by omega)⟩
/-- The texts stand for z / d, which is written with at most k digits. -/
structure Qk (num den : List UInt8) (z : Int) (d k : Nat) : Prop where
  q : Q num den z d
  zk : z.natAbs ≤ 10 ^ k
  dk : d ≤ 10 ^ k
theorem Qk.ln {num den : List UInt8} {z : Int} {d k : Nat} (h : Qk num den z d k) : num.length ≤ 301 ∧ den.length ≤ 300 := by
  obtain ⟨m, n, p, r, q⟩ := h.q.ex
  have h1 := r.ln
  have h2 := r.ld
  rw [r.num, r.den]
  refine ⟨?_, h2⟩
  rw [List.length_append]
  cases m <;> simp [sgn] <;> omega
theorem dd_lt (n : Nat) : n < 10 ^ (Lib.decDigits n).length := by
  have := dval_lt (allD_dd n)
  rwa [dval_dd] at this
theorem Rd.qk {num den : List UInt8} {m : Bool} {n d : Nat} (h : Rd num den m n d) (h1 : num.length ≤ 40) (h2 : den.length ≤ 40) : Qk num den (zi m n) d 40 := by
  refine ⟨⟨h.d0, m, n, d, h, rfl⟩, ?_, ?_⟩
  · rw [zi_abs]
    have e := h.num
    have h3 : (Lib.decDigits n).length ≤ 40 := by rw [e, List.length_append] at h1; omega
    exact Nat.le_of_lt (Nat.lt_of_lt_of_le (dd_lt n) (Nat.pow_le_pow_right (by decide) h3))
  · have e := h.den
    rw [e] at h2
    exact Nat.le_of_lt (Nat.lt_of_lt_of_le (dd_lt d) (Nat.pow_le_pow_right (by decide) h2))
theorem abs_add_le {x y : Int} {k : Nat} (hx : x.natAbs ≤ 10 ^ k) (hy : y.natAbs ≤ 10 ^ k) : (x + y).natAbs ≤ 10 ^ (k + 1) := by
  have := Int.natAbs_add_le x y
  rw [Nat.pow_succ]
  omega
theorem abs_mul_le {x : Int} {d k l : Nat} (hx : x.natAbs ≤ 10 ^ k) (hd : d ≤ 10 ^ l) : (x * d).natAbs ≤ 10 ^ (k + l) := by
  rw [Int.natAbs_mul, Int.natAbs_natCast, Nat.pow_add]
  exact Nat.mul_le_mul hx hd
theorem abs_mul_le' {x y : Int} {k l : Nat} (hx : x.natAbs ≤ 10 ^ k) (hd : y.natAbs ≤ 10 ^ l) : (x * y).natAbs ≤ 10 ^ (k + l) := by
  rw [Int.natAbs_mul, Nat.pow_add]
  exact Nat.mul_le_mul hx hd
theorem mul_le_p {x d k l : Nat} (hx : x ≤ 10 ^ k) (hd : d ≤ 10 ^ l) : x * d ≤ 10 ^ (k + l) := by
  rw [Nat.pow_add]
  exact Nat.mul_le_mul hx hd
/-- What is written of m, n, p, which is z / d. -/
theorem w_qk {m : Bool} {n p d k : Nat} {z : Int} (hp : p ≠ 0) (hd : d ≠ 0) (h : zi m n * d = z * p) (hz : z.natAbs ≤ 10 ^ k) (hd1 : d ≤ 10 ^ k) (hk : k ≤ 299) : Qk (numT m n p) (denT n p) z d k := by
  obtain ⟨f1, f2⟩ := red_le hp hd h hz hd1 hk
  have hq := rd_w m n p hp f1 f2
  refine ⟨⟨hd, ?_⟩, hz, hd1⟩
  obtain ⟨m', n', e, r, q⟩ := hq.ex
  refine ⟨m', n', e, r, ?_⟩
  have hp' : (p : Int) ≠ 0 := by omega
  refine mulc hp' ?_
  calc zi m' n' * d * p = (zi m' n' * p) * d := by grind
    _ = zi m n * e * d := by rw [q]
    _ = (zi m n * d) * e := by grind
    _ = z * p * e := by rw [h]
    _ = z * e * p := by grind
end Nt
end Go.Proofs.YtllhefjblipddaaGreatDoor

namespace Go.Proofs.YtllhefjblipddaaGreatDoor
open Go.RowKit

theorem digs_pow {n j : Nat} (h : n < Nt.B ^ j) : (Nt.digs n).length ≤ j := Nt.digs_len h
theorem lt_pow34 {n : Nat} (h : (Lib.decDigits n).length ≤ 300) : n < Nt.B ^ 34 := by
  have h1 := Nt.dd_lt n
  obtain ⟨k, hk⟩ : ∃ k, k = 34 := ⟨_, rfl⟩
  rw [← hk]
  have h2 : 10 ^ (Lib.decDigits n).length ≤ 10 ^ (9 * k) := Nat.pow_le_pow_right (by decide) (by omega)
  have e : (10 : Nat) ^ (9 * k) = Nt.B ^ k := Nat.pow_mul 10 9 k
  rw [← e]
  exact Nat.lt_of_lt_of_le h1 h2
theorem mul_pow {a b i j : Nat} (ha : a < Nt.B ^ i) (hb : b < Nt.B ^ j) : a * b < Nt.B ^ (i + j) := by
  rw [Nat.pow_add]
  exact Nat.mul_lt_mul'' ha hb
theorem add_pow {a b i : Nat} (ha : a < Nt.B ^ i) (hb : b < Nt.B ^ i) : a + b < Nt.B ^ (i + 1) := by
  rw [Nat.pow_succ]
  have : 2 ≤ Nt.B := by decide
  have h2 : Nt.B ^ i * 2 ≤ Nt.B ^ i * Nt.B := Nat.mul_le_mul_left _ this
  omega
namespace Nt
theorem zi_not (m : Bool) (n : Nat) : zi (!m) n = -zi m n := by cases m <;> simp [zi]
theorem zi_mulx (m1 m2 : Bool) (n1 n2 : Nat) : zi (m1 != m2) (n1 * n2) = zi m1 n1 * zi m2 n2 := by
  cases m1 <;> cases m2 <;> simp [zi, Int.neg_mul, Int.mul_neg]
theorem abs_sub_le {x y : Int} {k : Nat} (hx : x.natAbs ≤ 10 ^ k) (hy : y.natAbs ≤ 10 ^ k) : (x - y).natAbs ≤ 10 ^ (k + 1) := by
  have := Int.natAbs_sub_le x y
  rw [Nat.pow_succ]
  omega
theorem div_key {m1 m2 : Bool} {n1 n2 e1 e2 d1 d2 : Nat} {z1 z2 : Int} (q1 : zi m1 n1 * d1 = z1 * e1) (q2 : zi m2 n2 * d2 = z2 * e2) (_hn2 : n2 ≠ 0) (_hd1 : d1 ≠ 0) (_he1 : e1 ≠ 0) (hd2 : d2 ≠ 0) (he2 : e2 ≠ 0) (hz2 : z2 ≠ 0) :
    zi (m1 != m2) (n1 * e2) * ((d1 * z2.natAbs : Nat) : Int) = (z1 * d2 * z2.sign) * ((e1 * n2 : Nat) : Int) := by
  have hs : zi (m1 != m2) (n1 * e2) = zi m1 n1 * e2 * (if m2 then -1 else 1) := by cases m1 <;> cases m2 <;> simp [zi, Int.neg_mul]
  have hsg : (if m2 then (-1 : Int) else 1) * z2.natAbs = z2 := by
    have hd : (0 : Int) < d2 := by omega
    have he : (0 : Int) < e2 := by omega
    cases m2 with
    | false =>
      have h1 : 0 ≤ zi false n2 * d2 := Int.mul_nonneg (by simp [zi]) (Int.le_of_lt hd)
      rw [q2] at h1
      have : 0 ≤ z2 := by
        by_cases h : z2 < 0
        · exact absurd h1 (Int.not_le.2 (Int.mul_neg_of_neg_of_pos h he))
        · omega
      simp; omega
    | true =>
      have h1 : zi true n2 * d2 ≤ 0 := by
        have : 0 ≤ (n2 : Int) * d2 := Int.mul_nonneg (by omega) (Int.le_of_lt hd)
        simp only [zi, if_true, Int.neg_mul]; omega
      rw [q2] at h1
      have : z2 ≤ 0 := by
        by_cases h : 0 < z2
        · exact absurd h1 (Int.not_le.2 (Int.mul_pos h he))
        · omega
      simp; omega
  have hn : (n2 : Int) * d2 = z2.natAbs * e2 := by
    have := congrArg Int.natAbs q2
    rw [Int.natAbs_mul, Int.natAbs_mul, zi_abs, Int.natAbs_natCast, Int.natAbs_natCast] at this
    exact_mod_cast this
  have hss : (if m2 then (-1 : Int) else 1) = z2.sign := by
    have h3 : ((if m2 then (-1 : Int) else 1) - z2.sign) * z2.natAbs = 0 := by
      rw [Int.sub_mul, hsg, Int.sign_mul_natAbs]; omega
    rcases Int.mul_eq_zero.1 h3 with h | h
    · omega
    · omega
  rw [hs, hss]
  push_cast
  have e1' : zi m1 n1 * e2 * z2.sign * (d1 * z2.natAbs) = (zi m1 n1 * d1) * (z2.natAbs * e2) * z2.sign := by grind
  rw [e1', q1, ← hn]
  grind
end Nt
/-- What an operation hands back: the texts of z / d. -/
def QRet (z : Int) (d k : Nat) (w : World) (e : Ending) (w' : World) : Prop :=
  ∃ sn sd : ByteArray, e = .returned (.tuple #[.agg #[.string sn, .string sd], .int .i64 0]) ∧ Nt.Qk sn.data.toList sd.data.toList z d k ∧ Below w.heap.size w w'
theorem qret_of {P : Bool → Nat → Prop} {p d k : Nat} {z : Int} {w : World} {e : Ending} {w' : World} (hp : p ≠ 0) (hd : d ≠ 0) (hz : z.natAbs ≤ 10 ^ k) (hd1 : d ≤ 10 ^ k) (hk : k ≤ 299) (hP : ∀ m n, P m n → Nt.zi m n * d = z * p) (h : OpRet P p w e w') : QRet z d k w e w' := by
  obtain ⟨m, n, sn, sd, h1, h2, h3, h4, h5⟩ := h
  refine ⟨sn, sd, h2, ?_, h5⟩
  rw [h3, h4]
  exact Nt.w_qk hp hd (hP m n h1) hz hd1 hk
theorem fits_of {m : Bool} {n p d k : Nat} {z : Int} (hp : p ≠ 0) (hd : d ≠ 0) (h : Nt.zi m n * d = z * p) (hz : z.natAbs ≤ 10 ^ k) (hd1 : d ≤ 10 ^ k) (hk : k ≤ 299) {i : Nat} (hi : i ≤ 900000) (hn : n < Nt.B ^ i) (hpp : p < Nt.B ^ i) : Fits n p := by
  obtain ⟨f1, f2⟩ := Nt.red_le hp hd h hz hd1 hk
  exact ⟨Nat.le_trans (digs_pow hn) hi, Nat.le_trans (digs_pow hpp) hi, f1, f2⟩
theorem size_of {t : ByteArray} {k : Nat} (h : t.data.toList.length ≤ k) (hk : k ≤ 301) : t.size ≤ 9223372036854775807 := by
  have : t.data.toList.length = t.size := rfl
  omega

set_option maxRecDepth 100000 in
set_option maxHeartbeats 1000000 in
theorem Add_w (a1 a2 b1 b2 : ByteArray) (P : Bool → Nat → Prop) (d : Nat) (w : World)
    (h : ∀ W, Below w.heap.size w W → Calls Tryz.prog 266 #[.agg #[.string a1, .string a2], .agg #[.string b1, .string b2], .func (.func 269) #[] #[]] W (OpRet P d W)) :
    Calls Tryz.prog 231 #[.agg #[.string a1, .string a2], .agg #[.string b1, .string b2]] w (OpRet P d w) := by
  have H := Lib.hid h
  clear h
  have HL0 := Lib.hid ((((Loc.start w).alloc' rfl 24 #[.string a1, .string a2]).alloc' (g := w.heap.size + 1) (by simp) 24 #[.string b1, .string b2]).alloc' (g := w.heap.size + 2) (by simp) 24 #[.string ⟨#[]⟩, .string ⟨#[]⟩])
  go_enter Tryz.func231, Tryz.ntmps231
  go_wp2_with (go_at_call 266; (with_reducible refine (H.out _ HL0.out.bel).mono ?_); rintro e w1 ⟨m, n, sn, sd, hp, rfl, e1, e2, hb⟩; have hl := HL0.out.step hb; have HL3 := Lib.hid hl; have bl := hl.blk (g := w.heap.size + 2) (t := 24) (cs := #[.string ⟨#[]⟩, .string ⟨#[]⟩]) (by simp); have HBL := Lib.hid bl; obtain ⟨x0, x1, f0, f1⟩ := bl.two; have E1 := Lib.hid e1; have E2 := Lib.hid e2; have HPP := Lib.hid hp; clear hl bl hb e1 e2 hp)
  obtain ⟨-, q0, q1⟩ := HBL.out.two_set (.string sn) (.string sd)
  refine bodyPost_ret (v := .tuple #[.agg #[.string sn, .string sd], .int .i64 0]) (by simp [results, Tryz.results231, go_sem, q0, q1]) rfl ?_
  exact ⟨m, n, sn, sd, HPP.out, rfl, E1.out, E2.out, below_two HL3.out.bel (by omega) _ _⟩

set_option maxRecDepth 100000 in
set_option maxHeartbeats 1000000 in
theorem Div_w (a1 a2 b1 b2 : ByteArray) (P : Bool → Nat → Prop) (d : Nat) (w : World)
    (h : ∀ W, Below w.heap.size w W → Calls Tryz.prog 266 #[.agg #[.string a1, .string a2], .agg #[.string b1, .string b2], .func (.func 267) #[] #[]] W (OpRet P d W)) :
    Calls Tryz.prog 228 #[.agg #[.string a1, .string a2], .agg #[.string b1, .string b2]] w (OpRet P d w) := by
  have H := Lib.hid h
  clear h
  have HL0 := Lib.hid ((((Loc.start w).alloc' rfl 24 #[.string a1, .string a2]).alloc' (g := w.heap.size + 1) (by simp) 24 #[.string b1, .string b2]).alloc' (g := w.heap.size + 2) (by simp) 24 #[.string ⟨#[]⟩, .string ⟨#[]⟩])
  go_enter Tryz.func228, Tryz.ntmps228
  go_wp2_with (go_at_call 266; (with_reducible refine (H.out _ HL0.out.bel).mono ?_); rintro e w1 ⟨m, n, sn, sd, hp, rfl, e1, e2, hb⟩; have hl := HL0.out.step hb; have HL3 := Lib.hid hl; have bl := hl.blk (g := w.heap.size + 2) (t := 24) (cs := #[.string ⟨#[]⟩, .string ⟨#[]⟩]) (by simp); have HBL := Lib.hid bl; obtain ⟨x0, x1, f0, f1⟩ := bl.two; have E1 := Lib.hid e1; have E2 := Lib.hid e2; have HPP := Lib.hid hp; clear hl bl hb e1 e2 hp)
  obtain ⟨-, q0, q1⟩ := HBL.out.two_set (.string sn) (.string sd)
  refine bodyPost_ret (v := .tuple #[.agg #[.string sn, .string sd], .int .i64 0]) (by simp [results, Tryz.results228, go_sem, q0, q1]) rfl ?_
  exact ⟨m, n, sn, sd, HPP.out, rfl, E1.out, E2.out, below_two HL3.out.bel (by omega) _ _⟩

theorem add_q (a1 a2 b1 b2 : ByteArray) (z1 z2 : Int) (d1 d2 k1 k2 : Nat) (w : World) (ha : Nt.Qk a1.data.toList a2.data.toList z1 d1 k1) (hb : Nt.Qk b1.data.toList b2.data.toList z2 d2 k2) (hk : k1 + k2 + 1 ≤ 299) (htab : Lib.TabIs Tryz.prog w "internal/strconv.uint64pow10" .u64 Lib.pow10Tab) :
    Calls Tryz.prog 231 #[.agg #[.string a1, .string a2], .agg #[.string b1, .string b2]] w (QRet (z1 * d2 + z2 * d1) (d1 * d2) (k1 + k2 + 1) w) := by
  obtain ⟨m1, n1, e1, r1, q1⟩ := ha.q.ex
  obtain ⟨m2, n2, e2, r2, q2⟩ := hb.q.ex
  have la := ha.ln
  have lb := hb.ln
  have hd1 := ha.q.d0
  have hd2 := hb.q.d0
  have he1 := r1.d0
  have he2 := r2.d0
  have x1 := lt_pow34 r1.ln
  have x2 := lt_pow34 r1.ld
  have x3 := lt_pow34 r2.ln
  have x4 := lt_pow34 r2.ld
  have hp : e1 * e2 ≠ 0 := Nat.mul_ne_zero he1 he2
  have hd : d1 * d2 ≠ 0 := Nat.mul_ne_zero hd1 hd2
  have bz : (z1 * d2 + z2 * d1).natAbs ≤ 10 ^ (k1 + k2 + 1) := Nt.abs_add_le (Nt.abs_mul_le ha.zk hb.dk) (by have := Nt.abs_mul_le hb.zk ha.dk; rwa [Nat.add_comm k2 k1] at this)
  have bd : (d1 * d2 : Nat) ≤ 10 ^ (k1 + k2 + 1) := Nat.le_trans (Nt.mul_le_p ha.dk hb.dk) (Nat.pow_le_pow_right (by decide) (by omega))
  have key : ∀ m n, (SumP m1 n1 e1 m2 n2 e2) m n → Nt.zi m n * ((d1 * d2 : Nat) : Int) = (z1 * d2 + z2 * d1) * ((e1 * e2 : Nat) : Int) := by
    rintro m n ⟨h, -⟩
    rw [h, Nt.zi_mul, Nt.zi_mul]
    push_cast
    grind
  refine (Add_w a1 a2 b1 b2 (SumP m1 n1 e1 m2 n2 e2) (e1 * e2) w fun W hW => two_Add _ _ hp a1 a2 b1 b2 m1 n1 e1 m2 n2 e2 W (size_of la.1 (by omega)) (size_of la.2 (by omega)) (size_of lb.1 (by omega)) (size_of lb.2 (by omega)) r1 r2 (Lib.tabBelow_of_tabIs htab W hW)
    (fun W2 A1 c1 A2 c2 B1 k1 B2 k2 => add1_any m1 n1 e1 m2 n2 e2 (Nat.le_trans (digs_pow x1) (by omega)) (Nat.le_trans (digs_pow x2) (by omega)) (Nat.le_trans (digs_pow x3) (by omega)) (Nat.le_trans (digs_pow x4) (by omega)) W2 A1 c1 A2 c2 B1 k1 B2 k2)
    (fun m n hP => fits_of hp hd (key m n hP) bz bd hk (i := 69) (by omega) (Nat.lt_of_le_of_lt hP.2 (add_pow (i := 68) (mul_pow x1 x4) (mul_pow x3 x2))) ((Nat.lt_of_lt_of_le (mul_pow x2 x4) (Nat.pow_le_pow_right (by decide) (by omega)))))).mono fun e w' h => qret_of hp hd bz bd hk key h

theorem div_q (a1 a2 b1 b2 : ByteArray) (z1 z2 : Int) (d1 d2 k1 k2 : Nat) (w : World) (ha : Nt.Qk a1.data.toList a2.data.toList z1 d1 k1) (hb : Nt.Qk b1.data.toList b2.data.toList z2 d2 k2) (hz2 : z2 ≠ 0) (hk : k1 + k2 ≤ 299) (htab : Lib.TabIs Tryz.prog w "internal/strconv.uint64pow10" .u64 Lib.pow10Tab) :
    Calls Tryz.prog 228 #[.agg #[.string a1, .string a2], .agg #[.string b1, .string b2]] w (QRet (z1 * d2 * z2.sign) (d1 * z2.natAbs) (k1 + k2) w) := by
  obtain ⟨m1, n1, e1, r1, q1⟩ := ha.q.ex
  obtain ⟨m2, n2, e2, r2, q2⟩ := hb.q.ex
  have la := ha.ln
  have lb := hb.ln
  have hd1 := ha.q.d0
  have hd2 := hb.q.d0
  have he1 := r1.d0
  have he2 := r2.d0
  have x1 := lt_pow34 r1.ln
  have x2 := lt_pow34 r1.ld
  have x3 := lt_pow34 r2.ln
  have x4 := lt_pow34 r2.ld
  have hn2 : n2 ≠ 0 := by
    rintro rfl
    rw [Nt.zi_zero, Int.zero_mul] at q2
    rcases Int.mul_eq_zero.1 q2.symm with h | h
    · exact hz2 h
    · omega
  have hp : e1 * n2 ≠ 0 := Nat.mul_ne_zero he1 hn2
  have hd : d1 * z2.natAbs ≠ 0 := Nat.mul_ne_zero hd1 (by omega)
  have bz : (z1 * d2 * z2.sign).natAbs ≤ 10 ^ (k1 + k2) := by rw [Int.natAbs_mul, Int.natAbs_sign_of_ne_zero hz2, Nat.mul_one]; exact Nt.abs_mul_le ha.zk hb.dk
  have bd : (d1 * z2.natAbs : Nat) ≤ 10 ^ (k1 + k2) := Nt.mul_le_p ha.dk hb.zk
  have key : ∀ m n, (fun m n => m = (m1 != m2) ∧ n = n1 * e2) m n → Nt.zi m n * ((d1 * z2.natAbs : Nat) : Int) = (z1 * d2 * z2.sign) * ((e1 * n2 : Nat) : Int) := by
    rintro m n ⟨rfl, rfl⟩
    exact Nt.div_key q1 q2 hn2 hd1 he1 hd2 he2 hz2
  refine (Div_w a1 a2 b1 b2 (fun m n => m = (m1 != m2) ∧ n = n1 * e2) (e1 * n2) w fun W hW => two_Div _ _ hp a1 a2 b1 b2 m1 n1 e1 m2 n2 e2 W (size_of la.1 (by omega)) (size_of la.2 (by omega)) (size_of lb.1 (by omega)) (size_of lb.2 (by omega)) r1 r2 (Lib.tabBelow_of_tabIs htab W hW)
    (fun W2 A1 c1 A2 c2 B1 k1 B2 k2 => div1_any m1 n1 e1 m2 n2 e2 hn2 (Nat.le_trans (digs_pow x1) (by omega)) (Nat.le_trans (digs_pow x2) (by omega)) (Nat.le_trans (digs_pow x3) (by omega)) (Nat.le_trans (digs_pow x4) (by omega)) W2 A1 c1 A2 c2 B1 k1 B2 k2)
    (fun m n hP => fits_of hp hd (key m n hP) bz bd hk (i := 69) (by omega) (by rw [hP.2]; exact (Nat.lt_of_lt_of_le (mul_pow x1 x4) (Nat.pow_le_pow_right (by decide) (by omega)))) ((Nat.lt_of_lt_of_le (mul_pow x2 x3) (Nat.pow_le_pow_right (by decide) (by omega)))))).mono fun e w' h => qret_of hp hd bz bd hk key h
end Go.Proofs.YtllhefjblipddaaGreatDoor

namespace Go.Proofs.YtllhefjblipddaaGreatDoor
open Go.RowKit
namespace Nt
theorem isD_b (c : UInt8) : (ten10.contains c = true) = isD c := propext (ten10_iff c)
/-- Digits ahead, and the rest. -/
theorem left_split {l m : List UInt8} (h : allD l) (hm : ∀ c t, m = c :: t → ¬ isD c) : Lib.trimLeftS (l ++ m) ten10 = m := by
  unfold Lib.trimLeftS
  induction l with
  | nil =>
    cases m with
    | nil => rfl
    | cons c t =>
      have := hm c t rfl
      rw [List.nil_append, List.dropWhile_cons, if_neg (by rw [isD_b]; exact this)]
  | cons c t ih =>
    rw [List.cons_append, List.dropWhile_cons, if_pos ((ten10_iff c).2 (h c (by simp)))]
    exact ih (fun x hx => h x (by simp [hx]))
end Nt
theorem trimleft_v (s : ByteArray) (w : World) :
    Calls Tryz.prog 274 #[.string s, .string ⟨#[48, 49, 50, 51, 52, 53, 54, 55, 56, 57]⟩] w fun e w' => e = .returned (.string ⟨(Lib.trimLeftS s.data.toList Nt.ten10).toArray⟩) ∧ Below w.heap.size w w' :=
  Any.strings_TrimLeft_laid Tryz.lays161 (by kernel_rfl) s ⟨#[48, 49, 50, 51, 52, 53, 54, 55, 56, 57]⟩ w (by decide) (ascii_of_all (by decide))
theorem ba_ext {a b : ByteArray} (h : a.data.toList = b.data.toList) : a = b := by
  obtain ⟨⟨a⟩⟩ := a
  obtain ⟨⟨b⟩⟩ := b
  simp at h
  rw [h]
/-- run: the digits, and what is behind them. -/
theorem run_any (s a b : ByteArray) (w : World) (hs : s.data.toList = a.data.toList ++ b.data.toList) (ha : Nt.allD a.data.toList) (hb : ∀ c t, b.data.toList = c :: t → ¬ Nt.isD c) (hl : s.size ≤ 1000000) :
    Calls Tryz.prog 263 #[.string s] w fun e w' => e = .returned (.tuple #[.string a, .string b]) ∧ Below w.heap.size w w' := by
  have hz : a.size + b.size = s.size := by
    have := congrArg List.length hs
    rw [List.length_append] at this
    exact this.symm
  have ht := trimleft_v s w
  rw [hs, Nt.left_split ha hb] at ht
  rw [show (⟨b.data.toList.toArray⟩ : ByteArray) = b from ba_ext (by simp)] at ht
  have HT := Lib.hid ht
  have hcut : s.extract 0 (s.size - b.size) = a := ba_ext (by
    rw [Lib.extract_data, hs, show s.size - b.size = a.data.toList.length from (by have : a.size = a.data.toList.length := rfl; omega)]
    simp)
  have HC := Lib.hid hcut
  have HZ := Lib.hid hz
  have b1 : (b.size : Int) ≤ s.size := by omega
  have b2 : (s.size : Int) - b.size = a.size := by omega
  have HB2 := Lib.hid b2
  clear ht hcut hz b2 hs ha hb
  go_enter Tryz.func263, Tryz.ntmps263
  go_wp2_with (go_at_call 274; refine HT.out.mono ?_; rintro e w2 ⟨rfl, hbw⟩)
  rw [HC.out]
  go_ret2
  exact ⟨rfl, hbw⟩
/-- exponent: there is none. -/
theorem exponent_none (w : World) :
    Calls Tryz.prog 264 #[.string ⟨#[]⟩] w fun e w' => e = .returned (.tuple #[.int .i64 0, .bool true]) ∧ w = w' := by
  go_enter Tryz.func264, Tryz.ntmps264
  go_wp2_with fail
  go_ret2
  exact ⟨rfl, rfl⟩
/-- Of: a small number. -/
theorem of_nat (n : Nat) (w : World) (hn : n ≤ 1000) (htab : Lib.TabIs Tryz.prog w "internal/strconv.uint64pow10" .u64 Lib.pow10Tab) :
    Calls Tryz.prog 18 #[.int .i64 (n : Int)] w fun e w' => ∃ t : ByteArray, e = .returned (.agg #[.string t, .string ⟨#[49]⟩]) ∧ t.data.toList = Lib.decDigits n ∧ Below w.heap.size w w' := by
  have HT := Lib.hid (Lib.tabBelow_of_tabIs htab)
  have HI := Lib.hid (show ∀ W, Below w.heap.size w W → Calls Tryz.prog 20 #[.int .i64 (n : Int)] W fun e w' => ∃ t : ByteArray, e = .returned (.string t) ∧ t.data.toList = Lib.decDigits n ∧ Below W.heap.size W w' from fun W hW => by
    refine (Tryz.strconv_Itoa (n : Int) (by omega) (by omega) W (HT.out W hW)).mono ?_
    rintro e w' ⟨rfl, k, os, rfl⟩
    exact ⟨_, rfl, by rw [Lib.itoa_nonneg], Lib.below_grow _ W (Nat.le_refl _) k os⟩)
  clear htab
  have HL0 := Lib.hid ((Loc.start w).alloc' rfl 24 #[.string ⟨#[]⟩, .string ⟨#[]⟩])
  go_enter Tryz.func18, Tryz.ntmps18
  go_wp2_with (go_at_call 20; refine (HI.out _ HL0.out.bel).mono ?_; rintro e w2 ⟨t, rfl, ht, hb⟩; have hl := HL0.out.step hb; have HL1 := Lib.hid hl; obtain ⟨x0, x1, f0, f1⟩ := (hl.blk (g := w.heap.size) (t := 24) (cs := #[.string ⟨#[]⟩, .string ⟨#[]⟩]) (by simp)).two; clear hl; have HTT := Lib.hid ht; clear ht)
  have bl := HL1.out.blk (g := w.heap.size) (t := 24) (cs := #[.string ⟨#[]⟩, .string ⟨#[]⟩]) (by simp)
  obtain ⟨-, q0, q1⟩ := bl.two_set (.string t) (.string ⟨#[49]⟩)
  refine bodyPost_ret (v := .agg #[.string t, .string ⟨#[49]⟩]) (by simp [results, Tryz.results18, go_sem, q0, q1]) rfl ?_
  exact ⟨t, rfl, HTT.out, below_two HL1.out.bel (Nat.le_refl _) _ _⟩
namespace Nt
theorem pre_sgn' (m : Bool) (l : List UInt8) (h : l.head? ≠ some 45) : Lib.trimPrefix (sgn m ++ l) [45] = l ∧ Lib.hasPrefix (sgn m ++ l) [45] = m := by
  cases m with
  | true => simp [sgn, Lib.trimPrefix, Lib.hasPrefix]
  | false =>
    cases l with
    | nil => simp [sgn, Lib.trimPrefix, Lib.hasPrefix]
    | cons c t =>
      have hc : c ≠ 45 := fun e => h (by rw [e]; rfl)
      simp [sgn, Lib.trimPrefix, Lib.hasPrefix, List.isPrefixOf, Ne.symm hc]
theorem dval_ten (n : Nat) : dval (49 :: List.replicate n 48) = 10 ^ n := by
  rw [dval_cons, List.length_replicate]
  have : ∀ k, dval (List.replicate k 48) = 0 := fun k => by
    induction k with
    | zero => rfl
    | succ k ih => rw [List.replicate_succ, dval_cons, ih]; simp
  rw [this]
  simp
theorem allD_ten (n : Nat) : allD (49 :: List.replicate n 48) := fun c hc => by
  rcases List.mem_cons.1 hc with rfl | hc
  · exact ⟨by decide, by decide⟩
  · rw [(List.mem_replicate.1 hc).2]; exact ⟨by decide, by decide⟩
end Nt
theorem nv_lit (W : World) (d : Nat) (h0 : 0 < d) (h1 : d < Nt.B) (y : Int) (hy : y = (d : Int)) : Nv (W.alloc (.cells #[.int .u32 y] 78)) (.slice (some ⟨W.heap.size, 0, none⟩) 1 1) (Nt.digs d) := by
  have e : Nt.digs d = [d] := by
    rw [Nt.digs_pos h0, Nat.mod_eq_of_lt h1, Nat.div_eq_of_lt h1, Nt.digs_zero]
  rw [e]
  exact (own_lit1 W W.heap.size (Nat.le_refl _) y d hy).nv (by simp)
theorem repeatL_one (c : UInt8) (n : Nat) : Lib.repeatL [c] n = List.replicate n c := by
  induction n with
  | zero => rfl
  | succ n ih =>
    rw [List.replicate_succ, ← ih]
    rfl
theorem ten_any (n : Nat) (w : World) (hn : n ≤ 700000) :
    Calls Tryz.prog 265 #[.int .i64 (n : Int)] w fun e w' => ∃ A c, e = .returned (.slice A (Nt.digs (10 ^ n)).length c) ∧ Nv w' (.slice A (Nt.digs (10 ^ n)).length c) (Nt.digs (10 ^ n)) ∧ Below w.heap.size w w' := by
  have HR := Lib.hid (show Calls Tryz.prog 284 #[.string ⟨#[48]⟩, .int .i64 (n : Int)] w fun e w' => ∃ t : ByteArray, e = .returned (.string t) ∧ t.data.toList = List.replicate n 48 ∧ Below w.heap.size w w' from by
    refine (Tryz.strings_Repeat ⟨#[48]⟩ n w (by omega) (by show 1 * n ≤ _; omega)).mono ?_
    rintro e w' ⟨rfl, hb⟩
    exact ⟨_, rfl, by rw [← repeatL_one], hb⟩)
  have HP := Lib.hid (show ∀ (W : World) (t : ByteArray), t.data.toList = List.replicate n 48 → Calls Tryz.prog 21 #[.string (⟨#[49]⟩ ++ t)] W fun e w' => ∃ A c, e = .returned (.slice A (Nt.digs (10 ^ n)).length c) ∧ Nv w' (.slice A (Nt.digs (10 ^ n)).length c) (Nt.digs (10 ^ n)) ∧ Below W.heap.size W w' from fun W t ht => by
    have hp := parse_any (⟨#[49]⟩ ++ t) (49 :: List.replicate n 48) W (by rw [ByteArray.toList_data_append, ht]; rfl) (Nt.allD_ten n) (by simp; omega)
    rw [Nt.dval_ten] at hp
    refine hp.mono ?_
    rintro e w' ⟨v, rfl, hv, hb⟩
    obtain ⟨A, c, rfl, _⟩ := hv.ex
    exact ⟨A, c, rfl, hv, hb⟩)
  have hz : ∀ t : ByteArray, t.data.toList = List.replicate n 48 → t.size = n := fun t ht => by
    have := congrArg List.length ht
    rw [List.length_replicate] at this
    exact this
  have HZ := Lib.hid hz
  clear hz
  go_enter Tryz.func265, Tryz.ntmps265
  go_wp2_with (first
    | (go_at_call 284; refine HR.out.mono ?_; rintro e w1 ⟨t, rfl, ht, hb⟩; have lt : t.size ≤ 700000 := (by have := HZ.out t ht; omega); have HTT := Lib.hid ht; have HB := Lib.hid hb; clear ht hb)
    | (go_at_call 21; (with_reducible refine (HP.out _ t HTT.out).mono ?_); rintro e w2 ⟨A, c, rfl, hv, hb⟩; have HV := Lib.hid hv; have HB2 := Lib.hid (below_tr HB.out hb); clear hv hb))
  go_ret
  exact ⟨A, c, rfl, HV.out, HB2.out⟩
end Go.Proofs.YtllhefjblipddaaGreatDoor

namespace Go.Proofs.YtllhefjblipddaaGreatDoor
open Go.RowKit

theorem Nv.apart1 {W : World} {v : Value} {l : List Nat} (h : Nv W v l) {z i : Nat} {t : TypeId} {b : Bool} {A A' : Option Addr} {n n' c c' : Nat} (hz : Blk W z t #[.bool b, .slice A n c, .slice A' n' c']) (y : Value) : Nv (W.setCell ⟨z, i, none⟩ y) v l := by
  obtain ⟨A, c, rfl, h1, h2, h0, h3⟩ := h.ex
  refine ⟨A, c, rfl, h1, h2, h0, fun hl => ?_⟩
  obtain ⟨g, o, rfl, h4, h5⟩ := h3 hl
  have hne : g ≠ z := by
    rintro rfl
    have e1 := h5 0 hl
    rw [Nat.add_zero, hz.cell] at e1
    match o, e1 with
    | 0, e1 => simp at e1
    | 1, e1 => simp at e1
    | 2, e1 => simp at e1
    | o + 3, e1 => simp at e1
  refine ⟨g, o, rfl, by simpa [World.setCell] using h4, fun i hi => ?_⟩
  rw [World.cell?_setCell_other _ _ _ _ (fun e => by have := congrArg Addr.block e; simp only at this; omega)]
  exact h5 i hi
theorem parse_o (s : ByteArray) (l : List UInt8) (w : World) (hs : s.data.toList = l) (h : Nt.allD l) (hl : l.length ≤ 800000) :
    Calls Tryz.prog 21 #[.string s] w fun e w' => ∃ A c, e = .returned (.slice A (Nt.digs (Nt.dval l)).length c) ∧ Nv w' (.slice A (Nt.digs (Nt.dval l)).length c) (Nt.digs (Nt.dval l)) ∧ Below w.heap.size w w' := by
  refine (parse_any s l w hs h hl).mono ?_
  rintro e w' ⟨v, rfl, hv, hb⟩
  obtain ⟨A, c, rfl, _⟩ := hv.ex
  exact ⟨A, c, rfl, hv, hb⟩
theorem ba_len (s : ByteArray) : s.data.toList.length = s.size := rfl
theorem emp_false {a : ByteArray} (h : a.data.toList ≠ []) : a.toList.isEmpty = false := by
  rw [Lib.toList_data]
  cases hx : a.data.toList with
  | nil => exact absurd hx h
  | cons x l => rfl

set_option maxRecDepth 100000 in
set_option maxHeartbeats 2000000 in
theorem parse_frac (s r a t p : ByteArray) (m : Bool) (w : World) (hs : s.data.toList = Nt.sgn m ++ r.data.toList) (hr : r.data.toList = a.data.toList ++ t.data.toList) (ht : t.data.toList = 46 :: p.data.toList)
    (ha : Nt.allD a.data.toList) (ha0 : a.data.toList ≠ []) (hp : Nt.allD p.data.toList) (hp0 : p.data.toList ≠ []) (hl : s.size ≤ 1000)
    (hfit : Fits (Nt.dval (a.data.toList ++ p.data.toList)) (10 ^ p.size)) (htab : Lib.TabIs Tryz.prog w "internal/strconv.uint64pow10" .u64 Lib.pow10Tab) :
    Calls Tryz.prog 227 #[.string s] w (WriteRet m (Nt.dval (a.data.toList ++ p.data.toList)) (10 ^ p.size) w) := by
  have hsz : s.size = (Nt.sgn m).length + (a.size + (1 + p.size)) := by
    rw [← ba_len, hs, hr, ht]
    simp only [List.length_append, List.length_cons, ba_len]
    omega
  have hrs : r.size = a.size + (1 + p.size) := by
    rw [← ba_len, hr, ht]
    simp only [List.length_append, List.length_cons, ba_len]
    omega
  have hp1 : 1 ≤ p.size := by
    have : p.data.toList.length ≠ 0 := fun e => hp0 (List.eq_nil_of_length_eq_zero e)
    rw [ba_len] at this; omega
  have head : r.data.toList.head? ≠ some 45 := by
    rw [hr]
    cases hx : a.data.toList with
    | nil => exact absurd hx ha0
    | cons c l =>
      have hc := ha c (by rw [hx]; simp)
      simp only [List.cons_append, List.head?_cons, ne_eq, Option.some.injEq]
      rintro rfl
      exact absurd hc.1 (by decide)
  have HC1 := Lib.hid (show ∀ W, Calls Tryz.prog 19 #[.string s, .string ⟨#[45]⟩] W fun e w' => e = .returned (.tuple #[.string r, .bool m]) ∧ W = w' from fun W => by
    have h := Tryz.strings_CutPrefix s ⟨#[45]⟩ W
    rw [show (⟨#[45]⟩ : ByteArray).data.toList = [45] from rfl, hs, (Nt.pre_sgn' m _ head).1, (Nt.pre_sgn' m _ head).2, show (⟨r.data.toList.toArray⟩ : ByteArray) = r from ba_ext (by simp)] at h
    exact h.mono fun e w' ⟨h1, h2⟩ => ⟨h1, h2.symm⟩)
  have HC2 := Lib.hid (show ∀ W, Calls Tryz.prog 19 #[.string t, .string ⟨#[46]⟩] W fun e w' => e = .returned (.tuple #[.string p, .bool true]) ∧ W = w' from fun W => by
    have h := Tryz.strings_CutPrefix t ⟨#[46]⟩ W
    have e1 : Lib.hasPrefix (46 :: p.data.toList) [46] = true := by simp [Lib.hasPrefix]
    have e2 : Lib.trimPrefix (46 :: p.data.toList) [46] = p.data.toList := by rw [Lib.trimPrefix, if_pos e1]; rfl
    rw [show (⟨#[46]⟩ : ByteArray).data.toList = [46] from rfl, ht, e1, e2, show (⟨p.data.toList.toArray⟩ : ByteArray) = p from ba_ext (by simp)] at h
    exact h.mono fun e w' ⟨h1, h2⟩ => ⟨h1, h2.symm⟩)
  have HU1 := Lib.hid fun W => run_any r a t W hr ha (by rw [ht]; intro c l e; injection e with e1 e2; subst e1; rintro ⟨h1, h2⟩; exact absurd h1 (by decide)) (by omega)
  have HU2 := Lib.hid fun W => run_any p p ⟨#[]⟩ W (by simp) hp (fun c l e => by cases e) (by omega)
  have HPA := Lib.hid fun W => parse_o (a ++ p) (a.data.toList ++ p.data.toList) W (by rw [ByteArray.toList_data_append]) (fun c hc => (List.mem_append.1 hc).elim (ha c) (hp c)) (by rw [List.length_append, ba_len, ba_len]; omega)
  have HTE := Lib.hid fun W => ten_any p.size W (by omega)
  have HF := Lib.hid hfit
  have HT := Lib.hid (show ∀ W, Below w.heap.size w W → Lib.TabIs Tryz.prog W "internal/strconv.uint64pow10" .u64 Lib.pow10Tab from Lib.tabBelow_of_tabIs htab)
  have ea := emp_false ha0
  have ep := emp_false hp0
  have l1 : (a.size : Int) + p.size ≤ 1000 := by omega
  have HD := Lib.hid (show 10 ^ p.size ≠ 0 from Nat.ne_of_gt (Nat.pow_pos (by decide)))
  obtain ⟨N, hN⟩ : ∃ N, N = Nt.dval (a.data.toList ++ p.data.toList) := ⟨_, rfl⟩
  obtain ⟨D, hD⟩ : ∃ D, D = 10 ^ p.size := ⟨_, rfl⟩
  rw [← hN] at HPA HF ⊢
  rw [← hD] at HTE HF HD ⊢
  have hl' : (s.size : Int) ≤ 1000 := by omega
  clear hs hr ht ha ha0 hp hp0 hl hfit htab head hsz hrs hN hD
  have HL0 := Lib.hid ((Loc.start w).alloc' rfl 24 #[.string ⟨#[]⟩, .string ⟨#[]⟩])
  go_enter Tryz.func227, Tryz.ntmps227
  go_wp2_with (first
    | (go_at_call 19; first | ((with_reducible refine (HC1.out _).mono ?_); rintro e w1 ⟨rfl, rfl⟩) | ((with_reducible refine (HC2.out _).mono ?_); rintro e w1 ⟨rfl, rfl⟩))
    | (go_at_call 263; first | ((with_reducible refine (HU1.out _).mono ?_); rintro e w2 ⟨rfl, hb⟩; have HL2 := Lib.hid (HL0.out.step hb); clear hb) | ((with_reducible refine (HU2.out _).mono ?_); rintro e w3 ⟨rfl, hb⟩; have HL3 := Lib.hid (HL2.out.step hb); clear hb))
    | (go_at_call 264; (with_reducible refine (exponent_none _).mono ?_); rintro e w4 ⟨rfl, rfl⟩)
    | (go_at_call 21; (with_reducible refine (HPA.out _).mono ?_); rintro e w5 ⟨A1, c1, rfl, hv, hb⟩; have LE5 := Lib.hid (HL3.out.step hb).bel.size; have HL5 := Lib.hid (((HL3.out.step hb).alloc 78 #[.int .u32 1]).alloc' (g := w5.heap.size + 1) (by simp) 53 #[.bool m, .slice A1 (Nt.digs N).length c1, .slice (some ⟨w5.heap.size, 0, none⟩) 1 1]); have HV := Lib.hid hv; clear hv hb)
    | (go_at_call 265; (with_reducible refine (HTE.out _).mono ?_); rintro e w6 ⟨A2, c2, rfl, hv, hb⟩; have hl6 := HL5.out.step hb; have HL6 := Lib.hid hl6; have HB6 := Lib.hid hb; have bz := hl6.blk (g := w5.heap.size + 1) (t := 53) (cs := #[.bool m, .slice A1 (Nt.digs N).length c1, .slice (some ⟨w5.heap.size, 0, none⟩) 1 1]) (by simp); have HV2 := Lib.hid (hv.apart1 (i := 2) bz (.slice A2 (Nt.digs D).length c2)); have HV1 := Lib.hid ((((HV.out.below ((Below.refl _ w5).alloc (Nat.le_refl _) (.cells #[.int .u32 1] 78))).below ((Below.refl _ _).alloc (Nat.le_refl _) (.cells #[.bool m, .slice A1 (Nt.digs N).length c1, .slice (some ⟨w5.heap.size, 0, none⟩) 1 1] 53))).below hb).apart1 (i := 2) bz (.slice A2 (Nt.digs D).length c2)); have HLS := Lib.hid (hl6.set1 (i := 2) (by intro x hx; have := LE5.out; simp at hx; rcases hx with rfl | rfl <;> simp <;> omega) (.slice A2 (Nt.digs D).length c2)); clear bz; obtain ⟨z0, z1, z2, g0, g1, g2⟩ := (hl6.blk (g := w5.heap.size + 1) (t := 53) (cs := #[.bool m, .slice A1 (Nt.digs N).length c1, .slice (some ⟨w5.heap.size, 0, none⟩) 1 1]) (by simp)).three; clear hl6 hb hv)
    | (go_at_call 22; (with_reducible refine (write_any _ m N D _ ⟨_, _, rfl, HV1.out, HV2.out⟩ HD.out HF.out.s1 HF.out.s2 HF.out.f1 HF.out.f2 (HT.out _ HLS.out.bel)).mono ?_); rintro e w7 ⟨hb, sn, sd, rfl, e1, e2⟩; have hl := HLS.out.step hb; have HL7 := Lib.hid hl; have bl := hl.blk (g := w.heap.size) (t := 24) (cs := #[.string ⟨#[]⟩, .string ⟨#[]⟩]) (by simp); have HBL := Lib.hid bl; obtain ⟨x0, x1, f0, f1⟩ := bl.two; have E1 := Lib.hid e1; have E2 := Lib.hid e2; clear hl bl hb e1 e2))
  obtain ⟨-, q0, q1⟩ := HBL.out.two_set (.string sn) (.string sd)
  refine bodyPost_ret (v := .tuple #[.agg #[.string sn, .string sd], .int .i64 0]) (by simp [results, Tryz.results227, go_sem, q0, q1]) rfl ?_
  exact ⟨below_two HL7.out.bel (by omega) _ _, sn, sd, rfl, E1.out, E2.out⟩
end Go.Proofs.YtllhefjblipddaaGreatDoor

namespace Go.Proofs.YtllhefjblipddaaGreatDoor
open Go.RowKit

theorem read_c (sn sd : ByteArray) (w : World) (h1 : sn.size ≤ 9223372036854775807) (h2 : sd.size ≤ 9223372036854775807) :
    Calls Tryz.prog 160 #[.agg #[.string sn, .string sd]] w fun e w' => ∃ m A1 n1 c1 A2 n2 c2 c, e = .returned (.tuple #[.agg #[.bool m, .slice A1 n1 c1, .slice A2 n2 c2], .int .i64 c]) ∧ (c = 0 ↔ ∃ m n d, Nt.Rd sn.data.toList sd.data.toList m n d) ∧ Below w.heap.size w w' := by
  refine (read_any sn sd w h1 h2).mono ?_
  rintro e w' ⟨hb, x, c, rfl, (⟨rfl, m, n, d, hr, hx⟩ | ⟨h0, rfl, hno⟩)⟩
  · obtain ⟨A1, c1, A2, c2, rfl, -, -⟩ := hx.at'
    exact ⟨_, _, _, _, _, _, _, _, rfl, ⟨fun _ => ⟨m, n, d, hr⟩, fun _ => rfl⟩, hb⟩
  · exact ⟨_, _, _, _, _, _, _, _, rfl, ⟨fun h => absurd h h0, fun h => absurd h hno⟩, hb⟩

set_option maxRecDepth 100000 in
set_option maxHeartbeats 1000000 in
theorem check_any (sn sd : ByteArray) (w : World) (h1 : sn.size ≤ 9223372036854775807) (h2 : sd.size ≤ 9223372036854775807) :
    Calls Tryz.prog 117 #[.agg #[.string sn, .string sd]] w fun e w' => ∃ c : Int, e = .returned (.int .i64 c) ∧ (c = 0 ↔ ∃ m n d, Nt.Rd sn.data.toList sd.data.toList m n d) ∧ Below w.heap.size w w' := by
  have HR := Lib.hid fun W => read_c sn sd W h1 h2
  have HL0 := Lib.hid ((Loc.start w).alloc' rfl 24 #[.string sn, .string sd])
  clear h1 h2
  go_enter Tryz.func117, Tryz.ntmps117
  go_wp2_with (go_at_call 160; (with_reducible refine (HR.out _).mono ?_); rintro e w1 ⟨m, A1, n1, c1, A2, n2, c2, c, rfl, hc, hb⟩; have HL1 := Lib.hid ((HL0.out.step hb).alloc 53 #[.bool m, .slice A1 n1 c1, .slice A2 n2 c2]); have HC := Lib.hid hc; clear hc hb)
  go_ret
  exact ⟨c, rfl, HC.out, HL1.out.bel⟩
theorem check_t (sn sd : ByteArray) (w : World) (h1 : sn.size ≤ 9223372036854775807) (h2 : sd.size ≤ 9223372036854775807) (h : ∃ m n d, Nt.Rd sn.data.toList sd.data.toList m n d) :
    Calls Tryz.prog 117 #[.agg #[.string sn, .string sd]] w fun e w' => e = .returned (.int .i64 0) ∧ Below w.heap.size w w' :=
  (check_any sn sd w h1 h2).mono fun e w' ⟨c, he, hc, hb⟩ => by obtain rfl := hc.2 h; exact ⟨he, hb⟩
theorem check_f (sn sd : ByteArray) (w : World) (h1 : sn.size ≤ 9223372036854775807) (h2 : sd.size ≤ 9223372036854775807) (h : ¬ ∃ m n d, Nt.Rd sn.data.toList sd.data.toList m n d) :
    Calls Tryz.prog 117 #[.agg #[.string sn, .string sd]] w fun e w' => ∃ c : Int, e = .returned (.int .i64 c) ∧ (c != 0) = true ∧ Below w.heap.size w w' :=
  (check_any sn sd w h1 h2).mono fun e w' ⟨c, he, hc, hb⟩ => ⟨c, he, by rw [bne_iff_ne]; exact fun e => h (hc.1 e), hb⟩

structure Few (p : ByteArray × ByteArray) : Prop where
  rd : ∃ m n d, Nt.Rd p.1.data.toList p.2.data.toList m n d
  l1 : p.1.size ≤ 40
  l2 : p.2.size ≤ 40
/-- The cells of a slice of fractions. -/
def FrCells (W : World) (g : Nat) (l : List (ByteArray × ByteArray)) : Prop :=
  g < W.heap.size ∧ ∀ i (hi : i < l.length), W.cell? ⟨g, i * 2, none⟩ = some (.string l[i].1) ∧ W.cell? ⟨g, i * 2 + 1, none⟩ = some (.string l[i].2)
theorem FrCells.below {W W' : World} {g : Nat} {l : List (ByteArray × ByteArray)} (h : FrCells W g l) (hb : Below W.heap.size W W') : FrCells W' g l :=
  ⟨Nat.lt_of_lt_of_le h.1 hb.size, fun i hi => by
    have := h.2 i hi
    unfold World.cell? at this ⊢
    have e := hb.block g h.1
    simp only at this ⊢
    rw [e]; exact this⟩

theorem frcells3 (W : World) (a1 a2 b1 b2 c1 c2 : ByteArray) : FrCells (W.alloc (.cells #[.string a1, .string a2, .string b1, .string b2, .string c1, .string c2] 24)) W.heap.size [(a1, a2), (b1, b2), (c1, c2)] := by
  have hb := Blk.new W 24 #[.string a1, .string a2, .string b1, .string b2, .string c1, .string c2]
  refine ⟨by simp, fun i hi => ?_⟩
  match i, hi with
  | 0, _ => exact ⟨hb.cell 0, hb.cell 1⟩
  | 1, _ => exact ⟨hb.cell 2, hb.cell 3⟩
  | 2, _ => exact ⟨hb.cell 4, hb.cell 5⟩
theorem frcells2 (W : World) (a1 a2 b1 b2 : ByteArray) : FrCells (W.alloc (.cells #[.string a1, .string a2, .string b1, .string b2] 24)) W.heap.size [(a1, a2), (b1, b2)] := by
  have hb := Blk.new W 24 #[.string a1, .string a2, .string b1, .string b2]
  refine ⟨by simp, fun i hi => ?_⟩
  match i, hi with
  | 0, _ => exact ⟨hb.cell 0, hb.cell 1⟩
  | 1, _ => exact ⟨hb.cell 2, hb.cell 3⟩
theorem frcells1 (W : World) (a1 a2 : ByteArray) : FrCells (W.alloc (.cells #[.string a1, .string a2] 24)) W.heap.size [(a1, a2)] := by
  have hb := Blk.new W 24 #[.string a1, .string a2]
  refine ⟨by simp, fun i hi => ?_⟩
  match i, hi with
  | 0, _ => exact ⟨hb.cell 0, hb.cell 1⟩
end Go.Proofs.YtllhefjblipddaaGreatDoor

namespace Go.Proofs.YtllhefjblipddaaGreatDoor
open Go.RowKit

def frc (a b : ByteArray) : Value := .agg #[.string a, .string b]
def frSame (a b c d : ByteArray) : Bool := a.toList == c.toList && b.toList == d.toList
theorem frSame_iff (a b c d : ByteArray) : frSame a b c d = true ↔ a = c ∧ b = d := by
  unfold frSame
  rw [Bool.and_eq_true, beq_iff_eq, beq_iff_eq, Lib.toList_data, Lib.toList_data, Lib.toList_data, Lib.toList_data]
  exact ⟨fun ⟨h1, h2⟩ => ⟨ba_ext h1, ba_ext h2⟩, by rintro ⟨rfl, rfl⟩; exact ⟨rfl, rfl⟩⟩
theorem frSame_refl (a b : ByteArray) : frSame a b a b = true := (frSame_iff _ _ _ _).2 ⟨rfl, rfl⟩
theorem fr_stood : Tryz.prog.stoodInHeld 24 = false := by kernel_rfl
theorem fr_fields : Tryz.prog.underlying 24 = some (.struct (Tryz.prog.fieldsOf 24)) := by kernel_rfl
theorem eq_s (W : World) (a b : ByteArray) : (Op.equalIn 9999 9 (.string a) (.string b)).run Tryz.prog W = .ok (a.toList == b.toList) W := run_equalIn_string W 9998 _ a b Tryz.underlying9
theorem fr_equalIn (a b c d : ByteArray) (W : World) : (Op.equalIn 10000 24 (.agg #[.string a, .string b]) (.agg #[.string c, .string d])).run Tryz.prog W = .ok (frSame a b c d) W := by
  rw [run_equalIn_struct W 9999 _ _ _ fr_fields fr_stood]
  simp only [Program.fieldsOf, Tryz.underlying24]
  simp only [Op.eqFields, Sem.run_bind, Sem.run_ite, part]
  simp [eq_s]
  unfold frSame
  repeat' split
  all_goals simp [*]
theorem fr_neq (a b c d : ByteArray) (W : World) : (binOp .neq 24 (.agg #[.string a, .string b]) (.agg #[.string c, .string d])).run Tryz.prog W = .ok (.bool (!frSame a b c d)) W := by
  rw [run_neq_struct, fr_equalIn]; rfl
theorem fr_eql (a b c d : ByteArray) (W : World) : (binOp .eql 24 (.agg #[.string a, .string b]) (.agg #[.string c, .string d])).run Tryz.prog W = .ok (.bool (frSame a b c d)) W := by
  rw [run_eql_struct, fr_equalIn]; rfl
theorem fr_neq_self (a b : ByteArray) (W : World) : (binOp .neq 24 (.agg #[.string a, .string b]) (.agg #[.string a, .string b])).run Tryz.prog W = .ok (.bool false) W := by rw [fr_neq, frSame_refl]; rfl
theorem fr_eql_self (a b : ByteArray) (W : World) : (binOp .eql 24 (.agg #[.string a, .string b]) (.agg #[.string a, .string b])).run Tryz.prog W = .ok (.bool true) W := by rw [fr_eql, frSame_refl]

namespace Nt
theorem rd_small (n d : Nat) (hn : n < 10) (hd : d < 10) (h0 : d ≠ 0) (hg : Nat.gcd n d = 1) : Rd [UInt8.ofNat (48 + n)] [UInt8.ofNat (48 + d)] false n d :=
  ⟨by rw [Lib.decDigits_one hn]; rfl, by rw [Lib.decDigits_one hd], h0, fun _ => rfl, by rw [Lib.decDigits_one hn]; simp, by rw [Lib.decDigits_one hd]; simp, hg⟩
theorem qk_small (n d k : Nat) (hn : n < 10) (hd : d < 10) (h0 : d ≠ 0) (hg : Nat.gcd n d = 1) : Qk [UInt8.ofNat (48 + n)] [UInt8.ofNat (48 + d)] n d (k + 1) := by
  have hp : 1 ≤ 10 ^ k := Nat.one_le_pow _ _ (by decide)
  refine ⟨⟨h0, false, n, d, rd_small n d hn hd h0 hg, rfl⟩, ?_, ?_⟩
  · rw [Int.natAbs_natCast, Nat.pow_succ]; omega
  · rw [Nat.pow_succ]; omega
end Nt
theorem Few.qk {p : ByteArray × ByteArray} (h : Few p) : ∃ z d, Nt.Qk p.1.data.toList p.2.data.toList z d 40 := by
  obtain ⟨m, n, d, hr⟩ := h.rd
  exact ⟨_, _, hr.qk h.l1 h.l2⟩
theorem is_str {s : ByteArray} {l : List UInt8} (h : s.data.toList = l) : (s.toList == l) = true := by rw [Lib.toList_data, h]; simp
theorem not_str {s : ByteArray} {l : List UInt8} (h : s.data.toList ≠ l) : (s.toList == l) = false := by rw [Lib.toList_data]; simpa using h
theorem fits150 : Fits (Nt.dval [49, 53, 48]) (10 ^ 2) := by
  have e : Nt.dval [49, 53, 48] = 150 := by decide
  rw [e]
  have h1 : (Nt.digs 150).length ≤ 1 := Nt.digs_len (by decide)
  have h2 : (Nt.digs (10 ^ 2)).length ≤ 1 := Nt.digs_len (by decide)
  exact ⟨by omega, by omega, Nat.le_trans (Nt.dd_le (k := 0) (by decide)) (by decide), Nat.le_trans (Nt.dd_le (k := 0) (by decide)) (by decide)⟩
theorem parse_150 (w : World) (htab : Lib.TabIs Tryz.prog w "internal/strconv.uint64pow10" .u64 Lib.pow10Tab) :
    Calls Tryz.prog 227 #[.string ⟨#[49, 46, 53, 48]⟩] w fun e w' => e = .returned (.tuple #[.agg #[.string ⟨#[51]⟩, .string ⟨#[50]⟩], .int .i64 0]) ∧ Below w.heap.size w w' := by
  have h := parse_frac ⟨#[49, 46, 53, 48]⟩ ⟨#[49, 46, 53, 48]⟩ ⟨#[49]⟩ ⟨#[46, 53, 48]⟩ ⟨#[53, 48]⟩ false w rfl rfl rfl
    (by intro c hc; simp at hc; subst hc; exact ⟨by decide, by decide⟩) (by simp) (by intro c hc; simp at hc; rcases hc with rfl | rfl <;> exact ⟨by decide, by decide⟩) (by simp) (by decide) fits150 htab
  refine h.mono ?_
  rintro e w' ⟨hb, sn, sd, rfl, e1, e2⟩
  have e0 : Nt.dval [49, 53, 48] = 150 := by decide
  have x1 : sn.data.toList = [51] := by
    rw [e1]
    show Nt.numT false (Nt.dval [49, 53, 48]) (10 ^ 2) = _
    rw [e0, Nt.numT, if_neg (by decide), show 150 / Nat.gcd 150 (10 ^ 2) = 3 from by decide, Lib.decDigits_one (by decide)]
    rfl
  have x2 : sd.data.toList = [50] := by
    rw [e2]
    show Nt.denT (Nt.dval [49, 53, 48]) (10 ^ 2) = _
    rw [e0, Nt.denT, if_neg (by decide), show 10 ^ 2 / Nat.gcd 150 (10 ^ 2) = 2 from by decide, Lib.decDigits_one (by decide)]
    rfl
  obtain rfl : sn = ⟨#[51]⟩ := ba_ext x1
  obtain rfl : sd = ⟨#[50]⟩ := ba_ext x2
  exact ⟨rfl, hb⟩
theorem of_c (n : Nat) (w : World) (hn : n < 10) (htab : Lib.TabIs Tryz.prog w "internal/strconv.uint64pow10" .u64 Lib.pow10Tab) :
    Calls Tryz.prog 18 #[.int .i64 (n : Int)] w fun e w' => e = .returned (.agg #[.string ⟨#[UInt8.ofNat (48 + n)]⟩, .string ⟨#[49]⟩]) ∧ Below w.heap.size w w' := by
  refine (of_nat n w (by omega) htab).mono ?_
  rintro e w' ⟨t, rfl, ht, hb⟩
  rw [Lib.decDigits_one hn] at ht
  obtain rfl : t = ⟨#[UInt8.ofNat (48 + n)]⟩ := ba_ext ht
  exact ⟨rfl, hb⟩
section
variable {w W : World} {L : List (Nat × TypeId × Array Value)} {g z : Nat} {t : TypeId} {a b : Value}
theorem Loc.s2 (h : Loc w L W) (hm : (g, t, #[a, b]) ∈ L) : W.cell? ⟨g, 0, none⟩ = some a ∧ W.cell? ⟨g, 1, none⟩ = some b := ⟨(h.blk hm).two.1, (h.blk hm).two.2.1⟩
theorem Loc.s2f (h : Loc w L W) (hm : (g, t, #[a, b]) ∈ L) (hz : g ≠ z) (y0 y1 : Value) : ((W.setCell ⟨z, 0, none⟩ y0).setCell ⟨z, 1, none⟩ y1).cell? ⟨g, 0, none⟩ = some a ∧ ((W.setCell ⟨z, 0, none⟩ y0).setCell ⟨z, 1, none⟩ y1).cell? ⟨g, 1, none⟩ = some b :=
  have p := ((h.blk hm).far (p := ⟨z, 0, none⟩) hz y0).far (p := ⟨z, 1, none⟩) hz y1
  ⟨p.cell 0, p.cell 1⟩
theorem Loc.set2 {x0 x1 : Value} (h : Loc w ((g, t, #[x0, x1]) :: L) W) (hne : ∀ x ∈ L, x.1 ≠ g) (y0 y1 : Value) : Loc w ((g, t, #[y0, y1]) :: L) ((W.setCell ⟨g, 0, none⟩ y0).setCell ⟨g, 1, none⟩ y1) :=
  ⟨below_two h.1 (h.2 _ (List.mem_cons_self ..)).1 _ _, fun x hx => by
    rcases List.mem_cons.1 hx with rfl | hx
    · exact ⟨(h.2 _ (List.mem_cons_self ..)).1, ((h.2 _ (List.mem_cons_self ..)).2.two_set _ _).1⟩
    · have := h.2 x (List.mem_cons_of_mem _ hx)
      exact ⟨this.1, (this.2.far (p := ⟨g, 0, none⟩) (hne x hx) _).far (p := ⟨g, 1, none⟩) (hne x hx) _⟩⟩
end

end Go.Proofs.YtllhefjblipddaaGreatDoor

namespace Go.Proofs.YtllhefjblipddaaGreatDoor
open Go.RowKit

set_option maxRecDepth 100000 in
set_option maxHeartbeats 2000000 in
theorem compare_w (a1 a2 b1 b2 : ByteArray) (m1 : Bool) (n1 e1 : Nat) (m2 : Bool) (n2 e2 : Nat) (w : World) (h1 : a1.size ≤ 9223372036854775807) (h2 : a2.size ≤ 9223372036854775807) (h3 : b1.size ≤ 9223372036854775807) (h4 : b2.size ≤ 9223372036854775807)
    (ha : Nt.Rd a1.data.toList a2.data.toList m1 n1 e1) (hb : Nt.Rd b1.data.toList b2.data.toList m2 n2 e2)
    (s1 : (Nt.digs n1).length ≤ 400000) (s2 : (Nt.digs e1).length ≤ 400000) (s3 : (Nt.digs n2).length ≤ 400000) (s4 : (Nt.digs e2).length ≤ 400000) :
    Calls Tryz.prog 238 #[.agg #[.string a1, .string a2], .agg #[.string b1, .string b2]] w fun e w' => ∃ r : Int, e = .returned (.tuple #[.int .i64 r, .int .i64 0]) ∧ r = Int.sign (Nt.zi m1 (n1 * e2) - Nt.zi m2 (n2 * e1)) ∧ Below w.heap.size w w' := by
  have HBO := Lib.hid fun W => both_ok a1 a2 b1 b2 m1 n1 e1 m2 n2 e2 W h1 h2 h3 h4 ha hb
  have HSU := Lib.hid fun (W : World) A1 c1 A2 c2 B1 k1 B2 k2 p1 p2 p3 p4 => sum_o A1 c1 A2 c2 B1 k1 B2 k2 m1 n1 e1 (!m2) n2 e2 W p1 p2 p3 p4 s1 s2 s3 s4
  clear ha hb h1 h2 h3 h4 s1 s2 s3 s4
  have HL0 := Lib.hid (((Loc.start w).alloc' rfl 24 #[.string a1, .string a2]).alloc' (g := w.heap.size + 1) (by simp) 24 #[.string b1, .string b2])
  go_enter Tryz.func238, Tryz.ntmps238
  go_upto_region 6 with (first
    | (go_at_call 275; (with_reducible refine (HBO.out _).mono ?_); rintro e w1 ⟨A1, c1, A2, c2, B1, k1, B2, k2, rfl, hn1, hn2, hm1, hm2, hb⟩; have HL1 := Lib.hid (((HL0.out.step hb).alloc 53 #[.bool m1, .slice A1 (Nt.digs n1).length c1, .slice A2 (Nt.digs e1).length c2]).alloc 53 #[.bool (!m2), .slice B1 (Nt.digs n2).length k1, .slice B2 (Nt.digs e2).length k2]); have HAL := Lib.hid (((Below.refl _ w1).alloc (Nat.le_refl _) (.cells #[.bool m1, .slice A1 (Nt.digs n1).length c1, .slice A2 (Nt.digs e1).length c2] 53)).alloc (by simp) (.cells #[.bool (!m2), .slice B1 (Nt.digs n2).length k1, .slice B2 (Nt.digs e2).length k2] 53)); have HN1 := Lib.hid hn1; have HN2 := Lib.hid hn2; have HM1 := Lib.hid hm1; have HM2 := Lib.hid hm2; clear hn1 hn2 hm1 hm2 hb)
    | (go_at_call 270; (with_reducible refine (HSU.out _ _ _ _ _ _ _ _ _ (HN1.out.below HAL.out) (HN2.out.below HAL.out) (HM1.out.below HAL.out) (HM2.out.below HAL.out)).mono ?_); rintro e w2 ⟨m, n, A, c, A', c', rfl, hp, hr1, hr2, hb⟩; have HL2 := Lib.hid ((HL1.out.step hb).alloc 53 #[.bool m, .slice A (Nt.digs n).length c, .slice A' (Nt.digs (e1 * e2)).length c']); have HPP := Lib.hid hp.1; have HR1 := Lib.hid (hr1.below ((Below.refl _ w2).alloc (Nat.le_refl _) (.cells #[.bool m, .slice A (Nt.digs n).length c, .slice A' (Nt.digs (e1 * e2)).length c'] 53))); clear hp hr1 hr2 hb))
  have hZ : Nt.zi m n = Nt.zi m1 (n1 * e2) - Nt.zi m2 (n2 * e1) := by rw [HPP.out, Nt.zi_not, Int.sub_eq_add_neg]
  have HZ := Lib.hid hZ
  have HB := Lib.hid HL2.out.bel
  clear hZ HPP HL2 HL1 HL0 HBO HSU HAL HN1 HN2 HM1 HM2
  rcases Nat.eq_zero_or_pos n with rfl | hpos
  · have hz : (((Nt.digs 0).length : Int) == 0) = true := by rw [Nt.digs_zero]; rfl
    go_wp2_with (go_at_call 67; refine (zero_any _ _ _ _).mono ?_; rintro e w0 ⟨rfl, rfl⟩)
    go_ret2
    exact ⟨0, rfl, by rw [← HZ.out, Nt.zi_zero]; rfl, HB.out⟩
  · have hz : (((Nt.digs n).length : Int) == 0) = false := by rw [Nt.digs_pos (by omega)]; simp; omega
    have HPOS := Lib.hid hpos
    clear hpos
    cases m with
    | true =>
      go_wp2_with (go_at_call 67; refine (zero_any _ _ _ _).mono ?_; rintro e w0 ⟨rfl, rfl⟩)
      go_ret2
      exact ⟨-1, rfl, by rw [← HZ.out]; exact (Int.sign_eq_neg_one_of_neg (by have := HPOS.out; simp [Nt.zi]; omega)).symm, HB.out⟩
    | false =>
      go_wp2_with (go_at_call 67; refine (zero_any _ _ _ _).mono ?_; rintro e w0 ⟨rfl, rfl⟩)
      go_ret2
      exact ⟨1, rfl, by rw [← HZ.out]; exact (Int.sign_eq_one_of_pos (by have := HPOS.out; simp [Nt.zi]; omega)).symm, HB.out⟩

theorem sign_scale {x y : Int} {a b : Nat} (ha : a ≠ 0) (hb : b ≠ 0) (h : x * a = y * b) : Int.sign x = Int.sign y := by
  have e := congrArg Int.sign h
  rw [Int.sign_mul, Int.sign_mul, Int.sign_eq_one_of_pos (a := (a : Int)) (by omega), Int.sign_eq_one_of_pos (a := (b : Int)) (by omega)] at e
  simpa using e
theorem compare_q (a1 a2 b1 b2 : ByteArray) (z1 z2 : Int) (d1 d2 k1 k2 : Nat) (w : World) (ha : Nt.Qk a1.data.toList a2.data.toList z1 d1 k1) (hb : Nt.Qk b1.data.toList b2.data.toList z2 d2 k2) :
    Calls Tryz.prog 238 #[.agg #[.string a1, .string a2], .agg #[.string b1, .string b2]] w fun e w' => ∃ r : Int, e = .returned (.tuple #[.int .i64 r, .int .i64 0]) ∧ r = Int.sign (z1 * d2 - z2 * d1) ∧ Below w.heap.size w w' := by
  obtain ⟨m1, n1, e1, r1, q1⟩ := ha.q.ex
  obtain ⟨m2, n2, e2, r2, q2⟩ := hb.q.ex
  have la := ha.ln
  have lb := hb.ln
  have x1 := lt_pow34 r1.ln
  have x2 := lt_pow34 r1.ld
  have x3 := lt_pow34 r2.ln
  have x4 := lt_pow34 r2.ld
  refine (compare_w a1 a2 b1 b2 m1 n1 e1 m2 n2 e2 w (size_of la.1 (by omega)) (size_of la.2 (by omega)) (size_of lb.1 (by omega)) (size_of lb.2 (by omega)) r1 r2 (Nat.le_trans (digs_pow x1) (by omega)) (Nat.le_trans (digs_pow x2) (by omega)) (Nat.le_trans (digs_pow x3) (by omega)) (Nat.le_trans (digs_pow x4) (by omega))).mono ?_
  rintro e w' ⟨r, rfl, hr, hB⟩
  refine ⟨r, rfl, ?_, hB⟩
  rw [hr]
  refine sign_scale (a := d1 * d2) (b := e1 * e2) (Nat.mul_ne_zero ha.q.d0 hb.q.d0) (Nat.mul_ne_zero r1.d0 r2.d0) ?_
  rw [Nt.zi_mul, Nt.zi_mul]
  push_cast
  grind

namespace Nt
/-- The whole part's digits: away from zero where the number is negative and not whole. -/
def fl (m : Bool) (n e : Nat) : Nat := if m = true ∧ n % e ≠ 0 then n / e + 1 else n / e
theorem fl_spec (m : Bool) (n e : Nat) (he : e ≠ 0) : zi m (fl m n e) * e ≤ zi m n ∧ zi m n < (zi m (fl m n e) + 1) * e := by
  have h1 : n = n / e * e + n % e := by rw [Nat.mul_comm]; exact (Nat.div_add_mod n e).symm
  have h2 := Nat.mod_lt n (Nat.pos_of_ne_zero he)
  obtain ⟨q, hq⟩ : ∃ q, q = n / e := ⟨_, rfl⟩
  obtain ⟨r, hr⟩ : ∃ r, r = n % e := ⟨_, rfl⟩
  unfold fl
  rw [← hq, ← hr] at h1 ⊢
  rw [← hr] at h2
  subst h1
  clear hq hr
  cases m with
  | false =>
    simp only [Bool.false_eq_true, false_and, if_false, zi]
    rw [Int.add_mul]
    push_cast
    omega
  | true =>
    by_cases h0 : r = 0
    · subst h0
      simp only [ne_eq, not_true_eq_false, and_false, if_false, zi, if_true]
      rw [Int.add_mul, Int.neg_mul]
      push_cast
      omega
    · rw [if_pos ⟨rfl, h0⟩]
      simp only [zi, if_true]
      push_cast
      rw [Int.neg_mul, Int.add_mul, Int.add_mul, Int.neg_mul, Int.add_mul]
      omega
theorem fl_le (m : Bool) (n e : Nat) (he : e ≠ 0) : fl m n e ≤ n := by
  unfold fl
  split
  · rename_i h
    have h2 : n % e ≤ n := Nat.mod_le _ _
    by_cases h1 : e = 1
    · subst h1; rw [Nat.mod_one] at h; exact absurd rfl h.2
    · have h3 : n ≠ 0 := by rintro rfl; rw [Nat.zero_mod] at h; exact h.2 rfl
      have : n / e < n := Nat.div_lt_self (by omega) (by omega)
      omega
  · exact Nat.div_le_self _ _
/-- The whole part, of the fraction itself. -/
theorem fl_q {m : Bool} {n e d : Nat} {z : Int} (he : e ≠ 0) (hd : d ≠ 0) (q : zi m n * d = z * e) : zi m (fl m n e) * d ≤ z ∧ z < (zi m (fl m n e) + 1) * d := by
  obtain ⟨h1, h2⟩ := fl_spec m n e he
  obtain ⟨f, hf⟩ : ∃ f, f = zi m (fl m n e) := ⟨_, rfl⟩
  rw [← hf] at h1 h2 ⊢
  have he' : (0 : Int) < e := by omega
  have hd' : (0 : Int) < d := by omega
  constructor
  · refine Int.le_of_mul_le_mul_right ?_ he'
    rw [← q]
    have := Int.mul_le_mul_of_nonneg_right h1 (Int.le_of_lt hd')
    calc f * d * e = f * e * d := by grind
      _ ≤ _ := this
  · refine Int.lt_of_mul_lt_mul_right ?_ (Int.le_of_lt he')
    rw [← q]
    have := Int.mul_lt_mul_of_pos_right h2 hd'
    calc _ < (f + 1) * e * d := this
      _ = _ := by grind
theorem abs_fl {f z : Int} {d : Nat} (hd : d ≠ 0) (h1 : f * d ≤ z) (h2 : z < (f + 1) * d) : f.natAbs ≤ z.natAbs := by
  have hd' : (1 : Int) ≤ d := by omega
  rcases Int.lt_or_le f 0 with hf | hf
  · have : (f + 1) * d ≤ (f + 1) * 1 := Int.mul_le_mul_of_nonpos_left (by omega) hd'
    omega
  · have : f * 1 ≤ f * d := Int.mul_le_mul_of_nonneg_left hd' hf
    omega
end Nt
theorem divide_o (va vb : Value) (a b : Nat) (w : World) (ha : Nv w va (Nt.digs a)) (hb : Nv w vb (Nt.digs b)) (sa : (Nt.digs a).length ≤ 900000) (sb : (Nt.digs b).length ≤ 900000) (h0 : b ≠ 0) :
    Calls Tryz.prog 69 #[va, vb] w fun e w' => ∃ A c A' c', e = .returned (.tuple #[.slice A (Nt.digs (a / b)).length c, .slice A' (Nt.digs (a % b)).length c']) ∧ Nv w' (.slice A (Nt.digs (a / b)).length c) (Nt.digs (a / b)) ∧ Nv w' (.slice A' (Nt.digs (a % b)).length c') (Nt.digs (a % b)) ∧ Below w.heap.size w w' := by
  refine (divide_n va vb a b w ha hb sa sb h0).mono ?_
  rintro e w' ⟨v1, v2, rfl, hv1, hv2, hb⟩
  obtain ⟨A, c, rfl, _⟩ := hv1.ex
  obtain ⟨A', c', rfl, _⟩ := hv2.ex
  exact ⟨A, c, A', c', rfl, hv1, hv2, hb⟩
theorem plus_o (va vb : Value) (a b : Nat) (w : World) (ha : Nv w va (Nt.digs a)) (hb : Nv w vb (Nt.digs b)) (sa : (Nt.digs a).length ≤ 1000000) (sb : (Nt.digs b).length ≤ 1000000) :
    Calls Tryz.prog 223 #[va, vb] w fun e w' => ∃ A c, e = .returned (.slice A (Nt.digs (a + b)).length c) ∧ Nv w' (.slice A (Nt.digs (a + b)).length c) (Nt.digs (a + b)) ∧ Below w.heap.size w w' := by
  refine (plus_n va vb a b w ha hb sa sb).mono ?_
  rintro e w' ⟨v, rfl, hv, hb⟩
  obtain ⟨A, c, rfl, _⟩ := hv.ex
  exact ⟨A, c, rfl, hv, hb⟩

set_option maxRecDepth 100000 in
set_option maxHeartbeats 2000000 in
theorem floor_w (a1 a2 : ByteArray) (m : Bool) (n e : Nat) (w : World) (h1 : a1.size ≤ 9223372036854775807) (h2 : a2.size ≤ 9223372036854775807) (hr : Nt.Rd a1.data.toList a2.data.toList m n e)
    (s1 : (Nt.digs n).length ≤ 400000) (s2 : (Nt.digs e).length ≤ 400000) (hfit : Fits (Nt.fl m n e) 1) (htab : Lib.TabIs Tryz.prog w "internal/strconv.uint64pow10" .u64 Lib.pow10Tab) :
    Calls Tryz.prog 174 #[.agg #[.string a1, .string a2]] w (WriteRet m (Nt.fl m n e) 1 w) := by
  have HRD := Lib.hid fun W => read_ok a1 a2 m n e W h1 h2 hr
  have he := hr.d0
  have HDV := Lib.hid fun (W : World) A c A' c' (p : Nv W (.slice A (Nt.digs n).length c) (Nt.digs n)) (q : Nv W (.slice A' (Nt.digs e).length c') (Nt.digs e)) => divide_o _ _ n e W p q (by omega) (by omega) he
  have HQS := Lib.hid (show (Nt.digs (n / e)).length ≤ 1000000 from Nat.le_trans (digs_mono (Nat.div_le_self n e)) (by omega))
  have HT := Lib.hid (show ∀ W, Below w.heap.size w W → Lib.TabIs Tryz.prog W "internal/strconv.uint64pow10" .u64 Lib.pow10Tab from Lib.tabBelow_of_tabIs htab)
  have HF := Lib.hid hfit
  clear hr h1 h2 s1 s2 htab hfit he
  have HL0 := Lib.hid (((Loc.start w).alloc' rfl 24 #[.string a1, .string a2]).alloc' (g := w.heap.size + 1) (by simp) 24 #[.string ⟨#[]⟩, .string ⟨#[]⟩])
  go_enter Tryz.func174, Tryz.ntmps174
  go_upto_region 5 with (first
    | (go_at_call 160; (with_reducible refine (HRD.out _).mono ?_); rintro e w1 ⟨A1, c1, A2, c2, rfl, hn, hd, hb⟩; have HL1 := Lib.hid ((HL0.out.step hb).alloc 53 #[.bool m, .slice A1 (Nt.digs n).length c1, .slice A2 (Nt.digs e).length c2]); have HAL := Lib.hid ((Below.refl _ w1).alloc (Nat.le_refl _) (.cells #[.bool m, .slice A1 (Nt.digs n).length c1, .slice A2 (Nt.digs e).length c2] 53)); have HN := Lib.hid hn; have HD := Lib.hid hd; clear hn hd hb)
    | (go_at_call 69; (with_reducible refine (HDV.out _ _ _ _ _ (HN.out.below HAL.out) (HD.out.below HAL.out)).mono ?_); rintro e w2 ⟨A3, c3, A4, c4, rfl, hn, hd, hb⟩; have HL2 := Lib.hid (HL1.out.step hb); have HQ := Lib.hid hn; have HR := Lib.hid hd; clear hn hd hb))
  have x0 : w2.cell? ⟨w1.heap.size, 0, none⟩ = some (.bool m) := (HL2.out.blk (g := w1.heap.size) (t := 53) (cs := #[.bool m, .slice A1 (Nt.digs n).length c1, .slice A2 (Nt.digs e).length c2]) (by simp)).cell 0
  by_cases hm : m = true ∧ n % e ≠ 0
  · obtain ⟨rfl, h0⟩ := hm
    have hfl : Nt.fl true n e = n / e + 1 := if_pos ⟨rfl, h0⟩
    rw [hfl] at HF
    have HFL := Lib.hid hfl
    have hz : (((Nt.digs (n % e)).length : Int) == 0) = false := by rw [Nt.digs_pos (by omega)]; simp; omega
    clear hfl h0
    go_wp2_with (first
      | (go_at_call 67; refine (zero_any _ _ _ _).mono ?_; rintro e w0 ⟨rfl, rfl⟩)
      | (go_at_call 223; (with_reducible refine (plus_o _ _ (n / e) 1 _ (HQ.out.below ((Below.refl _ w2).alloc (Nat.le_refl _) (.cells #[.int .u32 1] 78))) (nv_lit w2 1 (by decide) (by decide) 1 rfl) HQS.out (by rw [digs_one]; decide)).mono ?_); rintro e w3 ⟨A5, c5, rfl, hq, hb⟩; have hl := (HL2.out.alloc 78 #[.int .u32 1]).step hb; have HL3 := Lib.hid hl; have HQ3 := Lib.hid hq; obtain ⟨y0, -, -, -, -, -⟩ := (hl.blk (g := w1.heap.size) (t := 53) (cs := #[.bool true, .slice A1 (Nt.digs n).length c1, .slice A2 (Nt.digs e).length c2]) (by simp)).three; clear hq hb hl)
      | (go_at_call 22; (with_reducible refine (write_any _ true (n / e + 1) 1 _ ⟨_, _, rfl, (HQ3.out.below ((Below.refl _ w3).alloc (Nat.le_refl _) (.cells #[.int .u32 1] 78))), (nv_lit w3 1 (by decide) (by decide) 1 rfl)⟩ (by decide) HF.out.s1 HF.out.s2 HF.out.f1 HF.out.f2 (HT.out _ (HL3.out.alloc 78 #[.int .u32 1]).bel)).mono ?_); rintro e w4 ⟨hb, sn, sd, rfl, e1, e2⟩; have hl := (HL3.out.alloc 78 #[.int .u32 1]).step hb; have HL4 := Lib.hid hl; have bl := hl.blk (g := w.heap.size + 1) (t := 24) (cs := #[.string ⟨#[]⟩, .string ⟨#[]⟩]) (by simp); have HBL := Lib.hid bl; obtain ⟨z0, z1, f0, f1⟩ := bl.two; have E1 := Lib.hid e1; have E2 := Lib.hid e2; clear hl bl hb e1 e2))
    obtain ⟨-, q0, q1⟩ := HBL.out.two_set (.string sn) (.string sd)
    refine bodyPost_ret (v := .tuple #[.agg #[.string sn, .string sd], .int .i64 0]) (by simp [results, Tryz.results174, go_sem, q0, q1]) rfl ?_
    exact ⟨below_two HL4.out.bel (by omega) _ _, sn, sd, rfl, (by rw [HFL.out]; exact E1.out), (by rw [HFL.out]; exact E2.out)⟩
  · have hfl : Nt.fl m n e = n / e := if_neg hm
    rw [hfl] at HF
    have HFL := Lib.hid hfl
    have hz : m = true → (((Nt.digs (n % e)).length : Int) == 0) = true := fun h => by
      have : n % e = 0 := Classical.not_not.1 fun h0 => hm ⟨h, h0⟩
      rw [this, Nt.digs_zero]; rfl
    clear hfl hm
    cases m
    · clear hz
      go_wp2_with (first
        | (go_at_call 67; refine (zero_any _ _ _ _).mono ?_; rintro e w0 ⟨rfl, rfl⟩)
        | (go_at_call 22; (with_reducible refine (write_any _ false (n / e) 1 _ ⟨_, _, rfl, (HQ.out.below ((Below.refl _ w2).alloc (Nat.le_refl _) (.cells #[.int .u32 1] 78))), (nv_lit w2 1 (by decide) (by decide) 1 rfl)⟩ (by decide) HF.out.s1 HF.out.s2 HF.out.f1 HF.out.f2 (HT.out _ (HL2.out.alloc 78 #[.int .u32 1]).bel)).mono ?_); rintro e w4 ⟨hb, sn, sd, rfl, e1, e2⟩; have hl := (HL2.out.alloc 78 #[.int .u32 1]).step hb; have HL4 := Lib.hid hl; have bl := hl.blk (g := w.heap.size + 1) (t := 24) (cs := #[.string ⟨#[]⟩, .string ⟨#[]⟩]) (by simp); have HBL := Lib.hid bl; obtain ⟨z0, z1, f0, f1⟩ := bl.two; have E1 := Lib.hid e1; have E2 := Lib.hid e2; clear hl bl hb e1 e2))
      obtain ⟨-, q0, q1⟩ := HBL.out.two_set (.string sn) (.string sd)
      refine bodyPost_ret (v := .tuple #[.agg #[.string sn, .string sd], .int .i64 0]) (by simp [results, Tryz.results174, go_sem, q0, q1]) rfl ?_
      exact ⟨below_two HL4.out.bel (by omega) _ _, sn, sd, rfl, (by rw [HFL.out]; exact E1.out), (by rw [HFL.out]; exact E2.out)⟩
    · replace hz := hz rfl
      go_wp2_with (first
        | (go_at_call 67; refine (zero_any _ _ _ _).mono ?_; rintro e w0 ⟨rfl, rfl⟩)
        | (go_at_call 22; (with_reducible refine (write_any _ true (n / e) 1 _ ⟨_, _, rfl, (HQ.out.below ((Below.refl _ w2).alloc (Nat.le_refl _) (.cells #[.int .u32 1] 78))), (nv_lit w2 1 (by decide) (by decide) 1 rfl)⟩ (by decide) HF.out.s1 HF.out.s2 HF.out.f1 HF.out.f2 (HT.out _ (HL2.out.alloc 78 #[.int .u32 1]).bel)).mono ?_); rintro e w4 ⟨hb, sn, sd, rfl, e1, e2⟩; have hl := (HL2.out.alloc 78 #[.int .u32 1]).step hb; have HL4 := Lib.hid hl; have bl := hl.blk (g := w.heap.size + 1) (t := 24) (cs := #[.string ⟨#[]⟩, .string ⟨#[]⟩]) (by simp); have HBL := Lib.hid bl; obtain ⟨z0, z1, f0, f1⟩ := bl.two; have E1 := Lib.hid e1; have E2 := Lib.hid e2; clear hl bl hb e1 e2))
      obtain ⟨-, q0, q1⟩ := HBL.out.two_set (.string sn) (.string sd)
      refine bodyPost_ret (v := .tuple #[.agg #[.string sn, .string sd], .int .i64 0]) (by simp [results, Tryz.results174, go_sem, q0, q1]) rfl ?_
      exact ⟨below_two HL4.out.bel (by omega) _ _, sn, sd, rfl, (by rw [HFL.out]; exact E1.out), (by rw [HFL.out]; exact E2.out)⟩

theorem floor_q (a1 a2 : ByteArray) (z : Int) (d k : Nat) (w : World) (ha : Nt.Qk a1.data.toList a2.data.toList z d k) (hk : k ≤ 299) (htab : Lib.TabIs Tryz.prog w "internal/strconv.uint64pow10" .u64 Lib.pow10Tab) :
    Calls Tryz.prog 174 #[.agg #[.string a1, .string a2]] w fun e w' => ∃ f : Int, QRet f 1 k w e w' ∧ f * d ≤ z ∧ z < (f + 1) * d := by
  obtain ⟨m, n, p, r, q⟩ := ha.q.ex
  have la := ha.ln
  have x1 := lt_pow34 r.ln
  have x2 := lt_pow34 r.ld
  obtain ⟨f1, f2⟩ := Nt.fl_q r.d0 ha.q.d0 q
  have hz : (Nt.zi m (Nt.fl m n p)).natAbs ≤ 10 ^ k := Nat.le_trans (Nt.abs_fl ha.q.d0 f1 f2) ha.zk
  have h1k : 1 ≤ 10 ^ k := Nat.one_le_pow _ _ (by decide)
  have hfit : Fits (Nt.fl m n p) 1 := fits_of (m := m) (d := 1) (z := Nt.zi m (Nt.fl m n p)) (by decide) (by decide) rfl hz h1k hk (i := 34) (by omega) (Nat.lt_of_le_of_lt (Nt.fl_le m n p r.d0) x1) (Nat.one_lt_pow (by decide) (by decide))
  refine (floor_w a1 a2 m n p w (size_of la.1 (by omega)) (size_of la.2 (by omega)) r (Nat.le_trans (digs_pow x1) (by omega)) (Nat.le_trans (digs_pow x2) (by omega)) hfit htab).mono ?_
  rintro e w' ⟨hb, sn, sd, rfl, e1, e2⟩
  exact ⟨_, ⟨sn, sd, rfl, by rw [e1, e2]; exact Nt.w_qk (by decide) (by decide) rfl hz h1k hk, hb⟩, f1, f2⟩
end Go.Proofs.YtllhefjblipddaaGreatDoor
