/- The contracts of exact's Compare and Floor over texts that stand for fractions. -/
import Derived.Test.YtmmlcponmdalmaaGreatDoorExP
namespace Go.Proofs.YtmmlcponmdalmaaGreatDoor
open Go.RowKit

set_option maxRecDepth 100000 in
set_option maxHeartbeats 2000000 in
theorem compare_w (a1 a2 b1 b2 : ByteArray) (m1 : Bool) (n1 e1 : Nat) (m2 : Bool) (n2 e2 : Nat) (w : World) (h1 : a1.size ≤ 9223372036854775807) (h2 : a2.size ≤ 9223372036854775807) (h3 : b1.size ≤ 9223372036854775807) (h4 : b2.size ≤ 9223372036854775807)
    (ha : Nt.Rd a1.data.toList a2.data.toList m1 n1 e1) (hb : Nt.Rd b1.data.toList b2.data.toList m2 n2 e2)
    (s1 : (Nt.digs n1).length ≤ 400000) (s2 : (Nt.digs e1).length ≤ 400000) (s3 : (Nt.digs n2).length ≤ 400000) (s4 : (Nt.digs e2).length ≤ 400000) :
    Calls Tryz.prog 128 #[.agg #[.string a1, .string a2], .agg #[.string b1, .string b2]] w fun e w' => ∃ r : Int, e = .returned (.tuple #[.int .i64 r, .int .i64 0]) ∧ r = Int.sign (Nt.zi m1 (n1 * e2) - Nt.zi m2 (n2 * e1)) ∧ Below w.heap.size w w' := by
  have HBO := Lib.hid fun W => both_ok a1 a2 b1 b2 m1 n1 e1 m2 n2 e2 W h1 h2 h3 h4 ha hb
  have HSU := Lib.hid fun (W : World) A1 c1 A2 c2 B1 k1 B2 k2 p1 p2 p3 p4 => sum_o A1 c1 A2 c2 B1 k1 B2 k2 m1 n1 e1 (!m2) n2 e2 W p1 p2 p3 p4 s1 s2 s3 s4
  clear ha hb h1 h2 h3 h4 s1 s2 s3 s4
  have HL0 := Lib.hid (((Loc.start w).alloc' rfl 24 #[.string a1, .string a2]).alloc' (g := w.heap.size + 1) (by simp) 24 #[.string b1, .string b2])
  go_enter Tryz.func128, Tryz.ntmps128
  go_upto_region 6 with (first
    | (go_at_call 96; (with_reducible refine (HBO.out _).mono ?_); rintro e w1 ⟨A1, c1, A2, c2, B1, k1, B2, k2, rfl, hn1, hn2, hm1, hm2, hb⟩; have HL1 := Lib.hid (((HL0.out.step hb).alloc 89 #[.bool m1, .slice A1 (Nt.digs n1).length c1, .slice A2 (Nt.digs e1).length c2]).alloc 89 #[.bool (!m2), .slice B1 (Nt.digs n2).length k1, .slice B2 (Nt.digs e2).length k2]); have HAL := Lib.hid (((Below.refl _ w1).alloc (Nat.le_refl _) (.cells #[.bool m1, .slice A1 (Nt.digs n1).length c1, .slice A2 (Nt.digs e1).length c2] 89)).alloc (by simp) (.cells #[.bool (!m2), .slice B1 (Nt.digs n2).length k1, .slice B2 (Nt.digs e2).length k2] 89)); have HN1 := Lib.hid hn1; have HN2 := Lib.hid hn2; have HM1 := Lib.hid hm1; have HM2 := Lib.hid hm2; clear hn1 hn2 hm1 hm2 hb)
    | (go_at_call 38; (with_reducible refine (HSU.out _ _ _ _ _ _ _ _ _ (HN1.out.below HAL.out) (HN2.out.below HAL.out) (HM1.out.below HAL.out) (HM2.out.below HAL.out)).mono ?_); rintro e w2 ⟨m, n, A, c, A', c', rfl, hp, hr1, hr2, hb⟩; have HL2 := Lib.hid ((HL1.out.step hb).alloc 89 #[.bool m, .slice A (Nt.digs n).length c, .slice A' (Nt.digs (e1 * e2)).length c']); have HPP := Lib.hid hp.1; have HR1 := Lib.hid (hr1.below ((Below.refl _ w2).alloc (Nat.le_refl _) (.cells #[.bool m, .slice A (Nt.digs n).length c, .slice A' (Nt.digs (e1 * e2)).length c'] 89))); clear hp hr1 hr2 hb))
  have hZ : Nt.zi m n = Nt.zi m1 (n1 * e2) - Nt.zi m2 (n2 * e1) := by rw [HPP.out, Nt.zi_not, Int.sub_eq_add_neg]
  have HZ := Lib.hid hZ
  have HB := Lib.hid HL2.out.bel
  clear hZ HPP HL2 HL1 HL0 HBO HSU HAL HN1 HN2 HM1 HM2
  rcases Nat.eq_zero_or_pos n with rfl | hpos
  · have hz : (((Nt.digs 0).length : Int) == 0) = true := by rw [Nt.digs_zero]; rfl
    go_wp2_with (go_at_call 49; refine (zero_any _ _ _ _).mono ?_; rintro e w0 ⟨rfl, rfl⟩)
    go_ret2
    exact ⟨0, rfl, by rw [← HZ.out, Nt.zi_zero]; rfl, HB.out⟩
  · have hz : (((Nt.digs n).length : Int) == 0) = false := by rw [Nt.digs_pos (by omega)]; simp; omega
    have HPOS := Lib.hid hpos
    clear hpos
    cases m with
    | true =>
      go_wp2_with (go_at_call 49; refine (zero_any _ _ _ _).mono ?_; rintro e w0 ⟨rfl, rfl⟩)
      go_ret2
      exact ⟨-1, rfl, by rw [← HZ.out]; exact (Int.sign_eq_neg_one_of_neg (by have := HPOS.out; simp [Nt.zi]; omega)).symm, HB.out⟩
    | false =>
      go_wp2_with (go_at_call 49; refine (zero_any _ _ _ _).mono ?_; rintro e w0 ⟨rfl, rfl⟩)
      go_ret2
      exact ⟨1, rfl, by rw [← HZ.out]; exact (Int.sign_eq_one_of_pos (by have := HPOS.out; simp [Nt.zi]; omega)).symm, HB.out⟩

theorem sign_scale {x y : Int} {a b : Nat} (ha : a ≠ 0) (hb : b ≠ 0) (h : x * a = y * b) : Int.sign x = Int.sign y := by
  have e := congrArg Int.sign h
  rw [Int.sign_mul, Int.sign_mul, Int.sign_eq_one_of_pos (a := (a : Int)) (by omega), Int.sign_eq_one_of_pos (a := (b : Int)) (by omega)] at e
  simpa using e
theorem compare_q (a1 a2 b1 b2 : ByteArray) (z1 z2 : Int) (d1 d2 k1 k2 : Nat) (w : World) (ha : Nt.Qk a1.data.toList a2.data.toList z1 d1 k1) (hb : Nt.Qk b1.data.toList b2.data.toList z2 d2 k2) :
    Calls Tryz.prog 128 #[.agg #[.string a1, .string a2], .agg #[.string b1, .string b2]] w fun e w' => ∃ r : Int, e = .returned (.tuple #[.int .i64 r, .int .i64 0]) ∧ r = Int.sign (z1 * d2 - z2 * d1) ∧ Below w.heap.size w w' := by
  obtain ⟨m1, n1, e1, r1, q1⟩ := ha.q.ex
  obtain ⟨m2, n2, e2, r2, q2⟩ := hb.q.ex
  have la := ha.ln
  have lb := hb.ln
  have x1 := lt_pow34 r1.ln
  have x2 := lt_pow34 r1.ld
  have x3 := lt_pow34 r2.ln
  have x4 := lt_pow34 r2.ld
  refine (compare_w a1 a2 b1 b2 m1 n1 e1 m2 n2 e2 w (size_of la.1 (by omega)) (size_of la.2 (by omega)) (size_of lb.1 (by omega)) (size_of lb.2 (by omega)) r1 r2 (Nat.le_trans (digs_pow x1) (by omega)) (Nat.le_trans (digs_pow x2) (by omega)) (Nat.le_trans (digs_pow x3) (by omega)) (Nat.le_trans (digs_pow x4) (by omega))).mono ?_
  rintro e w' ⟨r, rfl, hr, hB⟩
  refine ⟨r, rfl, ?_, hB⟩
  rw [hr]
  refine sign_scale (a := d1 * d2) (b := e1 * e2) (Nat.mul_ne_zero ha.q.d0 hb.q.d0) (Nat.mul_ne_zero r1.d0 r2.d0) ?_
  rw [Nt.zi_mul, Nt.zi_mul]
  push_cast
  grind

namespace Nt
/-- The whole part's digits: away from zero where the number is negative and not whole. -/
def fl (m : Bool) (n e : Nat) : Nat := if m = true ∧ n % e ≠ 0 then n / e + 1 else n / e
theorem fl_spec (m : Bool) (n e : Nat) (he : e ≠ 0) : zi m (fl m n e) * e ≤ zi m n ∧ zi m n < (zi m (fl m n e) + 1) * e := by
  have h1 : n = n / e * e + n % e := by rw [Nat.mul_comm]; exact (Nat.div_add_mod n e).symm
  have h2 := Nat.mod_lt n (Nat.pos_of_ne_zero he)
  obtain ⟨q, hq⟩ : ∃ q, q = n / e := ⟨_, rfl⟩
  obtain ⟨r, hr⟩ : ∃ r, r = n % e := ⟨_, rfl⟩
  unfold fl
  rw [← hq, ← hr] at h1 ⊢
  rw [← hr] at h2
  subst h1
  clear hq hr
  cases m with
  | false =>
    simp only [Bool.false_eq_true, false_and, if_false, zi]
    rw [Int.add_mul]
    push_cast
    omega
  | true =>
    by_cases h0 : r = 0
    · subst h0
      simp only [ne_eq, not_true_eq_false, and_false, if_false, zi, if_true]
      rw [Int.add_mul, Int.neg_mul]
      push_cast
      omega
    · rw [if_pos ⟨rfl, h0⟩]
      simp only [zi, if_true]
      push_cast
      rw [Int.neg_mul, Int.add_mul, Int.add_mul, Int.neg_mul, Int.add_mul]
      omega
theorem fl_le (m : Bool) (n e : Nat) (he : e ≠ 0) : fl m n e ≤ n := by
  unfold fl
  split
  · rename_i h
    have h2 : n % e ≤ n := Nat.mod_le _ _
    by_cases h1 : e = 1
    · subst h1; rw [Nat.mod_one] at h; exact absurd rfl h.2
    · have h3 : n ≠ 0 := by rintro rfl; rw [Nat.zero_mod] at h; exact h.2 rfl
      have : n / e < n := Nat.div_lt_self (by omega) (by omega)
      omega
  · exact Nat.div_le_self _ _
/-- The whole part, of the fraction itself. -/
theorem fl_q {m : Bool} {n e d : Nat} {z : Int} (he : e ≠ 0) (hd : d ≠ 0) (q : zi m n * d = z * e) : zi m (fl m n e) * d ≤ z ∧ z < (zi m (fl m n e) + 1) * d := by
  obtain ⟨h1, h2⟩ := fl_spec m n e he
  obtain ⟨f, hf⟩ : ∃ f, f = zi m (fl m n e) := ⟨_, rfl⟩
  rw [← hf] at h1 h2 ⊢
  have he' : (0 : Int) < e := by omega
  have hd' : (0 : Int) < d := by omega
  constructor
  · refine Int.le_of_mul_le_mul_right ?_ he'
    rw [← q]
    have := Int.mul_le_mul_of_nonneg_right h1 (Int.le_of_lt hd')
    calc f * d * e = f * e * d := by grind
      _ ≤ _ := this
  · refine Int.lt_of_mul_lt_mul_right ?_ (Int.le_of_lt he')
    rw [← q]
    have := Int.mul_lt_mul_of_pos_right h2 hd'
    calc _ < (f + 1) * e * d := this
      _ = _ := by grind
theorem abs_fl {f z : Int} {d : Nat} (hd : d ≠ 0) (h1 : f * d ≤ z) (h2 : z < (f + 1) * d) : f.natAbs ≤ z.natAbs := by
  have hd' : (1 : Int) ≤ d := by omega
  rcases Int.lt_or_le f 0 with hf | hf
  · have : (f + 1) * d ≤ (f + 1) * 1 := Int.mul_le_mul_of_nonpos_left (by omega) hd'
    omega
  · have : f * 1 ≤ f * d := Int.mul_le_mul_of_nonneg_left hd' hf
    omega
end Nt
theorem divide_o (va vb : Value) (a b : Nat) (w : World) (ha : Nv w va (Nt.digs a)) (hb : Nv w vb (Nt.digs b)) (sa : (Nt.digs a).length ≤ 900000) (sb : (Nt.digs b).length ≤ 900000) (h0 : b ≠ 0) :
    Calls Tryz.prog 48 #[va, vb] w fun e w' => ∃ A c A' c', e = .returned (.tuple #[.slice A (Nt.digs (a / b)).length c, .slice A' (Nt.digs (a % b)).length c']) ∧ Nv w' (.slice A (Nt.digs (a / b)).length c) (Nt.digs (a / b)) ∧ Nv w' (.slice A' (Nt.digs (a % b)).length c') (Nt.digs (a % b)) ∧ Below w.heap.size w w' := by
  refine (divide_n va vb a b w ha hb sa sb h0).mono ?_
  rintro e w' ⟨v1, v2, rfl, hv1, hv2, hb⟩
  obtain ⟨A, c, rfl, _⟩ := hv1.ex
  obtain ⟨A', c', rfl, _⟩ := hv2.ex
  exact ⟨A, c, A', c', rfl, hv1, hv2, hb⟩
theorem plus_o (va vb : Value) (a b : Nat) (w : World) (ha : Nv w va (Nt.digs a)) (hb : Nv w vb (Nt.digs b)) (sa : (Nt.digs a).length ≤ 1000000) (sb : (Nt.digs b).length ≤ 1000000) :
    Calls Tryz.prog 98 #[va, vb] w fun e w' => ∃ A c, e = .returned (.slice A (Nt.digs (a + b)).length c) ∧ Nv w' (.slice A (Nt.digs (a + b)).length c) (Nt.digs (a + b)) ∧ Below w.heap.size w w' := by
  refine (plus_n va vb a b w ha hb sa sb).mono ?_
  rintro e w' ⟨v, rfl, hv, hb⟩
  obtain ⟨A, c, rfl, _⟩ := hv.ex
  exact ⟨A, c, rfl, hv, hb⟩

end Go.Proofs.YtmmlcponmdalmaaGreatDoor
