/- The contracts of exact's Compare and Floor over texts that stand for fractions. -/
import Derived.Test.YtigeipjkcidleaaGreatDoorExP
namespace Go.Proofs.YtigeipjkcidleaaGreatDoor
open Go.RowKit

set_option maxRecDepth 100000 in
set_option maxHeartbeats 2000000 in
theorem compare_w (a1 a2 b1 b2 : ByteArray) (m1 : Bool) (n1 e1 : Nat) (m2 : Bool) (n2 e2 : Nat) (w : World) (h1 : a1.size ≤ 9223372036854775807) (h2 : a2.size ≤ 9223372036854775807) (h3 : b1.size ≤ 9223372036854775807) (h4 : b2.size ≤ 9223372036854775807)
    (ha : Nt.Rd a1.data.toList a2.data.toList m1 n1 e1) (hb : Nt.Rd b1.data.toList b2.data.toList m2 n2 e2)
    (s1 : (Nt.digs n1).length ≤ 400000) (s2 : (Nt.digs e1).length ≤ 400000) (s3 : (Nt.digs n2).length ≤ 400000) (s4 : (Nt.digs e2).length ≤ 400000) :
    Calls Tryz.prog 124 #[.agg #[.string a1, .string a2], .agg #[.string b1, .string b2]] w fun e w' => ∃ r : Int, e = .returned (.tuple #[.int .i64 r, .int .i64 0]) ∧ r = Int.sign (Nt.zi m1 (n1 * e2) - Nt.zi m2 (n2 * e1)) ∧ Below w.heap.size w w' := by
  have HBO := Lib.hid fun W => both_ok a1 a2 b1 b2 m1 n1 e1 m2 n2 e2 W h1 h2 h3 h4 ha hb
  have HSU := Lib.hid fun (W : World) A1 c1 A2 c2 B1 k1 B2 k2 p1 p2 p3 p4 => sum_o A1 c1 A2 c2 B1 k1 B2 k2 m1 n1 e1 (!m2) n2 e2 W p1 p2 p3 p4 s1 s2 s3 s4
  clear ha hb h1 h2 h3 h4 s1 s2 s3 s4
  have HL0 := Lib.hid (((Loc.start w).alloc' rfl 24 #[.string a1, .string a2]).alloc' (g := w.heap.size + 1) (by simp) 24 #[.string b1, .string b2])
  go_enter Tryz.func124, Tryz.ntmps124
  go_upto_region 6 with (first
    | (go_at_call 75; (with_reducible refine (HBO.out _).mono ?_); rintro e w1 ⟨A1, c1, A2, c2, B1, k1, B2, k2, rfl, hn1, hn2, hm1, hm2, hb⟩; have HL1 := Lib.hid (((HL0.out.step hb).alloc 107 #[.bool m1, .slice A1 (Nt.digs n1).length c1, .slice A2 (Nt.digs e1).length c2]).alloc 107 #[.bool (!m2), .slice B1 (Nt.digs n2).length k1, .slice B2 (Nt.digs e2).length k2]); have HAL := Lib.hid (((Below.refl _ w1).alloc (Nat.le_refl _) (.cells #[.bool m1, .slice A1 (Nt.digs n1).length c1, .slice A2 (Nt.digs e1).length c2] 107)).alloc (by simp) (.cells #[.bool (!m2), .slice B1 (Nt.digs n2).length k1, .slice B2 (Nt.digs e2).length k2] 107)); have HN1 := Lib.hid hn1; have HN2 := Lib.hid hn2; have HM1 := Lib.hid hm1; have HM2 := Lib.hid hm2; clear hn1 hn2 hm1 hm2 hb)
    | (go_at_call 36; (with_reducible refine (HSU.out _ _ _ _ _ _ _ _ _ (HN1.out.below HAL.out) (HN2.out.below HAL.out) (HM1.out.below HAL.out) (HM2.out.below HAL.out)).mono ?_); rintro e w2 ⟨m, n, A, c, A', c', rfl, hp, hr1, hr2, hb⟩; have HL2 := Lib.hid ((HL1.out.step hb).alloc 107 #[.bool m, .slice A (Nt.digs n).length c, .slice A' (Nt.digs (e1 * e2)).length c']); have HPP := Lib.hid hp.1; have HR1 := Lib.hid (hr1.below ((Below.refl _ w2).alloc (Nat.le_refl _) (.cells #[.bool m, .slice A (Nt.digs n).length c, .slice A' (Nt.digs (e1 * e2)).length c'] 107))); clear hp hr1 hr2 hb))
  have hZ : Nt.zi m n = Nt.zi m1 (n1 * e2) - Nt.zi m2 (n2 * e1) := by rw [HPP.out, Nt.zi_not, Int.sub_eq_add_neg]
  have HZ := Lib.hid hZ
  have HB := Lib.hid HL2.out.bel
  clear hZ HPP HL2 HL1 HL0 HBO HSU HAL HN1 HN2 HM1 HM2
  rcases Nat.eq_zero_or_pos n with rfl | hpos
  · have hz : (((Nt.digs 0).length : Int) == 0) = true := by rw [Nt.digs_zero]; rfl
    go_wp2_with (go_at_call 128; refine (zero_any _ _ _ _).mono ?_; rintro e w0 ⟨rfl, rfl⟩)
    go_ret2
    exact ⟨0, rfl, by rw [← HZ.out, Nt.zi_zero]; rfl, HB.out⟩
  · have hz : (((Nt.digs n).length : Int) == 0) = false := by rw [Nt.digs_pos (by omega)]; simp; omega
    have HPOS := Lib.hid hpos
    clear hpos
    cases m with
    | true =>
      go_wp2_with (go_at_call 128; refine (zero_any _ _ _ _).mono ?_; rintro e w0 ⟨rfl, rfl⟩)
      go_ret2
      exact ⟨-1, rfl, by rw [← HZ.out]; exact (Int.sign_eq_neg_one_of_neg (by have := HPOS.out; simp [Nt.zi]; omega)).symm, HB.out⟩
    | false =>
      go_wp2_with (go_at_call 128; refine (zero_any _ _ _ _).mono ?_; rintro e w0 ⟨rfl, rfl⟩)
      go_ret2
      exact ⟨1, rfl, by rw [← HZ.out]; exact (Int.sign_eq_one_of_pos (by have := HPOS.out; simp [Nt.zi]; omega)).symm, HB.out⟩

theorem sign_scale {x y : Int} {a b : Nat} (ha : a ≠ 0) (hb : b ≠ 0) (h : x * a = y * b) : Int.sign x = Int.sign y := by
  have e := congrArg Int.sign h
  rw [Int.sign_mul, Int.sign_mul, Int.sign_eq_one_of_pos (a := (a : Int)) (by omega), Int.sign_eq_one_of_pos (a := (b : Int)) (by omega)] at e
  simpa using e
theorem compare_q (a1 a2 b1 b2 : ByteArray) (z1 z2 : Int) (d1 d2 k1 k2 : Nat) (w : World) (ha : Nt.Qk a1.data.toList a2.data.toList z1 d1 k1) (hb : Nt.Qk b1.data.toList b2.data.toList z2 d2 k2) :
    Calls Tryz.prog 124 #[.agg #[.string a1, .string a2], .agg #[.string b1, .string b2]] w fun e w' => ∃ r : Int, e = .returned (.tuple #[.int .i64 r, .int .i64 0]) ∧ r = Int.sign (z1 * d2 - z2 * d1) ∧ Below w.heap.size w w' := by
  obtain ⟨m1, n1, e1, r1, q1⟩ := ha.q.ex
  obtain ⟨m2, n2, e2, r2, q2⟩ := hb.q.ex
  have la := ha.ln
  have lb := hb.ln
  have x1 := lt_pow34 r1.ln
  have x2 := lt_pow34 r1.ld
  have x3 := lt_pow34 r2.ln
  have x4 := lt_pow34 r2.ld
  refine (compare_w a1 a2 b1 b2 m1 n1 e1 m2 n2 e2 w (size_of la.1 (by omega)) (size_of la.2 (by omega)) (size_of lb.1 (by omega)) (size_of lb.2 (by omega)) r1 r2 (Nat.le_trans (digs_pow x1) (by omega)) (Nat.le_trans (digs_pow x2) (by omega)) (Nat.le_trans (digs_pow x3) (by omega)) (Nat.le_trans (digs_pow x4) (by omega))).mono ?_
  rintro e w' ⟨r, rfl, hr, hB⟩
  refine ⟨r, rfl, ?_, hB⟩
  rw [hr]
  refine sign_scale (a := d1 * d2) (b := e1 * e2) (Nat.mul_ne_zero ha.q.d0 hb.q.d0) (Nat.mul_ne_zero r1.d0 r2.d0) ?_
  rw [Nt.zi_mul, Nt.zi_mul]
  push_cast
  grind

namespace Nt
/-- The whole part's digits: away from zero where the number is negative and not whole. -/
def fl (m : Bool) (n e : Nat) : Nat := if m = true ∧ n % e ≠ 0 then n / e + 1 else n / e
theorem fl_spec (m : Bool) (n e : Nat) (he : e ≠ 0) : zi m (fl m n e) * e ≤ zi m n ∧ zi m n < (zi m (fl m n e) + 1) * e := by
  have h1 : n = n / e * e + n % e := by rw [Nat.mul_comm]; exact (Nat.div_add_mod n e).symm
  have h2 := Nat.mod_lt n (Nat.pos_of_ne_zero he)
  obtain ⟨q, hq⟩ : ∃ q, q = n / e := ⟨_, rfl⟩
  obtain ⟨r, hr⟩ : ∃ r, r = n % e := ⟨_, rfl⟩
  unfold fl
  rw [← hq, ← hr] at h1 ⊢
  rw [← hr] at h2
  subst h1
  clear hq hr
  cases m with
  | false =>
    simp only [Bool.false_eq_true, false_and, if_false, zi]
    rw [Int.add_mul]
    push_cast
    omega
  | true =>
    by_cases h0 : r = 0
    · subst h0
      simp only [ne_eq, not_true_eq_false, and_false, if_false, zi, if_true]
      rw [Int.add_mul, Int.neg_mul]
      push_cast
      omega
    · rw [if_pos ⟨rfl, h0⟩]
      simp only [zi, if_true]
      push_cast
      rw [Int.neg_mul, Int.add_mul, Int.add_mul, Int.neg_mul, Int.add_mul]
      omega
theorem fl_le (m : Bool) (n e : Nat) (he : e ≠ 0) : fl m n e ≤ n := by
  unfold fl
  split
  · rename_i h
    have h2 : n % e ≤ n := Nat.mod_le _ _
    by_cases h1 : e = 1
    · subst h1; rw [Nat.mod_one] at h; exact absurd rfl h.2
    · have h3 : n ≠ 0 := by rintro rfl; rw [Nat.zero_mod] at h; exact h.2 rfl
      have : n / e < n := Nat.div_lt_self (by omega) (by omega)
      omega
  · exact Nat.div_le_self _ _
/-- The whole part, of the fraction itself. -/
theorem fl_q {m : Bool} {n e d : Nat} {z : Int} (he : e ≠ 0) (hd : d ≠ 0) (q : zi m n * d = z * e) : zi m (fl m n e) * d ≤ z ∧ z < (zi m (fl m n e) + 1) * d := by
  obtain ⟨h1, h2⟩ := fl_spec m n e he
  obtain ⟨f, hf⟩ : ∃ f, f = zi m (fl m n e) := ⟨_, rfl⟩
  rw [← hf] at h1 h2 ⊢
  have he' : (0 : Int) < e := by omega
  have hd' : (0 : Int) < d := by omega
  constructor
  · refine Int.le_of_mul_le_mul_right ?_ he'
    rw [← q]
    have := Int.mul_le_mul_of_nonneg_right h1 (Int.le_of_lt hd')
    calc f * d * e = f * e * d := by grind
      _ ≤ _ := this
  · refine Int.lt_of_mul_lt_mul_right ?_ (Int.le_of_lt he')
    rw [← q]
    have := Int.mul_lt_mul_of_pos_right h2 hd'
    calc _ < (f + 1) * e * d := this
      _ = _ := by grind
theorem abs_fl {f z : Int} {d : Nat} (hd : d ≠ 0) (h1 : f * d ≤ z) (h2 : z < (f + 1) * d) : f.natAbs ≤ z.natAbs := by
  have hd' : (1 : Int) ≤ d := by omega
  rcases Int.lt_or_le f 0 with hf | hf
  · have : (f + 1) * d ≤ (f + 1) * 1 := Int.mul_le_mul_of_nonpos_left (by omega) hd'
    omega
  · have : f * 1 ≤ f * d := Int.mul_le_mul_of_nonneg_left hd' hf
    omega
end Nt
theorem divide_o (va vb : Value) (a b : Nat) (w : World) (ha : Nv w va (Nt.digs a)) (hb : Nv w vb (Nt.digs b)) (sa : (Nt.digs a).length ≤ 900000) (sb : (Nt.digs b).length ≤ 900000) (h0 : b ≠ 0) :
    Calls Tryz.prog 131 #[va, vb] w fun e w' => ∃ A c A' c', e = .returned (.tuple #[.slice A (Nt.digs (a / b)).length c, .slice A' (Nt.digs (a % b)).length c']) ∧ Nv w' (.slice A (Nt.digs (a / b)).length c) (Nt.digs (a / b)) ∧ Nv w' (.slice A' (Nt.digs (a % b)).length c') (Nt.digs (a % b)) ∧ Below w.heap.size w w' := by
  refine (divide_n va vb a b w ha hb sa sb h0).mono ?_
  rintro e w' ⟨v1, v2, rfl, hv1, hv2, hb⟩
  obtain ⟨A, c, rfl, _⟩ := hv1.ex
  obtain ⟨A', c', rfl, _⟩ := hv2.ex
  exact ⟨A, c, A', c', rfl, hv1, hv2, hb⟩
theorem plus_o (va vb : Value) (a b : Nat) (w : World) (ha : Nv w va (Nt.digs a)) (hb : Nv w vb (Nt.digs b)) (sa : (Nt.digs a).length ≤ 1000000) (sb : (Nt.digs b).length ≤ 1000000) :
    Calls Tryz.prog 78 #[va, vb] w fun e w' => ∃ A c, e = .returned (.slice A (Nt.digs (a + b)).length c) ∧ Nv w' (.slice A (Nt.digs (a + b)).length c) (Nt.digs (a + b)) ∧ Below w.heap.size w w' := by
  refine (plus_n va vb a b w ha hb sa sb).mono ?_
  rintro e w' ⟨v, rfl, hv, hb⟩
  obtain ⟨A, c, rfl, _⟩ := hv.ex
  exact ⟨A, c, rfl, hv, hb⟩

set_option maxRecDepth 100000 in
set_option maxHeartbeats 2000000 in
theorem floor_w (a1 a2 : ByteArray) (m : Bool) (n e : Nat) (w : World) (h1 : a1.size ≤ 9223372036854775807) (h2 : a2.size ≤ 9223372036854775807) (hr : Nt.Rd a1.data.toList a2.data.toList m n e)
    (s1 : (Nt.digs n).length ≤ 400000) (s2 : (Nt.digs e).length ≤ 400000) (hfit : Fits (Nt.fl m n e) 1) (htab : Lib.TabIs Tryz.prog w "internal/strconv.uint64pow10" .u64 Lib.pow10Tab) :
    Calls Tryz.prog 84 #[.agg #[.string a1, .string a2]] w (WriteRet m (Nt.fl m n e) 1 w) := by
  have HRD := Lib.hid fun W => read_ok a1 a2 m n e W h1 h2 hr
  have he := hr.d0
  have HDV := Lib.hid fun (W : World) A c A' c' (p : Nv W (.slice A (Nt.digs n).length c) (Nt.digs n)) (q : Nv W (.slice A' (Nt.digs e).length c') (Nt.digs e)) => divide_o _ _ n e W p q (by omega) (by omega) he
  have HQS := Lib.hid (show (Nt.digs (n / e)).length ≤ 1000000 from Nat.le_trans (digs_mono (Nat.div_le_self n e)) (by omega))
  have HT := Lib.hid (show ∀ W, Below w.heap.size w W → Lib.TabIs Tryz.prog W "internal/strconv.uint64pow10" .u64 Lib.pow10Tab from Lib.tabBelow_of_tabIs htab)
  have HF := Lib.hid hfit
  clear hr h1 h2 s1 s2 htab hfit he
  have HL0 := Lib.hid (((Loc.start w).alloc' rfl 24 #[.string a1, .string a2]).alloc' (g := w.heap.size + 1) (by simp) 24 #[.string ⟨#[]⟩, .string ⟨#[]⟩])
  go_enter Tryz.func84, Tryz.ntmps84
  go_upto_region 5 with (first
    | (go_at_call 129; (with_reducible refine (HRD.out _).mono ?_); rintro e w1 ⟨A1, c1, A2, c2, rfl, hn, hd, hb⟩; have HL1 := Lib.hid ((HL0.out.step hb).alloc 107 #[.bool m, .slice A1 (Nt.digs n).length c1, .slice A2 (Nt.digs e).length c2]); have HAL := Lib.hid ((Below.refl _ w1).alloc (Nat.le_refl _) (.cells #[.bool m, .slice A1 (Nt.digs n).length c1, .slice A2 (Nt.digs e).length c2] 107)); have HN := Lib.hid hn; have HD := Lib.hid hd; clear hn hd hb)
    | (go_at_call 131; (with_reducible refine (HDV.out _ _ _ _ _ (HN.out.below HAL.out) (HD.out.below HAL.out)).mono ?_); rintro e w2 ⟨A3, c3, A4, c4, rfl, hn, hd, hb⟩; have HL2 := Lib.hid (HL1.out.step hb); have HQ := Lib.hid hn; have HR := Lib.hid hd; clear hn hd hb))
  have x0 : w2.cell? ⟨w1.heap.size, 0, none⟩ = some (.bool m) := (HL2.out.blk (g := w1.heap.size) (t := 107) (cs := #[.bool m, .slice A1 (Nt.digs n).length c1, .slice A2 (Nt.digs e).length c2]) (by simp)).cell 0
  by_cases hm : m = true ∧ n % e ≠ 0
  · obtain ⟨rfl, h0⟩ := hm
    have hfl : Nt.fl true n e = n / e + 1 := if_pos ⟨rfl, h0⟩
    rw [hfl] at HF
    have HFL := Lib.hid hfl
    have hz : (((Nt.digs (n % e)).length : Int) == 0) = false := by rw [Nt.digs_pos (by omega)]; simp; omega
    clear hfl h0
    go_wp2_with (first
      | (go_at_call 128; refine (zero_any _ _ _ _).mono ?_; rintro e w0 ⟨rfl, rfl⟩)
      | (go_at_call 78; (with_reducible refine (plus_o _ _ (n / e) 1 _ (HQ.out.below ((Below.refl _ w2).alloc (Nat.le_refl _) (.cells #[.int .u32 1] 193))) (nv_lit w2 1 (by decide) (by decide) 1 rfl) HQS.out (by rw [digs_one]; decide)).mono ?_); rintro e w3 ⟨A5, c5, rfl, hq, hb⟩; have hl := (HL2.out.alloc 193 #[.int .u32 1]).step hb; have HL3 := Lib.hid hl; have HQ3 := Lib.hid hq; obtain ⟨y0, -, -, -, -, -⟩ := (hl.blk (g := w1.heap.size) (t := 107) (cs := #[.bool true, .slice A1 (Nt.digs n).length c1, .slice A2 (Nt.digs e).length c2]) (by simp)).three; clear hq hb hl)
      | (go_at_call 76; (with_reducible refine (write_any _ true (n / e + 1) 1 _ ⟨_, _, rfl, (HQ3.out.below ((Below.refl _ w3).alloc (Nat.le_refl _) (.cells #[.int .u32 1] 193))), (nv_lit w3 1 (by decide) (by decide) 1 rfl)⟩ (by decide) HF.out.s1 HF.out.s2 HF.out.f1 HF.out.f2 (HT.out _ (HL3.out.alloc 193 #[.int .u32 1]).bel)).mono ?_); rintro e w4 ⟨hb, sn, sd, rfl, e1, e2⟩; have hl := (HL3.out.alloc 193 #[.int .u32 1]).step hb; have HL4 := Lib.hid hl; have bl := hl.blk (g := w.heap.size + 1) (t := 24) (cs := #[.string ⟨#[]⟩, .string ⟨#[]⟩]) (by simp); have HBL := Lib.hid bl; obtain ⟨z0, z1, f0, f1⟩ := bl.two; have E1 := Lib.hid e1; have E2 := Lib.hid e2; clear hl bl hb e1 e2))
    obtain ⟨-, q0, q1⟩ := HBL.out.two_set (.string sn) (.string sd)
    refine bodyPost_ret (v := .tuple #[.agg #[.string sn, .string sd], .int .i64 0]) (by simp [results, Tryz.results84, go_sem, q0, q1]) rfl ?_
    exact ⟨below_two HL4.out.bel (by omega) _ _, sn, sd, rfl, (by rw [HFL.out]; exact E1.out), (by rw [HFL.out]; exact E2.out)⟩
  · have hfl : Nt.fl m n e = n / e := if_neg hm
    rw [hfl] at HF
    have HFL := Lib.hid hfl
    have hz : m = true → (((Nt.digs (n % e)).length : Int) == 0) = true := fun h => by
      have : n % e = 0 := Classical.not_not.1 fun h0 => hm ⟨h, h0⟩
      rw [this, Nt.digs_zero]; rfl
    clear hfl hm
    cases m
    · clear hz
      go_wp2_with (first
        | (go_at_call 128; refine (zero_any _ _ _ _).mono ?_; rintro e w0 ⟨rfl, rfl⟩)
        | (go_at_call 76; (with_reducible refine (write_any _ false (n / e) 1 _ ⟨_, _, rfl, (HQ.out.below ((Below.refl _ w2).alloc (Nat.le_refl _) (.cells #[.int .u32 1] 193))), (nv_lit w2 1 (by decide) (by decide) 1 rfl)⟩ (by decide) HF.out.s1 HF.out.s2 HF.out.f1 HF.out.f2 (HT.out _ (HL2.out.alloc 193 #[.int .u32 1]).bel)).mono ?_); rintro e w4 ⟨hb, sn, sd, rfl, e1, e2⟩; have hl := (HL2.out.alloc 193 #[.int .u32 1]).step hb; have HL4 := Lib.hid hl; have bl := hl.blk (g := w.heap.size + 1) (t := 24) (cs := #[.string ⟨#[]⟩, .string ⟨#[]⟩]) (by simp); have HBL := Lib.hid bl; obtain ⟨z0, z1, f0, f1⟩ := bl.two; have E1 := Lib.hid e1; have E2 := Lib.hid e2; clear hl bl hb e1 e2))
      obtain ⟨-, q0, q1⟩ := HBL.out.two_set (.string sn) (.string sd)
      refine bodyPost_ret (v := .tuple #[.agg #[.string sn, .string sd], .int .i64 0]) (by simp [results, Tryz.results84, go_sem, q0, q1]) rfl ?_
      exact ⟨below_two HL4.out.bel (by omega) _ _, sn, sd, rfl, (by rw [HFL.out]; exact E1.out), (by rw [HFL.out]; exact E2.out)⟩
    · replace hz := hz rfl
      go_wp2_with (first
        | (go_at_call 128; refine (zero_any _ _ _ _).mono ?_; rintro e w0 ⟨rfl, rfl⟩)
        | (go_at_call 76; (with_reducible refine (write_any _ true (n / e) 1 _ ⟨_, _, rfl, (HQ.out.below ((Below.refl _ w2).alloc (Nat.le_refl _) (.cells #[.int .u32 1] 193))), (nv_lit w2 1 (by decide) (by decide) 1 rfl)⟩ (by decide) HF.out.s1 HF.out.s2 HF.out.f1 HF.out.f2 (HT.out _ (HL2.out.alloc 193 #[.int .u32 1]).bel)).mono ?_); rintro e w4 ⟨hb, sn, sd, rfl, e1, e2⟩; have hl := (HL2.out.alloc 193 #[.int .u32 1]).step hb; have HL4 := Lib.hid hl; have bl := hl.blk (g := w.heap.size + 1) (t := 24) (cs := #[.string ⟨#[]⟩, .string ⟨#[]⟩]) (by simp); have HBL := Lib.hid bl; obtain ⟨z0, z1, f0, f1⟩ := bl.two; have E1 := Lib.hid e1; have E2 := Lib.hid e2; clear hl bl hb e1 e2))
      obtain ⟨-, q0, q1⟩ := HBL.out.two_set (.string sn) (.string sd)
      refine bodyPost_ret (v := .tuple #[.agg #[.string sn, .string sd], .int .i64 0]) (by simp [results, Tryz.results84, go_sem, q0, q1]) rfl ?_
      exact ⟨below_two HL4.out.bel (by omega) _ _, sn, sd, rfl, (by rw [HFL.out]; exact E1.out), (by rw [HFL.out]; exact E2.out)⟩

theorem floor_q (a1 a2 : ByteArray) (z : Int) (d k : Nat) (w : World) (ha : Nt.Qk a1.data.toList a2.data.toList z d k) (hk : k ≤ 299) (htab : Lib.TabIs Tryz.prog w "internal/strconv.uint64pow10" .u64 Lib.pow10Tab) :
    Calls Tryz.prog 84 #[.agg #[.string a1, .string a2]] w fun e w' => ∃ f : Int, QRet f 1 k w e w' ∧ f * d ≤ z ∧ z < (f + 1) * d := by
  obtain ⟨m, n, p, r, q⟩ := ha.q.ex
  have la := ha.ln
  have x1 := lt_pow34 r.ln
  have x2 := lt_pow34 r.ld
  obtain ⟨f1, f2⟩ := Nt.fl_q r.d0 ha.q.d0 q
  have hz : (Nt.zi m (Nt.fl m n p)).natAbs ≤ 10 ^ k := Nat.le_trans (Nt.abs_fl ha.q.d0 f1 f2) ha.zk
  have h1k : 1 ≤ 10 ^ k := Nat.one_le_pow _ _ (by decide)
  have hfit : Fits (Nt.fl m n p) 1 := fits_of (m := m) (d := 1) (z := Nt.zi m (Nt.fl m n p)) (by decide) (by decide) rfl hz h1k hk (i := 34) (by omega) (Nat.lt_of_le_of_lt (Nt.fl_le m n p r.d0) x1) (Nat.one_lt_pow (by decide) (by decide))
  refine (floor_w a1 a2 m n p w (size_of la.1 (by omega)) (size_of la.2 (by omega)) r (Nat.le_trans (digs_pow x1) (by omega)) (Nat.le_trans (digs_pow x2) (by omega)) hfit htab).mono ?_
  rintro e w' ⟨hb, sn, sd, rfl, e1, e2⟩
  exact ⟨_, ⟨sn, sd, rfl, by rw [e1, e2]; exact Nt.w_qk (by decide) (by decide) rfl hz h1k hk, hb⟩, f1, f2⟩
end Go.Proofs.YtigeipjkcidleaaGreatDoor
