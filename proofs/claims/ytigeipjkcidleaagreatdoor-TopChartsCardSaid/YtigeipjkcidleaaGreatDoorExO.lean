/- The contracts of exact's Add, Sub, Mul, Div over texts that stand for fractions. -/
import Derived.Test.YtigeipjkcidleaaGreatDoorExQ
namespace Go.Proofs.YtigeipjkcidleaaGreatDoor
open Go.RowKit

theorem digs_pow {n j : Nat} (h : n < Nt.B ^ j) : (Nt.digs n).length ≤ j := Nt.digs_len h
theorem lt_pow34 {n : Nat} (h : (Lib.decDigits n).length ≤ 300) : n < Nt.B ^ 34 := by
  have h1 := Nt.dd_lt n
  obtain ⟨k, hk⟩ : ∃ k, k = 34 := ⟨_, rfl⟩
  rw [← hk]
  have h2 : 10 ^ (Lib.decDigits n).length ≤ 10 ^ (9 * k) := Nat.pow_le_pow_right (by decide) (by omega)
  have e : (10 : Nat) ^ (9 * k) = Nt.B ^ k := Nat.pow_mul 10 9 k
  rw [← e]
  exact Nat.lt_of_lt_of_le h1 h2
theorem mul_pow {a b i j : Nat} (ha : a < Nt.B ^ i) (hb : b < Nt.B ^ j) : a * b < Nt.B ^ (i + j) := by
  rw [Nat.pow_add]
  exact Nat.mul_lt_mul'' ha hb
theorem add_pow {a b i : Nat} (ha : a < Nt.B ^ i) (hb : b < Nt.B ^ i) : a + b < Nt.B ^ (i + 1) := by
  rw [Nat.pow_succ]
  have : 2 ≤ Nt.B := by decide
  have h2 : Nt.B ^ i * 2 ≤ Nt.B ^ i * Nt.B := Nat.mul_le_mul_left _ this
  omega
namespace Nt
theorem zi_not (m : Bool) (n : Nat) : zi (!m) n = -zi m n := by cases m <;> simp [zi]
theorem zi_mulx (m1 m2 : Bool) (n1 n2 : Nat) : zi (m1 != m2) (n1 * n2) = zi m1 n1 * zi m2 n2 := by
  cases m1 <;> cases m2 <;> simp [zi, Int.neg_mul, Int.mul_neg]
theorem abs_sub_le {x y : Int} {k : Nat} (hx : x.natAbs ≤ 10 ^ k) (hy : y.natAbs ≤ 10 ^ k) : (x - y).natAbs ≤ 10 ^ (k + 1) := by
  have := Int.natAbs_sub_le x y
  rw [Nat.pow_succ]
  omega
theorem div_key {m1 m2 : Bool} {n1 n2 e1 e2 d1 d2 : Nat} {z1 z2 : Int} (q1 : zi m1 n1 * d1 = z1 * e1) (q2 : zi m2 n2 * d2 = z2 * e2) (_hn2 : n2 ≠ 0) (_hd1 : d1 ≠ 0) (_he1 : e1 ≠ 0) (hd2 : d2 ≠ 0) (he2 : e2 ≠ 0) (hz2 : z2 ≠ 0) :
    zi (m1 != m2) (n1 * e2) * ((d1 * z2.natAbs : Nat) : Int) = (z1 * d2 * z2.sign) * ((e1 * n2 : Nat) : Int) := by
  have hs : zi (m1 != m2) (n1 * e2) = zi m1 n1 * e2 * (if m2 then -1 else 1) := by cases m1 <;> cases m2 <;> simp [zi, Int.neg_mul]
  have hsg : (if m2 then (-1 : Int) else 1) * z2.natAbs = z2 := by
    have hd : (0 : Int) < d2 := by omega
    have he : (0 : Int) < e2 := by omega
    cases m2 with
    | false =>
      have h1 : 0 ≤ zi false n2 * d2 := Int.mul_nonneg (by simp [zi]) (Int.le_of_lt hd)
      rw [q2] at h1
      have : 0 ≤ z2 := by
        by_cases h : z2 < 0
        · exact absurd h1 (Int.not_le.2 (Int.mul_neg_of_neg_of_pos h he))
        · omega
      simp; omega
    | true =>
      have h1 : zi true n2 * d2 ≤ 0 := by
        have : 0 ≤ (n2 : Int) * d2 := Int.mul_nonneg (by omega) (Int.le_of_lt hd)
        simp only [zi, if_true, Int.neg_mul]; omega
      rw [q2] at h1
      have : z2 ≤ 0 := by
        by_cases h : 0 < z2
        · exact absurd h1 (Int.not_le.2 (Int.mul_pos h he))
        · omega
      simp; omega
  have hn : (n2 : Int) * d2 = z2.natAbs * e2 := by
    have := congrArg Int.natAbs q2
    rw [Int.natAbs_mul, Int.natAbs_mul, zi_abs, Int.natAbs_natCast, Int.natAbs_natCast] at this
    exact_mod_cast this
  have hss : (if m2 then (-1 : Int) else 1) = z2.sign := by
    have h3 : ((if m2 then (-1 : Int) else 1) - z2.sign) * z2.natAbs = 0 := by
      rw [Int.sub_mul, hsg, Int.sign_mul_natAbs]; omega
    rcases Int.mul_eq_zero.1 h3 with h | h
    · omega
    · omega
  rw [hs, hss]
  push_cast
  have e1' : zi m1 n1 * e2 * z2.sign * (d1 * z2.natAbs) = (zi m1 n1 * d1) * (z2.natAbs * e2) * z2.sign := by grind
  rw [e1', q1, ← hn]
  grind
end Nt
/-- What an operation hands back: the texts of z / d. -/
def QRet (z : Int) (d k : Nat) (w : World) (e : Ending) (w' : World) : Prop :=
  ∃ sn sd : ByteArray, e = .returned (.tuple #[.agg #[.string sn, .string sd], .int .i64 0]) ∧ Nt.Qk sn.data.toList sd.data.toList z d k ∧ Below w.heap.size w w'
theorem qret_of {P : Bool → Nat → Prop} {p d k : Nat} {z : Int} {w : World} {e : Ending} {w' : World} (hp : p ≠ 0) (hd : d ≠ 0) (hz : z.natAbs ≤ 10 ^ k) (hd1 : d ≤ 10 ^ k) (hk : k ≤ 299) (hP : ∀ m n, P m n → Nt.zi m n * d = z * p) (h : OpRet P p w e w') : QRet z d k w e w' := by
  obtain ⟨m, n, sn, sd, h1, h2, h3, h4, h5⟩ := h
  refine ⟨sn, sd, h2, ?_, h5⟩
  rw [h3, h4]
  exact Nt.w_qk hp hd (hP m n h1) hz hd1 hk
theorem fits_of {m : Bool} {n p d k : Nat} {z : Int} (hp : p ≠ 0) (hd : d ≠ 0) (h : Nt.zi m n * d = z * p) (hz : z.natAbs ≤ 10 ^ k) (hd1 : d ≤ 10 ^ k) (hk : k ≤ 299) {i : Nat} (hi : i ≤ 900000) (hn : n < Nt.B ^ i) (hpp : p < Nt.B ^ i) : Fits n p := by
  obtain ⟨f1, f2⟩ := Nt.red_le hp hd h hz hd1 hk
  exact ⟨Nat.le_trans (digs_pow hn) hi, Nat.le_trans (digs_pow hpp) hi, f1, f2⟩
theorem size_of {t : ByteArray} {k : Nat} (h : t.data.toList.length ≤ k) (hk : k ≤ 301) : t.size ≤ 9223372036854775807 := by
  have : t.data.toList.length = t.size := rfl
  omega

set_option maxRecDepth 100000 in
set_option maxHeartbeats 1000000 in
theorem Add_w (a1 a2 b1 b2 : ByteArray) (P : Bool → Nat → Prop) (d : Nat) (w : World)
    (h : ∀ W, Below w.heap.size w W → Calls Tryz.prog 34 #[.agg #[.string a1, .string a2], .agg #[.string b1, .string b2], .func (.func 35) #[] #[]] W (OpRet P d W)) :
    Calls Tryz.prog 10 #[.agg #[.string a1, .string a2], .agg #[.string b1, .string b2]] w (OpRet P d w) := by
  have H := Lib.hid h
  clear h
  have HL0 := Lib.hid ((((Loc.start w).alloc' rfl 24 #[.string a1, .string a2]).alloc' (g := w.heap.size + 1) (by simp) 24 #[.string b1, .string b2]).alloc' (g := w.heap.size + 2) (by simp) 24 #[.string ⟨#[]⟩, .string ⟨#[]⟩])
  go_enter Tryz.func10, Tryz.ntmps10
  go_wp2_with (go_at_call 34; (with_reducible refine (H.out _ HL0.out.bel).mono ?_); rintro e w1 ⟨m, n, sn, sd, hp, rfl, e1, e2, hb⟩; have hl := HL0.out.step hb; have HL3 := Lib.hid hl; have bl := hl.blk (g := w.heap.size + 2) (t := 24) (cs := #[.string ⟨#[]⟩, .string ⟨#[]⟩]) (by simp); have HBL := Lib.hid bl; obtain ⟨x0, x1, f0, f1⟩ := bl.two; have E1 := Lib.hid e1; have E2 := Lib.hid e2; have HPP := Lib.hid hp; clear hl bl hb e1 e2 hp)
  obtain ⟨-, q0, q1⟩ := HBL.out.two_set (.string sn) (.string sd)
  refine bodyPost_ret (v := .tuple #[.agg #[.string sn, .string sd], .int .i64 0]) (by simp [results, Tryz.results10, go_sem, q0, q1]) rfl ?_
  exact ⟨m, n, sn, sd, HPP.out, rfl, E1.out, E2.out, below_two HL3.out.bel (by omega) _ _⟩

set_option maxRecDepth 100000 in
set_option maxHeartbeats 1000000 in
theorem Mul_w (a1 a2 b1 b2 : ByteArray) (P : Bool → Nat → Prop) (d : Nat) (w : World)
    (h : ∀ W, Below w.heap.size w W → Calls Tryz.prog 34 #[.agg #[.string a1, .string a2], .agg #[.string b1, .string b2], .func (.func 136) #[] #[]] W (OpRet P d W)) :
    Calls Tryz.prog 82 #[.agg #[.string a1, .string a2], .agg #[.string b1, .string b2]] w (OpRet P d w) := by
  have H := Lib.hid h
  clear h
  have HL0 := Lib.hid ((((Loc.start w).alloc' rfl 24 #[.string a1, .string a2]).alloc' (g := w.heap.size + 1) (by simp) 24 #[.string b1, .string b2]).alloc' (g := w.heap.size + 2) (by simp) 24 #[.string ⟨#[]⟩, .string ⟨#[]⟩])
  go_enter Tryz.func82, Tryz.ntmps82
  go_wp2_with (go_at_call 34; (with_reducible refine (H.out _ HL0.out.bel).mono ?_); rintro e w1 ⟨m, n, sn, sd, hp, rfl, e1, e2, hb⟩; have hl := HL0.out.step hb; have HL3 := Lib.hid hl; have bl := hl.blk (g := w.heap.size + 2) (t := 24) (cs := #[.string ⟨#[]⟩, .string ⟨#[]⟩]) (by simp); have HBL := Lib.hid bl; obtain ⟨x0, x1, f0, f1⟩ := bl.two; have E1 := Lib.hid e1; have E2 := Lib.hid e2; have HPP := Lib.hid hp; clear hl bl hb e1 e2 hp)
  obtain ⟨-, q0, q1⟩ := HBL.out.two_set (.string sn) (.string sd)
  refine bodyPost_ret (v := .tuple #[.agg #[.string sn, .string sd], .int .i64 0]) (by simp [results, Tryz.results82, go_sem, q0, q1]) rfl ?_
  exact ⟨m, n, sn, sd, HPP.out, rfl, E1.out, E2.out, below_two HL3.out.bel (by omega) _ _⟩

set_option maxRecDepth 100000 in
set_option maxHeartbeats 1000000 in
theorem Div_w (a1 a2 b1 b2 : ByteArray) (P : Bool → Nat → Prop) (d : Nat) (w : World)
    (h : ∀ W, Below w.heap.size w W → Calls Tryz.prog 34 #[.agg #[.string a1, .string a2], .agg #[.string b1, .string b2], .func (.func 127) #[] #[]] W (OpRet P d W)) :
    Calls Tryz.prog 73 #[.agg #[.string a1, .string a2], .agg #[.string b1, .string b2]] w (OpRet P d w) := by
  have H := Lib.hid h
  clear h
  have HL0 := Lib.hid ((((Loc.start w).alloc' rfl 24 #[.string a1, .string a2]).alloc' (g := w.heap.size + 1) (by simp) 24 #[.string b1, .string b2]).alloc' (g := w.heap.size + 2) (by simp) 24 #[.string ⟨#[]⟩, .string ⟨#[]⟩])
  go_enter Tryz.func73, Tryz.ntmps73
  go_wp2_with (go_at_call 34; (with_reducible refine (H.out _ HL0.out.bel).mono ?_); rintro e w1 ⟨m, n, sn, sd, hp, rfl, e1, e2, hb⟩; have hl := HL0.out.step hb; have HL3 := Lib.hid hl; have bl := hl.blk (g := w.heap.size + 2) (t := 24) (cs := #[.string ⟨#[]⟩, .string ⟨#[]⟩]) (by simp); have HBL := Lib.hid bl; obtain ⟨x0, x1, f0, f1⟩ := bl.two; have E1 := Lib.hid e1; have E2 := Lib.hid e2; have HPP := Lib.hid hp; clear hl bl hb e1 e2 hp)
  obtain ⟨-, q0, q1⟩ := HBL.out.two_set (.string sn) (.string sd)
  refine bodyPost_ret (v := .tuple #[.agg #[.string sn, .string sd], .int .i64 0]) (by simp [results, Tryz.results73, go_sem, q0, q1]) rfl ?_
  exact ⟨m, n, sn, sd, HPP.out, rfl, E1.out, E2.out, below_two HL3.out.bel (by omega) _ _⟩

theorem add_q (a1 a2 b1 b2 : ByteArray) (z1 z2 : Int) (d1 d2 k1 k2 : Nat) (w : World) (ha : Nt.Qk a1.data.toList a2.data.toList z1 d1 k1) (hb : Nt.Qk b1.data.toList b2.data.toList z2 d2 k2) (hk : k1 + k2 + 1 ≤ 299) (htab : Lib.TabIs Tryz.prog w "internal/strconv.uint64pow10" .u64 Lib.pow10Tab) :
    Calls Tryz.prog 10 #[.agg #[.string a1, .string a2], .agg #[.string b1, .string b2]] w (QRet (z1 * d2 + z2 * d1) (d1 * d2) (k1 + k2 + 1) w) := by
  obtain ⟨m1, n1, e1, r1, q1⟩ := ha.q.ex
  obtain ⟨m2, n2, e2, r2, q2⟩ := hb.q.ex
  have la := ha.ln
  have lb := hb.ln
  have hd1 := ha.q.d0
  have hd2 := hb.q.d0
  have he1 := r1.d0
  have he2 := r2.d0
  have x1 := lt_pow34 r1.ln
  have x2 := lt_pow34 r1.ld
  have x3 := lt_pow34 r2.ln
  have x4 := lt_pow34 r2.ld
  have hp : e1 * e2 ≠ 0 := Nat.mul_ne_zero he1 he2
  have hd : d1 * d2 ≠ 0 := Nat.mul_ne_zero hd1 hd2
  have bz : (z1 * d2 + z2 * d1).natAbs ≤ 10 ^ (k1 + k2 + 1) := Nt.abs_add_le (Nt.abs_mul_le ha.zk hb.dk) (by have := Nt.abs_mul_le hb.zk ha.dk; rwa [Nat.add_comm k2 k1] at this)
  have bd : (d1 * d2 : Nat) ≤ 10 ^ (k1 + k2 + 1) := Nat.le_trans (Nt.mul_le_p ha.dk hb.dk) (Nat.pow_le_pow_right (by decide) (by omega))
  have key : ∀ m n, (SumP m1 n1 e1 m2 n2 e2) m n → Nt.zi m n * ((d1 * d2 : Nat) : Int) = (z1 * d2 + z2 * d1) * ((e1 * e2 : Nat) : Int) := by
    rintro m n ⟨h, -⟩
    rw [h, Nt.zi_mul, Nt.zi_mul]
    push_cast
    grind
  refine (Add_w a1 a2 b1 b2 (SumP m1 n1 e1 m2 n2 e2) (e1 * e2) w fun W hW => two_Add _ _ hp a1 a2 b1 b2 m1 n1 e1 m2 n2 e2 W (size_of la.1 (by omega)) (size_of la.2 (by omega)) (size_of lb.1 (by omega)) (size_of lb.2 (by omega)) r1 r2 (Lib.tabBelow_of_tabIs htab W hW)
    (fun W2 A1 c1 A2 c2 B1 k1 B2 k2 => add1_any m1 n1 e1 m2 n2 e2 (Nat.le_trans (digs_pow x1) (by omega)) (Nat.le_trans (digs_pow x2) (by omega)) (Nat.le_trans (digs_pow x3) (by omega)) (Nat.le_trans (digs_pow x4) (by omega)) W2 A1 c1 A2 c2 B1 k1 B2 k2)
    (fun m n hP => fits_of hp hd (key m n hP) bz bd hk (i := 69) (by omega) (Nat.lt_of_le_of_lt hP.2 (add_pow (i := 68) (mul_pow x1 x4) (mul_pow x3 x2))) ((Nat.lt_of_lt_of_le (mul_pow x2 x4) (Nat.pow_le_pow_right (by decide) (by omega)))))).mono fun e w' h => qret_of hp hd bz bd hk key h

theorem mul_q (a1 a2 b1 b2 : ByteArray) (z1 z2 : Int) (d1 d2 k1 k2 : Nat) (w : World) (ha : Nt.Qk a1.data.toList a2.data.toList z1 d1 k1) (hb : Nt.Qk b1.data.toList b2.data.toList z2 d2 k2) (hk : k1 + k2 ≤ 299) (htab : Lib.TabIs Tryz.prog w "internal/strconv.uint64pow10" .u64 Lib.pow10Tab) :
    Calls Tryz.prog 82 #[.agg #[.string a1, .string a2], .agg #[.string b1, .string b2]] w (QRet (z1 * z2) (d1 * d2) (k1 + k2) w) := by
  obtain ⟨m1, n1, e1, r1, q1⟩ := ha.q.ex
  obtain ⟨m2, n2, e2, r2, q2⟩ := hb.q.ex
  have la := ha.ln
  have lb := hb.ln
  have hd1 := ha.q.d0
  have hd2 := hb.q.d0
  have he1 := r1.d0
  have he2 := r2.d0
  have x1 := lt_pow34 r1.ln
  have x2 := lt_pow34 r1.ld
  have x3 := lt_pow34 r2.ln
  have x4 := lt_pow34 r2.ld
  have hp : e1 * e2 ≠ 0 := Nat.mul_ne_zero he1 he2
  have hd : d1 * d2 ≠ 0 := Nat.mul_ne_zero hd1 hd2
  have bz : (z1 * z2).natAbs ≤ 10 ^ (k1 + k2) := Nt.abs_mul_le' ha.zk hb.zk
  have bd : (d1 * d2 : Nat) ≤ 10 ^ (k1 + k2) := Nt.mul_le_p ha.dk hb.dk
  have key : ∀ m n, (fun m n => m = (m1 != m2) ∧ n = n1 * n2) m n → Nt.zi m n * ((d1 * d2 : Nat) : Int) = (z1 * z2) * ((e1 * e2 : Nat) : Int) := by
    rintro m n ⟨rfl, rfl⟩
    rw [Nt.zi_mulx]
    push_cast
    grind
  refine (Mul_w a1 a2 b1 b2 (fun m n => m = (m1 != m2) ∧ n = n1 * n2) (e1 * e2) w fun W hW => two_Mul _ _ hp a1 a2 b1 b2 m1 n1 e1 m2 n2 e2 W (size_of la.1 (by omega)) (size_of la.2 (by omega)) (size_of lb.1 (by omega)) (size_of lb.2 (by omega)) r1 r2 (Lib.tabBelow_of_tabIs htab W hW)
    (fun W2 A1 c1 A2 c2 B1 k1 B2 k2 => mul1_any m1 n1 e1 m2 n2 e2 (Nat.le_trans (digs_pow x1) (by omega)) (Nat.le_trans (digs_pow x2) (by omega)) (Nat.le_trans (digs_pow x3) (by omega)) (Nat.le_trans (digs_pow x4) (by omega)) W2 A1 c1 A2 c2 B1 k1 B2 k2)
    (fun m n hP => fits_of hp hd (key m n hP) bz bd hk (i := 69) (by omega) (by rw [hP.2]; exact (Nat.lt_of_lt_of_le (mul_pow x1 x3) (Nat.pow_le_pow_right (by decide) (by omega)))) ((Nat.lt_of_lt_of_le (mul_pow x2 x4) (Nat.pow_le_pow_right (by decide) (by omega)))))).mono fun e w' h => qret_of hp hd bz bd hk key h

theorem div_q (a1 a2 b1 b2 : ByteArray) (z1 z2 : Int) (d1 d2 k1 k2 : Nat) (w : World) (ha : Nt.Qk a1.data.toList a2.data.toList z1 d1 k1) (hb : Nt.Qk b1.data.toList b2.data.toList z2 d2 k2) (hz2 : z2 ≠ 0) (hk : k1 + k2 ≤ 299) (htab : Lib.TabIs Tryz.prog w "internal/strconv.uint64pow10" .u64 Lib.pow10Tab) :
    Calls Tryz.prog 73 #[.agg #[.string a1, .string a2], .agg #[.string b1, .string b2]] w (QRet (z1 * d2 * z2.sign) (d1 * z2.natAbs) (k1 + k2) w) := by
  obtain ⟨m1, n1, e1, r1, q1⟩ := ha.q.ex
  obtain ⟨m2, n2, e2, r2, q2⟩ := hb.q.ex
  have la := ha.ln
  have lb := hb.ln
  have hd1 := ha.q.d0
  have hd2 := hb.q.d0
  have he1 := r1.d0
  have he2 := r2.d0
  have x1 := lt_pow34 r1.ln
  have x2 := lt_pow34 r1.ld
  have x3 := lt_pow34 r2.ln
  have x4 := lt_pow34 r2.ld
  have hn2 : n2 ≠ 0 := by
    rintro rfl
    rw [Nt.zi_zero, Int.zero_mul] at q2
    rcases Int.mul_eq_zero.1 q2.symm with h | h
    · exact hz2 h
    · omega
  have hp : e1 * n2 ≠ 0 := Nat.mul_ne_zero he1 hn2
  have hd : d1 * z2.natAbs ≠ 0 := Nat.mul_ne_zero hd1 (by omega)
  have bz : (z1 * d2 * z2.sign).natAbs ≤ 10 ^ (k1 + k2) := by rw [Int.natAbs_mul, Int.natAbs_sign_of_ne_zero hz2, Nat.mul_one]; exact Nt.abs_mul_le ha.zk hb.dk
  have bd : (d1 * z2.natAbs : Nat) ≤ 10 ^ (k1 + k2) := Nt.mul_le_p ha.dk hb.zk
  have key : ∀ m n, (fun m n => m = (m1 != m2) ∧ n = n1 * e2) m n → Nt.zi m n * ((d1 * z2.natAbs : Nat) : Int) = (z1 * d2 * z2.sign) * ((e1 * n2 : Nat) : Int) := by
    rintro m n ⟨rfl, rfl⟩
    exact Nt.div_key q1 q2 hn2 hd1 he1 hd2 he2 hz2
  refine (Div_w a1 a2 b1 b2 (fun m n => m = (m1 != m2) ∧ n = n1 * e2) (e1 * n2) w fun W hW => two_Div _ _ hp a1 a2 b1 b2 m1 n1 e1 m2 n2 e2 W (size_of la.1 (by omega)) (size_of la.2 (by omega)) (size_of lb.1 (by omega)) (size_of lb.2 (by omega)) r1 r2 (Lib.tabBelow_of_tabIs htab W hW)
    (fun W2 A1 c1 A2 c2 B1 k1 B2 k2 => div1_any m1 n1 e1 m2 n2 e2 hn2 (Nat.le_trans (digs_pow x1) (by omega)) (Nat.le_trans (digs_pow x2) (by omega)) (Nat.le_trans (digs_pow x3) (by omega)) (Nat.le_trans (digs_pow x4) (by omega)) W2 A1 c1 A2 c2 B1 k1 B2 k2)
    (fun m n hP => fits_of hp hd (key m n hP) bz bd hk (i := 69) (by omega) (by rw [hP.2]; exact (Nat.lt_of_lt_of_le (mul_pow x1 x4) (Nat.pow_le_pow_right (by decide) (by omega)))) ((Nat.lt_of_lt_of_le (mul_pow x2 x3) (Nat.pow_le_pow_right (by decide) (by omega)))))).mono fun e w' h => qret_of hp hd bz bd hk key h
end Go.Proofs.YtigeipjkcidleaaGreatDoor
