/- The contracts of exact's Round and Root over texts that stand for fractions that are not negative. -/
import Derived.Test.YtliljihkoojggaaGreatDoorExU
namespace Go.Proofs.YtliljihkoojggaaGreatDoor
open Go.RowKit
namespace Nt
theorem nonneg_m {m : Bool} {n e d u : Nat} (hn : n = 0 → m = false) (hd : d ≠ 0) (h : zi m n * d = (u : Int) * e) : m = false ∧ n * d = u * e := by
  cases m with
  | false => exact ⟨rfl, by
      have h' : (n : Int) * d = (u : Int) * e := h
      exact_mod_cast h'⟩
  | true =>
    exfalso
    have h0 : n ≠ 0 := fun e => by have := hn e; cases this
    have h1 : (0 : Int) < (n : Int) * d := Int.mul_pos (by omega) (by omega)
    have h2 : (0 : Int) ≤ (u : Int) * e := Int.mul_nonneg (by omega) (by omega)
    simp only [zi, if_true] at h
    rw [Int.neg_mul] at h
    omega
theorem red_dvd {n e d u : Nat} (hg : Nat.gcd n e = 1) (h : n * d = u * e) (hd : d ≠ 0) : (n = 0 ∨ n ≤ u) ∧ e ≤ d := by
  have c : Nat.Coprime n e := hg
  have h1 : n ∣ u := c.dvd_of_dvd_mul_right ⟨d, h.symm⟩
  have h2 : e ∣ d := (Nat.Coprime.symm c).dvd_of_dvd_mul_left ⟨u, by rw [h, Nat.mul_comm]⟩
  refine ⟨?_, Nat.le_of_dvd (Nat.pos_of_ne_zero hd) h2⟩
  rcases Nat.eq_zero_or_pos u with rfl | hu
  · left
    rw [Nat.zero_mul] at h
    rcases Nat.mul_eq_zero.1 h with h | h
    · exact h
    · exact absurd h hd
  · exact .inr (Nat.le_of_dvd hu h1)
/-- r is the root of the fraction u / d, to p places. -/
def RootOf (u d p r : Nat) : Prop := r * r * d ≤ u * 10 ^ (2 * p) ∧ u * 10 ^ (2 * p) < (r + 1) * (r + 1) * d
theorem RootOf.of {n e d u p r : Nat} (he : e ≠ 0) (hd : d ≠ 0) (h : n * d = u * e) (hr : IsRoot (n * 10 ^ (2 * p) / e) r) : RootOf u d p r := by
  obtain ⟨h1, h2⟩ := hr
  unfold RootOf
  obtain ⟨E, hE⟩ : ∃ E, E = 10 ^ (2 * p) := ⟨_, rfl⟩
  rw [← hE] at h1 h2 ⊢
  have he' : 0 < e := Nat.pos_of_ne_zero he
  have hd' : 0 < d := Nat.pos_of_ne_zero hd
  have h3 : r * r * e ≤ n * E := (Nat.le_div_iff_mul_le he').1 h1
  have h4 : n * E < (r + 1) * (r + 1) * e := (Nat.div_lt_iff_lt_mul he').1 h2
  constructor
  · refine Nat.le_of_mul_le_mul_right ?_ he'
    have := Nat.mul_le_mul_right d h3
    have e1 : n * E * d = u * E * e := by rw [Nat.mul_right_comm, h, Nat.mul_right_comm]
    rw [e1, Nat.mul_right_comm] at this
    exact this
  · refine Nat.lt_of_mul_lt_mul_right (a := e) ?_
    have := Nat.mul_lt_mul_of_pos_right h4 hd'
    have e1 : n * E * d = u * E * e := by rw [Nat.mul_right_comm, h, Nat.mul_right_comm]
    rw [e1, Nat.mul_right_comm ((r + 1) * (r + 1))] at this
    exact this
theorem RootOf.sq {z p r : Nat} (h : RootOf (z * z) (10 ^ p * 10 ^ p) p r) : r = z := by
  obtain ⟨h1, h2⟩ := h
  have e : (10 : Nat) ^ p * 10 ^ p = 10 ^ (2 * p) := by rw [← Nat.pow_add, Nat.two_mul]
  rw [e] at h1 h2
  have hp : 0 < (10 : Nat) ^ (2 * p) := Nat.pow_pos (by decide)
  have h3 := Nat.le_of_mul_le_mul_right h1 hp
  have h4 := Nat.lt_of_mul_lt_mul_right h2
  exact (IsRoot.uniq (a := z * z) ⟨h3, h4⟩ (IsRoot.sq z))
theorem RootOf.mono {u d v c p r s : Nat} (hd : d ≠ 0) (hc : c ≠ 0) (h : RootOf u d p r) (k : RootOf v c p s) (hle : u * c ≤ v * d) : r ≤ s := by
  obtain ⟨h1, -⟩ := h
  obtain ⟨-, k2⟩ := k
  obtain ⟨E, hE⟩ : ∃ E, E = 10 ^ (2 * p) := ⟨_, rfl⟩
  rw [← hE] at h1 k2
  have hd' : 0 < d := Nat.pos_of_ne_zero hd
  have hc' : 0 < c := Nat.pos_of_ne_zero hc
  have a1 := Nat.mul_le_mul_right c h1
  have a2 := Nat.mul_lt_mul_of_pos_right k2 hd'
  have a3 := Nat.mul_le_mul_right E hle
  have e1 : u * E * c = u * c * E := Nat.mul_right_comm ..
  have e2 : v * E * d = v * d * E := Nat.mul_right_comm ..
  have e3 : (s + 1) * (s + 1) * c * d = (s + 1) * (s + 1) * d * c := Nat.mul_right_comm ..
  rw [e1] at a1
  rw [e2, e3] at a2
  have a4 : r * r * d * c < (s + 1) * (s + 1) * d * c := by omega
  have a5 := Nat.lt_of_mul_lt_mul_right (Nat.lt_of_mul_lt_mul_right a4)
  rcases Nat.lt_or_ge r (s + 1) with hx | hx
  · omega
  · exact absurd (Nat.mul_le_mul hx hx) (by omega)
end Nt
theorem nat_abs (u : Nat) : (u : Int).natAbs = u := Int.natAbs_natCast u
theorem ten_le {p k : Nat} (h : p ≤ k) : 10 ^ p ≤ 10 ^ k := Nat.pow_le_pow_right (by decide) h
theorem lt_B {n k i : Nat} (h : n ≤ 10 ^ k) (hk : k < 9 * i) : n < Nt.B ^ i := by
  have e : Nt.B ^ i = 10 ^ (9 * i) := by rw [Nat.pow_mul] <;> rfl
  rw [e]
  exact Nat.lt_of_le_of_lt h (Nat.pow_lt_pow_right (by decide) hk)
theorem round_q (a1 a2 : ByteArray) (u d k p : Nat) (w : World) (ha : Nt.Qk a1.data.toList a2.data.toList (u : Int) d k) (hp : p ≤ 100) (hk : k + p + 1 ≤ 299) (htab : Lib.TabIs Tryz.prog w "internal/strconv.uint64pow10" .u64 Lib.pow10Tab) :
    Calls Tryz.prog 18 #[.agg #[.string a1, .string a2], .int .i64 (p : Int)] w fun e w' => ∃ q : Nat, QRet (q : Int) (10 ^ p) (k + p + 1) w e w' := by
  obtain ⟨m, n, e, r, q⟩ := ha.q.ex
  have la := ha.ln
  obtain ⟨rfl, q2⟩ := Nt.nonneg_m r.n0 ha.q.d0 q
  obtain ⟨g1, g2⟩ := Nt.red_dvd r.g q2 ha.q.d0
  have hu : u ≤ 10 ^ k := by have := ha.zk; rwa [nat_abs] at this
  have hn : n ≤ 10 ^ k := by rcases g1 with h | h <;> omega
  have hd2 : e ≤ 10 ^ k := Nat.le_trans g2 ha.dk
  have hN : n * 10 ^ p ≤ 10 ^ (k + p) := by rw [Nat.pow_add]; exact Nat.mul_le_mul_right _ hn
  have hq : Nt.rnd (n * 10 ^ p) e ≤ 10 ^ (k + p + 1) := by
    refine Nat.le_trans (Nat.div_le_self _ _) ?_
    have := ten_le (p := k) (k := k + p) (by omega)
    rw [Nat.pow_succ]
    omega
  have hD : 10 ^ p ≤ 10 ^ (k + p + 1) := ten_le (by omega)
  have x1 := lt_pow34 r.ln
  have x2 := lt_pow34 r.ld
  have hp0 : 10 ^ p ≠ 0 := Nat.ne_of_gt (Nat.pow_pos (by decide))
  have hfit : Fits (Nt.rnd (n * 10 ^ p) e) (10 ^ p) := fits_of (m := false) (d := 10 ^ p) (z := (Nt.rnd (n * 10 ^ p) e : Int)) hp0 hp0 rfl (by rw [nat_abs]; exact hq) hD hk (i := 34) (by omega) (lt_B hq (by omega)) (lt_B hD (by omega))
  refine (round_w a1 a2 false n e p w (size_of la.1 (by omega)) (size_of la.2 (by omega)) r hp (Nat.le_trans (digs_pow x1) (by omega)) (Nat.le_trans (digs_pow x2) (by omega)) hfit htab).mono ?_
  rintro e' w' ⟨hb, sn, sd, rfl, e1, e2⟩
  exact ⟨_, sn, sd, rfl, by rw [e1, e2]; exact Nt.w_qk (m := false) hp0 hp0 rfl (by rw [nat_abs]; exact hq) hD hk, hb⟩
theorem root_q (a1 a2 : ByteArray) (u d k p : Nat) (w : World) (ha : Nt.Qk a1.data.toList a2.data.toList (u : Int) d k) (hp : p ≤ 100) (hk : k + 2 * p ≤ 299) (htab : Lib.TabIs Tryz.prog w "internal/strconv.uint64pow10" .u64 Lib.pow10Tab) :
    Calls Tryz.prog 19 #[.agg #[.string a1, .string a2], .int .i64 (p : Int)] w fun e w' => ∃ r : Nat, Nt.RootOf u d p r ∧ QRet (r : Int) (10 ^ p) (k + 2 * p) w e w' := by
  obtain ⟨m, n, e, r, q⟩ := ha.q.ex
  have la := ha.ln
  obtain ⟨rfl, q2⟩ := Nt.nonneg_m r.n0 ha.q.d0 q
  obtain ⟨g1, g2⟩ := Nt.red_dvd r.g q2 ha.q.d0
  have hu : u ≤ 10 ^ k := by have := ha.zk; rwa [nat_abs] at this
  have hn : n ≤ 10 ^ k := by rcases g1 with h | h <;> omega
  have hN : n * 10 ^ (2 * p) ≤ 10 ^ (k + 2 * p) := by rw [Nat.pow_add]; exact Nat.mul_le_mul_right _ hn
  have hQ : n * 10 ^ (2 * p) / e ≤ 10 ^ (k + 2 * p) := Nat.le_trans (Nat.div_le_self _ _) hN
  have hD : 10 ^ p ≤ 10 ^ (k + 2 * p) := ten_le (by omega)
  have x1 := lt_pow34 r.ln
  have x2 := lt_pow34 r.ld
  have hp0 : 10 ^ p ≠ 0 := Nat.ne_of_gt (Nat.pow_pos (by decide))
  have hrl : ∀ s, Nt.IsRoot (n * 10 ^ (2 * p) / e) s → s ≤ 10 ^ (k + 2 * p) := fun s hs => by
    refine Nat.le_trans ?_ hQ
    have h1 := hs.1
    rcases Nat.eq_zero_or_pos s with rfl | h0
    · omega
    · exact Nat.le_trans (Nat.le_mul_of_pos_left s h0) h1
  have hfit : ∀ s, Nt.IsRoot (n * 10 ^ (2 * p) / e) s → Fits s (10 ^ p) := fun s hs => fits_of (m := false) (d := 10 ^ p) (z := (s : Int)) hp0 hp0 rfl (by rw [nat_abs]; exact hrl s hs) hD hk (i := 34) (by omega) (lt_B (hrl s hs) (by omega)) (lt_B hD (by omega))
  have hdd : (Lib.decDigits (n * 10 ^ (2 * p) / e)).length ≤ 3600 := by
    have h1 : n * 10 ^ (2 * p) / e < 10 ^ (k + 2 * p + 1) := Nat.lt_of_le_of_lt hQ (Nat.pow_lt_pow_right (by decide) (by omega))
    exact Nat.le_trans (Nt.dd_le h1) (by omega)
  refine (root_w a1 a2 n e p w (size_of la.1 (by omega)) (size_of la.2 (by omega)) r hp (Nat.le_trans (digs_pow x1) (by omega)) hdd (Nat.le_trans (digs_pow x2) (by omega)) hfit htab).mono ?_
  rintro e' w' ⟨s, hs, hb, sn, sd, rfl, e1, e2⟩
  exact ⟨s, Nt.RootOf.of r.d0 ha.q.d0 q2 hs, sn, sd, rfl, by rw [e1, e2]; exact Nt.w_qk (m := false) hp0 hp0 rfl (by rw [nat_abs]; exact hrl s hs) hD hk, hb⟩
end Go.Proofs.YtliljihkoojggaaGreatDoor
