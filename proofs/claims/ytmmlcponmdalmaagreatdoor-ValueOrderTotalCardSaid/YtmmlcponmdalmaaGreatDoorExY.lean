/- The contracts of exact's Round and Root over texts that stand for fractions that are not negative. -/
import Derived.Test.YtmmlcponmdalmaaGreatDoorExU
namespace Go.Proofs.YtmmlcponmdalmaaGreatDoor
open Go.RowKit
namespace Nt
theorem nonneg_m {m : Bool} {n e d u : Nat} (hn : n = 0 → m = false) (hd : d ≠ 0) (h : zi m n * d = (u : Int) * e) : m = false ∧ n * d = u * e := by
  cases m with
  | false => exact ⟨rfl, by
      have h' : (n : Int) * d = (u : Int) * e := h
      exact_mod_cast h'⟩
  | true =>
    exfalso
    have h0 : n ≠ 0 := fun e => by have := hn e; cases this
    have h1 : (0 : Int) < (n : Int) * d := Int.mul_pos (by omega) (by omega)
    have h2 : (0 : Int) ≤ (u : Int) * e := Int.mul_nonneg (by omega) (by omega)
    simp only [zi, if_true] at h
    rw [Int.neg_mul] at h
    omega
theorem red_dvd {n e d u : Nat} (hg : Nat.gcd n e = 1) (h : n * d = u * e) (hd : d ≠ 0) : (n = 0 ∨ n ≤ u) ∧ e ≤ d := by
  have c : Nat.Coprime n e := hg
  have h1 : n ∣ u := c.dvd_of_dvd_mul_right ⟨d, h.symm⟩
  have h2 : e ∣ d := (Nat.Coprime.symm c).dvd_of_dvd_mul_left ⟨u, by rw [h, Nat.mul_comm]⟩
  refine ⟨?_, Nat.le_of_dvd (Nat.pos_of_ne_zero hd) h2⟩
  rcases Nat.eq_zero_or_pos u with rfl | hu
  · left
    rw [Nat.zero_mul] at h
    rcases Nat.mul_eq_zero.1 h with h | h
    · exact h
    · exact absurd h hd
  · exact .inr (Nat.le_of_dvd hu h1)
/-- r is the root of the fraction u / d, to p places. -/
def RootOf (u d p r : Nat) : Prop := r * r * d ≤ u * 10 ^ (2 * p) ∧ u * 10 ^ (2 * p) < (r + 1) * (r + 1) * d
theorem RootOf.of {n e d u p r : Nat} (he : e ≠ 0) (hd : d ≠ 0) (h : n * d = u * e) (hr : IsRoot (n * 10 ^ (2 * p) / e) r) : RootOf u d p r := by
  obtain ⟨h1, h2⟩ := hr
  unfold RootOf
  obtain ⟨E, hE⟩ : ∃ E, E = 10 ^ (2 * p) := ⟨_, rfl⟩
  rw [← hE] at h1 h2 ⊢
  have he' : 0 < e := Nat.pos_of_ne_zero he
  have hd' : 0 < d := Nat.pos_of_ne_zero hd
  have h3 : r * r * e ≤ n * E := (Nat.le_div_iff_mul_le he').1 h1
  have h4 : n * E < (r + 1) * (r + 1) * e := (Nat.div_lt_iff_lt_mul he').1 h2
  constructor
  · refine Nat.le_of_mul_le_mul_right ?_ he'
    have := Nat.mul_le_mul_right d h3
    have e1 : n * E * d = u * E * e := by rw [Nat.mul_right_comm, h, Nat.mul_right_comm]
    rw [e1, Nat.mul_right_comm] at this
    exact this
  · refine Nat.lt_of_mul_lt_mul_right (a := e) ?_
    have := Nat.mul_lt_mul_of_pos_right h4 hd'
    have e1 : n * E * d = u * E * e := by rw [Nat.mul_right_comm, h, Nat.mul_right_comm]
    rw [e1, Nat.mul_right_comm ((r + 1) * (r + 1))] at this
    exact this
theorem RootOf.sq {z p r : Nat} (h : RootOf (z * z) (10 ^ p * 10 ^ p) p r) : r = z := by
  obtain ⟨h1, h2⟩ := h
  have e : (10 : Nat) ^ p * 10 ^ p = 10 ^ (2 * p) := by rw [← Nat.pow_add, Nat.two_mul]
  rw [e] at h1 h2
  have hp : 0 < (10 : Nat) ^ (2 * p) := Nat.pow_pos (by decide)
  have h3 := Nat.le_of_mul_le_mul_right h1 hp
  have h4 := Nat.lt_of_mul_lt_mul_right h2
  exact (IsRoot.uniq (a := z * z) ⟨h3, h4⟩ (IsRoot.sq z))
theorem RootOf.mono {u d v c p r s : Nat} (hd : d ≠ 0) (hc : c ≠ 0) (h : RootOf u d p r) (k : RootOf v c p s) (hle : u * c ≤ v * d) : r ≤ s := by
  obtain ⟨h1, -⟩ := h
  obtain ⟨-, k2⟩ := k
  obtain ⟨E, hE⟩ : ∃ E, E = 10 ^ (2 * p) := ⟨_, rfl⟩
  rw [← hE] at h1 k2
  have hd' : 0 < d := Nat.pos_of_ne_zero hd
  have hc' : 0 < c := Nat.pos_of_ne_zero hc
  have a1 := Nat.mul_le_mul_right c h1
  have a2 := Nat.mul_lt_mul_of_pos_right k2 hd'
  have a3 := Nat.mul_le_mul_right E hle
  have e1 : u * E * c = u * c * E := Nat.mul_right_comm ..
  have e2 : v * E * d = v * d * E := Nat.mul_right_comm ..
  have e3 : (s + 1) * (s + 1) * c * d = (s + 1) * (s + 1) * d * c := Nat.mul_right_comm ..
  rw [e1] at a1
  rw [e2, e3] at a2
  have a4 : r * r * d * c < (s + 1) * (s + 1) * d * c := by omega
  have a5 := Nat.lt_of_mul_lt_mul_right (Nat.lt_of_mul_lt_mul_right a4)
  rcases Nat.lt_or_ge r (s + 1) with hx | hx
  · omega
  · exact absurd (Nat.mul_le_mul hx hx) (by omega)
end Nt
theorem nat_abs (u : Nat) : (u : Int).natAbs = u := Int.natAbs_natCast u
theorem ten_le {p k : Nat} (h : p ≤ k) : 10 ^ p ≤ 10 ^ k := Nat.pow_le_pow_right (by decide) h
theorem lt_B {n k i : Nat} (h : n ≤ 10 ^ k) (hk : k < 9 * i) : n < Nt.B ^ i := by
  have e : Nt.B ^ i = 10 ^ (9 * i) := by rw [Nat.pow_mul] <;> rfl
  rw [e]
  exact Nat.lt_of_le_of_lt h (Nat.pow_lt_pow_right (by decide) hk)
end Go.Proofs.YtmmlcponmdalmaaGreatDoor
