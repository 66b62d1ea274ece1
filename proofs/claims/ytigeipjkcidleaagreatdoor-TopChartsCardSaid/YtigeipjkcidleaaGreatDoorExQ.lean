/- Fractions as texts (plain): what they stand for, when two are the same. -/
import Derived.Test.YtigeipjkcidleaaGreatDoorExC
namespace Go.Proofs.YtigeipjkcidleaaGreatDoor
open Go.RowKit
namespace Nt

theorem zi_mul (m : Bool) (a b : Nat) : zi m (a * b) = zi m a * b := by
  cases m <;> simp [zi, Int.neg_mul]
theorem zi_abs (m : Bool) (n : Nat) : (zi m n).natAbs = n := by
  cases m <;> simp [zi]
theorem zi_zero (m : Bool) : zi m 0 = 0 := by cases m <;> rfl
/-- The texts stand for z / d. -/
structure Q (num den : List UInt8) (z : Int) (d : Nat) : Prop where
  d0 : d ≠ 0
  ex : ∃ m n e, Rd num den m n e ∧ zi m n * d = z * e

theorem mulc {a b c : Int} (hc : c ≠ 0) (h : a * c = b * c) : a = b := Int.eq_of_mul_eq_mul_right hc h
theorem red_eq {n e n' e' : Nat} (h1 : Nat.gcd n e = 1) (h2 : Nat.gcd n' e' = 1) (h : n * e' = n' * e) : n = n' ∧ e = e' := by
  have c1 : Nat.Coprime n e := h1
  have c2 : Nat.Coprime n' e' := h2
  refine ⟨Nat.dvd_antisymm (c1.dvd_of_dvd_mul_right (by rw [← h]; exact Nat.dvd_mul_right _ _)) (c2.dvd_of_dvd_mul_right (by rw [h]; exact Nat.dvd_mul_right _ _)),
    Nat.dvd_antisymm (c1.symm.dvd_of_dvd_mul_left (by rw [h]; exact Nat.dvd_mul_left _ _)) (c2.symm.dvd_of_dvd_mul_left (by rw [← h]; exact Nat.dvd_mul_left _ _))⟩
theorem zi_inj {m m' : Bool} {n : Nat} (h : zi m n = zi m' n) (a : n = 0 → m = false) (b : n = 0 → m' = false) : m = m' := by
  rcases Nat.eq_zero_or_pos n with h0 | h0
  · rw [a h0, b h0]
  · cases m <;> cases m' <;> simp [zi] at h ⊢ <;> omega
theorem Q.same {n1 d1 n2 d2 : List UInt8} {z z' : Int} {d d' : Nat} (h : Q n1 d1 z d) (h' : Q n2 d2 z' d') (e : z * d' = z' * d) : n1 = n2 ∧ d1 = d2 := by
  obtain ⟨m, n, p, r, q⟩ := h.ex
  obtain ⟨m', n', p', r', q'⟩ := h'.ex
  have hd : (d : Int) ≠ 0 := by have := h.d0; omega
  have hd' : (d' : Int) ≠ 0 := by have := h'.d0; omega
  have k : zi m n * p' = zi m' n' * p := by
    refine mulc hd (mulc hd' ?_)
    calc zi m n * p' * d * d' = (zi m n * d) * (p' * d') := by grind
      _ = z * p * (p' * d') := by rw [q]
      _ = (z * d') * (p * p') := by grind
      _ = (z' * d) * (p * p') := by rw [e]
      _ = (z' * p') * (p * d) := by grind
      _ = (zi m' n' * d') * (p * d) := by rw [q']
      _ = zi m' n' * p * d * d' := by grind
  have k2 := congrArg Int.natAbs k
  rw [Int.natAbs_mul, Int.natAbs_mul, zi_abs, zi_abs, Int.natAbs_natCast, Int.natAbs_natCast] at k2
  obtain ⟨rfl, rfl⟩ := red_eq r.g r'.g k2
  have hp : (p : Int) ≠ 0 := by have := r.d0; omega
  obtain rfl := zi_inj (mulc hp k) r.n0 r'.n0
  exact ⟨r.num.trans r'.num.symm, r.den.trans r'.den.symm⟩
theorem Q.cross {n1 d1 : List UInt8} {z z' : Int} {d d' : Nat} (h : Q n1 d1 z d) (h' : Q n1 d1 z' d') : z * d' = z' * d := by
  obtain ⟨m, n, p, r, q⟩ := h.ex
  obtain ⟨m', n', p', r', q'⟩ := h'.ex
  obtain ⟨rfl, rfl, rfl⟩ := r.uniq r'
  have hp : (p : Int) ≠ 0 := by have := r.d0; omega
  refine mulc hp ?_
  calc z * d' * p = (z * p) * d' := by grind
    _ = zi m n * d * d' := by rw [q]
    _ = zi m n * d' * d := by grind
    _ = z' * p * d := by rw [q']
    _ = z' * d * p := by grind
/-- The sign, and zero. -/
theorem Q.zero {n1 d1 : List UInt8} {z : Int} {d : Nat} (h : Q n1 d1 z d) : n1 = [48] ↔ z = 0 := by
  obtain ⟨m, n, p, r, q⟩ := h.ex
  have hp : (p : Int) ≠ 0 := by have := r.d0; omega
  have hd : (d : Int) ≠ 0 := by have := h.d0; omega
  constructor
  · intro e
    have p1 := pre_sgn m n
    rw [← r.num, e] at p1
    have p2 : Lib.decDigits n = [48] := p1.1.symm.trans (by decide)
    rw [dd_zero] at p2
    subst p2
    rw [zi_zero, Int.zero_mul] at q
    rcases Int.mul_eq_zero.1 q.symm with h0 | h0
    · exact h0
    · exact absurd h0 hp
  · rintro rfl
    rw [Int.zero_mul] at q
    rcases Int.mul_eq_zero.1 q with h0 | h0
    · have h1 := congrArg Int.natAbs h0
      rw [zi_abs] at h1
      have h2 : n = 0 := by simpa using h1
      subst h2
      rw [r.num, r.n0 rfl, (dd_zero 0).2 rfl]
      rfl
    · exact absurd h0 hd
theorem Q.neg {n1 d1 : List UInt8} {z : Int} {d : Nat} (h : Q n1 d1 z d) : Lib.hasPrefix n1 [45] = decide (z < 0) := by
  obtain ⟨m, n, p, r, q⟩ := h.ex
  have hp : (0 : Int) < p := by have := r.d0; omega
  have hd : (0 : Int) < d := by have := h.d0; omega
  have p1 := (pre_sgn m n).2
  rw [← r.num] at p1
  rw [p1]
  have hn0 := r.n0
  cases m with
  | false =>
    have h1 : 0 ≤ zi false n * d := Int.mul_nonneg (by simp [zi]) (Int.le_of_lt hd)
    rw [q] at h1
    symm
    rw [decide_eq_false_iff_not, Int.not_lt]
    exact Int.le_of_mul_le_mul_right (by simpa using h1) hp
  | true =>
    have hn : 0 < n := Nat.pos_of_ne_zero fun e => by have := hn0 e; cases this
    have h1 : zi true n * d < 0 := Int.mul_neg_of_neg_of_pos (by simp [zi]; omega) hd
    rw [q] at h1
    symm
    rw [decide_eq_true_eq]
    by_cases hz : z < 0
    · exact hz
    · exact absurd h1 (Int.not_lt.2 (Int.mul_nonneg (Int.not_lt.1 hz) (Int.le_of_lt hp)))
/-- What is written is read. -/
theorem rd_w (m : Bool) (n d : Nat) (hd : d ≠ 0) (f1 : (Lib.decDigits (n / Nat.gcd n d)).length ≤ 300) (f2 : (Lib.decDigits (d / Nat.gcd n d)).length ≤ 300) : Q (numT m n d) (denT n d) (zi m n) d := by
  refine ⟨hd, ?_⟩
  by_cases h0 : n = 0
  · subst h0
    refine ⟨false, 0, 1, ⟨?_, ?_, by decide, fun _ => rfl, by rw [(dd_zero 0).2 rfl]; decide, ?_, by decide⟩, ?_⟩
    · rw [numT, if_pos rfl, (dd_zero 0).2 rfl]; rfl
    · rw [denT, if_pos rfl, Lib.decDigits_one (by decide)]; rfl
    · rw [Lib.decDigits_one (by decide)]; decide
    · rw [zi_zero, zi_zero, Int.zero_mul, Int.zero_mul]
  · have hg : 0 < Nat.gcd n d := Nat.gcd_pos_of_pos_left d (by omega)
    obtain ⟨g, hge⟩ : ∃ g, g = Nat.gcd n d := ⟨_, rfl⟩
    have hn : g ∣ n := hge ▸ Nat.gcd_dvd_left n d
    have hdd : g ∣ d := hge ▸ Nat.gcd_dvd_right n d
    have hcop := Nat.coprime_div_gcd_div_gcd (m := n) (n := d) hg
    rw [numT, denT, if_neg h0, if_neg h0]
    rw [← hge] at f1 f2 hg hcop ⊢
    obtain ⟨a, rfl⟩ := hn
    obtain ⟨b, rfl⟩ := hdd
    rw [Nat.mul_div_cancel_left _ hg] at f1 hcop ⊢
    rw [Nat.mul_div_cancel_left _ hg] at f2 hcop ⊢
    refine ⟨m, a, b, ⟨rfl, rfl, fun e => hd (by rw [e, Nat.mul_zero]), fun e => absurd (by rw [e, Nat.mul_zero]) h0, f1, f2, hcop⟩, ?_⟩
    rw [Nat.mul_comm g a, zi_mul]
    have : ((g * b : Nat) : Int) = g * b := by simp
    rw [this, Int.mul_assoc]
/-- A fraction reduced is no longer than another text of it. -/
theorem red_le {m : Bool} {n p d : Nat} {z : Int} {k : Nat} (hp : p ≠ 0) (hd : d ≠ 0) (h : zi m n * d = z * p) (hz : z.natAbs ≤ 10 ^ k) (hd1 : d ≤ 10 ^ k) (hk : k ≤ 299) :
    (Lib.decDigits (n / Nat.gcd n p)).length ≤ 300 ∧ (Lib.decDigits (p / Nat.gcd n p)).length ≤ 300 := by
  obtain ⟨g, hge⟩ : ∃ g, g = Nat.gcd n p := ⟨_, rfl⟩
  have hg : 0 < Nat.gcd n p := Nat.gcd_pos_of_pos_right n (by omega)
  have hn : g ∣ n := hge ▸ Nat.gcd_dvd_left n p
  have hdd : g ∣ p := hge ▸ Nat.gcd_dvd_right n p
  have hcop := Nat.coprime_div_gcd_div_gcd (m := n) (n := p) hg
  rw [← hge] at hg hcop ⊢
  obtain ⟨a, rfl⟩ := hn
  obtain ⟨b, rfl⟩ := hdd
  rw [Nat.mul_div_cancel_left _ hg, Nat.mul_div_cancel_left _ hg] at hcop
  rw [Nat.mul_div_cancel_left _ hg, Nat.mul_div_cancel_left _ hg]
  have h1 := congrArg Int.natAbs h
  rw [Int.natAbs_mul, Int.natAbs_mul, zi_abs, Int.natAbs_natCast, Int.natAbs_natCast] at h1
  have h2 : a * d = z.natAbs * b := by
    have h3 : g * (a * d) = g * (z.natAbs * b) := by
      calc g * (a * d) = g * a * d := by rw [Nat.mul_assoc]
        _ = z.natAbs * (g * b) := h1
        _ = g * (z.natAbs * b) := by grind
    exact Nat.eq_of_mul_eq_mul_left hg h3
  have hcop' : Nat.Coprime a b := hcop
  have ha : a ∣ z.natAbs := hcop'.dvd_of_dvd_mul_right (by rw [← h2]; exact Nat.dvd_mul_right _ _)
  have hb : b ∣ d := hcop'.symm.dvd_of_dvd_mul_left (by rw [h2]; exact Nat.dvd_mul_left _ _)
  have hk1 : 10 ^ k < 10 ^ (k + 1) := Nat.pow_lt_pow_right (by decide) (by omega)
  have hb1 : b ≤ 10 ^ k := Nat.le_trans (Nat.le_of_dvd (by omega) hb) hd1
  have ha1 : a ≤ 10 ^ k := by
    by_cases h0 : z.natAbs = 0
    · rw [h0, Nat.zero_mul] at h2
      rcases Nat.mul_eq_zero.1 h2 with h3 | h3
      · rw [h3]; exact Nat.zero_le _
      · exact absurd h3 hd
    · exact Nat.le_trans (Nat.le_of_dvd (by omega) ha) hz
  exact ⟨Nat.le_trans (dd_le (Nat.lt_of_le_of_lt ha1 hk1)) (by omega), Nat.le_trans (dd_le (Nat.lt_of_le_of_lt hb1 hk1)) (by omega)⟩
/-- The texts stand for z / d, which is written with at most k digits. -/
structure Qk (num den : List UInt8) (z : Int) (d k : Nat) : Prop where
  q : Q num den z d
  zk : z.natAbs ≤ 10 ^ k
  dk : d ≤ 10 ^ k
theorem Qk.ln {num den : List UInt8} {z : Int} {d k : Nat} (h : Qk num den z d k) : num.length ≤ 301 ∧ den.length ≤ 300 := by
  obtain ⟨m, n, p, r, q⟩ := h.q.ex
  have h1 := r.ln
  have h2 := r.ld
  rw [r.num, r.den]
  refine ⟨?_, h2⟩
  rw [List.length_append]
  cases m <;> simp [sgn] <;> omega
theorem dd_lt (n : Nat) : n < 10 ^ (Lib.decDigits n).length := by
  have := dval_lt (allD_dd n)
  rwa [dval_dd] at this
theorem Rd.qk {num den : List UInt8} {m : Bool} {n d : Nat} (h : Rd num den m n d) (h1 : num.length ≤ 40) (h2 : den.length ≤ 40) : Qk num den (zi m n) d 40 := by
  refine ⟨⟨h.d0, m, n, d, h, rfl⟩, ?_, ?_⟩
  · rw [zi_abs]
    have e := h.num
    have h3 : (Lib.decDigits n).length ≤ 40 := by rw [e, List.length_append] at h1; omega
    exact Nat.le_of_lt (Nat.lt_of_lt_of_le (dd_lt n) (Nat.pow_le_pow_right (by decide) h3))
  · have e := h.den
    rw [e] at h2
    exact Nat.le_of_lt (Nat.lt_of_lt_of_le (dd_lt d) (Nat.pow_le_pow_right (by decide) h2))
theorem abs_add_le {x y : Int} {k : Nat} (hx : x.natAbs ≤ 10 ^ k) (hy : y.natAbs ≤ 10 ^ k) : (x + y).natAbs ≤ 10 ^ (k + 1) := by
  have := Int.natAbs_add_le x y
  rw [Nat.pow_succ]
  omega
theorem abs_mul_le {x : Int} {d k l : Nat} (hx : x.natAbs ≤ 10 ^ k) (hd : d ≤ 10 ^ l) : (x * d).natAbs ≤ 10 ^ (k + l) := by
  rw [Int.natAbs_mul, Int.natAbs_natCast, Nat.pow_add]
  exact Nat.mul_le_mul hx hd
theorem abs_mul_le' {x y : Int} {k l : Nat} (hx : x.natAbs ≤ 10 ^ k) (hd : y.natAbs ≤ 10 ^ l) : (x * y).natAbs ≤ 10 ^ (k + l) := by
  rw [Int.natAbs_mul, Nat.pow_add]
  exact Nat.mul_le_mul hx hd
theorem mul_le_p {x d k l : Nat} (hx : x ≤ 10 ^ k) (hd : d ≤ 10 ^ l) : x * d ≤ 10 ^ (k + l) := by
  rw [Nat.pow_add]
  exact Nat.mul_le_mul hx hd
/-- What is written of m, n, p, which is z / d. -/
theorem w_qk {m : Bool} {n p d k : Nat} {z : Int} (hp : p ≠ 0) (hd : d ≠ 0) (h : zi m n * d = z * p) (hz : z.natAbs ≤ 10 ^ k) (hd1 : d ≤ 10 ^ k) (hk : k ≤ 299) : Qk (numT m n p) (denT n p) z d k := by
  obtain ⟨f1, f2⟩ := red_le hp hd h hz hd1 hk
  have hq := rd_w m n p hp f1 f2
  refine ⟨⟨hd, ?_⟩, hz, hd1⟩
  obtain ⟨m', n', e, r, q⟩ := hq.ex
  refine ⟨m', n', e, r, ?_⟩
  have hp' : (p : Int) ≠ 0 := by omega
  refine mulc hp' ?_
  calc zi m' n' * d * p = (zi m' n' * p) * d := by grind
    _ = zi m n * e * d := by rw [q]
    _ = (zi m n * d) * e := by grind
    _ = z * p * e := by rw [h]
    _ = z * e * p := by grind
end Nt
end Go.Proofs.YtigeipjkcidleaaGreatDoor
