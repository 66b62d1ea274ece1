/- The contract of exact's root. -/
import Derived.Test.YtmmlcponmdalmaaGreatDoorExK
import Derived.Test.YtmmlcponmdalmaaGreatDoorExH
namespace Go.Proofs.YtmmlcponmdalmaaGreatDoor
open Go.RowKit
namespace Nt
/-- r is the square root of a, rounded down. -/
def IsRoot (a r : Nat) : Prop := r * r ≤ a ∧ a < (r + 1) * (r + 1)
theorem IsRoot.uniq {a r s : Nat} (h : IsRoot a r) (k : IsRoot a s) : r = s := by
  have h1 : r < s + 1 := by
    rcases Nat.lt_or_ge r (s + 1) with h1 | h1
    · exact h1
    · exact absurd (Nat.mul_le_mul h1 h1) (by have := h.1; have := k.2; omega)
  have h2 : s < r + 1 := by
    rcases Nat.lt_or_ge s (r + 1) with h1 | h1
    · exact h1
    · exact absurd (Nat.mul_le_mul h1 h1) (by have := k.1; have := h.2; omega)
  omega
theorem IsRoot.mono {a b r s : Nat} (h : IsRoot a r) (k : IsRoot b s) (hab : a ≤ b) : r ≤ s := by
  rcases Nat.lt_or_ge r (s + 1) with h1 | h1
  · omega
  · exact absurd (Nat.mul_le_mul h1 h1) (by have := h.1; have := k.2; omega)
theorem IsRoot.sq (r : Nat) : IsRoot (r * r) r := ⟨Nat.le_refl _, by have := Nat.mul_add (r + 1) r 1; have := Nat.add_mul r 1 r; omega⟩
theorem four_mul (x y : Nat) : 4 * (x * y) ≤ (x + y) * (x + y) := by
  have h : ((x : Int) - y) * (x - y) ≥ 0 := by
    rcases Int.le_total (x : Int) y with h | h
    · have := Int.mul_nonneg_of_nonpos_of_nonpos (a := (x : Int) - y) (b := (x : Int) - y) (by omega) (by omega)
      exact this
    · exact Int.mul_nonneg (by omega) (by omega)
  have e : ((x : Int) - y) * (x - y) = (x + y) * (x + y) - 4 * (x * y) := by grind
  rw [e] at h
  have : (4 * (x * y) : Int) ≤ (x + y) * (x + y) := by omega
  exact_mod_cast this
theorem newton_up {a x : Nat} (hx : 0 < x) : a < ((x + a / x) / 2 + 1) * ((x + a / x) / 2 + 1) := by
  obtain ⟨q, hq⟩ : ∃ q, q = a / x := ⟨_, rfl⟩
  rw [← hq]
  have h1 : a < x * (q + 1) := by rw [hq]; exact Nat.lt_mul_div_succ a hx
  obtain ⟨y, hy⟩ : ∃ y, y = (x + q) / 2 := ⟨_, rfl⟩
  rw [← hy]
  have h2 : x + (q + 1) ≤ 2 * (y + 1) := by omega
  have h3 := four_mul x (q + 1)
  have h4 := Nat.mul_le_mul h2 h2
  have e : 2 * (y + 1) * (2 * (y + 1)) = 4 * ((y + 1) * (y + 1)) := by grind
  rw [e] at h4
  omega
theorem newton_end {a x : Nat} (_hx : 0 < x) (h : x ≤ (x + a / x) / 2) : x * x ≤ a := by
  have h1 : x ≤ a / x := by omega
  have h2 := Nat.mul_le_mul_left x h1
  have h3 := Nat.mul_div_le a x
  omega
theorem start_up {a n : Nat} (h : a < 10 ^ n) : a < (10 ^ ((n + 1) / 2 + 1) + 1) * (10 ^ ((n + 1) / 2 + 1) + 1) := by
  have h1 : (10 : Nat) ^ n ≤ 10 ^ ((n + 1) / 2 + 1) * 10 ^ ((n + 1) / 2 + 1) := by
    rw [← Nat.pow_add]
    exact Nat.pow_le_pow_right (by decide) (by omega)
  obtain ⟨x, hx⟩ : ∃ x, x = 10 ^ ((n + 1) / 2 + 1) := ⟨_, rfl⟩
  rw [← hx] at h1 ⊢
  have := Nat.mul_le_mul (Nat.le_add_right x 1) (Nat.le_add_right x 1)
  omega
end Nt
theorem digs_one_le {d : Nat} (h : d < Nt.B) : (Nt.digs d).length ≤ 1 := Nt.digs_len (by rwa [Nat.pow_one])
theorem digs_add_le {a b k l : Nat} (ha : (Nt.digs a).length ≤ k) (hb : (Nt.digs b).length ≤ k) (hl : k + 1 ≤ l) : (Nt.digs (a + b)).length ≤ l := by
  have e1 := Nt.val_lt (Nt.digs_canon a).1
  have e2 := Nt.val_lt (Nt.digs_canon b).1
  rw [Nt.val_digs] at e1 e2
  have e3 := Nat.lt_of_lt_of_le e1 (Nat.pow_le_pow_right (show 0 < Nt.B by decide) ha)
  have e4 := Nat.lt_of_lt_of_le e2 (Nat.pow_le_pow_right (show 0 < Nt.B by decide) hb)
  exact Nat.le_trans (digs_pow (add_pow e3 e4)) hl
theorem digs_ten' {p k : Nat} (hp : p < 9 * k) : (Nt.digs (10 ^ p)).length ≤ k := by
  refine Nt.digs_len ?_
  have h : (10 : Nat) ^ p < 10 ^ (9 * k) := Nat.pow_lt_pow_right (by decide) hp
  rwa [Nat.pow_mul] at h

end Go.Proofs.YtmmlcponmdalmaaGreatDoor
