/- Plain: codes of lengths, as squash.codes and squash.newDecoder make them. -/
import Derived.Test.YtcojoigbcfaajaaDoorSqC
namespace Go.Proofs.YtcojoigbcfaajaaDoor
namespace Sq

/-- The symbols before s with a length. -/
def sy (L : Nat → Nat) (n s : Nat) : List Nat := (List.range s).filter fun x => L x == n
theorem sy_step (L : Nat → Nat) (n s : Nat) : sy L n (s + 1) = if L s = n then sy L n s ++ [s] else sy L n s := by
  unfold sy
  rw [List.range_succ, List.filter_append]
  by_cases h : L s = n
  · rw [if_pos h]; simp [h]
  · rw [if_neg h]; simp [h]
theorem sy_le (L : Nat → Nat) (n s : Nat) : (sy L n s).length ≤ s := by
  have := List.length_filter_le (fun x => L x == n) (List.range s)
  rwa [List.length_range] at this
/-- How many symbols have a length (0 is no length). -/
def ct (L : Nat → Nat) (n : Nat) : Nat := if n = 0 then 0 else (sy L n 272).length
theorem ct_le (L : Nat → Nat) (n : Nat) : ct L n ≤ 272 := by
  unfold ct
  split
  · omega
  · exact sy_le L n 272
/-- The first code of a length. -/
def fst (L : Nat → Nat) : Nat → Nat
  | 0 => 0
  | n + 1 => 2 * (fst L n + ct L n)
theorem fst_le (L : Nat → Nat) : ∀ n, fst L (n + 1) + 544 ≤ 272 * 2 ^ (n + 1)
  | 0 => by simp [fst, ct]
  | n + 1 => by
    have h1 := fst_le L n
    have h2 := ct_le L (n + 1)
    rw [fst, Nat.pow_succ]
    omega
theorem fst_bd (L : Nat → Nat) {n : Nat} (h : n ≤ 16) : fst L n ≤ 17825792 := by
  cases n with
  | zero => exact Nat.zero_le _
  | succ n =>
    have h1 := fst_le L n
    have h2 : 2 ^ (n + 1) ≤ 2 ^ 16 := Nat.pow_le_pow_right (by decide) h
    have h3 : (2 : Nat) ^ 16 = 65536 := by decide
    omega
/-- The symbols of the lengths below n, in the order of their codes. -/
def lsU (L : Nat → Nat) : Nat → List Nat
  | 0 => []
  | n + 1 => lsU L n ++ if n = 0 then [] else sy L n 272
theorem lsU_len (L : Nat → Nat) (n : Nat) : (lsU L (n + 1)).length = (lsU L n).length + ct L n := by
  rw [lsU, List.length_append]
  unfold ct
  split <;> simp
theorem lsU_le (L : Nat → Nat) : ∀ n, (lsU L n).length ≤ 272 * n
  | 0 => by simp [lsU]
  | n + 1 => by
    have h1 := lsU_le L n
    have h2 := ct_le L n
    rw [lsU_len]
    omega
/-- The code of a symbol, as far as the lengths below n are done, and those of the length n before s. -/
def cdT (L : Nat → Nat) (n s : Nat) (x : Nat) : Nat := if 1 ≤ L x ∧ (L x < n ∨ L x = n ∧ x < s) then fst L (L x) + (sy L (L x) x).length else 0
def cd (L : Nat → Nat) (x : Nat) : Nat := if 1 ≤ L x ∧ L x ≤ 15 then fst L (L x) + (sy L (L x) x).length else 0
theorem cdT_step (L : Nat → Nat) {n s : Nat} (h : L s = n) (h1 : 1 ≤ n) (x : Nat) : cdT L n (s + 1) x = if x = s then fst L n + (sy L n s).length else cdT L n s x := by
  unfold cdT
  by_cases hx : x = s
  · subst hx
    rw [if_pos rfl, if_pos ⟨by omega, .inr ⟨h, by omega⟩⟩, h]
  · rw [if_neg hx]
    by_cases hc : 1 ≤ L x ∧ (L x < n ∨ L x = n ∧ x < s)
    · rw [if_pos hc, if_pos ⟨hc.1, by omega⟩]
    · rw [if_neg hc, if_neg (fun h2 => hc ⟨h2.1, by omega⟩)]
theorem cdT_keep (L : Nat → Nat) {n s : Nat} (h : L s ≠ n) (x : Nat) : cdT L n (s + 1) x = cdT L n s x := by
  unfold cdT
  by_cases hc : 1 ≤ L x ∧ (L x < n ∨ L x = n ∧ x < s)
  · rw [if_pos hc, if_pos ⟨hc.1, by omega⟩]
  · rw [if_neg hc, if_neg (fun h2 => hc ⟨h2.1, by
      rcases h2.2 with h3 | ⟨h3, h4⟩
      · exact .inl h3
      · refine .inr ⟨h3, ?_⟩
        rcases Nat.lt_or_ge x s with h5 | h5
        · exact h5
        · obtain rfl : x = s := by omega
          exact absurd h3 h⟩)]
theorem cdT_next (L : Nat → Nat) (n x : Nat) (hx : x < 272) : cdT L n 272 x = cdT L (n + 1) 0 x := by
  unfold cdT
  by_cases hc : 1 ≤ L x ∧ (L x < n ∨ L x = n ∧ x < 272)
  · rw [if_pos hc, if_pos ⟨hc.1, by omega⟩]
  · rw [if_neg hc, if_neg (fun h2 => hc ⟨h2.1, by omega⟩)]
theorem cdT_one (L : Nat → Nat) (x : Nat) : cdT L 1 0 x = 0 := if_neg (by omega)
theorem cdT_end (L : Nat → Nat) (x : Nat) : cdT L 16 0 x = cd L x := by
  unfold cdT cd
  by_cases hc : 1 ≤ L x ∧ L x ≤ 15
  · rw [if_pos hc, if_pos ⟨hc.1, by omega⟩]
  · rw [if_neg hc, if_neg (fun h2 => hc ⟨h2.1, by omega⟩)]
/-- What the lengths weigh, so far. -/
def smT (L : Nat → Nat) : Nat → Nat
  | 0 => 0
  | n + 1 => smT L n + ct L n * 2 ^ (15 - n)
theorem smT_le (L : Nat → Nat) : ∀ n, smT L n ≤ 8912896 * n
  | 0 => by simp [smT]
  | n + 1 => by
    have h1 := smT_le L n
    have h2 := ct_le L n
    have h3 : 2 ^ (15 - n) ≤ 2 ^ 15 := Nat.pow_le_pow_right (by decide) (by omega)
    have h4 : ct L n * 2 ^ (15 - n) ≤ 272 * 2 ^ 15 := Nat.mul_le_mul h2 h3
    rw [smT]
    have h5 : (272 : Nat) * 2 ^ 15 = 8912896 := by decide
    omega
end Sq
end Go.Proofs.YtcojoigbcfaajaaDoor
