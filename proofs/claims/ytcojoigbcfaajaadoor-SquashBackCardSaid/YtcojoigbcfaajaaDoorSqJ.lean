/- squash: what Unpack answers has the length that the string states (plain). -/
import Derived.Test.YtcojoigbcfaajaaDoorSqI
namespace Go.Proofs.YtcojoigbcfaajaaDoor
open Go.RowKit

namespace Sq
theorem unpG_len (L : Nat → Nat) (s : ByteArray) (n : Nat) : ∀ k (o : List Nat) p, o.length ≤ n → n ≤ o.length + k → (unpG L s n k o p).1 = 0 → (unpG L s n k o p).2.1.length = n
  | 0, o, p, h1, h2, _ => by
    show o.length = n
    omega
  | k + 1, o, p, h1, h2, h3 => by
    rw [unpG] at h3 ⊢
    by_cases hl : o.length < n
    · rw [if_pos hl] at h3 ⊢
      by_cases he : (symF L s p).1 = 0
      · rw [if_pos he] at h3 ⊢
        by_cases hy : (symF L s p).2.1 < 256
        · rw [if_pos hy] at h3 ⊢
          exact unpG_len L s n k _ _ (by simp; omega) (by simp; omega) h3
        · rw [if_neg hy] at h3 ⊢
          have hy2 : (symF L s p).2.1 < 272 := symG_lt L s 15 1 0 p
          have hy3 := (spn_facts _ (by omega) hy2).2.1
          by_cases c1 : (symF L s p).2.2 + (spn (symF L s p).2.1).2 + 15 ≤ 8 * s.size
          · rw [if_pos c1] at h3 ⊢
            by_cases c2 : numN s ((symF L s p).2.2 + (spn (symF L s p).2.1).2) 15 + 1 ≤ o.length
            · rw [if_pos c2] at h3 ⊢
              by_cases c3 : spB (symF L s p).2.1 + numN s (symF L s p).2.2 (spn (symF L s p).2.1).2 ≤ n - o.length
              · rw [if_pos c3] at h3 ⊢
                exact unpG_len L s n k _ _ (by rw [cpy_len]; omega) (by rw [cpy_len]; omega) h3
              · rw [if_neg c3] at h3
                exact absurd (show (3 : Nat) = 0 from h3) (by decide)
            · rw [if_neg c2] at h3
              exact absurd (show (2 : Nat) = 0 from h3) (by decide)
          · rw [if_neg c1] at h3
            exact absurd (show (11 : Nat) = 0 from h3) (by decide)
      · rw [if_neg he] at h3
        exact absurd h3 he
    · rw [if_neg hl]
      show o.length = n
      omega
theorem unpF_len (L : Nat → Nat) (s : ByteArray) (n p : Nat) (h : (unpF L s n p).1 = 0) : (unpF L s n p).2.length = n := by
  unfold unpF at h ⊢
  by_cases h1 : (unpG L s n n [] p).1 = 0
  · rw [if_pos h1] at h ⊢
    by_cases h2 : (padG s 8 (unpG L s n n [] p).2.2).1 = 0
    · rw [if_pos h2] at h ⊢
      by_cases h3 : (padG s 8 (unpG L s n n [] p).2.2).2 < 8 * s.size
      · rw [if_pos h3] at h
        exact absurd (show (4 : Nat) = 0 from h) (by decide)
      · rw [if_neg h3]
        exact unpG_len L s n n [] p (by simp) (by simp) h1
    · rw [if_neg h2] at h
      exact absurd (show (4 : Nat) = 0 from h) (by decide)
  · rw [if_neg h1] at h
    exact absurd h h1
/-- Where there is an error there is no byte. -/
theorem unpF_err (L : Nat → Nat) (s : ByteArray) (n p : Nat) (h : (unpF L s n p).1 ≠ 0) : (unpF L s n p).2 = [] := by
  unfold unpF at h ⊢
  by_cases h1 : (unpG L s n n [] p).1 = 0
  · rw [if_pos h1] at h ⊢
    by_cases h2 : (padG s 8 (unpG L s n n [] p).2.2).1 = 0
    · rw [if_pos h2] at h ⊢
      by_cases h3 : (padG s 8 (unpG L s n n [] p).2.2).2 < 8 * s.size
      · rw [if_pos h3]
      · rw [if_neg h3] at h
        exact absurd rfl h
    · rw [if_neg h2]
  · rw [if_neg h1]
theorem toB_size (l : List Nat) : (toB l).size = l.length := by
  show ((l.map UInt8.ofNat).toArray).size = l.length
  simp
/-- What Unpack gives has the length that the string states. -/
theorem unpkT_len (n m : Nat) (t : ByteArray) (h : (unpkT n m t).1 = 0) : (unpkT n m t).2.size = n := by
  unfold unpkT at h ⊢
  by_cases h1 : 1 < m
  · rw [if_pos h1] at h
    exact absurd (show (8 : Nat) = 0 from h) (by decide)
  · rw [if_neg h1] at h ⊢
    by_cases h2 : m = 0
    · rw [if_pos h2] at h ⊢
      by_cases h3 : t.size < n
      · rw [if_pos h3] at h
        exact absurd (show (11 : Nat) = 0 from h) (by decide)
      · rw [if_neg h3] at h ⊢
        by_cases h4 : n < t.size
        · rw [if_pos h4] at h
          exact absurd (show (4 : Nat) = 0 from h) (by decide)
        · rw [if_neg h4]
          show t.size = n
          omega
    · rw [if_neg h2] at h ⊢
      by_cases h3 : t.size < 136
      · rw [if_pos h3] at h
        exact absurd (show (11 : Nat) = 0 from h) (by decide)
      · rw [if_neg h3] at h ⊢
        by_cases h4 : smT (lenF t) 16 ≤ 32768
        · rw [if_pos h4] at h ⊢
          show (toB _).size = n
          rw [toB_size]
          exact unpF_len _ _ _ _ h
        · rw [if_neg h4] at h
          exact absurd (show (4 : Nat) = 0 from h) (by decide)
theorem unpkF_len (s : ByteArray) (h : (unpkF s).1 = 0) : (unpkF s).2.size = headN s := by
  unfold unpkF at h ⊢
  by_cases h5 : s.size < 5
  · rw [if_pos h5] at h
    exact absurd (show (11 : Nat) = 0 from h) (by decide)
  · rw [if_neg h5] at h ⊢
    exact unpkT_len _ _ _ h
end Sq
end Go.Proofs.YtcojoigbcfaajaaDoor
