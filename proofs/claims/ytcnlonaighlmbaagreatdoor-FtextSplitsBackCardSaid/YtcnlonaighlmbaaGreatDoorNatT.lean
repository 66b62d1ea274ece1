/- The decimal text of digits in the base 10^9 (plain). -/
import Derived.Test.YtcnlonaighlmbaaGreatDoorNatP
import Derived.Lib.ItoaMem
set_option linter.unusedSimpArgs false
set_option linter.unusedVariables false
namespace Go.Proofs.YtcnlonaighlmbaaGreatDoor
namespace Nt
open Go.Lib

theorem nDigits_le : ∀ (k u : Nat), u < 10 ^ (k + 1) → nDigits u ≤ k + 1
  | 0, u, h => by rw [nDigits_small (by simpa using h)]; exact Nat.le_refl _
  | k + 1, u, h => by
    by_cases h1 : u < 10
    · rw [nDigits_small h1]; omega
    · rw [nDigits_big h1]
      have := nDigits_le k (u / 10) (by rw [Nat.pow_succ] at h; omega)
      omega
theorem dd_pos (d : Nat) : 1 ≤ (decDigits d).length := by rw [decDigits_length]; exact nDigits_pos d
theorem dd_le {k d : Nat} (h : d < 10 ^ (k + 1)) : (decDigits d).length ≤ k + 1 := by rw [decDigits_length]; exact nDigits_le k d h
theorem dd_len {d : Nat} (h : d < B) : (decDigits d).length ≤ 9 := dd_le (k := 8) h

/-- k digits, with zeros ahead. -/
def padk (k d : Nat) : List UInt8 := List.replicate (k - (decDigits d).length) 48 ++ decDigits d
theorem padk_succ (k d : Nat) (hk : 1 ≤ k) : padk (k + 1) d = padk k (d / 10) ++ [UInt8.ofNat (48 + d % 10)] := by
  unfold padk
  by_cases h : d < 10
  · have e : d / 10 = 0 := by omega
    rw [e, decDigits_one h, decDigits_one (by omega : 0 < 10), Nat.mod_eq_of_lt h]
    simp only [List.length_singleton, Nat.add_sub_cancel]
    obtain ⟨j, rfl⟩ : ∃ j, k = j + 1 := ⟨k - 1, by omega⟩
    rw [Nat.add_sub_cancel]
    rw [List.replicate_succ']
    rfl
  · have e : decDigits d = decDigits (d / 10) ++ [UInt8.ofNat (48 + d % 10)] := by rw [decDigits, dif_neg h]
    rw [e, List.length_append, List.length_singleton, ← List.append_assoc]
    congr 3
    omega
theorem dd_split : ∀ (k q d : Nat), 1 ≤ q → d < 10 ^ (k + 1) → decDigits (q * 10 ^ (k + 1) + d) = decDigits q ++ padk (k + 1) d
  | 0, q, d, hq, hd => by
    have hd' : d < 10 := by simpa using hd
    rw [decDigits, dif_neg (by simp; omega)]
    have e1 : (q * 10 ^ (0 + 1) + d) / 10 = q := by simp; omega
    have e2 : (q * 10 ^ (0 + 1) + d) % 10 = d := by simp; omega
    rw [e1, e2]
    unfold padk
    rw [decDigits_one hd']
    simp
  | k + 1, q, d, hq, hd => by
    have hp : 1 ≤ 10 ^ (k + 1) := Nat.one_le_pow _ _ (by decide)
    have hb : 10 ≤ q * 10 ^ (k + 1 + 1) := by
      rw [Nat.pow_succ]
      have := Nat.mul_le_mul hq (Nat.mul_le_mul hp (Nat.le_refl 10))
      simpa using this
    rw [decDigits, dif_neg (by omega)]
    have e0 : q * 10 ^ (k + 1 + 1) = 10 * (q * 10 ^ (k + 1)) := by rw [Nat.pow_succ, Nat.mul_comm 10, Nat.mul_assoc]
    have hd' : d / 10 < 10 ^ (k + 1) := by rw [Nat.pow_succ] at hd; omega
    have e1 : (q * 10 ^ (k + 1 + 1) + d) / 10 = q * 10 ^ (k + 1) + d / 10 := by
      rw [e0]
      generalize q * 10 ^ (k + 1) = y
      clear hd hp hb e0
      omega
    have e2 : (q * 10 ^ (k + 1 + 1) + d) % 10 = d % 10 := by
      rw [e0]
      generalize q * 10 ^ (k + 1) = y
      clear hd hp hb e0 e1
      omega
    rw [e1, e2, dd_split k q (d / 10) hq hd', padk_succ (k + 1) d (by omega), List.append_assoc]

/-- The text of digits, the least ahead. -/
def T : List Nat → List UInt8
  | [] => []
  | [d] => decDigits d
  | d :: e :: t => T (e :: t) ++ padk 9 d
theorem T_law : ∀ (l : List Nat), canon l → l ≠ [] → T l = decDigits (val l)
  | [], _, h => absurd rfl h
  | [d], _, _ => by rw [T]; rfl
  | d :: e :: t, hc, _ => by
    have hc' : canon (e :: t) := ⟨fun x hx => hc.1 x (List.mem_cons_of_mem _ hx), by have := hc.2; rwa [List.getLast?_cons_cons] at this⟩
    have hd : d < 10 ^ (8 + 1) := hc.1 d (List.mem_cons_self)
    have hv : 1 ≤ val (e :: t) := by
      rcases Nat.eq_zero_or_pos (val (e :: t)) with h0 | h0
      · exact absurd (canon_zero hc' h0) (by simp)
      · exact h0
    have e1 : val (d :: e :: t) = val (e :: t) * 10 ^ (8 + 1) + d := by
      rw [val_cons, Nat.add_comm, Nat.mul_comm]
    rw [T, T_law (e :: t) hc' (by simp), e1, dd_split 8 _ d hv hd]

/-- What a round writes, of len digits. -/
def piece (len : Nat) (x : Nat × Nat) : List UInt8 := if x.1 + 1 < len then padk 9 x.2 else decDigits x.2
theorem piece_T : ∀ (l : List Nat), l ≠ [] → (List.range l.length).flatMap (fun j => piece l.length (l.length - 1 - j, l[l.length - 1 - j]?.getD 0)) = T l
  | [], h => absurd rfl h
  | [d], _ => by simp [piece, T]
  | d :: e :: t, _ => by
    have ih := piece_T (e :: t) (by simp)
    have hl : (d :: e :: t).length = (e :: t).length + 1 := rfl
    rw [hl, List.range_succ, List.flatMap_append, T, ← ih]
    congr 1
    · rw [List.flatMap_def, List.flatMap_def]
      congr 1
      refine List.map_congr_left fun j hj => ?_
      have hj' : j < (e :: t).length := List.mem_range.1 hj
      have e1 : (e :: t).length + 1 - 1 - j = ((e :: t).length - 1 - j) + 1 := by omega
      rw [e1, List.getElem?_cons_succ]
      unfold piece
      simp only
      by_cases h : (e :: t).length - 1 - j + 1 < (e :: t).length
      · rw [if_pos h, if_pos (by omega)]
      · rw [if_neg h, if_neg (by omega)]
    · have e1 : (e :: t).length + 1 - 1 - (e :: t).length = 0 := by omega
      simp only [List.flatMap_cons, List.flatMap_nil, List.append_nil, e1]
      unfold piece
      simp
end Nt
end Go.Proofs.YtcnlonaighlmbaaGreatDoor
