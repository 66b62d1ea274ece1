/- What fscan answers (plain functions), and that each token alone is that token. -/
import Derived.Test.YtjgojbkmeggmhaaDoorCrVp
namespace Go.Proofs.YtjgojbkmeggmhaaDoor
open Go.RowKit
namespace Fs
open Cr

def corner (c : UInt8) : Bool := ltr c || dgt c || c == 36
def wordly (c : UInt8) : Bool := corner c || c == 95 || c == 46
def blank (c : UInt8) : Bool := c == 32 || c == 9
def run (p : UInt8 → Bool) (l : List UInt8) : Nat := (l.takeWhile p).length
def isRef (l : List UInt8) : Bool := decide ((parseF l).2 = 0)
def stop (l : List UInt8) (n : Nat) : Nat := n + 1 + run corner (l.drop (n + 1))
def area (l : List UInt8) (n : Nat) : Nat :=
  if l[n]? = some 58 ∧ isRef (l.take (stop l n)) = true then stop l n
  else if isRef (l.take n) = true then n else 0
def sheeted (l : List UInt8) (n : Nat) : Nat := if l[n]? = some 33 then area l (stop l n) else 0
def bump (j n : Nat) : Nat := if n = 0 then 0 else n + j
def quo (m : UInt8) : List UInt8 → Nat
  | [] => 0
  | [c] => if c = m then 1 else 0
  | c :: d :: t => if c = m then (if d = m then bump 2 (quo m t) else 1) else bump 1 (quo m (d :: t))
def quoted (l : List UInt8) (m : UInt8) : Nat := bump 1 (quo m (l.drop 1))
def deep (d : Int) (c : UInt8) : Int := if c = 91 then d + 1 else if c = 93 then d - 1 else d
def br : Int → List UInt8 → Nat
  | _, [] => 0
  | d, c :: t => if deep d c = 0 then 1 else bump 1 (br (deep d c) t)
def isE (o : Option UInt8) : Bool := match o with | some c => (c ||| 32) == 101 | none => false
def isS (o : Option UInt8) : Bool := match o with | some c => c == 43 || c == 45 | none => false
def num1 (l : List UInt8) : Nat :=
  if l[run dgt l]? = some 46 ∧ 0 < run dgt (l.drop (run dgt l + 1)) then run dgt l + 1 + run dgt (l.drop (run dgt l + 1)) else run dgt l
def expo (l : List UInt8) (n : Nat) : Nat := if isS (l[n + 1]?) = true then n + 2 else n + 1
def num2 (l : List UInt8) (n : Nat) : Nat :=
  if isE (l[n]?) = true ∧ 0 < run dgt (l.drop (expo l n)) then expo l n + run dgt (l.drop (expo l n)) else n
def number (l : List UInt8) : Nat := num2 l (num1 l)
def free (l : List UInt8) : Bool := !l.contains 36
def word (l : List UInt8) : Int × Nat :=
  if l[run wordly l]? = some 33 ∧ plain (l.take (run wordly l)) = true then (4, sheeted l (run wordly l))
  else if l[run wordly l]? = some 40 ∧ free (l.take (run wordly l)) = true then (6, run wordly l)
  else if l[run wordly l]? = some 91 ∧ free (l.take (run wordly l)) = true then (7, bump (run wordly l) (br 0 (l.drop (run wordly l))))
  else if 0 < area l (run wordly l) then (4, area l (run wordly l))
  else if free (l.take (run wordly l)) = true then (5, run wordly l) else (5, 0)
def rows (l : List UInt8) : Nat := if l[run dgt l]? = some 58 ∧ isRef (l.take (stop l (run dgt l))) = true then stop l (run dgt l) else 0
def faults : List (List UInt8) := [[35, 68, 73, 86, 47, 48, 33], [35, 86, 65, 76, 85, 69, 33], [35, 78, 65, 77, 69, 63], [35, 78, 85, 77, 33], [35, 78, 47, 65], [35, 83, 80, 73, 76, 76, 33], [35, 67, 89, 67, 76, 69, 33]]
def fault (l : List UInt8) : List (List UInt8) → Nat
  | [] => 0
  | f :: t => if Lib.hasPrefix l f = true then f.length else fault l t
def two (l : List UInt8) : Bool := Lib.hasPrefix l [60, 61] || Lib.hasPrefix l [62, 61] || Lib.hasPrefix l [60, 62]
def ops : List UInt8 := [43, 45, 42, 47, 94, 38, 61, 60, 62, 37, 40, 41, 44, 59, 123, 125]
def ops1 (c : UInt8) : Bool := ops.contains c
def next1 (c : UInt8) (l : List UInt8) : Int × Nat :=
  if blank c = true then (0, run blank l)
  else if c = 34 then (2, quoted l 34)
  else if c = 35 then (if Lib.hasPrefix l [35, 82, 69, 70, 33] = true then (4, 5) else if fault l faults = 0 then (8, 1) else (3, fault l faults))
  else if c = 39 then (if quoted l 39 = 0 then (4, 0) else (4, sheeted l (quoted l 39)))
  else if dgt c = true then (if rows l = 0 then (1, number l) else (4, rows l))
  else if ltr c = true ∨ c = 95 ∨ c = 36 then word l
  else if two l = true then (8, 2)
  else if ops1 c = true then (8, 1)
  else (8, 0)
def next (l : List UInt8) : Int × Nat := next1 (l.headD 0) l

/-! A token alone. -/
theorem run_take (p : UInt8 → Bool) : ∀ (l : List UInt8) (k : Nat), run p (l.take k) = min k (run p l)
  | [], k => by simp [run]
  | c :: t, 0 => by simp [run]
  | c :: t, k + 1 => by
    have ih := run_take p t k
    unfold run at ih ⊢
    rw [List.take_succ_cons, List.takeWhile_cons, List.takeWhile_cons]
    split
    · simp [ih]
    · simp
theorem run_le (p : UInt8 → Bool) (l : List UInt8) : run p l ≤ l.length := (List.takeWhile_sublist p).length_le
theorem run_drop_take (p : UInt8 → Bool) (l : List UInt8) (k n : Nat) (h : n + run p (l.drop n) ≤ k) : run p ((l.take k).drop n) = run p (l.drop n) := by
  rw [List.drop_take, run_take]
  omega
theorem at_take {l : List UInt8} {n k : Nat} (h : n < k) : (l.take k)[n]? = l[n]? := by rw [List.getElem?_take, if_pos h]
theorem at_take_none {l : List UInt8} {n k : Nat} (h : k ≤ n) : (l.take k)[n]? = none := by rw [List.getElem?_take, if_neg (by omega)]
theorem lt_of_some {l : List UInt8} {n : Nat} {c : UInt8} (h : l[n]? = some c) : n < l.length := by
  rcases Nat.lt_or_ge n l.length with h1 | h1
  · exact h1
  · rw [List.getElem?_eq_none h1] at h; cases h
theorem take_take' (l : List UInt8) {n k : Nat} (h : n ≤ k) : (l.take k).take n = l.take n := by rw [List.take_take, Nat.min_eq_left h]
theorem stop_take (l : List UInt8) (n k : Nat) (h : stop l n ≤ k) : stop (l.take k) n = stop l n := by
  unfold stop at h ⊢
  rw [run_drop_take _ _ _ _ h]
theorem stop_le {l : List UInt8} {n : Nat} (h : n < l.length) : stop l n ≤ l.length := by
  have := run_le corner (l.drop (n + 1))
  rw [List.length_drop] at this
  unfold stop
  omega
theorem area_alone {l : List UInt8} {n : Nat} (h : 0 < area l n) (hn : n ≤ l.length) : n ≤ area l n ∧ area l n ≤ l.length ∧ area (l.take (area l n)) n = area l n := by
  by_cases h1 : l[n]? = some 58 ∧ isRef (l.take (stop l n)) = true
  · have e : area l n = stop l n := by rw [area, if_pos h1]
    have hlt := lt_of_some h1.1
    have hs : n < stop l n := by unfold stop; omega
    rw [e]
    refine ⟨Nat.le_of_lt hs, stop_le hlt, ?_⟩
    have e2 := stop_take l n _ (Nat.le_refl _)
    rw [area, e2, if_pos ⟨by rw [at_take hs]; exact h1.1, by rw [take_take' _ (Nat.le_refl _)]; exact h1.2⟩]
  · by_cases h2 : isRef (l.take n) = true
    · have e : area l n = n := by rw [area, if_neg h1, if_pos h2]
      rw [e]
      refine ⟨Nat.le_refl _, hn, ?_⟩
      rw [area, if_neg (by rw [at_take_none (Nat.le_refl _)]; rintro ⟨h, _⟩; cases h), take_take' _ (Nat.le_refl _), if_pos h2]
    · rw [area, if_neg h1, if_neg h2] at h
      omega
theorem sheeted_alone {l : List UInt8} {n : Nat} (h : 0 < sheeted l n) : n < sheeted l n ∧ sheeted l n ≤ l.length ∧ sheeted (l.take (sheeted l n)) n = sheeted l n := by
  by_cases h1 : l[n]? = some 33
  · have e : sheeted l n = area l (stop l n) := by rw [sheeted, if_pos h1]
    rw [e] at h ⊢
    have hlt := lt_of_some h1
    obtain ⟨a1, a2, a3⟩ := area_alone h (stop_le hlt)
    have hs : n < stop l n := by unfold stop; omega
    refine ⟨by omega, a2, ?_⟩
    rw [sheeted, if_pos (by rw [at_take (by omega)]; exact h1), stop_take _ _ _ a1, a3]
  · rw [sheeted, if_neg h1] at h
    omega
theorem bump_pos {j n : Nat} (h : 0 < bump j n) : 0 < n ∧ bump j n = n + j := by
  unfold bump at h ⊢
  split at h
  · omega
  · rename_i hn; exact ⟨by omega, by rw [if_neg hn]⟩
theorem bump_of {j n : Nat} (h : 0 < n) : bump j n = n + j := by rw [bump, if_neg (by omega)]
theorem quo_alone (m : UInt8) : ∀ (k : Nat) (l : List UInt8), l.length ≤ k → 0 < quo m l → quo m l ≤ l.length ∧ quo m (l.take (quo m l)) = quo m l
  | _, [], _, h => by simp [quo] at h
  | _, [c], _, h => by
    by_cases hc : c = m
    · simp [quo, hc]
    · simp [quo, hc] at h
  | 0, c :: d :: t, hk, h => by simp at hk
  | k + 1, c :: d :: t, hk, h => by
    simp only [List.length_cons] at hk
    by_cases hc : c = m
    · by_cases hd : d = m
      · have e : quo m (c :: d :: t) = bump 2 (quo m t) := by rw [quo, if_pos hc, if_pos hd]
        rw [e] at h ⊢
        obtain ⟨h1, h2⟩ := bump_pos h
        obtain ⟨a1, a2⟩ := quo_alone m k t (by omega) h1
        rw [h2]
        refine ⟨by simp; omega, ?_⟩
        rw [List.take_succ_cons, List.take_succ_cons, quo, if_pos hc, if_pos hd, a2, bump_of h1]
      · have e : quo m (c :: d :: t) = 1 := by rw [quo, if_pos hc, if_neg hd]
        rw [e]
        exact ⟨by simp, by simp [quo, hc]⟩
    · have e : quo m (c :: d :: t) = bump 1 (quo m (d :: t)) := by rw [quo, if_neg hc]
      rw [e] at h ⊢
      obtain ⟨h1, h2⟩ := bump_pos h
      obtain ⟨a1, a2⟩ := quo_alone m k (d :: t) (by simp; omega) h1
      rw [h2]
      simp only [List.length_cons] at a1 ⊢
      refine ⟨by omega, ?_⟩
      obtain ⟨j, hj⟩ : ∃ j, quo m (d :: t) = j + 1 := ⟨quo m (d :: t) - 1, by omega⟩
      rw [hj] at a2 h1 ⊢
      rw [List.take_succ_cons, List.take_succ_cons, quo, if_neg hc]
      rw [List.take_succ_cons] at a2
      rw [a2, bump_of h1]
theorem quoted_alone {l : List UInt8} {m : UInt8} (h : 0 < quoted l m) : 1 < quoted l m ∧ quoted l m ≤ l.length ∧ ∀ k, quoted l m ≤ k → quoted (l.take k) m = quoted l m := by
  unfold quoted at h ⊢
  cases l with
  | nil => simp [quo, bump] at h
  | cons c t =>
    rw [List.drop_succ_cons, List.drop_zero] at h ⊢
    obtain ⟨h1, h2⟩ := bump_pos h
    rw [h2]
    obtain ⟨a1, a2⟩ := quo_alone m _ t (Nat.le_refl _) h1
    refine ⟨by omega, by simp; omega, fun k hk => ?_⟩
    obtain ⟨j, rfl⟩ : ∃ j, k = j + 1 := ⟨k - 1, by omega⟩
    rw [List.take_succ_cons, List.drop_succ_cons, List.drop_zero]
    have : quo m (t.take j) = quo m t := quo_long m _ t (Nat.le_refl _) h1 j (by omega)
    rw [this, bump_of h1]
where
  quo_long (m : UInt8) : ∀ (k : Nat) (l : List UInt8), l.length ≤ k → 0 < quo m l → ∀ j, quo m l ≤ j → quo m (l.take j) = quo m l
    | _, [], _, h, _, _ => by simp [quo] at h
    | _, [c], _, h, j, hj => by
      by_cases hc : c = m
      · have e : quo m [c] = 1 := by simp [quo, hc]
        rw [e] at hj
        rw [List.take_of_length_le (by simp; omega)]
      · simp [quo, hc] at h
    | 0, c :: d :: t, hk, h, _, _ => by simp at hk
    | k + 1, c :: d :: t, hk, h, j, hj => by
      simp only [List.length_cons] at hk
      by_cases hc : c = m
      · by_cases hd : d = m
        · have e : quo m (c :: d :: t) = bump 2 (quo m t) := by rw [quo, if_pos hc, if_pos hd]
          rw [e] at h hj ⊢
          obtain ⟨h1, h2⟩ := bump_pos h
          rw [h2] at hj ⊢
          obtain ⟨i, rfl⟩ : ∃ i, j = i + 2 := ⟨j - 2, by omega⟩
          have := quo_long m k t (by omega) h1 i (by omega)
          rw [List.take_succ_cons, List.take_succ_cons, quo, if_pos hc, if_pos hd, this, bump_of h1]
        · have e : quo m (c :: d :: t) = 1 := by rw [quo, if_pos hc, if_neg hd]
          rw [e] at hj ⊢
          obtain ⟨i, rfl⟩ : ∃ i, j = i + 1 := ⟨j - 1, by omega⟩
          cases i with
          | zero => simp [quo, hc]
          | succ i => rw [List.take_succ_cons, List.take_succ_cons, quo, if_pos hc, if_neg hd]
      · have e : quo m (c :: d :: t) = bump 1 (quo m (d :: t)) := by rw [quo, if_neg hc]
        rw [e] at h hj ⊢
        obtain ⟨h1, h2⟩ := bump_pos h
        rw [h2] at hj ⊢
        obtain ⟨i, rfl⟩ : ∃ i, j = i + 2 := ⟨j - 2, by omega⟩
        have := quo_long m k (d :: t) (by simp; omega) h1 (i + 1) (by omega)
        rw [List.take_succ_cons] at this
        rw [List.take_succ_cons, List.take_succ_cons, quo, if_neg hc, this, bump_of h1]
theorem br_alone : ∀ (d : Int) (l : List UInt8), 0 < br d l → br d l ≤ l.length ∧ br d (l.take (br d l)) = br d l
  | d, [], h => by simp [br] at h
  | d, c :: t, h => by
    by_cases hd : deep d c = 0
    · have e : br d (c :: t) = 1 := by rw [br, if_pos hd]
      rw [e]
      exact ⟨by simp, by simp [br, hd]⟩
    · have e : br d (c :: t) = bump 1 (br (deep d c) t) := by rw [br, if_neg hd]
      rw [e] at h ⊢
      obtain ⟨h1, h2⟩ := bump_pos h
      obtain ⟨a1, a2⟩ := br_alone (deep d c) t h1
      rw [h2]
      refine ⟨by simp; omega, ?_⟩
      rw [List.take_succ_cons, br, if_neg hd, a2, bump_of h1]
theorem num1_ge (l : List UInt8) : run dgt l ≤ num1 l ∧ num1 l ≤ l.length := by
  have h0 := run_le dgt l
  unfold num1
  split
  · rename_i h
    have h1 := run_le dgt (l.drop (run dgt l + 1))
    have h2 := lt_of_some h.1
    rw [List.length_drop] at h1
    omega
  · omega
theorem expo_le (l : List UInt8) (n : Nat) : n + 1 ≤ expo l n := by
  unfold expo; split <;> omega
theorem num2_ge (l : List UInt8) (n : Nat) (hn : n ≤ l.length) : n ≤ num2 l n ∧ num2 l n ≤ l.length := by
  unfold num2
  split
  · rename_i h
    have h1 := run_le dgt (l.drop (expo l n))
    have h2 := h.2
    have h3 := expo_le l n
    rw [List.length_drop] at h1
    omega
  · omega
theorem num1_take (l : List UInt8) (k : Nat) (hk : num1 l ≤ k) : num1 (l.take k) = num1 l := by
  have h0 := (num1_ge l).1
  have e0 : run dgt (l.take k) = run dgt l := by rw [run_take]; omega
  by_cases h : l[run dgt l]? = some 46 ∧ 0 < run dgt (l.drop (run dgt l + 1))
  · have e : num1 l = run dgt l + 1 + run dgt (l.drop (run dgt l + 1)) := by rw [num1, if_pos h]
    rw [e] at hk ⊢
    have e1 := run_drop_take dgt l k (run dgt l + 1) hk
    rw [num1, e0, e1, if_pos ⟨by rw [at_take (by omega)]; exact h.1, h.2⟩]
  · have e : num1 l = run dgt l := by rw [num1, if_neg h]
    rw [e]
    rw [num1, e0, if_neg]
    rintro ⟨h1, h2⟩
    by_cases hlt : run dgt l < k
    · rw [at_take hlt] at h1
      rw [List.drop_take, run_take] at h2
      exact h ⟨h1, by omega⟩
    · rw [at_take_none (by omega)] at h1; cases h1
theorem number_alone (l : List UInt8) : run dgt l ≤ number l ∧ number l ≤ l.length ∧ number (l.take (number l)) = number l := by
  have h1 := num1_ge l
  have h2 := num2_ge l (num1 l) h1.2
  refine ⟨Nat.le_trans h1.1 h2.1, h2.2, ?_⟩
  unfold number
  rw [num1_take l _ h2.1]
  by_cases h : isE (l[num1 l]?) = true ∧ 0 < run dgt (l.drop (expo l (num1 l)))
  · have e : num2 l (num1 l) = expo l (num1 l) + run dgt (l.drop (expo l (num1 l))) := by rw [num2, if_pos h]
    have h3 := expo_le l (num1 l)
    have hp := h.2
    rw [e]
    have e1 : isE ((l.take (expo l (num1 l) + run dgt (l.drop (expo l (num1 l)))))[num1 l]?) = true := by rw [at_take (by omega)]; exact h.1
    have e2 : expo (l.take (expo l (num1 l) + run dgt (l.drop (expo l (num1 l))))) (num1 l) = expo l (num1 l) := by
      by_cases hs : isS (l[num1 l + 1]?) = true
      · have e3 : expo l (num1 l) = num1 l + 2 := by rw [expo, if_pos hs]
        rw [e3]
        rw [expo, if_pos (by rw [at_take (by omega)]; exact hs)]
      · have e3 : expo l (num1 l) = num1 l + 1 := by rw [expo, if_neg hs]
        rw [e3]
        rw [expo, if_neg]
        rw [at_take (by rw [e3] at hp; omega)]
        exact hs
    rw [num2, e2, run_drop_take _ _ _ _ (Nat.le_refl _), if_pos ⟨e1, hp⟩]
  · have e : num2 l (num1 l) = num1 l := by rw [num2, if_neg h]
    rw [e]
    rw [num2, if_neg]
    rintro ⟨h3, _⟩
    rw [at_take_none (Nat.le_refl _)] at h3
    cases h3
theorem rows_alone {l : List UInt8} (h : 0 < rows l) : rows l ≤ l.length ∧ rows (l.take (rows l)) = rows l := by
  by_cases h1 : l[run dgt l]? = some 58 ∧ isRef (l.take (stop l (run dgt l))) = true
  · have e : rows l = stop l (run dgt l) := by rw [rows, if_pos h1]
    rw [e]
    have hlt := lt_of_some h1.1
    have hs : run dgt l < stop l (run dgt l) := by unfold stop; omega
    refine ⟨stop_le hlt, ?_⟩
    have e0 : run dgt (l.take (stop l (run dgt l))) = run dgt l := by rw [run_take]; omega
    rw [rows, e0, stop_take _ _ _ (Nat.le_refl _), if_pos ⟨by rw [at_take hs]; exact h1.1, by rw [take_take' _ (Nat.le_refl _)]; exact h1.2⟩]
  · rw [rows, if_neg h1] at h
    omega
theorem rows_number {l : List UInt8} (_h : rows l = 0) : rows (l.take (number l)) = 0 := by
  have h1 := number_alone l
  have e0 : run dgt (l.take (number l)) = run dgt l := by rw [run_take]; omega
  rw [rows, e0, if_neg]
  rintro ⟨h2, h3⟩
  by_cases hlt : run dgt l < number l
  · rw [at_take hlt] at h2
    have e1 : num1 l = run dgt l := by
      rw [num1, if_neg]
      rintro ⟨h4, _⟩
      rw [h2] at h4
      exact absurd h4 (by decide)
    have e2 : number l = run dgt l := by
      unfold number
      rw [e1, num2, if_neg]
      rintro ⟨h4, _⟩
      rw [h2] at h4
      exact absurd h4 (by decide)
    omega
  · rw [at_take_none (by omega)] at h2
    cases h2
/-- That a token stays, alone. -/
def Stays (f : List UInt8 → Int × Nat) (l : List UInt8) : Prop := 0 < (f l).2 → (f l).2 ≤ l.length ∧ ∃ k, f (l.take (f l).2) = (k, (f l).2) ∧ ((f l).1 ≠ 6 → (f l).1 ≠ 8 → k = (f l).1)
theorem Stays.of {f : List UInt8 → Int × Nat} {l : List UInt8} {k : Int} {n : Nat} (e : f l = (k, n)) (h : 0 < n → n ≤ l.length ∧ ∃ k', f (l.take n) = (k', n) ∧ (k ≠ 6 → k ≠ 8 → k' = k)) : Stays f l := by
  unfold Stays
  rw [e]
  exact h
theorem area_zero {l : List UInt8} {n : Nat} (hn : 0 < n) (h : ¬ 0 < area l n) : isRef (l.take n) = false := by
  cases h2 : isRef (l.take n) with
  | false => rfl
  | true =>
    exfalso
    apply h
    rw [area]
    split
    · unfold stop; omega
    · exact hn
theorem area_end (l : List UInt8) (n : Nat) : area (l.take n) n = if isRef (l.take n) = true then n else 0 := by
  rw [area, if_neg (by rw [at_take_none (Nat.le_refl _)]; rintro ⟨h, _⟩; cases h), take_take' _ (Nat.le_refl _)]
theorem word_stays (l : List UInt8) : Stays word l := by
  obtain ⟨n, hn⟩ : ∃ n, n = run wordly l := ⟨_, rfl⟩
  have hle : n ≤ l.length := hn ▸ run_le wordly l
  have er : ∀ k, n ≤ k → run wordly (l.take k) = n := fun k hk => by rw [run_take]; omega
  have et : ∀ k, n ≤ k → (l.take k).take n = l.take n := fun k hk => take_take' l hk
  have nn : (l.take n)[n]? = none := at_take_none (Nat.le_refl _)
  by_cases h1 : l[n]? = some 33 ∧ plain (l.take n) = true
  · refine Stays.of (k := 4) (n := sheeted l n) (by rw [word, ← hn, if_pos h1]) fun h => ?_
    obtain ⟨a1, a2, a3⟩ := sheeted_alone h
    refine ⟨a2, 4, ?_, fun _ _ => rfl⟩
    rw [word, er _ (by omega), et _ (by omega), at_take a1, if_pos h1, a3]
  by_cases h2 : l[n]? = some 40 ∧ free (l.take n) = true
  · refine Stays.of (k := 6) (n := n) (by rw [word, ← hn, if_neg h1, if_pos h2]) fun h => ?_
    refine ⟨hle, ?_⟩
    have e : word (l.take n) = if 0 < area (l.take n) n then (4, area (l.take n) n) else if free (l.take n) = true then (5, n) else (5, 0) := by
      rw [word, er _ (Nat.le_refl _), et _ (Nat.le_refl _), nn, if_neg (by simp), if_neg (by simp), if_neg (by simp)]
    rw [e, area_end, h2.2]
    by_cases hr : isRef (l.take n) = true
    · rw [if_pos hr, if_pos h]
      exact ⟨4, rfl, fun h => absurd rfl h⟩
    · rw [if_neg hr, if_neg (by omega), if_pos rfl]
      exact ⟨5, rfl, fun h => absurd rfl h⟩
  by_cases h3 : l[n]? = some 91 ∧ free (l.take n) = true
  · refine Stays.of (k := 7) (n := bump n (br 0 (l.drop n))) (by rw [word, ← hn, if_neg h1, if_neg h2, if_pos h3]) fun h => ?_
    obtain ⟨b1, b2⟩ := bump_pos h
    obtain ⟨a1, a2⟩ := br_alone 0 (l.drop n) b1
    rw [b2]
    have a1' := a1
    rw [List.length_drop] at a1
    have hlt := lt_of_some h3.1
    refine ⟨by omega, 7, ?_, fun _ _ => rfl⟩
    have e : (l.take (br 0 (l.drop n) + n)).drop n = (l.drop n).take (br 0 (l.drop n)) := by
      rw [List.drop_take]
      congr 1
      omega
    rw [word, er _ (by omega), et _ (by omega), at_take (by omega), if_neg h1, if_neg h2, if_pos h3, e, a2, b2]
  by_cases h4 : 0 < area l n
  · refine Stays.of (k := 4) (n := area l n) (by rw [word, ← hn, if_neg h1, if_neg h2, if_neg h3, if_pos h4]) fun h => ?_
    obtain ⟨a1, a2, a3⟩ := area_alone h hle
    refine ⟨a2, 4, ?_, fun _ _ => rfl⟩
    rw [word, er _ a1, et _ a1, a3]
    by_cases hlt : n < area l n
    · rw [at_take hlt, if_neg h1, if_neg h2, if_neg h3, if_pos h4]
    · rw [at_take_none (by omega), if_neg (by simp), if_neg (by simp), if_neg (by simp), if_pos h4]
  by_cases h5 : free (l.take n) = true
  · refine Stays.of (k := 5) (n := n) (by rw [word, ← hn, if_neg h1, if_neg h2, if_neg h3, if_neg h4, if_pos h5]) fun h => ?_
    refine ⟨hle, 5, ?_, fun _ _ => rfl⟩
    rw [word, er _ (Nat.le_refl _), et _ (Nat.le_refl _), nn, if_neg (by simp), if_neg (by simp), if_neg (by simp), area_end, area_zero h h4, if_neg (by decide : ¬ (false = true)), if_neg (by decide : ¬ (0 < 0)), if_pos h5]
  · exact Stays.of (k := 5) (n := 0) (by rw [word, ← hn, if_neg h1, if_neg h2, if_neg h3, if_neg h4, if_neg h5]) fun h => absurd h (by omega)
theorem prefix_take {l f : List UInt8} (h : Lib.hasPrefix l f = true) : l.take f.length = f ∧ f.length ≤ l.length := by
  obtain ⟨t, rfl⟩ := List.isPrefixOf_iff_prefix.1 h
  simp
theorem fault_stays (l : List UInt8) (h : 0 < fault l faults) : fault l faults ≤ l.length ∧ next1 35 (l.take (fault l faults)) = (3, fault l faults) := by
  unfold faults at h ⊢
  simp only [fault] at h ⊢
  repeat' (split at h)
  all_goals first
    | (rename_i hp; (repeat rw [if_neg (by assumption)]); first | rw [if_pos hp] | skip
       obtain ⟨e1, e2⟩ := prefix_take hp
       refine ⟨e2, ?_⟩
       rw [e1]
       decide)
    | omega
theorem next_stays (l : List UInt8) (hl : l ≠ []) : Stays next l := by
  obtain ⟨c, t, rfl⟩ : ∃ c t, l = c :: t := by
    cases l with
    | nil => exact absurd rfl hl
    | cons c t => exact ⟨c, t, rfl⟩
  have hd : ∀ n, 0 < n → next ((c :: t).take n) = next1 c ((c :: t).take n) := fun n hn => by
    obtain ⟨k, rfl⟩ : ∃ k, n = k + 1 := ⟨n - 1, by omega⟩
    rfl
  have e : next (c :: t) = next1 c (c :: t) := rfl
  have back : Stays (next1 c) (c :: t) → Stays next (c :: t) := fun h hp => by
    rw [e] at hp ⊢
    obtain ⟨h1, k, h2, h3⟩ := h hp
    exact ⟨h1, k, by rw [hd _ hp, h2], h3⟩
  refine back ?_
  clear back hd e
  obtain ⟨l, hl0⟩ : ∃ l, l = c :: t := ⟨_, rfl⟩
  rw [← hl0]
  have hlen : 1 ≤ l.length := by rw [hl0]; simp
  by_cases h0 : blank c = true
  · refine Stays.of (k := 0) (n := run blank l) (by rw [next1, if_pos h0]) fun _ => ⟨run_le _ _, 0, ?_, fun _ _ => rfl⟩
    rw [next1, if_pos h0, run_take, Nat.min_self]
  by_cases h1 : c = 34
  · refine Stays.of (k := 2) (n := quoted l 34) (by rw [next1, if_neg h0, if_pos h1]) fun h => ?_
    obtain ⟨_, a2, a3⟩ := quoted_alone h
    refine ⟨a2, 2, ?_, fun _ _ => rfl⟩
    rw [next1, if_neg h0, if_pos h1, a3 _ (Nat.le_refl _)]
  by_cases h2 : c = 35
  · by_cases hr : Lib.hasPrefix l [35, 82, 69, 70, 33] = true
    · refine Stays.of (k := 4) (n := 5) (by rw [next1, if_neg h0, if_neg h1, if_pos h2, if_pos hr]) fun h => ?_
      obtain ⟨e1, e2⟩ := prefix_take hr
      refine ⟨e2, 4, ?_, fun _ _ => rfl⟩
      have e3 : l.take 5 = [35, 82, 69, 70, 33] := e1
      rw [e3, h2]
      decide
    · by_cases hf : fault l faults = 0
      · refine Stays.of (k := 8) (n := 1) (by rw [next1, if_neg h0, if_neg h1, if_pos h2, if_neg hr, if_pos hf]) fun h => ?_
        refine ⟨hlen, 8, ?_, fun _ h => absurd rfl h⟩
        rw [hl0, h2]
        rfl
      · refine Stays.of (k := 3) (n := fault l faults) (by rw [next1, if_neg h0, if_neg h1, if_pos h2, if_neg hr, if_neg hf]) fun h => ?_
        obtain ⟨a1, a2⟩ := fault_stays l h
        refine ⟨a1, 3, ?_, fun _ _ => rfl⟩
        rw [h2, a2]
  by_cases h3 : c = 39
  · by_cases hq : quoted l 39 = 0
    · exact Stays.of (k := 4) (n := 0) (by rw [next1, if_neg h0, if_neg h1, if_neg h2, if_pos h3, if_pos hq]) fun h => absurd h (by omega)
    · refine Stays.of (k := 4) (n := sheeted l (quoted l 39)) (by rw [next1, if_neg h0, if_neg h1, if_neg h2, if_pos h3, if_neg hq]) fun h => ?_
      obtain ⟨a1, a2, a3⟩ := sheeted_alone h
      obtain ⟨_, _, b3⟩ := quoted_alone (l := l) (m := 39) (by omega)
      refine ⟨a2, 4, ?_, fun _ _ => rfl⟩
      rw [next1, if_neg h0, if_neg h1, if_neg h2, if_pos h3, b3 _ (by omega), if_neg hq, a3]
  by_cases h4 : dgt c = true
  · by_cases hr : rows l = 0
    · refine Stays.of (k := 1) (n := number l) (by rw [next1, if_neg h0, if_neg h1, if_neg h2, if_neg h3, if_pos h4, if_pos hr]) fun h => ?_
      obtain ⟨_, a2, a3⟩ := number_alone l
      refine ⟨a2, 1, ?_, fun _ _ => rfl⟩
      rw [next1, if_neg h0, if_neg h1, if_neg h2, if_neg h3, if_pos h4, if_pos (rows_number hr), a3]
    · refine Stays.of (k := 4) (n := rows l) (by rw [next1, if_neg h0, if_neg h1, if_neg h2, if_neg h3, if_pos h4, if_neg hr]) fun h => ?_
      obtain ⟨a2, a3⟩ := rows_alone h
      refine ⟨a2, 4, ?_, fun _ _ => rfl⟩
      rw [next1, if_neg h0, if_neg h1, if_neg h2, if_neg h3, if_pos h4, a3, if_neg hr]
  by_cases h5 : ltr c = true ∨ c = 95 ∨ c = 36
  · have e : ∀ m, next1 c m = word m := fun m => by rw [next1, if_neg h0, if_neg h1, if_neg h2, if_neg h3, if_neg h4, if_pos h5]
    intro hp
    rw [e] at hp ⊢
    obtain ⟨a1, k, a2, a3⟩ := word_stays l hp
    exact ⟨a1, k, by rw [e, a2], a3⟩
  by_cases h6 : two l = true
  · refine Stays.of (k := 8) (n := 2) (by rw [next1, if_neg h0, if_neg h1, if_neg h2, if_neg h3, if_neg h4, if_neg h5, if_pos h6]) fun h => ?_
    have h7 := h6
    unfold two at h6
    rcases Bool.or_eq_true_iff.1 h6 with h6 | h6
    · rcases Bool.or_eq_true_iff.1 h6 with h6 | h6
      · obtain ⟨e1, e2⟩ := prefix_take h6
        refine ⟨e2, 8, ?_, fun _ h => absurd rfl h⟩
        have e3 : l.take 2 = [60, 61] := e1
        rw [next1, if_neg h0, if_neg h1, if_neg h2, if_neg h3, if_neg h4, if_neg h5, e3, if_pos (by decide)]
      · obtain ⟨e1, e2⟩ := prefix_take h6
        refine ⟨e2, 8, ?_, fun _ h => absurd rfl h⟩
        have e3 : l.take 2 = [62, 61] := e1
        rw [next1, if_neg h0, if_neg h1, if_neg h2, if_neg h3, if_neg h4, if_neg h5, e3, if_pos (by decide)]
    · obtain ⟨e1, e2⟩ := prefix_take h6
      refine ⟨e2, 8, ?_, fun _ h => absurd rfl h⟩
      have e3 : l.take 2 = [60, 62] := e1
      rw [next1, if_neg h0, if_neg h1, if_neg h2, if_neg h3, if_neg h4, if_neg h5, e3, if_pos (by decide)]
  by_cases h7 : ops1 c = true
  · refine Stays.of (k := 8) (n := 1) (by rw [next1, if_neg h0, if_neg h1, if_neg h2, if_neg h3, if_neg h4, if_neg h5, if_neg h6, if_pos h7]) fun h => ?_
    refine ⟨hlen, 8, ?_, fun _ h => absurd rfl h⟩
    have e3 : l.take 1 = [c] := by rw [hl0]; rfl
    have e4 : two [c] = false := by simp [two, Lib.hasPrefix, List.isPrefixOf]
    rw [next1, if_neg h0, if_neg h1, if_neg h2, if_neg h3, if_neg h4, if_neg h5, e3, e4, if_neg (by decide), if_pos h7]
  · exact Stays.of (k := 8) (n := 0) (by rw [next1, if_neg h0, if_neg h1, if_neg h2, if_neg h3, if_neg h4, if_neg h5, if_neg h6, if_neg h7]) fun h => absurd h (by omega)

/-- The tokens of a text, and where it ends badly. -/
def scanF : Nat → List UInt8 → Nat → List (Int × List UInt8) × Option Nat
  | 0, _, i => ([], some i)
  | f + 1, l, i => if l = [] then ([], none) else if (next l).2 = 0 then ([], some i) else
    (((next l).1, l.take (next l).2) :: (scanF f (l.drop (next l).2) (i + (next l).2)).1, (scanF f (l.drop (next l).2) (i + (next l).2)).2)
structure Tok (t : Int × List UInt8) : Prop where
  ne : t.2 ≠ []
  alone : ∃ k, next t.2 = (k, t.2.length) ∧ (t.1 ≠ 6 → t.1 ≠ 8 → k = t.1)
theorem scan_covers : ∀ (f : Nat) (l : List UInt8) (i : Nat), l.length < f → (scanF f l i).2 = none → ((scanF f l i).1.flatMap (·.2)) = l ∧ ∀ t ∈ (scanF f l i).1, Tok t
  | 0, l, i, hf, _ => by omega
  | f + 1, l, i, hf, h => by
    rw [scanF] at h ⊢
    split at h
    · rename_i h0
      rw [if_pos h0]
      exact ⟨by rw [h0]; rfl, by simp⟩
    · rename_i h0
      rw [if_neg h0]
      split at h
      · cases h
      · rename_i h1
        rw [if_neg h1]
        obtain ⟨a1, k, a2, a3⟩ := next_stays l h0 (by omega)
        obtain ⟨b1, b2⟩ := scan_covers f (l.drop (next l).2) (i + (next l).2) (by rw [List.length_drop]; omega) h
        refine ⟨by rw [List.flatMap_cons, b1]; exact List.take_append_drop _ _, ?_⟩
        intro t ht
        rcases List.mem_cons.1 ht with rfl | ht
        · have el : (l.take (next l).2).length = (next l).2 := by rw [List.length_take]; omega
          exact ⟨fun e => by have e' : l.take (next l).2 = [] := e; rw [e'] at el; simp at el; omega, k, by rw [show ((next l).1, l.take (next l).2).2 = l.take (next l).2 from rfl, el]; exact a2, a3⟩
        · exact b2 t ht
theorem scan_one {t : List UInt8} {k : Int} (h0 : t ≠ []) (h : next t = (k, t.length)) (f i : Nat) : scanF (f + 2) t i = ([(k, t)], none) := by
  have hl : 0 < t.length := by
    cases t with
    | nil => exact absurd rfl h0
    | cons => simp
  rw [scanF, if_neg h0, h, if_neg (by simp only; omega)]
  simp only [List.drop_length, List.take_length]
  rw [scanF, if_pos rfl]
end Fs
end Go.Proofs.YtjgojbkmeggmhaaDoor
