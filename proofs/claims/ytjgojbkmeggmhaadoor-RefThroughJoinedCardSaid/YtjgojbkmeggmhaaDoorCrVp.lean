/- What cellref.Parse answers: plain functions. -/
import Derived.Test.YtjgojbkmeggmhaaDoorCrF
import Derived.Test.YtjgojbkmeggmhaaDoorCrR
namespace Go.Proofs.YtjgojbkmeggmhaaDoor
open Go.RowKit

namespace Cr
/-- Digits alone, few of them. -/
def digitsOK (l : List UInt8) : Prop := l.length ≤ 10 ∧ ∀ c ∈ l, dgt c = true
theorem decFrom_some : ∀ (l : List UInt8) (a : Nat), (∀ c ∈ l, dgt c = true) → ∃ n, Lib.decFrom a l = some n ∧ n < (a + 1) * 10 ^ l.length
  | [], a, _ => ⟨a, rfl, by simp⟩
  | c :: t, a, h => by
    have hc := h c (List.mem_cons_self ..)
    have hd : ∃ d, Lib.digitVal c = some d ∧ d ≤ 9 := by
      unfold dgt digitI at hc
      simp only [Bool.and_eq_true, decide_eq_true_eq] at hc
      exact ⟨c.toNat - 48, by rw [Lib.digitVal, if_pos (by omega)], by omega⟩
    obtain ⟨d, hd, hd9⟩ := hd
    obtain ⟨n, hn, hlt⟩ := decFrom_some t (a * 10 + d) (fun x hx => h x (List.mem_cons_of_mem _ hx))
    refine ⟨n, by simp [Lib.decFrom, hd, hn], ?_⟩
    rw [List.length_cons, Nat.pow_succ]
    have : (a * 10 + d + 1) * 10 ^ t.length ≤ ((a + 1) * 10) * 10 ^ t.length := Nat.mul_le_mul_right _ (by omega)
    rw [Nat.mul_assoc, Nat.mul_comm 10] at this
    exact Nat.lt_of_lt_of_le hlt this

theorem atoi_digits {l : List UInt8} (h : digitsOK l) (h0 : l ≠ []) : ∃ n : Nat, Lib.atoi l = some (n : Int) ∧ n < 10000000000 := by
  obtain ⟨hl, hd⟩ := h
  obtain ⟨n, hn, hlt⟩ := decFrom_some l 0 hd
  have hlt2 : n < 10000000000 := by
    have : 10 ^ l.length ≤ 10 ^ 10 := Nat.pow_le_pow_right (by decide) hl
    have e : (10 : Nat) ^ 10 = 10000000000 := by decide
    omega
  cases l with
  | nil => exact absurd rfl h0
  | cons c t =>
    have hc := hd c (List.mem_cons_self ..)
    unfold dgt digitI at hc
    simp only [Bool.and_eq_true, decide_eq_true_eq] at hc
    have h45 : (c == 45) = false := by
      rw [beq_eq_false_iff_ne]; rintro rfl; exact absurd hc.1 (by decide)
    have h43 : (c == 43) = false := by
      rw [beq_eq_false_iff_ne]; rintro rfl; exact absurd hc.1 (by decide)
    refine ⟨n, ?_, hlt2⟩
    simp [Lib.atoi, h45, h43, Lib.decNat, hn]
end Cr

namespace Cr
theorem scanQ_len : ∀ (n : Nat) (l : List UInt8), l.length ≤ n → ∀ p, scanQ l = some p → p.2.length ≤ l.length
  | 0, l, hl, p, h => by
    obtain rfl := List.eq_nil_of_length_eq_zero (Nat.le_zero.1 hl)
    rw [scanQ_nil] at h; cases h
  | n + 1, [], _, p, h => by rw [scanQ_nil] at h; cases h
  | n + 1, c :: t, hl, p, h => by
    rw [scanQ] at h
    split at h
    · split at h
      · obtain ⟨q, hq, rfl⟩ := Option.map_eq_some_iff.1 h
        have := scanQ_len n t.tail (by simp at hl ⊢; omega) q hq
        simp at this ⊢; omega
      · cases h; simp
    · obtain ⟨q, hq, rfl⟩ := Option.map_eq_some_iff.1 h
      have := scanQ_len n t (by simpa using hl) q hq
      simp; omega
theorem scanQ_len1 : ∀ (n : Nat) (l : List UInt8), l.length ≤ n → ∀ p, scanQ l = some p → p.1.length ≤ l.length
  | 0, l, hl, p, h => by
    obtain rfl := List.eq_nil_of_length_eq_zero (Nat.le_zero.1 hl)
    rw [scanQ_nil] at h; cases h
  | n + 1, [], _, p, h => by rw [scanQ_nil] at h; cases h
  | n + 1, c :: t, hl, p, h => by
    rw [scanQ] at h
    split at h
    · split at h
      · rename_i _ h39
        obtain ⟨q, hq, rfl⟩ := Option.map_eq_some_iff.1 h
        have := scanQ_len1 n t.tail (by simp at hl ⊢; omega) q hq
        cases t with
        | nil => simp at h39
        | cons a u => simp at this ⊢; omega
      · cases h; simp
    · obtain ⟨q, hq, rfl⟩ := Option.map_eq_some_iff.1 h
      have := scanQ_len1 n t (by simpa using hl) q hq
      simp; omega
theorem trimPrefix_len (l p : List UInt8) : (Lib.trimPrefix l p).length ≤ l.length := by
  unfold Lib.trimPrefix; split
  · simp
  · exact Nat.le_refl _
theorem cut_len (l x : List UInt8) : (Lib.cut l x).1.length ≤ l.length ∧ (Lib.cut l x).2.1.length ≤ l.length := by
  unfold Lib.cut; split
  · constructor
    · simp; omega
    · simp
  · simp
theorem sheetF_len (l : List UInt8) : (sheetF l).2.1.length ≤ l.length := by
  unfold sheetF
  split
  · split
    · simp
    · rename_i b r h
      have := scanQ_len _ _ (Nat.le_refl _) _ h
      have h2 := trimPrefix_len r [33]
      simp at this ⊢; omega
  · dsimp only
    split
    · exact Nat.le_refl _
    · exact (cut_len l [33]).2
theorem sheetF_len1 (l : List UInt8) : (sheetF l).1.length ≤ l.length := by
  unfold sheetF
  split
  · split
    · simp
    · rename_i b r h
      have := scanQ_len1 _ _ (Nat.le_refl _) _ h
      simp at this ⊢; omega
  · dsimp only
    split
    · simp
    · exact (cut_len l [33]).1
theorem takeWhile_all (p : UInt8 → Bool) : ∀ l : List UInt8, ∀ c ∈ l.takeWhile p, p c = true
  | [], _, h => by simp at h
  | a :: t, c, h => by
    rw [List.takeWhile_cons] at h
    split at h
    · rcases List.mem_cons.1 h with rfl | h
      · assumption
      · exact takeWhile_all p t c h
    · simp at h
theorem placeF_ok {l : List UInt8} (h : (placeF l).2 = true) : digitsOK (placeF l).1.number ∧ (placeF l).1.letters.length ≤ 7 := by
  unfold placeF at h ⊢
  simp only [Bool.and_eq_true, decide_eq_true_eq, good] at h ⊢
  exact ⟨⟨h.2.2.1, takeWhile_all _ _⟩, h.2.1⟩
end Cr

structure Halves where
  title : List UInt8
  ok : Bool
  two : Bool
  a : Cr.Corner
  fine : Bool
  b : Cr.Corner
  good : Bool

def halves (l : List UInt8) : Halves :=
  let s := Cr.sheetF l
  let c := Lib.cut s.2.1 [58]
  let pa := Cr.placeF c.1
  let pb := if c.2.2 then Cr.placeF c.2.1 else (pa.1, true)
  ⟨s.1, s.2.2, c.2.2, pa.1, pa.2, pb.1, pb.2⟩

def Halves.whole (h : Halves) : Bool := decide (h.a.letters ≠ []) && decide (h.a.number ≠ [])
def Halves.bad (h : Halves) : Bool :=
  !h.ok || !h.fine || !h.good || (decide (h.a.letters = []) != decide (h.b.letters = [])) || (decide (h.a.number = []) != decide (h.b.number = [])) || (!h.two && !h.whole)

theorem Halves.bad_false {h : Halves} (hb : h.bad = false) : h.ok = true ∧ h.fine = true ∧ h.good = true ∧ (h.two = true ∨ h.whole = true) := by
  unfold Halves.bad at hb
  simp only [Bool.or_eq_false_iff, Bool.not_eq_false'] at hb
  obtain ⟨⟨⟨⟨⟨h1, h2⟩, h3⟩, _⟩, _⟩, h6⟩ := hb
  refine ⟨h1, h2, h3, ?_⟩
  cases h7 : h.two
  · rw [h7] at h6; right; simpa using h6
  · exact .inl rfl

def Halves.kind (h : Halves) : Int := if h.two = false then 0 else if h.whole = true then 1 else if h.a.number = [] then 3 else 2
def Halves.ref (h : Halves) : Ref :=
  ⟨⟨h.title.toArray⟩, h.kind, (Cr.valuesF h.a).1, (Cr.valuesF h.a).2.1, if h.two then (Cr.valuesF h.b).1 else 0, if h.two then (Cr.valuesF h.b).2.1 else 0, h.a.ar, h.a.ac, h.two && h.b.ar, h.two && h.b.ac⟩

/-- What Parse answers. -/
def parseF (l : List UInt8) : Ref × Int :=
  if 500 < l.length then (Ref.zero, 3)
  else if l = [35, 82, 69, 70, 33] then (Ref.bad, 0)
  else
    let h := halves l
    if h.bad = true then (Ref.zero, 10)
    else if (Cr.valuesF h.a).2.2 ≠ 0 then (Ref.zero, (Cr.valuesF h.a).2.2)
    else if h.two = true ∧ (Cr.valuesF h.b).2.2 ≠ 0 then (Ref.zero, (Cr.valuesF h.b).2.2)
    else if h.ref.ordered.check ≠ 0 then (Ref.zero, h.ref.ordered.check)
    else (h.ref.ordered, 0)

theorem Ref.ordered_sheet (r : Ref) : r.ordered.sheet = r.sheet := by
  unfold Ref.ordered
  repeat' split
  all_goals rfl

end Go.Proofs.YtjgojbkmeggmhaaDoor
