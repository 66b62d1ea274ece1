/- Plain: the calendar: days before a year, lengths of months; a day's number names one date; the date after a date. -/
import Derived.Test.YtcnlonaighlmbaaGreatDoorRows
import Derived.Test.YtcnlonaighlmbaaGreatDoorHaa
import Derived.Test.YtcnlonaighlmbaaGreatDoorHaa
import Derived.WalkKit
import Derived.WalkSpells
import Derived.Outline
import Derived.Lib.Hide
import Derived.Deep.DeepCutAuto
import Derived.Deep.Cut
import Derived.Deep.CutRange
import Derived.LoopTactic
import Derived.IntWalk
set_option linter.unusedSimpArgs false
set_option linter.unusedVariables false
namespace Go.Proofs.YtcnlonaighlmbaaGreatDoor.Cal

/-- Days from 1900 on before a year. -/
def bef (y : Int) : Int := 365 * (y - 1900) + (y - 1) / 4 - (y - 1) / 100 + (y - 1) / 400 - 460
/-- The days of February beyond 28. -/
def lp (y : Int) : Int := if y % 4 = 0 ∧ (y % 100 ≠ 0 ∨ y % 400 = 0) then 1 else 0
/-- The length of a month. -/
def ml (y m : Int) : Int := if m = 2 then 28 + lp y else if m = 4 ∨ m = 6 ∨ m = 9 ∨ m = 11 then 30 else 31
/-- The days of a year before a month. -/
def cum (y m : Int) : Int :=
  if m ≤ 1 then 0 else if m = 2 then 31 else lp y + (if m = 3 then 59 else if m = 4 then 90 else if m = 5 then 120 else if m = 6 then 151 else if m = 7 then 181 else if m = 8 then 212
    else if m = 9 then 243 else if m = 10 then 273 else if m = 11 then 304 else if m = 12 then 334 else 365)
theorem lp_01 (y : Int) : 0 ≤ lp y ∧ lp y ≤ 1 := by unfold lp; split <;> omega
theorem bef_succ (y : Int) : bef (y + 1) = bef y + 365 + lp y := by unfold bef lp; split <;> omega
theorem month_cases {m : Int} (h1 : 1 ≤ m) (h2 : m ≤ 12) : m = 1 ∨ m = 2 ∨ m = 3 ∨ m = 4 ∨ m = 5 ∨ m = 6 ∨ m = 7 ∨ m = 8 ∨ m = 9 ∨ m = 10 ∨ m = 11 ∨ m = 12 := by omega
theorem cum_one (y : Int) : cum y 1 = 0 := by simp [cum]
theorem cum_end (y : Int) : cum y 13 = 365 + lp y := by simp [cum]; omega
theorem cum_succ (y m : Int) (h1 : 1 ≤ m) (h2 : m ≤ 12) : cum y (m + 1) = cum y m + ml y m := by
  rcases month_cases h1 h2 with rfl | rfl | rfl | rfl | rfl | rfl | rfl | rfl | rfl | rfl | rfl | rfl <;> simp [cum, ml] <;> omega
theorem ml_lo (y m : Int) : 28 ≤ ml y m ∧ ml y m ≤ 31 := by
  have := lp_01 y
  unfold ml
  split
  · omega
  · split <;> omega
theorem cum_bd (y m : Int) : 0 ≤ cum y m ∧ cum y m ≤ 366 := by
  have := lp_01 y
  unfold cum
  repeat' split
  all_goals omega
theorem bef_mono {y z : Int} (h : y ≤ z) : bef y ≤ bef z := by unfold bef; omega
/-- A number's date. -/
structure Dec (y m d n : Int) : Prop where
  m1 : 1 ≤ m
  m2 : m ≤ 12
  d1 : 1 ≤ d
  d2 : d ≤ ml y m
  eq : n = bef y + cum y m + d
theorem Dec.range {y m d n : Int} (h : Dec y m d n) : bef y < n ∧ n ≤ bef (y + 1) := by
  have h1 := cum_succ y m h.m1 h.m2
  have h2 := cum_bd y m
  have h3 := bef_succ y
  have h4 : cum y (m + 1) ≤ cum y 13 := by
    rcases month_cases h.m1 h.m2 with e | e | e | e | e | e | e | e | e | e | e | e <;> subst e <;> simp [cum] <;> (have := lp_01 y; omega)
  have h5 := cum_end y
  have := h.d1
  have := h.d2
  have := h.eq
  omega
theorem cum_mono {y m o : Int} (h1 : 1 ≤ m) (h2 : m < o) (h3 : o ≤ 12) : cum y (m + 1) ≤ cum y o := by
  have := lp_01 y
  rcases month_cases h1 (by omega) with e | e | e | e | e | e | e | e | e | e | e | e <;> subst e <;>
    rcases month_cases (show 1 ≤ o by omega) h3 with e | e | e | e | e | e | e | e | e | e | e | e <;> subst e <;> first | (exfalso; omega) | (simp [cum]; try omega)
theorem Dec.unique {y m d z o e n : Int} (h : Dec y m d n) (k : Dec z o e n) : y = z ∧ m = o ∧ d = e := by
  have h1 := h.range
  have k1 := k.range
  have hyz : y = z := by
    rcases Int.lt_trichotomy y z with c | c | c
    · have := bef_mono (show y + 1 ≤ z by omega); omega
    · exact c
    · have := bef_mono (show z + 1 ≤ y by omega); omega
  subst hyz
  have e1 := h.eq
  have e2 := k.eq
  have hmo : m = o := by
    rcases Int.lt_trichotomy m o with c | c | c
    · have := cum_mono (y := y) h.m1 c k.m2
      have := cum_succ y m h.m1 h.m2
      have := h.d2
      have := k.d1
      omega
    · exact c
    · have := cum_mono (y := y) k.m1 c h.m2
      have := cum_succ y o k.m1 k.m2
      have := k.d2
      have := h.d1
      omega
  subst hmo
  exact ⟨rfl, rfl, by omega⟩
/-- The date behind a date. -/
theorem Dec.next {y m d z o e n : Int} (h : Dec y m d n) (k : Dec z o e (n + 1)) :
    (e = 1 ∧ d + 1 = ml y m + 1 ∧ ((o = m + 1 ∧ z = y) ∨ (o = 1 ∧ m = 12 ∧ z = y + 1))) ∨ (e = d + 1 ∧ o = m ∧ z = y ∧ e ≠ 1) := by
  by_cases c : d < ml y m
  · have q : Dec y m (d + 1) (n + 1) := ⟨h.m1, h.m2, by have := h.d1; omega, by omega, by have := h.eq; omega⟩
    obtain ⟨a, b, c'⟩ := q.unique k
    have := h.d1
    exact .inr ⟨by omega, by omega, by omega, by omega⟩
  · have hd : d = ml y m := by have := h.d2; omega
    have hs := cum_succ y m h.m1 h.m2
    have he := h.eq
    by_cases c2 : m = 12
    · subst c2
      have hb := bef_succ y
      have hc := cum_end y
      have q : Dec (y + 1) 1 1 (n + 1) := ⟨by omega, by omega, by omega, by have := ml_lo (y + 1) 1; omega, by rw [cum_one]; rw [show (12 : Int) + 1 = 13 from rfl] at hs; omega⟩
      obtain ⟨a, b, c'⟩ := q.unique k
      exact .inl ⟨by omega, by omega, .inr ⟨by omega, rfl, by omega⟩⟩
    · have q : Dec y (m + 1) 1 (n + 1) := ⟨by have := h.m1; omega, by have := h.m2; omega, by omega, by have := ml_lo y (m + 1); omega, by omega⟩
      obtain ⟨a, b, c'⟩ := q.unique k
      exact .inl ⟨by omega, by omega, .inl ⟨by omega, by omega⟩⟩
end Go.Proofs.YtcnlonaighlmbaaGreatDoor.Cal

namespace Go.Proofs.YtcnlonaighlmbaaGreatDoor
open Go.RowKit







end Go.Proofs.YtcnlonaighlmbaaGreatDoor
