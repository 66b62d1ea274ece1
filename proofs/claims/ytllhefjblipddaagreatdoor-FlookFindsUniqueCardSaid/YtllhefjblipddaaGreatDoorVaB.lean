/- Plain: the calendar: days before a year, lengths of months; a day's number names one date; the date after a date. -/
import Derived.Test.YtllhefjblipddaaGreatDoorRows
import Derived.Test.YtllhefjblipddaaGreatDoorGaa
import Derived.Test.YtllhefjblipddaaGreatDoorGaa
import Derived.WalkKit
import Derived.WalkSpells
import Derived.Outline
import Derived.Lib.Hide
import Derived.Deep.DeepCutAuto
import Derived.Deep.Cut
import Derived.Deep.CutRange
import Derived.LoopTactic
import Derived.IntWalk
set_option linter.unusedSimpArgs false
set_option linter.unusedVariables false
namespace Go.Proofs.YtllhefjblipddaaGreatDoor.Cal

/-- Days from 1900 on before a year. -/
def bef (y : Int) : Int := 365 * (y - 1900) + (y - 1) / 4 - (y - 1) / 100 + (y - 1) / 400 - 460
/-- The days of February beyond 28. -/
def lp (y : Int) : Int := if y % 4 = 0 ∧ (y % 100 ≠ 0 ∨ y % 400 = 0) then 1 else 0
/-- The length of a month. -/
def ml (y m : Int) : Int := if m = 2 then 28 + lp y else if m = 4 ∨ m = 6 ∨ m = 9 ∨ m = 11 then 30 else 31
/-- The days of a year before a month. -/
def cum (y m : Int) : Int :=
  if m ≤ 1 then 0 else if m = 2 then 31 else lp y + (if m = 3 then 59 else if m = 4 then 90 else if m = 5 then 120 else if m = 6 then 151 else if m = 7 then 181 else if m = 8 then 212
    else if m = 9 then 243 else if m = 10 then 273 else if m = 11 then 304 else if m = 12 then 334 else 365)
theorem lp_01 (y : Int) : 0 ≤ lp y ∧ lp y ≤ 1 := by unfold lp; split <;> omega
theorem bef_succ (y : Int) : bef (y + 1) = bef y + 365 + lp y := by unfold bef lp; split <;> omega
theorem month_cases {m : Int} (h1 : 1 ≤ m) (h2 : m ≤ 12) : m = 1 ∨ m = 2 ∨ m = 3 ∨ m = 4 ∨ m = 5 ∨ m = 6 ∨ m = 7 ∨ m = 8 ∨ m = 9 ∨ m = 10 ∨ m = 11 ∨ m = 12 := by omega
theorem cum_one (y : Int) : cum y 1 = 0 := by simp [cum]
theorem cum_end (y : Int) : cum y 13 = 365 + lp y := by simp [cum]; omega
theorem cum_succ (y m : Int) (h1 : 1 ≤ m) (h2 : m ≤ 12) : cum y (m + 1) = cum y m + ml y m := by
  rcases month_cases h1 h2 with rfl | rfl | rfl | rfl | rfl | rfl | rfl | rfl | rfl | rfl | rfl | rfl <;> simp [cum, ml] <;> omega
theorem ml_lo (y m : Int) : 28 ≤ ml y m ∧ ml y m ≤ 31 := by
  have := lp_01 y
  unfold ml
  split
  · omega
  · split <;> omega
theorem cum_bd (y m : Int) : 0 ≤ cum y m ∧ cum y m ≤ 366 := by
  have := lp_01 y
  unfold cum
  repeat' split
  all_goals omega
theorem bef_mono {y z : Int} (h : y ≤ z) : bef y ≤ bef z := by unfold bef; omega
theorem bef_lo {y : Int} (h : 1900 ≤ y) : 0 ≤ bef y := by unfold bef; omega
theorem bef_end : bef 10000 = 2958464 := by decide
theorem bef_guess {n : Int} (h1 : 1 ≤ n) (h2 : n ≤ 2958464) : bef (1900 + n / 366) < n ∧ 1900 ≤ 1900 + n / 366 ∧ 1900 + n / 366 ≤ 9999 := by
  unfold bef; omega
/-- A number's date. -/
structure Dec (y m d n : Int) : Prop where
  m1 : 1 ≤ m
  m2 : m ≤ 12
  d1 : 1 ≤ d
  d2 : d ≤ ml y m
  eq : n = bef y + cum y m + d
theorem Dec.range {y m d n : Int} (h : Dec y m d n) : bef y < n ∧ n ≤ bef (y + 1) := by
  have h1 := cum_succ y m h.m1 h.m2
  have h2 := cum_bd y m
  have h3 := bef_succ y
  have h4 : cum y (m + 1) ≤ cum y 13 := by
    rcases month_cases h.m1 h.m2 with e | e | e | e | e | e | e | e | e | e | e | e <;> subst e <;> simp [cum] <;> (have := lp_01 y; omega)
  have h5 := cum_end y
  have := h.d1
  have := h.d2
  have := h.eq
  omega
theorem cum_mono {y m o : Int} (h1 : 1 ≤ m) (h2 : m < o) (h3 : o ≤ 12) : cum y (m + 1) ≤ cum y o := by
  have := lp_01 y
  rcases month_cases h1 (by omega) with e | e | e | e | e | e | e | e | e | e | e | e <;> subst e <;>
    rcases month_cases (show 1 ≤ o by omega) h3 with e | e | e | e | e | e | e | e | e | e | e | e <;> subst e <;> first | (exfalso; omega) | (simp [cum]; try omega)
theorem Dec.unique {y m d z o e n : Int} (h : Dec y m d n) (k : Dec z o e n) : y = z ∧ m = o ∧ d = e := by
  have h1 := h.range
  have k1 := k.range
  have hyz : y = z := by
    rcases Int.lt_trichotomy y z with c | c | c
    · have := bef_mono (show y + 1 ≤ z by omega); omega
    · exact c
    · have := bef_mono (show z + 1 ≤ y by omega); omega
  subst hyz
  have e1 := h.eq
  have e2 := k.eq
  have hmo : m = o := by
    rcases Int.lt_trichotomy m o with c | c | c
    · have := cum_mono (y := y) h.m1 c k.m2
      have := cum_succ y m h.m1 h.m2
      have := h.d2
      have := k.d1
      omega
    · exact c
    · have := cum_mono (y := y) k.m1 c h.m2
      have := cum_succ y o k.m1 k.m2
      have := k.d2
      have := h.d1
      omega
  subst hmo
  exact ⟨rfl, rfl, by omega⟩
/-- The date behind a date. -/
theorem Dec.next {y m d z o e n : Int} (h : Dec y m d n) (k : Dec z o e (n + 1)) :
    (e = 1 ∧ d + 1 = ml y m + 1 ∧ ((o = m + 1 ∧ z = y) ∨ (o = 1 ∧ m = 12 ∧ z = y + 1))) ∨ (e = d + 1 ∧ o = m ∧ z = y ∧ e ≠ 1) := by
  by_cases c : d < ml y m
  · have q : Dec y m (d + 1) (n + 1) := ⟨h.m1, h.m2, by have := h.d1; omega, by omega, by have := h.eq; omega⟩
    obtain ⟨a, b, c'⟩ := q.unique k
    have := h.d1
    exact .inr ⟨by omega, by omega, by omega, by omega⟩
  · have hd : d = ml y m := by have := h.d2; omega
    have hs := cum_succ y m h.m1 h.m2
    have he := h.eq
    by_cases c2 : m = 12
    · subst c2
      have hb := bef_succ y
      have hc := cum_end y
      have q : Dec (y + 1) 1 1 (n + 1) := ⟨by omega, by omega, by omega, by have := ml_lo (y + 1) 1; omega, by rw [cum_one]; rw [show (12 : Int) + 1 = 13 from rfl] at hs; omega⟩
      obtain ⟨a, b, c'⟩ := q.unique k
      exact .inl ⟨by omega, by omega, .inr ⟨by omega, rfl, by omega⟩⟩
    · have q : Dec y (m + 1) 1 (n + 1) := ⟨by have := h.m1; omega, by have := h.m2; omega, by omega, by have := ml_lo y (m + 1); omega, by omega⟩
      obtain ⟨a, b, c'⟩ := q.unique k
      exact .inl ⟨by omega, by omega, .inl ⟨by omega, by omega⟩⟩
end Go.Proofs.YtllhefjblipddaaGreatDoor.Cal

namespace Go.Proofs.YtllhefjblipddaaGreatDoor
open Go.RowKit

theorem before_any (y : Int) (w : World) (h1 : 1900 ≤ y) (h2 : y ≤ 10000) :
    Calls Tryz.prog 273 #[.int .i64 y] w fun e w' => e = .returned (.int .i64 (Cal.bef y)) ∧ w = w' := by
  go_enter Tryz.func273, Tryz.ntmps273
  go_wp2
  go_ret
  exact ⟨by unfold Cal.bef; rfl, rfl⟩

theorem lengths_any (y : Int) (w : World) (h1 : 1900 ≤ y) (h2 : y ≤ 10000) :
    Calls Tryz.prog 272 #[.int .i64 y] w fun e w' => e = .returned (.agg #[.int .i64 31, .int .i64 (28 + Cal.lp y), .int .i64 31, .int .i64 30, .int .i64 31, .int .i64 30, .int .i64 31, .int .i64 31, .int .i64 30, .int .i64 31, .int .i64 30, .int .i64 31]) ∧ Below w.heap.size w w' := by
  by_cases hl : y % 4 = 0 ∧ (y % 100 ≠ 0 ∨ y % 400 = 0)
  · have HP := Lib.hid (show Cal.lp y = 1 from by unfold Cal.lp; rw [if_pos hl])
    go_enter Tryz.func272, Tryz.ntmps272
    go_wp2
    all_goals first
      | (exfalso; simp_all; done)
      | (refine bodyPost_ret (v := .agg #[.int .i64 31, .int .i64 29, .int .i64 31, .int .i64 30, .int .i64 31, .int .i64 30, .int .i64 31, .int .i64 31, .int .i64 30, .int .i64 31, .int .i64 30, .int .i64 31]) (by simp [results, Tryz.results272, go_sem]) rfl ⟨by rw [HP.out]; rfl, ?_⟩
         exact ((Below.refl _ _).alloc (Nat.le_refl _) _).alloc (by simp) _)
  · have HP := Lib.hid (show Cal.lp y = 0 from by unfold Cal.lp; rw [if_neg hl])
    go_enter Tryz.func272, Tryz.ntmps272
    go_wp2
    all_goals first
      | (exfalso; simp_all; done)
      | (refine bodyPost_ret (v := .agg #[.int .i64 31, .int .i64 28, .int .i64 31, .int .i64 30, .int .i64 31, .int .i64 30, .int .i64 31, .int .i64 31, .int .i64 30, .int .i64 31, .int .i64 30, .int .i64 31]) (by simp [results, Tryz.results272, go_sem]) rfl ⟨by rw [HP.out]; rfl, ?_⟩
         exact ((Below.refl _ _).alloc (Nat.le_refl _) _).alloc (by simp) _)

/-- The cells of the lengths of a year's months. -/
theorem mon_cells (y f : Int) (hf : f = 28 + Cal.lp y) (w : World) (T : TypeId) (k : Nat) (hk : k < 12) :
    (w.alloc (.cells #[.int .i64 31, .int .i64 f, .int .i64 31, .int .i64 30, .int .i64 31, .int .i64 30, .int .i64 31, .int .i64 31, .int .i64 30, .int .i64 31, .int .i64 30, .int .i64 31] T)).cell? ⟨w.heap.size, k, none⟩ = some (.int .i64 (Cal.ml y ((k : Int) + 1))) := by
  have h := (Blk.new w T #[.int .i64 31, .int .i64 f, .int .i64 31, .int .i64 30, .int .i64 31, .int .i64 30, .int .i64 31, .int .i64 31, .int .i64 30, .int .i64 31, .int .i64 30, .int .i64 31]).cell k
  rw [h]
  rcases (show k = 0 ∨ k = 1 ∨ k = 2 ∨ k = 3 ∨ k = 4 ∨ k = 5 ∨ k = 6 ∨ k = 7 ∨ k = 8 ∨ k = 9 ∨ k = 10 ∨ k = 11 by omega) with rfl | rfl | rfl | rfl | rfl | rfl | rfl | rfl | rfl | rfl | rfl | rfl <;> simp [Cal.ml, hf]

theorem sl12 (b k : Nat) (hk : k ≤ 12) (W : World) : (Instr.sliceAt 271 (.pointer (some ⟨b, 0, none⟩)) none (some (.int .i64 (k : Int))) none).run Tryz.prog W = .ok (.slice (some ⟨b, 0, none⟩) k 12) W := by
  have ha : Tryz.prog.arrayLen 271 = 12 := by kernel_rfl
  rw [run_sliceAt_array_h _ _ _ (by kernel_rfl) _ _ (by omega) (by rw [ha]; omega), ha]
  simp [slicedAt, go_sem]
set_option maxRecDepth 100000 in
set_option maxHeartbeats 1000000 in
theorem day_in (y m d : Int) (w : World) (h1 : 1900 ≤ y) (h2 : y ≤ 9999) (h3 : 1 ≤ m) (h4 : m ≤ 12) (h5 : 1 ≤ d) (h6 : d ≤ Cal.ml y m) :
    Calls Tryz.prog 235 #[.int .i64 y, .int .i64 m, .int .i64 d] w fun e w' => e = .returned (.tuple #[.int .i64 (Cal.bef y + Cal.cum y m + d), .bool true]) ∧ Below w.heap.size w w' := by
  have HL := Lib.hid (lengths_any y w h1 (by omega))
  have HB := Lib.hid fun W => before_any y W h1 (by omega)
  obtain ⟨f, hf⟩ : ∃ f, f = 28 + Cal.lp y := ⟨_, rfl⟩
  rw [← hf] at HL
  have HF := Lib.hid hf
  have hd := Cal.ml_lo y m
  have hb0 := Cal.bef_lo h1
  have hb1 : Cal.bef y ≤ 2958464 := by have := Cal.bef_mono (show y ≤ 10000 by omega); rw [Cal.bef_end] at this; exact this
  have hd2 : d ≤ 31 := by omega
  clear hf hd
  obtain ⟨k, rfl⟩ : ∃ k : Nat, m = (k : Int) + 1 := ⟨(m - 1).toNat, by omega⟩
  have hk : k < 12 := by omega
  go_enter Tryz.func235, Tryz.ntmps235
  go_upto_region 4 with (go_at_call 272; refine HL.out.mono ?_; rintro e w1 ⟨rfl, hb⟩; have HB1 := Lib.hid hb; clear hb)
  have hcell := mon_cells y f HF.out w1 271
  have HB2 := Lib.hid (HB1.out.alloc HB1.out.size (.cells #[.int .i64 31, .int .i64 f, .int .i64 31, .int .i64 30, .int .i64 31, .int .i64 30, .int .i64 31, .int .i64 31, .int .i64 30, .int .i64 31, .int .i64 30, .int .i64 31] 271))
  generalize hb : w1.heap.size = b at *
  generalize hW : w1.alloc (.cells #[.int .i64 31, .int .i64 f, .int .i64 31, .int .i64 30, .int .i64 31, .int .i64 30, .int .i64 31, .int .i64 31, .int .i64 30, .int .i64 31, .int .i64 30, .int .i64 31] 271) = W at *
  have HCL := Lib.hid hcell
  have hc := hcell k hk
  clear hcell HL HF hW hb
  have hk1 : (0 : Int) ≤ (k : Int) := by omega
  have hk2 : (k : Int) < 12 := by omega
  have hsl := sl12 b k (by omega)
  go_wp2_with (go_at_call 273; refine (HB.out _).mono ?_; rintro e w2 ⟨rfl, rfl⟩)
  clear hsl hc
  go_loop [9, 46] (fun n i => ∃ j : Nat, j ≤ k ∧ i = .int .i64 (j : Int) ∧ n = .int .i64 (Cal.bef y + d + Cal.cum y ((j : Int) + 1))) (fun _ i => k - (intOf i).toNat)
  case atStart => exact ⟨0, Nat.zero_le _, rfl, by rw [show ((0 : Nat) : Int) + 1 = 1 from rfl, Cal.cum_one, Int.add_zero]⟩
  case round =>
    obtain ⟨j, hj, rfl, rfl⟩ := hrel
    have hcb := Cal.cum_bd y ((j : Int) + 1)
    by_cases hlt : j < k
    · have hcs := Cal.cum_succ y ((j : Int) + 1) (by omega) (by omega)
      have hml := Cal.ml_lo y ((j : Int) + 1)
      have hcj := HCL.out j (by omega)
      have HS := Lib.hid hcs
      clear hcs
      go_wp2
      go_round
      case rel => exact ⟨j + 1, by omega, by go_num, by rw [show (((j + 1 : Nat) : Int) + 1) = (j : Int) + 1 + 1 by omega, HS.out]; go_num⟩
      case measure => simp [intOf]; omega
    · obtain rfl : j = k := by omega
      go_wp2
      go_ret2
      exact ⟨(show _ = Ending.returned (.tuple #[.int .i64 (Cal.bef y + d + Cal.cum y ((j : Int) + 1)), .bool true]) from rfl).trans (by rw [Int.add_assoc, Int.add_comm d, ← Int.add_assoc]), HB2.out⟩

set_option maxRecDepth 100000 in
set_option maxHeartbeats 1000000 in
theorem day_out (y m d : Int) (w : World) (h1 : 1900 ≤ y) (h2 : y ≤ 9999) (h3 : 1 ≤ m) (h4 : m ≤ 12) (h5 : 1 ≤ d) (h6 : Cal.ml y m < d) :
    Calls Tryz.prog 235 #[.int .i64 y, .int .i64 m, .int .i64 d] w fun e w' => e = .returned (.tuple #[.int .i64 0, .bool false]) ∧ Below w.heap.size w w' := by
  have HL := Lib.hid (lengths_any y w h1 (by omega))
  obtain ⟨f, hf⟩ : ∃ f, f = 28 + Cal.lp y := ⟨_, rfl⟩
  rw [← hf] at HL
  have HF := Lib.hid hf
  clear hf
  obtain ⟨k, rfl⟩ : ∃ k : Nat, m = (k : Int) + 1 := ⟨(m - 1).toNat, by omega⟩
  have hk : k < 12 := by omega
  go_enter Tryz.func235, Tryz.ntmps235
  go_upto_region 4 with (go_at_call 272; refine HL.out.mono ?_; rintro e w1 ⟨rfl, hb⟩; have HB1 := Lib.hid hb; clear hb)
  have hcell := mon_cells y f HF.out w1 271
  have HB2 := Lib.hid (HB1.out.alloc HB1.out.size (.cells #[.int .i64 31, .int .i64 f, .int .i64 31, .int .i64 30, .int .i64 31, .int .i64 30, .int .i64 31, .int .i64 31, .int .i64 30, .int .i64 31, .int .i64 30, .int .i64 31] 271))
  generalize hb : w1.heap.size = b at *
  generalize hW : w1.alloc (.cells #[.int .i64 31, .int .i64 f, .int .i64 31, .int .i64 30, .int .i64 31, .int .i64 30, .int .i64 31, .int .i64 31, .int .i64 30, .int .i64 31, .int .i64 30, .int .i64 31] 271) = W at *
  have hc := hcell k hk
  clear hcell HL HF hW hb
  have hk1 : (0 : Int) ≤ (k : Int) := by omega
  have hk2 : (k : Int) < 12 := by omega
  go_wp2
  go_ret2
  exact ⟨rfl, HB2.out⟩

theorem ix12 (f y : Int) (hf : f = 28 + Cal.lp y) (k : Nat) (hk : k < 12) (W : World) : (Instr.index 271 (.agg #[.int .i64 31, .int .i64 f, .int .i64 31, .int .i64 30, .int .i64 31, .int .i64 30, .int .i64 31, .int .i64 31, .int .i64 30, .int .i64 31, .int .i64 30, .int .i64 31]) (.int .i64 (k : Int))).run Tryz.prog W = .ok (.int .i64 (Cal.ml y ((k : Int) + 1))) W := by
  rcases (show k = 0 ∨ k = 1 ∨ k = 2 ∨ k = 3 ∨ k = 4 ∨ k = 5 ∨ k = 6 ∨ k = 7 ∨ k = 8 ∨ k = 9 ∨ k = 10 ∨ k = 11 by omega) with rfl | rfl | rfl | rfl | rfl | rfl | rfl | rfl | rfl | rfl | rfl | rfl
  · rw [show Cal.ml y (((0 : Nat) : Int) + 1) = 31 from by simp [Cal.ml]]; kernel_rfl
  · rw [show Cal.ml y (((1 : Nat) : Int) + 1) = f from by simp [Cal.ml, hf]]; kernel_rfl
  · rw [show Cal.ml y (((2 : Nat) : Int) + 1) = 31 from by simp [Cal.ml]]; kernel_rfl
  · rw [show Cal.ml y (((3 : Nat) : Int) + 1) = 30 from by simp [Cal.ml]]; kernel_rfl
  · rw [show Cal.ml y (((4 : Nat) : Int) + 1) = 31 from by simp [Cal.ml]]; kernel_rfl
  · rw [show Cal.ml y (((5 : Nat) : Int) + 1) = 30 from by simp [Cal.ml]]; kernel_rfl
  · rw [show Cal.ml y (((6 : Nat) : Int) + 1) = 31 from by simp [Cal.ml]]; kernel_rfl
  · rw [show Cal.ml y (((7 : Nat) : Int) + 1) = 31 from by simp [Cal.ml]]; kernel_rfl
  · rw [show Cal.ml y (((8 : Nat) : Int) + 1) = 30 from by simp [Cal.ml]]; kernel_rfl
  · rw [show Cal.ml y (((9 : Nat) : Int) + 1) = 31 from by simp [Cal.ml]]; kernel_rfl
  · rw [show Cal.ml y (((10 : Nat) : Int) + 1) = 30 from by simp [Cal.ml]]; kernel_rfl
  · rw [show Cal.ml y (((11 : Nat) : Int) + 1) = 31 from by simp [Cal.ml]]; kernel_rfl

end Go.Proofs.YtllhefjblipddaaGreatDoor
