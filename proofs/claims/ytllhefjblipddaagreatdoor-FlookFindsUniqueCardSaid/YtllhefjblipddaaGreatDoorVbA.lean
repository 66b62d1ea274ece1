/- cmp.Compare of strings, cmp.Or of two integers. -/
import Derived.Test.YtllhefjblipddaaGreatDoorGab
import Derived.Test.YtllhefjblipddaaGreatDoorGaa
import Derived.Test.YtllhefjblipddaaGreatDoorGaa
import Derived.WalkKit
import Derived.WalkLawsBesides
import Derived.Outline
import Derived.Lib.Hide
import Derived.Lib.Strings
import Derived.LoopTactic
set_option linter.unusedSimpArgs false
set_option linter.unusedVariables false
namespace Go.Proofs.YtllhefjblipddaaGreatDoor
open Go.RowKit

theorem nan_str (s : ByteArray) (w : World) : Calls Tryz.prog 240 #[.string s] w fun e w' => e = .returned (.bool false) ∧ w = w' := by
  go_enter Tryz.func240, Tryz.ntmps240
  go_wp2
  go_ret
  exact ⟨by simp, rfl⟩
theorem less_asym : ∀ {a b : List UInt8}, Op.bytesLess a b = true → Op.bytesLess b a = false := fun {a b} h => by
  have h1 := Cm.strC_anti a b
  have h2 : Cm.strC a b = -1 := by unfold Cm.strC; rw [if_pos h]
  cases hb : Op.bytesLess b a with
  | false => rfl
  | true =>
    have h3 : Cm.strC b a = -1 := by unfold Cm.strC; rw [if_pos hb]
    omega
set_option maxRecDepth 100000 in
theorem cmpstr_any (x y : ByteArray) (w : World) : Calls Tryz.prog 191 #[.string x, .string y] w fun e w' => e = .returned (.int .i64 (Cm.strC x.data.toList y.data.toList)) ∧ w = w' := by
  have HN := Lib.hid fun s W => nan_str s W
  have ex : x.toList = x.data.toList := Lib.toList_data x
  have ey : y.toList = y.data.toList := Lib.toList_data y
  rw [← ex, ← ey]
  clear ex ey
  cases h1 : Op.bytesLess x.toList y.toList with
  | true =>
    have HS := Lib.hid (show Cm.strC x.toList y.toList = -1 from by unfold Cm.strC; rw [if_pos h1])
    go_enter Tryz.func191, Tryz.ntmps191
    go_wp2_with (go_at_call 240; (with_reducible refine (HN.out _ _).mono ?_); rintro e w1 ⟨rfl, rfl⟩)
    go_ret
    exact ⟨by rw [HS.out]; rfl, rfl⟩
  | false =>
    cases h2 : Op.bytesLess y.toList x.toList with
    | true =>
      have hne : (x.toList == y.toList) = false := by
        rw [beq_eq_false_iff_ne]
        intro e
        rw [e] at h2
        have := less_asym h2
        rw [h2] at this
        cases this
      have HS := Lib.hid (show Cm.strC x.toList y.toList = 1 from by unfold Cm.strC; rw [if_neg (by rw [h1]; decide), if_pos h2])
      go_enter Tryz.func191, Tryz.ntmps191
      go_wp2_with (go_at_call 240; (with_reducible refine (HN.out _ _).mono ?_); rintro e w1 ⟨rfl, rfl⟩)
      go_ret
      exact ⟨by rw [HS.out]; rfl, rfl⟩
    | false =>
      have HS0 : Cm.strC x.toList y.toList = 0 := by unfold Cm.strC; rw [if_neg (by rw [h1]; decide), if_neg (by rw [h2]; decide)]
      have hne : (x.toList == y.toList) = true := by rw [beq_iff_eq]; exact Cm.strC_zero HS0
      have HS := Lib.hid HS0
      clear HS0
      go_enter Tryz.func191, Tryz.ntmps191
      go_wp2_with (go_at_call 240; (with_reducible refine (HN.out _ _).mono ?_); rintro e w1 ⟨rfl, rfl⟩)
      go_ret
      exact ⟨by rw [HS.out]; rfl, rfl⟩
theorem nan_int (n : Int) (w : World) : Calls Tryz.prog 237 #[.int .i64 n] w fun e w' => e = .returned (.bool false) ∧ w = w' := by
  go_enter Tryz.func237, Tryz.ntmps237
  go_wp2
  go_ret
  exact ⟨by simp, rfl⟩
theorem cmpint_any (x y : Int) (w : World) : Calls Tryz.prog 187 #[.int .i64 x, .int .i64 y] w fun e w' => e = .returned (.int .i64 (Cm.intC x y)) ∧ w = w' := by
  have HN := Lib.hid fun s W => nan_int s W
  rcases Int.lt_trichotomy x y with h | h | h
  · have HS := Lib.hid (show Cm.intC x y = -1 from by unfold Cm.intC; rw [if_pos h])
    go_enter Tryz.func187, Tryz.ntmps187
    go_wp2_with (go_at_call 237; (with_reducible refine (HN.out _ _).mono ?_); rintro e w1 ⟨rfl, rfl⟩)
    go_ret
    exact ⟨by rw [HS.out]; rfl, rfl⟩
  · subst h
    have HS := Lib.hid (show Cm.intC x x = 0 from by unfold Cm.intC; rw [if_neg (by omega), if_neg (by omega)])
    go_enter Tryz.func187, Tryz.ntmps187
    go_wp2_with (go_at_call 237; (with_reducible refine (HN.out _ _).mono ?_); rintro e w1 ⟨rfl, rfl⟩)
    go_ret
    exact ⟨by rw [HS.out]; rfl, rfl⟩
  · have HS := Lib.hid (show Cm.intC x y = 1 from by unfold Cm.intC; rw [if_neg (by omega), if_pos h])
    go_enter Tryz.func187, Tryz.ntmps187
    go_wp2_with (go_at_call 237; (with_reducible refine (HN.out _ _).mono ?_); rintro e w1 ⟨rfl, rfl⟩)
    go_ret
    exact ⟨by rw [HS.out]; rfl, rfl⟩
def orI (x y : Int) : Int := if x ≠ 0 then x else y
theorem or_two (x y : Int) (g : Nat) (w : World) (h0 : w.cell? ⟨g, 0, none⟩ = some (.int .i64 x)) (h1 : w.cell? ⟨g, 1, none⟩ = some (.int .i64 y)) :
    Calls Tryz.prog 189 #[.slice (some ⟨g, 0, none⟩) 2 2] w fun e w' => e = .returned (.int .i64 (orI x y)) ∧ w = w' := by
  by_cases hx : x = 0
  · subst hx
    have HR := Lib.hid (show orI 0 y = y from rfl)
    go_enter Tryz.func189, Tryz.ntmps189
    go_wp2
    go_loop [8] (fun i => ∃ k : Nat, k ≤ 2 ∧ i = .int .i64 (k : Int) ∧ (k = 2 → y = 0)) (fun i => 2 - (intOf i).toNat)
    case atStart => exact ⟨0, by decide, rfl, fun h => absurd h (by decide)⟩
    case round =>
      obtain ⟨k, hk, rfl, hy⟩ := hrel
      rcases (show k = 0 ∨ k = 1 ∨ k = 2 by omega) with rfl | rfl | rfl
      · clear hy
        go_wp2
        go_round
        case rel => exact ⟨1, by decide, rfl, fun h => absurd h (by decide)⟩
        case measure => simp [intOf]
      · clear hy
        by_cases hy0 : y = 0
        · subst hy0
          go_wp2
          go_round
          case rel => exact ⟨2, by decide, rfl, by simp⟩
          case measure => simp [intOf]
        · have hne : ((y : Int) != 0) = true := by rw [bne_iff_ne]; exact hy0
          go_wp2
          go_ret
          exact ⟨by rw [HR.out]; rfl, rfl⟩
      · obtain rfl := hy (by simp)
        go_wp2
        go_ret
        exact ⟨rfl, rfl⟩
  · have HR := Lib.hid (show orI x y = x from if_pos hx)
    have hne : ((x : Int) != 0) = true := by rw [bne_iff_ne]; exact hx
    go_enter Tryz.func189, Tryz.ntmps189
    go_wp2
    go_loop [8] (fun i => i = .int .i64 0) (fun _ => 0)
    case atStart => rfl
    case round =>
      obtain rfl := hrel
      go_wp2
      go_ret
      exact ⟨by rw [HR.out]; rfl, rfl⟩
end Go.Proofs.YtllhefjblipddaaGreatDoor
