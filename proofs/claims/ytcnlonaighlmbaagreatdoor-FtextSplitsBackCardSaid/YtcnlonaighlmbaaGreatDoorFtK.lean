/- ftext: skip, and the number of characters. -/
import Derived.Test.YtcnlonaighlmbaaGreatDoorFtV
import Derived.Test.YtcnlonaighlmbaaGreatDoorFtQ
set_option linter.unusedSimpArgs false
set_option linter.unusedVariables false
namespace Go.Proofs.YtcnlonaighlmbaaGreatDoor
open Go.RowKit

theorem count_c (cs : List (List UInt8)) (h : ChsOk cs) (hs : (tx cs).size ≤ 32767) (w : World) : Calls Tryz.prog 52 #[.string (tx cs)] w fun e w' => e = .returned (.int .i64 ((cs.length : Nat) : Int)) ∧ Below w.heap.size w w' := by
  have := Tryz.utf8_RuneCountInString (tx cs) w (by omega)
  rw [count_tx h] at this
  refine this.mono ?_
  rintro e w' ⟨rfl, pos, rfl⟩
  exact ⟨rfl, below_al w _⟩
set_option maxRecDepth 100000 in
set_option maxHeartbeats 2000000 in
theorem skip_c (cs : List (List UInt8)) (h : ChsOk cs) (hs : (tx cs).size ≤ 32767) (n : Nat) (hn : n ≤ 100000) (w : World) (he : VEnv w) : Calls Tryz.prog 116 #[.string (tx cs), .int .i64 (n : Int)] w fun e w' => e = .returned (.int .i64 ((skB cs n : Nat) : Int)) ∧ Below w.heap.size w w' := by
  have HT := Lib.hid he.u8
  have HB := Lib.hid (Below.refl w.heap.size w)
  have HLE := Lib.hid (skB_le cs)
  have HLN := Lib.hid (len_size h)
  clear he
  go_enter Tryz.func116, Tryz.ntmps116
  go_wp2_with fail
  go_loopw [1, 5] (fun v1 v0 wr => ∃ i : Nat, i ≤ n ∧ i ≤ cs.length ∧ v1 = .int .i64 ((n - i : Nat) : Int) ∧ v0 = .int .i64 ((skB cs i : Nat) : Int) ∧ Hid (Below w.heap.size w wr)) (fun v1 _ _ => (intOf v1).toNat)
  case atStart => exact ⟨0, Nat.zero_le _, Nat.zero_le _, rfl, rfl, HB⟩
  case round =>
    clear HB
    obtain ⟨i, hi, hic, rfl, rfl, HB⟩ := hrel
    have hle := HLE.out i
    by_cases h1 : i < n
    · by_cases h2 : i < cs.length
      · have k1 : (0 : Int) < ((n - i : Nat) : Int) := by omega
        have k2 : ((skB cs i : Nat) : Int) < ((tx cs).size : Int) := by have := skB_lt h h2; omega
        have k3 := skB_succ cs h2
        have k4 := HLE.out (i + 1)
        have HD := Lib.hid (Tryz.utf8_DecodeRuneInString (tx (cs.drop i)) wr (Utf8Tabs_below HT.out HB.out))
        have HDC := Lib.hid (show Calls Tryz.prog 41 #[.string ((tx cs).extract (skB cs i) (tx cs).size)] wr fun e w' => ∃ r : Nat, e = .returned (.tuple #[.int .i32 (r : Int), .int .i64 ((cs[i].length : Nat) : Int)]) ∧ Below wr.heap.size wr w' from by
          rw [tx_drop, ← dec_tx h h2]
          refine HD.out.mono ?_
          rintro e w' ⟨rfl, hb⟩
          exact ⟨_, rfl, hb⟩)
        have k5 : IntKind.i64.wrap (((n - i : Nat) : Int) - 1) = ((n - (i + 1) : Nat) : Int) := by rw [IntWalk.i64_in _ (by omega)]; omega
        have k6 : IntKind.i64.wrap (((skB cs i : Nat) : Int) + ((cs[i].length : Nat) : Int)) = ((skB cs (i + 1) : Nat) : Int) := by rw [IntWalk.i64_in _ (by omega)]; omega
        have k0 : (0 : Int) ≤ ((skB cs i : Nat) : Int) := by omega
        go_wp2_with (go_at_call 41; (with_reducible refine HDC.out.mono ?_); rintro e w1 ⟨r, rfl, hb⟩; have HB1 := Lib.hid (HB.out.trans (hb.mono HB.out.size)); clear hb)
        go_roundw
        case rel => exact ⟨i + 1, by omega, by omega, by first | rfl | (rw [k5]), by first | rfl | (rw [k6]) | (rw [k3, Int.natCast_add]), HB1⟩
        case measure => simp [intOf, k5]; omega
      · have e : skB cs i = skB cs n := by rw [skB_all cs (by omega), skB_all cs (by omega)]
        have k1 : (0 : Int) < ((n - i : Nat) : Int) := by omega
        have k2 : ¬ ((skB cs i : Nat) : Int) < ((tx cs).size : Int) := by
          rw [skB_all cs (by omega)]
          omega
        go_wp2
        go_ret
        exact ⟨by first | rfl | rw [e], HB.out⟩
    · obtain rfl : i = n := by omega
      have k1 : ¬ (0 : Int) < ((i - i : Nat) : Int) := by omega
      go_wp2
      go_ret
      exact ⟨rfl, HB.out⟩
end Go.Proofs.YtcnlonaighlmbaaGreatDoor
