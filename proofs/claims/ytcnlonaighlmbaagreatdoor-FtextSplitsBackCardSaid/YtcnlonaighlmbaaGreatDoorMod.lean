/- The contract of mod. -/
import Derived.Test.YtcnlonaighlmbaaGreatDoorRows
import Derived.WalkKit
import Derived.WalkLawsBesides
import Derived.Lib.Hide
import Derived.Handy
set_option linter.unusedSimpArgs false
set_option linter.unusedVariables false
namespace Go.Proofs.YtcnlonaighlmbaaGreatDoor
open Go.RowKit

theorem ret_i64 {a b : Int} (h : a = b) : Ending.returned (.int .i64 a) = .returned (.int .i64 b) := by rw [h]
theorem tmod_bd (n m : Int) (h0 : 0 < m) : -m < n.tmod m ∧ n.tmod m < m := by
  have h1 := Int.tmod_lt_of_pos n h0
  have h2 := Int.lt_tmod_of_pos n h0
  omega
theorem mod_emod (n m : Int) (h0 : 0 < m) : (n.tmod m + m) % m = n % m := by
  rw [Int.add_emod_right]
  rw [Int.tmod_eq_emod]
  split
  · simp
  · rw [Int.natAbs_of_nonneg (by omega)]
    rw [Int.sub_emod_right, Int.emod_emod_of_dvd _ (Int.dvd_refl _)]

theorem mod_any (n m : Int) (w : World) (h0 : 0 < m) (h1 : m ≤ 4611686018427387904) (_hn : -9223372036854775808 ≤ n ∧ n ≤ 9223372036854775807) :
    Calls Tryz.prog 10 #[.int .i64 n, .int .i64 m] w fun e w' => e = .returned (.int .i64 (n % m)) ∧ w = w' := by
  have hb := tmod_bd n m h0
  have he := mod_emod n m h0
  have HE := Lib.hid he
  clear he
  have h2 : 0 ≤ n.tmod m + m := by omega
  have h3 : 1 ≤ m := by omega
  go_enter Tryz.func10, Tryz.ntmps10
  go_wp2
  go_ret
  exact ⟨ret_i64 HE.out, rfl⟩

end Go.Proofs.YtcnlonaighlmbaaGreatDoor
