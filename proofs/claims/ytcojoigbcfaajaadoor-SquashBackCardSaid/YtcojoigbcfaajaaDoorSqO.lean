/- squash: the hash of three bytes (the closure in tokens). -/
import Derived.Test.YtcojoigbcfaajaaDoorSqN
namespace Go.Proofs.YtcojoigbcfaajaaDoor
open Go.RowKit

theorem xor64 (a b : Nat) (ha : a < 9223372036854775808) (hb : b < 9223372036854775808) : bits .xor .i64 (a : Int) (b : Int) = ((a ^^^ b : Nat) : Int) := by
  have hx : a ^^^ b < 2 ^ 63 := Nat.xor_lt_two_pow (by omega) (by omega)
  show IntKind.i64.wrap ((BitVec.ofInt 64 (a : Int) ^^^ BitVec.ofInt 64 (b : Int)).toNat : Int) = _
  rw [BitVec.toNat_xor, ofInt64_nat _ (by omega), ofInt64_nat _ (by omega)]
  exact IntWalk.i64_in _ (by omega)
theorem and15 (a : Nat) (ha : a < 9223372036854775808) : bits .and .i64 (a : Int) 32767 = ((a % 32768 : Nat) : Int) := by
  show IntKind.i64.wrap ((BitVec.ofInt 64 (a : Int) &&& BitVec.ofInt 64 ((32767 : Nat) : Int)).toNat : Int) = _
  rw [BitVec.toNat_and, ofInt64_nat _ (by omega), ofInt64_nat _ (by omega), show (32767 : Nat) = 2 ^ 15 - 1 by decide, Nat.and_two_pow_sub_one_eq_mod]
  exact IntWalk.i64_in _ (by omega)
namespace Sq
def hsh (s : ByteArray) (i : Nat) : Nat := (((s.data.toList.getD i 0).toNat * 1024) ^^^ ((s.data.toList.getD (i + 1) 0).toNat * 32) ^^^ (s.data.toList.getD (i + 2) 0).toNat) % 32768
theorem hsh_lt (s : ByteArray) (i : Nat) : hsh s i < 32768 := Nat.mod_lt _ (by decide)
theorem hsh_eq (a b c : Nat) (ha : a < 256) (hb : b < 256) (hc : c < 256) : bits .and .i64 (bits .xor .i64 (bits .xor .i64 (wrap64 (wrap64 (a : Int) * 1024)) (wrap64 (wrap64 (b : Int) * 32))) (wrap64 (c : Int))) 32767 = (((a * 1024 ^^^ b * 32 ^^^ c) % 32768 : Nat) : Int) := by
  have h1 : a * 1024 ^^^ b * 32 < 2 ^ 18 := Nat.xor_lt_two_pow (by omega) (by omega)
  have h2 : (a * 1024 ^^^ b * 32) ^^^ c < 2 ^ 18 := Nat.xor_lt_two_pow h1 (by omega)
  rw [w64 (a : Int) (by omega), w64 (b : Int) (by omega), w64 (c : Int) (by omega), w64 ((a : Int) * 1024) (by omega), w64 ((b : Int) * 32) (by omega),
    show (a : Int) * 1024 = ((a * 1024 : Nat) : Int) by omega, show (b : Int) * 32 = ((b * 32 : Nat) : Int) by omega, xor64 _ _ (by omega) (by omega), xor64 _ _ (by omega) (by omega), and15 _ (by omega)]
end Sq
set_option maxRecDepth 100000 in
set_option maxHeartbeats 1000000 in
theorem hash_any (s : ByteArray) (i gs : Nat) (w : World) (hc : w.cell? ⟨gs, 0, none⟩ = some (.string s)) (hi : i + 3 ≤ s.size) (hs : s.size ≤ 1125899906842624) :
    Calls Tryd.prog 21 #[.int .i64 i, .pointer (some ⟨gs, 0, none⟩)] w fun e w' => e = .returned (.int .i64 (Sq.hsh s i : Nat)) ∧ Below w.heap.size w w' := by
  have i0 : i < s.size := by omega
  have i1 : i + 1 < s.size := by omega
  have i2 : i + 2 < s.size := by omega
  have j0 : (i : Int) < s.size := by omega
  have j1 : (i : Int) + 1 < s.size := by omega
  have j2 : (i : Int) + 2 < s.size := by omega
  have n1 : (0 : Int) ≤ (i : Int) + 1 := by omega
  have n2 : (0 : Int) ≤ (i : Int) + 2 := by omega
  have t1 : ((i : Int) + 1).toNat = i + 1 := by omega
  have t2 : ((i : Int) + 2).toNat = i + 2 := by omega
  have HH := Lib.hid (show Sq.hsh s i = ((s[i].toNat * 1024) ^^^ (s[i + 1].toNat * 32) ^^^ s[i + 2].toNat) % 32768 by
    unfold Sq.hsh
    rw [getD_at s i i0, getD_at s (i + 1) i1, getD_at s (i + 2) i2])
  have HX := Lib.hid (Sq.hsh_eq s[i].toNat s[i + 1].toNat s[i + 2].toNat s[i].toNat_lt s[i + 1].toNat_lt s[i + 2].toNat_lt)
  go_enter Tryd.func21, Tryd.ntmps21
  go_wp2_with fail
  go_quiet (fail)
  go_wp2
  go_ret
  rw [HH.out]
  refine ⟨?_, below_drewN (Below.refl _ _) _⟩
  rw [← HX.out]
  rfl
end Go.Proofs.YtcojoigbcfaajaaDoor
