/- squash: bits are read. -/
import Derived.Test.YtcojoigbcfaajaaDoorSqB
namespace Go.Proofs.YtcojoigbcfaajaaDoor
open Go.RowKit

/-- A reader. -/
def Rd (W : World) (g : Nat) (s : ByteArray) (at_ : Nat) : Prop := Blk W g 47 #[.string s, .int .i64 (at_ : Int)]
/-- The bit at a place. -/
def bitN (s : ByteArray) (i : Nat) : Nat := (s.data.toList.getD (i / 8) 0).toNat / 2 ^ (7 - i % 8) % 2
theorem bitb (c : UInt8) (j : Nat) (hj : j < 8) : bits .and .i64 (wrap64 (c.toNat : Int) / 2 ^ j) 1 = ((c.toNat / 2 ^ j % 2 : Nat) : Int) := by
  have h : ∀ k : Fin 256, ∀ j : Fin 8, bits .and .i64 (wrap64 (k.val : Int) / 2 ^ j.val) 1 = ((k.val / 2 ^ j.val % 2 : Nat) : Int) := by decide +kernel
  exact h ⟨c.toNat, c.toNat_lt⟩ ⟨j, hj⟩
theorem getD_at (s : ByteArray) (q : Nat) (h : q < s.size) : s.data.toList.getD q 0 = s[q] := by
  have h2 : q < s.data.toList.length := h
  rw [List.getD_eq_getElem?_getD, List.getElem?_eq_getElem h2]
  rfl
set_option maxRecDepth 100000 in
set_option maxHeartbeats 1000000 in
theorem bit_any (g : Nat) (s : ByteArray) (p : Nat) (w : World) (hr : Rd w g s p) (hp : p < 8 * s.size) (hs : s.size ≤ 1125899906842624) :
    Calls Tryd.prog 29 #[.pointer (some ⟨g, 0, none⟩)] w fun e w' => e = .returned (.int .i64 (bitN s p : Nat)) ∧ Chg w.heap.size [g] w w' ∧ Rd w' g s (p + 1) := by
  have c0 := hr.cell 0
  have c1 := hr.cell 1
  simp at c0 c1
  have f0 := hr.frozen 0
  have f1 := hr.frozen 1
  obtain ⟨q, hq⟩ : ∃ q, q = p / 8 := ⟨_, rfl⟩
  have e1 : (p : Int) / 8 = (q : Int) := by omega
  have e2 : (p : Int) % 8 = ((p % 8 : Nat) : Int) := by omega
  have hqs : q < s.size := by omega
  have t0 : ((p : Int) == 8 * (s.size : Int)) = false := by rw [beq_eq_false_iff_ne]; omega
  have w0 : IntKind.i64.wrap (8 * (s.size : Int)) = 8 * (s.size : Int) := IntWalk.i64_in _ (by omega)
  have w1 : IntKind.i64.wrap (q : Int) = (q : Int) := IntWalk.i64_in _ (by omega)
  have HQ := Lib.hid hq
  clear hq
  rcases (show p % 8 = 0 ∨ p % 8 = 1 ∨ p % 8 = 2 ∨ p % 8 = 3 ∨ p % 8 = 4 ∨ p % 8 = 5 ∨ p % 8 = 6 ∨ p % 8 = 7 by omega) with h | h | h | h | h | h | h | h
  all_goals
    rw [h] at e2
    have H8 := Lib.hid h
    clear h
    go_enter Tryd.func29, Tryd.ntmps29
    go_wp2
    go_quiet (fail)
    go_wp2
    go_quiet (fail)
    go_wp2
    go_ret
    refine ⟨?_, ((Chg.refl _ _ _).drewN _).set (p := ⟨g, 1, none⟩) (.inl (by simp)) _, ?_⟩
    · have hb := bitb s[q] (7 - p % 8) (by omega)
      rw [H8.out] at hb
      rw [show bitN s p = s[q].toNat / 2 ^ (7 - p % 8) % 2 by unfold bitN; rw [← HQ.out, getD_at s q hqs], H8.out, ← hb]
      first | rfl | (simp; done)
    · exact ((hr.drewN _).set_ 1 _)
set_option maxRecDepth 100000 in
set_option maxHeartbeats 1000000 in
theorem bit_end (g : Nat) (s : ByteArray) (p : Nat) (w : World) (hr : Rd w g s p) (hp : p = 8 * s.size) (hs : s.size ≤ 1125899906842624) :
    Calls Tryd.prog 29 #[.pointer (some ⟨g, 0, none⟩)] w fun e w' => e = .returned (.int .i64 (-1)) ∧ Chg w.heap.size [g] w w' ∧ Rd w' g s p := by
  have c0 := hr.cell 0
  have c1 := hr.cell 1
  simp at c0 c1
  have t0 : ((p : Int) == 8 * (s.size : Int)) = true := by rw [beq_iff_eq]; omega
  have w0 : IntKind.i64.wrap (8 * (s.size : Int)) = 8 * (s.size : Int) := IntWalk.i64_in _ (by omega)
  clear hp
  go_enter Tryd.func29, Tryd.ntmps29
  go_wp2
  go_quiet (fail)
  go_wp2
  go_ret
  exact ⟨rfl, (Chg.refl _ _ _).drewN _, hr.drewN _⟩

/-- The number of n bits. -/
def numN (s : ByteArray) (p : Nat) : Nat → Nat
  | 0 => 0
  | n + 1 => 2 * numN s p n + bitN s (p + n)
theorem bitN_lt (s : ByteArray) (i : Nat) : bitN s i < 2 := Nat.mod_lt _ (by decide)
theorem numN_lt (s : ByteArray) (p : Nat) : ∀ n, numN s p n < 2 ^ n
  | 0 => Nat.one_pos
  | n + 1 => by
    have h1 := numN_lt s p n
    have h2 := bitN_lt s (p + n)
    rw [numN, Nat.pow_succ]
    omega
theorem two_pow_le {n : Nat} (h : n ≤ 15) : 2 ^ n ≤ 32768 := Nat.pow_le_pow_right (n := 2) (by decide) h
set_option maxRecDepth 100000 in
set_option maxHeartbeats 1000000 in
theorem number_any (g : Nat) (s : ByteArray) (p n : Nat) (w : World) (hr : Rd w g s p) (hn : n ≤ 15) (hp : p + n ≤ 8 * s.size) (hs : s.size ≤ 1125899906842624) :
    Calls Tryd.prog 28 #[.pointer (some ⟨g, 0, none⟩), .int .i64 n] w fun e w' => e = .returned (.int .i64 (numN s p n : Nat)) ∧ Chg w.heap.size [g] w w' ∧ Rd w' g s (p + n) := by
  have HR := Lib.hid hr
  clear hr
  go_enter Tryd.func28, Tryd.ntmps28
  go_wp2
  go_loopw [5, 6, 8] (fun k _ i wr => ∃ j : Nat, j ≤ n ∧ i = .int .i64 j ∧ k = .int .i64 (numN s p j : Nat) ∧ Hid (Chg w.heap.size [g] w wr) ∧ Hid (Rd wr g s (p + j))) (fun _ _ i _ => n - (intOf i).toNat)
  case atStart => exact ⟨0, by omega, rfl, rfl, Lib.hid (Chg.refl _ _ _), HR⟩
  case round =>
    obtain ⟨j, hj, rfl, rfl, HC, HR⟩ := hrel
    by_cases hlt : j < n
    · have HB := Lib.hid (bit_any g s (p + j) wr HR.out (by omega) hs)
      have hv := numN_lt s p j
      have hv2 := two_pow_le (n := j) (by omega)
      obtain ⟨v, hV⟩ : ∃ v, v = numN s p j := ⟨_, rfl⟩
      have hv3 : v ≤ 32768 := by omega
      obtain ⟨b, hb⟩ : ∃ b, b = bitN s (p + j) := ⟨_, rfl⟩
      have hb1 : b < 2 := hb ▸ bitN_lt s (p + j)
      rw [← hb] at HB
      have HV := Lib.hid (show 2 * v + b = numN s p (j + 1) from by rw [numN, ← hV, ← hb])
      rw [← hV]
      have nb : ¬ (b : Int) < 0 := by omega
      clear hV hb HR hv hv2
      go_wp2_with (go_at_call 29; (with_reducible refine HB.out.mono ?_); rintro e w1 ⟨rfl, hc, hr⟩; have HC1 := Lib.hid (HC.out.next hc); have HR1 := Lib.hid hr; clear hc hr)
      go_roundw
      case rel => exact ⟨j + 1, by omega, by go_num, by rw [← HV.out]; go_num, HC1, HR1⟩
      case measure => simp [intOf]; omega
    · obtain rfl : j = n := by omega
      go_wp2
      go_ret
      exact ⟨rfl, HC.out, HR.out⟩
/-- Too few bits. -/
theorem number_short (g : Nat) (s : ByteArray) (p n : Nat) (w : World) (hr : Rd w g s p) (hn : n ≤ 15) (hp0 : p ≤ 8 * s.size) (hp : 8 * s.size < p + n) (hs : s.size ≤ 1125899906842624) :
    Calls Tryd.prog 28 #[.pointer (some ⟨g, 0, none⟩), .int .i64 n] w fun e w' => e = .returned (.int .i64 (-1)) ∧ Chg w.heap.size [g] w w' ∧ Rd w' g s (8 * s.size) := by
  have HR := Lib.hid hr
  clear hr
  go_enter Tryd.func28, Tryd.ntmps28
  go_wp2
  go_loopw [5, 6, 8] (fun k _ i wr => ∃ j : Nat, p + j ≤ 8 * s.size ∧ j ≤ n ∧ i = .int .i64 j ∧ k = .int .i64 (numN s p j : Nat) ∧ Hid (Chg w.heap.size [g] w wr) ∧ Hid (Rd wr g s (p + j))) (fun _ _ i _ => n - (intOf i).toNat)
  case atStart => exact ⟨0, by omega, by omega, rfl, rfl, Lib.hid (Chg.refl _ _ _), HR⟩
  case round =>
    obtain ⟨j, hj, hjn, rfl, rfl, HC, HR⟩ := hrel
    have hlt : j < n := by omega
    by_cases he : p + j < 8 * s.size
    · have HB := Lib.hid (bit_any g s (p + j) wr HR.out (by omega) hs)
      have hv := numN_lt s p j
      have hv2 := two_pow_le (n := j) (by omega)
      obtain ⟨v, hV⟩ : ∃ v, v = numN s p j := ⟨_, rfl⟩
      have hv3 : v ≤ 32768 := by omega
      obtain ⟨b, hb⟩ : ∃ b, b = bitN s (p + j) := ⟨_, rfl⟩
      have hb1 : b < 2 := hb ▸ bitN_lt s (p + j)
      rw [← hb] at HB
      have HV := Lib.hid (show 2 * v + b = numN s p (j + 1) from by rw [numN, ← hV, ← hb])
      rw [← hV]
      have nb : ¬ (b : Int) < 0 := by omega
      clear hV hb HR hv hv2
      go_wp2_with (go_at_call 29; (with_reducible refine HB.out.mono ?_); rintro e w1 ⟨rfl, hc, hr⟩; have HC1 := Lib.hid (HC.out.next hc); have HR1 := Lib.hid hr; clear hc hr)
      go_roundw
      case rel => exact ⟨j + 1, by omega, by omega, by go_num, by rw [← HV.out]; go_num, HC1, HR1⟩
      case measure => simp [intOf]; omega
    · have HB := Lib.hid (bit_end g s (p + j) wr HR.out (by omega) hs)
      have HZ := Lib.hid (show p + j = 8 * s.size by omega)
      clear HR
      go_wp2_with (go_at_call 29; (with_reducible refine HB.out.mono ?_); rintro e w1 ⟨rfl, hc, hr⟩; have HC1 := Lib.hid (HC.out.next hc); have HR1 := Lib.hid hr; clear hc hr)
      go_ret
      exact ⟨rfl, HC1.out, by rw [← HZ.out]; exact HR1.out⟩
end Go.Proofs.YtcojoigbcfaajaaDoor
