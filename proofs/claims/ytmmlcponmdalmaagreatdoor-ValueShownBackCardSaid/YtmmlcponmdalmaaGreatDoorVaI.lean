/- value: valid values are left as they are; a number is shown; what 1900-01-02 means. -/
import Derived.Test.YtmmlcponmdalmaaGreatDoorVpH
import Derived.Test.YtmmlcponmdalmaaGreatDoorVpG
import Derived.Test.YtmmlcponmdalmaaGreatDoorExF
namespace Go.Proofs.YtmmlcponmdalmaaGreatDoor
open Go.RowKit

theorem check_t' (v : Vl) (w : World) (he : VEnv w) (hv : v.ok) (s1 : v.num.size ≤ 9223372036854775807) (s2 : v.den.size ≤ 9223372036854775807) (s3 : v.text.size ≤ 9223372036854775807) :
    Calls Tryz.prog 15 #[v.v] w fun e w' => e = .returned (.int .i64 0) ∧ Below w.heap.size w w' :=
  (check_na v w he (fun h => by have := hv.2.1; omega) s1 s2 s3).mono fun e w' ⟨c, h1, h2, h3⟩ => by
    obtain rfl := h2.2 hv
    exact ⟨h1, h3⟩

set_option maxRecDepth 100000 in
set_option maxHeartbeats 1000000 in
theorem valid_t (v : Vl) (w : World) (he : VEnv w) (hv : v.ok) (s1 : v.num.size ≤ 9223372036854775807) (s2 : v.den.size ≤ 9223372036854775807) (s3 : v.text.size ≤ 9223372036854775807) :
    Calls Tryz.prog 84 #[v.v] w fun e w' => e = .returned v.v ∧ Below w.heap.size w w' := by
  have HC := Lib.hid fun W (hW : Below w.heap.size w W) => check_t' v W (he.below hW) hv s1 s2 s3
  clear he hv s1 s2 s3
  obtain ⟨k, num, den, text, on, code, rows, cols, A, n, c⟩ := v
  show Calls Tryz.prog 84 #[.agg #[.int .i64 k, .string num, .string den, .string text, .bool on, .int .i64 code, .int .i64 rows, .int .i64 cols, .slice A n c]] w _
  have HC := Lib.hid (show ∀ W, Below w.heap.size w W → Calls Tryz.prog 15 #[.agg #[.int .i64 k, .string num, .string den, .string text, .bool on, .int .i64 code, .int .i64 rows, .int .i64 cols, .slice A n c]] W fun e w' => e = .returned (.int .i64 0) ∧ Below W.heap.size W w' from HC.out)
  have HL0 := Lib.hid (((Loc.start w).alloc' rfl 27 #[.int .i64 k, .string num, .string den, .string text, .bool on, .int .i64 code, .int .i64 rows, .int .i64 cols, .slice A n c]).alloc' (g := w.heap.size + 1) (by simp) 27 #[.int .i64 0, .string ⟨#[]⟩, .string ⟨#[]⟩, .string ⟨#[]⟩, .bool false, .int .i64 0, .int .i64 0, .int .i64 0, .slice none 0 0])
  go_enter Tryz.func84, Tryz.ntmps84
  go_upto_region 3 with (go_at_call 15; (with_reducible refine (HC.out _ HL0.out.bel).mono ?_); rintro e w1 ⟨rfl, hb⟩; have HL1 := Lib.hid (HL0.out.step hb); clear hb)
  obtain ⟨x0, x1, x2, x3, x4, x5, x6, x7, x8⟩ := (HL1.out.blk (g := w.heap.size) (t := 27) (cs := #[.int .i64 k, .string num, .string den, .string text, .bool on, .int .i64 code, .int .i64 rows, .int .i64 cols, .slice A n c]) (by simp)).nine
  have bz := HL1.out.blk (g := w.heap.size + 1) (t := 27) (cs := #[.int .i64 0, .string ⟨#[]⟩, .string ⟨#[]⟩, .string ⟨#[]⟩, .bool false, .int .i64 0, .int .i64 0, .int .i64 0, .slice none 0 0]) (by simp)
  obtain ⟨z0, z1, z2, z3, z4, z5, z6, z7, z8⟩ := bz.nine
  obtain ⟨f0, f1, f2, f3, f4, f5, f6, f7, f8⟩ := bz.ninef
  obtain ⟨bs, s0, s1, s2, s3, s4, s5, s6, s7, s8⟩ := bz.nine_set (.int .i64 k) (.string num) (.string den) (.string text) (.bool on) (.int .i64 code) (.int .i64 rows) (.int .i64 cols) (.slice A n c)
  have BS := Lib.hid bs
  clear bz bs
  go_wp2_with fail
  obtain ⟨q0, q1, q2, q3, q4, q5, q6, q7, q8⟩ := BS.out.nine
  refine bodyPost_ret (v := .agg #[.int .i64 k, .string num, .string den, .string text, .bool on, .int .i64 code, .int .i64 rows, .int .i64 cols, .slice A n c]) (by simp [results, Tryz.results84, go_sem, q0, q1, q2, q3, q4, q5, q6, q7, q8]) rfl ⟨rfl, ?_⟩
  exact below_nine HL1.out.bel (by omega) _ _ _ _ _ _ _ _ _
/-- A number as a value. -/
def nval (num den : ByteArray) : Value := .agg #[.int .i64 1, .string num, .string den, .string ⟨#[]⟩, .bool false, .int .i64 0, .int .i64 0, .int .i64 0, .slice none 0 0]
theorem nval_ok {num den : ByteArray} (h : ∃ m n d, Nt.Rd num.data.toList den.data.toList m n d) : Vl.ok ⟨1, num, den, ⟨#[]⟩, false, 0, 0, 0, none, 0, 0⟩ :=
  ⟨show (0 : Int) ≤ 1 by decide, show (1 : Int) ≤ 4 by decide, by simp [Vl.zB, Lib.toList_data], fun _ => h, fun h => absurd (show (1 : Int) = 2 from h) (by decide), fun h => absurd (show (1 : Int) = 4 from h) (by decide)⟩
set_option maxRecDepth 100000 in
set_option maxHeartbeats 1000000 in
theorem number_t (num den : ByteArray) (w : World) (he : VEnv w) (h : ∃ m n d, Nt.Rd num.data.toList den.data.toList m n d) (s1 : num.size ≤ 9223372036854775807) (s2 : den.size ≤ 9223372036854775807) :
    Calls Tryz.prog 63 #[.agg #[.string num, .string den]] w fun e w' => e = .returned (nval num den) ∧ Below w.heap.size w w' := by
  have HV := Lib.hid (show ∀ W, Below w.heap.size w W → Calls Tryz.prog 84 #[.agg #[.int .i64 1, .string num, .string den, .string ⟨#[]⟩, .bool false, .int .i64 0, .int .i64 0, .int .i64 0, .slice none 0 0]] W fun e w' => e = .returned (.agg #[.int .i64 1, .string num, .string den, .string ⟨#[]⟩, .bool false, .int .i64 0, .int .i64 0, .int .i64 0, .slice none 0 0]) ∧ Below W.heap.size W w' from fun W hW => valid_t ⟨1, num, den, ⟨#[]⟩, false, 0, 0, 0, none, 0, 0⟩ W (he.below hW) (nval_ok h) s1 s2 (show (⟨#[]⟩ : ByteArray).size ≤ 9223372036854775807 by decide))
  clear he h s1 s2
  have HL0 := Lib.hid (((Loc.start w).alloc' rfl 24 #[.string num, .string den]).alloc' (g := w.heap.size + 1) (by simp) 27 #[.int .i64 0, .string ⟨#[]⟩, .string ⟨#[]⟩, .string ⟨#[]⟩, .bool false, .int .i64 0, .int .i64 0, .int .i64 0, .slice none 0 0])
  go_enter Tryz.func63, Tryz.ntmps63
  go_wp2_with (go_at_call 84; (with_reducible refine (HV.out _ HL0.out.bel).mono ?_); rintro e w1 ⟨rfl, hb⟩; have HL1 := Lib.hid (HL0.out.step hb); have bz := HL1.out.blk (g := w.heap.size + 1) (t := 27) (cs := #[.int .i64 0, .string ⟨#[]⟩, .string ⟨#[]⟩, .string ⟨#[]⟩, .bool false, .int .i64 0, .int .i64 0, .int .i64 0, .slice none 0 0]) (by simp); obtain ⟨z0, z1, z2, z3, z4, z5, z6, z7, z8⟩ := bz.nine; obtain ⟨f0, f1, f2, f3, f4, f5, f6, f7, f8⟩ := bz.ninef; obtain ⟨bs, c0, c1, c2, c3, c4, c5, c6, c7, c8⟩ := bz.nine_set (.int .i64 1) (.string num) (.string den) (.string ⟨#[]⟩) (.bool false) (.int .i64 0) (.int .i64 0) (.int .i64 0) (.slice none 0 0); have BS := Lib.hid bs; clear bz bs hb)
  obtain ⟨q0, q1, q2, q3, q4, q5, q6, q7, q8⟩ := BS.out.nine
  refine bodyPost_ret (v := .agg #[.int .i64 1, .string num, .string den, .string ⟨#[]⟩, .bool false, .int .i64 0, .int .i64 0, .int .i64 0, .slice none 0 0]) (by simp [results, Tryz.results63, go_sem, q0, q1, q2, q3, q4, q5, q6, q7, q8]) rfl ⟨rfl, ?_⟩
  exact below_nine HL1.out.bel (by omega) _ _ _ _ _ _ _ _ _
theorem rd21 : Nt.Rd [50] [49] false 2 1 := Nt.rd_small 2 1 (by decide) (by decide) (by decide) (by decide)
theorem short21 (w : World) (he : VEnv w) : Calls Tryz.prog 17 #[.agg #[.string ⟨#[50]⟩, .string ⟨#[49]⟩]] w fun e w' => e = .returned (.tuple #[.string ⟨#[50]⟩, .bool true, .int .i64 0]) ∧ Below w.heap.size w w' :=
  (shortest_w ⟨#[50]⟩ ⟨#[49]⟩ false 2 1 w (by decide) (by decide) rd21 1 (by decide) (by decide) (by decide) he.pw).mono fun e w' ⟨h, hb⟩ => by
    rcases h with ⟨-, h⟩ | ⟨t, q, k, h1, h2, h3, h4, -⟩
    · exact absurd (Nat.one_dvd _) (h 0)
    · have hk : k = 0 := by
        rcases Nat.eq_zero_or_pos k with h | h
        · exact h
        · have : 2 ^ 1 ≤ 2 ^ k := Nat.pow_le_pow_right (by decide) h
          omega
      subst hk
      obtain rfl : q = 2 := by omega
      obtain rfl : t = ⟨#[50]⟩ := ba_ext (by rw [h2]; decide +kernel)
      exact ⟨h1, hb⟩
set_option maxHeartbeats 1000000 in
theorem decimal21 (w : World) (he : VEnv w) : Calls Tryz.prog 103 #[.agg #[.string ⟨#[50]⟩, .string ⟨#[49]⟩]] w fun e w' => e = .returned (.string ⟨#[50]⟩) ∧ Below w.heap.size w w' := by
  have HS := Lib.hid fun W (hW : Below w.heap.size w W) => short21 W (he.below hW)
  clear he
  have HL0 := Lib.hid ((Loc.start w).alloc' rfl 24 #[.string ⟨#[50]⟩, .string ⟨#[49]⟩])
  go_enter Tryz.func103, Tryz.ntmps103
  go_wp2_with (go_at_call 17; (with_reducible refine (HS.out _ HL0.out.bel).mono ?_); rintro e w1 ⟨rfl, hb⟩; have HL1 := Lib.hid (HL0.out.step hb); clear hb)
  go_ret
  exact ⟨rfl, HL1.out.bel⟩
set_option maxRecDepth 100000 in
set_option maxHeartbeats 1000000 in
theorem shown21 (w : World) (he : VEnv w) : Calls Tryz.prog 45 #[nval ⟨#[50]⟩ ⟨#[49]⟩] w fun e w' => e = .returned (.string ⟨#[50]⟩) ∧ Below w.heap.size w w' := by
  have HS := Lib.hid fun W (hW : Below w.heap.size w W) => decimal21 W (he.below hW)
  clear he
  unfold nval
  have HL0 := Lib.hid ((Loc.start w).alloc' rfl 27 #[.int .i64 1, .string ⟨#[50]⟩, .string ⟨#[49]⟩, .string ⟨#[]⟩, .bool false, .int .i64 0, .int .i64 0, .int .i64 0, .slice none 0 0])
  go_enter Tryz.func45, Tryz.ntmps45
  go_wp2_with (go_at_call 103; (with_reducible refine (HS.out _ HL0.out.bel).mono ?_); rintro e w1 ⟨rfl, hb⟩; have HL1 := Lib.hid (HL0.out.step hb); clear hb)
  go_ret
  exact ⟨rfl, HL1.out.bel⟩
set_option maxRecDepth 100000 in
set_option maxHeartbeats 1000000 in
theorem show21 (w : World) (he : VEnv w) : Calls Tryz.prog 16 #[nval ⟨#[50]⟩ ⟨#[49]⟩] w fun e w' => e = .returned (.tuple #[.string ⟨#[50]⟩, .int .i64 0]) ∧ Below w.heap.size w w' := by
  have HS := Lib.hid fun W (hW : Below w.heap.size w W) => shown21 W (he.below hW)
  have HC := Lib.hid (show ∀ W, Below w.heap.size w W → Calls Tryz.prog 15 #[nval ⟨#[50]⟩ ⟨#[49]⟩] W fun e w' => e = .returned (.int .i64 0) ∧ Below W.heap.size W w' from fun W hW => check_t' ⟨1, ⟨#[50]⟩, ⟨#[49]⟩, ⟨#[]⟩, false, 0, 0, 0, none, 0, 0⟩ W (he.below hW) (nval_ok ⟨_, _, _, rd21⟩) (by decide) (by decide) (by decide))
  clear he
  unfold nval at *
  have HL0 := Lib.hid ((Loc.start w).alloc' rfl 27 #[.int .i64 1, .string ⟨#[50]⟩, .string ⟨#[49]⟩, .string ⟨#[]⟩, .bool false, .int .i64 0, .int .i64 0, .int .i64 0, .slice none 0 0])
  go_enter Tryz.func16, Tryz.ntmps16
  go_wp2_with (first
    | (go_at_call 15; (with_reducible refine (HC.out _ HL0.out.bel).mono ?_); rintro e w1 ⟨rfl, hb⟩; have HL1 := Lib.hid (HL0.out.step hb); obtain ⟨x0, x1, x2, x3, x4, x5, x6, x7, x8⟩ := (HL1.out.blk (g := w.heap.size) (t := 27) (cs := #[.int .i64 1, .string ⟨#[50]⟩, .string ⟨#[49]⟩, .string ⟨#[]⟩, .bool false, .int .i64 0, .int .i64 0, .int .i64 0, .slice none 0 0]) (by simp)).nine; clear hb)
    | (go_at_call 45; (with_reducible refine (HS.out _ HL1.out.bel).mono ?_); rintro e w2 ⟨rfl, hb⟩; have HL2 := Lib.hid (HL1.out.step hb); clear hb))
  go_ret2
  exact ⟨rfl, HL2.out.bel⟩
end Go.Proofs.YtmmlcponmdalmaaGreatDoor

namespace Go.Proofs.YtmmlcponmdalmaaGreatDoor
open Go.RowKit

abbrev fA : Value := .agg #[.string ⟨#[]⟩, .string ⟨#[35, 68, 73, 86, 47, 48, 33]⟩, .string ⟨#[35, 86, 65, 76, 85, 69, 33]⟩, .string ⟨#[35, 82, 69, 70, 33]⟩, .string ⟨#[35, 78, 65, 77, 69, 63]⟩, .string ⟨#[35, 78, 85, 77, 33]⟩, .string ⟨#[35, 78, 47, 65]⟩, .string ⟨#[35, 83, 80, 73, 76, 76, 33]⟩, .string ⟨#[35, 67, 89, 67, 76, 69, 33]⟩]
theorem ixf (k : Nat) (hk : k < 9) (W : World) : (Instr.index 107 (.agg #[.string ⟨#[]⟩, .string ⟨#[35, 68, 73, 86, 47, 48, 33]⟩, .string ⟨#[35, 86, 65, 76, 85, 69, 33]⟩, .string ⟨#[35, 82, 69, 70, 33]⟩, .string ⟨#[35, 78, 65, 77, 69, 63]⟩, .string ⟨#[35, 78, 85, 77, 33]⟩, .string ⟨#[35, 78, 47, 65]⟩, .string ⟨#[35, 83, 80, 73, 76, 76, 33]⟩, .string ⟨#[35, 67, 89, 67, 76, 69, 33]⟩]) (.int .i64 (k : Int))).run Tryz.prog W = .ok (.string (faultS k)) W := by
  rcases (show k = 0 ∨ k = 1 ∨ k = 2 ∨ k = 3 ∨ k = 4 ∨ k = 5 ∨ k = 6 ∨ k = 7 ∨ k = 8 by omega) with rfl | rfl | rfl | rfl | rfl | rfl | rfl | rfl | rfl <;> kernel_rfl
theorem ixn0 (W : World) : (Instr.index 109 (.agg #[.func (.func 58) #[] #[], .func (.func 59) #[] #[], .func (.func 60) #[] #[], .func (.func 61) #[] #[], .func (.func 62) #[] #[]]) (.int .i64 0)).run Tryz.prog W = .ok (.func (.func 58) #[] #[]) W := by kernel_rfl
theorem ixn1 (W : World) : (Instr.index 109 (.agg #[.func (.func 58) #[] #[], .func (.func 59) #[] #[], .func (.func 60) #[] #[], .func (.func 61) #[] #[], .func (.func 62) #[] #[]]) (.int .i64 1)).run Tryz.prog W = .ok (.func (.func 59) #[] #[]) W := by kernel_rfl
theorem ixn2 (W : World) : (Instr.index 109 (.agg #[.func (.func 58) #[] #[], .func (.func 59) #[] #[], .func (.func 60) #[] #[], .func (.func 61) #[] #[], .func (.func 62) #[] #[]]) (.int .i64 2)).run Tryz.prog W = .ok (.func (.func 60) #[] #[]) W := by kernel_rfl
theorem not_fault (k : Nat) (hk : k ≤ 8) : (([49, 57, 48, 48, 45, 48, 49, 45, 48, 50] : List UInt8) == (faultS k).toList) = false := by
  rw [Lib.toList_data]
  rcases (show k = 0 ∨ k = 1 ∨ k = 2 ∨ k = 3 ∨ k = 4 ∨ k = 5 ∨ k = 6 ∨ k = 7 ∨ k = 8 by omega) with rfl | rfl | rfl | rfl | rfl | rfl | rfl | rfl | rfl <;> decide
set_option maxRecDepth 100000 in
set_option maxHeartbeats 2000000 in
theorem enter0 (w : World) (he : VEnv w) : Calls Tryz.prog 18 #[.string ⟨#[49, 57, 48, 48, 45, 48, 49, 45, 48, 50]⟩] w fun e w' => e = .returned (nval ⟨#[50]⟩ ⟨#[49]⟩) ∧ Below w.heap.size w w' := by
  have HE := Lib.hid (show ∀ W, Below w.heap.size w W → VEnv W from fun W hb => he.below hb)
  have HTX := Lib.hid (show ∀ W, Below w.heap.size w W → Calls Tryz.prog 42 #[.string ⟨#[49, 57, 48, 48, 45, 48, 49, 45, 48, 50]⟩] W fun e w' => e = .returned (.int .i64 0) ∧ Below W.heap.size W w' from fun W hW => by
    have := vtext_any ⟨#[49, 57, 48, 48, 45, 48, 49, 45, 48, 50]⟩ W (he.below hW).u8 (by decide)
    rwa [show txtE ⟨#[49, 57, 48, 48, 45, 48, 49, 45, 48, 50]⟩ = 0 from by decide +kernel] at this)
  have HLO := Lib.hid (show ∀ W, Calls Tryz.prog 56 #[.string ⟨#[49, 57, 48, 48, 45, 48, 49, 45, 48, 50]⟩] W fun e w' => e = .returned (.string ⟨#[49, 57, 48, 48, 45, 48, 49, 45, 48, 50]⟩) ∧ Below W.heap.size W w' from fun W => by
    have := lower_any ⟨#[49, 57, 48, 48, 45, 48, 49, 45, 48, 50]⟩ W (by decide)
    rwa [show (⟨(lowL (⟨#[49, 57, 48, 48, 45, 48, 49, 45, 48, 50]⟩ : ByteArray).data.toList).toArray⟩ : ByteArray) = ⟨#[49, 57, 48, 48, 45, 48, 49, 45, 48, 50]⟩ from ba_ext (by decide +kernel)] at this)
  clear he
  have HL0 := Lib.hid ((Loc.start w).alloc' rfl 27 #[.int .i64 0, .string ⟨#[]⟩, .string ⟨#[]⟩, .string ⟨#[]⟩, .bool false, .int .i64 0, .int .i64 0, .int .i64 0, .slice none 0 0])
  go_enter Tryz.func18, Tryz.ntmps18
  go_upto_region 11 with (first
    | (go_at_call 42; (with_reducible refine (HTX.out _ HL0.out.bel).mono ?_); rintro e w1 ⟨rfl, hb⟩; have HL1 := Lib.hid (HL0.out.step hb); clear hb)
    | (go_at_call 55; (with_reducible refine (cp2 _).mono ?_); rintro e w2 ⟨rfl, rfl⟩)
    | (go_at_call 56; (with_reducible refine (HLO.out _).mono ?_); rintro e w3 ⟨rfl, hb⟩; have HL2 := Lib.hid (HL1.out.step hb); clear hb))
  obtain ⟨-, -, -, e0, e1, e2, e3, e4, e5, e6, e7, e8⟩ := HE.out _ HL2.out.bel
  go_wp2_with fail
  clear e0 e1 e2 e3 e4 e5 e6 e7 e8
  go_loop [39] (fun i => ∃ k : Nat, k ≤ 9 ∧ i = .int .i64 (k : Int)) (fun i => 9 - (intOf i).toNat)
  case atStart => exact ⟨0, by decide, rfl⟩
  case round =>
    obtain ⟨k, hk, rfl⟩ := hrel
    by_cases hlt : k < 9
    · have hix := ixf k hlt
      have hnf := not_fault k (by omega)
      generalize faultS k = fs at *
      go_wp2_with fail
      all_goals
        go_round
        case rel => exact ⟨k + 1, by omega, by go_num⟩
        case measure => simp [intOf]; omega
    · obtain rfl : k = 9 := by omega
      go_wp2_with fail
      have HNU := Lib.hid fun W => number0 W
      have HMI := Lib.hid fun W (hW : Below w.heap.size w W) => mixed0 W (HE.out W hW)
      have HDA := Lib.hid fun W (hW : Below w.heap.size w W) => date0 W (HE.out W hW)
      have HNB := Lib.hid (show ∀ W, Below w.heap.size w W → Calls Tryz.prog 63 #[.agg #[.string ⟨#[50]⟩, .string ⟨#[49]⟩]] W fun e w' => e = .returned (.agg #[.int .i64 1, .string ⟨#[50]⟩, .string ⟨#[49]⟩, .string ⟨#[]⟩, .bool false, .int .i64 0, .int .i64 0, .int .i64 0, .slice none 0 0]) ∧ Below W.heap.size W w' from fun W hW => number_t ⟨#[50]⟩ ⟨#[49]⟩ W (HE.out W hW) ⟨_, _, _, rd21⟩ (by decide) (by decide))
      go_loopw [54] (fun i wr => ∃ k : Nat, k ≤ 2 ∧ i = .int .i64 (k : Int) ∧ Hid (Loc w [(w.heap.size, 27, #[.int .i64 0, .string ⟨#[]⟩, .string ⟨#[]⟩, .string ⟨#[]⟩, .bool false, .int .i64 0, .int .i64 0, .int .i64 0, .slice none 0 0])] wr)) (fun i _ => 9 - (intOf i).toNat)
      case atStart => exact ⟨0, by decide, rfl, HL2⟩
      case round =>
        obtain ⟨k, hk, rfl, HL⟩ := hrel
        rcases (show k = 0 ∨ k = 1 ∨ k = 2 by omega) with rfl | rfl | rfl
        · have hix := ixn0
          go_wp2_with (go_at_call 58; (with_reducible refine (HNU.out _).mono ?_); rintro e w4 ⟨rfl, hb⟩; have HL4 := Lib.hid (HL.out.step hb); clear hb)
          go_roundw
          case rel => exact ⟨1, by decide, rfl, (Lib.hid ((HL4.out.alloc 24 #[.string ⟨#[]⟩, .string ⟨#[]⟩]).perm (by simp)))⟩
          case measure => simp [intOf]
        · have hix := ixn1
          go_wp2_with (go_at_call 59; (with_reducible refine (HMI.out _ HL.out.bel).mono ?_); rintro e w4 ⟨rfl, hb⟩; have HL4 := Lib.hid (HL.out.step hb); clear hb)
          go_roundw
          case rel => exact ⟨2, by decide, rfl, (Lib.hid ((HL4.out.alloc 24 #[.string ⟨#[]⟩, .string ⟨#[]⟩]).perm (by simp)))⟩
          case measure => simp [intOf]
        · have hix := ixn2
          go_wp2_with (first
            | (go_at_call 60; (with_reducible refine (HDA.out _ HL.out.bel).mono ?_); rintro e w4 ⟨rfl, hb⟩; have HL4 := Lib.hid ((HL.out.step hb).alloc 24 #[.string ⟨#[50]⟩, .string ⟨#[49]⟩]); clear hb)
            | (go_at_call 63; (with_reducible refine (HNB.out _ HL4.out.bel).mono ?_); rintro e w5 ⟨rfl, hb⟩; have HL5 := Lib.hid (HL4.out.step hb); have bz := HL5.out.blk (g := w.heap.size) (t := 27) (cs := #[.int .i64 0, .string ⟨#[]⟩, .string ⟨#[]⟩, .string ⟨#[]⟩, .bool false, .int .i64 0, .int .i64 0, .int .i64 0, .slice none 0 0]) (by simp); obtain ⟨z0, z1, z2, z3, z4, z5, z6, z7, z8⟩ := bz.nine; obtain ⟨f0, f1, f2, f3, f4, f5, f6, f7, f8⟩ := bz.ninef; obtain ⟨bs, c0, c1, c2, c3, c4, c5, c6, c7, c8⟩ := bz.nine_set (.int .i64 1) (.string ⟨#[50]⟩) (.string ⟨#[49]⟩) (.string ⟨#[]⟩) (.bool false) (.int .i64 0) (.int .i64 0) (.int .i64 0) (.slice none 0 0); have BS := Lib.hid bs; clear bz bs hb))
          obtain ⟨q0, q1, q2, q3, q4, q5, q6, q7, q8⟩ := BS.out.nine
          refine bodyPost_ret (v := .agg #[.int .i64 1, .string ⟨#[50]⟩, .string ⟨#[49]⟩, .string ⟨#[]⟩, .bool false, .int .i64 0, .int .i64 0, .int .i64 0, .slice none 0 0]) (by simp [results, Tryz.results18, go_sem, q0, q1, q2, q3, q4, q5, q6, q7, q8]) rfl ⟨rfl, ?_⟩
          exact below_nine HL5.out.bel (by omega) _ _ _ _ _ _ _ _ _

set_option maxRecDepth 100000 in
theorem values_any (w : World) (he : VEnv w) : Calls Tryz.prog 14 #[] w fun e w' => e = .returned (.bool true) ∧ Below w.heap.size w w' := by
  have HE := Lib.hid (enter0 w he)
  have HS := Lib.hid fun W (hW : Below w.heap.size w W) => show21 W (he.below hW)
  clear he
  go_enter Tryz.func14, Tryz.ntmps14
  go_wp2_with (first
    | (go_at_call 18; (with_reducible refine HE.out.mono ?_); rintro e w1 ⟨rfl, hb⟩; have HB1 := Lib.hid hb; clear hb)
    | (go_at_call 16; (with_reducible refine (HS.out _ HB1.out).mono ?_); rintro e w2 ⟨rfl, hb⟩; have HB2 := Lib.hid (HB1.out.trans (hb.mono HB1.out.size)); clear hb))
  go_ret
  exact ⟨rfl, HB2.out⟩
end Go.Proofs.YtmmlcponmdalmaaGreatDoor
