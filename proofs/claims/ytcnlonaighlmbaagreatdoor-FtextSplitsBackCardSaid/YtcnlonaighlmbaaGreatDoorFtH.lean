/- formulas: a whole number as a value; words for walks. -/
import Derived.Test.YtcnlonaighlmbaaGreatDoorFtD
import Derived.Test.YtcnlonaighlmbaaGreatDoorFtN
import Derived.Test.YtcnlonaighlmbaaGreatDoorFtWv
import Derived.Test.YtcnlonaighlmbaaGreatDoorHai
import Derived.Test.YtcnlonaighlmbaaGreatDoorMod
set_option linter.unusedSimpArgs false
set_option linter.unusedVariables false
namespace Go.Proofs.YtcnlonaighlmbaaGreatDoor
open Go.RowKit

set_option maxRecDepth 100000 in
set_option maxHeartbeats 1000000 in
theorem whole_h (k : Nat) (w : World) (he : VEnv w) (hk : k ≤ 100000) : Calls Tryz.prog 11 #[.int .i64 (k : Int)] w fun e w' => e = .returned (nV k).v ∧ Below w.heap.size w w' := by
  show Calls _ _ _ w fun e w' => e = .returned (.agg #[.int .i64 1, .string (nt k), .string ⟨#[49]⟩, .string ⟨#[]⟩, .bool false, .int .i64 0, .int .i64 0, .int .i64 0, .slice none 0 0]) ∧ _
  have HW := Lib.hid (show ∀ W, Below w.heap.size w W → Calls Tryz.prog 22 #[.int .i64 (k : Int)] W fun e w' => e = .returned (.agg #[.int .i64 1, .string (nt k), .string ⟨#[49]⟩, .string ⟨#[]⟩, .bool false, .int .i64 0, .int .i64 0, .int .i64 0, .slice none 0 0]) ∧ Below W.heap.size W w' from fun W hW => whole_t k W hk (Lib.tabBelow_of_tabIs he.pw W hW))
  obtain ⟨t, ht⟩ : ∃ t, t = nt k := ⟨_, rfl⟩
  rw [← ht] at HW
  rw [← ht]
  clear ht he
  have HL0 := Lib.hid ((Loc.start w).alloc' rfl 26 #[.int .i64 0, .string ⟨#[]⟩, .string ⟨#[]⟩, .string ⟨#[]⟩, .bool false, .int .i64 0, .int .i64 0, .int .i64 0, .slice none 0 0])
  go_enter Tryz.func11, Tryz.ntmps11
  go_wp2_with (go_at_call 22; (with_reducible refine (HW.out _ HL0.out.bel).mono ?_); rintro e w1 ⟨rfl, hb⟩; have HL1 := Lib.hid (HL0.out.step hb); have bz := HL1.out.blk (g := w.heap.size) (t := 26) (List.mem_cons_self ..); obtain ⟨z0, z1, z2, z3, z4, z5, z6, z7, z8⟩ := bz.nine; obtain ⟨f0, f1, f2, f3, f4, f5, f6, f7, f8⟩ := bz.ninef; have BS := Lib.hid (bz.nine_set (.int .i64 1) (.string t) (.string ⟨#[49]⟩) (.string ⟨#[]⟩) (.bool false) (.int .i64 0) (.int .i64 0) (.int .i64 0) (.slice none 0 0)).1; clear bz hb)
  obtain ⟨q0, q1, q2, q3, q4, q5, q6, q7, q8⟩ := BS.out.nine
  refine bodyPost_ret (v := .agg #[.int .i64 1, .string t, .string ⟨#[49]⟩, .string ⟨#[]⟩, .bool false, .int .i64 0, .int .i64 0, .int .i64 0, .slice none 0 0]) (by simp [results, Tryz.results11, go_sem, q0, q1, q2, q3, q4, q5, q6, q7, q8]) rfl ⟨rfl, ?_⟩
  exact below_nine HL1.out.bel (Nat.le_refl _) _ _ _ _ _ _ _ _ _
theorem gen_w {K : Act → World → Prop} {a : Act} {W : World} (h : ∀ wa, wa = W → K a wa) : K a W := h W rfl
end Go.Proofs.YtcnlonaighlmbaaGreatDoor

set_option linter.unusedSimpArgs false
set_option linter.unusedVariables false
namespace Go.Proofs.YtcnlonaighlmbaaGreatDoor
open Go.RowKit

theorem same_t (t : ByteArray) (W : World) : Calls Tryz.prog 12 #[(.agg #[.int .i64 2, .string ⟨#[]⟩, .string ⟨#[]⟩, .string t, .bool false, .int .i64 0, .int .i64 0, .int .i64 0, .slice none 0 0]), (.agg #[.int .i64 2, .string ⟨#[]⟩, .string ⟨#[]⟩, .string t, .bool false, .int .i64 0, .int .i64 0, .int .i64 0, .slice none 0 0])] W fun e w' => e = .returned (.bool true) ∧ Below W.heap.size W w' := same_v (tV t) rfl W
theorem same_n (n : Nat) (W : World) : Calls Tryz.prog 12 #[(.agg #[.int .i64 1, .string (nt n), .string ⟨#[49]⟩, .string ⟨#[]⟩, .bool false, .int .i64 0, .int .i64 0, .int .i64 0, .slice none 0 0]), (.agg #[.int .i64 1, .string (nt n), .string ⟨#[49]⟩, .string ⟨#[]⟩, .bool false, .int .i64 0, .int .i64 0, .int .i64 0, .slice none 0 0])] W fun e w' => e = .returned (.bool true) ∧ Below W.heap.size W w' := same_v (nV n) rfl W
theorem whole_x (x : Int) (j : Nat) (W : World) (he : VEnv W) (hx : x = (j : Int)) (hj : j ≤ 100000) : Calls Tryz.prog 11 #[.int .i64 x] W fun e w' => e = .returned (.agg #[.int .i64 1, .string (nt j), .string ⟨#[49]⟩, .string ⟨#[]⟩, .bool false, .int .i64 0, .int .i64 0, .int .i64 0, .slice none 0 0]) ∧ Below W.heap.size W w' := by
  subst hx
  exact whole_h j W he hj
theorem mod_x (n x : Int) (M r : Nat) (W : World) (hx : x = (M : Int)) (hM : 0 < M) (hM2 : M ≤ 100000) (hn : -9223372036854775808 ≤ n ∧ n ≤ 9223372036854775807) (hr : n % (M : Int) = (r : Int)) : Calls Tryz.prog 10 #[.int .i64 n, .int .i64 x] W fun e w' => e = .returned (.int .i64 (r : Int)) ∧ W = w' := by
  subst hx
  rw [← hr]
  exact mod_any n M W (by omega) (by omega) hn
theorem nat_mod (n : Int) (M : Nat) (h : 0 < M) : ∃ r : Nat, n % (M : Int) = (r : Int) ∧ r < M := by
  have h1 := Int.emod_nonneg n (show (M : Int) ≠ 0 by omega)
  have h2 := Int.emod_lt_of_pos n (show (0 : Int) < M by omega)
  exact ⟨(n % (M : Int)).toNat, by omega, by omega⟩
end Go.Proofs.YtcnlonaighlmbaaGreatDoor
