/- formulas: a whole number as a value; words for walks. -/
import Derived.Test.YtcnlonaighlmbaaGreatDoorFtD
import Derived.Test.YtcnlonaighlmbaaGreatDoorFtN
import Derived.Test.YtcnlonaighlmbaaGreatDoorFtWv
import Derived.Test.YtcnlonaighlmbaaGreatDoorHai
import Derived.Test.YtcnlonaighlmbaaGreatDoorMod
set_option linter.unusedSimpArgs false
set_option linter.unusedVariables false
namespace Go.Proofs.YtcnlonaighlmbaaGreatDoor
open Go.RowKit

set_option maxRecDepth 100000 in
set_option maxHeartbeats 1000000 in
theorem whole_h (k : Nat) (w : World) (he : VEnv w) (hk : k ≤ 100000) : Calls Tryz.prog 11 #[.int .i64 (k : Int)] w fun e w' => e = .returned (nV k).v ∧ Below w.heap.size w w' := by
  show Calls _ _ _ w fun e w' => e = .returned (.agg #[.int .i64 1, .string (nt k), .string ⟨#[49]⟩, .string ⟨#[]⟩, .bool false, .int .i64 0, .int .i64 0, .int .i64 0, .slice none 0 0]) ∧ _
  have HW := Lib.hid (show ∀ W, Below w.heap.size w W → Calls Tryz.prog 22 #[.int .i64 (k : Int)] W fun e w' => e = .returned (.agg #[.int .i64 1, .string (nt k), .string ⟨#[49]⟩, .string ⟨#[]⟩, .bool false, .int .i64 0, .int .i64 0, .int .i64 0, .slice none 0 0]) ∧ Below W.heap.size W w' from fun W hW => whole_t k W hk (Lib.tabBelow_of_tabIs he.pw W hW))
  obtain ⟨t, ht⟩ : ∃ t, t = nt k := ⟨_, rfl⟩
  rw [← ht] at HW
  rw [← ht]
  clear ht he
  have HL0 := Lib.hid ((Loc.start w).alloc' rfl 26 #[.int .i64 0, .string ⟨#[]⟩, .string ⟨#[]⟩, .string ⟨#[]⟩, .bool false, .int .i64 0, .int .i64 0, .int .i64 0, .slice none 0 0])
  go_enter Tryz.func11, Tryz.ntmps11
  go_wp2_with (go_at_call 22; (with_reducible refine (HW.out _ HL0.out.bel).mono ?_); rintro e w1 ⟨rfl, hb⟩; have HL1 := Lib.hid (HL0.out.step hb); have bz := HL1.out.blk (g := w.heap.size) (t := 26) (List.mem_cons_self ..); obtain ⟨z0, z1, z2, z3, z4, z5, z6, z7, z8⟩ := bz.nine; obtain ⟨f0, f1, f2, f3, f4, f5, f6, f7, f8⟩ := bz.ninef; have BS := Lib.hid (bz.nine_set (.int .i64 1) (.string t) (.string ⟨#[49]⟩) (.string ⟨#[]⟩) (.bool false) (.int .i64 0) (.int .i64 0) (.int .i64 0) (.slice none 0 0)).1; clear bz hb)
  obtain ⟨q0, q1, q2, q3, q4, q5, q6, q7, q8⟩ := BS.out.nine
  refine bodyPost_ret (v := .agg #[.int .i64 1, .string t, .string ⟨#[49]⟩, .string ⟨#[]⟩, .bool false, .int .i64 0, .int .i64 0, .int .i64 0, .slice none 0 0]) (by simp [results, Tryz.results11, go_sem, q0, q1, q2, q3, q4, q5, q6, q7, q8]) rfl ⟨rfl, ?_⟩
  exact below_nine HL1.out.bel (Nat.le_refl _) _ _ _ _ _ _ _ _ _
theorem gen_w {K : Act → World → Prop} {a : Act} {W : World} (h : ∀ wa, wa = W → K a wa) : K a W := h W rfl
end Go.Proofs.YtcnlonaighlmbaaGreatDoor
