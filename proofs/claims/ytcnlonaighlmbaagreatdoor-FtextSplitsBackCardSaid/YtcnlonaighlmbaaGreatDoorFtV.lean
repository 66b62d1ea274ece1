/- value: a text as an argument. -/
import Derived.Test.YtcnlonaighlmbaaGreatDoorFtG
import Derived.Test.YtcnlonaighlmbaaGreatDoorFtP
set_option linter.unusedSimpArgs false
set_option linter.unusedVariables false
namespace Go.Proofs.YtcnlonaighlmbaaGreatDoor
open Go.RowKit

theorem txtE_size {t : ByteArray} (h : txtE t = 0) : t.size ≤ 32767 := by
  obtain ⟨_, _, _, h⟩ := chs_txtE h
  exact h
set_option maxRecDepth 100000 in
set_option maxHeartbeats 2000000 in
theorem shown_x (num den text : ByteArray) (on : Bool) (code rows cols : Int) (A : Option Addr) (n c : Nat) (w : World) :
    Calls Tryz.prog 151 #[.agg #[.int .i64 2, .string num, .string den, .string text, .bool on, .int .i64 code, .int .i64 rows, .int .i64 cols, .slice A n c]] w fun e w' => e = .returned (.string text) ∧ Below w.heap.size w w' := by
  have HL0 := Lib.hid ((Loc.start w).alloc' rfl 26 #[.int .i64 2, .string num, .string den, .string text, .bool on, .int .i64 code, .int .i64 rows, .int .i64 cols, .slice A n c])
  go_enter Tryz.func151, Tryz.ntmps151
  go_wp2_with (fail)
  go_ret
  exact ⟨rfl, HL0.out.bel⟩
set_option maxRecDepth 100000 in
set_option maxHeartbeats 4000000 in
theorem scalar_t (t : ByteArray) (W : World) (he : VEnv W) (ht : txtE t = 0) : Calls Tryz.prog 150 #[(tV t).v] W fun e w' => e = .returned (tV t).v ∧ Below W.heap.size W w' := by
  have HV := Lib.hid (show ∀ W', Below W.heap.size W W' → Calls Tryz.prog 18 #[(tV t).v] W' fun e w' => e = .returned (tV t).v ∧ Below W'.heap.size W' w' from fun W' hW => valid_t (tV t) W' (he.below hW) (tval_ok ht) (show (⟨#[]⟩ : ByteArray).size ≤ 9223372036854775807 by decide) (show (⟨#[]⟩ : ByteArray).size ≤ 9223372036854775807 by decide) (by have := txtE_size ht; exact Nat.le_trans this (by decide)))
  clear he ht
  unfold tV Vl.v Vl.cs at *
  dsimp only at *
  have HL0 := Lib.hid (((Loc.start W).alloc' rfl 26 #[.int .i64 2, .string ⟨#[]⟩, .string ⟨#[]⟩, .string t, .bool false, .int .i64 0, .int .i64 0, .int .i64 0, .slice none 0 0]).alloc' (g := W.heap.size + 1) (by simp) 26 #[.int .i64 0, .string ⟨#[]⟩, .string ⟨#[]⟩, .string ⟨#[]⟩, .bool false, .int .i64 0, .int .i64 0, .int .i64 0, .slice none 0 0])
  go_enter Tryz.func150, Tryz.ntmps150
  go_upto_region 2 with (go_at_call 18; (with_reducible refine (HV.out _ HL0.out.bel).mono ?_); rintro e w2 ⟨rfl, hb⟩; have HL1 := Lib.hid (HL0.out.step hb); clear hb HL0; obtain ⟨f0, f1, f2, f3, f4, f5, f6, f7, f8⟩ := (HL1.out.blk (g := W.heap.size) (t := 26) (cs := #[.int .i64 2, .string ⟨#[]⟩, .string ⟨#[]⟩, .string t, .bool false, .int .i64 0, .int .i64 0, .int .i64 0, .slice none 0 0]) (List.mem_cons_of_mem _ (List.mem_cons_self ..))).ninef; obtain ⟨z0, z1, z2, z3, z4, z5, z6, z7, z8⟩ := (HL1.out.blk (g := W.heap.size) (t := 26) (cs := #[.int .i64 2, .string ⟨#[]⟩, .string ⟨#[]⟩, .string t, .bool false, .int .i64 0, .int .i64 0, .int .i64 0, .slice none 0 0]) (List.mem_cons_of_mem _ (List.mem_cons_self ..))).nine)
  clear f0 f1 f2 f3 f4 f5 f6 f7 f8 z0 z1 z2 z3 z4 z5 z6 z7 z8
  have HL2 := Lib.hid (loc_swap ((loc_swap HL1.out).set9k (one_ne (by omega)) (.int .i64 2) (.string ⟨#[]⟩) (.string ⟨#[]⟩) (.string t) (.bool false) (.int .i64 0) (.int .i64 0) (.int .i64 0) (.slice none 0 0)))
  clear HL1
  revert HL2
  generalize (((((((((w2.setCell ⟨W.heap.size, 0, none⟩ (.int .i64 2)).setCell ⟨W.heap.size, 1, none⟩ (.string ⟨#[]⟩)).setCell ⟨W.heap.size, 2, none⟩ (.string ⟨#[]⟩)).setCell ⟨W.heap.size, 3, none⟩ (.string t)).setCell ⟨W.heap.size, 4, none⟩ (.bool false)).setCell ⟨W.heap.size, 5, none⟩ (.int .i64 0)).setCell ⟨W.heap.size, 6, none⟩ (.int .i64 0)).setCell ⟨W.heap.size, 7, none⟩ (.int .i64 0)).setCell ⟨W.heap.size, 8, none⟩ (.slice none 0 0)) = w3
  intro HL2
  obtain ⟨k0, k1, k2, k3, k4, k5, k6, k7, k8⟩ := (HL2.out.blk (g := W.heap.size) (t := 26) (cs := #[.int .i64 2, .string ⟨#[]⟩, .string ⟨#[]⟩, .string t, .bool false, .int .i64 0, .int .i64 0, .int .i64 0, .slice none 0 0]) (List.mem_cons_of_mem _ (List.mem_cons_self ..))).nine
  have HBW := Lib.hid (HL2.out.blk (g := W.heap.size + 1) (t := 26) (cs := #[.int .i64 0, .string ⟨#[]⟩, .string ⟨#[]⟩, .string ⟨#[]⟩, .bool false, .int .i64 0, .int .i64 0, .int .i64 0, .slice none 0 0]) (List.mem_cons_self ..))
  obtain ⟨f0, f1, f2, f3, f4, f5, f6, f7, f8⟩ := HBW.out.ninef
  obtain ⟨z0, z1, z2, z3, z4, z5, z6, z7, z8⟩ := HBW.out.nine
  go_upto_region 99 with fail
  clear k0 k1 k2 k3 k4 k5 k6 k7 k8 f0 f1 f2 f3 f4 f5 f6 f7 f8 z0 z1 z2 z3 z4 z5 z6 z7 z8
  obtain ⟨q0, q1, q2, q3, q4, q5, q6, q7, q8⟩ := (HBW.out.nine_set (.int .i64 2) (.string ⟨#[]⟩) (.string ⟨#[]⟩) (.string t) (.bool false) (.int .i64 0) (.int .i64 0) (.int .i64 0) (.slice none 0 0)).1.nine
  refine bodyPost_ret (v := .agg #[.int .i64 2, .string ⟨#[]⟩, .string ⟨#[]⟩, .string t, .bool false, .int .i64 0, .int .i64 0, .int .i64 0, .slice none 0 0]) (by simp [results, Tryz.results150, go_sem, q0, q1, q2, q3, q4, q5, q6, q7, q8]) rfl ⟨rfl, below_nine HL2.out.bel (by omega) _ _ _ _ _ _ _ _ _⟩
set_option maxRecDepth 100000 in
set_option maxHeartbeats 4000000 in
theorem totext_t (t : ByteArray) (W : World) (he : VEnv W) (ht : txtE t = 0) : Calls Tryz.prog 106 #[(tV t).v] W fun e w' => e = .returned (.tuple #[.string t, .int .i64 0]) ∧ Below W.heap.size W w' := by
  have HV := Lib.hid fun W' (hW : Below W.heap.size W W') => scalar_t t W' (he.below hW) ht
  have HSH := Lib.hid fun W' => shown_x ⟨#[]⟩ ⟨#[]⟩ t false 0 0 0 none 0 0 W'
  clear he ht
  unfold tV Vl.v Vl.cs at *
  dsimp only at *
  have HL0 := Lib.hid ((Loc.start W).alloc' rfl 26 #[.int .i64 2, .string ⟨#[]⟩, .string ⟨#[]⟩, .string t, .bool false, .int .i64 0, .int .i64 0, .int .i64 0, .slice none 0 0])
  go_enter Tryz.func106, Tryz.ntmps106
  go_upto_region 2 with (go_at_call 150; (with_reducible refine (HV.out _ HL0.out.bel).mono ?_); rintro e w2 ⟨rfl, hb⟩; have HL1 := Lib.hid (HL0.out.step hb); clear hb HL0; obtain ⟨f0, f1, f2, f3, f4, f5, f6, f7, f8⟩ := (HL1.out.blk (g := W.heap.size) (t := 26) (cs := #[.int .i64 2, .string ⟨#[]⟩, .string ⟨#[]⟩, .string t, .bool false, .int .i64 0, .int .i64 0, .int .i64 0, .slice none 0 0]) (List.mem_cons_self ..)).ninef; obtain ⟨z0, z1, z2, z3, z4, z5, z6, z7, z8⟩ := (HL1.out.blk (g := W.heap.size) (t := 26) (cs := #[.int .i64 2, .string ⟨#[]⟩, .string ⟨#[]⟩, .string t, .bool false, .int .i64 0, .int .i64 0, .int .i64 0, .slice none 0 0]) (List.mem_cons_self ..)).nine)
  clear f0 f1 f2 f3 f4 f5 f6 f7 f8 z0 z1 z2 z3 z4 z5 z6 z7 z8
  have HL2 := Lib.hid (HL1.out.set9k (fun x hx => by cases hx) (.int .i64 2) (.string ⟨#[]⟩) (.string ⟨#[]⟩) (.string t) (.bool false) (.int .i64 0) (.int .i64 0) (.int .i64 0) (.slice none 0 0))
  clear HL1
  revert HL2
  generalize (((((((((w2.setCell ⟨W.heap.size, 0, none⟩ (.int .i64 2)).setCell ⟨W.heap.size, 1, none⟩ (.string ⟨#[]⟩)).setCell ⟨W.heap.size, 2, none⟩ (.string ⟨#[]⟩)).setCell ⟨W.heap.size, 3, none⟩ (.string t)).setCell ⟨W.heap.size, 4, none⟩ (.bool false)).setCell ⟨W.heap.size, 5, none⟩ (.int .i64 0)).setCell ⟨W.heap.size, 6, none⟩ (.int .i64 0)).setCell ⟨W.heap.size, 7, none⟩ (.int .i64 0)).setCell ⟨W.heap.size, 8, none⟩ (.slice none 0 0)) = w3
  intro HL2
  obtain ⟨k0, k1, k2, k3, k4, k5, k6, k7, k8⟩ := (HL2.out.blk (g := W.heap.size) (t := 26) (cs := #[.int .i64 2, .string ⟨#[]⟩, .string ⟨#[]⟩, .string t, .bool false, .int .i64 0, .int .i64 0, .int .i64 0, .slice none 0 0]) (List.mem_cons_self ..)).nine
  go_wp2_with (go_at_call 151; (with_reducible refine (HSH.out _).mono ?_); rintro e w4 ⟨rfl, hb⟩; have HL3 := Lib.hid (HL2.out.step hb); clear hb HL2 k0 k1 k2 k3 k4 k5 k6 k7 k8)
  refine bodyPost_ret (v := .tuple #[.string t, .int .i64 0]) (by simp [results, Tryz.results106, go_sem]) rfl ⟨rfl, HL3.out.bel⟩
set_option maxRecDepth 100000 in
set_option maxHeartbeats 4000000 in
/-- The next argument as a text. -/
theorem text_b (W0 W : World) (q : Nat) (A : Option Addr) (n c i : Nat) (t : ByteArray) (avs : List Vl) (h0 : Below W0.heap.size W0 W) (hq0 : W0.heap.size ≤ q) (hq : Blk W q 120 #[.slice A n c, .int .i64 (i : Int)]) (hA : Reads 9 csV W0 (.slice A n c) avs) (hi : i < n) (hn : n ≤ 1000) (hu : avs[i]! = tV t) (he : VEnv W0) (ht : txtE t = 0) : Calls Tryz.prog 53 #[.pointer (some ⟨q, 0, none⟩)] W fun e w' => e = .returned (.string t) ∧ Blk w' q 120 #[.slice A n c, .int .i64 ((i : Int) + 1)] ∧ Below W0.heap.size W0 w' ∧ Chg W.heap.size [q] W w' := by
  have HV := Lib.hid (value_b W0 W q A n c i avs h0 hq0 hq hA hi hn)
  rw [hu] at HV
  have HTO := Lib.hid fun W' (hW : Below W0.heap.size W0 W') => totext_t t W' (he.below hW) ht
  clear h0 hq hA hu he
  unfold tV Vl.v Vl.cs at *
  dsimp only at *
  go_enter Tryz.func53, Tryz.ntmps53
  go_wp2_with (first
    | (go_at_call 107; (with_reducible refine HV.out.mono ?_); rintro e w1 ⟨rfl, hq1, hb, hc⟩; have HQ1 := Lib.hid hq1; have HB1 := Lib.hid hb; have HC1 := Lib.hid hc; clear hq1 hb hc)
    | (go_at_call 106; (with_reducible refine (HTO.out _ HB1.out).mono ?_); rintro e w2 ⟨rfl, hb⟩; have HQ2 := Lib.hid (HQ1.out.later hb); have HB2 := Lib.hid (HB1.out.trans (hb.mono HB1.out.size)); have HC2 := Lib.hid (HC1.out.next (Chg.of hb [q])); clear hb HQ1 HB1 HC1)
    | (go_at_call 108; (with_reducible refine (stop_0 _).mono ?_); rintro e w3 ⟨rfl, rfl⟩))
  go_ret
  exact ⟨rfl, HQ2.out, HB2.out, HC2.out⟩
theorem bool_x (b : Bool) (w : World) :
    Calls Tryz.prog 13 #[.bool b] w fun e w' => e = .returned (.agg #[.int .i64 3, .string ⟨#[]⟩, .string ⟨#[]⟩, .string ⟨#[]⟩, .bool b, .int .i64 0, .int .i64 0, .int .i64 0, .slice none 0 0]) ∧ Below w.heap.size w w' := by
  go_enter Tryz.func13, Tryz.ntmps13
  go_wp2
  refine bodyPost_ret (v := .agg #[.int .i64 3, .string ⟨#[]⟩, .string ⟨#[]⟩, .string ⟨#[]⟩, .bool b, .int .i64 0, .int .i64 0, .int .i64 0, .slice none 0 0]) (by simp [results, Tryz.results13, go_sem]) rfl ⟨rfl, ?_⟩
  exact (Below.refl _ _).alloc (Nat.le_refl _) _
end Go.Proofs.YtcnlonaighlmbaaGreatDoor
