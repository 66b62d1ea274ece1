/- formulas: a whole number as an argument. -/
import Derived.Test.YtcnlonaighlmbaaGreatDoorFtA
import Derived.Test.YtcnlonaighlmbaaGreatDoorHae
set_option linter.unusedSimpArgs false
set_option linter.unusedVariables false
namespace Go.Proofs.YtcnlonaighlmbaaGreatDoor
open Go.RowKit

set_option maxRecDepth 100000 in
set_option maxHeartbeats 4000000 in
theorem scalar_n (k : Nat) (W : World) (he : VEnv W) (hk : k ≤ 100000) : Calls Tryz.prog 150 #[(nV k).v] W fun e w' => e = .returned (nV k).v ∧ Below W.heap.size W w' := by
  have HV := Lib.hid (show ∀ W', Below W.heap.size W W' → Calls Tryz.prog 18 #[(nV k).v] W' fun e w' => e = .returned (nV k).v ∧ Below W'.heap.size W' w' from fun W' hW => valid_t (nV k) W' (he.below hW) (nV_ok k (by omega)) (Nat.le_trans (nt_size k (by omega)) (by decide)) (show (⟨#[49]⟩ : ByteArray).size ≤ 9223372036854775807 by decide) (show (⟨#[]⟩ : ByteArray).size ≤ 9223372036854775807 by decide))
  clear he hk
  unfold nV Vl.v Vl.cs at *
  dsimp only at *
  generalize nt k = t at *
  have HL0 := Lib.hid (((Loc.start W).alloc' rfl 26 #[.int .i64 1, .string t, .string ⟨#[49]⟩, .string ⟨#[]⟩, .bool false, .int .i64 0, .int .i64 0, .int .i64 0, .slice none 0 0]).alloc' (g := W.heap.size + 1) (by simp) 26 #[.int .i64 0, .string ⟨#[]⟩, .string ⟨#[]⟩, .string ⟨#[]⟩, .bool false, .int .i64 0, .int .i64 0, .int .i64 0, .slice none 0 0])
  go_enter Tryz.func150, Tryz.ntmps150
  go_upto_region 2 with (go_at_call 18; (with_reducible refine (HV.out _ HL0.out.bel).mono ?_); rintro e w2 ⟨rfl, hb⟩; have HL1 := Lib.hid (HL0.out.step hb); clear hb HL0; obtain ⟨f0, f1, f2, f3, f4, f5, f6, f7, f8⟩ := (HL1.out.blk (g := W.heap.size) (t := 26) (cs := #[.int .i64 1, .string t, .string ⟨#[49]⟩, .string ⟨#[]⟩, .bool false, .int .i64 0, .int .i64 0, .int .i64 0, .slice none 0 0]) (List.mem_cons_of_mem _ (List.mem_cons_self ..))).ninef; obtain ⟨z0, z1, z2, z3, z4, z5, z6, z7, z8⟩ := (HL1.out.blk (g := W.heap.size) (t := 26) (cs := #[.int .i64 1, .string t, .string ⟨#[49]⟩, .string ⟨#[]⟩, .bool false, .int .i64 0, .int .i64 0, .int .i64 0, .slice none 0 0]) (List.mem_cons_of_mem _ (List.mem_cons_self ..))).nine)
  clear f0 f1 f2 f3 f4 f5 f6 f7 f8 z0 z1 z2 z3 z4 z5 z6 z7 z8
  have HL2 := Lib.hid (loc_swap ((loc_swap HL1.out).set9k (one_ne (by omega)) (.int .i64 1) (.string t) (.string ⟨#[49]⟩) (.string ⟨#[]⟩) (.bool false) (.int .i64 0) (.int .i64 0) (.int .i64 0) (.slice none 0 0)))
  clear HL1
  revert HL2
  generalize (((((((((w2.setCell ⟨W.heap.size, 0, none⟩ (.int .i64 1)).setCell ⟨W.heap.size, 1, none⟩ (.string t)).setCell ⟨W.heap.size, 2, none⟩ (.string ⟨#[49]⟩)).setCell ⟨W.heap.size, 3, none⟩ (.string ⟨#[]⟩)).setCell ⟨W.heap.size, 4, none⟩ (.bool false)).setCell ⟨W.heap.size, 5, none⟩ (.int .i64 0)).setCell ⟨W.heap.size, 6, none⟩ (.int .i64 0)).setCell ⟨W.heap.size, 7, none⟩ (.int .i64 0)).setCell ⟨W.heap.size, 8, none⟩ (.slice none 0 0)) = w3
  intro HL2
  obtain ⟨k0, k1, k2, k3, k4, k5, k6, k7, k8⟩ := (HL2.out.blk (g := W.heap.size) (t := 26) (cs := #[.int .i64 1, .string t, .string ⟨#[49]⟩, .string ⟨#[]⟩, .bool false, .int .i64 0, .int .i64 0, .int .i64 0, .slice none 0 0]) (List.mem_cons_of_mem _ (List.mem_cons_self ..))).nine
  have HBW := Lib.hid (HL2.out.blk (g := W.heap.size + 1) (t := 26) (cs := #[.int .i64 0, .string ⟨#[]⟩, .string ⟨#[]⟩, .string ⟨#[]⟩, .bool false, .int .i64 0, .int .i64 0, .int .i64 0, .slice none 0 0]) (List.mem_cons_self ..))
  obtain ⟨f0, f1, f2, f3, f4, f5, f6, f7, f8⟩ := HBW.out.ninef
  obtain ⟨z0, z1, z2, z3, z4, z5, z6, z7, z8⟩ := HBW.out.nine
  go_upto_region 99 with fail
  clear k0 k1 k2 k3 k4 k5 k6 k7 k8 f0 f1 f2 f3 f4 f5 f6 f7 f8 z0 z1 z2 z3 z4 z5 z6 z7 z8
  obtain ⟨q0, q1, q2, q3, q4, q5, q6, q7, q8⟩ := (HBW.out.nine_set (.int .i64 1) (.string t) (.string ⟨#[49]⟩) (.string ⟨#[]⟩) (.bool false) (.int .i64 0) (.int .i64 0) (.int .i64 0) (.slice none 0 0)).1.nine
  refine bodyPost_ret (v := .agg #[.int .i64 1, .string t, .string ⟨#[49]⟩, .string ⟨#[]⟩, .bool false, .int .i64 0, .int .i64 0, .int .i64 0, .slice none 0 0]) (by simp [results, Tryz.results150, go_sem, q0, q1, q2, q3, q4, q5, q6, q7, q8]) rfl ⟨rfl, below_nine HL2.out.bel (by omega) _ _ _ _ _ _ _ _ _⟩
set_option maxRecDepth 100000 in
set_option maxHeartbeats 4000000 in
theorem tonum_n (k : Nat) (W : World) (he : VEnv W) (hk : k ≤ 100000) : Calls Tryz.prog 123 #[(nV k).v] W fun e w' => e = .returned (.tuple #[.agg #[.string (nt k), .string ⟨#[49]⟩], .int .i64 0]) ∧ Below W.heap.size W w' := by
  have HV := Lib.hid fun W' (hW : Below W.heap.size W W') => scalar_n k W' (he.below hW) hk
  clear he hk
  unfold nV Vl.v Vl.cs at *
  dsimp only at *
  generalize nt k = t at *
  have HL0 := Lib.hid (((Loc.start W).alloc' rfl 26 #[.int .i64 1, .string t, .string ⟨#[49]⟩, .string ⟨#[]⟩, .bool false, .int .i64 0, .int .i64 0, .int .i64 0, .slice none 0 0]).alloc' (g := W.heap.size + 1) (by simp) 23 #[.string ⟨#[]⟩, .string ⟨#[]⟩])
  go_enter Tryz.func123, Tryz.ntmps123
  go_upto_region 2 with (go_at_call 150; (with_reducible refine (HV.out _ HL0.out.bel).mono ?_); rintro e w2 ⟨rfl, hb⟩; have HL1 := Lib.hid (HL0.out.step hb); clear hb HL0; obtain ⟨f0, f1, f2, f3, f4, f5, f6, f7, f8⟩ := (HL1.out.blk (g := W.heap.size) (t := 26) (cs := #[.int .i64 1, .string t, .string ⟨#[49]⟩, .string ⟨#[]⟩, .bool false, .int .i64 0, .int .i64 0, .int .i64 0, .slice none 0 0]) (List.mem_cons_of_mem _ (List.mem_cons_self ..))).ninef; obtain ⟨z0, z1, z2, z3, z4, z5, z6, z7, z8⟩ := (HL1.out.blk (g := W.heap.size) (t := 26) (cs := #[.int .i64 1, .string t, .string ⟨#[49]⟩, .string ⟨#[]⟩, .bool false, .int .i64 0, .int .i64 0, .int .i64 0, .slice none 0 0]) (List.mem_cons_of_mem _ (List.mem_cons_self ..))).nine)
  clear f0 f1 f2 f3 f4 f5 f6 f7 f8 z0 z1 z2 z3 z4 z5 z6 z7 z8
  have HL2 := Lib.hid (loc_swap ((loc_swap HL1.out).set9k (one_ne (by omega)) (.int .i64 1) (.string t) (.string ⟨#[49]⟩) (.string ⟨#[]⟩) (.bool false) (.int .i64 0) (.int .i64 0) (.int .i64 0) (.slice none 0 0)))
  clear HL1
  revert HL2
  generalize (((((((((w2.setCell ⟨W.heap.size, 0, none⟩ (.int .i64 1)).setCell ⟨W.heap.size, 1, none⟩ (.string t)).setCell ⟨W.heap.size, 2, none⟩ (.string ⟨#[49]⟩)).setCell ⟨W.heap.size, 3, none⟩ (.string ⟨#[]⟩)).setCell ⟨W.heap.size, 4, none⟩ (.bool false)).setCell ⟨W.heap.size, 5, none⟩ (.int .i64 0)).setCell ⟨W.heap.size, 6, none⟩ (.int .i64 0)).setCell ⟨W.heap.size, 7, none⟩ (.int .i64 0)).setCell ⟨W.heap.size, 8, none⟩ (.slice none 0 0)) = w3
  intro HL2
  obtain ⟨k0, k1, k2, k3, k4, k5, k6, k7, k8⟩ := (HL2.out.blk (g := W.heap.size) (t := 26) (cs := #[.int .i64 1, .string t, .string ⟨#[49]⟩, .string ⟨#[]⟩, .bool false, .int .i64 0, .int .i64 0, .int .i64 0, .slice none 0 0]) (List.mem_cons_of_mem _ (List.mem_cons_self ..))).nine
  have HBW := Lib.hid (HL2.out.blk (g := W.heap.size + 1) (t := 23) (cs := #[.string ⟨#[]⟩, .string ⟨#[]⟩]) (List.mem_cons_self ..))
  obtain ⟨z0, z1, f0, f1⟩ := HBW.out.two
  go_upto_region 99 with fail
  clear k0 k1 k2 k3 k4 k5 k6 k7 k8 z0 z1 f0 f1
  obtain ⟨q0, q1, -, -⟩ := (HBW.out.two_set (.string t) (.string ⟨#[49]⟩)).1.two
  refine bodyPost_ret (v := .tuple #[.agg #[.string t, .string ⟨#[49]⟩], .int .i64 0]) (by simp [results, Tryz.results123, go_sem, q0, q1]) rfl ⟨rfl, below_two HL2.out.bel (by omega) _ _⟩
set_option maxRecDepth 100000 in
set_option maxHeartbeats 4000000 in
theorem down_n (k : Nat) (W : World) (he : VEnv W) (hk : k ≤ 100000) : Calls Tryz.prog 157 #[.agg #[.string (nt k), .string ⟨#[49]⟩]] W fun e w' => e = .returned (.int .i64 (k : Int)) ∧ Below W.heap.size W w' := by
  have HFL := Lib.hid (show ∀ W', Below W.heap.size W W' → Calls Tryz.prog 187 #[.agg #[.string (nt k), .string ⟨#[49]⟩]] W' fun e w' => QRet (k : Int) 1 40 W' e w' from fun W' hW => (floor_q (nt k) ⟨#[49]⟩ (k : Int) 1 40 W' (pv_qk k (by omega)) (by decide) (Lib.tabBelow_of_tabIs he.pw W' hW)).mono fun e w' ⟨f, h1, h2, h3⟩ => by
    obtain rfl : f = (k : Int) := by omega
    exact h1)
  have HIN := Lib.hid fun a1 a2 W' (h : Nt.Qk a1.data.toList a2.data.toList (k : Int) 1 40) => int_q a1 a2 k 40 W' (by omega) h
  have hk1 : ¬ (k : Int) < -1000000000 := by omega
  have hk2 : ¬ (1000000000 : Int) < (k : Int) := by omega
  clear he hk
  generalize nt k = t at *
  have HL0 := Lib.hid ((Loc.start W).alloc' rfl 23 #[.string t, .string ⟨#[49]⟩])
  go_enter Tryz.func157, Tryz.ntmps157
  go_upto_region 2 with (go_at_call 187; (with_reducible refine (HFL.out _ HL0.out.bel).mono ?_); rintro e w2 ⟨sn, sd, rfl, hq, hb⟩; have HQ := Lib.hid hq; have HL1 := Lib.hid (HL0.out.step hb); clear hb hq HL0; obtain ⟨z0, z1, f0, f1⟩ := (HL1.out.blk (g := W.heap.size) (t := 23) (cs := #[.string t, .string ⟨#[49]⟩]) (List.mem_cons_self ..)).two)
  clear z0 z1 f0 f1
  have HL2 := Lib.hid (HL1.out.set2f (fun x hx => by cases hx) (.string sn) (.string sd))
  clear HL1
  revert HL2
  generalize (w2.setCell ⟨W.heap.size, 0, none⟩ (.string sn)).setCell ⟨W.heap.size, 1, none⟩ (.string sd) = w3
  intro HL2
  obtain ⟨z0, z1, -, -⟩ := (HL2.out.blk (g := W.heap.size) (t := 23) (cs := #[.string sn, .string sd]) (List.mem_cons_self ..)).two
  go_wp2_with (go_at_call 9; (with_reducible refine (HIN.out _ _ _ HQ.out).mono ?_); rintro e w4 ⟨rfl, hb⟩; have HL3 := Lib.hid (HL2.out.step hb); clear hb HL2 z0 z1)
  go_ret
  exact ⟨rfl, HL3.out.bel⟩
set_option maxRecDepth 100000 in
set_option maxHeartbeats 4000000 in
theorem num_b (W0 W : World) (q : Nat) (A : Option Addr) (n c i k : Nat) (avs : List Vl) (h0 : Below W0.heap.size W0 W) (hq0 : W0.heap.size ≤ q) (hq : Blk W q 120 #[.slice A n c, .int .i64 (i : Int)]) (hA : Reads 9 csV W0 (.slice A n c) avs) (hi : i < n) (hn : n ≤ 1000) (hu : avs[i]! = nV k) (he : VEnv W0) (hk : k ≤ 100000) : Calls Tryz.prog 74 #[.pointer (some ⟨q, 0, none⟩)] W fun e w' => e = .returned (.agg #[.string (nt k), .string ⟨#[49]⟩]) ∧ Blk w' q 120 #[.slice A n c, .int .i64 ((i : Int) + 1)] ∧ Below W0.heap.size W0 w' ∧ Chg W.heap.size [q] W w' := by
  have HV := Lib.hid (value_b W0 (W.alloc (.cells #[.string ⟨#[]⟩, .string ⟨#[]⟩] 23)) q A n c i avs (h0.trans ((below_al W _).mono h0.size)) hq0 (hq.alloc _) hA hi hn)
  rw [hu] at HV
  have HTO := Lib.hid fun W' (hW : Below W0.heap.size W0 W') => tonum_n k W' (he.below hW) hk
  have hq' := hq.lt
  have HBZ := Lib.hid (Blk.new W 23 #[.string ⟨#[]⟩, .string ⟨#[]⟩])
  have hqn : W.heap.size ∉ [q] := by rw [List.mem_singleton]; omega
  have HQN := Lib.hid hqn
  have HS := Lib.hid h0.size
  clear h0 hq hA hu he hqn
  unfold nV Vl.v Vl.cs at *
  dsimp only at *
  generalize nt k = t at *
  go_enter Tryz.func74, Tryz.ntmps74
  go_upto_region 2 with (first
    | (go_at_call 107; (with_reducible refine HV.out.mono ?_); rintro e w1 ⟨rfl, hq1, hb, hc⟩; have HQ1 := Lib.hid hq1; have HB1 := Lib.hid hb; have HC1 := Lib.hid ((Chg.of (below_al W (.cells #[.string ⟨#[]⟩, .string ⟨#[]⟩] 23)) [q]).next hc); have HZ1 := Lib.hid (hc.blk HBZ.out HBZ.out.lt HQN.out); clear hq1 hb hc HBZ)
    | (go_at_call 123; (with_reducible refine (HTO.out _ HB1.out).mono ?_); rintro e w2 ⟨rfl, hb⟩; have HQ2 := Lib.hid (HQ1.out.later hb); have HB2 := Lib.hid (HB1.out.trans (hb.mono HB1.out.size)); have HC2 := Lib.hid (HC1.out.next (Chg.of hb [q])); have HZ2 := Lib.hid (HZ1.out.later hb); clear hb HQ1 HB1 HC1 HZ1))
  have HQ3 := Lib.hid (HQ2.out.alloc (.cells #[.string t, .string ⟨#[49]⟩] 23))
  have HB3 := Lib.hid (HB2.out.trans ((below_al w2 (.cells #[.string t, .string ⟨#[49]⟩] 23)).mono HB2.out.size))
  have HC3 := Lib.hid (HC2.out.next (Chg.of (below_al w2 (.cells #[.string t, .string ⟨#[49]⟩] 23)) [q]))
  have HZ3 := Lib.hid (HZ2.out.alloc (.cells #[.string t, .string ⟨#[49]⟩] 23))
  have HX3 := Lib.hid (Blk.new w2 23 #[.string t, .string ⟨#[49]⟩])
  have HXZ := Lib.hid (show w2.heap.size ≠ W.heap.size from by have := HZ2.out.lt; omega)
  clear HQ2 HB2 HC2 HZ2
  revert HQ3 HB3 HC3 HZ3 HX3 HXZ
  generalize w2.alloc (.cells #[.string t, .string ⟨#[49]⟩] 23) = w3
  generalize w2.heap.size = X
  intro HQ3 HB3 HC3 HZ3 HX3 HXZ
  obtain ⟨k0, k1, -, -⟩ := HX3.out.two
  obtain ⟨z0, z1, f0, f1⟩ := HZ3.out.two
  go_upto_region 99 with (go_at_call 108; (with_reducible refine (stop_0 _).mono ?_); rintro e wq ⟨rfl, rfl⟩)
  clear k0 k1 z0 z1 f0 f1
  obtain ⟨q0, q1, -, -⟩ := (HZ3.out.two_set (.string t) (.string ⟨#[49]⟩)).1.two
  have hqW : q ≠ W.heap.size := by omega
  have hS := HS.out
  refine bodyPost_ret (v := .agg #[.string t, .string ⟨#[49]⟩]) (by simp [results, Tryz.results74, go_sem, q0, q1]) rfl ⟨rfl, (HQ3.out.far (p := ⟨W.heap.size, 0, none⟩) (by exact hqW) (.string t)).far (p := ⟨W.heap.size, 1, none⟩) (by exact hqW) (.string ⟨#[49]⟩), below_two HB3.out (by exact hS) _ _, (HC3.out.set (p := ⟨W.heap.size, 0, none⟩) (.inr (Nat.le_refl _)) (.string t)).set (p := ⟨W.heap.size, 1, none⟩) (.inr (Nat.le_refl _)) (.string ⟨#[49]⟩)⟩
set_option maxRecDepth 100000 in
set_option maxHeartbeats 4000000 in
theorem whole_b (W0 W : World) (q : Nat) (A : Option Addr) (n c i k : Nat) (avs : List Vl) (h0 : Below W0.heap.size W0 W) (hq0 : W0.heap.size ≤ q) (hq : Blk W q 120 #[.slice A n c, .int .i64 (i : Int)]) (hA : Reads 9 csV W0 (.slice A n c) avs) (hi : i < n) (hn : n ≤ 1000) (hu : avs[i]! = nV k) (he : VEnv W0) (hk : k ≤ 100000) : Calls Tryz.prog 117 #[.pointer (some ⟨q, 0, none⟩)] W fun e w' => e = .returned (.int .i64 (k : Int)) ∧ Blk w' q 120 #[.slice A n c, .int .i64 ((i : Int) + 1)] ∧ Below W0.heap.size W0 w' ∧ Chg W.heap.size [q] W w' := by
  have HNB := Lib.hid (num_b W0 W q A n c i k avs h0 hq0 hq hA hi hn hu he hk)
  have HDN := Lib.hid fun W' (hW : Below W0.heap.size W0 W') => down_n k W' (he.below hW) hk
  clear h0 hq hA hu he
  generalize nt k = t at *
  go_enter Tryz.func117, Tryz.ntmps117
  go_wp2_with (first
    | (go_at_call 74; (with_reducible refine HNB.out.mono ?_); rintro e w1 ⟨rfl, hq1, hb, hc⟩; have HQ1 := Lib.hid hq1; have HB1 := Lib.hid hb; have HC1 := Lib.hid hc; clear hq1 hb hc)
    | (go_at_call 157; (with_reducible refine (HDN.out _ HB1.out).mono ?_); rintro e w2 ⟨rfl, hb⟩; have HQ2 := Lib.hid (HQ1.out.later hb); have HB2 := Lib.hid (HB1.out.trans (hb.mono HB1.out.size)); have HC2 := Lib.hid (HC1.out.next (Chg.of hb [q])); clear hb HQ1 HB1 HC1))
  go_ret
  exact ⟨rfl, HQ2.out, HB2.out, HC2.out⟩
theorem wor_0 (d : Int) (q : Nat) (A : Option Addr) (n c : Nat) (W : World) (hq : Blk W q 120 #[.slice A n c, .int .i64 (n : Int)]) : Calls Tryz.prog 114 #[.pointer (some ⟨q, 0, none⟩), .int .i64 d] W fun e w' => e = .returned (.int .i64 d) ∧ Below W.heap.size W w' := by
  have HM := Lib.hid (more_any q A n c n W hq false (by simp))
  go_enter Tryz.func114, Tryz.ntmps114
  go_wp2_with (go_at_call 119; (with_reducible refine HM.out.mono ?_); rintro e w1 ⟨rfl, hb⟩; have HB := Lib.hid hb; clear hb)
  go_ret
  exact ⟨rfl, HB.out⟩
set_option maxRecDepth 100000 in
set_option maxHeartbeats 4000000 in
theorem wor_k (dd : Int) (W0 W : World) (q : Nat) (A : Option Addr) (n c i k : Nat) (avs : List Vl) (h0 : Below W0.heap.size W0 W) (hq0 : W0.heap.size ≤ q) (hq : Blk W q 120 #[.slice A n c, .int .i64 (i : Int)]) (hA : Reads 9 csV W0 (.slice A n c) avs) (hi : i < n) (hn : n ≤ 1000) (hu : avs[i]! = nV k) (he : VEnv W0) (hk : k ≤ 100000) : Calls Tryz.prog 114 #[.pointer (some ⟨q, 0, none⟩), .int .i64 dd] W fun e w' => e = .returned (.int .i64 (k : Int)) ∧ Blk w' q 120 #[.slice A n c, .int .i64 ((i : Int) + 1)] ∧ Below W0.heap.size W0 w' ∧ Chg W.heap.size [q] W w' := by
  have HM := Lib.hid (more_any q A n c i W hq true (by simp [hi]))
  have HWH := Lib.hid fun W' (hb : Below W.heap.size W W') => whole_b W0 W' q A n c i k avs (h0.trans (hb.mono h0.size)) hq0 (hq.later hb) hA hi hn hu he hk
  clear h0 hq hA hu he
  go_enter Tryz.func114, Tryz.ntmps114
  go_wp2_with (first
    | (go_at_call 119; (with_reducible refine HM.out.mono ?_); rintro e w1 ⟨rfl, hb⟩; have HB := Lib.hid hb; clear hb)
    | (go_at_call 117; (with_reducible refine (HWH.out _ HB.out).mono ?_); rintro e w2 ⟨rfl, hq1, hb, hc⟩; have HQ1 := Lib.hid hq1; have HB1 := Lib.hid hb; have HC1 := Lib.hid ((Chg.of HB.out [q]).next hc); clear hq1 hb hc))
  go_ret
  exact ⟨rfl, HQ1.out, HB1.out, HC1.out⟩
end Go.Proofs.YtcnlonaighlmbaaGreatDoor
