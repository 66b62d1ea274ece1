/- value: texts and errors as values. -/
import Derived.Test.YtmmlcponmdalmaaGreatDoorVaI
import Derived.Test.YtmmlcponmdalmaaGreatDoorVpC
namespace Go.Proofs.YtmmlcponmdalmaaGreatDoor
open Go.RowKit

theorem fval_ok {j : Nat} (h1 : 1 ≤ j) (h8 : j ≤ 8) : Vl.ok ⟨4, ⟨#[]⟩, ⟨#[]⟩, ⟨#[]⟩, false, (j : Int), 0, 0, none, 0, 0⟩ :=
  ⟨show (0 : Int) ≤ 4 by decide, show (4 : Int) ≤ 4 by decide, by simp [Vl.zB, Lib.toList_data, frSame], fun h => absurd (show (4 : Int) = 1 from h) (by decide), fun h => absurd (show (4 : Int) = 2 from h) (by decide), fun _ => ⟨show (1 : Int) ≤ (j : Int) by omega, show (j : Int) ≤ 8 by omega⟩⟩
set_option maxRecDepth 100000 in
set_option maxHeartbeats 1000000 in
theorem fault_t (j : Nat) (w : World) (he : VEnv w) (h1 : 1 ≤ j) (h8 : j ≤ 8) :
    Calls Tryz.prog 54 #[.int .i64 (j : Int)] w fun e w' => e = .returned (.agg #[.int .i64 4, .string ⟨#[]⟩, .string ⟨#[]⟩, .string ⟨#[]⟩, .bool false, .int .i64 (j : Int), .int .i64 0, .int .i64 0, .slice none 0 0]) ∧ Below w.heap.size w w' := by
  have HV := Lib.hid (show ∀ W, Below w.heap.size w W → Calls Tryz.prog 84 #[.agg #[.int .i64 4, .string ⟨#[]⟩, .string ⟨#[]⟩, .string ⟨#[]⟩, .bool false, .int .i64 (j : Int), .int .i64 0, .int .i64 0, .slice none 0 0]] W fun e w' => e = .returned (.agg #[.int .i64 4, .string ⟨#[]⟩, .string ⟨#[]⟩, .string ⟨#[]⟩, .bool false, .int .i64 (j : Int), .int .i64 0, .int .i64 0, .slice none 0 0]) ∧ Below W.heap.size W w' from fun W hW => valid_t ⟨4, ⟨#[]⟩, ⟨#[]⟩, ⟨#[]⟩, false, (j : Int), 0, 0, none, 0, 0⟩ W (he.below hW) (fval_ok h1 h8) (show (⟨#[]⟩ : ByteArray).size ≤ 9223372036854775807 by decide) (show (⟨#[]⟩ : ByteArray).size ≤ 9223372036854775807 by decide) (show (⟨#[]⟩ : ByteArray).size ≤ 9223372036854775807 by decide))
  clear he h1 h8
  have HL0 := Lib.hid ((Loc.start w).alloc' rfl 27 #[.int .i64 0, .string ⟨#[]⟩, .string ⟨#[]⟩, .string ⟨#[]⟩, .bool false, .int .i64 0, .int .i64 0, .int .i64 0, .slice none 0 0])
  go_enter Tryz.func54, Tryz.ntmps54
  go_wp2_with (go_at_call 84; (with_reducible refine (HV.out _ HL0.out.bel).mono ?_); rintro e w1 ⟨rfl, hb⟩; have HL1 := Lib.hid (HL0.out.step hb); have bz := HL1.out.blk (g := w.heap.size) (t := 27) (cs := #[.int .i64 0, .string ⟨#[]⟩, .string ⟨#[]⟩, .string ⟨#[]⟩, .bool false, .int .i64 0, .int .i64 0, .int .i64 0, .slice none 0 0]) (by simp); obtain ⟨z0, z1, z2, z3, z4, z5, z6, z7, z8⟩ := bz.nine; obtain ⟨f0, f1, f2, f3, f4, f5, f6, f7, f8⟩ := bz.ninef; obtain ⟨bs, c0, c1, c2, c3, c4, c5, c6, c7, c8⟩ := bz.nine_set (.int .i64 4) (.string ⟨#[]⟩) (.string ⟨#[]⟩) (.string ⟨#[]⟩) (.bool false) (.int .i64 (j : Int)) (.int .i64 0) (.int .i64 0) (.slice none 0 0); have BS := Lib.hid bs; clear bz bs hb)
  obtain ⟨q0, q1, q2, q3, q4, q5, q6, q7, q8⟩ := BS.out.nine
  refine bodyPost_ret (v := .agg #[.int .i64 4, .string ⟨#[]⟩, .string ⟨#[]⟩, .string ⟨#[]⟩, .bool false, .int .i64 (j : Int), .int .i64 0, .int .i64 0, .slice none 0 0]) (by simp [results, Tryz.results54, go_sem, q0, q1, q2, q3, q4, q5, q6, q7, q8]) rfl ⟨rfl, ?_⟩
  exact below_nine HL1.out.bel (by omega) _ _ _ _ _ _ _ _ _
theorem tval_ok {t : ByteArray} (h : txtE t = 0) : Vl.ok ⟨2, ⟨#[]⟩, ⟨#[]⟩, t, false, 0, 0, 0, none, 0, 0⟩ :=
  ⟨show (0 : Int) ≤ 2 by decide, show (2 : Int) ≤ 4 by decide, by simp [Vl.zB, Lib.toList_data, frSame], fun h => absurd (show (2 : Int) = 1 from h) (by decide), fun _ => h, fun h => absurd (show (2 : Int) = 4 from h) (by decide)⟩
set_option maxRecDepth 100000 in
set_option maxHeartbeats 1000000 in
theorem text_t (t : ByteArray) (w : World) (he : VEnv w) (h : txtE t = 0) (hz : t.size ≤ 9223372036854775807) :
    Calls Tryz.prog 28 #[.string t] w fun e w' => e = .returned (.agg #[.int .i64 2, .string ⟨#[]⟩, .string ⟨#[]⟩, .string t, .bool false, .int .i64 0, .int .i64 0, .int .i64 0, .slice none 0 0]) ∧ Below w.heap.size w w' := by
  have HV := Lib.hid (show ∀ W, Below w.heap.size w W → Calls Tryz.prog 84 #[.agg #[.int .i64 2, .string ⟨#[]⟩, .string ⟨#[]⟩, .string t, .bool false, .int .i64 0, .int .i64 0, .int .i64 0, .slice none 0 0]] W fun e w' => e = .returned (.agg #[.int .i64 2, .string ⟨#[]⟩, .string ⟨#[]⟩, .string t, .bool false, .int .i64 0, .int .i64 0, .int .i64 0, .slice none 0 0]) ∧ Below W.heap.size W w' from fun W hW => valid_t ⟨2, ⟨#[]⟩, ⟨#[]⟩, t, false, 0, 0, 0, none, 0, 0⟩ W (he.below hW) (tval_ok h) (show (⟨#[]⟩ : ByteArray).size ≤ 9223372036854775807 by decide) (show (⟨#[]⟩ : ByteArray).size ≤ 9223372036854775807 by decide) hz)
  clear he h hz
  have HL0 := Lib.hid ((Loc.start w).alloc' rfl 27 #[.int .i64 0, .string ⟨#[]⟩, .string ⟨#[]⟩, .string ⟨#[]⟩, .bool false, .int .i64 0, .int .i64 0, .int .i64 0, .slice none 0 0])
  go_enter Tryz.func28, Tryz.ntmps28
  go_wp2_with (go_at_call 84; (with_reducible refine (HV.out _ HL0.out.bel).mono ?_); rintro e w1 ⟨rfl, hb⟩; have HL1 := Lib.hid (HL0.out.step hb); have bz := HL1.out.blk (g := w.heap.size) (t := 27) (cs := #[.int .i64 0, .string ⟨#[]⟩, .string ⟨#[]⟩, .string ⟨#[]⟩, .bool false, .int .i64 0, .int .i64 0, .int .i64 0, .slice none 0 0]) (by simp); obtain ⟨z0, z1, z2, z3, z4, z5, z6, z7, z8⟩ := bz.nine; obtain ⟨f0, f1, f2, f3, f4, f5, f6, f7, f8⟩ := bz.ninef; obtain ⟨bs, c0, c1, c2, c3, c4, c5, c6, c7, c8⟩ := bz.nine_set (.int .i64 2) (.string ⟨#[]⟩) (.string ⟨#[]⟩) (.string t) (.bool false) (.int .i64 0) (.int .i64 0) (.int .i64 0) (.slice none 0 0); have BS := Lib.hid bs; clear bz bs hb)
  obtain ⟨q0, q1, q2, q3, q4, q5, q6, q7, q8⟩ := BS.out.nine
  refine bodyPost_ret (v := .agg #[.int .i64 2, .string ⟨#[]⟩, .string ⟨#[]⟩, .string t, .bool false, .int .i64 0, .int .i64 0, .int .i64 0, .slice none 0 0]) (by simp [results, Tryz.results28, go_sem, q0, q1, q2, q3, q4, q5, q6, q7, q8]) rfl ⟨rfl, ?_⟩
  exact below_nine HL1.out.bel (by omega) _ _ _ _ _ _ _ _ _
set_option maxRecDepth 100000 in
set_option maxHeartbeats 1000000 in
theorem bool_t (b : Bool) (w : World) :
    Calls Tryz.prog 57 #[.bool b] w fun e w' => e = .returned (.agg #[.int .i64 3, .string ⟨#[]⟩, .string ⟨#[]⟩, .string ⟨#[]⟩, .bool b, .int .i64 0, .int .i64 0, .int .i64 0, .slice none 0 0]) ∧ Below w.heap.size w w' := by
  go_enter Tryz.func57, Tryz.ntmps57
  go_wp2
  refine bodyPost_ret (v := .agg #[.int .i64 3, .string ⟨#[]⟩, .string ⟨#[]⟩, .string ⟨#[]⟩, .bool b, .int .i64 0, .int .i64 0, .int .i64 0, .slice none 0 0]) (by simp [results, Tryz.results57, go_sem]) rfl ⟨rfl, ?_⟩
  exact (Below.refl _ _).alloc (Nat.le_refl _) _
end Go.Proofs.YtmmlcponmdalmaaGreatDoor

namespace Go.Proofs.YtmmlcponmdalmaaGreatDoor
open Go.RowKit

theorem tx_of (s : ByteArray) (h : txtE s = 0) (hz : s.size ≤ 40000) (w : World) (he : VEnv w) : ∀ W, Below w.heap.size w W → Calls Tryz.prog 42 #[.string s] W fun e w' => e = .returned (.int .i64 0) ∧ Below W.heap.size W w' := fun W hW => by
  have := vtext_any s W (he.below hW).u8 (by omega)
  rwa [h] at this
theorem cpq_no (s : ByteArray) (h : Lib.hasPrefix s.data.toList [39] = false) (W : World) : Calls Tryz.prog 55 #[.string s, .string ⟨#[39]⟩] W fun e w' => e = .returned (.tuple #[.string s, .bool false]) ∧ W = w' := by
  have h1 := Tryz.strings_CutPrefix s ⟨#[39]⟩ W
  rw [show (⟨#[39]⟩ : ByteArray).data.toList = [39] from rfl, show Lib.trimPrefix s.data.toList [39] = s.data.toList from by unfold Lib.trimPrefix; rw [h]; rfl, h, show (⟨s.data.toList.toArray⟩ : ByteArray) = s from ba_ext (by simp)] at h1
  exact h1.mono fun _ _ ⟨h1, h2⟩ => ⟨h1, h2.symm⟩
theorem cpq_yes (t : ByteArray) (W : World) : Calls Tryz.prog 55 #[.string (⟨#[39]⟩ ++ t), .string ⟨#[39]⟩] W fun e w' => e = .returned (.tuple #[.string t, .bool true]) ∧ W = w' := by
  have h1 := Tryz.strings_CutPrefix (⟨#[39]⟩ ++ t) ⟨#[39]⟩ W
  have e : (⟨#[39]⟩ ++ t : ByteArray).data.toList = 39 :: t.data.toList := by rw [ByteArray.toList_data_append]; rfl
  have e1 : Lib.hasPrefix (39 :: t.data.toList) [39] = true := by simp [Lib.hasPrefix]
  have e2 : Lib.trimPrefix (39 :: t.data.toList) [39] = t.data.toList := by unfold Lib.trimPrefix; rw [e1]; rfl
  rw [show (⟨#[39]⟩ : ByteArray).data.toList = [39] from rfl, e, e1, e2, show (⟨t.data.toList.toArray⟩ : ByteArray) = t from ba_ext (by simp)] at h1
  exact h1.mono fun _ _ ⟨h1, h2⟩ => ⟨h1, h2.symm⟩

set_option maxRecDepth 100000 in
set_option maxHeartbeats 4000000 in
theorem enter_e  (w : World) (_he : VEnv w) : Calls Tryz.prog 18 #[.string ⟨#[]⟩] w fun e w' => e = .returned (.agg #[.int .i64 0, .string ⟨#[]⟩, .string ⟨#[]⟩, .string ⟨#[]⟩, .bool false, .int .i64 0, .int .i64 0, .int .i64 0, .slice none 0 0]) ∧ Below w.heap.size w w' := by
  clear _he
  go_enter Tryz.func18, Tryz.ntmps18
  go_wp2
  refine bodyPost_ret (v := .agg #[.int .i64 0, .string ⟨#[]⟩, .string ⟨#[]⟩, .string ⟨#[]⟩, .bool false, .int .i64 0, .int .i64 0, .int .i64 0, .slice none 0 0]) (by simp [results, Tryz.results18, go_sem]) rfl ⟨rfl, ?_⟩
  exact (Below.refl _ _).alloc (Nat.le_refl _) _
set_option maxRecDepth 100000 in
set_option maxHeartbeats 4000000 in
theorem enter_q (t : ByteArray) (ht : txtE t = 0) (hl : t.size < 32767) (w : World) (he : VEnv w) : Calls Tryz.prog 18 #[.string (⟨#[39]⟩ ++ t)] w fun e w' => e = .returned (.agg #[.int .i64 2, .string ⟨#[]⟩, .string ⟨#[]⟩, .string t, .bool false, .int .i64 0, .int .i64 0, .int .i64 0, .slice none 0 0]) ∧ Below w.heap.size w w' := by
  have e : (⟨#[39]⟩ ++ t : ByteArray).data.toList = 39 :: t.data.toList := by rw [ByteArray.toList_data_append]; rfl
  have hz : (⟨#[39]⟩ ++ t : ByteArray).size = t.size + 1 := by
    have := congrArg List.length e
    rw [List.length_cons] at this
    exact this
  have h0 : (⟨#[39]⟩ ++ t : ByteArray).toList.isEmpty = false := by rw [Lib.toList_data, e]; rfl
  have h1 : (⟨#[39]⟩ ++ t : ByteArray).toList ≠ [] := by rw [Lib.toList_data, e]; simp
  have HTX := Lib.hid (tx_of (⟨#[39]⟩ ++ t) (txtE_quote t ht hl) (by omega) w he)
  have HCP := Lib.hid fun W => cpq_yes t W
  have HNB := Lib.hid fun W (hW : Below w.heap.size w W) => text_t t W (he.below hW) ht (by omega)
  clear he ht hl e hz
  generalize (⟨#[39]⟩ ++ t : ByteArray) = s at *
  have HL0 := Lib.hid ((Loc.start w).alloc' rfl 27 #[.int .i64 0, .string ⟨#[]⟩, .string ⟨#[]⟩, .string ⟨#[]⟩, .bool false, .int .i64 0, .int .i64 0, .int .i64 0, .slice none 0 0])
  go_enter Tryz.func18, Tryz.ntmps18
  go_wp2_with (first
    | (go_at_call 42; (with_reducible refine (HTX.out _ HL0.out.bel).mono ?_); rintro e w1 ⟨rfl, hb⟩; have HL1 := Lib.hid (HL0.out.step hb); clear hb)
    | (go_at_call 55; (with_reducible refine (HCP.out _).mono ?_); rintro e w2 ⟨rfl, rfl⟩)
    | (go_at_call 28; (with_reducible refine (HNB.out _ HL1.out.bel).mono ?_); rintro e w3 ⟨rfl, hb⟩; have HL2 := Lib.hid (HL1.out.step hb); have bz := HL2.out.blk (g := w.heap.size) (t := 27) (cs := #[.int .i64 0, .string ⟨#[]⟩, .string ⟨#[]⟩, .string ⟨#[]⟩, .bool false, .int .i64 0, .int .i64 0, .int .i64 0, .slice none 0 0]) (by simp); obtain ⟨z0, z1, z2, z3, z4, z5, z6, z7, z8⟩ := bz.nine; obtain ⟨y0, y1, y2, y3, y4, y5, y6, y7, y8⟩ := bz.ninef; obtain ⟨bs, c0, c1, c2, c3, c4, c5, c6, c7, c8⟩ := bz.nine_set (.int .i64 2) (.string ⟨#[]⟩) (.string ⟨#[]⟩) (.string t) (.bool false) (.int .i64 0) (.int .i64 0) (.int .i64 0) (.slice none 0 0); have BS := Lib.hid bs; clear bz bs hb))
  obtain ⟨q0, q1, q2, q3, q4, q5, q6, q7, q8⟩ := BS.out.nine
  refine bodyPost_ret (v := .agg #[.int .i64 2, .string ⟨#[]⟩, .string ⟨#[]⟩, .string t, .bool false, .int .i64 0, .int .i64 0, .int .i64 0, .slice none 0 0]) (by simp [results, Tryz.results18, go_sem, q0, q1, q2, q3, q4, q5, q6, q7, q8]) rfl ⟨rfl, ?_⟩
  exact below_nine HL2.out.bel (by omega) _ _ _ _ _ _ _ _ _
set_option maxRecDepth 100000 in
set_option maxHeartbeats 4000000 in
theorem enter_b (b : Bool) (w : World) (he : VEnv w) : Calls Tryz.prog 18 #[.string (if b = true then ⟨#[84, 82, 85, 69]⟩ else ⟨#[70, 65, 76, 83, 69]⟩)] w fun e w' => e = .returned (.agg #[.int .i64 3, .string ⟨#[]⟩, .string ⟨#[]⟩, .string ⟨#[]⟩, .bool b, .int .i64 0, .int .i64 0, .int .i64 0, .slice none 0 0]) ∧ Below w.heap.size w w' := by
  cases b
  · have HTX := Lib.hid (tx_of ⟨#[70, 65, 76, 83, 69]⟩ (by decide +kernel) (by decide) w he)
    have HLO := Lib.hid (show ∀ W, Calls Tryz.prog 56 #[.string ⟨#[70, 65, 76, 83, 69]⟩] W fun e w' => e = .returned (.string ⟨#[102, 97, 108, 115, 101]⟩) ∧ Below W.heap.size W w' from fun W => by
      have := lower_any ⟨#[70, 65, 76, 83, 69]⟩ W (by decide)
      rwa [show (⟨(lowL (⟨#[70, 65, 76, 83, 69]⟩ : ByteArray).data.toList).toArray⟩ : ByteArray) = ⟨#[102, 97, 108, 115, 101]⟩ from ba_ext (by decide +kernel)] at this)
    have HCP := Lib.hid fun W => cpq_no ⟨#[70, 65, 76, 83, 69]⟩ (by decide) W
    have HNB := Lib.hid fun W => bool_t false W
    clear he
    have HL0 := Lib.hid ((Loc.start w).alloc' rfl 27 #[.int .i64 0, .string ⟨#[]⟩, .string ⟨#[]⟩, .string ⟨#[]⟩, .bool false, .int .i64 0, .int .i64 0, .int .i64 0, .slice none 0 0])
    show Calls Tryz.prog 18 #[.string ⟨#[70, 65, 76, 83, 69]⟩] w _
    go_enter Tryz.func18, Tryz.ntmps18
    go_wp2_with (first
      | (go_at_call 42; (with_reducible refine (HTX.out _ HL0.out.bel).mono ?_); rintro e w1 ⟨rfl, hb⟩; have HL1 := Lib.hid (HL0.out.step hb); clear hb)
      | (go_at_call 55; (with_reducible refine (HCP.out _).mono ?_); rintro e w2 ⟨rfl, rfl⟩)
      | (go_at_call 56; (with_reducible refine (HLO.out _).mono ?_); rintro e w3 ⟨rfl, hb⟩; have HL2 := Lib.hid (HL1.out.step hb); clear hb)
      | (go_at_call 57; (with_reducible refine (HNB.out _).mono ?_); rintro e w4 ⟨rfl, hb⟩; have HL3 := Lib.hid (HL2.out.step hb); have bz := HL3.out.blk (g := w.heap.size) (t := 27) (cs := #[.int .i64 0, .string ⟨#[]⟩, .string ⟨#[]⟩, .string ⟨#[]⟩, .bool false, .int .i64 0, .int .i64 0, .int .i64 0, .slice none 0 0]) (by simp); obtain ⟨z0, z1, z2, z3, z4, z5, z6, z7, z8⟩ := bz.nine; obtain ⟨y0, y1, y2, y3, y4, y5, y6, y7, y8⟩ := bz.ninef; obtain ⟨bs, c0, c1, c2, c3, c4, c5, c6, c7, c8⟩ := bz.nine_set (.int .i64 3) (.string ⟨#[]⟩) (.string ⟨#[]⟩) (.string ⟨#[]⟩) (.bool false) (.int .i64 0) (.int .i64 0) (.int .i64 0) (.slice none 0 0); have BS := Lib.hid bs; clear bz bs hb))
    obtain ⟨q0, q1, q2, q3, q4, q5, q6, q7, q8⟩ := BS.out.nine
    refine bodyPost_ret (v := .agg #[.int .i64 3, .string ⟨#[]⟩, .string ⟨#[]⟩, .string ⟨#[]⟩, .bool false, .int .i64 0, .int .i64 0, .int .i64 0, .slice none 0 0]) (by simp [results, Tryz.results18, go_sem, q0, q1, q2, q3, q4, q5, q6, q7, q8]) rfl ⟨rfl, ?_⟩
    exact below_nine HL3.out.bel (by omega) _ _ _ _ _ _ _ _ _
  · have HTX := Lib.hid (tx_of ⟨#[84, 82, 85, 69]⟩ (by decide +kernel) (by decide) w he)
    have HLO := Lib.hid (show ∀ W, Calls Tryz.prog 56 #[.string ⟨#[84, 82, 85, 69]⟩] W fun e w' => e = .returned (.string ⟨#[116, 114, 117, 101]⟩) ∧ Below W.heap.size W w' from fun W => by
      have := lower_any ⟨#[84, 82, 85, 69]⟩ W (by decide)
      rwa [show (⟨(lowL (⟨#[84, 82, 85, 69]⟩ : ByteArray).data.toList).toArray⟩ : ByteArray) = ⟨#[116, 114, 117, 101]⟩ from ba_ext (by decide +kernel)] at this)
    have HCP := Lib.hid fun W => cpq_no ⟨#[84, 82, 85, 69]⟩ (by decide) W
    have HNB := Lib.hid fun W => bool_t true W
    clear he
    have HL0 := Lib.hid ((Loc.start w).alloc' rfl 27 #[.int .i64 0, .string ⟨#[]⟩, .string ⟨#[]⟩, .string ⟨#[]⟩, .bool false, .int .i64 0, .int .i64 0, .int .i64 0, .slice none 0 0])
    show Calls Tryz.prog 18 #[.string ⟨#[84, 82, 85, 69]⟩] w _
    go_enter Tryz.func18, Tryz.ntmps18
    go_wp2_with (first
      | (go_at_call 42; (with_reducible refine (HTX.out _ HL0.out.bel).mono ?_); rintro e w1 ⟨rfl, hb⟩; have HL1 := Lib.hid (HL0.out.step hb); clear hb)
      | (go_at_call 55; (with_reducible refine (HCP.out _).mono ?_); rintro e w2 ⟨rfl, rfl⟩)
      | (go_at_call 56; (with_reducible refine (HLO.out _).mono ?_); rintro e w3 ⟨rfl, hb⟩; have HL2 := Lib.hid (HL1.out.step hb); clear hb)
      | (go_at_call 57; (with_reducible refine (HNB.out _).mono ?_); rintro e w4 ⟨rfl, hb⟩; have HL3 := Lib.hid (HL2.out.step hb); have bz := HL3.out.blk (g := w.heap.size) (t := 27) (cs := #[.int .i64 0, .string ⟨#[]⟩, .string ⟨#[]⟩, .string ⟨#[]⟩, .bool false, .int .i64 0, .int .i64 0, .int .i64 0, .slice none 0 0]) (by simp); obtain ⟨z0, z1, z2, z3, z4, z5, z6, z7, z8⟩ := bz.nine; obtain ⟨y0, y1, y2, y3, y4, y5, y6, y7, y8⟩ := bz.ninef; obtain ⟨bs, c0, c1, c2, c3, c4, c5, c6, c7, c8⟩ := bz.nine_set (.int .i64 3) (.string ⟨#[]⟩) (.string ⟨#[]⟩) (.string ⟨#[]⟩) (.bool true) (.int .i64 0) (.int .i64 0) (.int .i64 0) (.slice none 0 0); have BS := Lib.hid bs; clear bz bs hb))
    obtain ⟨q0, q1, q2, q3, q4, q5, q6, q7, q8⟩ := BS.out.nine
    refine bodyPost_ret (v := .agg #[.int .i64 3, .string ⟨#[]⟩, .string ⟨#[]⟩, .string ⟨#[]⟩, .bool true, .int .i64 0, .int .i64 0, .int .i64 0, .slice none 0 0]) (by simp [results, Tryz.results18, go_sem, q0, q1, q2, q3, q4, q5, q6, q7, q8]) rfl ⟨rfl, ?_⟩
    exact below_nine HL3.out.bel (by omega) _ _ _ _ _ _ _ _ _
set_option maxRecDepth 100000 in
set_option maxHeartbeats 4000000 in
theorem enter_f (s lo : ByteArray) (j : Nat) (hj1 : 1 ≤ j) (hj8 : j ≤ 8) (ht : txtE s = 0) (hz : s.size ≤ 40000) (h0 : s.toList.isEmpty = false) (_h1 : s.toList ≠ []) (hq : Lib.hasPrefix s.data.toList [39] = false) (hlo : lo.data.toList = lowL s.data.toList) (hl1 : (lo.toList == [116, 114, 117, 101]) = false) (hl2 : (lo.toList == [102, 97, 108, 115, 101]) = false) (hne : ∀ k, k < j → (s.toList == (faultS k).toList) = false) (heq : (s.toList == (faultS j).toList) = true) (w : World) (he : VEnv w) : Calls Tryz.prog 18 #[.string s] w fun e w' => e = .returned (.agg #[.int .i64 4, .string ⟨#[]⟩, .string ⟨#[]⟩, .string ⟨#[]⟩, .bool false, .int .i64 (j : Int), .int .i64 0, .int .i64 0, .slice none 0 0]) ∧ Below w.heap.size w w' := by
  have HE := Lib.hid (show ∀ W, Below w.heap.size w W → VEnv W from fun W hb => he.below hb)
  have HTX := Lib.hid (tx_of s ht hz w he)
  have HCP := Lib.hid fun W => cpq_no s hq W
  have HLO := Lib.hid (show ∀ W, Calls Tryz.prog 56 #[.string s] W fun e w' => e = .returned (.string lo) ∧ Below W.heap.size W w' from fun W => by
    have := lower_any s W (by omega)
    rwa [show (⟨(lowL s.data.toList).toArray⟩ : ByteArray) = lo from ba_ext hlo.symm] at this)
  have HNE := Lib.hid hne
  have HEQ := Lib.hid heq
  have HNB := Lib.hid fun W (hW : Below w.heap.size w W) => fault_t j W (he.below hW) hj1 hj8
  clear he ht hz hq hlo hne heq
  have HL0 := Lib.hid ((Loc.start w).alloc' rfl 27 #[.int .i64 0, .string ⟨#[]⟩, .string ⟨#[]⟩, .string ⟨#[]⟩, .bool false, .int .i64 0, .int .i64 0, .int .i64 0, .slice none 0 0])
  go_enter Tryz.func18, Tryz.ntmps18
  go_upto_region 11 with (first
    | (go_at_call 42; (with_reducible refine (HTX.out _ HL0.out.bel).mono ?_); rintro e w1 ⟨rfl, hb⟩; have HL1 := Lib.hid (HL0.out.step hb); clear hb)
    | (go_at_call 55; (with_reducible refine (HCP.out _).mono ?_); rintro e w2 ⟨rfl, rfl⟩)
    | (go_at_call 56; (with_reducible refine (HLO.out _).mono ?_); rintro e w3 ⟨rfl, hb⟩; have HL2 := Lib.hid (HL1.out.step hb); clear hb))
  obtain ⟨-, -, -, e0, e1, e2, e3, e4, e5, e6, e7, e8⟩ := HE.out _ HL2.out.bel
  go_wp2_with fail
  clear e0 e1 e2 e3 e4 e5 e6 e7 e8
  go_loop [39] (fun i => ∃ k : Nat, k ≤ j ∧ i = .int .i64 (k : Int)) (fun i => 9 - (intOf i).toNat)
  case atStart => exact ⟨0, by omega, rfl⟩
  case round =>
    obtain ⟨k, hk, rfl⟩ := hrel
    by_cases hlt : k < j
    · have hix := ixf k (by omega)
      have hnf := HNE.out k hlt
      generalize faultS k = fs at *
      go_wp2_with fail
      all_goals
        go_round
        case rel => exact ⟨k + 1, by omega, by go_num⟩
        case measure => simp [intOf]; omega
    · obtain rfl : k = j := by omega
      have hix := ixf k (by omega)
      have hnf := HEQ.out
      have hk0 : (0 : Int) < (k : Int) := by omega
      clear hlt HNE HEQ
      generalize faultS k = fs at *
      go_wp2_with (go_at_call 54; (with_reducible refine (HNB.out _ HL2.out.bel).mono ?_); rintro e w5 ⟨rfl, hb⟩; have HL5 := Lib.hid (HL2.out.step hb); have bz := HL5.out.blk (g := w.heap.size) (t := 27) (cs := #[.int .i64 0, .string ⟨#[]⟩, .string ⟨#[]⟩, .string ⟨#[]⟩, .bool false, .int .i64 0, .int .i64 0, .int .i64 0, .slice none 0 0]) (by simp); obtain ⟨z0, z1, z2, z3, z4, z5, z6, z7, z8⟩ := bz.nine; obtain ⟨y0, y1, y2, y3, y4, y5, y6, y7, y8⟩ := bz.ninef; obtain ⟨bs, c0, c1, c2, c3, c4, c5, c6, c7, c8⟩ := bz.nine_set (.int .i64 4) (.string ⟨#[]⟩) (.string ⟨#[]⟩) (.string ⟨#[]⟩) (.bool false) (.int .i64 (k : Int)) (.int .i64 0) (.int .i64 0) (.slice none 0 0); have BS := Lib.hid bs; clear bz bs hb)
      obtain ⟨q0, q1, q2, q3, q4, q5, q6, q7, q8⟩ := BS.out.nine
      refine bodyPost_ret (v := .agg #[.int .i64 4, .string ⟨#[]⟩, .string ⟨#[]⟩, .string ⟨#[]⟩, .bool false, .int .i64 (k : Int), .int .i64 0, .int .i64 0, .slice none 0 0]) (by simp [results, Tryz.results18, go_sem, q0, q1, q2, q3, q4, q5, q6, q7, q8]) rfl ⟨rfl, ?_⟩
      exact below_nine HL5.out.bel (by omega) _ _ _ _ _ _ _ _ _
set_option maxRecDepth 100000 in
set_option maxHeartbeats 4000000 in
theorem enter_n (s f1 f2 : ByteArray) (hn : Numeric s f1 f2) (w : World) (he : VEnv w) : Calls Tryz.prog 18 #[.string s] w fun e w' => e = .returned (.agg #[.int .i64 1, .string f1, .string f2, .string ⟨#[]⟩, .bool false, .int .i64 0, .int .i64 0, .int .i64 0, .slice none 0 0]) ∧ Below w.heap.size w w' := by
  have HE := Lib.hid (show ∀ W, Below w.heap.size w W → VEnv W from fun W hb => he.below hb)
  have hsz := hn.size
  have h0 : s.toList.isEmpty = false := by
    obtain ⟨c, t, h1, -⟩ := hn.head
    rw [Lib.toList_data, h1]
    rfl
  have h1 : s.toList ≠ [] := by
    obtain ⟨c, t, h1, -⟩ := hn.head
    rw [Lib.toList_data, h1]
    simp
  have HTX := Lib.hid (tx_of s hn.txt (by omega) w he)
  have HCP := Lib.hid fun W => cpq_no s hn.head.quote W
  have HLO := Lib.hid fun W => lower_any s W (by omega)
  have hl1 := hn.head.low.true'
  have hl2 := hn.head.low.false'
  generalize (⟨(lowL s.data.toList).toArray⟩ : ByteArray) = lo at *
  have HNE := Lib.hid hn.head.fault
  have HNU := Lib.hid fun W (hW : Below w.heap.size w W) => hn.number W (he.below hW)
  have HNB := Lib.hid (show ∀ W, Below w.heap.size w W → Calls Tryz.prog 63 #[.agg #[.string f1, .string f2]] W fun e w' => e = .returned (.agg #[.int .i64 1, .string f1, .string f2, .string ⟨#[]⟩, .bool false, .int .i64 0, .int .i64 0, .int .i64 0, .slice none 0 0]) ∧ Below W.heap.size W w' from fun W hW => number_t f1 f2 W (he.below hW) hn.rd (rd_size hn.rd).1 (rd_size hn.rd).2)
  clear he hn hsz
  have HL0 := Lib.hid ((Loc.start w).alloc' rfl 27 #[.int .i64 0, .string ⟨#[]⟩, .string ⟨#[]⟩, .string ⟨#[]⟩, .bool false, .int .i64 0, .int .i64 0, .int .i64 0, .slice none 0 0])
  go_enter Tryz.func18, Tryz.ntmps18
  go_upto_region 11 with (first
    | (go_at_call 42; (with_reducible refine (HTX.out _ HL0.out.bel).mono ?_); rintro e w1 ⟨rfl, hb⟩; have HL1 := Lib.hid (HL0.out.step hb); clear hb)
    | (go_at_call 55; (with_reducible refine (HCP.out _).mono ?_); rintro e w2 ⟨rfl, rfl⟩)
    | (go_at_call 56; (with_reducible refine (HLO.out _).mono ?_); rintro e w3 ⟨rfl, hb⟩; have HL2 := Lib.hid (HL1.out.step hb); clear hb))
  obtain ⟨-, -, -, e0, e1, e2, e3, e4, e5, e6, e7, e8⟩ := HE.out _ HL2.out.bel
  go_wp2_with fail
  clear e0 e1 e2 e3 e4 e5 e6 e7 e8
  go_loop [39] (fun i => ∃ k : Nat, k ≤ 9 ∧ i = .int .i64 (k : Int)) (fun i => 9 - (intOf i).toNat)
  case atStart => exact ⟨0, by decide, rfl⟩
  case round =>
    obtain ⟨k, hk, rfl⟩ := hrel
    by_cases hlt : k < 9
    · have hix := ixf k hlt
      have hnf := HNE.out k (by omega)
      generalize faultS k = fs at *
      go_wp2_with fail
      all_goals
        go_round
        case rel => exact ⟨k + 1, by omega, by go_num⟩
        case measure => simp [intOf]; omega
    · obtain rfl : k = 9 := by omega
      go_wp2_with fail
      go_loopw [54] (fun i wr => i = .int .i64 0 ∧ Hid (Loc w [(w.heap.size, 27, #[.int .i64 0, .string ⟨#[]⟩, .string ⟨#[]⟩, .string ⟨#[]⟩, .bool false, .int .i64 0, .int .i64 0, .int .i64 0, .slice none 0 0])] wr)) (fun _ _ => 0)
      case atStart => exact ⟨rfl, HL2⟩
      case round =>
        obtain ⟨rfl, HL⟩ := hrel
        have hix := ixn0
        go_wp2_with (first
          | (go_at_call 58; (with_reducible refine (HNU.out _ HL.out.bel).mono ?_); rintro e w4 ⟨rfl, hb⟩; have HL4 := Lib.hid ((HL.out.step hb).alloc 24 #[.string f1, .string f2]); clear hb)
          | (go_at_call 63; (with_reducible refine (HNB.out _ HL4.out.bel).mono ?_); rintro e w5 ⟨rfl, hb⟩; have HL5 := Lib.hid (HL4.out.step hb); have bz := HL5.out.blk (g := w.heap.size) (t := 27) (cs := #[.int .i64 0, .string ⟨#[]⟩, .string ⟨#[]⟩, .string ⟨#[]⟩, .bool false, .int .i64 0, .int .i64 0, .int .i64 0, .slice none 0 0]) (by simp); obtain ⟨z0, z1, z2, z3, z4, z5, z6, z7, z8⟩ := bz.nine; obtain ⟨y0, y1, y2, y3, y4, y5, y6, y7, y8⟩ := bz.ninef; obtain ⟨bs, c0, c1, c2, c3, c4, c5, c6, c7, c8⟩ := bz.nine_set (.int .i64 1) (.string f1) (.string f2) (.string ⟨#[]⟩) (.bool false) (.int .i64 0) (.int .i64 0) (.int .i64 0) (.slice none 0 0); have BS := Lib.hid bs; clear bz bs hb))
        obtain ⟨q0, q1, q2, q3, q4, q5, q6, q7, q8⟩ := BS.out.nine
        refine bodyPost_ret (v := .agg #[.int .i64 1, .string f1, .string f2, .string ⟨#[]⟩, .bool false, .int .i64 0, .int .i64 0, .int .i64 0, .slice none 0 0]) (by simp [results, Tryz.results18, go_sem, q0, q1, q2, q3, q4, q5, q6, q7, q8]) rfl ⟨rfl, ?_⟩
        exact below_nine HL5.out.bel (by omega) _ _ _ _ _ _ _ _ _
/-- The text of an error. -/
theorem faultS_tx (j : Nat) (h1 : 1 ≤ j) (h8 : j ≤ 8) : txtE (faultS j) = 0 ∧ (faultS j).size ≤ 40000 ∧ (faultS j).toList.isEmpty = false ∧ (faultS j).toList ≠ [] ∧ Lib.hasPrefix (faultS j).data.toList [39] = false ∧ ((⟨(lowL (faultS j).data.toList).toArray⟩ : ByteArray).toList == [116, 114, 117, 101]) = false ∧ ((⟨(lowL (faultS j).data.toList).toArray⟩ : ByteArray).toList == [102, 97, 108, 115, 101]) = false := by
  rw [Lib.toList_data (faultS j), Lib.toList_data ⟨(lowL (faultS j).data.toList).toArray⟩]
  rcases (show j = 1 ∨ j = 2 ∨ j = 3 ∨ j = 4 ∨ j = 5 ∨ j = 6 ∨ j = 7 ∨ j = 8 by omega) with rfl | rfl | rfl | rfl | rfl | rfl | rfl | rfl <;> exact ⟨by decide +kernel, by decide +kernel, by decide +kernel, by decide +kernel, by decide +kernel, by decide +kernel, by decide +kernel⟩
theorem faultS_diff (j k : Nat) (h1 : 1 ≤ j) (h8 : j ≤ 8) (hk : k < j) : ((faultS j).toList == (faultS k).toList) = false := by
  rw [Lib.toList_data (faultS j), Lib.toList_data (faultS k)]
  have : ∀ j : Fin 9, ∀ k : Fin 9, k < j → ((faultS j.1).data.toList == (faultS k.1).data.toList) = false := by decide +kernel
  exact this ⟨j, by omega⟩ ⟨k, by omega⟩ hk
theorem enter_fault (j : Nat) (h1 : 1 ≤ j) (h8 : j ≤ 8) (w : World) (he : VEnv w) : Calls Tryz.prog 18 #[.string (faultS j)] w fun e w' => e = .returned (.agg #[.int .i64 4, .string ⟨#[]⟩, .string ⟨#[]⟩, .string ⟨#[]⟩, .bool false, .int .i64 (j : Int), .int .i64 0, .int .i64 0, .slice none 0 0]) ∧ Below w.heap.size w w' := by
  obtain ⟨a, b, c, d, e, f, g⟩ := faultS_tx j h1 h8
  exact enter_f (faultS j) ⟨(lowL (faultS j).data.toList).toArray⟩ j h1 h8 a b c d e rfl f g (fun k hk => faultS_diff j k h1 h8 hk) (by rw [beq_iff_eq]) w he
end Go.Proofs.YtmmlcponmdalmaaGreatDoor
