/- value.Same at values with equal fields and no items. -/
import Derived.Test.YtmmlcponmdalmaaGreatDoorVoC
import Derived.Test.YtmmlcponmdalmaaGreatDoorVoE
namespace Go.Proofs.YtmmlcponmdalmaaGreatDoor
open Go.RowKit

theorem eqfunc_0 (A1 A2 : Option Addr) (c1 c2 : Nat) (w : World) :
    Calls Tryz.prog 64 #[.slice A1 0 c1, .slice A2 0 c2, .func (.func 19) #[] #[]] w fun e w' => e = .returned (.bool true) ∧ w = w' := by
  go_enter Tryz.func64, Tryz.ntmps64
  go_wp2
  go_loop [17] (fun i => i = .int .i64 0) (fun _ => 0)
  case atStart => rfl
  case round =>
    obtain rfl := hrel
    go_wp2
    go_ret
    exact ⟨rfl, rfl⟩
set_option maxRecDepth 100000 in
set_option maxHeartbeats 4000000 in
theorem same_t (k : Int) (num den text : ByteArray) (on : Bool) (code rows cols : Int) (A1 A2 : Option Addr) (c1 c2 : Nat) (w : World) :
    Calls Tryz.prog 19 #[(.agg #[.int .i64 k, .string num, .string den, .string text, .bool on, .int .i64 code, .int .i64 rows, .int .i64 cols, .slice A1 0 c1]), (.agg #[.int .i64 k, .string num, .string den, .string text, .bool on, .int .i64 code, .int .i64 rows, .int .i64 cols, .slice A2 0 c2])] w fun e w' => e = .returned (.bool true) ∧ Below w.heap.size w w' := by
  have HL0 := Lib.hid (((Loc.start w).alloc' rfl 27 #[.int .i64 k, .string num, .string den, .string text, .bool on, .int .i64 code, .int .i64 rows, .int .i64 cols, .slice A1 0 c1]).alloc' (g := w.heap.size + 1) (by simp) 27 #[.int .i64 k, .string num, .string den, .string text, .bool on, .int .i64 code, .int .i64 rows, .int .i64 cols, .slice A2 0 c2])
  have HQ := fr_eql_self num den
  go_enter Tryz.func19, Tryz.ntmps19
  go_upto_region 1 with fail
  go_region_with fail
  all_goals
    go_wp2_with (go_at_call 64; (with_reducible refine (eqfunc_0 _ _ _ _ _).mono ?_); rintro e w2 ⟨rfl, rfl⟩)
    go_ret
    refine ⟨rfl, ?_⟩
    exact (((((Below.refl _ _).alloc (Nat.le_refl _) _).alloc (by simp) _).alloc (by simp; omega) _).alloc (by simp; omega) _).drew
end Go.Proofs.YtmmlcponmdalmaaGreatDoor

namespace Go.Proofs.YtmmlcponmdalmaaGreatDoor
open Go.RowKit

theorem ix3_0 (u0 u1 u2 u3 u4 u5 u6 u7 u8 u9 u10 u11 u12 u13 u14 u15 u16 u17 u18 u19 u20 u21 u22 u23 u24 u25 u26 : Value) (W : World) : (Instr.index 63 (.agg #[u0, u1, u2, u3, u4, u5, u6, u7, u8, u9, u10, u11, u12, u13, u14, u15, u16, u17, u18, u19, u20, u21, u22, u23, u24, u25, u26]) (.int .i64 0)).run Tryz.prog W = .ok (.agg #[u0, u1, u2, u3, u4, u5, u6, u7, u8]) W := by kernel_rfl
theorem ix3_1 (u0 u1 u2 u3 u4 u5 u6 u7 u8 u9 u10 u11 u12 u13 u14 u15 u16 u17 u18 u19 u20 u21 u22 u23 u24 u25 u26 : Value) (W : World) : (Instr.index 63 (.agg #[u0, u1, u2, u3, u4, u5, u6, u7, u8, u9, u10, u11, u12, u13, u14, u15, u16, u17, u18, u19, u20, u21, u22, u23, u24, u25, u26]) (.int .i64 1)).run Tryz.prog W = .ok (.agg #[u9, u10, u11, u12, u13, u14, u15, u16, u17]) W := by kernel_rfl
theorem ix3_2 (u0 u1 u2 u3 u4 u5 u6 u7 u8 u9 u10 u11 u12 u13 u14 u15 u16 u17 u18 u19 u20 u21 u22 u23 u24 u25 u26 : Value) (W : World) : (Instr.index 63 (.agg #[u0, u1, u2, u3, u4, u5, u6, u7, u8, u9, u10, u11, u12, u13, u14, u15, u16, u17, u18, u19, u20, u21, u22, u23, u24, u25, u26]) (.int .i64 2)).run Tryz.prog W = .ok (.agg #[u18, u19, u20, u21, u22, u23, u24, u25, u26]) W := by kernel_rfl
theorem strC_rng (a b : List UInt8) : -1 ≤ Cm.strC a b ∧ Cm.strC a b ≤ 1 := by
  unfold Cm.strC
  split
  · decide
  · split <;> decide
theorem intC_rng (a b : Int) : -1 ≤ Cm.intC a b ∧ Cm.intC a b ≤ 1 := by
  unfold Cm.intC
  split
  · decide
  · split <;> decide
theorem fracC_rng (a b : Int × Nat) : -1 ≤ Cm.fracC a b ∧ Cm.fracC a b ≤ 1 := by
  unfold Cm.fracC
  rcases Int.lt_trichotomy (a.1 * b.2 - b.1 * a.2) 0 with h | h | h
  · rw [Int.sign_eq_neg_one_of_neg h]; decide
  · rw [h]; decide
  · rw [Int.sign_eq_one_of_pos h]; decide
theorem kCmp_rng (a b : Vl) : -1 ≤ kCmp a b ∧ kCmp a b ≤ 1 := by
  unfold kCmp
  split
  · exact fracC_rng _ _
  · split
    · exact strC_rng _ _
    · split
      · cases a.on <;> cases b.on <;> decide
      · exact intC_rng _ _
theorem ordV_rng (a b : Vl) : -1 ≤ ordV a b ∧ ordV a b ≤ 1 := by
  unfold ordV
  split
  · exact intC_rng _ _
  · split
    · decide
    · unfold orI
      split
      · exact kCmp_rng _ _
      · exact strC_rng _ _
theorem same_zero (a b : Vl) (w : World) (ha : a.ok) (hb : b.ok) (h : ordV a b = 0) :
    Calls Tryz.prog 19 #[a.v, b.v] w fun e w' => e = .returned (.bool true) ∧ Below w.heap.size w w' := by
  obtain ⟨h1, h2, h3, h4, h5, h6, h7, h8, h9, h10⟩ := ordV_zero ha hb h
  clear ha hb h
  obtain ⟨k1, num1, den1, text1, on1, code1, rows1, cols1, A1, n1, c1⟩ := a
  obtain ⟨k2, num2, den2, text2, on2, code2, rows2, cols2, A2, n2, c2⟩ := b
  dsimp only at h1 h2 h3 h4 h5 h6 h7 h8 h9 h10
  subst h1 h2 h3 h4 h5 h6 h7 h8 h9 h10
  exact same_t _ _ _ _ _ _ _ _ _ _ _ _ w

set_option maxRecDepth 100000 in
set_option maxHeartbeats 8000000 in
theorem total_w (a b c : Vl) (w : World) (he : VEnv w) (sa : a.sz) (sb : b.sz) (sc : c.sz) (ia : a.its w) (ib : b.its w) (ic : c.its w) :
    Calls Tryz.prog 7 #[a.v, b.v, c.v] w fun e w' => e = .returned (.bool true) ∧ Below w.heap.size w w' := by
  have HV := Lib.hid fun W (hW : Below w.heap.size w W) => values_any W (he.below hW)
  have HC1 := Lib.hid fun W (hW : Below w.heap.size w W) => check_all a W (he.below hW) (ia.below hW) sa
  have HC2 := Lib.hid fun W (hW : Below w.heap.size w W) => check_all b W (he.below hW) (ib.below hW) sb
  have HC3 := Lib.hid fun W (hW : Below w.heap.size w W) => check_all c W (he.below hW) (ic.below hW) sc
  have HO12 := Lib.hid fun W (hW : Below w.heap.size w W) (ha : a.ok) (hb : b.ok) (_ : c.ok) => order_any a b W (he.below hW) ha hb sa sb
  have HO21 := Lib.hid fun W (hW : Below w.heap.size w W) (ha : a.ok) (hb : b.ok) (_ : c.ok) => order_any b a W (he.below hW) hb ha sb sa
  have HO23 := Lib.hid fun W (hW : Below w.heap.size w W) (_ : a.ok) (hb : b.ok) (hc : c.ok) => order_any b c W (he.below hW) hb hc sb sc
  have HO13 := Lib.hid fun W (hW : Below w.heap.size w W) (ha : a.ok) (_ : b.ok) (hc : c.ok) => order_any a c W (he.below hW) ha hc sa sc
  have HS := Lib.hid fun W (ha : a.ok) (hb : b.ok) (h : ordV a b = 0) => same_zero a b W ha hb h
  have HLAW := Lib.hid fun (ha : a.ok) (hb : b.ok) (hc : c.ok) => ordV_law ha hb hc
  have HR := Lib.hid (And.intro (ordV_rng a b) (And.intro (ordV_rng b c) (ordV_rng a c)))
  generalize ordV a b = ab at *
  generalize ordV b a = ba at *
  generalize ordV b c = bc at *
  generalize ordV a c = ac at *
  clear he ia ib ic sa sb sc
  generalize a.ok = P1 at *
  generalize b.ok = P2 at *
  generalize c.ok = P3 at *
  obtain ⟨k1, num1, den1, text1, on1, code1, rows1, cols1, A1, n1, c1⟩ := a
  obtain ⟨k2, num2, den2, text2, on2, code2, rows2, cols2, A2, n2, c2⟩ := b
  obtain ⟨k3, num3, den3, text3, on3, code3, rows3, cols3, A3, n3, c3⟩ := c
  have HC1 := Lib.hid (show ∀ W, Below w.heap.size w W → Calls Tryz.prog 15 #[(.agg #[.int .i64 k1, .string num1, .string den1, .string text1, .bool on1, .int .i64 code1, .int .i64 rows1, .int .i64 cols1, .slice A1 n1 c1])] W fun e w' => ∃ cc : Int, e = .returned (.int .i64 cc) ∧ (k1 ≠ 5 → cc = 0 → P1) ∧ Below W.heap.size W w' from HC1.out)
  have HC2 := Lib.hid (show ∀ W, Below w.heap.size w W → Calls Tryz.prog 15 #[(.agg #[.int .i64 k2, .string num2, .string den2, .string text2, .bool on2, .int .i64 code2, .int .i64 rows2, .int .i64 cols2, .slice A2 n2 c2])] W fun e w' => ∃ cc : Int, e = .returned (.int .i64 cc) ∧ (k2 ≠ 5 → cc = 0 → P2) ∧ Below W.heap.size W w' from HC2.out)
  have HC3 := Lib.hid (show ∀ W, Below w.heap.size w W → Calls Tryz.prog 15 #[(.agg #[.int .i64 k3, .string num3, .string den3, .string text3, .bool on3, .int .i64 code3, .int .i64 rows3, .int .i64 cols3, .slice A3 n3 c3])] W fun e w' => ∃ cc : Int, e = .returned (.int .i64 cc) ∧ (k3 ≠ 5 → cc = 0 → P3) ∧ Below W.heap.size W w' from HC3.out)
  have HO12 := Lib.hid (show ∀ W, Below w.heap.size w W → P1 → P2 → P3 → Calls Tryz.prog 26 #[(.agg #[.int .i64 k1, .string num1, .string den1, .string text1, .bool on1, .int .i64 code1, .int .i64 rows1, .int .i64 cols1, .slice A1 n1 c1]), (.agg #[.int .i64 k2, .string num2, .string den2, .string text2, .bool on2, .int .i64 code2, .int .i64 rows2, .int .i64 cols2, .slice A2 n2 c2])] W fun e w' => e = .returned (.tuple #[.int .i64 ab, .int .i64 0]) ∧ Below W.heap.size W w' from HO12.out)
  have HO21 := Lib.hid (show ∀ W, Below w.heap.size w W → P1 → P2 → P3 → Calls Tryz.prog 26 #[(.agg #[.int .i64 k2, .string num2, .string den2, .string text2, .bool on2, .int .i64 code2, .int .i64 rows2, .int .i64 cols2, .slice A2 n2 c2]), (.agg #[.int .i64 k1, .string num1, .string den1, .string text1, .bool on1, .int .i64 code1, .int .i64 rows1, .int .i64 cols1, .slice A1 n1 c1])] W fun e w' => e = .returned (.tuple #[.int .i64 ba, .int .i64 0]) ∧ Below W.heap.size W w' from HO21.out)
  have HO23 := Lib.hid (show ∀ W, Below w.heap.size w W → P1 → P2 → P3 → Calls Tryz.prog 26 #[(.agg #[.int .i64 k2, .string num2, .string den2, .string text2, .bool on2, .int .i64 code2, .int .i64 rows2, .int .i64 cols2, .slice A2 n2 c2]), (.agg #[.int .i64 k3, .string num3, .string den3, .string text3, .bool on3, .int .i64 code3, .int .i64 rows3, .int .i64 cols3, .slice A3 n3 c3])] W fun e w' => e = .returned (.tuple #[.int .i64 bc, .int .i64 0]) ∧ Below W.heap.size W w' from HO23.out)
  have HO13 := Lib.hid (show ∀ W, Below w.heap.size w W → P1 → P2 → P3 → Calls Tryz.prog 26 #[(.agg #[.int .i64 k1, .string num1, .string den1, .string text1, .bool on1, .int .i64 code1, .int .i64 rows1, .int .i64 cols1, .slice A1 n1 c1]), (.agg #[.int .i64 k3, .string num3, .string den3, .string text3, .bool on3, .int .i64 code3, .int .i64 rows3, .int .i64 cols3, .slice A3 n3 c3])] W fun e w' => e = .returned (.tuple #[.int .i64 ac, .int .i64 0]) ∧ Below W.heap.size W w' from HO13.out)
  have HS := Lib.hid (show ∀ W, P1 → P2 → ab = 0 → Calls Tryz.prog 19 #[(.agg #[.int .i64 k1, .string num1, .string den1, .string text1, .bool on1, .int .i64 code1, .int .i64 rows1, .int .i64 cols1, .slice A1 n1 c1]), (.agg #[.int .i64 k2, .string num2, .string den2, .string text2, .bool on2, .int .i64 code2, .int .i64 rows2, .int .i64 cols2, .slice A2 n2 c2])] W fun e w' => e = .returned (.bool true) ∧ Below W.heap.size W w' from HS.out)
  show Calls Tryz.prog 7 #[(.agg #[.int .i64 k1, .string num1, .string den1, .string text1, .bool on1, .int .i64 code1, .int .i64 rows1, .int .i64 cols1, .slice A1 n1 c1]), (.agg #[.int .i64 k2, .string num2, .string den2, .string text2, .bool on2, .int .i64 code2, .int .i64 rows2, .int .i64 cols2, .slice A2 n2 c2]), (.agg #[.int .i64 k3, .string num3, .string den3, .string text3, .bool on3, .int .i64 code3, .int .i64 rows3, .int .i64 cols3, .slice A3 n3 c3])] w _
  have HL0 := Lib.hid ((((Loc.start w).alloc' rfl 27 #[.int .i64 k1, .string num1, .string den1, .string text1, .bool on1, .int .i64 code1, .int .i64 rows1, .int .i64 cols1, .slice A1 n1 c1]).alloc' (g := w.heap.size + 1) (by simp) 27 #[.int .i64 k2, .string num2, .string den2, .string text2, .bool on2, .int .i64 code2, .int .i64 rows2, .int .i64 cols2, .slice A2 n2 c2]).alloc' (g := w.heap.size + 2) (by simp) 27 #[.int .i64 k3, .string num3, .string den3, .string text3, .bool on3, .int .i64 code3, .int .i64 rows3, .int .i64 cols3, .slice A3 n3 c3])
  go_enter Tryz.func7, Tryz.ntmps7
  go_wp2_with (go_at_call 14; (with_reducible refine (HV.out _ HL0.out.bel).mono ?_); rintro e w1 ⟨rfl, hb⟩; have HL1 := Lib.hid (HL0.out.step hb); obtain ⟨x0, x1, x2, x3, x4, x5, x6, x7, x8⟩ := (HL1.out.blk (g := w.heap.size) (t := 27) (cs := #[.int .i64 k1, .string num1, .string den1, .string text1, .bool on1, .int .i64 code1, .int .i64 rows1, .int .i64 cols1, .slice A1 n1 c1]) (by simp)).nine; obtain ⟨y0, y1, y2, y3, y4, y5, y6, y7, y8⟩ := (HL1.out.blk (g := w.heap.size + 1) (t := 27) (cs := #[.int .i64 k2, .string num2, .string den2, .string text2, .bool on2, .int .i64 code2, .int .i64 rows2, .int .i64 cols2, .slice A2 n2 c2]) (by simp)).nine; obtain ⟨z0, z1, z2, z3, z4, z5, z6, z7, z8⟩ := (HL1.out.blk (g := w.heap.size + 2) (t := 27) (cs := #[.int .i64 k3, .string num3, .string den3, .string text3, .bool on3, .int .i64 code3, .int .i64 rows3, .int .i64 cols3, .slice A3 n3 c3]) (by simp)).nine; clear hb)
  clear x0 x1 x2 x3 x4 x5 x6 x7 x8 y0 y1 y2 y3 y4 y5 y6 y7 y8 z0 z1 z2 z3 z4 z5 z6 z7 z8
  go_loopw [23] (fun i wr => ∃ m : Nat, m ≤ 3 ∧ i = .int .i64 (m : Int) ∧ Hid ((0 < m → P1) ∧ (1 < m → P2) ∧ (2 < m → P3)) ∧ Hid (Loc w [(w.heap.size + 2, 27, #[.int .i64 k3, .string num3, .string den3, .string text3, .bool on3, .int .i64 code3, .int .i64 rows3, .int .i64 cols3, .slice A3 n3 c3]), (w.heap.size + 1, 27, #[.int .i64 k2, .string num2, .string den2, .string text2, .bool on2, .int .i64 code2, .int .i64 rows2, .int .i64 cols2, .slice A2 n2 c2]), (w.heap.size, 27, #[.int .i64 k1, .string num1, .string den1, .string text1, .bool on1, .int .i64 code1, .int .i64 rows1, .int .i64 cols1, .slice A1 n1 c1])] wr)) (fun i _ => 3 - (intOf i).toNat)
  case atStart => exact ⟨0, by decide, rfl, Lib.hid ⟨fun h => absurd h (by decide), fun h => absurd h (by decide), fun h => absurd h (by decide)⟩, HL1⟩
  case round =>
    obtain ⟨m, hm, rfl, HP, HL⟩ := hrel
    rcases (show m = 0 ∨ m = 1 ∨ m = 2 ∨ m = 3 by omega) with rfl | rfl | rfl | rfl
    · have hix := ix3_0
      by_cases h5 : k1 = 5
      · subst h5
        go_wp2_with (go_at_call 15; (with_reducible refine (HC1.out _ (HL.out.alloc _ _).bel).mono ?_); rintro e w2 ⟨cc, rfl, hok, hb⟩; clear hok; have HB := Lib.hid ((HL.out.alloc 27 #[.int .i64 5, .string num1, .string den1, .string text1, .bool on1, .int .i64 code1, .int .i64 rows1, .int .i64 cols1, .slice A1 n1 c1]).step hb); obtain ⟨v0, -⟩ := (HB.out.blk (g := wr.heap.size) (t := 27) (cs := #[.int .i64 5, .string num1, .string den1, .string text1, .bool on1, .int .i64 code1, .int .i64 rows1, .int .i64 cols1, .slice A1 n1 c1]) (by simp)).nine; clear hb; rcases Decidable.em (cc = 0) with rfl | hne)
        all_goals
          go_ret
          exact ⟨rfl, HB.out.bel⟩
      · have hk5 : ((k1 : Int) == 5) = false := by rw [beq_eq_false_iff_ne]; exact h5
        go_wp2_with (go_at_call 15; (with_reducible refine (HC1.out _ (HL.out.alloc _ _).bel).mono ?_); rintro e w2 ⟨cc, rfl, hok, hb⟩; have HL1 := Lib.hid (((HL.out.alloc 27 #[.int .i64 k1, .string num1, .string den1, .string text1, .bool on1, .int .i64 code1, .int .i64 rows1, .int .i64 cols1, .slice A1 n1 c1]).step hb).perm (L' := [(w.heap.size + 2, 27, #[.int .i64 k3, .string num3, .string den3, .string text3, .bool on3, .int .i64 code3, .int .i64 rows3, .int .i64 cols3, .slice A3 n3 c3]), (w.heap.size + 1, 27, #[.int .i64 k2, .string num2, .string den2, .string text2, .bool on2, .int .i64 code2, .int .i64 rows2, .int .i64 cols2, .slice A2 n2 c2]), (w.heap.size, 27, #[.int .i64 k1, .string num1, .string den1, .string text1, .bool on1, .int .i64 code1, .int .i64 rows1, .int .i64 cols1, .slice A1 n1 c1])]) (by simp)); obtain ⟨v0, -⟩ := (((HL.out.alloc 27 #[.int .i64 k1, .string num1, .string den1, .string text1, .bool on1, .int .i64 code1, .int .i64 rows1, .int .i64 cols1, .slice A1 n1 c1]).step hb).blk (g := wr.heap.size) (t := 27) (cs := #[.int .i64 k1, .string num1, .string den1, .string text1, .bool on1, .int .i64 code1, .int .i64 rows1, .int .i64 cols1, .slice A1 n1 c1]) (by simp)).nine; clear hb; have HK := Lib.hid (hok h5); clear hok)
        all_goals first
          | (go_ret; exact ⟨rfl, HL1.out.bel⟩)
          | (have hok := HK.out (by first | rfl | assumption)
             exact ⟨⟨1, by decide, rfl, Lib.hid ⟨fun _ => hok, fun h => absurd h (by decide), fun h => absurd h (by decide)⟩, HL1⟩, by simp [intOf]⟩)
    · have hix := ix3_1
      by_cases h5 : k2 = 5
      · subst h5
        go_wp2_with (go_at_call 15; (with_reducible refine (HC2.out _ (HL.out.alloc _ _).bel).mono ?_); rintro e w2 ⟨cc, rfl, hok, hb⟩; clear hok; have HB := Lib.hid ((HL.out.alloc 27 #[.int .i64 5, .string num2, .string den2, .string text2, .bool on2, .int .i64 code2, .int .i64 rows2, .int .i64 cols2, .slice A2 n2 c2]).step hb); obtain ⟨v0, -⟩ := (HB.out.blk (g := wr.heap.size) (t := 27) (cs := #[.int .i64 5, .string num2, .string den2, .string text2, .bool on2, .int .i64 code2, .int .i64 rows2, .int .i64 cols2, .slice A2 n2 c2]) (by simp)).nine; clear hb; rcases Decidable.em (cc = 0) with rfl | hne)
        all_goals
          go_ret
          exact ⟨rfl, HB.out.bel⟩
      · have hk5 : ((k2 : Int) == 5) = false := by rw [beq_eq_false_iff_ne]; exact h5
        go_wp2_with (go_at_call 15; (with_reducible refine (HC2.out _ (HL.out.alloc _ _).bel).mono ?_); rintro e w2 ⟨cc, rfl, hok, hb⟩; have HL1 := Lib.hid (((HL.out.alloc 27 #[.int .i64 k2, .string num2, .string den2, .string text2, .bool on2, .int .i64 code2, .int .i64 rows2, .int .i64 cols2, .slice A2 n2 c2]).step hb).perm (L' := [(w.heap.size + 2, 27, #[.int .i64 k3, .string num3, .string den3, .string text3, .bool on3, .int .i64 code3, .int .i64 rows3, .int .i64 cols3, .slice A3 n3 c3]), (w.heap.size + 1, 27, #[.int .i64 k2, .string num2, .string den2, .string text2, .bool on2, .int .i64 code2, .int .i64 rows2, .int .i64 cols2, .slice A2 n2 c2]), (w.heap.size, 27, #[.int .i64 k1, .string num1, .string den1, .string text1, .bool on1, .int .i64 code1, .int .i64 rows1, .int .i64 cols1, .slice A1 n1 c1])]) (by simp)); obtain ⟨v0, -⟩ := (((HL.out.alloc 27 #[.int .i64 k2, .string num2, .string den2, .string text2, .bool on2, .int .i64 code2, .int .i64 rows2, .int .i64 cols2, .slice A2 n2 c2]).step hb).blk (g := wr.heap.size) (t := 27) (cs := #[.int .i64 k2, .string num2, .string den2, .string text2, .bool on2, .int .i64 code2, .int .i64 rows2, .int .i64 cols2, .slice A2 n2 c2]) (by simp)).nine; clear hb; have HK := Lib.hid (hok h5); clear hok)
        all_goals first
          | (go_ret; exact ⟨rfl, HL1.out.bel⟩)
          | (have hok := HK.out (by first | rfl | assumption)
             exact ⟨⟨2, by decide, rfl, Lib.hid ⟨fun _ => HP.out.1 (by decide), fun _ => hok, fun h => absurd h (by decide)⟩, HL1⟩, by simp [intOf]⟩)
    · have hix := ix3_2
      by_cases h5 : k3 = 5
      · subst h5
        go_wp2_with (go_at_call 15; (with_reducible refine (HC3.out _ (HL.out.alloc _ _).bel).mono ?_); rintro e w2 ⟨cc, rfl, hok, hb⟩; clear hok; have HB := Lib.hid ((HL.out.alloc 27 #[.int .i64 5, .string num3, .string den3, .string text3, .bool on3, .int .i64 code3, .int .i64 rows3, .int .i64 cols3, .slice A3 n3 c3]).step hb); obtain ⟨v0, -⟩ := (HB.out.blk (g := wr.heap.size) (t := 27) (cs := #[.int .i64 5, .string num3, .string den3, .string text3, .bool on3, .int .i64 code3, .int .i64 rows3, .int .i64 cols3, .slice A3 n3 c3]) (by simp)).nine; clear hb; rcases Decidable.em (cc = 0) with rfl | hne)
        all_goals
          go_ret
          exact ⟨rfl, HB.out.bel⟩
      · have hk5 : ((k3 : Int) == 5) = false := by rw [beq_eq_false_iff_ne]; exact h5
        go_wp2_with (go_at_call 15; (with_reducible refine (HC3.out _ (HL.out.alloc _ _).bel).mono ?_); rintro e w2 ⟨cc, rfl, hok, hb⟩; have HL1 := Lib.hid (((HL.out.alloc 27 #[.int .i64 k3, .string num3, .string den3, .string text3, .bool on3, .int .i64 code3, .int .i64 rows3, .int .i64 cols3, .slice A3 n3 c3]).step hb).perm (L' := [(w.heap.size + 2, 27, #[.int .i64 k3, .string num3, .string den3, .string text3, .bool on3, .int .i64 code3, .int .i64 rows3, .int .i64 cols3, .slice A3 n3 c3]), (w.heap.size + 1, 27, #[.int .i64 k2, .string num2, .string den2, .string text2, .bool on2, .int .i64 code2, .int .i64 rows2, .int .i64 cols2, .slice A2 n2 c2]), (w.heap.size, 27, #[.int .i64 k1, .string num1, .string den1, .string text1, .bool on1, .int .i64 code1, .int .i64 rows1, .int .i64 cols1, .slice A1 n1 c1])]) (by simp)); obtain ⟨v0, -⟩ := (((HL.out.alloc 27 #[.int .i64 k3, .string num3, .string den3, .string text3, .bool on3, .int .i64 code3, .int .i64 rows3, .int .i64 cols3, .slice A3 n3 c3]).step hb).blk (g := wr.heap.size) (t := 27) (cs := #[.int .i64 k3, .string num3, .string den3, .string text3, .bool on3, .int .i64 code3, .int .i64 rows3, .int .i64 cols3, .slice A3 n3 c3]) (by simp)).nine; clear hb; have HK := Lib.hid (hok h5); clear hok)
        all_goals first
          | (go_ret; exact ⟨rfl, HL1.out.bel⟩)
          | (have hok := HK.out (by first | rfl | assumption)
             exact ⟨⟨3, by decide, rfl, Lib.hid ⟨fun _ => HP.out.1 (by decide), fun _ => HP.out.2.1 (by decide), fun _ => hok⟩, HL1⟩, by simp [intOf]⟩)
    · obtain ⟨p1, p2, p3⟩ := HP.out
      have p1 := p1 (by decide)
      have p2 := p2 (by decide)
      have p3 := p3 (by decide)
      have HQ12 := Lib.hid fun W hW => HO12.out W hW p1 p2 p3
      have HQ21 := Lib.hid fun W hW => HO21.out W hW p1 p2 p3
      have HQ23 := Lib.hid fun W hW => HO23.out W hW p1 p2 p3
      have HQ13 := Lib.hid fun W hW => HO13.out W hW p1 p2 p3
      have HT := Lib.hid fun W h => HS.out W p1 p2 h
      have HLW := Lib.hid (HLAW.out p1 p2 p3)
      clear p1 p2 p3 HP HC1 HC2 HC3 HO12 HO21 HO23 HO13 HS HLAW HV
      obtain ⟨x0, x1, x2, x3, x4, x5, x6, x7, x8⟩ := (HL.out.blk (g := w.heap.size) (t := 27) (cs := #[.int .i64 k1, .string num1, .string den1, .string text1, .bool on1, .int .i64 code1, .int .i64 rows1, .int .i64 cols1, .slice A1 n1 c1]) (by simp)).nine; obtain ⟨y0, y1, y2, y3, y4, y5, y6, y7, y8⟩ := (HL.out.blk (g := w.heap.size + 1) (t := 27) (cs := #[.int .i64 k2, .string num2, .string den2, .string text2, .bool on2, .int .i64 code2, .int .i64 rows2, .int .i64 cols2, .slice A2 n2 c2]) (by simp)).nine; obtain ⟨z0, z1, z2, z3, z4, z5, z6, z7, z8⟩ := (HL.out.blk (g := w.heap.size + 2) (t := 27) (cs := #[.int .i64 k3, .string num3, .string den3, .string text3, .bool on3, .int .i64 code3, .int .i64 rows3, .int .i64 cols3, .slice A3 n3 c3]) (by simp)).nine
      go_upto_region 13 with (go_at_call 26; first
        | ((with_reducible refine (HQ12.out _ HL.out.bel).mono ?_); rintro e w2 ⟨rfl, hb⟩; have hl := HL.out.step hb; clear HL; clear x0 x1 x2 x3 x4 x5 x6 x7 x8 y0 y1 y2 y3 y4 y5 y6 y7 y8 z0 z1 z2 z3 z4 z5 z6 z7 z8; have HL := Lib.hid hl; clear hl hb; obtain ⟨x0, x1, x2, x3, x4, x5, x6, x7, x8⟩ := (HL.out.blk (g := w.heap.size) (t := 27) (cs := #[.int .i64 k1, .string num1, .string den1, .string text1, .bool on1, .int .i64 code1, .int .i64 rows1, .int .i64 cols1, .slice A1 n1 c1]) (by simp)).nine; obtain ⟨y0, y1, y2, y3, y4, y5, y6, y7, y8⟩ := (HL.out.blk (g := w.heap.size + 1) (t := 27) (cs := #[.int .i64 k2, .string num2, .string den2, .string text2, .bool on2, .int .i64 code2, .int .i64 rows2, .int .i64 cols2, .slice A2 n2 c2]) (by simp)).nine; obtain ⟨z0, z1, z2, z3, z4, z5, z6, z7, z8⟩ := (HL.out.blk (g := w.heap.size + 2) (t := 27) (cs := #[.int .i64 k3, .string num3, .string den3, .string text3, .bool on3, .int .i64 code3, .int .i64 rows3, .int .i64 cols3, .slice A3 n3 c3]) (by simp)).nine)
        | ((with_reducible refine (HQ21.out _ HL.out.bel).mono ?_); rintro e w2 ⟨rfl, hb⟩; have hl := HL.out.step hb; clear HL; clear x0 x1 x2 x3 x4 x5 x6 x7 x8 y0 y1 y2 y3 y4 y5 y6 y7 y8 z0 z1 z2 z3 z4 z5 z6 z7 z8; have HL := Lib.hid hl; clear hl hb; obtain ⟨x0, x1, x2, x3, x4, x5, x6, x7, x8⟩ := (HL.out.blk (g := w.heap.size) (t := 27) (cs := #[.int .i64 k1, .string num1, .string den1, .string text1, .bool on1, .int .i64 code1, .int .i64 rows1, .int .i64 cols1, .slice A1 n1 c1]) (by simp)).nine; obtain ⟨y0, y1, y2, y3, y4, y5, y6, y7, y8⟩ := (HL.out.blk (g := w.heap.size + 1) (t := 27) (cs := #[.int .i64 k2, .string num2, .string den2, .string text2, .bool on2, .int .i64 code2, .int .i64 rows2, .int .i64 cols2, .slice A2 n2 c2]) (by simp)).nine; obtain ⟨z0, z1, z2, z3, z4, z5, z6, z7, z8⟩ := (HL.out.blk (g := w.heap.size + 2) (t := 27) (cs := #[.int .i64 k3, .string num3, .string den3, .string text3, .bool on3, .int .i64 code3, .int .i64 rows3, .int .i64 cols3, .slice A3 n3 c3]) (by simp)).nine)
        | ((with_reducible refine (HQ23.out _ HL.out.bel).mono ?_); rintro e w2 ⟨rfl, hb⟩; have hl := HL.out.step hb; clear HL; clear x0 x1 x2 x3 x4 x5 x6 x7 x8 y0 y1 y2 y3 y4 y5 y6 y7 y8 z0 z1 z2 z3 z4 z5 z6 z7 z8; have HL := Lib.hid hl; clear hl hb; obtain ⟨x0, x1, x2, x3, x4, x5, x6, x7, x8⟩ := (HL.out.blk (g := w.heap.size) (t := 27) (cs := #[.int .i64 k1, .string num1, .string den1, .string text1, .bool on1, .int .i64 code1, .int .i64 rows1, .int .i64 cols1, .slice A1 n1 c1]) (by simp)).nine; obtain ⟨y0, y1, y2, y3, y4, y5, y6, y7, y8⟩ := (HL.out.blk (g := w.heap.size + 1) (t := 27) (cs := #[.int .i64 k2, .string num2, .string den2, .string text2, .bool on2, .int .i64 code2, .int .i64 rows2, .int .i64 cols2, .slice A2 n2 c2]) (by simp)).nine; obtain ⟨z0, z1, z2, z3, z4, z5, z6, z7, z8⟩ := (HL.out.blk (g := w.heap.size + 2) (t := 27) (cs := #[.int .i64 k3, .string num3, .string den3, .string text3, .bool on3, .int .i64 code3, .int .i64 rows3, .int .i64 cols3, .slice A3 n3 c3]) (by simp)).nine)
        | ((with_reducible refine (HQ13.out _ HL.out.bel).mono ?_); rintro e w2 ⟨rfl, hb⟩; have hl := HL.out.step hb; clear HL; clear x0 x1 x2 x3 x4 x5 x6 x7 x8 y0 y1 y2 y3 y4 y5 y6 y7 y8 z0 z1 z2 z3 z4 z5 z6 z7 z8; have HL := Lib.hid hl; clear hl hb; obtain ⟨x0, x1, x2, x3, x4, x5, x6, x7, x8⟩ := (HL.out.blk (g := w.heap.size) (t := 27) (cs := #[.int .i64 k1, .string num1, .string den1, .string text1, .bool on1, .int .i64 code1, .int .i64 rows1, .int .i64 cols1, .slice A1 n1 c1]) (by simp)).nine; obtain ⟨y0, y1, y2, y3, y4, y5, y6, y7, y8⟩ := (HL.out.blk (g := w.heap.size + 1) (t := 27) (cs := #[.int .i64 k2, .string num2, .string den2, .string text2, .bool on2, .int .i64 code2, .int .i64 rows2, .int .i64 cols2, .slice A2 n2 c2]) (by simp)).nine; obtain ⟨z0, z1, z2, z3, z4, z5, z6, z7, z8⟩ := (HL.out.blk (g := w.heap.size + 2) (t := 27) (cs := #[.int .i64 k3, .string num3, .string den3, .string text3, .bool on3, .int .i64 code3, .int .i64 rows3, .int .i64 cols3, .slice A3 n3 c3]) (by simp)).nine))
      obtain ⟨e1, l1, l2⟩ := HLW.out
      obtain ⟨⟨r1, r2⟩, ⟨r3, r4⟩, r5, r6⟩ := HR.out
      have hba : ba = -ab := by omega
      subst hba
      clear HLW HR e1
      rcases (show ab = -1 ∨ ab = 0 ∨ ab = 1 by omega) with rfl | rfl | rfl
      all_goals rcases (show bc = -1 ∨ bc = 0 ∨ bc = 1 by omega) with rfl | rfl | rfl
      all_goals rcases (show ac = -1 ∨ ac = 0 ∨ ac = 1 by omega) with rfl | rfl | rfl
      all_goals first
        | (exfalso; omega)
        | (clear l1 l2 r1 r2 r3 r4 r5 r6
           go_wp2_with (go_at_call 19; (with_reducible refine (HT.out _ rfl).mono ?_); rintro e w3 ⟨rfl, hb⟩; have hl := HL.out.step hb; clear HL; clear x0 x1 x2 x3 x4 x5 x6 x7 x8 y0 y1 y2 y3 y4 y5 y6 y7 y8 z0 z1 z2 z3 z4 z5 z6 z7 z8; have HL := Lib.hid hl; clear hl hb)
           go_ret
           exact ⟨rfl, HL.out.bel⟩)
end Go.Proofs.YtmmlcponmdalmaaGreatDoor
