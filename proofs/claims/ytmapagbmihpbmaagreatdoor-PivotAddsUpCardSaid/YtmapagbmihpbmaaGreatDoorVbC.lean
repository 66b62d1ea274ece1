/- value: both, Order. -/
import Derived.Test.YtmapagbmihpbmaaGreatDoorGm
import Derived.Test.YtmapagbmihpbmaaGreatDoorGm
namespace Go.Proofs.YtmapagbmihpbmaaGreatDoor
open Go.RowKit

theorem ix2_0 (u0 u1 u2 u3 u4 u5 u6 u7 u8 u9 u10 u11 u12 u13 u14 u15 u16 u17 : Value) (W : World) : (Instr.index 170 (.agg #[u0, u1, u2, u3, u4, u5, u6, u7, u8, u9, u10, u11, u12, u13, u14, u15, u16, u17]) (.int .i64 0)).run Tryz.prog W = .ok (.agg #[u0, u1, u2, u3, u4, u5, u6, u7, u8]) W := by kernel_rfl
theorem ix2_1 (u0 u1 u2 u3 u4 u5 u6 u7 u8 u9 u10 u11 u12 u13 u14 u15 u16 u17 : Value) (W : World) : (Instr.index 170 (.agg #[u0, u1, u2, u3, u4, u5, u6, u7, u8, u9, u10, u11, u12, u13, u14, u15, u16, u17]) (.int .i64 1)).run Tryz.prog W = .ok (.agg #[u9, u10, u11, u12, u13, u14, u15, u16, u17]) W := by kernel_rfl
set_option maxRecDepth 100000 in
set_option maxHeartbeats 4000000 in
theorem bothv_t (a b : Vl) (w : World) (he : VEnv w) (ha : a.ok) (hb : b.ok) (sa : a.sz) (sb : b.sz) :
    Calls Tryz.prog 90 #[a.v, b.v, .int .i64 4] w fun e w' => e = .returned (.int .i64 0) ∧ Below w.heap.size w w' := by
  have HC1 := Lib.hid fun W (hW : Below w.heap.size w W) => check_t' a W (he.below hW) ha sa.s1 sa.s2 sa.s3
  have HC2 := Lib.hid fun W (hW : Below w.heap.size w W) => check_t' b W (he.below hW) hb sb.s1 sb.s2 sb.s3
  have ka4 := ha.2.1
  have kb4 := hb.2.1
  clear he ha hb sa sb
  obtain ⟨k, num1, den1, text1, on1, code1, rows1, cols1, A1, n1, c1⟩ := a
  obtain ⟨j, num2, den2, text2, on2, code2, rows2, cols2, A2, n2, c2⟩ := b
  dsimp only at ka4 kb4
  have HC1 := Lib.hid (show ∀ W, Below w.heap.size w W → Calls Tryz.prog 34 #[(.agg #[.int .i64 k, .string num1, .string den1, .string text1, .bool on1, .int .i64 code1, .int .i64 rows1, .int .i64 cols1, .slice A1 n1 c1])] W fun e w' => e = .returned (.int .i64 0) ∧ Below W.heap.size W w' from HC1.out)
  have HC2 := Lib.hid (show ∀ W, Below w.heap.size w W → Calls Tryz.prog 34 #[(.agg #[.int .i64 j, .string num2, .string den2, .string text2, .bool on2, .int .i64 code2, .int .i64 rows2, .int .i64 cols2, .slice A2 n2 c2])] W fun e w' => e = .returned (.int .i64 0) ∧ Below W.heap.size W w' from HC2.out)
  show Calls Tryz.prog 90 #[(.agg #[.int .i64 k, .string num1, .string den1, .string text1, .bool on1, .int .i64 code1, .int .i64 rows1, .int .i64 cols1, .slice A1 n1 c1]), (.agg #[.int .i64 j, .string num2, .string den2, .string text2, .bool on2, .int .i64 code2, .int .i64 rows2, .int .i64 cols2, .slice A2 n2 c2]), .int .i64 4] w _
  have HL0 := Lib.hid (((Loc.start w).alloc' rfl 27 #[.int .i64 k, .string num1, .string den1, .string text1, .bool on1, .int .i64 code1, .int .i64 rows1, .int .i64 cols1, .slice A1 n1 c1]).alloc' (g := w.heap.size + 1) (by simp) 27 #[.int .i64 j, .string num2, .string den2, .string text2, .bool on2, .int .i64 code2, .int .i64 rows2, .int .i64 cols2, .slice A2 n2 c2])
  go_enter Tryz.func90, Tryz.ntmps90
  go_wp2_with fail
  go_loopw [13] (fun i wr => ∃ m : Nat, m ≤ 2 ∧ i = .int .i64 (m : Int) ∧ Hid (Loc w [(w.heap.size + 1, 27, #[.int .i64 j, .string num2, .string den2, .string text2, .bool on2, .int .i64 code2, .int .i64 rows2, .int .i64 cols2, .slice A2 n2 c2]), (w.heap.size, 27, #[.int .i64 k, .string num1, .string den1, .string text1, .bool on1, .int .i64 code1, .int .i64 rows1, .int .i64 cols1, .slice A1 n1 c1])] wr)) (fun i _ => 2 - (intOf i).toNat)
  case atStart => exact ⟨0, by decide, rfl, HL0⟩
  case round =>
    obtain ⟨m, hm, rfl, HL⟩ := hrel
    rcases (show m = 0 ∨ m = 1 ∨ m = 2 by omega) with rfl | rfl | rfl
    · have hix := ix2_0
      go_wp2_with (go_at_call 34; (with_reducible refine (HC1.out _ (HL.out.alloc _ _).bel).mono ?_); rintro e w1 ⟨rfl, hb⟩; have HL1 := Lib.hid (((HL.out.alloc 27 #[.int .i64 k, .string num1, .string den1, .string text1, .bool on1, .int .i64 code1, .int .i64 rows1, .int .i64 cols1, .slice A1 n1 c1]).step hb).perm (L' := [(w.heap.size + 1, 27, #[.int .i64 j, .string num2, .string den2, .string text2, .bool on2, .int .i64 code2, .int .i64 rows2, .int .i64 cols2, .slice A2 n2 c2]), (w.heap.size, 27, #[.int .i64 k, .string num1, .string den1, .string text1, .bool on1, .int .i64 code1, .int .i64 rows1, .int .i64 cols1, .slice A1 n1 c1])]) (by simp)); clear hb)
      go_roundw
      case rel => exact ⟨1, by decide, rfl, HL1⟩
      case measure => simp [intOf]
    · have hix := ix2_1
      go_wp2_with (go_at_call 34; (with_reducible refine (HC2.out _ (HL.out.alloc _ _).bel).mono ?_); rintro e w1 ⟨rfl, hb⟩; have HL1 := Lib.hid (((HL.out.alloc 27 #[.int .i64 j, .string num2, .string den2, .string text2, .bool on2, .int .i64 code2, .int .i64 rows2, .int .i64 cols2, .slice A2 n2 c2]).step hb).perm (L' := [(w.heap.size + 1, 27, #[.int .i64 j, .string num2, .string den2, .string text2, .bool on2, .int .i64 code2, .int .i64 rows2, .int .i64 cols2, .slice A2 n2 c2]), (w.heap.size, 27, #[.int .i64 k, .string num1, .string den1, .string text1, .bool on1, .int .i64 code1, .int .i64 rows1, .int .i64 cols1, .slice A1 n1 c1])]) (by simp)); clear hb)
      go_roundw
      case rel => exact ⟨2, by decide, rfl, HL1⟩
      case measure => simp [intOf]
    · have x0 := (HL.out.blk (g := w.heap.size) (t := 27) (cs := #[.int .i64 k, .string num1, .string den1, .string text1, .bool on1, .int .i64 code1, .int .i64 rows1, .int .i64 cols1, .slice A1 n1 c1]) (by simp)).cell 0
      have y0 := (HL.out.blk (g := w.heap.size + 1) (t := 27) (cs := #[.int .i64 j, .string num2, .string den2, .string text2, .bool on2, .int .i64 code2, .int .i64 rows2, .int .i64 cols2, .slice A2 n2 c2]) (by simp)).cell 0
      go_wp2_with fail
      all_goals
        go_ret
        exact ⟨rfl, HL.out.bel⟩

/-- How two valid values compare in the order for sorting. -/
noncomputable def ordV (a b : Vl) : Int := if a.k ≠ b.k then Cm.intC (rk a.k) (rk b.k) else if a.k = 0 then 0 else orI (kCmp a b) (Cm.strC a.text.data.toList b.text.data.toList)
set_option maxRecDepth 100000 in
set_option maxHeartbeats 8000000 in
theorem order_any (a b : Vl) (w : World) (he : VEnv w) (ha : a.ok) (hb : b.ok) (sa : a.sz) (sb : b.sz) :
    Calls Tryz.prog 69 #[a.v, b.v] w fun e w' => e = .returned (.tuple #[.int .i64 (ordV a b), .int .i64 0]) ∧ Below w.heap.size w w' := by
  have HB := Lib.hid fun W (hW : Below w.heap.size w W) => bothv_t a b W (he.below hW) ha hb sa sb
  have HR1 := Lib.hid fun W => rank_any a W ha.1 ha.2.1
  have HR2 := Lib.hid fun W => rank_any b W hb.1 hb.2.1
  have HI := Lib.hid fun x y W => cmpint_any x y W
  have HSt := Lib.hid fun x y W => cmpstr_any x y W
  have HO := Lib.hid fun x y g W h0 h1 => or_two x y g W h0 h1
  have HK := Lib.hid fun W (h1 : a.k = b.k) (h2 : a.k ≠ 0) => compared_any a b W ha hb h1 h2 sa sb
  have HV := Lib.hid (show ordV a b = if a.k ≠ b.k then Cm.intC (rk a.k) (rk b.k) else if a.k = 0 then 0 else orI (kCmp a b) (Cm.strC a.text.data.toList b.text.data.toList) from rfl)
  generalize ordV a b = R at *
  clear he ha hb sa sb
  generalize kCmp a b = kc at *
  obtain ⟨k, num1, den1, text1, on1, code1, rows1, cols1, A1, n1, c1⟩ := a
  obtain ⟨j, num2, den2, text2, on2, code2, rows2, cols2, A2, n2, c2⟩ := b
  dsimp only at HR1 HR2 HK HV
  have HB := Lib.hid (show ∀ W, Below w.heap.size w W → Calls Tryz.prog 90 #[(.agg #[.int .i64 k, .string num1, .string den1, .string text1, .bool on1, .int .i64 code1, .int .i64 rows1, .int .i64 cols1, .slice A1 n1 c1]), (.agg #[.int .i64 j, .string num2, .string den2, .string text2, .bool on2, .int .i64 code2, .int .i64 rows2, .int .i64 cols2, .slice A2 n2 c2]), .int .i64 4] W fun e w' => e = .returned (.int .i64 0) ∧ Below W.heap.size W w' from HB.out)
  have HR1 := Lib.hid (show ∀ W, Calls Tryz.prog 92 #[(.agg #[.int .i64 k, .string num1, .string den1, .string text1, .bool on1, .int .i64 code1, .int .i64 rows1, .int .i64 cols1, .slice A1 n1 c1])] W fun e w' => e = .returned (.int .i64 (rk k)) ∧ Below W.heap.size W w' from HR1.out)
  have HR2 := Lib.hid (show ∀ W, Calls Tryz.prog 92 #[(.agg #[.int .i64 j, .string num2, .string den2, .string text2, .bool on2, .int .i64 code2, .int .i64 rows2, .int .i64 cols2, .slice A2 n2 c2])] W fun e w' => e = .returned (.int .i64 (rk j)) ∧ Below W.heap.size W w' from HR2.out)
  have HK := Lib.hid (show ∀ W, k = j → k ≠ 0 → Calls Tryz.prog 94 #[(.agg #[.int .i64 k, .string num1, .string den1, .string text1, .bool on1, .int .i64 code1, .int .i64 rows1, .int .i64 cols1, .slice A1 n1 c1]), (.agg #[.int .i64 j, .string num2, .string den2, .string text2, .bool on2, .int .i64 code2, .int .i64 rows2, .int .i64 cols2, .slice A2 n2 c2])] W fun e w' => e = .returned (.int .i64 kc) ∧ Below W.heap.size W w' from HK.out)
  show Calls Tryz.prog 69 #[(.agg #[.int .i64 k, .string num1, .string den1, .string text1, .bool on1, .int .i64 code1, .int .i64 rows1, .int .i64 cols1, .slice A1 n1 c1]), (.agg #[.int .i64 j, .string num2, .string den2, .string text2, .bool on2, .int .i64 code2, .int .i64 rows2, .int .i64 cols2, .slice A2 n2 c2])] w _
  have HL0 := Lib.hid (((Loc.start w).alloc' rfl 27 #[.int .i64 k, .string num1, .string den1, .string text1, .bool on1, .int .i64 code1, .int .i64 rows1, .int .i64 cols1, .slice A1 n1 c1]).alloc' (g := w.heap.size + 1) (by simp) 27 #[.int .i64 j, .string num2, .string den2, .string text2, .bool on2, .int .i64 code2, .int .i64 rows2, .int .i64 cols2, .slice A2 n2 c2])
  by_cases hk : k = j
  · subst hk
    by_cases hk0 : k = 0
    · subst hk0
      have HV1 := Lib.hid (show R = 0 from by rw [HV.out, if_neg (by simp), if_pos rfl])
      go_enter Tryz.func69, Tryz.ntmps69
      go_wp2_with (go_at_call 90; (with_reducible refine (HB.out _ HL0.out.bel).mono ?_); rintro e w1 ⟨rfl, hb⟩; have HL1 := Lib.hid (HL0.out.step hb); have x0 := (HL1.out.blk (g := w.heap.size) (t := 27) (cs := #[.int .i64 0, .string num1, .string den1, .string text1, .bool on1, .int .i64 code1, .int .i64 rows1, .int .i64 cols1, .slice A1 n1 c1]) (by simp)).cell 0; have y0 := (HL1.out.blk (g := w.heap.size + 1) (t := 27) (cs := #[.int .i64 0, .string num2, .string den2, .string text2, .bool on2, .int .i64 code2, .int .i64 rows2, .int .i64 cols2, .slice A2 n2 c2]) (by simp)).cell 0; clear hb)
      go_ret2
      exact ⟨by rw [HV1.out]; rfl, HL1.out.bel⟩
    · have HV1 := Lib.hid (show R = orI kc (Cm.strC text1.data.toList text2.data.toList) from by rw [HV.out, if_neg (by simp), if_neg hk0])
      have HKK := Lib.hid fun W => HK.out W rfl hk0
      have k0 : ((k : Int) == 0) = false := by rw [beq_eq_false_iff_ne]; exact hk0
      clear HK HR1 HR2 HV hk0
      go_enter Tryz.func69, Tryz.ntmps69
      go_upto_region 8 with (go_at_call 90; (with_reducible refine (HB.out _ HL0.out.bel).mono ?_); rintro e w1 ⟨rfl, hb⟩; have HL1 := Lib.hid (HL0.out.step hb); obtain ⟨x0, x1, x2, x3, x4, x5, x6, x7, x8⟩ := (HL1.out.blk (g := w.heap.size) (t := 27) (cs := #[.int .i64 k, .string num1, .string den1, .string text1, .bool on1, .int .i64 code1, .int .i64 rows1, .int .i64 cols1, .slice A1 n1 c1]) (by simp)).nine; obtain ⟨y0, y1, y2, y3, y4, y5, y6, y7, y8⟩ := (HL1.out.blk (g := w.heap.size + 1) (t := 27) (cs := #[.int .i64 k, .string num2, .string den2, .string text2, .bool on2, .int .i64 code2, .int .i64 rows2, .int .i64 cols2, .slice A2 n2 c2]) (by simp)).nine; clear hb)
      clear x0 x1 x2 x3 x4 x5 x6 x7 x8 y0 y1 y2 y3 y4 y5 y6 y7 y8
      have HL := Lib.hid HL1.out.drew
      clear HL1
      obtain ⟨x0, x1, x2, x3, x4, x5, x6, x7, x8⟩ := (HL.out.blk (g := w.heap.size) (t := 27) (cs := #[.int .i64 k, .string num1, .string den1, .string text1, .bool on1, .int .i64 code1, .int .i64 rows1, .int .i64 cols1, .slice A1 n1 c1]) (by simp)).nine
      obtain ⟨y0, y1, y2, y3, y4, y5, y6, y7, y8⟩ := (HL.out.blk (g := w.heap.size + 1) (t := 27) (cs := #[.int .i64 k, .string num2, .string den2, .string text2, .bool on2, .int .i64 code2, .int .i64 rows2, .int .i64 cols2, .slice A2 n2 c2]) (by simp)).nine
      go_region_held3 (fun w' => w'.cell? ⟨w.heap.size, 0, none⟩ = some (.int .i64 k) ∧ w'.cell? ⟨w.heap.size, 1, none⟩ = some (.string num1) ∧ w'.cell? ⟨w.heap.size, 2, none⟩ = some (.string den1) ∧ w'.cell? ⟨w.heap.size, 3, none⟩ = some (.string text1) ∧ w'.cell? ⟨w.heap.size, 4, none⟩ = some (.bool on1) ∧ w'.cell? ⟨w.heap.size, 5, none⟩ = some (.int .i64 code1) ∧ w'.cell? ⟨w.heap.size, 6, none⟩ = some (.int .i64 rows1) ∧ w'.cell? ⟨w.heap.size, 7, none⟩ = some (.int .i64 cols1) ∧ w'.cell? ⟨w.heap.size, 8, none⟩ = some (.slice A1 n1 c1) ∧ w'.cell? ⟨w.heap.size + 1, 0, none⟩ = some (.int .i64 k) ∧ w'.cell? ⟨w.heap.size + 1, 1, none⟩ = some (.string num2) ∧ w'.cell? ⟨w.heap.size + 1, 2, none⟩ = some (.string den2) ∧ w'.cell? ⟨w.heap.size + 1, 3, none⟩ = some (.string text2) ∧ w'.cell? ⟨w.heap.size + 1, 4, none⟩ = some (.bool on2) ∧ w'.cell? ⟨w.heap.size + 1, 5, none⟩ = some (.int .i64 code2) ∧ w'.cell? ⟨w.heap.size + 1, 6, none⟩ = some (.int .i64 rows2) ∧ w'.cell? ⟨w.heap.size + 1, 7, none⟩ = some (.int .i64 cols2) ∧ w'.cell? ⟨w.heap.size + 1, 8, none⟩ = some (.slice A2 n2 c2)) (first | exact ⟨by assumption, by assumption, by assumption, by assumption, by assumption, by assumption, by assumption, by assumption, by assumption, by assumption, by assumption, by assumption, by assumption, by assumption, by assumption, by assumption, by assumption, by assumption⟩ | go_keep) ((first
        | (go_at_call 94; (with_reducible refine (HKK.out _).mono ?_); rintro e w2 ⟨rfl, hb⟩; have hl := HL.out.step hb; clear HL; clear x0 x1 x2 x3 x4 x5 x6 x7 x8 y0 y1 y2 y3 y4 y5 y6 y7 y8; have HL := Lib.hid hl; clear hl hb; obtain ⟨x0, x1, x2, x3, x4, x5, x6, x7, x8⟩ := (HL.out.blk (g := w.heap.size) (t := 27) (cs := #[.int .i64 k, .string num1, .string den1, .string text1, .bool on1, .int .i64 code1, .int .i64 rows1, .int .i64 cols1, .slice A1 n1 c1]) (by simp)).nine; obtain ⟨y0, y1, y2, y3, y4, y5, y6, y7, y8⟩ := (HL.out.blk (g := w.heap.size + 1) (t := 27) (cs := #[.int .i64 k, .string num2, .string den2, .string text2, .bool on2, .int .i64 code2, .int .i64 rows2, .int .i64 cols2, .slice A2 n2 c2]) (by simp)).nine)
        | (go_at_call 95; (with_reducible refine (HSt.out _ _ _).mono ?_); rintro e w3 ⟨rfl, rfl⟩)
        | (go_at_call 93; refine (HO.out kc (Cm.strC text1.data.toList text2.data.toList) _ _ (by simp [go_sem]) (by simp [go_sem])).mono ?_; rintro e w4 ⟨rfl, rfl⟩)))
      all_goals
        go_wp2_with fail
        go_ret2
        exact ⟨by rw [HV1.out]; rfl, (HL.out.alloc _ _).bel⟩
  · have HV1 := Lib.hid (show R = Cm.intC (rk k) (rk j) from by rw [HV.out, if_pos (by simpa using hk)])
    have k0 : ((k : Int) != j) = true := by rw [bne_iff_ne]; exact hk
    clear HK HO HSt HV hk
    go_enter Tryz.func69, Tryz.ntmps69
    go_upto_region 5 with (go_at_call 90; (with_reducible refine (HB.out _ HL0.out.bel).mono ?_); rintro e w1 ⟨rfl, hb⟩; have HL1 := Lib.hid (HL0.out.step hb); obtain ⟨x0, x1, x2, x3, x4, x5, x6, x7, x8⟩ := (HL1.out.blk (g := w.heap.size) (t := 27) (cs := #[.int .i64 k, .string num1, .string den1, .string text1, .bool on1, .int .i64 code1, .int .i64 rows1, .int .i64 cols1, .slice A1 n1 c1]) (by simp)).nine; obtain ⟨y0, y1, y2, y3, y4, y5, y6, y7, y8⟩ := (HL1.out.blk (g := w.heap.size + 1) (t := 27) (cs := #[.int .i64 j, .string num2, .string den2, .string text2, .bool on2, .int .i64 code2, .int .i64 rows2, .int .i64 cols2, .slice A2 n2 c2]) (by simp)).nine; clear hb)
    clear x0 x1 x2 x3 x4 x5 x6 x7 x8 y0 y1 y2 y3 y4 y5 y6 y7 y8
    have HL := Lib.hid HL1.out.drew
    clear HL1
    obtain ⟨x0, x1, x2, x3, x4, x5, x6, x7, x8⟩ := (HL.out.blk (g := w.heap.size) (t := 27) (cs := #[.int .i64 k, .string num1, .string den1, .string text1, .bool on1, .int .i64 code1, .int .i64 rows1, .int .i64 cols1, .slice A1 n1 c1]) (by simp)).nine
    obtain ⟨y0, y1, y2, y3, y4, y5, y6, y7, y8⟩ := (HL.out.blk (g := w.heap.size + 1) (t := 27) (cs := #[.int .i64 j, .string num2, .string den2, .string text2, .bool on2, .int .i64 code2, .int .i64 rows2, .int .i64 cols2, .slice A2 n2 c2]) (by simp)).nine
    go_region_held3 (fun w' => w'.cell? ⟨w.heap.size, 0, none⟩ = some (.int .i64 k) ∧ w'.cell? ⟨w.heap.size, 1, none⟩ = some (.string num1) ∧ w'.cell? ⟨w.heap.size, 2, none⟩ = some (.string den1) ∧ w'.cell? ⟨w.heap.size, 3, none⟩ = some (.string text1) ∧ w'.cell? ⟨w.heap.size, 4, none⟩ = some (.bool on1) ∧ w'.cell? ⟨w.heap.size, 5, none⟩ = some (.int .i64 code1) ∧ w'.cell? ⟨w.heap.size, 6, none⟩ = some (.int .i64 rows1) ∧ w'.cell? ⟨w.heap.size, 7, none⟩ = some (.int .i64 cols1) ∧ w'.cell? ⟨w.heap.size, 8, none⟩ = some (.slice A1 n1 c1) ∧ w'.cell? ⟨w.heap.size + 1, 0, none⟩ = some (.int .i64 j) ∧ w'.cell? ⟨w.heap.size + 1, 1, none⟩ = some (.string num2) ∧ w'.cell? ⟨w.heap.size + 1, 2, none⟩ = some (.string den2) ∧ w'.cell? ⟨w.heap.size + 1, 3, none⟩ = some (.string text2) ∧ w'.cell? ⟨w.heap.size + 1, 4, none⟩ = some (.bool on2) ∧ w'.cell? ⟨w.heap.size + 1, 5, none⟩ = some (.int .i64 code2) ∧ w'.cell? ⟨w.heap.size + 1, 6, none⟩ = some (.int .i64 rows2) ∧ w'.cell? ⟨w.heap.size + 1, 7, none⟩ = some (.int .i64 cols2) ∧ w'.cell? ⟨w.heap.size + 1, 8, none⟩ = some (.slice A2 n2 c2)) (first | exact ⟨by assumption, by assumption, by assumption, by assumption, by assumption, by assumption, by assumption, by assumption, by assumption, by assumption, by assumption, by assumption, by assumption, by assumption, by assumption, by assumption, by assumption, by assumption⟩ | go_keep) ((first
      | (go_at_call 92; first
        | ((with_reducible refine (HR1.out _).mono ?_); rintro e w2 ⟨rfl, hb⟩; have hl := HL.out.step hb; clear HL; clear x0 x1 x2 x3 x4 x5 x6 x7 x8 y0 y1 y2 y3 y4 y5 y6 y7 y8; have HL := Lib.hid hl; clear hl hb; obtain ⟨x0, x1, x2, x3, x4, x5, x6, x7, x8⟩ := (HL.out.blk (g := w.heap.size) (t := 27) (cs := #[.int .i64 k, .string num1, .string den1, .string text1, .bool on1, .int .i64 code1, .int .i64 rows1, .int .i64 cols1, .slice A1 n1 c1]) (by simp)).nine; obtain ⟨y0, y1, y2, y3, y4, y5, y6, y7, y8⟩ := (HL.out.blk (g := w.heap.size + 1) (t := 27) (cs := #[.int .i64 j, .string num2, .string den2, .string text2, .bool on2, .int .i64 code2, .int .i64 rows2, .int .i64 cols2, .slice A2 n2 c2]) (by simp)).nine)
        | ((with_reducible refine (HR2.out _).mono ?_); rintro e w3 ⟨rfl, hb⟩; have hl := HL.out.step hb; clear HL; clear x0 x1 x2 x3 x4 x5 x6 x7 x8 y0 y1 y2 y3 y4 y5 y6 y7 y8; have HL := Lib.hid hl; clear hl hb; obtain ⟨x0, x1, x2, x3, x4, x5, x6, x7, x8⟩ := (HL.out.blk (g := w.heap.size) (t := 27) (cs := #[.int .i64 k, .string num1, .string den1, .string text1, .bool on1, .int .i64 code1, .int .i64 rows1, .int .i64 cols1, .slice A1 n1 c1]) (by simp)).nine; obtain ⟨y0, y1, y2, y3, y4, y5, y6, y7, y8⟩ := (HL.out.blk (g := w.heap.size + 1) (t := 27) (cs := #[.int .i64 j, .string num2, .string den2, .string text2, .bool on2, .int .i64 code2, .int .i64 rows2, .int .i64 cols2, .slice A2 n2 c2]) (by simp)).nine))
      | (go_at_call 91; (with_reducible refine (HI.out _ _ _).mono ?_); rintro e w4 ⟨rfl, rfl⟩)))
    all_goals
      go_wp2_with fail
      go_ret2
      exact ⟨by rw [HV1.out]; rfl, HL.out.bel⟩
end Go.Proofs.YtmapagbmihpbmaaGreatDoor
