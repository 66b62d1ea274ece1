/- value: both, Order. -/
import Derived.Test.YtmmlcponmdalmaaGreatDoorVoA
import Derived.Test.YtmmlcponmdalmaaGreatDoorVaI
import Derived.Test.YtmmlcponmdalmaaGreatDoorExQ
namespace Go.Proofs.YtmmlcponmdalmaaGreatDoor
open Go.RowKit

theorem ix2_0 (u0 u1 u2 u3 u4 u5 u6 u7 u8 u9 u10 u11 u12 u13 u14 u15 u16 u17 : Value) (W : World) : (Instr.index 178 (.agg #[u0, u1, u2, u3, u4, u5, u6, u7, u8, u9, u10, u11, u12, u13, u14, u15, u16, u17]) (.int .i64 0)).run Tryz.prog W = .ok (.agg #[u0, u1, u2, u3, u4, u5, u6, u7, u8]) W := by kernel_rfl
theorem ix2_1 (u0 u1 u2 u3 u4 u5 u6 u7 u8 u9 u10 u11 u12 u13 u14 u15 u16 u17 : Value) (W : World) : (Instr.index 178 (.agg #[u0, u1, u2, u3, u4, u5, u6, u7, u8, u9, u10, u11, u12, u13, u14, u15, u16, u17]) (.int .i64 1)).run Tryz.prog W = .ok (.agg #[u9, u10, u11, u12, u13, u14, u15, u16, u17]) W := by kernel_rfl
set_option maxRecDepth 100000 in
set_option maxHeartbeats 4000000 in
theorem bothv_t (a b : Vl) (w : World) (he : VEnv w) (ha : a.ok) (hb : b.ok) (sa : a.sz) (sb : b.sz) :
    Calls Tryz.prog 74 #[a.v, b.v, .int .i64 4] w fun e w' => e = .returned (.int .i64 0) ∧ Below w.heap.size w w' := by
  have HC1 := Lib.hid fun W (hW : Below w.heap.size w W) => check_t' a W (he.below hW) ha sa.s1 sa.s2 sa.s3
  have HC2 := Lib.hid fun W (hW : Below w.heap.size w W) => check_t' b W (he.below hW) hb sb.s1 sb.s2 sb.s3
  have ka4 := ha.2.1
  have kb4 := hb.2.1
  clear he ha hb sa sb
  obtain ⟨k, num1, den1, text1, on1, code1, rows1, cols1, A1, n1, c1⟩ := a
  obtain ⟨j, num2, den2, text2, on2, code2, rows2, cols2, A2, n2, c2⟩ := b
  dsimp only at ka4 kb4
  have HC1 := Lib.hid (show ∀ W, Below w.heap.size w W → Calls Tryz.prog 15 #[(.agg #[.int .i64 k, .string num1, .string den1, .string text1, .bool on1, .int .i64 code1, .int .i64 rows1, .int .i64 cols1, .slice A1 n1 c1])] W fun e w' => e = .returned (.int .i64 0) ∧ Below W.heap.size W w' from HC1.out)
  have HC2 := Lib.hid (show ∀ W, Below w.heap.size w W → Calls Tryz.prog 15 #[(.agg #[.int .i64 j, .string num2, .string den2, .string text2, .bool on2, .int .i64 code2, .int .i64 rows2, .int .i64 cols2, .slice A2 n2 c2])] W fun e w' => e = .returned (.int .i64 0) ∧ Below W.heap.size W w' from HC2.out)
  show Calls Tryz.prog 74 #[(.agg #[.int .i64 k, .string num1, .string den1, .string text1, .bool on1, .int .i64 code1, .int .i64 rows1, .int .i64 cols1, .slice A1 n1 c1]), (.agg #[.int .i64 j, .string num2, .string den2, .string text2, .bool on2, .int .i64 code2, .int .i64 rows2, .int .i64 cols2, .slice A2 n2 c2]), .int .i64 4] w _
  have HL0 := Lib.hid (((Loc.start w).alloc' rfl 27 #[.int .i64 k, .string num1, .string den1, .string text1, .bool on1, .int .i64 code1, .int .i64 rows1, .int .i64 cols1, .slice A1 n1 c1]).alloc' (g := w.heap.size + 1) (by simp) 27 #[.int .i64 j, .string num2, .string den2, .string text2, .bool on2, .int .i64 code2, .int .i64 rows2, .int .i64 cols2, .slice A2 n2 c2])
  go_enter Tryz.func74, Tryz.ntmps74
  go_wp2_with fail
  go_loopw [13] (fun i wr => ∃ m : Nat, m ≤ 2 ∧ i = .int .i64 (m : Int) ∧ Hid (Loc w [(w.heap.size + 1, 27, #[.int .i64 j, .string num2, .string den2, .string text2, .bool on2, .int .i64 code2, .int .i64 rows2, .int .i64 cols2, .slice A2 n2 c2]), (w.heap.size, 27, #[.int .i64 k, .string num1, .string den1, .string text1, .bool on1, .int .i64 code1, .int .i64 rows1, .int .i64 cols1, .slice A1 n1 c1])] wr)) (fun i _ => 2 - (intOf i).toNat)
  case atStart => exact ⟨0, by decide, rfl, HL0⟩
  case round =>
    obtain ⟨m, hm, rfl, HL⟩ := hrel
    rcases (show m = 0 ∨ m = 1 ∨ m = 2 by omega) with rfl | rfl | rfl
    · have hix := ix2_0
      go_wp2_with (go_at_call 15; (with_reducible refine (HC1.out _ (HL.out.alloc _ _).bel).mono ?_); rintro e w1 ⟨rfl, hb⟩; have HL1 := Lib.hid (((HL.out.alloc 27 #[.int .i64 k, .string num1, .string den1, .string text1, .bool on1, .int .i64 code1, .int .i64 rows1, .int .i64 cols1, .slice A1 n1 c1]).step hb).perm (L' := [(w.heap.size + 1, 27, #[.int .i64 j, .string num2, .string den2, .string text2, .bool on2, .int .i64 code2, .int .i64 rows2, .int .i64 cols2, .slice A2 n2 c2]), (w.heap.size, 27, #[.int .i64 k, .string num1, .string den1, .string text1, .bool on1, .int .i64 code1, .int .i64 rows1, .int .i64 cols1, .slice A1 n1 c1])]) (by simp)); clear hb)
      go_roundw
      case rel => exact ⟨1, by decide, rfl, HL1⟩
      case measure => simp [intOf]
    · have hix := ix2_1
      go_wp2_with (go_at_call 15; (with_reducible refine (HC2.out _ (HL.out.alloc _ _).bel).mono ?_); rintro e w1 ⟨rfl, hb⟩; have HL1 := Lib.hid (((HL.out.alloc 27 #[.int .i64 j, .string num2, .string den2, .string text2, .bool on2, .int .i64 code2, .int .i64 rows2, .int .i64 cols2, .slice A2 n2 c2]).step hb).perm (L' := [(w.heap.size + 1, 27, #[.int .i64 j, .string num2, .string den2, .string text2, .bool on2, .int .i64 code2, .int .i64 rows2, .int .i64 cols2, .slice A2 n2 c2]), (w.heap.size, 27, #[.int .i64 k, .string num1, .string den1, .string text1, .bool on1, .int .i64 code1, .int .i64 rows1, .int .i64 cols1, .slice A1 n1 c1])]) (by simp)); clear hb)
      go_roundw
      case rel => exact ⟨2, by decide, rfl, HL1⟩
      case measure => simp [intOf]
    · have x0 := (HL.out.blk (g := w.heap.size) (t := 27) (cs := #[.int .i64 k, .string num1, .string den1, .string text1, .bool on1, .int .i64 code1, .int .i64 rows1, .int .i64 cols1, .slice A1 n1 c1]) (by simp)).cell 0
      have y0 := (HL.out.blk (g := w.heap.size + 1) (t := 27) (cs := #[.int .i64 j, .string num2, .string den2, .string text2, .bool on2, .int .i64 code2, .int .i64 rows2, .int .i64 cols2, .slice A2 n2 c2]) (by simp)).cell 0
      go_wp2_with fail
      all_goals
        go_ret
        exact ⟨rfl, HL.out.bel⟩

/-- How two valid values compare in the order for sorting. -/
noncomputable def ordV (a b : Vl) : Int := if a.k ≠ b.k then Cm.intC (rk a.k) (rk b.k) else if a.k = 0 then 0 else orI (kCmp a b) (Cm.strC a.text.data.toList b.text.data.toList)
set_option maxRecDepth 100000 in
set_option maxHeartbeats 8000000 in
theorem order_any (a b : Vl) (w : World) (he : VEnv w) (ha : a.ok) (hb : b.ok) (sa : a.sz) (sb : b.sz) :
    Calls Tryz.prog 26 #[a.v, b.v] w fun e w' => e = .returned (.tuple #[.int .i64 (ordV a b), .int .i64 0]) ∧ Below w.heap.size w w' := by
  have HB := Lib.hid fun W (hW : Below w.heap.size w W) => bothv_t a b W (he.below hW) ha hb sa sb
  have HR1 := Lib.hid fun W => rank_any a W ha.1 ha.2.1
  have HR2 := Lib.hid fun W => rank_any b W hb.1 hb.2.1
  have HI := Lib.hid fun x y W => cmpint_any x y W
  have HSt := Lib.hid fun x y W => cmpstr_any x y W
  have HO := Lib.hid fun x y g W h0 h1 => or_two x y g W h0 h1
  have HK := Lib.hid fun W (h1 : a.k = b.k) (h2 : a.k ≠ 0) => compared_any a b W ha hb h1 h2 sa sb
  have HV := Lib.hid (show ordV a b = if a.k ≠ b.k then Cm.intC (rk a.k) (rk b.k) else if a.k = 0 then 0 else orI (kCmp a b) (Cm.strC a.text.data.toList b.text.data.toList) from rfl)
  generalize ordV a b = R at *
  clear he ha hb sa sb
  generalize kCmp a b = kc at *
  obtain ⟨k, num1, den1, text1, on1, code1, rows1, cols1, A1, n1, c1⟩ := a
  obtain ⟨j, num2, den2, text2, on2, code2, rows2, cols2, A2, n2, c2⟩ := b
  dsimp only at HR1 HR2 HK HV
  have HB := Lib.hid (show ∀ W, Below w.heap.size w W → Calls Tryz.prog 74 #[(.agg #[.int .i64 k, .string num1, .string den1, .string text1, .bool on1, .int .i64 code1, .int .i64 rows1, .int .i64 cols1, .slice A1 n1 c1]), (.agg #[.int .i64 j, .string num2, .string den2, .string text2, .bool on2, .int .i64 code2, .int .i64 rows2, .int .i64 cols2, .slice A2 n2 c2]), .int .i64 4] W fun e w' => e = .returned (.int .i64 0) ∧ Below W.heap.size W w' from HB.out)
  have HR1 := Lib.hid (show ∀ W, Calls Tryz.prog 76 #[(.agg #[.int .i64 k, .string num1, .string den1, .string text1, .bool on1, .int .i64 code1, .int .i64 rows1, .int .i64 cols1, .slice A1 n1 c1])] W fun e w' => e = .returned (.int .i64 (rk k)) ∧ Below W.heap.size W w' from HR1.out)
  have HR2 := Lib.hid (show ∀ W, Calls Tryz.prog 76 #[(.agg #[.int .i64 j, .string num2, .string den2, .string text2, .bool on2, .int .i64 code2, .int .i64 rows2, .int .i64 cols2, .slice A2 n2 c2])] W fun e w' => e = .returned (.int .i64 (rk j)) ∧ Below W.heap.size W w' from HR2.out)
  have HK := Lib.hid (show ∀ W, k = j → k ≠ 0 → Calls Tryz.prog 78 #[(.agg #[.int .i64 k, .string num1, .string den1, .string text1, .bool on1, .int .i64 code1, .int .i64 rows1, .int .i64 cols1, .slice A1 n1 c1]), (.agg #[.int .i64 j, .string num2, .string den2, .string text2, .bool on2, .int .i64 code2, .int .i64 rows2, .int .i64 cols2, .slice A2 n2 c2])] W fun e w' => e = .returned (.int .i64 kc) ∧ Below W.heap.size W w' from HK.out)
  show Calls Tryz.prog 26 #[(.agg #[.int .i64 k, .string num1, .string den1, .string text1, .bool on1, .int .i64 code1, .int .i64 rows1, .int .i64 cols1, .slice A1 n1 c1]), (.agg #[.int .i64 j, .string num2, .string den2, .string text2, .bool on2, .int .i64 code2, .int .i64 rows2, .int .i64 cols2, .slice A2 n2 c2])] w _
  have HL0 := Lib.hid (((Loc.start w).alloc' rfl 27 #[.int .i64 k, .string num1, .string den1, .string text1, .bool on1, .int .i64 code1, .int .i64 rows1, .int .i64 cols1, .slice A1 n1 c1]).alloc' (g := w.heap.size + 1) (by simp) 27 #[.int .i64 j, .string num2, .string den2, .string text2, .bool on2, .int .i64 code2, .int .i64 rows2, .int .i64 cols2, .slice A2 n2 c2])
  by_cases hk : k = j
  · subst hk
    by_cases hk0 : k = 0
    · subst hk0
      have HV1 := Lib.hid (show R = 0 from by rw [HV.out, if_neg (by simp), if_pos rfl])
      go_enter Tryz.func26, Tryz.ntmps26
      go_wp2_with (go_at_call 74; (with_reducible refine (HB.out _ HL0.out.bel).mono ?_); rintro e w1 ⟨rfl, hb⟩; have HL1 := Lib.hid (HL0.out.step hb); have x0 := (HL1.out.blk (g := w.heap.size) (t := 27) (cs := #[.int .i64 0, .string num1, .string den1, .string text1, .bool on1, .int .i64 code1, .int .i64 rows1, .int .i64 cols1, .slice A1 n1 c1]) (by simp)).cell 0; have y0 := (HL1.out.blk (g := w.heap.size + 1) (t := 27) (cs := #[.int .i64 0, .string num2, .string den2, .string text2, .bool on2, .int .i64 code2, .int .i64 rows2, .int .i64 cols2, .slice A2 n2 c2]) (by simp)).cell 0; clear hb)
      go_ret2
      exact ⟨by rw [HV1.out]; rfl, HL1.out.bel⟩
    · have HV1 := Lib.hid (show R = orI kc (Cm.strC text1.data.toList text2.data.toList) from by rw [HV.out, if_neg (by simp), if_neg hk0])
      have HKK := Lib.hid fun W => HK.out W rfl hk0
      have k0 : ((k : Int) == 0) = false := by rw [beq_eq_false_iff_ne]; exact hk0
      clear HK HR1 HR2 HV hk0
      go_enter Tryz.func26, Tryz.ntmps26
      go_upto_region 8 with (go_at_call 74; (with_reducible refine (HB.out _ HL0.out.bel).mono ?_); rintro e w1 ⟨rfl, hb⟩; have HL1 := Lib.hid (HL0.out.step hb); obtain ⟨x0, x1, x2, x3, x4, x5, x6, x7, x8⟩ := (HL1.out.blk (g := w.heap.size) (t := 27) (cs := #[.int .i64 k, .string num1, .string den1, .string text1, .bool on1, .int .i64 code1, .int .i64 rows1, .int .i64 cols1, .slice A1 n1 c1]) (by simp)).nine; obtain ⟨y0, y1, y2, y3, y4, y5, y6, y7, y8⟩ := (HL1.out.blk (g := w.heap.size + 1) (t := 27) (cs := #[.int .i64 k, .string num2, .string den2, .string text2, .bool on2, .int .i64 code2, .int .i64 rows2, .int .i64 cols2, .slice A2 n2 c2]) (by simp)).nine; clear hb)
      clear x0 x1 x2 x3 x4 x5 x6 x7 x8 y0 y1 y2 y3 y4 y5 y6 y7 y8
      have HL := Lib.hid HL1.out.drew
      clear HL1
      obtain ⟨x0, x1, x2, x3, x4, x5, x6, x7, x8⟩ := (HL.out.blk (g := w.heap.size) (t := 27) (cs := #[.int .i64 k, .string num1, .string den1, .string text1, .bool on1, .int .i64 code1, .int .i64 rows1, .int .i64 cols1, .slice A1 n1 c1]) (by simp)).nine
      obtain ⟨y0, y1, y2, y3, y4, y5, y6, y7, y8⟩ := (HL.out.blk (g := w.heap.size + 1) (t := 27) (cs := #[.int .i64 k, .string num2, .string den2, .string text2, .bool on2, .int .i64 code2, .int .i64 rows2, .int .i64 cols2, .slice A2 n2 c2]) (by simp)).nine
      go_region_held3 (fun w' => w'.cell? ⟨w.heap.size, 0, none⟩ = some (.int .i64 k) ∧ w'.cell? ⟨w.heap.size, 1, none⟩ = some (.string num1) ∧ w'.cell? ⟨w.heap.size, 2, none⟩ = some (.string den1) ∧ w'.cell? ⟨w.heap.size, 3, none⟩ = some (.string text1) ∧ w'.cell? ⟨w.heap.size, 4, none⟩ = some (.bool on1) ∧ w'.cell? ⟨w.heap.size, 5, none⟩ = some (.int .i64 code1) ∧ w'.cell? ⟨w.heap.size, 6, none⟩ = some (.int .i64 rows1) ∧ w'.cell? ⟨w.heap.size, 7, none⟩ = some (.int .i64 cols1) ∧ w'.cell? ⟨w.heap.size, 8, none⟩ = some (.slice A1 n1 c1) ∧ w'.cell? ⟨w.heap.size + 1, 0, none⟩ = some (.int .i64 k) ∧ w'.cell? ⟨w.heap.size + 1, 1, none⟩ = some (.string num2) ∧ w'.cell? ⟨w.heap.size + 1, 2, none⟩ = some (.string den2) ∧ w'.cell? ⟨w.heap.size + 1, 3, none⟩ = some (.string text2) ∧ w'.cell? ⟨w.heap.size + 1, 4, none⟩ = some (.bool on2) ∧ w'.cell? ⟨w.heap.size + 1, 5, none⟩ = some (.int .i64 code2) ∧ w'.cell? ⟨w.heap.size + 1, 6, none⟩ = some (.int .i64 rows2) ∧ w'.cell? ⟨w.heap.size + 1, 7, none⟩ = some (.int .i64 cols2) ∧ w'.cell? ⟨w.heap.size + 1, 8, none⟩ = some (.slice A2 n2 c2)) (first | exact ⟨by assumption, by assumption, by assumption, by assumption, by assumption, by assumption, by assumption, by assumption, by assumption, by assumption, by assumption, by assumption, by assumption, by assumption, by assumption, by assumption, by assumption, by assumption⟩ | go_keep) ((first
        | (go_at_call 78; (with_reducible refine (HKK.out _).mono ?_); rintro e w2 ⟨rfl, hb⟩; have hl := HL.out.step hb; clear HL; clear x0 x1 x2 x3 x4 x5 x6 x7 x8 y0 y1 y2 y3 y4 y5 y6 y7 y8; have HL := Lib.hid hl; clear hl hb; obtain ⟨x0, x1, x2, x3, x4, x5, x6, x7, x8⟩ := (HL.out.blk (g := w.heap.size) (t := 27) (cs := #[.int .i64 k, .string num1, .string den1, .string text1, .bool on1, .int .i64 code1, .int .i64 rows1, .int .i64 cols1, .slice A1 n1 c1]) (by simp)).nine; obtain ⟨y0, y1, y2, y3, y4, y5, y6, y7, y8⟩ := (HL.out.blk (g := w.heap.size + 1) (t := 27) (cs := #[.int .i64 k, .string num2, .string den2, .string text2, .bool on2, .int .i64 code2, .int .i64 rows2, .int .i64 cols2, .slice A2 n2 c2]) (by simp)).nine)
        | (go_at_call 79; (with_reducible refine (HSt.out _ _ _).mono ?_); rintro e w3 ⟨rfl, rfl⟩)
        | (go_at_call 77; refine (HO.out kc (Cm.strC text1.data.toList text2.data.toList) _ _ (by simp [go_sem]) (by simp [go_sem])).mono ?_; rintro e w4 ⟨rfl, rfl⟩)))
      all_goals
        go_wp2_with fail
        go_ret2
        exact ⟨by rw [HV1.out]; rfl, (HL.out.alloc _ _).bel⟩
  · have HV1 := Lib.hid (show R = Cm.intC (rk k) (rk j) from by rw [HV.out, if_pos (by simpa using hk)])
    have k0 : ((k : Int) != j) = true := by rw [bne_iff_ne]; exact hk
    clear HK HO HSt HV hk
    go_enter Tryz.func26, Tryz.ntmps26
    go_upto_region 5 with (go_at_call 74; (with_reducible refine (HB.out _ HL0.out.bel).mono ?_); rintro e w1 ⟨rfl, hb⟩; have HL1 := Lib.hid (HL0.out.step hb); obtain ⟨x0, x1, x2, x3, x4, x5, x6, x7, x8⟩ := (HL1.out.blk (g := w.heap.size) (t := 27) (cs := #[.int .i64 k, .string num1, .string den1, .string text1, .bool on1, .int .i64 code1, .int .i64 rows1, .int .i64 cols1, .slice A1 n1 c1]) (by simp)).nine; obtain ⟨y0, y1, y2, y3, y4, y5, y6, y7, y8⟩ := (HL1.out.blk (g := w.heap.size + 1) (t := 27) (cs := #[.int .i64 j, .string num2, .string den2, .string text2, .bool on2, .int .i64 code2, .int .i64 rows2, .int .i64 cols2, .slice A2 n2 c2]) (by simp)).nine; clear hb)
    clear x0 x1 x2 x3 x4 x5 x6 x7 x8 y0 y1 y2 y3 y4 y5 y6 y7 y8
    have HL := Lib.hid HL1.out.drew
    clear HL1
    obtain ⟨x0, x1, x2, x3, x4, x5, x6, x7, x8⟩ := (HL.out.blk (g := w.heap.size) (t := 27) (cs := #[.int .i64 k, .string num1, .string den1, .string text1, .bool on1, .int .i64 code1, .int .i64 rows1, .int .i64 cols1, .slice A1 n1 c1]) (by simp)).nine
    obtain ⟨y0, y1, y2, y3, y4, y5, y6, y7, y8⟩ := (HL.out.blk (g := w.heap.size + 1) (t := 27) (cs := #[.int .i64 j, .string num2, .string den2, .string text2, .bool on2, .int .i64 code2, .int .i64 rows2, .int .i64 cols2, .slice A2 n2 c2]) (by simp)).nine
    go_region_held3 (fun w' => w'.cell? ⟨w.heap.size, 0, none⟩ = some (.int .i64 k) ∧ w'.cell? ⟨w.heap.size, 1, none⟩ = some (.string num1) ∧ w'.cell? ⟨w.heap.size, 2, none⟩ = some (.string den1) ∧ w'.cell? ⟨w.heap.size, 3, none⟩ = some (.string text1) ∧ w'.cell? ⟨w.heap.size, 4, none⟩ = some (.bool on1) ∧ w'.cell? ⟨w.heap.size, 5, none⟩ = some (.int .i64 code1) ∧ w'.cell? ⟨w.heap.size, 6, none⟩ = some (.int .i64 rows1) ∧ w'.cell? ⟨w.heap.size, 7, none⟩ = some (.int .i64 cols1) ∧ w'.cell? ⟨w.heap.size, 8, none⟩ = some (.slice A1 n1 c1) ∧ w'.cell? ⟨w.heap.size + 1, 0, none⟩ = some (.int .i64 j) ∧ w'.cell? ⟨w.heap.size + 1, 1, none⟩ = some (.string num2) ∧ w'.cell? ⟨w.heap.size + 1, 2, none⟩ = some (.string den2) ∧ w'.cell? ⟨w.heap.size + 1, 3, none⟩ = some (.string text2) ∧ w'.cell? ⟨w.heap.size + 1, 4, none⟩ = some (.bool on2) ∧ w'.cell? ⟨w.heap.size + 1, 5, none⟩ = some (.int .i64 code2) ∧ w'.cell? ⟨w.heap.size + 1, 6, none⟩ = some (.int .i64 rows2) ∧ w'.cell? ⟨w.heap.size + 1, 7, none⟩ = some (.int .i64 cols2) ∧ w'.cell? ⟨w.heap.size + 1, 8, none⟩ = some (.slice A2 n2 c2)) (first | exact ⟨by assumption, by assumption, by assumption, by assumption, by assumption, by assumption, by assumption, by assumption, by assumption, by assumption, by assumption, by assumption, by assumption, by assumption, by assumption, by assumption, by assumption, by assumption⟩ | go_keep) ((first
      | (go_at_call 76; first
        | ((with_reducible refine (HR1.out _).mono ?_); rintro e w2 ⟨rfl, hb⟩; have hl := HL.out.step hb; clear HL; clear x0 x1 x2 x3 x4 x5 x6 x7 x8 y0 y1 y2 y3 y4 y5 y6 y7 y8; have HL := Lib.hid hl; clear hl hb; obtain ⟨x0, x1, x2, x3, x4, x5, x6, x7, x8⟩ := (HL.out.blk (g := w.heap.size) (t := 27) (cs := #[.int .i64 k, .string num1, .string den1, .string text1, .bool on1, .int .i64 code1, .int .i64 rows1, .int .i64 cols1, .slice A1 n1 c1]) (by simp)).nine; obtain ⟨y0, y1, y2, y3, y4, y5, y6, y7, y8⟩ := (HL.out.blk (g := w.heap.size + 1) (t := 27) (cs := #[.int .i64 j, .string num2, .string den2, .string text2, .bool on2, .int .i64 code2, .int .i64 rows2, .int .i64 cols2, .slice A2 n2 c2]) (by simp)).nine)
        | ((with_reducible refine (HR2.out _).mono ?_); rintro e w3 ⟨rfl, hb⟩; have hl := HL.out.step hb; clear HL; clear x0 x1 x2 x3 x4 x5 x6 x7 x8 y0 y1 y2 y3 y4 y5 y6 y7 y8; have HL := Lib.hid hl; clear hl hb; obtain ⟨x0, x1, x2, x3, x4, x5, x6, x7, x8⟩ := (HL.out.blk (g := w.heap.size) (t := 27) (cs := #[.int .i64 k, .string num1, .string den1, .string text1, .bool on1, .int .i64 code1, .int .i64 rows1, .int .i64 cols1, .slice A1 n1 c1]) (by simp)).nine; obtain ⟨y0, y1, y2, y3, y4, y5, y6, y7, y8⟩ := (HL.out.blk (g := w.heap.size + 1) (t := 27) (cs := #[.int .i64 j, .string num2, .string den2, .string text2, .bool on2, .int .i64 code2, .int .i64 rows2, .int .i64 cols2, .slice A2 n2 c2]) (by simp)).nine))
      | (go_at_call 75; (with_reducible refine (HI.out _ _ _).mono ?_); rintro e w4 ⟨rfl, rfl⟩)))
    all_goals
      go_wp2_with fail
      go_ret2
      exact ⟨by rw [HV1.out]; rfl, HL.out.bel⟩
end Go.Proofs.YtmmlcponmdalmaaGreatDoor

namespace Go.Proofs.YtmmlcponmdalmaaGreatDoor
open Go.RowKit

theorem Cm.glue {α : Type} (r : α → Int) (S : α → α → Int) (h1 : ∀ a b, r a = r b → S a b = - S b a) (h2 : ∀ a b c, r a = r b → r b = r c → S a b ≤ 0 → S b c ≤ 0 → S a c ≤ 0) :
    Cm.IsC (fun a b => if r a ≠ r b then Cm.intC (r a) (r b) else S a b) := by
  refine ⟨fun a b => ?_, fun a b c g1 g2 => ?_⟩
  · by_cases h : r a = r b
    · simp only [h, ne_eq, not_true, if_false]
      exact h1 a b h
    · have h' : ¬ r b = r a := fun e => h e.symm
      simp only [h, h', ne_eq, not_false_eq_true, if_true]
      exact Cm.intC_anti _ _
  · by_cases e1 : r a = r b
    · by_cases e2 : r b = r c
      · have e3 := e1.trans e2
        simp only [e1, e2, ne_eq, not_true, if_false] at g1 g2 ⊢
        exact h2 a b c e1 e2 g1 g2
      · have e3 : ¬ r a = r c := fun e => e2 (e1.symm.trans e)
        simp only [e2, ne_eq, not_false_eq_true, if_true] at g2
        simp only [e3, ne_eq, not_false_eq_true, if_true]
        rw [e1]
        exact g2
    · simp only [e1, ne_eq, not_false_eq_true, if_true] at g1
      by_cases e2 : r b = r c
      · have e3 : ¬ r a = r c := fun e => e1 (e.trans e2.symm)
        simp only [e3, ne_eq, not_false_eq_true, if_true]
        rw [← e2]
        exact g1
      · simp only [e2, ne_eq, not_false_eq_true, if_true] at g2
        have := Cm.intC_trans _ _ _ g1 g2
        by_cases e3 : r a = r c
        · exfalso
          rw [e3] at g1
          have k := Cm.intC_anti (r b) (r c)
          have : Cm.intC (r b) (r c) = 0 := by omega
          unfold Cm.intC at this
          split at this
          · omega
          · split at this
            · omega
            · omega
        · simp only [e3, ne_eq, not_false_eq_true, if_true]
          exact this
/-- The part within one kind. -/
noncomputable def inK (a b : Vl) : Int := if a.k = 0 then 0 else Cm.orC kCmp (fun a b => Cm.strC a.text.data.toList b.text.data.toList) a b
theorem txt_is : Cm.IsC (fun a b : Vl => Cm.strC a.text.data.toList b.text.data.toList) := Cm.strC_is.map (fun v : Vl => v.text.data.toList)
theorem frac_is : Cm.IsC (fun a b : Vl => Cm.fracC (fq a.num.data.toList a.den.data.toList) (fq b.num.data.toList b.den.data.toList)) :=
  ⟨fun _ _ => Cm.fracC_anti _ _, fun _ _ _ => Cm.fracC_trans _ _ _ (fq_den _ _) (fq_den _ _) (fq_den _ _)⟩
/-- Within one kind there is one comparison. -/
theorem kCmp_is (k : Int) : ∃ g : Vl → Vl → Int, Cm.IsC g ∧ ∀ a b : Vl, a.k = k → kCmp a b = g a b := by
  unfold kCmp
  by_cases h1 : k = 1
  · exact ⟨_, frac_is, fun a b h => if_pos (h.trans h1)⟩
  by_cases h2 : k = 2
  · exact ⟨_, Cm.strC_is.map (fun v : Vl => lowL v.text.data.toList), fun a b h => by rw [if_neg (by omega), if_pos (h.trans h2)]⟩
  by_cases h3 : k = 3
  · exact ⟨_, Cm.subC_is.map (fun v : Vl => flg v.on), fun a b h => by rw [if_neg (by omega), if_neg (by omega), if_pos (h.trans h3)]⟩
  · exact ⟨_, Cm.intC_is.map (fun v : Vl => v.code), fun a b h => by rw [if_neg (by omega), if_neg (by omega), if_neg (by omega)]⟩
theorem inK_is (k : Int) : ∃ g : Vl → Vl → Int, Cm.IsC g ∧ ∀ a b : Vl, a.k = k → inK a b = g a b := by
  unfold inK
  by_cases h0 : k = 0
  · exact ⟨fun _ _ => 0, ⟨fun _ _ => by omega, fun _ _ _ _ _ => by omega⟩, fun a b h => if_pos (h.trans h0)⟩
  · obtain ⟨g, hg, he⟩ := kCmp_is k
    refine ⟨_, hg.or txt_is, fun a b h => ?_⟩
    rw [if_neg (by omega)]
    unfold Cm.orC
    rw [he a b h]
theorem rk_inj {a b : Int} (ha : 0 ≤ a ∧ a ≤ 4) (hb : 0 ≤ b ∧ b ≤ 4) (h : rk a = rk b) : a = b := by
  unfold rk at h
  repeat' split at h
  all_goals omega
abbrev VK := { v : Vl // 0 ≤ v.k ∧ v.k ≤ 4 }
theorem ord_is : Cm.IsC (fun a b : VK => if rk a.1.k ≠ rk b.1.k then Cm.intC (rk a.1.k) (rk b.1.k) else inK a.1 b.1) := by
  refine Cm.glue (fun a : VK => rk a.1.k) (fun a b => inK a.1 b.1) (fun a b h => ?_) (fun a b c h h' => ?_)
  · obtain ⟨g, hg, he⟩ := inK_is a.1.k
    rw [he a.1 b.1 rfl, he b.1 a.1 (rk_inj b.2 a.2 h.symm)]
    exact hg.anti _ _
  · obtain ⟨g, hg, he⟩ := inK_is a.1.k
    have e1 := rk_inj a.2 b.2 h
    rw [he a.1 b.1 rfl, he b.1 c.1 e1.symm, he a.1 c.1 rfl]
    exact hg.trans _ _ _
theorem ordV_eq (a b : VK) : ordV a.1 b.1 = if rk a.1.k ≠ rk b.1.k then Cm.intC (rk a.1.k) (rk b.1.k) else inK a.1 b.1 := by
  unfold ordV
  by_cases h : a.1.k = b.1.k
  · rw [if_neg (fun e => e h), if_neg (c := rk a.1.k ≠ rk b.1.k) (fun e => e (by rw [h]))]
    rfl
  · rw [if_pos h, if_pos (fun e => h (rk_inj a.2 b.2 e))]
/-- What the law asks of three answers. -/
theorem ordV_law {a b c : Vl} (ha : a.ok) (hb : b.ok) (hc : c.ok) : ordV a b = - ordV b a ∧ (0 < ordV a b ∨ 0 < ordV b c ∨ ordV a c ≤ 0) ∧ (ordV a b < 0 ∨ ordV b c < 0 ∨ 0 ≤ ordV a c) := by
  have h := Cm.law ord_is ⟨a, ha.1, ha.2.1⟩ ⟨b, hb.1, hb.2.1⟩ ⟨c, hc.1, hc.2.1⟩
  rw [← ordV_eq, ← ordV_eq, ← ordV_eq, ← ordV_eq] at h
  exact h
theorem orI_zero {x y : Int} (h : orI x y = 0) : x = 0 ∧ y = 0 := by
  unfold orI at h
  split at h <;> omega
theorem intC_zero {x y : Int} (h : Cm.intC x y = 0) : x = y := by
  unfold Cm.intC at h
  split at h
  · omega
  · split at h <;> omega
theorem flg_eq {x y : Bool} (h : flg x - flg y = 0) : x = y := by
  cases x <;> cases y <;> simp_all [flg]
theorem zB_parts {v : Vl} (h : v.zB = true) (h5 : v.k ≤ 4) : (v.k = 1 ∨ (v.num = ⟨#[]⟩ ∧ v.den = ⟨#[]⟩)) ∧ (v.k = 2 ∨ v.text = ⟨#[]⟩) ∧ (v.k = 3 ∨ v.on = false) ∧ (v.k = 4 ∨ v.code = 0) ∧ v.rows = 0 ∧ v.cols = 0 ∧ v.n = 0 := by
  unfold Vl.zB at h
  have h6 : ¬ v.k = 5 := by omega
  simp only [Bool.and_eq_true, Bool.or_eq_true, beq_iff_eq, frSame_iff, Bool.not_eq_true', List.isEmpty_iff, h6, false_or] at h
  obtain ⟨⟨⟨⟨h1, h2⟩, h3⟩, h4⟩, h7⟩ := h
  refine ⟨h1, h2.imp id fun e => ba_ext ?_, h3, h4, h7.1.1, h7.1.2, h7.2⟩
  rw [← Lib.toList_data, e]
/-- Equal place: equal fields. -/
theorem ordV_zero {a b : Vl} (ha : a.ok) (hb : b.ok) (h : ordV a b = 0) : a.k = b.k ∧ a.num = b.num ∧ a.den = b.den ∧ a.text = b.text ∧ a.on = b.on ∧ a.code = b.code ∧ a.rows = b.rows ∧ a.cols = b.cols ∧ a.n = 0 ∧ b.n = 0 := by
  have hk : a.k = b.k := by
    by_cases hk : a.k = b.k
    · exact hk
    · unfold ordV at h
      rw [if_pos hk] at h
      exact rk_inj ⟨ha.1, ha.2.1⟩ ⟨hb.1, hb.2.1⟩ (intC_zero h)
  obtain ⟨a1, a2, a3, a4, a5, a6, a7⟩ := zB_parts ha.2.2.1 ha.2.1
  obtain ⟨b1, b2, b3, b4, b5, b6, b7⟩ := zB_parts hb.2.2.1 hb.2.1
  unfold ordV at h
  rw [if_neg (fun e => e hk)] at h
  have hx : a.k = 0 ∨ (kCmp a b = 0 ∧ a.text = b.text) := by
    by_cases h0 : a.k = 0
    · exact .inl h0
    · rw [if_neg h0] at h
      have := orI_zero h
      exact .inr ⟨this.1, ba_ext (Cm.strC_zero this.2)⟩
  have hnd : a.num = b.num ∧ a.den = b.den := by
    rcases a1 with h1 | h1
    · rcases hx with h0 | ⟨h0, _⟩
      · omega
      · rw [kCmp_1 h1] at h0
        obtain ⟨m, n, d, r⟩ := ha.2.2.2.1 h1
        obtain ⟨m', n', d', r'⟩ := hb.2.2.2.1 (by omega)
        rw [fq_rd r, fq_rd r'] at h0
        unfold Cm.fracC at h0
        have e := Int.sign_eq_zero_iff_zero.1 h0
        dsimp only at e
        have := Nt.Q.same (z := Nt.zi m n) (d := d) (z' := Nt.zi m' n') (d' := d') ⟨r.d0, m, n, d, r, rfl⟩ ⟨r'.d0, m', n', d', r', rfl⟩ (by omega)
        exact ⟨ba_ext this.1, ba_ext this.2⟩
    · rcases b1 with h2 | h2
      · rcases hx with h0 | ⟨h0, _⟩
        · omega
        · obtain ⟨m, n, d, r⟩ := ha.2.2.2.1 (by omega)
          obtain ⟨m', n', d', r'⟩ := hb.2.2.2.1 h2
          rw [kCmp_1 (by omega), fq_rd r, fq_rd r'] at h0
          unfold Cm.fracC at h0
          have e := Int.sign_eq_zero_iff_zero.1 h0
          dsimp only at e
          have := Nt.Q.same (z := Nt.zi m n) (d := d) (z' := Nt.zi m' n') (d' := d') ⟨r.d0, m, n, d, r, rfl⟩ ⟨r'.d0, m', n', d', r', rfl⟩ (by omega)
          exact ⟨ba_ext this.1, ba_ext this.2⟩
      · exact ⟨h1.1.trans h2.1.symm, h1.2.trans h2.2.symm⟩
  have ht : a.text = b.text := by
    rcases hx with h0 | ⟨_, h0⟩
    · rcases a2 with h1 | h1
      · omega
      · rcases b2 with h2 | h2
        · omega
        · exact h1.trans h2.symm
    · exact h0
  have hon : a.on = b.on := by
    rcases a3 with h1 | h1
    · rcases hx with h0 | ⟨h0, _⟩
      · omega
      · rw [kCmp_3 h1] at h0
        exact flg_eq h0
    · rcases b3 with h2 | h2
      · rcases hx with h0 | ⟨h0, _⟩
        · omega
        · rw [kCmp_3 (by omega)] at h0
          exact flg_eq h0
      · exact h1.trans h2.symm
  have hcd : a.code = b.code := by
    rcases a4 with h1 | h1
    · rcases hx with h0 | ⟨h0, _⟩
      · omega
      · rw [kCmp_4 h1] at h0
        exact intC_zero h0
    · rcases b4 with h2 | h2
      · rcases hx with h0 | ⟨h0, _⟩
        · omega
        · rw [kCmp_4 (by omega)] at h0
          exact intC_zero h0
      · omega
  exact ⟨hk, hnd.1, hnd.2, ht, hon, hcd, by omega, by omega, a7, b7⟩
end Go.Proofs.YtmmlcponmdalmaaGreatDoor
