/- TopCharts: the walk. -/
import Derived.Test.YtigeipjkcidleaaGreatDoorTcZ
namespace Go.Proofs.YtigeipjkcidleaaGreatDoor
open Go.RowKit

/-- The cell of the first sheet. -/
def cc2 : CC := ⟨1, 1, ⟨1, ⟨#[51]⟩, ⟨#[50]⟩, ⟨#[]⟩, false, 0, 0, 0, none, 0, 0⟩⟩
theorem ccs_of {w : World} {g : Nat} {t : TypeId} (x : CC) (h : Blk w g t (ccC x).toArray) : CCs w (.slice (some ⟨g, 0, none⟩) 1 1) [x] := by
  refine ⟨_, 1, rfl, by simp, fun h => by (cases h), fun _ => ⟨g, 0, rfl, h.lt, fun i hi j hj => ?_⟩⟩
  have e : i = 0 := by simpa using hi
  subst e
  rw [show 0 + (0 * 11 + j) = j by omega, h.cell j]
  simp
theorem two_of (w : World) (he : VEnv w) (g : Nat) (t : TypeId) (h : Blk w g t (ccC cc2).toArray) :
    Calls Tryz.prog 12 #[.agg #[.int .i64 0, .string ⟨#[]⟩, .int .i64 2, .int .i64 2, .slice (some ⟨g, 0, none⟩) 1 1], .agg #[.int .i64 0, .int .i64 0, .int .i64 2, .int .i64 2], .int .i64 0] w (OfRet 0 (fun _ _ => 1500) 2 2 w) :=
  of_any 0 ⟨#[]⟩ 2 2 (some ⟨g, 0, none⟩) 1 1 [cc2] 0 2 2 (fun _ _ => 1500) w he (ccs_of cc2 h) (by decide) (.inl rfl) (fun h => by cases h) (by decide) (by decide) (by decide) (by decide) (by decide) (by decide) (by decide) (by decide)
    (fun i h1 h2 => by
      obtain rfl : i = 1 := by omega
      rfl) (fun _ _ => by decide) (fun i k h1 h2 h3 h4 W hW => by
      obtain rfl : i = 1 := by omega
      obtain rfl : k = 1 := by omega
      exact two_thou W (he.below hW).pw)
theorem itoa_dd (n : Nat) (hn : n ≤ 1000000) (w : World) (htab : Lib.TabIs Tryz.prog w "internal/strconv.uint64pow10" .u64 Lib.pow10Tab) :
    Calls Tryz.prog 15 #[.int .i64 (n : Int)] w fun e w' => e = .returned (.string ⟨(Lib.decDigits n).toArray⟩) ∧ Below w.heap.size w w' := by
  refine (Tryz.strconv_Itoa (n : Int) (by omega) (by omega) w htab).mono ?_
  rintro e w' ⟨rfl, k, os, rfl⟩
  refine ⟨?_, Lib.below_grow _ w (Nat.le_refl _) k os⟩
  congr 2

set_option maxRecDepth 100000 in
set_option maxHeartbeats 40000000 in
theorem charts_w (RA : Option Addr) (rl rc : Nat) (R : List (List Int)) (steps height : Int) (w : World) (he : VEnv w) (hr : Rows2 w (.slice RA rl rc) R) (hR : rl ≤ 9223372036854775807) (hRl : ∀ l ∈ R, l.length ≤ 9223372036854775807) (hRx : ∀ l ∈ R, ∀ x ∈ l, -9223372036854775808 ≤ x ∧ x ≤ 9223372036854775807) (hst : -9223372036854775808 ≤ steps ∧ steps ≤ 9223372036854775807) (hhe : -9223372036854775808 ≤ height ∧ height ≤ 9223372036854775807) :
    Calls Tryz.prog 4 #[.slice RA rl rc, .int .i64 steps, .int .i64 height] w fun e w' => e = .returned (.bool true) ∧ Below w.heap.size w w' := by
  have hrn := hr.get.1
  have HE := Lib.hid he
  have HR := Lib.hid hr
  have HRL := Lib.hid hRl
  have HRX := Lib.hid hRx
  have HRN := Lib.hid hrn
  have HST := Lib.hid hst
  have HHE := Lib.hid hhe
  clear he hr hRl hRx hrn hst hhe
  have HL0 := Lib.hid (((Loc.start w).alloc' rfl 45 #[.int .i64 1, .int .i64 1, .int .i64 1, .string ⟨#[51]⟩, .string ⟨#[50]⟩, .string ⟨#[]⟩, .bool false, .int .i64 0, .int .i64 0, .int .i64 0, .slice none 0 0]).alloc' (g := w.heap.size + 1) (by simp) 48 #[.int .i64 0, .string ⟨#[]⟩, .int .i64 2, .int .i64 2, .slice (some ⟨w.heap.size, 0, none⟩) 1 1])
  have HO2 := Lib.hid (two_of _ (HE.out.below HL0.out.bel) w.heap.size _ (show Blk _ w.heap.size 45 (ccC cc2).toArray from HL0.out.blk (g := w.heap.size) (t := 45) (cs := #[.int .i64 1, .int .i64 1, .int .i64 1, .string ⟨#[51]⟩, .string ⟨#[50]⟩, .string ⟨#[]⟩, .bool false, .int .i64 0, .int .i64 0, .int .i64 0, .slice none 0 0]) (by simp)))
  go_enter Tryz.func4, Tryz.ntmps4
  go_upto_region 3 with (go_at_call 12; (with_reducible refine HO2.out.mono ?_); rintro e w1 hof; obtain ⟨NA, nc, SA, sc, rfl, hr2, hb⟩ := ofret_of hof; have HR2 := Lib.hid hr2; have HB1 := Lib.hid (HL0.out.bel.trans (hb.mono HL0.out.bel.size)); clear hof hr2 hb)
  have HF1 := Lib.hid (HB1.out.alloc HB1.out.size (.cells #[.int .i64 0, .slice NA 1 nc, .slice SA 1 sc] 51))
  obtain ⟨b1, o1, rfl, hbl1, hrow1⟩ := HR2.out.get.2 (by decide)
  obtain ⟨B, m, k, c0, hr⟩ := hrow1 0 (by simp [serL])
  obtain ⟨e1, hr⟩ := hr.one
  simp only [serL, List.getElem_map, List.length_map, List.length_range] at e1 hr
  obtain rfl : m = 1 := by omega
  obtain ⟨b2, o2, rfl, hb2, hc⟩ := hr (by decide)
  have c0 : w1.cell? ⟨b1, o1, none⟩ = some (.slice (some ⟨b2, o2, none⟩) 1 k) := c0
  have d0 : w1.cell? ⟨b2, o2, none⟩ = some (.int .i64 1500) := hc 0 (by decide)
  have HEQ := Lib.hid (show ∀ W, Below w1.heap.size w1 W → ∀ g, W.cell? ⟨g, 0, none⟩ = some (.int .i64 1500) → Calls Tryz.prog 13 #[.slice (some ⟨b2, o2, none⟩) 1 k, .slice (some ⟨g, 0, none⟩) 1 1] W fun e w' => e = .returned (.bool true) ∧ ∃ q, w' = W.drewN q from fun W hW g hg => by
    have := Tryz.slices_Equal_int b2 o2 1 k g 0 1 1 [1500] [1500] W (by simp) (by simp) (by decide) (by decide) (fun j hj => by
      have e : j = 0 := by simpa using hj
      subst e
      exact (hW.cell (p := ⟨b2, o2 + 0, none⟩) hb2).trans d0) (fun j hj => by
      have e : j = 0 := by simpa using hj
      subst e
      exact hg)
    exact this)
  have c1 : (w1.alloc (.cells #[.int .i64 0, .slice NA 1 nc, .slice (some ⟨b1, o1, none⟩) 1 sc] 51)).cell? ⟨b1, o1, none⟩ = some (.slice (some ⟨b2, o2, none⟩) 1 k) := (((Below.refl w1.heap.size w1).alloc (Nat.le_refl _) _).cell (p := ⟨b1, o1, none⟩) hbl1).trans c0
  have HLX := Lib.hid (((Below.refl w1.heap.size w1).alloc (Nat.le_refl _) (.cells #[.int .i64 0, .slice NA 1 nc, .slice (some ⟨b1, o1, none⟩) 1 sc] 51)).alloc (by simp) (.cells #[.int .i64 1500] 3))
  clear hrow1 hr hc c0 d0 hbl1 hb2 e1 HR2
  go_upto_block 0 with (go_at_call 13; (with_reducible refine (HEQ.out _ HLX.out _ (by go_simp)).mono ?_); rintro e w2 ⟨rfl, q, rfl⟩)
  obtain ⟨N, hN⟩ : ∃ N, N = Tc.nmb R := ⟨_, rfl⟩
  have HNB := Lib.hid (show ∀ i k, N i k ≤ 5000 from fun i k => by rw [hN]; exact Tc.nmb_le R i k)
  have HND := Lib.hid (show ∀ i k, i < 5 → k < 3 → N i k = Tc.num R i k from fun i k h1 h2 => by rw [hN]; exact if_pos ⟨h1, h2⟩)
  have HW1 := Lib.hid HB1.out.size
  have hl0 : Loc w [] w1 := ⟨HB1.out, fun x hx => by cases hx⟩
  have hl1 : Loc w [] (((w1.alloc (.cells #[.int .i64 0, .slice NA 1 nc, .slice (some ⟨b1, o1, none⟩) 1 sc] 51)).alloc (.cells #[.int .i64 1500] 3)).drewN q) := (((hl0.alloc 51 #[.int .i64 0, .slice NA 1 nc, .slice (some ⟨b1, o1, none⟩) 1 sc]).alloc 3 #[.int .i64 1500]).drewN q).perm (fun x hx => by cases hx)
  have hl2 := (hl1.alloc' (g := w1.heap.size + 1 + 1) (by simp) 48 #[.int .i64 0, .string ⟨#[]⟩, .int .i64 6, .int .i64 4, .slice none 0 0]).alloc' (g := w1.heap.size + 1 + 1 + 1) (by simp) 58 #[.int .i64 0, .int .i64 0, .int .i64 0, .int .i64 0, .int .i64 0, .int .i64 0, .int .i64 0, .int .i64 0, .int .i64 0, .int .i64 0, .int .i64 0, .int .i64 0, .int .i64 0, .int .i64 0, .int .i64 0]
  rw [← arrC_zero N] at hl2
  have HS0 := Lib.hid (show Sh w (w1.heap.size + 1 + 1) N 0 0 (.slice none 0 0) _ from ⟨hl2, RowOf.nil _ _, by simp⟩)
  clear hl0 hl1 hl2
  clear hN HLX HEQ HF1 c1
  go_cut [64] (fun _ wx => ∃ v, Hid (Sh w (w1.heap.size + 1 + 1) N 15 15 v wx))
  case first =>
    go_wp2_with fail
    go_loopw [64] (fun u wr => ∃ (i : Nat) (v : Value), i ≤ 5 ∧ u = .int .i64 i ∧ Hid (Sh w (w1.heap.size + 1 + 1) N (3 * i) (3 * i) v wr)) (fun u _ => 5 - (intOf u).toNat)
    case atStart => exact ⟨0, _, by decide, rfl, HS0⟩
    case round =>
      clear HS0
      obtain ⟨i, v, hi, rfl, HS⟩ := hrel
      by_cases hlt : i < 5
      · go_wp2_with fail
        go_loopw [67] (fun u wr => ∃ (k : Nat) (v : Value), k ≤ 3 ∧ u = .int .i64 k ∧ Hid (Sh w (w1.heap.size + 1 + 1) N (3 * i + k) (3 * i + k) v wr)) (fun u _ => 3 - (intOf u).toNat)
        case atStart => exact ⟨0, v, by decide, rfl, HS⟩
        case round =>
          clear HS
          obtain ⟨k, v, hk, rfl, HS⟩ := hrel
          by_cases hlk : k < 3
          · have hnb := HNB.out i k
            have HNK := Lib.hid (HND.out i k hlt hlk)
            obtain ⟨An, nn, cn, rfl⟩ := HS.out.shape
            obtain ⟨tx, htx⟩ : ∃ tx : ByteArray, tx = ⟨(Lib.decDigits (N i k)).toArray⟩ := ⟨_, rfl⟩
            have HTX := Lib.hid htx
            clear htx
            obtain ⟨nv, hnv⟩ : ∃ nv : Int, nv = (N i k : Int) := ⟨_, rfl⟩
            have HNV := Lib.hid hnv
            obtain ⟨bb, hbb⟩ : ∃ bb : Bool, bb = true ↔ ∃ h : i < R.length, k < R[i].length := ⟨decide (∃ h : i < R.length, k < R[i].length), by simp⟩
            have HBB := Lib.hid hbb
            clear hbb hnv
            go_upto_region 14 with fail
            go_cut [65, 86] (fun u65 u86 wx => u65 = .bool true ∧ u86 = .bool bb ∧ wx = wr)
            case first =>
              by_cases hri : i < rl
              · obtain ⟨b, o, rfl, hbl, hrow⟩ := HR.out.get.2 (by omega)
                have hil : i < R.length := by have := HRN.out; omega
                obtain ⟨B, m, kk, c0, hrr⟩ := hrow i hil
                have e1 := hrr.one.1
                have c0 : wr.cell? ⟨b, o + i, none⟩ = some (.slice B m kk) := (HS.out.loc.bel.cell (p := ⟨b, o + i, none⟩) hbl).trans c0
                have hm63 : m ≤ 9223372036854775807 := by have := HRL.out _ (List.getElem_mem hil); omega
                by_cases hrk : k < m
                · have hb2 : bb = true := HBB.out.2 ⟨hil, by omega⟩
                  subst hb2
                  clear hrow hrr hbl e1 hil
                  go_wp2_with fail
                  go_meet
                  exact ⟨by first | rfl | exact congrArg Value.bool (decide_eq_true (by omega)), rfl, rfl⟩
                · have hb2 : bb = false := by
                    cases bb
                    · rfl
                    · obtain ⟨h1, h2⟩ := HBB.out.1 rfl
                      omega
                  subst hb2
                  clear hrow hrr hbl e1 hil
                  go_wp2_with fail
                  go_meet
                  exact ⟨by first | rfl | exact congrArg Value.bool (decide_eq_true (by omega)), rfl, rfl⟩
              · have hb2 : bb = false := by
                  cases bb
                  · rfl
                  · obtain ⟨h1, h2⟩ := HBB.out.1 rfl
                    have := HRN.out
                    omega
                subst hb2
                go_wp2_with fail
                go_meet
                exact ⟨by first | rfl | exact congrArg Value.bool (decide_eq_true (by omega)), rfl, rfl⟩
            case rest =>
              obtain ⟨rfl, rfl, rfl⟩ := hcut
              go_upto_if 86 with fail
              go_cut [14, 65] (fun u14 u65 wx => u65 = .bool true ∧ u14 = .int .i64 nv ∧ wx = wc)
              case first =>
                cases bb with
                | true =>
                  obtain ⟨hil, hkl⟩ := HBB.out.1 rfl
                  have hrn := HRN.out
                  obtain ⟨b, o, rfl, hbl, hrow⟩ := HR.out.get.2 (by omega)
                  obtain ⟨B, m, kk, c0, hrr⟩ := hrow i hil
                  obtain ⟨e1, hrr⟩ := hrr.one
                  have c0 : wc.cell? ⟨b, o + i, none⟩ = some (.slice B m kk) := (HS.out.loc.bel.cell (p := ⟨b, o + i, none⟩) hbl).trans c0
                  have hm63 : m ≤ 9223372036854775807 := by have := HRL.out _ (List.getElem_mem hil); omega
                  have hrk : k < m := by omega
                  have hri : i < rl := by omega
                  obtain ⟨b2, o2, rfl, hb2, hc⟩ := hrr (by omega)
                  have d0 := (HS.out.loc.bel.cell (p := ⟨b2, o2 + k, none⟩) hb2).trans (hc k hkl)
                  have hxr := HRX.out _ (List.getElem_mem hil) _ (List.getElem_mem hkl)
                  have hnx : (N i k : Int) = 0 + R[i][k] % (5000 - 0 + 1) := by
                    rw [HNK.out]
                    unfold Tc.num
                    rw [dif_pos hil, dif_pos hkl]
                    have := Int.emod_nonneg (R[i][k]) (show (5001 : Int) ≠ 0 by decide)
                    rw [show (5000 : Int) - 0 + 1 = 5001 from rfl]
                    omega
                  obtain ⟨x, hx⟩ : ∃ x, x = R[i][k]'hkl := ⟨_, rfl⟩
                  rw [← hx] at d0 hnx hxr
                  have HMW := Lib.hid (show ∀ W, Calls Tryz.prog 14 #[.int .i64 x, .int .i64 0, .int .i64 5000] W fun e w' => e = .returned (.int .i64 nv) ∧ W = w' from fun W => by
                    have := mwithin_any x 0 5000 W hxr (by decide) (by decide) (by decide)
                    rw [← hnx, ← HNV.out] at this
                    exact this)
                  clear hnx hxr hx hrow hrr hc hb2 hbl e1 hrn
                  go_wp2_with (go_at_call 14; (with_reducible refine (HMW.out _).mono ?_); rintro e w9 ⟨rfl, rfl⟩)
                  go_meet
                  exact ⟨by first | rfl | exact congrArg Value.bool (decide_eq_true (by omega)), rfl, rfl⟩
                | false =>
                  have hnv0 : nv = 10 * (i : Int) + k := by
                    rw [HNV.out, HNK.out]
                    unfold Tc.num
                    by_cases h1 : i < R.length
                    · rw [dif_pos h1]
                      by_cases h2 : k < R[i].length
                      · exact absurd (HBB.out.2 ⟨h1, h2⟩) (by decide)
                      · rw [dif_neg h2]
                        omega
                    · rw [dif_neg h1]
                      omega
                  go_wp2_with fail
                  go_meet
                  exact ⟨by first | rfl | exact congrArg Value.bool (decide_eq_true (by omega)), by rw [hnv0], rfl⟩
              case rest =>
                obtain ⟨rfl, rfl, rfl⟩ := hcut
                clear HBB
                have HIT := Lib.hid (show ∀ W, Below w.heap.size w W → Calls Tryz.prog 15 #[.int .i64 nv] W fun e w' => e = .returned (.string tx) ∧ Below W.heap.size W w' from fun W hW => by
                  rw [HNV.out, HTX.out]
                  exact itoa_dd (N i k) (by omega) W (HE.out.below hW).pw)
                obtain ⟨CX, hcx⟩ : ∃ CX : CC, CX = ⟨(i : Int) + 1, (k : Int) + 1, ⟨1, tx, ⟨#[49]⟩, ⟨#[]⟩, false, 0, 0, 0, none, 0, 0⟩⟩ := ⟨_, rfl⟩
                have HCX := Lib.hid (show #[.int .i64 ((i : Int) + 1), .int .i64 ((k : Int) + 1), .int .i64 1, .string tx, .string ⟨#[49]⟩, .string ⟨#[]⟩, .bool false, .int .i64 0, .int .i64 0, .int .i64 0, .slice none 0 0].toList = ccC CX from by rw [hcx]; rfl)
                have HCY := Lib.hid (show (0 : Int) < nv → clm N (3 * i + (k + 1)) = clm N (3 * i + k) ++ [CX] from fun h => by
                  have h1 := clm_yes N i k hlk (by have := HNV.out; omega)
                  rw [hcx, HTX.out]
                  exact h1)
                have HCN := Lib.hid (show ¬ (0 : Int) < nv → clm N (3 * i + (k + 1)) = clm N (3 * i + k) from fun h => clm_no N i k hlk (by have := HNV.out; omega))
                have HPv := HS.out.put hlt hlk
                rw [← HNV.out] at HPv
                have HP := Lib.hid HPv
                have HPB := Lib.hid HPv.loc.bel
                have s4 : (wc.setCell ⟨w1.heap.size + 1 + 1 + 1, k * 5 + i, none⟩ (.int .i64 nv)).cell? ⟨w1.heap.size + 1 + 1, 4, none⟩ = some (.slice An nn cn) := HPv.sheet.cell 4
                have f4 := HPv.sheet.frozen 4
                have a0 := (HS.out.arr.cell (k * 5 + i)).trans (arrC_get N (3 * i + k) (k * 5 + i) (by omega))
                have a1 := HS.out.arr.frozen (k * 5 + i)
                generalize ((arrN N (3 * i + k) (k * 5 + i) : Nat) : Int) = old at a0
                have z1 : IntKind.i64.wrap ((i : Int) + 1) = (i : Int) + 1 := IntWalk.i64_in _ (by omega)
                have z2 : IntKind.i64.wrap ((k : Int) + 1) = (k : Int) + 1 := IntWalk.i64_in _ (by omega)
                have nv0 : (0 : Int) ≤ nv := by rw [HNV.out]; omega
                have nv1 : nv ≤ 5000 := by rw [HNV.out]; omega
                clear HPv hcx
                go_upto_if 101 with fail
                by_cases hpos : (0 : Int) < nv
                · go_upto_region 18 with fail
                  go_region_law (first
                    | (go_simp; go_at_call 15; (with_reducible refine (HIT.out _ (by first | exact HPB.out.drew | exact HPB.out)).mono ?_); rintro e w2 ⟨rfl, hb⟩; have HP2 := Lib.hid (show Sh w (w1.heap.size + 1 + 1) N (3 * i + k) (3 * i + k + 1) (.slice An nn cn) w2 from by first | exact HP.out.drew.later hb | exact HP.out.later hb); clear hb s4; have s4 : w2.cell? ⟨w1.heap.size + 1 + 1, 4, none⟩ = some (.slice An nn cn) := HP2.out.sheet.cell 4; have s5 : (w2.alloc (.cells #[.int .i64 ((i : Int) + 1), .int .i64 ((k : Int) + 1), .int .i64 1, .string tx, .string ⟨#[49]⟩, .string ⟨#[]⟩, .bool false, .int .i64 0, .int .i64 0, .int .i64 0, .slice none 0 0] 45)).cell? ⟨w1.heap.size + 1 + 1, 4, none⟩ = some (.slice An nn cn) := (HP2.out.sheet.alloc _).cell 4)
                    | (refine step_row1 (w := w2) 46 45 11 128 ccC _ Tryz.underlying46 cc_info rfl (by decide) cc_len rfl (.tmp 103) (.tmp 113) rfl (w1.heap.size + 1 + 1 + 2) (.slice An nn cn) (clm N (3 * i + k)) rfl HP2.out.own CX _ HCX.out w2.heap.size rfl rfl (by have := clm_len N (3 * i + k); omega) (by have := clm_len N (3 * i + k); unfold maxLen; omega) HP2.out.sz ?_; intro gx cx w3 ho hb; rw [← HCY.out (by omega)] at ho; have HP3 := Lib.hid (HP2.out.app hb ho); have t4 : w3.cell? ⟨w1.heap.size + 1 + 1, 4, none⟩ = some (.slice An nn cn) := (HP2.out.sheet.below hb (by omega)).cell 4; have q4 := (HP2.out.sheet.below hb (by omega)).frozen 4; clear ho hb))
                  all_goals
                    go_wp2_with fail
                    go_roundw
                    case rel => first | exact ⟨k + 1, _, by omega, by go_num, HP3⟩ | exact ⟨_, _, _, ⟨k + 1, by omega, by go_num, _, HP3⟩, rfl, rfl, rfl⟩
                    case measure => simp [intOf]; omega
                · have HP4 := Lib.hid (show Sh w (w1.heap.size + 1 + 1) N (3 * i + (k + 1)) (3 * i + (k + 1)) (.slice An nn cn) (wc.setCell ⟨w1.heap.size + 1 + 1 + 1, k * 5 + i, none⟩ (.int .i64 nv)) from ⟨HP.out.loc, by have := HP.out.own; rw [← HCN.out (by omega)] at this; exact this, HP.out.sz⟩)
                  go_wp2_with fail
                  go_roundw
                  case rel => first | exact ⟨k + 1, _, by omega, by go_num, HP4⟩ | exact ⟨_, _, _, ⟨k + 1, by omega, by go_num, _, HP4⟩, rfl, rfl, rfl⟩
                  case measure => simp [intOf]; omega
          · obtain rfl : k = 3 := by omega
            have HS2 := Lib.hid (show Sh w (w1.heap.size + 1 + 1) N (3 * (i + 1)) (3 * (i + 1)) v wr from HS.out)
            go_wp2_with fail
            go_roundw
            case rel => exact ⟨i + 1, v, by omega, by go_num, HS2⟩
            case measure => simp [intOf]; omega
      · obtain rfl : i = 5 := by omega
        have HS2 := Lib.hid (show Sh w (w1.heap.size + 1 + 1) N 15 15 v wr from HS.out)
        clear HS
        go_wp2_with fail
        go_meet
        exact ⟨v, HS2⟩
  case rest =>
    obtain ⟨v, HS2⟩ := hcut
    go_step
    exact charts21 HNB HE HS2 HST HHE
end Go.Proofs.YtigeipjkcidleaaGreatDoor
