/- TopCharts: the walk from the sheet to its bars. -/
import Derived.Test.YtigeipjkcidleaaGreatDoorTcY
namespace Go.Proofs.YtigeipjkcidleaaGreatDoor
open Go.RowKit

noncomputable def rest21 : Code := ((Tryz.f4.body.bind (contAt 21)).getD .skip)
set_option maxRecDepth 100000 in
set_option maxHeartbeats 40000000 in
theorem charts21 {u0 u3 u4 u5 u6 u7 u8 u9 u12 u13 u14 u15 u16 u17 u18 u19 u20 u21 u22 u23 u24 u25 u26 u27 u28 u29 u30 u31 u32 u33 u34 u35 u36 u37 u38 u39 u40 u41 u42 u43 u44 u45 u46 u47 u48 u49 u50 u51 u52 u53 u54 u55 u56 u57 u58 u59 u60 u61 u62 u63 u64 u65 u66 u67 u68 u69 u70 u71 u72 u73 u74 u75 u76 u77 u78 u79 u80 u81 u82 u83 u84 u85 u86 u87 u88 u89 u90 u91 u92 u93 u94 u95 u96 u97 u98 u99 u100 u101 u102 u103 u104 u105 u106 u107 u108 u109 u110 u111 u112 u113 u114 u115 u116 u117 u118 u119 u120 u121 u122 u123 u124 u125 u126 u127 u128 u129 u130 u131 u132 u133 u134 u135 u136 u137 u138 u139 u140 u141 u142 u143 u144 u145 u146 u147 u148 u149 u150 u151 u152 u153 u154 u155 u156 u157 u158 u159 u160 u161 u162 u163 u164 u165 u166 u167 u168 u169 u170 u171 u172 u173 u174 u175 u176 u177 u178 u179 u180 u181 u182 u183 u184 u185 u186 u187 u188 u189 u190 u191 u192 u193 u194 u195 u196 u197 u198 u199 u200 u201 u202 u203 u204 u205 u206 u207 u208 u209 u210 u211 u212 u213 u214 u215 u216 u217 u218 u219 u220 u221 u222 u223 u224 u225 u226 u227 u228 u229 u230 u231 u232 u233 u234 u235 u236 u237 u238 u239 u240 u241 u242 u243 u244 u245 u246 u247 u248 u249 u250 u251 u252 u253 u254 u255 u256 u257 u258 u259 u260 u261 u262 u263 u264 u265 u266 u267 u268 u269 u270 u271 u272 u273 u274 u275 u276 u277 u278 u279 u280 u281 u282 u283 u284 u285 u286 u287 u288 u289 u290 u291 u292 u293 u294 u295 u296 u297 u298 u299 u300 u301 u302 u303 u304 u305 u306 u307 u308 u309 : Value} {w wr : World} {N : Nat → Nat → Nat} {G : Nat} {v : Value} {steps height : Int} (HNB : Hid (∀ i k, N i k ≤ 5000)) (HE : Hid (VEnv w)) (HS2 : Hid (Sh w G N 15 15 v wr)) (HST : Hid (-9223372036854775808 ≤ steps ∧ steps ≤ 9223372036854775807)) (HHE : Hid (-9223372036854775808 ≤ height ∧ height ≤ 9223372036854775807)) :
    Code.wp Tryz.prog rest21 (bodyPost Tryz.prog Tryz.f4 fun e w' => e = .returned (.bool true) ∧ Below w.heap.size w w') ⟨#[u0, .int .i64 steps, .int .i64 height, u3, u4, u5, u6, u7, u8, u9, .pointer (some ⟨G, 0, none⟩), .pointer (some ⟨G + 1, 0, none⟩), u12, u13, u14, u15, u16, u17, u18, u19, u20, u21, u22, u23, u24, u25, u26, u27, u28, u29, u30, u31, u32, u33, u34, u35, u36, u37, u38, u39, u40, u41, u42, u43, u44, u45, u46, u47, u48, u49, u50, u51, u52, u53, u54, u55, u56, u57, u58, u59, u60, u61, u62, u63, u64, u65, u66, u67, u68, u69, u70, u71, u72, u73, u74, u75, u76, u77, u78, u79, u80, u81, u82, u83, u84, u85, u86, u87, u88, u89, u90, u91, u92, u93, u94, u95, u96, u97, u98, u99, u100, u101, u102, u103, u104, u105, u106, u107, u108, u109, u110, u111, u112, u113, u114, u115, u116, u117, u118, u119, u120, u121, u122, u123, u124, u125, u126, u127, u128, u129, u130, u131, u132, u133, u134, u135, u136, u137, u138, u139, u140, u141, u142, u143, u144, u145, u146, u147, u148, u149, u150, u151, u152, u153, u154, u155, u156, u157, u158, u159, u160, u161, u162, u163, u164, u165, u166, u167, u168, u169, u170, u171, u172, u173, u174, u175, u176, u177, u178, u179, u180, u181, u182, u183, u184, u185, u186, u187, u188, u189, u190, u191, u192, u193, u194, u195, u196, u197, u198, u199, u200, u201, u202, u203, u204, u205, u206, u207, u208, u209, u210, u211, u212, u213, u214, u215, u216, u217, u218, u219, u220, u221, u222, u223, u224, u225, u226, u227, u228, u229, u230, u231, u232, u233, u234, u235, u236, u237, u238, u239, u240, u241, u242, u243, u244, u245, u246, u247, u248, u249, u250, u251, u252, u253, u254, u255, u256, u257, u258, u259, u260, u261, u262, u263, u264, u265, u266, u267, u268, u269, u270, u271, u272, u273, u274, u275, u276, u277, u278, u279, u280, u281, u282, u283, u284, u285, u286, u287, u288, u289, u290, u291, u292, u293, u294, u295, u296, u297, u298, u299, u300, u301, u302, u303, u304, u305, u306, u307, u308, u309], []⟩ wr := by
  conv => arg 2; whnf
  conv => arg 4; zeta
  obtain ⟨An, nn, cn, rfl⟩ := HS2.out.shape
  have HOF := Lib.hid (show Calls Tryz.prog 12 #[.agg #[.int .i64 0, .string ⟨#[]⟩, .int .i64 6, .int .i64 4, .slice An nn cn], .agg #[.int .i64 0, .int .i64 0, .int .i64 6, .int .i64 4], .int .i64 0] wr (OfRet 0 (fTh N) 6 4 wr) from of_sheet HNB.out HS2.out (HE.out.below HS2.out.loc.bel) 0 4 (.inl ⟨rfl, rfl⟩))
  have c0 := HS2.out.sheet.cell 0
  have c1 := HS2.out.sheet.cell 1
  have c2 := HS2.out.sheet.cell 2
  have c3 := HS2.out.sheet.cell 3
  have c4 := HS2.out.sheet.cell 4
  go_upto_region 22 with (go_at_call 12; (with_reducible refine HOF.out.mono ?_); rintro e w2 hof; obtain ⟨NA2, nc2, SA2, sc2, rfl, hr2, hb2⟩ := ofret_of hof; have HR2 := Lib.hid (show Rows2 w2 (.slice SA2 3 sc2) (serN N 4) from hr2); have HB2 := Lib.hid hb2; clear hof hr2 hb2)
  clear c0 c1 c2 c3 c4 HOF
  have HA2 := Lib.hid ((Below.refl w2.heap.size w2).alloc (Nat.le_refl _) (.cells #[.int .i64 0, .slice NA2 5 nc2, .slice SA2 3 sc2] 51))
  have HRG := Lib.hid (crange_any NA2 5 nc2 SA2 3 sc2 (serN N 4) 5000000 _ (serN_ok HNB.out) (HR2.out.below HA2.out))
  go_upto_region 23 with (go_at_call 16; (with_reducible refine HRG.out.mono ?_); rintro e w3 hrg; obtain ⟨hi, rfl, hmx, hb3⟩ := hrg; have HMX := Lib.hid hmx; have HB3 := Lib.hid hb3; clear hmx hb3)
  clear HRG
  obtain ⟨st, hst⟩ : ∃ st, st = 2 + steps % (20 - 2 + 1) := ⟨_, rfl⟩
  have hst1 : 2 ≤ st ∧ st ≤ 20 := by
    have := Int.emod_nonneg steps (show (20 - 2 + 1 : Int) ≠ 0 by decide)
    have := Int.emod_lt_of_pos steps (show (0 : Int) < 20 - 2 + 1 by decide)
    omega
  have HM1 := Lib.hid (show ∀ W, Calls Tryz.prog 14 #[.int .i64 steps, .int .i64 2, .int .i64 20] W fun e w' => e = .returned (.int .i64 st) ∧ W = w' from fun W => by
    rw [hst]
    exact mwithin_any steps 2 20 W HST.out (by decide) (by decide) (by decide))
  have HHI := Lib.hid (show 0 ≤ hi ∧ hi ≤ 5000000 from ⟨HMX.out.h0, HMX.out.le (by decide) (fun l hl n hn => (serN_rg HNB.out 4 l hl n hn).2)⟩)
  have HFI := Lib.hid fun W => sfind_any hi st W HHI.out.1 (by have := HHI.out.2; omega) hst1.1 (by omega)
  clear hst hst1
  go_upto_region 24 with (first | (go_at_call 14; (with_reducible refine (HM1.out _).mono ?_); rintro e w9 ⟨rfl, rfl⟩) | (go_at_call 17; (with_reducible refine (HFI.out _).mono ?_); rintro e w4 hfi; obtain ⟨H, S, rfl, hok, hle, hb4⟩ := hfi; have HOK := Lib.hid hok; have HLE := Lib.hid hle; have HB4 := Lib.hid hb4; clear hok hle hb4))
  clear HM1 HFI
  have HC2 := Lib.hid ((((Blk.new w2 51 #[.int .i64 0, .slice NA2 5 nc2, .slice SA2 3 sc2]).later HB3.out).later HB4.out).alloc (.cells #[.int .i64 0, .int .i64 H, .int .i64 S] 64))
  have HBE := Lib.hid (show Below wr.heap.size wr (w4.alloc (.cells #[.int .i64 0, .int .i64 H, .int .i64 S] 64)) from (((bel2 HB2.out HA2.out).trans (HB3.out.mono (by have := HB2.out.size; have := HA2.out.size; omega))).trans (HB4.out.mono (by have := HB2.out.size; have := HA2.out.size; have := HB3.out.size; omega))).alloc (by have := HB2.out.size; have := HA2.out.size; have := HB3.out.size; have := HB4.out.size; omega) _)
  have HBF := Lib.hid (show Below w2.heap.size w2 (w4.alloc (.cells #[.int .i64 0, .int .i64 H, .int .i64 S] 64)) from ((HA2.out.trans (HB3.out.mono (by have := HA2.out.size; omega))).trans (HB4.out.mono (by have := HA2.out.size; have := HB3.out.size; omega))).alloc (by have := HA2.out.size; have := HB3.out.size; have := HB4.out.size; omega) _)
  obtain ⟨hg, hhg⟩ : ∃ hg, hg = 1 + height % (4000 - 1 + 1) := ⟨_, rfl⟩
  have hhg1 : 1 ≤ hg ∧ hg ≤ 4000 := by
    have := Int.emod_nonneg height (show (4000 - 1 + 1 : Int) ≠ 0 by decide)
    have := Int.emod_lt_of_pos height (show (0 : Int) < 4000 - 1 + 1 by decide)
    omega
  have HM2 := Lib.hid (show ∀ W, Calls Tryz.prog 14 #[.int .i64 height, .int .i64 1, .int .i64 4000] W fun e w' => e = .returned (.int .i64 hg) ∧ W = w' from fun W => by
    rw [hhg]
    exact mwithin_any height 1 4000 W HHE.out (by decide) (by decide) (by decide))
  obtain ⟨P, hP⟩ : ∃ P, P = MkP.mk NA2 5 nc2 SA2 3 sc2 H S hg := ⟨_, rfl⟩
  have HPP := Lib.hid hP
  have HHG := Lib.hid hhg1
  have HBA := Lib.hid (show ∀ W, Below (w4.alloc (.cells #[.int .i64 0, .int .i64 H, .int .i64 S] 64)).heap.size (w4.alloc (.cells #[.int .i64 0, .int .i64 H, .int .i64 S] 64)) W → Calls Tryz.prog 18 #[.agg #[.int .i64 0, .slice NA2 5 nc2, .slice SA2 3 sc2], .agg #[.int .i64 0, .int .i64 H, .int .i64 S], .int .i64 1000, .int .i64 hg] W (BarsRet P (serN N 4) W) from fun W hW => bars_any NA2 5 nc2 SA2 3 sc2 (serN N 4) 5000000 H S hg W (serN_ok HNB.out) ((HR2.out.below HBF.out).below hW) HOK.out (fun l hl n hn => Int.le_trans (HMX.out.up l hl n hn) HLE.out) hhg1.1 (by omega) P hP)
  have HDR := Lib.hid (show ∀ W, Below (w4.alloc (.cells #[.int .i64 0, .int .i64 H, .int .i64 S] 64)).heap.size (w4.alloc (.cells #[.int .i64 0, .int .i64 H, .int .i64 S] 64)) W → ∀ w5 bv bl, BOwn w5 W.heap.size bv bl → Below W.heap.size W w5 → Hid (Dr w (G) N (.slice An nn cn) w2.heap.size NA2 nc2 SA2 sc2 bv bl w5) ∧ Hid (Below (w4.alloc (.cells #[.int .i64 0, .int .i64 H, .int .i64 S] 64)).heap.size (w4.alloc (.cells #[.int .i64 0, .int .i64 H, .int .i64 S] 64)) w5) from fun W hW w5 bv bl ho h5 => by
    have hb := hW.trans (h5.mono hW.size)
    exact ⟨Lib.hid ⟨(HS2.out.later HBE.out).later hb, HC2.out.later hb, (HR2.out.below HBF.out).below hb, RowOf.reads ho fun x => (bar_len x).1⟩, Lib.hid hb⟩)
  clear hhg hhg1 hP
  obtain ⟨k0, k1, k2, -, -, -⟩ := HC2.out.three
  go_cut [22, 23] (fun u22 u23 wx => u23 = .int .i64 0 ∧ ∃ bl, Hid (Dr w (G) N (.slice An nn cn) w2.heap.size NA2 nc2 SA2 sc2 u22 bl wx) ∧ Hid (BarsAt P (serN N 4) bl 5) ∧ Hid (Below (w4.alloc (.cells #[.int .i64 0, .int .i64 H, .int .i64 S] 64)).heap.size (w4.alloc (.cells #[.int .i64 0, .int .i64 H, .int .i64 S] 64)) wx))
  case first =>
    go_region_law (first
      | (go_simp; go_at_call 14; (with_reducible refine (HM2.out _).mono ?_); rintro e w9 ⟨rfl, rfl⟩)
      | (go_simp; go_at_call 18; (with_reducible refine (HBA.out _ (by first | exact Below.refl _ _ | exact Below.drew (Below.refl _ _))).mono ?_); rintro e w5 ⟨bv, bl, rfl, hba, how, hb5⟩; have HBA2 := Lib.hid (show BarsAt P (serN N 4) bl 5 from by rw [HPP.out] at hba; rw [HPP.out]; exact hba); have HD5 := HDR.out _ (by first | exact Below.refl _ _ | exact Below.drew (Below.refl _ _)) _ _ _ how hb5; clear hba how hb5))
    all_goals
      go_wp2_with fail
      go_meet
      exact ⟨rfl, bl, HD5.1, HBA2, HD5.2⟩
  case rest =>
    obtain ⟨rfl, bl, HD, HBT, HB5⟩ := hcut
    obtain ⟨s0, s1, s2, -, -, -⟩ := ((Blk.new w4 64 #[.int .i64 0, .int .i64 H, .int .i64 S]).later HB5.out).three
    have HOK2 := Lib.hid (show 0 < P.hi ∧ 0 ≤ P.hgt from by rw [HPP.out]; exact ⟨HOK.out.h0, by have := HHG.out; dsimp only; omega⟩)
    go_step
    exact charts25 HNB HE HD HBT HOK2 HLE s0 s1
end Go.Proofs.YtigeipjkcidleaaGreatDoor
