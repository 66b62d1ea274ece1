/- TopCharts: the walk over its bars. -/
import Derived.Test.YtigeipjkcidleaaGreatDoorTcX
namespace Go.Proofs.YtigeipjkcidleaaGreatDoor
open Go.RowKit

noncomputable def rest25 : Code := ((Tryz.f4.body.bind (contAt 25)).getD .skip)
set_option maxRecDepth 100000 in
set_option maxHeartbeats 40000000 in
theorem charts25 {u0 u1 u2 u3 u4 u5 u6 u7 u8 u9 u12 u13 u14 u24 u25 u26 u27 u28 u29 u30 u31 u32 u33 u34 u35 u36 u37 u38 u39 u40 u41 u42 u43 u44 u45 u46 u47 u48 u49 u50 u51 u52 u53 u54 u55 u56 u57 u58 u59 u60 u61 u62 u63 u64 u65 u66 u67 u68 u69 u70 u71 u72 u73 u74 u75 u76 u77 u78 u79 u80 u81 u82 u83 u84 u85 u86 u87 u88 u89 u90 u91 u92 u93 u94 u95 u96 u97 u98 u99 u100 u101 u102 u103 u104 u105 u106 u107 u108 u109 u110 u111 u112 u113 u114 u115 u116 u117 u118 u119 u120 u121 u122 u123 u124 u125 u126 u127 u128 u129 u130 u131 u132 u133 u134 u135 u136 u137 u138 u139 u140 u141 u142 u143 u144 u145 u146 u147 u148 u149 u150 u151 u152 u153 u154 u155 u156 u157 u158 u159 u160 u161 u162 u163 u164 u165 u166 u167 u168 u169 u170 u171 u172 u173 u174 u175 u176 u177 u178 u179 u180 u181 u182 u183 u184 u185 u186 u187 u188 u189 u190 u191 u192 u193 u194 u195 u196 u197 u198 u199 u200 u201 u202 u203 u204 u205 u206 u207 u208 u209 u210 u211 u212 u213 u214 u215 u216 u217 u218 u219 u220 u221 u222 u223 u224 u225 u226 u227 u228 u229 u230 u231 u232 u233 u234 u235 u236 u237 u238 u239 u240 u241 u242 u243 u244 u245 u246 u247 u248 u249 u250 u251 u252 u253 u254 u255 u256 u257 u258 u259 u260 u261 u262 u263 u264 u265 u266 u267 u268 u269 u270 u271 u272 u273 u274 u275 u276 u277 u278 u279 u280 u281 u282 u283 u284 u285 u286 u287 u288 u289 u290 u291 u292 u293 u294 u295 u296 u297 u298 u299 u300 u301 u302 u303 u304 u305 u306 u307 u308 u309 : Value} {w wr : World} {N : Nat → Nat → Nat} {G c ks : Nat} {An NA2 SA2 : Option Addr} {nn cn nc2 sc2 : Nat} {bv : Value} {bl : List Bar} {P : MkP} {hi H : Int} (HNB : Hid (∀ i k, N i k ≤ 5000)) (HE : Hid (VEnv w)) (HD : Hid (Dr w G N (.slice An nn cn) c NA2 nc2 SA2 sc2 bv bl wr)) (HBT : Hid (BarsAt P (serN N 4) bl 5)) (HOK2 : Hid (0 < P.hi ∧ 0 ≤ P.hgt)) (HLE : Hid (hi ≤ H)) (s0 : wr.cell? ⟨ks, 0, none⟩ = some (.int .i64 0)) (s1 : wr.cell? ⟨ks, 1, none⟩ = some (.int .i64 H)) :
    Code.wp Tryz.prog rest25 (bodyPost Tryz.prog Tryz.f4 fun e w' => e = .returned (.bool true) ∧ Below w.heap.size w w') ⟨#[u0, u1, u2, u3, u4, u5, u6, u7, u8, u9, .pointer (some ⟨G, 0, none⟩), .pointer (some ⟨G + 1, 0, none⟩), u12, u13, u14, .pointer (some ⟨c, 0, none⟩), .int .i64 0, .int .i64 0, .int .i64 hi, .int .i64 0, .pointer (some ⟨ks, 0, none⟩), .int .i64 0, bv, .int .i64 0, u24, u25, u26, u27, u28, u29, u30, u31, u32, u33, u34, u35, u36, u37, u38, u39, u40, u41, u42, u43, u44, u45, u46, u47, u48, u49, u50, u51, u52, u53, u54, u55, u56, u57, u58, u59, u60, u61, u62, u63, u64, u65, u66, u67, u68, u69, u70, u71, u72, u73, u74, u75, u76, u77, u78, u79, u80, u81, u82, u83, u84, u85, u86, u87, u88, u89, u90, u91, u92, u93, u94, u95, u96, u97, u98, u99, u100, u101, u102, u103, u104, u105, u106, u107, u108, u109, u110, u111, u112, u113, u114, u115, u116, u117, u118, u119, u120, u121, u122, u123, u124, u125, u126, u127, u128, u129, u130, u131, u132, u133, u134, u135, u136, u137, u138, u139, u140, u141, u142, u143, u144, u145, u146, u147, u148, u149, u150, u151, u152, u153, u154, u155, u156, u157, u158, u159, u160, u161, u162, u163, u164, u165, u166, u167, u168, u169, u170, u171, u172, u173, u174, u175, u176, u177, u178, u179, u180, u181, u182, u183, u184, u185, u186, u187, u188, u189, u190, u191, u192, u193, u194, u195, u196, u197, u198, u199, u200, u201, u202, u203, u204, u205, u206, u207, u208, u209, u210, u211, u212, u213, u214, u215, u216, u217, u218, u219, u220, u221, u222, u223, u224, u225, u226, u227, u228, u229, u230, u231, u232, u233, u234, u235, u236, u237, u238, u239, u240, u241, u242, u243, u244, u245, u246, u247, u248, u249, u250, u251, u252, u253, u254, u255, u256, u257, u258, u259, u260, u261, u262, u263, u264, u265, u266, u267, u268, u269, u270, u271, u272, u273, u274, u275, u276, u277, u278, u279, u280, u281, u282, u283, u284, u285, u286, u287, u288, u289, u290, u291, u292, u293, u294, u295, u296, u297, u298, u299, u300, u301, u302, u303, u304, u305, u306, u307, u308, u309], []⟩ wr := by
  conv => arg 2; whnf
  conv => arg 4; zeta
  have hl15 := (bar_at HBT.out).1
  obtain ⟨bA, bk, rfl, hbr⟩ := HD.out.bar
  rw [hl15] at HD ⊢
  obtain ⟨pb, po, rfl, -⟩ := hbr (by omega)
  clear hbr hl15
  have hHhi : ¬ H < hi := by have := HLE.out; omega
  obtain ⟨cb, co, rfl, -⟩ := HD.out.at
  go_upto_region 25 with fail
  go_cut [180] (fun u180 wx => u180 = .bool false ∧ wx = wr)
  case first =>
    go_wp2_with fail
    go_meet
    exact ⟨rfl, rfl⟩
  case rest =>
    obtain ⟨rfl, rfl⟩ := hcut
    clear s0 s1 hHhi HLE
    go_upto_block 4 with fail
    go_cut [183] (fun _ wx => Hid (Dr w G N (.slice An nn cn) c NA2 nc2 (some ⟨cb, co, none⟩) sc2 (.slice (some ⟨pb, po, none⟩) 15 bk) bl wx))
    case first =>
      go_wp2_with fail
      go_loopw [183] (fun u wr => ∃ n : Nat, n ≤ 15 ∧ u = .int .i64 n ∧ Hid (Dr w (G) N (.slice An nn cn) c NA2 nc2 (some ⟨cb, co, none⟩) sc2 (.slice (some ⟨pb, po, none⟩) 15 bk) bl wr)) (fun u _ => 15 - (intOf u).toNat)
      case atStart => exact ⟨0, by decide, rfl, HD⟩
      case round =>
        clear HD
        obtain ⟨n, hn, rfl, HD⟩ := hrel
        by_cases hlt : n < 15
        · obtain ⟨s, u, x, y, wd, hh, hs, hu, hhv, g0, g1, g2, g3, g4, g5⟩ := HD.out.barf HBT.out n hlt
          have HHV := Lib.hid hhv
          clear hhv
          have HDa := Lib.hid (HD.out.later ((Below.refl wr.heap.size wr).alloc (Nat.le_refl _) (.cells #[.int .i64 (s : Int), .int .i64 (u : Int), .int .i64 x, .int .i64 y, .int .i64 wd, .int .i64 hh] 71)))
          obtain ⟨q0, q1, q2, -, -, -⟩ := HDa.out.ch.three
          obtain ⟨b2, o2, k2, r0, r1⟩ := HDa.out.atc s u hs hu
          have a0 := HDa.out.arr s u hs hu
          have hnn := HNB.out u s
          have HBK := Lib.hid (Blk.new wr 71 #[.int .i64 (s : Int), .int .i64 (u : Int), .int .i64 x, .int .i64 y, .int .i64 wd, .int .i64 hh])
          obtain ⟨nv, hnv⟩ : ∃ nv : Int, nv = (N u s : Int) := ⟨_, rfl⟩
          rw [← hnv] at r1 a0
          have hnv1 : 0 ≤ nv ∧ nv ≤ 5000 := by omega
          have z1 : IntKind.i64.wrap (1000 * nv) = 1000 * nv := IntWalk.i64_in _ (by omega)
          have HNV := Lib.hid hnv
          clear hnv hnn
          obtain ⟨wo, rfl⟩ : ∃ wo : World, wo = wr := ⟨_, rfl⟩
          go_upto_region 30 with fail
          go_quiet (fail)
          clear g0 g1 g2 g3 g4 g5 r0 r1
          go_wp2_with fail
          go_loopw [208] (fun v208 wr => ∃ n2 : Nat, n2 ≤ 15 ∧ v208 = .int .i64 n2 ∧ Hid (Dr w (G) N (.slice An nn cn) c NA2 nc2 (some ⟨cb, co, none⟩) sc2 (.slice (some ⟨pb, po, none⟩) 15 bk) bl wr) ∧ Hid (Blk wr wo.heap.size 71 #[.int .i64 (s : Int), .int .i64 (u : Int), .int .i64 x, .int .i64 y, .int .i64 wd, .int .i64 hh])) (fun u _ => 15 - (intOf u).toNat)
          case atStart => exact ⟨0, by decide, rfl, Lib.hid (HDa.out.drewN _), Lib.hid (HBK.out.drewN _)⟩
          case round =>
            clear HDa HBK HD a0 q0 q1 q2 z1
            obtain ⟨n2, hn2, rfl, HD, HBK⟩ := hrel
            by_cases hlt2 : n2 < 15
            · obtain ⟨s2, u2, x2, y2, wd2, hh2, hs2, hu2, hhv2, g0, g1, g2, g3, g4, g5⟩ := HD.out.barf HBT.out n2 hlt2
              have hb := (Below.refl wr.heap.size wr).alloc (Nat.le_refl _) (.cells #[.int .i64 (s2 : Int), .int .i64 (u2 : Int), .int .i64 x2, .int .i64 y2, .int .i64 wd2, .int .i64 hh2] 71)
              have HDa := Lib.hid (HD.out.later hb)
              have HBa := Lib.hid (HBK.out.later hb)
              have p0 := HBa.out.cell 0
              have p1 := HBa.out.cell 1
              have p5 := HBa.out.cell 5
              have a0 := HDa.out.arr s u hs hu
              have a2 := HDa.out.arr s2 u2 hs2 hu2
              obtain ⟨mv, hmv⟩ : ∃ mv : Int, mv = (N u2 s2 : Int) := ⟨_, rfl⟩
              rw [← HNV.out] at a0
              rw [← hmv] at a2
              have hord : mv < nv → ¬ hh < hh2 := fun h => by
                have := Tc.plc_mono (u := ((1000 * N u2 s2 : Nat) : Int)) (v := ((1000 * N u s : Nat) : Int)) (by have := HNV.out; omega) HOK2.out.1 HOK2.out.2
                rw [HHV.out, hhv2]
                omega
              clear hb hmv hhv2
              by_cases hc : mv < nv
              · have hc2 := hord hc
                clear hord
                go_upto_region 35 with fail
                go_quiet (fail)
                clear g0 g1 g2 g3 g4 g5
                go_wp2_with fail
                go_roundw
                case rel => exact ⟨n2 + 1, by omega, by go_num, Lib.hid (HDa.out.drewN _), Lib.hid (HBa.out.drewN _)⟩
                case measure => simp [intOf]; omega
              · clear hord
                go_upto_region 35 with fail
                go_quiet (fail)
                clear g0 g1 g2 g3 g4 g5
                go_wp2_with fail
                go_roundw
                case rel => exact ⟨n2 + 1, by omega, by go_num, Lib.hid (HDa.out.drewN _), Lib.hid (HBa.out.drewN _)⟩
                case measure => simp [intOf]; omega
            · obtain rfl : n2 = 15 := by omega
              clear HBK
              go_wp2_with fail
              go_roundw
              case rel => exact ⟨n + 1, by omega, by go_num, HD⟩
              case measure => simp [intOf]; omega
        · obtain rfl : n = 15 := by omega
          go_wp2_with fail
          go_meet
          exact HD
    case rest =>
      have HSH := Lib.hid hcut.out.sh
      go_step
      exact charts39 HNB HE HSH
end Go.Proofs.YtigeipjkcidleaaGreatDoor
