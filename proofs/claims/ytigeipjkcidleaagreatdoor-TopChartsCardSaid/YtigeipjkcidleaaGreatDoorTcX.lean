/- TopCharts: the end of the walk: the round chart, its sectors and shares. -/
import Derived.Test.YtigeipjkcidleaaGreatDoorTdE
import Derived.Test.YtigeipjkcidleaaGreatDoorTdB
import Derived.Deep.RegionLaw
import Derived.Deep.Cut
import Derived.Deep.CutBlock
namespace Go.Proofs.YtigeipjkcidleaaGreatDoor
open Go.RowKit

theorem ofret_of {kind : Int} {F : Nat → Nat → Nat} {H Wd : Nat} {w w' : World} {e : Ending} (h : OfRet kind F H Wd w e w') : ∃ (NA : Option Addr) (nc : Nat) (SA : Option Addr) (sc : Nat), e = .returned (.tuple #[.agg #[.int .i64 kind, .slice NA (H - 1) nc, .slice SA (Wd - 1) sc], .int .i64 0]) ∧ Rows2 w' (.slice SA (Wd - 1) sc) ((serL F H Wd).map fun l => l.map fun (x : Nat) => (x : Int)) ∧ Below w.heap.size w w' := h
/-- Whether a code begins with region n. -/
def regIs (n : Nat) : Code → Bool
  | .region m _ _ => Nat.beq m n
  | .seq a _ => regIs n a
  | .block _ c => regIs n c
  | _ => false
/-- What follows from region n on. -/
def contAt (n : Nat) : Code → Option Code
  | .seq a b => match regIs n b with
    | true => some b
    | false => match contAt n a with
      | some c => some c
      | none => contAt n b
  | .block _ c => contAt n c
  | .loop c => contAt n c
  | _ => none
noncomputable def rest39 : Code := ((Tryz.f4.body.bind (contAt 39)).getD .skip)
set_option maxRecDepth 100000 in
set_option maxHeartbeats 40000000 in
theorem charts39 {u0 u1 u2 u3 u4 u5 u6 u7 u8 u9 u12 u13 u14 u15 u16 u17 u18 u19 u20 u21 u22 u23 u24 u25 u26 u27 u28 u29 u30 u31 u32 u33 u34 u35 u36 u37 u38 u39 u40 u41 u42 u43 u44 u45 u46 u47 u48 u49 u50 u51 u52 u53 u54 u55 u56 u57 u58 u59 u60 u61 u62 u63 u64 u65 u66 u67 u68 u69 u70 u71 u72 u73 u74 u75 u76 u77 u78 u79 u80 u81 u82 u83 u84 u85 u86 u87 u88 u89 u90 u91 u92 u93 u94 u95 u96 u97 u98 u99 u100 u101 u102 u103 u104 u105 u106 u107 u108 u109 u110 u111 u112 u113 u114 u115 u116 u117 u118 u119 u120 u121 u122 u123 u124 u125 u126 u127 u128 u129 u130 u131 u132 u133 u134 u135 u136 u137 u138 u139 u140 u141 u142 u143 u144 u145 u146 u147 u148 u149 u150 u151 u152 u153 u154 u155 u156 u157 u158 u159 u160 u161 u162 u163 u164 u165 u166 u167 u168 u169 u170 u171 u172 u173 u174 u175 u176 u177 u178 u179 u180 u181 u182 u183 u184 u185 u186 u187 u188 u189 u190 u191 u192 u193 u194 u195 u196 u197 u198 u199 u200 u201 u202 u203 u204 u205 u206 u207 u208 u209 u210 u211 u212 u213 u214 u215 u216 u217 u218 u219 u220 u221 u222 u223 u224 u225 u226 u227 u228 u229 u230 u231 u232 u233 u234 u235 u236 u237 u238 u239 u240 u241 u242 u243 u244 u245 u246 u247 u248 u249 u250 u251 u252 u253 u254 u255 u256 u257 u258 u259 u260 u261 u262 u263 u264 u265 u266 u267 u268 u269 u270 u271 u272 u273 u274 u275 u276 u277 u278 u279 u280 u281 u282 u283 u284 u285 u286 u287 u288 u289 u290 u291 u292 u293 u294 u295 u296 u297 u298 u299 u300 u301 u302 u303 u304 u305 u306 u307 u308 u309 : Value} {w wr : World} {N : Nat → Nat → Nat} {G : Nat} {An : Option Addr} {nn cn : Nat} (HNB : Hid (∀ i k, N i k ≤ 5000)) (HE : Hid (VEnv w)) (HSH : Hid (Sh w G N 15 15 (.slice An nn cn) wr)) :
    Code.wp Tryz.prog rest39 (bodyPost Tryz.prog Tryz.f4 fun e w' => e = .returned (.bool true) ∧ Below w.heap.size w w') ⟨#[u0, u1, u2, u3, u4, u5, u6, u7, u8, u9, .pointer (some ⟨G, 0, none⟩), .pointer (some ⟨G + 1, 0, none⟩), u12, u13, u14, u15, u16, u17, u18, u19, u20, u21, u22, u23, u24, u25, u26, u27, u28, u29, u30, u31, u32, u33, u34, u35, u36, u37, u38, u39, u40, u41, u42, u43, u44, u45, u46, u47, u48, u49, u50, u51, u52, u53, u54, u55, u56, u57, u58, u59, u60, u61, u62, u63, u64, u65, u66, u67, u68, u69, u70, u71, u72, u73, u74, u75, u76, u77, u78, u79, u80, u81, u82, u83, u84, u85, u86, u87, u88, u89, u90, u91, u92, u93, u94, u95, u96, u97, u98, u99, u100, u101, u102, u103, u104, u105, u106, u107, u108, u109, u110, u111, u112, u113, u114, u115, u116, u117, u118, u119, u120, u121, u122, u123, u124, u125, u126, u127, u128, u129, u130, u131, u132, u133, u134, u135, u136, u137, u138, u139, u140, u141, u142, u143, u144, u145, u146, u147, u148, u149, u150, u151, u152, u153, u154, u155, u156, u157, u158, u159, u160, u161, u162, u163, u164, u165, u166, u167, u168, u169, u170, u171, u172, u173, u174, u175, u176, u177, u178, u179, u180, u181, u182, u183, u184, u185, u186, u187, u188, u189, u190, u191, u192, u193, u194, u195, u196, u197, u198, u199, u200, u201, u202, u203, u204, u205, u206, u207, u208, u209, u210, u211, u212, u213, u214, u215, u216, u217, u218, u219, u220, u221, u222, u223, u224, u225, u226, u227, u228, u229, u230, u231, u232, u233, u234, u235, u236, u237, u238, u239, u240, u241, u242, u243, u244, u245, u246, u247, u248, u249, u250, u251, u252, u253, u254, u255, u256, u257, u258, u259, u260, u261, u262, u263, u264, u265, u266, u267, u268, u269, u270, u271, u272, u273, u274, u275, u276, u277, u278, u279, u280, u281, u282, u283, u284, u285, u286, u287, u288, u289, u290, u291, u292, u293, u294, u295, u296, u297, u298, u299, u300, u301, u302, u303, u304, u305, u306, u307, u308, u309], []⟩ wr := by
  conv => arg 2; whnf
  conv => arg 4; zeta
  have HOF := Lib.hid (show Calls Tryz.prog 12 #[.agg #[.int .i64 0, .string ⟨#[]⟩, .int .i64 6, .int .i64 4, .slice An nn cn], .agg #[.int .i64 0, .int .i64 0, .int .i64 6, .int .i64 2], .int .i64 3] wr (OfRet 3 (fTh N) 6 2 wr) from of_sheet HNB.out HSH.out (HE.out.below HSH.out.loc.bel) 3 2 (.inr ⟨rfl, rfl⟩))
  have c0 := HSH.out.sheet.cell 0
  have c1 := HSH.out.sheet.cell 1
  have c2 := HSH.out.sheet.cell 2
  have c3 := HSH.out.sheet.cell 3
  have c4 := HSH.out.sheet.cell 4
  go_upto_region 40 with (go_at_call 12; (with_reducible refine HOF.out.mono ?_); rintro e w5 hof; obtain ⟨NA5, nc5, SA5, sc5, rfl, hr5, hb5⟩ := ofret_of hof; have HR5 := Lib.hid (show Rows2 w5 (.slice SA5 1 sc5) [ser1 N] from by rw [← serN_one]; exact hr5); have HB5 := Lib.hid hb5; clear hof hr5 hb5)
  clear c0 c1 c2 c3 c4 HOF
  have HA5 := Lib.hid ((Below.refl w5.heap.size w5).alloc (Nat.le_refl _) (.cells #[.int .i64 3, .slice NA5 5 nc5, .slice SA5 1 sc5] 51))
  have HSE := Lib.hid (sectors_any NA5 5 nc5 SA5 1 sc5 (ser1 N) 5000000 _ (by have := serN_ok3 HNB.out; rw [serN_one] at this; exact this) (HR5.out.below HA5.out))
  go_upto_region 41 with (go_at_call 19; (with_reducible refine HSE.out.mono ?_); rintro e w6 hse; obtain ⟨sg, sk, z, rfl, hsg, hz, hzv, hb6⟩ := secret_of hse; have HSG := Lib.hid hsg; have HZ := Lib.hid hz; have HZV := Lib.hid hzv; have HB6 := Lib.hid hb6; clear hse hsg hz hzv hb6)
  clear HSE
  have HC5 := Lib.hid ((Blk.new w5 51 #[.int .i64 3, .slice NA5 5 nc5, .slice SA5 1 sc5]).later HB6.out)
  obtain ⟨k0, k1, k2, -, -, -⟩ := HC5.out.three
  have hb56 : Below w5.heap.size w5 w6 := HA5.out.trans (HB6.out.mono HA5.out.size)
  obtain ⟨b5, o5, rfl, -, hrr⟩ := (HR5.out.below hb56).get.2 (by decide)
  obtain ⟨B5, m5, kk5, d0, hrd⟩ := hrr 0 (by simp)
  have d0 : w6.cell? ⟨b5, o5, none⟩ = some (.slice B5 m5 kk5) := d0
  have hm5 : m5 = 5 := by
    have := hrd.one.1
    simp only [List.getElem_cons_zero, ser1_len] at this
    omega
  subst hm5
  have HSR := Lib.hid (shares_any B5 5 kk5 (ser1 N) w6 hrd (by decide) (by decide) (fun x hx => by
    have := serN_rg HNB.out 2 (ser1 N) (by rw [serN_one]; simp) x hx
    omega))
  have HBA := Lib.hid (show Below w.heap.size w w6 from HSH.out.loc.bel.trans ((HB5.out.trans (hb56.mono HB5.out.size)).mono HSH.out.loc.bel.size))
  have HB36 := Lib.hid (show Below wr.heap.size wr w6 from HB5.out.trans (hb56.mono HB5.out.size))
  clear hb56 hrr hrd
  go_upto_region 44 with (go_at_call 20; (with_reducible refine HSR.out.mono ?_); rintro e w7 hsr; obtain ⟨hg7, hk7, o, rfl, hgl, hol, hos, hoc, hb7⟩ := shret_of hsr; have HGL := Lib.hid hgl; have HOL := Lib.hid hol; have HOS := Lib.hid hos; have HOC := Lib.hid hoc; have HB7 := Lib.hid hb7; clear hsr hgl hol hos hoc hb7)
  clear HSR k0 k1 k2 d0
  have HSH7 := Lib.hid (show Blk w7 (G + 1) 58 (arrC N 15) from ((HSH.out.arr.later HB36.out).later HB7.out))
  have HZ7 := Lib.hid (show w7.cell? ⟨sg, 14, none⟩ = some (.int .i64 z) from (HB7.out.cell (p := ⟨sg, 14, none⟩) HSG.out).trans HZ.out)
  have HW7 := Lib.hid (show Below w.heap.size w w7 from HBA.out.trans (HB7.out.mono HBA.out.size))
  have HSG7 := Lib.hid (show sg < w7.heap.size from Nat.lt_of_lt_of_le HSG.out HB7.out.size)
  clear HZ HBA HB36 HB7 HSH HB5 HB6 HC5 HA5 HSG
  go_upto_region 47 with fail
  go_wp2_with fail
  go_loopw [31, 32, 275] (fun u31 u32 u275 wr => ∃ i : Nat, i ≤ 5 ∧ u31 = .int .i64 (Tc.sN (o.take i) : Nat) ∧ u32 = .int .i64 (colS N i : Nat) ∧ u275 = .int .i64 i ∧ Hid (Below w7.heap.size w7 wr)) (fun _ _ u _ => 5 - (intOf u).toNat)
  case atStart => exact ⟨0, by decide, by simp [Tc.sN], by simp [colS], rfl, Lib.hid (Below.refl _ _)⟩
  case round =>
    obtain ⟨i, hi, rfl, rfl, rfl, HB⟩ := hrel
    by_cases hlt : i < 5
    · have hio : i < o.length := by rw [HOL.out]; exact hlt
      have g0 : wr.cell? ⟨hg7, i, none⟩ = some (.int .i64 (o[i] : Int)) := (HB.out.cell (p := ⟨hg7, i, none⟩) HGL.out).trans (HOC.out i hio)
      have a0 : wr.cell? ⟨G + 1, i, none⟩ = some (.int .i64 (N i 0 : Int)) := by
        have := ((HSH7.out.later HB.out).cell (0 * 5 + i)).trans (arrC_get N 15 (0 * 5 + i) (by omega))
        rw [arrN_full N i 0 hlt (by decide)] at this
        simpa using this
      have s1 := sN_take_succ o i hio
      have s2 := sN_take_le o (i + 1)
      have s3 : Tc.sN o ≤ 1000 := by rw [HOS.out]; split <;> decide
      have s4 := colS_le HNB.out i
      have s5 := HNB.out i 0
      have s6 : colS N (i + 1) = colS N i + N i 0 := rfl
      obtain ⟨ov, hov⟩ : ∃ ov, ov = o[i] := ⟨_, rfl⟩
      rw [← hov] at g0 s1
      obtain ⟨xa, hxa⟩ : ∃ x : Nat, x = Tc.sN (o.take i) := ⟨_, rfl⟩
      obtain ⟨xb, hxb⟩ : ∃ x : Nat, x = colS N i := ⟨_, rfl⟩
      obtain ⟨xn, hxn⟩ : ∃ x : Nat, x = N i 0 := ⟨_, rfl⟩
      rw [← hxn] at a0 s5 s6
      rw [← hxb] at s4 s6 ⊢
      rw [← hxa] at s1 ⊢
      have z1 : IntKind.i64.wrap ((xa : Int) + ov) = (xa : Int) + ov := IntWalk.i64_in _ (by omega)
      have z2 : IntKind.i64.wrap ((xb : Int) + xn) = (xb : Int) + xn := IntWalk.i64_in _ (by omega)
      have H1 := Lib.hid (show (Value.int .i64 ((xa : Int) + ov)) = .int .i64 (Tc.sN (o.take (i + 1)) : Nat) from by rw [s1]; rfl)
      have H2 := Lib.hid (show (Value.int .i64 ((xb : Int) + xn)) = .int .i64 (colS N (i + 1) : Nat) from by rw [s6]; rfl)
      clear s1 s2 s3 s4 s5 s6 hov hxa hxb hxn
      go_upto_region 50 with fail
      go_quiet (fail)
      go_wp2_with fail
      go_roundw
      case rel => exact ⟨i + 1, by omega, H1.out, H2.out, by go_num, Lib.hid (bdn HB.out _)⟩
      case measure => simp [intOf]; omega
    · obtain rfl : i = 5 := by omega
      have e1 : o.take 5 = o := List.take_of_length_le (by rw [HOL.out]; exact Nat.le_refl _)
      have hzc : wr.cell? ⟨sg, 14, none⟩ = some (.int .i64 z) := (HB.out.cell (p := ⟨sg, 14, none⟩) HSG7.out).trans HZ7.out
      have HEND := Lib.hid (show Below w.heap.size w wr from HW7.out.trans (HB.out.mono HW7.out.size))
      rw [e1, HOS.out, colS_all]
      have hzv := HZV.out
      rw [colS_all] at hzv
      clear e1 HB
      generalize colS N 5 = T at *
      by_cases hT : T = 0
      · subst hT
        obtain rfl : z = 0 := by rw [hzv]; decide
        clear hzv
        simp only [Nat.mul_zero, if_true, Int.cast_ofNat_Int]
        go_wp2_with fail
        go_ret
        exact ⟨rfl, HEND.out⟩
      · obtain rfl : z = 3600 := by rw [hzv, if_pos (by omega)]
        clear hzv
        have hT2 : ¬ ((1000 * T : Nat) : Int) = 0 := by omega
        have hT3 : ((T : Int) == 0) = false := by rw [beq_eq_false_iff_ne]; omega
        rw [if_neg hT2]
        go_wp2_with fail
        go_ret
        exact ⟨rfl, HEND.out⟩
end Go.Proofs.YtigeipjkcidleaaGreatDoor
