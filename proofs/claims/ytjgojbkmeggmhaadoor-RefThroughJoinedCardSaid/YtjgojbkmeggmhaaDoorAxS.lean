/- RefThroughJoined's walk. -/
import Derived.Test.YtjgojbkmeggmhaaDoorAxN
import Derived.Test.YtjgojbkmeggmhaaDoorAxO
import Derived.Test.YtjgojbkmeggmhaaDoorAxK
import Derived.Test.YtjgojbkmeggmhaaDoorAxL
import Derived.Test.YtjgojbkmeggmhaaDoorCrW
namespace Go.Proofs.YtjgojbkmeggmhaaDoor
open Go.RowKit

theorem len_check {l : List Ax.Step} (h : Ax.check l = 0) : l.length ≤ 4294967294 := by
  obtain ⟨h1, -, h3, h4⟩ := Ax.ck_zero l _ _ _ h
  have := Ax.len_sum h1
  omega
theorem max5 (x y z u v : Int) : ∃ m : Int, (m = x ∨ m = y ∨ m = z ∨ m = u ∨ m = v) ∧ (x ≤ m ∧ y ≤ m ∧ z ≤ m ∧ u ≤ m ∧ v ≤ m) ∧ ∀ ts t W, (Builtin.max_ ts t #[.int .i64 x, .int .i64 y, .int .i64 z, .int .i64 u, .int .i64 v]).run Tryd.prog W = .ok (.int .i64 m) W := by
  refine ⟨if v > (if u > (if z > (if y > x then y else x) then z else (if y > x then y else x)) then u else (if z > (if y > x then y else x) then z else (if y > x then y else x))) then v else (if u > (if z > (if y > x then y else x) then z else (if y > x then y else x)) then u else (if z > (if y > x then y else x) then z else (if y > x then y else x))), ?_, ?_, fun ts t W => ?_⟩
  · repeat' split
    all_goals omega
  · refine ⟨?_, ?_, ?_, ?_, ?_⟩ <;> (repeat' split) <;> omega
  · simp [Builtin.max_, Builtin.max2]

set_option maxRecDepth 100000 in
set_option maxHeartbeats 8000000 in
theorem joined_any (r : Ref) (va vb : Value) (a b : List Ax.Step) (w : World) (he : Env w) (hs : r.sheet.size ≤ maxLen) (ha : Steps w va a) (hb : Steps w vb b) (hlA : a.length ≤ maxLen) (hlB : b.length ≤ maxLen) :
    Calls Tryd.prog 6 #[r.v, va, vb] w fun e w' => e = .returned (.bool true) ∧ Below w.heap.size w w' := by
  obtain ⟨A0, c0', rfl⟩ := ha.shape
  obtain ⟨A1, c1', rfl⟩ := hb.shape
  have HSA := Lib.hid ha
  have HSB := Lib.hid hb
  have hC := fun W => check_any r W hs
  have HR := Lib.hid (refs_any (w.alloc (.cells r.cs 40)) (he.below ((Below.refl _ _).alloc (Nat.le_refl _) _)))
  have HJ := Lib.hid fun W (hW : Below w.heap.size w W) => axis_join W _ _ a b (ha.below hW) (hb.below hW) hlA hlB
  have hbk := Blk.new w 40 r.cs
  have HBK := Lib.hid hbk
  clear ha hb he hbk hlA hlB
  obtain ⟨sh, k, ro, co, ro2, co2, ar, ac, ar2, ac2⟩ := r
  go_enter Tryd.func6, Tryd.ntmps6
  go_wp2_with (go_at_call 13; refine HR.out.mono ?_; rintro e w1 ⟨rfl, hw⟩; have HB1 := Lib.hid (((Below.refl w.heap.size w).alloc (Nat.le_refl _) _).trans (hw.mono (by simp))); have HK1 := Lib.hid (HBK.out.later hw); clear hw)
  refine (HJ.out _ HB1.out).mono ?_
  rintro e w2 ⟨v, q, rfl, hw, hq⟩
  have HB2 := Lib.hid (HB1.out.trans (hw.mono HB1.out.size))
  have HK2 := Lib.hid (HK1.out.later hw)
  have HQ := Lib.hid hq
  clear hw hq
  by_cases hz : q = 0
  case neg =>
    have hzb : ((q : Int) != 0) = true := by rw [bne_iff_ne]; exact hz
    clear hC
    go_wp2_with fail
    go_ret
    exact ⟨rfl, HB2.out⟩
  case pos =>
  subst hz
  obtain ⟨ca, cb, hab, lc, hlc, hcc, hce⟩ := HQ.out rfl
  have hla := len_check ca
  have hlb := len_check cb
  obtain ⟨A2, c2', rfl⟩ := hlc.shape
  have HLC := Lib.hid hlc
  have HC := Lib.hid hC
  have HAB := Lib.hid hab
  have HCE := Lib.hid hce
  clear hab hce
  obtain ⟨x0, x1, x2, x3, x4, x5, x6, x7, x8, x9⟩ := HK2.out.ten
  clear hlc hC HQ HJ HR
  by_cases hr : Ref.check ⟨sh, k, ro, co, ro2, co2, ar, ac, ar2, ac2⟩ = 0
  case neg =>
    have hne : (Ref.check ⟨sh, k, ro, co, ro2, co2, ar, ac, ar2, ac2⟩ != 0) = true := by simpa using hr
    generalize Ref.check ⟨sh, k, ro, co, ro2, co2, ar, ac, ar2, ac2⟩ = E at *
    clear hr
    go_wp2_with (go_at_call 15; refine (HC.out _).mono ?_; rintro e w3 ⟨rfl, hw⟩; have HB3 := Lib.hid (HB2.out.trans (hw.mono HB2.out.size)); clear hw)
    go_ret
    exact ⟨rfl, HB3.out⟩
  case pos =>
  have HC0 := Lib.hid (show ∀ W, Calls Tryd.prog 15 #[.agg #[.string sh, .int .i64 k, .int .i64 ro, .int .i64 co, .int .i64 ro2, .int .i64 co2, .bool ar, .bool ac, .bool ar2, .bool ac2]] W fun e w' => e = .returned (.int .i64 0) ∧ Below W.heap.size W w' from fun W => by rw [← hr]; exact HC.out W)
  have HLA := Lib.hid fun W (hW : Below w.heap.size w W) => axis_Lengths W _ a (HSA.out.below hW) (by omega) ca
  have HLB := Lib.hid fun W (hW : Below w.heap.size w W) => axis_Lengths W _ b (HSB.out.below hW) (by omega) cb
  clear HC
  go_upto_region 8 with (first
    | (go_at_call 15; refine (HC0.out _).mono ?_; rintro e w3 ⟨rfl, hw⟩; have HB3 := Lib.hid (HB2.out.trans (hw.mono HB2.out.size)); have HK3 := Lib.hid (HK2.out.later hw); have HL3 := Lib.hid (HLC.out.below hw); clear hw)
    | (go_at_call 16; first | ((with_reducible refine (HLA.out _ HB3.out).mono ?_); rintro e w4 ⟨rfl, hw⟩; have HB4 := Lib.hid (HB3.out.trans (hw.mono HB3.out.size)); have HK4 := Lib.hid (HK3.out.later hw); have HL4 := Lib.hid (HL3.out.below hw); clear hw) | ((with_reducible refine (HLB.out _ HB4.out).mono ?_); rintro e w5 ⟨rfl, hw⟩; have HB5 := Lib.hid (HB4.out.trans (hw.mono HB4.out.size)); have HK5 := Lib.hid (HK4.out.later hw); have HL5 := Lib.hid (HL4.out.below hw); clear hw)))
  clear x0 x1 x2 x3 x4 x5 x6 x7 x8 x9
  obtain ⟨x0, x1, x2, x3, x4, x5, x6, x7, x8, x9⟩ := HK5.out.ten
  clear HB3 HK3 HL3 HB4 HK4 HL4 HLA HLB HC0 HB2 HK2
  by_cases hM : Ax.bef a ≤ 268435456 ∧ Ax.aft a ≤ 268435456 ∧ Ax.aft b ≤ 268435456 ∧ ro ≤ 268435456 ∧ ro2 ≤ 268435456
  case neg =>
    generalize Ax.bef a = y1 at *
    generalize Ax.aft a = y2 at *
    generalize Ax.aft b = y3 at *
    have hMn : 268435456 < y1 ∨ 268435456 < y2 ∨ 268435456 < y3 ∨ 268435456 < ro ∨ 268435456 < ro2 := by omega
    clear hM
    obtain ⟨m, -, hm2, hmx⟩ := max5 y1 y2 y3 ro ro2
    have hm : 268435456 < m := by omega
    clear hm2 hMn
    go_wp2_with fail
    go_ret
    exact ⟨rfl, HB5.out⟩
  case pos =>
  obtain ⟨m1, m2, m3, m4, m5⟩ := hM
  have hlow : Ref.low2 ⟨sh, k, ro, co, ro2, co2, ar, ac, ar2, ac2⟩ ≤ 268435456 := by unfold Ref.low2; dsimp only; split <;> omega
  have hS := thr_check hr ca (by omega)
  have hlc2 := len_check hcc
  have HT1 := Lib.hid fun W (hW : Below w.heap.size w W) => through_any ⟨sh, k, ro, co, ro2, co2, ar, ac, ar2, ac2⟩ W _ a hr (HSA.out.below hW) (by omega) ca
  have HT2 := Lib.hid fun W (hW : Below w.heap.size w W) => through_any (Ref.thr ⟨sh, k, ro, co, ro2, co2, ar, ac, ar2, ac2⟩ a) W _ b hS (HSB.out.below hW) (by omega) cb
  have HT3 := Lib.hid fun W (hL : Steps W (.slice A2 lc.length c2') lc) => through_any ⟨sh, k, ro, co, ro2, co2, ar, ac, ar2, ac2⟩ W _ lc hr hL (by omega) hcc
  have HKI := Lib.hid fun W kd (hW : Below w.heap.size w W) => kinds_any W _ a kd (HSA.out.below hW) (by omega)
  have hTU : k = 0 ∨ a.any (·.1 == 1) = false → (Ref.thr ⟨sh, k, ro, co, ro2, co2, ar, ac, ar2, ac2⟩ a).thr b = Ref.thr ⟨sh, k, ro, co, ro2, co2, ar, ac, ar2, ac2⟩ lc := fun hk => thr_join hr ca cb HAB.out hcc HCE.out m2 m3 m4 m5 (hk.imp id fun h0 s hs e => by
    have := List.any_eq_false.1 h0 s hs
    simp [e] at this)
  have hBK : a.any (·.1 == 2) = false → (∀ W v', Steps W v' (Ax.undo a) → Calls Tryd.prog 17 #[(Ref.thr ⟨sh, k, ro, co, ro2, co2, ar, ac, ar2, ac2⟩ a).v, v', .slice none 0 0] W fun e w' => e = .returned (.tuple #[Ref.v ⟨sh, k, ro, co, ro2, co2, ar, ac, ar2, ac2⟩, .int .i64 0]) ∧ Below W.heap.size W w') ∧ ∀ W, Below w.heap.size w W → Calls Tryd.prog 19 #[.slice A0 a.length c0'] W fun e w' => ∃ v', e = .returned (.tuple #[v', .int .i64 0]) ∧ Steps w' v' (Ax.undo a) ∧ Below W.heap.size W w' := fun h0 => by
    have hn : ∀ s ∈ a, s.1 ≠ 2 := fun s hs e => by
      have := List.any_eq_false.1 h0 s hs
      simp [e] at this
    refine ⟨fun W v' hv => ?_, fun W hW => undo_any W _ a (HSA.out.below hW) ca hn⟩
    have := through_any (Ref.thr ⟨sh, k, ro, co, ro2, co2, ar, ac, ar2, ac2⟩ a) W v' (Ax.undo a) hS hv (by simp [Ax.undo]; omega) (Ax.undo_check ca hn)
    rw [thr_back hr ca m2 m4 m5 hn] at this
    exact this
  have HTU := Lib.hid hTU
  have HBK := Lib.hid hBK
  clear hTU hBK hS ca cb hcc hlow hlc2 HAB HCE
  generalize Ref.thr ⟨sh, k, ro, co, ro2, co2, ar, ac, ar2, ac2⟩ lc = U at *
  generalize (Ref.thr ⟨sh, k, ro, co, ro2, co2, ar, ac, ar2, ac2⟩ a).thr b = T at *
  generalize Ref.thr ⟨sh, k, ro, co, ro2, co2, ar, ac, ar2, ac2⟩ a = S at *
  have HBK2 := HBK
  obtain ⟨ssh, sk, sro, sco, sro2, sco2, sar, sac, sar2, sac2⟩ := S
  obtain ⟨tsh, tk, tro, tco, tro2, tco2, tar, tac, tar2, tac2⟩ := T
  obtain ⟨ush, uk, uro, uco, uro2, uco2, uar, uac, uar2, uac2⟩ := U
  obtain ⟨m, hm1, -, hmx⟩ := max5 (Ax.bef a) (Ax.aft a) (Ax.aft b) ro ro2
  have hm : m ≤ 268435456 := by omega
  clear hm1
  go_upto_region 11 with (go_at_call 17; ((with_reducible refine (HT1.out _ HB5.out).mono ?_); rintro e w6 ⟨rfl, hw⟩; have HB6 := Lib.hid ((HB5.out.trans (hw.mono HB5.out.size)).alloc (by have := (HB5.out.trans (hw.mono HB5.out.size)).size; omega) (.cells #[.string ssh, .int .i64 sk, .int .i64 sro, .int .i64 sco, .int .i64 sro2, .int .i64 sco2, .bool sar, .bool sac, .bool sar2, .bool sac2] 40)); have HK6 := Lib.hid ((HK5.out.later hw).alloc (.cells #[.string ssh, .int .i64 sk, .int .i64 sro, .int .i64 sco, .int .i64 sro2, .int .i64 sco2, .bool sar, .bool sac, .bool sar2, .bool sac2] 40)); have HL6 := Lib.hid ((HL5.out.below hw).below ((Below.refl _ _).alloc (Nat.le_refl _) (.cells #[.string ssh, .int .i64 sk, .int .i64 sro, .int .i64 sco, .int .i64 sro2, .int .i64 sco2, .bool sar, .bool sac, .bool sar2, .bool sac2] 40))); have hs6 := Blk.new w6 40 #[.string ssh, .int .i64 sk, .int .i64 sro, .int .i64 sco, .int .i64 sro2, .int .i64 sco2, .bool sar, .bool sac, .bool sar2, .bool sac2]; have HS6 := Lib.hid hs6; clear hw x0 x1 x2 x3 x4 x5 x6 x7 x8 x9; obtain ⟨x0, x1, x2, x3, x4, x5, x6, x7, x8, x9⟩ := HK6.out.ten; obtain ⟨s0, s1, s2, s3, s4, s5, s6, s7, s8, s9⟩ := hs6.ten; clear hs6))
  go_upto_region 13 with (go_at_call 17; first | ((with_reducible refine (HT2.out _ HB6.out).mono ?_); rintro e w7 ⟨rfl, hw⟩; have hB := HB6.out.trans (hw.mono HB6.out.size); have HB7 := Lib.hid (hB.alloc hB.size (.cells #[.string tsh, .int .i64 tk, .int .i64 tro, .int .i64 tco, .int .i64 tro2, .int .i64 tco2, .bool tar, .bool tac, .bool tar2, .bool tac2] 40)); have HK7 := Lib.hid ((HK6.out.later hw).alloc (.cells #[.string tsh, .int .i64 tk, .int .i64 tro, .int .i64 tco, .int .i64 tro2, .int .i64 tco2, .bool tar, .bool tac, .bool tar2, .bool tac2] 40)); have HL7 := Lib.hid ((HL6.out.below hw).below ((Below.refl _ _).alloc (Nat.le_refl _) (.cells #[.string tsh, .int .i64 tk, .int .i64 tro, .int .i64 tco, .int .i64 tro2, .int .i64 tco2, .bool tar, .bool tac, .bool tar2, .bool tac2] 40))); have HS7 := Lib.hid ((HS6.out.later hw).alloc (.cells #[.string tsh, .int .i64 tk, .int .i64 tro, .int .i64 tco, .int .i64 tro2, .int .i64 tco2, .bool tar, .bool tac, .bool tar2, .bool tac2] 40)); have HV7 := Lib.hid (Blk.new w7 40 #[.string tsh, .int .i64 tk, .int .i64 tro, .int .i64 tco, .int .i64 tro2, .int .i64 tco2, .bool tar, .bool tac, .bool tar2, .bool tac2]); clear x0 x1 x2 x3 x4 x5 x6 x7 x8 x9 s0 s1 s2 s3 s4 s5 s6 s7 s8 s9; obtain ⟨x0, x1, x2, x3, x4, x5, x6, x7, x8, x9⟩ := HK7.out.ten; clear hw hB) | ((with_reducible refine (HT3.out _ HL7.out).mono ?_); rintro e w8 ⟨rfl, hw⟩; have hB := HB7.out.trans (hw.mono HB7.out.size); have HB8 := Lib.hid (hB.alloc hB.size (.cells #[.string ush, .int .i64 uk, .int .i64 uro, .int .i64 uco, .int .i64 uro2, .int .i64 uco2, .bool uar, .bool uac, .bool uar2, .bool uac2] 40)); have HK8 := Lib.hid ((HK7.out.later hw).alloc (.cells #[.string ush, .int .i64 uk, .int .i64 uro, .int .i64 uco, .int .i64 uro2, .int .i64 uco2, .bool uar, .bool uac, .bool uar2, .bool uac2] 40)); have HL8 := Lib.hid ((HL7.out.below hw).below ((Below.refl _ _).alloc (Nat.le_refl _) (.cells #[.string ush, .int .i64 uk, .int .i64 uro, .int .i64 uco, .int .i64 uro2, .int .i64 uco2, .bool uar, .bool uac, .bool uar2, .bool uac2] 40))); have HS8 := Lib.hid ((HS7.out.later hw).alloc (.cells #[.string ush, .int .i64 uk, .int .i64 uro, .int .i64 uco, .int .i64 uro2, .int .i64 uco2, .bool uar, .bool uac, .bool uar2, .bool uac2] 40)); have HV8 := Lib.hid ((HV7.out.later hw).alloc (.cells #[.string ush, .int .i64 uk, .int .i64 uro, .int .i64 uco, .int .i64 uro2, .int .i64 uco2, .bool uar, .bool uac, .bool uar2, .bool uac2] 40)); have HU8 := Lib.hid (Blk.new w8 40 #[.string ush, .int .i64 uk, .int .i64 uro, .int .i64 uco, .int .i64 uro2, .int .i64 uco2, .bool uar, .bool uac, .bool uar2, .bool uac2]); clear x0 x1 x2 x3 x4 x5 x6 x7 x8 x9; clear hw hB))
  clear HT1 HT2 HT3
  obtain ⟨x0, x1, x2, x3, x4, x5, x6, x7, x8, x9⟩ := HK8.out.ten
  obtain ⟨s0, s1, s2, s3, s4, s5, s6, s7, s8, s9⟩ := HS8.out.ten
  obtain ⟨t0, t1, t2, t3, t4, t5, t6, t7, t8, t9⟩ := HV8.out.ten
  obtain ⟨u0, u1, u2, u3, u4, u5, u6, u7, u8, u9⟩ := HU8.out.ten
  by_cases hk0 : k = 0
  · have hkz : ((k : Int) == 0) = true := by rw [beq_iff_eq]; exact hk0
    have hneq := fun W => ref_neq ⟨tsh, tk, tro, tco, tro2, tco2, tar, tac, tar2, tac2⟩ ⟨ush, uk, uro, uco, uro2, uco2, uar, uac, uar2, uac2⟩ W
    rw [(Ref.same_iff ⟨tsh, tk, tro, tco, tro2, tco2, tar, tac, tar2, tac2⟩ ⟨ush, uk, uro, uco, uro2, uco2, uar, uac, uar2, uac2⟩).2 (HTU.out (.inl hk0))] at hneq
    clear hk0
    go_upto_region 17 with (fail)
    have HB9 := HB8
    have HK9 := HK8
    have HS9 := HS8
    cases hcut : a.any (·.1 == 2)
    · have HK2 := Lib.hid (show ∀ W, Below w.heap.size w W → Calls Tryd.prog 18 #[.slice A0 a.length c0', .int .i64 2] W fun e w' => e = .returned (.bool false) ∧ Below W.heap.size W w' from fun W hW => by rw [← hcut]; exact HKI.out W 2 hW)
      obtain ⟨hb1, hb2⟩ := HBK.out hcut
      have HV1 := Lib.hid hb1
      have HV2 := Lib.hid hb2
      have heql := fun W => ref_eql ⟨sh, k, ro, co, ro2, co2, ar, ac, ar2, ac2⟩ ⟨sh, k, ro, co, ro2, co2, ar, ac, ar2, ac2⟩ W
      rw [(Ref.same_iff ⟨sh, k, ro, co, ro2, co2, ar, ac, ar2, ac2⟩ ⟨sh, k, ro, co, ro2, co2, ar, ac, ar2, ac2⟩).2 rfl] at heql
      clear hb1 hb2
      go_wp2_with (first
        | (go_at_call 18; refine (HK2.out _ HB9.out).mono ?_; rintro e w10 ⟨rfl, hw⟩; have HB10 := Lib.hid (HB9.out.trans (hw.mono HB9.out.size)); have HK10 := Lib.hid (HK9.out.later hw); have HS10 := Lib.hid (HS9.out.later hw); clear hw)
        | (go_at_call 19; refine (HV2.out _ HB10.out).mono ?_; rintro e w11 ⟨v11, rfl, hst, hw⟩; obtain ⟨A11, c11, rfl⟩ := hst.shape; have HST := Lib.hid hst; have HB11 := Lib.hid (HB10.out.trans (hw.mono HB10.out.size)); have HK11 := Lib.hid (HK10.out.later hw); have HS11 := Lib.hid (HS10.out.later hw); clear hw hst; clear x0 x1 x2 x3 x4 x5 x6 x7 x8 x9; obtain ⟨x0, x1, x2, x3, x4, x5, x6, x7, x8, x9⟩ := HK11.out.ten; clear s0 s1 s2 s3 s4 s5 s6 s7 s8 s9; obtain ⟨s0, s1, s2, s3, s4, s5, s6, s7, s8, s9⟩ := HS11.out.ten)
        | (go_at_call 17; refine (HV1.out _ _ HST.out).mono ?_; rintro e w12 ⟨rfl, hw⟩; have hB := HB11.out.trans (hw.mono HB11.out.size); have HB12 := Lib.hid (hB.alloc hB.size (.cells #[.string sh, .int .i64 k, .int .i64 ro, .int .i64 co, .int .i64 ro2, .int .i64 co2, .bool ar, .bool ac, .bool ar2, .bool ac2] 40)); have HK12 := Lib.hid ((HK11.out.later hw).alloc (.cells #[.string sh, .int .i64 k, .int .i64 ro, .int .i64 co, .int .i64 ro2, .int .i64 co2, .bool ar, .bool ac, .bool ar2, .bool ac2] 40)); have hv12 := Blk.new w12 40 #[.string sh, .int .i64 k, .int .i64 ro, .int .i64 co, .int .i64 ro2, .int .i64 co2, .bool ar, .bool ac, .bool ar2, .bool ac2]; clear hw hB x0 x1 x2 x3 x4 x5 x6 x7 x8 x9; obtain ⟨x0, x1, x2, x3, x4, x5, x6, x7, x8, x9⟩ := HK12.out.ten; obtain ⟨y0, y1, y2, y3, y4, y5, y6, y7, y8, y9⟩ := hv12.ten; clear hv12))
      go_ret
      exact ⟨rfl, HB12.out⟩
    · have HK2 := Lib.hid (show ∀ W, Below w.heap.size w W → Calls Tryd.prog 18 #[.slice A0 a.length c0', .int .i64 2] W fun e w' => e = .returned (.bool true) ∧ Below W.heap.size W w' from fun W hW => by rw [← hcut]; exact HKI.out W 2 hW)
      go_wp2_with (go_at_call 18; refine (HK2.out _ HB9.out).mono ?_; rintro e w10 ⟨rfl, hw⟩; have HB10 := Lib.hid (HB9.out.trans (hw.mono HB9.out.size)); clear hw)
      go_ret
      exact ⟨rfl, HB10.out⟩
  · have hkz : ((k : Int) == 0) = false := by rw [beq_eq_false_iff_ne]; exact hk0
    cases hadd : a.any (·.1 == 1)
    · have hneq := fun W => ref_neq ⟨tsh, tk, tro, tco, tro2, tco2, tar, tac, tar2, tac2⟩ ⟨ush, uk, uro, uco, uro2, uco2, uar, uac, uar2, uac2⟩ W
      rw [(Ref.same_iff ⟨tsh, tk, tro, tco, tro2, tco2, tar, tac, tar2, tac2⟩ ⟨ush, uk, uro, uco, uro2, uco2, uar, uac, uar2, uac2⟩).2 (HTU.out (.inr hadd))] at hneq
      have HK1 := Lib.hid (show ∀ W, Below w.heap.size w W → Calls Tryd.prog 18 #[.slice A0 a.length c0', .int .i64 1] W fun e w' => e = .returned (.bool false) ∧ Below W.heap.size W w' from fun W hW => by rw [← hadd]; exact HKI.out W 1 hW)
      clear hk0 hadd
      go_upto_region 17 with (go_at_call 18; refine (HK1.out _ HB8.out).mono ?_; rintro e w9 ⟨rfl, hw⟩; have HB9 := Lib.hid (HB8.out.trans (hw.mono HB8.out.size)); have HK9 := Lib.hid (HK8.out.later hw); have HS9 := Lib.hid (HS8.out.later hw); have HV9 := Lib.hid (HV8.out.later hw); have HU9 := Lib.hid (HU8.out.later hw); clear hw; clear x0 x1 x2 x3 x4 x5 x6 x7 x8 x9; obtain ⟨x0, x1, x2, x3, x4, x5, x6, x7, x8, x9⟩ := HK9.out.ten; clear s0 s1 s2 s3 s4 s5 s6 s7 s8 s9; obtain ⟨s0, s1, s2, s3, s4, s5, s6, s7, s8, s9⟩ := HS9.out.ten; clear t0 t1 t2 t3 t4 t5 t6 t7 t8 t9 u0 u1 u2 u3 u4 u5 u6 u7 u8 u9; obtain ⟨t0, t1, t2, t3, t4, t5, t6, t7, t8, t9⟩ := HV9.out.ten; obtain ⟨u0, u1, u2, u3, u4, u5, u6, u7, u8, u9⟩ := HU9.out.ten)
      cases hcut : a.any (·.1 == 2)
      · have HK2 := Lib.hid (show ∀ W, Below w.heap.size w W → Calls Tryd.prog 18 #[.slice A0 a.length c0', .int .i64 2] W fun e w' => e = .returned (.bool false) ∧ Below W.heap.size W w' from fun W hW => by rw [← hcut]; exact HKI.out W 2 hW)
        obtain ⟨hb1, hb2⟩ := HBK.out hcut
        have HV1 := Lib.hid hb1
        have HV2 := Lib.hid hb2
        have heql := fun W => ref_eql ⟨sh, k, ro, co, ro2, co2, ar, ac, ar2, ac2⟩ ⟨sh, k, ro, co, ro2, co2, ar, ac, ar2, ac2⟩ W
        rw [(Ref.same_iff ⟨sh, k, ro, co, ro2, co2, ar, ac, ar2, ac2⟩ ⟨sh, k, ro, co, ro2, co2, ar, ac, ar2, ac2⟩).2 rfl] at heql
        clear hb1 hb2
        go_wp2_with (first
          | (go_at_call 18; refine (HK2.out _ HB9.out).mono ?_; rintro e w10 ⟨rfl, hw⟩; have HB10 := Lib.hid (HB9.out.trans (hw.mono HB9.out.size)); have HK10 := Lib.hid (HK9.out.later hw); have HS10 := Lib.hid (HS9.out.later hw); clear hw)
          | (go_at_call 19; refine (HV2.out _ HB10.out).mono ?_; rintro e w11 ⟨v11, rfl, hst, hw⟩; obtain ⟨A11, c11, rfl⟩ := hst.shape; have HST := Lib.hid hst; have HB11 := Lib.hid (HB10.out.trans (hw.mono HB10.out.size)); have HK11 := Lib.hid (HK10.out.later hw); have HS11 := Lib.hid (HS10.out.later hw); clear hw hst; clear x0 x1 x2 x3 x4 x5 x6 x7 x8 x9; obtain ⟨x0, x1, x2, x3, x4, x5, x6, x7, x8, x9⟩ := HK11.out.ten; clear s0 s1 s2 s3 s4 s5 s6 s7 s8 s9; obtain ⟨s0, s1, s2, s3, s4, s5, s6, s7, s8, s9⟩ := HS11.out.ten)
          | (go_at_call 17; refine (HV1.out _ _ HST.out).mono ?_; rintro e w12 ⟨rfl, hw⟩; have hB := HB11.out.trans (hw.mono HB11.out.size); have HB12 := Lib.hid (hB.alloc hB.size (.cells #[.string sh, .int .i64 k, .int .i64 ro, .int .i64 co, .int .i64 ro2, .int .i64 co2, .bool ar, .bool ac, .bool ar2, .bool ac2] 40)); have HK12 := Lib.hid ((HK11.out.later hw).alloc (.cells #[.string sh, .int .i64 k, .int .i64 ro, .int .i64 co, .int .i64 ro2, .int .i64 co2, .bool ar, .bool ac, .bool ar2, .bool ac2] 40)); have hv12 := Blk.new w12 40 #[.string sh, .int .i64 k, .int .i64 ro, .int .i64 co, .int .i64 ro2, .int .i64 co2, .bool ar, .bool ac, .bool ar2, .bool ac2]; clear hw hB x0 x1 x2 x3 x4 x5 x6 x7 x8 x9; obtain ⟨x0, x1, x2, x3, x4, x5, x6, x7, x8, x9⟩ := HK12.out.ten; obtain ⟨y0, y1, y2, y3, y4, y5, y6, y7, y8, y9⟩ := hv12.ten; clear hv12))
        go_ret
        exact ⟨rfl, HB12.out⟩
      · have HK2 := Lib.hid (show ∀ W, Below w.heap.size w W → Calls Tryd.prog 18 #[.slice A0 a.length c0', .int .i64 2] W fun e w' => e = .returned (.bool true) ∧ Below W.heap.size W w' from fun W hW => by rw [← hcut]; exact HKI.out W 2 hW)
        go_wp2_with (go_at_call 18; refine (HK2.out _ HB9.out).mono ?_; rintro e w10 ⟨rfl, hw⟩; have HB10 := Lib.hid (HB9.out.trans (hw.mono HB9.out.size)); clear hw)
        go_ret
        exact ⟨rfl, HB10.out⟩
    · have HK1 := Lib.hid (show ∀ W, Below w.heap.size w W → Calls Tryd.prog 18 #[.slice A0 a.length c0', .int .i64 1] W fun e w' => e = .returned (.bool true) ∧ Below W.heap.size W w' from fun W hW => by rw [← hadd]; exact HKI.out W 1 hW)
      clear hk0 hadd
      go_upto_region 17 with (go_at_call 18; refine (HK1.out _ HB8.out).mono ?_; rintro e w9 ⟨rfl, hw⟩; have HB9 := Lib.hid (HB8.out.trans (hw.mono HB8.out.size)); have HK9 := Lib.hid (HK8.out.later hw); have HS9 := Lib.hid (HS8.out.later hw); have HV9 := Lib.hid (HV8.out.later hw); have HU9 := Lib.hid (HU8.out.later hw); clear hw; clear x0 x1 x2 x3 x4 x5 x6 x7 x8 x9; obtain ⟨x0, x1, x2, x3, x4, x5, x6, x7, x8, x9⟩ := HK9.out.ten; clear s0 s1 s2 s3 s4 s5 s6 s7 s8 s9; obtain ⟨s0, s1, s2, s3, s4, s5, s6, s7, s8, s9⟩ := HS9.out.ten; clear t0 t1 t2 t3 t4 t5 t6 t7 t8 t9 u0 u1 u2 u3 u4 u5 u6 u7 u8 u9; obtain ⟨t0, t1, t2, t3, t4, t5, t6, t7, t8, t9⟩ := HV9.out.ten; obtain ⟨u0, u1, u2, u3, u4, u5, u6, u7, u8, u9⟩ := HU9.out.ten)
      cases hcut : a.any (·.1 == 2)
      · have HK2 := Lib.hid (show ∀ W, Below w.heap.size w W → Calls Tryd.prog 18 #[.slice A0 a.length c0', .int .i64 2] W fun e w' => e = .returned (.bool false) ∧ Below W.heap.size W w' from fun W hW => by rw [← hcut]; exact HKI.out W 2 hW)
        obtain ⟨hb1, hb2⟩ := HBK.out hcut
        have HV1 := Lib.hid hb1
        have HV2 := Lib.hid hb2
        have heql := fun W => ref_eql ⟨sh, k, ro, co, ro2, co2, ar, ac, ar2, ac2⟩ ⟨sh, k, ro, co, ro2, co2, ar, ac, ar2, ac2⟩ W
        rw [(Ref.same_iff ⟨sh, k, ro, co, ro2, co2, ar, ac, ar2, ac2⟩ ⟨sh, k, ro, co, ro2, co2, ar, ac, ar2, ac2⟩).2 rfl] at heql
        clear hb1 hb2
        go_wp2_with (first
          | (go_at_call 18; refine (HK2.out _ HB9.out).mono ?_; rintro e w10 ⟨rfl, hw⟩; have HB10 := Lib.hid (HB9.out.trans (hw.mono HB9.out.size)); have HK10 := Lib.hid (HK9.out.later hw); have HS10 := Lib.hid (HS9.out.later hw); clear hw)
          | (go_at_call 19; refine (HV2.out _ HB10.out).mono ?_; rintro e w11 ⟨v11, rfl, hst, hw⟩; obtain ⟨A11, c11, rfl⟩ := hst.shape; have HST := Lib.hid hst; have HB11 := Lib.hid (HB10.out.trans (hw.mono HB10.out.size)); have HK11 := Lib.hid (HK10.out.later hw); have HS11 := Lib.hid (HS10.out.later hw); clear hw hst; clear x0 x1 x2 x3 x4 x5 x6 x7 x8 x9; obtain ⟨x0, x1, x2, x3, x4, x5, x6, x7, x8, x9⟩ := HK11.out.ten; clear s0 s1 s2 s3 s4 s5 s6 s7 s8 s9; obtain ⟨s0, s1, s2, s3, s4, s5, s6, s7, s8, s9⟩ := HS11.out.ten)
          | (go_at_call 17; refine (HV1.out _ _ HST.out).mono ?_; rintro e w12 ⟨rfl, hw⟩; have hB := HB11.out.trans (hw.mono HB11.out.size); have HB12 := Lib.hid (hB.alloc hB.size (.cells #[.string sh, .int .i64 k, .int .i64 ro, .int .i64 co, .int .i64 ro2, .int .i64 co2, .bool ar, .bool ac, .bool ar2, .bool ac2] 40)); have HK12 := Lib.hid ((HK11.out.later hw).alloc (.cells #[.string sh, .int .i64 k, .int .i64 ro, .int .i64 co, .int .i64 ro2, .int .i64 co2, .bool ar, .bool ac, .bool ar2, .bool ac2] 40)); have hv12 := Blk.new w12 40 #[.string sh, .int .i64 k, .int .i64 ro, .int .i64 co, .int .i64 ro2, .int .i64 co2, .bool ar, .bool ac, .bool ar2, .bool ac2]; clear hw hB x0 x1 x2 x3 x4 x5 x6 x7 x8 x9; obtain ⟨x0, x1, x2, x3, x4, x5, x6, x7, x8, x9⟩ := HK12.out.ten; obtain ⟨y0, y1, y2, y3, y4, y5, y6, y7, y8, y9⟩ := hv12.ten; clear hv12))
        go_ret
        exact ⟨rfl, HB12.out⟩
      · have HK2 := Lib.hid (show ∀ W, Below w.heap.size w W → Calls Tryd.prog 18 #[.slice A0 a.length c0', .int .i64 2] W fun e w' => e = .returned (.bool true) ∧ Below W.heap.size W w' from fun W hW => by rw [← hcut]; exact HKI.out W 2 hW)
        go_wp2_with (go_at_call 18; refine (HK2.out _ HB9.out).mono ?_; rintro e w10 ⟨rfl, hw⟩; have HB10 := Lib.hid (HB9.out.trans (hw.mono HB9.out.size)); clear hw)
        go_ret
        exact ⟨rfl, HB10.out⟩
end Go.Proofs.YtjgojbkmeggmhaaDoor
