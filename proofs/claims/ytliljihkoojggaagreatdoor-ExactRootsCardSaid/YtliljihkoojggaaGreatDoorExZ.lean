/- ExactRoots's walk. -/
import Derived.Test.YtliljihkoojggaaGreatDoorExF
import Derived.Test.YtliljihkoojggaaGreatDoorExY
import Derived.Test.YtliljihkoojggaaGreatDoorMod
namespace Go.Proofs.YtliljihkoojggaaGreatDoor
open Go.RowKit

theorem prefix_neg (s : ByteArray) (b : Bool) (h : Lib.hasPrefix s.data.toList [45] = b) (W : World) : Calls Tryz.prog 16 #[.string s, .string ⟨#[45]⟩] W fun e w' => e = .returned (.bool b) ∧ W = w' := by
  have h2 := Tryz.strings_HasPrefix s ⟨#[45]⟩ W
  rw [show (⟨#[45]⟩ : ByteArray).data.toList = [45] from rfl, h] at h2
  exact h2.mono fun e w' ⟨h1, h2⟩ => ⟨h1, h2.symm⟩
theorem sign_le {x : Int} (h : x ≤ 0) : Int.sign x ≤ 0 := by
  rcases Int.lt_or_eq_of_le h with h | rfl
  · rw [Int.sign_eq_neg_one_of_neg h]; decide
  · decide
theorem sign_ge {x : Int} (h : 0 ≤ x) : 0 ≤ Int.sign x := by
  rcases Int.lt_or_eq_of_le h with h | rfl
  · rw [Int.sign_eq_one_of_pos h]; decide
  · decide

set_option maxRecDepth 100000 in
set_option maxHeartbeats 8000000 in
theorem roots_any (a1 a2 b1 b2 : ByteArray) (n : Int) (w : World) (ha1 : a1.size ≤ 9223372036854775807) (ha2 : a2.size ≤ 9223372036854775807) (hb1 : b1.size ≤ 9223372036854775807) (hb2 : b2.size ≤ 9223372036854775807) (hn : -9223372036854775808 ≤ n ∧ n ≤ 9223372036854775807)
    (htab : Lib.TabIs Tryz.prog w "internal/strconv.uint64pow10" .u64 Lib.pow10Tab) :
    Calls Tryz.prog 5 #[.agg #[.string a1, .string a2], .agg #[.string b1, .string b2], .int .i64 n] w fun e w' => e = .returned (.bool true) ∧ Below w.heap.size w w' := by
  have hT := (show ∀ W, Below w.heap.size w W → Lib.TabIs Tryz.prog W "internal/strconv.uint64pow10" .u64 Lib.pow10Tab from Lib.tabBelow_of_tabIs htab)
  have HFR := Lib.hid fun W hW => fractions_any W (hT W hW)
  have HMul := Lib.hid fun W (hW : Below w.heap.size w W) x1 x2 y1 y2 z1 z2 d1 d2 k1 k2 ha hb hk => mul_q x1 x2 y1 y2 z1 z2 d1 d2 k1 k2 W ha hb hk (hT W hW)
  have HCmp := Lib.hid fun W x1 x2 y1 y2 z1 z2 d1 d2 k1 k2 ha hb => compare_q x1 x2 y1 y2 z1 z2 d1 d2 k1 k2 W ha hb
  have HRo := Lib.hid fun W (hW : Below w.heap.size w W) x1 x2 u d k p ha hp hk => round_q x1 x2 u d k p W ha hp hk (hT W hW)
  have HRt := Lib.hid fun W (hW : Below w.heap.size w W) x1 x2 u d k p ha hp hk => root_q x1 x2 u d k p W ha hp hk (hT W hW)
  have m0 : 0 ≤ n % 12 := Int.emod_nonneg _ (by decide)
  have m1 : n % 12 < 12 := Int.emod_lt_of_pos _ (by decide)
  have hmd := fun W => mod_any n 12 W (by decide) (by decide) hn
  generalize n % 12 = nn at *
  obtain ⟨p, rfl⟩ : ∃ j : Nat, nn = j := ⟨nn.toNat, by omega⟩
  have HMD := Lib.hid hmd
  have hp11 : p ≤ 11 := by omega
  have HS := Lib.hid (show ∀ p ∈ [(a1, a2), (b1, b2)], p.1.size ≤ 9223372036854775807 ∧ p.2.size ≤ 9223372036854775807 from fun p hp => by
    simp only [List.mem_cons, List.not_mem_nil, or_false] at hp
    rcases hp with rfl | rfl <;> exact ⟨by assumption, by assumption⟩)
  have HL0 := Lib.hid (((Loc.start w).alloc' rfl 23 #[.string a1, .string a2]).alloc' (g := w.heap.size + 1) (by simp) 23 #[.string b1, .string b2])
  clear hT htab ha1 ha2 hb1 hb2 hmd m0 m1 hn
  by_cases hfew : ∀ p ∈ [(a1, a2), (b1, b2)], Few p
  case neg =>
    have HFW := Lib.hid (show ∀ W : World, Calls Tryz.prog 8 #[.slice (some ⟨W.heap.size, 0, none⟩) 2 2] (W.alloc (.cells #[.string a1, .string a2, .string b1, .string b2] 23)) fun e w' => e = .returned (.bool false) ∧ Below (W.alloc (.cells #[.string a1, .string a2, .string b1, .string b2] 23)).heap.size (W.alloc (.cells #[.string a1, .string a2, .string b1, .string b2] 23)) w' from fun W => few_f W.heap.size [(a1, a2), (b1, b2)] _ (frcells2 W a1 a2 b1 b2) (by simp) HS.out hfew)
    clear hfew
    go_enter Tryz.func5, Tryz.ntmps5
    go_upto_region 3 with (go_at_call 7; (with_reducible refine (HFR.out _ HL0.out.bel).mono ?_); rintro e w1 ⟨rfl, hb⟩; have HL1 := Lib.hid (HL0.out.step hb); clear hb)
    obtain ⟨p1, q1⟩ := HL1.out.s2 (g := w.heap.size) (t := 23) (a := .string a1) (b := .string a2) (by simp)
    obtain ⟨p2, q2⟩ := HL1.out.s2 (g := w.heap.size + 1) (t := 23) (a := .string b1) (b := .string b2) (by simp)
    go_wp2_with (go_at_call 8; (with_reducible refine (HFW.out _).mono ?_); rintro e w2 ⟨rfl, hb⟩; have HL2 := Lib.hid ((HL1.out.alloc 23 #[.string a1, .string a2, .string b1, .string b2]).step hb); clear hb)
    go_ret
    exact ⟨rfl, HL2.out.bel⟩
  case pos =>
    have HFW := Lib.hid (show ∀ W : World, Calls Tryz.prog 8 #[.slice (some ⟨W.heap.size, 0, none⟩) 2 2] (W.alloc (.cells #[.string a1, .string a2, .string b1, .string b2] 23)) fun e w' => e = .returned (.bool true) ∧ Below (W.alloc (.cells #[.string a1, .string a2, .string b1, .string b2] 23)).heap.size (W.alloc (.cells #[.string a1, .string a2, .string b1, .string b2] 23)) w' from fun W => few_t W.heap.size [(a1, a2), (b1, b2)] _ (frcells2 W a1 a2 b1 b2) (by simp) HS.out hfew)
    obtain ⟨za, da, qa⟩ := (hfew (a1, a2) (by simp)).qk
    obtain ⟨zb, db, qb⟩ := (hfew (b1, b2) (by simp)).qk
    dsimp only at qa qb
    clear hfew HS
    by_cases hza : za < 0
    · have HPa := Lib.hid (prefix_neg a1 true (by rw [qa.q.neg, decide_eq_true hza]))
      clear qa qb hza
      go_enter Tryz.func5, Tryz.ntmps5
      go_upto_region 3 with (go_at_call 7; (with_reducible refine (HFR.out _ HL0.out.bel).mono ?_); rintro e w1 ⟨rfl, hb⟩; have HL1 := Lib.hid (HL0.out.step hb); clear hb)
      obtain ⟨p3, q3⟩ := HL1.out.s2 (g := w.heap.size) (t := 23) (a := .string a1) (b := .string a2) (by simp)
      obtain ⟨p4, q4⟩ := HL1.out.s2 (g := w.heap.size + 1) (t := 23) (a := .string b1) (b := .string b2) (by simp)
      go_wp2_with (first
        | (go_at_call 8; (with_reducible refine (HFW.out _).mono ?_); rintro e w2 ⟨rfl, hb⟩; have hl := ((HL1.out.alloc 23 #[.string a1, .string a2, .string b1, .string b2]).step hb).perm (L' := [(w.heap.size + 1, 23, #[.string b1, .string b2]), (w.heap.size, 23, #[.string a1, .string a2])]) (fun x hx => by simp only [List.mem_cons, List.not_mem_nil, or_false] at hx ⊢; rcases hx with rfl | rfl <;> simp); have HL2 := Lib.hid hl; obtain ⟨u0, u1⟩ := hl.s2 (g := w.heap.size) (t := 23) (a := .string a1) (b := .string a2) (by simp); obtain ⟨v0, v1⟩ := hl.s2 (g := w.heap.size + 1) (t := 23) (a := .string b1) (b := .string b2) (by simp); clear hb hl)
        | (go_at_call 16; (with_reducible refine (HPa.out _).mono ?_); rintro e w3 ⟨rfl, rfl⟩))
      go_ret
      exact ⟨rfl, HL2.out.bel⟩
    have HPa := Lib.hid (prefix_neg a1 false (by rw [qa.q.neg, decide_eq_false hza]))
    by_cases hzb : zb < 0
    · have HPb := Lib.hid (prefix_neg b1 true (by rw [qb.q.neg, decide_eq_true hzb]))
      clear qa qb hza hzb
      go_enter Tryz.func5, Tryz.ntmps5
      go_upto_region 3 with (go_at_call 7; (with_reducible refine (HFR.out _ HL0.out.bel).mono ?_); rintro e w1 ⟨rfl, hb⟩; have HL1 := Lib.hid (HL0.out.step hb); clear hb)
      obtain ⟨p5, q5⟩ := HL1.out.s2 (g := w.heap.size) (t := 23) (a := .string a1) (b := .string a2) (by simp)
      obtain ⟨p6, q6⟩ := HL1.out.s2 (g := w.heap.size + 1) (t := 23) (a := .string b1) (b := .string b2) (by simp)
      go_wp2_with (first
        | (go_at_call 8; (with_reducible refine (HFW.out _).mono ?_); rintro e w2 ⟨rfl, hb⟩; have hl := ((HL1.out.alloc 23 #[.string a1, .string a2, .string b1, .string b2]).step hb).perm (L' := [(w.heap.size + 1, 23, #[.string b1, .string b2]), (w.heap.size, 23, #[.string a1, .string a2])]) (fun x hx => by simp only [List.mem_cons, List.not_mem_nil, or_false] at hx ⊢; rcases hx with rfl | rfl <;> simp); have HL2 := Lib.hid hl; obtain ⟨u0, u1⟩ := hl.s2 (g := w.heap.size) (t := 23) (a := .string a1) (b := .string a2) (by simp); obtain ⟨v0, v1⟩ := hl.s2 (g := w.heap.size + 1) (t := 23) (a := .string b1) (b := .string b2) (by simp); clear hb hl)
        | (go_at_call 16; first | ((with_reducible refine (HPa.out _).mono ?_); rintro e w3 ⟨rfl, rfl⟩) | ((with_reducible refine (HPb.out _).mono ?_); rintro e w3 ⟨rfl, rfl⟩)))
      go_ret
      exact ⟨rfl, HL2.out.bel⟩
    have HPb := Lib.hid (prefix_neg b1 false (by rw [qb.q.neg, decide_eq_false hzb]))
    obtain ⟨ua, rfl⟩ : ∃ u : Nat, za = u := ⟨za.toNat, by omega⟩
    obtain ⟨ub, rfl⟩ : ∃ u : Nat, zb = u := ⟨zb.toNat, by omega⟩
    have HQa := Lib.hid qa
    have HQb := Lib.hid qb
    clear qa qb hza hzb
    go_enter Tryz.func5, Tryz.ntmps5
    go_upto_region 3 with (go_at_call 7; (with_reducible refine (HFR.out _ HL0.out.bel).mono ?_); rintro e w1 ⟨rfl, hb⟩; have HL1 := Lib.hid (HL0.out.step hb); clear hb)
    obtain ⟨p7, q7⟩ := HL1.out.s2 (g := w.heap.size) (t := 23) (a := .string a1) (b := .string a2) (by simp)
    obtain ⟨p8, q8⟩ := HL1.out.s2 (g := w.heap.size + 1) (t := 23) (a := .string b1) (b := .string b2) (by simp)
    go_upto_region 6 with (first
      | (go_at_call 8; (with_reducible refine (HFW.out _).mono ?_); rintro e w2 ⟨rfl, hb⟩; have hl := ((HL1.out.alloc 23 #[.string a1, .string a2, .string b1, .string b2]).step hb).perm (L' := [(w.heap.size + 1, 23, #[.string b1, .string b2]), (w.heap.size, 23, #[.string a1, .string a2])]) (fun x hx => by simp only [List.mem_cons, List.not_mem_nil, or_false] at hx ⊢; rcases hx with rfl | rfl <;> simp); have HL2 := Lib.hid hl; obtain ⟨u0, u1⟩ := hl.s2 (g := w.heap.size) (t := 23) (a := .string a1) (b := .string a2) (by simp); obtain ⟨v0, v1⟩ := hl.s2 (g := w.heap.size + 1) (t := 23) (a := .string b1) (b := .string b2) (by simp); clear hb hl)
      | (go_at_call 16; first | ((with_reducible refine (HPa.out _).mono ?_); rintro e w3 ⟨rfl, rfl⟩) | ((with_reducible refine (HPb.out _).mono ?_); rintro e w3 ⟨rfl, rfl⟩))
      | (go_at_call 17; (with_reducible refine (HMD.out _).mono ?_); rintro e w3 ⟨rfl, rfl⟩))
    clear p8 q8 p7 q7
    clear u0 u1 v0 v1
    obtain ⟨p9, q9⟩ := HL2.out.s2 (g := w.heap.size) (t := 23) (a := .string a1) (b := .string a2) (by simp)
    go_upto_region 7 with (go_at_call 18; (with_reducible refine (HRo.out _ HL2.out.bel _ _ _ _ _ _ HQa.out (by omega) (by omega)).mono ?_); rintro e w4 ⟨zr, r1, r2, rfl, hq, hb⟩; have HL4 := Lib.hid ((HL2.out.step hb).alloc 23 #[.string r1, .string r2]); have HQr := Lib.hid hq; clear hq hb)
    clear p9 q9
    clear HL2
    obtain ⟨p10, q10⟩ := HL4.out.s2 (g := w4.heap.size) (t := 23) (a := .string r1) (b := .string r2) (by simp)
    go_upto_region 8 with (go_at_call 10; (with_reducible refine (HMul.out _ HL4.out.bel _ _ _ _ _ _ _ _ _ _ HQr.out HQr.out (by omega)).mono ?_); rintro e w5 ⟨s1, s2, rfl, hq, hb⟩; have HL5 := Lib.hid ((HL4.out.step hb).alloc 23 #[.string s1, .string s2]); have HQs := Lib.hid (show Nt.Qk s1.data.toList s2.data.toList ((zr * zr : Nat) : Int) _ _ from hq); clear hq hb)
    clear p10 q10
    clear HL4
    obtain ⟨p11, q11⟩ := HL5.out.s2 (g := w5.heap.size) (t := 23) (a := .string s1) (b := .string s2) (by simp)
    go_upto_region 9 with (go_at_call 19; (with_reducible refine (HRt.out _ HL5.out.bel _ _ _ _ _ _ HQs.out (by omega) (by omega)).mono ?_); rintro e w6 ⟨zt, hrt, t1, t2, rfl, hq, hb⟩; have HL6 := Lib.hid ((HL5.out.step hb).alloc 23 #[.string t1, .string t2]); have HQt := Lib.hid hq; have HRt2 := Lib.hid hrt; clear hq hb hrt)
    clear p11 q11
    clear HL5
    obtain rfl : zt = zr := HRt2.out.sq
    obtain ⟨i1, i2⟩ := HQt.out.q.same HQr.out.q rfl
    obtain rfl : t1 = r1 := ba_ext i1
    obtain rfl : t2 = r2 := ba_ext i2
    clear i1 i2
    obtain ⟨p12, q12⟩ := HL6.out.s2 (g := w.heap.size) (t := 23) (a := .string a1) (b := .string a2) (by simp)
    go_upto_region 10 with (go_at_call 19; (with_reducible refine (HRt.out _ HL6.out.bel _ _ _ _ _ _ HQa.out (by omega) (by omega)).mono ?_); rintro e w7 ⟨zx, hrt, x1, x2, rfl, hq, hb⟩; have HL7 := Lib.hid ((HL6.out.step hb).alloc 23 #[.string x1, .string x2]); have HQx := Lib.hid hq; have HRx := Lib.hid hrt; clear hq hb hrt)
    clear p12 q12
    clear HL6
    obtain ⟨p13, q13⟩ := HL7.out.s2 (g := w.heap.size + 1) (t := 23) (a := .string b1) (b := .string b2) (by simp)
    go_upto_region 11 with (go_at_call 19; (with_reducible refine (HRt.out _ HL7.out.bel _ _ _ _ _ _ HQb.out (by omega) (by omega)).mono ?_); rintro e w8 ⟨zy, hrt, y1, y2, rfl, hq, hb⟩; have HL8 := Lib.hid ((HL7.out.step hb).alloc 23 #[.string y1, .string y2]); have HQy := Lib.hid hq; have HRy := Lib.hid hrt; clear hq hb hrt)
    clear p13 q13
    clear HL7
    obtain ⟨p14, q14⟩ := HL8.out.s2 (g := w.heap.size) (t := 23) (a := .string a1) (b := .string a2) (by simp)
    obtain ⟨p15, q15⟩ := HL8.out.s2 (g := w.heap.size + 1) (t := 23) (a := .string b1) (b := .string b2) (by simp)
    go_upto_region 12 with (go_at_call 13; (with_reducible refine (HCmp.out _ _ _ _ _ _ _ _ _ _ _ HQa.out HQb.out).mono ?_); rintro e w9 ⟨c1, rfl, hr, hb⟩; have HL9 := Lib.hid (HL8.out.step hb); have Hc1 := Lib.hid hr; clear hr hb)
    clear p15 q15 p14 q14
    clear HL8
    obtain ⟨p16, q16⟩ := HL9.out.s2 (g := w7.heap.size) (t := 23) (a := .string x1) (b := .string x2) (by simp)
    obtain ⟨p17, q17⟩ := HL9.out.s2 (g := w8.heap.size) (t := 23) (a := .string y1) (b := .string y2) (by simp)
    go_upto_region 13 with (go_at_call 13; (with_reducible refine (HCmp.out _ _ _ _ _ _ _ _ _ _ _ HQx.out HQy.out).mono ?_); rintro e w10 ⟨c2, rfl, hr, hb⟩; have HL10 := Lib.hid (HL9.out.step hb); have Hc2 := Lib.hid hr; clear hr hb)
    clear p17 q17 p16 q16
    clear HL9
    obtain ⟨p91, q91⟩ := HL10.out.s2 (g := w6.heap.size) (t := 23) (a := .string t1) (b := .string t2) (by simp)
    obtain ⟨p92, q92⟩ := HL10.out.s2 (g := w4.heap.size) (t := 23) (a := .string t1) (b := .string t2) (by simp)
    have he := fr_eql_self
    have hd1 := HQa.out.q.d0
    have hd2 := HQb.out.q.d0
    rcases Int.lt_trichotomy ((ua : Int) * db - ub * da) 0 with hlt | heq | hgt
    · have e1 : c1 = -1 := by rw [Hc1.out]; exact Int.sign_eq_neg_one_of_neg hlt
      have hle : zx ≤ zy := HRx.out.mono hd1 hd2 HRy.out (by have h : ((ua * db : Nat) : Int) ≤ (ub * da : Nat) := by (push_cast; omega)
                                                             exact_mod_cast h)
      have e2 : c2 ≤ 0 := by
        rw [Hc2.out]
        refine sign_le ?_
        have h := Int.mul_le_mul_of_nonneg_right (show (zx : Int) ≤ zy by omega) (Int.natCast_nonneg (10 ^ p))
        exact Int.sub_nonpos_of_le h
      subst e1
      clear Hc1 Hc2 hlt hle hd1 hd2
      go_wp2_with fail
      go_ret
      exact ⟨rfl, HL10.out.bel⟩
    · have e1 : c1 = 0 := by rw [Hc1.out, heq]; rfl
      subst e1
      clear Hc1 Hc2 heq hd1 hd2
      go_wp2_with fail
      go_ret
      exact ⟨rfl, HL10.out.bel⟩
    · have e1 : c1 = 1 := by rw [Hc1.out]; exact Int.sign_eq_one_of_pos hgt
      have hle : zy ≤ zx := HRy.out.mono hd2 hd1 HRx.out (by have h : ((ub * da : Nat) : Int) ≤ (ua * db : Nat) := by (push_cast; omega)
                                                             exact_mod_cast h)
      have e2 : 0 ≤ c2 := by
        rw [Hc2.out]
        refine sign_ge ?_
        have h := Int.mul_le_mul_of_nonneg_right (show (zy : Int) ≤ zx by omega) (Int.natCast_nonneg (10 ^ p))
        exact Int.sub_nonneg_of_le h
      subst e1
      clear Hc1 Hc2 hgt hle hd1 hd2
      go_wp2_with fail
      go_ret
      exact ⟨rfl, HL10.out.bel⟩
end Go.Proofs.YtliljihkoojggaaGreatDoor
