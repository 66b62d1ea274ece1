/- ExactField's walk. -/
import Derived.Test.YtliljihkoojggaaGreatDoorExF
import Derived.Test.YtliljihkoojggaaGreatDoorExG
namespace Go.Proofs.YtliljihkoojggaaGreatDoor
open Go.RowKit

set_option maxRecDepth 100000 in
set_option maxHeartbeats 8000000 in
theorem field_any (a1 a2 b1 b2 c1 c2 : ByteArray) (w : World) (ha1 : a1.size ≤ 9223372036854775807) (ha2 : a2.size ≤ 9223372036854775807) (hb1 : b1.size ≤ 9223372036854775807) (hb2 : b2.size ≤ 9223372036854775807) (hc1 : c1.size ≤ 9223372036854775807) (hc2 : c2.size ≤ 9223372036854775807)
    (htab : Lib.TabIs Tryz.prog w "internal/strconv.uint64pow10" .u64 Lib.pow10Tab) :
    Calls Tryz.prog 3 #[.agg #[.string a1, .string a2], .agg #[.string b1, .string b2], .agg #[.string c1, .string c2]] w fun e w' => e = .returned (.bool true) ∧ Below w.heap.size w w' := by
  have hT := (show ∀ W, Below w.heap.size w W → Lib.TabIs Tryz.prog W "internal/strconv.uint64pow10" .u64 Lib.pow10Tab from Lib.tabBelow_of_tabIs htab)
  have HFR := Lib.hid fun W hW => fractions_any W (hT W hW)
  have HAdd := Lib.hid fun W (hW : Below w.heap.size w W) x1 x2 y1 y2 z1 z2 d1 d2 k1 k2 ha hb hk => add_q x1 x2 y1 y2 z1 z2 d1 d2 k1 k2 W ha hb hk (hT W hW)
  have HSub := Lib.hid fun W (hW : Below w.heap.size w W) x1 x2 y1 y2 z1 z2 d1 d2 k1 k2 ha hb hk => sub_q x1 x2 y1 y2 z1 z2 d1 d2 k1 k2 W ha hb hk (hT W hW)
  have HMul := Lib.hid fun W (hW : Below w.heap.size w W) x1 x2 y1 y2 z1 z2 d1 d2 k1 k2 ha hb hk => mul_q x1 x2 y1 y2 z1 z2 d1 d2 k1 k2 W ha hb hk (hT W hW)
  have HDiv := Lib.hid fun W (hW : Below w.heap.size w W) x1 x2 y1 y2 z1 z2 d1 d2 k1 k2 ha hb hz hk => div_q x1 x2 y1 y2 z1 z2 d1 d2 k1 k2 W ha hb hz hk (hT W hW)
  have HS := Lib.hid (show ∀ p ∈ [(a1, a2), (b1, b2), (c1, c2)], p.1.size ≤ 9223372036854775807 ∧ p.2.size ≤ 9223372036854775807 from fun p hp => by
    simp only [List.mem_cons, List.not_mem_nil, or_false] at hp
    rcases hp with rfl | rfl | rfl <;> exact ⟨by assumption, by assumption⟩)
  have HL0 := Lib.hid ((((Loc.start w).alloc' rfl 23 #[.string a1, .string a2]).alloc' (g := w.heap.size + 1) (by simp) 23 #[.string b1, .string b2]).alloc' (g := w.heap.size + 2) (by simp) 23 #[.string c1, .string c2])
  clear hT htab ha1 ha2 hb1 hb2 hc1 hc2
  have he := fr_eql_self
  have hne := fr_neq_self
  by_cases hfew : ∀ p ∈ [(a1, a2), (b1, b2), (c1, c2)], Few p
  case neg =>
    have HFW := Lib.hid (show ∀ W : World, Calls Tryz.prog 8 #[.slice (some ⟨W.heap.size, 0, none⟩) 3 3] (W.alloc (.cells #[.string a1, .string a2, .string b1, .string b2, .string c1, .string c2] 23)) fun e w' => e = .returned (.bool false) ∧ Below (W.alloc (.cells #[.string a1, .string a2, .string b1, .string b2, .string c1, .string c2] 23)).heap.size (W.alloc (.cells #[.string a1, .string a2, .string b1, .string b2, .string c1, .string c2] 23)) w' from fun W => few_f W.heap.size [(a1, a2), (b1, b2), (c1, c2)] _ (frcells3 W a1 a2 b1 b2 c1 c2) (by simp) HS.out hfew)
    clear hfew
    go_enter Tryz.func3, Tryz.ntmps3
    go_upto_region 3 with (go_at_call 7; (with_reducible refine (HFR.out _ HL0.out.bel).mono ?_); rintro e w1 ⟨rfl, hb⟩; have HL1 := Lib.hid (HL0.out.step hb); clear hb)
    obtain ⟨x0, x1⟩ := HL1.out.s2 (g := w.heap.size) (t := 23) (a := .string a1) (b := .string a2) (by simp)
    obtain ⟨y0, y1⟩ := HL1.out.s2 (g := w.heap.size + 1) (t := 23) (a := .string b1) (b := .string b2) (by simp)
    obtain ⟨z0, z1⟩ := HL1.out.s2 (g := w.heap.size + 2) (t := 23) (a := .string c1) (b := .string c2) (by simp)
    go_wp2_with (go_at_call 8; (with_reducible refine (HFW.out _).mono ?_); rintro e w2 ⟨rfl, hb⟩; have HL2 := Lib.hid ((HL1.out.alloc 23 #[.string a1, .string a2, .string b1, .string b2, .string c1, .string c2]).step hb); clear hb)
    go_ret
    exact ⟨rfl, HL2.out.bel⟩
  case pos =>
    have HFW := Lib.hid (show ∀ W : World, Calls Tryz.prog 8 #[.slice (some ⟨W.heap.size, 0, none⟩) 3 3] (W.alloc (.cells #[.string a1, .string a2, .string b1, .string b2, .string c1, .string c2] 23)) fun e w' => e = .returned (.bool true) ∧ Below (W.alloc (.cells #[.string a1, .string a2, .string b1, .string b2, .string c1, .string c2] 23)).heap.size (W.alloc (.cells #[.string a1, .string a2, .string b1, .string b2, .string c1, .string c2] 23)) w' from fun W => few_t W.heap.size [(a1, a2), (b1, b2), (c1, c2)] _ (frcells3 W a1 a2 b1 b2 c1 c2) (by simp) HS.out hfew)
    obtain ⟨za, da, qa⟩ := (hfew (a1, a2) (by simp)).qk
    obtain ⟨zb, db, qb⟩ := (hfew (b1, b2) (by simp)).qk
    obtain ⟨zc, dc, qc⟩ := (hfew (c1, c2) (by simp)).qk
    have HQa := Lib.hid qa
    have HQb := Lib.hid qb
    have HQc := Lib.hid qc
    clear hfew qa qb qc HS
    go_enter Tryz.func3, Tryz.ntmps3
    go_upto_region 3 with (go_at_call 7; (with_reducible refine (HFR.out _ HL0.out.bel).mono ?_); rintro e w1 ⟨rfl, hb⟩; have HL1 := Lib.hid (HL0.out.step hb); clear hb)
    obtain ⟨x0, x1⟩ := HL1.out.s2 (g := w.heap.size) (t := 23) (a := .string a1) (b := .string a2) (by simp)
    obtain ⟨y0, y1⟩ := HL1.out.s2 (g := w.heap.size + 1) (t := 23) (a := .string b1) (b := .string b2) (by simp)
    obtain ⟨z0, z1⟩ := HL1.out.s2 (g := w.heap.size + 2) (t := 23) (a := .string c1) (b := .string c2) (by simp)
    go_upto_region 5 with (go_at_call 8; (with_reducible refine (HFW.out _).mono ?_); rintro e w2 ⟨rfl, hb⟩; have HL2 := Lib.hid (((HL1.out.alloc 23 #[.string a1, .string a2, .string b1, .string b2, .string c1, .string c2]).step hb).perm (L' := [(w.heap.size + 2, 23, #[.string c1, .string c2]), (w.heap.size + 1, 23, #[.string b1, .string b2]), (w.heap.size, 23, #[.string a1, .string a2])]) (fun x hx => List.mem_cons_of_mem _ hx)); clear hb)
    clear x0 x1 y0 y1 z0 z1
    obtain ⟨f0, f1⟩ := HL2.out.s2 (g := w.heap.size) (t := 23) (a := .string a1) (b := .string a2) (by simp)
    obtain ⟨g0, g1⟩ := HL2.out.s2 (g := w.heap.size + 1) (t := 23) (a := .string b1) (b := .string b2) (by simp)
    go_upto_region 6 with (go_at_call 9; (with_reducible refine (HAdd.out _ HL2.out.bel _ _ _ _ _ _ _ _ _ _ HQa.out HQb.out (by decide)).mono ?_); rintro e w3 ⟨ab1, ab2, rfl, hq, hb⟩; have HL3 := Lib.hid ((HL2.out.step hb).alloc 23 #[.string ab1, .string ab2]); have HQab := Lib.hid hq; clear hq hb)
    clear f0 f1 g0 g1 HL2
    obtain ⟨f0, f1⟩ := HL3.out.s2 (g := w.heap.size + 1) (t := 23) (a := .string b1) (b := .string b2) (by simp)
    obtain ⟨g0, g1⟩ := HL3.out.s2 (g := w.heap.size + 2) (t := 23) (a := .string c1) (b := .string c2) (by simp)
    go_upto_region 7 with (go_at_call 9; (with_reducible refine (HAdd.out _ HL3.out.bel _ _ _ _ _ _ _ _ _ _ HQb.out HQc.out (by decide)).mono ?_); rintro e w4 ⟨bc1, bc2, rfl, hq, hb⟩; have HL4 := Lib.hid ((HL3.out.step hb).alloc 23 #[.string bc1, .string bc2]); have HQbc := Lib.hid hq; clear hq hb)
    clear f0 f1 g0 g1 HL3
    obtain ⟨f0, f1⟩ := HL4.out.s2 (g := w3.heap.size) (t := 23) (a := .string ab1) (b := .string ab2) (by simp)
    obtain ⟨g0, g1⟩ := HL4.out.s2 (g := w.heap.size + 2) (t := 23) (a := .string c1) (b := .string c2) (by simp)
    go_upto_region 8 with (go_at_call 9; (with_reducible refine (HAdd.out _ HL4.out.bel _ _ _ _ _ _ _ _ _ _ HQab.out HQc.out (by decide)).mono ?_); rintro e w5 ⟨x1, x2, rfl, hq, hb⟩; have HL5 := Lib.hid ((HL4.out.step hb).alloc 23 #[.string x1, .string x2]); have HQx := Lib.hid hq; clear hq hb)
    clear f0 f1 g0 g1 HL4
    obtain ⟨f0, f1⟩ := HL5.out.s2 (g := w.heap.size) (t := 23) (a := .string a1) (b := .string a2) (by simp)
    obtain ⟨g0, g1⟩ := HL5.out.s2 (g := w4.heap.size) (t := 23) (a := .string bc1) (b := .string bc2) (by simp)
    go_upto_region 9 with (go_at_call 9; (with_reducible refine (HAdd.out _ HL5.out.bel _ _ _ _ _ _ _ _ _ _ HQa.out HQbc.out (by decide)).mono ?_); rintro e w6 ⟨y1, y2, rfl, hq, hb⟩; have HL6 := Lib.hid ((HL5.out.step hb).alloc 23 #[.string y1, .string y2]); have HQy := Lib.hid hq; clear hq hb)
    clear f0 f1 g0 g1 HL5
    obtain ⟨f0, f1⟩ := HL6.out.s2 (g := w.heap.size) (t := 23) (a := .string a1) (b := .string a2) (by simp)
    obtain ⟨g0, g1⟩ := HL6.out.s2 (g := w4.heap.size) (t := 23) (a := .string bc1) (b := .string bc2) (by simp)
    go_upto_region 10 with (go_at_call 10; (with_reducible refine (HMul.out _ HL6.out.bel _ _ _ _ _ _ _ _ _ _ HQa.out HQbc.out (by decide)).mono ?_); rintro e w7 ⟨p1, p2, rfl, hq, hb⟩; have HL7 := Lib.hid ((HL6.out.step hb).alloc 23 #[.string p1, .string p2]); have HQp := Lib.hid hq; clear hq hb)
    clear f0 f1 g0 g1 HL6
    obtain ⟨f0, f1⟩ := HL7.out.s2 (g := w.heap.size) (t := 23) (a := .string a1) (b := .string a2) (by simp)
    obtain ⟨g0, g1⟩ := HL7.out.s2 (g := w.heap.size + 1) (t := 23) (a := .string b1) (b := .string b2) (by simp)
    go_upto_region 11 with (go_at_call 10; (with_reducible refine (HMul.out _ HL7.out.bel _ _ _ _ _ _ _ _ _ _ HQa.out HQb.out (by decide)).mono ?_); rintro e w8 ⟨q1, q2, rfl, hq, hb⟩; have HL8 := Lib.hid ((HL7.out.step hb).alloc 23 #[.string q1, .string q2]); have HQq := Lib.hid hq; clear hq hb)
    clear f0 f1 g0 g1 HL7
    obtain ⟨f0, f1⟩ := HL8.out.s2 (g := w.heap.size) (t := 23) (a := .string a1) (b := .string a2) (by simp)
    obtain ⟨g0, g1⟩ := HL8.out.s2 (g := w.heap.size + 2) (t := 23) (a := .string c1) (b := .string c2) (by simp)
    go_upto_region 12 with (go_at_call 10; (with_reducible refine (HMul.out _ HL8.out.bel _ _ _ _ _ _ _ _ _ _ HQa.out HQc.out (by decide)).mono ?_); rintro e w9 ⟨r1, r2, rfl, hq, hb⟩; have HL9 := Lib.hid ((HL8.out.step hb).alloc 23 #[.string r1, .string r2]); have HQr := Lib.hid hq; clear hq hb)
    clear f0 f1 g0 g1 HL8
    obtain ⟨f0, f1⟩ := HL9.out.s2 (g := w8.heap.size) (t := 23) (a := .string q1) (b := .string q2) (by simp)
    obtain ⟨g0, g1⟩ := HL9.out.s2 (g := w9.heap.size) (t := 23) (a := .string r1) (b := .string r2) (by simp)
    go_upto_region 13 with (go_at_call 9; (with_reducible refine (HAdd.out _ HL9.out.bel _ _ _ _ _ _ _ _ _ _ HQq.out HQr.out (by decide)).mono ?_); rintro e w10 ⟨s1, s2, rfl, hq, hb⟩; have HL10 := Lib.hid ((HL9.out.step hb).alloc 23 #[.string s1, .string s2]); have HQs := Lib.hid hq; clear hq hb)
    clear f0 f1 g0 g1 HL9
    obtain ⟨f0, f1⟩ := HL10.out.s2 (g := w.heap.size + 1) (t := 23) (a := .string b1) (b := .string b2) (by simp)
    obtain ⟨g0, g1⟩ := HL10.out.s2 (g := w.heap.size) (t := 23) (a := .string a1) (b := .string a2) (by simp)
    go_upto_region 14 with (go_at_call 9; (with_reducible refine (HAdd.out _ HL10.out.bel _ _ _ _ _ _ _ _ _ _ HQb.out HQa.out (by decide)).mono ?_); rintro e w11 ⟨ba1, ba2, rfl, hq, hb⟩; have HL11 := Lib.hid ((HL10.out.step hb).alloc 23 #[.string ba1, .string ba2]); have HQba := Lib.hid hq; clear hq hb)
    clear f0 f1 g0 g1 HL10
    obtain ⟨f0, f1⟩ := HL11.out.s2 (g := w3.heap.size) (t := 23) (a := .string ab1) (b := .string ab2) (by simp)
    obtain ⟨g0, g1⟩ := HL11.out.s2 (g := w.heap.size + 1) (t := 23) (a := .string b1) (b := .string b2) (by simp)
    go_upto_region 15 with (go_at_call 11; (with_reducible refine (HSub.out _ HL11.out.bel _ _ _ _ _ _ _ _ _ _ HQab.out HQb.out (by decide)).mono ?_); rintro e w12 ⟨d1, d2, rfl, hq, hb⟩; have HL12 := Lib.hid ((HL11.out.step hb).alloc 23 #[.string d1, .string d2]); have HQd := Lib.hid hq; clear hq hb)
    clear f0 f1 g0 g1 HL11
    obtain ⟨i1, i2⟩ := HQy.out.q.same HQx.out.q (by push_cast; grind)
    obtain rfl : y1 = x1 := ba_ext i1
    obtain rfl : y2 = x2 := ba_ext i2
    clear i1 i2
    obtain ⟨i1, i2⟩ := HQs.out.q.same HQp.out.q (by push_cast; grind)
    obtain rfl : s1 = p1 := ba_ext i1
    obtain rfl : s2 = p2 := ba_ext i2
    clear i1 i2
    obtain ⟨i1, i2⟩ := HQba.out.q.same HQab.out.q (by push_cast; grind)
    obtain rfl : ba1 = ab1 := ba_ext i1
    obtain rfl : ba2 = ab2 := ba_ext i2
    clear i1 i2
    obtain ⟨i1, i2⟩ := HQd.out.q.same HQa.out.q (by push_cast; grind)
    obtain rfl : d1 = a1 := ba_ext i1
    obtain rfl : d2 = a2 := ba_ext i2
    clear i1 i2
    obtain ⟨xx, xy⟩ := HL12.out.s2 (g := w5.heap.size) (t := 23) (a := .string y1) (b := .string y2) (by simp)
    obtain ⟨yx, yy⟩ := HL12.out.s2 (g := w6.heap.size) (t := 23) (a := .string y1) (b := .string y2) (by simp)
    obtain ⟨px, py⟩ := HL12.out.s2 (g := w7.heap.size) (t := 23) (a := .string s1) (b := .string s2) (by simp)
    obtain ⟨sx, sy⟩ := HL12.out.s2 (g := w10.heap.size) (t := 23) (a := .string s1) (b := .string s2) (by simp)
    obtain ⟨tx, ty⟩ := HL12.out.s2 (g := w3.heap.size) (t := 23) (a := .string ba1) (b := .string ba2) (by simp)
    obtain ⟨ux, uy⟩ := HL12.out.s2 (g := w11.heap.size) (t := 23) (a := .string ba1) (b := .string ba2) (by simp)
    obtain ⟨dx, dy⟩ := HL12.out.s2 (g := w12.heap.size) (t := 23) (a := .string d1) (b := .string d2) (by simp)
    obtain ⟨ax, ay⟩ := HL12.out.s2 (g := w.heap.size) (t := 23) (a := .string d1) (b := .string d2) (by simp)
    go_upto_region 17 with fail
    clear xx xy yx yy px py sx sy tx ty ux uy dx dy ax ay
    obtain ⟨b0, b0'⟩ := HL12.out.s2 (g := w.heap.size + 1) (t := 23) (a := .string b1) (b := .string b2) (by simp)
    by_cases hb0 : b1.data.toList = [48]
    · have hz := is_str hb0
      clear hb0
      go_wp2_with fail
      go_ret
      exact ⟨rfl, HL12.out.bel⟩
    · have hz := not_str hb0
      have HZB := Lib.hid (show zb ≠ 0 from fun e => hb0 (HQb.out.q.zero.2 e))
      clear hb0
      go_upto_region 19 with fail
      clear b0 b0' hz
      obtain ⟨f0, f1⟩ := HL12.out.s2 (g := w.heap.size) (t := 23) (a := .string d1) (b := .string d2) (by simp)
      obtain ⟨g0, g1⟩ := HL12.out.s2 (g := w.heap.size + 1) (t := 23) (a := .string b1) (b := .string b2) (by simp)
      go_upto_region 20 with (go_at_call 12; (with_reducible refine (HDiv.out _ HL12.out.bel _ _ _ _ _ _ _ _ _ _ HQa.out HQb.out HZB.out (by decide)).mono ?_); rintro e w13 ⟨u1, u2, rfl, hq, hb⟩; have HL13 := Lib.hid ((HL12.out.step hb).alloc 23 #[.string u1, .string u2]); have HQu := Lib.hid hq; clear hq hb)
      clear f0 f1 g0 g1 HL12
      obtain ⟨f0, f1⟩ := HL13.out.s2 (g := w13.heap.size) (t := 23) (a := .string u1) (b := .string u2) (by simp)
      obtain ⟨g0, g1⟩ := HL13.out.s2 (g := w.heap.size + 1) (t := 23) (a := .string b1) (b := .string b2) (by simp)
      go_upto_region 21 with (go_at_call 10; (with_reducible refine (HMul.out _ HL13.out.bel _ _ _ _ _ _ _ _ _ _ HQu.out HQb.out (by decide)).mono ?_); rintro e w14 ⟨v1, v2, rfl, hq, hb⟩; have HL14 := Lib.hid ((HL13.out.step hb).alloc 23 #[.string v1, .string v2]); have HQv := Lib.hid hq; clear hq hb)
      clear f0 f1 g0 g1 HL13
      obtain ⟨i1, i2⟩ := HQv.out.q.same HQa.out.q (by have h := Int.mul_sign_self zb; push_cast; grind)
      obtain rfl : v1 = d1 := ba_ext i1
      obtain rfl : v2 = d2 := ba_ext i2
      clear i1 i2
      obtain ⟨f0, f1⟩ := HL14.out.s2 (g := w14.heap.size) (t := 23) (a := .string v1) (b := .string v2) (by simp)
      obtain ⟨g0, g1⟩ := HL14.out.s2 (g := w.heap.size) (t := 23) (a := .string v1) (b := .string v2) (by simp)
      go_wp2_with fail
      go_ret
      exact ⟨rfl, HL14.out.bel⟩
end Go.Proofs.YtliljihkoojggaaGreatDoor
