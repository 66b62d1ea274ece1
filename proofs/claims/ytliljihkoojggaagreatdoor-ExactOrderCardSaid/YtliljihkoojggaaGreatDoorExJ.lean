/- ExactOrder's walk. -/
import Derived.Test.YtliljihkoojggaaGreatDoorExF
import Derived.Test.YtliljihkoojggaaGreatDoorExH
namespace Go.Proofs.YtliljihkoojggaaGreatDoor
open Go.RowKit

theorem Nt.Q.den1 {n1 d1 : List UInt8} {z : Int} (h : Nt.Q n1 d1 z 1) : d1 = [49] := by
  obtain ⟨m, n, p, r, q⟩ := h.ex
  have e := congrArg Int.natAbs q
  rw [Int.natAbs_mul, Int.natAbs_mul, Nt.zi_abs, Int.natAbs_natCast, Int.natAbs_natCast, Nat.mul_one] at e
  have hg := r.g
  rw [e, Nat.gcd_mul_left_left] at hg
  rw [r.den, hg, Lib.decDigits_one (by decide)]
  rfl
theorem sign_nonpos {x : Int} (h : x ≤ 0) : Int.sign x ≤ 0 := by
  rcases Int.lt_or_eq_of_le h with h | rfl
  · rw [Int.sign_eq_neg_one_of_neg h]; decide
  · decide

set_option maxRecDepth 100000 in
set_option maxHeartbeats 8000000 in
theorem order_any (a1 a2 b1 b2 : ByteArray) (w : World) (ha1 : a1.size ≤ 9223372036854775807) (ha2 : a2.size ≤ 9223372036854775807) (hb1 : b1.size ≤ 9223372036854775807) (hb2 : b2.size ≤ 9223372036854775807)
    (htab : Lib.TabIs Tryz.prog w "internal/strconv.uint64pow10" .u64 Lib.pow10Tab) :
    Calls Tryz.prog 4 #[.agg #[.string a1, .string a2], .agg #[.string b1, .string b2]] w fun e w' => e = .returned (.bool true) ∧ Below w.heap.size w w' := by
  have hT := (show ∀ W, Below w.heap.size w W → Lib.TabIs Tryz.prog W "internal/strconv.uint64pow10" .u64 Lib.pow10Tab from Lib.tabBelow_of_tabIs htab)
  have HFR := Lib.hid fun W hW => fractions_any W (hT W hW)
  have HAdd := Lib.hid fun W (hW : Below w.heap.size w W) x1 x2 y1 y2 z1 z2 d1 d2 k1 k2 ha hb hk => add_q x1 x2 y1 y2 z1 z2 d1 d2 k1 k2 W ha hb hk (hT W hW)
  have HSub := Lib.hid fun W (hW : Below w.heap.size w W) x1 x2 y1 y2 z1 z2 d1 d2 k1 k2 ha hb hk => sub_q x1 x2 y1 y2 z1 z2 d1 d2 k1 k2 W ha hb hk (hT W hW)
  have HCmp := Lib.hid fun W x1 x2 y1 y2 z1 z2 d1 d2 k1 k2 ha hb => compare_q x1 x2 y1 y2 z1 z2 d1 d2 k1 k2 W ha hb
  have HFl := Lib.hid fun W (hW : Below w.heap.size w W) x1 x2 z d k ha hk => floor_q x1 x2 z d k W ha hk (hT W hW)
  have HO1 := Lib.hid (show ∀ W, Below w.heap.size w W → Calls Tryz.prog 15 #[.int .i64 1] W fun e w' => e = .returned (.agg #[.string ⟨#[49]⟩, .string ⟨#[49]⟩]) ∧ Below W.heap.size W w' from fun W hW => of_c 1 W (by decide) (hT W hW))
  have HQo := Lib.hid (show Nt.Qk (⟨#[49]⟩ : ByteArray).data.toList (⟨#[49]⟩ : ByteArray).data.toList 1 1 1 from Nt.qk_small 1 1 0 (by decide) (by decide) (by decide) (by decide))
  have HS := Lib.hid (show ∀ p ∈ [(a1, a2), (b1, b2)], p.1.size ≤ 9223372036854775807 ∧ p.2.size ≤ 9223372036854775807 from fun p hp => by
    simp only [List.mem_cons, List.not_mem_nil, or_false] at hp
    rcases hp with rfl | rfl <;> exact ⟨by assumption, by assumption⟩)
  have HL0 := Lib.hid (((Loc.start w).alloc' rfl 23 #[.string a1, .string a2]).alloc' (g := w.heap.size + 1) (by simp) 23 #[.string b1, .string b2])
  clear hT htab ha1 ha2 hb1 hb2
  by_cases hfew : ∀ p ∈ [(a1, a2), (b1, b2)], Few p
  case neg =>
    have HFW := Lib.hid (show ∀ W : World, Calls Tryz.prog 8 #[.slice (some ⟨W.heap.size, 0, none⟩) 2 2] (W.alloc (.cells #[.string a1, .string a2, .string b1, .string b2] 23)) fun e w' => e = .returned (.bool false) ∧ Below (W.alloc (.cells #[.string a1, .string a2, .string b1, .string b2] 23)).heap.size (W.alloc (.cells #[.string a1, .string a2, .string b1, .string b2] 23)) w' from fun W => few_f W.heap.size [(a1, a2), (b1, b2)] _ (frcells2 W a1 a2 b1 b2) (by simp) HS.out hfew)
    clear hfew
    go_enter Tryz.func4, Tryz.ntmps4
    go_upto_region 3 with (go_at_call 7; (with_reducible refine (HFR.out _ HL0.out.bel).mono ?_); rintro e w1 ⟨rfl, hb⟩; have HL1 := Lib.hid (HL0.out.step hb); clear hb)
    obtain ⟨x0, x1⟩ := HL1.out.s2 (g := w.heap.size) (t := 23) (a := .string a1) (b := .string a2) (by simp)
    obtain ⟨y0, y1⟩ := HL1.out.s2 (g := w.heap.size + 1) (t := 23) (a := .string b1) (b := .string b2) (by simp)
    go_wp2_with (go_at_call 8; (with_reducible refine (HFW.out _).mono ?_); rintro e w2 ⟨rfl, hb⟩; have HL2 := Lib.hid ((HL1.out.alloc 23 #[.string a1, .string a2, .string b1, .string b2]).step hb); clear hb)
    go_ret
    exact ⟨rfl, HL2.out.bel⟩
  case pos =>
    have HFW := Lib.hid (show ∀ W : World, Calls Tryz.prog 8 #[.slice (some ⟨W.heap.size, 0, none⟩) 2 2] (W.alloc (.cells #[.string a1, .string a2, .string b1, .string b2] 23)) fun e w' => e = .returned (.bool true) ∧ Below (W.alloc (.cells #[.string a1, .string a2, .string b1, .string b2] 23)).heap.size (W.alloc (.cells #[.string a1, .string a2, .string b1, .string b2] 23)) w' from fun W => few_t W.heap.size [(a1, a2), (b1, b2)] _ (frcells2 W a1 a2 b1 b2) (by simp) HS.out hfew)
    obtain ⟨za, da, qa⟩ := (hfew (a1, a2) (by simp)).qk
    obtain ⟨zb, db, qb⟩ := (hfew (b1, b2) (by simp)).qk
    have HQa := Lib.hid qa
    have HQb := Lib.hid qb
    clear hfew qa qb HS
    go_enter Tryz.func4, Tryz.ntmps4
    go_upto_region 3 with (go_at_call 7; (with_reducible refine (HFR.out _ HL0.out.bel).mono ?_); rintro e w1 ⟨rfl, hb⟩; have HL1 := Lib.hid (HL0.out.step hb); clear hb)
    obtain ⟨x0, x1⟩ := HL1.out.s2 (g := w.heap.size) (t := 23) (a := .string a1) (b := .string a2) (by simp)
    obtain ⟨y0, y1⟩ := HL1.out.s2 (g := w.heap.size + 1) (t := 23) (a := .string b1) (b := .string b2) (by simp)
    go_upto_region 5 with (go_at_call 8; (with_reducible refine (HFW.out _).mono ?_); rintro e w2 ⟨rfl, hb⟩; have HL2 := Lib.hid (((HL1.out.alloc 23 #[.string a1, .string a2, .string b1, .string b2]).step hb).perm (L' := [(w.heap.size + 1, 23, #[.string b1, .string b2]), (w.heap.size, 23, #[.string a1, .string a2])]) (fun x hx => List.mem_cons_of_mem _ hx)); clear hb)
    clear x0 x1 y0 y1
    obtain ⟨f0, f1⟩ := HL2.out.s2 (g := w.heap.size) (t := 23) (a := .string a1) (b := .string a2) (by simp)
    obtain ⟨g0, g1⟩ := HL2.out.s2 (g := w.heap.size + 1) (t := 23) (a := .string b1) (b := .string b2) (by simp)
    go_upto_region 6 with (go_at_call 13; (with_reducible refine (HCmp.out _ _ _ _ _ _ _ _ _ _ _ HQa.out HQb.out).mono ?_); rintro e w3 ⟨r1, rfl, hr, hb⟩; have HL3 := Lib.hid (HL2.out.step hb); have Hr1 := Lib.hid hr; clear hr hb)
    clear f0 f1 g0 g1 HL2
    obtain ⟨f0, f1⟩ := HL3.out.s2 (g := w.heap.size + 1) (t := 23) (a := .string b1) (b := .string b2) (by simp)
    obtain ⟨g0, g1⟩ := HL3.out.s2 (g := w.heap.size) (t := 23) (a := .string a1) (b := .string a2) (by simp)
    go_upto_region 7 with (go_at_call 13; (with_reducible refine (HCmp.out _ _ _ _ _ _ _ _ _ _ _ HQb.out HQa.out).mono ?_); rintro e w4 ⟨r2, rfl, hr, hb⟩; have HL4 := Lib.hid (HL3.out.step hb); have Hr2 := Lib.hid hr; clear hr hb)
    clear f0 f1 g0 g1 HL3
    obtain ⟨f0, f1⟩ := HL4.out.s2 (g := w.heap.size) (t := 23) (a := .string a1) (b := .string a2) (by simp)
    obtain ⟨g0, g1⟩ := HL4.out.s2 (g := w.heap.size + 1) (t := 23) (a := .string b1) (b := .string b2) (by simp)
    go_upto_region 8 with (go_at_call 11; (with_reducible refine (HSub.out _ HL4.out.bel _ _ _ _ _ _ _ _ _ _ HQa.out HQb.out (by decide)).mono ?_); rintro e w5 ⟨d1, d2, rfl, hq, hb⟩; have HL5 := Lib.hid ((HL4.out.step hb).alloc 23 #[.string d1, .string d2]); have HQd := Lib.hid hq; clear hq hb)
    clear f0 f1 g0 g1 HL4
    obtain ⟨f0, fx⟩ := HL5.out.s2 (g := w.heap.size) (t := 23) (a := .string a1) (b := .string a2) (by simp)
    go_upto_region 9 with (go_at_call 14; (with_reducible refine (HFl.out _ HL5.out.bel _ _ _ _ _ HQa.out (by decide)).mono ?_); rintro e w6 ⟨zf, ⟨f1, f2, rfl, hq, hb⟩, l1, l2⟩; have HL6 := Lib.hid ((HL5.out.step hb).alloc 23 #[.string f1, .string f2]); have HQf := Lib.hid hq; have HF1 := Lib.hid l1; have HF2 := Lib.hid l2; clear hq hb l1 l2)
    clear f0 fx HL5
    have e49 := HQf.out.q.den1
    obtain rfl : f2 = ⟨#[49]⟩ := ba_ext e49
    clear e49
    obtain ⟨h0, h1⟩ := HL6.out.s2 (g := w6.heap.size) (t := 23) (a := .string f1) (b := .string ⟨#[49]⟩) (by simp)
    obtain ⟨g0, g1⟩ := HL6.out.s2 (g := w.heap.size) (t := 23) (a := .string a1) (b := .string a2) (by simp)
    go_upto_region 10 with (go_at_call 13; (with_reducible refine (HCmp.out _ _ _ _ _ _ _ _ _ _ _ HQf.out HQa.out).mono ?_); rintro e w7 ⟨r3, rfl, hr, hb⟩; have HL7 := Lib.hid (HL6.out.step hb); have Hr3 := Lib.hid hr; clear hr hb)
    clear h0 h1 g0 g1 HL6
    obtain ⟨h0, h1⟩ := HL7.out.s2 (g := w6.heap.size) (t := 23) (a := .string f1) (b := .string ⟨#[49]⟩) (by simp)
    go_cut [15, 16] (fun v c wx => ∃ z u1 u2, v = .pointer (some ⟨z, 0, none⟩) ∧ c = .int .i64 0 ∧ Nt.Qk u1.data.toList u2.data.toList (zf * (1 : Nat) + 1 * (1 : Nat)) (1 * 1) 42 ∧ Loc w [(z, 23, #[.string u1, .string u2]), (w6.heap.size, 23, #[.string f1, .string ⟨#[49]⟩]), (w5.heap.size, 23, #[.string d1, .string d2]), (w.heap.size + 1, 23, #[.string b1, .string b2]), (w.heap.size, 23, #[.string a1, .string a2])] wx)
    case first =>
      have LT7 := Lib.hid (HL7.out.lt (g := w6.heap.size) (t := 23) (cs := #[.string f1, .string ⟨#[49]⟩]) (by simp))
      have LT5 := Lib.hid (HL7.out.lt (g := w5.heap.size) (t := 23) (cs := #[.string d1, .string d2]) (by simp))
      have LT1 := Lib.hid (HL7.out.lt (g := w.heap.size + 1) (t := 23) (cs := #[.string b1, .string b2]) (by simp))
      go_region_held3 (fun w' => (w'.cell? ⟨w6.heap.size, 0, none⟩ = some (.string f1) ∧ w'.cell? ⟨w6.heap.size, 1, none⟩ = some (.string ⟨#[49]⟩))) (first | assumption | (with_reducible exact HL7.out.drew.s2 (t := 23) (by simp)) | (with_reducible exact (HL7.out.alloc 23 #[.string ⟨#[]⟩, .string ⟨#[]⟩]).drew.s2 (t := 23) (by simp)) | (with_reducible exact HL8.out.s2 (t := 23) (by simp)) | (with_reducible exact (HL8.out.alloc 23 #[.string ⟨#[]⟩, .string ⟨#[]⟩]).s2 (t := 23) (by simp)) | (with_reducible exact HL9.out.s2 (t := 23) (by simp)) | (with_reducible exact (HL9.out.alloc 23 _).s2 (t := 23) (by simp)) | (exact HL9.out.s2f (t := 23) (by simp) (by omega) _ _) | (exact HL9.out.s2f (t := 23) (by simp) (Nat.ne_of_lt LT7.out) _ _) | fail) (first
        | (go_at_call 15; first | ((with_reducible refine (HO1.out _ HL7.out.drew.bel).mono ?_); rintro e w8 ⟨rfl, hb⟩; have HL8 := Lib.hid (HL7.out.drew.step hb); have l2 := HL8.out.lt (g := w6.heap.size) (t := 23) (cs := #[.string f1, .string ⟨#[49]⟩]) (by simp); clear hb) | ((with_reducible refine (HO1.out _ (HL7.out.alloc 23 #[.string ⟨#[]⟩, .string ⟨#[]⟩]).drew.bel).mono ?_); rintro e w8 ⟨rfl, hb⟩; have hl := (HL7.out.alloc 23 #[.string ⟨#[]⟩, .string ⟨#[]⟩]).drew.step hb; obtain ⟨z0, z1, y0, y1⟩ := (hl.blk (g := w7.heap.size) (t := 23) (cs := #[.string ⟨#[]⟩, .string ⟨#[]⟩]) (by simp)).two; have HL8 := Lib.hid hl; clear hb hl))
        | (go_at_call 9; first | ((with_reducible refine (HAdd.out _ HL8.out.bel _ _ _ _ _ _ _ _ _ _ HQf.out HQo.out (by decide)).mono ?_); rintro e w9 ⟨u1, u2, rfl, hq, hb⟩; have hl := HL8.out.step hb; have HL9 := Lib.hid hl; have HQu := Lib.hid hq; (try (have bz := hl.blk (g := w7.heap.size) (t := 23) (cs := #[.string ⟨#[]⟩, .string ⟨#[]⟩]) (List.mem_cons_self ..); clear z0 z1 y0 y1; obtain ⟨z0, z1, y0, y1⟩ := bz.two; clear bz)); clear hq hb hl) | ((with_reducible refine (HAdd.out _ (HL8.out.alloc 23 #[.string ⟨#[]⟩, .string ⟨#[]⟩]).bel _ _ _ _ _ _ _ _ _ _ HQf.out HQo.out (by decide)).mono ?_); rintro e w9 ⟨u1, u2, rfl, hq, hb⟩; have HQu := Lib.hid hq; have hl := (HL8.out.alloc 23 #[.string ⟨#[]⟩, .string ⟨#[]⟩]).step hb; obtain ⟨z0, z1, y0, y1⟩ := (hl.blk (g := w8.heap.size) (t := 23) (cs := #[.string ⟨#[]⟩, .string ⟨#[]⟩]) (by simp)).two; have HL9 := Lib.hid hl; clear hq hb hl)) | fail)
      all_goals
        go_wp2_with fail
        go_meet
        first | exact ⟨_, _, _, rfl, rfl, HQu.out, HL9.out.alloc _ _⟩ | exact ⟨_, _, _, rfl, rfl, HQu.out, HL9.out.set2 (by have := LT7.out; have := LT5.out; have := LT1.out; have := HL8.out.lt (g := w6.heap.size) (t := 23) (cs := #[.string f1, .string ⟨#[49]⟩]) (by simp); have := HL8.out.lt (g := w5.heap.size) (t := 23) (cs := #[.string d1, .string d2]) (by simp); have := HL8.out.lt (g := w.heap.size + 1) (t := 23) (cs := #[.string b1, .string b2]) (by simp); simp <;> omega) _ _⟩ | fail
    case rest =>
      obtain ⟨z, u1, u2, rfl, rfl, hq, hl⟩ := hcut
      have HQu := Lib.hid hq
      have HL10 := Lib.hid hl
      clear hq hl h0 h1
      obtain ⟨h0, h1⟩ := HL10.out.s2 (g := z) (t := 23) (a := .string u1) (b := .string u2) (by simp)
      obtain ⟨g0, g1⟩ := HL10.out.s2 (g := w.heap.size) (t := 23) (a := .string a1) (b := .string a2) (by simp)
      go_upto_region 12 with (go_at_call 13; (with_reducible refine (HCmp.out _ _ _ _ _ _ _ _ _ _ _ HQu.out HQa.out).mono ?_); rintro e w11 ⟨r4, rfl, hr, hb⟩; have HL11 := Lib.hid (HL10.out.step hb); have Hr4 := Lib.hid hr; clear hr hb)
      clear h0 h1 g0 g1 HL10
      obtain ⟨fx, fy⟩ := HL11.out.s2 (g := w6.heap.size) (t := 23) (a := .string f1) (b := .string ⟨#[49]⟩) (by simp)
      obtain ⟨dx, dy⟩ := HL11.out.s2 (g := w5.heap.size) (t := 23) (a := .string d1) (b := .string d2) (by simp)
      obtain ⟨x0, x1⟩ := HL11.out.s2 (g := w.heap.size) (t := 23) (a := .string a1) (b := .string a2) (by simp)
      obtain ⟨y0, y1⟩ := HL11.out.s2 (g := w.heap.size + 1) (t := 23) (a := .string b1) (b := .string b2) (by simp)
      have hr3 : r3 ≤ 0 := by
        have h := HF1.out
        rw [Hr3.out]
        exact sign_nonpos (by push_cast; omega)
      have hr4 : r4 = 1 := by
        have h := HF2.out
        rw [Hr4.out]
        exact Int.sign_eq_one_of_pos (by push_cast; grind)
      subst hr4
      clear Hr4 Hr3 HF1 HF2
      rcases Int.lt_trichotomy (za * db - zb * da) 0 with hlt | heq | hgt
      · have e1 : r1 = -1 := by rw [Hr1.out]; exact Int.sign_eq_neg_one_of_neg hlt
        have e2 : r2 = 1 := by rw [Hr2.out]; exact Int.sign_eq_one_of_pos (by omega)
        subst e1 e2
        have HHP := Lib.hid (show ∀ W, Calls Tryz.prog 16 #[.string d1, .string ⟨#[45]⟩] W fun e w' => e = .returned (.bool true) ∧ W = w' from fun W => by
          have h := Tryz.strings_HasPrefix d1 ⟨#[45]⟩ W
          rw [show (⟨#[45]⟩ : ByteArray).data.toList = [45] from rfl, HQd.out.q.neg, decide_eq_true (by omega)] at h
          exact h.mono fun e w' ⟨h1, h2⟩ => ⟨h1, h2.symm⟩)
        have hd0 := not_str (fun h => Int.ne_of_lt hlt (HQd.out.q.zero.1 h))
        have hs : frSame a1 a2 b1 b2 = false := by
          cases hx : frSame a1 a2 b1 b2 with
          | false => rfl
          | true =>
            obtain ⟨rfl, rfl⟩ := (frSame_iff _ _ _ _).1 hx
            have := HQa.out.q.cross HQb.out.q
            omega
        have he := fr_eql a1 a2 b1 b2
        rw [hs] at he
        clear hs hlt
        clear Hr1 Hr2
        go_wp2_with (go_at_call 16; (with_reducible refine (HHP.out _).mono ?_); rintro e w12 ⟨rfl, rfl⟩)
        go_ret
        exact ⟨rfl, HL11.out.bel⟩
      · have e1 : r1 = 0 := by rw [Hr1.out]; exact by rw [heq]; rfl
        have e2 : r2 = 0 := by rw [Hr2.out]; exact by rw [show zb * da - za * db = 0 by omega]; rfl
        subst e1 e2
        have HHP := Lib.hid (show ∀ W, Calls Tryz.prog 16 #[.string d1, .string ⟨#[45]⟩] W fun e w' => e = .returned (.bool false) ∧ W = w' from fun W => by
          have h := Tryz.strings_HasPrefix d1 ⟨#[45]⟩ W
          rw [show (⟨#[45]⟩ : ByteArray).data.toList = [45] from rfl, HQd.out.q.neg, decide_eq_false (by omega)] at h
          exact h.mono fun e w' ⟨h1, h2⟩ => ⟨h1, h2.symm⟩)
        have hd0 := is_str (HQd.out.q.zero.2 heq)
        obtain ⟨i1, i2⟩ := HQa.out.q.same HQb.out.q (by omega)
        obtain rfl : a1 = b1 := ba_ext i1
        obtain rfl : a2 = b2 := ba_ext i2
        clear i1 i2 heq
        have he := fr_eql_self
        clear Hr1 Hr2
        go_wp2_with (go_at_call 16; (with_reducible refine (HHP.out _).mono ?_); rintro e w12 ⟨rfl, rfl⟩)
        go_ret
        exact ⟨rfl, HL11.out.bel⟩
      · have e1 : r1 = 1 := by rw [Hr1.out]; exact Int.sign_eq_one_of_pos hgt
        have e2 : r2 = -1 := by rw [Hr2.out]; exact Int.sign_eq_neg_one_of_neg (by omega)
        subst e1 e2
        have HHP := Lib.hid (show ∀ W, Calls Tryz.prog 16 #[.string d1, .string ⟨#[45]⟩] W fun e w' => e = .returned (.bool false) ∧ W = w' from fun W => by
          have h := Tryz.strings_HasPrefix d1 ⟨#[45]⟩ W
          rw [show (⟨#[45]⟩ : ByteArray).data.toList = [45] from rfl, HQd.out.q.neg, decide_eq_false (by omega)] at h
          exact h.mono fun e w' ⟨h1, h2⟩ => ⟨h1, h2.symm⟩)
        have hd0 := not_str (fun h => Int.ne_of_gt hgt (HQd.out.q.zero.1 h))
        have hs : frSame a1 a2 b1 b2 = false := by
          cases hx : frSame a1 a2 b1 b2 with
          | false => rfl
          | true =>
            obtain ⟨rfl, rfl⟩ := (frSame_iff _ _ _ _).1 hx
            have := HQa.out.q.cross HQb.out.q
            omega
        have he := fr_eql a1 a2 b1 b2
        rw [hs] at he
        clear hs hgt
        clear Hr1 Hr2
        go_wp2_with (go_at_call 16; (with_reducible refine (HHP.out _).mono ?_); rintro e w12 ⟨rfl, rfl⟩)
        go_ret
        exact ⟨rfl, HL11.out.bel⟩
end Go.Proofs.YtliljihkoojggaaGreatDoor
