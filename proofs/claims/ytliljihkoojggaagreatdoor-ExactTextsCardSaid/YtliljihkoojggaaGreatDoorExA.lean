/- The contracts of exact's Fixed, and of Parse where no point is there. -/
import Derived.Test.YtliljihkoojggaaGreatDoorExE
import Derived.Test.YtliljihkoojggaaGreatDoorExV
namespace Go.Proofs.YtliljihkoojggaaGreatDoor
open Go.RowKit

set_option maxRecDepth 100000 in
set_option maxHeartbeats 4000000 in
theorem fixed_w (a1 a2 : ByteArray) (m : Bool) (n d p : Nat) (w : World) (h1 : a1.size ≤ 9223372036854775807) (h2 : a2.size ≤ 9223372036854775807) (hr : Nt.Rd a1.data.toList a2.data.toList m n d) (hp : p ≤ 100)
    (s1 : (Nt.digs n).length ≤ 200000) (s2 : (Nt.digs d).length ≤ 200000) (hfit : Fits (Nt.rnd (n * 10 ^ p) d) (10 ^ p)) (hql : (Lib.decDigits (Nt.rnd (n * 10 ^ p) d)).length ≤ 3000) (htab : Lib.TabIs Tryz.prog w "internal/strconv.uint64pow10" .u64 Lib.pow10Tab) :
    Calls Tryz.prog 23 #[.agg #[.string a1, .string a2], .int .i64 (p : Int)] w fun e w' => ∃ t : ByteArray, e = .returned (.tuple #[.string t, .int .i64 0]) ∧ t.data.toList = Nt.decT m (Nt.rnd (n * 10 ^ p) d) p ∧ Below w.heap.size w w' := by
  have HRD := Lib.hid fun W => read_ok a1 a2 m n d W h1 h2 hr
  have he := hr.d0
  have HSP := Lib.hid fun (W : World) A c A' c' (h : Nv W (.slice A (Nt.digs n).length c) (Nt.digs n)) => scaled_p m n d p A c A' c' W h (by omega) (by omega)
  have hnp : (Nt.digs (n * 10 ^ p)).length ≤ 400000 := Nat.le_trans (digs_mul_le s1 (digs_ten (by omega))) (by omega)
  have HRO := Lib.hid fun (W : World) A c A' c' (h : Nv W (.slice A (Nt.digs (n * 10 ^ p)).length c) (Nt.digs (n * 10 ^ p))) (h' : Nv W (.slice A' (Nt.digs d).length c') (Nt.digs d)) => rounded_o m (n * 10 ^ p) d A c A' c' W h h' hnp (by omega) he
  have hnn : (Nt.digs (n * 10 ^ p + n * 10 ^ p)).length ≤ 300000 := digs_add_le (k := 200112) (Nat.le_trans (digs_mul_le s1 (digs_ten (by omega))) (by omega)) (Nat.le_trans (digs_mul_le s1 (digs_ten (by omega))) (by omega)) (by omega)
  have hqq : (Nt.digs (Nt.rnd (n * 10 ^ p) d)).length ≤ 400000 := Nat.le_trans (digs_mono (Nat.div_le_self _ _)) (digs_add_le hnn (by omega) (by omega))
  have HSD := Lib.hid fun (W : World) A c A' c' (h : Nv W (.slice A (Nt.digs (Nt.rnd (n * 10 ^ p) d)).length c) (Nt.digs (Nt.rnd (n * 10 ^ p) d))) (h' : Nv W (.slice A' (Nt.digs 1).length c') (Nt.digs 1)) => scaled_d m _ p A c A' c' W h h' (by omega) hqq
  have HT := Lib.hid (show ∀ W, Below w.heap.size w W → Lib.TabIs Tryz.prog W "internal/strconv.uint64pow10" .u64 Lib.pow10Tab from Lib.tabBelow_of_tabIs htab)
  have HDC := Lib.hid fun (W : World) (hW : Below w.heap.size w W) A c v3 (h : Nv W (.slice A (Nt.digs (Nt.rnd (n * 10 ^ p) d)).length c) (Nt.digs (Nt.rnd (n * 10 ^ p) d))) => decimal_any m (Nt.rnd (n * 10 ^ p) d) p A c v3 W h (by omega) hql (HT.out W hW)
  have HF := Lib.hid hfit
  have HP0 := Lib.hid (show 10 ^ p ≠ 0 from Nat.ne_of_gt (Nat.pow_pos (by decide)))
  clear hr h1 h2 s1 s2 hfit htab hnp hnn hqq he hql
  obtain ⟨D, hD⟩ : ∃ D, D = 10 ^ p := ⟨_, rfl⟩
  rw [← hD] at HSP HRO HSD HF HP0 HDC ⊢
  obtain ⟨N, hN⟩ : ∃ N, N = n * D := ⟨_, rfl⟩
  rw [← hN] at HSP HRO HSD HF HDC ⊢
  obtain ⟨q, hq⟩ : ∃ q, q = Nt.rnd N d := ⟨_, rfl⟩
  rw [← hq] at HRO HSD HF HDC ⊢
  clear hD hN hq
  have hp' : (p : Int) ≤ 100 := by omega
  have HL0 := Lib.hid ((Loc.start w).alloc' rfl 23 #[.string a1, .string a2])
  go_enter Tryz.func23, Tryz.ntmps23
  go_wp2_with (first
    | (go_at_call 34; (with_reducible refine (HRD.out _).mono ?_); rintro e w1 ⟨A1, c1, A2, c2, rfl, hn, hd, hb⟩; have HL1 := Lib.hid ((HL0.out.step hb).alloc 53 #[.bool m, .slice A1 (Nt.digs n).length c1, .slice A2 (Nt.digs d).length c2]); have HN1 := Lib.hid (hn.below ((Below.refl _ w1).alloc (Nat.le_refl _) (.cells #[.bool m, .slice A1 (Nt.digs n).length c1, .slice A2 (Nt.digs d).length c2] 53))); have HD1 := Lib.hid (hd.below ((Below.refl _ w1).alloc (Nat.le_refl _) (.cells #[.bool m, .slice A1 (Nt.digs n).length c1, .slice A2 (Nt.digs d).length c2] 53))); clear hn hd hb)
    | (go_at_call 40; first
      | ((with_reducible refine (HSP.out _ _ _ _ _ HN1.out).mono ?_); rintro e w2 ⟨B, k, rfl, hn, hb⟩; have HL2 := Lib.hid (HL1.out.step hb); have HN2 := Lib.hid hn; have HD2 := Lib.hid (HD1.out.below hb); clear hn hb)
      | ((with_reducible refine (HSD.out _ _ _ _ _ HN3.out HD3.out).mono ?_); rintro e w4 ⟨B4, k4, B5, k5, rfl, hn, hd, hb⟩; have hl := HL3.out.step hb; have HL4 := Lib.hid hl; obtain ⟨y0, y1, y2, -, -, -⟩ := (hl.blk (g := w3.heap.size) (t := 53) (cs := #[.bool m, .slice B2 (Nt.digs q).length k2, .slice B3 (Nt.digs 1).length k3]) (by simp)).three; have HN4 := Lib.hid hn; have HD4 := Lib.hid hd; have HN5 := Lib.hid (HN3.out.below hb); clear hn hd hb hl) | fail)
    | (go_at_call 41; (with_reducible refine (HRO.out _ _ _ _ _ HN2.out HD2.out).mono ?_); rintro e w3 ⟨B2, k2, B3, k3, rfl, hn, hd, hb⟩; have HL3 := Lib.hid ((HL2.out.step hb).alloc 53 #[.bool m, .slice B2 (Nt.digs q).length k2, .slice B3 (Nt.digs 1).length k3]); have HN3 := Lib.hid (hn.below ((Below.refl _ w3).alloc (Nat.le_refl _) (.cells #[.bool m, .slice B2 (Nt.digs q).length k2, .slice B3 (Nt.digs 1).length k3] 53))); have HD3 := Lib.hid (hd.below ((Below.refl _ w3).alloc (Nat.le_refl _) (.cells #[.bool m, .slice B2 (Nt.digs q).length k2, .slice B3 (Nt.digs 1).length k3] 53))); clear hn hd hb)
    | (go_at_call 37; (with_reducible refine (write_any _ m q D _ ⟨_, _, rfl, HN4.out, HD4.out⟩ HP0.out HF.out.s1 HF.out.s2 HF.out.f1 HF.out.f2 (HT.out _ HL4.out.bel)).mono ?_); rintro e w5 ⟨hb, sn, sd, rfl, -, -⟩; have hl := (HL4.out.step hb).alloc 23 #[.string sn, .string sd]; have HL5 := Lib.hid hl; clear y0 y1 y2; obtain ⟨y0, y1, y2, -, -, -⟩ := (hl.blk (g := w3.heap.size) (t := 53) (cs := #[.bool m, .slice B2 (Nt.digs q).length k2, .slice B3 (Nt.digs 1).length k3]) (by simp)).three; have HN6 := Lib.hid ((HN5.out.below hb).below ((Below.refl _ w5).alloc (Nat.le_refl _) (.cells #[.string sn, .string sd] 23))); clear hl hb)
    | (go_at_call 46; (with_reducible refine (HDC.out _ HL5.out.bel _ _ _ HN6.out).mono ?_); rintro e w7 ⟨t, rfl, ht, hb⟩; have HTT := Lib.hid ht; have HB := Lib.hid (HL5.out.step hb).bel; clear ht hb))
  go_ret2
  exact ⟨t, rfl, HTT.out, HB.out⟩

set_option maxRecDepth 100000 in
set_option maxHeartbeats 4000000 in
theorem parse_int (s r : ByteArray) (m : Bool) (w : World) (hs : s.data.toList = Nt.sgn m ++ r.data.toList)
    (ha : Nt.allD r.data.toList) (ha0 : r.data.toList ≠ []) (hl : s.size ≤ 1000)
    (hfit : Fits (Nt.dval r.data.toList) 1) (htab : Lib.TabIs Tryz.prog w "internal/strconv.uint64pow10" .u64 Lib.pow10Tab) :
    Calls Tryz.prog 21 #[.string s] w (WriteRet m (Nt.dval r.data.toList) 1 w) := by
  have hsz : s.size = (Nt.sgn m).length + r.size := by
    rw [← ba_len, hs]
    simp only [List.length_append, ba_len]
  have head : r.data.toList.head? ≠ some 45 := by
    cases hx : r.data.toList with
    | nil => exact absurd hx ha0
    | cons c l =>
      have hc := ha c (by rw [hx]; simp)
      simp only [List.head?_cons, ne_eq, Option.some.injEq]
      rintro rfl
      exact absurd hc.1 (by decide)
  have HC1 := Lib.hid (show ∀ W, Calls Tryz.prog 47 #[.string s, .string ⟨#[45]⟩] W fun e w' => e = .returned (.tuple #[.string r, .bool m]) ∧ W = w' from fun W => by
    have h := Tryz.strings_CutPrefix s ⟨#[45]⟩ W
    rw [show (⟨#[45]⟩ : ByteArray).data.toList = [45] from rfl, hs, (Nt.pre_sgn' m _ head).1, (Nt.pre_sgn' m _ head).2, show (⟨r.data.toList.toArray⟩ : ByteArray) = r from ba_ext (by simp)] at h
    exact h.mono fun e w' ⟨h1, h2⟩ => ⟨h1, h2.symm⟩)
  have HC2 := Lib.hid (show ∀ W, Calls Tryz.prog 47 #[.string ⟨#[]⟩, .string ⟨#[46]⟩] W fun e w' => e = .returned (.tuple #[.string ⟨#[]⟩, .bool false]) ∧ W = w' from fun W => by
    have h := Tryz.strings_CutPrefix ⟨#[]⟩ ⟨#[46]⟩ W
    exact h.mono fun e w' ⟨h1, h2⟩ => ⟨h1, h2.symm⟩)
  have HU1 := Lib.hid fun W => run_any r r ⟨#[]⟩ W (by simp) ha (fun c l e => by cases e) (by omega)
  have HPA := Lib.hid fun W => parse_o r r.data.toList W rfl ha (by rw [ba_len]; omega)
  have HTE := Lib.hid (show ∀ W, Calls Tryz.prog 42 #[.int .i64 0] W fun e w' => ∃ A c, e = .returned (.slice A (Nt.digs 1).length c) ∧ Nv w' (.slice A (Nt.digs 1).length c) (Nt.digs 1) ∧ Below W.heap.size W w' from fun W => ten_any 0 W (by omega))
  have HF := Lib.hid hfit
  have hnl : (Nt.digs (Nt.dval r.data.toList)).length ≤ 900000 := hfit.s1
  have HT := Lib.hid (show ∀ W, Below w.heap.size w W → Lib.TabIs Tryz.prog W "internal/strconv.uint64pow10" .u64 Lib.pow10Tab from Lib.tabBelow_of_tabIs htab)
  have ea := emp_false ha0
  have er : r ++ ⟨#[]⟩ = r := ba_ext (by rw [ByteArray.toList_data_append]; simp)
  have HER := Lib.hid er
  have l1 : (r.size : Int) ≤ 1000 := by omega
  obtain ⟨N, hN⟩ : ∃ N, N = Nt.dval r.data.toList := ⟨_, rfl⟩
  rw [← hN] at HPA HF hnl ⊢
  have HTM := Lib.hid (show ∀ (W : World) A c A' c' (h : Nv W (.slice A (Nt.digs N).length c) (Nt.digs N)) (h' : Nv W (.slice A' (Nt.digs 1).length c') (Nt.digs 1)), Calls Tryz.prog 29 #[.slice A (Nt.digs N).length c, .slice A' (Nt.digs 1).length c'] W fun e w' => ∃ B k, e = .returned (.slice B (Nt.digs N).length k) ∧ Nv w' (.slice B (Nt.digs N).length k) (Nt.digs N) ∧ Below W.heap.size W w' from fun W A c A' c' h h' => by
    have h := times_o (.slice A (Nt.digs N).length c) (.slice A' (Nt.digs 1).length c') N 1 W h h' (by omega) (Nat.le_trans (digs_one_le (by decide)) (by decide))
    rwa [Nat.mul_one] at h)
  have hl' : (s.size : Int) ≤ 1000 := by omega
  clear hs ha ha0 hl hfit htab head hsz hN er hnl
  have HL0 := Lib.hid ((Loc.start w).alloc' rfl 23 #[.string ⟨#[]⟩, .string ⟨#[]⟩])
  go_enter Tryz.func21, Tryz.ntmps21
  go_upto_region 18 with (first
    | (go_at_call 47; first | ((with_reducible refine (HC1.out _).mono ?_); rintro e w1 ⟨rfl, rfl⟩) | ((with_reducible refine (HC2.out _).mono ?_); rintro e w1 ⟨rfl, rfl⟩))
    | (go_at_call 48; (with_reducible refine (HU1.out _).mono ?_); rintro e w2 ⟨rfl, hb⟩; have HL2 := Lib.hid (HL0.out.step hb); clear hb)
    | (go_at_call 49; (with_reducible refine (exponent_none _).mono ?_); rintro e w4 ⟨rfl, rfl⟩)
    | (go_at_call 50; (try rw [HER.out]); (with_reducible refine (HPA.out _).mono ?_); rintro e w5 ⟨A1, c1, rfl, hv, hb⟩; have LE5 := Lib.hid (HL2.out.step hb).bel.size; have HL := Lib.hid (((HL2.out.step hb).alloc 63 #[.int .u32 1]).alloc' (g := w5.heap.size + 1) (by simp) 53 #[.bool m, .slice A1 (Nt.digs N).length c1, .slice (some ⟨w5.heap.size, 0, none⟩) 1 1]); have HV := Lib.hid ((hv.below ((Below.refl _ w5).alloc (Nat.le_refl _) (.cells #[.int .u32 1] 63))).below ((Below.refl _ _).alloc (Nat.le_refl _) (.cells #[.bool m, .slice A1 (Nt.digs N).length c1, .slice (some ⟨w5.heap.size, 0, none⟩) 1 1] 53))); have HO := Lib.hid (show Nv _ _ _ from (nv_lit w5 1 (by decide) (by decide) 1 rfl).below ((Below.refl _ _).alloc (Nat.le_refl _) (.cells #[.bool m, .slice A1 (Nt.digs N).length c1, .slice (some ⟨w5.heap.size, 0, none⟩) 1 1] 53))); clear hv hb))
  have i1 := HL.out.drew.c1 (g := w5.heap.size + 1) (t := 53) (a := .bool m) (c := .slice (some ⟨w5.heap.size, 0, none⟩) 1 1) (b := .slice A1 (Nt.digs N).length c1) (by simp)
  go_region_with (first
    | (go_at_call 42; (with_reducible refine (HTE.out _).mono ?_); rintro e w6 ⟨T, ct, rfl, ht, hb⟩; have HL1 := Lib.hid (HL.out.drew.step hb); have i2 := HL1.out.c1 (g := w5.heap.size + 1) (t := 53) (a := .bool m) (c := .slice (some ⟨w5.heap.size, 0, none⟩) 1 1) (b := .slice A1 (Nt.digs N).length c1) (by simp); have HTT := Lib.hid ht; have HV2 := Lib.hid (HV.out.drew.below hb); have HO2 := Lib.hid (HO.out.drew.below hb); clear ht hb)
    | (go_at_call 29; (with_reducible refine (HTM.out _ _ _ _ _ HV2.out HTT.out).mono ?_); rintro e w7 ⟨B, k, rfl, hq, hb⟩; have hl := HL1.out.step hb; obtain ⟨x0, x1, x2, f0, f1, f2⟩ := (hl.blk (g := w5.heap.size + 1) (t := 53) (cs := #[.bool m, .slice A1 (Nt.digs N).length c1, .slice (some ⟨w5.heap.size, 0, none⟩) 1 1]) (by simp)).three; have HLX := Lib.hid hl; have HQ := Lib.hid hq; have HO3 := Lib.hid (HO2.out.below hb); clear hq hb hl) | fail)
  all_goals
    have bz := HLX.out.blk (g := w5.heap.size + 1) (t := 53) (cs := #[.bool m, .slice A1 (Nt.digs N).length c1, .slice (some ⟨w5.heap.size, 0, none⟩) 1 1]) (by simp)
    have HQ2 := Lib.hid (HQ.out.apart1 (i := 1) bz (.slice B (Nt.digs N).length k))
    have HO4 := Lib.hid (HO3.out.apart1 (i := 1) bz (.slice B (Nt.digs N).length k))
    have HLS := Lib.hid (HLX.out.set1 (i := 1) (by intro x hx; have := LE5.out; simp at hx; rcases hx with rfl | rfl <;> simp <;> omega) (.slice B (Nt.digs N).length k))
    clear bz i1 i2
    go_wp2_with (go_at_call 37; (with_reducible refine (write_any _ m N 1 _ ⟨_, _, rfl, HQ2.out, HO4.out⟩ (by decide) HF.out.s1 HF.out.s2 HF.out.f1 HF.out.f2 (HT.out _ HLS.out.bel)).mono ?_); rintro e w8 ⟨hb, sn, sd, rfl, e1, e2⟩; have hl := HLS.out.step hb; have HL8 := Lib.hid hl; have bl := hl.blk (g := w.heap.size) (t := 23) (cs := #[.string ⟨#[]⟩, .string ⟨#[]⟩]) (by simp); have HBL := Lib.hid bl; clear x0 x1 x2 f0 f1 f2; obtain ⟨x0, x1, f0, f1⟩ := bl.two; have E1 := Lib.hid e1; have E2 := Lib.hid e2; clear hl bl hb e1 e2)
    obtain ⟨-, q0, q1⟩ := HBL.out.two_set (.string sn) (.string sd)
    refine bodyPost_ret (v := .tuple #[.agg #[.string sn, .string sd], .int .i64 0]) (by simp [results, Tryz.results21, go_sem, q0, q1]) rfl ?_
    exact ⟨below_two HL8.out.bel (by omega) _ _, sn, sd, rfl, E1.out, E2.out⟩
end Go.Proofs.YtliljihkoojggaaGreatDoor
