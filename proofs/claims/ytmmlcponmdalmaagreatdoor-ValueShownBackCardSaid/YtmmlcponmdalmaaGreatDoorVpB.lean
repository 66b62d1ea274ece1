/- The contracts of exact's Fixed, and of Parse where no point is there. -/
import Derived.Test.YtmmlcponmdalmaaGreatDoorVpG
import Derived.Test.YtmmlcponmdalmaaGreatDoorExV
namespace Go.Proofs.YtmmlcponmdalmaaGreatDoor
open Go.RowKit

set_option maxRecDepth 100000 in
set_option maxHeartbeats 4000000 in
theorem fixed_w (a1 a2 : ByteArray) (m : Bool) (n d p : Nat) (w : World) (h1 : a1.size ≤ 9223372036854775807) (h2 : a2.size ≤ 9223372036854775807) (hr : Nt.Rd a1.data.toList a2.data.toList m n d) (hp : p ≤ 100)
    (s1 : (Nt.digs n).length ≤ 200000) (s2 : (Nt.digs d).length ≤ 200000) (hfit : Fits (Nt.rnd (n * 10 ^ p) d) (10 ^ p)) (hql : (Lib.decDigits (Nt.rnd (n * 10 ^ p) d)).length ≤ 3000) (htab : Lib.TabIs Tryz.prog w "internal/strconv.uint64pow10" .u64 Lib.pow10Tab) :
    Calls Tryz.prog 158 #[.agg #[.string a1, .string a2], .int .i64 (p : Int)] w fun e w' => ∃ t : ByteArray, e = .returned (.tuple #[.string t, .int .i64 0]) ∧ t.data.toList = Nt.decT m (Nt.rnd (n * 10 ^ p) d) p ∧ Below w.heap.size w w' := by
  have HRD := Lib.hid fun W => read_ok a1 a2 m n d W h1 h2 hr
  have he := hr.d0
  have HSP := Lib.hid fun (W : World) A c A' c' (h : Nv W (.slice A (Nt.digs n).length c) (Nt.digs n)) => scaled_p m n d p A c A' c' W h (by omega) (by omega)
  have hnp : (Nt.digs (n * 10 ^ p)).length ≤ 400000 := Nat.le_trans (digs_mul_le s1 (digs_ten (by omega))) (by omega)
  have HRO := Lib.hid fun (W : World) A c A' c' (h : Nv W (.slice A (Nt.digs (n * 10 ^ p)).length c) (Nt.digs (n * 10 ^ p))) (h' : Nv W (.slice A' (Nt.digs d).length c') (Nt.digs d)) => rounded_o m (n * 10 ^ p) d A c A' c' W h h' hnp (by omega) he
  have hnn : (Nt.digs (n * 10 ^ p + n * 10 ^ p)).length ≤ 300000 := digs_add_le (k := 200112) (Nat.le_trans (digs_mul_le s1 (digs_ten (by omega))) (by omega)) (Nat.le_trans (digs_mul_le s1 (digs_ten (by omega))) (by omega)) (by omega)
  have hqq : (Nt.digs (Nt.rnd (n * 10 ^ p) d)).length ≤ 400000 := Nat.le_trans (digs_mono (Nat.div_le_self _ _)) (digs_add_le hnn (by omega) (by omega))
  have HSD := Lib.hid fun (W : World) A c A' c' (h : Nv W (.slice A (Nt.digs (Nt.rnd (n * 10 ^ p) d)).length c) (Nt.digs (Nt.rnd (n * 10 ^ p) d))) (h' : Nv W (.slice A' (Nt.digs 1).length c') (Nt.digs 1)) => scaled_d m _ p A c A' c' W h h' (by omega) hqq
  have HT := Lib.hid (show ∀ W, Below w.heap.size w W → Lib.TabIs Tryz.prog W "internal/strconv.uint64pow10" .u64 Lib.pow10Tab from Lib.tabBelow_of_tabIs htab)
  have HDC := Lib.hid fun (W : World) (hW : Below w.heap.size w W) A c v3 (h : Nv W (.slice A (Nt.digs (Nt.rnd (n * 10 ^ p) d)).length c) (Nt.digs (Nt.rnd (n * 10 ^ p) d))) => decimal_any m (Nt.rnd (n * 10 ^ p) d) p A c v3 W h (by omega) hql (HT.out W hW)
  have HF := Lib.hid hfit
  have HP0 := Lib.hid (show 10 ^ p ≠ 0 from Nat.ne_of_gt (Nat.pow_pos (by decide)))
  clear hr h1 h2 s1 s2 hfit htab hnp hnn hqq he hql
  obtain ⟨D, hD⟩ : ∃ D, D = 10 ^ p := ⟨_, rfl⟩
  rw [← hD] at HSP HRO HSD HF HP0 HDC ⊢
  obtain ⟨N, hN⟩ : ∃ N, N = n * D := ⟨_, rfl⟩
  rw [← hN] at HSP HRO HSD HF HDC ⊢
  obtain ⟨q, hq⟩ : ∃ q, q = Nt.rnd N d := ⟨_, rfl⟩
  rw [← hq] at HRO HSD HF HDC ⊢
  clear hD hN hq
  have hp' : (p : Int) ≤ 100 := by omega
  have HL0 := Lib.hid ((Loc.start w).alloc' rfl 24 #[.string a1, .string a2])
  go_enter Tryz.func158, Tryz.ntmps158
  go_wp2_with (first
    | (go_at_call 46; (with_reducible refine (HRD.out _).mono ?_); rintro e w1 ⟨A1, c1, A2, c2, rfl, hn, hd, hb⟩; have HL1 := Lib.hid ((HL0.out.step hb).alloc 89 #[.bool m, .slice A1 (Nt.digs n).length c1, .slice A2 (Nt.digs d).length c2]); have HN1 := Lib.hid (hn.below ((Below.refl _ w1).alloc (Nat.le_refl _) (.cells #[.bool m, .slice A1 (Nt.digs n).length c1, .slice A2 (Nt.digs d).length c2] 89))); have HD1 := Lib.hid (hd.below ((Below.refl _ w1).alloc (Nat.le_refl _) (.cells #[.bool m, .slice A1 (Nt.digs n).length c1, .slice A2 (Nt.digs d).length c2] 89))); clear hn hd hb)
    | (go_at_call 191; first
      | ((with_reducible refine (HSP.out _ _ _ _ _ HN1.out).mono ?_); rintro e w2 ⟨B, k, rfl, hn, hb⟩; have HL2 := Lib.hid (HL1.out.step hb); have HN2 := Lib.hid hn; have HD2 := Lib.hid (HD1.out.below hb); clear hn hb)
      | ((with_reducible refine (HSD.out _ _ _ _ _ HN3.out HD3.out).mono ?_); rintro e w4 ⟨B4, k4, B5, k5, rfl, hn, hd, hb⟩; have hl := HL3.out.step hb; have HL4 := Lib.hid hl; obtain ⟨y0, y1, y2, -, -, -⟩ := (hl.blk (g := w3.heap.size) (t := 89) (cs := #[.bool m, .slice B2 (Nt.digs q).length k2, .slice B3 (Nt.digs 1).length k3]) (by simp)).three; have HN4 := Lib.hid hn; have HD4 := Lib.hid hd; have HN5 := Lib.hid (HN3.out.below hb); clear hn hd hb hl) | fail)
    | (go_at_call 192; (with_reducible refine (HRO.out _ _ _ _ _ HN2.out HD2.out).mono ?_); rintro e w3 ⟨B2, k2, B3, k3, rfl, hn, hd, hb⟩; have HL3 := Lib.hid ((HL2.out.step hb).alloc 89 #[.bool m, .slice B2 (Nt.digs q).length k2, .slice B3 (Nt.digs 1).length k3]); have HN3 := Lib.hid (hn.below ((Below.refl _ w3).alloc (Nat.le_refl _) (.cells #[.bool m, .slice B2 (Nt.digs q).length k2, .slice B3 (Nt.digs 1).length k3] 89))); have HD3 := Lib.hid (hd.below ((Below.refl _ w3).alloc (Nat.le_refl _) (.cells #[.bool m, .slice B2 (Nt.digs q).length k2, .slice B3 (Nt.digs 1).length k3] 89))); clear hn hd hb)
    | (go_at_call 97; (with_reducible refine (write_any _ m q D _ ⟨_, _, rfl, HN4.out, HD4.out⟩ HP0.out HF.out.s1 HF.out.s2 HF.out.f1 HF.out.f2 (HT.out _ HL4.out.bel)).mono ?_); rintro e w5 ⟨hb, sn, sd, rfl, -, -⟩; have hl := (HL4.out.step hb).alloc 24 #[.string sn, .string sd]; have HL5 := Lib.hid hl; clear y0 y1 y2; obtain ⟨y0, y1, y2, -, -, -⟩ := (hl.blk (g := w3.heap.size) (t := 89) (cs := #[.bool m, .slice B2 (Nt.digs q).length k2, .slice B3 (Nt.digs 1).length k3]) (by simp)).three; have HN6 := Lib.hid ((HN5.out.below hb).below ((Below.refl _ w5).alloc (Nat.le_refl _) (.cells #[.string sn, .string sd] 24))); clear hl hb)
    | (go_at_call 53; (with_reducible refine (HDC.out _ HL5.out.bel _ _ _ HN6.out).mono ?_); rintro e w7 ⟨t, rfl, ht, hb⟩; have HTT := Lib.hid ht; have HB := Lib.hid (HL5.out.step hb).bel; clear ht hb))
  go_ret2
  exact ⟨t, rfl, HTT.out, HB.out⟩

set_option maxRecDepth 100000 in
set_option maxHeartbeats 4000000 in
theorem parse_int (s r : ByteArray) (m : Bool) (w : World) (hs : s.data.toList = Nt.sgn m ++ r.data.toList)
    (ha : Nt.allD r.data.toList) (ha0 : r.data.toList ≠ []) (hl : s.size ≤ 1000)
    (hfit : Fits (Nt.dval r.data.toList) 1) (htab : Lib.TabIs Tryz.prog w "internal/strconv.uint64pow10" .u64 Lib.pow10Tab) :
    Calls Tryz.prog 114 #[.string s] w (WriteRet m (Nt.dval r.data.toList) 1 w) := by
  have hsz : s.size = (Nt.sgn m).length + r.size := by
    rw [← ba_len, hs]
    simp only [List.length_append, ba_len]
  have head : r.data.toList.head? ≠ some 45 := by
    cases hx : r.data.toList with
    | nil => exact absurd hx ha0
    | cons c l =>
      have hc := ha c (by rw [hx]; simp)
      simp only [List.head?_cons, ne_eq, Option.some.injEq]
      rintro rfl
      exact absurd hc.1 (by decide)
  have HC1 := Lib.hid (show ∀ W, Calls Tryz.prog 55 #[.string s, .string ⟨#[45]⟩] W fun e w' => e = .returned (.tuple #[.string r, .bool m]) ∧ W = w' from fun W => by
    have h := Tryz.strings_CutPrefix s ⟨#[45]⟩ W
    rw [show (⟨#[45]⟩ : ByteArray).data.toList = [45] from rfl, hs, (Nt.pre_sgn' m _ head).1, (Nt.pre_sgn' m _ head).2, show (⟨r.data.toList.toArray⟩ : ByteArray) = r from ba_ext (by simp)] at h
    exact h.mono fun e w' ⟨h1, h2⟩ => ⟨h1, h2.symm⟩)
  have HC2 := Lib.hid (show ∀ W, Calls Tryz.prog 55 #[.string ⟨#[]⟩, .string ⟨#[46]⟩] W fun e w' => e = .returned (.tuple #[.string ⟨#[]⟩, .bool false]) ∧ W = w' from fun W => by
    have h := Tryz.strings_CutPrefix ⟨#[]⟩ ⟨#[46]⟩ W
    exact h.mono fun e w' ⟨h1, h2⟩ => ⟨h1, h2.symm⟩)
  have HU1 := Lib.hid fun W => run_any r r ⟨#[]⟩ W (by simp) ha (fun c l e => by cases e) (by omega)
  have HPA := Lib.hid fun W => parse_o r r.data.toList W rfl ha (by rw [ba_len]; omega)
  have HTE := Lib.hid (show ∀ W, Calls Tryz.prog 52 #[.int .i64 0] W fun e w' => ∃ A c, e = .returned (.slice A (Nt.digs 1).length c) ∧ Nv w' (.slice A (Nt.digs 1).length c) (Nt.digs 1) ∧ Below W.heap.size W w' from fun W => ten_any 0 W (by omega))
  have HF := Lib.hid hfit
  have hnl : (Nt.digs (Nt.dval r.data.toList)).length ≤ 900000 := hfit.s1
  have HT := Lib.hid (show ∀ W, Below w.heap.size w W → Lib.TabIs Tryz.prog W "internal/strconv.uint64pow10" .u64 Lib.pow10Tab from Lib.tabBelow_of_tabIs htab)
  have ea := emp_false ha0
  have er : r ++ ⟨#[]⟩ = r := ba_ext (by rw [ByteArray.toList_data_append]; simp)
  have HER := Lib.hid er
  have l1 : (r.size : Int) ≤ 1000 := by omega
  obtain ⟨N, hN⟩ : ∃ N, N = Nt.dval r.data.toList := ⟨_, rfl⟩
  rw [← hN] at HPA HF hnl ⊢
  have HTM := Lib.hid (show ∀ (W : World) A c A' c' (h : Nv W (.slice A (Nt.digs N).length c) (Nt.digs N)) (h' : Nv W (.slice A' (Nt.digs 1).length c') (Nt.digs 1)), Calls Tryz.prog 51 #[.slice A (Nt.digs N).length c, .slice A' (Nt.digs 1).length c'] W fun e w' => ∃ B k, e = .returned (.slice B (Nt.digs N).length k) ∧ Nv w' (.slice B (Nt.digs N).length k) (Nt.digs N) ∧ Below W.heap.size W w' from fun W A c A' c' h h' => by
    have h := times_o (.slice A (Nt.digs N).length c) (.slice A' (Nt.digs 1).length c') N 1 W h h' (by omega) (Nat.le_trans (digs_one_le (by decide)) (by decide))
    rwa [Nat.mul_one] at h)
  have hl' : (s.size : Int) ≤ 1000 := by omega
  clear hs ha ha0 hl hfit htab head hsz hN er hnl
  have HL0 := Lib.hid ((Loc.start w).alloc' rfl 24 #[.string ⟨#[]⟩, .string ⟨#[]⟩])
  go_enter Tryz.func114, Tryz.ntmps114
  go_upto_region 18 with (first
    | (go_at_call 55; first | ((with_reducible refine (HC1.out _).mono ?_); rintro e w1 ⟨rfl, rfl⟩) | ((with_reducible refine (HC2.out _).mono ?_); rintro e w1 ⟨rfl, rfl⟩))
    | (go_at_call 170; (with_reducible refine (HU1.out _).mono ?_); rintro e w2 ⟨rfl, hb⟩; have HL2 := Lib.hid (HL0.out.step hb); clear hb)
    | (go_at_call 171; (with_reducible refine (exponent_none _).mono ?_); rintro e w4 ⟨rfl, rfl⟩)
    | (go_at_call 105; (try rw [HER.out]); (with_reducible refine (HPA.out _).mono ?_); rintro e w5 ⟨A1, c1, rfl, hv, hb⟩; have LE5 := Lib.hid (HL2.out.step hb).bel.size; have HL := Lib.hid (((HL2.out.step hb).alloc 100 #[.int .u32 1]).alloc' (g := w5.heap.size + 1) (by simp) 89 #[.bool m, .slice A1 (Nt.digs N).length c1, .slice (some ⟨w5.heap.size, 0, none⟩) 1 1]); have HV := Lib.hid ((hv.below ((Below.refl _ w5).alloc (Nat.le_refl _) (.cells #[.int .u32 1] 100))).below ((Below.refl _ _).alloc (Nat.le_refl _) (.cells #[.bool m, .slice A1 (Nt.digs N).length c1, .slice (some ⟨w5.heap.size, 0, none⟩) 1 1] 89))); have HO := Lib.hid (show Nv _ _ _ from (nv_lit w5 1 (by decide) (by decide) 1 rfl).below ((Below.refl _ _).alloc (Nat.le_refl _) (.cells #[.bool m, .slice A1 (Nt.digs N).length c1, .slice (some ⟨w5.heap.size, 0, none⟩) 1 1] 89))); clear hv hb))
  have i1 := HL.out.drew.c1 (g := w5.heap.size + 1) (t := 89) (a := .bool m) (c := .slice (some ⟨w5.heap.size, 0, none⟩) 1 1) (b := .slice A1 (Nt.digs N).length c1) (by simp)
  go_region_with (first
    | (go_at_call 52; (with_reducible refine (HTE.out _).mono ?_); rintro e w6 ⟨T, ct, rfl, ht, hb⟩; have HL1 := Lib.hid (HL.out.drew.step hb); have i2 := HL1.out.c1 (g := w5.heap.size + 1) (t := 89) (a := .bool m) (c := .slice (some ⟨w5.heap.size, 0, none⟩) 1 1) (b := .slice A1 (Nt.digs N).length c1) (by simp); have HTT := Lib.hid ht; have HV2 := Lib.hid (HV.out.drew.below hb); have HO2 := Lib.hid (HO.out.drew.below hb); clear ht hb)
    | (go_at_call 51; (with_reducible refine (HTM.out _ _ _ _ _ HV2.out HTT.out).mono ?_); rintro e w7 ⟨B, k, rfl, hq, hb⟩; have hl := HL1.out.step hb; obtain ⟨x0, x1, x2, f0, f1, f2⟩ := (hl.blk (g := w5.heap.size + 1) (t := 89) (cs := #[.bool m, .slice A1 (Nt.digs N).length c1, .slice (some ⟨w5.heap.size, 0, none⟩) 1 1]) (by simp)).three; have HLX := Lib.hid hl; have HQ := Lib.hid hq; have HO3 := Lib.hid (HO2.out.below hb); clear hq hb hl) | fail)
  all_goals
    have bz := HLX.out.blk (g := w5.heap.size + 1) (t := 89) (cs := #[.bool m, .slice A1 (Nt.digs N).length c1, .slice (some ⟨w5.heap.size, 0, none⟩) 1 1]) (by simp)
    have HQ2 := Lib.hid (HQ.out.apart1 (i := 1) bz (.slice B (Nt.digs N).length k))
    have HO4 := Lib.hid (HO3.out.apart1 (i := 1) bz (.slice B (Nt.digs N).length k))
    have HLS := Lib.hid (HLX.out.set1 (i := 1) (by intro x hx; have := LE5.out; simp at hx; rcases hx with rfl | rfl <;> simp <;> omega) (.slice B (Nt.digs N).length k))
    clear bz i1 i2
    go_wp2_with (go_at_call 97; (with_reducible refine (write_any _ m N 1 _ ⟨_, _, rfl, HQ2.out, HO4.out⟩ (by decide) HF.out.s1 HF.out.s2 HF.out.f1 HF.out.f2 (HT.out _ HLS.out.bel)).mono ?_); rintro e w8 ⟨hb, sn, sd, rfl, e1, e2⟩; have hl := HLS.out.step hb; have HL8 := Lib.hid hl; have bl := hl.blk (g := w.heap.size) (t := 24) (cs := #[.string ⟨#[]⟩, .string ⟨#[]⟩]) (by simp); have HBL := Lib.hid bl; clear x0 x1 x2 f0 f1 f2; obtain ⟨x0, x1, f0, f1⟩ := bl.two; have E1 := Lib.hid e1; have E2 := Lib.hid e2; clear hl bl hb e1 e2)
    obtain ⟨-, q0, q1⟩ := HBL.out.two_set (.string sn) (.string sd)
    refine bodyPost_ret (v := .tuple #[.agg #[.string sn, .string sd], .int .i64 0]) (by simp [results, Tryz.results114, go_sem, q0, q1]) rfl ?_
    exact ⟨below_two HL8.out.bel (by omega) _ _, sn, sd, rfl, E1.out, E2.out⟩
end Go.Proofs.YtmmlcponmdalmaaGreatDoor

namespace Go.Proofs.YtmmlcponmdalmaaGreatDoor
open Go.RowKit
namespace Nt
theorem allD_pad (p : Nat) {l : List UInt8} (h : allD l) : allD (pad p l) := fun c hc => by
  rcases List.mem_append.1 hc with hc | hc
  · rw [(List.mem_replicate.1 hc).2]; exact ⟨by decide, by decide⟩
  · exact h c hc
theorem dval_zeros (k : Nat) (l : List UInt8) : dval (List.replicate k 48 ++ l) = dval l := by
  induction k with
  | zero => rfl
  | succ k ih => rw [List.replicate_succ, List.cons_append, dval_cons, ih]; simp
theorem dval_pad (p q : Nat) : dval (pad p (Lib.decDigits q)) = q := by rw [pad, dval_zeros, dval_dd]
theorem pad_len_le (p : Nat) (l : List UInt8) : (pad p l).length ≤ p + 1 + l.length := by
  unfold pad
  rw [List.length_append, List.length_replicate]
  omega
theorem decT_len (m : Bool) (q p : Nat) : (decT m q p).length ≤ 3 + p + (Lib.decDigits q).length := by
  have h := pad_len_le p (Lib.decDigits q)
  unfold decT dotted
  rw [List.length_append]
  have hs : (sgn (m && decide (q ≠ 0))).length ≤ 1 := by unfold sgn; split <;> simp
  split
  · omega
  · rw [List.length_append, List.length_cons, List.length_take, List.length_drop]
    omega
theorem sgn_noDot (b : Bool) : ∀ c ∈ sgn b, c ≠ 46 := by
  unfold sgn
  split
  · intro c hc; rw [List.mem_singleton.1 hc]; decide
  · intro c hc; cases hc
theorem noDot {l : List UInt8} (h : allD l) : ∀ c ∈ l, c ≠ 46 := fun c hc e => by
  have := h c hc
  subst e
  exact absurd this.1 (by decide)
end Nt
theorem index_none {l : List UInt8} (h : ∀ c ∈ l, c ≠ 46) : Lib.index l [46] = -1 := by
  induction l with
  | nil => rfl
  | cons b t ih =>
    have hb : ([46] : List UInt8).isPrefixOf (b :: t) = false := by
      simp [List.isPrefixOf]
      exact fun e => h b (by simp) e.symm
    have := ih fun c hc => h c (by simp [hc])
    simp [Lib.index, hb, this]
theorem index_dot {l t : List UInt8} (h : ∀ c ∈ l, c ≠ 46) : Lib.index (l ++ 46 :: t) [46] = l.length := by
  induction l with
  | nil => simp [Lib.index, List.isPrefixOf]
  | cons b u ih =>
    have hb : ([46] : List UInt8).isPrefixOf (b :: (u ++ 46 :: t)) = false := by
      simp [List.isPrefixOf]
      exact fun e => h b (by simp) e.symm
    have := ih fun c hc => h c (by simp [hc])
    rw [List.cons_append]
    simp only [Lib.index, hb, this, List.length_cons]
    simp
theorem cut_at' {l t : List UInt8} (h : ∀ c ∈ l, c ≠ 46) : (Lib.cut (l ++ 46 :: t) [46]).2.1 = t := by
  unfold Lib.cut
  rw [index_dot h, if_pos (by omega)]
  simp
theorem cut_dot (m : Bool) (q p : Nat) : (Lib.cut (Nt.decT m q p) [46]).2.1.length = p := by
  have ha := Nt.allD_pad p (Nt.allD_dd q)
  have hl := Nt.pad_len p (Lib.decDigits q)
  unfold Nt.decT Nt.dotted
  by_cases h0 : p = 0
  · subst h0
    rw [if_pos rfl]
    have hi := index_none (l := Nt.sgn (m && decide (q ≠ 0)) ++ Nt.pad 0 (Lib.decDigits q)) (fun c hc => by
      rcases List.mem_append.1 hc with hc | hc
      · exact Nt.sgn_noDot _ c hc
      · exact Nt.noDot ha c hc)
    unfold Lib.cut
    rw [hi]
    simp
  · rw [if_neg h0, ← List.append_assoc]
    rw [cut_at' (fun c hc => by
      rcases List.mem_append.1 hc with hc | hc
      · exact Nt.sgn_noDot _ c hc
      · exact Nt.noDot ha c (List.mem_of_mem_take hc)), List.length_drop]
    omega
theorem parse_back (t a1 a2 : ByteArray) (m : Bool) (n d q p E : Nat) (w : World) (ht : t.data.toList = Nt.decT m q p) (hr : Nt.Rd a1.data.toList a2.data.toList m n d) (h : q * d = n * 10 ^ p)
    (hp : p ≤ 200) (hE : E ≤ 90) (hn : n < 10 ^ E) (hd : d < 10 ^ E) (htab : Lib.TabIs Tryz.prog w "internal/strconv.uint64pow10" .u64 Lib.pow10Tab) :
    Calls Tryz.prog 114 #[.string t] w fun e w' => e = .returned (.tuple #[.agg #[.string a1, .string a2], .int .i64 0]) ∧ Below w.heap.size w w' := by
  have hp0 : 10 ^ p ≠ 0 := Nat.ne_of_gt (Nat.pow_pos (by decide))
  have hqle : q ≤ n * 10 ^ p := by
    rw [← h]
    exact Nat.le_mul_of_pos_right _ (Nat.pos_of_ne_zero hr.d0)
  have hq10 : q ≤ 10 ^ (E + p) := by
    refine Nat.le_trans hqle ?_
    rw [Nat.pow_add]
    exact Nat.mul_le_mul_right _ (Nat.le_of_lt hn)
  have hql : (Lib.decDigits q).length ≤ E + p + 1 := by
    have h1 : q < 10 ^ (E + p + 1) := Nat.lt_of_le_of_lt hq10 (Nat.pow_lt_pow_right (by decide) (by omega))
    exact Nt.dd_le h1
  have hts : t.size ≤ 1000 := by
    have h1 := Nt.decT_len m q p
    rw [← ht] at h1
    rw [← ba_len]
    omega
  obtain ⟨s, hs⟩ : ∃ s, s = (m && decide (q ≠ 0)) := ⟨_, rfl⟩
  have hzi : Nt.zi s q * d = Nt.zi m n * (10 ^ p : Nat) := by
    have h' : (q : Int) * d = (n : Int) * (10 ^ p : Nat) := by exact_mod_cast h
    by_cases hq0 : q = 0
    · subst hq0
      have hn0 : n = 0 := by
        rw [Nat.zero_mul] at h
        rcases Nat.mul_eq_zero.1 h.symm with h | h
        · exact h
        · exact absurd h hp0
      subst hn0
      rw [Nt.zi_zero, Nt.zi_zero]
      simp
    · have hs2 : s = m := by rw [hs]; simp [hq0]
      rw [hs2]
      cases m with
      | false => exact h'
      | true => simp only [Nt.zi, if_true]; rw [Int.neg_mul, Int.neg_mul, h']
  have hzk : (Nt.zi m n).natAbs ≤ 10 ^ E := by rw [Nt.zi_abs]; exact Nat.le_of_lt hn
  have hfit : Fits q (10 ^ p) := fits_of (m := s) (d := d) (z := Nt.zi m n) hp0 hr.d0 hzi hzk (Nat.le_of_lt hd) (by omega) (i := 60) (by omega) (lt_B hq10 (by omega)) (lt_B (k := p) (Nat.le_refl _) (by omega))
  have hback : ∀ e w', WriteRet s q (10 ^ p) w e w' → e = .returned (.tuple #[.agg #[.string a1, .string a2], .int .i64 0]) ∧ Below w.heap.size w w' := by
    rintro e w' ⟨hb, sn, sd, rfl, e1, e2⟩
    have hk := Nt.w_qk (m := s) (n := q) (p := 10 ^ p) (d := d) (z := Nt.zi m n) (k := E) hp0 hr.d0 hzi hzk (Nat.le_of_lt hd) (by omega)
    rw [← e1, ← e2] at hk
    have ha : Nt.Q a1.data.toList a2.data.toList (Nt.zi m n) d := ⟨hr.d0, m, n, d, hr, rfl⟩
    obtain ⟨i1, i2⟩ := hk.q.same ha rfl
    obtain rfl : sn = a1 := ba_ext i1
    obtain rfl : sd = a2 := ba_ext i2
    exact ⟨rfl, hb⟩
  have hda := Nt.allD_pad p (Nt.allD_dd q)
  have hpl := Nt.pad_len p (Lib.decDigits q)
  by_cases h0 : p = 0
  · subst h0
    have hv := Nt.dval_pad 0 q
    have ht2 : t.data.toList = Nt.sgn s ++ Nt.pad 0 (Lib.decDigits q) := by rw [ht, hs]; rfl
    have hpi := parse_int t ⟨(Nt.pad 0 (Lib.decDigits q)).toArray⟩ s w ht2 hda (fun e => by
      have e' : Nt.pad 0 (Lib.decDigits q) = [] := e
      rw [e'] at hpl; simp at hpl) hts (by rw [show (⟨(Nt.pad 0 (Lib.decDigits q)).toArray⟩ : ByteArray).data.toList = Nt.pad 0 (Lib.decDigits q) from rfl, hv]; exact hfit) htab
    rw [show (⟨(Nt.pad 0 (Lib.decDigits q)).toArray⟩ : ByteArray).data.toList = Nt.pad 0 (Lib.decDigits q) from rfl, hv] at hpi
    exact hpi.mono hback
  · obtain ⟨P, hP⟩ : ∃ P, P = Nt.pad p (Lib.decDigits q) := ⟨_, rfl⟩
    have hv : Nt.dval (P.take (P.length - p) ++ P.drop (P.length - p)) = q := by rw [List.take_append_drop, hP]; exact Nt.dval_pad p q
    rw [← hP] at hda hpl
    have ht2 : t.data.toList = Nt.sgn s ++ (P.take (P.length - p) ++ 46 :: P.drop (P.length - p)) := by rw [ht, hs, hP, Nt.decT, Nt.dotted, if_neg h0]
    have hsz : (⟨(P.drop (P.length - p)).toArray⟩ : ByteArray).size = p := by
      rw [← ba_len]
      show (P.drop (P.length - p)).length = p
      rw [List.length_drop]; omega
    have hpf := parse_frac t ⟨(P.take (P.length - p) ++ 46 :: P.drop (P.length - p)).toArray⟩ ⟨(P.take (P.length - p)).toArray⟩ ⟨(46 :: P.drop (P.length - p)).toArray⟩ ⟨(P.drop (P.length - p)).toArray⟩ s w ht2 rfl rfl
      (fun c hc => hda c (List.mem_of_mem_take hc)) (fun e => by
        have e' : P.take (P.length - p) = [] := e
        have := congrArg List.length e'
        rw [List.length_take] at this
        simp at this; omega) (fun c hc => hda c (List.mem_of_mem_drop hc)) (fun e => by
        have e' : P.drop (P.length - p) = [] := e
        have := congrArg List.length e'
        rw [List.length_drop] at this
        simp at this; omega) hts (by
        rw [hsz]
        show Fits (Nt.dval (P.take (P.length - p) ++ P.drop (P.length - p))) _
        rw [hv]; exact hfit) htab
    rw [hsz] at hpf
    have hpf2 : Calls Tryz.prog 114 #[.string t] w (WriteRet s (Nt.dval (P.take (P.length - p) ++ P.drop (P.length - p))) (10 ^ p) w) := hpf
    rw [hv] at hpf2
    exact hpf2.mono hback
end Go.Proofs.YtmmlcponmdalmaaGreatDoor

namespace Go.Proofs.YtmmlcponmdalmaaGreatDoor
open Go.RowKit

set_option maxRecDepth 100000 in
set_option maxHeartbeats 4000000 in
theorem write_over (x : Value) (m : Bool) (n d : Nat) (w : World) (h : Nm w x m n d) (hd : d ≠ 0) (s1 : (Nt.digs n).length ≤ 900000) (s2 : (Nt.digs d).length ≤ 900000)
    (hn0 : n ≠ 0) (f1 : 300 < (Lib.decDigits (n / Nat.gcd n d)).length) (htab : Lib.TabIs Tryz.prog w "internal/strconv.uint64pow10" .u64 Lib.pow10Tab) :
    Calls Tryz.prog 97 #[x] w (fun e w' => e = .returned (.tuple #[.agg #[.string ⟨#[]⟩, .string ⟨#[]⟩], .int .i64 19]) ∧ Below w.heap.size w w') := by
  obtain ⟨va, vb, rfl, ha, hb⟩ := h.ex
  have HA := Lib.hid ha
  have HB := Lib.hid hb
  have HT := Lib.hid (show ∀ W, Below w.heap.size w W → Lib.TabIs Tryz.prog W "internal/strconv.uint64pow10" .u64 Lib.pow10Tab from Lib.tabBelow_of_tabIs htab)
  clear htab h
  obtain ⟨A, c, rfl, -, -, -, -⟩ := ha.ex
  obtain ⟨A', c', rfl, -, -, -, -⟩ := hb.ex
  clear ha hb
  have hpos := Nat.pos_of_ne_zero hn0
  clear hn0
  have hl : (Nt.digs n).length ≠ 0 := by rw [Nt.digs_pos hpos]; simp
  have hz : (((Nt.digs n).length : Int) == 0) = false := by rw [beq_eq_false_iff_ne]; omega
  obtain ⟨g, hg⟩ : ∃ g, g = Nat.gcd n d := ⟨_, rfl⟩
  have hg0 : g ≠ 0 := by rw [hg]; exact fun e => hd (Nat.gcd_eq_zero_iff.1 e).2
  have hgl : (Nt.digs g).length ≤ 900000 := Nat.le_trans (digs_mono (by rw [hg]; exact Nat.gcd_le_left d hpos)) s1
  rw [← hg] at f1
  have HG := Lib.hid hg
  have HF1 := Lib.hid f1
  have hco := fun (W : World) (hb : Below w.heap.size w W) => common_any (.slice A (Nt.digs n).length c) (.slice A' (Nt.digs d).length c') n d W (HA.out.below hb) (HB.out.below hb) s1 s2
  rw [← hg] at hco
  have HCO := Lib.hid hco
  have HDN := Lib.hid fun (W : World) (vg : Value) (h1 : Nv W (.slice A (Nt.digs n).length c) (Nt.digs n)) (h2 : Nv W vg (Nt.digs g)) => divide_n _ vg n g W h1 h2 s1 hgl hg0
  have HDD := Lib.hid fun (W : World) (vg : Value) (h1 : Nv W (.slice A' (Nt.digs d).length c') (Nt.digs d)) (h2 : Nv W vg (Nt.digs g)) => divide_n _ vg d g W h1 h2 s2 hgl hg0
  clear hco hg hg0 f1 hgl hl s1 s2
  have HX0 := Lib.hid ((Blk.new w 89 #[.bool m, .slice A (Nt.digs n).length c, .slice A' (Nt.digs d).length c']).alloc (.cells #[.string ⟨#[]⟩, .string ⟨#[]⟩] 24))
  have hR0 := Blk.new (w.alloc (.cells #[.bool m, .slice A (Nt.digs n).length c, .slice A' (Nt.digs d).length c'] 89)) 24 #[.string ⟨#[]⟩, .string ⟨#[]⟩]
  rw [World.size_alloc] at hR0
  have HR0 := Lib.hid hR0
  have HBe0 := Lib.hid (((Below.refl _ w).alloc (Nat.le_refl _) (.cells #[.bool m, .slice A (Nt.digs n).length c, .slice A' (Nt.digs d).length c'] 89)).alloc (by simp) (.cells #[.string ⟨#[]⟩, .string ⟨#[]⟩] 24))
  clear hR0
  obtain ⟨x0, x1, x2, -, -, -⟩ := HX0.out.three
  obtain ⟨r0, r1, f0, f1⟩ := HR0.out.two
  have hsz : (0 : Int) ≤ 0 := Int.le_refl 0
  go_enter Tryz.func97, Tryz.ntmps97
  go_wp2_with (first | (go_at_call 49; refine (zero_any _ _ _ _).mono ?_; rintro e w0 ⟨rfl, rfl⟩) | (go_at_call 50; refine (HCO.out _ (HBe0.out)).mono ?_; rintro e w1 ⟨v1, rfl, hn1, hw1⟩; have HA1 := Lib.hid ((HA.out.below HBe0.out).below hw1); have HB1 := Lib.hid ((HB.out.below HBe0.out).below hw1); have HG1 := Lib.hid hn1; have hX1 := HX0.out.later hw1; have hR1 := HR0.out.later hw1; have hB1 := HBe0.out.trans (hw1.mono HBe0.out.size); have HX1 := Lib.hid hX1; have HR1 := Lib.hid hR1; have HBe1 := Lib.hid hB1; clear hX1 hR1 hB1 x0 x1 x2 r0 r1 f0 f1; obtain ⟨x0, x1, x2, -, -, -⟩ := HX1.out.three; obtain ⟨r0, r1, f0, f1⟩ := HR1.out.two; clear hn1 hw1) | (go_at_call 48; first | ((with_reducible refine (HDN.out _ _ HA1.out HG1.out).mono ?_); rintro e w2 ⟨v2, u2, rfl, hn2, -, hw2⟩; have HB2 := Lib.hid (HB1.out.below hw2); have HG2 := Lib.hid (HG1.out.below hw2); have HN2 := Lib.hid hn2; have hX2 := HX1.out.later hw2; have hR2 := HR1.out.later hw2; have hB2 := HBe1.out.trans (hw2.mono HBe1.out.size); have HX2 := Lib.hid hX2; have HR2 := Lib.hid hR2; have HBe2 := Lib.hid hB2; clear hX2 hR2 hB2 x0 x1 x2 r0 r1 f0 f1; obtain ⟨x0, x1, x2, -, -, -⟩ := HX2.out.three; obtain ⟨r0, r1, f0, f1⟩ := HR2.out.two; clear hn2 hw2) | ((with_reducible refine (HDD.out _ _ HB2.out HG2.out).mono ?_); rintro e w3 ⟨v3, u3, rfl, hn3, -, hw3⟩; have HN3 := Lib.hid (HN2.out.below hw3); have HD3 := Lib.hid hn3; have hX3 := HX2.out.later hw3; have hR3 := HR2.out.later hw3; have hB3 := HBe2.out.trans (hw3.mono HBe2.out.size); have HX3 := Lib.hid hX3; have HR3 := Lib.hid hR3; have HBe3 := Lib.hid hB3; clear hX3 hR3 hB3 x0 x1 x2 r0 r1 f0 f1; obtain ⟨x0, x1, x2, -, -, -⟩ := HX3.out.three; obtain ⟨r0, r1, f0, f1⟩ := HR3.out.two; clear hn3 hw3)) | (go_at_call 109; first | ((with_reducible refine (text_s _ _ _ HN3.out (HT.out _ HBe3.out)).mono ?_); rintro e w4 ⟨t4, rfl, ht4, hw4⟩; have l4 : 300 < t4.size := (by have h9 : t4.data.toList.length = t4.size := rfl; rw [← h9, ht4]; exact HF1.out); have HD4 := Lib.hid (HD3.out.below hw4); have HT4 := Lib.hid ht4; have hX4 := HX3.out.later hw4; have hR4 := HR3.out.later hw4; have hB4 := HBe3.out.trans (hw4.mono HBe3.out.size); have HX4 := Lib.hid hX4; have HR4 := Lib.hid hR4; have HBe4 := Lib.hid hB4; clear hX4 hR4 hB4 x0 x1 x2 r0 r1 f0 f1; obtain ⟨x0, x1, x2, -, -, -⟩ := HX4.out.three; obtain ⟨r0, r1, f0, f1⟩ := HR4.out.two; clear ht4 hw4) | ((with_reducible refine (text_s _ _ _ HD4.out (HT.out _ HBe4.out)).mono ?_); rintro e w5 ⟨t5, rfl, ht5, hw5⟩; have HT5 := Lib.hid ht5; have hX5 := HX4.out.later hw5; have hR5 := HR4.out.later hw5; have hB5 := HBe4.out.trans (hw5.mono HBe4.out.size); have HX5 := Lib.hid hX5; have HR5 := Lib.hid hR5; have HBe5 := Lib.hid hB5; clear hX5 hR5 hB5 x0 x1 x2 r0 r1 f0 f1; obtain ⟨x0, x1, x2, -, -, -⟩ := HX5.out.three; obtain ⟨r0, r1, f0, f1⟩ := HR5.out.two; have y0 := (fun cs => (HX5.out.alloc (.cells cs 24)).three.1); have z0 := (fun cs => (HR5.out.alloc (.cells cs 24)).two.1); have z1 := (fun cs => (HR5.out.alloc (.cells cs 24)).two.2.1); have g0 := (fun cs => (HR5.out.alloc (.cells cs 24)).two.2.2.1); have g1 := (fun cs => (HR5.out.alloc (.cells cs 24)).two.2.2.2); clear ht5 hw5)))
  obtain ⟨-, n0, n1⟩ := (HR5.out.alloc (.cells #[.string t4, .string t5] 24)).two_set (.string ⟨#[]⟩) (.string ⟨#[]⟩)
  refine bodyPost_ret (v := .tuple #[.agg #[.string ⟨#[]⟩, .string ⟨#[]⟩], .int .i64 19]) (by simp [results, Tryz.results97, go_sem, n0, n1]) rfl ?_
  exact ⟨rfl, below_two (HBe5.out.alloc HBe5.out.size _) (by omega) _ _⟩
set_option maxRecDepth 100000 in
set_option maxHeartbeats 4000000 in
theorem fixed_over (a1 a2 : ByteArray) (m : Bool) (n d p : Nat) (w : World) (h1 : a1.size ≤ 9223372036854775807) (h2 : a2.size ≤ 9223372036854775807) (hr : Nt.Rd a1.data.toList a2.data.toList m n d) (hp : p ≤ 100)
    (s1 : (Nt.digs n).length ≤ 200000) (s2 : (Nt.digs d).length ≤ 200000) (hq0 : Nt.rnd (n * 10 ^ p) d ≠ 0) (hfit : 300 < (Lib.decDigits (Nt.rnd (n * 10 ^ p) d / Nat.gcd (Nt.rnd (n * 10 ^ p) d) (10 ^ p))).length) (hdig : (Nt.digs (Nt.rnd (n * 10 ^ p) d)).length ≤ 900000) (hdig2 : (Nt.digs (10 ^ p)).length ≤ 900000) (htab : Lib.TabIs Tryz.prog w "internal/strconv.uint64pow10" .u64 Lib.pow10Tab) :
    Calls Tryz.prog 158 #[.agg #[.string a1, .string a2], .int .i64 (p : Int)] w fun e w' => e = .returned (.tuple #[.string ⟨#[]⟩, .int .i64 19]) ∧ Below w.heap.size w w' := by
  have HRD := Lib.hid fun W => read_ok a1 a2 m n d W h1 h2 hr
  have he := hr.d0
  have HSP := Lib.hid fun (W : World) A c A' c' (h : Nv W (.slice A (Nt.digs n).length c) (Nt.digs n)) => scaled_p m n d p A c A' c' W h (by omega) (by omega)
  have hnp : (Nt.digs (n * 10 ^ p)).length ≤ 400000 := Nat.le_trans (digs_mul_le s1 (digs_ten (by omega))) (by omega)
  have HRO := Lib.hid fun (W : World) A c A' c' (h : Nv W (.slice A (Nt.digs (n * 10 ^ p)).length c) (Nt.digs (n * 10 ^ p))) (h' : Nv W (.slice A' (Nt.digs d).length c') (Nt.digs d)) => rounded_o m (n * 10 ^ p) d A c A' c' W h h' hnp (by omega) he
  have hnn : (Nt.digs (n * 10 ^ p + n * 10 ^ p)).length ≤ 300000 := digs_add_le (k := 200112) (Nat.le_trans (digs_mul_le s1 (digs_ten (by omega))) (by omega)) (Nat.le_trans (digs_mul_le s1 (digs_ten (by omega))) (by omega)) (by omega)
  have hqq : (Nt.digs (Nt.rnd (n * 10 ^ p) d)).length ≤ 400000 := Nat.le_trans (digs_mono (Nat.div_le_self _ _)) (digs_add_le hnn (by omega) (by omega))
  have HSD := Lib.hid fun (W : World) A c A' c' (h : Nv W (.slice A (Nt.digs (Nt.rnd (n * 10 ^ p) d)).length c) (Nt.digs (Nt.rnd (n * 10 ^ p) d))) (h' : Nv W (.slice A' (Nt.digs 1).length c') (Nt.digs 1)) => scaled_d m _ p A c A' c' W h h' (by omega) hqq
  have HT := Lib.hid (show ∀ W, Below w.heap.size w W → Lib.TabIs Tryz.prog W "internal/strconv.uint64pow10" .u64 Lib.pow10Tab from Lib.tabBelow_of_tabIs htab)
  have HQ0 := Lib.hid hq0
  have HG1 := Lib.hid hdig
  have HG2 := Lib.hid hdig2
  have HF := Lib.hid hfit
  have HP0 := Lib.hid (show 10 ^ p ≠ 0 from Nat.ne_of_gt (Nat.pow_pos (by decide)))
  clear hr h1 h2 s1 s2 hfit htab hnp hnn hqq he hq0 hdig hdig2
  obtain ⟨D, hD⟩ : ∃ D, D = 10 ^ p := ⟨_, rfl⟩
  rw [← hD] at HSP HRO HSD HF HP0 HQ0 HG1 HG2
  obtain ⟨N, hN⟩ : ∃ N, N = n * D := ⟨_, rfl⟩
  rw [← hN] at HSP HRO HSD HF HQ0 HG1
  obtain ⟨q, hq⟩ : ∃ q, q = Nt.rnd N d := ⟨_, rfl⟩
  rw [← hq] at HRO HSD HF HQ0 HG1
  clear hD hN hq
  have hp' : (p : Int) ≤ 100 := by omega
  have HL0 := Lib.hid ((Loc.start w).alloc' rfl 24 #[.string a1, .string a2])
  go_enter Tryz.func158, Tryz.ntmps158
  go_wp2_with (first
    | (go_at_call 46; (with_reducible refine (HRD.out _).mono ?_); rintro e w1 ⟨A1, c1, A2, c2, rfl, hn, hd, hb⟩; have HL1 := Lib.hid ((HL0.out.step hb).alloc 89 #[.bool m, .slice A1 (Nt.digs n).length c1, .slice A2 (Nt.digs d).length c2]); have HN1 := Lib.hid (hn.below ((Below.refl _ w1).alloc (Nat.le_refl _) (.cells #[.bool m, .slice A1 (Nt.digs n).length c1, .slice A2 (Nt.digs d).length c2] 89))); have HD1 := Lib.hid (hd.below ((Below.refl _ w1).alloc (Nat.le_refl _) (.cells #[.bool m, .slice A1 (Nt.digs n).length c1, .slice A2 (Nt.digs d).length c2] 89))); clear hn hd hb)
    | (go_at_call 191; first
      | ((with_reducible refine (HSP.out _ _ _ _ _ HN1.out).mono ?_); rintro e w2 ⟨B, k, rfl, hn, hb⟩; have HL2 := Lib.hid (HL1.out.step hb); have HN2 := Lib.hid hn; have HD2 := Lib.hid (HD1.out.below hb); clear hn hb)
      | ((with_reducible refine (HSD.out _ _ _ _ _ HN3.out HD3.out).mono ?_); rintro e w4 ⟨B4, k4, B5, k5, rfl, hn, hd, hb⟩; have hl := HL3.out.step hb; have HL4 := Lib.hid hl; obtain ⟨y0, y1, y2, -, -, -⟩ := (hl.blk (g := w3.heap.size) (t := 89) (cs := #[.bool m, .slice B2 (Nt.digs q).length k2, .slice B3 (Nt.digs 1).length k3]) (by simp)).three; have HN4 := Lib.hid hn; have HD4 := Lib.hid hd; have HN5 := Lib.hid (HN3.out.below hb); clear hn hd hb hl) | fail)
    | (go_at_call 192; (with_reducible refine (HRO.out _ _ _ _ _ HN2.out HD2.out).mono ?_); rintro e w3 ⟨B2, k2, B3, k3, rfl, hn, hd, hb⟩; have HL3 := Lib.hid ((HL2.out.step hb).alloc 89 #[.bool m, .slice B2 (Nt.digs q).length k2, .slice B3 (Nt.digs 1).length k3]); have HN3 := Lib.hid (hn.below ((Below.refl _ w3).alloc (Nat.le_refl _) (.cells #[.bool m, .slice B2 (Nt.digs q).length k2, .slice B3 (Nt.digs 1).length k3] 89))); have HD3 := Lib.hid (hd.below ((Below.refl _ w3).alloc (Nat.le_refl _) (.cells #[.bool m, .slice B2 (Nt.digs q).length k2, .slice B3 (Nt.digs 1).length k3] 89))); clear hn hd hb)
    | (go_at_call 97; (with_reducible refine (write_over _ m q D _ ⟨_, _, rfl, HN4.out, HD4.out⟩ HP0.out HG1.out HG2.out HQ0.out HF.out (HT.out _ HL4.out.bel)).mono ?_); rintro e w5 ⟨rfl, hb⟩; have HB := Lib.hid ((HL4.out.step hb).alloc 24 #[.string ⟨#[]⟩, .string ⟨#[]⟩]).bel; clear hb))
  go_ret2
  exact ⟨rfl, HB.out⟩
end Go.Proofs.YtmmlcponmdalmaaGreatDoor
