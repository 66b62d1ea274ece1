/- The contracts of exact's Round and Root. -/
import Derived.Test.YtliljihkoojggaaGreatDoorExN
namespace Go.Proofs.YtliljihkoojggaaGreatDoor
open Go.RowKit

/-- scaled, by a power of ten downward, of a whole number. -/
theorem scaled_d (m : Bool) (q p : Nat) (A1 : Option Addr) (c1 : Nat) (A2 : Option Addr) (c2 : Nat) (w : World) (h1 : Nv w (.slice A1 (Nt.digs q).length c1) (Nt.digs q)) (h2 : Nv w (.slice A2 (Nt.digs 1).length c2) (Nt.digs 1)) (hp : p ≤ 900) (hq : (Nt.digs q).length ≤ 400000) :
    Calls Tryz.prog 40 #[.agg #[.bool m, .slice A1 (Nt.digs q).length c1, .slice A2 (Nt.digs 1).length c2], .int .i64 (-(p : Int))] w fun e w' => ∃ B k B' k', e = .returned (.agg #[.bool m, .slice B (Nt.digs q).length k, .slice B' (Nt.digs (10 ^ p)).length k']) ∧ Nv w' (.slice B (Nt.digs q).length k) (Nt.digs q) ∧ Nv w' (.slice B' (Nt.digs (10 ^ p)).length k') (Nt.digs (10 ^ p)) ∧ Below w.heap.size w w' := by
  cases p with
  | zero =>
    have h := scaled_p m q 1 0 A1 c1 A2 c2 w h1 (by omega) hq
    rw [Nat.pow_zero, Nat.mul_one] at h
    refine h.mono ?_
    rintro e w' ⟨B, k, rfl, hv, hb⟩
    exact ⟨B, k, A2, c2, rfl, hv, h2.below hb, hb⟩
  | succ p =>
    have h := scaled_m m q 1 p A1 c1 A2 c2 w h2 (by omega) (Nat.le_trans (digs_one_le (by decide)) (by decide))
    rw [Nat.one_mul] at h
    refine h.mono ?_
    rintro e w' ⟨B, k, rfl, hv, hb⟩
    exact ⟨A1, c1, B, k, rfl, h1.below hb, hv, hb⟩

set_option maxRecDepth 100000 in
set_option maxHeartbeats 4000000 in
theorem round_w (a1 a2 : ByteArray) (m : Bool) (n d p : Nat) (w : World) (h1 : a1.size ≤ 9223372036854775807) (h2 : a2.size ≤ 9223372036854775807) (hr : Nt.Rd a1.data.toList a2.data.toList m n d) (hp : p ≤ 100)
    (s1 : (Nt.digs n).length ≤ 200000) (s2 : (Nt.digs d).length ≤ 200000) (hfit : Fits (Nt.rnd (n * 10 ^ p) d) (10 ^ p)) (htab : Lib.TabIs Tryz.prog w "internal/strconv.uint64pow10" .u64 Lib.pow10Tab) :
    Calls Tryz.prog 18 #[.agg #[.string a1, .string a2], .int .i64 (p : Int)] w (WriteRet m (Nt.rnd (n * 10 ^ p) d) (10 ^ p) w) := by
  have HRD := Lib.hid fun W => read_ok a1 a2 m n d W h1 h2 hr
  have he := hr.d0
  have HSP := Lib.hid fun (W : World) A c A' c' (h : Nv W (.slice A (Nt.digs n).length c) (Nt.digs n)) => scaled_p m n d p A c A' c' W h (by omega) (by omega)
  have hnp : (Nt.digs (n * 10 ^ p)).length ≤ 400000 := Nat.le_trans (digs_mul_le s1 (digs_ten (by omega))) (by omega)
  have HRO := Lib.hid fun (W : World) A c A' c' (h : Nv W (.slice A (Nt.digs (n * 10 ^ p)).length c) (Nt.digs (n * 10 ^ p))) (h' : Nv W (.slice A' (Nt.digs d).length c') (Nt.digs d)) => rounded_o m (n * 10 ^ p) d A c A' c' W h h' hnp (by omega) he
  have hnn : (Nt.digs (n * 10 ^ p + n * 10 ^ p)).length ≤ 300000 := digs_add_le (k := 200112) (Nat.le_trans (digs_mul_le s1 (digs_ten (by omega))) (by omega)) (Nat.le_trans (digs_mul_le s1 (digs_ten (by omega))) (by omega)) (by omega)
  have hqq : (Nt.digs (Nt.rnd (n * 10 ^ p) d)).length ≤ 400000 := Nat.le_trans (digs_mono (Nat.div_le_self _ _)) (digs_add_le hnn (by omega) (by omega))
  have HSD := Lib.hid fun (W : World) A c A' c' (h : Nv W (.slice A (Nt.digs (Nt.rnd (n * 10 ^ p) d)).length c) (Nt.digs (Nt.rnd (n * 10 ^ p) d))) (h' : Nv W (.slice A' (Nt.digs 1).length c') (Nt.digs 1)) => scaled_d m _ p A c A' c' W h h' (by omega) hqq
  have HT := Lib.hid (show ∀ W, Below w.heap.size w W → Lib.TabIs Tryz.prog W "internal/strconv.uint64pow10" .u64 Lib.pow10Tab from Lib.tabBelow_of_tabIs htab)
  have HF := Lib.hid hfit
  have HP0 := Lib.hid (show 10 ^ p ≠ 0 from Nat.ne_of_gt (Nat.pow_pos (by decide)))
  clear hr h1 h2 s1 s2 hfit htab hnp hnn hqq he
  obtain ⟨D, hD⟩ : ∃ D, D = 10 ^ p := ⟨_, rfl⟩
  rw [← hD] at HSP HRO HSD HF HP0 ⊢
  obtain ⟨N, hN⟩ : ∃ N, N = n * D := ⟨_, rfl⟩
  rw [← hN] at HSP HRO HSD HF ⊢
  obtain ⟨q, hq⟩ : ∃ q, q = Nt.rnd N d := ⟨_, rfl⟩
  rw [← hq] at HRO HSD HF ⊢
  clear hD hN hq
  have hp' : (p : Int) ≤ 100 := by omega
  have HL0 := Lib.hid (((Loc.start w).alloc' rfl 23 #[.string a1, .string a2]).alloc' (g := w.heap.size + 1) (by simp) 23 #[.string ⟨#[]⟩, .string ⟨#[]⟩])
  go_enter Tryz.func18, Tryz.ntmps18
  go_wp2_with (first
    | (go_at_call 34; (with_reducible refine (HRD.out _).mono ?_); rintro e w1 ⟨A1, c1, A2, c2, rfl, hn, hd, hb⟩; have HL1 := Lib.hid ((HL0.out.step hb).alloc 53 #[.bool m, .slice A1 (Nt.digs n).length c1, .slice A2 (Nt.digs d).length c2]); have HN1 := Lib.hid (hn.below ((Below.refl _ w1).alloc (Nat.le_refl _) (.cells #[.bool m, .slice A1 (Nt.digs n).length c1, .slice A2 (Nt.digs d).length c2] 53))); have HD1 := Lib.hid (hd.below ((Below.refl _ w1).alloc (Nat.le_refl _) (.cells #[.bool m, .slice A1 (Nt.digs n).length c1, .slice A2 (Nt.digs d).length c2] 53))); clear hn hd hb)
    | (go_at_call 40; first
      | ((with_reducible refine (HSP.out _ _ _ _ _ HN1.out).mono ?_); rintro e w2 ⟨B, k, rfl, hn, hb⟩; have HL2 := Lib.hid (HL1.out.step hb); have HN2 := Lib.hid hn; have HD2 := Lib.hid (HD1.out.below hb); clear hn hb)
      | ((with_reducible refine (HSD.out _ _ _ _ _ HN3.out HD3.out).mono ?_); rintro e w4 ⟨B4, k4, B5, k5, rfl, hn, hd, hb⟩; have HL4 := Lib.hid (HL3.out.step hb); have HN4 := Lib.hid hn; have HD4 := Lib.hid hd; clear hn hd hb) | fail)
    | (go_at_call 41; (with_reducible refine (HRO.out _ _ _ _ _ HN2.out HD2.out).mono ?_); rintro e w3 ⟨B2, k2, B3, k3, rfl, hn, hd, hb⟩; have HL3 := Lib.hid (HL2.out.step hb); have HN3 := Lib.hid hn; have HD3 := Lib.hid hd; clear hn hd hb)
    | (go_at_call 37; (with_reducible refine (write_any _ m q D _ ⟨_, _, rfl, HN4.out, HD4.out⟩ HP0.out HF.out.s1 HF.out.s2 HF.out.f1 HF.out.f2 (HT.out _ HL4.out.bel)).mono ?_); rintro e w5 ⟨hb, sn, sd, rfl, e1, e2⟩; have hl := HL4.out.step hb; have HL5 := Lib.hid hl; have bl := hl.blk (g := w.heap.size + 1) (t := 23) (cs := #[.string ⟨#[]⟩, .string ⟨#[]⟩]) (by simp); have HBL := Lib.hid bl; obtain ⟨z0, z1, f0, f1⟩ := bl.two; have E1 := Lib.hid e1; have E2 := Lib.hid e2; clear hl bl hb e1 e2))
  obtain ⟨-, q0, q1⟩ := HBL.out.two_set (.string sn) (.string sd)
  refine bodyPost_ret (v := .tuple #[.agg #[.string sn, .string sd], .int .i64 0]) (by simp [results, Tryz.results18, go_sem, q0, q1]) rfl ?_
  exact ⟨below_two HL5.out.bel (by omega) _ _, sn, sd, rfl, E1.out, E2.out⟩

set_option maxRecDepth 100000 in
set_option maxHeartbeats 4000000 in
theorem root_w (a1 a2 : ByteArray) (n d p : Nat) (w : World) (h1 : a1.size ≤ 9223372036854775807) (h2 : a2.size ≤ 9223372036854775807) (hr : Nt.Rd a1.data.toList a2.data.toList false n d) (hp : p ≤ 100)
    (s1 : (Nt.digs n).length ≤ 200) (hdd : (Lib.decDigits (n * 10 ^ (2 * p) / d)).length ≤ 3600) (s2 : (Nt.digs d).length ≤ 200) (hfit : ∀ r, Nt.IsRoot (n * 10 ^ (2 * p) / d) r → Fits r (10 ^ p)) (htab : Lib.TabIs Tryz.prog w "internal/strconv.uint64pow10" .u64 Lib.pow10Tab) :
    Calls Tryz.prog 19 #[.agg #[.string a1, .string a2], .int .i64 (p : Int)] w fun e w' => ∃ r, Nt.IsRoot (n * 10 ^ (2 * p) / d) r ∧ WriteRet false r (10 ^ p) w e w' := by
  have HRD := Lib.hid fun W => read_ok a1 a2 false n d W h1 h2 hr
  have he := hr.d0
  have hm1 : (Nt.digs (n * 10 ^ (2 * p))).length ≤ 400 := Nat.le_trans (digs_mul_le s1 (digs_ten (by omega))) (by omega)
  have hm2 : (Nt.digs (n * 10 ^ (2 * p) / d)).length ≤ 400 := Nat.le_trans (digs_mono (Nat.div_le_self _ _)) hm1
  have hdt : (Nt.digs (10 ^ (2 * p))).length ≤ 112 := digs_ten (by omega)
  have HT2 := Lib.hid (show ∀ W, Calls Tryz.prog 42 #[.int .i64 (2 * (p : Int))] W fun e w' => ∃ A c, e = .returned (.slice A (Nt.digs (10 ^ (2 * p))).length c) ∧ Nv w' (.slice A (Nt.digs (10 ^ (2 * p))).length c) (Nt.digs (10 ^ (2 * p))) ∧ Below W.heap.size W w' from fun W => by
    have h := ten_any (2 * p) W (by omega)
    rwa [show ((2 * p : Nat) : Int) = 2 * (p : Int) by omega] at h)
  have HTP := Lib.hid fun W => ten_any p W (by omega)
  have HTM := Lib.hid fun (W : World) A c A' c' (h : Nv W (.slice A (Nt.digs n).length c) (Nt.digs n)) (h' : Nv W (.slice A' (Nt.digs (10 ^ (2 * p))).length c') (Nt.digs (10 ^ (2 * p)))) => times_o (.slice A (Nt.digs n).length c) (.slice A' (Nt.digs (10 ^ (2 * p))).length c') n (10 ^ (2 * p)) W h h' (by omega) (by omega)
  have HDV := Lib.hid fun (W : World) B k B' k' (h : Nv W (.slice B (Nt.digs (n * 10 ^ (2 * p))).length k) (Nt.digs (n * 10 ^ (2 * p)))) (h' : Nv W (.slice B' (Nt.digs d).length k') (Nt.digs d)) => divide_o _ _ (n * 10 ^ (2 * p)) d W h h' (by omega) (by omega) he
  have HT := Lib.hid (show ∀ W, Below w.heap.size w W → Lib.TabIs Tryz.prog W "internal/strconv.uint64pow10" .u64 Lib.pow10Tab from Lib.tabBelow_of_tabIs htab)
  have HRT := Lib.hid fun (W : World) (hW : Below w.heap.size w W) A c (h : Nv W (.slice A (Nt.digs (n * 10 ^ (2 * p) / d)).length c) (Nt.digs (n * 10 ^ (2 * p) / d))) => root_any _ _ W h hm2 hdd (HT.out W hW)
  have HF := Lib.hid hfit
  have HP0 := Lib.hid (show 10 ^ p ≠ 0 from Nat.ne_of_gt (Nat.pow_pos (by decide)))
  clear hr h1 h2 s1 s2 hfit htab hm1 hm2 hdt hdd he
  obtain ⟨E, hE⟩ : ∃ E, E = 10 ^ (2 * p) := ⟨_, rfl⟩
  rw [← hE] at HT2 HTM HDV HRT HF ⊢
  obtain ⟨D, hD⟩ : ∃ D, D = 10 ^ p := ⟨_, rfl⟩
  rw [← hD] at HTP HF HP0 ⊢
  obtain ⟨N, hN⟩ : ∃ N, N = n * E := ⟨_, rfl⟩
  rw [← hN] at HTM HDV HRT HF ⊢
  obtain ⟨q, hq⟩ : ∃ q, q = N / d := ⟨_, rfl⟩
  rw [← hq] at HDV HRT HF ⊢
  clear hD hN hq hE
  have hp' : (p : Int) ≤ 100 := by omega
  have hp0 : (0 : Int) ≤ p := by omega
  have hwr : IntKind.i64.wrap (2 * (p : Int)) = 2 * (p : Int) := IntWalk.i64_in _ (by omega)
  have HWR := Lib.hid hwr
  clear hwr
  have HL0 := Lib.hid (((Loc.start w).alloc' rfl 23 #[.string a1, .string a2]).alloc' (g := w.heap.size + 1) (by simp) 23 #[.string ⟨#[]⟩, .string ⟨#[]⟩])
  go_enter Tryz.func19, Tryz.ntmps19
  go_upto_region 8 with (go_at_call 34; (with_reducible refine (HRD.out _).mono ?_); rintro e w1 ⟨A1, c1, A2, c2, rfl, hn, hd, hb⟩; have HL := Lib.hid ((HL0.out.step hb).alloc 53 #[.bool false, .slice A1 (Nt.digs n).length c1, .slice A2 (Nt.digs d).length c2]); have HN := Lib.hid (hn.below ((Below.refl _ w1).alloc (Nat.le_refl _) (.cells #[.bool false, .slice A1 (Nt.digs n).length c1, .slice A2 (Nt.digs d).length c2] 53))); have HD := Lib.hid (hd.below ((Below.refl _ w1).alloc (Nat.le_refl _) (.cells #[.bool false, .slice A1 (Nt.digs n).length c1, .slice A2 (Nt.digs d).length c2] 53))); clear hn hd hb)
  obtain ⟨x0, x1, x2, -, -, -⟩ := (HL.out.blk (g := w1.heap.size) (t := 53) (cs := #[.bool false, .slice A1 (Nt.digs n).length c1, .slice A2 (Nt.digs d).length c2]) (by simp)).three
  clear x0
  have HL' := Lib.hid HL.out.drew
  have HN' := Lib.hid HN.out.drew
  have HD' := Lib.hid HD.out.drew
  clear HL HN HD
  rename Hid (Nv _ (.slice A2 _ _) _) => HD
  rename Hid (Nv _ (.slice A1 _ _) _) => HN
  rename Hid (Loc _ _ _) => HL
  have hwr := HWR.out
  go_region_held3 (fun w' => w'.cell? ⟨w1.heap.size, 1, none⟩ = some (.slice A1 (Nt.digs n).length c1) ∧ w'.cell? ⟨w1.heap.size, 2, none⟩ = some (.slice A2 (Nt.digs d).length c2)) (first | exact ⟨by assumption, by assumption⟩ | exact ⟨HL.out.c1 (t := 53) (a := .bool false) (c := .slice A2 (Nt.digs d).length c2) (by simp), HL.out.c2 (t := 53) (a := .bool false) (b := .slice A1 (Nt.digs n).length c1) (by simp)⟩ | exact ⟨HL.out.drew.c1 (t := 53) (a := .bool false) (c := .slice A2 (Nt.digs d).length c2) (by simp), HL.out.drew.c2 (t := 53) (a := .bool false) (b := .slice A1 (Nt.digs n).length c1) (by simp)⟩ | fail) (first
    | (go_at_call 42; (with_reducible refine (HT2.out _).mono ?_); rintro e w2 ⟨B1, k1, rfl, hq, hb⟩; have HB0 := Lib.hid hb; have H1 := Lib.hid hq; clear hq; (try (have hx := HN.out.below hb; clear HN; have HN := Lib.hid hx; clear hx)); (try (have hx := HD.out.below hb; clear HD; have HD := Lib.hid hx; clear hx)); have hl := HL.out.step hb; clear HL; have HL := Lib.hid hl; clear hl hb)
    | (go_at_call 29; (with_reducible refine (HTM.out _ _ _ _ _ HN.out H1.out).mono ?_); rintro e w3 ⟨B2, k2, rfl, hq, hb⟩; have H2 := Lib.hid hq; clear hq; (try (have hx := HD.out.below hb; clear HD; have HD := Lib.hid hx; clear hx)); have hl := HL.out.step hb; clear HL; have HL := Lib.hid hl; clear hl hb)
    | (go_at_call 35; (with_reducible refine (HDV.out _ _ _ _ _ H2.out HD.out).mono ?_); rintro e w5 ⟨B4, k4, B5, k5, rfl, hq, -, hb⟩; have HQ := Lib.hid hq; have hl := HL.out.step hb; clear HL; have HL := Lib.hid hl; clear hq hl hb) | fail)
  all_goals
    clear hwr
    go_wp2_with (first
      | (go_at_call 43; (with_reducible refine (HRT.out _ HL.out.bel _ _ HQ.out).mono ?_); rintro e w6 ⟨r, B6, k6, rfl, hroot, hv, hb⟩; have HR := Lib.hid hroot; have HV := Lib.hid hv; have HL6 := Lib.hid (HL.out.step hb); clear hroot hv hb)
      | (go_at_call 42; (with_reducible refine (HTP.out _).mono ?_); rintro e w7 ⟨B7, k7, rfl, hq, hb⟩; have HT7 := Lib.hid hq; have HV7 := Lib.hid (HV.out.below hb); have HL7 := Lib.hid (HL6.out.step hb); clear hq hb)
      | (go_at_call 37; (with_reducible refine (write_any _ false r D _ ⟨_, _, rfl, HV7.out, HT7.out⟩ HP0.out (HF.out r HR.out).s1 (HF.out r HR.out).s2 (HF.out r HR.out).f1 (HF.out r HR.out).f2 (HT.out _ HL7.out.bel)).mono ?_); rintro e w8 ⟨hb, sn, sd, rfl, e1, e2⟩; have hl := HL7.out.step hb; have HL8 := Lib.hid hl; have bl := hl.blk (g := w.heap.size + 1) (t := 23) (cs := #[.string ⟨#[]⟩, .string ⟨#[]⟩]) (by simp); have HBL := Lib.hid bl; obtain ⟨z0, z1, f0, f1⟩ := bl.two; have E1 := Lib.hid e1; have E2 := Lib.hid e2; clear hl bl hb e1 e2))
    obtain ⟨-, q0, q1⟩ := HBL.out.two_set (.string sn) (.string sd)
    refine bodyPost_ret (v := .tuple #[.agg #[.string sn, .string sd], .int .i64 0]) (by simp [results, Tryz.results19, go_sem, q0, q1]) rfl ?_
    exact ⟨r, HR.out, below_two HL8.out.bel (by omega) _ _, sn, sd, rfl, E1.out, E2.out⟩
end Go.Proofs.YtliljihkoojggaaGreatDoor
