/- The contract of exact's Shortest. -/
import Derived.Test.YtmmlcponmdalmaaGreatDoorExD
import Derived.Test.YtmmlcponmdalmaaGreatDoorExY
namespace Go.Proofs.YtmmlcponmdalmaaGreatDoor
open Go.RowKit
namespace Nt
theorem digs_is_one {n : Nat} : digs n = [1] ↔ n = 1 := by
  constructor
  · intro h; have := val_digs n; rw [h] at this; simpa [val] using this.symm
  · rintro rfl; exact Go.Proofs.YtmmlcponmdalmaaGreatDoor.digs_one
/-- One step of the search for places. -/
def nextD (g : Nat) : Nat := if g % 10 = 0 then g / 10 else g / Nat.gcd g 10
theorem nextD_spec {g : Nat} (_hg : 0 < g) (h : ¬ (g % 10 ≠ 0 ∧ Nat.gcd g 10 = 1)) : ∃ c, c ∣ 10 ∧ 2 ≤ c ∧ nextD g * c = g := by
  unfold nextD
  by_cases h0 : g % 10 = 0
  · rw [if_pos h0]
    exact ⟨10, Nat.dvd_refl _, by decide, by omega⟩
  · rw [if_neg h0]
    have h1 : Nat.gcd g 10 ≠ 1 := fun e => h ⟨h0, e⟩
    have h2 : 0 < Nat.gcd g 10 := Nat.gcd_pos_of_pos_right _ (by decide)
    exact ⟨Nat.gcd g 10, Nat.gcd_dvd_right _ _, by omega, Nat.div_mul_cancel (Nat.gcd_dvd_left _ _)⟩
theorem step_dvd {d g k g' c : Nat} (h : d ∣ g * 10 ^ k) (hc : c ∣ 10) (e : g' * c = g) : d ∣ g' * 10 ^ (k + 1) := by
  obtain ⟨x, hx⟩ := hc
  refine Nat.dvd_trans h ⟨x, ?_⟩
  rw [← e, Nat.pow_succ, hx]
  grind
end Nt
theorem one_yes (v : Value) (n : Nat) (w : World) (h : Nv w v (Nt.digs n)) (e : n = 1) :
    Calls Tryz.prog 47 #[v] w fun e w' => e = .returned (.bool true) ∧ w = w' := by
  have := one_any v _ w h (Nt.digs_canon n).1
  rwa [decide_eq_true (Nt.digs_is_one.2 e)] at this
theorem one_no (v : Value) (n : Nat) (w : World) (h : Nv w v (Nt.digs n)) (e : n ≠ 1) :
    Calls Tryz.prog 47 #[v] w fun e w' => e = .returned (.bool false) ∧ w = w' := by
  have := one_any v _ w h (Nt.digs_canon n).1
  rwa [decide_eq_false (fun h => e (Nt.digs_is_one.1 h))] at this
theorem common_o (va vb : Value) (a b : Nat) (w : World) (ha : Nv w va (Nt.digs a)) (hb : Nv w vb (Nt.digs b)) (sa : (Nt.digs a).length ≤ 900000) (sb : (Nt.digs b).length ≤ 900000) :
    Calls Tryz.prog 50 #[va, vb] w fun e w' => ∃ A c, e = .returned (.slice A (Nt.digs (Nat.gcd a b)).length c) ∧ Nv w' (.slice A (Nt.digs (Nat.gcd a b)).length c) (Nt.digs (Nat.gcd a b)) ∧ Below w.heap.size w w' := by
  refine (common_any va vb a b w ha hb sa sb).mono ?_
  rintro e w' ⟨v, rfl, hv, hb⟩
  obtain ⟨A, c, rfl, _⟩ := hv.ex
  exact ⟨A, c, rfl, hv, hb⟩

theorem below_al {W W' : World} {o : Obj} (hb : Below (W.alloc o).heap.size (W.alloc o) W') : Below W.heap.size W W' := ((Below.refl _ W).alloc (Nat.le_refl _) o).trans (hb.mono (by simp))

/-- What Shortest answers. -/
def ShortRet (m : Bool) (n d : Nat) (w : World) (e : Ending) (w' : World) : Prop :=
  ((e = .returned (.tuple #[.string ⟨#[]⟩, .bool false, .int .i64 0]) ∧ ∀ j, ¬ d ∣ 10 ^ j) ∨ ∃ (t : ByteArray) (q k : Nat), e = .returned (.tuple #[.string t, .bool true, .int .i64 0]) ∧ t.data.toList = Nt.decT m q k ∧ q * d = n * 10 ^ k ∧ 2 ^ k ≤ d ∧ d ∣ 10 ^ k) ∧ Below w.heap.size w w'

set_option maxRecDepth 100000 in
set_option maxHeartbeats 8000000 in
theorem shortest_w (a1 a2 : ByteArray) (m : Bool) (n d : Nat) (w : World) (h1 : a1.size ≤ 9223372036854775807) (h2 : a2.size ≤ 9223372036854775807) (hr : Nt.Rd a1.data.toList a2.data.toList m n d)
    (E : Nat) (hE : E ≤ 200) (s1 : n < 10 ^ E) (s2 : d < 10 ^ E) (htab : Lib.TabIs Tryz.prog w "internal/strconv.uint64pow10" .u64 Lib.pow10Tab) :
    Calls Tryz.prog 17 #[.agg #[.string a1, .string a2]] w (ShortRet m n d w) := by
  have HRD := Lib.hid fun W => read_ok a1 a2 m n d W h1 h2 hr
  have hd0 := hr.d0
  have HS2 := Lib.hid s2
  have HS1 := Lib.hid s1
  have hn1 : (Nt.digs n).length ≤ 30 := digs_pow (lt_B (k := E) (Nat.le_of_lt s1) (by omega))
  have hn2 : (Nt.digs d).length ≤ 30 := digs_pow (lt_B (k := E) (Nat.le_of_lt s2) (by omega))
  have HT := Lib.hid (show ∀ W, Below w.heap.size w W → Lib.TabIs Tryz.prog W "internal/strconv.uint64pow10" .u64 Lib.pow10Tab from Lib.tabBelow_of_tabIs htab)
  clear hr h1 h2 htab s1 s2
  have HL0 := Lib.hid ((Loc.start w).alloc' rfl 24 #[.string a1, .string a2])
  have HD0 := Lib.hid hd0
  go_enter Tryz.func17, Tryz.ntmps17
  go_wp2_with (go_at_call 46; (with_reducible refine (HRD.out _).mono ?_); rintro e w1 ⟨A1, c1, A2, c2, rfl, hn, hd, hb⟩; have HL1 := Lib.hid ((HL0.out.step hb).alloc 89 #[.bool m, .slice A1 (Nt.digs n).length c1, .slice A2 (Nt.digs d).length c2]); have HN1 := Lib.hid (hn.below ((Below.refl _ w1).alloc (Nat.le_refl _) (.cells #[.bool m, .slice A1 (Nt.digs n).length c1, .slice A2 (Nt.digs d).length c2] 89))); have HD1 := Lib.hid (hd.below ((Below.refl _ w1).alloc (Nat.le_refl _) (.cells #[.bool m, .slice A1 (Nt.digs n).length c1, .slice A2 (Nt.digs d).length c2] 89))); clear hn hd hb)
  clear HRD
  go_loopg [7, 8] d (fun g s7 s8 wr => ∃ k : Nat, 0 < g ∧ s7 = .int .i64 k ∧ (∃ B c, s8 = .slice B (Nt.digs g).length c) ∧ Nv wr s8 (Nt.digs g) ∧ (Nt.digs g).length ≤ 30 ∧ Hid (d ∣ g * 10 ^ k ∧ g ∣ d) ∧ Hid (2 ^ k * g ≤ d) ∧ Loc w [(w1.heap.size, 89, #[.bool m, .slice A1 (Nt.digs n).length c1, .slice A2 (Nt.digs d).length c2]), (w.heap.size, 24, #[.string a1, .string a2])] wr ∧ Nv wr (.slice A1 (Nt.digs n).length c1) (Nt.digs n) ∧ Nv wr (.slice A2 (Nt.digs d).length c2) (Nt.digs d))
  case atStart => exact ⟨0, Nat.pos_of_ne_zero HD0.out, rfl, ⟨_, _, rfl⟩, HD1.out, hn2, Lib.hid (by simp), Lib.hid (by simp), HL1.out, HN1.out, HD1.out⟩
  case round =>
    obtain ⟨k, hg, rfl, ⟨B, kc, rfl⟩, r1, r2, r3, r4, r5, r6, r7⟩ := hrel
    have H1 := Lib.hid r1
    have HL := Lib.hid r5
    have HN := Lib.hid r6
    have HDD := Lib.hid r7
    have hk : k ≤ 800 := by
      have h4 : 2 ^ k ≤ d := Nat.le_trans (Nat.le_mul_of_pos_right _ hg) r4.out
      have h5 : (10 : Nat) ^ E ≤ 16 ^ E := Nat.pow_le_pow_left (by decide) _
      have h6 : (16 : Nat) ^ E = 2 ^ (4 * E) := by rw [Nat.pow_mul]
      have h7 : 2 ^ k < 2 ^ (4 * E) := by
        rw [← h6]
        exact Nat.lt_of_le_of_lt h4 (Nat.lt_of_lt_of_le HS2.out h5)
      have := (Nat.pow_lt_pow_iff_right (by decide)).1 h7
      omega
    have hki : (k : Int) ≤ 800 := by omega
    clear r1 r5 r6 r7 HL1 HN1 HD1 HL0
    by_cases hg1 : gk = 1
    · subst hg1
      have hdk : d ∣ 10 ^ k := by have := r3.out.1; rwa [Nat.one_mul] at this
      have HDK := Lib.hid hdk
      have h2k : 2 ^ k ≤ d := by have := r4.out; rwa [Nat.mul_one] at this
      have H2K := Lib.hid h2k
      have hqd : n * 10 ^ k / d * d = n * 10 ^ k := Nat.div_mul_cancel (Nat.dvd_trans hdk (Nat.dvd_mul_left _ _))
      have HQD := Lib.hid hqd
      have HO := Lib.hid fun (W : World) (h : Nv W (.slice B (Nt.digs 1).length kc) (Nt.digs 1)) => one_yes _ 1 W h rfl
      have HTP := Lib.hid fun W => ten_any k W (by omega)
      have hdt : (Nt.digs (10 ^ k)).length ≤ 112 := digs_ten (by omega)
      have hm1 : (Nt.digs (n * 10 ^ k)).length ≤ 142 := digs_mul_le hn1 hdt
      have HTM := Lib.hid fun (W : World) A c A' c' (h : Nv W (.slice A (Nt.digs n).length c) (Nt.digs n)) (h' : Nv W (.slice A' (Nt.digs (10 ^ k)).length c') (Nt.digs (10 ^ k))) => times_o (.slice A (Nt.digs n).length c) (.slice A' (Nt.digs (10 ^ k)).length c') n (10 ^ k) W h h' (by omega) (by omega)
      have HDV := Lib.hid fun (W : World) B k' B' k'' (h : Nv W (.slice B (Nt.digs (n * 10 ^ k)).length k') (Nt.digs (n * 10 ^ k))) (h' : Nv W (.slice B' (Nt.digs d).length k'') (Nt.digs d)) => divide_o _ _ (n * 10 ^ k) d W h h' (by omega) (by omega) HD0.out
      have hql : (Lib.decDigits (n * 10 ^ k / d)).length ≤ 3000 := by
        have h1 : n * 10 ^ k / d < 10 ^ (E + k + 1) := by
          refine Nat.lt_of_le_of_lt (Nat.div_le_self _ _) ?_
          refine Nat.lt_of_le_of_lt (Nat.mul_le_mul_right _ (Nat.le_of_lt HS1.out)) ?_
          rw [← Nat.pow_add]
          exact Nat.pow_lt_pow_right (by decide) (by omega)
        exact Nat.le_trans (Nt.dd_le h1) (by omega)
      have HDC := Lib.hid fun (W : World) (hW : Below w.heap.size w W) A c v3 (h : Nv W (.slice A (Nt.digs (n * 10 ^ k / d)).length c) (Nt.digs (n * 10 ^ k / d))) => decimal_any m (n * 10 ^ k / d) k A c v3 W h (by omega) hql (HT.out W hW)
      clear hdk h2k hqd hdt hm1 hql r3 r4 r2 hg
      obtain ⟨q, hq⟩ : ∃ q, q = n * 10 ^ k / d := ⟨_, rfl⟩
      rw [← hq] at HQD HDV HDC
      obtain ⟨T, hT⟩ : ∃ T, T = 10 ^ k := ⟨_, rfl⟩
      rw [← hT] at HTP HTM HDV
      obtain ⟨N, hN⟩ : ∃ N, N = n * T := ⟨_, rfl⟩
      rw [← hN] at HTM HDV
      clear hq hT hN
      go_upto_region 15 with (go_at_call 47; (with_reducible refine (HO.out _ H1.out).mono ?_); rintro e w3 ⟨rfl, rfl⟩)
      obtain ⟨x0, x1, x2, -, -, -⟩ := (HL.out.blk (g := w1.heap.size) (t := 89) (cs := #[.bool m, .slice A1 (Nt.digs n).length c1, .slice A2 (Nt.digs d).length c2]) (by simp)).three
      clear x0
      have HL' := Lib.hid HL.out.drew
      have HN' := Lib.hid HN.out.drew
      have HD' := Lib.hid HDD.out.drew
      clear HL HN HDD H1
      rename Hid (Nv _ (.slice A2 _ _) _) => HD
      rename Hid (Nv _ (.slice A1 _ _) _) => HN
      rename Hid (Loc _ _ _) => HL
      go_region_held3 (fun w' => w'.cell? ⟨w1.heap.size, 1, none⟩ = some (.slice A1 (Nt.digs n).length c1) ∧ w'.cell? ⟨w1.heap.size, 2, none⟩ = some (.slice A2 (Nt.digs d).length c2)) (first | exact ⟨by assumption, by assumption⟩ | exact ⟨HL.out.c1 (t := 89) (a := .bool m) (c := .slice A2 (Nt.digs d).length c2) (by simp), HL.out.c2 (t := 89) (a := .bool m) (b := .slice A1 (Nt.digs n).length c1) (by simp)⟩ | exact ⟨HL.out.drew.c1 (t := 89) (a := .bool m) (c := .slice A2 (Nt.digs d).length c2) (by simp), HL.out.drew.c2 (t := 89) (a := .bool m) (b := .slice A1 (Nt.digs n).length c1) (by simp)⟩ | fail) (first
        | (go_at_call 52; (with_reducible refine (HTP.out _).mono ?_); rintro e w4 ⟨B1, k1, rfl, hq, hb⟩; have H2 := Lib.hid hq; clear hq; (try (have hx := HN.out.below hb; clear HN; have HN := Lib.hid hx; clear hx)); (try (have hx := HD.out.below hb; clear HD; have HD := Lib.hid hx; clear hx)); have hl := HL.out.step hb; clear HL; have HL := Lib.hid hl; clear hl hb)
        | (go_at_call 51; (with_reducible refine (HTM.out _ _ _ _ _ HN.out H2.out).mono ?_); rintro e w5 ⟨B2, k2, rfl, hq, hb⟩; have H3 := Lib.hid hq; clear hq; (try (have hx := HD.out.below hb; clear HD; have HD := Lib.hid hx; clear hx)); have hl := HL.out.step hb; clear HL; have HL := Lib.hid hl; clear hl hb)
        | (go_at_call 48; (with_reducible refine (HDV.out _ _ _ _ _ H3.out HD.out).mono ?_); rintro e w6 ⟨B4, k4, B5, k5, rfl, hq, -, hb⟩; have HQ := Lib.hid hq; have hl := HL.out.step hb; clear HL; have HL := Lib.hid hl; clear hq hl hb) | fail)
      all_goals
        obtain ⟨x0, x1, x2, -, -, -⟩ := (HL.out.blk (g := w1.heap.size) (t := 89) (cs := #[.bool m, .slice A1 (Nt.digs n).length c1, .slice A2 (Nt.digs d).length c2]) (by simp)).three
        clear x1 x2
        go_wp2_with (go_at_call 53; (with_reducible refine (HDC.out _ (HL.out.alloc _ _).bel _ _ _ (HQ.out.below ((Below.refl _ _).alloc (Nat.le_refl _) _))).mono ?_); rintro e w7 ⟨t, rfl, ht, hb⟩; have HTT := Lib.hid ht; have HB := Lib.hid ((HL.out.alloc _ _).step hb).bel; clear ht hb)
        go_ret3
        exact ⟨.inr ⟨t, q, k, rfl, HTT.out, HQD.out, H2K.out, HDK.out⟩, HB.out⟩
    · have HO := Lib.hid fun (W : World) (h : Nv W (.slice B (Nt.digs gk).length kc) (Nt.digs gk)) => one_no _ gk W h hg1
      have HDV := Lib.hid fun (W : World) v (h : Nv W (.slice B (Nt.digs gk).length kc) (Nt.digs gk)) (h' : Nv W v (Nt.digs 10)) => divide_o _ v gk 10 W h h' (by omega) (Nat.le_trans (digs_one_le (by decide)) (by decide)) (by decide)
      have HCG := Lib.hid fun (W : World) v (h : Nv W (.slice B (Nt.digs gk).length kc) (Nt.digs gk)) (h' : Nv W v (Nt.digs 10)) => common_o _ v gk 10 W h h' (by omega) (Nat.le_trans (digs_one_le (by decide)) (by decide))
      have hgp : 0 < Nat.gcd gk 10 := Nat.gcd_pos_of_pos_right _ (by decide)
      have hgl : (Nt.digs (Nat.gcd gk 10)).length ≤ 30 := Nat.le_trans (digs_mono (Nat.le_of_dvd (by decide) (Nat.gcd_dvd_right gk 10))) (Nat.le_trans (digs_one_le (by decide)) (by decide))
      have HDG := Lib.hid fun (W : World) A c (h : Nv W (.slice B (Nt.digs gk).length kc) (Nt.digs gk)) (h' : Nv W (.slice A (Nt.digs (Nat.gcd gk 10)).length c) (Nt.digs (Nat.gcd gk 10))) => divide_o _ _ gk (Nat.gcd gk 10) W h h' (by omega) (by omega) (by omega)
      have hq1 : (Nt.digs (gk / 10)).length ≤ 30 := Nat.le_trans (digs_mono (Nat.div_le_self _ _)) r2
      have hq2 : (Nt.digs (gk / Nat.gcd gk 10)).length ≤ 30 := Nat.le_trans (digs_mono (Nat.div_le_self _ _)) r2
      have hnx : Nt.nextD gk = if gk % 10 = 0 then gk / 10 else gk / Nat.gcd gk 10 := rfl
      have HSP := Lib.hid (Nt.nextD_spec hg)
      have hst : ∀ c, c ∣ 10 → 2 ≤ c → Nt.nextD gk * c = gk → 0 < Nt.nextD gk ∧ Nt.nextD gk < gk ∧ (d ∣ Nt.nextD gk * 10 ^ (k + 1) ∧ Nt.nextD gk ∣ d) ∧ 2 ^ (k + 1) * Nt.nextD gk ≤ d := fun c hc h2 e => by
        have h0 : 0 < Nt.nextD gk := by
          rcases Nat.eq_zero_or_pos (Nt.nextD gk) with h | h
          · rw [h, Nat.zero_mul] at e; omega
          · exact h
        have h5 : Nt.nextD gk * 2 ≤ gk := by
          have := Nat.mul_le_mul_left (Nt.nextD gk) h2
          omega
        refine ⟨h0, by omega, ⟨Nt.step_dvd r3.out.1 hc e, Nat.dvd_trans ⟨c, e.symm⟩ r3.out.2⟩, ?_⟩
        rw [Nat.pow_succ, Nat.mul_assoc, Nat.mul_comm 2]
        exact Nat.le_trans (Nat.mul_le_mul_left _ h5) r4.out
      have HST := Lib.hid hst
      have HGD := Lib.hid r3.out.2
      have HG1 := Lib.hid hg1
      clear hst r3 r4
      by_cases hr0 : gk % 10 = 0
      · rw [if_pos hr0] at hnx
        obtain ⟨c, h1, h2, h3⟩ := HSP.out (fun h => h.1 hr0)
        have hres := HST.out c h1 h2 h3
        rw [hnx] at hres
        obtain ⟨e1, e2, e3, e4⟩ := hres
        have E3 := Lib.hid e3
        have E4 := Lib.hid e4
        have hz : (((Nt.digs (gk % 10)).length : Int) == 0) = true := by rw [hr0, Nt.digs_zero]; rfl
        clear e3 e4 h1 h2 h3 hnx HSP HST hr0 hgp hgl hq2
        generalize gk / 10 = gn at *
        go_wp2_with (first
          | (go_at_call 47; (with_reducible refine (HO.out _ H1.out).mono ?_); rintro e w3 ⟨rfl, rfl⟩)
          | (go_at_call 48; (with_reducible refine (HDV.out _ _ (H1.out.below ((Below.refl _ _).alloc (Nat.le_refl _) _)) (nv_lit _ 10 (by decide) (by decide) 10 rfl)).mono ?_); rintro e w4 ⟨A3, c3, A4, c4, rfl, hq, -, hb⟩; replace hb := below_al hb; (have hx := HN.out.below hb; clear HN; have HN := Lib.hid hx; clear hx); (have hx := HDD.out.below hb; clear HDD; have HDD := Lib.hid hx; clear hx); (have hx := HL.out.step hb; clear HL; have HL := Lib.hid hx; clear hx); have HQ := Lib.hid hq; clear hq hb)
          | (go_at_call 49; refine (zero_any _ _ _ _).mono ?_; rintro e w0 ⟨rfl, rfl⟩))
        go_roundg gn
        case measure => exact e2
        case rel => exact ⟨k + 1, e1, by go_num, ⟨_, _, rfl⟩, HQ.out, hq1, E3, E4, HL.out, HN.out, HDD.out⟩
      · have hz : (((Nt.digs (gk % 10)).length : Int) == 0) = false := by rw [Nt.digs_pos (by omega)]; simp; omega
        by_cases hgc : Nat.gcd gk 10 = 1
        · have HO2 := Lib.hid fun (W : World) A c (h : Nv W (.slice A (Nt.digs (Nat.gcd gk 10)).length c) (Nt.digs (Nat.gcd gk 10))) => one_yes _ _ W h hgc
          have HND := Lib.hid (fun (j : Nat) (hj : d ∣ 10 ^ j) => HG1.out (Nat.dvd_one.1 (by
            have h1 : gk ∣ 10 ^ j := Nat.dvd_trans HGD.out hj
            have h2 : Nat.gcd gk (10 ^ j) = 1 := (Nat.Coprime.pow_right j (show Nat.Coprime gk 10 from hgc))
            rw [← h2]
            exact Nat.dvd_gcd (Nat.dvd_refl _) h1)))
          clear hnx HSP HST hr0 hgp hgl hq1 hq2 hgc HGD HG1
          generalize Nat.gcd gk 10 = G at *
          go_wp2_with (first
            | (go_at_call 47; first | ((with_reducible refine (HO.out _ H1.out).mono ?_); rintro e w3 ⟨rfl, rfl⟩) | ((with_reducible refine (HO2.out _ _ _ HG.out).mono ?_); rintro e w3 ⟨rfl, rfl⟩))
            | (go_at_call 48; (with_reducible refine (HDV.out _ _ (H1.out.below ((Below.refl _ _).alloc (Nat.le_refl _) _)) (nv_lit _ 10 (by decide) (by decide) 10 rfl)).mono ?_); rintro e w4 ⟨A3, c3, A4, c4, rfl, hq, -, hb⟩; replace hb := below_al hb; (have hx := H1.out.below hb; clear H1; have H1 := Lib.hid hx; clear hx); (have hx := HN.out.below hb; clear HN; have HN := Lib.hid hx; clear hx); (have hx := HDD.out.below hb; clear HDD; have HDD := Lib.hid hx; clear hx); (have hx := HL.out.step hb; clear HL; have HL := Lib.hid hx; clear hx); clear hq hb)
            | (go_at_call 49; refine (zero_any _ _ _ _).mono ?_; rintro e w0 ⟨rfl, rfl⟩)
            | (go_at_call 50; (with_reducible refine (HCG.out _ _ (H1.out.below ((Below.refl _ _).alloc (Nat.le_refl _) _)) (nv_lit _ 10 (by decide) (by decide) 10 rfl)).mono ?_); rintro e w5 ⟨A5, c5, rfl, hq, hb⟩; replace hb := below_al hb; (have hx := H1.out.below hb; clear H1; have H1 := Lib.hid hx; clear hx); (have hx := HN.out.below hb; clear HN; have HN := Lib.hid hx; clear hx); (have hx := HDD.out.below hb; clear HDD; have HDD := Lib.hid hx; clear hx); (have hx := HL.out.step hb; clear HL; have HL := Lib.hid hx; clear hx); have HG := Lib.hid hq; clear hq hb))
          go_ret3
          exact ⟨.inl ⟨rfl, HND.out⟩, HL.out.bel⟩
        · rw [if_neg hr0] at hnx
          obtain ⟨c, h1, h2, h3⟩ := HSP.out (fun h => hgc h.2)
          have hres := HST.out c h1 h2 h3
          rw [hnx] at hres
          obtain ⟨e1, e2, e3, e4⟩ := hres
          have E3 := Lib.hid e3
          have E4 := Lib.hid e4
          have HO2 := Lib.hid fun (W : World) A c (h : Nv W (.slice A (Nt.digs (Nat.gcd gk 10)).length c) (Nt.digs (Nat.gcd gk 10))) => one_no _ _ W h hgc
          clear e3 e4 h1 h2 h3 hnx HSP HST hr0 hgp hgl hq1 hgc
          generalize gk / Nat.gcd gk 10 = gn at *
          generalize Nat.gcd gk 10 = G at *
          go_wp2_with (first
            | (go_at_call 47; first | ((with_reducible refine (HO.out _ H1.out).mono ?_); rintro e w3 ⟨rfl, rfl⟩) | ((with_reducible refine (HO2.out _ _ _ HG.out).mono ?_); rintro e w3 ⟨rfl, rfl⟩))
            | (go_at_call 48; first
              | ((with_reducible refine (HDV.out _ _ (H1.out.below ((Below.refl _ _).alloc (Nat.le_refl _) _)) (nv_lit _ 10 (by decide) (by decide) 10 rfl)).mono ?_); rintro e w4 ⟨A3, c3, A4, c4, rfl, hq, -, hb⟩; replace hb := below_al hb; (have hx := H1.out.below hb; clear H1; have H1 := Lib.hid hx; clear hx); (have hx := HN.out.below hb; clear HN; have HN := Lib.hid hx; clear hx); (have hx := HDD.out.below hb; clear HDD; have HDD := Lib.hid hx; clear hx); (have hx := HL.out.step hb; clear HL; have HL := Lib.hid hx; clear hx); clear hq hb)
              | ((with_reducible refine (HDG.out _ _ _ H1.out HG.out).mono ?_); rintro e w6 ⟨A6, c6, A7, c7, rfl, hq, -, hb⟩; (have hx := HN.out.below hb; clear HN; have HN := Lib.hid hx; clear hx); (have hx := HDD.out.below hb; clear HDD; have HDD := Lib.hid hx; clear hx); (have hx := HL.out.step hb; clear HL; have HL := Lib.hid hx; clear hx); have HQ := Lib.hid hq; clear hq hb) | fail)
            | (go_at_call 49; refine (zero_any _ _ _ _).mono ?_; rintro e w0 ⟨rfl, rfl⟩)
            | (go_at_call 50; (with_reducible refine (HCG.out _ _ (H1.out.below ((Below.refl _ _).alloc (Nat.le_refl _) _)) (nv_lit _ 10 (by decide) (by decide) 10 rfl)).mono ?_); rintro e w5 ⟨A5, c5, rfl, hq, hb⟩; replace hb := below_al hb; (have hx := H1.out.below hb; clear H1; have H1 := Lib.hid hx; clear hx); (have hx := HN.out.below hb; clear HN; have HN := Lib.hid hx; clear hx); (have hx := HDD.out.below hb; clear HDD; have HDD := Lib.hid hx; clear hx); (have hx := HL.out.step hb; clear HL; have HL := Lib.hid hx; clear hx); have HG := Lib.hid hq; clear hq hb))
          go_roundg gn
          case measure => exact e2
          case rel => exact ⟨k + 1, e1, by go_num, ⟨_, _, rfl⟩, HQ.out, hq2, E3, E4, HL.out, HN.out, HDD.out⟩
end Go.Proofs.YtmmlcponmdalmaaGreatDoor
