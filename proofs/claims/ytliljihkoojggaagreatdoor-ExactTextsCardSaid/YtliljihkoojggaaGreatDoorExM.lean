/- The contract of exact's root. -/
import Derived.Test.YtliljihkoojggaaGreatDoorExK
import Derived.Test.YtliljihkoojggaaGreatDoorExH
namespace Go.Proofs.YtliljihkoojggaaGreatDoor
open Go.RowKit
namespace Nt
/-- r is the square root of a, rounded down. -/
def IsRoot (a r : Nat) : Prop := r * r ≤ a ∧ a < (r + 1) * (r + 1)
theorem IsRoot.uniq {a r s : Nat} (h : IsRoot a r) (k : IsRoot a s) : r = s := by
  have h1 : r < s + 1 := by
    rcases Nat.lt_or_ge r (s + 1) with h1 | h1
    · exact h1
    · exact absurd (Nat.mul_le_mul h1 h1) (by have := h.1; have := k.2; omega)
  have h2 : s < r + 1 := by
    rcases Nat.lt_or_ge s (r + 1) with h1 | h1
    · exact h1
    · exact absurd (Nat.mul_le_mul h1 h1) (by have := k.1; have := h.2; omega)
  omega
theorem IsRoot.mono {a b r s : Nat} (h : IsRoot a r) (k : IsRoot b s) (hab : a ≤ b) : r ≤ s := by
  rcases Nat.lt_or_ge r (s + 1) with h1 | h1
  · omega
  · exact absurd (Nat.mul_le_mul h1 h1) (by have := h.1; have := k.2; omega)
theorem IsRoot.sq (r : Nat) : IsRoot (r * r) r := ⟨Nat.le_refl _, by have := Nat.mul_add (r + 1) r 1; have := Nat.add_mul r 1 r; omega⟩
theorem four_mul (x y : Nat) : 4 * (x * y) ≤ (x + y) * (x + y) := by
  have h : ((x : Int) - y) * (x - y) ≥ 0 := by
    rcases Int.le_total (x : Int) y with h | h
    · have := Int.mul_nonneg_of_nonpos_of_nonpos (a := (x : Int) - y) (b := (x : Int) - y) (by omega) (by omega)
      exact this
    · exact Int.mul_nonneg (by omega) (by omega)
  have e : ((x : Int) - y) * (x - y) = (x + y) * (x + y) - 4 * (x * y) := by grind
  rw [e] at h
  have : (4 * (x * y) : Int) ≤ (x + y) * (x + y) := by omega
  exact_mod_cast this
theorem newton_up {a x : Nat} (hx : 0 < x) : a < ((x + a / x) / 2 + 1) * ((x + a / x) / 2 + 1) := by
  obtain ⟨q, hq⟩ : ∃ q, q = a / x := ⟨_, rfl⟩
  rw [← hq]
  have h1 : a < x * (q + 1) := by rw [hq]; exact Nat.lt_mul_div_succ a hx
  obtain ⟨y, hy⟩ : ∃ y, y = (x + q) / 2 := ⟨_, rfl⟩
  rw [← hy]
  have h2 : x + (q + 1) ≤ 2 * (y + 1) := by omega
  have h3 := four_mul x (q + 1)
  have h4 := Nat.mul_le_mul h2 h2
  have e : 2 * (y + 1) * (2 * (y + 1)) = 4 * ((y + 1) * (y + 1)) := by grind
  rw [e] at h4
  omega
theorem newton_end {a x : Nat} (_hx : 0 < x) (h : x ≤ (x + a / x) / 2) : x * x ≤ a := by
  have h1 : x ≤ a / x := by omega
  have h2 := Nat.mul_le_mul_left x h1
  have h3 := Nat.mul_div_le a x
  omega
theorem start_up {a n : Nat} (h : a < 10 ^ n) : a < (10 ^ ((n + 1) / 2 + 1) + 1) * (10 ^ ((n + 1) / 2 + 1) + 1) := by
  have h1 : (10 : Nat) ^ n ≤ 10 ^ ((n + 1) / 2 + 1) * 10 ^ ((n + 1) / 2 + 1) := by
    rw [← Nat.pow_add]
    exact Nat.pow_le_pow_right (by decide) (by omega)
  obtain ⟨x, hx⟩ : ∃ x, x = 10 ^ ((n + 1) / 2 + 1) := ⟨_, rfl⟩
  rw [← hx] at h1 ⊢
  have := Nat.mul_le_mul (Nat.le_add_right x 1) (Nat.le_add_right x 1)
  omega
end Nt
theorem digs_one_le {d : Nat} (h : d < Nt.B) : (Nt.digs d).length ≤ 1 := Nt.digs_len (by rwa [Nat.pow_one])
theorem digs_add_le {a b k l : Nat} (ha : (Nt.digs a).length ≤ k) (hb : (Nt.digs b).length ≤ k) (hl : k + 1 ≤ l) : (Nt.digs (a + b)).length ≤ l := by
  have e1 := Nt.val_lt (Nt.digs_canon a).1
  have e2 := Nt.val_lt (Nt.digs_canon b).1
  rw [Nt.val_digs] at e1 e2
  have e3 := Nat.lt_of_lt_of_le e1 (Nat.pow_le_pow_right (show 0 < Nt.B by decide) ha)
  have e4 := Nat.lt_of_lt_of_le e2 (Nat.pow_le_pow_right (show 0 < Nt.B by decide) hb)
  exact Nat.le_trans (digs_pow (add_pow e3 e4)) hl
theorem digs_ten' {p k : Nat} (hp : p < 9 * k) : (Nt.digs (10 ^ p)).length ≤ k := by
  refine Nt.digs_len ?_
  have h : (10 : Nat) ^ p < 10 ^ (9 * k) := Nat.pow_lt_pow_right (by decide) hp
  rwa [Nat.pow_mul] at h

set_option maxRecDepth 100000 in
set_option maxHeartbeats 2000000 in
theorem root_any (va : Value) (a : Nat) (w : World) (ha : Nv w va (Nt.digs a)) (sa : (Nt.digs a).length ≤ 400) (hd : (Lib.decDigits a).length ≤ 3600) (htab : Lib.TabIs Tryz.prog w "internal/strconv.uint64pow10" .u64 Lib.pow10Tab) :
    Calls Tryz.prog 43 #[va] w fun e w' => ∃ r A c, e = .returned (.slice A (Nt.digs r).length c) ∧ Nt.IsRoot a r ∧ Nv w' (.slice A (Nt.digs r).length c) (Nt.digs r) ∧ Below w.heap.size w w' := by
  rcases Nat.eq_zero_or_pos a with rfl | hpos
  · have hz : (((Nt.digs 0).length : Int) == 0) = true := by rw [Nt.digs_zero]; rfl
    have HZ := Lib.hid fun W (h : Nv W va (Nt.digs 0)) => zero_v va _ W h
    have HA := Lib.hid ha
    obtain ⟨A, c, e, -⟩ := ha.ex
    have E := Lib.hid e
    clear ha htab e
    go_enter Tryz.func43, Tryz.ntmps43
    go_wp2_with (go_at_call 32; refine (HZ.out _ HA.out).mono ?_; rintro e w2 ⟨rfl, rfl⟩)
    go_ret
    have ha := HA.out
    rw [E.out] at ha ⊢
    exact ⟨0, A, c, rfl, ⟨by omega, by omega⟩, ha, Below.refl _ _⟩
  · have hz : (((Nt.digs a).length : Int) == 0) = false := by rw [Nt.digs_pos (by omega)]; simp; omega
    have HZ := Lib.hid fun W (h : Nv W va (Nt.digs a)) => zero_v va _ W h
    have HA := Lib.hid ha
    have HTX := Lib.hid (text_s va a w ha htab)
    have HTE := Lib.hid (show ∀ (W : World) (n : Nat) (z : Int), z = (n : Int) → n ≤ 1801 → Calls Tryz.prog 42 #[.int .i64 z] W fun e w' => ∃ A c, e = .returned (.slice A (Nt.digs (10 ^ n)).length c) ∧ Nv w' (.slice A (Nt.digs (10 ^ n)).length c) (Nt.digs (10 ^ n)) ∧ Below W.heap.size W w' from fun W n z e hn => by subst e; exact ten_any n W (by omega))
    have HLT := Lib.hid (show ∀ n, n = (Lib.decDigits a).length → a < 10 ^ n from fun n e => by rw [e]; exact Nt.dd_lt a)
    have HDL := Lib.hid (show ∀ n, n ≤ 1801 → (Nt.digs (10 ^ n)).length ≤ 201 from fun n hn => digs_ten' (by omega))
    have HPS := Lib.hid hpos
    have HTW := Lib.hid (digs_mono (show 2 ≤ 3 by decide))
    clear ha htab
    go_enter Tryz.func43, Tryz.ntmps43
    go_upto_region 3 with (go_at_call 32; refine (HZ.out _ HA.out).mono ?_; rintro e w2 ⟨rfl, rfl⟩)
    go_wp2_with (first
      | (go_at_call 57; refine HTX.out.mono ?_; rintro e w1 ⟨t, rfl, ht, hb⟩; have lt : (t.size : Int) ≤ 3600 := (by have := congrArg List.length ht; rw [show t.data.toList.length = t.size from rfl] at this; omega); have HTT := Lib.hid ht; have HB := Lib.hid hb; clear ht hb)
      | (go_at_call 42; (with_reducible refine (HTE.out _ ((t.size + 1) / 2 + 1) _ ?e1 ?e2).mono ?_); (case e1 => omega); (case e2 => omega); rintro e w3 ⟨A, c, rfl, hv, hb⟩; have HV := Lib.hid hv; have HB2 := Lib.hid (below_tr HB.out hb); clear hv hb))
    have l3 : t.size = (Lib.decDigits a).length := by
      have := congrArg List.length HTT.out
      rwa [show t.data.toList.length = t.size from rfl] at this
    have HST := Lib.hid (Nt.start_up (HLT.out _ l3))
    have hlx := HDL.out ((t.size + 1) / 2 + 1) (by omega)
    have hx0 : 0 < 10 ^ ((t.size + 1) / 2 + 1) := Nat.pow_pos (by decide)
    obtain ⟨x0, hx⟩ : ∃ x0, x0 = 10 ^ ((t.size + 1) / 2 + 1) := ⟨_, rfl⟩
    rw [← hx] at HV HST hlx hx0
    rw [← hx]
    clear HTE HLT HDL HTX HTT hx l3
    go_loopg [3] x0 (fun g s3 wr => 0 < g ∧ (∃ A c, s3 = .slice A (Nt.digs g).length c) ∧ Nv wr s3 (Nt.digs g) ∧ (Nt.digs g).length ≤ 201 ∧ Hid (a < (g + 1) * (g + 1)) ∧ Below w.heap.size w wr)
    case atStart => exact ⟨hx0, ⟨_, _, rfl⟩, HV.out, hlx, HST, HB2.out⟩
    case round =>
      obtain ⟨hg, ⟨B, k, rfl⟩, h1, h2, h3, h4⟩ := hrel
      have H1 := Lib.hid h1
      have H3 := Lib.hid h3
      have H4 := Lib.hid h4
      have hq : (Nt.digs (a / gk)).length ≤ 400 := Nat.le_trans (digs_mono (Nat.div_le_self a gk)) sa
      have hpq : (Nt.digs (gk + a / gk)).length ≤ 800 := digs_add_le (k := 400) (by omega) hq (by decide)
      have hyl : (Nt.digs ((gk + a / gk) / 2)).length ≤ 800 := Nat.le_trans (digs_mono (Nat.div_le_self _ 2)) hpq
      have HD1 := Lib.hid fun (W : World) (h : Nv W va (Nt.digs a)) (h' : Nv W (.slice B (Nt.digs gk).length k) (Nt.digs gk)) => divide_o va _ a gk W h h' (by omega) (by omega) (by omega)
      have HPL := Lib.hid fun (W : World) A c (h : Nv W (.slice B (Nt.digs gk).length k) (Nt.digs gk)) (h' : Nv W (.slice A (Nt.digs (a / gk)).length c) (Nt.digs (a / gk))) => plus_o _ _ gk (a / gk) W h h' (by omega) (by omega)
      have HD2 := Lib.hid fun (W : World) A c v (h : Nv W (.slice A (Nt.digs (gk + a / gk)).length c) (Nt.digs (gk + a / gk))) (h' : Nv W v (Nt.digs 2)) => divide_o _ v (gk + a / gk) 2 W h h' (by omega) (Nat.le_trans (digs_one_le (by decide)) (by decide)) (by decide)
      have HCM := Lib.hid fun (W : World) A c (h : Nv W (.slice A (Nt.digs ((gk + a / gk) / 2)).length c) (Nt.digs ((gk + a / gk) / 2))) (h' : Nv W (.slice B (Nt.digs gk).length k) (Nt.digs gk)) => compare_any _ _ _ _ W h h' (Nt.digs_canon _) (Nt.digs_canon _)
      have HUP := Lib.hid (Nt.newton_up (a := a) hg)
      have HEN := Lib.hid (Nt.newton_end (a := a) hg)
      obtain ⟨q, hqq⟩ : ∃ q, q = a / gk := ⟨_, rfl⟩
      rw [← hqq] at HD1 HPL HD2 HCM HUP HEN hyl
      obtain ⟨y, hyy⟩ : ∃ y, y = (gk + q) / 2 := ⟨_, rfl⟩
      have hdone : y < gk → (Nt.digs y).length ≤ 201 := fun h => Nat.le_trans (digs_mono (Nat.le_of_lt h)) h2
      have hy0 : 0 < y := by
        have := HUP.out
        rw [← hyy] at this
        have h1 := HPS.out
        rcases Nat.eq_zero_or_pos y with rfl | h2
        · omega
        · exact h2
      rw [← hyy] at HD2 HCM HUP HEN
      clear h1 h3 h4 hq hpq hyl hqq hyy
      by_cases hlt : y < gk
      · have HCX := Lib.hid (show ∀ (W : World) A c (h : Nv W (.slice A (Nt.digs y).length c) (Nt.digs y)) (h' : Nv W (.slice B (Nt.digs gk).length k) (Nt.digs gk)), Calls Tryz.prog 52 #[.slice A (Nt.digs y).length c, .slice B (Nt.digs gk).length k] W fun e w' => ∃ r : Int, e = .returned (.int .i64 r) ∧ r < 0 ∧ Below W.heap.size W w' from fun W A c h h' => by
          refine (HCM.out W A c h h').mono ?_
          rintro e w' ⟨r, n, rfl, hc, -, -, rfl⟩
          rw [Nt.val_digs, Nt.val_digs] at hc
          exact ⟨r, rfl, by rcases hc with ⟨h, _⟩ | ⟨_, h⟩ | ⟨_, h⟩ <;> omega, below_drewN (Below.refl _ _) _⟩)
        have HDN := Lib.hid (hdone hlt)
        clear hdone HCM
        go_wp2_with (first
          | (go_at_call 35; first
            | ((with_reducible refine (HD1.out _ (HA.out.below H4.out) H1.out).mono ?_); rintro e w4 ⟨A1, c1, A2, c2, rfl, hn, -, hb⟩; have HQ := Lib.hid hn; have HX := Lib.hid (H1.out.below hb); have HB3 := Lib.hid (below_tr H4.out hb); clear hn hb)
            | ((with_reducible refine (HD2.out _ _ _ _ (HS.out.below ((Below.refl _ w5).alloc (Nat.le_refl _) _)) (nv_lit w5 2 (by decide) (by decide) 2 rfl)).mono ?_); rintro e w6 ⟨A4, c4, A5, c5, rfl, hn, -, hb⟩; have HY := Lib.hid hn; have HX3 := Lib.hid ((HX2.out.below ((Below.refl _ w5).alloc (Nat.le_refl _) _)).below hb); have HB5 := Lib.hid (below_tr (HB4.out.alloc HB4.out.size _) hb); clear hn hb))
          | (go_at_call 36; (with_reducible refine (HPL.out _ _ _ HX.out HQ.out).mono ?_); rintro e w5 ⟨A3, c3, rfl, hn, hb⟩; have HS := Lib.hid hn; have HX2 := Lib.hid (HX.out.below hb); have HB4 := Lib.hid (below_tr HB3.out hb); clear hn hb)
          | (go_at_call 52; (with_reducible refine (HCX.out _ _ _ HY.out HX3.out).mono ?_); rintro e w7 ⟨r, rfl, hr, hb⟩; have HY2 := Lib.hid (HY.out.below hb); have HB6 := Lib.hid (below_tr HB5.out hb); clear hb))
        go_roundg y
        case measure => exact hlt
        case rel => exact ⟨hy0, ⟨_, _, rfl⟩, HY2.out, HDN.out, HUP, HB6.out⟩
      · have HCX := Lib.hid (show ∀ (W : World) A c (h : Nv W (.slice A (Nt.digs y).length c) (Nt.digs y)) (h' : Nv W (.slice B (Nt.digs gk).length k) (Nt.digs gk)), Calls Tryz.prog 52 #[.slice A (Nt.digs y).length c, .slice B (Nt.digs gk).length k] W fun e w' => ∃ r : Int, e = .returned (.int .i64 r) ∧ 0 ≤ r ∧ Below W.heap.size W w' from fun W A c h h' => by
          refine (HCM.out W A c h h').mono ?_
          rintro e w' ⟨r, n, rfl, hc, -, -, rfl⟩
          rw [Nt.val_digs, Nt.val_digs] at hc
          exact ⟨r, rfl, by rcases hc with ⟨h, _⟩ | ⟨_, h⟩ | ⟨_, h⟩ <;> omega, below_drewN (Below.refl _ _) _⟩)
        have HR := Lib.hid (show Nt.IsRoot a gk from ⟨HEN.out (by omega), H3.out⟩)
        clear hdone HCM hlt
        go_wp2_with (first
          | (go_at_call 35; first
            | ((with_reducible refine (HD1.out _ (HA.out.below H4.out) H1.out).mono ?_); rintro e w4 ⟨A1, c1, A2, c2, rfl, hn, -, hb⟩; have HQ := Lib.hid hn; have HX := Lib.hid (H1.out.below hb); have HB3 := Lib.hid (below_tr H4.out hb); clear hn hb)
            | ((with_reducible refine (HD2.out _ _ _ _ (HS.out.below ((Below.refl _ w5).alloc (Nat.le_refl _) _)) (nv_lit w5 2 (by decide) (by decide) 2 rfl)).mono ?_); rintro e w6 ⟨A4, c4, A5, c5, rfl, hn, -, hb⟩; have HY := Lib.hid hn; have HX3 := Lib.hid ((HX2.out.below ((Below.refl _ w5).alloc (Nat.le_refl _) _)).below hb); have HB5 := Lib.hid (below_tr (HB4.out.alloc HB4.out.size _) hb); clear hn hb))
          | (go_at_call 36; (with_reducible refine (HPL.out _ _ _ HX.out HQ.out).mono ?_); rintro e w5 ⟨A3, c3, rfl, hn, hb⟩; have HS := Lib.hid hn; have HX2 := Lib.hid (HX.out.below hb); have HB4 := Lib.hid (below_tr HB3.out hb); clear hn hb)
          | (go_at_call 52; (with_reducible refine (HCX.out _ _ _ HY.out HX3.out).mono ?_); rintro e w7 ⟨r, rfl, hr, hb⟩; have HX4 := Lib.hid (HX3.out.below hb); have HB6 := Lib.hid (below_tr HB5.out hb); clear hb))
        go_ret
        exact ⟨gk, B, k, rfl, HR.out, HX4.out, HB6.out⟩
end Go.Proofs.YtliljihkoojggaaGreatDoor
