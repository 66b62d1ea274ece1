/- The contract of exact's digit. -/
import Derived.Test.YtigeipjkcidleaaGreatDoorNatF
namespace Go.Proofs.YtigeipjkcidleaaGreatDoor
open Go.RowKit

namespace Nt
theorem val_drop_lt {l : List Nat} (h : dig l) (k : Nat) : val (l.drop k) < B ^ (l.length - k) := by
  have := val_lt (dig_drop h k)
  rwa [List.length_drop] at this
theorem val_take_drop (l : List Nat) (k : Nat) (h : k ≤ l.length) : val l = val (l.take k) + B ^ k * val (l.drop k) := by
  have e := val_append (l.take k) (l.drop k)
  rw [List.take_append_drop, List.length_take, Nat.min_eq_left h] at e
  exact e
/-- The leading digit. -/
theorem lead {l : List Nat} (h : canon l) (k : Nat) (hk : k < l.length) (hl : k + 1 = l.length) : 0 < l[k] ∧ l[k] < B ∧ val l = val (l.take k) + B ^ k * l[k] ∧ val (l.take k) < B ^ k := by
  have h1 := val_take_succ l k hk
  rw [take_of_ge l (k + 1) (by omega)] at h1
  have h2 := val_lt (dig_take h.1 k)
  rw [List.length_take, Nat.min_eq_left (by omega)] at h2
  refine ⟨?_, h.1 _ (List.getElem_mem hk), h1, h2⟩
  rcases Nat.eq_zero_or_pos l[k] with e | e
  · exfalso
    apply h.2
    rw [List.getLast?_eq_getElem?, List.getElem?_eq_getElem (by omega)]
    have : l.length - 1 = k := by omega
    simp only [this, e]
  · exact e
theorem len_quot {r b : List Nat} (cr : canon r) (cb : canon b) (h : val r < val b * B) : r.length ≤ b.length + 1 := by
  rcases Nat.lt_or_ge (b.length + 1) r.length with hl | hl
  · have h1 := canon_ge cr (by rintro rfl; simp at hl)
    have h2 := val_lt cb.1
    have h3 : B ^ (b.length + 1) ≤ B ^ (r.length - 1) := Nat.pow_le_pow_right (by decide) (by omega)
    have h4 : val b * B < B ^ b.length * B := Nat.mul_lt_mul_of_pos_right h2 (by decide)
    rw [Nat.pow_succ] at h3
    omega
  · exact hl
/-- The bounds that the leading digits give. -/
theorem quot_low {r b : List Nat} {k : Nat} (_cr : canon r) (cb : canon b) (hk : k < b.length) (hl : k + 1 = b.length) (hr : k ≤ r.length) :
    val b * (val (r.drop k) / (b[k] + 1)) ≤ val r := by
  obtain ⟨h1, h2, h3, h4⟩ := lead cb k hk hl
  have e := val_take_drop r k hr
  have h5 := Nat.div_mul_le_self (val (r.drop k)) (b[k] + 1)
  generalize val (r.drop k) / (b[k] + 1) = q at *
  have h6 : val b ≤ B ^ k * (b[k] + 1) := by rw [h3, Nat.mul_succ]; omega
  have h7 : val b * q ≤ B ^ k * (b[k] + 1) * q := Nat.mul_le_mul_right _ h6
  have h8 : B ^ k * (b[k] + 1) * q ≤ B ^ k * val (r.drop k) := by
    rw [Nat.mul_assoc, Nat.mul_comm (b[k] + 1)]
    exact Nat.mul_le_mul_left _ h5
  omega
theorem quot_top {r b : List Nat} {k : Nat} (cr : canon r) (cb : canon b) (hk : k < b.length) (hl : k + 1 = b.length) (hr : k ≤ r.length) :
    val r < val b * (val (r.drop k) / b[k] + 1) := by
  obtain ⟨h1, h2, h3, h4⟩ := lead cb k hk hl
  have e := val_take_drop r k hr
  have h5 : val (r.drop k) < b[k] * (val (r.drop k) / b[k] + 1) := by
    have := Nat.lt_mul_div_succ (val (r.drop k)) h1
    exact this
  generalize val (r.drop k) / b[k] = q at *
  have h4' := val_lt (dig_take cr.1 k)
  rw [List.length_take, Nat.min_eq_left hr] at h4'
  have h6 : B ^ k * b[k] * (q + 1) ≤ val b * (q + 1) := Nat.mul_le_mul_right _ (by omega)
  have h7 : B ^ k * (val (r.drop k) + 1) ≤ B ^ k * (b[k] * (q + 1)) := Nat.mul_le_mul_left _ h5
  rw [Nat.mul_succ] at h7
  rw [Nat.mul_assoc] at h6
  omega
theorem quot_of {r b q : Nat} (h1 : b * q ≤ r) (h2 : r < b * (q + 1)) : q = r / b := by
  have hb : 0 < b := by
    rcases Nat.eq_zero_or_pos b with e | e
    · subst e; simp at h2
    · exact e
  have h3 := (Nat.le_div_iff_mul_le hb (x := q) (y := r)).2 (by rw [Nat.mul_comm]; exact h1)
  have h4 := Nat.div_lt_of_lt_mul h2
  omega
theorem digs_one {m : Nat} (h : m < B) : trimL [m] = digs m := by
  have h1 : dig [m] := dig_one h
  rw [← digs_val (trimL_canon h1), trimL_val h1]
  simp [val]
end Nt

set_option maxRecDepth 100000 in
set_option maxHeartbeats 2000000 in
theorem digit_any (va vb : Value) (r b : List Nat) (w : World) (ha : Nv w va r) (hb : Nv w vb b) (ca : Nt.canon r) (cb : Nt.canon b) (sb : b.length ≤ 900000) (h0 : 0 < Nt.val b) (hlt : Nt.val r < Nt.val b * Nt.B) :
    Calls Tryz.prog 167 #[va, vb] w fun e w' => e = .returned (.int .u32 ((Nt.val r / Nt.val b : Nat) : Int)) ∧ Below w.heap.size w w' := by
  have hlen := Nt.len_quot ca cb hlt
  have hcmp := fun W h1 h2 => compare_any va vb r b W h1 h2 ca cb
  obtain ⟨A, c, rfl, a1, a2, a0, a3⟩ := ha.ex
  obtain ⟨A', c', rfl, b1, b2, b0, b3⟩ := hb.ex
  have HA := Lib.hid ha
  have HB := Lib.hid hb
  have CA := Lib.hid ca
  have CB := Lib.hid cb
  have HC := Lib.hid hcmp
  have HLT := Lib.hid hlt
  have H0 := Lib.hid h0
  have hne : 0 < b.length := by
    rcases Nat.eq_zero_or_pos b.length with e | e
    · rw [List.eq_nil_of_length_eq_zero e] at h0; simp [Nt.val] at h0
    · exact e
  clear ha hb ca cb a0 b0 hcmp hlt h0
  by_cases hsm : Nt.val r < Nt.val b
  · have hq : Nt.val r / Nt.val b = 0 := Nat.div_eq_of_lt hsm
    have HQ := Lib.hid hq
    have HS := Lib.hid hsm
    clear hq hsm a3 b3
    go_enter Tryz.func167, Tryz.ntmps167
    go_wp2_with (go_at_call 79; refine (HC.out _ HA.out HB.out).mono ?_; rintro e w1 ⟨q, n, rfl, hq, q1, q2, rfl⟩; have hneg : q < 0 := (by rcases hq with ⟨h, _⟩ | ⟨_, h⟩ | ⟨_, h⟩; exact h; (have := HS.out; omega); (have := HS.out; omega)); clear hq)
    go_ret
    exact ⟨by rw [HQ.out]; rfl, below_drewN (Below.refl _ _) _⟩
  · obtain ⟨k, hk⟩ : ∃ k, k + 1 = b.length := ⟨b.length - 1, by omega⟩
    have hkb : k < b.length := by omega
    have hrb : b.length ≤ r.length := Nt.len_of_le CA.out CB.out (by omega)
    have hkr : k ≤ r.length := by omega
    have hql := Nt.quot_low CA.out CB.out hkb hk hkr
    have hqt := Nt.quot_top CA.out CB.out hkb hk hkr
    obtain ⟨l1, l2, l3, l4⟩ := Nt.lead CB.out k hkb hk
    clear l3 l4
    obtain ⟨b', o', rfl, hb1', hb2'⟩ := b3 hne
    have hcb := hb2' k hkb
    obtain ⟨y, ey⟩ : ∃ y, y = b[k] := ⟨_, rfl⟩
    rw [← ey] at hcb l1 l2 hql hqt
    clear ey
    have HQL := Lib.hid hql
    have HQT := Lib.hid hqt
    have HS := Lib.hid hsm
    have HK := Lib.hid hk
    have ek : ((b.length : Nat) : Int) - 1 = k := by omega
    obtain ⟨bA, oA, rfl, ha1, ha2⟩ := a3 (by omega)
    have HA2 := Lib.hid ha2
    clear hql hqt hsm hb2' b3 hk a3 ha2
    go_enter Tryz.func167, Tryz.ntmps167
    go_wp2_with (go_at_call 79; refine (HC.out _ HA.out HB.out).mono ?_; rintro e w1 ⟨q, n, rfl, hq, q1, q2, rfl⟩; have hneg : ¬ q < 0 := (by rcases hq with ⟨_, h⟩ | ⟨h, _⟩ | ⟨h, _⟩; (have := HS.out; omega); (omega); (omega)); clear hq)
    go_loop [6, 7] (fun s6 s7 => ∃ j : Nat, k ≤ j ∧ j ≤ r.length ∧ s7 = .int .i64 ((j : Int) - 1) ∧ s6 = .int .u64 (Nt.val (r.drop j) : Int)) (fun _ s7 => (intOf s7 + 1).toNat)
    case atStart => exact ⟨r.length, hkr, Nat.le_refl _, rfl, by rw [List.drop_length]; rfl⟩
    case round =>
      obtain ⟨j, hj1, hj2, rfl, rfl⟩ := hrel
      rcases Nat.eq_or_lt_of_le hj1 with rfl | hj
      · have hv := Nt.val_drop_lt CA.out.1 k
        have hpw : Nt.B ^ (r.length - k) ≤ Nt.B ^ 2 := Nat.pow_le_pow_right (by decide) (by have := HK.out; omega)
        have hB2 : Nt.B ^ 2 = 1000000000000000000 := by decide
        have hv2 : Nt.val (r.drop k) < 1000000000000000000 := by omega
        have HQL2 := HQL.out
        have HQT2 := HQT.out
        clear hv hpw hB2
        generalize Nt.val (r.drop k) = h at *
        obtain ⟨lo0, hlo⟩ : ∃ lo0, lo0 = h / (y + 1) := ⟨_, rfl⟩
        rw [← hlo] at HQL2
        have hlo1 : (h : Int) / ((y : Int) + 1) = lo0 := by rw [hlo, Int.natCast_ediv, Int.natCast_add]; rfl
        have K1 := Lib.hid HQL2
        have K2 := Lib.hid HQT2
        obtain ⟨qd, hqd⟩ : ∃ qd, qd = h / y := ⟨_, rfl⟩
        have q1 : (h : Int) / (y : Int) = qd := by rw [hqd, Int.natCast_ediv]
        have q2 : qd ≤ h := by rw [hqd]; exact Nat.div_le_self h y
        have q3 : lo0 ≤ h := by rw [hlo]; exact Nat.div_le_self h (y + 1)
        have w1 : IntKind.u64.wrap (y : Int) = y := IntWalk.u64_in _ (by unfold Nt.B at l2; omega)
        have w2 : IntKind.u64.wrap ((y : Int) + 1) = (y : Int) + 1 := IntWalk.u64_in _ (by unfold Nt.B at l2; omega)
        have w3 : IntKind.u64.wrap (lo0 : Int) = lo0 := IntWalk.u64_in _ (by omega)
        have w4 : IntKind.u64.wrap (qd : Int) = qd := IntWalk.u64_in _ (by omega)
        have y1 : ¬ (y : Int) + 1 = 0 := by omega
        have y0 : ¬ y = 0 := by omega
        rw [← hqd] at K2
        clear hqd HQL2 HQT2 hlo HQL HQT q3
        go_wp2
        have KT : Hid (∃ tp : Nat, tp < 1000000000 ∧ Nt.val r < Nt.val b * (tp + 1) ∧ (qd < 999999999 → tp = qd) ∧ (999999999 < qd → tp = 999999999) ∧ (qd = 999999999 → tp = 999999999)) := by
          refine Lib.hid ?_
          by_cases hc : qd < 999999999
          · exact ⟨qd, by omega, K2.out, fun _ => rfl, fun h => by omega, fun h => h⟩
          · exact ⟨999999999, by omega, HLT.out, fun h => absurd h hc, fun _ => rfl, fun _ => rfl⟩
        rcases Nat.lt_trichotomy qd 999999999 with hc | hc | hc
        case' inl =>
          have hc' : (qd : Int) < 999999999 := by omega
          obtain ⟨tp0, t1, t2, t3, t4, t5⟩ := KT.out
          obtain rfl : tp0 = qd := t3 hc
        case' inr.inl =>
          obtain ⟨tp0, t1, t2, t3, t4, t5⟩ := KT.out
          obtain rfl : tp0 = 999999999 := t5 hc
          subst hc
        case' inr.inr =>
          have hc' : (999999999 : Int) < qd := by omega
          obtain ⟨tp0, t1, t2, t3, t4, t5⟩ := KT.out
          obtain rfl : tp0 = 999999999 := t4 hc
        all_goals
          have K0 := Lib.hid t2
          clear t2 KT t3 t4 t5
          go_region
          go_wp2
          clear q1 w1 w2 w3 w4 y1 y0 hlo1
          try clear hc'
          try clear hc
          go_loopw [8, 9] (fun s8 s9 wr => ∃ lo tp : Nat, s8 = .int .u64 lo ∧ s9 = .int .u64 tp ∧ tp < 1000000000 ∧ Nt.val b * lo ≤ Nt.val r ∧ Nt.val r < Nt.val b * (tp + 1) ∧ Below w.heap.size w wr) (fun s8 s9 _ => (intOf s9 - intOf s8).toNat)
          case atStart => exact ⟨lo0, _, rfl, by go_num, t1, K1.out, K0.out, below_drewN (Below.refl _ _) _⟩
          case round =>
            obtain ⟨lo, tp, rfl, rfl, ht, h1, h2, hbel⟩ := hrel
            have hlt : lo < tp + 1 := Nat.lt_of_mul_lt_mul_left (Nat.lt_of_le_of_lt h1 h2)
            have hbz := hbel.size
            have HBel := Lib.hid hbel
            have H1 := Lib.hid h1
            have H2 := Lib.hid h2
            clear h1 h2 hbel
            by_cases hc : lo < tp
            · obtain ⟨m, hm⟩ : ∃ m, m = (lo + tp + 1) / 2 := ⟨_, rfl⟩
              have hmi : ((lo : Int) + tp + 1) / 2 = m := by omega
              have m1 : lo < m := by omega
              have m2 : m ≤ tp := by omega
              have hN : Nv (wr.alloc (.cells #[.int .u32 (m : Int)] 193)) (.slice (some ⟨wr.heap.size, 0, none⟩) 1 1) [m] := (own_lit1 wr w.heap.size hbz m m rfl).nv (by simp)
              have hB2 : Below w.heap.size w (wr.alloc (.cells #[.int .u32 (m : Int)] 193)) := HBel.out.alloc hbz _
              have hb2 := HB.out.below hB2
              have ht1 := fun W h => trim_any (.slice (some ⟨wr.heap.size, 0, none⟩) 1 1) W 1 [m] rfl h (Nt.dig_one (by unfold Nt.B; omega))
              rw [Nt.digs_one (by unfold Nt.B; omega : m < Nt.B)] at ht1
              have ht2 := fun W v h1 h2 => times_any (.slice (some ⟨b', o', none⟩) b.length c') v b (Nt.digs m) W h1 h2 CB.out (Nt.digs_canon m) (by omega) (Nat.le_trans (Nt.digs_len (k := 1) (by rw [Nat.pow_one]; unfold Nt.B; omega)) (by omega))
              rw [Nt.val_digs] at ht2
              have ht3 := fun W v h1 h2 => compare_any v (.slice (some ⟨bA, oA, none⟩) r.length c) (Nt.digs (Nt.val b * m)) r W h1 h2 (Nt.digs_canon _) CA.out
              rw [Nt.val_digs] at ht3
              have T1 := Lib.hid ht1
              have T2 := Lib.hid ht2
              have T3 := Lib.hid ht3
              have HN := Lib.hid hN
              have HB2 := Lib.hid hB2
              have HBB := Lib.hid hb2
              have HM := Lib.hid hm
              clear ht1 ht2 ht3 hN hB2 hb2 hm
              by_cases hle : Nt.val b * m ≤ Nt.val r
              · have HLE := Lib.hid hle
                clear hle
                go_wp2_with (first | (go_at_call 133; refine (T1.out _ HN.out).mono ?_; rintro e w2 ⟨v2, rfl, hn2, rfl⟩) | (go_at_call 77; refine (T2.out _ _ HBB.out hn2).mono ?_; rintro e w3 ⟨v3, rfl, hn3, hb3⟩) | (go_at_call 79; refine (T3.out _ _ hn3 (HA.out.below (HB2.out.trans (hb3.mono HB2.out.size)))).mono ?_; rintro e w4 ⟨q5, n5, rfl, hq5, q6, q7, rfl⟩; have hqq : q5 ≤ 0 := (by rcases hq5 with ⟨h, _⟩ | ⟨h, _⟩ | ⟨_, h⟩; (omega); (omega); (have := HLE.out; omega)); clear hq5))
                go_roundw
                case rel => exact ⟨m, tp, by go_num, rfl, ht, HLE.out, H2.out, below_drewN (HB2.out.trans (hb3.mono HB2.out.size)) _⟩
                case measure => simp [intOf]; omega
              · have hgt : Nt.val r < Nt.val b * (m - 1 + 1) := by
                  rw [Nat.sub_add_cancel (by omega)]; omega
                have HGT := Lib.hid hgt
                have HLE := Lib.hid hle
                clear hle hgt
                have hm1 : ((m - 1 : Nat) : Int) = (m : Int) - 1 := by omega
                go_wp2_with (first | (go_at_call 133; refine (T1.out _ HN.out).mono ?_; rintro e w2 ⟨v2, rfl, hn2, rfl⟩) | (go_at_call 77; refine (T2.out _ _ HBB.out hn2).mono ?_; rintro e w3 ⟨v3, rfl, hn3, hb3⟩) | (go_at_call 79; refine (T3.out _ _ hn3 (HA.out.below (HB2.out.trans (hb3.mono HB2.out.size)))).mono ?_; rintro e w4 ⟨q5, n5, rfl, hq5, q6, q7, rfl⟩; have hqq : ¬ q5 ≤ 0 := (by rcases hq5 with ⟨_, h⟩ | ⟨_, h⟩ | ⟨h, _⟩; (have := HLE.out; omega); (have := HLE.out; omega); (omega)); clear hq5))
                go_roundw
                case rel => exact ⟨lo, m - 1, rfl, by rw [hm1], by omega, H1.out, HGT.out, below_drewN (HB2.out.trans (hb3.mono HB2.out.size)) _⟩
                case measure => simp [intOf]; omega
            · obtain rfl : lo = tp := by omega
              have hq := Nt.quot_of H1.out H2.out
              have HQ := Lib.hid hq
              clear hq
              go_wp2
              go_ret
              exact ⟨ret_int (by rw [← HQ.out]), HBel.out⟩
      · obtain ⟨i, rfl⟩ : ∃ i, j = i + 1 := ⟨j - 1, by omega⟩
        have hir : i < r.length := by omega
        have hci := HA2.out i hir
        have hd := CA.out.1 r[i] (List.getElem_mem hir)
        have hv := Nt.val_drop_lt CA.out.1 (i + 1)
        have hpw : Nt.B ^ (r.length - (i + 1)) ≤ Nt.B ^ 1 := Nat.pow_le_pow_right (by decide) (by omega)
        have hv2 : Nt.val (r.drop (i + 1)) < 1000000000 := by rw [Nat.pow_one] at hpw; unfold Nt.B at hpw hv; omega
        have es : Nt.val (r.drop i) = r[i] + Nt.B * Nt.val (r.drop (i + 1)) := by rw [List.drop_eq_getElem_cons hir, Nt.val_cons]
        have ei : ((i + 1 : Nat) : Int) - 1 = i := by omega
        rw [ei]
        have ES := Lib.hid es
        unfold Nt.B at hd
        generalize Nt.val (r.drop (i + 1)) = h at *
        clear hv hpw es ei
        obtain ⟨x, ex⟩ : ∃ x, x = r[i] := ⟨_, rfl⟩
        rw [← ex] at hci hd
        have EX := Lib.hid ex
        clear ex
        go_wp2
        go_round
        case rel => exact ⟨i, by omega, by omega, rfl, by rw [ES.out, ← EX.out]; unfold Nt.B; go_num⟩
        case measure => simp [intOf]
end Go.Proofs.YtigeipjkcidleaaGreatDoor
