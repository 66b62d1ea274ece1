/- The contract of exact's divide. -/
import Derived.Test.YtigeipjkcidleaaGreatDoorNatG
namespace Go.Proofs.YtigeipjkcidleaaGreatDoor
open Go.RowKit

namespace Nt
theorem digs_shift {d R : Nat} (h : d < B) : trimL (d :: digs R) = digs (d + B * R) := by
  have h1 : dig (d :: digs R) := fun x hx => by
    rcases List.mem_cons.1 hx with rfl | hx
    · exact h
    · exact (digs_canon R).1 x hx
  rw [← digs_val (trimL_canon h1), trimL_val h1, val_cons, val_digs]
/-- Behind the digits of the dividend from j on. -/
structure DivAt (a : List Nat) (b : Nat) (O : List Nat) (j R : Nat) : Prop where
  len : O.length = a.length
  dg : dig O
  lt : R < b
  eq : val (a.drop j) = b * val (O.drop j) + R
theorem DivAt.start (a : List Nat) {b : Nat} (h : 0 < b) : DivAt a b (List.replicate a.length 0) a.length 0 :=
  ⟨by simp, dig_zeros _, h, by simp [val]⟩
theorem DivAt.x_lt {b d R : Nat} (hd : d < B) (hR : R < b) : d + B * R < b * B := by
  have h1 : B * (R + 1) ≤ B * b := Nat.mul_le_mul_left _ hR
  rw [Nat.mul_succ, Nat.mul_comm B b] at h1
  omega
theorem DivAt.step {a O : List Nat} {b i R : Nat} (h : DivAt a b O (i + 1) R) (ha : dig a) (hi : i < a.length) (hb : 0 < b) :
    DivAt a b (O.set i ((a[i] + B * R) / b)) i ((a[i] + B * R) % b) := by
  have hiO : i < O.length := by rw [h.len]; exact hi
  have hx := DivAt.x_lt (ha a[i] (List.getElem_mem hi)) h.lt
  refine ⟨by rw [List.length_set]; exact h.len, dig_set h.dg _ (Nat.div_lt_of_lt_mul hx), Nat.mod_lt _ hb, ?_⟩
  rw [List.drop_eq_getElem_cons hi, List.drop_eq_getElem_cons (l := O.set i ((a[i] + B * R) / b)) (by simpa using hiO), val_cons, val_cons, set_drop, h.eq]
  simp only [List.getElem_set_self]
  have hdm := Nat.mod_add_div (a[i] + B * R) b
  have e1 : B * (b * val (O.drop (i + 1)) + R) = b * (B * val (O.drop (i + 1))) + B * R := by rw [Nat.mul_add, Nat.mul_left_comm]
  rw [e1, Nat.mul_add]
  omega
theorem DivAt.done {a O : List Nat} {b R : Nat} (h : DivAt a b O 0 R) : val O = val a / b ∧ R = val a % b := by
  have e := h.eq
  simp only [List.drop_zero] at e
  have hb : 0 < b := by have := h.lt; omega
  have h1 : val O = val a / b := by
    refine quot_of (by rw [e]; omega) ?_
    rw [e, Nat.mul_succ]
    have := h.lt
    omega
  refine ⟨h1, ?_⟩
  have h2 := Nat.mod_add_div (val a) b
  rw [← h1] at h2
  omega
end Nt

set_option maxRecDepth 100000 in
set_option maxHeartbeats 2000000 in
theorem divide_any (va vb : Value) (a b : List Nat) (w : World) (ha : Nv w va a) (hb : Nv w vb b) (ca : Nt.canon a) (cb : Nt.canon b) (sa : a.length ≤ 900000) (sb : b.length ≤ 900000) (h0 : 0 < Nt.val b) :
    Calls Tryz.prog 131 #[va, vb] w fun e w' => ∃ v1 v2, e = .returned (.tuple #[v1, v2]) ∧ Nv w' v1 (Nt.digs (Nt.val a / Nt.val b)) ∧ Nv w' v2 (Nt.digs (Nt.val a % Nt.val b)) ∧ Below w.heap.size w w' := by
  obtain ⟨A, c, rfl, a1, a2, a0, a3⟩ := ha.ex
  have HB := Lib.hid hb
  have CA := Lib.hid ca
  have CB := Lib.hid cb
  have H0 := Lib.hid h0
  clear ha hb ca cb a0 h0
  go_enter Tryz.func131, Tryz.ntmps131
  go_wp2_with (at_make; refine wp_make0 rfl _ _ rfl w.heap.size _ _ a.length rfl rfl ?_ ?_ ?_ (Nat.le_refl _) ?_; (go_num); (go_num); (omega); intro w1 ho1 hg1 hs1)
  have HO := Lib.hid ho1
  have HB1 := Lib.hid (below_made (Below.refl w.heap.size w) (Nat.le_refl _) hg1)
  clear ho1 hg1
  go_loopw [7, 8] (fun s7 s8 wr => ∃ (j R : Nat) (O : List Nat), s8 = .int .i64 ((j : Int) - 1) ∧ j ≤ a.length ∧ Nv wr s7 (Nt.digs R) ∧ Own wr w.heap.size (.slice (some ⟨w.heap.size, 0, none⟩) a.length a.length) O ∧ Nt.DivAt a (Nt.val b) O j R ∧ Below w.heap.size w wr ∧ w.heap.size < wr.heap.size) (fun _ s8 _ => (intOf s8 + 1).toNat)
  case atStart => exact ⟨a.length, 0, _, rfl, Nat.le_refl _, by rw [Nt.digs_zero]; exact Nv.nil, HO.out, Nt.DivAt.start a H0.out, HB1.out, hs1⟩
  case round =>
    obtain ⟨j, R, O, rfl, hj, hnv, hown, hdiv, hbel, hgt⟩ := hrel
    rcases Nat.eq_zero_or_pos j with rfl | hpos
    · obtain ⟨e1, e2⟩ := hdiv.done
      have hdg := hdiv.dg
      have hol := hdiv.len
      have e : Nt.trimL O = Nt.digs (Nt.val a / Nt.val b) := by rw [← e1, ← Nt.digs_val (Nt.trimL_canon hdg), Nt.trimL_val hdg]
      have hnv1 : Nv wr (.slice (some ⟨w.heap.size, 0, none⟩) a.length a.length) O := by
        refine Own.nv (base := w.heap.size) ?_ (by omega)
        exact hown
      rw [e2] at hnv
      have htr := fun W h => trim_any (.slice (some ⟨w.heap.size, 0, none⟩) a.length a.length) W O.length O rfl h hdg
      rw [e] at htr
      have HT := Lib.hid htr
      have HN := Lib.hid hnv
      have HN1 := Lib.hid hnv1
      have HBel := Lib.hid hbel
      clear htr e hnv1 hdg e1 e2 hdiv hown hnv a3 hbel hol
      go_wp2_with (go_at_call 133; refine (HT.out _ HN1.out).mono ?_; rintro e w2 ⟨v2, rfl, hn2, rfl⟩)
      go_ret2
      exact ⟨v2, _, rfl, hn2, HN.out, HBel.out⟩
    · obtain ⟨i, rfl⟩ : ∃ i, j = i + 1 := ⟨j - 1, by omega⟩
      have hi : i < a.length := by omega
      obtain ⟨bA, oA, rfl, hA1, hA2⟩ := a3 (by omega)
      have hci := (hbel.cell (p := ⟨bA, oA + i, none⟩) (by exact hA1)).trans (hA2 i hi)
      have hd := CA.out.1 a[i] (List.getElem_mem hi)
      have hst := hdiv.step CA.out.1 hi H0.out
      have hxl := Nt.DivAt.x_lt hd hdiv.lt
      have hol := hdiv.len
      obtain ⟨d, ed⟩ : ∃ d, d = a[i] := ⟨_, rfl⟩
      rw [← ed] at hci hd hst hxl
      have hq := Nat.div_lt_of_lt_mul hxl
      have hmd := Nat.mod_add_div (d + Nt.B * R) (Nt.val b)
      obtain ⟨X, eX⟩ : ∃ X, X = d + Nt.B * R := ⟨_, rfl⟩
      rw [← eX] at hst hxl hq hmd
      obtain ⟨q, eq⟩ : ∃ q, q = X / Nt.val b := ⟨_, rfl⟩
      rw [← eq] at hst hq hmd
      have hsub : X - Nt.val b * q = X % Nt.val b := by omega
      have hle : Nt.val b * q ≤ X := by omega
      have ei : ((i + 1 : Nat) : Int) - 1 = i := by omega
      rw [ei]
      have htd := Nt.digs_shift (R := R) hd
      rw [← eX] at htd
      have hxlen : (Nt.digs X).length ≤ b.length + 1 := by
        refine Nt.digs_len ?_
        have h1 := Nt.val_lt CB.out.1
        have h2 : Nt.val b * Nt.B < Nt.B ^ b.length * Nt.B := Nat.mul_lt_mul_of_pos_right h1 (by decide)
        rw [← Nat.pow_succ] at h2
        exact Nat.lt_trans hxl h2
      have hRlen := hnv.len
      have hRl : (Nt.digs R).length ≤ b.length := by
        refine Nt.digs_len ?_
        have h1 := Nt.val_lt CB.out.1
        have h2 := hdiv.lt
        omega
      have hdig := fun W v h1 h2 => digit_any v vb (Nt.digs X) b W h1 h2 (Nt.digs_canon X) CB.out sb H0.out (by rw [Nt.val_digs]; exact hxl)
      rw [Nt.val_digs, ← eq] at hdig
      have HDIG := Lib.hid hdig
      clear hdig
      have t8 := fun W v h => trim_any v W 1 [q] rfl h (Nt.dig_one hq)
      rw [Nt.digs_one hq] at t8
      have t9 := fun W v h1 h2 => times_any vb v b (Nt.digs q) W h1 h2 CB.out (Nt.digs_canon q) (by omega) (Nat.le_trans (Nt.digs_len (k := 1) (by rw [Nat.pow_one]; exact hq)) (by omega))
      rw [Nt.val_digs] at t9
      have t10 := fun W v v' h1 h2 => minus_any v v' (Nt.digs X) (Nt.digs (Nt.val b * q)) W h1 h2 (Nt.digs_canon _) (Nt.digs_canon _) (by rw [Nt.val_digs, Nt.val_digs]; exact hle)
      rw [Nt.val_digs, Nt.val_digs, hsub] at t10
      have T8 := Lib.hid t8
      have T9 := Lib.hid t9
      have T10 := Lib.hid t10
      clear t8 t9 t10
      have HNV := Lib.hid (hnv.below ((Below.refl _ wr).alloc (Nat.le_refl _) (.cells #[.int .u32 (d : Int)] 193)))
      have HOwn := Lib.hid hown
      have HST := Lib.hid hst
      have HXL := Lib.hid hxl
      have HTD := Lib.hid htd
      have HSub := Lib.hid hsub
      have HLe := Lib.hid hle
      have HOl := Lib.hid hol
      have HBel := Lib.hid hbel
      have HX := Lib.hid eX
      have HQ := Lib.hid eq
      have HD := Lib.hid hd
      have HQ2 := Lib.hid hq
      have hdcs : Nt.dig ([d] ++ Nt.digs R) := Nt.dig_append (Nt.dig_one hd) (Nt.digs_canon R).1
      have HDC := Lib.hid hdcs
      clear hnv hown hdiv hbel a3 hA2 hst hxl hmd hsub hle hol ed htd eX eq hd hq hdcs ei hRlen
      go_wp2_with (first | (at_builtin; refine wp_appN rfl _ _ rfl wr.heap.size _ [d] rfl (own_lit1 wr wr.heap.size (Nat.le_refl _) _ d rfl) _ (Nt.digs R) rfl HNV.out ?_ ?_ ?_; (simp; omega); (simp); intro v5 w5 ho5 hb5 hg5; have hB5 := Below.trans (HBel.out.alloc (Nat.le_of_lt hgt) (.cells #[.int .u32 (d : Int)] 193)) (hb5.mono (Nat.le_of_lt hgt))) | (go_at_call 133; refine (trim_hi _ _ _ _ rfl (ho5.nv (by simp; omega)) HDC.out).mono ?_; rintro e w6 ⟨v6, rfl, hn6, hh6, rfl⟩; have hi6 := hh6 _ ho5.hi; rw [show [d] ++ Nt.digs R = d :: Nt.digs R from rfl, HTD.out] at hn6; clear ho5 hh6) | (go_at_call 167; refine (HDIG.out _ _ hn6 (HB.out.below hB5)).mono ?_; rintro e w7 ⟨rfl, hb7⟩; have hB7 := hB5.trans (hb7.mono hB5.size); have hO7 := (((HOwn.out.alloc (.cells #[.int .u32 (d : Int)] 193)).laterB hb5 (by intro g hg; simp [Value.ownBlock] at hg; omega)).later hb7); have hc7 := hO7.cell' HOl.out (i := i) (by have := HOl.out; omega); have hf7 := hO7.frozen' HOl.out i; have hB7s := Own.below (d := .int .u32 (q : Int)) hB7 (Nat.le_refl _) i; have hL8 := (own_lit1 (w7.setCell ⟨w.heap.size, i, none⟩ (.int .u32 (q : Int))) w.heap.size hB7s.size (q : Int) q rfl).nv (by simp); rw [show (w7.setCell ⟨w.heap.size, i, none⟩ (.int .u32 (q : Int))).heap.size = w7.heap.size from by simp [World.setCell]] at hL8; have hB8 := hB7s.alloc hB7s.size (.cells #[.int .u32 (q : Int)] 193); have hn7 := ((hn6.below hb7).setCell (p := ⟨w.heap.size, i, none⟩) hi6 (by exact hgt) (.int .u32 (q : Int))).below ((Below.refl _ _).alloc (Nat.le_refl _) (.cells #[.int .u32 (q : Int)] 193)); have hO8 := (hO7.set' HOl.out i q rfl).alloc (.cells #[.int .u32 (q : Int)] 193); clear hO7 hn6 hb5 hg5) | (go_at_call 133; refine (T8.out _ _ hL8).mono ?_; rintro e w8 ⟨v8, rfl, hn8, rfl⟩) | (go_at_call 77; refine (T9.out _ _ (HB.out.below hB8) hn8).mono ?_; rintro e w9 ⟨v9, rfl, hn9, hb9⟩; have hn7' := hn7.below hb9; have hO9 := hO8.later hb9; have hB9 := hB8.trans (hb9.mono hB8.size); clear hn7 hO8 hL8) | (go_at_call 80; refine (T10.out _ _ _ hn7' hn9).mono ?_; rintro e w10 ⟨v10, rfl, hn10, hb10⟩; have hO10 := hO9.later hb10; have hB10 := hB9.trans (hb10.mono hB9.size)))
      go_roundw
      case rel =>
        have hsz : w.heap.size < w10.heap.size := by
          have z1 := hB7.size
          have z2 := hb9.size
          have z3 := hb10.size
          simp [World.setCell] at z2
          omega
        exact ⟨i, X % Nt.val b, _, rfl, by omega, hn10, hO10, HST.out, hB10, hsz⟩
      case measure => simp [intOf]
end Go.Proofs.YtigeipjkcidleaaGreatDoor
