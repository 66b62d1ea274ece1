/- squash: a symbol is read. -/
import Derived.Test.YtcojoigbcfaajaaDoorSqE
namespace Go.Proofs.YtcojoigbcfaajaaDoor
open Go.RowKit

namespace Sq
theorem lsU_split (L : Nat → Nat) (n : Nat) (h : 1 ≤ n) : ∀ m, n + 1 ≤ m → ∃ R, lsU L m = lsU L n ++ (sy L n 272 ++ R)
  | 0, hm => absurd hm (by omega)
  | m + 1, hm => by
    by_cases he : m = n
    · subst he
      exact ⟨[], by rw [lsU, if_neg (by omega), List.append_nil]⟩
    · obtain ⟨R, hR⟩ := lsU_split L n h m (by omega)
      exact ⟨R ++ (if m = 0 then [] else sy L m 272), by rw [lsU, hR, List.append_assoc, List.append_assoc]⟩
theorem lsU_get (L : Nat → Nat) {n i : Nat} (h1 : 1 ≤ n) (h2 : n ≤ 15) (hi : i < ct L n) : ∃ h : (lsU L n).length + i < (lsU L 16).length, (lsU L 16)[(lsU L n).length + i] = (sy L n 272).getD i 0 := by
  have hl : i < (sy L n 272).length := by
    unfold ct at hi
    rwa [if_neg (by omega)] at hi
  obtain ⟨R, hR⟩ := lsU_split L n h1 16 (by omega)
  have hg : (lsU L 16)[(lsU L n).length + i]? = some ((sy L n 272).getD i 0) := by
    rw [hR, List.getElem?_append_right (by omega), Nat.add_sub_cancel_left, List.getElem?_append_left hl, List.getElem?_eq_getElem hl, List.getD_eq_getElem?_getD, List.getElem?_eq_getElem hl]
    rfl
  obtain ⟨h, e⟩ := List.getElem?_eq_some_iff.1 hg
  exact ⟨h, e⟩
/-- Reading of a symbol: the error, the symbol, the place behind. -/
def symG (L : Nat → Nat) (s : ByteArray) : Nat → Nat → Nat → Nat → Nat × Nat × Nat
  | 0, _, _, p => (4, 0, p)
  | k + 1, n, code, p =>
    if p < 8 * s.size then
      (if fst L n ≤ 2 * code + bitN s p ∧ 2 * code + bitN s p - fst L n < ct L n then (0, (sy L n 272).getD (2 * code + bitN s p - fst L n) 0, p + 1)
       else symG L s k (n + 1) (2 * code + bitN s p) (p + 1))
    else (11, 0, p)
def symF (L : Nat → Nat) (s : ByteArray) (p : Nat) : Nat × Nat × Nat := symG L s 15 1 0 p
theorem dcf_first (L : Nat → Nat) {n : Nat} (h1 : 1 ≤ n) (h2 : n ≤ 15) : dcf L 16 n = fst L n := by unfold dcf; rw [if_pos (by omega), if_pos (by omega)]
theorem dcf_from (L : Nat → Nat) {n : Nat} (h1 : 1 ≤ n) (h2 : n ≤ 15) : dcf L 16 (16 + n) = (lsU L n).length := by unfold dcf; rw [if_neg (by omega), if_pos (by omega), Nat.add_sub_cancel_left]
end Sq
/-- What a decoder is in memory, apart from the block of the reader. -/
def Dec (W : World) (gd gr : Nat) (L : Nat → Nat) : Prop := ∃ v, DB W gd (Sq.dcf L 16) v ∧ R1 3 .i64 W 0 v (Sq.lsU L 16) ∧ ∀ g, v.ownBlock = some g → g ≠ gr
theorem Dec.chg {W W' : World} {gd gr B : Nat} {L : Nat → Nat} (h : Dec W gd gr L) (hc : Chg B [gr] W W') (hB : W.heap.size ≤ B) (hne : gr ≠ gd) : Dec W' gd gr L := by
  obtain ⟨v, h1, h2, h3⟩ := h
  refine ⟨v, h1.chg hc (Nat.lt_of_lt_of_le h1.lt hB) (by simp; exact fun e => hne e.symm), h2.chg hc fun g hg => ?_, h3⟩
  have := h2.lt g hg
  exact ⟨by omega, by simp; exact h3 g hg⟩
set_option maxRecDepth 100000 in
set_option maxHeartbeats 4000000 in
theorem symbol_any (L : Nat → Nat) (gd gr : Nat) (s : ByteArray) (p : Nat) (w : World) (hd : Dec w gd gr L) (hr : Rd w gr s p) (hne : gr ≠ gd) (hp : p ≤ 8 * s.size) (hs : s.size ≤ 1125899906842624) :
    Calls Tryd.prog 26 #[.pointer (some ⟨gd, 0, none⟩), .pointer (some ⟨gr, 0, none⟩)] w fun e w' => e = .returned (.tuple #[.int .i64 ((Sq.symF L s p).2.1 : Nat), .int .i64 ((Sq.symF L s p).1 : Nat)]) ∧ Chg w.heap.size [gr] w w' ∧ Rd w' gr s (Sq.symF L s p).2.2 := by
  obtain ⟨v, hdb, hr1, hng⟩ := hd
  obtain ⟨U, hU⟩ : ∃ U, U = Sq.lsU L 16 := ⟨_, rfl⟩
  rw [← hU] at hr1
  obtain ⟨A, cc, rfl⟩ := hr1.shape
  have HDB := Lib.hid hdb
  have HNG := Lib.hid hng
  have HR1 := Lib.hid hr1
  have HR := Lib.hid hr
  have HU := Lib.hid hU
  have hUl : U.length ≤ 5000 := by have := Sq.lsU_le L 16; rw [← hU] at this; omega
  clear hdb hr1 hr hU hng
  go_enter Tryd.func26, Tryd.ntmps26
  go_wp2_with fail
  go_loopw [6, 7] (fun u6 u7 wr => ∃ (n code q : Nat), 1 ≤ n ∧ n ≤ 16 ∧ u7 = .int .i64 n ∧ u6 = .int .i64 code ∧ code ≤ 65536 * n ∧ q ≤ 8 * s.size ∧ Hid (code + 1 ≤ 2 ^ (n - 1)) ∧ Hid (Chg w.heap.size [gr] w wr) ∧ Hid (Rd wr gr s q) ∧ Hid (Sq.symG L s (16 - n) n code q = Sq.symF L s p)) (fun _ u _ => 17 - (intOf u).toNat)
  case atStart => exact ⟨1, 0, p, by omega, by omega, rfl, rfl, by omega, hp, Lib.hid (by decide), Lib.hid (Chg.refl _ _ _), HR, Lib.hid rfl⟩
  case round =>
    clear HR
    obtain ⟨n, code, q, hn1, hn2, rfl, rfl, hcd, hq, HC2, HC, HR, HE⟩ := hrel
    by_cases hlt : n ≤ 15
    · have hlz : (n : Int) ≤ 15 := by omega
      by_cases hqe : q < 8 * s.size
      · have HBt := Lib.hid (bit_any gr s q wr HR.out hqe hs)
        obtain ⟨b, hbt⟩ : ∃ b, b = bitN s q := ⟨_, rfl⟩
        have hb1 : b < 2 := hbt ▸ bitN_lt s q
        rw [← hbt] at HBt
        have nb : ¬ (b : Int) < 0 := by omega
        obtain ⟨x, hx⟩ : ∃ x, x = 2 * code + b := ⟨_, rfl⟩
        have ex : 2 * (code : Int) + (b : Int) = (x : Int) := by omega
        have hx2 : x + 1 ≤ 2 ^ n := by
          have := HC2.out
          have e : 2 ^ n = 2 * 2 ^ (n - 1) := by rw [← Nat.pow_succ']; congr 1; omega
          omega
        have hx3 : 2 ^ n ≤ 32768 := Sq.two_pow15 hlt
        have hxx : x ≤ 65536 := by omega
        obtain ⟨F, hF⟩ : ∃ F, F = Sq.fst L n := ⟨_, rfl⟩
        obtain ⟨M0, hM0⟩ : ∃ M0, M0 = (Sq.lsU L n).length := ⟨_, rfl⟩
        obtain ⟨C, hC⟩ : ∃ C, C = Sq.ct L n := ⟨_, rfl⟩
        have bF : F ≤ 17825792 := hF ▸ Sq.fst_bd L (by omega)
        have bM : M0 ≤ 5000 := by have := Sq.lsU_le L n; omega
        have bC : C ≤ 272 := hC ▸ Sq.ct_le L n
        have hM1 : (Sq.lsU L (n + 1)).length = M0 + C := by rw [Sq.lsU_len, hM0, hC]
        have DBW : Hid (∀ W, Chg w.heap.size [gr] w W → DB W gd (Sq.dcf L 16) (.slice A U.length cc) ∧ R1 3 .i64 W 0 (.slice A U.length cc) U) := fun W hW =>
          ⟨HDB.out.chg hW HDB.out.lt (by simp; exact fun h => hne h.symm), HR1.out.chg hW fun g hg => ⟨(HR1.out.lt g hg).2, by simp; exact HNG.out g hg⟩⟩
        have CF := Lib.hid fun (W : World) (hW : Chg w.heap.size [gr] w W) => (DBW.out W hW).1.cell (i := n) (by omega)
        have CM := Lib.hid fun (W : World) (hW : Chg w.heap.size [gr] w W) => (DBW.out W hW).1.cell (i := 16 + n) (by omega)
        have CV := Lib.hid fun (W : World) (hW : Chg w.heap.size [gr] w W) => (DBW.out W hW).1.cellv
        have CM1 := Lib.hid fun (W : World) (hW : Chg w.heap.size [gr] w W) (hn : n < 15) => (DBW.out W hW).1.cell (i := 16 + (n + 1)) (by omega)
        rw [Sq.dcf_first L hn1 hlt, ← hF] at CF
        rw [Sq.dcf_from L hn1 hlt, ← hM0] at CM
        have hend : n = 15 → U.length = M0 + C := fun h => by rw [HU.out, ← hM1, h]
        have CM2 : Hid (∀ (W : World), Chg w.heap.size [gr] w W → n < 15 → W.cell? ⟨gd, 16 + (n + 1), none⟩ = some (.int .i64 ((M0 + C : Nat) : Int))) := fun W hW hn => by
          have := CM1.out W hW hn
          rwa [Sq.dcf_from L (by omega) (by omega), hM1] at this
        have HX := Lib.hid (show b = bitN s q ∧ x = 2 * code + b ∧ F = Sq.fst L n ∧ C = Sq.ct L n ∧ M0 = (Sq.lsU L n).length from ⟨hbt, hx, hF, hC, hM0⟩)
        have HX2 := Lib.hid hx2
        have hz16 : (n : Int) < 16 := by omega
        have hz17 : (n : Int) + 1 < 16 ∨ n = 15 := by omega
        clear hbt hx hF hM0 hC hM1 CM1 hx2 hx3
        obtain ⟨M1, hM1⟩ : ∃ M1, M1 = M0 + C := ⟨_, rfl⟩
        rw [← hM1] at hend
        have CM3 : Hid (∀ (W : World), Chg w.heap.size [gr] w W → n < 15 → W.cell? ⟨gd, 16 + (n + 1), none⟩ = some (.int .i64 (M1 : Int))) := fun W hW hn => by rw [hM1]; exact CM2.out W hW hn
        have eM : (M1 : Int) - (M0 : Int) = (C : Int) := by omega
        have bM1 : M1 ≤ 6000 := by omega
        clear hM1 CM2
        rcases (show n < 15 ∨ n = 15 by omega) with hn15 | hn15
        · have n1 : (n : Int) < 15 := by omega
          have n2 : (n : Int) + 1 < 16 := by omega
          have n3 : ((n : Int) + 1).toNat = n + 1 := by omega
          rcases Nat.lt_or_ge x F with hxF | hxF
          · obtain ⟨z, ez⟩ : ∃ z : Int, (x : Int) - (F : Int) = z := ⟨_, rfl⟩
            have z1 : ¬ 0 ≤ z := by omega
            have HZ := Lib.hid hxF
            clear hxF
            go_wp2_with (go_at_call 29; (with_reducible refine HBt.out.mono ?_); rintro e w1 ⟨rfl, hc, hr⟩; have hcw := HC.out.next hc; have g1 := CF.out w1 hcw; have g2 := CM.out w1 hcw; have g3 := CV.out w1 hcw; have g4 := CM3.out w1 hcw hn15; have HC1 := Lib.hid hcw; have HR1 := Lib.hid hr; clear hc hr hcw)
            go_roundw
            case rel =>
              have h9 := HX2.out
              refine ⟨n + 1, x, q + 1, by omega, by omega, by go_num, rfl, by omega, by omega, Lib.hid (by rw [Nat.add_sub_cancel]; exact h9), HC1, HR1, Lib.hid ?_⟩
              rw [← HE.out, show 16 - n = (16 - (n + 1)) + 1 by omega, Sq.symG, if_pos hqe, ← HX.out.1, ← HX.out.2.1, ← HX.out.2.2.1, ← HX.out.2.2.2.1, if_neg (fun h => by have := HZ.out; omega)]
            case measure => simp [intOf]; omega
          · obtain ⟨i, hi⟩ : ∃ i, i = x - F := ⟨_, rfl⟩
            have ei : (x : Int) - (F : Int) = (i : Int) := by omega
            have HI := Lib.hid hi
            have HF9 := Lib.hid hxF
            have bi : i ≤ 65536 := by omega
            clear hi hxF
            rcases Nat.lt_or_ge i C with hiC | hiC
            · have z2 : (i : Int) < (C : Int) := by omega
              obtain ⟨hU1, hU2⟩ := Sq.lsU_get L hn1 hlt (by rw [← HX.out.2.2.2.1]; exact hiC)
              rw [← HX.out.2.2.2.2, ← HU.out] at hU1
              have hU3 : U[M0 + i] = (Sq.sy L n 272).getD i 0 := by
                have e : U[M0 + i]? = (Sq.lsU L 16)[(Sq.lsU L n).length + i]? := by rw [HU.out, HX.out.2.2.2.2]
                rw [List.getElem?_eq_getElem hU1, List.getElem?_eq_getElem (by rw [← HX.out.2.2.2.2, ← HU.out]; exact hU1)] at e
                injection e with e
                rw [e, hU2]
              obtain ⟨g, hgA⟩ : ∃ g, A = some ⟨g, 0, none⟩ := by
                obtain ⟨g, c', e, -, -⟩ := HR1.out.form (by omega)
                injection e with e1
                exact ⟨g, e1⟩
              subst hgA
              have CY := Lib.hid fun (W : World) (hW : Chg w.heap.size [gr] w W) => (DBW.out W hW).2.cell rfl hU1
              obtain ⟨y, hy⟩ : ∃ y, y = U[M0 + i] := ⟨_, rfl⟩
              rw [← hy] at CY hU3
              have HSY := Lib.hid (show Sq.symF L s p = (0, y, q + 1) by
                rw [← HE.out, show 16 - n = (15 - n) + 1 by omega, Sq.symG, if_pos hqe, ← HX.out.1, ← HX.out.2.1, ← HX.out.2.2.1, ← HX.out.2.2.2.1, if_pos ⟨HF9.out, by rw [← HI.out]; exact hiC⟩, ← HI.out, hU3])
              have bU : (M0 : Int) + (i : Int) < (U.length : Int) := by omega
              have bU2 : (0 : Int) ≤ (M0 : Int) + (i : Int) := by omega
              have bU3 : ((M0 : Int) + (i : Int)).toNat = M0 + i := by omega
              have bw : IntKind.i64.wrap ((M0 : Int) + (i : Int)) = (M0 : Int) + (i : Int) := IntWalk.i64_in _ (by omega)
              clear hU1 hU2 hU3 hy hiC
              go_wp2_with (go_at_call 29; (with_reducible refine HBt.out.mono ?_); rintro e w1 ⟨rfl, hc, hr⟩; have hcw := HC.out.next hc; have g1 := CF.out w1 hcw; have g2 := CM.out w1 hcw; have g3 := CV.out w1 hcw; have g4 := CM3.out w1 hcw hn15; have g5 := CY.out w1 hcw; have HC1 := Lib.hid hcw; have HR1 := Lib.hid hr; clear hc hr hcw)
              go_quiet (fail)
              go_wp2
              go_ret2
              rw [HSY.out]
              exact ⟨rfl, HC1.out.drewN _, HR1.out.drewN _⟩
            · have z2 : ¬ (i : Int) < (C : Int) := by omega
              have HZ := Lib.hid hiC
              clear hiC
              go_wp2_with (go_at_call 29; (with_reducible refine HBt.out.mono ?_); rintro e w1 ⟨rfl, hc, hr⟩; have hcw := HC.out.next hc; have g1 := CF.out w1 hcw; have g2 := CM.out w1 hcw; have g3 := CV.out w1 hcw; have g4 := CM3.out w1 hcw hn15; have HC1 := Lib.hid hcw; have HR1 := Lib.hid hr; clear hc hr hcw)
              go_roundw
              case rel =>
                have h9 := HX2.out
                refine ⟨n + 1, x, q + 1, by omega, by omega, by go_num, rfl, by omega, by omega, Lib.hid (by rw [Nat.add_sub_cancel]; exact h9), HC1, HR1, Lib.hid ?_⟩
                rw [← HE.out, show 16 - n = (16 - (n + 1)) + 1 by omega, Sq.symG, if_pos hqe, ← HX.out.1, ← HX.out.2.1, ← HX.out.2.2.1, ← HX.out.2.2.2.1, if_neg (fun h => by have := HZ.out; have := HI.out; omega)]
              case measure => simp [intOf]; omega
        · have n1 : ¬ (n : Int) < 15 := by omega
          have eU : (U.length : Int) - (M0 : Int) = (C : Int) := by have := hend hn15; omega
          have HN := Lib.hid hn15
          clear hn15 hend hz17
          rcases Nat.lt_or_ge x F with hxF | hxF
          · obtain ⟨z, ez⟩ : ∃ z : Int, (x : Int) - (F : Int) = z := ⟨_, rfl⟩
            have z1 : ¬ 0 ≤ z := by omega
            have HZ := Lib.hid hxF
            clear hxF
            go_wp2_with (go_at_call 29; (with_reducible refine HBt.out.mono ?_); rintro e w1 ⟨rfl, hc, hr⟩; have hcw := HC.out.next hc; have g1 := CF.out w1 hcw; have g2 := CM.out w1 hcw; have g3 := CV.out w1 hcw; have HC1 := Lib.hid hcw; have HR1 := Lib.hid hr; clear hc hr hcw)
            go_roundw
            case rel =>
              have h9 := HX2.out
              refine ⟨n + 1, x, q + 1, by omega, by omega, by go_num, rfl, by omega, by omega, Lib.hid (by rw [Nat.add_sub_cancel]; exact h9), HC1, HR1, Lib.hid ?_⟩
              rw [← HE.out, show 16 - n = (16 - (n + 1)) + 1 by omega, Sq.symG, if_pos hqe, ← HX.out.1, ← HX.out.2.1, ← HX.out.2.2.1, ← HX.out.2.2.2.1, if_neg (fun h => by have := HZ.out; omega)]
            case measure => simp [intOf]; omega
          · obtain ⟨i, hi⟩ : ∃ i, i = x - F := ⟨_, rfl⟩
            have ei : (x : Int) - (F : Int) = (i : Int) := by omega
            have HI := Lib.hid hi
            have HF9 := Lib.hid hxF
            have bi : i ≤ 65536 := by omega
            clear hi hxF
            rcases Nat.lt_or_ge i C with hiC | hiC
            · have z2 : (i : Int) < (C : Int) := by omega
              obtain ⟨hU1, hU2⟩ := Sq.lsU_get L hn1 hlt (by rw [← HX.out.2.2.2.1]; exact hiC)
              rw [← HX.out.2.2.2.2, ← HU.out] at hU1
              have hU3 : U[M0 + i] = (Sq.sy L n 272).getD i 0 := by
                have e : U[M0 + i]? = (Sq.lsU L 16)[(Sq.lsU L n).length + i]? := by rw [HU.out, HX.out.2.2.2.2]
                rw [List.getElem?_eq_getElem hU1, List.getElem?_eq_getElem (by rw [← HX.out.2.2.2.2, ← HU.out]; exact hU1)] at e
                injection e with e
                rw [e, hU2]
              obtain ⟨g, hgA⟩ : ∃ g, A = some ⟨g, 0, none⟩ := by
                obtain ⟨g, c', e, -, -⟩ := HR1.out.form (by omega)
                injection e with e1
                exact ⟨g, e1⟩
              subst hgA
              have CY := Lib.hid fun (W : World) (hW : Chg w.heap.size [gr] w W) => (DBW.out W hW).2.cell rfl hU1
              obtain ⟨y, hy⟩ : ∃ y, y = U[M0 + i] := ⟨_, rfl⟩
              rw [← hy] at CY hU3
              have HSY := Lib.hid (show Sq.symF L s p = (0, y, q + 1) by
                rw [← HE.out, show 16 - n = (15 - n) + 1 by omega, Sq.symG, if_pos hqe, ← HX.out.1, ← HX.out.2.1, ← HX.out.2.2.1, ← HX.out.2.2.2.1, if_pos ⟨HF9.out, by rw [← HI.out]; exact hiC⟩, ← HI.out, hU3])
              have bU : (M0 : Int) + (i : Int) < (U.length : Int) := by omega
              have bU2 : (0 : Int) ≤ (M0 : Int) + (i : Int) := by omega
              have bU3 : ((M0 : Int) + (i : Int)).toNat = M0 + i := by omega
              have bw : IntKind.i64.wrap ((M0 : Int) + (i : Int)) = (M0 : Int) + (i : Int) := IntWalk.i64_in _ (by omega)
              clear hU1 hU2 hU3 hy hiC
              go_wp2_with (go_at_call 29; (with_reducible refine HBt.out.mono ?_); rintro e w1 ⟨rfl, hc, hr⟩; have hcw := HC.out.next hc; have g1 := CF.out w1 hcw; have g2 := CM.out w1 hcw; have g3 := CV.out w1 hcw; have g5 := CY.out w1 hcw; have HC1 := Lib.hid hcw; have HR1 := Lib.hid hr; clear hc hr hcw)
              go_quiet (fail)
              go_wp2
              go_ret2
              rw [HSY.out]
              exact ⟨rfl, HC1.out.drewN _, HR1.out.drewN _⟩
            · have z2 : ¬ (i : Int) < (C : Int) := by omega
              have HZ := Lib.hid hiC
              clear hiC
              go_wp2_with (go_at_call 29; (with_reducible refine HBt.out.mono ?_); rintro e w1 ⟨rfl, hc, hr⟩; have hcw := HC.out.next hc; have g1 := CF.out w1 hcw; have g2 := CM.out w1 hcw; have g3 := CV.out w1 hcw; have HC1 := Lib.hid hcw; have HR1 := Lib.hid hr; clear hc hr hcw)
              go_roundw
              case rel =>
                have h9 := HX2.out
                refine ⟨n + 1, x, q + 1, by omega, by omega, by go_num, rfl, by omega, by omega, Lib.hid (by rw [Nat.add_sub_cancel]; exact h9), HC1, HR1, Lib.hid ?_⟩
                rw [← HE.out, show 16 - n = (16 - (n + 1)) + 1 by omega, Sq.symG, if_pos hqe, ← HX.out.1, ← HX.out.2.1, ← HX.out.2.2.1, ← HX.out.2.2.2.1, if_neg (fun h => by have := HZ.out; have := HI.out; omega)]
              case measure => simp [intOf]; omega
      · have HBt := Lib.hid (bit_end gr s q wr HR.out (by omega) hs)
        have HSY := Lib.hid (show Sq.symF L s p = (11, 0, q) by rw [← HE.out, show 16 - n = (15 - n) + 1 by omega, Sq.symG, if_neg hqe])
        go_wp2_with (go_at_call 29; (with_reducible refine HBt.out.mono ?_); rintro e w1 ⟨rfl, hc, hr⟩; have HC1 := Lib.hid (HC.out.next hc); have HR1 := Lib.hid hr; clear hc hr)
        go_ret2
        rw [HSY.out]
        exact ⟨rfl, HC1.out, HR1.out⟩
    · obtain rfl : n = 16 := by omega
      have HSY := Lib.hid (show Sq.symF L s p = (4, 0, q) by rw [← HE.out]; rfl)
      go_wp2_with fail
      go_ret2
      rw [HSY.out]
      exact ⟨rfl, HC.out, HR.out⟩
end Go.Proofs.YtcojoigbcfaajaaDoor
