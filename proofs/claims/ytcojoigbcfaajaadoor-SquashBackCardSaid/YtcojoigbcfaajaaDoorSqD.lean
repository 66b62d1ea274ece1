/- squash.codes. -/
import Derived.Test.YtcojoigbcfaajaaDoorSqM
namespace Go.Proofs.YtcojoigbcfaajaaDoor
open Go.RowKit

theorem Sq.two_pow15 {k : Nat} (h : k ≤ 15) : 2 ^ k ≤ 32768 := Nat.pow_le_pow_right (n := 2) (by decide) h
set_option maxRecDepth 100000 in
set_option maxHeartbeats 4000000 in
theorem codes_any (L : Nat → Nat) (b c B : Nat) (w : World) (hL : RF 272 w B b L) :
    Calls Tryd.prog 11 #[.slice (some ⟨b, 0, none⟩) 272 c] w fun e w' => ∃ h, e = .returned (.tuple #[.slice (some ⟨h, 0, none⟩) 272 272, .bool (decide (Sq.smT L 16 ≤ 32768))]) ∧ RF 272 w' w.heap.size h (Sq.cd L) ∧ Below w.heap.size w w' := by
  have HL := Lib.hid hL
  clear hL
  go_enter Tryd.func11, Tryd.ntmps11
  go_wp2_with (at_make; refine wp_makeI rfl _ _ rfl w.heap.size _ _ 272 rfl rfl rfl rfl (by decide) (Nat.le_refl _) ?_; intro w1 ho1 hg1 hs1; have HO := Lib.hid (RF.zero ho1); have HB := Lib.hid hg1; clear ho1 hg1)
  go_loopw [5, 6, 7] (fun u5 u6 u7 wr => ∃ n : Nat, 1 ≤ n ∧ n ≤ 16 ∧ u7 = .int .i64 n ∧ u5 = .int .i64 ((Sq.fst L (n - 1) + Sq.ct L (n - 1) : Nat) : Int) ∧ u6 = .int .i64 (Sq.smT L n : Nat) ∧ Hid (Below w.heap.size w wr) ∧ Hid (RF 272 wr w.heap.size w.heap.size (Sq.cdT L n 0))) (fun _ _ u _ => 17 - (intOf u).toNat)
  case atStart => exact ⟨1, by omega, by omega, rfl, rfl, rfl, HB, Lib.hid (HO.out.congr fun x _ => (Sq.cdT_one L x).symm)⟩
  case round =>
    obtain ⟨n, hn1, hn2, rfl, rfl, rfl, HB, HO⟩ := hrel
    by_cases hlt : n ≤ 15
    · have hlz : (n : Int) ≤ 15 := by omega
      obtain ⟨v, hv⟩ : ∃ v, v = Sq.fst L (n - 1) + Sq.ct L (n - 1) := ⟨_, rfl⟩
      obtain ⟨F, hF⟩ : ∃ F, F = Sq.fst L n := ⟨_, rfl⟩
      obtain ⟨T, hT⟩ : ∃ T, T = Sq.smT L n := ⟨_, rfl⟩
      obtain ⟨P, hP⟩ : ∃ P, P = 2 ^ (15 - n) := ⟨_, rfl⟩
      have hvF : v * 2 = F := by
        rw [hF, hv]
        obtain ⟨k, rfl⟩ : ∃ k, n = k + 1 := ⟨n - 1, by omega⟩
        rw [Sq.fst, Nat.add_sub_cancel, Nat.mul_comm]
      have bF : F ≤ 17825792 := hF ▸ Sq.fst_bd L (by omega)
      have bT : T ≤ 8912896 * n := hT ▸ Sq.smT_le L n
      have bP : P ≤ 32768 := hP ▸ Sq.two_pow15 (by omega)
      have ev : (v : Int) * 2 = (F : Int) := by omega
      rw [← hv, ← hT]
      have HF := Lib.hid hF
      have HT := Lib.hid hT
      have HP := Lib.hid hP
      clear hv hF hT hP
      go_wp2_with fail
      go_loopw [5, 6, 19] (fun u5 u6 u19 wr => ∃ s k : Nat, s ≤ 272 ∧ u19 = .int .i64 s ∧ u5 = .int .i64 ((F + k : Nat) : Int) ∧ u6 = .int .i64 ((T + k * P : Nat) : Int) ∧ k ≤ s ∧ Hid (k = (Sq.sy L n s).length) ∧ Hid (Below w.heap.size w wr) ∧ Hid (RF 272 wr w.heap.size w.heap.size (Sq.cdT L n s))) (fun _ _ u _ => 272 - (intOf u).toNat)
      case atStart => exact ⟨0, 0, by omega, rfl, rfl, by simp, by omega, Lib.hid rfl, HB, HO⟩
      case round =>
        clear HB HO
        obtain ⟨s, k, hs, rfl, rfl, rfl, hk, HK, HB, HO⟩ := hrel
        have kP : k * P ≤ 272 * 32768 := Nat.mul_le_mul (by omega) bP
        obtain ⟨x, hx⟩ : ∃ x, x = F + k := ⟨_, rfl⟩
        obtain ⟨y, hy⟩ : ∃ y, y = T + k * P := ⟨_, rfl⟩
        have bx : x ≤ 17826064 := by omega
        have bY : y ≤ 160000000 := by omega
        rw [← hx, ← hy]
        by_cases hlt : s < 272
        · have hlz : (s : Int) < 272 := by omega
          have hcL := (HL.out.later HB.out).cell hlt
          have hc4 := HO.out.cell hlt
          have hf4 := HO.out.frozen s
          by_cases he : L s = n
          · have hez : ((L s : Int) == (n : Int)) = true := by rw [beq_iff_eq]; omega
            have e2 : wrap64 ((2 : Int) ^ (15 - n)) = (P : Int) := by
              have : ((2 : Int) ^ (15 - n)) = (P : Int) := by rw [HP.out, Int.natCast_pow]; rfl
              rw [this]
              unfold wrap64
              omega
            have E2 := Lib.hid e2
            clear e2
            go_wp2_with fail
            go_roundw
            case rel =>
              have hP1 : (k + 1) * P = k * P + P := Nat.succ_mul k P
              refine ⟨s + 1, k + 1, by omega, by go_num, by first | rfl | (congr 1; omega), ?_, by omega, Lib.hid ?_, Lib.hid (HB.out.setCell (p := ⟨w.heap.size, s, none⟩) (Nat.le_refl _) _), Lib.hid ?_⟩
              · congr 1
                rw [E2.out, hP1, ← Int.natCast_mul]
                unfold wrap64
                omega
              · rw [Sq.sy_step, if_pos he, List.length_append, ← HK.out]
                rfl
              · have h9 := HO.out.set s (F + k)
                rw [Int.natCast_add] at h9
                refine h9.congr fun z _ => ?_
                rw [Sq.cdT_step L he hn1 z, HF.out, ← HK.out]
            case measure => simp [intOf]; omega
          · have hez : ((L s : Int) == (n : Int)) = false := by rw [beq_eq_false_iff_ne]; omega
            go_wp2_with fail
            go_roundw
            case rel =>
              refine ⟨s + 1, k, by omega, by go_num, by rw [← hx], by rw [← hy], by omega, Lib.hid ?_, HB, Lib.hid (HO.out.congr fun z _ => (Sq.cdT_keep L he z).symm)⟩
              rw [Sq.sy_step, if_neg he]
              exact HK.out
            case measure => simp [intOf]; omega
        · obtain rfl : s = 272 := by omega
          go_wp2_with fail
          go_roundw
          case rel =>
            have hct : Sq.ct L n = k := by unfold Sq.ct; rw [if_neg (by omega), HK.out]
            refine ⟨n + 1, by omega, by omega, by go_num, by rw [Nat.add_sub_cancel, hct, ← HF.out, ← hx], ?_, HB, Lib.hid (HO.out.congr fun z hz => Sq.cdT_next L n z hz)⟩
            rw [Sq.smT, hct, ← HT.out, ← HP.out, ← hy]
          case measure => simp [intOf]; omega
    · obtain rfl : n = 16 := by omega
      have hs := Sq.smT_le L 16
      obtain ⟨T, hT⟩ : ∃ T, T = Sq.smT L 16 := ⟨_, rfl⟩
      rw [← hT] at hs
      have HT := Lib.hid hT
      rw [← hT]
      clear hT
      go_wp2_with fail
      go_ret2
      refine ⟨w.heap.size, ?_, HO.out.congr fun z _ => Sq.cdT_end L z, HB.out⟩
      rw [← HT.out, show decide (T ≤ 32768) = decide ((T : Int) ≤ 32768) by rw [decide_eq_decide]; omega]
      rfl
end Go.Proofs.YtcojoigbcfaajaaDoor
