/- slices.insertionSortCmpFunc of slices of values, by pivot.compare, whatever it compares. -/
import Derived.Test.YtmapagbmihpbmaaGreatDoorPvR
import Derived.Test.YtmapagbmihpbmaaGreatDoorGb
import Derived.WalkKit
import Derived.Outline
import Derived.Lib.Hide
import Derived.Deep.RegionWith
import Derived.Deep.RegionHeld3
import Derived.StillTailTactics
import Derived.Deep.QuietTactic
import Derived.Deep.Cut
import Derived.IntWalk
import Derived.Sort.WalkB2
namespace Go.Proofs.YtmapagbmihpbmaaGreatDoor
open Go.RowKit

section
variable {β : Type} [Inhabited β]
theorem sw_fst (Q : Array (SV × β)) (i j : Nat) (hi : i < Q.size) (hj : j < Q.size) : (Sq.sw Q i j).toList.map Prod.fst = ((Q.toList.map Prod.fst).set i Q[j]!.1).set j Q[i]!.1 := by
  rw [Sq.sw_of hi hj]
  unfold Go.Sort.swp
  rw [Array.toList_setIfInBounds, Array.toList_setIfInBounds, List.map_set, List.map_set]
/-- What a comparison answers, in the worlds of the sort. -/
def CmpIn (w : World) (g : Nat) (P : Array (SV × β)) (cf : β → β → Int) : Prop := ∀ W, Chg w.heap.size [g] w W → ∀ p q, p ∈ P.toList → q ∈ P.toList → Calls Tryz.prog 40 #[sv3 p.1, sv3 q.1] W fun e w' => e = .returned (.int .i64 (cf p.2 q.2)) ∧ Below W.heap.size W w'
set_option maxRecDepth 100000 in
set_option maxHeartbeats 4000000 in
theorem insort_any (cf : β → β → Int) (P : Array (SV × β)) (g c B n : Nat) (w : World) (hn : P.size = n) (hb : n ≤ 100000) (hrow : RS w B g c (P.toList.map Prod.fst)) (hcmp : CmpIn w g P cf) :
    Calls Tryz.prog 109 #[.slice (some ⟨g, 0, none⟩) n c, .int .i64 0, .int .i64 n, .func (.func 40) #[] #[]] w fun e w' => e = .returned (.tuple #[]) ∧ RS w' B g c ((Sq.ins (fun p q => cf p.2 q.2) P 0 n).toList.map Prod.fst) ∧ Chg w.heap.size [g] w w' := by
  have HC := Lib.hid hcmp
  have HR := Lib.hid hrow
  obtain ⟨RT, hRT⟩ : ∃ RT, RT = Sq.ins (fun p q => cf p.2 q.2) P 0 n := ⟨_, rfl⟩
  rw [← hRT]
  have HS := Lib.hid (show Sq.insO (fun p q => cf p.2 q.2) 0 (n - 1) 1 P = RT by rw [hRT]; rfl)
  have HN := Lib.hid hn
  clear hcmp hrow hRT hn
  go_enter Tryz.func109, Tryz.ntmps109
  go_wp2_with fail
  go_loopw [8] (fun u8 wr => ∃ (i : Nat) (Q : Array (SV × β)), 1 ≤ i ∧ i ≤ n + 1 ∧ u8 = .int .i64 i ∧ Hid (Q.size = n) ∧ Hid (Sq.insO (fun p q => cf p.2 q.2) 0 (n - i) i Q = RT) ∧ Hid (∀ p ∈ Q.toList, p ∈ P.toList) ∧ Hid (RS wr B g c (Q.toList.map Prod.fst)) ∧ Hid (Chg w.heap.size [g] w wr)) (fun u _ => n + 1 - (intOf u).toNat)
  case atStart => exact ⟨1, P, by omega, by omega, rfl, HN, HS, Lib.hid fun _ h => h, HR, Lib.hid (Chg.refl _ _ _)⟩
  case round =>
    clear HR HS
    obtain ⟨i, Q, hi1, hi2, rfl, HQ, HS, HM, HR, HG⟩ := hrel
    by_cases hlt : i < n
    · have hlz : (i : Int) < (n : Int) := by omega
      have hs9 := HS.out
      rw [show n - i = (n - (i + 1)) + 1 by omega, Sq.insO] at hs9
      have HS2 := Lib.hid hs9
      clear hs9
      go_wp2_with fail
      go_loopw [9] (fun u9 wr => ∃ (j : Nat) (R : Array (SV × β)), j ≤ i ∧ u9 = .int .i64 j ∧ Hid (R.size = n) ∧ Hid (Sq.insJ (fun p q => cf p.2 q.2) 0 j R = Sq.insJ (fun p q => cf p.2 q.2) 0 i Q) ∧ Hid (∀ p ∈ R.toList, p ∈ P.toList) ∧ Hid (RS wr B g c (R.toList.map Prod.fst)) ∧ Hid (Chg w.heap.size [g] w wr)) (fun u _ => (intOf u).toNat)
      case atStart => exact ⟨i, Q, by omega, rfl, HQ, Lib.hid rfl, HM, HR, HG⟩
      case round =>
        clear HR HG HM
        obtain ⟨j, R, hj, rfl, HQ2, HJ, HM, HR, HG⟩ := hrel
        rcases j with _ | j
        · have HE := Lib.hid (show R = Sq.insJ (fun p q => cf p.2 q.2) 0 i Q from HJ.out)
          go_wp2_with fail
          go_quiet (fail)
          go_wp2_with fail
          go_roundw
          case rel => exact ⟨i + 1, R, by omega, by omega, by go_num, HQ2, Lib.hid (by rw [HE.out]; exact HS2.out), HM, Lib.hid (by first | exact HR.out | exact HR.out.drewN _), Lib.hid (by first | exact HG.out | exact HG.out.drewN _)⟩
          case measure => simp [intOf]; omega
        · obtain ⟨q, hq⟩ : ∃ q, q = j + 1 := ⟨_, rfl⟩
          have s0 : q < R.size := by rw [HQ2.out]; omega
          have s1 : j < R.size := by omega
          have m0 : R[q]! ∈ R.toList := by rw [getElem!_pos R q s0]; exact Array.getElem_mem_toList s0
          have m1 : R[j]! ∈ R.toList := by rw [getElem!_pos R j s1]; exact Array.getElem_mem_toList s1
          have HCC := Lib.hid fun W (h : Chg w.heap.size [g] w W) => HC.out W h R[q]! R[j]! (HM.out _ m0) (HM.out _ m1)
          have r0 := HR.out.cell (i := q) (by simpa using s0)
          have r1 := HR.out.cell (i := j) (by simpa using s1)
          have q0 := HR.out.frozen q
          have q1 := HR.out.frozen j
          have e0 : (R.toList.map Prod.fst)[q]'(by simpa using s0) = R[q]!.1 := by rw [getElem!_pos R q s0]; simp
          have e1 : (R.toList.map Prod.fst)[j]'(by simpa using s1) = R[j]!.1 := by rw [getElem!_pos R j s1]; simp
          rw [e0] at r0
          rw [e1] at r1
          have hsw := sw_fst R q j s0 s1
          have hin : Sq.insJ (fun p q => cf p.2 q.2) 0 (j + 1) R = if 0 < j + 1 ∧ cf R[j + 1]!.2 R[j]!.2 < 0 then Sq.insJ (fun p q => cf p.2 q.2) 0 j (Sq.sw R (j + 1) j) else R := by rw [Sq.insJ]
          rw [← hq] at hin HJ
          have hmp : ∀ p ∈ (Sq.sw R q j).toList, p ∈ P.toList := fun p hp => HM.out p (by
            have := (Sq.sw_perm R q j).mem_iff (a := p)
            simpa using this.1 (by simpa using hp))
          obtain ⟨⟨⟨A0, l0, c0⟩, u⟩, hx⟩ : ∃ x, x = R[q]! := ⟨_, rfl⟩
          obtain ⟨⟨⟨A1, l1, c1⟩, v⟩, hy⟩ : ∃ x, x = R[j]! := ⟨_, rfl⟩
          rw [← hx] at r0 HCC hsw hin
          rw [← hy] at r1 HCC hsw hin
          simp only [sv3] at r0 r1
          have HSW := Lib.hid hsw
          have HMP := Lib.hid hmp
          have HSL := Lib.hid (show (Sq.sw R q j).size = n by rw [Sq.sw_len]; exact HQ2.out)
          obtain ⟨z, hz⟩ : ∃ z, z = cf u v := ⟨_, rfl⟩
          have HCC := Lib.hid (show ∀ W, Chg w.heap.size [g] w W → Calls Tryz.prog 40 #[.slice A0 l0 c0, .slice A1 l1 c1] W fun e w' => e = .returned (.int .i64 z) ∧ Below W.heap.size W w' from fun W h => by rw [hz]; exact HCC.out W h)
          have z1 : (0 : Int) ≤ (j : Int) + 1 := by omega
          have z2 : (j : Int) + 1 < (n : Int) := by omega
          have z3 : (j : Int) < (n : Int) := by omega
          have z4 : ((j : Int) + 1).toNat = j + 1 := by omega
          have z6 : IntKind.i64.wrap (j : Int) = (j : Int) := IntWalk.i64_in _ (by omega)
          have z7 : (0 : Int) ≤ (j : Int) := by omega
          simp only [← hz] at hin
          have HIN := Lib.hid hin
          have HQJ := Lib.hid hq
          have HJL := Lib.hid hj
          subst hq
          clear e0 e1 hsw hx hy hz m0 m1 hin hj hmp
          have HSS := Lib.hid (show ∀ W, Below wr.heap.size wr W → W.cell? ⟨g, j + 1, none⟩ = some (.slice A0 l0 c0) ∧ W.cell? ⟨g, j, none⟩ = some (.slice A1 l1 c1) from fun W hW => ⟨(hW.cell HR.out.lt.2).trans r0, (hW.cell HR.out.lt.2).trans r1⟩)
          by_cases hlt0 : z < 0
          · have hin := HIN.out
            rw [if_pos ⟨by omega, hlt0⟩] at hin
            have HIN2 := Lib.hid hin
            clear hin
            go_upto_region 4 with fail
            go_region_held3 (fun W => W.cell? ⟨g, j + 1, none⟩ = some (.slice A0 l0 c0) ∧ W.cell? ⟨g, j, none⟩ = some (.slice A1 l1 c1)) (first | exact ⟨by assumption, by assumption⟩ | exact HSS.out _ HB1.out) (first
              | (go_at_call 40; (with_reducible refine (HCC.out _ HG.out.drew).mono ?_); rintro e w1 ⟨rfl, hb⟩; have HB1 := Lib.hid ((Below.refl wr.heap.size wr).drew.trans hb); have HG1 := Lib.hid (HG.out.drew.next (Chg.of hb [g])); have HR1 := Lib.hid (HR.out.drew.later hb); clear hb))
            have q0 := HR1.out.frozen (j + 1)
            have q1 := HR1.out.frozen j
            have r0 := (HSS.out _ HB1.out).1
            have r1 := (HSS.out _ HB1.out).2
            go_wp2_with fail
            have mixed : Tryz.prog.follows Departure.mixedOrders = true := by kernel_rfl
            go_big_region_o
            have HRN := Lib.hid (show RS (((w1.setCell ⟨g, j + 1, none⟩ (.slice A1 l1 c1)).setCell ⟨g, j, none⟩ (.slice A0 l0 c0)).drew) B g c ((Sq.sw R (j + 1) j).toList.map Prod.fst) by rw [HSW.out]; exact (((HR1.out.set (j + 1) (A1, l1, c1)).set j (A0, l0, c0))).drew)
            have HGN := Lib.hid (show Chg w.heap.size [g] w (((w1.setCell ⟨g, j + 1, none⟩ (.slice A1 l1 c1)).setCell ⟨g, j, none⟩ (.slice A0 l0 c0)).drew) from ((HG1.out.set (.inl (List.mem_singleton.2 rfl)) _).set (.inl (List.mem_singleton.2 rfl)) _).drew)
            clear HR1 HG1 HR HG HB1 HSS r0 r1 q0 q1
            go_wp2_with fail
            go_roundw
            case rel => exact ⟨j, Sq.sw R (j + 1) j, by have := HJL.out; omega, by go_num, HSL, Lib.hid (HIN2.out.symm.trans HJ.out), HMP, HRN, HGN⟩
            case measure => simp [intOf]
          · have hin := HIN.out
            rw [if_neg (fun h => hlt0 h.2)] at hin
            have HE := Lib.hid (hin.symm.trans HJ.out)
            clear hin
            go_upto_region 4 with fail
            go_region_held3 (fun W => W.cell? ⟨g, j + 1, none⟩ = some (.slice A0 l0 c0) ∧ W.cell? ⟨g, j, none⟩ = some (.slice A1 l1 c1)) (first | exact ⟨by assumption, by assumption⟩ | exact HSS.out _ HB1.out) (first
              | (go_at_call 40; (with_reducible refine (HCC.out _ HG.out.drew).mono ?_); rintro e w1 ⟨rfl, hb⟩; have HB1 := Lib.hid ((Below.refl wr.heap.size wr).drew.trans hb); have HG1 := Lib.hid (HG.out.drew.next (Chg.of hb [g])); have HR1 := Lib.hid (HR.out.drew.later hb); clear hb))
            go_wp2_with fail
            go_roundw
            case rel => exact ⟨i + 1, R, by omega, by omega, by go_num, HQ2, Lib.hid (by rw [HE.out]; exact HS2.out), HM, HR1, HG1⟩
            case measure => simp [intOf]; omega
    · have hlz : ¬ (i : Int) < (n : Int) := by omega
      have h9 := HS.out
      rw [show n - i = 0 by omega, Sq.insO] at h9
      go_wp2_with fail
      go_end0
      rw [← h9]
      exact ⟨rfl, HR.out, HG.out⟩
end
end Go.Proofs.YtmapagbmihpbmaaGreatDoor
