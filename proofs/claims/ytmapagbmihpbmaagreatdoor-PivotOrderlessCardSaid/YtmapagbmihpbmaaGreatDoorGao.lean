/- slices.insertionSortCmpFunc of slices of values, by pivot.compare, whatever it compares. -/
import Derived.Test.YtmapagbmihpbmaaGreatDoorGal
import Derived.Test.YtmapagbmihpbmaaGreatDoorGai
import Derived.WalkKit
import Derived.Outline
import Derived.Lib.Hide
import Derived.Deep.RegionWith
import Derived.Deep.RegionHeld3
import Derived.StillTailTactics
import Derived.Deep.QuietTactic
import Derived.Deep.Cut
import Derived.IntWalk
import Derived.Sort.WalkB2
import Derived.Lib.SliceRun
set_option linter.unusedSimpArgs false
set_option linter.unusedVariables false
namespace Go.Proofs.YtmapagbmihpbmaaGreatDoor
open Go.RowKit

section
variable {β : Type} [Inhabited β]
theorem sw_fst (Q : Array (SV × β)) (i j : Nat) (hi : i < Q.size) (hj : j < Q.size) : (Sq.sw Q i j).toList.map Prod.fst = ((Q.toList.map Prod.fst).set i Q[j]!.1).set j Q[i]!.1 := by
  rw [Sq.sw_of hi hj]
  unfold Go.Sort.swp
  rw [Array.toList_setIfInBounds, Array.toList_setIfInBounds, List.map_set, List.map_set]
/-- What a comparison answers, in the worlds of the sort. -/
def CmpIn (w : World) (g : Nat) (P : Array (SV × β)) (cf : β → β → Int) : Prop := ∀ W, Chg w.heap.size [g] w W → ∀ p q, p ∈ P.toList → q ∈ P.toList → Calls Tryz.prog 40 #[sv3 p.1, sv3 q.1] W fun e w' => e = .returned (.int .i64 (cf p.2 q.2)) ∧ Below W.heap.size W w'
set_option maxRecDepth 100000 in
set_option maxHeartbeats 4000000 in
theorem insort_any (cf : β → β → Int) (P : Array (SV × β)) (g c B n : Nat) (w : World) (hn : P.size = n) (hb : n ≤ 100000) (hrow : RS w B g c (P.toList.map Prod.fst)) (hcmp : CmpIn w g P cf) :
    Calls Tryz.prog 109 #[.slice (some ⟨g, 0, none⟩) n c, .int .i64 0, .int .i64 n, .func (.func 40) #[] #[]] w fun e w' => e = .returned (.tuple #[]) ∧ RS w' B g c ((Sq.ins (fun p q => cf p.2 q.2) P 0 n).toList.map Prod.fst) ∧ Chg w.heap.size [g] w w' := by
  have HC := Lib.hid hcmp
  have HR := Lib.hid hrow
  obtain ⟨RT, hRT⟩ : ∃ RT, RT = Sq.ins (fun p q => cf p.2 q.2) P 0 n := ⟨_, rfl⟩
  rw [← hRT]
  have HS := Lib.hid (show Sq.insO (fun p q => cf p.2 q.2) 0 (n - 1) 1 P = RT by rw [hRT]; rfl)
  have HN := Lib.hid hn
  clear hcmp hrow hRT hn
  go_enter Tryz.func109, Tryz.ntmps109
  go_wp2_with fail
  go_loopw [8] (fun u8 wr => ∃ (i : Nat) (Q : Array (SV × β)), 1 ≤ i ∧ i ≤ n + 1 ∧ u8 = .int .i64 i ∧ Hid (Q.size = n) ∧ Hid (Sq.insO (fun p q => cf p.2 q.2) 0 (n - i) i Q = RT) ∧ Hid (∀ p ∈ Q.toList, p ∈ P.toList) ∧ Hid (RS wr B g c (Q.toList.map Prod.fst)) ∧ Hid (Chg w.heap.size [g] w wr)) (fun u _ => n + 1 - (intOf u).toNat)
  case atStart => exact ⟨1, P, by omega, by omega, rfl, HN, HS, Lib.hid fun _ h => h, HR, Lib.hid (Chg.refl _ _ _)⟩
  case round =>
    clear HR HS
    obtain ⟨i, Q, hi1, hi2, rfl, HQ, HS, HM, HR, HG⟩ := hrel
    by_cases hlt : i < n
    · have hlz : (i : Int) < (n : Int) := by omega
      have hs9 := HS.out
      rw [show n - i = (n - (i + 1)) + 1 by omega, Sq.insO] at hs9
      have HS2 := Lib.hid hs9
      clear hs9
      go_wp2_with fail
      go_loopw [9] (fun u9 wr => ∃ (j : Nat) (R : Array (SV × β)), j ≤ i ∧ u9 = .int .i64 j ∧ Hid (R.size = n) ∧ Hid (Sq.insJ (fun p q => cf p.2 q.2) 0 j R = Sq.insJ (fun p q => cf p.2 q.2) 0 i Q) ∧ Hid (∀ p ∈ R.toList, p ∈ P.toList) ∧ Hid (RS wr B g c (R.toList.map Prod.fst)) ∧ Hid (Chg w.heap.size [g] w wr)) (fun u _ => (intOf u).toNat)
      case atStart => exact ⟨i, Q, by omega, rfl, HQ, Lib.hid rfl, HM, HR, HG⟩
      case round =>
        clear HR HG HM
        obtain ⟨j, R, hj, rfl, HQ2, HJ, HM, HR, HG⟩ := hrel
        rcases j with _ | j
        · have HE := Lib.hid (show R = Sq.insJ (fun p q => cf p.2 q.2) 0 i Q from HJ.out)
          go_wp2_with fail
          go_quiet (fail)
          go_wp2_with fail
          go_roundw
          case rel => exact ⟨i + 1, R, by omega, by omega, by go_num, HQ2, Lib.hid (by rw [HE.out]; exact HS2.out), HM, Lib.hid (by first | exact HR.out | exact HR.out.drewN _), Lib.hid (by first | exact HG.out | exact HG.out.drewN _)⟩
          case measure => simp [intOf]; omega
        · obtain ⟨q, hq⟩ : ∃ q, q = j + 1 := ⟨_, rfl⟩
          have s0 : q < R.size := by rw [HQ2.out]; omega
          have s1 : j < R.size := by omega
          have m0 : R[q]! ∈ R.toList := by rw [getElem!_pos R q s0]; exact Array.getElem_mem_toList s0
          have m1 : R[j]! ∈ R.toList := by rw [getElem!_pos R j s1]; exact Array.getElem_mem_toList s1
          have HCC := Lib.hid fun W (h : Chg w.heap.size [g] w W) => HC.out W h R[q]! R[j]! (HM.out _ m0) (HM.out _ m1)
          have r0 := HR.out.cell (i := q) (by simpa using s0)
          have r1 := HR.out.cell (i := j) (by simpa using s1)
          have q0 := HR.out.frozen q
          have q1 := HR.out.frozen j
          have e0 : (R.toList.map Prod.fst)[q]'(by simpa using s0) = R[q]!.1 := by rw [getElem!_pos R q s0]; simp
          have e1 : (R.toList.map Prod.fst)[j]'(by simpa using s1) = R[j]!.1 := by rw [getElem!_pos R j s1]; simp
          rw [e0] at r0
          rw [e1] at r1
          have hsw := sw_fst R q j s0 s1
          have hin : Sq.insJ (fun p q => cf p.2 q.2) 0 (j + 1) R = if 0 < j + 1 ∧ cf R[j + 1]!.2 R[j]!.2 < 0 then Sq.insJ (fun p q => cf p.2 q.2) 0 j (Sq.sw R (j + 1) j) else R := by rw [Sq.insJ]
          rw [← hq] at hin HJ
          have hmp : ∀ p ∈ (Sq.sw R q j).toList, p ∈ P.toList := fun p hp => HM.out p (by
            have := (Sq.sw_perm R q j).mem_iff (a := p)
            simpa using this.1 (by simpa using hp))
          obtain ⟨⟨⟨A0, l0, c0⟩, u⟩, hx⟩ : ∃ x, x = R[q]! := ⟨_, rfl⟩
          obtain ⟨⟨⟨A1, l1, c1⟩, v⟩, hy⟩ : ∃ x, x = R[j]! := ⟨_, rfl⟩
          rw [← hx] at r0 HCC hsw hin
          rw [← hy] at r1 HCC hsw hin
          simp only [sv3] at r0 r1
          have HSW := Lib.hid hsw
          have HMP := Lib.hid hmp
          have HSL := Lib.hid (show (Sq.sw R q j).size = n by rw [Sq.sw_len]; exact HQ2.out)
          obtain ⟨z, hz⟩ : ∃ z, z = cf u v := ⟨_, rfl⟩
          have HCC := Lib.hid (show ∀ W, Chg w.heap.size [g] w W → Calls Tryz.prog 40 #[.slice A0 l0 c0, .slice A1 l1 c1] W fun e w' => e = .returned (.int .i64 z) ∧ Below W.heap.size W w' from fun W h => by rw [hz]; exact HCC.out W h)
          have z1 : (0 : Int) ≤ (j : Int) + 1 := by omega
          have z2 : (j : Int) + 1 < (n : Int) := by omega
          have z3 : (j : Int) < (n : Int) := by omega
          have z4 : ((j : Int) + 1).toNat = j + 1 := by omega
          have z6 : IntKind.i64.wrap (j : Int) = (j : Int) := IntWalk.i64_in _ (by omega)
          have z7 : (0 : Int) ≤ (j : Int) := by omega
          simp only [← hz] at hin
          have HIN := Lib.hid hin
          have HQJ := Lib.hid hq
          have HJL := Lib.hid hj
          subst hq
          clear e0 e1 hsw hx hy hz m0 m1 hin hj hmp
          have HSS := Lib.hid (show ∀ W, Below wr.heap.size wr W → W.cell? ⟨g, j + 1, none⟩ = some (.slice A0 l0 c0) ∧ W.cell? ⟨g, j, none⟩ = some (.slice A1 l1 c1) from fun W hW => ⟨(hW.cell HR.out.lt.2).trans r0, (hW.cell HR.out.lt.2).trans r1⟩)
          by_cases hlt0 : z < 0
          · have hin := HIN.out
            rw [if_pos ⟨by omega, hlt0⟩] at hin
            have HIN2 := Lib.hid hin
            clear hin
            go_upto_region 4 with fail
            go_region_held3 (fun W => W.cell? ⟨g, j + 1, none⟩ = some (.slice A0 l0 c0) ∧ W.cell? ⟨g, j, none⟩ = some (.slice A1 l1 c1)) (first | exact ⟨by assumption, by assumption⟩ | exact HSS.out _ HB1.out) (first
              | (go_at_call 40; (with_reducible refine (HCC.out _ HG.out.drew).mono ?_); rintro e w1 ⟨rfl, hb⟩; have HB1 := Lib.hid ((Below.refl wr.heap.size wr).drew.trans hb); have HG1 := Lib.hid (HG.out.drew.next (Chg.of hb [g])); have HR1 := Lib.hid (HR.out.drew.later hb); clear hb))
            have q0 := HR1.out.frozen (j + 1)
            have q1 := HR1.out.frozen j
            have r0 := (HSS.out _ HB1.out).1
            have r1 := (HSS.out _ HB1.out).2
            go_wp2_with fail
            have mixed : Tryz.prog.follows Departure.mixedOrders = true := by kernel_rfl
            go_big_region_o
            have HRN := Lib.hid (show RS (((w1.setCell ⟨g, j + 1, none⟩ (.slice A1 l1 c1)).setCell ⟨g, j, none⟩ (.slice A0 l0 c0)).drew) B g c ((Sq.sw R (j + 1) j).toList.map Prod.fst) by rw [HSW.out]; exact (((HR1.out.set (j + 1) (A1, l1, c1)).set j (A0, l0, c0))).drew)
            have HGN := Lib.hid (show Chg w.heap.size [g] w (((w1.setCell ⟨g, j + 1, none⟩ (.slice A1 l1 c1)).setCell ⟨g, j, none⟩ (.slice A0 l0 c0)).drew) from ((HG1.out.set (.inl (List.mem_singleton.2 rfl)) _).set (.inl (List.mem_singleton.2 rfl)) _).drew)
            clear HR1 HG1 HR HG HB1 HSS r0 r1 q0 q1
            go_wp2_with fail
            go_roundw
            case rel => exact ⟨j, Sq.sw R (j + 1) j, by have := HJL.out; omega, by go_num, HSL, Lib.hid (HIN2.out.symm.trans HJ.out), HMP, HRN, HGN⟩
            case measure => simp [intOf]
          · have hin := HIN.out
            rw [if_neg (fun h => hlt0 h.2)] at hin
            have HE := Lib.hid (hin.symm.trans HJ.out)
            clear hin
            go_upto_region 4 with fail
            go_region_held3 (fun W => W.cell? ⟨g, j + 1, none⟩ = some (.slice A0 l0 c0) ∧ W.cell? ⟨g, j, none⟩ = some (.slice A1 l1 c1)) (first | exact ⟨by assumption, by assumption⟩ | exact HSS.out _ HB1.out) (first
              | (go_at_call 40; (with_reducible refine (HCC.out _ HG.out.drew).mono ?_); rintro e w1 ⟨rfl, hb⟩; have HB1 := Lib.hid ((Below.refl wr.heap.size wr).drew.trans hb); have HG1 := Lib.hid (HG.out.drew.next (Chg.of hb [g])); have HR1 := Lib.hid (HR.out.drew.later hb); clear hb))
            go_wp2_with fail
            go_roundw
            case rel => exact ⟨i + 1, R, by omega, by omega, by go_num, HQ2, Lib.hid (by rw [HE.out]; exact HS2.out), HM, HR1, HG1⟩
            case measure => simp [intOf]; omega
    · have hlz : ¬ (i : Int) < (n : Int) := by omega
      have h9 := HS.out
      rw [show n - i = 0 by omega, Sq.insO] at h9
      go_wp2_with fail
      go_end0
      rw [← h9]
      exact ⟨rfl, HR.out, HG.out⟩
end
end Go.Proofs.YtmapagbmihpbmaaGreatDoor

namespace Go.Proofs.YtmapagbmihpbmaaGreatDoor
open Go.RowKit

section
variable {β : Type} [Inhabited β]
set_option maxRecDepth 100000 in
set_option maxHeartbeats 4000000 in
theorem stable_any (cf : β → β → Int) (P : Array (SV × β)) (g c B n : Nat) (w : World) (hn : P.size = n) (hb : n < 20) (hrow : RS w B g c (P.toList.map Prod.fst)) (hcmp : CmpIn w g P cf) :
    Calls Tryz.prog 89 #[.slice (some ⟨g, 0, none⟩) n c, .int .i64 n, .func (.func 40) #[] #[]] w fun e w' => e = .returned (.tuple #[]) ∧ RS w' B g c ((Sq.ins (fun p q => cf p.2 q.2) P 0 n).toList.map Prod.fst) ∧ Chg w.heap.size [g] w w' := by
  have HI := Lib.hid (insort_any cf P g c B n w hn (by omega) hrow hcmp)
  obtain ⟨RT, hRT⟩ : ∃ RT, RT = (Sq.ins (fun p q => cf p.2 q.2) P 0 n).toList.map Prod.fst := ⟨_, rfl⟩
  have HI := Lib.hid (show Calls Tryz.prog 109 #[.slice (some ⟨g, 0, none⟩) n c, .int .i64 0, .int .i64 n, .func (.func 40) #[] #[]] w fun e w' => e = .returned (.tuple #[]) ∧ RS w' B g c RT ∧ Chg w.heap.size [g] w w' from by rw [hRT]; exact HI.out)
  rw [← hRT]
  clear hn hrow hcmp hRT
  have hz : ¬ (20 : Int) ≤ (n : Int) := by omega
  have hz2 : ¬ (20 : Int) < (n : Int) := by omega
  go_enter Tryz.func89, Tryz.ntmps89
  go_wp2_with fail
  go_loopw [7, 8] (fun u7 u8 wr => u7 = .int .i64 0 ∧ u8 = .int .i64 20 ∧ w = wr) (fun _ _ _ => 0)
  case atStart => exact ⟨rfl, rfl, rfl⟩
  case round =>
    obtain ⟨rfl, rfl, rfl⟩ := hrel
    go_wp2_with (go_at_call 109; (with_reducible refine HI.out.mono ?_); rintro e w1 ⟨rfl, h1, h2⟩; have H1 := Lib.hid h1; have H2 := Lib.hid h2; clear h1 h2)
    go_loopw [6] (fun u6 wr => u6 = .int .i64 20 ∧ w1 = wr) (fun _ _ => 0)
    case atStart => exact ⟨rfl, rfl⟩
    case round =>
      obtain ⟨rfl, rfl⟩ := hrel
      go_wp2_with fail
      go_end0
      exact ⟨rfl, H1.out, H2.out⟩
set_option maxRecDepth 100000 in
set_option maxHeartbeats 4000000 in
theorem sortst_any (cf : β → β → Int) (P : Array (SV × β)) (g c B n : Nat) (w : World) (hn : P.size = n) (hb : n < 20) (hrow : RS w B g c (P.toList.map Prod.fst)) (hcmp : CmpIn w g P cf) :
    Calls Tryz.prog 66 #[.slice (some ⟨g, 0, none⟩) n c, .func (.func 40) #[] #[]] w fun e w' => e = .returned (.tuple #[]) ∧ RS w' B g c ((Sq.ins (fun p q => cf p.2 q.2) P 0 n).toList.map Prod.fst) ∧ Chg w.heap.size [g] w w' := by
  have HI := Lib.hid (stable_any cf P g c B n w hn hb hrow hcmp)
  clear hn hrow hcmp
  go_enter Tryz.func66, Tryz.ntmps66
  go_wp2_with (go_at_call 89; (with_reducible refine HI.out.mono ?_); rintro e w1 ⟨rfl, h1, h2⟩; have H1 := Lib.hid h1; have H2 := Lib.hid h2; clear h1 h2)
  go_end0
  exact ⟨rfl, H1.out, H2.out⟩
set_option maxRecDepth 100000 in
set_option maxHeartbeats 2000000 in
theorem eqk_any (x y : SV) (z : Int) (w : World) (h : Calls Tryz.prog 40 #[sv3 x, sv3 y] w fun e w' => e = .returned (.int .i64 z) ∧ Below w.heap.size w w') :
    Calls Tryz.prog 68 #[sv3 x, sv3 y] w fun e w' => e = .returned (.bool (z == 0)) ∧ Below w.heap.size w w' := by
  obtain ⟨x1, x2, x3⟩ := x
  obtain ⟨y1, y2, y3⟩ := y
  have H := Lib.hid (show Calls Tryz.prog 40 #[.slice x1 x2 x3, .slice y1 y2 y3] w fun e w' => e = .returned (.int .i64 z) ∧ Below w.heap.size w w' from h)
  clear h
  show Calls Tryz.prog 68 #[.slice x1 x2 x3, .slice y1 y2 y3] w _
  go_enter Tryz.func68, Tryz.ntmps68
  go_wp2_with (go_at_call 40; (with_reducible refine H.out.mono ?_); rintro e w1 ⟨rfl, hb⟩; have HB := Lib.hid hb; clear hb)
  go_ret
  exact ⟨rfl, HB.out⟩
/-- What the test of equality answers, in the worlds of the striking. -/
def EqIn (w : World) (g : Nat) (cf : β → β → Int) (P : List (SV × β)) : Prop := ∀ W, Chg w.heap.size [g] w W → ∀ p q, p ∈ P → q ∈ P → Calls Tryz.prog 68 #[sv3 p.1, sv3 q.1] W fun e w' => e = .returned (.bool (cf p.2 q.2 == 0)) ∧ Below W.heap.size W w'
omit [Inhabited β] in
theorem EqIn.of {w : World} {g : Nat} {cf : β → β → Int} {P : Array (SV × β)} (h : CmpIn w g P cf) : EqIn w g cf P.toList := fun W hW p q hp hq => eqk_any p.1 q.1 _ W (h W hW p q hp hq)
theorem Chg.sets {B g : Nat} {G : List Nat} {w : World} (hg : g ∈ G) : ∀ (vs : List Value) (o : Nat) (W : World), Chg B G w W → Chg B G w (W.setCells g o vs)
  | [], _, _, h => h
  | v :: t, o, W, h => Chg.sets hg t (o + 1) (W.setCell ⟨g, o, none⟩ v) (h.set (.inl hg) v)
theorem RS.blk {W : World} {B g c : Nat} {l : List SV} (h : RS W B g c l) : ∃ cs, Blk W g 25 cs := by
  rcases h.2 with ⟨h0, _⟩ | ⟨g1, cap, cur, e, _, h2, _⟩
  · cases h0
  · injection e with e
    injection e with e
    injection e with e
    subst e
    exact ⟨cur, h2⟩
theorem Blk.sets {g : Nat} {t : TypeId} : ∀ (vs : List Value) (o : Nat) (W : World), (∃ cs, Blk W g t cs) → ∃ cs, Blk (W.setCells g o vs) g t cs
  | [], _, _, h => h
  | v :: r, o, W, ⟨_, h⟩ => Blk.sets r (o + 1) (W.setCell ⟨g, o, none⟩ v) ⟨_, h.set_ o v⟩
theorem RS.cap {W : World} {B g c : Nat} {l : List SV} (h : RS W B g c l) : l.length ≤ c := by
  rcases h.2 with ⟨h0, _⟩ | ⟨g1, cap, cur, e, _, _, h3, _⟩
  · cases h0
  · injection e with _ _ e
    omega
theorem RS.reads {W : World} {B g c k : Nat} {l : List SV} (h : RS W B g c l) (hk : k ≤ l.length) : Reads 1 (fun x => [sv3 x]) W (.slice (some ⟨g, 0, none⟩) k c) (l.take k) := by
  have hl : (l.take k).length = k := by rw [List.length_take]; omega
  have hc := h.cap
  refine ⟨_, c, by rw [hl], by omega, (fun e => by cases e), fun _ => ⟨g, 0, rfl, h.lt.2, fun i hi j hj => ?_⟩⟩
  obtain rfl : j = 0 := by omega
  have := h.cell (i := i) (by omega)
  rw [show 0 + (i * 1 + 0) = i by omega, this, List.getElem_take]
  rfl
theorem RS.cleared {W : World} {B g c k : Nat} {l : List SV} (h : RS W B g c l) (hk : k ≤ l.length) (vs : List Value) : Reads 1 (fun x => [sv3 x]) (W.setCells g k vs) (.slice (some ⟨g, 0, none⟩) k c) (l.take k) := by
  have hl : (l.take k).length = k := by rw [List.length_take]; omega
  have hc := h.cap
  have hs := (Chg.sets (B := W.heap.size) (G := [g]) (w := W) (List.mem_singleton.2 rfl) vs k W (Chg.refl _ _ _)).size
  refine ⟨_, c, by rw [hl], by omega, (fun e => by cases e), fun _ => ⟨g, 0, rfl, Nat.lt_of_lt_of_le h.lt.2 hs, fun i hi j hj => ?_⟩⟩
  obtain rfl : j = 0 := by omega
  have := h.cell (i := i) (by omega)
  rw [show 0 + (i * 1 + 0) = i by omega, World.cell?_setCells_out g vs k W ⟨g, i, none⟩ (fun _ _ => .inl (show i < k by omega)), this, List.getElem_take]
  rfl
theorem bang_fst {P : List (SV × β)} {i : Nat} (h : i < P.length) : (P.map Prod.fst)[i]'(by simpa using h) = P[i]!.1 := by
  rw [getElem!_pos P i h]; simp
theorem bang_mem {P : List (SV × β)} {i : Nat} (h : i < P.length) : P[i]! ∈ P := by
  rw [getElem!_pos P i h]; exact List.getElem_mem h
set_option maxRecDepth 100000 in
set_option maxHeartbeats 8000000 in
theorem compact_any (cf : β → β → Int) (P : List (SV × β)) (g c B n : Nat) (w : World) (hn : P.length = n) (h1 : 1 ≤ n) (hb : n ≤ 100000) (hrow : RS w B g c (P.map Prod.fst)) (heq : EqIn w g cf P) :
    Calls Tryz.prog 67 #[.slice (some ⟨g, 0, none⟩) n c, .func (.func 68) #[] #[]] w fun e w' => e = .returned (.slice (some ⟨g, 0, none⟩) (Pv.cmpct (fun p q => cf p.2 q.2) P).length c) ∧ Reads 1 (fun x => [sv3 x]) w' (.slice (some ⟨g, 0, none⟩) (Pv.cmpct (fun p q => cf p.2 q.2) P).length c) ((Pv.cmpct (fun p q => cf p.2 q.2) P).map Prod.fst) ∧ Chg w.heap.size [g] w w' ∧ ∃ cs, Blk w' g 25 cs := by
  have hcap := hrow.cap
  rw [List.length_map, hn] at hcap
  have HE := Lib.hid heq
  have HR := Lib.hid hrow
  have HN := Lib.hid hn
  obtain ⟨C, hC⟩ : ∃ C, C = Pv.cmpct (fun p q => cf p.2 q.2) P := ⟨_, rfl⟩
  have HC := Lib.hid hC
  rw [← hC]
  have HWH := Lib.hid (show ∀ W, RS W B g c (P.map Prod.fst) → C = P → Reads 1 (fun x => [sv3 x]) W (.slice (some ⟨g, 0, none⟩) C.length c) (C.map Prod.fst) from fun W h e => by
    subst e
    have := h.reads (k := C.length) (by simp)
    rwa [List.take_of_length_le (by simp)] at this)
  clear hC heq hrow hn
  by_cases h2 : n < 2
  · have hz : (n : Int) < 2 := by omega
    go_enter Tryz.func67, Tryz.ntmps67
    go_wp2_with fail
    go_ret
    have e : C = P := by rw [HC.out]; exact Pv.cmpct_short (by rw [HN.out]; exact h2)
    exact ⟨by rw [e, HN.out]; rfl, HWH.out _ HR.out e, Chg.refl _ _ _, HR.out.blk⟩
  · have hz : ¬ (n : Int) < 2 := by omega
    go_enter Tryz.func67, Tryz.ntmps67
    go_wp2_with fail
    go_loopw [5] (fun u5 wr => ∃ k : Nat, 1 ≤ k ∧ k ≤ n ∧ u5 = .int .i64 k ∧ Hid (Pv.CO (fun p q => cf p.2 q.2) P k) ∧ Hid (RS wr B g c (P.map Prod.fst)) ∧ Hid (Chg w.heap.size [g] w wr)) (fun u _ => n - (intOf u).toNat)
    case atStart => exact ⟨1, by omega, h1, rfl, Lib.hid (Pv.CO.start (by rw [HN.out]; exact h1)), HR, Lib.hid (Chg.refl _ _ _)⟩
    case round =>
      clear HR
      obtain ⟨k, hk1, hk2, rfl, HO, HR, HG⟩ := hrel
      by_cases hlt : k < n
      · have hlz : (k : Int) < (n : Int) := by omega
        have l0 : k < P.length := by rw [HN.out]; exact hlt
        have l1 : k - 1 < P.length := by omega
        have c0 := HR.out.cell (i := k) (by simpa using l0)
        have c1 := HR.out.cell (i := k - 1) (by simpa using l1)
        rw [bang_fst l0] at c0
        rw [bang_fst l1] at c1
        have q0 := HR.out.frozen k
        have HQ := Lib.hid fun W (h : Chg w.heap.size [g] w W) => HE.out W h P[k]! P[k - 1]! (bang_mem l0) (bang_mem l1)
        obtain ⟨z, hz⟩ : ∃ z, z = cf P[k]!.2 P[k - 1]!.2 := ⟨_, rfl⟩
        rw [← hz] at HQ
        have HZ := Lib.hid hz
        obtain ⟨⟨A0, n0, cc0⟩, hx⟩ : ∃ x, x = P[k]!.1 := ⟨_, rfl⟩
        obtain ⟨⟨A1, n1, cc1⟩, hy⟩ : ∃ x, x = P[k - 1]!.1 := ⟨_, rfl⟩
        rw [← hx] at c0 HQ
        rw [← hy] at c1 HQ
        simp only [sv3] at c0 c1
        have HQ := Lib.hid (show ∀ W, Chg w.heap.size [g] w W → Calls Tryz.prog 68 #[.slice A0 n0 cc0, .slice A1 n1 cc1] W fun e w' => e = .returned (.bool (z == 0)) ∧ Below W.heap.size W w' from HQ.out)
        obtain ⟨j, rfl⟩ : ∃ j, k = j + 1 := ⟨k - 1, by omega⟩
        have e0 : j + 1 - 1 = j := by omega
        rw [e0] at c1
        have z1 : IntKind.i64.wrap (j : Int) = (j : Int) := IntWalk.i64_in _ (by omega)
        have z2 : (0 : Int) ≤ (j : Int) + 1 := by omega
        have z3 : (j : Int) + 1 < (n : Int) := by omega
        have z5 : (j : Int) < (n : Int) := by omega
        have z7 : (0 : Int) ≤ (j : Int) := by omega
        have z4 : ((j : Int) + 1).toNat = j + 1 := by omega
        clear hz hx hy l0 l1 e0
        have HSS := Lib.hid (show ∀ W, Below wr.heap.size wr W → W.cell? ⟨g, j + 1, none⟩ = some (.slice A0 n0 cc0) ∧ W.cell? ⟨g, j, none⟩ = some (.slice A1 n1 cc1) from fun W hW => ⟨(hW.cell HR.out.lt.2).trans c0, (hW.cell HR.out.lt.2).trans c1⟩)
        by_cases hz0 : z = 0
        · subst hz0
          go_upto_region 6 with fail
          go_region_held3 (fun W => W.cell? ⟨g, j + 1, none⟩ = some (.slice A0 n0 cc0) ∧ W.cell? ⟨g, j, none⟩ = some (.slice A1 n1 cc1)) (first | exact ⟨by assumption, by assumption⟩ | exact HSS.out _ HB1.out) (first
            | (go_at_call 68; (with_reducible refine (HQ.out _ HG.out.drew).mono ?_); rintro e w1 ⟨rfl, hb⟩; have HB1 := Lib.hid ((Below.refl wr.heap.size wr).drew.trans hb); have HG1 := Lib.hid (HG.out.drew.next (Chg.of hb [g])); have HR1 := Lib.hid (HR.out.drew.later hb); clear hb))
          go_wp2_with fail
          go_loopw [5, 7] (fun u5 u7 wr => ∃ (kk k2 : Nat) (Q : List (SV × β)), u5 = .int .i64 kk ∧ u7 = .int .i64 k2 ∧ 1 ≤ k2 ∧ j + 1 + k2 ≤ n ∧ kk + 1 ≤ j + 1 + k2 ∧ Hid (Pv.CI (fun p q => cf p.2 q.2) P kk (j + 1 + k2) Q) ∧ Hid (RS wr B g c (Q.map Prod.fst)) ∧ Hid (Chg w.heap.size [g] w wr)) (fun _ u7 _ => n - (j + 1) - (intOf u7).toNat)
          case atStart => exact ⟨j + 1, 1, P, by go_num, rfl, by omega, by omega, by omega, Lib.hid (Pv.CI.start HO.out (by rw [HN.out]; exact hlt) HZ.out.symm), HR1, HG1⟩
          case round =>
            clear HR1 HG1 HR HG HB1 HSS c0 c1 q0 HQ
            obtain ⟨kk, k2, Q, rfl, rfl, h3, h4, h5, HI, HR, HG⟩ := hrel
            have hql : Q.length = n := HI.out.len.trans HN.out
            by_cases hl2 : j + 1 + k2 < n
            · have hlz2 : (k2 : Int) < ((n - (j + 1) : Nat) : Int) := by omega
              obtain ⟨p2, rfl⟩ : ∃ p2, k2 = p2 + 1 := ⟨k2 - 1, by omega⟩
              have l0 : j + 1 + (p2 + 1) < P.length := by rw [HN.out]; exact hl2
              have l1 : j + 1 + p2 < P.length := by omega
              have c0 := HR.out.cell (i := j + 1 + (p2 + 1)) (by simp; omega)
              have c1 := HR.out.cell (i := j + 1 + p2) (by simp; omega)
              rw [bang_fst (P := Q) (by omega), HI.out.high _ (by omega)] at c0
              rw [bang_fst (P := Q) (by omega), HI.out.high _ (by omega)] at c1
              have q0 := HR.out.frozen kk
              have ck := HR.out.cell (i := kk) (by simp; omega)
              obtain ⟨old, hold⟩ : ∃ o, o = sv3 ((Q.map Prod.fst)[kk]'(by simp; omega)) := ⟨_, rfl⟩
              rw [← hold] at ck
              have HQ := Lib.hid fun W (h : Chg w.heap.size [g] w W) => HE.out W h P[j + 1 + (p2 + 1)]! P[j + 1 + p2]! (bang_mem l0) (bang_mem l1)
              obtain ⟨z, hz⟩ : ∃ z, z = cf P[j + 1 + (p2 + 1)]!.2 P[j + 1 + p2]!.2 := ⟨_, rfl⟩
              rw [← hz] at HQ
              have HZ := Lib.hid hz
              obtain ⟨⟨A0, n0, cc0⟩, hx⟩ : ∃ x, x = P[j + 1 + (p2 + 1)]!.1 := ⟨_, rfl⟩
              obtain ⟨⟨A1, n1, cc1⟩, hy⟩ : ∃ x, x = P[j + 1 + p2]!.1 := ⟨_, rfl⟩
              rw [← hx] at c0 HQ
              rw [← hy] at c1 HQ
              have HX := Lib.hid hx
              simp only [sv3] at c0 c1
              have HQ := Lib.hid (show ∀ W, Chg w.heap.size [g] w W → Calls Tryz.prog 68 #[.slice A0 n0 cc0, .slice A1 n1 cc1] W fun e w' => e = .returned (.bool (z == 0)) ∧ Below W.heap.size W w' from HQ.out)
              have z1 : IntKind.i64.wrap (p2 : Int) = (p2 : Int) := IntWalk.i64_in _ (by omega)
              have z2 : (0 : Int) ≤ (p2 : Int) + 1 := by omega
              have z3 : (p2 : Int) + 1 < ((n - (j + 1) : Nat) : Int) := by omega
              have z5 : (p2 : Int) < ((n - (j + 1) : Nat) : Int) := by omega
              have z7 : (0 : Int) ≤ (p2 : Int) := by omega
              have z4 : ((p2 : Int) + 1).toNat = p2 + 1 := by omega
              clear hz hx hy l0 l1 hold
              have HSS := Lib.hid (show ∀ W, Below wr.heap.size wr W → W.cell? ⟨g, j + 1 + (p2 + 1), none⟩ = some (.slice A0 n0 cc0) ∧ W.cell? ⟨g, j + 1 + p2, none⟩ = some (.slice A1 n1 cc1) from fun W hW => ⟨(hW.cell HR.out.lt.2).trans c0, (hW.cell HR.out.lt.2).trans c1⟩)
              by_cases hz0 : z = 0
              · subst hz0
                go_upto_region 11 with fail
                go_region_held3 (fun W => W.cell? ⟨g, j + 1 + (p2 + 1), none⟩ = some (.slice A0 n0 cc0) ∧ W.cell? ⟨g, j + 1 + p2, none⟩ = some (.slice A1 n1 cc1)) (first | exact ⟨by assumption, by assumption⟩ | exact HSS.out _ HB1.out) (first
                  | (go_at_call 68; (with_reducible refine (HQ.out _ HG.out.drew).mono ?_); rintro e w1 ⟨rfl, hb⟩; have HB1 := Lib.hid ((Below.refl wr.heap.size wr).drew.trans hb); have HG1 := Lib.hid (HG.out.drew.next (Chg.of hb [g])); have HR1 := Lib.hid (HR.out.drew.later hb); clear hb))
                go_wp2_with fail
                go_roundw
                case rel => exact ⟨kk, p2 + 1 + 1, Q, rfl, by go_num, by omega, by omega, by omega, Lib.hid (HI.out.skip (by rw [HN.out]; exact hl2) HZ.out.symm), HR1, HG1⟩
                case measure => simp [intOf]; omega
              · have hzb : (z == 0) = false := by rw [beq_eq_false_iff_ne]; exact hz0
                go_upto_region 11 with fail
                go_region_held3 (fun W => W.cell? ⟨g, j + 1 + (p2 + 1), none⟩ = some (.slice A0 n0 cc0) ∧ W.cell? ⟨g, j + 1 + p2, none⟩ = some (.slice A1 n1 cc1)) (first | exact ⟨by assumption, by assumption⟩ | exact HSS.out _ HB1.out) (first
                  | (go_at_call 68; (with_reducible refine (HQ.out _ HG.out.drew).mono ?_); rintro e w1 ⟨rfl, hb⟩; have HB1 := Lib.hid ((Below.refl wr.heap.size wr).drew.trans hb); have HG1 := Lib.hid (HG.out.drew.next (Chg.of hb [g])); have HR1 := Lib.hid (HR.out.drew.later hb); clear hb))
                have r0 := (HSS.out _ HB1.out).1
                have q1 := HR1.out.frozen kk
                have ck1 : w1.cell? ⟨g, kk, none⟩ = some old := (HB1.out.cell HR.out.lt.2).trans ck
                clear c0 c1 q0 ck
                go_wp2_with fail
                have HRN := Lib.hid (show RS (w1.setCell ⟨g, kk, none⟩ (.slice A0 n0 cc0)) B g c ((Q.set kk P[j + 1 + (p2 + 1)]!).map Prod.fst) by rw [List.map_set, ← HX.out]; exact HR1.out.set kk (A0, n0, cc0))
                have HGN := Lib.hid (show Chg w.heap.size [g] w (w1.setCell ⟨g, kk, none⟩ (.slice A0 n0 cc0)) from HG1.out.set (.inl (List.mem_singleton.2 rfl)) _)
                go_roundw
                case rel => exact ⟨kk + 1, p2 + 1 + 1, Q.set kk P[j + 1 + (p2 + 1)]!, by go_num, by go_num, by omega, by omega, by omega, Lib.hid (HI.out.keep (by rw [HN.out]; exact hl2) (fun h => hz0 (HZ.out.trans h))), HRN, HGN⟩
                case measure => simp [intOf]; omega
            · have hlz2 : ¬ (k2 : Int) < ((n - (j + 1) : Nat) : Int) := by omega
              have hcl : ∀ ty, (Builtin.clear_ #[31] ty #[.slice (some ⟨g, kk, none⟩) (n - kk) (c - kk)]).run Tryz.prog wr = .ok (.tuple #[]) (wr.setCells g kk (List.replicate (n - kk) (.slice none 0 0))) :=
                fun ty => Lib.run_clear_slice wr _ _ ty _ Tryz.underlying31 (fun w => by kernel_rfl) rfl rfl g kk _ _ (by omega) (fun i hi => by rw [HR.out.cell (i := kk + i) (by simp; omega)]; rfl) (fun i hi => HR.out.frozen _)
              go_wp2_with fail
              go_ret
              have e : C = Q.take kk := by rw [HC.out]; exact HI.out.done (by rw [HN.out]; omega)
              have hl : C.length = kk := by rw [e, List.length_take]; omega
              have hrd := HR.out.cleared (k := kk) (by simp; omega) (List.replicate (n - kk) (.slice none 0 0))
              rw [← List.map_take, ← e] at hrd
              rw [hl]
              exact ⟨rfl, hrd, Chg.sets (List.mem_singleton.2 rfl) _ _ _ HG.out, Blk.sets _ _ _ HR.out.blk⟩
        · have hzb : (z == 0) = false := by rw [beq_eq_false_iff_ne]; exact hz0
          go_upto_region 6 with fail
          go_region_held3 (fun W => W.cell? ⟨g, j + 1, none⟩ = some (.slice A0 n0 cc0) ∧ W.cell? ⟨g, j, none⟩ = some (.slice A1 n1 cc1)) (first | exact ⟨by assumption, by assumption⟩ | exact HSS.out _ HB1.out) (first
            | (go_at_call 68; (with_reducible refine (HQ.out _ HG.out.drew).mono ?_); rintro e w1 ⟨rfl, hb⟩; have HB1 := Lib.hid ((Below.refl wr.heap.size wr).drew.trans hb); have HG1 := Lib.hid (HG.out.drew.next (Chg.of hb [g])); have HR1 := Lib.hid (HR.out.drew.later hb); clear hb))
          go_wp2_with fail
          go_roundw
          case rel => exact ⟨j + 1 + 1, by omega, by omega, by go_num, Lib.hid (HO.out.keep (by rw [HN.out]; exact hlt) (by rw [← HZ.out]; exact hz0)), HR1, HG1⟩
          case measure => simp [intOf]; omega
      · have hlz : ¬ (k : Int) < (n : Int) := by omega
        go_wp2_with fail
        go_ret
        have e : C = P := by rw [HC.out]; exact HO.out.done (by rw [HN.out]; omega)
        exact ⟨by rw [e, HN.out]; rfl, HWH.out _ HR.out e, HG.out, HR.out.blk⟩
end
end Go.Proofs.YtmapagbmihpbmaaGreatDoor
