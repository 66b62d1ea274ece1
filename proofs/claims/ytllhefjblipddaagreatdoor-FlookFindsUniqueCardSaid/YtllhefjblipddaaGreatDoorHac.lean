/- slices.insertionSortCmpFunc of whole numbers, by unique's comparison, whatever it answers. -/
import Derived.Test.YtllhefjblipddaaGreatDoorFmA
import Derived.WalkKit
import Derived.Outline
import Derived.Lib.Hide
import Derived.Deep.RegionWith
import Derived.Deep.RegionHeld3
import Derived.StillTailTactics
import Derived.Deep.QuietTactic
import Derived.Deep.Cut
import Derived.IntWalk
import Derived.Sort.WalkB2
import Derived.Shelf.RegionOpenPlain
import Derived.Deep.LoopGhost
set_option linter.unusedSimpArgs false
set_option linter.unusedVariables false
namespace Go.Proofs.YtllhefjblipddaaGreatDoor
open Go.RowKit

set_option maxRecDepth 100000 in
set_option maxHeartbeats 4000000 in
theorem insI_any (N B g c p a b : Nat) (w0 w : World) (hs : SS N B g w0 w) (hc : CmpZ w0 g N p) (hab : a ≤ b) (hb : b ≤ N) (hN : N ≤ 100000) :
    Calls Tryz.prog 192 #[.slice (some ⟨g, 0, none⟩) N c, .int .i64 (a : Int), .int .i64 (b : Int), .func (.func 103) #[] #[.pointer (some ⟨p, 0, none⟩)]] w fun e w' => e = .returned (.tuple #[]) ∧ SS N B g w0 w' := by
  have HC := Lib.hid hc
  have HS := Lib.hid hs
  clear hc hs
  have a1 : IntKind.i64.wrap ((a : Int) + 1) = (a : Int) + 1 := IntWalk.i64_in _ (by omega)
  go_enter Tryz.func192, Tryz.ntmps192
  go_wp2_with fail
  go_loopw [8] (fun u8 wr => ∃ i : Nat, a + 1 ≤ i ∧ i ≤ b + 1 ∧ u8 = .int .i64 i ∧ Hid (SS N B g w0 wr)) (fun u _ => b + 1 - (intOf u).toNat)
  case atStart => exact ⟨a + 1, by omega, by omega, by go_num, HS⟩
  case round =>
    clear HS
    obtain ⟨i, hi1, hi2, rfl, HS⟩ := hrel
    by_cases hlt : i < b
    · have hlz : (i : Int) < (b : Int) := by omega
      have i1 : IntKind.i64.wrap ((i : Int) + 1) = (i : Int) + 1 := IntWalk.i64_in _ (by omega)
      go_wp2_with fail
      go_loopw [9] (fun u9 wr => ∃ j : Nat, a ≤ j ∧ j ≤ i ∧ u9 = .int .i64 j ∧ Hid (SS N B g w0 wr)) (fun u _ => (intOf u).toNat)
      case atStart => exact ⟨i, by omega, by omega, rfl, HS⟩
      case round =>
        clear HS
        obtain ⟨j, hj1, hj2, rfl, HS⟩ := hrel
        by_cases hja : a < j
        · obtain ⟨q, rfl⟩ : ∃ q, j = q + 1 := ⟨j - 1, by omega⟩
          obtain ⟨x, hx, r0, r0b⟩ := HS.out.cell (i := q + 1) (by omega)
          obtain ⟨y, hy, r1, r1b⟩ := HS.out.cell (i := q) (by omega)
          have HSS := Lib.hid (show ∀ W, Below wr.heap.size wr W → W.cell? ⟨g, q + 1, none⟩ = some (.int .i64 (x : Int)) ∧ W.cell? ⟨g, q, none⟩ = some (.int .i64 (y : Int)) from fun W hW => ⟨r0b W hW, r1b W hW⟩)
          have HCC := Lib.hid fun W (h : Chg w0.heap.size [g] w0 W) => HC.out W h x y hx hy
          have HI := Lib.hid (show a ≤ q ∧ q ≤ i ∧ q + 1 < N from ⟨by omega, by omega, by omega⟩)
          have z0 : (a : Int) < (q : Int) + 1 := by omega
          have z1 : (0 : Int) ≤ (q : Int) + 1 := by omega
          have z2 : (q : Int) + 1 < (N : Int) := by omega
          have z3 : (q : Int) < (N : Int) := by omega
          have z4 : ((q : Int) + 1).toNat = q + 1 := by omega
          have z6 : IntKind.i64.wrap (q : Int) = (q : Int) := IntWalk.i64_in _ (by omega)
          have z7 : (0 : Int) ≤ (q : Int) := by omega
          clear r0b r1b hx hy hja hj1 hj2
          go_upto_region 4 with fail
          go_region_held3 (fun W => W.cell? ⟨g, q + 1, none⟩ = some (.int .i64 (x : Int)) ∧ W.cell? ⟨g, q, none⟩ = some (.int .i64 (y : Int))) (first | exact ⟨by assumption, by assumption⟩ | exact HSS.out _ HB1.out) (first
            | (go_at_call 103; (with_reducible refine (HCC.out _ HS.out.drew.chg).mono ?_); rintro e w1 ⟨z, rfl, hb⟩; have HB1 := Lib.hid ((Below.refl wr.heap.size wr).drew.trans hb); have HS1 := Lib.hid (HS.out.drew.later hb); clear hb))
          by_cases hz : z < 0
          · have q0 := HS1.out.frozen (q + 1)
            have q1 := HS1.out.frozen q
            have r0 := (HSS.out _ HB1.out).1
            have r1 := (HSS.out _ HB1.out).2
            have HSN := Lib.hid ((HS1.out.swap (i := q + 1) (j := q) HI.out.2.2 (by have := HI.out.2.2; omega) r0 r1).drew)
            go_wp2_with fail
            have mixed : Tryz.prog.follows Departure.mixedOrders = true := by kernel_rfl
            go_big_region_o
            clear r0 r1 q0 q1 HB1 HSS HS1 HS
            go_wp2_with fail
            go_roundw
            case rel => exact ⟨q, HI.out.1, HI.out.2.1, by go_num, HSN⟩
            case measure => simp [intOf]
          · go_wp2_with fail
            go_roundw
            case rel => exact ⟨i + 1, by omega, by omega, by go_num, HS1⟩
            case measure => simp [intOf]; omega
        · obtain rfl : j = a := by omega
          go_wp2_with fail
          go_quiet (fail)
          go_wp2_with fail
          go_roundw
          case rel => exact ⟨i + 1, by omega, by omega, by go_num, Lib.hid (by first | exact HS.out | exact HS.out.drewN _)⟩
          case measure => simp [intOf]; omega
    · have hlz : ¬ (i : Int) < (b : Int) := by omega
      go_wp2_with fail
      go_end0
      exact ⟨rfl, HS.out⟩
end Go.Proofs.YtllhefjblipddaaGreatDoor

namespace Go.Proofs.YtllhefjblipddaaGreatDoor
open Go.RowKit

set_option maxRecDepth 100000 in
set_option maxHeartbeats 4000000 in
theorem swrI_any (N B g c p a b n : Nat) (w0 w : World) (hs : SS N B g w0 w) (hne : ¬ a = b) (ha : a + n ≤ N) (hb : b + n ≤ N) (hN : N ≤ 100000) :
    Calls Tryz.prog 276 #[.slice (some ⟨g, 0, none⟩) N c, .int .i64 (a : Int), .int .i64 (b : Int), .int .i64 (n : Int), .func (.func 103) #[] #[.pointer (some ⟨p, 0, none⟩)]] w fun e w' => e = .returned (.tuple #[]) ∧ SS N B g w0 w' := by
  have HS := Lib.hid hs
  have hne2 : ¬ b = a := fun h => hne h.symm
  clear hs
  go_enter Tryz.func276, Tryz.ntmps276
  go_wp2_with fail
  go_loopw [10] (fun u10 wr => ∃ i : Nat, i ≤ n ∧ u10 = .int .i64 i ∧ Hid (SS N B g w0 wr)) (fun u _ => n - (intOf u).toNat)
  case atStart => exact ⟨0, by omega, rfl, HS⟩
  case round =>
    clear HS
    obtain ⟨i, hi, rfl, HS⟩ := hrel
    by_cases hlt : i < n
    · have hlz : (i : Int) < (n : Int) := by omega
      have e1 : ((a : Int) + (i : Int)).toNat = a + i := by omega
      have p1 : (0 : Int) ≤ (a : Int) + (i : Int) := by omega
      have b1 : (a : Int) + (i : Int) < (N : Int) := by omega
      have e2 : ((b : Int) + (i : Int)).toNat = b + i := by omega
      have p2 : (0 : Int) ≤ (b : Int) + (i : Int) := by omega
      have b2 : (b : Int) + (i : Int) < (N : Int) := by omega
      have m1 : IntKind.i64.wrap ((a : Int) + (i : Int)) = (a : Int) + (i : Int) := IntWalk.i64_in _ (by omega)
      have m2 : IntKind.i64.wrap ((b : Int) + (i : Int)) = (b : Int) + (i : Int) := IntWalk.i64_in _ (by omega)
      have m3 : IntKind.i64.wrap ((i : Int) + 1) = (i : Int) + 1 := IntWalk.i64_in _ (by omega)
      obtain ⟨x, hx, r0, -⟩ := HS.out.cell (i := a + i) (by omega)
      obtain ⟨y, hy, r1, -⟩ := HS.out.cell (i := b + i) (by omega)
      have q0 := HS.out.frozen (a + i)
      have q1 := HS.out.frozen (b + i)
      have HSN := Lib.hid ((HS.out.swap (i := a + i) (j := b + i) (by omega) (by omega) r0 r1).drew)
      clear HS
      go_wp2_with fail
      have mixed : Tryz.prog.follows Departure.mixedOrders = true := by kernel_rfl
      go_big_region_o
      clear r0 r1 q0 q1
      go_wp2_with fail
      go_roundw
      case rel => exact ⟨i + 1, by omega, by go_num, HSN⟩
      case measure => simp [intOf]; omega
    · have hlz : ¬ (i : Int) < (n : Int) := by omega
      go_wp2_with fail
      go_end0
      exact ⟨rfl, HS.out⟩
set_option maxRecDepth 100000 in
set_option maxHeartbeats 4000000 in
theorem rotI_any (N B g c p a m b : Nat) (w0 w : World) (hs : SS N B g w0 w) (ha : a < m) (hm : m < b) (hb : b ≤ N) (hN : N ≤ 100000) :
    Calls Tryz.prog 241 #[.slice (some ⟨g, 0, none⟩) N c, .int .i64 (a : Int), .int .i64 (m : Int), .int .i64 (b : Int), .func (.func 103) #[] #[.pointer (some ⟨p, 0, none⟩)]] w fun e w' => e = .returned (.tuple #[]) ∧ SS N B g w0 w' := by
  have HS := Lib.hid hs
  have HSW := Lib.hid fun (x y n : Nat) W (h : SS N B g w0 W) (hne : ¬ x = y) (hx : x + n ≤ N) (hy : y + n ≤ N) => swrI_any N B g c p x y n w0 W h hne hx hy hN
  have e3 : IntKind.i64.wrap ((m : Int) - (a : Int)) = ((m - a : Nat) : Int) := by rw [IntWalk.i64_in _ (by omega)]; omega
  have e4 : IntKind.i64.wrap ((b : Int) - (m : Int)) = ((b - m : Nat) : Int) := by rw [IntWalk.i64_in _ (by omega)]; omega
  clear hs
  go_enter Tryz.func241, Tryz.ntmps241
  go_wp2_with fail
  go_loopw [10, 11] (fun u10 u11 wr => ∃ i j : Nat, u10 = .int .i64 i ∧ u11 = .int .i64 j ∧ 0 < i ∧ 0 < j ∧ a + i ≤ m ∧ m + j ≤ b ∧ Hid (SS N B g w0 wr)) (fun u v _ => (intOf u).toNat + (intOf v).toNat)
  case atStart => exact ⟨m - a, b - m, rfl, rfl, by omega, by omega, by omega, by omega, HS⟩
  case round =>
    clear HS
    obtain ⟨i, j, rfl, rfl, hi, hj, hai, hmj, HS⟩ := hrel
    rcases Nat.lt_trichotomy i j with hlt | rfl | hlt
    · have c1 : ((i : Int) != (j : Int)) = true := by rw [bne_iff_ne]; omega
      have c3 : ¬ (i : Int) = (j : Int) := by omega
      have c4 : ¬ i = j := by omega
      have c2 : ¬ (j : Int) < (i : Int) := by omega
      have m1 : IntKind.i64.wrap ((m : Int) - (i : Int)) = ((m - i : Nat) : Int) := by rw [IntWalk.i64_in _ (by omega)]; omega
      have m2 : IntKind.i64.wrap ((m : Int) + (j : Int)) = (m : Int) + (j : Int) := IntWalk.i64_in _ (by omega)
      have m3 : IntKind.i64.wrap ((m : Int) + (j : Int) - (i : Int)) = ((m + j - i : Nat) : Int) := by rw [IntWalk.i64_in _ (by omega)]; omega
      have m4 : IntKind.i64.wrap ((j : Int) - (i : Int)) = ((j - i : Nat) : Int) := by rw [IntWalk.i64_in _ (by omega)]; omega
      have HCC := Lib.hid (HSW.out (m - i) (m + j - i) i wr HS.out (by omega) (by omega) (by omega))
      clear HS
      go_wp2_with (go_at_call 276; (with_reducible refine HCC.out.mono ?_); rintro e w1 ⟨rfl, h⟩; have HS1 := Lib.hid h; clear h)
      go_roundw
      case rel => exact ⟨i, j - i, rfl, by go_num, by omega, by omega, by omega, by omega, HS1⟩
      case measure => simp [intOf]; omega
    · have c1 : ((i : Int) != (i : Int)) = false := by simp
      have m1 : IntKind.i64.wrap ((m : Int) - (i : Int)) = ((m - i : Nat) : Int) := by rw [IntWalk.i64_in _ (by omega)]; omega
      have HCC := Lib.hid (HSW.out (m - i) m i wr HS.out (by omega) (by omega) (by omega))
      clear HS
      go_wp2_with (go_at_call 276; (with_reducible refine HCC.out.mono ?_); rintro e w1 ⟨rfl, h⟩; have HS1 := Lib.hid h; clear h)
      go_end0
      exact ⟨rfl, HS1.out⟩
    · have c1 : ((i : Int) != (j : Int)) = true := by rw [bne_iff_ne]; omega
      have c3 : ¬ (i : Int) = (j : Int) := by omega
      have c4 : ¬ i = j := by omega
      have c2 : (j : Int) < (i : Int) := by omega
      have m1 : IntKind.i64.wrap ((m : Int) - (i : Int)) = ((m - i : Nat) : Int) := by rw [IntWalk.i64_in _ (by omega)]; omega
      have m4 : IntKind.i64.wrap ((i : Int) - (j : Int)) = ((i - j : Nat) : Int) := by rw [IntWalk.i64_in _ (by omega)]; omega
      have HCC := Lib.hid (HSW.out (m - i) m j wr HS.out (by omega) (by omega) (by omega))
      clear HS
      go_wp2_with (go_at_call 276; (with_reducible refine HCC.out.mono ?_); rintro e w1 ⟨rfl, h⟩; have HS1 := Lib.hid h; clear h)
      go_roundw
      case rel => exact ⟨i - j, j, by go_num, rfl, by omega, by omega, by omega, by omega, HS1⟩
      case measure => simp [intOf]; omega
end Go.Proofs.YtllhefjblipddaaGreatDoor
