/- flook: an array turned. -/
import Derived.Test.YtllhefjblipddaaGreatDoorGak
import Derived.Test.YtllhefjblipddaaGreatDoorFkP
import Derived.Test.YtllhefjblipddaaGreatDoorGah
import Derived.Test.YtllhefjblipddaaGreatDoorGaj
import Derived.Deep.Cut
import Derived.Deep.CutBlock
import Derived.Deep.DeepCutAuto
import Derived.StillTailTactics
import Derived.Defers
import Derived.Recover
set_option linter.unusedSimpArgs false
set_option linter.unusedVariables false
namespace Go.Proofs.YtllhefjblipddaaGreatDoor
open Go.RowKit

/-- The cells of one value of a slice. -/
theorem read_at {b o n c x : Nat} {us : List Vl} {W : World} (h : Reads 9 csV W (.slice (some ⟨b, o, none⟩) n c) us) (hx : x < n) : ∃ uk unum uden utext uon ucode urows ucols uA un uc, us[x]! = ⟨uk, unum, uden, utext, uon, ucode, urows, ucols, uA, un, uc⟩ ∧ ∀ W', Below W.heap.size W W' → W'.cell? ⟨b, o + x * 9, none⟩ = some (.int .i64 uk) ∧ W'.cell? ⟨b, o + x * 9 + 1, none⟩ = some (.string unum) ∧ W'.cell? ⟨b, o + x * 9 + 2, none⟩ = some (.string uden) ∧ W'.cell? ⟨b, o + x * 9 + 3, none⟩ = some (.string utext) ∧ W'.cell? ⟨b, o + x * 9 + 4, none⟩ = some (.bool uon) ∧ W'.cell? ⟨b, o + x * 9 + 5, none⟩ = some (.int .i64 ucode) ∧ W'.cell? ⟨b, o + x * 9 + 6, none⟩ = some (.int .i64 urows) ∧ W'.cell? ⟨b, o + x * 9 + 7, none⟩ = some (.int .i64 ucols) ∧ W'.cell? ⟨b, o + x * 9 + 8, none⟩ = some (.slice uA un uc) := by
  obtain ⟨hl, hb, hc⟩ := h.lt (by omega)
  obtain ⟨u, hu⟩ : ∃ u, us[x]! = u := ⟨_, rfl⟩
  obtain ⟨uk, unum, uden, utext, uon, ucode, urows, ucols, uA, un, uc⟩ := u
  refine ⟨uk, unum, uden, utext, uon, ucode, urows, ucols, uA, un, uc, hu, fun W' hW => ?_⟩
  have g : ∀ j, j < 9 → W'.cell? ⟨b, o + x * 9 + j, none⟩ = (Vl.cs ⟨uk, unum, uden, utext, uon, ucode, urows, ucols, uA, un, uc⟩).toList[j]? := fun j hj => by
    have h1 := hc x (by omega) j hj
    rw [Nat.add_assoc]
    refine (hW.cell (by exact hb)).trans (h1.trans ?_)
    rw [getElem!_pos us x (by omega)] at hu
    rw [hu]
    rfl
  exact ⟨g 0 (by decide), g 1 (by decide), g 2 (by decide), g 3 (by decide), g 4 (by decide), g 5 (by decide), g 6 (by decide), g 7 (by decide), g 8 (by decide)⟩
/-- One value in a new block reads as a slice. -/
theorem one_reads {W : World} {H : Nat} {cs : Array Value} (u : Vl) (hcs : cs.toList = csV u) (h : Blk W H 27 cs) : Reads 9 csV W (.slice (some ⟨H, 0, none⟩) 1 1) [u] := by
  refine ⟨some ⟨H, 0, none⟩, 1, rfl, by simp, (fun e => by cases e), fun _ => ⟨H, 0, rfl, h.lt, fun i hi j hj => ?_⟩⟩
  have hi : i < 1 := hi
  obtain rfl : i = 0 := by omega
  rw [Nat.zero_mul, Nat.zero_add, Nat.zero_add, h.cell, ← Array.getElem?_toList, hcs]
  rfl
set_option maxRecDepth 100000 in
set_option maxHeartbeats 8000000 in
theorem turned_a (R C n : Nat) (A : Option Addr) (cc : Nat) (us : List Vl) (W : World) (hn : n = R * C) (r1 : 1 ≤ R) (r2 : R ≤ 1000) (c1 : 1 ≤ C) (c2 : C ≤ 1000) (hT : n ≤ 100000) (hU : Reads 9 csV W (.slice A n cc) us) : Calls Tryz.prog 42 #[gV R C A n cc] W fun e w' => ∃ g c', e = .returned (gV C R (some ⟨g, 0, none⟩) n c') ∧ Reads 9 csV w' (.slice (some ⟨g, 0, none⟩) n c') (turnL R C us) ∧ W.heap.size ≤ g ∧ Below W.heap.size W w' := by
  have hp : 1 ≤ n := by rw [hn]; exact Nat.mul_pos r1 c1
  obtain ⟨b, o, rfl⟩ : ∃ b o, A = some ⟨b, o, none⟩ := by
    obtain ⟨A', c', e, -, -, h3⟩ := hU
    injection e with e1 e2 e3
    obtain ⟨b, o, e4, -⟩ := h3 (by omega)
    exact ⟨b, o, e1.trans e4⟩
  have HU := Lib.hid hU
  have HN := Lib.hid hn
  have HLN := Lib.hid (show (turnL R C us).length = n from by rw [turnL_len, hn, Nat.mul_comm])
  have HL0 := Lib.hid ((((Loc.start W).alloc' rfl 69 #[.int .i64 (R : Int), .int .i64 (C : Int), .slice (some ⟨b, o, none⟩) n cc]).alloc' (g := W.heap.size + 1) (by simp) 69 #[.int .i64 0, .int .i64 0, .slice none 0 0]).alloc' (g := W.heap.size + 1 + 1) (by simp) 69 #[.int .i64 (C : Int), .int .i64 (R : Int), .slice none 0 0])
  have HS0 := Lib.hid (show W.heap.size + 3 ≤ (((W.alloc (.cells #[.int .i64 (R : Int), .int .i64 (C : Int), .slice (some ⟨b, o, none⟩) n cc] 69)).alloc (.cells #[.int .i64 0, .int .i64 0, .slice none 0 0] 69)).alloc (.cells #[.int .i64 (C : Int), .int .i64 (R : Int), .slice none 0 0] 69)).heap.size from by simp)
  clear hU hn
  go_enter Tryz.func42, Tryz.ntmps42
  go_upto_region 2 with fail
  revert HL0 HS0
  generalize ((W.alloc (.cells #[.int .i64 (R : Int), .int .i64 (C : Int), .slice (some ⟨b, o, none⟩) n cc] 69)).alloc (.cells #[.int .i64 0, .int .i64 0, .slice none 0 0] 69)).alloc (.cells #[.int .i64 (C : Int), .int .i64 (R : Int), .slice none 0 0] 69) = W1
  intro HL0 HS0
  have HCL := Lib.hid (show ∀ w' v, Loc W [(W.heap.size + 1 + 1, 69, #[.int .i64 (C : Int), .int .i64 (R : Int), v]), (W.heap.size + 1, 69, #[.int .i64 0, .int .i64 0, .slice none 0 0]), (W.heap.size, 69, #[.int .i64 (R : Int), .int .i64 (C : Int), .slice (some ⟨b, o, none⟩) n cc])] w' → w'.cell? ⟨W.heap.size, 0, none⟩ = some (.int .i64 (R : Int)) ∧ w'.cell? ⟨W.heap.size, 1, none⟩ = some (.int .i64 (C : Int)) ∧ w'.cell? ⟨W.heap.size, 2, none⟩ = some (.slice (some ⟨b, o, none⟩) n cc) ∧ w'.cell? ⟨W.heap.size + 1 + 1, 2, none⟩ = some v from fun w' v h => by
    have h1 := h.blk (g := W.heap.size) (t := 69) (List.mem_cons_of_mem _ (List.mem_cons_of_mem _ (List.mem_cons_self ..)))
    have h2 := h.blk (g := W.heap.size + 1 + 1) (t := 69) (List.mem_cons_self ..)
    exact ⟨h1.cell 0, h1.cell 1, h1.cell 2, h2.cell 2⟩)
  obtain ⟨g0, g1, g2, v2⟩ := HCL.out _ _ HL0.out
  go_upto_block 0 with fail
  clear g0 g1 g2 v2
  go_cut [13] (fun u13 wz => ∃ v, Hid (Loc W [(W.heap.size + 1 + 1, 69, #[.int .i64 (C : Int), .int .i64 (R : Int), v]), (W.heap.size + 1, 69, #[.int .i64 0, .int .i64 0, .slice none 0 0]), (W.heap.size, 69, #[.int .i64 (R : Int), .int .i64 (C : Int), .slice (some ⟨b, o, none⟩) n cc])] wz) ∧ Hid (RowOf 27 9 csV wz (W.heap.size + 3) v (turnL R C us)))
  case first =>
    go_wp2_with fail
    go_loopw [13] (fun u13 wz => ∃ (k : Nat) (v : Value), k ≤ C ∧ u13 = .int .i64 (k : Int) ∧ Hid (Loc W [(W.heap.size + 1 + 1, 69, #[.int .i64 (C : Int), .int .i64 (R : Int), v]), (W.heap.size + 1, 69, #[.int .i64 0, .int .i64 0, .slice none 0 0]), (W.heap.size, 69, #[.int .i64 (R : Int), .int .i64 (C : Int), .slice (some ⟨b, o, none⟩) n cc])] wz) ∧ Hid (RowOf 27 9 csV wz (W.heap.size + 3) v ((turnL R C us).take (k * R))) ∧ Hid (W.heap.size + 3 ≤ wz.heap.size)) (fun u _ => C - (intOf u).toNat)
    case atStart => exact ⟨0, .slice none 0 0, by omega, rfl, HL0, Lib.hid (by rw [Nat.zero_mul]; exact RowOf.nil _ _), HS0⟩
    case round =>
      clear HL0 HS0
      obtain ⟨k, v, hk, rfl, HL, HO, HS⟩ := hrel
      by_cases hlt : k < C
      · have hlz : (k : Int) < (C : Int) := by omega
        obtain ⟨g0, g1, g2, v2⟩ := HCL.out _ _ HL.out
        have k1 : IntKind.i64.wrap ((k : Int) + 1) = (k : Int) + 1 := IntWalk.i64_in _ (by omega)
        go_upto_block 2 with fail
        clear g0 g1 g2 v2
        go_wp2_with fail
        go_loopw [18] (fun u18 wz => ∃ (i : Nat) (v : Value), i ≤ R ∧ u18 = .int .i64 (i : Int) ∧ Hid (Loc W [(W.heap.size + 1 + 1, 69, #[.int .i64 (C : Int), .int .i64 (R : Int), v]), (W.heap.size + 1, 69, #[.int .i64 0, .int .i64 0, .slice none 0 0]), (W.heap.size, 69, #[.int .i64 (R : Int), .int .i64 (C : Int), .slice (some ⟨b, o, none⟩) n cc])] wz) ∧ Hid (RowOf 27 9 csV wz (W.heap.size + 3) v ((turnL R C us).take (k * R + i))) ∧ Hid (W.heap.size + 3 ≤ wz.heap.size)) (fun u _ => R - (intOf u).toNat)
        case atStart => exact ⟨0, v, by omega, rfl, HL, HO, HS⟩
        case round =>
          clear HL HO HS
          obtain ⟨i, v, hi, rfl, HL, HO, HS⟩ := hrel
          by_cases hli : i < R
          · have hiz : (i : Int) < (R : Int) := by omega
            obtain ⟨g0, g1, g2, v2⟩ := HCL.out _ _ HL.out
            have i1 : IntKind.i64.wrap ((i : Int) + 1) = (i : Int) + 1 := IntWalk.i64_in _ (by omega)
            obtain ⟨x0, hx0⟩ : ∃ x0, x0 = i * C := ⟨_, rfl⟩
            have hxn : x0 + k < n := by
              rw [HN.out, hx0]
              have := Nat.mul_le_mul_right C (show i + 1 ≤ R from hli)
              rw [Nat.add_mul] at this
              omega
            have m1 : IntKind.i64.wrap ((i : Int) * (C : Int)) = (x0 : Int) := by
              have e : (i : Int) * (C : Int) = (x0 : Int) := by rw [hx0, Int.natCast_mul]
              rw [e]
              exact IntWalk.i64_in _ (by omega)
            have m2 : IntKind.i64.wrap ((x0 : Int) + (k : Int)) = ((x0 + k : Nat) : Int) := by
              rw [IntWalk.i64_in _ (by omega)]
              omega
            have hst := turnL_step R C us k i hlt hli
            rw [← hx0] at hst
            have HST := Lib.hid hst
            have hll : ((turnL R C us).take (k * R + i)).length = k * R + i := by
              rw [List.length_take, HLN.out, HN.out]
              have := Nat.mul_le_mul_right R (show k + 1 ≤ C from hlt)
              rw [Nat.add_mul, Nat.mul_comm C R] at this
              omega
            have hl1 : k * R + i ≤ n := by
              rw [HN.out]
              have := Nat.mul_le_mul_right R (show k + 1 ≤ C from hlt)
              rw [Nat.add_mul, Nat.mul_comm C R] at this
              omega
            have HLL := Lib.hid hll
            clear hst hll hx0
            obtain ⟨x, hx⟩ : ∃ x, x = x0 + k := ⟨_, rfl⟩
            rw [← hx] at hxn m2 HST
            obtain ⟨uk, unum, uden, utext, uon, ucode, urows, ucols, uA, un, uc, hus, hcs⟩ := read_at HU.out hxn
            rw [hus] at HST
            obtain ⟨e0, e1, e2, e3, e4, e5, e6, e7, e8⟩ := hcs wr HL.out.bel
            have x1 : 0 ≤ (x : Int) := by omega
            have x2 : (x : Int) < (n : Int) := by omega
            clear hcs hus hx
            have HLW := Lib.hid HLL.out
            obtain ⟨LL, hLL⟩ : ∃ LL, LL = (turnL R C us).take (k * R + i) := ⟨_, rfl⟩
            rw [← hLL] at HO HST HLW
            clear hLL HLL
            have HPT := Lib.hid (show ∀ w' v', RowOf 27 9 csV w' (W.heap.size + 3) v' (LL ++ [⟨uk, unum, uden, utext, uon, ucode, urows, ucols, uA, un, uc⟩]) → Below (W.heap.size + 3) wr.drew w' → (w'.cell? ⟨W.heap.size + 1 + 1, 2, none⟩ = some v ∧ w'.frozen? ⟨W.heap.size + 1 + 1, 2, none⟩ = false) ∧ Loc W [(W.heap.size + 1 + 1, 69, #[.int .i64 (C : Int), .int .i64 (R : Int), v']), (W.heap.size + 1, 69, #[.int .i64 0, .int .i64 0, .slice none 0 0]), (W.heap.size, 69, #[.int .i64 (R : Int), .int .i64 (C : Int), .slice (some ⟨b, o, none⟩) n cc])] (w'.setCell ⟨W.heap.size + 1 + 1, 2, none⟩ v') ∧ RowOf 27 9 csV (w'.setCell ⟨W.heap.size + 1 + 1, 2, none⟩ v') (W.heap.size + 3) v' (LL ++ [⟨uk, unum, uden, utext, uon, ucode, urows, ucols, uA, un, uc⟩]) ∧ W.heap.size + 3 ≤ (w'.setCell ⟨W.heap.size + 1 + 1, 2, none⟩ v').heap.size from fun w' v' ho hb => by
              have hb := (Below.refl (W.heap.size + 3) wr).drew.trans hb
              have hl2 := HL.out.stepB' hb (by omega) (fun x hx => by
                simp only [List.mem_cons, List.not_mem_nil, or_false] at hx
                rcases hx with rfl | rfl | rfl <;> dsimp only <;> omega)
              have hz := hl2.blk (g := W.heap.size + 1 + 1) (t := 69) (List.mem_cons_self ..)
              refine ⟨⟨hz.cell 2, hz.frozen 2⟩, hl2.set1 (i := 2) (fun x hx => ?_) v', RowOf.far ho (fun g hg e => ?_) v', ?_⟩
              · simp only [List.mem_cons, List.not_mem_nil, or_false] at hx
                rcases hx with rfl | rfl <;> dsimp only <;> omega
              · have h1 := (RowOf.lt ho g hg).1
                have e : g = W.heap.size + 1 + 1 := e
                omega
              · have h1 := hb.size
                have h2 := HS.out
                simp only [World.setCell, Array.size_modify]
                omega)
            have v2a := (HCL.out _ _ (HL.out.step (below_al wr (.cells #[.int .i64 uk, .string unum, .string uden, .string utext, .bool uon, .int .i64 ucode, .int .i64 urows, .int .i64 ucols, .slice uA un uc] 27)))).2.2.2
            go_upto_region 8 with fail
            go_region_law (refine step_row1 (w := wr.drew) 25 27 9 112 csV _ Tryz.underlying25 val_info rfl (by decide) csV_one rfl (.tmp 22) (.tmp 33) rfl (W.heap.size + 3) v LL rfl (RowOf.drew HO.out) ⟨uk, unum, uden, utext, uon, ucode, urows, ucols, uA, un, uc⟩ #[.int .i64 uk, .string unum, .string uden, .string utext, .bool uon, .int .i64 ucode, .int .i64 urows, .int .i64 ucols, .slice uA un uc] rfl wr.heap.size rfl rfl (by have := HLW.out; omega) (by have := HLW.out; unfold maxLen; omega) HS.out ?_; intro gx cx w3 ho hb; have HX := Lib.hid (HPT.out _ _ ho hb); have s8 := HX.out.1.1; have t8 := HX.out.1.2; clear ho hb)
            all_goals
              clear s8 t8
              go_wp2_with fail
              go_roundw
              case rel => exact ⟨i + 1, _, by omega, by go_num, Lib.hid HX.out.2.1, Lib.hid (by have := HX.out.2.2.1; rw [← HST.out] at this; exact this), Lib.hid HX.out.2.2.2⟩
              case measure => simp [intOf]; omega
          · obtain rfl : i = R := by omega
            go_wp2_with fail
            go_roundw
            case rel => exact ⟨k + 1, v, by omega, by go_num, HL, Lib.hid (by rw [Nat.add_mul, Nat.one_mul]; exact HO.out), HS⟩
            case measure => simp [intOf]; omega
      · obtain rfl : k = C := by omega
        go_wp2_with fail
        go_meet
        refine ⟨v, HL, ?_⟩
        have := HO.out
        rw [List.take_of_length_le (by rw [HLN.out, HN.out, Nat.mul_comm]; exact Nat.le_refl _)] at this
        exact this
  case rest =>
    obtain ⟨v, HL9, HO9⟩ := hcut
    obtain ⟨g, c', hv, hg, -⟩ := HO9.out.form (by rw [HLN.out]; omega)
    rw [HLN.out] at hv
    subst hv
    have hne : ∀ g', Value.ownBlock (.slice (some ⟨g, 0, none⟩) n c') = some g' → g' ≠ W.heap.size + 1 := fun g' e => by
      injection e with e
      have e : g = g' := e
      omega
    have HRD := Lib.hid (RowOf.reads (((HO9.out.far (p := ⟨W.heap.size + 1, 0, none⟩) hne (.int .i64 (C : Int))).far (p := ⟨W.heap.size + 1, 1, none⟩) hne (.int .i64 (R : Int))).far (p := ⟨W.heap.size + 1, 2, none⟩) hne (.slice (some ⟨g, 0, none⟩) n c')) csV_len)
    obtain ⟨g0, g1, g2, -⟩ := (HL9.out.blk (g := W.heap.size + 1 + 1) (t := 69) (List.mem_cons_self ..)).three
    have hb1 := HL9.out.blk (g := W.heap.size + 1) (t := 69) (List.mem_cons_of_mem _ (List.mem_cons_self ..))
    obtain ⟨z0, z1, z2, f0, f1, f2⟩ := hb1.three
    have HB1 := Lib.hid hb1
    clear hb1 hne
    go_upto_region 99 with fail
    clear g0 g1 g2 z0 z1 z2 f0 f1 f2
    obtain ⟨q0, q1, q2, -⟩ := (HB1.out.three_set (.int .i64 (C : Int)) (.int .i64 (R : Int)) (.slice (some ⟨g, 0, none⟩) n c')).1.three
    refine bodyPost_ret (v := gV C R (some ⟨g, 0, none⟩) n c') (by simp [results, Tryz.results42, go_sem, q0, q1, q2]) rfl ⟨g, c', rfl, HRD.out, by omega, below_three HL9.out.bel (by omega) _ _ _⟩
end Go.Proofs.YtllhefjblipddaaGreatDoor

namespace Go.Proofs.YtllhefjblipddaaGreatDoor
open Go.RowKit

/-- An array, as a value laid open. -/
abbrev arrU (R C : Nat) (A : Option Addr) (n cc : Nat) : Vl := ⟨5, ⟨#[]⟩, ⟨#[]⟩, ⟨#[]⟩, false, 0, (R : Int), (C : Int), A, n, cc⟩
/-- The value is an array of so many rows and columns, its items lie in memory. -/
structure AR (W : World) (u : Vl) (R C : Nat) (us : List Vl) : Prop where
  ex : ∃ A n cc, u = arrU R C A n cc ∧ n = R * C ∧ Reads 9 csV W (.slice A n cc) us
  r1 : 1 ≤ R
  r2 : R ≤ 1000
  c1 : 1 ≤ C
  c2 : C ≤ 100
  big : R * C ≤ 100000
theorem AR.below {W W' : World} {u : Vl} {R C : Nat} {us : List Vl} (h : AR W u R C us) (hb : Below W.heap.size W W') : AR W' u R C us := by
  obtain ⟨A, n, cc, h1, h2, h3⟩ := h.ex
  exact ⟨⟨A, n, cc, h1, h2, h3.below hb⟩, h.r1, h.r2, h.c1, h.c2, h.big⟩
theorem AR.len {W : World} {u : Vl} {R C : Nat} {us : List Vl} (h : AR W u R C us) : us.length = R * C := by
  obtain ⟨A, n, cc, h1, h2, h3⟩ := h.ex
  obtain ⟨A', c', e, -⟩ := h3
  injection e with e1 e2 e3
  omega
/-- A slice reads as it did where its block is as it was. -/
theorem reads_same {α : Type} {size : Nat} {f : α → List Value} {W W' : World} {g o n c : Nat} {l : List α} (h : Reads size f W (.slice (some ⟨g, o, none⟩) n c) l) (hs : W.heap.size ≤ W'.heap.size) (hb : W'.heap[g]? = W.heap[g]?) : Reads size f W' (.slice (some ⟨g, o, none⟩) n c) l := by
  obtain ⟨A, c', e, h1, h2, h3⟩ := h
  refine ⟨A, c', e, h1, h2, fun h0 => ?_⟩
  obtain ⟨b, o', e', hl, hc⟩ := h3 h0
  injection e with e1 e2 e3
  rw [e'] at e1
  injection e1 with e1
  injection e1 with e4 e5 e6
  subst e4 e5
  exact ⟨g, o, e', Nat.lt_of_lt_of_le hl hs, fun i hi j hj => (World.cell?_of_block hb).trans (hc i hi j hj)⟩
theorem chg_nine (w : World) (t : Nat) (y0 y1 y2 y3 y4 y5 y6 y7 y8 : Value) : Chg w.heap.size [t] w (((((((((w.setCell ⟨t, 0, none⟩ y0).setCell ⟨t, 1, none⟩ y1).setCell ⟨t, 2, none⟩ y2).setCell ⟨t, 3, none⟩ y3).setCell ⟨t, 4, none⟩ y4).setCell ⟨t, 5, none⟩ y5).setCell ⟨t, 6, none⟩ y6).setCell ⟨t, 7, none⟩ y7).setCell ⟨t, 8, none⟩ y8) := ((((((((((Chg.refl w.heap.size [t] w).set (p := ⟨t, 0, none⟩) (.inl (List.mem_singleton.2 rfl)) y0).set (p := ⟨t, 1, none⟩) (.inl (List.mem_singleton.2 rfl)) y1).set (p := ⟨t, 2, none⟩) (.inl (List.mem_singleton.2 rfl)) y2).set (p := ⟨t, 3, none⟩) (.inl (List.mem_singleton.2 rfl)) y3).set (p := ⟨t, 4, none⟩) (.inl (List.mem_singleton.2 rfl)) y4).set (p := ⟨t, 5, none⟩) (.inl (List.mem_singleton.2 rfl)) y5).set (p := ⟨t, 6, none⟩) (.inl (List.mem_singleton.2 rfl)) y6).set (p := ⟨t, 7, none⟩) (.inl (List.mem_singleton.2 rfl)) y7).set (p := ⟨t, 8, none⟩) (.inl (List.mem_singleton.2 rfl)) y8)
/-- A block that is old, or newer than the call. -/
def Fresh (B0 B1 : Nat) (A : Option Addr) : Prop := ∀ b o, A = some ⟨b, o, none⟩ → b < B0 ∨ B1 ≤ b
/-- What a function answers: an array. -/
def ResF (B0 W : World) (G : List Nat) (R C : Nat) (us : List Vl) (e : Ending) (w' : World) : Prop := ∃ u', e = .returned u'.v ∧ AR w' u' R C us ∧ Fresh B0.heap.size W.heap.size u'.A ∧ Chg W.heap.size G W w'
theorem AR.same {W W' : World} {u : Vl} {R C : Nat} {us : List Vl} (h : AR W u R C us) (hs : W.heap.size ≤ W'.heap.size) (hb : ∀ b o, u.A = some ⟨b, o, none⟩ → b < W.heap.size → W'.heap[b]? = W.heap[b]?) : AR W' u R C us := by
  obtain ⟨A, n, cc, rfl, h2, h3⟩ := h.ex
  have hp : 0 < n := by rw [h2]; exact Nat.mul_pos h.r1 h.c1
  obtain ⟨b, o, rfl⟩ : ∃ b o, A = some ⟨b, o, none⟩ := by
    obtain ⟨A', c', e, -, -, h3⟩ := h3
    injection e with e1 e2 e3
    obtain ⟨b, o, e4, -⟩ := h3 (by omega)
    exact ⟨b, o, e1.trans e4⟩
  exact ⟨⟨_, n, cc, rfl, h2, reads_same h3 hs (hb b o rfl (h3.lt hp).2.1)⟩, h.r1, h.r2, h.c1, h.c2, h.big⟩
/-- The next argument; the world below. -/
theorem value_b (W0 W : World) (q : Nat) (A : Option Addr) (n c k : Nat) (avs : List Vl) (h0 : Below W0.heap.size W0 W) (hq0 : W0.heap.size ≤ q) (hq : Blk W q 90 #[.slice A n c, .int .i64 (k : Int)]) (hA : Reads 9 csV W0 (.slice A n c) avs) (hk : k < n) (hn : n ≤ 1000) : Calls Tryz.prog 39 #[.pointer (some ⟨q, 0, none⟩)] W fun e w' => e = .returned (avs[k]!.v) ∧ Blk w' q 90 #[.slice A n c, .int .i64 ((k : Int) + 1)] ∧ Below W0.heap.size W0 w' ∧ Chg W.heap.size [q] W w' := by
  have hne : ∀ b o, A = some ⟨b, o, none⟩ → b ≠ q := fun b o e => by
    subst e
    have := (hA.lt (by omega)).2.1
    omega
  exact (value_at q A n c k avs W hq (hA.below h0) hk hn hne).mono fun e w' ⟨h1, h2, h3⟩ => ⟨h1, h2, h0.trans (h3.below h0.size fun x hx => by rw [List.mem_singleton.1 hx]; exact hq0), h3⟩

set_option maxRecDepth 100000 in
set_option maxHeartbeats 8000000 in
/-- TRANSPOSE. -/
theorem fT_any (B0 W0 W : World) (q : Nat) (A : Option Addr) (c : Nat) (u : Vl) (R C : Nat) (us : List Vl) (h0 : Below W0.heap.size W0 W) (hq0 : W0.heap.size ≤ q) (hq : Blk W q 90 #[.slice A 1 c, .int .i64 0]) (hA : Reads 9 csV W0 (.slice A 1 c) [u]) (hu : AR W0 u R C us) (hR : R ≤ 100) :
    Calls Tryz.prog 41 #[.pointer (some ⟨q, 0, none⟩)] W (ResF B0 W [q] C R (turnL R C us)) := by
  obtain ⟨A2, n, cc2, rfl, hn, hr⟩ := hu.ex
  have hbig := hu.big
  obtain ⟨r1, r2, c1, c2⟩ := And.intro hu.r1 (And.intro hu.r2 (And.intro hu.c1 hu.c2))
  have HV := Lib.hid (value_b W0 (W.alloc (.cells #[.int .i64 0, .string ⟨#[]⟩, .string ⟨#[]⟩, .string ⟨#[]⟩, .bool false, .int .i64 0, .int .i64 0, .int .i64 0, .slice none 0 0] 27)) q A 1 c 0 _ (h0.trans ((below_al W _).mono h0.size)) hq0 (hq.alloc _) hA (by decide) (by decide))
  have HV := Lib.hid (show Calls Tryz.prog 39 #[.pointer (some ⟨q, 0, none⟩)] (W.alloc (.cells #[.int .i64 0, .string ⟨#[]⟩, .string ⟨#[]⟩, .string ⟨#[]⟩, .bool false, .int .i64 0, .int .i64 0, .int .i64 0, .slice none 0 0] 27)) fun e w' => e = .returned (aV (R : Int) (C : Int) A2 n cc2) ∧ Blk w' q 90 #[.slice A 1 c, .int .i64 ((0 : Nat) + 1 : Int)] ∧ Below W0.heap.size W0 w' ∧ Chg (W.alloc (.cells #[.int .i64 0, .string ⟨#[]⟩, .string ⟨#[]⟩, .string ⟨#[]⟩, .bool false, .int .i64 0, .int .i64 0, .int .i64 0, .slice none 0 0] 27)).heap.size [q] (W.alloc (.cells #[.int .i64 0, .string ⟨#[]⟩, .string ⟨#[]⟩, .string ⟨#[]⟩, .bool false, .int .i64 0, .int .i64 0, .int .i64 0, .slice none 0 0] 27)) w' from HV.out)
  have HTN := Lib.hid fun W' (hW : Below W0.heap.size W0 W') => turned_a R C n A2 cc2 us W' hn r1 r2 c1 (by omega) (by omega) (hr.below hW)
  have HGV := Lib.hid fun A' c' W' => gval_a (C : Int) (R : Int) A' n c' W' (by omega) (by omega) (by omega) (by omega)
  obtain ⟨t, ht⟩ : ∃ t, t = W.heap.size := ⟨_, rfl⟩
  have HRz := Lib.hid (Blk.new W 27 #[.int .i64 0, .string ⟨#[]⟩, .string ⟨#[]⟩, .string ⟨#[]⟩, .bool false, .int .i64 0, .int .i64 0, .int .i64 0, .slice none 0 0])
  rw [← ht] at HRz
  have htq : t ∉ [q] := fun h => by
    have := hq.lt
    rw [List.mem_singleton] at h
    omega
  have HTQ := Lib.hid htq
  have HTS := Lib.hid (show t < (W.alloc (.cells #[.int .i64 0, .string ⟨#[]⟩, .string ⟨#[]⟩, .string ⟨#[]⟩, .bool false, .int .i64 0, .int .i64 0, .int .i64 0, .slice none 0 0] 27)).heap.size from by rw [ht]; simp)
  have HH := Lib.hid ht
  have HSZ := Lib.hid h0.size
  have HNN := Lib.hid hn
  clear htq hr h0 hq hA hu hn
  go_enter Tryz.func41, Tryz.ntmps41
  go_upto_region 1 with fail
  rw [← ht]
  clear ht
  go_upto_region 99 with (first
    | (go_at_call 39; (with_reducible refine HV.out.mono ?_); rintro e w1 ⟨rfl, -, hb, hc⟩; have HB1 := Lib.hid hb; have HC1 := Lib.hid ((Chg.of (below_al W _) [q]).next hc); have HRa := Lib.hid (hc.blk HRz.out HTS.out HTQ.out); clear hb hc HRz)
    | (go_at_call 38; (with_reducible refine (grid_a _ _ _ _ _ _).mono ?_); rintro e w2 ⟨rfl, hb⟩; have HB2 := Lib.hid (HB1.out.trans (hb.mono HB1.out.size)); have HC2 := Lib.hid (HC1.out.next (Chg.of hb [q])); have HRb := Lib.hid (HRa.out.later hb); clear hb HB1 HRa HC1)
    | (go_at_call 42; (with_reducible refine (HTN.out _ HB2.out).mono ?_); rintro e w3 ⟨g, c', rfl, hr, hg, hb⟩; have HRD := Lib.hid hr; have hgt : t ≠ g := (by have := HRb.out.lt; omega); have HGT := Lib.hid hgt; have HGE := Lib.hid (show W.heap.size ≤ g from by have := HRb.out.lt; have := HH.out; omega); have HB3 := Lib.hid (HB2.out.trans (hb.mono HB2.out.size)); have HC3 := Lib.hid (HC2.out.next (Chg.of hb [q])); have HRc := Lib.hid (HRb.out.later hb); clear hb hr hg hgt HB2 HRb HC2)
    | (go_at_call 43; (with_reducible refine (HGV.out _ _ _).mono ?_); rintro e w4 ⟨rfl, hb⟩; have HRD4 := Lib.hid (HRD.out.below hb); have HB4 := Lib.hid (HB3.out.trans (hb.mono HB3.out.size)); have HC4 := Lib.hid (HC3.out.next (Chg.of hb [q])); have HRd := Lib.hid (HRc.out.later hb); clear hb HB3 HRc HRD HC3; obtain ⟨f0, f1, f2, f3, f4, f5, f6, f7, f8⟩ := HRd.out.ninef; obtain ⟨z0, z1, z2, z3, z4, z5, z6, z7, z8⟩ := HRd.out.nine))
  clear f0 f1 f2 f3 f4 f5 f6 f7 f8 z0 z1 z2 z3 z4 z5 z6 z7 z8
  obtain ⟨q0, q1, q2, q3, q4, q5, q6, q7, q8⟩ := (HRd.out.nine_set (.int .i64 5) (.string ⟨#[]⟩) (.string ⟨#[]⟩) (.string ⟨#[]⟩) (.bool false) (.int .i64 0) (.int .i64 (C : Int)) (.int .i64 (R : Int)) (.slice (some ⟨g, 0, none⟩) n c')).1.nine
  have hcn := chg_nine w4 t (.int .i64 5) (.string ⟨#[]⟩) (.string ⟨#[]⟩) (.string ⟨#[]⟩) (.bool false) (.int .i64 0) (.int .i64 (C : Int)) (.int .i64 (R : Int)) (.slice (some ⟨g, 0, none⟩) n c')
  have hgw : g < w4.heap.size := (HRD4.out.lt (by rw [HNN.out]; exact Nat.mul_pos r1 c1)).2.1
  refine bodyPost_ret (v := aV (C : Int) (R : Int) (some ⟨g, 0, none⟩) n c') (by simp [results, Tryz.results41, go_sem, q0, q1, q2, q3, q4, q5, q6, q7, q8]) rfl ⟨arrU C R (some ⟨g, 0, none⟩) n c', rfl, ⟨⟨_, n, c', rfl, by rw [HNN.out, Nat.mul_comm], reads_same HRD4.out hcn.size (hcn.block g hgw (by rw [List.mem_singleton]; exact fun e => HGT.out e.symm))⟩, c1, by omega, r1, hR, by rw [Nat.mul_comm]; exact hbig⟩, fun b o e => .inr (by injection e with e; injection e with e; have := HGE.out; omega), HC4.out.trans (hcn.mono HC4.out.size fun x hx => .inr (by
    rw [List.mem_singleton.1 hx, HH.out]
    exact Nat.le_refl _))⟩
end Go.Proofs.YtllhefjblipddaaGreatDoor

namespace Go.Proofs.YtllhefjblipddaaGreatDoor
open Go.RowKit

set_option maxRecDepth 100000 in
set_option maxHeartbeats 4000000 in
/-- TRANSPOSE. -/
theorem ent_T (B0 W1 W : World) (p : Nat) (A : Option Addr) (c n R C : Nat) (us : List Vl) (hp : Blk W p 65 #[.func (.func 41) #[] #[]]) (hB : B0.heap.size ≤ W1.heap.size) (h1 : Below W1.heap.size W1 W)
    (HF : ∀ W' q, Below W1.heap.size W1 W' → W1.heap.size ≤ q → Blk W' q 90 #[.slice A n c, .int .i64 0] → Calls Tryz.prog 41 #[.pointer (some ⟨q, 0, none⟩)] W' (ResF B0 W' [q] R C us)) :
    Calls Tryz.prog 75 #[.slice A n c, .pointer (some ⟨p, 0, none⟩)] W (ResF B0 W [] R C us) := by
  have HL0 := Lib.hid (((Loc.start W).alloc' rfl 27 #[.int .i64 0, .string ⟨#[]⟩, .string ⟨#[]⟩, .string ⟨#[]⟩, .bool false, .int .i64 0, .int .i64 0, .int .i64 0, .slice none 0 0]).alloc' (g := W.heap.size + 1) (by simp) 90 #[.slice A n c, .int .i64 0])
  have p0 := ((hp.alloc (.cells #[.int .i64 0, .string ⟨#[]⟩, .string ⟨#[]⟩, .string ⟨#[]⟩, .bool false, .int .i64 0, .int .i64 0, .int .i64 0, .slice none 0 0] 27))).cell 0
  simp only [List.getElem?_toArray, List.getElem?_cons_succ, List.getElem?_cons_zero] at p0
  have hW1 := h1.size
  have HF0 := Lib.hid (HF _ (W.heap.size + 1) (h1.trans (HL0.out.bel.mono hW1)) (by omega) (HL0.out.blk (g := W.heap.size + 1) (t := 90) (List.mem_cons_self ..)))
  have HS := Lib.hid hW1
  have HB := Lib.hid hB
  have H1 := Lib.hid h1
  clear hp HF h1 hB hW1
  go_enter Tryz.func75, Tryz.ntmps75
  go_upto_region 99 with (go_at_call 41; (with_reducible refine HF0.out.mono ?_); rintro e w2 ⟨u', he, hr, hf, hb⟩; have HRS := Lib.hid hr; obtain ⟨A2, n2, c2, rfl, hn2, -⟩ := hr.ex; have he : e = .returned (aV (R : Int) (C : Int) A2 n2 c2) := he; subst he; have HFR := Lib.hid hf; have HB2 := Lib.hid hb; have HBW := Lib.hid (hb.blk (HL0.out.blk (g := W.heap.size) (t := 27) (List.mem_cons_of_mem _ (List.mem_cons_self ..))) (by simp; omega) (by simp)); clear hn2 hr hf hb p0; obtain ⟨f0, f1, f2, f3, f4, f5, f6, f7, f8⟩ := HBW.out.ninef; obtain ⟨z0, z1, z2, z3, z4, z5, z6, z7, z8⟩ := HBW.out.nine)
  clear f0 f1 f2 f3 f4 f5 f6 f7 f8 z0 z1 z2 z3 z4 z5 z6 z7 z8
  obtain ⟨q0, q1, q2, q3, q4, q5, q6, q7, q8⟩ := (HBW.out.nine_set (.int .i64 5) (.string ⟨#[]⟩) (.string ⟨#[]⟩) (.string ⟨#[]⟩) (.bool false) (.int .i64 0) (.int .i64 (R : Int)) (.int .i64 (C : Int)) (.slice A2 n2 c2)).1.nine
  have hcn := chg_nine w2 W.heap.size (.int .i64 5) (.string ⟨#[]⟩) (.string ⟨#[]⟩) (.string ⟨#[]⟩) (.bool false) (.int .i64 0) (.int .i64 (R : Int)) (.int .i64 (C : Int)) (.slice A2 n2 c2)
  have hsz := HB2.out.size
  have hsz2 : (((W.alloc (.cells #[.int .i64 0, .string ⟨#[]⟩, .string ⟨#[]⟩, .string ⟨#[]⟩, .bool false, .int .i64 0, .int .i64 0, .int .i64 0, .slice none 0 0] 27)).alloc (.cells #[.slice A n c, .int .i64 0] 90))).heap.size = W.heap.size + 2 := by simp
  rw [hsz2] at hsz
  have hfr := HFR.out
  unfold Fresh at hfr
  rw [hsz2] at hfr
  have hS := HS.out
  have hB := HB.out
  have h12 : Chg W.heap.size [] W w2 := (Chg.of HL0.out.bel []).trans (HB2.out.mono (by rw [hsz2]; omega) fun x hx => .inr (by rw [List.mem_singleton.1 hx]; omega))
  refine bodyPost_ret (v := aV (R : Int) (C : Int) A2 n2 c2) (by simp [results, Tryz.results75, go_sem, q0, q1, q2, q3, q4, q5, q6, q7, q8]) rfl ⟨arrU R C A2 n2 c2, rfl, HRS.out.same hcn.size (fun b o e hb => hcn.block b hb (by
    have := hfr b o e
    rw [List.mem_singleton]
    omega)), fun b o e => by have := hfr b o e; omega, h12.trans (hcn.mono (by omega) fun x hx => .inr (by rw [List.mem_singleton.1 hx]; exact Nat.le_refl _))⟩

set_option maxRecDepth 100000 in
set_option maxHeartbeats 4000000 in
/-- TAKE. -/
theorem ent_Ta (B0 W1 W : World) (p : Nat) (A : Option Addr) (c n R C : Nat) (us : List Vl) (hp : Blk W p 65 #[.func (.func 44) #[] #[]]) (hB : B0.heap.size ≤ W1.heap.size) (h1 : Below W1.heap.size W1 W)
    (HF : ∀ W' q, Below W1.heap.size W1 W' → W1.heap.size ≤ q → Blk W' q 90 #[.slice A n c, .int .i64 0] → Calls Tryz.prog 44 #[.pointer (some ⟨q, 0, none⟩)] W' (ResF B0 W' [q] R C us)) :
    Calls Tryz.prog 75 #[.slice A n c, .pointer (some ⟨p, 0, none⟩)] W (ResF B0 W [] R C us) := by
  have HL0 := Lib.hid (((Loc.start W).alloc' rfl 27 #[.int .i64 0, .string ⟨#[]⟩, .string ⟨#[]⟩, .string ⟨#[]⟩, .bool false, .int .i64 0, .int .i64 0, .int .i64 0, .slice none 0 0]).alloc' (g := W.heap.size + 1) (by simp) 90 #[.slice A n c, .int .i64 0])
  have p0 := ((hp.alloc (.cells #[.int .i64 0, .string ⟨#[]⟩, .string ⟨#[]⟩, .string ⟨#[]⟩, .bool false, .int .i64 0, .int .i64 0, .int .i64 0, .slice none 0 0] 27))).cell 0
  simp only [List.getElem?_toArray, List.getElem?_cons_succ, List.getElem?_cons_zero] at p0
  have hW1 := h1.size
  have HF0 := Lib.hid (HF _ (W.heap.size + 1) (h1.trans (HL0.out.bel.mono hW1)) (by omega) (HL0.out.blk (g := W.heap.size + 1) (t := 90) (List.mem_cons_self ..)))
  have HS := Lib.hid hW1
  have HB := Lib.hid hB
  have H1 := Lib.hid h1
  clear hp HF h1 hB hW1
  go_enter Tryz.func75, Tryz.ntmps75
  go_upto_region 99 with (go_at_call 44; (with_reducible refine HF0.out.mono ?_); rintro e w2 ⟨u', he, hr, hf, hb⟩; have HRS := Lib.hid hr; obtain ⟨A2, n2, c2, rfl, hn2, -⟩ := hr.ex; have he : e = .returned (aV (R : Int) (C : Int) A2 n2 c2) := he; subst he; have HFR := Lib.hid hf; have HB2 := Lib.hid hb; have HBW := Lib.hid (hb.blk (HL0.out.blk (g := W.heap.size) (t := 27) (List.mem_cons_of_mem _ (List.mem_cons_self ..))) (by simp; omega) (by simp)); clear hn2 hr hf hb p0; obtain ⟨f0, f1, f2, f3, f4, f5, f6, f7, f8⟩ := HBW.out.ninef; obtain ⟨z0, z1, z2, z3, z4, z5, z6, z7, z8⟩ := HBW.out.nine)
  clear f0 f1 f2 f3 f4 f5 f6 f7 f8 z0 z1 z2 z3 z4 z5 z6 z7 z8
  obtain ⟨q0, q1, q2, q3, q4, q5, q6, q7, q8⟩ := (HBW.out.nine_set (.int .i64 5) (.string ⟨#[]⟩) (.string ⟨#[]⟩) (.string ⟨#[]⟩) (.bool false) (.int .i64 0) (.int .i64 (R : Int)) (.int .i64 (C : Int)) (.slice A2 n2 c2)).1.nine
  have hcn := chg_nine w2 W.heap.size (.int .i64 5) (.string ⟨#[]⟩) (.string ⟨#[]⟩) (.string ⟨#[]⟩) (.bool false) (.int .i64 0) (.int .i64 (R : Int)) (.int .i64 (C : Int)) (.slice A2 n2 c2)
  have hsz := HB2.out.size
  have hsz2 : (((W.alloc (.cells #[.int .i64 0, .string ⟨#[]⟩, .string ⟨#[]⟩, .string ⟨#[]⟩, .bool false, .int .i64 0, .int .i64 0, .int .i64 0, .slice none 0 0] 27)).alloc (.cells #[.slice A n c, .int .i64 0] 90))).heap.size = W.heap.size + 2 := by simp
  rw [hsz2] at hsz
  have hfr := HFR.out
  unfold Fresh at hfr
  rw [hsz2] at hfr
  have hS := HS.out
  have hB := HB.out
  have h12 : Chg W.heap.size [] W w2 := (Chg.of HL0.out.bel []).trans (HB2.out.mono (by rw [hsz2]; omega) fun x hx => .inr (by rw [List.mem_singleton.1 hx]; omega))
  refine bodyPost_ret (v := aV (R : Int) (C : Int) A2 n2 c2) (by simp [results, Tryz.results75, go_sem, q0, q1, q2, q3, q4, q5, q6, q7, q8]) rfl ⟨arrU R C A2 n2 c2, rfl, HRS.out.same hcn.size (fun b o e hb => hcn.block b hb (by
    have := hfr b o e
    rw [List.mem_singleton]
    omega)), fun b o e => by have := hfr b o e; omega, h12.trans (hcn.mono (by omega) fun x hx => .inr (by rw [List.mem_singleton.1 hx]; exact Nat.le_refl _))⟩

set_option maxRecDepth 100000 in
set_option maxHeartbeats 4000000 in
/-- DROP. -/
theorem ent_Dr (B0 W1 W : World) (p : Nat) (A : Option Addr) (c n R C : Nat) (us : List Vl) (hp : Blk W p 65 #[.func (.func 46) #[] #[]]) (hB : B0.heap.size ≤ W1.heap.size) (h1 : Below W1.heap.size W1 W)
    (HF : ∀ W' q, Below W1.heap.size W1 W' → W1.heap.size ≤ q → Blk W' q 90 #[.slice A n c, .int .i64 0] → Calls Tryz.prog 46 #[.pointer (some ⟨q, 0, none⟩)] W' (ResF B0 W' [q] R C us)) :
    Calls Tryz.prog 75 #[.slice A n c, .pointer (some ⟨p, 0, none⟩)] W (ResF B0 W [] R C us) := by
  have HL0 := Lib.hid (((Loc.start W).alloc' rfl 27 #[.int .i64 0, .string ⟨#[]⟩, .string ⟨#[]⟩, .string ⟨#[]⟩, .bool false, .int .i64 0, .int .i64 0, .int .i64 0, .slice none 0 0]).alloc' (g := W.heap.size + 1) (by simp) 90 #[.slice A n c, .int .i64 0])
  have p0 := ((hp.alloc (.cells #[.int .i64 0, .string ⟨#[]⟩, .string ⟨#[]⟩, .string ⟨#[]⟩, .bool false, .int .i64 0, .int .i64 0, .int .i64 0, .slice none 0 0] 27))).cell 0
  simp only [List.getElem?_toArray, List.getElem?_cons_succ, List.getElem?_cons_zero] at p0
  have hW1 := h1.size
  have HF0 := Lib.hid (HF _ (W.heap.size + 1) (h1.trans (HL0.out.bel.mono hW1)) (by omega) (HL0.out.blk (g := W.heap.size + 1) (t := 90) (List.mem_cons_self ..)))
  have HS := Lib.hid hW1
  have HB := Lib.hid hB
  have H1 := Lib.hid h1
  clear hp HF h1 hB hW1
  go_enter Tryz.func75, Tryz.ntmps75
  go_upto_region 99 with (go_at_call 46; (with_reducible refine HF0.out.mono ?_); rintro e w2 ⟨u', he, hr, hf, hb⟩; have HRS := Lib.hid hr; obtain ⟨A2, n2, c2, rfl, hn2, -⟩ := hr.ex; have he : e = .returned (aV (R : Int) (C : Int) A2 n2 c2) := he; subst he; have HFR := Lib.hid hf; have HB2 := Lib.hid hb; have HBW := Lib.hid (hb.blk (HL0.out.blk (g := W.heap.size) (t := 27) (List.mem_cons_of_mem _ (List.mem_cons_self ..))) (by simp; omega) (by simp)); clear hn2 hr hf hb p0; obtain ⟨f0, f1, f2, f3, f4, f5, f6, f7, f8⟩ := HBW.out.ninef; obtain ⟨z0, z1, z2, z3, z4, z5, z6, z7, z8⟩ := HBW.out.nine)
  clear f0 f1 f2 f3 f4 f5 f6 f7 f8 z0 z1 z2 z3 z4 z5 z6 z7 z8
  obtain ⟨q0, q1, q2, q3, q4, q5, q6, q7, q8⟩ := (HBW.out.nine_set (.int .i64 5) (.string ⟨#[]⟩) (.string ⟨#[]⟩) (.string ⟨#[]⟩) (.bool false) (.int .i64 0) (.int .i64 (R : Int)) (.int .i64 (C : Int)) (.slice A2 n2 c2)).1.nine
  have hcn := chg_nine w2 W.heap.size (.int .i64 5) (.string ⟨#[]⟩) (.string ⟨#[]⟩) (.string ⟨#[]⟩) (.bool false) (.int .i64 0) (.int .i64 (R : Int)) (.int .i64 (C : Int)) (.slice A2 n2 c2)
  have hsz := HB2.out.size
  have hsz2 : (((W.alloc (.cells #[.int .i64 0, .string ⟨#[]⟩, .string ⟨#[]⟩, .string ⟨#[]⟩, .bool false, .int .i64 0, .int .i64 0, .int .i64 0, .slice none 0 0] 27)).alloc (.cells #[.slice A n c, .int .i64 0] 90))).heap.size = W.heap.size + 2 := by simp
  rw [hsz2] at hsz
  have hfr := HFR.out
  unfold Fresh at hfr
  rw [hsz2] at hfr
  have hS := HS.out
  have hB := HB.out
  have h12 : Chg W.heap.size [] W w2 := (Chg.of HL0.out.bel []).trans (HB2.out.mono (by rw [hsz2]; omega) fun x hx => .inr (by rw [List.mem_singleton.1 hx]; omega))
  refine bodyPost_ret (v := aV (R : Int) (C : Int) A2 n2 c2) (by simp [results, Tryz.results75, go_sem, q0, q1, q2, q3, q4, q5, q6, q7, q8]) rfl ⟨arrU R C A2 n2 c2, rfl, HRS.out.same hcn.size (fun b o e hb => hcn.block b hb (by
    have := hfr b o e
    rw [List.mem_singleton]
    omega)), fun b o e => by have := hfr b o e; omega, h12.trans (hcn.mono (by omega) fun x hx => .inr (by rw [List.mem_singleton.1 hx]; exact Nat.le_refl _))⟩

set_option maxRecDepth 100000 in
set_option maxHeartbeats 4000000 in
/-- HSTACK. -/
theorem ent_Hs (B0 W1 W : World) (p : Nat) (A : Option Addr) (c n R C : Nat) (us : List Vl) (hp : Blk W p 65 #[.func (.func 50) #[] #[]]) (hB : B0.heap.size ≤ W1.heap.size) (h1 : Below W1.heap.size W1 W)
    (HF : ∀ W' q, Below W1.heap.size W1 W' → W1.heap.size ≤ q → Blk W' q 90 #[.slice A n c, .int .i64 0] → Calls Tryz.prog 50 #[.pointer (some ⟨q, 0, none⟩)] W' (ResF B0 W' [q] R C us)) :
    Calls Tryz.prog 75 #[.slice A n c, .pointer (some ⟨p, 0, none⟩)] W (ResF B0 W [] R C us) := by
  have HL0 := Lib.hid (((Loc.start W).alloc' rfl 27 #[.int .i64 0, .string ⟨#[]⟩, .string ⟨#[]⟩, .string ⟨#[]⟩, .bool false, .int .i64 0, .int .i64 0, .int .i64 0, .slice none 0 0]).alloc' (g := W.heap.size + 1) (by simp) 90 #[.slice A n c, .int .i64 0])
  have p0 := ((hp.alloc (.cells #[.int .i64 0, .string ⟨#[]⟩, .string ⟨#[]⟩, .string ⟨#[]⟩, .bool false, .int .i64 0, .int .i64 0, .int .i64 0, .slice none 0 0] 27))).cell 0
  simp only [List.getElem?_toArray, List.getElem?_cons_succ, List.getElem?_cons_zero] at p0
  have hW1 := h1.size
  have HF0 := Lib.hid (HF _ (W.heap.size + 1) (h1.trans (HL0.out.bel.mono hW1)) (by omega) (HL0.out.blk (g := W.heap.size + 1) (t := 90) (List.mem_cons_self ..)))
  have HS := Lib.hid hW1
  have HB := Lib.hid hB
  have H1 := Lib.hid h1
  clear hp HF h1 hB hW1
  go_enter Tryz.func75, Tryz.ntmps75
  go_upto_region 99 with (go_at_call 50; (with_reducible refine HF0.out.mono ?_); rintro e w2 ⟨u', he, hr, hf, hb⟩; have HRS := Lib.hid hr; obtain ⟨A2, n2, c2, rfl, hn2, -⟩ := hr.ex; have he : e = .returned (aV (R : Int) (C : Int) A2 n2 c2) := he; subst he; have HFR := Lib.hid hf; have HB2 := Lib.hid hb; have HBW := Lib.hid (hb.blk (HL0.out.blk (g := W.heap.size) (t := 27) (List.mem_cons_of_mem _ (List.mem_cons_self ..))) (by simp; omega) (by simp)); clear hn2 hr hf hb p0; obtain ⟨f0, f1, f2, f3, f4, f5, f6, f7, f8⟩ := HBW.out.ninef; obtain ⟨z0, z1, z2, z3, z4, z5, z6, z7, z8⟩ := HBW.out.nine)
  clear f0 f1 f2 f3 f4 f5 f6 f7 f8 z0 z1 z2 z3 z4 z5 z6 z7 z8
  obtain ⟨q0, q1, q2, q3, q4, q5, q6, q7, q8⟩ := (HBW.out.nine_set (.int .i64 5) (.string ⟨#[]⟩) (.string ⟨#[]⟩) (.string ⟨#[]⟩) (.bool false) (.int .i64 0) (.int .i64 (R : Int)) (.int .i64 (C : Int)) (.slice A2 n2 c2)).1.nine
  have hcn := chg_nine w2 W.heap.size (.int .i64 5) (.string ⟨#[]⟩) (.string ⟨#[]⟩) (.string ⟨#[]⟩) (.bool false) (.int .i64 0) (.int .i64 (R : Int)) (.int .i64 (C : Int)) (.slice A2 n2 c2)
  have hsz := HB2.out.size
  have hsz2 : (((W.alloc (.cells #[.int .i64 0, .string ⟨#[]⟩, .string ⟨#[]⟩, .string ⟨#[]⟩, .bool false, .int .i64 0, .int .i64 0, .int .i64 0, .slice none 0 0] 27)).alloc (.cells #[.slice A n c, .int .i64 0] 90))).heap.size = W.heap.size + 2 := by simp
  rw [hsz2] at hsz
  have hfr := HFR.out
  unfold Fresh at hfr
  rw [hsz2] at hfr
  have hS := HS.out
  have hB := HB.out
  have h12 : Chg W.heap.size [] W w2 := (Chg.of HL0.out.bel []).trans (HB2.out.mono (by rw [hsz2]; omega) fun x hx => .inr (by rw [List.mem_singleton.1 hx]; omega))
  refine bodyPost_ret (v := aV (R : Int) (C : Int) A2 n2 c2) (by simp [results, Tryz.results75, go_sem, q0, q1, q2, q3, q4, q5, q6, q7, q8]) rfl ⟨arrU R C A2 n2 c2, rfl, HRS.out.same hcn.size (fun b o e hb => hcn.block b hb (by
    have := hfr b o e
    rw [List.mem_singleton]
    omega)), fun b o e => by have := hfr b o e; omega, h12.trans (hcn.mono (by omega) fun x hx => .inr (by rw [List.mem_singleton.1 hx]; exact Nat.le_refl _))⟩

set_option maxRecDepth 100000 in
set_option maxHeartbeats 4000000 in
/-- VSTACK. -/
theorem ent_Vs (B0 W1 W : World) (p : Nat) (A : Option Addr) (c n R C : Nat) (us : List Vl) (hp : Blk W p 65 #[.func (.func 52) #[] #[]]) (hB : B0.heap.size ≤ W1.heap.size) (h1 : Below W1.heap.size W1 W)
    (HF : ∀ W' q, Below W1.heap.size W1 W' → W1.heap.size ≤ q → Blk W' q 90 #[.slice A n c, .int .i64 0] → Calls Tryz.prog 52 #[.pointer (some ⟨q, 0, none⟩)] W' (ResF B0 W' [q] R C us)) :
    Calls Tryz.prog 75 #[.slice A n c, .pointer (some ⟨p, 0, none⟩)] W (ResF B0 W [] R C us) := by
  have HL0 := Lib.hid (((Loc.start W).alloc' rfl 27 #[.int .i64 0, .string ⟨#[]⟩, .string ⟨#[]⟩, .string ⟨#[]⟩, .bool false, .int .i64 0, .int .i64 0, .int .i64 0, .slice none 0 0]).alloc' (g := W.heap.size + 1) (by simp) 90 #[.slice A n c, .int .i64 0])
  have p0 := ((hp.alloc (.cells #[.int .i64 0, .string ⟨#[]⟩, .string ⟨#[]⟩, .string ⟨#[]⟩, .bool false, .int .i64 0, .int .i64 0, .int .i64 0, .slice none 0 0] 27))).cell 0
  simp only [List.getElem?_toArray, List.getElem?_cons_succ, List.getElem?_cons_zero] at p0
  have hW1 := h1.size
  have HF0 := Lib.hid (HF _ (W.heap.size + 1) (h1.trans (HL0.out.bel.mono hW1)) (by omega) (HL0.out.blk (g := W.heap.size + 1) (t := 90) (List.mem_cons_self ..)))
  have HS := Lib.hid hW1
  have HB := Lib.hid hB
  have H1 := Lib.hid h1
  clear hp HF h1 hB hW1
  go_enter Tryz.func75, Tryz.ntmps75
  go_upto_region 99 with (go_at_call 52; (with_reducible refine HF0.out.mono ?_); rintro e w2 ⟨u', he, hr, hf, hb⟩; have HRS := Lib.hid hr; obtain ⟨A2, n2, c2, rfl, hn2, -⟩ := hr.ex; have he : e = .returned (aV (R : Int) (C : Int) A2 n2 c2) := he; subst he; have HFR := Lib.hid hf; have HB2 := Lib.hid hb; have HBW := Lib.hid (hb.blk (HL0.out.blk (g := W.heap.size) (t := 27) (List.mem_cons_of_mem _ (List.mem_cons_self ..))) (by simp; omega) (by simp)); clear hn2 hr hf hb p0; obtain ⟨f0, f1, f2, f3, f4, f5, f6, f7, f8⟩ := HBW.out.ninef; obtain ⟨z0, z1, z2, z3, z4, z5, z6, z7, z8⟩ := HBW.out.nine)
  clear f0 f1 f2 f3 f4 f5 f6 f7 f8 z0 z1 z2 z3 z4 z5 z6 z7 z8
  obtain ⟨q0, q1, q2, q3, q4, q5, q6, q7, q8⟩ := (HBW.out.nine_set (.int .i64 5) (.string ⟨#[]⟩) (.string ⟨#[]⟩) (.string ⟨#[]⟩) (.bool false) (.int .i64 0) (.int .i64 (R : Int)) (.int .i64 (C : Int)) (.slice A2 n2 c2)).1.nine
  have hcn := chg_nine w2 W.heap.size (.int .i64 5) (.string ⟨#[]⟩) (.string ⟨#[]⟩) (.string ⟨#[]⟩) (.bool false) (.int .i64 0) (.int .i64 (R : Int)) (.int .i64 (C : Int)) (.slice A2 n2 c2)
  have hsz := HB2.out.size
  have hsz2 : (((W.alloc (.cells #[.int .i64 0, .string ⟨#[]⟩, .string ⟨#[]⟩, .string ⟨#[]⟩, .bool false, .int .i64 0, .int .i64 0, .int .i64 0, .slice none 0 0] 27)).alloc (.cells #[.slice A n c, .int .i64 0] 90))).heap.size = W.heap.size + 2 := by simp
  rw [hsz2] at hsz
  have hfr := HFR.out
  unfold Fresh at hfr
  rw [hsz2] at hfr
  have hS := HS.out
  have hB := HB.out
  have h12 : Chg W.heap.size [] W w2 := (Chg.of HL0.out.bel []).trans (HB2.out.mono (by rw [hsz2]; omega) fun x hx => .inr (by rw [List.mem_singleton.1 hx]; omega))
  refine bodyPost_ret (v := aV (R : Int) (C : Int) A2 n2 c2) (by simp [results, Tryz.results75, go_sem, q0, q1, q2, q3, q4, q5, q6, q7, q8]) rfl ⟨arrU R C A2 n2 c2, rfl, HRS.out.same hcn.size (fun b o e hb => hcn.block b hb (by
    have := hfr b o e
    rw [List.mem_singleton]
    omega)), fun b o e => by have := hfr b o e; omega, h12.trans (hcn.mono (by omega) fun x hx => .inr (by rw [List.mem_singleton.1 hx]; exact Nat.le_refl _))⟩

set_option maxRecDepth 100000 in
set_option maxHeartbeats 4000000 in
/-- TOROW. -/
theorem ent_Tr (B0 W1 W : World) (p : Nat) (A : Option Addr) (c n R C : Nat) (us : List Vl) (hp : Blk W p 65 #[.func (.func 53) #[] #[]]) (hB : B0.heap.size ≤ W1.heap.size) (h1 : Below W1.heap.size W1 W)
    (HF : ∀ W' q, Below W1.heap.size W1 W' → W1.heap.size ≤ q → Blk W' q 90 #[.slice A n c, .int .i64 0] → Calls Tryz.prog 53 #[.pointer (some ⟨q, 0, none⟩)] W' (ResF B0 W' [q] R C us)) :
    Calls Tryz.prog 75 #[.slice A n c, .pointer (some ⟨p, 0, none⟩)] W (ResF B0 W [] R C us) := by
  have HL0 := Lib.hid (((Loc.start W).alloc' rfl 27 #[.int .i64 0, .string ⟨#[]⟩, .string ⟨#[]⟩, .string ⟨#[]⟩, .bool false, .int .i64 0, .int .i64 0, .int .i64 0, .slice none 0 0]).alloc' (g := W.heap.size + 1) (by simp) 90 #[.slice A n c, .int .i64 0])
  have p0 := ((hp.alloc (.cells #[.int .i64 0, .string ⟨#[]⟩, .string ⟨#[]⟩, .string ⟨#[]⟩, .bool false, .int .i64 0, .int .i64 0, .int .i64 0, .slice none 0 0] 27))).cell 0
  simp only [List.getElem?_toArray, List.getElem?_cons_succ, List.getElem?_cons_zero] at p0
  have hW1 := h1.size
  have HF0 := Lib.hid (HF _ (W.heap.size + 1) (h1.trans (HL0.out.bel.mono hW1)) (by omega) (HL0.out.blk (g := W.heap.size + 1) (t := 90) (List.mem_cons_self ..)))
  have HS := Lib.hid hW1
  have HB := Lib.hid hB
  have H1 := Lib.hid h1
  clear hp HF h1 hB hW1
  go_enter Tryz.func75, Tryz.ntmps75
  go_upto_region 99 with (go_at_call 53; (with_reducible refine HF0.out.mono ?_); rintro e w2 ⟨u', he, hr, hf, hb⟩; have HRS := Lib.hid hr; obtain ⟨A2, n2, c2, rfl, hn2, -⟩ := hr.ex; have he : e = .returned (aV (R : Int) (C : Int) A2 n2 c2) := he; subst he; have HFR := Lib.hid hf; have HB2 := Lib.hid hb; have HBW := Lib.hid (hb.blk (HL0.out.blk (g := W.heap.size) (t := 27) (List.mem_cons_of_mem _ (List.mem_cons_self ..))) (by simp; omega) (by simp)); clear hn2 hr hf hb p0; obtain ⟨f0, f1, f2, f3, f4, f5, f6, f7, f8⟩ := HBW.out.ninef; obtain ⟨z0, z1, z2, z3, z4, z5, z6, z7, z8⟩ := HBW.out.nine)
  clear f0 f1 f2 f3 f4 f5 f6 f7 f8 z0 z1 z2 z3 z4 z5 z6 z7 z8
  obtain ⟨q0, q1, q2, q3, q4, q5, q6, q7, q8⟩ := (HBW.out.nine_set (.int .i64 5) (.string ⟨#[]⟩) (.string ⟨#[]⟩) (.string ⟨#[]⟩) (.bool false) (.int .i64 0) (.int .i64 (R : Int)) (.int .i64 (C : Int)) (.slice A2 n2 c2)).1.nine
  have hcn := chg_nine w2 W.heap.size (.int .i64 5) (.string ⟨#[]⟩) (.string ⟨#[]⟩) (.string ⟨#[]⟩) (.bool false) (.int .i64 0) (.int .i64 (R : Int)) (.int .i64 (C : Int)) (.slice A2 n2 c2)
  have hsz := HB2.out.size
  have hsz2 : (((W.alloc (.cells #[.int .i64 0, .string ⟨#[]⟩, .string ⟨#[]⟩, .string ⟨#[]⟩, .bool false, .int .i64 0, .int .i64 0, .int .i64 0, .slice none 0 0] 27)).alloc (.cells #[.slice A n c, .int .i64 0] 90))).heap.size = W.heap.size + 2 := by simp
  rw [hsz2] at hsz
  have hfr := HFR.out
  unfold Fresh at hfr
  rw [hsz2] at hfr
  have hS := HS.out
  have hB := HB.out
  have h12 : Chg W.heap.size [] W w2 := (Chg.of HL0.out.bel []).trans (HB2.out.mono (by rw [hsz2]; omega) fun x hx => .inr (by rw [List.mem_singleton.1 hx]; omega))
  refine bodyPost_ret (v := aV (R : Int) (C : Int) A2 n2 c2) (by simp [results, Tryz.results75, go_sem, q0, q1, q2, q3, q4, q5, q6, q7, q8]) rfl ⟨arrU R C A2 n2 c2, rfl, HRS.out.same hcn.size (fun b o e hb => hcn.block b hb (by
    have := hfr b o e
    rw [List.mem_singleton]
    omega)), fun b o e => by have := hfr b o e; omega, h12.trans (hcn.mono (by omega) fun x hx => .inr (by rw [List.mem_singleton.1 hx]; exact Nat.le_refl _))⟩

set_option maxRecDepth 100000 in
set_option maxHeartbeats 4000000 in
/-- WRAPROWS. -/
theorem ent_Wr (B0 W1 W : World) (p : Nat) (A : Option Addr) (c n R C : Nat) (us : List Vl) (hp : Blk W p 65 #[.func (.func 55) #[] #[]]) (hB : B0.heap.size ≤ W1.heap.size) (h1 : Below W1.heap.size W1 W)
    (HF : ∀ W' q, Below W1.heap.size W1 W' → W1.heap.size ≤ q → Blk W' q 90 #[.slice A n c, .int .i64 0] → Calls Tryz.prog 55 #[.pointer (some ⟨q, 0, none⟩)] W' (ResF B0 W' [q] R C us)) :
    Calls Tryz.prog 75 #[.slice A n c, .pointer (some ⟨p, 0, none⟩)] W (ResF B0 W [] R C us) := by
  have HL0 := Lib.hid (((Loc.start W).alloc' rfl 27 #[.int .i64 0, .string ⟨#[]⟩, .string ⟨#[]⟩, .string ⟨#[]⟩, .bool false, .int .i64 0, .int .i64 0, .int .i64 0, .slice none 0 0]).alloc' (g := W.heap.size + 1) (by simp) 90 #[.slice A n c, .int .i64 0])
  have p0 := ((hp.alloc (.cells #[.int .i64 0, .string ⟨#[]⟩, .string ⟨#[]⟩, .string ⟨#[]⟩, .bool false, .int .i64 0, .int .i64 0, .int .i64 0, .slice none 0 0] 27))).cell 0
  simp only [List.getElem?_toArray, List.getElem?_cons_succ, List.getElem?_cons_zero] at p0
  have hW1 := h1.size
  have HF0 := Lib.hid (HF _ (W.heap.size + 1) (h1.trans (HL0.out.bel.mono hW1)) (by omega) (HL0.out.blk (g := W.heap.size + 1) (t := 90) (List.mem_cons_self ..)))
  have HS := Lib.hid hW1
  have HB := Lib.hid hB
  have H1 := Lib.hid h1
  clear hp HF h1 hB hW1
  go_enter Tryz.func75, Tryz.ntmps75
  go_upto_region 99 with (go_at_call 55; (with_reducible refine HF0.out.mono ?_); rintro e w2 ⟨u', he, hr, hf, hb⟩; have HRS := Lib.hid hr; obtain ⟨A2, n2, c2, rfl, hn2, -⟩ := hr.ex; have he : e = .returned (aV (R : Int) (C : Int) A2 n2 c2) := he; subst he; have HFR := Lib.hid hf; have HB2 := Lib.hid hb; have HBW := Lib.hid (hb.blk (HL0.out.blk (g := W.heap.size) (t := 27) (List.mem_cons_of_mem _ (List.mem_cons_self ..))) (by simp; omega) (by simp)); clear hn2 hr hf hb p0; obtain ⟨f0, f1, f2, f3, f4, f5, f6, f7, f8⟩ := HBW.out.ninef; obtain ⟨z0, z1, z2, z3, z4, z5, z6, z7, z8⟩ := HBW.out.nine)
  clear f0 f1 f2 f3 f4 f5 f6 f7 f8 z0 z1 z2 z3 z4 z5 z6 z7 z8
  obtain ⟨q0, q1, q2, q3, q4, q5, q6, q7, q8⟩ := (HBW.out.nine_set (.int .i64 5) (.string ⟨#[]⟩) (.string ⟨#[]⟩) (.string ⟨#[]⟩) (.bool false) (.int .i64 0) (.int .i64 (R : Int)) (.int .i64 (C : Int)) (.slice A2 n2 c2)).1.nine
  have hcn := chg_nine w2 W.heap.size (.int .i64 5) (.string ⟨#[]⟩) (.string ⟨#[]⟩) (.string ⟨#[]⟩) (.bool false) (.int .i64 0) (.int .i64 (R : Int)) (.int .i64 (C : Int)) (.slice A2 n2 c2)
  have hsz := HB2.out.size
  have hsz2 : (((W.alloc (.cells #[.int .i64 0, .string ⟨#[]⟩, .string ⟨#[]⟩, .string ⟨#[]⟩, .bool false, .int .i64 0, .int .i64 0, .int .i64 0, .slice none 0 0] 27)).alloc (.cells #[.slice A n c, .int .i64 0] 90))).heap.size = W.heap.size + 2 := by simp
  rw [hsz2] at hsz
  have hfr := HFR.out
  unfold Fresh at hfr
  rw [hsz2] at hfr
  have hS := HS.out
  have hB := HB.out
  have h12 : Chg W.heap.size [] W w2 := (Chg.of HL0.out.bel []).trans (HB2.out.mono (by rw [hsz2]; omega) fun x hx => .inr (by rw [List.mem_singleton.1 hx]; omega))
  refine bodyPost_ret (v := aV (R : Int) (C : Int) A2 n2 c2) (by simp [results, Tryz.results75, go_sem, q0, q1, q2, q3, q4, q5, q6, q7, q8]) rfl ⟨arrU R C A2 n2 c2, rfl, HRS.out.same hcn.size (fun b o e hb => hcn.block b hb (by
    have := hfr b o e
    rw [List.mem_singleton]
    omega)), fun b o e => by have := hfr b o e; omega, h12.trans (hcn.mono (by omega) fun x hx => .inr (by rw [List.mem_singleton.1 hx]; exact Nat.le_refl _))⟩

end Go.Proofs.YtllhefjblipddaaGreatDoor

namespace Go.Proofs.YtllhefjblipddaaGreatDoor
open Go.RowKit

theorem rec_idle (p : Addr) (w : World) : CallsD Tryz.prog 26 #[.pointer (some p)] .returning w fun e u' w' => e = .returned (.tuple #[]) ∧ u' = .returning ∧ w' = w := by
  refine callsD_of_wpS Tryz.func26 rfl fun c₀ cs hu => ?_
  apply wpS_seq
  apply wpS_region
  simp [wpOpsS, go_sem, recoverD, hu, Tryz.ntmps26, Exit.thenS]
  refine wpS_of_wp ?_
  rw [show (#[Value.pointer (some p)] ++ (Array.replicate 11 undef).setIfInBounds 3 Value.nilIface : Array Value) = #[.pointer (some p), undef, undef, undef, .nilIface, undef, undef, undef, undef, undef, undef, undef] from rfl]
  go_wp2_with fail
  cases c₀
  simp_all [bodyPostS, results, Tryz.results26]
set_option maxRecDepth 100000 in
set_option maxHeartbeats 4000000 in
theorem run1_any (B0 W : World) (x p : Nat) (l m : Int) (ks : ByteArray) (A : Option Addr) (n c R C : Nat) (us : List Vl) (hx : Blk W x 60 #[.int .i64 l, .int .i64 m, .string ks, .func (.func 75) #[] #[.pointer (some ⟨p, 0, none⟩)]]) (hB : B0.heap.size ≤ W.heap.size)
    (HE : ∀ W', Below W.heap.size W W' → Calls Tryz.prog 75 #[.slice A n c, .pointer (some ⟨p, 0, none⟩)] W' (ResF B0 W' [] R C us)) :
    Calls Tryz.prog 25 #[.slice A n c, .pointer (some ⟨x, 0, none⟩)] W (ResF B0 W [] R C us) := by
  have hmf : ∀ (fn : Fn) (first cap : Array Value) (w : World), (Instr.makeFunc fn first cap).run Tryz.prog w = .ok (.func fn first cap) w := fun _ _ _ _ => rfl
  have HL0 := Lib.hid ((Loc.start W).alloc' rfl 27 #[.int .i64 0, .string ⟨#[]⟩, .string ⟨#[]⟩, .string ⟨#[]⟩, .bool false, .int .i64 0, .int .i64 0, .int .i64 0, .slice none 0 0])
  have x3 := (hx.alloc (.cells #[.int .i64 0, .string ⟨#[]⟩, .string ⟨#[]⟩, .string ⟨#[]⟩, .bool false, .int .i64 0, .int .i64 0, .int .i64 0, .slice none 0 0] 27)).cell 3
  simp only [List.getElem?_toArray, List.getElem?_cons_succ, List.getElem?_cons_zero] at x3
  have HE0 := Lib.hid (HE _ HL0.out.bel)
  have HB := Lib.hid hB
  clear hx HE hB
  go_enter_defers Tryz.func25, Tryz.ntmps25
  go_upto_region 3 with (go_at_call 75; (with_reducible refine HE0.out.mono ?_); rintro e w2 ⟨u', he, hr, hf, hb⟩; have HRS := Lib.hid hr; obtain ⟨A2, n2, c2, rfl, hn2, -⟩ := hr.ex; have he : e = .returned (aV (R : Int) (C : Int) A2 n2 c2) := he; subst he; have HFR := Lib.hid hf; have HB2 := Lib.hid hb; have HBW := Lib.hid (hb.blk (HL0.out.blk (g := W.heap.size) (t := 27) (List.mem_cons_self ..)) (by simp) (by simp)); clear hn2 hr hf hb x3; obtain ⟨f0, f1, f2, f3, f4, f5, f6, f7, f8⟩ := HBW.out.ninef; obtain ⟨z0, z1, z2, z3, z4, z5, z6, z7, z8⟩ := HBW.out.nine)
  clear f0 f1 f2 f3 f4 f5 f6 f7 f8 z0 z1 z2 z3 z4 z5 z6 z7 z8
  have HB3 := Lib.hid (HBW.out.nine_set (.int .i64 5) (.string ⟨#[]⟩) (.string ⟨#[]⟩) (.string ⟨#[]⟩) (.bool false) (.int .i64 0) (.int .i64 (R : Int)) (.int .i64 (C : Int)) (.slice A2 n2 c2)).1
  have hcn := chg_nine w2 W.heap.size (.int .i64 5) (.string ⟨#[]⟩) (.string ⟨#[]⟩) (.string ⟨#[]⟩) (.bool false) (.int .i64 0) (.int .i64 (R : Int)) (.int .i64 (C : Int)) (.slice A2 n2 c2)
  have hsz := HB2.out.size
  have hsz2 : (W.alloc (.cells #[.int .i64 0, .string ⟨#[]⟩, .string ⟨#[]⟩, .string ⟨#[]⟩, .bool false, .int .i64 0, .int .i64 0, .int .i64 0, .slice none 0 0] 27)).heap.size = W.heap.size + 1 := by simp
  rw [hsz2] at hsz
  have hfr := HFR.out
  unfold Fresh at hfr
  rw [hsz2] at hfr
  have hB := HB.out
  have hbn : ∀ b o, A2 = some ⟨b, o, none⟩ → b ∉ [W.heap.size] := fun b o e => by
    have := hfr b o e
    rw [List.mem_singleton]
    omega
  have h12 : Chg W.heap.size [] W w2 := (Chg.of HL0.out.bel []).trans (HB2.out.mono (by rw [hsz2]; omega) fun x hx => by cases hx)
  have HC3 := Lib.hid (h12.trans (hcn.mono (by omega) fun x hx => .inr (by rw [List.mem_singleton.1 hx]; exact Nat.le_refl _)))
  have HRS3 := Lib.hid (HRS.out.same hcn.size (fun b o e hb => hcn.block b hb (hbn b o e)))
  have HBN := Lib.hid hbn
  have HFF := Lib.hid (show Fresh B0.heap.size W.heap.size A2 from fun b o e => by have := hfr b o e; omega)
  have HS3 := Lib.hid (show W.heap.size ≤ (((((((((w2.setCell ⟨W.heap.size, 0, none⟩ (.int .i64 5)).setCell ⟨W.heap.size, 1, none⟩ (.string ⟨#[]⟩)).setCell ⟨W.heap.size, 2, none⟩ (.string ⟨#[]⟩)).setCell ⟨W.heap.size, 3, none⟩ (.string ⟨#[]⟩)).setCell ⟨W.heap.size, 4, none⟩ (.bool false)).setCell ⟨W.heap.size, 5, none⟩ (.int .i64 0)).setCell ⟨W.heap.size, 6, none⟩ (.int .i64 (R : Int))).setCell ⟨W.heap.size, 7, none⟩ (.int .i64 (C : Int))).setCell ⟨W.heap.size, 8, none⟩ (.slice A2 n2 c2)).heap.size from Nat.le_trans (by omega) hcn.size)
  clear hcn hsz hsz2 hfr hB hbn h12 HRS HFR HB2 HBW HL0 HE0 HB
  revert HB3 HC3 HRS3 HS3
  generalize (((((((((w2.setCell ⟨W.heap.size, 0, none⟩ (.int .i64 5)).setCell ⟨W.heap.size, 1, none⟩ (.string ⟨#[]⟩)).setCell ⟨W.heap.size, 2, none⟩ (.string ⟨#[]⟩)).setCell ⟨W.heap.size, 3, none⟩ (.string ⟨#[]⟩)).setCell ⟨W.heap.size, 4, none⟩ (.bool false)).setCell ⟨W.heap.size, 5, none⟩ (.int .i64 0)).setCell ⟨W.heap.size, 6, none⟩ (.int .i64 (R : Int))).setCell ⟨W.heap.size, 7, none⟩ (.int .i64 (C : Int))).setCell ⟨W.heap.size, 8, none⟩ (.slice A2 n2 c2)) = W3
  intro HB3 HC3 HRS3 HS3
  obtain ⟨k0, k1, k2, k3, k4, k5, k6, k7, k8⟩ := HB3.out.nine
  have r1 : (0 : Int) < (R : Int) := by have := HRS3.out.r1; omega
  have r0 : ¬ (R : Int) = 0 := by omega
  have rn : 0 < R := by omega
  have rz : ¬ R = 0 := by omega
  obtain ⟨dd, hdd, d5⟩ : ∃ dd : Int, IntKind.i64.wrap ((100000 : Int).tdiv (R : Int)) = dd ∧ ¬ dd < (C : Int) := by
    have e0 := HRS3.out.r2
    have e1 := HRS3.out.c2
    have e2 : (100000 : Int).tdiv (R : Int) = 100000 / (R : Int) := Int.tdiv_eq_ediv_of_nonneg (by decide)
    have e3 : (100 : Int) ≤ 100000 / (R : Int) := by
      rw [Int.le_ediv_iff_mul_le (by omega)]
      omega
    have e4 : 100000 / (R : Int) ≤ 100000 := Int.ediv_le_self _ (by decide)
    exact ⟨_, rfl, by rw [e2, IntWalk.i64_in _ (by omega)]; omega⟩
  have mixed : Tryz.prog.follows Departure.mixedOrders = true := by kernel_rfl
  go_quiet (fail)
  go_upto_region 5 with fail
  have HB4 := Lib.hid (HB3.out.drewN nq)
  clear k0 k1 k2 k3 k4 k5 k6 k7 k8
  obtain ⟨f0, f1, f2, f3, f4, f5, f6, f7, f8⟩ := HB4.out.ninef
  obtain ⟨z0, z1, z2, z3, z4, z5, z6, z7, z8⟩ := HB4.out.nine
  go_upto_region 99 with fail
  clear f0 f1 f2 f3 f4 f5 f6 f7 f8 z0 z1 z2 z3 z4 z5 z6 z7 z8
  obtain ⟨q0, q1, q2, q3, q4, q5, q6, q7, q8⟩ := (HB4.out.nine_set (.int .i64 5) (.string ⟨#[]⟩) (.string ⟨#[]⟩) (.string ⟨#[]⟩) (.bool false) (.int .i64 0) (.int .i64 (R : Int)) (.int .i64 (C : Int)) (.slice A2 n2 c2)).1.nine
  have hcn := chg_nine (W3.drewN nq) W.heap.size (.int .i64 5) (.string ⟨#[]⟩) (.string ⟨#[]⟩) (.string ⟨#[]⟩) (.bool false) (.int .i64 0) (.int .i64 (R : Int)) (.int .i64 (C : Int)) (.slice A2 n2 c2)
  have hs3 := HS3.out
  refine leaves_cons (f := 26) (args := #[.pointer (some ⟨W.heap.size, 0, none⟩)]) (by simp) (by simp [go_sem]) ?_
  refine (rec_idle _ _).mono ?_
  rintro e u' w'' ⟨rfl, rfl, rfl⟩
  refine ⟨aV (R : Int) (C : Int) A2 n2 c2, by simp [settle, results, Tryz.results25, go_sem, q0, q1, q2, q3, q4, q5, q6, q7, q8], arrU R C A2 n2 c2, rfl, AR.same (W := W3) HRS3.out hcn.size (fun b o e hb => hcn.block b hb (HBN.out b o e)), HFF.out, HC3.out.trans ((show Chg W.heap.size [] W3 (W3.drewN nq) from ⟨rfl, rfl, rfl, Nat.le_refl _, fun _ _ _ => rfl⟩).trans (hcn.mono hs3 fun x hx => .inr (by rw [List.mem_singleton.1 hx]; exact Nat.le_refl _)))⟩
end Go.Proofs.YtllhefjblipddaaGreatDoor

namespace Go.Proofs.YtllhefjblipddaaGreatDoor
open Go.RowKit

theorem trim_sa (s : ByteArray) (h : (⟨(Lib.trimS s.data.toList [115, 97]).toArray⟩ : ByteArray) = ⟨#[]⟩) (hs : s.size ≤ 100) (w : World) :
    Calls Tryz.prog 72 #[.string s, .string ⟨#[115, 97]⟩] w fun e w' => e = .returned (.string ⟨#[]⟩) ∧ Below w.heap.size w w' := by
  have := Any.strings_Trim_laid Tryz.lays160 (by kernel_rfl) s ⟨#[115, 97]⟩ w (by omega) (by decide) (ascii_of_all (by decide))
  rw [← h]
  exact this
set_option maxRecDepth 100000 in
set_option maxHeartbeats 8000000 in
theorem lift_any (W : World) (kinds : ByteArray) (A : Option Addr) (n c x R C : Nat) (avs : List Vl) (us : List Vl) (hA : Reads 9 csV W (.slice A n c) avs) (hn1 : 1 ≤ n) (hn2 : n ≤ 255) (hk0 : kinds.toList.isEmpty = false)
    (hTR : ∀ W', Calls Tryz.prog 72 #[.string kinds, .string ⟨#[115, 97]⟩] W' fun e w' => e = .returned (.string ⟨#[]⟩) ∧ Below W'.heap.size W' w')
    (hLT : ∀ i, i < n → ∃ l : Int, (∀ W', Calls Tryz.prog 73 #[.string kinds, .int .i64 (i : Int)] W' fun e w' => e = .returned (.int .u8 l) ∧ W' = w') ∧ (l = 115 → ¬ avs[i]!.k = 5))
    (hCK : ∀ i, i < n → ∀ W', Below W.heap.size W W' → Calls Tryz.prog 71 #[avs[i]!.v] W' fun e w' => e = .returned (.int .i64 0) ∧ Below W'.heap.size W' w')
    (hF : ∀ W1 A1 c1, Below W.heap.size W W1 → Reads 9 csV W1 (.slice A1 n c1) avs → Calls Tryz.prog 25 #[.slice A1 n c1, .pointer (some ⟨x, 0, none⟩)] W1 (ResF W W1 [] R C us))
    (hVD : ∀ u W', Below W.heap.size W W' → AR W' u R C us → Calls Tryz.prog 23 #[u.v] W' fun e w' => e = .returned u.v ∧ Below W'.heap.size W' w') (hus : ∀ u ∈ us, u.n = 0) :
    Calls Tryz.prog 24 #[.string kinds, .slice A n c, .func (.func 25) #[] #[.pointer (some ⟨x, 0, none⟩)]] W fun e w' => ∃ u', e = .returned (.tuple #[u'.v, .int .i64 0]) ∧ AR w' u' R C us ∧ (∀ b o, u'.A = some ⟨b, o, none⟩ → W.heap.size ≤ b) ∧ Below W.heap.size W w' := by
  obtain ⟨b, o, rfl⟩ : ∃ b o, A = some ⟨b, o, none⟩ := by
    obtain ⟨A', c', e, -, -, h3⟩ := hA
    injection e with e1 e2 e3
    obtain ⟨b, o, e4, -⟩ := h3 (by omega)
    exact ⟨b, o, e1.trans e4⟩
  have HA := Lib.hid hA
  have HTR := Lib.hid hTR
  have HLT := Lib.hid hLT
  have HCK := Lib.hid hCK
  have HF := Lib.hid hF
  have HVD := Lib.hid hVD
  clear hA hTR hLT hCK hF hVD
  have HL0 := Lib.hid ((Loc.start W).alloc' rfl 27 #[.int .i64 0, .string ⟨#[]⟩, .string ⟨#[]⟩, .string ⟨#[]⟩, .bool false, .int .i64 0, .int .i64 0, .int .i64 0, .slice none 0 0])
  go_enter Tryz.func24, Tryz.ntmps24
  go_upto_region 3 with (go_at_call 72; (with_reducible refine (HTR.out _).mono ?_); rintro e w1 ⟨rfl, hb⟩; have HL1 := Lib.hid (HL0.out.step hb); clear hb HL0)
  go_upto_block 0 with fail
  go_cut [29] (fun u29 wz => Hid (Loc W [(W.heap.size, 27, #[.int .i64 0, .string ⟨#[]⟩, .string ⟨#[]⟩, .string ⟨#[]⟩, .bool false, .int .i64 0, .int .i64 0, .int .i64 0, .slice none 0 0])] wz))
  case first =>
    go_wp2_with fail
    go_loopw [29] (fun u29 wz => ∃ i : Nat, i ≤ n ∧ u29 = .int .i64 (i : Int) ∧ Hid (Loc W [(W.heap.size, 27, #[.int .i64 0, .string ⟨#[]⟩, .string ⟨#[]⟩, .string ⟨#[]⟩, .bool false, .int .i64 0, .int .i64 0, .int .i64 0, .slice none 0 0])] wz)) (fun u _ => n - (intOf u).toNat)
    case atStart => exact ⟨0, by omega, rfl, HL1⟩
    case round =>
      clear HL1
      obtain ⟨i, hi, rfl, HL⟩ := hrel
      by_cases hlt : i < n
      · have hlz : (i : Int) < (n : Int) := by omega
        have i0 : 0 ≤ (i : Int) := by omega
        have i1 : IntKind.i64.wrap ((i : Int) + 1) = (i : Int) + 1 := IntWalk.i64_in _ (by omega)
        obtain ⟨uk, unum, uden, utext, uon, ucode, urows, ucols, uA, un, uc, hus', hcs⟩ := read_at HA.out hlt
        obtain ⟨e0, e1, e2, e3, e4, e5, e6, e7, e8⟩ := hcs wr HL.out.bel
        have HCi := Lib.hid (HCK.out i hlt _ (HL.out.step (below_al wr (.cells #[.int .i64 uk, .string unum, .string uden, .string utext, .bool uon, .int .i64 ucode, .int .i64 urows, .int .i64 ucols, .slice uA un uc] 27))).bel)
        rw [hus'] at HCi
        have HCi := Lib.hid (show Calls Tryz.prog 71 #[.agg #[.int .i64 uk, .string unum, .string uden, .string utext, .bool uon, .int .i64 ucode, .int .i64 urows, .int .i64 ucols, .slice uA un uc]] (wr.alloc (.cells #[.int .i64 uk, .string unum, .string uden, .string utext, .bool uon, .int .i64 ucode, .int .i64 urows, .int .i64 ucols, .slice uA un uc] 27)) fun e w' => e = .returned (.int .i64 0) ∧ Below (wr.alloc (.cells #[.int .i64 uk, .string unum, .string uden, .string utext, .bool uon, .int .i64 ucode, .int .i64 urows, .int .i64 ucols, .slice uA un uc] 27)).heap.size (wr.alloc (.cells #[.int .i64 uk, .string unum, .string uden, .string utext, .bool uon, .int .i64 ucode, .int .i64 urows, .int .i64 ucols, .slice uA un uc] 27)) w' from HCi.out)
        clear hcs hus'
        go_wp2_with (go_at_call 71; (with_reducible refine HCi.out.mono ?_); rintro e w2 ⟨rfl, hb⟩; have HL2 := Lib.hid ((HL.out.step (below_al wr (.cells #[.int .i64 uk, .string unum, .string uden, .string utext, .bool uon, .int .i64 ucode, .int .i64 urows, .int .i64 ucols, .slice uA un uc] 27))).step hb); clear hb HL e0 e1 e2 e3 e4 e5 e6 e7 e8)
        go_roundw
        case rel => exact ⟨i + 1, by omega, by go_num, HL2⟩
        case measure => simp [intOf]; omega
      · obtain rfl : i = n := by omega
        go_wp2_with fail
        go_meet
        exact HL
  case rest =>
    clear HL1
    have HL1 := hcut
    go_upto_block 2 with fail
    go_cut [11, 12, 42] (fun u11 u12 u42 wz => u11 = .int .i64 0 ∧ u12 = .int .i64 0 ∧ Hid (Loc W [(W.heap.size, 27, #[.int .i64 0, .string ⟨#[]⟩, .string ⟨#[]⟩, .string ⟨#[]⟩, .bool false, .int .i64 0, .int .i64 0, .int .i64 0, .slice none 0 0])] wz))
    case first =>
      go_wp2_with fail
      go_loopw [11, 12, 42] (fun u11 u12 u42 wz => ∃ i : Nat, i ≤ n ∧ u11 = .int .i64 0 ∧ u12 = .int .i64 0 ∧ u42 = .int .i64 (i : Int) ∧ Hid (Loc W [(W.heap.size, 27, #[.int .i64 0, .string ⟨#[]⟩, .string ⟨#[]⟩, .string ⟨#[]⟩, .bool false, .int .i64 0, .int .i64 0, .int .i64 0, .slice none 0 0])] wz)) (fun _ _ u _ => n - (intOf u).toNat)
      case atStart => exact ⟨0, by omega, rfl, rfl, rfl, HL1⟩
      case round =>
        clear HL1
        obtain ⟨i, hi, rfl, rfl, rfl, HL⟩ := hrel
        by_cases hlt : i < n
        · have hlz : (i : Int) < (n : Int) := by omega
          have i0 : 0 ≤ (i : Int) := by omega
          have i1 : IntKind.i64.wrap ((i : Int) + 1) = (i : Int) + 1 := IntWalk.i64_in _ (by omega)
          obtain ⟨uk, unum, uden, utext, uon, ucode, urows, ucols, uA, un, uc, hus', hcs⟩ := read_at HA.out hlt
          obtain ⟨e0, e1, e2, e3, e4, e5, e6, e7, e8⟩ := hcs wr HL.out.bel
          obtain ⟨l, hl1, hl2⟩ := HLT.out i hlt
          rw [hus'] at hl2
          have hl2 : l = 115 → ¬ uk = 5 := hl2
          have HLE := Lib.hid hl1
          have HL2 := Lib.hid (HL.out.step (below_al wr (.cells #[.int .i64 uk, .string unum, .string uden, .string utext, .bool uon, .int .i64 ucode, .int .i64 urows, .int .i64 ucols, .slice uA un uc] 27)))
          clear hcs hus' hl1
          by_cases hl : l = 115
          · have hk := hl2 hl
            subst hl
            clear hl2
            go_wp2_with (go_at_call 73; (with_reducible refine (HLE.out _).mono ?_); rintro e w2 ⟨rfl, rfl⟩)
            go_roundw
            case rel => exact ⟨i + 1, by omega, rfl, rfl, by go_num, HL2⟩
            case measure => simp [intOf]; omega
          · clear hl2
            go_wp2_with (go_at_call 73; (with_reducible refine (HLE.out _).mono ?_); rintro e w2 ⟨rfl, rfl⟩)
            go_roundw
            case rel => exact ⟨i + 1, by omega, rfl, rfl, by go_num, HL2⟩
            case measure => simp [intOf]; omega
        · obtain rfl : i = n := by omega
          go_wp2_with fail
          go_meet
          exact ⟨rfl, rfl, HL⟩
    case rest =>
      clear HL1
      obtain ⟨rfl, rfl, HL2⟩ := hcut
      go_upto_region 18 with fail
      have HAC := Lib.hid (HA.out.below HL2.out.bel)
      have hal : avs.length = n := (HA.out.lt (by omega)).1
      have HAL := Lib.hid hal
      have HVX := Lib.hid (show ∀ A2 n2 c2 W', Below W.heap.size W W' → AR W' (arrU R C A2 n2 c2) R C us → Calls Tryz.prog 23 #[aV (R : Int) (C : Int) A2 n2 c2] W' fun e w' => e = .returned (aV (R : Int) (C : Int) A2 n2 c2) ∧ Below W'.heap.size W' w' from fun A2 n2 c2 W' h1 h2 => HVD.out (arrU R C A2 n2 c2) W' h1 h2)
      rw [← hal] at HAC
      clear hal
      go_upto_region 19 with (first
        | (go_at_call 25; (with_reducible refine (HF.out _ _ _ HL3.out.bel HRD1.out).mono ?_); rintro e w2 ⟨u', he, hr, hf, hb⟩; have HRS := Lib.hid hr; obtain ⟨A2, n2, c2, rfl, hn2, hrd⟩ := hr.ex; have HRD2 := Lib.hid hrd; clear hrd; have he : e = .returned (aV (R : Int) (C : Int) A2 n2 c2) := he; subst he; have HN2 := Lib.hid hn2; have hb := hb.below (Nat.le_refl _) (fun x hx => by cases hx); have HL4 := Lib.hid (HL3.out.step hb); clear hr hf hb HL3 HRD1 hn2)
        | (go_at_call 23; (with_reducible refine (HVX.out _ _ _ _ HL4.out.bel HRS.out).mono ?_); rintro e w3 ⟨rfl, hb⟩; have HRS3 := Lib.hid (HRS.out.below hb); have HRD3 := Lib.hid (HRD2.out.below hb); clear HRD2; have HL5 := Lib.hid (HL4.out.step hb); clear hb HL4 HRS)
        | (at_builtin; refine wp_rowN 25 27 9 112 csV _ Tryz.underlying25 val_info rfl (by decide) csV_one rfl (.const (.slice none 0 0)) (.tmp 68) rfl wc.heap.size _ [] rfl (RowOf.nil _ _) avs b o c (by rw [HAL.out]; rfl) HAC.out (by rw [HAL.out]; omega) ?_ ?_ ?_ ?_; (rw [HAL.out]; simp; omega); (rw [HAL.out]; unfold maxLen; simp; omega); (exact Nat.le_refl _); intro v1 w1 ho1 hb1 hg1; have HL3 := Lib.hid (HL2.out.step hb1); have ho2 := RowOf.reads ho1 csV_len; rw [List.nil_append] at ho1 ho2; obtain ⟨g1, c1, hv1, -, -⟩ := ho1.form (by rw [HAL.out]; omega); subst hv1; rw [HAL.out] at ho2 ⊢; have HRD1 := Lib.hid ho2; clear ho1 ho2 hb1 hg1 HL2))
      have hp : 0 < n2 := by rw [HN2.out]; exact Nat.mul_pos HRS3.out.r1 HRS3.out.c1
      have hbig : n2 ≤ 100000 := by rw [HN2.out]; exact HRS3.out.big
      obtain ⟨b2, o2, rfl⟩ : ∃ b o, A2 = some ⟨b, o, none⟩ := by
        obtain ⟨A', c', e, -, -, h3⟩ := HRD3.out
        injection e with e1 e2 e3
        obtain ⟨b, o, e4, -⟩ := h3 (by omega)
        exact ⟨b, o, e1.trans e4⟩
      have HUL := Lib.hid (HRD3.out.lt hp).1
      have HRD4 := Lib.hid (HRD3.out.below (below_al w3 (.cells #[.int .i64 5, .string ⟨#[]⟩, .string ⟨#[]⟩, .string ⟨#[]⟩, .bool false, .int .i64 0, .int .i64 (R : Int), .int .i64 (C : Int), .slice (some ⟨b2, o2, none⟩) n2 c2] 27)))
      obtain ⟨X, hX⟩ : ∃ X, X = w3.heap.size := ⟨_, rfl⟩
      have HL6 := Lib.hid (HL5.out.alloc' hX.symm 27 #[.int .i64 5, .string ⟨#[]⟩, .string ⟨#[]⟩, .string ⟨#[]⟩, .bool false, .int .i64 0, .int .i64 (R : Int), .int .i64 (C : Int), .slice (some ⟨b2, o2, none⟩) n2 c2])
      have hXW : X ≠ W.heap.size := by
        have := HL5.out.lt (g := W.heap.size) (t := 27) (List.mem_cons_self ..)
        omega
      clear HRD3 HL5
      rw [← hX]
      revert HL6 HRD4
      generalize w3.alloc (.cells #[.int .i64 5, .string ⟨#[]⟩, .string ⟨#[]⟩, .string ⟨#[]⟩, .bool false, .int .i64 0, .int .i64 (R : Int), .int .i64 (C : Int), .slice (some ⟨b2, o2, none⟩) n2 c2] 27) = W4
      intro HRD4 HL6
      rw [← HUL.out] at HRD4
      clear hX
      have x8 : W4.cell? ⟨X, 8, none⟩ = some (.slice (some ⟨b2, o2, none⟩) n2 c2) := (HL6.out.blk (g := X) (t := 27) (List.mem_cons_self ..)).cell 8
      go_upto_region 20 with (at_builtin; refine wp_rowN 25 27 9 112 csV _ Tryz.underlying25 val_info rfl (by decide) csV_one rfl (.const (.slice none 0 0)) (.tmp 73) rfl W4.heap.size _ [] rfl (RowOf.nil _ _) us b2 o2 c2 (by rw [HUL.out]; rfl) HRD4.out (by rw [HUL.out]; omega) ?_ ?_ ?_ ?_; (rw [HUL.out]; simp; omega); (rw [HUL.out]; unfold maxLen; simp; omega); (exact Nat.le_refl _); intro v1 w5 ho1 hb1 hg1; have HL7 := Lib.hid (HL6.out.step hb1); rw [List.nil_append] at ho1; obtain ⟨g2, c3, hv1, hg2, -⟩ := ho1.form (by rw [HUL.out]; omega); subst hv1; rw [HUL.out] at ho1 ⊢; have HO1 := Lib.hid ho1; have y8 : w5.cell? ⟨X, 8, none⟩ = some (.slice (some ⟨b2, o2, none⟩) n2 c2) := (HL7.out.blk (g := X) (t := 27) (List.mem_cons_self ..)).cell 8; have f8 := (HL7.out.blk (g := X) (t := 27) (List.mem_cons_self ..)).frozen 8; clear ho1 hb1 hg1 x8)
      clear y8 f8
      have hXlt := HL6.out.lt (g := X) (t := 27) (List.mem_cons_self ..)
      have HL8 := Lib.hid (HL7.out.set1 (i := 8) (fun y hy => by
        simp only [List.mem_cons, List.not_mem_nil, or_false] at hy
        subst hy
        exact fun e => hXW e.symm) (.slice (some ⟨g2, 0, none⟩) n2 c3))
      have HO2 := Lib.hid (RowOf.reads (HO1.out.far (p := ⟨X, 8, none⟩) (fun g' e => by
        injection e with e
        have e : g2 = g' := e
        show g' ≠ X
        omega) (.slice (some ⟨g2, 0, none⟩) n2 c3)) csV_len)
      have hgW : g2 ≠ W.heap.size := by
        have := HL6.out.lt (g := W.heap.size) (t := 27) (List.mem_cons_of_mem _ (List.mem_cons_self ..))
        omega
      have HG := Lib.hid hgW
      have HGW := Lib.hid (show W.heap.size ≤ g2 from by have := HL6.out.bel.size; omega)
      clear HL7 HO1 HL6 hgW
      revert HL8 HO2
      generalize w5.setCell ⟨X, 8, none⟩ (.slice (some ⟨g2, 0, none⟩) n2 c3) = W6
      intro HL8 HO2
      obtain ⟨k0, k1, k2, k3, k4, k5, k6, k7, k8⟩ := (HL8.out.blk (g := X) (t := 27) (List.mem_cons_self ..)).nine
      have HBW := Lib.hid (HL8.out.blk (g := W.heap.size) (t := 27) (cs := #[.int .i64 0, .string ⟨#[]⟩, .string ⟨#[]⟩, .string ⟨#[]⟩, .bool false, .int .i64 0, .int .i64 0, .int .i64 0, .slice none 0 0]) (List.mem_cons_of_mem _ (List.mem_cons_self ..)))
      obtain ⟨f0, f1, f2, f3, f4, f5, f6, f7, f8⟩ := HBW.out.ninef
      obtain ⟨z0, z1, z2, z3, z4, z5, z6, z7, z8⟩ := HBW.out.nine
      go_upto_region 99 with fail
      clear f0 f1 f2 f3 f4 f5 f6 f7 f8 z0 z1 z2 z3 z4 z5 z6 z7 z8 k0 k1 k2 k3 k4 k5 k6 k7 k8
      obtain ⟨q0, q1, q2, q3, q4, q5, q6, q7, q8⟩ := (HBW.out.nine_set (.int .i64 5) (.string ⟨#[]⟩) (.string ⟨#[]⟩) (.string ⟨#[]⟩) (.bool false) (.int .i64 0) (.int .i64 (R : Int)) (.int .i64 (C : Int)) (.slice (some ⟨g2, 0, none⟩) n2 c3)).1.nine
      have hcn := chg_nine W6 W.heap.size (.int .i64 5) (.string ⟨#[]⟩) (.string ⟨#[]⟩) (.string ⟨#[]⟩) (.bool false) (.int .i64 0) (.int .i64 (R : Int)) (.int .i64 (C : Int)) (.slice (some ⟨g2, 0, none⟩) n2 c3)
      have hgl := (HO2.out.lt hp).2.1
      refine bodyPost_ret (v := .tuple #[aV (R : Int) (C : Int) (some ⟨g2, 0, none⟩) n2 c3, .int .i64 0]) (by simp [results, Tryz.results24, go_sem, q0, q1, q2, q3, q4, q5, q6, q7, q8]) rfl ⟨arrU R C (some ⟨g2, 0, none⟩) n2 c3, rfl, ⟨⟨_, n2, c3, rfl, HN2.out, reads_same HO2.out hcn.size (hcn.block g2 hgl (by rw [List.mem_singleton]; exact HG.out))⟩, HRS3.out.r1, HRS3.out.r2, HRS3.out.c1, HRS3.out.c2, HRS3.out.big⟩, (fun b o e => by injection e with e; injection e with e; have := HGW.out; omega), HL8.out.bel.trans (hcn.below HL8.out.bel.size fun y hy => by rw [List.mem_singleton.1 hy]; exact Nat.le_refl _)⟩
end Go.Proofs.YtllhefjblipddaaGreatDoor

namespace Go.Proofs.YtllhefjblipddaaGreatDoor
open Go.RowKit

set_option maxRecDepth 100000 in
set_option maxHeartbeats 8000000 in
theorem run_fk (w0 W : World) (b : Nat) (name : ByteArray) (y : EY) (hTS : TS w0 W b tabL) (hf : (tabL.find? fun y => sameT y.1 name) = some y) (A : Option Addr) (n c R C : Nat) (us : List Vl) (h1 : y.2.1 ≤ (n : Int)) (h2 : (n : Int) ≤ y.2.2.1)
    (hLI : ∀ W' x p, Below W.heap.size W W' → Blk W' x 60 #[.int .i64 y.2.1, .int .i64 y.2.2.1, .string y.2.2.2.1, .func (.func 75) #[] #[.pointer (some ⟨p, 0, none⟩)]] → Blk W' p 65 #[.func (.func y.2.2.2.2) #[] #[]] → Calls Tryz.prog 24 #[.string y.2.2.2.1, .slice A n c, .func (.func 25) #[] #[.pointer (some ⟨x, 0, none⟩)]] W' (fun e w' => ∃ u', e = .returned (.tuple #[u'.v, .int .i64 0]) ∧ AR w' u' R C us ∧ (∀ b o, u'.A = some ⟨b, o, none⟩ → W'.heap.size ≤ b) ∧ Below W'.heap.size W' w')) :
    Calls Tryz.prog 16 #[.map (some b), .string name, .slice A n c] W (fun e w' => ∃ u', e = .returned (.tuple #[u'.v, .int .i64 0]) ∧ AR w' u' R C us ∧ (∀ b o, u'.A = some ⟨b, o, none⟩ → W.heap.size ≤ b) ∧ Below W.heap.size W w') := by
  obtain ⟨p, hlk, hp⟩ := hTS.look name y hf
  obtain ⟨p', hlk', -⟩ := (hTS.step (below_al W (.cells #[.int .i64 0, .string ⟨#[]⟩, .string ⟨#[]⟩, .string ⟨#[]⟩, .bool false, .int .i64 0, .int .i64 0, .int .i64 0, .slice none 0 0] 27))).look name y hf
  obtain rfl : p = p' := by
    obtain ⟨LV, g1, g2⟩ := hTS.ex
    obtain ⟨p2, g3, g4⟩ := ents_some name y LV tabL g2 hf
    have e1 := g1.look Tryz.underlying43 Tryz.underlying9 name _ g3
    have e2 := (g1.later (below_al W (.cells #[.int .i64 0, .string ⟨#[]⟩, .string ⟨#[]⟩, .string ⟨#[]⟩, .bool false, .int .i64 0, .int .i64 0, .int .i64 0, .slice none 0 0] 27))).look Tryz.underlying43 Tryz.underlying9 name _ g3
    rw [hlk] at e1
    rw [hlk'] at e2
    simp only [Result.ok.injEq, Value.tuple.injEq, Array.mk.injEq, List.cons.injEq, Value.agg.injEq, Value.func.injEq, Value.pointer.injEq, Option.some.injEq, Addr.mk.injEq, and_true, true_and] at e1 e2
    omega
  have HL0 := Lib.hid (((Loc.start W).alloc' rfl 27 #[.int .i64 0, .string ⟨#[]⟩, .string ⟨#[]⟩, .string ⟨#[]⟩, .bool false, .int .i64 0, .int .i64 0, .int .i64 0, .slice none 0 0]).alloc' (g := W.heap.size + 1) (by simp) 60 #[.int .i64 y.2.1, .int .i64 y.2.2.1, .string y.2.2.2.1, .func (.func 75) #[] #[.pointer (some ⟨p, 0, none⟩)]])
  have HLI0 := Lib.hid (hLI _ (W.heap.size + 1) p HL0.out.bel (HL0.out.blk (g := W.heap.size + 1) (t := 60) (List.mem_cons_self ..)) ((hp.alloc (.cells #[.int .i64 0, .string ⟨#[]⟩, .string ⟨#[]⟩, .string ⟨#[]⟩, .bool false, .int .i64 0, .int .i64 0, .int .i64 0, .slice none 0 0] 27)).alloc (.cells #[.int .i64 y.2.1, .int .i64 y.2.2.1, .string y.2.2.2.1, .func (.func 75) #[] #[.pointer (some ⟨p, 0, none⟩)]] 60)))
  clear hlk hp hLI hTS hf
  obtain ⟨yk, lo, hi, ks, fn⟩ := y
  dsimp only at h1 h2 hlk' HLI0 HL0
  have h1 : ¬ (n : Int) < lo := by omega
  have h2 : ¬ hi < (n : Int) := by omega
  go_enter Tryz.func16, Tryz.ntmps16
  have hmf : ∀ (fn : Fn) (first cap : Array Value) (w : World), (Instr.makeFunc fn first cap).run Tryz.prog w = .ok (.func fn first cap) w := fun _ _ _ _ => rfl
  go_upto_region 99 with (go_at_call 24; (with_reducible refine HLI0.out.mono ?_); rintro e w3 ⟨u', he, hr, hfr, hb⟩; have HRS := Lib.hid hr; obtain ⟨A2, n2, c2, rfl, hn2, -⟩ := hr.ex; have he : e = .returned (.tuple #[aV (R : Int) (C : Int) A2 n2 c2, .int .i64 0]) := he; subst he; have HL1 := Lib.hid (HL0.out.step hb); have HSA := Lib.hid hfr; clear hfr; have HBW := Lib.hid (HL1.out.blk (g := W.heap.size) (t := 27) (cs := #[.int .i64 0, .string ⟨#[]⟩, .string ⟨#[]⟩, .string ⟨#[]⟩, .bool false, .int .i64 0, .int .i64 0, .int .i64 0, .slice none 0 0]) (List.mem_cons_of_mem _ (List.mem_cons_self ..))); obtain ⟨f0, f1, f2, f3, f4, f5, f6, f7, f8⟩ := HBW.out.ninef; obtain ⟨z0, z1, z2, z3, z4, z5, z6, z7, z8⟩ := HBW.out.nine; clear hr hb HL0 hn2)
  clear f0 f1 f2 f3 f4 f5 f6 f7 f8 z0 z1 z2 z3 z4 z5 z6 z7 z8
  obtain ⟨q0, q1, q2, q3, q4, q5, q6, q7, q8⟩ := (HBW.out.nine_set (.int .i64 5) (.string ⟨#[]⟩) (.string ⟨#[]⟩) (.string ⟨#[]⟩) (.bool false) (.int .i64 0) (.int .i64 (R : Int)) (.int .i64 (C : Int)) (.slice A2 n2 c2)).1.nine
  have hcn := chg_nine w3 W.heap.size (.int .i64 5) (.string ⟨#[]⟩) (.string ⟨#[]⟩) (.string ⟨#[]⟩) (.bool false) (.int .i64 0) (.int .i64 (R : Int)) (.int .i64 (C : Int)) (.slice A2 n2 c2)
  have hfr := HSA.out
  have hsz : ((W.alloc (.cells #[.int .i64 0, .string ⟨#[]⟩, .string ⟨#[]⟩, .string ⟨#[]⟩, .bool false, .int .i64 0, .int .i64 0, .int .i64 0, .slice none 0 0] 27)).alloc (.cells #[.int .i64 lo, .int .i64 hi, .string ks, .func (.func 75) #[] #[.pointer (some ⟨p, 0, none⟩)]] 60)).heap.size = W.heap.size + 2 := by simp
  rw [hsz] at hfr
  refine bodyPost_ret (v := .tuple #[aV (R : Int) (C : Int) A2 n2 c2, .int .i64 0]) (by simp [results, Tryz.results16, go_sem, q0, q1, q2, q3, q4, q5, q6, q7, q8]) rfl ⟨arrU R C A2 n2 c2, rfl, HRS.out.same hcn.size (fun b o e hb => hcn.block b hb (by
    have := hfr b o e
    rw [List.mem_singleton]
    omega)), fun b o e => by have := hfr b o e; omega, HL1.out.bel.trans (hcn.below HL1.out.bel.size fun x hx => by rw [List.mem_singleton.1 hx]; exact Nat.le_refl _)⟩
set_option maxRecDepth 100000 in
set_option maxHeartbeats 8000000 in
theorem call_fk (W : World) (name : ByteArray) (y : EY) (hf : (tabL.find? fun y => sameT y.1 name) = some y) (A : Option Addr) (n c R C : Nat) (us : List Vl) (h1 : y.2.1 ≤ (n : Int)) (h2 : (n : Int) ≤ y.2.2.1)
    (hLI : ∀ W' x p, Below W.heap.size W W' → Blk W' x 60 #[.int .i64 y.2.1, .int .i64 y.2.2.1, .string y.2.2.2.1, .func (.func 75) #[] #[.pointer (some ⟨p, 0, none⟩)]] → Blk W' p 65 #[.func (.func y.2.2.2.2) #[] #[]] → Calls Tryz.prog 24 #[.string y.2.2.2.1, .slice A n c, .func (.func 25) #[] #[.pointer (some ⟨x, 0, none⟩)]] W' (fun e w' => ∃ u', e = .returned (.tuple #[u'.v, .int .i64 0]) ∧ AR w' u' R C us ∧ (∀ b o, u'.A = some ⟨b, o, none⟩ → W'.heap.size ≤ b) ∧ Below W'.heap.size W' w')) :
    Calls Tryz.prog 11 #[.string name, .slice A n c] W (fun e w' => ∃ u', e = .returned (.tuple #[u'.v, .int .i64 0]) ∧ AR w' u' R C us ∧ (∀ b o, u'.A = some ⟨b, o, none⟩ → W.heap.size ≤ b) ∧ Below W.heap.size W w') := by
  have HL0 := Lib.hid ((Loc.start W).alloc' rfl 27 #[.int .i64 0, .string ⟨#[]⟩, .string ⟨#[]⟩, .string ⟨#[]⟩, .bool false, .int .i64 0, .int .i64 0, .int .i64 0, .slice none 0 0])
  have HRU := Lib.hid fun w0 W1 b (hb : Below W.heap.size W W1) (hTS : TS w0 W1 b tabL) => run_fk w0 W1 b name y hTS hf A n c R C us h1 h2 (fun W' x p hW => hLI W' x p (hb.trans (hW.mono hb.size)))
  clear hLI hf h1 h2
  go_enter Tryz.func11, Tryz.ntmps11
  go_upto_region 99 with (first
    | (go_at_call 17; (with_reducible refine (table_any _).mono ?_); rintro e w2 ⟨b, rfl, hts⟩; have HL1 := Lib.hid (HL0.out.step hts.bel); have HTS := Lib.hid hts; clear hts HL0)
    | (go_at_call 16; (with_reducible refine (HRU.out _ _ _ HL1.out.bel HTS.out).mono ?_); rintro e w3 ⟨u', he, hr, hfr, hb⟩; have HRS := Lib.hid hr; obtain ⟨A2, n2, c2, rfl, hn2, -⟩ := hr.ex; have he : e = .returned (.tuple #[aV (R : Int) (C : Int) A2 n2 c2, .int .i64 0]) := he; subst he; have HLT := Lib.hid (HL1.out.lt (g := W.heap.size) (t := 27) (List.mem_cons_self ..)); have HL2 := Lib.hid (HL1.out.step hb); have HSA := Lib.hid hfr; have HBW := Lib.hid (HL2.out.blk (g := W.heap.size) (t := 27) (cs := #[.int .i64 0, .string ⟨#[]⟩, .string ⟨#[]⟩, .string ⟨#[]⟩, .bool false, .int .i64 0, .int .i64 0, .int .i64 0, .slice none 0 0]) (List.mem_cons_self ..)); obtain ⟨f0, f1, f2, f3, f4, f5, f6, f7, f8⟩ := HBW.out.ninef; obtain ⟨z0, z1, z2, z3, z4, z5, z6, z7, z8⟩ := HBW.out.nine; clear hr hb HL1 hn2 hfr))
  clear f0 f1 f2 f3 f4 f5 f6 f7 f8 z0 z1 z2 z3 z4 z5 z6 z7 z8
  obtain ⟨q0, q1, q2, q3, q4, q5, q6, q7, q8⟩ := (HBW.out.nine_set (.int .i64 5) (.string ⟨#[]⟩) (.string ⟨#[]⟩) (.string ⟨#[]⟩) (.bool false) (.int .i64 0) (.int .i64 (R : Int)) (.int .i64 (C : Int)) (.slice A2 n2 c2)).1.nine
  have hcn := chg_nine w3 W.heap.size (.int .i64 5) (.string ⟨#[]⟩) (.string ⟨#[]⟩) (.string ⟨#[]⟩) (.bool false) (.int .i64 0) (.int .i64 (R : Int)) (.int .i64 (C : Int)) (.slice A2 n2 c2)
  have hfr := HSA.out
  have hlt := HLT.out
  refine bodyPost_ret (v := .tuple #[aV (R : Int) (C : Int) A2 n2 c2, .int .i64 0]) (by simp [results, Tryz.results11, go_sem, q0, q1, q2, q3, q4, q5, q6, q7, q8]) rfl ⟨arrU R C A2 n2 c2, rfl, HRS.out.same hcn.size (fun b o e hb => hcn.block b hb (by
    have := hfr b o e
    rw [List.mem_singleton]
    omega)), fun b o e => by have := hfr b o e; omega, HL2.out.bel.trans (hcn.below HL2.out.bel.size fun x hx => by rw [List.mem_singleton.1 hx]; exact Nat.le_refl _)⟩
set_option maxRecDepth 100000 in
set_option maxHeartbeats 8000000 in
theorem look_fk (W : World) (name : ByteArray) (y : EY) (hf : (tabL.find? fun y => sameT y.1 name) = some y) (A : Option Addr) (n c R C : Nat) (us : List Vl) (h1 : y.2.1 ≤ (n : Int)) (h2 : (n : Int) ≤ y.2.2.1)
    (hLI : ∀ W' x p, Below W.heap.size W W' → Blk W' x 60 #[.int .i64 y.2.1, .int .i64 y.2.2.1, .string y.2.2.2.1, .func (.func 75) #[] #[.pointer (some ⟨p, 0, none⟩)]] → Blk W' p 65 #[.func (.func y.2.2.2.2) #[] #[]] → Calls Tryz.prog 24 #[.string y.2.2.2.1, .slice A n c, .func (.func 25) #[] #[.pointer (some ⟨x, 0, none⟩)]] W' (fun e w' => ∃ u', e = .returned (.tuple #[u'.v, .int .i64 0]) ∧ AR w' u' R C us ∧ (∀ b o, u'.A = some ⟨b, o, none⟩ → W'.heap.size ≤ b) ∧ Below W'.heap.size W' w')) :
    Calls Tryz.prog 7 #[.string name, .slice A n c] W fun e w' => ∃ u', e = .returned u'.v ∧ AR w' u' R C us ∧ (∀ b o, u'.A = some ⟨b, o, none⟩ → W.heap.size ≤ b) ∧ Below W.heap.size W w' := by
  have HL0 := Lib.hid ((Loc.start W).alloc' rfl 27 #[.int .i64 0, .string ⟨#[]⟩, .string ⟨#[]⟩, .string ⟨#[]⟩, .bool false, .int .i64 0, .int .i64 0, .int .i64 0, .slice none 0 0])
  have HCA := Lib.hid (call_fk (W.alloc (.cells #[.int .i64 0, .string ⟨#[]⟩, .string ⟨#[]⟩, .string ⟨#[]⟩, .bool false, .int .i64 0, .int .i64 0, .int .i64 0, .slice none 0 0] 27)) name y hf A n c R C us h1 h2 (fun W' x p hW => hLI W' x p (HL0.out.step hW).bel))
  clear hLI hf h1 h2
  go_enter Tryz.func7, Tryz.ntmps7
  go_upto_region 2 with (go_at_call 11; (with_reducible refine HCA.out.mono ?_); rintro e w3 ⟨u', he, hr, hfr, hb⟩; have HRS := Lib.hid hr; obtain ⟨A2, n2, c2, rfl, hn2, -⟩ := hr.ex; have he : e = .returned (.tuple #[aV (R : Int) (C : Int) A2 n2 c2, .int .i64 0]) := he; subst he; have HL2 := Lib.hid (HL0.out.step hb); have HSA := Lib.hid hfr; clear hr hb HL0 hn2 hfr)
  have HRS4 := Lib.hid (HRS.out.below (below_al w3 (.cells #[.int .i64 5, .string ⟨#[]⟩, .string ⟨#[]⟩, .string ⟨#[]⟩, .bool false, .int .i64 0, .int .i64 (R : Int), .int .i64 (C : Int), .slice A2 n2 c2] 27)))
  obtain ⟨X, hX⟩ : ∃ X, X = w3.heap.size := ⟨_, rfl⟩
  have HL3 := Lib.hid (HL2.out.alloc' hX.symm 27 #[.int .i64 5, .string ⟨#[]⟩, .string ⟨#[]⟩, .string ⟨#[]⟩, .bool false, .int .i64 0, .int .i64 (R : Int), .int .i64 (C : Int), .slice A2 n2 c2])
  have hsz : (W.alloc (.cells #[.int .i64 0, .string ⟨#[]⟩, .string ⟨#[]⟩, .string ⟨#[]⟩, .bool false, .int .i64 0, .int .i64 0, .int .i64 0, .slice none 0 0] 27)).heap.size = W.heap.size + 1 := by simp
  have hfr := HSA.out
  rw [hsz] at hfr
  have HFR := Lib.hid hfr
  clear HRS HL2 hsz HSA hfr HCA
  rw [← hX]
  revert HRS4 HL3
  generalize w3.alloc (.cells #[.int .i64 5, .string ⟨#[]⟩, .string ⟨#[]⟩, .string ⟨#[]⟩, .bool false, .int .i64 0, .int .i64 (R : Int), .int .i64 (C : Int), .slice A2 n2 c2] 27) = w4
  intro HRS4 HL3
  clear hX
  obtain ⟨k0, k1, k2, k3, k4, k5, k6, k7, k8⟩ := (HL3.out.blk (g := X) (t := 27) (List.mem_cons_self ..)).nine
  have HBW := Lib.hid (HL3.out.blk (g := W.heap.size) (t := 27) (cs := #[.int .i64 0, .string ⟨#[]⟩, .string ⟨#[]⟩, .string ⟨#[]⟩, .bool false, .int .i64 0, .int .i64 0, .int .i64 0, .slice none 0 0]) (List.mem_cons_of_mem _ (List.mem_cons_self ..)))
  obtain ⟨f0, f1, f2, f3, f4, f5, f6, f7, f8⟩ := HBW.out.ninef
  obtain ⟨z0, z1, z2, z3, z4, z5, z6, z7, z8⟩ := HBW.out.nine
  go_upto_region 99 with fail
  clear k0 k1 k2 k3 k4 k5 k6 k7 k8
  clear f0 f1 f2 f3 f4 f5 f6 f7 f8 z0 z1 z2 z3 z4 z5 z6 z7 z8
  obtain ⟨q0, q1, q2, q3, q4, q5, q6, q7, q8⟩ := (HBW.out.nine_set (.int .i64 5) (.string ⟨#[]⟩) (.string ⟨#[]⟩) (.string ⟨#[]⟩) (.bool false) (.int .i64 0) (.int .i64 (R : Int)) (.int .i64 (C : Int)) (.slice A2 n2 c2)).1.nine
  have hcn := chg_nine w4 W.heap.size (.int .i64 5) (.string ⟨#[]⟩) (.string ⟨#[]⟩) (.string ⟨#[]⟩) (.bool false) (.int .i64 0) (.int .i64 (R : Int)) (.int .i64 (C : Int)) (.slice A2 n2 c2)
  have hfr := HFR.out
  refine bodyPost_ret (v := aV (R : Int) (C : Int) A2 n2 c2) (by simp [results, Tryz.results7, go_sem, q0, q1, q2, q3, q4, q5, q6, q7, q8]) rfl ⟨arrU R C A2 n2 c2, rfl, HRS4.out.same hcn.size (fun b o e hb => hcn.block b hb (by
    have := hfr b o e
    rw [List.mem_singleton]
    omega)), fun b o e => by have := hfr b o e; omega, HL3.out.bel.trans (hcn.below HL3.out.bel.size fun x hx => by rw [List.mem_singleton.1 hx]; exact Nat.le_refl _)⟩
end Go.Proofs.YtllhefjblipddaaGreatDoor
