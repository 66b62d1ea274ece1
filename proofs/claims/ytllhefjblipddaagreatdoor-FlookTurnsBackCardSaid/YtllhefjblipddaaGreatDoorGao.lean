/- flook: a row; some rows of an array. -/
import Derived.Test.YtllhefjblipddaaGreatDoorGan
import Derived.Test.YtllhefjblipddaaGreatDoorPvW
import Derived.Test.YtllhefjblipddaaGreatDoorGal
import Derived.Test.YtllhefjblipddaaGreatDoorGah
import Derived.Test.YtllhefjblipddaaGreatDoorGam
set_option linter.unusedSimpArgs false
set_option linter.unusedVariables false
namespace Go.Proofs.YtllhefjblipddaaGreatDoor
open Go.RowKit

set_option maxRecDepth 100000 in
theorem row_a (R C n i x : Nat) (b o cc : Nat) (W : World) (hx : x = i * C) (hi : x + C ≤ n) (hc : n ≤ cc) (c1 : 1 ≤ C) (hb : n ≤ 100000) : Calls Tryz.prog 85 #[gV R C (some ⟨b, o, none⟩) n cc, .int .i64 (i : Int)] W fun e w' => e = .returned (.slice (some ⟨b, o + x * 9, none⟩) C (cc - x)) ∧ Below W.heap.size W w' := by
  have m1 : IntKind.i64.wrap ((i : Int) * (C : Int)) = (x : Int) := by
    have e : (i : Int) * (C : Int) = (x : Int) := by rw [hx, Int.natCast_mul]
    rw [e]
    exact IntWalk.i64_in _ (by omega)
  obtain ⟨y, hy⟩ : ∃ y, y = x + C := ⟨_, rfl⟩
  have hiC : i ≤ 100000 := by
    have := Nat.le_mul_of_pos_right i c1
    omega
  have i1 : IntKind.i64.wrap ((i : Int) + 1) = (i : Int) + 1 := IntWalk.i64_in _ (by omega)
  have m2 : IntKind.i64.wrap (((i : Int) + 1) * (C : Int)) = (y : Int) := by
    have e : ((i : Int) + 1) * (C : Int) = (y : Int) := by
      rw [hy, hx, Int.add_mul, Int.one_mul]
      simp
    rw [e]
    exact IntWalk.i64_in _ (by omega)
  have HY := Lib.hid hy
  have y1 : (y : Int).toNat = y := by omega
  have y2 : (x : Int).toNat = x := by omega
  have y3 : ¬ cc = x := by omega
  have y4 : (y : Int) ≤ (cc : Int) := by omega
  have y5 : (x : Int) ≤ max (y : Int) 0 := by omega
  have y6 : 0 ≤ (y : Int) := by omega
  have y7 : 0 ≤ (x : Int) := by omega
  have y8 : (x : Int) ≤ (y : Int) := by omega
  have y9 : x ≤ y := by omega
  have y10 : y ≤ cc := by omega
  have y11 : y - x = C := by omega
  clear hx hy hiC
  go_enter Tryz.func85, Tryz.ntmps85
  go_wp2_with fail
  go_ret
  exact ⟨rfl, below_al _ _⟩
/-- A part of a slice reads as that part of the list. -/
theorem reads_part {α : Type} {size : Nat} {f : α → List Value} {W : World} {b o n c : Nat} {l : List α} (h : Reads size f W (.slice (some ⟨b, o, none⟩) n c) l) (h0 : 0 < n) (k q c' : Nat) (hk : k + q ≤ n) (hc : q ≤ c') : Reads size f W (.slice (some ⟨b, o + k * size, none⟩) q c') ((l.drop k).take q) := by
  obtain ⟨hl, hb, hr⟩ := h.lt h0
  have hq : ((l.drop k).take q).length = q := by
    rw [List.length_take, List.length_drop]
    omega
  refine ⟨_, c', by rw [hq], by omega, (fun h => by cases h), fun _ => ⟨b, o + k * size, rfl, hb, fun i hi j hj => ?_⟩⟩
  have hi' : i < q := by rw [hq] at hi; exact hi
  have := hr (k + i) (by omega) j hj
  rw [Nat.add_mul] at this
  rw [List.getElem_take, List.getElem_drop, ← this, Nat.add_assoc o, Nat.add_assoc (k * size)]
theorem reads_cap {α : Type} {size : Nat} {f : α → List Value} {W : World} {A : Option Addr} {n c : Nat} {l : List α} (h : Reads size f W (.slice A n c) l) : n ≤ c := by
  obtain ⟨A', c', e, h1, -⟩ := h
  injection e with e1 e2 e3
  omega
set_option maxRecDepth 100000 in
set_option maxHeartbeats 8000000 in
theorem picked_a (R C n m n' f0 : Nat) (b o cc : Nat) (A2 : Option Addr) (c2 : Nat) (us : List Vl) (W : World) (hn : n = R * C) (hn' : n' = m * C) (r1 : 1 ≤ R) (r2 : R ≤ 1000) (c1 : 1 ≤ C) (hC : C ≤ 100) (hT : n ≤ 100000) (hU : Reads 9 csV W (.slice (some ⟨b, o, none⟩) n cc) us) (m1 : 1 ≤ m) (hf : f0 + m ≤ R) (hZ : Reads 1 (fun z : Int => [Value.int .i64 z]) W (.slice A2 m c2) ((List.range m).map fun (j : Nat) => ((f0 + j : Nat) : Int))) : Calls Tryz.prog 90 #[gV R C (some ⟨b, o, none⟩) n cc, .slice A2 m c2] W fun e w' => ∃ g c', e = .returned (gV m C (some ⟨g, 0, none⟩) n' c') ∧ Reads 9 csV w' (.slice (some ⟨g, 0, none⟩) n' c') (rowsL C f0 m us) ∧ W.heap.size ≤ g ∧ Below W.heap.size W w' := by
  have hul : us.length = n := (hU.lt (by rw [hn]; exact Nat.mul_pos r1 c1)).1
  have hcap := reads_cap hU
  have HLN := Lib.hid (show ∀ j, j ≤ m → (rowsL C f0 j us).length = j * C from fun j hj => rowsL_len C f0 j us (by rw [hul, hn]; exact Nat.mul_le_mul_right C (by omega)))
  have HJC := Lib.hid (show ∀ j, j ≤ m → j * C ≤ n from fun j hj => by rw [hn]; exact Nat.mul_le_mul_right C (by omega))
  have HXB := Lib.hid (show ∀ j, j < m → (f0 + j) * C + C ≤ n from fun j hj => by
    have h := Nat.mul_le_mul_right C (show f0 + j + 1 ≤ R by omega)
    rw [Nat.add_mul, Nat.one_mul] at h
    rw [hn]
    exact h)
  have HZC := Lib.hid (show ∀ j, j < m → ∃ b o, A2 = some ⟨b, o, none⟩ ∧ ∀ W', Below W.heap.size W W' → W'.cell? ⟨b, o + j, none⟩ = some (.int .i64 ((f0 + j : Nat) : Int)) from fun j hj => by
    obtain ⟨A', c', e, -, -, h3⟩ := hZ
    injection e with e1 e2 e3
    obtain ⟨b, o, e4, hb, hc⟩ := h3 (by simp; omega)
    refine ⟨b, o, e1.trans e4, fun W' hW => (hW.cell (by exact hb)).trans ?_⟩
    have := hc j (by simpa using hj) 0 (by decide)
    rw [show o + (j * 1 + 0) = o + j by omega] at this
    rw [this, List.getElem_map, List.getElem_range]
    rfl)
  have HU := Lib.hid hU
  have HN' := Lib.hid hn'
  have HC := Lib.hid hcap
  obtain ⟨dd, hdd, d5⟩ : ∃ dd : Int, IntKind.i64.wrap ((100000 : Int).tdiv (C : Int)) = dd ∧ ¬ dd < (m : Int) := by
    have e2 : (100000 : Int).tdiv (C : Int) = 100000 / (C : Int) := Int.tdiv_eq_ediv_of_nonneg (by decide)
    have e3 : (1000 : Int) ≤ 100000 / (C : Int) := by
      rw [Int.le_ediv_iff_mul_le (by omega)]
      omega
    have e4 : 100000 / (C : Int) ≤ 100000 := Int.ediv_le_self _ (by decide)
    exact ⟨_, rfl, by rw [e2, IntWalk.i64_in _ (by omega)]; omega⟩
  have HL0 := Lib.hid ((((Loc.start W).alloc' rfl 69 #[.int .i64 (R : Int), .int .i64 (C : Int), .slice (some ⟨b, o, none⟩) n cc]).alloc' (g := W.heap.size + 1) (by simp) 69 #[.int .i64 0, .int .i64 0, .slice none 0 0]).alloc' (g := W.heap.size + 1 + 1) (by simp) 69 #[.int .i64 (m : Int), .int .i64 (C : Int), .slice none 0 0])
  have HS0 := Lib.hid (show W.heap.size + 3 ≤ (((W.alloc (.cells #[.int .i64 (R : Int), .int .i64 (C : Int), .slice (some ⟨b, o, none⟩) n cc] 69)).alloc (.cells #[.int .i64 0, .int .i64 0, .slice none 0 0] 69)).alloc (.cells #[.int .i64 (m : Int), .int .i64 (C : Int), .slice none 0 0] 69)).heap.size from by simp)
  have cz : ¬ C = 0 := by omega
  have cz2 : ¬ (C : Int) = 0 := by omega
  have cp : 0 < C := by omega
  have cp2 : 0 < (C : Int) := by omega
  clear hU hZ hn hn' hcap hul
  go_enter Tryz.func90, Tryz.ntmps90
  go_upto_region 2 with fail
  revert HL0 HS0
  generalize ((W.alloc (.cells #[.int .i64 (R : Int), .int .i64 (C : Int), .slice (some ⟨b, o, none⟩) n cc] 69)).alloc (.cells #[.int .i64 0, .int .i64 0, .slice none 0 0] 69)).alloc (.cells #[.int .i64 (m : Int), .int .i64 (C : Int), .slice none 0 0] 69) = W1
  intro HL0 HS0
  have HCL := Lib.hid (show ∀ w' v, Loc W [(W.heap.size + 1 + 1, 69, #[.int .i64 (m : Int), .int .i64 (C : Int), v]), (W.heap.size + 1, 69, #[.int .i64 0, .int .i64 0, .slice none 0 0]), (W.heap.size, 69, #[.int .i64 (R : Int), .int .i64 (C : Int), .slice (some ⟨b, o, none⟩) n cc])] w' → w'.cell? ⟨W.heap.size, 0, none⟩ = some (.int .i64 (R : Int)) ∧ w'.cell? ⟨W.heap.size, 1, none⟩ = some (.int .i64 (C : Int)) ∧ w'.cell? ⟨W.heap.size, 2, none⟩ = some (.slice (some ⟨b, o, none⟩) n cc) ∧ w'.cell? ⟨W.heap.size + 1 + 1, 2, none⟩ = some v from fun w' v h => by
    have h1 := h.blk (g := W.heap.size) (t := 69) (List.mem_cons_of_mem _ (List.mem_cons_of_mem _ (List.mem_cons_self ..)))
    have h2 := h.blk (g := W.heap.size + 1 + 1) (t := 69) (List.mem_cons_self ..)
    exact ⟨h1.cell 0, h1.cell 1, h1.cell 2, h2.cell 2⟩)
  obtain ⟨g0, g1, g2, v2⟩ := HCL.out _ _ HL0.out
  go_upto_block 0 with (go_at_call 81; (with_reducible refine (stop_f _ _).mono ?_); rintro e wq ⟨rfl, rfl⟩)
  clear g0 g1 g2 v2 cz cz2 cp cp2 d5 hdd
  go_cut [27] (fun u27 wz => ∃ v, Hid (Loc W [(W.heap.size + 1 + 1, 69, #[.int .i64 (m : Int), .int .i64 (C : Int), v]), (W.heap.size + 1, 69, #[.int .i64 0, .int .i64 0, .slice none 0 0]), (W.heap.size, 69, #[.int .i64 (R : Int), .int .i64 (C : Int), .slice (some ⟨b, o, none⟩) n cc])] wz) ∧ Hid (RowOf 27 9 csV wz (W.heap.size + 3) v (rowsL C f0 m us)))
  case first =>
    go_wp2_with fail
    go_loopw [27] (fun u27 wz => ∃ (j : Nat) (v : Value), j ≤ m ∧ u27 = .int .i64 (j : Int) ∧ Hid (Loc W [(W.heap.size + 1 + 1, 69, #[.int .i64 (m : Int), .int .i64 (C : Int), v]), (W.heap.size + 1, 69, #[.int .i64 0, .int .i64 0, .slice none 0 0]), (W.heap.size, 69, #[.int .i64 (R : Int), .int .i64 (C : Int), .slice (some ⟨b, o, none⟩) n cc])] wz) ∧ Hid (RowOf 27 9 csV wz (W.heap.size + 3) v (rowsL C f0 j us)) ∧ Hid (W.heap.size + 3 ≤ wz.heap.size)) (fun u _ => m - (intOf u).toNat)
    case atStart => exact ⟨0, .slice none 0 0, by omega, rfl, HL0, Lib.hid (by rw [rowsL_zero]; exact RowOf.nil _ _), HS0⟩
    case round =>
      clear HL0 HS0
      obtain ⟨j, v, hj, rfl, HL, HO, HS⟩ := hrel
      by_cases hlt : j < m
      · have hlz : (j : Int) < (m : Int) := by omega
        have j0 : 0 ≤ (j : Int) := by omega
        obtain ⟨g0, g1, g2, v2⟩ := HCL.out _ _ HL.out
        have j1 : IntKind.i64.wrap ((j : Int) + 1) = (j : Int) + 1 := IntWalk.i64_in _ (by omega)
        obtain ⟨zb, zo, rfl, hzc⟩ := HZC.out j hlt
        have z0 := hzc wr HL.out.bel
        obtain ⟨q, hq⟩ : ∃ q, q = f0 + j := ⟨_, rfl⟩
        rw [← hq] at z0
        obtain ⟨x, hx⟩ : ∃ x, x = q * C := ⟨_, rfl⟩
        have hxn := HXB.out j hlt
        rw [← hq, ← hx] at hxn
        have HRW := Lib.hid fun W' => row_a R C n q x b o cc W' hx hxn HC.out c1 hT
        have hst := rowsL_step C f0 j us
        rw [← hq, ← hx] at hst
        have HST := Lib.hid hst
        have hjc := HJC.out j hj
        have HLW := Lib.hid (HLN.out j hj)
        obtain ⟨LL, hLL⟩ : ∃ LL, LL = rowsL C f0 j us := ⟨_, rfl⟩
        rw [← hLL] at HO HST HLW
        have HRD := Lib.hid (show ∀ W', Below W.heap.size W W' → Reads 9 csV W' (.slice (some ⟨b, o + x * 9, none⟩) C (cc - x)) ((us.drop x).take C) from fun W' hW => reads_part (HU.out.below hW) (by omega) x C (cc - x) hxn (by have := HC.out; omega))
        have hml : ((us.drop x).take C).length = C := by
          have := (HU.out.lt (by omega)).1
          rw [List.length_take, List.length_drop]
          omega
        obtain ⟨MM, hMM⟩ : ∃ MM, MM = (us.drop x).take C := ⟨_, rfl⟩
        rw [← hMM] at HRD hml HST
        have HML := Lib.hid hml
        clear hLL hMM hml hst hx hq hzc
        have HPT := Lib.hid (show ∀ w2 w' v', Loc W [(W.heap.size + 1 + 1, 69, #[.int .i64 (m : Int), .int .i64 (C : Int), v]), (W.heap.size + 1, 69, #[.int .i64 0, .int .i64 0, .slice none 0 0]), (W.heap.size, 69, #[.int .i64 (R : Int), .int .i64 (C : Int), .slice (some ⟨b, o, none⟩) n cc])] w2 → RowOf 27 9 csV w' (W.heap.size + 3) v' (LL ++ MM) → Below (W.heap.size + 3) w2 w' → W.heap.size + 3 ≤ w2.heap.size → (w'.cell? ⟨W.heap.size + 1 + 1, 2, none⟩ = some v ∧ w'.frozen? ⟨W.heap.size + 1 + 1, 2, none⟩ = false) ∧ Loc W [(W.heap.size + 1 + 1, 69, #[.int .i64 (m : Int), .int .i64 (C : Int), v']), (W.heap.size + 1, 69, #[.int .i64 0, .int .i64 0, .slice none 0 0]), (W.heap.size, 69, #[.int .i64 (R : Int), .int .i64 (C : Int), .slice (some ⟨b, o, none⟩) n cc])] (w'.setCell ⟨W.heap.size + 1 + 1, 2, none⟩ v') ∧ RowOf 27 9 csV (w'.setCell ⟨W.heap.size + 1 + 1, 2, none⟩ v') (W.heap.size + 3) v' (LL ++ MM) ∧ W.heap.size + 3 ≤ (w'.setCell ⟨W.heap.size + 1 + 1, 2, none⟩ v').heap.size from fun w2 w' v' hl ho hb hs => by
          have hl2 := hl.stepB' hb (by omega) (fun x hx => by
            simp only [List.mem_cons, List.not_mem_nil, or_false] at hx
            rcases hx with rfl | rfl | rfl <;> dsimp only <;> omega)
          have hz := hl2.blk (g := W.heap.size + 1 + 1) (t := 69) (List.mem_cons_self ..)
          refine ⟨⟨hz.cell 2, hz.frozen 2⟩, hl2.set1 (i := 2) (fun x hx => ?_) v', RowOf.far ho (fun g hg e => ?_) v', ?_⟩
          · simp only [List.mem_cons, List.not_mem_nil, or_false] at hx
            rcases hx with rfl | rfl <;> dsimp only <;> omega
          · have h1 := (RowOf.lt ho g hg).1
            have e : g = W.heap.size + 1 + 1 := e
            omega
          · have h1 := hb.size
            simp only [World.setCell, Array.size_modify]
            omega)
        go_upto_region 6 with fail
        go_region_law (first
          | (go_simp; go_at_call 85; (with_reducible refine (HRW.out _).mono ?_); rintro e w3 ⟨rfl, hb⟩; have hb := (Below.refl wr.heap.size wr).drew.trans hb; have HL3 := Lib.hid (HL.out.step hb); have HO3 := Lib.hid (RowOf.later HO.out hb); have HS3 := Lib.hid (Nat.le_trans HS.out hb.size); have v3 := (HCL.out _ _ HL3.out).2.2.2; have HRD3 := Lib.hid (HRD.out _ HL3.out.bel); rw [← HML.out] at HRD3; clear hb v2 g0 g1 g2)
          | (refine step_rowN 25 27 9 112 csV _ Tryz.underlying25 val_info rfl (by decide) csV_one rfl (.tmp 32) (.tmp 35) rfl (W.heap.size + 3) v LL rfl HO3.out MM b (o + x * 9) (cc - x) (by rw [HML.out]; rfl) (by rw [HML.out] at HRD3 ⊢; exact HRD3.out) (by rw [HML.out]; omega) (by have := HLW.out; have := HML.out; omega) (by have := HLW.out; have := HML.out; unfold maxLen; omega) HS3.out ?_; intro gx cx w4 ho hb hgr; have HX := Lib.hid (HPT.out _ _ _ HL3.out ho hb HS3.out); have s8 := HX.out.1.1; have t8 := HX.out.1.2; clear ho hb hgr))
        all_goals
          clear s8 t8
          go_wp2_with fail
          go_roundw
          case rel => exact ⟨j + 1, _, by omega, by go_num, Lib.hid HX.out.2.1, Lib.hid (by have := HX.out.2.2.1; rw [← HST.out] at this; exact this), Lib.hid HX.out.2.2.2⟩
          case measure => simp [intOf]; omega
      · obtain rfl : j = m := by omega
        go_wp2_with fail
        go_meet
        exact ⟨v, HL, HO⟩
  case rest =>
    obtain ⟨v, HL9, HO9⟩ := hcut
    have hlm := HLN.out m (Nat.le_refl _)
    have hp : 0 < m * C := Nat.mul_pos m1 c1
    obtain ⟨g, c', hv, hg, -⟩ := HO9.out.form (by rw [hlm]; exact hp)
    rw [hlm, ← HN'.out] at hv
    subst hv
    have hne : ∀ g', Value.ownBlock (.slice (some ⟨g, 0, none⟩) n' c') = some g' → g' ≠ W.heap.size + 1 := fun g' e => by
      injection e with e
      have e : g = g' := e
      omega
    have HRD := Lib.hid (RowOf.reads (((HO9.out.far (p := ⟨W.heap.size + 1, 0, none⟩) hne (.int .i64 (m : Int))).far (p := ⟨W.heap.size + 1, 1, none⟩) hne (.int .i64 (C : Int))).far (p := ⟨W.heap.size + 1, 2, none⟩) hne (.slice (some ⟨g, 0, none⟩) n' c')) csV_len)
    obtain ⟨g0, g1, g2, -⟩ := (HL9.out.blk (g := W.heap.size + 1 + 1) (t := 69) (List.mem_cons_self ..)).three
    have hb1 := HL9.out.blk (g := W.heap.size + 1) (t := 69) (List.mem_cons_of_mem _ (List.mem_cons_self ..))
    obtain ⟨z0, z1, z2, f0', f1, f2⟩ := hb1.three
    have HB1 := Lib.hid hb1
    clear hb1 hne hlm hp
    go_upto_region 99 with fail
    clear g0 g1 g2 z0 z1 z2 f0' f1 f2
    obtain ⟨q0, q1, q2, -⟩ := (HB1.out.three_set (.int .i64 (m : Int)) (.int .i64 (C : Int)) (.slice (some ⟨g, 0, none⟩) n' c')).1.three
    refine bodyPost_ret (v := gV m C (some ⟨g, 0, none⟩) n' c') (by simp [results, Tryz.results90, go_sem, q0, q1, q2]) rfl ⟨g, c', rfl, HRD.out, by omega, below_three HL9.out.bel (by omega) _ _ _⟩
end Go.Proofs.YtllhefjblipddaaGreatDoor

namespace Go.Proofs.YtllhefjblipddaaGreatDoor
open Go.RowKit

set_option maxRecDepth 100000 in
set_option maxHeartbeats 8000000 in
theorem kept_any (all n f0 m : Nat) (tk : Bool) (W : World) (ha : all ≤ 1000) (h : tk = true ∧ 0 < n ∧ n ≤ all ∧ f0 = 0 ∧ m = n ∨ n = 0 ∧ f0 = 0 ∧ m = all ∨ tk = false ∧ 0 < n ∧ n ≤ all ∧ f0 = n ∧ m = all - n) : Calls Tryz.prog 89 #[.int .i64 (all : Int), .int .i64 (n : Int), .bool tk] W fun e w' => ∃ v, e = .returned v ∧ R1 3 .i64 w' W.heap.size v ((List.range m).map fun j => f0 + j) ∧ Below W.heap.size W w' := by
  obtain ⟨f1, hf1⟩ : ∃ f1, f1 = f0 + m := ⟨_, rfl⟩
  have hb : f1 ≤ 1000 := by omega
  go_enter Tryz.func89, Tryz.ntmps89
  go_upto_block 0 with fail
  go_cut [7, 8] (fun u7 u8 wz => u7 = .int .i64 (f0 : Int) ∧ u8 = .int .i64 (f1 : Int) ∧ W = wz)
  case first =>
    rcases h with ⟨rfl, h1, h2, rfl, rfl⟩ | ⟨rfl, rfl, rfl⟩ | ⟨rfl, h1, h2, rfl, rfl⟩
    · have g1 : (0 : Int) < (m : Int) := by omega
      have g2 : min (m : Int) (all : Int) = (m : Int) := by omega
      have e : f1 = m := by omega
      clear h1 h2 hf1
      subst e
      go_wp2_with fail
      go_meet
      exact ⟨rfl, rfl, rfl⟩
    · have e : f1 = m := by omega
      clear hf1
      subst e
      cases tk
      · go_wp2_with fail
        go_meet
        exact ⟨rfl, rfl, rfl⟩
      · go_wp2_with fail
        go_meet
        exact ⟨rfl, rfl, rfl⟩
    · have g1 : (0 : Int) < (f0 : Int) := by omega
      have g2 : min (f0 : Int) (all : Int) = (f0 : Int) := by omega
      have e : f1 = all := by omega
      clear h1 h2 hf1
      subst e
      go_wp2_with fail
      go_meet
      exact ⟨rfl, rfl, rfl⟩
  case rest =>
    obtain ⟨rfl, rfl, rfl⟩ := hcut
    clear h
    go_upto_block 1 with fail
    go_cut [9, 10] (fun u9 u10 wz => ∃ v, u9 = v ∧ Hid (R1 3 .i64 wz W.heap.size v ((List.range m).map fun j => f0 + j)) ∧ Hid (Below W.heap.size W wz))
    case first =>
      go_wp2_with fail
      go_loopw [9, 10] (fun u9 u10 wz => ∃ j : Nat, j ≤ m ∧ u10 = .int .i64 ((f0 + j : Nat) : Int) ∧ Hid (R1 3 .i64 wz W.heap.size u9 ((List.range j).map fun j => f0 + j)) ∧ Hid (Below W.heap.size W wz)) (fun _ u _ => f1 - (intOf u).toNat)
      case atStart => exact ⟨0, by omega, by first | rfl | simp, Lib.hid (R1.nil _ _), Lib.hid (Below.refl _ _)⟩
      case round =>
        obtain ⟨j, hj, rfl, HO, HB⟩ := hrel
        by_cases hlt : j < m
        · obtain ⟨q, hq⟩ : ∃ q, q = f0 + j := ⟨_, rfl⟩
          rw [← hq]
          have hlz : (q : Int) < (f1 : Int) := by omega
          have q1 : IntKind.i64.wrap ((q : Int) + 1) = (q : Int) + 1 := IntWalk.i64_in _ (by omega)
          have HQ := Lib.hid hq
          have HF := Lib.hid hf1
          have hll : ((List.range j).map fun j => f0 + j).length = j := by simp
          obtain ⟨LL, hLL⟩ : ∃ LL, LL = (List.range j).map fun j => f0 + j := ⟨_, rfl⟩
          have HLL := Lib.hid hLL
          rw [← hLL] at HO hll
          have HLW := Lib.hid hll
          clear hq hf1 hLL hll
          go_wp2_with (at_builtin; go_loud (refine wp_appI rfl _ _ rfl W.heap.size _ LL rfl HO.out (q : Int) q rfl rfl (by have := HLW.out; have := HQ.out; omega) HB.out.size ?_; intro v3 w3 ho hb _; have HO3 := Lib.hid ho; have HB3 := Lib.hid (HB.out.trans hb); clear ho hb))
          go_roundw
          case rel => exact ⟨j + 1, by omega, by have := HQ.out; go_num, Lib.hid (by have := HO3.out; rw [HLL.out, HQ.out] at this; rw [List.range_succ, List.map_append]; exact this), HB3⟩
          case measure => have := HQ.out; have := HF.out; simp [intOf]; omega
        · obtain rfl : j = m := by omega
          rw [← hf1]
          go_wp2_with fail
          go_meet
          exact ⟨_, rfl, HO, HB⟩
    case rest =>
      obtain ⟨v, rfl, HO, HB⟩ := hcut
      go_wp2_with fail
      go_ret
      exact ⟨_, rfl, HO.out, HB.out⟩
end Go.Proofs.YtllhefjblipddaaGreatDoor

namespace Go.Proofs.YtllhefjblipddaaGreatDoor
open Go.RowKit

/-- Nine cells of a block of the list are written. -/
theorem Loc.set9k {w W : World} {L : List (Nat × TypeId × Array Value)} {g : Nat} {t : TypeId} {x0 x1 x2 x3 x4 x5 x6 x7 x8 : Value} (h : Loc w ((g, t, #[x0, x1, x2, x3, x4, x5, x6, x7, x8]) :: L) W) (hne : ∀ x ∈ L, x.1 ≠ g) (y0 y1 y2 y3 y4 y5 y6 y7 y8 : Value) : Loc w ((g, t, #[y0, y1, y2, y3, y4, y5, y6, y7, y8]) :: L) (((((((((W.setCell ⟨g, 0, none⟩ y0).setCell ⟨g, 1, none⟩ y1).setCell ⟨g, 2, none⟩ y2).setCell ⟨g, 3, none⟩ y3).setCell ⟨g, 4, none⟩ y4).setCell ⟨g, 5, none⟩ y5).setCell ⟨g, 6, none⟩ y6).setCell ⟨g, 7, none⟩ y7).setCell ⟨g, 8, none⟩ y8) :=
  ⟨below_nine h.1 (h.2 _ (List.mem_cons_self ..)).1 y0 y1 y2 y3 y4 y5 y6 y7 y8, fun x hx => by
    rcases List.mem_cons.1 hx with rfl | hx
    · exact ⟨(h.2 _ (List.mem_cons_self ..)).1, ((h.2 _ (List.mem_cons_self ..)).2.nine_set y0 y1 y2 y3 y4 y5 y6 y7 y8).1⟩
    · have := h.2 x (List.mem_cons_of_mem _ hx)
      exact ⟨this.1, (((((((((this.2.far (hne x hx) y0).far (hne x hx) y1).far (hne x hx) y2).far (hne x hx) y3).far (hne x hx) y4).far (hne x hx) y5).far (hne x hx) y6).far (hne x hx) y7).far (hne x hx) y8)⟩⟩
theorem Loc.set2f {w W : World} {L : List (Nat × TypeId × Array Value)} {g : Nat} {t : TypeId} {x0 x1 : Value} (h : Loc w ((g, t, #[x0, x1]) :: L) W) (hne : ∀ x ∈ L, x.1 ≠ g) (y0 y1 : Value) : Loc w ((g, t, #[y0, y1]) :: L) ((W.setCell ⟨g, 0, none⟩ y0).setCell ⟨g, 1, none⟩ y1) :=
  ⟨below_two h.1 (h.2 _ (List.mem_cons_self ..)).1 y0 y1, fun x hx => by
    rcases List.mem_cons.1 hx with rfl | hx
    · exact ⟨(h.2 _ (List.mem_cons_self ..)).1, ((h.2 _ (List.mem_cons_self ..)).2.two_set y0 y1).1⟩
    · have := h.2 x (List.mem_cons_of_mem _ hx)
      exact ⟨this.1, (this.2.far (hne x hx) y0).far (hne x hx) y1⟩⟩
theorem loc_swap {w W : World} {x y : Nat × TypeId × Array Value} (h : Loc w [x, y] W) : Loc w [y, x] W := h.perm fun z hz => by
  simp only [List.mem_cons, List.not_mem_nil, or_false] at hz ⊢
  exact hz.symm
theorem one_ne {g h : Nat} {t : TypeId} {cs : Array Value} (hgh : g ≠ h) : ∀ x ∈ ([(g, t, cs)] : List (Nat × TypeId × Array Value)), x.1 ≠ h := fun x hx => by
  rw [List.mem_singleton.1 hx]
  exact hgh
set_option maxRecDepth 100000 in
set_option maxHeartbeats 4000000 in
theorem scalar_n (k : Nat) (W : World) (he : VEnv W) (hk : k ≤ 1000) : Calls Tryz.prog 128 #[(nV k).v] W fun e w' => e = .returned (nV k).v ∧ Below W.heap.size W w' := by
  have HV := Lib.hid (show ∀ W', Below W.heap.size W W' → Calls Tryz.prog 23 #[(nV k).v] W' fun e w' => e = .returned (nV k).v ∧ Below W'.heap.size W' w' from fun W' hW => valid_t (nV k) W' (he.below hW) (nV_ok k (by omega)) (Nat.le_trans (nt_size k (by omega)) (by decide)) (show (⟨#[49]⟩ : ByteArray).size ≤ 9223372036854775807 by decide) (show (⟨#[]⟩ : ByteArray).size ≤ 9223372036854775807 by decide))
  clear he hk
  unfold nV Vl.v Vl.cs at *
  dsimp only at *
  generalize nt k = t at *
  have HL0 := Lib.hid (((Loc.start W).alloc' rfl 27 #[.int .i64 1, .string t, .string ⟨#[49]⟩, .string ⟨#[]⟩, .bool false, .int .i64 0, .int .i64 0, .int .i64 0, .slice none 0 0]).alloc' (g := W.heap.size + 1) (by simp) 27 #[.int .i64 0, .string ⟨#[]⟩, .string ⟨#[]⟩, .string ⟨#[]⟩, .bool false, .int .i64 0, .int .i64 0, .int .i64 0, .slice none 0 0])
  go_enter Tryz.func128, Tryz.ntmps128
  go_upto_region 2 with (go_at_call 23; (with_reducible refine (HV.out _ HL0.out.bel).mono ?_); rintro e w2 ⟨rfl, hb⟩; have HL1 := Lib.hid (HL0.out.step hb); clear hb HL0; obtain ⟨f0, f1, f2, f3, f4, f5, f6, f7, f8⟩ := (HL1.out.blk (g := W.heap.size) (t := 27) (cs := #[.int .i64 1, .string t, .string ⟨#[49]⟩, .string ⟨#[]⟩, .bool false, .int .i64 0, .int .i64 0, .int .i64 0, .slice none 0 0]) (List.mem_cons_of_mem _ (List.mem_cons_self ..))).ninef; obtain ⟨z0, z1, z2, z3, z4, z5, z6, z7, z8⟩ := (HL1.out.blk (g := W.heap.size) (t := 27) (cs := #[.int .i64 1, .string t, .string ⟨#[49]⟩, .string ⟨#[]⟩, .bool false, .int .i64 0, .int .i64 0, .int .i64 0, .slice none 0 0]) (List.mem_cons_of_mem _ (List.mem_cons_self ..))).nine)
  clear f0 f1 f2 f3 f4 f5 f6 f7 f8 z0 z1 z2 z3 z4 z5 z6 z7 z8
  have HL2 := Lib.hid (loc_swap ((loc_swap HL1.out).set9k (one_ne (by omega)) (.int .i64 1) (.string t) (.string ⟨#[49]⟩) (.string ⟨#[]⟩) (.bool false) (.int .i64 0) (.int .i64 0) (.int .i64 0) (.slice none 0 0)))
  clear HL1
  revert HL2
  generalize (((((((((w2.setCell ⟨W.heap.size, 0, none⟩ (.int .i64 1)).setCell ⟨W.heap.size, 1, none⟩ (.string t)).setCell ⟨W.heap.size, 2, none⟩ (.string ⟨#[49]⟩)).setCell ⟨W.heap.size, 3, none⟩ (.string ⟨#[]⟩)).setCell ⟨W.heap.size, 4, none⟩ (.bool false)).setCell ⟨W.heap.size, 5, none⟩ (.int .i64 0)).setCell ⟨W.heap.size, 6, none⟩ (.int .i64 0)).setCell ⟨W.heap.size, 7, none⟩ (.int .i64 0)).setCell ⟨W.heap.size, 8, none⟩ (.slice none 0 0)) = w3
  intro HL2
  obtain ⟨k0, k1, k2, k3, k4, k5, k6, k7, k8⟩ := (HL2.out.blk (g := W.heap.size) (t := 27) (cs := #[.int .i64 1, .string t, .string ⟨#[49]⟩, .string ⟨#[]⟩, .bool false, .int .i64 0, .int .i64 0, .int .i64 0, .slice none 0 0]) (List.mem_cons_of_mem _ (List.mem_cons_self ..))).nine
  have HBW := Lib.hid (HL2.out.blk (g := W.heap.size + 1) (t := 27) (cs := #[.int .i64 0, .string ⟨#[]⟩, .string ⟨#[]⟩, .string ⟨#[]⟩, .bool false, .int .i64 0, .int .i64 0, .int .i64 0, .slice none 0 0]) (List.mem_cons_self ..))
  obtain ⟨f0, f1, f2, f3, f4, f5, f6, f7, f8⟩ := HBW.out.ninef
  obtain ⟨z0, z1, z2, z3, z4, z5, z6, z7, z8⟩ := HBW.out.nine
  go_upto_region 99 with fail
  clear k0 k1 k2 k3 k4 k5 k6 k7 k8 f0 f1 f2 f3 f4 f5 f6 f7 f8 z0 z1 z2 z3 z4 z5 z6 z7 z8
  obtain ⟨q0, q1, q2, q3, q4, q5, q6, q7, q8⟩ := (HBW.out.nine_set (.int .i64 1) (.string t) (.string ⟨#[49]⟩) (.string ⟨#[]⟩) (.bool false) (.int .i64 0) (.int .i64 0) (.int .i64 0) (.slice none 0 0)).1.nine
  refine bodyPost_ret (v := .agg #[.int .i64 1, .string t, .string ⟨#[49]⟩, .string ⟨#[]⟩, .bool false, .int .i64 0, .int .i64 0, .int .i64 0, .slice none 0 0]) (by simp [results, Tryz.results128, go_sem, q0, q1, q2, q3, q4, q5, q6, q7, q8]) rfl ⟨rfl, below_nine HL2.out.bel (by omega) _ _ _ _ _ _ _ _ _⟩
set_option maxRecDepth 100000 in
set_option maxHeartbeats 4000000 in
theorem tonum_n (k : Nat) (W : World) (he : VEnv W) (hk : k ≤ 1000) : Calls Tryz.prog 176 #[(nV k).v] W fun e w' => e = .returned (.tuple #[.agg #[.string (nt k), .string ⟨#[49]⟩], .int .i64 0]) ∧ Below W.heap.size W w' := by
  have HV := Lib.hid fun W' (hW : Below W.heap.size W W') => scalar_n k W' (he.below hW) hk
  clear he hk
  unfold nV Vl.v Vl.cs at *
  dsimp only at *
  generalize nt k = t at *
  have HL0 := Lib.hid (((Loc.start W).alloc' rfl 27 #[.int .i64 1, .string t, .string ⟨#[49]⟩, .string ⟨#[]⟩, .bool false, .int .i64 0, .int .i64 0, .int .i64 0, .slice none 0 0]).alloc' (g := W.heap.size + 1) (by simp) 24 #[.string ⟨#[]⟩, .string ⟨#[]⟩])
  go_enter Tryz.func176, Tryz.ntmps176
  go_upto_region 2 with (go_at_call 128; (with_reducible refine (HV.out _ HL0.out.bel).mono ?_); rintro e w2 ⟨rfl, hb⟩; have HL1 := Lib.hid (HL0.out.step hb); clear hb HL0; obtain ⟨f0, f1, f2, f3, f4, f5, f6, f7, f8⟩ := (HL1.out.blk (g := W.heap.size) (t := 27) (cs := #[.int .i64 1, .string t, .string ⟨#[49]⟩, .string ⟨#[]⟩, .bool false, .int .i64 0, .int .i64 0, .int .i64 0, .slice none 0 0]) (List.mem_cons_of_mem _ (List.mem_cons_self ..))).ninef; obtain ⟨z0, z1, z2, z3, z4, z5, z6, z7, z8⟩ := (HL1.out.blk (g := W.heap.size) (t := 27) (cs := #[.int .i64 1, .string t, .string ⟨#[49]⟩, .string ⟨#[]⟩, .bool false, .int .i64 0, .int .i64 0, .int .i64 0, .slice none 0 0]) (List.mem_cons_of_mem _ (List.mem_cons_self ..))).nine)
  clear f0 f1 f2 f3 f4 f5 f6 f7 f8 z0 z1 z2 z3 z4 z5 z6 z7 z8
  have HL2 := Lib.hid (loc_swap ((loc_swap HL1.out).set9k (one_ne (by omega)) (.int .i64 1) (.string t) (.string ⟨#[49]⟩) (.string ⟨#[]⟩) (.bool false) (.int .i64 0) (.int .i64 0) (.int .i64 0) (.slice none 0 0)))
  clear HL1
  revert HL2
  generalize (((((((((w2.setCell ⟨W.heap.size, 0, none⟩ (.int .i64 1)).setCell ⟨W.heap.size, 1, none⟩ (.string t)).setCell ⟨W.heap.size, 2, none⟩ (.string ⟨#[49]⟩)).setCell ⟨W.heap.size, 3, none⟩ (.string ⟨#[]⟩)).setCell ⟨W.heap.size, 4, none⟩ (.bool false)).setCell ⟨W.heap.size, 5, none⟩ (.int .i64 0)).setCell ⟨W.heap.size, 6, none⟩ (.int .i64 0)).setCell ⟨W.heap.size, 7, none⟩ (.int .i64 0)).setCell ⟨W.heap.size, 8, none⟩ (.slice none 0 0)) = w3
  intro HL2
  obtain ⟨k0, k1, k2, k3, k4, k5, k6, k7, k8⟩ := (HL2.out.blk (g := W.heap.size) (t := 27) (cs := #[.int .i64 1, .string t, .string ⟨#[49]⟩, .string ⟨#[]⟩, .bool false, .int .i64 0, .int .i64 0, .int .i64 0, .slice none 0 0]) (List.mem_cons_of_mem _ (List.mem_cons_self ..))).nine
  have HBW := Lib.hid (HL2.out.blk (g := W.heap.size + 1) (t := 24) (cs := #[.string ⟨#[]⟩, .string ⟨#[]⟩]) (List.mem_cons_self ..))
  obtain ⟨z0, z1, f0, f1⟩ := HBW.out.two
  go_upto_region 99 with fail
  clear k0 k1 k2 k3 k4 k5 k6 k7 k8 z0 z1 f0 f1
  obtain ⟨q0, q1, -, -⟩ := (HBW.out.two_set (.string t) (.string ⟨#[49]⟩)).1.two
  refine bodyPost_ret (v := .tuple #[.agg #[.string t, .string ⟨#[49]⟩], .int .i64 0]) (by simp [results, Tryz.results176, go_sem, q0, q1]) rfl ⟨rfl, below_two HL2.out.bel (by omega) _ _⟩
set_option maxRecDepth 100000 in
set_option maxHeartbeats 4000000 in
theorem down_n (k : Nat) (W : World) (he : VEnv W) (hk : k ≤ 1000) : Calls Tryz.prog 138 #[.agg #[.string (nt k), .string ⟨#[49]⟩]] W fun e w' => e = .returned (.int .i64 (k : Int)) ∧ Below W.heap.size W w' := by
  have HFL := Lib.hid (show ∀ W', Below W.heap.size W W' → Calls Tryz.prog 174 #[.agg #[.string (nt k), .string ⟨#[49]⟩]] W' fun e w' => QRet (k : Int) 1 40 W' e w' from fun W' hW => (floor_q (nt k) ⟨#[49]⟩ (k : Int) 1 40 W' (pv_qk k (by omega)) (by decide) (Lib.tabBelow_of_tabIs he.pw W' hW)).mono fun e w' ⟨f, h1, h2, h3⟩ => by
    obtain rfl : f = (k : Int) := by omega
    exact h1)
  have HIN := Lib.hid fun a1 a2 W' (h : Nt.Qk a1.data.toList a2.data.toList (k : Int) 1 40) => int_q a1 a2 k 40 W' (by omega) h
  have hk1 : ¬ (k : Int) < -1000000000 := by omega
  have hk2 : ¬ (1000000000 : Int) < (k : Int) := by omega
  clear he hk
  generalize nt k = t at *
  have HL0 := Lib.hid ((Loc.start W).alloc' rfl 24 #[.string t, .string ⟨#[49]⟩])
  go_enter Tryz.func138, Tryz.ntmps138
  go_upto_region 2 with (go_at_call 174; (with_reducible refine (HFL.out _ HL0.out.bel).mono ?_); rintro e w2 ⟨sn, sd, rfl, hq, hb⟩; have HQ := Lib.hid hq; have HL1 := Lib.hid (HL0.out.step hb); clear hb hq HL0; obtain ⟨z0, z1, f0, f1⟩ := (HL1.out.blk (g := W.heap.size) (t := 24) (cs := #[.string t, .string ⟨#[49]⟩]) (List.mem_cons_self ..)).two)
  clear z0 z1 f0 f1
  have HL2 := Lib.hid (HL1.out.set2f (fun x hx => by cases hx) (.string sn) (.string sd))
  clear HL1
  revert HL2
  generalize (w2.setCell ⟨W.heap.size, 0, none⟩ (.string sn)).setCell ⟨W.heap.size, 1, none⟩ (.string sd) = w3
  intro HL2
  obtain ⟨z0, z1, -, -⟩ := (HL2.out.blk (g := W.heap.size) (t := 24) (cs := #[.string sn, .string sd]) (List.mem_cons_self ..)).two
  go_wp2_with (go_at_call 175; (with_reducible refine (HIN.out _ _ _ HQ.out).mono ?_); rintro e w4 ⟨rfl, hb⟩; have HL3 := Lib.hid (HL2.out.step hb); clear hb HL2 z0 z1)
  go_ret
  exact ⟨rfl, HL3.out.bel⟩
set_option maxRecDepth 100000 in
set_option maxHeartbeats 4000000 in
theorem num_b (W0 W : World) (q : Nat) (A : Option Addr) (n c i k : Nat) (avs : List Vl) (h0 : Below W0.heap.size W0 W) (hq0 : W0.heap.size ≤ q) (hq : Blk W q 90 #[.slice A n c, .int .i64 (i : Int)]) (hA : Reads 9 csV W0 (.slice A n c) avs) (hi : i < n) (hn : n ≤ 1000) (hu : avs[i]! = nV k) (he : VEnv W0) (hk : k ≤ 1000) : Calls Tryz.prog 139 #[.pointer (some ⟨q, 0, none⟩)] W fun e w' => e = .returned (.agg #[.string (nt k), .string ⟨#[49]⟩]) ∧ Blk w' q 90 #[.slice A n c, .int .i64 ((i : Int) + 1)] ∧ Below W0.heap.size W0 w' ∧ Chg W.heap.size [q] W w' := by
  have HV := Lib.hid (value_b W0 (W.alloc (.cells #[.string ⟨#[]⟩, .string ⟨#[]⟩] 24)) q A n c i avs (h0.trans ((below_al W _).mono h0.size)) hq0 (hq.alloc _) hA hi hn)
  rw [hu] at HV
  have HTO := Lib.hid fun W' (hW : Below W0.heap.size W0 W') => tonum_n k W' (he.below hW) hk
  have hq' := hq.lt
  have HBZ := Lib.hid (Blk.new W 24 #[.string ⟨#[]⟩, .string ⟨#[]⟩])
  have hqn : W.heap.size ∉ [q] := by rw [List.mem_singleton]; omega
  have HQN := Lib.hid hqn
  have HS := Lib.hid h0.size
  clear h0 hq hA hu he hqn
  unfold nV Vl.v Vl.cs at *
  dsimp only at *
  generalize nt k = t at *
  go_enter Tryz.func139, Tryz.ntmps139
  go_upto_region 2 with (first
    | (go_at_call 39; (with_reducible refine HV.out.mono ?_); rintro e w1 ⟨rfl, hq1, hb, hc⟩; have HQ1 := Lib.hid hq1; have HB1 := Lib.hid hb; have HC1 := Lib.hid ((Chg.of (below_al W (.cells #[.string ⟨#[]⟩, .string ⟨#[]⟩] 24)) [q]).next hc); have HZ1 := Lib.hid (hc.blk HBZ.out HBZ.out.lt HQN.out); clear hq1 hb hc HBZ)
    | (go_at_call 176; (with_reducible refine (HTO.out _ HB1.out).mono ?_); rintro e w2 ⟨rfl, hb⟩; have HQ2 := Lib.hid (HQ1.out.later hb); have HB2 := Lib.hid (HB1.out.trans (hb.mono HB1.out.size)); have HC2 := Lib.hid (HC1.out.next (Chg.of hb [q])); have HZ2 := Lib.hid (HZ1.out.later hb); clear hb HQ1 HB1 HC1 HZ1))
  have HQ3 := Lib.hid (HQ2.out.alloc (.cells #[.string t, .string ⟨#[49]⟩] 24))
  have HB3 := Lib.hid (HB2.out.trans ((below_al w2 (.cells #[.string t, .string ⟨#[49]⟩] 24)).mono HB2.out.size))
  have HC3 := Lib.hid (HC2.out.next (Chg.of (below_al w2 (.cells #[.string t, .string ⟨#[49]⟩] 24)) [q]))
  have HZ3 := Lib.hid (HZ2.out.alloc (.cells #[.string t, .string ⟨#[49]⟩] 24))
  have HX3 := Lib.hid (Blk.new w2 24 #[.string t, .string ⟨#[49]⟩])
  have HXZ := Lib.hid (show w2.heap.size ≠ W.heap.size from by have := HZ2.out.lt; omega)
  clear HQ2 HB2 HC2 HZ2
  revert HQ3 HB3 HC3 HZ3 HX3 HXZ
  generalize w2.alloc (.cells #[.string t, .string ⟨#[49]⟩] 24) = w3
  generalize w2.heap.size = X
  intro HQ3 HB3 HC3 HZ3 HX3 HXZ
  obtain ⟨k0, k1, -, -⟩ := HX3.out.two
  obtain ⟨z0, z1, f0, f1⟩ := HZ3.out.two
  go_upto_region 99 with (go_at_call 96; (with_reducible refine (stop_0 _).mono ?_); rintro e wq ⟨rfl, rfl⟩)
  clear k0 k1 z0 z1 f0 f1
  obtain ⟨q0, q1, -, -⟩ := (HZ3.out.two_set (.string t) (.string ⟨#[49]⟩)).1.two
  have hqW : q ≠ W.heap.size := by omega
  have hS := HS.out
  refine bodyPost_ret (v := .agg #[.string t, .string ⟨#[49]⟩]) (by simp [results, Tryz.results139, go_sem, q0, q1]) rfl ⟨rfl, (HQ3.out.far (p := ⟨W.heap.size, 0, none⟩) (by exact hqW) (.string t)).far (p := ⟨W.heap.size, 1, none⟩) (by exact hqW) (.string ⟨#[49]⟩), below_two HB3.out (by exact hS) _ _, (HC3.out.set (p := ⟨W.heap.size, 0, none⟩) (.inr (Nat.le_refl _)) (.string t)).set (p := ⟨W.heap.size, 1, none⟩) (.inr (Nat.le_refl _)) (.string ⟨#[49]⟩)⟩
set_option maxRecDepth 100000 in
set_option maxHeartbeats 4000000 in
theorem whole_b (W0 W : World) (q : Nat) (A : Option Addr) (n c i k : Nat) (avs : List Vl) (h0 : Below W0.heap.size W0 W) (hq0 : W0.heap.size ≤ q) (hq : Blk W q 90 #[.slice A n c, .int .i64 (i : Int)]) (hA : Reads 9 csV W0 (.slice A n c) avs) (hi : i < n) (hn : n ≤ 1000) (hu : avs[i]! = nV k) (he : VEnv W0) (hk : k ≤ 1000) : Calls Tryz.prog 83 #[.pointer (some ⟨q, 0, none⟩)] W fun e w' => e = .returned (.int .i64 (k : Int)) ∧ Blk w' q 90 #[.slice A n c, .int .i64 ((i : Int) + 1)] ∧ Below W0.heap.size W0 w' ∧ Chg W.heap.size [q] W w' := by
  have HNB := Lib.hid (num_b W0 W q A n c i k avs h0 hq0 hq hA hi hn hu he hk)
  have HDN := Lib.hid fun W' (hW : Below W0.heap.size W0 W') => down_n k W' (he.below hW) hk
  clear h0 hq hA hu he
  generalize nt k = t at *
  go_enter Tryz.func83, Tryz.ntmps83
  go_wp2_with (first
    | (go_at_call 139; (with_reducible refine HNB.out.mono ?_); rintro e w1 ⟨rfl, hq1, hb, hc⟩; have HQ1 := Lib.hid hq1; have HB1 := Lib.hid hb; have HC1 := Lib.hid hc; clear hq1 hb hc)
    | (go_at_call 138; (with_reducible refine (HDN.out _ HB1.out).mono ?_); rintro e w2 ⟨rfl, hb⟩; have HQ2 := Lib.hid (HQ1.out.later hb); have HB2 := Lib.hid (HB1.out.trans (hb.mono HB1.out.size)); have HC2 := Lib.hid (HC1.out.next (Chg.of hb [q])); clear hb HQ1 HB1 HC1))
  go_ret
  exact ⟨rfl, HQ2.out, HB2.out, HC2.out⟩
theorem wor_0 (d : Int) (q : Nat) (A : Option Addr) (n c : Nat) (W : World) (hq : Blk W q 90 #[.slice A n c, .int .i64 (n : Int)]) : Calls Tryz.prog 77 #[.pointer (some ⟨q, 0, none⟩), .int .i64 d] W fun e w' => e = .returned (.int .i64 d) ∧ Below W.heap.size W w' := by
  have HM := Lib.hid (more_any q A n c n W hq false (by simp))
  go_enter Tryz.func77, Tryz.ntmps77
  go_wp2_with (go_at_call 82; (with_reducible refine HM.out.mono ?_); rintro e w1 ⟨rfl, hb⟩; have HB := Lib.hid hb; clear hb)
  go_ret
  exact ⟨rfl, HB.out⟩
end Go.Proofs.YtllhefjblipddaaGreatDoor

namespace Go.Proofs.YtllhefjblipddaaGreatDoor
open Go.RowKit

theorem r1_reads {W : World} {base : Nat} {v : Value} {m f0 : Nat} (h : R1 3 .i64 W base v ((List.range m).map fun j => f0 + j)) (hm : 1 ≤ m) : ∃ A c, v = .slice A m c ∧ Reads 1 (fun z : Int => [Value.int .i64 z]) W (.slice A m c) ((List.range m).map fun (j : Nat) => ((f0 + j : Nat) : Int)) := by
  have hl : ((List.range m).map fun j => f0 + j).length = m := by simp
  have hcp : ∀ g c, v = .slice (some ⟨g, 0, none⟩) m c → m ≤ c := fun g c e => by
    rcases h.2 with ⟨h', _⟩ | ⟨g', cap', cur, h', _, _, hc, _⟩
    · rw [e] at h'; simp at h'
    · rw [e] at h'
      simp only [Value.slice.injEq] at h'
      rw [hl] at hc
      omega
  obtain ⟨g, c, rfl, -, hg⟩ := h.form (by omega)
  rw [hl] at h ⊢
  refine ⟨_, c, rfl, some ⟨g, 0, none⟩, c, by simp, by simp; exact hcp g c (by rw [hl]), (fun e => by cases e), fun _ => ⟨g, 0, rfl, hg, fun i hi j hj => ?_⟩⟩
  obtain rfl : j = 0 := by omega
  have hi' : i < m := by simpa using hi
  have := h.cell hl (i := i) (by omega)
  rw [Nat.zero_add, Nat.mul_one, Nat.add_zero, this]
  simp
theorem rowsL_id {α : Type} (m C : Nat) (us : List α) (h : us.length = C * m) : rowsL m 0 C us = us := by
  unfold rowsL
  rw [Nat.zero_mul, List.drop_zero, ← h, List.take_length]
set_option maxRecDepth 100000 in
set_option maxHeartbeats 8000000 in
theorem parts_a (W0 W : World) (q : Nat) (A : Option Addr) (c : Nat) (u : Vl) (R C k f0 m : Nat) (tk : Bool) (us : List Vl) (he : VEnv W0) (h0 : Below W0.heap.size W0 W) (hq0 : W0.heap.size ≤ q) (hq : Blk W q 90 #[.slice A 2 c, .int .i64 0]) (hA : Reads 9 csV W0 (.slice A 2 c) [u, nV k]) (hu : AR W0 u R C us) (hR : R ≤ 100)
    (hk : tk = true ∧ 0 < k ∧ k ≤ R ∧ f0 = 0 ∧ m = k ∨ k = 0 ∧ f0 = 0 ∧ m = R ∨ tk = false ∧ 0 < k ∧ k ≤ R ∧ f0 = k ∧ m = R - k) (hm : 1 ≤ m) (hk0 : 0 < k) :
    Calls Tryz.prog 45 #[.pointer (some ⟨q, 0, none⟩), .bool tk] W fun e w' => ∃ u', e = .returned u'.v ∧ AR w' u' m C (rowsL C f0 m us) ∧ (∀ b o, u'.A = some ⟨b, o, none⟩ → W.heap.size ≤ b) ∧ Chg W.heap.size [q] W w' := by
  obtain ⟨A2, n2, cc2, rfl, hn2, hr⟩ := hu.ex
  have hul := hu.len
  obtain ⟨b2, o2, rfl⟩ : ∃ b o, A2 = some ⟨b, o, none⟩ := by
    have hp : 0 < n2 := by rw [hn2]; exact Nat.mul_pos hu.r1 hu.c1
    obtain ⟨A', c', e, -, -, h3⟩ := hr
    injection e with e1 e2 e3
    obtain ⟨b, o, e4, -⟩ := h3 (by omega)
    exact ⟨b, o, e1.trans e4⟩
  have hbig := hu.big
  obtain ⟨r1, r2, c1, c2⟩ := And.intro hu.r1 (And.intro hu.r2 (And.intro hu.c1 hu.c2))
  have hkR : k ≤ 1000 := by omega
  have hmR : m ≤ R := by omega
  have hfm : f0 + m ≤ R := by omega
  have HV := Lib.hid (show Calls Tryz.prog 39 #[.pointer (some ⟨q, 0, none⟩)] (W.alloc (.cells #[.int .i64 0, .string ⟨#[]⟩, .string ⟨#[]⟩, .string ⟨#[]⟩, .bool false, .int .i64 0, .int .i64 0, .int .i64 0, .slice none 0 0] 27)) fun e w' => e = .returned (aV (R : Int) (C : Int) (some ⟨b2, o2, none⟩) n2 cc2) ∧ Blk w' q 90 #[.slice A 2 c, .int .i64 ((1 : Nat) : Int)] ∧ Below W0.heap.size W0 w' ∧ Chg (W.alloc (.cells #[.int .i64 0, .string ⟨#[]⟩, .string ⟨#[]⟩, .string ⟨#[]⟩, .bool false, .int .i64 0, .int .i64 0, .int .i64 0, .slice none 0 0] 27)).heap.size [q] (W.alloc (.cells #[.int .i64 0, .string ⟨#[]⟩, .string ⟨#[]⟩, .string ⟨#[]⟩, .bool false, .int .i64 0, .int .i64 0, .int .i64 0, .slice none 0 0] 27)) w' from value_b W0 (W.alloc (.cells #[.int .i64 0, .string ⟨#[]⟩, .string ⟨#[]⟩, .string ⟨#[]⟩, .bool false, .int .i64 0, .int .i64 0, .int .i64 0, .slice none 0 0] 27)) q A 2 c 0 _ (h0.trans ((below_al W _).mono h0.size)) hq0 (hq.alloc _) hA (by decide) (by decide))
  have HWH := Lib.hid fun W' (hW : Below W0.heap.size W0 W') (hQ : Blk W' q 90 #[.slice A 2 c, .int .i64 ((1 : Nat) : Int)]) => whole_b W0 W' q A 2 c 1 k [arrU R C (some ⟨b2, o2, none⟩) n2 cc2, nV k] hW hq0 hQ hA (by decide) (by decide) rfl he hkR
  have HWO := Lib.hid fun W' (hQ : Blk W' q 90 #[.slice A 2 c, .int .i64 ((2 : Nat) : Int)]) => wor_0 0 q A 2 c W' hQ
  have HK1 := Lib.hid fun W' => kept_any R k f0 m tk W' r2 hk
  have HK2 := Lib.hid fun W' => (show Calls Tryz.prog 89 #[.int .i64 (C : Int), .int .i64 0, .bool tk] W' fun e w' => ∃ v, e = .returned v ∧ R1 3 .i64 w' W'.heap.size v ((List.range C).map fun j => 0 + j) ∧ Below W'.heap.size W' w' from kept_any C 0 0 C tk W' (by omega) (.inr (.inl ⟨rfl, rfl, rfl⟩)))
  have HRE := Lib.hid hr
  have HNN := Lib.hid hn2
  obtain ⟨t, ht⟩ : ∃ t, t = W.heap.size := ⟨_, rfl⟩
  have HRz := Lib.hid (Blk.new W 27 #[.int .i64 0, .string ⟨#[]⟩, .string ⟨#[]⟩, .string ⟨#[]⟩, .bool false, .int .i64 0, .int .i64 0, .int .i64 0, .slice none 0 0])
  rw [← ht] at HRz
  have htq : t ∉ [q] := fun h => by
    have := hq.lt
    rw [List.mem_singleton] at h
    omega
  have HTQ := Lib.hid htq
  have HTS := Lib.hid (show t < (W.alloc (.cells #[.int .i64 0, .string ⟨#[]⟩, .string ⟨#[]⟩, .string ⟨#[]⟩, .bool false, .int .i64 0, .int .i64 0, .int .i64 0, .slice none 0 0] 27)).heap.size from by rw [ht]; simp)
  have HH := Lib.hid ht
  have HSZ := Lib.hid h0.size
  have HKK := Lib.hid hk
  clear htq hr h0 hq hA hu hn2 hk he
  go_enter Tryz.func45, Tryz.ntmps45
  go_upto_region 1 with fail
  rw [← ht]
  clear ht
  go_upto_region 2 with (first
    | (go_at_call 39; (with_reducible refine HV.out.mono ?_); rintro e w1 ⟨rfl, hq1, hb, hc⟩; have HQ1 := Lib.hid hq1; have HB1 := Lib.hid hb; have HC1 := Lib.hid ((Chg.of (below_al W (.cells #[.int .i64 0, .string ⟨#[]⟩, .string ⟨#[]⟩, .string ⟨#[]⟩, .bool false, .int .i64 0, .int .i64 0, .int .i64 0, .slice none 0 0] 27)) [q]).next hc); have HRa := Lib.hid (hc.blk HRz.out HTS.out HTQ.out); clear hb hc hq1 HRz)
    | (go_at_call 38; (with_reducible refine (grid_a _ _ _ _ _ _).mono ?_); rintro e w2 ⟨rfl, hb⟩; have HQ2 := Lib.hid (HQ1.out.later hb); have HB2 := Lib.hid (HB1.out.trans (hb.mono HB1.out.size)); have HC2 := Lib.hid (HC1.out.next (Chg.of hb [q])); have HRb := Lib.hid (HRa.out.later hb); clear hb HB1 HRa HC1 HQ1))
  have HX3 := Lib.hid (Blk.new w2 69 #[.int .i64 (R : Int), .int .i64 (C : Int), .slice (some ⟨b2, o2, none⟩) n2 cc2])
  have HQ3 := Lib.hid (HQ2.out.alloc (.cells #[.int .i64 (R : Int), .int .i64 (C : Int), .slice (some ⟨b2, o2, none⟩) n2 cc2] 69))
  have HB3 := Lib.hid (HB2.out.trans ((below_al w2 (.cells #[.int .i64 (R : Int), .int .i64 (C : Int), .slice (some ⟨b2, o2, none⟩) n2 cc2] 69)).mono HB2.out.size))
  have HC3 := Lib.hid (HC2.out.next (Chg.of (below_al w2 (.cells #[.int .i64 (R : Int), .int .i64 (C : Int), .slice (some ⟨b2, o2, none⟩) n2 cc2] 69)) [q]))
  have HRc := Lib.hid (HRb.out.alloc (.cells #[.int .i64 (R : Int), .int .i64 (C : Int), .slice (some ⟨b2, o2, none⟩) n2 cc2] 69))
  have HXT := Lib.hid (show w2.heap.size ≠ t from by have := HRb.out.lt; omega)
  have HXQ := Lib.hid (show w2.heap.size ∉ [q] from by have := HQ2.out.lt; rw [List.mem_singleton]; omega)
  clear HQ2 HB2 HC2 HRb
  revert HX3 HQ3 HB3 HC3 HRc HXT HXQ
  generalize w2.alloc (.cells #[.int .i64 (R : Int), .int .i64 (C : Int), .slice (some ⟨b2, o2, none⟩) n2 cc2] 69) = w3
  generalize w2.heap.size = X
  intro HX3 HQ3 HB3 HC3 HRc HXT HXQ
  go_upto_region 3 with (first
    | (go_at_call 83; (with_reducible refine (HWH.out _ HB3.out HQ3.out).mono ?_); rintro e w4 ⟨rfl, hq1, hb, hc⟩; have HQ4 := Lib.hid hq1; have HB4 := Lib.hid hb; have HC4 := Lib.hid (HC3.out.next hc); have HX4 := Lib.hid (hc.blk HX3.out HX3.out.lt HXQ.out); have HRd := Lib.hid (hc.blk HRc.out HRc.out.lt HTQ.out); clear hb hc hq1 HX3 HQ3 HB3 HC3 HRc)
    | (go_at_call 77; (with_reducible refine (HWO.out _ HQ4.out).mono ?_); rintro e w5 ⟨rfl, hb⟩; have HB5 := Lib.hid (HB4.out.trans (hb.mono HB4.out.size)); have HC5 := Lib.hid (HC4.out.next (Chg.of hb [q])); have HX5 := Lib.hid (HX4.out.later hb); have HRe := Lib.hid (HRd.out.later hb); clear hb HX4 HQ4 HB4 HC4 HRd))
  have HSS := Lib.hid (show ∀ W', Blk W' X 69 #[.int .i64 (R : Int), .int .i64 (C : Int), .slice (some ⟨b2, o2, none⟩) n2 cc2] → W'.cell? ⟨X, 0, none⟩ = some (.int .i64 (R : Int)) ∧ W'.cell? ⟨X, 1, none⟩ = some (.int .i64 (C : Int)) from fun W' h => ⟨h.cell 0, h.cell 1⟩)
  obtain ⟨g0, g1⟩ := HSS.out _ HX5.out
  go_region_held3 (fun W' => W'.cell? ⟨X, 0, none⟩ = some (.int .i64 (R : Int)) ∧ W'.cell? ⟨X, 1, none⟩ = some (.int .i64 (C : Int))) (first | exact ⟨by assumption, by assumption⟩ | exact HSS.out _ HX7.out | exact HSS.out _ HX6.out) (first
    | (go_at_call 89; ((with_reducible refine (HK1.out _).mono ?_); rintro e w6 ⟨v8, rfl, h8, hb⟩; have hb := (Below.refl w5.heap.size w5).drew.trans hb; have HB6 := Lib.hid (HB5.out.trans (hb.mono HB5.out.size)); have HC6 := Lib.hid (HC5.out.next (Chg.of hb [q])); have HX6 := Lib.hid (HX5.out.later hb); have HRf := Lib.hid (HRe.out.later hb); have H8 := Lib.hid h8; clear hb h8))
    | (go_at_call 89; ((with_reducible refine (HK2.out _).mono ?_); rintro e w7 ⟨v9, rfl, h9, hb⟩; have H8b := Lib.hid (H8.out.later hb); have HB7 := Lib.hid (HB6.out.trans (hb.mono HB6.out.size)); have HC7 := Lib.hid (HC6.out.next (Chg.of hb [q])); have HX7 := Lib.hid (HX6.out.later hb); have HRg := Lib.hid (HRf.out.later hb); have H9 := Lib.hid h9; clear hb h9 H8)))
  clear g0 g1
  obtain ⟨A8, c8, rfl, hz8⟩ := r1_reads H8b.out hm
  obtain ⟨A9, c9, rfl, hz9⟩ := r1_reads H9.out c1
  have HZ8 := Lib.hid hz8
  have HZ9 := Lib.hid hz9
  obtain ⟨n', hn'⟩ : ∃ n', n' = m * C := ⟨_, rfl⟩
  have hn9 : n' ≤ 100000 := by
    have := Nat.mul_le_mul_right C hmR
    omega
  have HN9 := Lib.hid hn'
  have hxl : (rowsL C f0 m us).length = n' := by
    rw [hn', rowsL_len C f0 m us (by rw [hul]; exact Nat.mul_le_mul_right C hfm)]
  have HTT := Lib.hid (show turnL C m (rowsL m 0 C (turnL m C (rowsL C f0 m us))) = rowsL C f0 m us from by
    rw [rowsL_id m C _ (turnL_len m C _), turn_turn m C _ (by rw [hxl, hn'])])
  have HP1 := Lib.hid fun W' (hW : Below W0.heap.size W0 W') (hz : Reads 1 (fun z : Int => [Value.int .i64 z]) W' (.slice A8 m c8) ((List.range m).map fun (j : Nat) => ((f0 + j : Nat) : Int))) => picked_a R C n2 m n' f0 b2 o2 cc2 A8 c8 us W' HNN.out hn' r1 r2 c1 c2 (by rw [HNN.out]; exact hbig) (HRE.out.below hW) hm hfm hz
  have HT1 := Lib.hid fun g cc' W' (h : Reads 9 csV W' (.slice (some ⟨g, 0, none⟩) n' cc') (rowsL C f0 m us)) => turned_a m C n' (some ⟨g, 0, none⟩) cc' (rowsL C f0 m us) W' hn' hm (by omega) c1 (by omega) hn9 h
  have HP2 := Lib.hid fun g cc' W' (h : Reads 9 csV W' (.slice (some ⟨g, 0, none⟩) n' cc') (turnL m C (rowsL C f0 m us))) (hz : Reads 1 (fun z : Int => [Value.int .i64 z]) W' (.slice A9 C c9) ((List.range C).map fun (j : Nat) => ((0 + j : Nat) : Int))) => picked_a C m n' C n' 0 g 0 cc' A9 c9 (turnL m C (rowsL C f0 m us)) W' (by rw [hn', Nat.mul_comm]) (by rw [hn', Nat.mul_comm]) c1 (by omega) hm (by omega) hn9 h c1 (by omega) hz
  have HT2 := Lib.hid fun g cc' W' (h : Reads 9 csV W' (.slice (some ⟨g, 0, none⟩) n' cc') (rowsL m 0 C (turnL m C (rowsL C f0 m us)))) => turned_a C m n' (some ⟨g, 0, none⟩) cc' (rowsL m 0 C (turnL m C (rowsL C f0 m us))) W' (by rw [hn', Nat.mul_comm]) c1 (by omega) hm (by omega) hn9 h
  have HGV := Lib.hid fun A' c' W' => gval_a (m : Int) (C : Int) A' n' c' W' (by omega) (by omega) (by omega) (by omega)
  have mz : ¬ m = 0 := by omega
  have mzi : ¬ (m : Int) = 0 := by omega
  have cz : ¬ C = 0 := by omega
  have czi : ¬ (C : Int) = 0 := by omega
  have mzb : ((m : Int) == 0) = false := by simp; omega
  have czb : ((C : Int) == 0) = false := by simp; omega
  obtain ⟨g0, g1, g2, -⟩ := HX7.out.three
  clear hz8 hz9 hn' hxl hul HK1 HK2 HWH HWO HV HSS H8b H9 HX6 HB6 HC6 HRf HX5 HB5 HC5 HRe
  have HSW := Lib.hid (show W.heap.size ≤ w7.heap.size from HC7.out.size)
  go_upto_region 99 with (first
    | (go_at_call 81; (with_reducible refine (stop_f _ _).mono ?_); rintro e wq ⟨rfl, rfl⟩)
    | (go_at_call 90; ((with_reducible refine (HP1.out _ HB7.out HZ8.out).mono ?_); rintro e w8 ⟨ga, ca, rfl, hra, hga, hb⟩; have HD1 := Lib.hid hra; have HZ9b := Lib.hid (HZ9.out.below hb); have HB8 := Lib.hid (HB7.out.trans (hb.mono HB7.out.size)); have HC8 := Lib.hid (HC7.out.next (Chg.of hb [q])); have HRh := Lib.hid (HRg.out.later hb); clear hra hga hb HZ9 HZ8))
    | (go_at_call 42; ((with_reducible refine (HT1.out _ _ _ HD1.out).mono ?_); rintro e w9 ⟨gb, cb, rfl, hra, hga, hb⟩; have HD2 := Lib.hid hra; have HZ9c := Lib.hid (HZ9b.out.below hb); have HB9 := Lib.hid (HB8.out.trans (hb.mono HB8.out.size)); have HC9 := Lib.hid (HC8.out.next (Chg.of hb [q])); have HRi := Lib.hid (HRh.out.later hb); clear hra hga hb HZ9b HD1))
    | (go_at_call 90; ((with_reducible refine (HP2.out _ _ _ HD2.out HZ9c.out).mono ?_); rintro e wa ⟨gc, cc3, rfl, hra, hga, hb⟩; have HD3 := Lib.hid hra; have HBa := Lib.hid (HB9.out.trans (hb.mono HB9.out.size)); have HCa := Lib.hid (HC9.out.next (Chg.of hb [q])); have HRj := Lib.hid (HRi.out.later hb); clear hra hga hb HZ9c HD2))
    | (go_at_call 42; ((with_reducible refine (HT2.out _ _ _ HD3.out).mono ?_); rintro e wb ⟨gd, cd, rfl, hra, hga, hb⟩; rw [HTT.out] at hra; have HD4 := Lib.hid hra; have HGD := Lib.hid (show t < gd ∧ W.heap.size ≤ gd from by have := HRj.out.lt; have := HH.out; omega); have HBb := Lib.hid (HBa.out.trans (hb.mono HBa.out.size)); have HCb := Lib.hid (HCa.out.next (Chg.of hb [q])); have HRk := Lib.hid (HRj.out.later hb); clear hra hga hb HD3))
    | (go_at_call 43; (with_reducible refine (HGV.out _ _ _).mono ?_); rintro e wc ⟨rfl, hb⟩; have HD5 := Lib.hid (HD4.out.below hb); have HBc := Lib.hid (HBb.out.trans (hb.mono HBb.out.size)); have HCc := Lib.hid (HCb.out.next (Chg.of hb [q])); have HRl := Lib.hid (HRk.out.later hb); clear hb HD4; obtain ⟨f0', f1, f2, f3, f4, f5, f6, f7, f8⟩ := HRl.out.ninef; obtain ⟨z0, z1, z2, z3, z4, z5, z6, z7, z8⟩ := HRl.out.nine))
  clear f0' f1 f2 f3 f4 f5 f6 f7 f8 z0 z1 z2 z3 z4 z5 z6 z7 z8
  obtain ⟨q0, q1, q2, q3, q4, q5, q6, q7, q8⟩ := (HRl.out.nine_set (.int .i64 5) (.string ⟨#[]⟩) (.string ⟨#[]⟩) (.string ⟨#[]⟩) (.bool false) (.int .i64 0) (.int .i64 (m : Int)) (.int .i64 (C : Int)) (.slice (some ⟨gd, 0, none⟩) n' cd)).1.nine
  have hcn := chg_nine wc t (.int .i64 5) (.string ⟨#[]⟩) (.string ⟨#[]⟩) (.string ⟨#[]⟩) (.bool false) (.int .i64 0) (.int .i64 (m : Int)) (.int .i64 (C : Int)) (.slice (some ⟨gd, 0, none⟩) n' cd)
  have hgw : gd < wc.heap.size := (HD5.out.lt (by rw [HN9.out]; exact Nat.mul_pos hm c1)).2.1
  have hgd := HGD.out
  refine bodyPost_ret (v := aV (m : Int) (C : Int) (some ⟨gd, 0, none⟩) n' cd) (by simp [results, Tryz.results45, go_sem, q0, q1, q2, q3, q4, q5, q6, q7, q8]) rfl ⟨arrU m C (some ⟨gd, 0, none⟩) n' cd, rfl, ⟨⟨_, n', cd, rfl, HN9.out, reads_same HD5.out hcn.size (hcn.block gd hgw (by rw [List.mem_singleton]; omega))⟩, hm, by omega, c1, c2, by rw [← HN9.out]; exact hn9⟩, fun b o e => (by injection e with e; injection e with e; omega), HCc.out.trans (hcn.mono HCc.out.size fun x hx => .inr (by
    rw [List.mem_singleton.1 hx, HH.out]
    exact Nat.le_refl _))⟩
end Go.Proofs.YtllhefjblipddaaGreatDoor

namespace Go.Proofs.YtllhefjblipddaaGreatDoor
open Go.RowKit

set_option maxRecDepth 100000 in
set_option maxHeartbeats 8000000 in
theorem fTa_any (B0 W0 W : World) (q : Nat) (A : Option Addr) (c : Nat) (u : Vl) (R C k f0 m : Nat) (us : List Vl) (he : VEnv W0) (h0 : Below W0.heap.size W0 W) (hq0 : W0.heap.size ≤ q) (hq : Blk W q 90 #[.slice A 2 c, .int .i64 0]) (hA : Reads 9 csV W0 (.slice A 2 c) [u, nV k]) (hu : AR W0 u R C us) (hR : R ≤ 100) (hk : 0 < k ∧ k ≤ R ∧ f0 = 0 ∧ m = k) :
    Calls Tryz.prog 44 #[.pointer (some ⟨q, 0, none⟩)] W (ResF B0 W [q] m C (rowsL C f0 m us)) := by
  have HPA := Lib.hid (parts_a W0 (W.alloc (.cells #[.int .i64 0, .string ⟨#[]⟩, .string ⟨#[]⟩, .string ⟨#[]⟩, .bool false, .int .i64 0, .int .i64 0, .int .i64 0, .slice none 0 0] 27)) q A c u R C k f0 m true us he (h0.trans ((below_al W _).mono h0.size)) hq0 (hq.alloc _) hA hu hR (.inl ⟨rfl, hk.1, hk.2.1, hk.2.2.1, hk.2.2.2⟩) (by omega) hk.1)
  have hqn : W.heap.size ∉ [q] := by have := hq.lt; rw [List.mem_singleton]; omega
  have HQN := Lib.hid hqn
  have HBZ := Lib.hid (Blk.new W 27 #[.int .i64 0, .string ⟨#[]⟩, .string ⟨#[]⟩, .string ⟨#[]⟩, .bool false, .int .i64 0, .int .i64 0, .int .i64 0, .slice none 0 0])
  obtain ⟨RR, hRR⟩ : ∃ x, x = (m) := ⟨_, rfl⟩
  obtain ⟨CC, hCC⟩ : ∃ x, x = (C) := ⟨_, rfl⟩
  rw [← hRR, ← hCC] at HPA ⊢
  clear he hA hu hk h0 hq hqn hRR hCC
  go_enter Tryz.func44, Tryz.ntmps44
  go_upto_region 99 with (go_at_call 45; (with_reducible refine HPA.out.mono ?_); rintro e w2 ⟨u', he, hr, hfr, hc⟩; have HRS := Lib.hid hr; obtain ⟨A3, n3, c3, rfl, hn3, -⟩ := hr.ex; have he : e = .returned (aV (RR : Int) (CC : Int) A3 n3 c3) := he; subst he; have HFR := Lib.hid hfr; have HC2 := Lib.hid ((Chg.of (below_al W (.cells #[.int .i64 0, .string ⟨#[]⟩, .string ⟨#[]⟩, .string ⟨#[]⟩, .bool false, .int .i64 0, .int .i64 0, .int .i64 0, .slice none 0 0] 27)) [q]).next hc); have HBW := Lib.hid (hc.blk HBZ.out HBZ.out.lt HQN.out); clear hn3 hr hfr hc HBZ; obtain ⟨f0', f1, f2, f3, f4, f5, f6, f7, f8⟩ := HBW.out.ninef; obtain ⟨z0, z1, z2, z3, z4, z5, z6, z7, z8⟩ := HBW.out.nine)
  clear f0' f1 f2 f3 f4 f5 f6 f7 f8 z0 z1 z2 z3 z4 z5 z6 z7 z8
  obtain ⟨q0, q1, q2, q3, q4, q5, q6, q7, q8⟩ := (HBW.out.nine_set (.int .i64 5) (.string ⟨#[]⟩) (.string ⟨#[]⟩) (.string ⟨#[]⟩) (.bool false) (.int .i64 0) (.int .i64 (RR : Int)) (.int .i64 (CC : Int)) (.slice A3 n3 c3)).1.nine
  have hcn := chg_nine w2 W.heap.size (.int .i64 5) (.string ⟨#[]⟩) (.string ⟨#[]⟩) (.string ⟨#[]⟩) (.bool false) (.int .i64 0) (.int .i64 (RR : Int)) (.int .i64 (CC : Int)) (.slice A3 n3 c3)
  have hfr := HFR.out
  have hsz : (W.alloc (.cells #[.int .i64 0, .string ⟨#[]⟩, .string ⟨#[]⟩, .string ⟨#[]⟩, .bool false, .int .i64 0, .int .i64 0, .int .i64 0, .slice none 0 0] 27)).heap.size = W.heap.size + 1 := by simp
  rw [hsz] at hfr
  refine bodyPost_ret (v := aV (RR : Int) (CC : Int) A3 n3 c3) (by simp [results, Tryz.results44, go_sem, q0, q1, q2, q3, q4, q5, q6, q7, q8]) rfl ⟨arrU RR CC A3 n3 c3, rfl, HRS.out.same hcn.size (fun b o e hb => hcn.block b hb (by
    have := hfr b o e
    rw [List.mem_singleton]
    omega)), fun b o e => by have := hfr b o e; omega, HC2.out.trans (hcn.mono HC2.out.size fun x hx => .inr (by rw [List.mem_singleton.1 hx]; exact Nat.le_refl _))⟩

set_option maxRecDepth 100000 in
set_option maxHeartbeats 8000000 in
theorem fDr_any (B0 W0 W : World) (q : Nat) (A : Option Addr) (c : Nat) (u : Vl) (R C k f0 m : Nat) (us : List Vl) (he : VEnv W0) (h0 : Below W0.heap.size W0 W) (hq0 : W0.heap.size ≤ q) (hq : Blk W q 90 #[.slice A 2 c, .int .i64 0]) (hA : Reads 9 csV W0 (.slice A 2 c) [u, nV k]) (hu : AR W0 u R C us) (hR : R ≤ 100) (hk : 0 < k ∧ k < R ∧ f0 = k ∧ m = R - k) :
    Calls Tryz.prog 46 #[.pointer (some ⟨q, 0, none⟩)] W (ResF B0 W [q] m C (rowsL C f0 m us)) := by
  have HPA := Lib.hid (parts_a W0 (W.alloc (.cells #[.int .i64 0, .string ⟨#[]⟩, .string ⟨#[]⟩, .string ⟨#[]⟩, .bool false, .int .i64 0, .int .i64 0, .int .i64 0, .slice none 0 0] 27)) q A c u R C k f0 m false us he (h0.trans ((below_al W _).mono h0.size)) hq0 (hq.alloc _) hA hu hR (.inr (.inr ⟨rfl, hk.1, by omega, hk.2.2.1, hk.2.2.2⟩)) (by omega) hk.1)
  have hqn : W.heap.size ∉ [q] := by have := hq.lt; rw [List.mem_singleton]; omega
  have HQN := Lib.hid hqn
  have HBZ := Lib.hid (Blk.new W 27 #[.int .i64 0, .string ⟨#[]⟩, .string ⟨#[]⟩, .string ⟨#[]⟩, .bool false, .int .i64 0, .int .i64 0, .int .i64 0, .slice none 0 0])
  obtain ⟨RR, hRR⟩ : ∃ x, x = (m) := ⟨_, rfl⟩
  obtain ⟨CC, hCC⟩ : ∃ x, x = (C) := ⟨_, rfl⟩
  rw [← hRR, ← hCC] at HPA ⊢
  clear he hA hu hk h0 hq hqn hRR hCC
  go_enter Tryz.func46, Tryz.ntmps46
  go_upto_region 99 with (go_at_call 45; (with_reducible refine HPA.out.mono ?_); rintro e w2 ⟨u', he, hr, hfr, hc⟩; have HRS := Lib.hid hr; obtain ⟨A3, n3, c3, rfl, hn3, -⟩ := hr.ex; have he : e = .returned (aV (RR : Int) (CC : Int) A3 n3 c3) := he; subst he; have HFR := Lib.hid hfr; have HC2 := Lib.hid ((Chg.of (below_al W (.cells #[.int .i64 0, .string ⟨#[]⟩, .string ⟨#[]⟩, .string ⟨#[]⟩, .bool false, .int .i64 0, .int .i64 0, .int .i64 0, .slice none 0 0] 27)) [q]).next hc); have HBW := Lib.hid (hc.blk HBZ.out HBZ.out.lt HQN.out); clear hn3 hr hfr hc HBZ; obtain ⟨f0', f1, f2, f3, f4, f5, f6, f7, f8⟩ := HBW.out.ninef; obtain ⟨z0, z1, z2, z3, z4, z5, z6, z7, z8⟩ := HBW.out.nine)
  clear f0' f1 f2 f3 f4 f5 f6 f7 f8 z0 z1 z2 z3 z4 z5 z6 z7 z8
  obtain ⟨q0, q1, q2, q3, q4, q5, q6, q7, q8⟩ := (HBW.out.nine_set (.int .i64 5) (.string ⟨#[]⟩) (.string ⟨#[]⟩) (.string ⟨#[]⟩) (.bool false) (.int .i64 0) (.int .i64 (RR : Int)) (.int .i64 (CC : Int)) (.slice A3 n3 c3)).1.nine
  have hcn := chg_nine w2 W.heap.size (.int .i64 5) (.string ⟨#[]⟩) (.string ⟨#[]⟩) (.string ⟨#[]⟩) (.bool false) (.int .i64 0) (.int .i64 (RR : Int)) (.int .i64 (CC : Int)) (.slice A3 n3 c3)
  have hfr := HFR.out
  have hsz : (W.alloc (.cells #[.int .i64 0, .string ⟨#[]⟩, .string ⟨#[]⟩, .string ⟨#[]⟩, .bool false, .int .i64 0, .int .i64 0, .int .i64 0, .slice none 0 0] 27)).heap.size = W.heap.size + 1 := by simp
  rw [hsz] at hfr
  refine bodyPost_ret (v := aV (RR : Int) (CC : Int) A3 n3 c3) (by simp [results, Tryz.results46, go_sem, q0, q1, q2, q3, q4, q5, q6, q7, q8]) rfl ⟨arrU RR CC A3 n3 c3, rfl, HRS.out.same hcn.size (fun b o e hb => hcn.block b hb (by
    have := hfr b o e
    rw [List.mem_singleton]
    omega)), fun b o e => by have := hfr b o e; omega, HC2.out.trans (hcn.mono HC2.out.size fun x hx => .inr (by rw [List.mem_singleton.1 hx]; exact Nat.le_refl _))⟩

end Go.Proofs.YtllhefjblipddaaGreatDoor

namespace Go.Proofs.YtllhefjblipddaaGreatDoor
open Go.RowKit

section
variable {ops : Array Oper} {rest : List Oper} {o : Oper} {a : Act} {Q : Exit → Act → World → Prop}
/-- make of no value. -/
theorem wp_make0V {w : World} (hgd : o.guard = none) (x y : Operand) (ho : o.op = Op.makeSlice 25 x y) (hx : a.eval x = .int .i64 0) (hy : a.eval y = .int .i64 0)
    (h : ∀ w', Below w.heap.size w w' → wpList Tryz.prog ops Q rest (a.put o.dst (.slice (some ⟨w.heap.size, 0, none⟩) 0 0)) w') :
    wpList Tryz.prog ops Q (o :: rest) a w := by
  obtain ⟨i0, hi, hz0, hz1, hz2⟩ := info_parts val_info
  refine wpList_make_full w hgd x y 25 ho w.heap.size 27 i0 (.agg #[.int .i64 0, .string ⟨#[]⟩, .string ⟨#[]⟩, .string ⟨#[]⟩, .bool false, .int .i64 0, .int .i64 0, .int .i64 0, .slice none 0 0]) 9 Tryz.underlying25 hi hz0 hz1 .i64 .i64 0 0 0 hx hy rfl rfl (by rw [hz2]; omega) (by unfold maxLen; omega) (Nat.le_refl _) ?_
  intro w' h1 h2
  exact h w' ⟨h2.os, h2.tape, h2.output, h2.size, fun k hk => h2.block k hk (by simp)⟩
/-- Nothing is copied. -/
theorem copy_none (w : World) (d x : Option Addr) (dc sl sc : Nat) : (Builtin.copy_ #[25, 25] 3 #[.slice d 0 dc, .slice x sl sc]).run Tryz.prog w = .ok (.int .i64 0) w := by
  obtain ⟨i0, hi, hz0, hz1, hz2⟩ := info_parts val_info
  have hl : ∀ (x : Addr), (loadCells x 0).run Tryz.prog w = .ok #[] w := fun x => by simpa using run_loadCells_list (P := Tryz.prog) w x [] (by simp)
  cases d <;> cases x <;> simp [Builtin.copy_, run_underlying Tryz.underlying25, Builtin.lenOf, Builtin.firstCells, sizeOf, typeInfo, hi, storeCells, hl, goInt]
/-- Nothing is appended. -/
theorem app_none (w : World) (g x : Option Addr) (n c xc : Nat) (h : n ≤ c) : (Builtin.append_ #[25, 25] 25 #[.slice g n c, .slice x 0 xc]).run Tryz.prog w = .ok (.slice g n c) w := by
  obtain ⟨i0, hi, hz0, hz1, hz2⟩ := info_parts val_info
  have hl : ∀ (x : Addr), (loadCells x 0).run Tryz.prog w = .ok #[] w := fun x => by simpa using run_loadCells_list (P := Tryz.prog) w x [] (by simp)
  cases g <;> cases x <;> simp [Builtin.append_, run_underlying Tryz.underlying25, Builtin.lenOf, Builtin.firstCells, sizeOf, typeInfo, hi, storeCells, hl, h]
/-- The same at a step of a region that draws. -/
theorem step_app0 {K : Act → World → Prop} {X : Prop} {w : World} (hgd : o.guard = none) (s x : Operand) (ho : o.op = .call { callee := .builtin .append, args := #[s, x], argTypes := #[25, 25] }) (hty : o.type = 25) (g y : Option Addr) (n c xc : Nat) (hs : a.eval s = .slice g n c) (hx : a.eval x = .slice y 0 xc) (hn : n ≤ c) (h : K (a.put o.dst (.slice g n c)) w) :
    if Region.wanted o (yielded ops a.tmps) = true then Oper.wp Tryz.prog o a w K Q else X := by
  have hw : Region.wanted o (yielded ops a.tmps) = true := by simp [Region.wanted, hgd]
  rw [if_pos hw]
  unfold Oper.wp execOp
  simp only [ho, hty, resolve, invoke, builtin, Sem.run_bind, Sem.run_pure, Result.andThen_ok, List.map_toArray, List.map_cons, List.map_nil, hs, hx, app_none w g y n c xc hn]
  exact h
/-- The same at a list. -/
theorem wp_app0 {w : World} (hgd : o.guard = none) (s x : Operand) (ho : o.op = .call { callee := .builtin .append, args := #[s, x], argTypes := #[25, 25] }) (hty : o.type = 25) (g y : Option Addr) (n c xc : Nat) (hs : a.eval s = .slice g n c) (hx : a.eval x = .slice y 0 xc) (hn : n ≤ c) (h : wpList Tryz.prog ops Q rest (a.put o.dst (.slice g n c)) w) : wpList Tryz.prog ops Q (o :: rest) a w :=
  wpList_plain hgd fun _ hK => by
    unfold Oper.wp execOp
    simp only [ho, hty, resolve, invoke, builtin, Sem.run_bind, Sem.run_pure, Result.andThen_ok, List.map_toArray, List.map_cons, List.map_nil, hs, hx, app_none w g y n c xc hn]
    exact hK _ _ h
end
set_option maxRecDepth 100000 in
set_option maxHeartbeats 4000000 in
theorem rep_0 (H : Nat) (W : World) : Calls Tryz.prog 94 #[.slice (some ⟨H, 0, none⟩) 1 1, .int .i64 0] W fun e w' => e = .returned (.slice (some ⟨W.heap.size, 0, none⟩) 0 0) ∧ Below W.heap.size W w' := by
  have HM := Lib.hid fun W' => (show Calls Tryz.prog 140 #[.int .u64 1, .int .u64 0] W' fun e w' => e = .returned (.tuple #[.int .u64 0, .int .u64 0]) ∧ w' = W' from Tryz.bits_Mul 1 0 (by decide) (by decide) W')
  go_enter Tryz.func94, Tryz.ntmps94
  go_upto_region 6 with (go_at_call 140; (with_reducible refine (HM.out _).mono ?_); rintro e w1 ⟨rfl, rfl⟩)
  go_upto_region 7 with (refine wp_make0V rfl _ _ rfl rfl rfl ?_; intro w2 hb; have HB := Lib.hid hb; clear hb)
  have hcp := fun W' => copy_none W' (some ⟨w1.heap.size, 0, none⟩) (some ⟨H, 0, none⟩) 0 1 1
  go_wp2_with fail
  go_loopw [8] (fun u8 wz => u8 = .int .i64 0 ∧ Hid (Below w1.heap.size w1 wz)) (fun _ _ => 0)
  case atStart => exact ⟨rfl, HB⟩
  case round =>
    clear HB
    obtain ⟨rfl, HB⟩ := hrel
    go_wp2_with fail
    go_ret
    exact ⟨rfl, HB.out⟩
end Go.Proofs.YtllhefjblipddaaGreatDoor

namespace Go.Proofs.YtllhefjblipddaaGreatDoor
open Go.RowKit

set_option maxRecDepth 100000 in
set_option maxHeartbeats 16000000 in
theorem wide_a (R C n : Nat) (b o cc : Nat) (us : List Vl) (x5 : Vl) (W : World) (hn : n = R * C) (r1 : 1 ≤ R) (r2 : R ≤ 1000) (c1 : 1 ≤ C) (hC : C ≤ 100) (hT : n ≤ 100000) (hU : Reads 9 csV W (.slice (some ⟨b, o, none⟩) n cc) us) : Calls Tryz.prog 91 #[gV R C (some ⟨b, o, none⟩) n cc, .int .i64 (C : Int), x5.v] W fun e w' => ∃ g c', e = .returned (gV R C (some ⟨g, 0, none⟩) n c') ∧ Reads 9 csV w' (.slice (some ⟨g, 0, none⟩) n c') us ∧ W.heap.size ≤ g ∧ Below W.heap.size W w' := by
  obtain ⟨k, num, den, text, on, code, rr, rc, VA, vn, vc⟩ := x5
  have hul : us.length = n := (hU.lt (by rw [hn]; exact Nat.mul_pos r1 c1)).1
  have hcap := reads_cap hU
  have HID := Lib.hid (show rowsL C 0 R us = us from rowsL_id C R us (by rw [hul, hn]))
  have HLN := Lib.hid (show ∀ j, j ≤ R → (rowsL C 0 j us).length = j * C from fun j hj => rowsL_len C 0 j us (by rw [hul, hn]; exact Nat.mul_le_mul_right C (by omega)))
  have HJC := Lib.hid (show ∀ j, j ≤ R → j * C ≤ n from fun j hj => by rw [hn]; exact Nat.mul_le_mul_right C (by omega))
  have HXB := Lib.hid (show ∀ j, j < R → j * C + C ≤ n from fun j hj => by
    have h := Nat.mul_le_mul_right C (show j + 1 ≤ R by omega)
    rw [Nat.add_mul, Nat.one_mul] at h
    rw [hn]
    exact h)
  have HU := Lib.hid hU
  have HN' := Lib.hid hn
  have HC := Lib.hid hcap
  have HL0 := Lib.hid (((((Loc.start W).alloc' rfl 69 #[.int .i64 (R : Int), .int .i64 (C : Int), .slice (some ⟨b, o, none⟩) n cc]).alloc' (g := W.heap.size + 1) (by simp) 27 #[.int .i64 k, .string num, .string den, .string text, .bool on, .int .i64 code, .int .i64 rr, .int .i64 rc, .slice VA vn vc]).alloc' (g := W.heap.size + 1 + 1) (by simp) 69 #[.int .i64 0, .int .i64 0, .slice none 0 0]).alloc' (g := W.heap.size + 1 + 1 + 1) (by simp) 69 #[.int .i64 (R : Int), .int .i64 (C : Int), .slice none 0 0])
  have HS0 := Lib.hid (show W.heap.size + 4 ≤ ((((W.alloc (.cells #[.int .i64 (R : Int), .int .i64 (C : Int), .slice (some ⟨b, o, none⟩) n cc] 69)).alloc (.cells #[.int .i64 k, .string num, .string den, .string text, .bool on, .int .i64 code, .int .i64 rr, .int .i64 rc, .slice VA vn vc] 27)).alloc (.cells #[.int .i64 0, .int .i64 0, .slice none 0 0] 69)).alloc (.cells #[.int .i64 (R : Int), .int .i64 (C : Int), .slice none 0 0] 69)).heap.size from by simp)
  clear hU hn hcap hul
  show Calls Tryz.prog 91 #[gV R C (some ⟨b, o, none⟩) n cc, .int .i64 (C : Int), .agg #[.int .i64 k, .string num, .string den, .string text, .bool on, .int .i64 code, .int .i64 rr, .int .i64 rc, .slice VA vn vc]] W _
  go_enter Tryz.func91, Tryz.ntmps91
  go_upto_region 2 with fail
  revert HL0 HS0
  generalize (((W.alloc (.cells #[.int .i64 (R : Int), .int .i64 (C : Int), .slice (some ⟨b, o, none⟩) n cc] 69)).alloc (.cells #[.int .i64 k, .string num, .string den, .string text, .bool on, .int .i64 code, .int .i64 rr, .int .i64 rc, .slice VA vn vc] 27)).alloc (.cells #[.int .i64 0, .int .i64 0, .slice none 0 0] 69)).alloc (.cells #[.int .i64 (R : Int), .int .i64 (C : Int), .slice none 0 0] 69) = W1
  intro HL0 HS0
  have HCL := Lib.hid (show ∀ w' v, Loc W [(W.heap.size + 1 + 1 + 1, 69, #[.int .i64 (R : Int), .int .i64 (C : Int), v]), (W.heap.size + 1 + 1, 69, #[.int .i64 0, .int .i64 0, .slice none 0 0]), (W.heap.size + 1, 27, #[.int .i64 k, .string num, .string den, .string text, .bool on, .int .i64 code, .int .i64 rr, .int .i64 rc, .slice VA vn vc]), (W.heap.size, 69, #[.int .i64 (R : Int), .int .i64 (C : Int), .slice (some ⟨b, o, none⟩) n cc])] w' → w'.cell? ⟨W.heap.size, 0, none⟩ = some (.int .i64 (R : Int)) ∧ w'.cell? ⟨W.heap.size, 1, none⟩ = some (.int .i64 (C : Int)) ∧ w'.cell? ⟨W.heap.size, 2, none⟩ = some (.slice (some ⟨b, o, none⟩) n cc) ∧ w'.cell? ⟨W.heap.size + 1, 0, none⟩ = some (.int .i64 k) ∧ w'.cell? ⟨W.heap.size + 1, 1, none⟩ = some (.string num) ∧ w'.cell? ⟨W.heap.size + 1, 2, none⟩ = some (.string den) ∧ w'.cell? ⟨W.heap.size + 1, 3, none⟩ = some (.string text) ∧ w'.cell? ⟨W.heap.size + 1, 4, none⟩ = some (.bool on) ∧ w'.cell? ⟨W.heap.size + 1, 5, none⟩ = some (.int .i64 code) ∧ w'.cell? ⟨W.heap.size + 1, 6, none⟩ = some (.int .i64 rr) ∧ w'.cell? ⟨W.heap.size + 1, 7, none⟩ = some (.int .i64 rc) ∧ w'.cell? ⟨W.heap.size + 1, 8, none⟩ = some (.slice VA vn vc) from fun w' v h => by
    have h1 := h.blk (g := W.heap.size) (t := 69) (List.mem_cons_of_mem _ (List.mem_cons_of_mem _ (List.mem_cons_of_mem _ (List.mem_cons_self ..))))
    have h2 := h.blk (g := W.heap.size + 1) (t := 27) (List.mem_cons_of_mem _ (List.mem_cons_of_mem _ (List.mem_cons_self ..)))
    exact ⟨h1.cell 0, h1.cell 1, h1.cell 2, h2.cell 0, h2.cell 1, h2.cell 2, h2.cell 3, h2.cell 4, h2.cell 5, h2.cell 6, h2.cell 7, h2.cell 8⟩)
  have HC7 := Lib.hid (show ∀ w' v, Loc W [(W.heap.size + 1 + 1 + 1, 69, #[.int .i64 (R : Int), .int .i64 (C : Int), v]), (W.heap.size + 1 + 1, 69, #[.int .i64 0, .int .i64 0, .slice none 0 0]), (W.heap.size + 1, 27, #[.int .i64 k, .string num, .string den, .string text, .bool on, .int .i64 code, .int .i64 rr, .int .i64 rc, .slice VA vn vc]), (W.heap.size, 69, #[.int .i64 (R : Int), .int .i64 (C : Int), .slice (some ⟨b, o, none⟩) n cc])] w' → w'.cell? ⟨W.heap.size + 1 + 1 + 1, 2, none⟩ = some v from fun w' v h => (h.blk (g := W.heap.size + 1 + 1 + 1) (t := 69) (List.mem_cons_self ..)).cell 2)
  obtain ⟨g0, g1, g2, -⟩ := HCL.out _ _ HL0.out
  go_upto_block 0 with fail
  clear g0 g1 g2
  go_cut [15] (fun u15 wz => ∃ v, Hid (Loc W [(W.heap.size + 1 + 1 + 1, 69, #[.int .i64 (R : Int), .int .i64 (C : Int), v]), (W.heap.size + 1 + 1, 69, #[.int .i64 0, .int .i64 0, .slice none 0 0]), (W.heap.size + 1, 27, #[.int .i64 k, .string num, .string den, .string text, .bool on, .int .i64 code, .int .i64 rr, .int .i64 rc, .slice VA vn vc]), (W.heap.size, 69, #[.int .i64 (R : Int), .int .i64 (C : Int), .slice (some ⟨b, o, none⟩) n cc])] wz) ∧ Hid (RowOf 27 9 csV wz (W.heap.size + 4) v (rowsL C 0 R us)))
  case first =>
    go_wp2_with fail
    go_loopw [15] (fun u15 wz => ∃ (j : Nat) (v : Value), j ≤ R ∧ u15 = .int .i64 (j : Int) ∧ Hid (Loc W [(W.heap.size + 1 + 1 + 1, 69, #[.int .i64 (R : Int), .int .i64 (C : Int), v]), (W.heap.size + 1 + 1, 69, #[.int .i64 0, .int .i64 0, .slice none 0 0]), (W.heap.size + 1, 27, #[.int .i64 k, .string num, .string den, .string text, .bool on, .int .i64 code, .int .i64 rr, .int .i64 rc, .slice VA vn vc]), (W.heap.size, 69, #[.int .i64 (R : Int), .int .i64 (C : Int), .slice (some ⟨b, o, none⟩) n cc])] wz) ∧ Hid (RowOf 27 9 csV wz (W.heap.size + 4) v (rowsL C 0 j us)) ∧ Hid (W.heap.size + 4 ≤ wz.heap.size)) (fun u _ => R - (intOf u).toNat)
    case atStart => exact ⟨0, .slice none 0 0, by omega, rfl, HL0, Lib.hid (by rw [rowsL_zero]; exact RowOf.nil _ _), HS0⟩
    case round =>
      clear HL0 HS0
      obtain ⟨j, v, hj, rfl, HL, HO, HS⟩ := hrel
      by_cases hlt : j < R
      · have hlz : (j : Int) < (R : Int) := by omega
        have j0 : 0 ≤ (j : Int) := by omega
        have j1 : IntKind.i64.wrap ((j : Int) + 1) = (j : Int) + 1 := IntWalk.i64_in _ (by omega)
        obtain ⟨x, hx⟩ : ∃ x, x = j * C := ⟨_, rfl⟩
        have hxn := HXB.out j hlt
        rw [← hx] at hxn
        have HRW := Lib.hid fun W' => row_a R C n j x b o cc W' hx hxn HC.out c1 hT
        have hst := rowsL_step C 0 j us
        rw [Nat.zero_add, ← hx] at hst
        have HST := Lib.hid hst
        have hjc := HJC.out j hj
        have HLW := Lib.hid (HLN.out j hj)
        obtain ⟨LL, hLL⟩ : ∃ LL, LL = rowsL C 0 j us := ⟨_, rfl⟩
        rw [← hLL] at HO HST HLW
        have HRD := Lib.hid (show ∀ W', Below W.heap.size W W' → Reads 9 csV W' (.slice (some ⟨b, o + x * 9, none⟩) C (cc - x)) ((us.drop x).take C) from fun W' hW => reads_part (HU.out.below hW) (by omega) x C (cc - x) hxn (by have := HC.out; omega))
        have hml : ((us.drop x).take C).length = C := by
          have := (HU.out.lt (by omega)).1
          rw [List.length_take, List.length_drop]
          omega
        obtain ⟨MM, hMM⟩ : ∃ MM, MM = (us.drop x).take C := ⟨_, rfl⟩
        rw [← hMM] at HRD hml HST
        have HML := Lib.hid hml
        clear hLL hMM hml hst hx
        have HPT := Lib.hid (show ∀ w2 w' v', Loc W [(W.heap.size + 1 + 1 + 1, 69, #[.int .i64 (R : Int), .int .i64 (C : Int), v]), (W.heap.size + 1 + 1, 69, #[.int .i64 0, .int .i64 0, .slice none 0 0]), (W.heap.size + 1, 27, #[.int .i64 k, .string num, .string den, .string text, .bool on, .int .i64 code, .int .i64 rr, .int .i64 rc, .slice VA vn vc]), (W.heap.size, 69, #[.int .i64 (R : Int), .int .i64 (C : Int), .slice (some ⟨b, o, none⟩) n cc])] w2 → RowOf 27 9 csV w' (W.heap.size + 4) v' (LL ++ MM) → Below (W.heap.size + 4) w2 w' → W.heap.size + 4 ≤ w2.heap.size → (w'.cell? ⟨W.heap.size + 1 + 1 + 1, 2, none⟩ = some v ∧ w'.frozen? ⟨W.heap.size + 1 + 1 + 1, 2, none⟩ = false) ∧ Loc W [(W.heap.size + 1 + 1 + 1, 69, #[.int .i64 (R : Int), .int .i64 (C : Int), v']), (W.heap.size + 1 + 1, 69, #[.int .i64 0, .int .i64 0, .slice none 0 0]), (W.heap.size + 1, 27, #[.int .i64 k, .string num, .string den, .string text, .bool on, .int .i64 code, .int .i64 rr, .int .i64 rc, .slice VA vn vc]), (W.heap.size, 69, #[.int .i64 (R : Int), .int .i64 (C : Int), .slice (some ⟨b, o, none⟩) n cc])] (w'.setCell ⟨W.heap.size + 1 + 1 + 1, 2, none⟩ v') ∧ RowOf 27 9 csV (w'.setCell ⟨W.heap.size + 1 + 1 + 1, 2, none⟩ v') (W.heap.size + 4) v' (LL ++ MM) ∧ W.heap.size + 4 ≤ (w'.setCell ⟨W.heap.size + 1 + 1 + 1, 2, none⟩ v').heap.size from fun w2 w' v' hl ho hb hs => by
          have hl2 := hl.stepB' hb (by omega) (fun x hx => by
            simp only [List.mem_cons, List.not_mem_nil, or_false] at hx
            rcases hx with rfl | rfl | rfl | rfl <;> dsimp only <;> omega)
          have hz := hl2.blk (g := W.heap.size + 1 + 1 + 1) (t := 69) (List.mem_cons_self ..)
          refine ⟨⟨hz.cell 2, hz.frozen 2⟩, hl2.set1 (i := 2) (fun x hx => ?_) v', RowOf.far ho (fun g hg e => ?_) v', ?_⟩
          · simp only [List.mem_cons, List.not_mem_nil, or_false] at hx
            rcases hx with rfl | rfl | rfl <;> dsimp only <;> omega
          · have h1 := (RowOf.lt ho g hg).1
            have e : g = W.heap.size + 1 + 1 + 1 := e
            omega
          · have h1 := hb.size
            simp only [World.setCell, Array.size_modify]
            omega)
        have HLK := Lib.hid (show ∀ w2 w', Loc W [(W.heap.size + 1 + 1 + 1, 69, #[.int .i64 (R : Int), .int .i64 (C : Int), v]), (W.heap.size + 1 + 1, 69, #[.int .i64 0, .int .i64 0, .slice none 0 0]), (W.heap.size + 1, 27, #[.int .i64 k, .string num, .string den, .string text, .bool on, .int .i64 code, .int .i64 rr, .int .i64 rc, .slice VA vn vc]), (W.heap.size, 69, #[.int .i64 (R : Int), .int .i64 (C : Int), .slice (some ⟨b, o, none⟩) n cc])] w2 → Below (W.heap.size + 4) w2 w' → W.heap.size + 4 ≤ w2.heap.size → Loc W [(W.heap.size + 1 + 1 + 1, 69, #[.int .i64 (R : Int), .int .i64 (C : Int), v]), (W.heap.size + 1 + 1, 69, #[.int .i64 0, .int .i64 0, .slice none 0 0]), (W.heap.size + 1, 27, #[.int .i64 k, .string num, .string den, .string text, .bool on, .int .i64 code, .int .i64 rr, .int .i64 rc, .slice VA vn vc]), (W.heap.size, 69, #[.int .i64 (R : Int), .int .i64 (C : Int), .slice (some ⟨b, o, none⟩) n cc])] w' from fun w2 w' hl hb hs => hl.stepB' hb (by omega) (fun x hx => by
            simp only [List.mem_cons, List.not_mem_nil, or_false] at hx
            rcases hx with rfl | rfl | rfl | rfl <;> dsimp only <;> omega))
        have HCP := Lib.hid (show ∀ w' v' n0, RowOf 27 9 csV w' (W.heap.size + 4) v' (LL ++ MM) → LL.length + MM.length = n0 → ∀ g c, v' = .slice (some ⟨g, 0, none⟩) n0 c → n0 ≤ c from fun w' v' n0 ho hl g c e => by
          subst e
          rcases ho.2 with ⟨h', _⟩ | ⟨g', cap', cur, h', _, _, hc, _⟩
          · cases h'
          · injection h' with h1 h2 h3
            rw [List.length_append, hl] at hc
            omega)
        have sz : IntKind.i64.wrap 0 = 0 := by decide
        have hFV : ∀ w', Below w'.heap.size w' (w'.alloc (.cells #[.int .i64 k, .string num, .string den, .string text, .bool on, .int .i64 code, .int .i64 rr, .int .i64 rc, .slice VA vn vc] 27)) := fun w' => below_al w' _
        have HFV := Lib.hid hFV
        clear hFV
        go_upto_region 5 with fail
        refine wp_region_G (S1 := fun w' => w'.cell? ⟨W.heap.size, 0, none⟩ = some (.int .i64 (R : Int)) ∧ w'.cell? ⟨W.heap.size, 1, none⟩ = some (.int .i64 (C : Int)) ∧ w'.cell? ⟨W.heap.size, 2, none⟩ = some (.slice (some ⟨b, o, none⟩) n cc) ∧ w'.cell? ⟨W.heap.size + 1, 0, none⟩ = some (.int .i64 k) ∧ w'.cell? ⟨W.heap.size + 1, 1, none⟩ = some (.string num) ∧ w'.cell? ⟨W.heap.size + 1, 2, none⟩ = some (.string den) ∧ w'.cell? ⟨W.heap.size + 1, 3, none⟩ = some (.string text) ∧ w'.cell? ⟨W.heap.size + 1, 4, none⟩ = some (.bool on) ∧ w'.cell? ⟨W.heap.size + 1, 5, none⟩ = some (.int .i64 code) ∧ w'.cell? ⟨W.heap.size + 1, 6, none⟩ = some (.int .i64 rr) ∧ w'.cell? ⟨W.heap.size + 1, 7, none⟩ = some (.int .i64 rc) ∧ w'.cell? ⟨W.heap.size + 1, 8, none⟩ = some (.slice VA vn vc)) (S2 := fun w' => w'.cell? ⟨W.heap.size + 1 + 1 + 1, 2, none⟩ = some v) (d := 15) (by kernel_rfl) (HCL.out _ _ HL.out.drew) (HC7.out _ _ HL.out.drew) (fun hT => ?_)
        refine wpAnyG_take1d (i := 0) (v := ?_) rfl rfl (by kernel_rfl) (by kernel_rfl) (by kernel_rfl) (by kernel_rfl) (fun _ _ _ h => h) (Or.inl ⟨by rfl, ?_⟩) (by assumption) (fun hT => ?_)
        rotate_left
        · intro w hSw
          (try dsimp only at hSw)
          go_simp
          (try with_reducible rfl)
        (try simp only [Act.put, List.setIfInBounds_toArray, List.set_cons_zero, List.set_cons_succ])
        refine wpAnyG_take2d (i := 1) (v := ?_) rfl rfl (by kernel_rfl) (by kernel_rfl) (by kernel_rfl) (by kernel_rfl) (by kernel_rfl) (by kernel_rfl) (fun _ _ _ h => h) (Or.inl ⟨by rfl, ?_⟩) (by assumption) (fun hT => ?_)
        rotate_left
        · intro w hSw
          (try dsimp only at hSw)
          go_simp
          (try with_reducible rfl)
        (try simp only [Act.put, List.setIfInBounds_toArray, List.set_cons_zero, List.set_cons_succ])
        refine wpAnyG_take1d (i := 2) (v := ?_) rfl rfl (by kernel_rfl) (by kernel_rfl) (by kernel_rfl) (by kernel_rfl) (fun _ _ _ h => h) (Or.inl ⟨by rfl, ?_⟩) (by assumption) (fun hT => ?_)
        rotate_left
        · intro w hSw
          (try dsimp only at hSw)
          go_simp
          (try with_reducible rfl)
        (try simp only [Act.put, List.setIfInBounds_toArray, List.set_cons_zero, List.set_cons_succ])
        refine wpAnyG_take1d (i := 3) (v := ?_) rfl rfl (by kernel_rfl) (by kernel_rfl) (by kernel_rfl) (by kernel_rfl) (fun _ _ _ h => h) (Or.inl ⟨by rfl, ?_⟩) (by assumption) (fun hT => ?_)
        rotate_left
        · intro w hSw
          (try dsimp only at hSw)
          go_simp
          (try with_reducible rfl)
        (try simp only [Act.put, List.setIfInBounds_toArray, List.set_cons_zero, List.set_cons_succ])
        refine wpAnyG_take1d (i := 6) (v := ?_) rfl rfl (by kernel_rfl) (by kernel_rfl) (by kernel_rfl) (by kernel_rfl) (fun _ _ _ h => h) (Or.inl ⟨by rfl, ?_⟩) (by assumption) (fun hT => ?_)
        rotate_left
        · intro w hSw
          (try dsimp only at hSw)
          go_simp
          (try with_reducible rfl)
        (try simp only [Act.put, List.setIfInBounds_toArray, List.set_cons_zero, List.set_cons_succ])
        refine wpAnyG_take1d (i := 8) (v := ?_) rfl rfl (by kernel_rfl) (by kernel_rfl) (by kernel_rfl) (by kernel_rfl) (fun _ _ _ h => h) (Or.inl ⟨by rfl, ?_⟩) (by assumption) (fun hT => ?_)
        rotate_left
        · intro w hSw
          (try dsimp only at hSw)
          go_simp
          (try with_reducible rfl)
        (try simp only [Act.put, List.setIfInBounds_toArray, List.set_cons_zero, List.set_cons_succ])
        refine wpAnyG_take1d (i := 9) (v := ?_) rfl rfl (by kernel_rfl) (by kernel_rfl) (by kernel_rfl) (by kernel_rfl) (fun _ _ _ h => h) (Or.inl ⟨by rfl, ?_⟩) (by assumption) (fun hT => ?_)
        rotate_left
        · intro w hSw
          (try dsimp only at hSw)
          go_simp
          (try with_reducible rfl)
        (try simp only [Act.put, List.setIfInBounds_toArray, List.set_cons_zero, List.set_cons_succ])
        refine wpAnyG_take1d (i := 10) (v := ?_) rfl rfl (by kernel_rfl) (by kernel_rfl) (by kernel_rfl) (by kernel_rfl) (fun _ _ _ h => h) (Or.inl ⟨by rfl, ?_⟩) (by assumption) (fun hT => ?_)
        rotate_left
        · intro w hSw
          (try dsimp only at hSw)
          go_simp
          (try with_reducible rfl)
        (try simp only [Act.put, List.setIfInBounds_toArray, List.set_cons_zero, List.set_cons_succ])
        refine wpAnyG_take1d (i := 11) (v := ?_) rfl rfl (by kernel_rfl) (by kernel_rfl) (by kernel_rfl) (by kernel_rfl) (fun _ _ _ h => h) (Or.inl ⟨by rfl, ?_⟩) (by assumption) (fun hT => ?_)
        rotate_left
        · intro w hSw
          (try dsimp only at hSw)
          go_simp
          (try with_reducible rfl)
        (try simp only [Act.put, List.setIfInBounds_toArray, List.set_cons_zero, List.set_cons_succ])
        refine wpAnyG_ready (rs := [4, 7]) (by kernel_rfl) (by simp) ?_
        refine AllG.cons (i := 4) rfl (fun K hK => ?_) (AllG.cons (i := 7) rfl (fun K hK => ?_) AllG.nil)
        · go_simp
          go_at_call 85
          (with_reducible refine (HRW.out _).mono ?_)
          rintro e w3 ⟨rfl, hb⟩
          have hb : Below wr.heap.size wr w3 := (by first | exact (Below.refl wr.heap.size wr).drew.trans hb | exact hb | exact (HFV.out wr).drew.trans (hb.mono (by simp)) | exact (HFV.out wr).trans (hb.mono (by simp)))
          have HL3 := Lib.hid (HL.out.step hb)
          have HO3 := Lib.hid (RowOf.later HO.out hb)
          have HS3 := Lib.hid (Nat.le_trans HS.out hb.size)
          have HRD3 := Lib.hid (HRD.out _ HL3.out.bel)
          rw [← HML.out] at HRD3
          clear hb
          refine hK.out _ _ ⟨(by first | exact HCL.out _ _ HL3.out | exact HCL.out _ _ (HL3.out).drew), .inr (by first | exact HC7.out _ _ HL3.out | exact HC7.out _ _ (HL3.out).drew)⟩ (fun hT => ?_)
          clear hK K
          (try simp only [Act.put, List.setIfInBounds_toArray, List.set_cons_zero, List.set_cons_succ])
          refine wpAnyG_ready (rs := [5, 7]) (by kernel_rfl) (by simp) ?_
          refine AllG.cons (i := 5) rfl (fun K hK => ?_) (AllG.cons (i := 7) rfl (fun K hK => ?_) AllG.nil)
          · refine step_rowN 25 27 9 112 csV _ Tryz.underlying25 val_info rfl (by decide) csV_one rfl (.tmp 19) (.tmp 22) rfl (W.heap.size + 4) v LL rfl (by first | exact HO3.out | exact RowOf.later HO3.out (HFV.out w3)) MM b (o + x * 9) (cc - x) (by rw [HML.out]; rfl) (by rw [HML.out] at HRD3 ⊢; first | exact HRD3.out | exact HRD3.out.below (HFV.out w3)) (by rw [HML.out]; omega) (by have := HLW.out; have := HML.out; omega) (by have := HLW.out; have := HML.out; unfold maxLen; omega) (by first | exact HS3.out | exact Nat.le_trans HS3.out (HFV.out w3).size) ?_
            intro gx cx w4 ho hb hgr
            have hb : Below (W.heap.size + 4) w3 w4 := (by first | exact hb | exact ((HFV.out w3).mono HS3.out).trans hb)
            have HB4 := Lib.hid hb
            have HO4 := Lib.hid ho
            have HL4 := Lib.hid (HLK.out _ _ HL3.out hb HS3.out)
            clear ho hb hgr
            refine hK.out _ _ ⟨(by first | exact HCL.out _ _ HL4.out | exact HCL.out _ _ (HL4.out).drew), .inr (by first | exact HC7.out _ _ HL4.out | exact HC7.out _ _ (HL4.out).drew)⟩ (fun hT => ?_)
            clear hK K
            (try simp only [Act.put, List.setIfInBounds_toArray, List.set_cons_zero, List.set_cons_succ])
            refine wpAnyG_ready (rs := [7]) (by kernel_rfl) (by simp) ?_
            refine AllG.cons (i := 7) rfl (fun K hK => ?_) AllG.nil
            go_simp
            refine hK.out _ _ ⟨(by first | exact HCL.out _ _ (HLK.out _ _ HL3.out (HB4.out.trans ((HFV.out w4).mono (Nat.le_trans HS3.out HB4.out.size))) HS3.out) | exact HCL.out _ _ ((HLK.out _ _ HL3.out (HB4.out.trans ((HFV.out w4).mono (Nat.le_trans HS3.out HB4.out.size))) HS3.out)).drew), .inr (by first | exact HC7.out _ _ (HLK.out _ _ HL3.out (HB4.out.trans ((HFV.out w4).mono (Nat.le_trans HS3.out HB4.out.size))) HS3.out) | exact HC7.out _ _ ((HLK.out _ _ HL3.out (HB4.out.trans ((HFV.out w4).mono (Nat.le_trans HS3.out HB4.out.size))) HS3.out)).drew)⟩ (fun hT => ?_)
            clear hK K
            (try simp only [Act.put, List.setIfInBounds_toArray, List.set_cons_zero, List.set_cons_succ])
            refine wpAnyG_ready (rs := [12]) (by kernel_rfl) (by simp) ?_
            refine AllG.cons (i := 12) rfl (fun K hK => ?_) AllG.nil
            go_simp
            go_at_call 94
            (with_reducible refine (rep_0 _ _).mono ?_)
            rintro e w5 ⟨rfl, hb⟩
            have HB45 := Lib.hid (show Below w4.heap.size w4 w5 from by first | exact hb | exact (HFV.out w4).trans (hb.mono (HFV.out w4).size))
            have hb : Below (W.heap.size + 4) w3 w5 := HB4.out.trans (HB45.out.mono (Nat.le_trans HS3.out HB4.out.size))
            have HL5 := Lib.hid (HLK.out _ _ HL3.out hb HS3.out)
            have HX := Lib.hid (HPT.out _ _ _ HL3.out (RowOf.later HO4.out HB45.out) hb HS3.out)
            have s8 := HX.out.1.1
            have t8 := HX.out.1.2
            clear hb
            refine hK.out _ _ ⟨(by first | exact HCL.out _ _ HL5.out | exact HCL.out _ _ (HL5.out).drew), .inr (by first | exact HC7.out _ _ HL5.out | exact HC7.out _ _ (HL5.out).drew)⟩ (fun hT => ?_)
            clear hK K
            (try simp only [Act.put, List.setIfInBounds_toArray, List.set_cons_zero, List.set_cons_succ])
            refine wpAnyG_ready (rs := [13]) (by kernel_rfl) (by simp) ?_
            refine AllG.cons (i := 13) rfl (fun K hK => ?_) AllG.nil
            refine step_app0 rfl (.tmp 23) (.tmp 30) rfl rfl (some ⟨gx, 0, none⟩) _ (LL.length + MM.length) cx 0 rfl rfl (HCP.out w4 _ _ HO4.out rfl gx cx rfl) ?_
            refine hK.out _ _ ⟨(by first | exact HCL.out _ _ HL5.out | exact HCL.out _ _ (HL5.out).drew), .inr (by first | exact HC7.out _ _ HL5.out | exact HC7.out _ _ (HL5.out).drew)⟩ (fun hT => ?_)
            clear hK K
            (try simp only [Act.put, List.setIfInBounds_toArray, List.set_cons_zero, List.set_cons_succ])
            refine wpAnyG_take1d (i := 14) (v := ?_) rfl rfl (by kernel_rfl) (by kernel_rfl) (by kernel_rfl) (by kernel_rfl) (fun _ _ _ h => h) (Or.inl ⟨by rfl, ?_⟩) (by assumption) (fun hT => ?_)
            rotate_left
            · intro w hSw
              (try dsimp only at hSw)
              go_simp
              (try with_reducible rfl)
            (try simp only [Act.put, List.setIfInBounds_toArray, List.set_cons_zero, List.set_cons_succ])
            refine wpAnyG_ready (rs := [15]) (by kernel_rfl) (by simp) ?_
            refine AllG.cons (i := 15) rfl (fun K hK => ?_) AllG.nil
            go_simp
            refine hK.out _ _ ⟨HCL.out _ _ HX.out.2.1, .inl rfl⟩ (fun hT => ?_)
            clear hK K
            (try simp only [Act.put, List.setIfInBounds_toArray, List.set_cons_zero, List.set_cons_succ])
            refine wpAnyG_done (by kernel_rfl) ?_ _
            clear s8 t8
            go_wp2_with fail
            go_roundw
            case rel => exact ⟨j + 1, _, by omega, by go_num, Lib.hid HX.out.2.1, Lib.hid (by have := HX.out.2.2.1; rw [← HST.out] at this; exact this), Lib.hid HX.out.2.2.2⟩
            case measure => simp [intOf]; omega
          · go_simp
            refine hK.out _ _ ⟨(by first | exact HCL.out _ _ (HL3.out.step (HFV.out w3)) | exact HCL.out _ _ ((HL3.out.step (HFV.out w3))).drew), .inr (by first | exact HC7.out _ _ (HL3.out.step (HFV.out w3)) | exact HC7.out _ _ ((HL3.out.step (HFV.out w3))).drew)⟩ (fun hT => ?_)
            clear hK K
            (try simp only [Act.put, List.setIfInBounds_toArray, List.set_cons_zero, List.set_cons_succ])
            refine wpAnyG_ready (rs := [5]) (by kernel_rfl) (by simp) ?_
            refine AllG.cons (i := 5) rfl (fun K hK => ?_) AllG.nil
            refine step_rowN 25 27 9 112 csV _ Tryz.underlying25 val_info rfl (by decide) csV_one rfl (.tmp 19) (.tmp 22) rfl (W.heap.size + 4) v LL rfl (by first | exact HO3.out | exact RowOf.later HO3.out (HFV.out w3)) MM b (o + x * 9) (cc - x) (by rw [HML.out]; rfl) (by rw [HML.out] at HRD3 ⊢; first | exact HRD3.out | exact HRD3.out.below (HFV.out w3)) (by rw [HML.out]; omega) (by have := HLW.out; have := HML.out; omega) (by have := HLW.out; have := HML.out; unfold maxLen; omega) (by first | exact HS3.out | exact Nat.le_trans HS3.out (HFV.out w3).size) ?_
            intro gx cx w4 ho hb hgr
            have hb : Below (W.heap.size + 4) w3 w4 := (by first | exact hb | exact ((HFV.out w3).mono HS3.out).trans hb)
            have HB4 := Lib.hid hb
            have HO4 := Lib.hid ho
            have HL4 := Lib.hid (HLK.out _ _ HL3.out hb HS3.out)
            clear ho hb hgr
            refine hK.out _ _ ⟨(by first | exact HCL.out _ _ HL4.out | exact HCL.out _ _ (HL4.out).drew), .inr (by first | exact HC7.out _ _ HL4.out | exact HC7.out _ _ (HL4.out).drew)⟩ (fun hT => ?_)
            clear hK K
            (try simp only [Act.put, List.setIfInBounds_toArray, List.set_cons_zero, List.set_cons_succ])
            refine wpAnyG_ready (rs := [12]) (by kernel_rfl) (by simp) ?_
            refine AllG.cons (i := 12) rfl (fun K hK => ?_) AllG.nil
            go_simp
            go_at_call 94
            (with_reducible refine (rep_0 _ _).mono ?_)
            rintro e w5 ⟨rfl, hb⟩
            have HB45 := Lib.hid (show Below w4.heap.size w4 w5 from by first | exact hb | exact (HFV.out w4).trans (hb.mono (HFV.out w4).size))
            have hb : Below (W.heap.size + 4) w3 w5 := HB4.out.trans (HB45.out.mono (Nat.le_trans HS3.out HB4.out.size))
            have HL5 := Lib.hid (HLK.out _ _ HL3.out hb HS3.out)
            have HX := Lib.hid (HPT.out _ _ _ HL3.out (RowOf.later HO4.out HB45.out) hb HS3.out)
            have s8 := HX.out.1.1
            have t8 := HX.out.1.2
            clear hb
            refine hK.out _ _ ⟨(by first | exact HCL.out _ _ HL5.out | exact HCL.out _ _ (HL5.out).drew), .inr (by first | exact HC7.out _ _ HL5.out | exact HC7.out _ _ (HL5.out).drew)⟩ (fun hT => ?_)
            clear hK K
            (try simp only [Act.put, List.setIfInBounds_toArray, List.set_cons_zero, List.set_cons_succ])
            refine wpAnyG_ready (rs := [13]) (by kernel_rfl) (by simp) ?_
            refine AllG.cons (i := 13) rfl (fun K hK => ?_) AllG.nil
            refine step_app0 rfl (.tmp 23) (.tmp 30) rfl rfl (some ⟨gx, 0, none⟩) _ (LL.length + MM.length) cx 0 rfl rfl (HCP.out w4 _ _ HO4.out rfl gx cx rfl) ?_
            refine hK.out _ _ ⟨(by first | exact HCL.out _ _ HL5.out | exact HCL.out _ _ (HL5.out).drew), .inr (by first | exact HC7.out _ _ HL5.out | exact HC7.out _ _ (HL5.out).drew)⟩ (fun hT => ?_)
            clear hK K
            (try simp only [Act.put, List.setIfInBounds_toArray, List.set_cons_zero, List.set_cons_succ])
            refine wpAnyG_take1d (i := 14) (v := ?_) rfl rfl (by kernel_rfl) (by kernel_rfl) (by kernel_rfl) (by kernel_rfl) (fun _ _ _ h => h) (Or.inl ⟨by rfl, ?_⟩) (by assumption) (fun hT => ?_)
            rotate_left
            · intro w hSw
              (try dsimp only at hSw)
              go_simp
              (try with_reducible rfl)
            (try simp only [Act.put, List.setIfInBounds_toArray, List.set_cons_zero, List.set_cons_succ])
            refine wpAnyG_ready (rs := [15]) (by kernel_rfl) (by simp) ?_
            refine AllG.cons (i := 15) rfl (fun K hK => ?_) AllG.nil
            go_simp
            refine hK.out _ _ ⟨HCL.out _ _ HX.out.2.1, .inl rfl⟩ (fun hT => ?_)
            clear hK K
            (try simp only [Act.put, List.setIfInBounds_toArray, List.set_cons_zero, List.set_cons_succ])
            refine wpAnyG_done (by kernel_rfl) ?_ _
            clear s8 t8
            go_wp2_with fail
            go_roundw
            case rel => exact ⟨j + 1, _, by omega, by go_num, Lib.hid HX.out.2.1, Lib.hid (by have := HX.out.2.2.1; rw [← HST.out] at this; exact this), Lib.hid HX.out.2.2.2⟩
            case measure => simp [intOf]; omega
        · go_simp
          refine hK.out _ _ ⟨(by first | exact HCL.out _ _ (HL.out.step (HFV.out wr)) | exact HCL.out _ _ ((HL.out.step (HFV.out wr))).drew), .inr (by first | exact HC7.out _ _ (HL.out.step (HFV.out wr)) | exact HC7.out _ _ ((HL.out.step (HFV.out wr))).drew)⟩ (fun hT => ?_)
          clear hK K
          (try simp only [Act.put, List.setIfInBounds_toArray, List.set_cons_zero, List.set_cons_succ])
          refine wpAnyG_ready (rs := [4]) (by kernel_rfl) (by simp) ?_
          refine AllG.cons (i := 4) rfl (fun K hK => ?_) AllG.nil
          go_simp
          go_at_call 85
          (with_reducible refine (HRW.out _).mono ?_)
          rintro e w3 ⟨rfl, hb⟩
          have hb : Below wr.heap.size wr w3 := (by first | exact (Below.refl wr.heap.size wr).drew.trans hb | exact hb | exact (HFV.out wr).drew.trans (hb.mono (by simp)) | exact (HFV.out wr).trans (hb.mono (by simp)))
          have HL3 := Lib.hid (HL.out.step hb)
          have HO3 := Lib.hid (RowOf.later HO.out hb)
          have HS3 := Lib.hid (Nat.le_trans HS.out hb.size)
          have HRD3 := Lib.hid (HRD.out _ HL3.out.bel)
          rw [← HML.out] at HRD3
          clear hb
          refine hK.out _ _ ⟨(by first | exact HCL.out _ _ HL3.out | exact HCL.out _ _ (HL3.out).drew), .inr (by first | exact HC7.out _ _ HL3.out | exact HC7.out _ _ (HL3.out).drew)⟩ (fun hT => ?_)
          clear hK K
          (try simp only [Act.put, List.setIfInBounds_toArray, List.set_cons_zero, List.set_cons_succ])
          refine wpAnyG_ready (rs := [5]) (by kernel_rfl) (by simp) ?_
          refine AllG.cons (i := 5) rfl (fun K hK => ?_) AllG.nil
          refine step_rowN 25 27 9 112 csV _ Tryz.underlying25 val_info rfl (by decide) csV_one rfl (.tmp 19) (.tmp 22) rfl (W.heap.size + 4) v LL rfl (by first | exact HO3.out | exact RowOf.later HO3.out (HFV.out w3)) MM b (o + x * 9) (cc - x) (by rw [HML.out]; rfl) (by rw [HML.out] at HRD3 ⊢; first | exact HRD3.out | exact HRD3.out.below (HFV.out w3)) (by rw [HML.out]; omega) (by have := HLW.out; have := HML.out; omega) (by have := HLW.out; have := HML.out; unfold maxLen; omega) (by first | exact HS3.out | exact Nat.le_trans HS3.out (HFV.out w3).size) ?_
          intro gx cx w4 ho hb hgr
          have hb : Below (W.heap.size + 4) w3 w4 := (by first | exact hb | exact ((HFV.out w3).mono HS3.out).trans hb)
          have HB4 := Lib.hid hb
          have HO4 := Lib.hid ho
          have HL4 := Lib.hid (HLK.out _ _ HL3.out hb HS3.out)
          clear ho hb hgr
          refine hK.out _ _ ⟨(by first | exact HCL.out _ _ HL4.out | exact HCL.out _ _ (HL4.out).drew), .inr (by first | exact HC7.out _ _ HL4.out | exact HC7.out _ _ (HL4.out).drew)⟩ (fun hT => ?_)
          clear hK K
          (try simp only [Act.put, List.setIfInBounds_toArray, List.set_cons_zero, List.set_cons_succ])
          refine wpAnyG_ready (rs := [12]) (by kernel_rfl) (by simp) ?_
          refine AllG.cons (i := 12) rfl (fun K hK => ?_) AllG.nil
          go_simp
          go_at_call 94
          (with_reducible refine (rep_0 _ _).mono ?_)
          rintro e w5 ⟨rfl, hb⟩
          have HB45 := Lib.hid (show Below w4.heap.size w4 w5 from by first | exact hb | exact (HFV.out w4).trans (hb.mono (HFV.out w4).size))
          have hb : Below (W.heap.size + 4) w3 w5 := HB4.out.trans (HB45.out.mono (Nat.le_trans HS3.out HB4.out.size))
          have HL5 := Lib.hid (HLK.out _ _ HL3.out hb HS3.out)
          have HX := Lib.hid (HPT.out _ _ _ HL3.out (RowOf.later HO4.out HB45.out) hb HS3.out)
          have s8 := HX.out.1.1
          have t8 := HX.out.1.2
          clear hb
          refine hK.out _ _ ⟨(by first | exact HCL.out _ _ HL5.out | exact HCL.out _ _ (HL5.out).drew), .inr (by first | exact HC7.out _ _ HL5.out | exact HC7.out _ _ (HL5.out).drew)⟩ (fun hT => ?_)
          clear hK K
          (try simp only [Act.put, List.setIfInBounds_toArray, List.set_cons_zero, List.set_cons_succ])
          refine wpAnyG_ready (rs := [13]) (by kernel_rfl) (by simp) ?_
          refine AllG.cons (i := 13) rfl (fun K hK => ?_) AllG.nil
          refine step_app0 rfl (.tmp 23) (.tmp 30) rfl rfl (some ⟨gx, 0, none⟩) _ (LL.length + MM.length) cx 0 rfl rfl (HCP.out w4 _ _ HO4.out rfl gx cx rfl) ?_
          refine hK.out _ _ ⟨(by first | exact HCL.out _ _ HL5.out | exact HCL.out _ _ (HL5.out).drew), .inr (by first | exact HC7.out _ _ HL5.out | exact HC7.out _ _ (HL5.out).drew)⟩ (fun hT => ?_)
          clear hK K
          (try simp only [Act.put, List.setIfInBounds_toArray, List.set_cons_zero, List.set_cons_succ])
          refine wpAnyG_take1d (i := 14) (v := ?_) rfl rfl (by kernel_rfl) (by kernel_rfl) (by kernel_rfl) (by kernel_rfl) (fun _ _ _ h => h) (Or.inl ⟨by rfl, ?_⟩) (by assumption) (fun hT => ?_)
          rotate_left
          · intro w hSw
            (try dsimp only at hSw)
            go_simp
            (try with_reducible rfl)
          (try simp only [Act.put, List.setIfInBounds_toArray, List.set_cons_zero, List.set_cons_succ])
          refine wpAnyG_ready (rs := [15]) (by kernel_rfl) (by simp) ?_
          refine AllG.cons (i := 15) rfl (fun K hK => ?_) AllG.nil
          go_simp
          refine hK.out _ _ ⟨HCL.out _ _ HX.out.2.1, .inl rfl⟩ (fun hT => ?_)
          clear hK K
          (try simp only [Act.put, List.setIfInBounds_toArray, List.set_cons_zero, List.set_cons_succ])
          refine wpAnyG_done (by kernel_rfl) ?_ _
          clear s8 t8
          go_wp2_with fail
          go_roundw
          case rel => exact ⟨j + 1, _, by omega, by go_num, Lib.hid HX.out.2.1, Lib.hid (by have := HX.out.2.2.1; rw [← HST.out] at this; exact this), Lib.hid HX.out.2.2.2⟩
          case measure => simp [intOf]; omega
      · obtain rfl : j = R := by omega
        go_wp2_with fail
        go_meet
        exact ⟨v, HL, HO⟩
  case rest =>
    obtain ⟨v, HL9, HO9⟩ := hcut
    have hlm := HLN.out R (Nat.le_refl _)
    have hp : 0 < R * C := Nat.mul_pos r1 c1
    obtain ⟨g, c', hv, hg, -⟩ := HO9.out.form (by rw [hlm]; exact hp)
    rw [hlm, ← HN'.out] at hv
    subst hv
    have hne : ∀ g', Value.ownBlock (.slice (some ⟨g, 0, none⟩) n c') = some g' → g' ≠ W.heap.size + 1 + 1 := fun g' e => by
      injection e with e
      have e : g = g' := e
      omega
    have HRD := Lib.hid (RowOf.reads (((HO9.out.far (p := ⟨W.heap.size + 1 + 1, 0, none⟩) hne (.int .i64 (R : Int))).far (p := ⟨W.heap.size + 1 + 1, 1, none⟩) hne (.int .i64 (C : Int))).far (p := ⟨W.heap.size + 1 + 1, 2, none⟩) hne (.slice (some ⟨g, 0, none⟩) n c')) csV_len)
    obtain ⟨g0, g1, g2, -⟩ := (HL9.out.blk (g := W.heap.size + 1 + 1 + 1) (t := 69) (List.mem_cons_self ..)).three
    have hb1 := HL9.out.blk (g := W.heap.size + 1 + 1) (t := 69) (List.mem_cons_of_mem _ (List.mem_cons_self ..))
    obtain ⟨z0, z1, z2, f0', f1, f2⟩ := hb1.three
    have HB1 := Lib.hid hb1
    rw [HID.out] at HRD
    clear hb1 hne hlm hp
    go_upto_region 99 with fail
    clear g0 g1 g2 z0 z1 z2 f0' f1 f2
    obtain ⟨q0, q1, q2, -⟩ := (HB1.out.three_set (.int .i64 (R : Int)) (.int .i64 (C : Int)) (.slice (some ⟨g, 0, none⟩) n c')).1.three
    refine bodyPost_ret (v := gV R C (some ⟨g, 0, none⟩) n c') (by simp [results, Tryz.results91, go_sem, q0, q1, q2]) rfl ⟨g, c', rfl, HRD.out, by omega, below_three HL9.out.bel (by omega) _ _ _⟩
end Go.Proofs.YtllhefjblipddaaGreatDoor

namespace Go.Proofs.YtllhefjblipddaaGreatDoor
open Go.RowKit

/-- An array of flook, its columns aside. -/
structure GA where
  r : Nat
  b : Nat
  o : Nat
  n : Nat
  cc : Nat
def gC (C : Nat) (x : GA) : List Value := [.int .i64 (x.r : Int), .int .i64 (C : Int), .slice (some ⟨x.b, x.o, none⟩) x.n x.cc]
theorem gC_one (C : Nat) (x : GA) : (gC C x).length = 3 ∧ ∀ u ∈ gC C x, u.oneCell' = true := ⟨rfl, by simp [gC, Value.oneCell']⟩
theorem gC_len (C : Nat) (x : GA) : (gC C x).length = 3 := rfl
theorem arr_info : (Tryz.prog.info? 69).map (fun i => (i.zero, i.size, i.bytes)) = some (some (.agg #[.int .i64 0, .int .i64 0, .slice none 0 0]), 3, 40) := by kernel_rfl
def sumR (gr : Nat → Nat) : Nat → Nat
  | 0 => 0
  | j + 1 => sumR gr j + gr j
def catX {α : Type} (gx : Nat → List α) : Nat → List α
  | 0 => []
  | j + 1 => catX gx j ++ gx j
theorem sumR_le (gr : Nat → Nat) {i j : Nat} (h : i ≤ j) : sumR gr i ≤ sumR gr j := by
  induction h with
  | refl => exact Nat.le_refl _
  | step _ ih => exact Nat.le_trans ih (Nat.le_add_right _ _)
theorem sumR_at (gr : Nat → Nat) {i j : Nat} (h : i < j) : sumR gr i + gr i ≤ sumR gr j := sumR_le gr (i := i + 1) h
theorem catX_len {α : Type} (gr : Nat → Nat) (gx : Nat → List α) (C : Nat) : ∀ j, (∀ i, i < j → (gx i).length = gr i * C) → (catX gx j).length = sumR gr j * C
  | 0, _ => by simp [catX, sumR]
  | j + 1, h => by
    rw [catX, sumR, List.length_append, catX_len gr gx C j (fun i hi => h i (by omega)), h j (by omega), Nat.add_mul]
/-- The arrays that are collected. -/
def GS (C q : Nat) (gr : Nat → Nat) (gx : Nat → List Vl) (w : World) (j : Nat) (gs : List GA) : Prop := gs.length = j ∧ ∀ i x, gs[i]? = some x → x.r = gr i ∧ x.n = gr i * C ∧ 1 ≤ gr i ∧ x.b ≠ q ∧ Reads 9 csV w (.slice (some ⟨x.b, x.o, none⟩) x.n x.cc) (gx i)
theorem reads_pos {W : World} {b o n c : Nat} {l : List Vl} (h : Reads 9 csV W (.slice (some ⟨b, o, none⟩) n c) l) (h0 : 0 < n) : b < W.heap.size := (h.lt h0).2.1
theorem GS.blk {C q : Nat} {gr : Nat → Nat} {gx : Nat → List Vl} {w : World} {j : Nat} {gs : List GA} (c1 : 1 ≤ C) (h : GS C q gr gx w j gs) : ∀ x ∈ gs, x.b < w.heap.size := fun x hx => by
  obtain ⟨i, hi, rfl⟩ := List.mem_iff_getElem.1 hx
  obtain ⟨-, h2, h3, -, h5⟩ := h.2 i _ (List.getElem?_eq_getElem hi)
  exact reads_pos h5 (by rw [h2]; exact Nat.mul_pos h3 c1)
theorem GS.chg {C q : Nat} {gr : Nat → Nat} {gx : Nat → List Vl} {w w' : World} {j : Nat} {gs : List GA} {B : Nat} {G : List Nat} (c1 : 1 ≤ C) (h : GS C q gr gx w j gs) (hc : Chg B G w w') (hs : ∀ x ∈ gs, x.b < B ∧ x.b ∉ G) : GS C q gr gx w' j gs :=
  ⟨h.1, fun i x hx => by
    obtain ⟨h1, h2, h3, h4, h5⟩ := h.2 i x hx
    have hm : x ∈ gs := List.mem_of_getElem? hx
    exact ⟨h1, h2, h3, h4, reads_same h5 hc.size (hc.block _ (hs x hm).1 (hs x hm).2)⟩⟩
theorem GS.snoc {C q : Nat} {gr : Nat → Nat} {gx : Nat → List Vl} {w : World} {j : Nat} {gs : List GA} (h : GS C q gr gx w j gs) (d : GA) (h1 : d.r = gr j) (h2 : d.n = gr j * C) (h3 : 1 ≤ gr j) (h4 : d.b ≠ q) (h5 : Reads 9 csV w (.slice (some ⟨d.b, d.o, none⟩) d.n d.cc) (gx j)) : GS C q gr gx w (j + 1) (gs ++ [d]) := by
  refine ⟨by rw [List.length_append, h.1]; rfl, fun i x hx => ?_⟩
  rcases Nat.lt_or_ge i gs.length with hi | hi
  · rw [List.getElem?_append_left hi] at hx
    exact h.2 i x hx
  · rw [List.getElem?_append_right hi] at hx
    have hi0 : i - gs.length = 0 := by
      rcases Nat.eq_zero_or_pos (i - gs.length) with h0 | h0
      · exact h0
      · rw [List.getElem?_eq_none (by simpa using (show 1 ≤ i - gs.length from h0))] at hx
        cases hx
    rw [hi0] at hx
    injection hx with hx
    obtain rfl : i = j := by have := h.1; omega
    subst hx
    exact ⟨h1, h2, h3, h4, h5⟩
abbrev Z9 : Array Value := #[.int .i64 0, .string ⟨#[]⟩, .string ⟨#[]⟩, .string ⟨#[]⟩, .bool false, .int .i64 0, .int .i64 0, .int .i64 0, .slice none 0 0]
/-- What the first loop keeps. -/
structure SI (W0 W : World) (q t : Nat) (A : Option Addr) (N c C : Nat) (gr : Nat → Nat) (gx : Nat → List Vl) (w : World) (j p : Nat) (v : Value) (gs : List GA) : Prop where
  row : RowOf 69 3 (gC C) w (t + 1) v gs
  own : ∀ k, v.ownBlock = some k → ∀ x ∈ gs, x.b ≠ k
  grs : GS C q gr gx w j gs
  blq : Blk w q 90 #[.slice A N c, .int .i64 (p : Int)]
  blt : Blk w t 27 #[.int .i64 0, .string ⟨#[]⟩, .string ⟨#[]⟩, .string ⟨#[]⟩, .bool false, .int .i64 0, .int .i64 0, .int .i64 0, .slice none 0 0]
  bel : Below W0.heap.size W0 w
  chg : Chg W.heap.size [q] W w
  siz : t + 1 ≤ w.heap.size
section
variable {W0 W : World} {q t : Nat} {A : Option Addr} {N c C : Nat} {gr : Nat → Nat} {gx : Nat → List Vl} {w w' : World} {j p : Nat} {v : Value} {gs : List GA}
theorem SI.later (h : SI W0 W q t A N c C gr gx w j p v gs) (c1 : 1 ≤ C) (hb : Below w.heap.size w w') : SI W0 W q t A N c C gr gx w' j p v gs :=
  ⟨RowOf.later h.row hb, h.own, h.grs.chg c1 (Chg.of hb []) (fun x hx => ⟨h.grs.blk c1 x hx, by simp⟩), h.blq.later hb, h.blt.later hb, h.bel.trans (hb.mono h.bel.size), h.chg.next (Chg.of hb [q]), Nat.le_trans h.siz hb.size⟩
theorem SI.value (h : SI W0 W q t A N c C gr gx w j p v gs) (c1 : 1 ≤ C) (hqt : q < t) (hq : Blk w' q 90 #[.slice A N c, .int .i64 ((p : Int) + 1)]) (hb : Below W0.heap.size W0 w') (hc : Chg w.heap.size [q] w w') : SI W0 W q t A N c C gr gx w' j (p + 1) v gs :=
  ⟨RowOf.chg h.row hc (fun g hg => ⟨(RowOf.lt h.row g hg).2, by have := (RowOf.lt h.row g hg).1; rw [List.mem_singleton]; omega⟩), h.own, h.grs.chg c1 hc (fun x hx => ⟨h.grs.blk c1 x hx, by
    obtain ⟨i, hi, rfl⟩ := List.mem_iff_getElem.1 hx
    rw [List.mem_singleton]
    exact (h.grs.2 i _ (List.getElem?_eq_getElem hi)).2.2.2.1⟩), by simpa using hq, hc.blk h.blt h.blt.lt (by rw [List.mem_singleton]; omega), hb, h.chg.next hc, Nat.le_trans h.siz hc.size⟩
theorem SI.app (h : SI W0 W q t A N c C gr gx w j p v gs) (c1 : 1 ≤ C) (hqt : q < t) (hqW : t = W.heap.size) (h0 : W0.heap.size ≤ t) (d : GA) (g cap : Nat) (hr : RowOf 69 3 (gC C) w' (t + 1) (.slice (some ⟨g, 0, none⟩) (gs.length + 1) cap) (gs ++ [d])) (hg : w.grownBy w' v.ownBlock) (ho : v.ownBlock = some g ∨ g = w.heap.size)
    (h1 : d.r = gr j) (h2 : d.n = gr j * C) (h3 : 1 ≤ gr j) (h4 : d.b ≠ q) (h5 : Reads 9 csV w (.slice (some ⟨d.b, d.o, none⟩) d.n d.cc) (gx j)) (h6 : ∀ k, v.ownBlock = some k → d.b ≠ k) : SI W0 W q t A N c C gr gx w' (j + 1) p (.slice (some ⟨g, 0, none⟩) (gs.length + 1) cap) (gs ++ [d]) := by
  have hbd : d.b < w.heap.size := reads_pos h5 (by rw [h2]; exact Nat.mul_pos h3 c1)
  have hfar : ∀ x ∈ gs ++ [d], x.b < w.heap.size ∧ some x.b ≠ v.ownBlock := fun x hx => by
    rcases List.mem_append.1 hx with hx | hx
    · exact ⟨h.grs.blk c1 x hx, fun e => h.own _ e.symm x hx rfl⟩
    · rw [List.mem_singleton.1 hx]
      exact ⟨hbd, fun e => h6 _ e.symm rfl⟩
  have hbb : Below (t + 1) w w' := (Below.refl _ _).grown hg h.siz (fun k hk => (RowOf.lt h.row k hk).1)
  refine ⟨hr, fun k hk x hx e => ?_, ⟨(GS.snoc h.grs d h1 h2 h3 h4 h5).1, fun i x hx => ?_⟩, ?_, ?_, ?_, ?_, Nat.le_trans h.siz hg.size⟩
  · have hk : g = k := by
      injection hk
    have := hfar x hx
    rcases ho with ho | ho
    · exact this.2 (by rw [e, ← hk, ho])
    · have := this.1
      omega
  · obtain ⟨k1, k2, k3, k4, k5⟩ := (GS.snoc h.grs d h1 h2 h3 h4 h5).2 i x hx
    have hm := hfar x (List.mem_of_getElem? hx)
    exact ⟨k1, k2, k3, k4, reads_same k5 hg.size (hg.block _ hm.1 hm.2)⟩
  · exact (hbb.block q (by omega)).trans h.blq
  · exact (hbb.block t (by omega)).trans h.blt
  · exact h.bel.trans (hbb.mono (by omega))
  · exact h.chg.trans ((Chg.of hbb [q]).mono (by omega) fun x hx => .inl hx)
end
section
variable {ops : Array Oper} {rest : List Oper} {o : Oper} {a : Act} {Q : Exit → Act → World → Prop}
/-- append of one element to a row of the call's own: which block it lies in. -/
theorem wp_rowA {α : Type} (T E : TypeId) (size bytes : Nat) (f : α → List Value) (z : Value) (hu : Tryz.prog.underlying T = some (.slice E)) (hinfo : (Tryz.prog.info? E).map (fun i => (i.zero, i.size, i.bytes)) = some (some z, size, bytes)) (hzs : z.cells.size = size) (hsz : 0 < size)
    (hf : ∀ x, (f x).length = size ∧ ∀ u ∈ f x, u.oneCell' = true)
    {w : World} (hgd : o.guard = none) (s x : Operand) (ho : o.op = .call { callee := .builtin .append, args := #[s, x], argTypes := #[T, T] })
    (base : Nat) (v : Value) (l : List α) (hs : a.eval s = v) (hown : RowOf E size f w base v l) (d : α) (cs : Array Value) (hcs : cs.toList = f d) (hx : a.eval x = .slice (some ⟨w.heap.size, 0, none⟩) 1 1)
    (hby : (l.length + 1) * bytes ≤ 140737488355328) (h63 : l.length + 1 ≤ maxLen) (hbase : base ≤ w.heap.size)
    (h : ∀ g cap w', RowOf E size f w' base (.slice (some ⟨g, 0, none⟩) (l.length + 1) cap) (l ++ [d]) → (w.alloc (.cells cs E)).grownBy w' v.ownBlock → (v.ownBlock = some g ∨ g = (w.alloc (.cells cs E)).heap.size) → wpList Tryz.prog ops Q rest (a.put o.dst (.slice (some ⟨g, 0, none⟩) (l.length + 1) cap)) w') :
    wpList Tryz.prog ops Q (o :: rest) a (w.alloc (.cells cs E)) := by
  obtain ⟨i0, hi, hz0, hz1, hz2⟩ := info_parts hinfo
  refine wpList_append_lies (P := Tryz.prog) (w.alloc (.cells cs E)) hgd s x T ho base E i0 z size bytes hu hi hz0 hz1 hz2 hzs hsz v l.length (l.flatMap f) hs (hown.alloc _) ⟨w.heap.size, 0, none⟩ 1 1 (f d) hx (by rw [(hf d).1]; omega) (by rw [← hcs]; exact news_new _ _ _) (hf d).2 (by decide) h63 hby (by simp; omega) _ rfl ?_
  intro g cap w' h1 h2 h3 _
  refine h g cap w' ?_ h2 h3
  unfold RowOf
  rw [List.flatMap_append, List.length_append]
  simpa using h1
end
end Go.Proofs.YtllhefjblipddaaGreatDoor

namespace Go.Proofs.YtllhefjblipddaaGreatDoor
open Go.RowKit

set_option maxRecDepth 100000 in
set_option maxHeartbeats 16000000 in
theorem stack_a (W0 W : World) (q N : Nat) (A : Option Addr) (c C : Nat) (avs : List Vl) (tn : Bool) (gr : Nat → Nat) (gx : Nat → List Vl) (he : VEnv W0) (h0 : Below W0.heap.size W0 W) (hq0 : W0.heap.size ≤ q) (hq : Blk W q 90 #[.slice A N c, .int .i64 0]) (hA : Reads 9 csV W0 (.slice A N c) avs) (hN1 : 1 ≤ N) (hN2 : N ≤ 100) (c1 : 1 ≤ C) (c2 : C ≤ 100) (hS : sumR gr N ≤ 100)
    (hG : ∀ i, i < N → ∃ R' C' us, AR W0 avs[i]! R' C' us ∧ R' ≤ 100 ∧ (tn = false ∧ R' = gr i ∧ C' = C ∧ us = gx i ∨ tn = true ∧ R' = C ∧ C' = gr i ∧ gx i = turnL R' C' us)) :
    Calls Tryz.prog 51 #[.pointer (some ⟨q, 0, none⟩), .bool tn] W fun e w' => ∃ u', e = .returned u'.v ∧ AR w' u' (cond tn C (sumR gr N)) (cond tn (sumR gr N) C) (cond tn (turnL (sumR gr N) C (catX gx N)) (catX gx N)) ∧ (∀ b o, u'.A = some ⟨b, o, none⟩ → W.heap.size ≤ b) ∧ Chg W.heap.size [q] W w' := by
  have hqlt := hq.lt
  obtain ⟨sR, hsR⟩ : ∃ sR, sR = sumR gr N := ⟨_, rfl⟩
  obtain ⟨XS, hXS⟩ : ∃ XS, XS = catX gx N := ⟨_, rfl⟩
  rw [← hsR, ← hXS]
  have HSR := Lib.hid hsR
  have HXS := Lib.hid hXS
  clear hsR hXS
  obtain ⟨t, ht⟩ : ∃ t, t = W.heap.size := ⟨_, rfl⟩
  have hqt : q < t := by omega
  have hGX : ∀ i, i < N → (gx i).length = gr i * C := fun i hi => by
    obtain ⟨R', C', us, h1, -, ⟨-, h3, h4, h5⟩ | ⟨-, h3, h4, h5⟩⟩ := hG i hi
    · rw [← h5, h1.len, h3, h4]
    · rw [h5, turnL_len, h3, h4]
  have HGX := Lib.hid hGX
  have HG := Lib.hid hG
  have HS := Lib.hid hS
  have HE := Lib.hid he
  have HA := Lib.hid hA
  have HHT := Lib.hid ht
  have h0t : W0.heap.size ≤ t := by have := h0.size; omega
  have HSI0 := Lib.hid (show SI W0 W q t A N c C gr gx (W.alloc (.cells #[.int .i64 0, .string ⟨#[]⟩, .string ⟨#[]⟩, .string ⟨#[]⟩, .bool false, .int .i64 0, .int .i64 0, .int .i64 0, .slice none 0 0] 27)) 0 0 (.slice none 0 0) [] from ⟨RowOf.nil _ _, (fun k hk => (by cases hk)), ⟨rfl, (fun i x hx => (by cases hx))⟩, hq.alloc _, by rw [ht]; exact Blk.new W _ _, h0.trans ((below_al W _).mono h0.size), Chg.of (below_al W _) [q], by rw [ht]; simp⟩)
  have HN1 := Lib.hid hN1
  clear hqlt hGX hG hS he hA h0 hq hN1
  go_enter Tryz.func51, Tryz.ntmps51
  go_upto_block 0 with fail
  rw [← ht]
  clear ht
  revert HSI0
  generalize W.alloc (.cells #[.int .i64 0, .string ⟨#[]⟩, .string ⟨#[]⟩, .string ⟨#[]⟩, .bool false, .int .i64 0, .int .i64 0, .int .i64 0, .slice none 0 0] 27) = W1
  intro HSI0
  go_cut [5, 6, 7] (fun u5 u6 u7 wz => ∃ gs, u6 = .int .i64 (C : Int) ∧ u7 = .int .i64 (sR : Int) ∧ Hid (SI W0 W q t A N c C gr gx wz N N u5 gs))
  case first =>
    go_wp2_with fail
    go_loopw [5, 6, 7] (fun u5 u6 u7 wz => ∃ (j : Nat) (gs : List GA) (m6 : Nat), j ≤ N ∧ u6 = .int .i64 (m6 : Int) ∧ u7 = .int .i64 ((sumR gr j : Nat) : Int) ∧ Hid (j = 0 ∧ m6 = 0 ∨ 0 < j ∧ m6 = C) ∧ Hid (SI W0 W q t A N c C gr gx wz j j u5 gs)) (fun _ _ _ wz => N - (intOf ((wz.cell? ⟨q, 1, none⟩).getD undef)).toNat)
    case atStart => exact ⟨0, [], 0, by omega, rfl, rfl, Lib.hid (.inl ⟨rfl, rfl⟩), HSI0⟩
    case round =>
      clear HSI0
      obtain ⟨j, gs, m6, hj, rfl, rfl, HM, HI⟩ := hrel
      have HMO := Lib.hid fun b hb => more_any q A N c j wr HI.out.blq b hb
      by_cases hlt : j < N
      · obtain ⟨R', C', us, hu, hR', hcase⟩ := HG.out j hlt
        obtain ⟨A2, n2, cc2, hav, hn2, hr2⟩ := hu.ex
        obtain ⟨r1, r2, d1, d2⟩ := And.intro hu.r1 (And.intro hu.r2 (And.intro hu.c1 hu.c2))
        have hbig := hu.big
        have hp : 0 < n2 := by rw [hn2]; exact Nat.mul_pos r1 d1
        obtain ⟨b2, o2, rfl⟩ : ∃ b o, A2 = some ⟨b, o, none⟩ := by
          obtain ⟨A', c', e, -, -, h3⟩ := hr2
          injection e with e1 e2 e3
          obtain ⟨b, o, e4, -⟩ := h3 (by omega)
          exact ⟨b, o, e1.trans e4⟩
        have hb2 : b2 < W0.heap.size := reads_pos hr2 hp
        have hv := fun W' (h1 : Below W0.heap.size W0 W') hblq => value_b W0 W' q A N c j avs h1 hq0 hblq HA.out hlt (by omega)
        rw [hav] at hv
        have HV := Lib.hid (show ∀ W', Below W0.heap.size W0 W' → Blk W' q 90 #[.slice A N c, .int .i64 (j : Int)] → Calls Tryz.prog 39 #[.pointer (some ⟨q, 0, none⟩)] W' fun e w' => e = .returned (aV (R' : Int) (C' : Int) (some ⟨b2, o2, none⟩) n2 cc2) ∧ Blk w' q 90 #[.slice A N c, .int .i64 ((j : Int) + 1)] ∧ Below W0.heap.size W0 w' ∧ Chg W'.heap.size [q] W' w' from hv)
        obtain ⟨rj, hrj⟩ : ∃ rj, rj = gr j := ⟨_, rfl⟩
        obtain ⟨nj, hnj⟩ : ∃ nj, nj = rj * C := ⟨_, rfl⟩
        rw [← hrj] at hcase
        have hr1 : 1 ≤ rj ∧ n2 = nj := by
          obtain ⟨-, h3, h4, h5⟩ | ⟨-, h3, h4, h5⟩ := hcase
          · exact ⟨by omega, by rw [hn2, hnj, h3, h4]⟩
          · exact ⟨by omega, by rw [hn2, hnj, h3, h4, Nat.mul_comm]⟩
        obtain ⟨hrj1, rfl⟩ := hr1
        have HRJ := Lib.hid hrj
        have HNJ := Lib.hid hnj
        have HC := Lib.hid hcase
        have HR2 := Lib.hid hr2
        have HN2 := Lib.hid hn2
        clear hv hav hr2 hcase hrj hnj hu hn2
        go_upto_region 5 with (first
          | (go_at_call 82; (with_reducible refine (HMO.out true (by simp [hlt])).mono ?_); rintro e w1 ⟨rfl, hb⟩; have HI1 := Lib.hid (HI.out.later c1 hb); clear hb)
          | (go_at_call 39; (with_reducible refine (HV.out _ HI1.out.bel HI1.out.blq).mono ?_); rintro e w2 ⟨rfl, hq1, hb, hc⟩; have HI2 := Lib.hid (HI1.out.value c1 hqt hq1 hb hc); clear hb hc hq1 HI1)
          | (go_at_call 38; (with_reducible refine (grid_a _ _ _ _ _ _).mono ?_); rintro e w3 ⟨rfl, hb⟩; have HI3 := Lib.hid (HI2.out.later c1 hb); clear hb HI2))
        have HX4 := Lib.hid (Blk.new w3 69 #[.int .i64 (R' : Int), .int .i64 (C' : Int), .slice (some ⟨b2, o2, none⟩) n2 cc2])
        have HB4 := Lib.hid (below_al w3 (.cells #[.int .i64 (R' : Int), .int .i64 (C' : Int), .slice (some ⟨b2, o2, none⟩) n2 cc2] 69))
        have HSZ4 := Lib.hid (show w3.heap.size < (w3.alloc (.cells #[.int .i64 (R' : Int), .int .i64 (C' : Int), .slice (some ⟨b2, o2, none⟩) n2 cc2] 69)).heap.size from by simp)
        revert HX4 HB4 HSZ4
        generalize w3.alloc (.cells #[.int .i64 (R' : Int), .int .i64 (C' : Int), .slice (some ⟨b2, o2, none⟩) n2 cc2] 69) = w4
        intro HX4 HB4 HSZ4
        obtain ⟨X, hX⟩ : ∃ X, X = w3.heap.size := ⟨_, rfl⟩
        rw [← hX] at HX4 HB4 HSZ4 ⊢
        have HHX := Lib.hid hX
        have hXW : W0.heap.size ≤ X := by have := HI3.out.siz; omega
        clear hX
        go_upto_if 17 with fail
        go_cut [18] (fun u18 wz => ∃ b o cc, Hid (Blk wz X 69 #[.int .i64 (rj : Int), .int .i64 (C : Int), .slice (some ⟨b, o, none⟩) n2 cc]) ∧ Hid (Below X w3 wz) ∧ Hid (Reads 9 csV wz (.slice (some ⟨b, o, none⟩) n2 cc) (gx j)) ∧ Hid (X < wz.heap.size) ∧ Hid (b < W0.heap.size ∨ X < b))
        case first =>
          obtain ⟨rfl, h3, h4, h5⟩ | ⟨rfl, h3, h4, h5⟩ := HC.out
          · subst h3 h4
            go_wp2_with fail
            go_meet
            exact ⟨b2, o2, cc2, HX4, HB4, Lib.hid (by rw [← h5]; exact HR2.out.below (HI3.out.bel.trans (HB4.out.mono hXW))), HSZ4, Lib.hid (.inl hb2)⟩
          · subst h3 h4
            have HTN := Lib.hid fun W' (hW : Below W0.heap.size W0 W') => turned_a R' C' n2 (some ⟨b2, o2, none⟩) cc2 us W' HN2.out r1 r2 d1 (by omega) (by rw [HN2.out]; exact hbig) (HR2.out.below hW)
            obtain ⟨g0, g1, g2, -⟩ := HX4.out.three
            have H5 := Lib.hid h5
            clear h5
            go_upto_region 6 with fail
            go_wp2_with (go_at_call 42; (with_reducible refine (HTN.out _ (HI3.out.bel.trans (HB4.out.mono hXW))).mono ?_); rintro e w5 ⟨g, c', rfl, hr, hg, hb⟩; have HRD := Lib.hid hr; have HGE := Lib.hid hg; have HX5 := Lib.hid (HX4.out.later hb); have HB5 := Lib.hid (HB4.out.trans (hb.mono (Nat.le_of_lt HSZ4.out))); clear g0 g1 g2 hr hg; have HSZ5 := Lib.hid hb.size; clear hb; obtain ⟨z0, z1, z2, f0', f1, f2⟩ := HX5.out.three)
            go_meet
            have hgx := HGE.out
            have hsz := HSZ4.out
            have hne : Reads 9 csV w5 (.slice (some ⟨g, 0, none⟩) n2 c') (gx j) := by rw [H5.out]; exact HRD.out
            have hcn : Chg w5.heap.size [X] w5 (((w5.setCell ⟨X, 0, none⟩ (.int .i64 (C' : Int))).setCell ⟨X, 1, none⟩ (.int .i64 (R' : Int))).setCell ⟨X, 2, none⟩ (.slice (some ⟨g, 0, none⟩) n2 c')) := (((Chg.refl w5.heap.size [X] w5).set (p := ⟨X, 0, none⟩) (.inl (List.mem_singleton.2 rfl)) _).set (p := ⟨X, 1, none⟩) (.inl (List.mem_singleton.2 rfl)) _).set (p := ⟨X, 2, none⟩) (.inl (List.mem_singleton.2 rfl)) _
            have hgw : g < w5.heap.size := reads_pos hne hp
            exact ⟨g, 0, c', Lib.hid (HX5.out.three_set _ _ _).1, Lib.hid (below_three HB5.out (Nat.le_refl _) _ _ _), Lib.hid (reads_same hne hcn.size (hcn.block g hgw (by rw [List.mem_singleton]; omega))), Lib.hid (by have := hcn.size; have := HSZ5.out; omega), Lib.hid (.inr (by omega))⟩
        case rest =>
          clear HX4 HB4 HSZ4
          obtain ⟨b, o, cc, HX4, HB4, HRD4, HSZ4, HBB⟩ := hcut
          have hb4 : Below w3.heap.size w3 wc := by
            have h := HB4.out
            rw [HHX.out] at h
            exact h
          have HI4 := Lib.hid (HI3.out.later c1 hb4)
          have hgl : gs.length = j := HI4.out.grs.1
          have HGL := Lib.hid hgl
          clear hb4 hgl
          obtain ⟨g0, g1, g2, -⟩ := HX4.out.three
          go_upto_region 8 with (refine wp_rowA 103 69 3 40 (gC C) _ Tryz.underlying103 arr_info rfl (by decide) (gC_one C) rfl (.tmp 20) (.tmp 22) rfl (t + 1) u5 gs rfl HI4.out.row ⟨rj, b, o, n2, cc⟩ _ rfl rfl (by have := HGL.out; omega) (by have := HGL.out; unfold maxLen; omega) HI4.out.siz ?_; intro g cap w5 hr hg ho; have HR5 := Lib.hid hr; have HG5 := Lib.hid hg; have HO5 := Lib.hid ho; clear hr hg ho)
          have hkX : ∀ k, u5.ownBlock = some k → t + 1 ≤ k ∧ k < X := fun k hk => by
            have h := RowOf.lt HI3.out.row k hk
            rw [HHX.out]
            exact h
          have HI5 := Lib.hid (SI.app (HI4.out.later c1 (below_al wc (.cells #[.int .i64 (rj : Int), .int .i64 (C : Int), .slice (some ⟨b, o, none⟩) n2 cc] 69))) c1 hqt HHT.out h0t ⟨rj, b, o, n2, cc⟩ g cap HR5.out HG5.out HO5.out HRJ.out (by rw [← HRJ.out]; exact HNJ.out) (by rw [← HRJ.out]; exact hrj1) (fun e => by
            have e : b = q := e
            have := HBB.out
            have := HI3.out.siz
            have := HHX.out
            omega) (HRD4.out.below (below_al wc _)) (fun k hk e => by
            have e : b = k := e
            have := HBB.out
            have := hkX k hk
            omega))
          have HX5 := Lib.hid (show Blk w5 X 69 #[.int .i64 (rj : Int), .int .i64 (C : Int), .slice (some ⟨b, o, none⟩) n2 cc] from (HG5.out.block X (by have := HSZ4.out; simp; omega) (fun e => by have := hkX X e.symm; omega)).trans (HX4.out.alloc _))
          clear g0 g1 g2 hkX
          obtain ⟨x0, x1, -, -⟩ := HX5.out.three
          have mixed : Tryz.prog.follows Departure.mixedOrders = true := by kernel_rfl
          have hrjs : rj ≤ 100 := by
            have h1 := sumR_at gr hlt
            rw [← HRJ.out] at h1
            have := HS.out
            omega
          have hsj : sumR gr j ≤ 100 := by
            have h1 := sumR_at gr hlt
            have := HS.out
            omega
          have hsn : sumR gr (j + 1) = sumR gr j + rj := by rw [HRJ.out]; rfl
          have HSN := Lib.hid hsn
          clear hsn
          obtain ⟨sj, hsj'⟩ : ∃ sj, sj = sumR gr j := ⟨_, rfl⟩
          rw [← hsj'] at HSN hsj ⊢
          clear hsj'
          have hwj : IntKind.i64.wrap ((sj : Int) + (rj : Int)) = (sj : Int) + (rj : Int) := IntWalk.i64_in _ (by omega)
          have HMX := Lib.hid (show ∀ k : Nat, k ≤ C → j = 0 ∧ k = 0 ∨ 0 < j ∧ k = C → True from fun _ _ _ => trivial)
          obtain ⟨hj0, rfl⟩ | ⟨hj0, rfl⟩ := HM.out
          all_goals
            go_quiet (fail)
            clear x0 x1
            have HI6 := Lib.hid (HI5.out.later c1 (below_dn (Below.refl _ w5) nq))
            go_wp2_with fail
            go_roundw
            case rel => exact ⟨j + 1, gs ++ [⟨rj, b, o, n2, cc⟩], _, by omega, rfl, by rw [HSN.out]; rfl, Lib.hid (.inr ⟨by omega, rfl⟩), HI6⟩
            case measure =>
              have e1 := HI.out.blq.cell 1
              have e2 := HI6.out.blq.cell 1
              have e1 : wr.cell? ⟨q, 1, none⟩ = some (.int .i64 (j : Int)) := e1
              have e2 : (w5.drewN nq).cell? ⟨q, 1, none⟩ = some (.int .i64 ((j + 1 : Nat) : Int)) := e2
              rw [e1, e2]
              simp [intOf]
              omega
      · obtain rfl : j = N := by omega
        go_upto_region 4 with (go_at_call 82; (with_reducible refine (HMO.out false (by simp)).mono ?_); rintro e w1 ⟨rfl, hb⟩; have HI1 := Lib.hid (HI.out.later c1 hb); clear hb)
        go_meet
        have := HN1.out
        obtain ⟨h1, h2⟩ | ⟨h1, h2⟩ := HM.out
        · omega
        · exact ⟨gs, by rw [h2], by rw [HSR.out], HI1⟩
  case rest =>
    clear HSI0
    obtain ⟨wA, hwA⟩ : ∃ wA, wA = wc := ⟨_, rfl⟩
    subst hwA
    obtain ⟨gs, rfl, rfl, HI⟩ := hcut
    have hgl : gs.length = N := HI.out.grs.1
    have hN := HN1.out
    obtain ⟨kb, cap, hv, hkb1, hkb2⟩ := HI.out.row.form (by rw [hgl]; omega)
    rw [hgl] at hv
    subst hv
    have hr1 : 1 ≤ gr 0 := (HI.out.grs.2 0 _ (List.getElem?_eq_getElem (show 0 < gs.length by omega))).2.2.1
    have hs1 : 1 ≤ sumR gr N := by
      have := sumR_at gr (i := 0) (j := N) (by omega)
      omega
    have hs2 := HS.out
    have hXL : (catX gx N).length = sumR gr N * C := catX_len gr gx C N HGX.out
    rw [← HSR.out] at hs1 hs2 hXL
    rw [← HXS.out] at hXL
    clear hr1
    obtain ⟨nT, hnT⟩ : ∃ nT, nT = sR * C := ⟨_, rfl⟩
    rw [← hnT] at hXL
    have hnT1 : 1 ≤ nT := by rw [hnT]; exact Nat.mul_pos hs1 c1
    have hnT2 : nT ≤ 10000 := by rw [hnT]; exact Nat.mul_le_mul hs2 c2
    have HNT := Lib.hid hnT
    have HXL := Lib.hid hXL
    clear hnT hXL
    have HRW := Lib.hid (RowOf.reads HI.out.row (gC_len C))
    have HCE := Lib.hid (show ∀ i x, gs[i]? = some x → ∀ W', Below wA.heap.size wA W' → W'.cell? ⟨kb, i * 3, none⟩ = some (.int .i64 (x.r : Int)) ∧ W'.cell? ⟨kb, i * 3 + 1, none⟩ = some (.int .i64 (C : Int)) ∧ W'.cell? ⟨kb, i * 3 + 2, none⟩ = some (.slice (some ⟨x.b, x.o, none⟩) x.n x.cc) from fun i x hx W' hW => by
      obtain ⟨h1, h2, h3⟩ := HRW.out.lt (by omega)
      have hi : i < gs.length := by
        rcases Nat.lt_or_ge i gs.length with h | h
        · exact h
        · rw [List.getElem?_eq_none h] at hx
          cases hx
      have e : gs[i] = x := by
        rw [List.getElem?_eq_getElem hi] at hx
        injection hx
      have k0 := h3 i (by omega) 0 (by decide)
      have k1 := h3 i (by omega) 1 (by decide)
      have k2 := h3 i (by omega) 2 (by decide)
      rw [e] at k0 k1 k2
      simp only [Nat.zero_add, Nat.add_zero] at k0 k1 k2
      exact ⟨(hW.cell h2).trans k0, (hW.cell h2).trans k1, (hW.cell h2).trans k2⟩)
    obtain ⟨dd, hdd, d5⟩ : ∃ dd : Int, IntKind.i64.wrap ((100000 : Int).tdiv (C : Int)) = dd ∧ ¬ dd < (sR : Int) := by
      have e2 : (100000 : Int).tdiv (C : Int) = 100000 / (C : Int) := Int.tdiv_eq_ediv_of_nonneg (by decide)
      have e3 : (1000 : Int) ≤ 100000 / (C : Int) := by
        rw [Int.le_ediv_iff_mul_le (by omega)]
        omega
      have e4 : 100000 / (C : Int) ≤ 100000 := Int.ediv_le_self _ (by decide)
      exact ⟨_, rfl, by rw [e2, IntWalk.i64_in _ (by omega)]; omega⟩
    have cz : ¬ C = 0 := by omega
    have cz2 : ¬ (C : Int) = 0 := by omega
    have HL0 := Lib.hid ((Loc.start wA).alloc' rfl 69 #[.int .i64 (sR : Int), .int .i64 (C : Int), .slice none 0 0])
    have HS0 := Lib.hid (show wA.heap.size + 1 ≤ (wA.alloc (.cells #[.int .i64 (sR : Int), .int .i64 (C : Int), .slice none 0 0] 69)).heap.size from by simp)
    go_upto_block 2 with (go_at_call 81; (with_reducible refine (stop_f _ _).mono ?_); rintro e wq ⟨rfl, rfl⟩)
    clear cz cz2 d5 hdd
    revert HL0 HS0
    generalize wA.alloc (.cells #[.int .i64 (sR : Int), .int .i64 (C : Int), .slice none 0 0] 69) = w9
    intro HL0 HS0
    go_cut [42] (fun u42 wz => ∃ v, Hid (Loc wA [(wA.heap.size, 69, #[.int .i64 (sR : Int), .int .i64 (C : Int), v])] wz) ∧ Hid (RowOf 27 9 csV wz (wA.heap.size + 1) v XS))
    case first =>
      go_wp2_with fail
      go_loopw [42] (fun u42 wz => ∃ (j : Nat) (v : Value), j ≤ N ∧ u42 = .int .i64 (j : Int) ∧ Hid (Loc wA [(wA.heap.size, 69, #[.int .i64 (sR : Int), .int .i64 (C : Int), v])] wz) ∧ Hid (RowOf 27 9 csV wz (wA.heap.size + 1) v (catX gx j)) ∧ Hid (wA.heap.size + 1 ≤ wz.heap.size)) (fun u _ => N - (intOf u).toNat)
      case atStart => exact ⟨0, .slice none 0 0, by omega, rfl, HL0, Lib.hid (RowOf.nil _ _), HS0⟩
      case round =>
        clear HL0 HS0
        obtain ⟨j, v, hj, rfl, HL, HO, HS9⟩ := hrel
        by_cases hlt : j < N
        · have hlz : (j : Int) < (N : Int) := by omega
          have j0 : 0 ≤ (j : Int) := by omega
          have j1 : IntKind.i64.wrap ((j : Int) + 1) = (j : Int) + 1 := IntWalk.i64_in _ (by omega)
          obtain ⟨x, hx⟩ : ∃ x, gs[j]? = some x := ⟨_, List.getElem?_eq_getElem (by omega)⟩
          obtain ⟨e1, e2, e3, -, hr⟩ := HI.out.grs.2 j x hx
          obtain ⟨c0, c1', c2'⟩ := HCE.out j x hx wr HL.out.bel
          obtain ⟨rj, b, o, nj, cc⟩ := x
          dsimp only at e1 e2 hr c0 c1' c2'
          have hrj : rj ≤ 100 := by
            have h1 := sumR_at gr hlt
            have := HS.out
            omega
          rw [← e1] at e2 e3
          have hnj1 : 1 ≤ nj := by rw [e2]; exact Nat.mul_pos e3 c1
          have hnj2 : nj ≤ 10000 := by rw [e2]; exact Nat.mul_le_mul hrj c2
          obtain ⟨MM, hMM⟩ : ∃ MM, MM = gx j := ⟨_, rfl⟩
          rw [← hMM] at hr
          have HRD := Lib.hid hr
          have HML := Lib.hid (show MM.length = nj from by rw [hMM, HGX.out j hlt, e2, e1])
          obtain ⟨LL, hLL⟩ : ∃ LL, LL = catX gx j := ⟨_, rfl⟩
          rw [← hLL] at HO
          have HLL := Lib.hid (show LL.length ≤ 10000 from by
            rw [hLL, catX_len gr gx C j (fun i hi => HGX.out i (by omega))]
            have h1 := sumR_le gr (show j ≤ N by omega)
            have := HS.out
            exact Nat.mul_le_mul (show sumR gr j ≤ 100 by omega) c2)
          have HST := Lib.hid (show catX gx (j + 1) = LL ++ MM from by rw [hLL, hMM]; rfl)
          have HFT := Lib.hid fun W' (hW : Below W0.heap.size W0 W') => (show Calls Tryz.prog 27 #[.int .i64 6] W' fun e w' => e = .returned (.agg #[.int .i64 4, .string ⟨#[]⟩, .string ⟨#[]⟩, .string ⟨#[]⟩, .bool false, .int .i64 6, .int .i64 0, .int .i64 0, .slice none 0 0]) ∧ Below W'.heap.size W' w' from fault_t 6 W' (HE.out.below hW) (by decide) (by decide))
          have HWI := Lib.hid fun W' (hW : Below wA.heap.size wA W') => (show Calls Tryz.prog 91 #[gV rj C (some ⟨b, o, none⟩) nj cc, .int .i64 (C : Int), .agg #[.int .i64 4, .string ⟨#[]⟩, .string ⟨#[]⟩, .string ⟨#[]⟩, .bool false, .int .i64 6, .int .i64 0, .int .i64 0, .slice none 0 0]] W' fun e w' => ∃ g c', e = .returned (.agg #[.int .i64 (rj : Int), .int .i64 (C : Int), .slice (some ⟨g, 0, none⟩) nj c']) ∧ Reads 9 csV w' (.slice (some ⟨g, 0, none⟩) nj c') MM ∧ W'.heap.size ≤ g ∧ Below W'.heap.size W' w' from wide_a rj C nj b o cc MM ⟨4, ⟨#[]⟩, ⟨#[]⟩, ⟨#[]⟩, false, 6, 0, 0, none, 0, 0⟩ W' e2 e3 (by omega) c1 c2 (by omega) (HRD.out.below hW))
          have HLA := Lib.hid (show Loc wA [(wr.heap.size, 69, #[.int .i64 (rj : Int), .int .i64 (C : Int), .slice (some ⟨b, o, none⟩) nj cc]), (wA.heap.size, 69, #[.int .i64 (sR : Int), .int .i64 (C : Int), v])] (wr.alloc (.cells #[.int .i64 (rj : Int), .int .i64 (C : Int), .slice (some ⟨b, o, none⟩) nj cc] 69)) from HL.out.alloc' rfl 69 #[.int .i64 (rj : Int), .int .i64 (C : Int), .slice (some ⟨b, o, none⟩) nj cc])
          have HSA := Lib.hid (show wA.heap.size + 1 ≤ wr.heap.size from HS9.out)
          have HCL := Lib.hid (show ∀ w', Loc wA [(wr.heap.size, 69, #[.int .i64 (rj : Int), .int .i64 (C : Int), .slice (some ⟨b, o, none⟩) nj cc]), (wA.heap.size, 69, #[.int .i64 (sR : Int), .int .i64 (C : Int), v])] w' → w'.cell? ⟨wA.heap.size, 2, none⟩ = some v ∧ w'.cell? ⟨wr.heap.size, 0, none⟩ = some (.int .i64 (rj : Int)) ∧ w'.cell? ⟨wr.heap.size, 1, none⟩ = some (.int .i64 (C : Int)) ∧ w'.cell? ⟨wr.heap.size, 2, none⟩ = some (.slice (some ⟨b, o, none⟩) nj cc) from fun w' h => by
            have h1 := h.blk (g := wr.heap.size) (t := 69) (List.mem_cons_self ..)
            have h2 := h.blk (g := wA.heap.size) (t := 69) (List.mem_cons_of_mem _ (List.mem_cons_self ..))
            exact ⟨h2.cell 2, h1.cell 0, h1.cell 1, h1.cell 2⟩)
          have HVO := Lib.hid (show ∀ k, v.ownBlock = some k → wA.heap.size + 1 ≤ k ∧ k < wr.heap.size from RowOf.lt HO.out)
          clear hx e1 e2 hr hMM hLL
          have HLK := Lib.hid (show ∀ w2 w', Loc wA [(wr.heap.size, 69, #[.int .i64 (rj : Int), .int .i64 (C : Int), .slice (some ⟨b, o, none⟩) nj cc]), (wA.heap.size, 69, #[.int .i64 (sR : Int), .int .i64 (C : Int), v])] w2 → Below (wA.heap.size + 1) w2 w' → w2.grownBy w' v.ownBlock → Loc wA [(wr.heap.size, 69, #[.int .i64 (rj : Int), .int .i64 (C : Int), .slice (some ⟨b, o, none⟩) nj cc]), (wA.heap.size, 69, #[.int .i64 (sR : Int), .int .i64 (C : Int), v])] w' from fun w2 w' hl hb hg => by
            have h1 := hl.blk (g := wr.heap.size) (t := 69) (List.mem_cons_self ..)
            have h2 := hl.blk (g := wA.heap.size) (t := 69) (List.mem_cons_of_mem _ (List.mem_cons_self ..))
            refine ⟨hl.bel.trans (hb.mono (by omega)), fun x hx => ?_⟩
            simp only [List.mem_cons, List.not_mem_nil, or_false] at hx
            rcases hx with rfl | rfl
            · exact ⟨by have := HSA.out; dsimp only; omega, (hg.block _ h1.lt (fun e => by have := HVO.out _ e.symm; omega)).trans h1⟩
            · exact ⟨Nat.le_refl _, (hb.block _ (by dsimp only; omega)).trans h2⟩)
          have HW0 := Lib.hid (show ∀ W', Below wA.heap.size wA W' → Below W0.heap.size W0 W' from fun W' h => HI.out.bel.trans (h.mono HI.out.bel.size))
          have HPT := Lib.hid (show ∀ w' v', Loc wA [(wA.heap.size, 69, #[.int .i64 (sR : Int), .int .i64 (C : Int), v])] w' → RowOf 27 9 csV w' (wA.heap.size + 1) v' (LL ++ MM) → wA.heap.size + 1 ≤ w'.heap.size → (w'.cell? ⟨wA.heap.size, 2, none⟩ = some v ∧ w'.frozen? ⟨wA.heap.size, 2, none⟩ = false) ∧ Loc wA [(wA.heap.size, 69, #[.int .i64 (sR : Int), .int .i64 (C : Int), v'])] (w'.setCell ⟨wA.heap.size, 2, none⟩ v') ∧ RowOf 27 9 csV (w'.setCell ⟨wA.heap.size, 2, none⟩ v') (wA.heap.size + 1) v' (LL ++ MM) ∧ wA.heap.size + 1 ≤ (w'.setCell ⟨wA.heap.size, 2, none⟩ v').heap.size from fun w' v' hl ho hs => by
            have hz := hl.blk (g := wA.heap.size) (t := 69) (List.mem_cons_self ..)
            refine ⟨⟨hz.cell 2, hz.frozen 2⟩, hl.set1 (i := 2) (fun x hx => by cases hx) v', RowOf.far ho (fun g hg e => ?_) v', ?_⟩
            · have h1 := (RowOf.lt ho g hg).1
              have e : g = wA.heap.size := e
              omega
            · simp only [World.setCell, Array.size_modify]
              omega)
          go_upto_region 14 with fail
          clear c0 c1' c2'
          have hfd : ∀ (w : World) (g c0 : Nat), (Instr.field 69 (.agg #[.int .i64 (rj : Int), .int .i64 (C : Int), .slice (some ⟨g, 0, none⟩) nj c0]) 2).run Tryz.prog w = .ok (.slice (some ⟨g, 0, none⟩) nj c0) w := fun _ _ _ => by kernel_rfl
          refine wp_region_G (S1 := fun _ => True) (S2 := fun w' => w'.cell? ⟨wA.heap.size, 2, none⟩ = some v ∧ w'.cell? ⟨wr.heap.size, 0, none⟩ = some (.int .i64 (rj : Int)) ∧ w'.cell? ⟨wr.heap.size, 1, none⟩ = some (.int .i64 (C : Int)) ∧ w'.cell? ⟨wr.heap.size, 2, none⟩ = some (.slice (some ⟨b, o, none⟩) nj cc)) (d := 9) (by kernel_rfl) trivial (HCL.out _ HLA.out.drew) (fun hT => ?_)
          refine wpAnyG_take1d (i := 0) (v := ?_) rfl rfl (by kernel_rfl) (by kernel_rfl) (by kernel_rfl) (by kernel_rfl) (fun _ _ _ h => h) (Or.inl ⟨by rfl, ?_⟩) (by assumption) (fun hT => ?_)
          rotate_left
          · intro w hSw
            (try dsimp only at hSw)
            go_simp
            (try with_reducible rfl)
          (try simp only [Act.put, List.setIfInBounds_toArray, List.set_cons_zero, List.set_cons_succ])
          refine wpAnyG_take2d (i := 1) (v := ?_) rfl rfl (by kernel_rfl) (by kernel_rfl) (by kernel_rfl) (by kernel_rfl) (by kernel_rfl) (by kernel_rfl) (fun _ _ _ h => h) (Or.inl ⟨by rfl, ?_⟩) (by assumption) (fun hT => ?_)
          rotate_left
          · intro w hSw
            (try dsimp only at hSw)
            go_simp
            (try with_reducible rfl)
          (try simp only [Act.put, List.setIfInBounds_toArray, List.set_cons_zero, List.set_cons_succ])
          refine wpAnyG_take2d (i := 2) (v := ?_) rfl rfl (by kernel_rfl) (by kernel_rfl) (by kernel_rfl) (by kernel_rfl) (by kernel_rfl) (by kernel_rfl) (fun _ _ _ h => h) (Or.inl ⟨by rfl, ?_⟩) (by assumption) (fun hT => ?_)
          rotate_left
          · intro w hSw
            (try dsimp only at hSw)
            go_simp
            (try with_reducible rfl)
          (try simp only [Act.put, List.setIfInBounds_toArray, List.set_cons_zero, List.set_cons_succ])
          refine wpAnyG_take1d (i := 3) (v := ?_) rfl rfl (by kernel_rfl) (by kernel_rfl) (by kernel_rfl) (by kernel_rfl) (fun _ _ _ h => h) (Or.inl ⟨by rfl, ?_⟩) (by assumption) (fun hT => ?_)
          rotate_left
          · intro w hSw
            (try dsimp only at hSw)
            go_simp
            (try with_reducible rfl)
          (try simp only [Act.put, List.setIfInBounds_toArray, List.set_cons_zero, List.set_cons_succ])
          refine wpAnyG_ready (rs := [4]) (by kernel_rfl) (by simp) ?_
          refine AllG.cons (i := 4) rfl (fun K hK => ?_) AllG.nil
          go_simp
          go_at_call 27
          (with_reducible refine (HFT.out _ (HW0.out _ (by first | exact HLA.out.drew.bel | exact HLA.out.bel))).mono ?_)
          rintro e wf ⟨rfl, hb⟩
          have HLf := Lib.hid (show Loc wA [(wr.heap.size, 69, #[.int .i64 (rj : Int), .int .i64 (C : Int), .slice (some ⟨b, o, none⟩) nj cc]), (wA.heap.size, 69, #[.int .i64 (sR : Int), .int .i64 (C : Int), v])] wf from by first | exact HLA.out.drew.step hb | exact HLA.out.step hb)
          have HOf := Lib.hid (show RowOf 27 9 csV wf (wA.heap.size + 1) v LL from by first | exact RowOf.later (HO.out.alloc _) hb | exact RowOf.later (HO.out.alloc _).drew hb)
          have HSf := Lib.hid (show wA.heap.size + 1 ≤ wf.heap.size from Nat.le_trans HSA.out (Nat.le_of_lt (HLf.out.lt (g := wr.heap.size) (t := 69) (List.mem_cons_self ..))))
          clear hb
          refine hK.out _ _ ⟨trivial, .inr (by first | exact HCL.out _ HLf.out | exact HCL.out _ (HLf.out).drew)⟩ (fun hT => ?_)
          clear hK K
          (try simp only [Act.put, List.setIfInBounds_toArray, List.set_cons_zero, List.set_cons_succ])
          refine wpAnyG_ready (rs := [5]) (by kernel_rfl) (by simp) ?_
          refine AllG.cons (i := 5) rfl (fun K hK => ?_) AllG.nil
          go_simp
          go_at_call 91
          (with_reducible refine (HWI.out _ HLf.out.bel).mono ?_)
          rintro e wg ⟨g', c', rfl, hr, hg, hb⟩
          have HLg := Lib.hid (HLf.out.step hb)
          have HOg := Lib.hid (RowOf.later HOf.out hb)
          have HSg := Lib.hid (Nat.le_trans HSf.out hb.size)
          rw [← HML.out] at hr
          have HRg := Lib.hid hr
          clear hb hr hg
          refine hK.out _ _ ⟨trivial, .inr (by first | exact HCL.out _ HLg.out | exact HCL.out _ (HLg.out).drew)⟩ (fun hT => ?_)
          clear hK K
          (try simp only [Act.put, List.setIfInBounds_toArray, List.set_cons_zero, List.set_cons_succ])
          refine wpAnyG_take1d (i := 6) (v := ?_) rfl rfl (by kernel_rfl) (by kernel_rfl) (by kernel_rfl) (by kernel_rfl) (fun _ _ _ h => h) (Or.inl ⟨by rfl, ?_⟩) (by assumption) (fun hT => ?_)
          rotate_left
          · intro w hSw
            (try dsimp only at hSw)
            go_simp
            (try with_reducible rfl)
          (try simp only [Act.put, List.setIfInBounds_toArray, List.set_cons_zero, List.set_cons_succ])
          refine wpAnyG_ready (rs := [7]) (by kernel_rfl) (by simp) ?_
          refine AllG.cons (i := 7) rfl (fun K hK => ?_) AllG.nil
          refine step_rowN 25 27 9 112 csV _ Tryz.underlying25 val_info rfl (by decide) csV_one rfl (.tmp 47) (.tmp 52) rfl (wA.heap.size + 1) v LL rfl HOg.out MM g' 0 c' (by rw [HML.out]; rfl) HRg.out (by rw [HML.out]; omega) (by have := HLL.out; have := HML.out; omega) (by have := HLL.out; have := HML.out; unfold maxLen; omega) HSg.out ?_
          intro gx cx w4 ho hb hgr
          have HL4 := Lib.hid (HLK.out _ _ HLg.out hb hgr)
          have HX := Lib.hid (HPT.out _ _ (HL4.out.perm fun x hx => List.mem_cons_of_mem _ hx) ho (Nat.le_trans HSg.out hb.size))
          have s8 := HX.out.1.1
          have t8 := HX.out.1.2
          clear ho hb hgr
          refine hK.out _ _ ⟨trivial, .inr (by first | exact HCL.out _ HL4.out | exact HCL.out _ (HL4.out).drew)⟩ (fun hT => ?_)
          clear hK K
          (try simp only [Act.put, List.setIfInBounds_toArray, List.set_cons_zero, List.set_cons_succ])
          refine wpAnyG_take1d (i := 8) (v := ?_) rfl rfl (by kernel_rfl) (by kernel_rfl) (by kernel_rfl) (by kernel_rfl) (fun _ _ _ h => h) (Or.inl ⟨by rfl, ?_⟩) (by assumption) (fun hT => ?_)
          rotate_left
          · intro w hSw
            (try dsimp only at hSw)
            go_simp
            (try with_reducible rfl)
          (try simp only [Act.put, List.setIfInBounds_toArray, List.set_cons_zero, List.set_cons_succ])
          refine wpAnyG_ready (rs := [9]) (by kernel_rfl) (by simp) ?_
          refine AllG.cons (i := 9) rfl (fun K hK => ?_) AllG.nil
          go_simp
          refine hK.out _ _ ⟨trivial, .inl rfl⟩ (fun hT => ?_)
          clear hK K
          (try simp only [Act.put, List.setIfInBounds_toArray, List.set_cons_zero, List.set_cons_succ])
          refine wpAnyG_done (by kernel_rfl) ?_ _
          clear s8 t8
          go_wp2_with fail
          go_roundw
          case rel => exact ⟨j + 1, _, by omega, by go_num, Lib.hid HX.out.2.1, Lib.hid (by have := HX.out.2.2.1; rw [← HST.out] at this; exact this), Lib.hid HX.out.2.2.2⟩
          case measure => simp [intOf]; omega

        · obtain rfl : j = N := by omega
          go_wp2_with fail
          go_meet
          exact ⟨v, HL, Lib.hid (by rw [HXS.out]; exact HO.out)⟩
    case rest =>
      obtain ⟨v, HL9, HO9⟩ := hcut
      have hxl := HXL.out
      obtain ⟨gz, cz, hv, hgz, -⟩ := HO9.out.form (by rw [hxl]; omega)
      rw [hxl] at hv
      subst hv
      have HRD := Lib.hid (show Reads 9 csV wc (.slice (some ⟨gz, 0, none⟩) nT cz) XS from by
        have h := RowOf.reads HO9.out csV_len
        exact h)
      have HT9 := Lib.hid (HI.out.blt.later HL9.out.bel)
      have HC9 := Lib.hid (HI.out.chg.next (Chg.of HL9.out.bel [q]))
      have hts : t < wA.heap.size := by have := HI.out.siz; omega
      have HX9 := Lib.hid (HL9.out.blk (g := wA.heap.size) (t := 69) (List.mem_cons_self ..))
      obtain ⟨X, hX⟩ : ∃ X, X = wA.heap.size := ⟨_, rfl⟩
      have hgX : t < X ∧ X < gz := by omega
      have HHX := Lib.hid hX
      rw [← hX] at HX9 ⊢
      clear hX hgz hxl HO9
      have mz : ¬ sR = 0 := by omega
      have mzi : ¬ (sR : Int) = 0 := by omega
      have czz : ¬ C = 0 := by omega
      have czi : ¬ (C : Int) = 0 := by omega
      cases tn
      · have HGV := Lib.hid fun W' => gval_a (sR : Int) (C : Int) (some ⟨gz, 0, none⟩) nT cz W' (by omega) (by omega) (by omega) (by omega)
        obtain ⟨g0, g1, g2, -⟩ := HX9.out.three
        go_upto_region 18 with fail
        go_upto_region 99 with (go_at_call 43; (with_reducible refine (HGV.out _).mono ?_); rintro e we ⟨rfl, hb⟩; have HD5 := Lib.hid (HRD.out.below hb); have HCc := Lib.hid (HC9.out.next (Chg.of hb [q])); have HRl := Lib.hid (HT9.out.later hb); clear hb; obtain ⟨f0', f1, f2, f3, f4, f5, f6, f7, f8⟩ := HRl.out.ninef; obtain ⟨z0, z1, z2, z3, z4, z5, z6, z7, z8⟩ := HRl.out.nine)
        clear f0' f1 f2 f3 f4 f5 f6 f7 f8 z0 z1 z2 z3 z4 z5 z6 z7 z8
        obtain ⟨q0, q1, q2, q3, q4, q5, q6, q7, q8⟩ := (HRl.out.nine_set (.int .i64 5) (.string ⟨#[]⟩) (.string ⟨#[]⟩) (.string ⟨#[]⟩) (.bool false) (.int .i64 0) (.int .i64 (sR : Int)) (.int .i64 (C : Int)) (.slice (some ⟨gz, 0, none⟩) nT cz)).1.nine
        have hcn := chg_nine we t (.int .i64 5) (.string ⟨#[]⟩) (.string ⟨#[]⟩) (.string ⟨#[]⟩) (.bool false) (.int .i64 0) (.int .i64 (sR : Int)) (.int .i64 (C : Int)) (.slice (some ⟨gz, 0, none⟩) nT cz)
        have hgw : gz < we.heap.size := reads_pos HD5.out (by omega)
        have hht := HHT.out
        refine bodyPost_ret (v := aV (sR : Int) (C : Int) (some ⟨gz, 0, none⟩) nT cz) (by simp [results, Tryz.results51, go_sem, q0, q1, q2, q3, q4, q5, q6, q7, q8]) rfl ⟨arrU sR C (some ⟨gz, 0, none⟩) nT cz, rfl, (show AR _ (arrU sR C (some ⟨gz, 0, none⟩) nT cz) sR C (XS) from ⟨⟨_, nT, cz, rfl, by rw [HNT.out], reads_same HD5.out hcn.size (hcn.block gz hgw (by rw [List.mem_singleton]; omega))⟩, by omega, by omega, by omega, by omega, by rw [← HNT.out]; omega⟩), fun b o e => (by injection e with e; injection e with e; omega), HCc.out.trans (hcn.mono HCc.out.size fun x hx => .inr (by
          rw [List.mem_singleton.1 hx, ← HHT.out]
          omega))⟩
      · have HTN := Lib.hid fun W' (h : Reads 9 csV W' (.slice (some ⟨gz, 0, none⟩) nT cz) XS) => turned_a sR C nT (some ⟨gz, 0, none⟩) cz XS W' HNT.out hs1 (by omega) c1 (by omega) (by omega) h
        have HGV := Lib.hid fun A' c' W' => gval_a (C : Int) (sR : Int) A' nT c' W' (by omega) (by omega) (by omega) (by omega)
        obtain ⟨g0, g1, g2, -⟩ := HX9.out.three
        go_upto_region 17 with fail
        go_upto_region 18 with (go_at_call 42; (with_reducible refine (HTN.out _ HRD.out).mono ?_); rintro e wd ⟨g, c', rfl, hr, hg, hb⟩; have HRT := Lib.hid hr; have HGE := Lib.hid (show X < g from by have := HX9.out.lt; omega); have HX5 := Lib.hid (HX9.out.later hb); have HT5 := Lib.hid (HT9.out.later hb); have HC5 := Lib.hid (HC9.out.next (Chg.of hb [q])); clear g0 g1 g2 hr hg hb; obtain ⟨z0, z1, z2, f0', f1, f2⟩ := HX5.out.three)
        clear z0 z1 z2 f0' f1 f2
        have hcx : Chg wd.heap.size [X] wd (((wd.setCell ⟨X, 0, none⟩ (.int .i64 (C : Int))).setCell ⟨X, 1, none⟩ (.int .i64 (sR : Int))).setCell ⟨X, 2, none⟩ (.slice (some ⟨g, 0, none⟩) nT c')) := (((Chg.refl wd.heap.size [X] wd).set (p := ⟨X, 0, none⟩) (.inl (List.mem_singleton.2 rfl)) _).set (p := ⟨X, 1, none⟩) (.inl (List.mem_singleton.2 rfl)) _).set (p := ⟨X, 2, none⟩) (.inl (List.mem_singleton.2 rfl)) _
        have hgw : g < wd.heap.size := reads_pos HRT.out (by omega)
        have HX6 := Lib.hid (HX5.out.three_set (.int .i64 (C : Int)) (.int .i64 (sR : Int)) (.slice (some ⟨g, 0, none⟩) nT c')).1
        have HR6 := Lib.hid (reads_same HRT.out hcx.size (hcx.block g hgw (by have := HGE.out; rw [List.mem_singleton]; omega)))
        have HT6 := Lib.hid (hcx.blk HT5.out HT5.out.lt (by rw [List.mem_singleton]; omega))
        have HC6 := Lib.hid (HC5.out.trans (hcx.mono HC5.out.size fun x hx => .inr (by
          rw [List.mem_singleton.1 hx, ← HHT.out]
          omega)))
        clear hcx hgw HX5 HRT HT5 HC5
        revert HX6 HR6 HT6 HC6
        generalize ((wd.setCell ⟨X, 0, none⟩ (.int .i64 (C : Int))).setCell ⟨X, 1, none⟩ (.int .i64 (sR : Int))).setCell ⟨X, 2, none⟩ (.slice (some ⟨g, 0, none⟩) nT c') = wh
        intro HX6 HR6 HT6 HC6
        obtain ⟨g0, g1, g2, -⟩ := HX6.out.three
        go_upto_region 99 with (go_at_call 43; (with_reducible refine (HGV.out _ _ _).mono ?_); rintro e we ⟨rfl, hb⟩; have HD5 := Lib.hid (HR6.out.below hb); have HCc := Lib.hid (HC6.out.next (Chg.of hb [q])); have HRl := Lib.hid (HT6.out.later hb); clear hb; obtain ⟨f0', f1, f2, f3, f4, f5, f6, f7, f8⟩ := HRl.out.ninef; obtain ⟨z0, z1, z2, z3, z4, z5, z6, z7, z8⟩ := HRl.out.nine)
        clear f0' f1 f2 f3 f4 f5 f6 f7 f8 z0 z1 z2 z3 z4 z5 z6 z7 z8
        obtain ⟨q0, q1, q2, q3, q4, q5, q6, q7, q8⟩ := (HRl.out.nine_set (.int .i64 5) (.string ⟨#[]⟩) (.string ⟨#[]⟩) (.string ⟨#[]⟩) (.bool false) (.int .i64 0) (.int .i64 (C : Int)) (.int .i64 (sR : Int)) (.slice (some ⟨g, 0, none⟩) nT c')).1.nine
        have hcn := chg_nine we t (.int .i64 5) (.string ⟨#[]⟩) (.string ⟨#[]⟩) (.string ⟨#[]⟩) (.bool false) (.int .i64 0) (.int .i64 (C : Int)) (.int .i64 (sR : Int)) (.slice (some ⟨g, 0, none⟩) nT c')
        have hgw : g < we.heap.size := reads_pos HD5.out (by omega)
        have hht := HHT.out
        have hge := HGE.out
        refine bodyPost_ret (v := aV (C : Int) (sR : Int) (some ⟨g, 0, none⟩) nT c') (by simp [results, Tryz.results51, go_sem, q0, q1, q2, q3, q4, q5, q6, q7, q8]) rfl ⟨arrU C sR (some ⟨g, 0, none⟩) nT c', rfl, (show AR _ (arrU C sR (some ⟨g, 0, none⟩) nT c') C sR (turnL sR C XS) from ⟨⟨_, nT, c', rfl, by rw [HNT.out, Nat.mul_comm], reads_same HD5.out hcn.size (hcn.block g hgw (by rw [List.mem_singleton]; omega))⟩, by omega, by omega, by omega, by omega, by rw [Nat.mul_comm, ← HNT.out]; omega⟩), fun b o e => (by injection e with e; injection e with e; omega), HCc.out.trans (hcn.mono HCc.out.size fun x hx => .inr (by
          rw [List.mem_singleton.1 hx, ← HHT.out]
          omega))⟩
end Go.Proofs.YtllhefjblipddaaGreatDoor

namespace Go.Proofs.YtllhefjblipddaaGreatDoor
open Go.RowKit

set_option maxRecDepth 100000 in
set_option maxHeartbeats 8000000 in
theorem fHs_any (B0 W0 W : World) (q : Nat) (N : Nat) (A : Option Addr) (c C : Nat) (avs : List Vl) (gr : Nat → Nat) (gx : Nat → List Vl) (he : VEnv W0) (h0 : Below W0.heap.size W0 W) (hq0 : W0.heap.size ≤ q) (hq : Blk W q 90 #[.slice A N c, .int .i64 0]) (hA : Reads 9 csV W0 (.slice A N c) avs) (hN1 : 1 ≤ N) (hN2 : N ≤ 100) (c1 : 1 ≤ C) (c2 : C ≤ 100) (hS : sumR gr N ≤ 100) (hG : ∀ i, i < N → ∃ R' C' us, AR W0 avs[i]! R' C' us ∧ R' ≤ 100 ∧ (R' = C ∧ C' = gr i ∧ gx i = turnL R' C' us)) :
    Calls Tryz.prog 50 #[.pointer (some ⟨q, 0, none⟩)] W (ResF B0 W [q] C (sumR gr N) (turnL (sumR gr N) C (catX gx N))) := by
  have HPA := Lib.hid (stack_a W0 (W.alloc (.cells #[.int .i64 0, .string ⟨#[]⟩, .string ⟨#[]⟩, .string ⟨#[]⟩, .bool false, .int .i64 0, .int .i64 0, .int .i64 0, .slice none 0 0] 27)) q N A c C avs true gr gx he (h0.trans ((below_al W _).mono h0.size)) hq0 (hq.alloc _) hA hN1 hN2 c1 c2 hS (fun i hi => (hG i hi).imp fun R' h => h.imp fun C' h => h.imp fun us h => ⟨h.1, h.2.1, .inr ⟨rfl, h.2.2⟩⟩))
  have hqn : W.heap.size ∉ [q] := by have := hq.lt; rw [List.mem_singleton]; omega
  have HQN := Lib.hid hqn
  have HBZ := Lib.hid (Blk.new W 27 #[.int .i64 0, .string ⟨#[]⟩, .string ⟨#[]⟩, .string ⟨#[]⟩, .bool false, .int .i64 0, .int .i64 0, .int .i64 0, .slice none 0 0])
  obtain ⟨RR, hRR⟩ : ∃ x, x = (C) := ⟨_, rfl⟩
  obtain ⟨CC, hCC⟩ : ∃ x, x = ((sumR gr N)) := ⟨_, rfl⟩
  rw [← hRR, ← hCC] at HPA ⊢
  clear he hA hG h0 hq hqn hRR hCC
  go_enter Tryz.func50, Tryz.ntmps50
  go_upto_region 99 with (go_at_call 51; (with_reducible refine HPA.out.mono ?_); rintro e w2 ⟨u', he, hr, hfr, hc⟩; have HRS := Lib.hid hr; obtain ⟨A3, n3, c3, rfl, hn3, -⟩ := hr.ex; have he : e = .returned (aV (RR : Int) (CC : Int) A3 n3 c3) := he; subst he; have HFR := Lib.hid hfr; have HC2 := Lib.hid ((Chg.of (below_al W (.cells #[.int .i64 0, .string ⟨#[]⟩, .string ⟨#[]⟩, .string ⟨#[]⟩, .bool false, .int .i64 0, .int .i64 0, .int .i64 0, .slice none 0 0] 27)) [q]).next hc); have HBW := Lib.hid (hc.blk HBZ.out HBZ.out.lt HQN.out); clear hn3 hr hfr hc HBZ; obtain ⟨f0', f1, f2, f3, f4, f5, f6, f7, f8⟩ := HBW.out.ninef; obtain ⟨z0, z1, z2, z3, z4, z5, z6, z7, z8⟩ := HBW.out.nine)
  clear f0' f1 f2 f3 f4 f5 f6 f7 f8 z0 z1 z2 z3 z4 z5 z6 z7 z8
  obtain ⟨q0, q1, q2, q3, q4, q5, q6, q7, q8⟩ := (HBW.out.nine_set (.int .i64 5) (.string ⟨#[]⟩) (.string ⟨#[]⟩) (.string ⟨#[]⟩) (.bool false) (.int .i64 0) (.int .i64 (RR : Int)) (.int .i64 (CC : Int)) (.slice A3 n3 c3)).1.nine
  have hcn := chg_nine w2 W.heap.size (.int .i64 5) (.string ⟨#[]⟩) (.string ⟨#[]⟩) (.string ⟨#[]⟩) (.bool false) (.int .i64 0) (.int .i64 (RR : Int)) (.int .i64 (CC : Int)) (.slice A3 n3 c3)
  have hfr := HFR.out
  have hsz : (W.alloc (.cells #[.int .i64 0, .string ⟨#[]⟩, .string ⟨#[]⟩, .string ⟨#[]⟩, .bool false, .int .i64 0, .int .i64 0, .int .i64 0, .slice none 0 0] 27)).heap.size = W.heap.size + 1 := by simp
  rw [hsz] at hfr
  refine bodyPost_ret (v := aV (RR : Int) (CC : Int) A3 n3 c3) (by simp [results, Tryz.results50, go_sem, q0, q1, q2, q3, q4, q5, q6, q7, q8]) rfl ⟨arrU RR CC A3 n3 c3, rfl, HRS.out.same hcn.size (fun b o e hb => hcn.block b hb (by
    have := hfr b o e
    rw [List.mem_singleton]
    omega)), fun b o e => by have := hfr b o e; omega, HC2.out.trans (hcn.mono HC2.out.size fun x hx => .inr (by rw [List.mem_singleton.1 hx]; exact Nat.le_refl _))⟩

set_option maxRecDepth 100000 in
set_option maxHeartbeats 8000000 in
theorem fVs_any (B0 W0 W : World) (q : Nat) (N : Nat) (A : Option Addr) (c C : Nat) (avs : List Vl) (gr : Nat → Nat) (gx : Nat → List Vl) (he : VEnv W0) (h0 : Below W0.heap.size W0 W) (hq0 : W0.heap.size ≤ q) (hq : Blk W q 90 #[.slice A N c, .int .i64 0]) (hA : Reads 9 csV W0 (.slice A N c) avs) (hN1 : 1 ≤ N) (hN2 : N ≤ 100) (c1 : 1 ≤ C) (c2 : C ≤ 100) (hS : sumR gr N ≤ 100) (hG : ∀ i, i < N → ∃ R' C' us, AR W0 avs[i]! R' C' us ∧ R' ≤ 100 ∧ (R' = gr i ∧ C' = C ∧ us = gx i)) :
    Calls Tryz.prog 52 #[.pointer (some ⟨q, 0, none⟩)] W (ResF B0 W [q] (sumR gr N) C (catX gx N)) := by
  have HPA := Lib.hid (stack_a W0 (W.alloc (.cells #[.int .i64 0, .string ⟨#[]⟩, .string ⟨#[]⟩, .string ⟨#[]⟩, .bool false, .int .i64 0, .int .i64 0, .int .i64 0, .slice none 0 0] 27)) q N A c C avs false gr gx he (h0.trans ((below_al W _).mono h0.size)) hq0 (hq.alloc _) hA hN1 hN2 c1 c2 hS (fun i hi => (hG i hi).imp fun R' h => h.imp fun C' h => h.imp fun us h => ⟨h.1, h.2.1, .inl ⟨rfl, h.2.2⟩⟩))
  have hqn : W.heap.size ∉ [q] := by have := hq.lt; rw [List.mem_singleton]; omega
  have HQN := Lib.hid hqn
  have HBZ := Lib.hid (Blk.new W 27 #[.int .i64 0, .string ⟨#[]⟩, .string ⟨#[]⟩, .string ⟨#[]⟩, .bool false, .int .i64 0, .int .i64 0, .int .i64 0, .slice none 0 0])
  obtain ⟨RR, hRR⟩ : ∃ x, x = ((sumR gr N)) := ⟨_, rfl⟩
  obtain ⟨CC, hCC⟩ : ∃ x, x = (C) := ⟨_, rfl⟩
  rw [← hRR, ← hCC] at HPA ⊢
  clear he hA hG h0 hq hqn hRR hCC
  go_enter Tryz.func52, Tryz.ntmps52
  go_upto_region 99 with (go_at_call 51; (with_reducible refine HPA.out.mono ?_); rintro e w2 ⟨u', he, hr, hfr, hc⟩; have HRS := Lib.hid hr; obtain ⟨A3, n3, c3, rfl, hn3, -⟩ := hr.ex; have he : e = .returned (aV (RR : Int) (CC : Int) A3 n3 c3) := he; subst he; have HFR := Lib.hid hfr; have HC2 := Lib.hid ((Chg.of (below_al W (.cells #[.int .i64 0, .string ⟨#[]⟩, .string ⟨#[]⟩, .string ⟨#[]⟩, .bool false, .int .i64 0, .int .i64 0, .int .i64 0, .slice none 0 0] 27)) [q]).next hc); have HBW := Lib.hid (hc.blk HBZ.out HBZ.out.lt HQN.out); clear hn3 hr hfr hc HBZ; obtain ⟨f0', f1, f2, f3, f4, f5, f6, f7, f8⟩ := HBW.out.ninef; obtain ⟨z0, z1, z2, z3, z4, z5, z6, z7, z8⟩ := HBW.out.nine)
  clear f0' f1 f2 f3 f4 f5 f6 f7 f8 z0 z1 z2 z3 z4 z5 z6 z7 z8
  obtain ⟨q0, q1, q2, q3, q4, q5, q6, q7, q8⟩ := (HBW.out.nine_set (.int .i64 5) (.string ⟨#[]⟩) (.string ⟨#[]⟩) (.string ⟨#[]⟩) (.bool false) (.int .i64 0) (.int .i64 (RR : Int)) (.int .i64 (CC : Int)) (.slice A3 n3 c3)).1.nine
  have hcn := chg_nine w2 W.heap.size (.int .i64 5) (.string ⟨#[]⟩) (.string ⟨#[]⟩) (.string ⟨#[]⟩) (.bool false) (.int .i64 0) (.int .i64 (RR : Int)) (.int .i64 (CC : Int)) (.slice A3 n3 c3)
  have hfr := HFR.out
  have hsz : (W.alloc (.cells #[.int .i64 0, .string ⟨#[]⟩, .string ⟨#[]⟩, .string ⟨#[]⟩, .bool false, .int .i64 0, .int .i64 0, .int .i64 0, .slice none 0 0] 27)).heap.size = W.heap.size + 1 := by simp
  rw [hsz] at hfr
  refine bodyPost_ret (v := aV (RR : Int) (CC : Int) A3 n3 c3) (by simp [results, Tryz.results52, go_sem, q0, q1, q2, q3, q4, q5, q6, q7, q8]) rfl ⟨arrU RR CC A3 n3 c3, rfl, HRS.out.same hcn.size (fun b o e hb => hcn.block b hb (by
    have := hfr b o e
    rw [List.mem_singleton]
    omega)), fun b o e => by have := hfr b o e; omega, HC2.out.trans (hcn.mono HC2.out.size fun x hx => .inr (by rw [List.mem_singleton.1 hx]; exact Nat.le_refl _))⟩

end Go.Proofs.YtllhefjblipddaaGreatDoor

namespace Go.Proofs.YtllhefjblipddaaGreatDoor
open Go.RowKit

set_option maxRecDepth 100000 in
set_option maxHeartbeats 8000000 in
/-- TOROW. -/
theorem fTo_any (B0 W0 W : World) (q : Nat) (A : Option Addr) (c : Nat) (u : Vl) (R C : Nat) (us : List Vl) (h0 : Below W0.heap.size W0 W) (hq0 : W0.heap.size ≤ q) (hq : Blk W q 90 #[.slice A 1 c, .int .i64 0]) (hA : Reads 9 csV W0 (.slice A 1 c) [u]) (hu : AR W0 u R C us) (hRC : R * C ≤ 100) (hB : ∀ b o, u.A = some ⟨b, o, none⟩ → b < B0.heap.size) (hBW : B0.heap.size ≤ W0.heap.size) :
    Calls Tryz.prog 53 #[.pointer (some ⟨q, 0, none⟩)] W (ResF B0 W [q] 1 (R * C) us) := by
  obtain ⟨A2, n, cc2, rfl, hn, hr⟩ := hu.ex
  obtain ⟨r1, r2, c1, c2⟩ := And.intro hu.r1 (And.intro hu.r2 (And.intro hu.c1 hu.c2))
  have hp : 0 < n := by rw [hn]; exact Nat.mul_pos r1 c1
  obtain ⟨b2, o2, rfl⟩ : ∃ b o, A2 = some ⟨b, o, none⟩ := by
    obtain ⟨A', c', e, -, -, h3⟩ := hr
    injection e with e1 e2 e3
    obtain ⟨b, o, e4, -⟩ := h3 (by omega)
    exact ⟨b, o, e1.trans e4⟩
  have hb2 : b2 < B0.heap.size := hB b2 o2 rfl
  rw [← hn] at hRC ⊢
  have HV := Lib.hid (show Calls Tryz.prog 39 #[.pointer (some ⟨q, 0, none⟩)] (W.alloc (.cells #[.int .i64 0, .string ⟨#[]⟩, .string ⟨#[]⟩, .string ⟨#[]⟩, .bool false, .int .i64 0, .int .i64 0, .int .i64 0, .slice none 0 0] 27)) fun e w' => e = .returned (aV (R : Int) (C : Int) (some ⟨b2, o2, none⟩) n cc2) ∧ Blk w' q 90 #[.slice A 1 c, .int .i64 ((0 : Nat) + 1 : Int)] ∧ Below W0.heap.size W0 w' ∧ Chg (W.alloc (.cells #[.int .i64 0, .string ⟨#[]⟩, .string ⟨#[]⟩, .string ⟨#[]⟩, .bool false, .int .i64 0, .int .i64 0, .int .i64 0, .slice none 0 0] 27)).heap.size [q] (W.alloc (.cells #[.int .i64 0, .string ⟨#[]⟩, .string ⟨#[]⟩, .string ⟨#[]⟩, .bool false, .int .i64 0, .int .i64 0, .int .i64 0, .slice none 0 0] 27)) w' from value_b W0 (W.alloc (.cells #[.int .i64 0, .string ⟨#[]⟩, .string ⟨#[]⟩, .string ⟨#[]⟩, .bool false, .int .i64 0, .int .i64 0, .int .i64 0, .slice none 0 0] 27)) q A 1 c 0 _ (h0.trans ((below_al W _).mono h0.size)) hq0 (hq.alloc _) hA (by decide) (by decide))
  have hm : IntKind.i64.wrap ((R : Int) * (C : Int)) = (n : Int) := by
    have e : (R : Int) * (C : Int) = (n : Int) := by rw [hn, Int.natCast_mul]
    rw [e]
    exact IntWalk.i64_in _ (by omega)
  have HGV := Lib.hid fun W' => (show Calls Tryz.prog 43 #[.agg #[.int .i64 1, .int .i64 (n : Int), .slice (some ⟨b2, o2, none⟩) n cc2]] W' fun e w' => e = .returned (aV 1 (n : Int) (some ⟨b2, o2, none⟩) n cc2) ∧ Below W'.heap.size W' w' from gval_a 1 (n : Int) (some ⟨b2, o2, none⟩) n cc2 W' (by decide) (by decide) (by omega) (by omega))
  obtain ⟨t, ht⟩ : ∃ t, t = W.heap.size := ⟨_, rfl⟩
  have HRz := Lib.hid (Blk.new W 27 #[.int .i64 0, .string ⟨#[]⟩, .string ⟨#[]⟩, .string ⟨#[]⟩, .bool false, .int .i64 0, .int .i64 0, .int .i64 0, .slice none 0 0])
  rw [← ht] at HRz
  have htq : t ∉ [q] := fun h => by
    have := hq.lt
    rw [List.mem_singleton] at h
    omega
  have HTQ := Lib.hid htq
  have HTS := Lib.hid (show t < (W.alloc (.cells #[.int .i64 0, .string ⟨#[]⟩, .string ⟨#[]⟩, .string ⟨#[]⟩, .bool false, .int .i64 0, .int .i64 0, .int .i64 0, .slice none 0 0] 27)).heap.size from by rw [ht]; simp)
  have HH := Lib.hid ht
  have HSZ := Lib.hid h0.size
  have HNN := Lib.hid hn
  have HR0 := Lib.hid hr
  clear htq hr h0 hq hA hu hn hB
  go_enter Tryz.func53, Tryz.ntmps53
  go_upto_region 1 with fail
  rw [← ht]
  clear ht
  go_upto_region 2 with (first
    | (go_at_call 39; (with_reducible refine HV.out.mono ?_); rintro e w1 ⟨rfl, -, hb, hc⟩; have HB1 := Lib.hid hb; have HC1 := Lib.hid ((Chg.of (below_al W (.cells #[.int .i64 0, .string ⟨#[]⟩, .string ⟨#[]⟩, .string ⟨#[]⟩, .bool false, .int .i64 0, .int .i64 0, .int .i64 0, .slice none 0 0] 27)) [q]).next hc); have HRa := Lib.hid (hc.blk HRz.out HTS.out HTQ.out); clear hb hc HRz)
    | (go_at_call 38; (with_reducible refine (grid_a _ _ _ _ _ _).mono ?_); rintro e w2 ⟨rfl, hb⟩; have HB2 := Lib.hid (HB1.out.trans (hb.mono HB1.out.size)); have HC2 := Lib.hid (HC1.out.next (Chg.of hb [q])); have HRb := Lib.hid (HRa.out.later hb); clear hb HB1 HRa HC1))
  have HX3 := Lib.hid (Blk.new w2 69 #[.int .i64 (R : Int), .int .i64 (C : Int), .slice (some ⟨b2, o2, none⟩) n cc2])
  have hba := below_al w2 (.cells #[.int .i64 (R : Int), .int .i64 (C : Int), .slice (some ⟨b2, o2, none⟩) n cc2] 69)
  have HB3 := Lib.hid (HB2.out.trans (hba.mono HB2.out.size))
  have HC3 := Lib.hid (HC2.out.next (Chg.of hba [q]))
  have HRc := Lib.hid (HRb.out.later hba)
  have HXT := Lib.hid (show w2.heap.size ≠ t from by have := HRb.out.lt; omega)
  clear HB2 HC2 HRb hba
  revert HX3 HB3 HC3 HRc HXT
  generalize w2.alloc (.cells #[.int .i64 (R : Int), .int .i64 (C : Int), .slice (some ⟨b2, o2, none⟩) n cc2] 69) = w3
  generalize w2.heap.size = X
  intro HX3 HB3 HC3 HRc HXT
  obtain ⟨g0, g1, g2, -⟩ := HX3.out.three
  go_upto_region 99 with (go_at_call 43; (with_reducible refine (HGV.out _).mono ?_); rintro e w4 ⟨rfl, hb⟩; have HB4 := Lib.hid (HB3.out.trans (hb.mono HB3.out.size)); have HC4 := Lib.hid (HC3.out.next (Chg.of hb [q])); have HRd := Lib.hid (HRc.out.later hb); clear hb HB3 HRc HC3 g0 g1 g2; obtain ⟨f0, f1, f2, f3, f4, f5, f6, f7, f8⟩ := HRd.out.ninef; obtain ⟨z0, z1, z2, z3, z4, z5, z6, z7, z8⟩ := HRd.out.nine)
  clear f0 f1 f2 f3 f4 f5 f6 f7 f8 z0 z1 z2 z3 z4 z5 z6 z7 z8
  obtain ⟨q0, q1, q2, q3, q4, q5, q6, q7, q8⟩ := (HRd.out.nine_set (.int .i64 5) (.string ⟨#[]⟩) (.string ⟨#[]⟩) (.string ⟨#[]⟩) (.bool false) (.int .i64 0) (.int .i64 1) (.int .i64 (n : Int)) (.slice (some ⟨b2, o2, none⟩) n cc2)).1.nine
  have hcn := chg_nine w4 t (.int .i64 5) (.string ⟨#[]⟩) (.string ⟨#[]⟩) (.string ⟨#[]⟩) (.bool false) (.int .i64 0) (.int .i64 1) (.int .i64 (n : Int)) (.slice (some ⟨b2, o2, none⟩) n cc2)
  have hsz := HSZ.out
  have hh := HH.out
  have hrd := HR0.out.below HB4.out
  refine bodyPost_ret (v := aV 1 (n : Int) (some ⟨b2, o2, none⟩) n cc2) (by simp [results, Tryz.results53, go_sem, q0, q1, q2, q3, q4, q5, q6, q7, q8]) rfl ⟨arrU 1 n (some ⟨b2, o2, none⟩) n cc2, rfl, (show AR _ (arrU 1 n (some ⟨b2, o2, none⟩) n cc2) 1 n us from ⟨⟨_, n, cc2, rfl, by omega, reads_same hrd hcn.size (hcn.block b2 (reads_pos hrd hp) (by rw [List.mem_singleton]; omega))⟩, by omega, by omega, by omega, by omega, by omega⟩), fun b o e => .inl (by injection e with e; injection e with e; omega), HC4.out.trans (hcn.mono HC4.out.size fun x hx => .inr (by
    rw [List.mem_singleton.1 hx, HH.out]
    exact Nat.le_refl _))⟩
set_option maxRecDepth 100000 in
set_option maxHeartbeats 4000000 in
theorem line_a (c : Int) (A : Option Addr) (n cc : Nat) (W : World) : Calls Tryz.prog 79 #[aV 1 c A n cc] W fun e w' => e = .returned (.slice A n cc) ∧ Below W.heap.size W w' := by
  have HL0 := Lib.hid ((Loc.start W).alloc' rfl 27 #[.int .i64 5, .string ⟨#[]⟩, .string ⟨#[]⟩, .string ⟨#[]⟩, .bool false, .int .i64 0, .int .i64 1, .int .i64 c, .slice A n cc])
  go_enter Tryz.func79, Tryz.ntmps79
  go_upto_region 2 with (go_at_call 38; (with_reducible refine (grid_a _ _ _ _ _ _).mono ?_); rintro e w2 ⟨rfl, hb⟩; have HL1 := Lib.hid (HL0.out.step hb); clear hb)
  have HL2 := Lib.hid (HL1.out.step (below_al w2 (.cells #[.int .i64 1, .int .i64 c, .slice A n cc] 69)))
  have HX := Lib.hid (Blk.new w2 69 #[.int .i64 1, .int .i64 c, .slice A n cc])
  revert HL2 HX
  generalize w2.alloc (.cells #[.int .i64 1, .int .i64 c, .slice A n cc] 69) = w3
  intro HL2 HX
  obtain ⟨g0, g1, g2, -⟩ := HX.out.three
  go_upto_region 3 with (go_at_call 81; (with_reducible refine (stop_f _ _).mono ?_); rintro e wq ⟨rfl, rfl⟩)
  go_wp2_with fail
  go_ret
  exact ⟨rfl, HL2.out.bel⟩
set_option maxRecDepth 100000 in
set_option maxHeartbeats 4000000 in
/-- No argument is left. -/
theorem filler_f (q : Nat) (A : Option Addr) (n c : Nat) (W : World) (he : VEnv W) (hq : Blk W q 90 #[.slice A n c, .int .i64 (n : Int)]) : Calls Tryz.prog 92 #[.pointer (some ⟨q, 0, none⟩)] W fun e w' => e = .returned (.agg #[.int .i64 4, .string ⟨#[]⟩, .string ⟨#[]⟩, .string ⟨#[]⟩, .bool false, .int .i64 6, .int .i64 0, .int .i64 0, .slice none 0 0]) ∧ Below W.heap.size W w' := by
  have HL0 := Lib.hid ((Loc.start W).alloc' rfl 27 #[.int .i64 0, .string ⟨#[]⟩, .string ⟨#[]⟩, .string ⟨#[]⟩, .bool false, .int .i64 0, .int .i64 0, .int .i64 0, .slice none 0 0])
  have HMO := Lib.hid (more_any q A n c n (W.alloc (.cells #[.int .i64 0, .string ⟨#[]⟩, .string ⟨#[]⟩, .string ⟨#[]⟩, .bool false, .int .i64 0, .int .i64 0, .int .i64 0, .slice none 0 0] 27)) (hq.alloc _) false (by simp))
  have HFT := Lib.hid fun W' (hW : Below W.heap.size W W') => (show Calls Tryz.prog 27 #[.int .i64 6] W' fun e w' => e = .returned (.agg #[.int .i64 4, .string ⟨#[]⟩, .string ⟨#[]⟩, .string ⟨#[]⟩, .bool false, .int .i64 6, .int .i64 0, .int .i64 0, .slice none 0 0]) ∧ Below W'.heap.size W' w' from fault_t 6 W' (he.below hW) (by decide) (by decide))
  clear he hq
  go_enter Tryz.func92, Tryz.ntmps92
  go_upto_region 99 with (first
    | (go_at_call 82; (with_reducible refine HMO.out.mono ?_); rintro e w1 ⟨rfl, hb⟩; have HL1 := Lib.hid (HL0.out.step hb); clear hb)
    | (go_at_call 27; (with_reducible refine (HFT.out _ HL1.out.bel).mono ?_); rintro e w2 ⟨rfl, hb⟩; have HL2 := Lib.hid (HL1.out.step hb); clear hb; have bz := HL2.out.blk (g := W.heap.size) (t := 27) (List.mem_cons_self ..); obtain ⟨z0, z1, z2, z3, z4, z5, z6, z7, z8⟩ := bz.nine; obtain ⟨f0, f1, f2, f3, f4, f5, f6, f7, f8⟩ := bz.ninef; have BS := Lib.hid (bz.nine_set (.int .i64 4) (.string ⟨#[]⟩) (.string ⟨#[]⟩) (.string ⟨#[]⟩) (.bool false) (.int .i64 6) (.int .i64 0) (.int .i64 0) (.slice none 0 0)).1; clear bz))
  clear f0 f1 f2 f3 f4 f5 f6 f7 f8 z0 z1 z2 z3 z4 z5 z6 z7 z8
  obtain ⟨q0, q1, q2, q3, q4, q5, q6, q7, q8⟩ := BS.out.nine
  refine bodyPost_ret (v := .agg #[.int .i64 4, .string ⟨#[]⟩, .string ⟨#[]⟩, .string ⟨#[]⟩, .bool false, .int .i64 6, .int .i64 0, .int .i64 0, .slice none 0 0]) (by simp [results, Tryz.results92, go_sem, q0, q1, q2, q3, q4, q5, q6, q7, q8]) rfl ⟨rfl, ?_⟩
  exact below_nine HL2.out.bel (Nat.le_refl _) _ _ _ _ _ _ _ _ _
end Go.Proofs.YtllhefjblipddaaGreatDoor

namespace Go.Proofs.YtllhefjblipddaaGreatDoor
open Go.RowKit

set_option maxRecDepth 100000 in
set_option maxHeartbeats 16000000 in
theorem wrap_a (W0 W : World) (q : Nat) (A : Option Addr) (c : Nat) (b2 o2 n cc2 R k : Nat) (us : List Vl) (he : VEnv W0) (h0 : Below W0.heap.size W0 W) (hq0 : W0.heap.size ≤ q) (hq : Blk W q 90 #[.slice A 2 c, .int .i64 0]) (hA : Reads 9 csV W0 (.slice A 2 c) [arrU 1 n (some ⟨b2, o2, none⟩) n cc2, nV k]) (hU : Reads 9 csV W0 (.slice (some ⟨b2, o2, none⟩) n cc2) us) (hn : n = R * k) (r1 : 1 ≤ R) (r2 : R ≤ 100) (k1 : 1 ≤ k) (k2 : k ≤ 100) (hn2 : n ≤ 1000) :
    Calls Tryz.prog 56 #[.pointer (some ⟨q, 0, none⟩)] W fun e w' => ∃ g c', e = .returned (gV R k (some ⟨g, 0, none⟩) n c') ∧ Reads 9 csV w' (.slice (some ⟨g, 0, none⟩) n c') us ∧ W.heap.size ≤ g ∧ Chg W.heap.size [q] W w' := by
  have hp : 0 < n := by rw [hn]; exact Nat.mul_pos r1 k1
  obtain ⟨t, ht⟩ : ∃ t, t = W.heap.size := ⟨_, rfl⟩
  have HV := Lib.hid (show Calls Tryz.prog 39 #[.pointer (some ⟨q, 0, none⟩)] (W.alloc (.cells #[.int .i64 0, .int .i64 0, .slice none 0 0] 69)) fun e w' => e = .returned (aV 1 (n : Int) (some ⟨b2, o2, none⟩) n cc2) ∧ Blk w' q 90 #[.slice A 2 c, .int .i64 ((1 : Nat) : Int)] ∧ Below W0.heap.size W0 w' ∧ Chg (W.alloc (.cells #[.int .i64 0, .int .i64 0, .slice none 0 0] 69)).heap.size [q] (W.alloc (.cells #[.int .i64 0, .int .i64 0, .slice none 0 0] 69)) w' from value_b W0 (W.alloc (.cells #[.int .i64 0, .int .i64 0, .slice none 0 0] 69)) q A 2 c 0 _ (h0.trans ((below_al W _).mono h0.size)) hq0 (hq.alloc _) hA (by decide) (by decide))
  have HWH := Lib.hid fun W' (hW : Below W0.heap.size W0 W') (hQ : Blk W' q 90 #[.slice A 2 c, .int .i64 ((1 : Nat) : Int)]) => whole_b W0 W' q A 2 c 1 k [arrU 1 n (some ⟨b2, o2, none⟩) n cc2, nV k] hW hq0 hQ hA (by decide) (by decide) rfl he (by omega)
  have HFL := Lib.hid fun W' (hW : Below W0.heap.size W0 W') (hQ : Blk W' q 90 #[.slice A 2 c, .int .i64 ((2 : Nat) : Int)]) => filler_f q A 2 c W' (he.below hW) hQ
  have HCN := Lib.hid fun W' (hW : Below W0.heap.size W0 W') => (cloneV_any b2 o2 n cc2 us W' (hU.below hW) (by omega) hn2).mono fun e w' h => (show ∃ g c', e = .returned (.slice (some ⟨g, 0, none⟩) n c') ∧ Reads 9 csV w' (.slice (some ⟨g, 0, none⟩) n c') us ∧ W'.heap.size ≤ g ∧ Below W'.heap.size W' w' from by
    obtain ⟨v', h1, h2, h3⟩ := h
    have hl : us.length = n := (hU.lt hp).1
    obtain ⟨g, c', hv, hg, -⟩ := h2.form (by omega)
    rw [hl] at hv
    subst hv
    exact ⟨g, c', h1, RowOf.reads h2 csV_len, hg, h3⟩)
  have HH := Lib.hid ht
  have hqt : q < t := by have := hq.lt; omega
  have HRz := Lib.hid (show Blk (W.alloc (.cells #[.int .i64 0, .int .i64 0, .slice none 0 0] 69)) t 69 #[.int .i64 0, .int .i64 0, .slice none 0 0] from by rw [ht]; exact Blk.new W _ _)
  have HSZ := Lib.hid h0.size
  have a1 : IntKind.i64.wrap ((n : Int) + (k : Int)) = (n : Int) + (k : Int) := IntWalk.i64_in _ (by omega)
  have a2 : IntKind.i64.wrap ((n : Int) + (k : Int) - 1) = (n : Int) + (k : Int) - 1 := IntWalk.i64_in _ (by omega)
  have a3 : IntKind.i64.wrap (((n : Int) + (k : Int) - 1).tdiv (k : Int)) = (R : Int) := by
    have e : ((n : Int) + (k : Int) - 1).tdiv (k : Int) = (R : Int) := by
      rw [Int.tdiv_eq_ediv_of_nonneg (by omega), show (n : Int) + (k : Int) - 1 = ((k : Int) - 1) + (R : Int) * (k : Int) from by rw [hn, Int.natCast_mul]; omega, Int.add_mul_ediv_right _ _ (by omega), Int.ediv_eq_zero_of_lt (by omega) (by omega)]
      simp
    rw [e]
    exact IntWalk.i64_in _ (by omega)
  have a4 : IntKind.i64.wrap ((R : Int) * (k : Int)) = (n : Int) := by
    have e : (R : Int) * (k : Int) = (n : Int) := by rw [hn, Int.natCast_mul]
    rw [e]
    exact IntWalk.i64_in _ (by omega)
  obtain ⟨dd, hdd, d5⟩ : ∃ dd : Int, IntKind.i64.wrap ((100000 : Int).tdiv (R : Int)) = dd ∧ ¬ dd < (k : Int) := by
    have e2 : (100000 : Int).tdiv (R : Int) = 100000 / (R : Int) := Int.tdiv_eq_ediv_of_nonneg (by decide)
    have e3 : (100 : Int) ≤ 100000 / (R : Int) := by
      rw [Int.le_ediv_iff_mul_le (by omega)]
      omega
    have e4 : 100000 / (R : Int) ≤ 100000 := Int.ediv_le_self _ (by decide)
    exact ⟨_, rfl, by rw [e2, IntWalk.i64_in _ (by omega)]; omega⟩
  have d5d : decide (dd < (k : Int)) = false := by simp; omega
  have kz : ¬ k = 0 := by omega
  have kzi : ¬ (k : Int) = 0 := by omega
  have k1i : ¬ (k : Int) < 1 := by omega
  have k1d : decide ((k : Int) < 1) = false := by simp; omega
  have rz : ¬ R = 0 := by omega
  have rzi : ¬ (R : Int) = 0 := by omega
  have hw0 : IntKind.i64.wrap 0 = 0 := by decide
  clear he hq hA hU hn h0
  go_enter Tryz.func56, Tryz.ntmps56
  go_upto_region 1 with fail
  rw [← ht]
  clear ht
  go_upto_region 2 with (go_at_call 39; (with_reducible refine HV.out.mono ?_); rintro e w1 ⟨rfl, hq1, hb, hc⟩; have HB1 := Lib.hid hb; have HQ1 := Lib.hid hq1; have HC1 := Lib.hid ((Chg.of (below_al W (.cells #[.int .i64 0, .int .i64 0, .slice none 0 0] 69)) [q]).next hc); have HT1 := Lib.hid (hc.blk HRz.out HRz.out.lt (by rw [List.mem_singleton]; omega)); clear hb hc hq1 HRz)
  have HB2 := Lib.hid (HB1.out.trans ((below_al w1 (.cells #[.int .i64 5, .string ⟨#[]⟩, .string ⟨#[]⟩, .string ⟨#[]⟩, .bool false, .int .i64 0, .int .i64 1, .int .i64 (n : Int), .slice (some ⟨b2, o2, none⟩) n cc2] 27)).mono HB1.out.size))
  have HQ2 := Lib.hid (HQ1.out.alloc (.cells #[.int .i64 5, .string ⟨#[]⟩, .string ⟨#[]⟩, .string ⟨#[]⟩, .bool false, .int .i64 0, .int .i64 1, .int .i64 (n : Int), .slice (some ⟨b2, o2, none⟩) n cc2] 27))
  have HT2 := Lib.hid (HT1.out.alloc (.cells #[.int .i64 5, .string ⟨#[]⟩, .string ⟨#[]⟩, .string ⟨#[]⟩, .bool false, .int .i64 0, .int .i64 1, .int .i64 (n : Int), .slice (some ⟨b2, o2, none⟩) n cc2] 27))
  have HC2 := Lib.hid (HC1.out.next (Chg.of (below_al w1 (.cells #[.int .i64 5, .string ⟨#[]⟩, .string ⟨#[]⟩, .string ⟨#[]⟩, .bool false, .int .i64 0, .int .i64 1, .int .i64 (n : Int), .slice (some ⟨b2, o2, none⟩) n cc2] 27)) [q]))
  have HX2 := Lib.hid (Blk.new w1 27 #[.int .i64 5, .string ⟨#[]⟩, .string ⟨#[]⟩, .string ⟨#[]⟩, .bool false, .int .i64 0, .int .i64 1, .int .i64 (n : Int), .slice (some ⟨b2, o2, none⟩) n cc2])
  have HXT := Lib.hid (show t < w1.heap.size from HT1.out.lt)
  clear HB1 HQ1 HC1 HT1
  revert HB2 HQ2 HT2 HC2 HX2 HXT
  generalize w1.alloc (.cells #[.int .i64 5, .string ⟨#[]⟩, .string ⟨#[]⟩, .string ⟨#[]⟩, .bool false, .int .i64 0, .int .i64 1, .int .i64 (n : Int), .slice (some ⟨b2, o2, none⟩) n cc2] 27) = w2
  generalize w1.heap.size = X
  intro HB2 HQ2 HT2 HC2 HX2 HXT
  go_upto_region 3 with (go_at_call 83; (with_reducible refine (HWH.out _ HB2.out HQ2.out).mono ?_); rintro e w3 ⟨rfl, hq1, hb, hc⟩; have HB3 := Lib.hid hb; have HQ3 := Lib.hid (show Blk w3 q 90 #[.slice A 2 c, .int .i64 ((2 : Nat) : Int)] from hq1); have HC3 := Lib.hid (HC2.out.next hc); have HT3 := Lib.hid (hc.blk HT2.out HT2.out.lt (by rw [List.mem_singleton]; omega)); have HX3 := Lib.hid (hc.blk HX2.out HX2.out.lt (by have := HXT.out; rw [List.mem_singleton]; omega)); clear hb hc hq1 HB2 HQ2 HT2 HC2 HX2)
  go_upto_region 4 with (go_at_call 92; (with_reducible refine (HFL.out _ HB3.out HQ3.out).mono ?_); rintro e w4 ⟨rfl, hb⟩; have HB4 := Lib.hid (HB3.out.trans (hb.mono HB3.out.size)); have HC4 := Lib.hid (HC3.out.next (Chg.of hb [q])); have HT4 := Lib.hid (HT3.out.later hb); have HX4 := Lib.hid (HX3.out.later hb); clear hb HB3 HQ3 HC3 HT3 HX3)
  have HB5 := Lib.hid (HB4.out.trans ((below_al w4 (.cells #[.int .i64 4, .string ⟨#[]⟩, .string ⟨#[]⟩, .string ⟨#[]⟩, .bool false, .int .i64 6, .int .i64 0, .int .i64 0, .slice none 0 0] 27)).mono HB4.out.size))
  have HT5 := Lib.hid (HT4.out.alloc (.cells #[.int .i64 4, .string ⟨#[]⟩, .string ⟨#[]⟩, .string ⟨#[]⟩, .bool false, .int .i64 6, .int .i64 0, .int .i64 0, .slice none 0 0] 27))
  have HX5 := Lib.hid (HX4.out.alloc (.cells #[.int .i64 4, .string ⟨#[]⟩, .string ⟨#[]⟩, .string ⟨#[]⟩, .bool false, .int .i64 6, .int .i64 0, .int .i64 0, .slice none 0 0] 27))
  have HC5 := Lib.hid (HC4.out.next (Chg.of (below_al w4 (.cells #[.int .i64 4, .string ⟨#[]⟩, .string ⟨#[]⟩, .string ⟨#[]⟩, .bool false, .int .i64 6, .int .i64 0, .int .i64 0, .slice none 0 0] 27)) [q]))
  have HY5 := Lib.hid (Blk.new w4 27 #[.int .i64 4, .string ⟨#[]⟩, .string ⟨#[]⟩, .string ⟨#[]⟩, .bool false, .int .i64 6, .int .i64 0, .int .i64 0, .slice none 0 0])
  have HYY := Lib.hid (show t < w4.heap.size ∧ W0.heap.size ≤ w4.heap.size from ⟨HT4.out.lt, HB4.out.size⟩)
  clear HB4 HC4 HT4 HX4
  revert HB5 HT5 HX5 HC5 HY5 HYY
  generalize w4.alloc (.cells #[.int .i64 4, .string ⟨#[]⟩, .string ⟨#[]⟩, .string ⟨#[]⟩, .bool false, .int .i64 6, .int .i64 0, .int .i64 0, .slice none 0 0] 27) = w5
  generalize w4.heap.size = Y
  intro HB5 HT5 HX5 HC5 HY5 HYY
  obtain ⟨x0, x1, x2, x3, x4, x5, x6, x7, x8⟩ := HX5.out.nine
  go_upto_region 8 with (first
    | (go_at_call 79; (with_reducible refine (line_a _ _ _ _ _).mono ?_); rintro e w6 ⟨rfl, hb⟩; have HB6 := Lib.hid (HB5.out.trans (hb.mono HB5.out.size)); have HC6 := Lib.hid (HC5.out.next (Chg.of hb [q])); have HT6 := Lib.hid (HT5.out.later hb); have HY6 := Lib.hid (HY5.out.later hb); clear hb HB5 HC5 HT5 HY5)
    | (go_at_call 81; (with_reducible refine (stop_f _ _).mono ?_); rintro e wq ⟨rfl, rfl⟩))
  clear x0 x1 x2 x3 x4 x5 x6 x7 x8
  have hw8 : ∃ w8, w8 = w6 := ⟨_, rfl⟩
  obtain ⟨w8, rfl⟩ := hw8
  have HB8 := Lib.hid (show Loc W0 [(t, 69, #[.int .i64 0, .int .i64 0, .slice none 0 0]), (Y, 27, #[.int .i64 4, .string ⟨#[]⟩, .string ⟨#[]⟩, .string ⟨#[]⟩, .bool false, .int .i64 6, .int .i64 0, .int .i64 0, .slice none 0 0])] w8 from ⟨HB6.out, fun x hx => by
    simp only [List.mem_cons, List.not_mem_nil, or_false] at hx
    rcases hx with rfl | rfl
    · exact ⟨by have := HSZ.out; have := HH.out; dsimp only; omega, HT6.out⟩
    · exact ⟨HYY.out.2, HY6.out⟩⟩)
  have HC8 := HC6
  have HS5 := Lib.hid (show ∀ w' a b c, Loc W0 [(t, 69, #[a, b, c]), (Y, 27, #[.int .i64 4, .string ⟨#[]⟩, .string ⟨#[]⟩, .string ⟨#[]⟩, .bool false, .int .i64 6, .int .i64 0, .int .i64 0, .slice none 0 0])] w' → w'.cell? ⟨Y, 0, none⟩ = some (.int .i64 4) ∧ w'.cell? ⟨Y, 1, none⟩ = some (.string ⟨#[]⟩) ∧ w'.cell? ⟨Y, 2, none⟩ = some (.string ⟨#[]⟩) ∧ w'.cell? ⟨Y, 3, none⟩ = some (.string ⟨#[]⟩) ∧ w'.cell? ⟨Y, 4, none⟩ = some (.bool false) ∧ w'.cell? ⟨Y, 5, none⟩ = some (.int .i64 6) ∧ w'.cell? ⟨Y, 6, none⟩ = some (.int .i64 0) ∧ w'.cell? ⟨Y, 7, none⟩ = some (.int .i64 0) ∧ w'.cell? ⟨Y, 8, none⟩ = some (.slice none 0 0) from fun w' a b c h => by
    have h1 := h.blk (g := Y) (t := 27) (List.mem_cons_of_mem _ (List.mem_cons_self ..))
    exact ⟨h1.cell 0, h1.cell 1, h1.cell 2, h1.cell 3, h1.cell 4, h1.cell 5, h1.cell 6, h1.cell 7, h1.cell 8⟩)
  have HSET := Lib.hid (show ∀ w' a b c, Loc W0 [(t, 69, #[.int .i64 0, .int .i64 0, .slice none 0 0]), (Y, 27, #[.int .i64 4, .string ⟨#[]⟩, .string ⟨#[]⟩, .string ⟨#[]⟩, .bool false, .int .i64 6, .int .i64 0, .int .i64 0, .slice none 0 0])] w' → Loc W0 [(t, 69, #[a, b, c]), (Y, 27, #[.int .i64 4, .string ⟨#[]⟩, .string ⟨#[]⟩, .string ⟨#[]⟩, .bool false, .int .i64 6, .int .i64 0, .int .i64 0, .slice none 0 0])] (((w'.setCell ⟨t, 0, none⟩ a).setCell ⟨t, 1, none⟩ b).setCell ⟨t, 2, none⟩ c) from fun w' a b c h => h.set3 (fun x hx => by
    rw [List.mem_singleton.1 hx]
    have := HYY.out
    dsimp only
    omega) a b c)
  refine wp_region_G (S1 := fun w' => w'.cell? ⟨Y, 0, none⟩ = some (.int .i64 4) ∧ w'.cell? ⟨Y, 1, none⟩ = some (.string ⟨#[]⟩) ∧ w'.cell? ⟨Y, 2, none⟩ = some (.string ⟨#[]⟩) ∧ w'.cell? ⟨Y, 3, none⟩ = some (.string ⟨#[]⟩) ∧ w'.cell? ⟨Y, 4, none⟩ = some (.bool false) ∧ w'.cell? ⟨Y, 5, none⟩ = some (.int .i64 6) ∧ w'.cell? ⟨Y, 6, none⟩ = some (.int .i64 0) ∧ w'.cell? ⟨Y, 7, none⟩ = some (.int .i64 0) ∧ w'.cell? ⟨Y, 8, none⟩ = some (.slice none 0 0)) (S2 := fun _ => True) (d := 15) (by kernel_rfl) (HS5.out _ _ _ _ HB8.out.drew) trivial (fun hT => ?_)
  refine wpAnyG_take1d (i := 0) (v := ?_) rfl rfl (by kernel_rfl) (by kernel_rfl) (by kernel_rfl) (by kernel_rfl) (fun _ _ _ h => h) (Or.inl ⟨by rfl, ?_⟩) (by assumption) (fun hT => ?_)
  rotate_left
  · intro w hSw
    (try dsimp only at hSw)
    go_simp
    (try with_reducible rfl)
  (try simp only [Act.put, List.setIfInBounds_toArray, List.set_cons_zero, List.set_cons_succ])
  refine wpAnyG_take1d (i := 1) (v := ?_) rfl rfl (by kernel_rfl) (by kernel_rfl) (by kernel_rfl) (by kernel_rfl) (fun _ _ _ h => h) (Or.inl ⟨by rfl, ?_⟩) (by assumption) (fun hT => ?_)
  rotate_left
  · intro w hSw
    (try dsimp only at hSw)
    go_simp
    (try with_reducible rfl)
  (try simp only [Act.put, List.setIfInBounds_toArray, List.set_cons_zero, List.set_cons_succ])
  refine wpAnyG_take1d (i := 2) (v := ?_) rfl rfl (by kernel_rfl) (by kernel_rfl) (by kernel_rfl) (by kernel_rfl) (fun _ _ _ h => h) (Or.inl ⟨by rfl, ?_⟩) (by assumption) (fun hT => ?_)
  rotate_left
  · intro w hSw
    (try dsimp only at hSw)
    go_simp
    (try with_reducible rfl)
  (try simp only [Act.put, List.setIfInBounds_toArray, List.set_cons_zero, List.set_cons_succ])
  refine wpAnyG_take1d (i := 4) (v := ?_) rfl rfl (by kernel_rfl) (by kernel_rfl) (by kernel_rfl) (by kernel_rfl) (fun _ _ _ h => h) (Or.inl ⟨by rfl, ?_⟩) (by assumption) (fun hT => ?_)
  rotate_left
  · intro w hSw
    (try dsimp only at hSw)
    go_simp
    (try with_reducible rfl)
  (try simp only [Act.put, List.setIfInBounds_toArray, List.set_cons_zero, List.set_cons_succ])
  refine wpAnyG_take1d (i := 6) (v := ?_) rfl rfl (by kernel_rfl) (by kernel_rfl) (by kernel_rfl) (by kernel_rfl) (fun _ _ _ h => h) (Or.inl ⟨by rfl, ?_⟩) (by assumption) (fun hT => ?_)
  rotate_left
  · intro w hSw
    (try dsimp only at hSw)
    go_simp
    (try with_reducible rfl)
  (try simp only [Act.put, List.setIfInBounds_toArray, List.set_cons_zero, List.set_cons_succ])
  refine wpAnyG_take1d (i := 7) (v := ?_) rfl rfl (by kernel_rfl) (by kernel_rfl) (by kernel_rfl) (by kernel_rfl) (fun _ _ _ h => h) (Or.inl ⟨by rfl, ?_⟩) (by assumption) (fun hT => ?_)
  rotate_left
  · intro w hSw
    (try dsimp only at hSw)
    go_simp
    (try with_reducible rfl)
  (try simp only [Act.put, List.setIfInBounds_toArray, List.set_cons_zero, List.set_cons_succ])
  refine wpAnyG_take1d (i := 8) (v := ?_) rfl rfl (by kernel_rfl) (by kernel_rfl) (by kernel_rfl) (by kernel_rfl) (fun _ _ _ h => h) (Or.inl ⟨by rfl, ?_⟩) (by assumption) (fun hT => ?_)
  rotate_left
  · intro w hSw
    (try dsimp only at hSw)
    go_simp
    (try with_reducible rfl)
  (try simp only [Act.put, List.setIfInBounds_toArray, List.set_cons_zero, List.set_cons_succ])
  refine wpAnyG_take1d (i := 9) (v := ?_) rfl rfl (by kernel_rfl) (by kernel_rfl) (by kernel_rfl) (by kernel_rfl) (fun _ _ _ h => h) (Or.inl ⟨by rfl, ?_⟩) (by assumption) (fun hT => ?_)
  rotate_left
  · intro w hSw
    (try dsimp only at hSw)
    go_simp
    (try with_reducible rfl)
  (try simp only [Act.put, List.setIfInBounds_toArray, List.set_cons_zero, List.set_cons_succ])
  refine wpAnyG_take1d (i := 10) (v := ?_) rfl rfl (by kernel_rfl) (by kernel_rfl) (by kernel_rfl) (by kernel_rfl) (fun _ _ _ h => h) (Or.inl ⟨by rfl, ?_⟩) (by assumption) (fun hT => ?_)
  rotate_left
  · intro w hSw
    (try dsimp only at hSw)
    go_simp
    (try with_reducible rfl)
  (try simp only [Act.put, List.setIfInBounds_toArray, List.set_cons_zero, List.set_cons_succ])
  refine wpAnyG_take1d (i := 11) (v := ?_) rfl rfl (by kernel_rfl) (by kernel_rfl) (by kernel_rfl) (by kernel_rfl) (fun _ _ _ h => h) (Or.inl ⟨by rfl, ?_⟩) (by assumption) (fun hT => ?_)
  rotate_left
  · intro w hSw
    (try dsimp only at hSw)
    go_simp
    (try with_reducible rfl)
  (try simp only [Act.put, List.setIfInBounds_toArray, List.set_cons_zero, List.set_cons_succ])
  refine wpAnyG_ready (rs := [3, 5]) (by kernel_rfl) (by simp) ?_
  refine AllG.cons (i := 3) rfl (fun K hK => ?_) (AllG.cons (i := 5) rfl (fun K hK => ?_) AllG.nil)
  · go_simp
    go_at_call 93
    (with_reducible refine (HCN.out _ (by first | exact HB8.out.drew.bel | exact HB8.out.bel | exact (HB8.out.step (below_al w8 _)).bel | exact (HB8.out.step (below_al w8 _)).drew.bel)).mono ?_)
    rintro e w9 ⟨g, c', rfl, hr, hg, hb⟩
    have hbw : Below w8.heap.size w8 w9 := (by first | exact hb | exact (Below.refl _ w8).drew.trans hb | exact (below_al w8 _).trans (hb.mono (below_al w8 _).size) | exact (below_al w8 _).drew.trans (hb.mono (below_al w8 _).size))
    have HB9 := Lib.hid (HB8.out.step hbw)
    have HB89 := Lib.hid hbw
    have HRD := Lib.hid hr
    have HGW := Lib.hid (show w8.heap.size ≤ g from by first | exact hg | exact Nat.le_trans (below_al w8 _).size hg)
    have hcp := reads_cap hr
    clear hbw hr hg hb
    refine hK.out _ _ ⟨(by first | exact HS5.out _ _ _ _ HB9.out | exact HS5.out _ _ _ _ (HB9.out).drew), .inr trivial⟩ (fun hT => ?_)
    clear hK K
    (try simp only [Act.put, List.setIfInBounds_toArray, List.set_cons_zero, List.set_cons_succ])
    refine wpAnyG_ready (rs := [5]) (by kernel_rfl) (by simp) ?_
    refine AllG.cons (i := 5) rfl (fun K hK => ?_) AllG.nil
    go_simp
    refine hK.out _ _ ⟨(by first | exact HS5.out _ _ _ _ (HB9.out.step (below_al w9 _)) | exact HS5.out _ _ _ _ ((HB9.out.step (below_al w9 _))).drew), .inr trivial⟩ (fun hT => ?_)
    clear hK K
    (try simp only [Act.put, List.setIfInBounds_toArray, List.set_cons_zero, List.set_cons_succ])
    refine wpAnyG_ready (rs := [12]) (by kernel_rfl) (by simp) ?_
    refine AllG.cons (i := 12) rfl (fun K hK => ?_) AllG.nil
    go_simp
    go_at_call 94
    (with_reducible refine (rep_0 _ _).mono ?_)
    rintro e wa ⟨rfl, hb⟩
    have hbw : Below w9.heap.size w9 wa := (by first | exact hb | exact (below_al w9 _).trans (hb.mono (below_al w9 _).size))
    have HB8a := Lib.hid (HB89.out.trans (hbw.mono HB89.out.size))
    have HBa := Lib.hid (HB9.out.step hbw)
    have HRE := Lib.hid (HRD.out.below hbw)
    clear hbw hb
    have bz := HBa.out.blk (g := t) (t := 69) (List.mem_cons_self ..)
    obtain ⟨z0, z1, z2, y0, y1, y2⟩ := bz.three
    refine hK.out _ _ ⟨(by first | exact HS5.out _ _ _ _ HBa.out | exact HS5.out _ _ _ _ (HBa.out).drew), .inr trivial⟩ (fun hT => ?_)
    clear hK K
    (try simp only [Act.put, List.setIfInBounds_toArray, List.set_cons_zero, List.set_cons_succ])
    refine wpAnyG_ready (rs := [13]) (by kernel_rfl) (by simp) ?_
    refine AllG.cons (i := 13) rfl (fun K hK => ?_) AllG.nil
    refine step_app0 rfl (.tmp 34) (.tmp 43) rfl rfl (some ⟨g, 0, none⟩) _ n c' 0 rfl rfl hcp ?_
    refine hK.out _ _ ⟨(by first | exact HS5.out _ _ _ _ HBa.out | exact HS5.out _ _ _ _ (HBa.out).drew), .inr trivial⟩ (fun hT => ?_)
    clear hK K
    (try simp only [Act.put, List.setIfInBounds_toArray, List.set_cons_zero, List.set_cons_succ])
    refine wpAnyG_take1d (i := 14) (v := ?_) rfl rfl (by kernel_rfl) (by kernel_rfl) (by kernel_rfl) (by kernel_rfl) (fun _ _ _ h => h) (Or.inl ⟨by rfl, ?_⟩) (by assumption) (fun hT => ?_)
    rotate_left
    · intro w hSw
      (try dsimp only at hSw)
      go_simp
      (try with_reducible rfl)
    (try simp only [Act.put, List.setIfInBounds_toArray, List.set_cons_zero, List.set_cons_succ])
    refine wpAnyG_ready (rs := [15]) (by kernel_rfl) (by simp) ?_
    refine AllG.cons (i := 15) rfl (fun K hK => ?_) AllG.nil
    go_simp
    refine hK.out _ _ ⟨HS5.out _ _ _ _ (HSET.out _ _ _ _ HBa.out), .inl rfl⟩ (fun hT => ?_)
    clear hK K
    (try simp only [Act.put, List.setIfInBounds_toArray, List.set_cons_zero, List.set_cons_succ])
    refine wpAnyG_done (by kernel_rfl) ?_ _
    clear z0 z1 z2 y0 y1 y2
    have hbl := HSET.out _ (.int .i64 (R : Int)) (.int .i64 (k : Int)) (.slice (some ⟨g, 0, none⟩) n c') HBa.out
    obtain ⟨q0, q1, q2, -⟩ := (hbl.blk (g := t) (t := 69) (List.mem_cons_self ..)).three
    have hgw := HGW.out
    have htw := (HB8.out.lt (g := t) (t := 69) (List.mem_cons_self ..))
    have hcx : Chg wa.heap.size [t] wa (((wa.setCell ⟨t, 0, none⟩ (.int .i64 (R : Int))).setCell ⟨t, 1, none⟩ (.int .i64 (k : Int))).setCell ⟨t, 2, none⟩ (.slice (some ⟨g, 0, none⟩) n c')) := (((Chg.refl wa.heap.size [t] wa).set (p := ⟨t, 0, none⟩) (.inl (List.mem_singleton.2 rfl)) _).set (p := ⟨t, 1, none⟩) (.inl (List.mem_singleton.2 rfl)) _).set (p := ⟨t, 2, none⟩) (.inl (List.mem_singleton.2 rfl)) _
    clear hbl
    go_upto_region 99 with fail
    refine bodyPost_ret (v := gV R k (some ⟨g, 0, none⟩) n c') (by simp [results, Tryz.results56, go_sem, q0, q1, q2]) rfl ⟨g, c', rfl, reads_same HRE.out hcx.size (hcx.block g (reads_pos HRE.out hp) (by rw [List.mem_singleton]; omega)), by have := HH.out; omega, ?_⟩
    have hb9 := HB8a.out
    exact HC8.out.trans ((Chg.of hb9 [q]).mono HC8.out.size (fun x hx => .inl hx) |>.trans (hcx.mono (Nat.le_trans HC8.out.size hb9.size) fun x hx => .inr (by rw [List.mem_singleton.1 hx, HH.out]; exact Nat.le_refl _)))
  · go_simp
    refine hK.out _ _ ⟨(by first | exact HS5.out _ _ _ _ (HB8.out.step (below_al w8 _)) | exact HS5.out _ _ _ _ ((HB8.out.step (below_al w8 _))).drew), .inr trivial⟩ (fun hT => ?_)
    clear hK K
    (try simp only [Act.put, List.setIfInBounds_toArray, List.set_cons_zero, List.set_cons_succ])
    refine wpAnyG_ready (rs := [3]) (by kernel_rfl) (by simp) ?_
    refine AllG.cons (i := 3) rfl (fun K hK => ?_) AllG.nil
    go_simp
    go_at_call 93
    (with_reducible refine (HCN.out _ (by first | exact HB8.out.drew.bel | exact HB8.out.bel | exact (HB8.out.step (below_al w8 _)).bel | exact (HB8.out.step (below_al w8 _)).drew.bel)).mono ?_)
    rintro e w9 ⟨g, c', rfl, hr, hg, hb⟩
    have hbw : Below w8.heap.size w8 w9 := (by first | exact hb | exact (Below.refl _ w8).drew.trans hb | exact (below_al w8 _).trans (hb.mono (below_al w8 _).size) | exact (below_al w8 _).drew.trans (hb.mono (below_al w8 _).size))
    have HB9 := Lib.hid (HB8.out.step hbw)
    have HB89 := Lib.hid hbw
    have HRD := Lib.hid hr
    have HGW := Lib.hid (show w8.heap.size ≤ g from by first | exact hg | exact Nat.le_trans (below_al w8 _).size hg)
    have hcp := reads_cap hr
    clear hbw hr hg hb
    refine hK.out _ _ ⟨(by first | exact HS5.out _ _ _ _ HB9.out | exact HS5.out _ _ _ _ (HB9.out).drew), .inr trivial⟩ (fun hT => ?_)
    clear hK K
    (try simp only [Act.put, List.setIfInBounds_toArray, List.set_cons_zero, List.set_cons_succ])
    refine wpAnyG_ready (rs := [12]) (by kernel_rfl) (by simp) ?_
    refine AllG.cons (i := 12) rfl (fun K hK => ?_) AllG.nil
    go_simp
    go_at_call 94
    (with_reducible refine (rep_0 _ _).mono ?_)
    rintro e wa ⟨rfl, hb⟩
    have hbw : Below w9.heap.size w9 wa := hb
    have HB8a := Lib.hid (HB89.out.trans (hbw.mono HB89.out.size))
    have HBa := Lib.hid (HB9.out.step hbw)
    have HRE := Lib.hid (HRD.out.below hbw)
    clear hbw hb
    have bz := HBa.out.blk (g := t) (t := 69) (List.mem_cons_self ..)
    obtain ⟨z0, z1, z2, y0, y1, y2⟩ := bz.three
    refine hK.out _ _ ⟨(by first | exact HS5.out _ _ _ _ HBa.out | exact HS5.out _ _ _ _ (HBa.out).drew), .inr trivial⟩ (fun hT => ?_)
    clear hK K
    (try simp only [Act.put, List.setIfInBounds_toArray, List.set_cons_zero, List.set_cons_succ])
    refine wpAnyG_ready (rs := [13]) (by kernel_rfl) (by simp) ?_
    refine AllG.cons (i := 13) rfl (fun K hK => ?_) AllG.nil
    refine step_app0 rfl (.tmp 34) (.tmp 43) rfl rfl (some ⟨g, 0, none⟩) _ n c' 0 rfl rfl hcp ?_
    refine hK.out _ _ ⟨(by first | exact HS5.out _ _ _ _ HBa.out | exact HS5.out _ _ _ _ (HBa.out).drew), .inr trivial⟩ (fun hT => ?_)
    clear hK K
    (try simp only [Act.put, List.setIfInBounds_toArray, List.set_cons_zero, List.set_cons_succ])
    refine wpAnyG_take1d (i := 14) (v := ?_) rfl rfl (by kernel_rfl) (by kernel_rfl) (by kernel_rfl) (by kernel_rfl) (fun _ _ _ h => h) (Or.inl ⟨by rfl, ?_⟩) (by assumption) (fun hT => ?_)
    rotate_left
    · intro w hSw
      (try dsimp only at hSw)
      go_simp
      (try with_reducible rfl)
    (try simp only [Act.put, List.setIfInBounds_toArray, List.set_cons_zero, List.set_cons_succ])
    refine wpAnyG_ready (rs := [15]) (by kernel_rfl) (by simp) ?_
    refine AllG.cons (i := 15) rfl (fun K hK => ?_) AllG.nil
    go_simp
    refine hK.out _ _ ⟨HS5.out _ _ _ _ (HSET.out _ _ _ _ HBa.out), .inl rfl⟩ (fun hT => ?_)
    clear hK K
    (try simp only [Act.put, List.setIfInBounds_toArray, List.set_cons_zero, List.set_cons_succ])
    refine wpAnyG_done (by kernel_rfl) ?_ _
    clear z0 z1 z2 y0 y1 y2
    have hbl := HSET.out _ (.int .i64 (R : Int)) (.int .i64 (k : Int)) (.slice (some ⟨g, 0, none⟩) n c') HBa.out
    obtain ⟨q0, q1, q2, -⟩ := (hbl.blk (g := t) (t := 69) (List.mem_cons_self ..)).three
    have hgw := HGW.out
    have htw := (HB8.out.lt (g := t) (t := 69) (List.mem_cons_self ..))
    have hcx : Chg wa.heap.size [t] wa (((wa.setCell ⟨t, 0, none⟩ (.int .i64 (R : Int))).setCell ⟨t, 1, none⟩ (.int .i64 (k : Int))).setCell ⟨t, 2, none⟩ (.slice (some ⟨g, 0, none⟩) n c')) := (((Chg.refl wa.heap.size [t] wa).set (p := ⟨t, 0, none⟩) (.inl (List.mem_singleton.2 rfl)) _).set (p := ⟨t, 1, none⟩) (.inl (List.mem_singleton.2 rfl)) _).set (p := ⟨t, 2, none⟩) (.inl (List.mem_singleton.2 rfl)) _
    clear hbl
    go_upto_region 99 with fail
    refine bodyPost_ret (v := gV R k (some ⟨g, 0, none⟩) n c') (by simp [results, Tryz.results56, go_sem, q0, q1, q2]) rfl ⟨g, c', rfl, reads_same HRE.out hcx.size (hcx.block g (reads_pos HRE.out hp) (by rw [List.mem_singleton]; omega)), by have := HH.out; omega, ?_⟩
    have hb9 := HB8a.out
    exact HC8.out.trans ((Chg.of hb9 [q]).mono HC8.out.size (fun x hx => .inl hx) |>.trans (hcx.mono (Nat.le_trans HC8.out.size hb9.size) fun x hx => .inr (by rw [List.mem_singleton.1 hx, HH.out]; exact Nat.le_refl _)))
end Go.Proofs.YtllhefjblipddaaGreatDoor

namespace Go.Proofs.YtllhefjblipddaaGreatDoor
open Go.RowKit

set_option maxRecDepth 100000 in
set_option maxHeartbeats 8000000 in
/-- WRAPROWS. -/
theorem fWr_any (B0 W0 W : World) (q : Nat) (A : Option Addr) (c : Nat) (u : Vl) (n R k : Nat) (us : List Vl) (he : VEnv W0) (h0 : Below W0.heap.size W0 W) (hq0 : W0.heap.size ≤ q) (hq : Blk W q 90 #[.slice A 2 c, .int .i64 0]) (hA : Reads 9 csV W0 (.slice A 2 c) [u, nV k]) (hu : AR W0 u 1 n us) (hn : n = R * k) (r1 : 1 ≤ R) (r2 : R ≤ 100) (k1 : 1 ≤ k) (k2 : k ≤ 100) (hn2 : n ≤ 1000) :
    Calls Tryz.prog 55 #[.pointer (some ⟨q, 0, none⟩)] W (ResF B0 W [q] R k us) := by
  obtain ⟨A2, n', cc2, rfl, hn', hr⟩ := hu.ex
  have hp : 0 < n := by rw [hn]; exact Nat.mul_pos r1 k1
  obtain rfl : n' = n := by omega
  obtain ⟨b2, o2, rfl⟩ : ∃ b o, A2 = some ⟨b, o, none⟩ := by
    obtain ⟨A', c', e, -, -, h3⟩ := hr
    injection e with e1 e2 e3
    obtain ⟨b, o, e4, -⟩ := h3 (by omega)
    exact ⟨b, o, e1.trans e4⟩
  obtain ⟨n, hnn⟩ : ∃ n, n = n' := ⟨_, rfl⟩
  subst hnn
  have HW := Lib.hid (wrap_a W0 (W.alloc (.cells #[.int .i64 0, .string ⟨#[]⟩, .string ⟨#[]⟩, .string ⟨#[]⟩, .bool false, .int .i64 0, .int .i64 0, .int .i64 0, .slice none 0 0] 27)) q A c b2 o2 n cc2 R k us he (h0.trans ((below_al W _).mono h0.size)) hq0 (hq.alloc _) hA hr hn r1 r2 k1 k2 hn2)
  have HGV := Lib.hid fun A' c' W' => gval_a (R : Int) (k : Int) A' n c' W' (by omega) (by omega) (by omega) (by omega)
  obtain ⟨t, ht⟩ : ∃ t, t = W.heap.size := ⟨_, rfl⟩
  have HRz := Lib.hid (Blk.new W 27 #[.int .i64 0, .string ⟨#[]⟩, .string ⟨#[]⟩, .string ⟨#[]⟩, .bool false, .int .i64 0, .int .i64 0, .int .i64 0, .slice none 0 0])
  rw [← ht] at HRz
  have hqt : q < t := by have := hq.lt; omega
  have HH := Lib.hid ht
  have HNN := Lib.hid hn
  clear hr h0 hq hA hu hn hn' he
  go_enter Tryz.func55, Tryz.ntmps55
  go_upto_region 1 with fail
  rw [← ht]
  clear ht
  go_upto_region 99 with (first
    | (go_at_call 56; (with_reducible refine HW.out.mono ?_); rintro e w1 ⟨g, c', rfl, hr, hg, hc⟩; have HRD := Lib.hid hr; have HGE := Lib.hid (show t < g from by have := HH.out; simp at hg; omega); have HC1 := Lib.hid ((Chg.of (below_al W (.cells #[.int .i64 0, .string ⟨#[]⟩, .string ⟨#[]⟩, .string ⟨#[]⟩, .bool false, .int .i64 0, .int .i64 0, .int .i64 0, .slice none 0 0] 27)) [q]).next hc); have HRa := Lib.hid (hc.blk HRz.out HRz.out.lt (by rw [List.mem_singleton]; omega)); clear hr hg hc HRz)
    | (go_at_call 43; (with_reducible refine (HGV.out _ _ _).mono ?_); rintro e w4 ⟨rfl, hb⟩; have HRD4 := Lib.hid (HRD.out.below hb); have HC4 := Lib.hid (HC1.out.next (Chg.of hb [q])); have HRd := Lib.hid (HRa.out.later hb); clear hb HRa HRD HC1; obtain ⟨f0, f1, f2, f3, f4, f5, f6, f7, f8⟩ := HRd.out.ninef; obtain ⟨z0, z1, z2, z3, z4, z5, z6, z7, z8⟩ := HRd.out.nine))
  clear f0 f1 f2 f3 f4 f5 f6 f7 f8 z0 z1 z2 z3 z4 z5 z6 z7 z8
  obtain ⟨q0, q1, q2, q3, q4, q5, q6, q7, q8⟩ := (HRd.out.nine_set (.int .i64 5) (.string ⟨#[]⟩) (.string ⟨#[]⟩) (.string ⟨#[]⟩) (.bool false) (.int .i64 0) (.int .i64 (R : Int)) (.int .i64 (k : Int)) (.slice (some ⟨g, 0, none⟩) n c')).1.nine
  have hcn := chg_nine w4 t (.int .i64 5) (.string ⟨#[]⟩) (.string ⟨#[]⟩) (.string ⟨#[]⟩) (.bool false) (.int .i64 0) (.int .i64 (R : Int)) (.int .i64 (k : Int)) (.slice (some ⟨g, 0, none⟩) n c')
  have hge := HGE.out
  have hh := HH.out
  refine bodyPost_ret (v := aV (R : Int) (k : Int) (some ⟨g, 0, none⟩) n c') (by simp [results, Tryz.results55, go_sem, q0, q1, q2, q3, q4, q5, q6, q7, q8]) rfl ⟨arrU R k (some ⟨g, 0, none⟩) n c', rfl, ⟨⟨_, n, c', rfl, HNN.out, reads_same HRD4.out hcn.size (hcn.block g (reads_pos HRD4.out hp) (by rw [List.mem_singleton]; omega))⟩, by omega, by omega, by omega, by omega, by rw [← HNN.out]; omega⟩, fun b o e => .inr (by injection e with e; injection e with e; omega), HC4.out.trans (hcn.mono HC4.out.size fun x hx => .inr (by
    rw [List.mem_singleton.1 hx, HH.out]
    exact Nat.le_refl _))⟩
end Go.Proofs.YtllhefjblipddaaGreatDoor

namespace Go.Proofs.YtllhefjblipddaaGreatDoor
open Go.RowKit

/-- Items: valid values without items of their own. -/
def GoodI (us : List Vl) : Prop := ∀ u ∈ us, u.ok ∧ u.sz ∧ u.n = 0
theorem nV_good (k : Nat) (hk : k ≤ 1000) : (nV k).ok ∧ (nV k).sz ∧ (nV k).n = 0 := ⟨nV_ok k (by omega), ⟨by have := nt_size k (by omega); show (nt k).size ≤ _; omega, by show (⟨#[49]⟩ : ByteArray).size ≤ _; decide, by show (⟨#[]⟩ : ByteArray).size ≤ _; decide⟩, rfl⟩
theorem turnL_mem (R C : Nat) (us : List Vl) (hl : us.length = R * C) : ∀ u ∈ turnL R C us, u ∈ us := fun u hu => by
  unfold turnL at hu
  obtain ⟨j, hj, rfl⟩ := List.mem_map.1 hu
  have hj := List.mem_range.1 hj
  have hR : 0 < R := by
    rcases Nat.eq_zero_or_pos R with h | h
    · rw [h] at hj
      omega
    · exact h
  have h1 : j / R < C := (Nat.div_lt_iff_lt_mul hR).2 hj
  have h2 : j % R < R := Nat.mod_lt _ hR
  have h3 := Nat.mul_le_mul_right C (show j % R + 1 ≤ R from h2)
  rw [Nat.add_mul, Nat.one_mul] at h3
  rw [getElem!_pos _ _ (by rw [hl]; omega)]
  exact List.getElem_mem _
theorem rowsL_mem (C f m : Nat) (us : List Vl) : ∀ u ∈ rowsL C f m us, u ∈ us := fun u hu => List.mem_of_mem_drop (List.mem_of_mem_take hu)
theorem GoodI.turn {us : List Vl} (h : GoodI us) (R C : Nat) (hl : us.length = R * C) : GoodI (turnL R C us) := fun u hu => h u (turnL_mem R C us hl u hu)
theorem GoodI.rows {us : List Vl} (h : GoodI us) (C f m : Nat) : GoodI (rowsL C f m us) := fun u hu => h u (rowsL_mem C f m us u hu)
theorem GoodI.cat {gx : Nat → List Vl} : ∀ N, (∀ i, i < N → GoodI (gx i)) → GoodI (catX gx N)
  | 0, _ => fun u hu => by cases hu
  | N + 1, h => fun u hu => by
    rcases List.mem_append.1 (show u ∈ catX gx N ++ gx N from hu) with hu | hu
    · exact GoodI.cat N (fun i hi => h i (by omega)) u hu
    · exact h N (by omega) u hu
theorem check_ar (W : World) (u : Vl) (R C : Nat) (us : List Vl) (he : VEnv W) (hu : AR W u R C us) (hg : GoodI us) : Calls Tryz.prog 71 #[u.v] W fun e w' => e = .returned (.int .i64 0) ∧ Below W.heap.size W w' := by
  have hl := hu.len
  have hb := hu.big
  have h1 := hu.r1
  have h2 := hu.r2
  have h3 := hu.c1
  have h4 := hu.c2
  obtain ⟨A, n, c, rfl, hn, hr⟩ := hu.ex
  refine check_ok (arrU R C A n c) W he us rfl (by simp [arrU, Vl.zB, Lib.toList_data, frSame]) ⟨by rw [hl, ← hn], fun u hu => (hg u hu).2.1, fun u hu => (hg u hu).1, ?_, ?_, ?_, ?_, ?_, ?_⟩ hr
  · show (1 : Int) ≤ (R : Int); omega
  · show (R : Int) ≤ 100000; omega
  · show (1 : Int) ≤ (C : Int); omega
  · show (C : Int) ≤ 100000; omega
  · show (R : Int) * (C : Int) ≤ 100000
    rw [← Int.natCast_mul]
    omega
  · show (us.length : Int) = (R : Int) * (C : Int)
    rw [hl, Int.natCast_mul]
theorem check_nv (W : World) (k : Nat) (he : VEnv W) (hk : k ≤ 1000) : Calls Tryz.prog 71 #[(nV k).v] W fun e w' => e = .returned (.int .i64 0) ∧ Below W.heap.size W w' :=
  check_t' (nV k) W he (nV_good k hk).1 (nV_good k hk).2.1.s1 (nV_good k hk).2.1.s2 (nV_good k hk).2.1.s3
set_option maxRecDepth 100000 in
set_option maxHeartbeats 1000000 in
theorem valid_ar (w : World) (u : Vl) (R C : Nat) (us : List Vl) (he : VEnv w) (hu : AR w u R C us) (hg : GoodI us) :
    Calls Tryz.prog 23 #[u.v] w fun e w' => e = .returned u.v ∧ Below w.heap.size w w' := by
  have HC := Lib.hid fun W (hW : Below w.heap.size w W) => check_ar W u R C us (he.below hW) (hu.below hW) hg
  obtain ⟨A, n, c, rfl, hn, -⟩ := hu.ex
  clear he hg hu hn
  show Calls Tryz.prog 23 #[.agg #[.int .i64 5, .string ⟨#[]⟩, .string ⟨#[]⟩, .string ⟨#[]⟩, .bool false, .int .i64 0, .int .i64 (R : Int), .int .i64 (C : Int), .slice A n c]] w fun e w' => e = .returned (.agg #[.int .i64 5, .string ⟨#[]⟩, .string ⟨#[]⟩, .string ⟨#[]⟩, .bool false, .int .i64 0, .int .i64 (R : Int), .int .i64 (C : Int), .slice A n c]) ∧ Below w.heap.size w w'
  have HC := Lib.hid (show ∀ W, Below w.heap.size w W → Calls Tryz.prog 71 #[.agg #[.int .i64 5, .string ⟨#[]⟩, .string ⟨#[]⟩, .string ⟨#[]⟩, .bool false, .int .i64 0, .int .i64 (R : Int), .int .i64 (C : Int), .slice A n c]] W fun e w' => e = .returned (.int .i64 0) ∧ Below W.heap.size W w' from HC.out)
  have HL0 := Lib.hid (((Loc.start w).alloc' rfl 27 #[.int .i64 5, .string ⟨#[]⟩, .string ⟨#[]⟩, .string ⟨#[]⟩, .bool false, .int .i64 0, .int .i64 (R : Int), .int .i64 (C : Int), .slice A n c]).alloc' (g := w.heap.size + 1) (by simp) 27 #[.int .i64 0, .string ⟨#[]⟩, .string ⟨#[]⟩, .string ⟨#[]⟩, .bool false, .int .i64 0, .int .i64 0, .int .i64 0, .slice none 0 0])
  go_enter Tryz.func23, Tryz.ntmps23
  go_upto_region 3 with (go_at_call 71; (with_reducible refine (HC.out _ HL0.out.bel).mono ?_); rintro e w1 ⟨rfl, hb⟩; have HL1 := Lib.hid (HL0.out.step hb); clear hb)
  obtain ⟨x0, x1, x2, x3, x4, x5, x6, x7, x8⟩ := (HL1.out.blk (g := w.heap.size) (t := 27) (cs := #[.int .i64 5, .string ⟨#[]⟩, .string ⟨#[]⟩, .string ⟨#[]⟩, .bool false, .int .i64 0, .int .i64 (R : Int), .int .i64 (C : Int), .slice A n c]) (by simp)).nine
  have bz := HL1.out.blk (g := w.heap.size + 1) (t := 27) (cs := #[.int .i64 0, .string ⟨#[]⟩, .string ⟨#[]⟩, .string ⟨#[]⟩, .bool false, .int .i64 0, .int .i64 0, .int .i64 0, .slice none 0 0]) (by simp)
  obtain ⟨z0, z1, z2, z3, z4, z5, z6, z7, z8⟩ := bz.nine
  obtain ⟨f0, f1, f2, f3, f4, f5, f6, f7, f8⟩ := bz.ninef
  have BS := Lib.hid (bz.nine_set (.int .i64 5) (.string ⟨#[]⟩) (.string ⟨#[]⟩) (.string ⟨#[]⟩) (.bool false) (.int .i64 0) (.int .i64 (R : Int)) (.int .i64 (C : Int)) (.slice A n c)).1
  clear bz
  go_wp2_with fail
  obtain ⟨q0, q1, q2, q3, q4, q5, q6, q7, q8⟩ := BS.out.nine
  refine bodyPost_ret (v := .agg #[.int .i64 5, .string ⟨#[]⟩, .string ⟨#[]⟩, .string ⟨#[]⟩, .bool false, .int .i64 0, .int .i64 (R : Int), .int .i64 (C : Int), .slice A n c]) (by simp [results, Tryz.results23, go_sem, q0, q1, q2, q3, q4, q5, q6, q7, q8]) rfl ⟨rfl, ?_⟩
  exact below_nine HL1.out.bel (by omega) _ _ _ _ _ _ _ _ _
theorem let_a0 (W : World) : Calls Tryz.prog 73 #[.string ⟨#[97]⟩, .int .i64 0] W fun e w' => e = .returned (.int .u8 97) ∧ W = w' := by
  go_enter Tryz.func73, Tryz.ntmps73
  go_wp2_with fail
  go_ret
  exact ⟨rfl, rfl⟩
theorem let_a1 (W : World) : Calls Tryz.prog 73 #[.string ⟨#[97]⟩, .int .i64 1] W fun e w' => e = .returned (.int .u8 97) ∧ W = w' := by
  go_enter Tryz.func73, Tryz.ntmps73
  go_wp2_with fail
  go_ret
  exact ⟨rfl, rfl⟩
theorem let_s0 (W : World) : Calls Tryz.prog 73 #[.string ⟨#[97, 115, 115]⟩, .int .i64 0] W fun e w' => e = .returned (.int .u8 97) ∧ W = w' := by
  go_enter Tryz.func73, Tryz.ntmps73
  go_wp2_with fail
  go_ret
  exact ⟨rfl, rfl⟩
theorem let_s1 (W : World) : Calls Tryz.prog 73 #[.string ⟨#[97, 115, 115]⟩, .int .i64 1] W fun e w' => e = .returned (.int .u8 115) ∧ W = w' := by
  go_enter Tryz.func73, Tryz.ntmps73
  go_wp2_with fail
  go_ret
  exact ⟨rfl, rfl⟩
end Go.Proofs.YtllhefjblipddaaGreatDoor

namespace Go.Proofs.YtllhefjblipddaaGreatDoor
open Go.RowKit

theorem look_g (W : World) (name : ByteArray) (y : EY) (hf : (tabL.find? fun y => sameT y.1 name) = some y) (A : Option Addr) (n c R C : Nat) (avs us : List Vl) (he : VEnv W) (hA : Reads 9 csV W (.slice A n c) avs) (hn1 : 1 ≤ n) (hn2 : n ≤ 2) (h1 : y.2.1 ≤ (n : Int)) (h2 : (n : Int) ≤ y.2.2.1) (hk0 : y.2.2.2.1.toList.isEmpty = false)
    (hTR : ∀ W', Calls Tryz.prog 72 #[.string y.2.2.2.1, .string ⟨#[115, 97]⟩] W' fun e w' => e = .returned (.string ⟨#[]⟩) ∧ Below W'.heap.size W' w')
    (hLT : ∀ i, i < n → ∃ l : Int, (∀ W', Calls Tryz.prog 73 #[.string y.2.2.2.1, .int .i64 (i : Int)] W' fun e w' => e = .returned (.int .u8 l) ∧ W' = w') ∧ (l = 115 → ¬ avs[i]!.k = 5))
    (hCK : ∀ i, i < n → ∀ W', Below W.heap.size W W' → Calls Tryz.prog 71 #[avs[i]!.v] W' fun e w' => e = .returned (.int .i64 0) ∧ Below W'.heap.size W' w') (hg : GoodI us)
    (hE : ∀ (B0 W1 W' : World) (p : Nat) (A1 : Option Addr) (c1 : Nat), Blk W' p 65 #[.func (.func y.2.2.2.2) #[] #[]] → B0.heap.size ≤ W1.heap.size → Below W1.heap.size W1 W' → (∀ W'' q, Below W1.heap.size W1 W'' → W1.heap.size ≤ q → Blk W'' q 90 #[.slice A1 n c1, .int .i64 0] → Calls Tryz.prog y.2.2.2.2 #[.pointer (some ⟨q, 0, none⟩)] W'' (ResF B0 W'' [q] R C us)) → Calls Tryz.prog 75 #[.slice A1 n c1, .pointer (some ⟨p, 0, none⟩)] W' (ResF B0 W' [] R C us))
    (hF : ∀ (B0 W0 W'' : World) (q : Nat) (A1 : Option Addr) (c1 : Nat), Below W.heap.size W B0 → Below B0.heap.size B0 W0 → Below W0.heap.size W0 W'' → W0.heap.size ≤ q → Blk W'' q 90 #[.slice A1 n c1, .int .i64 0] → Reads 9 csV W0 (.slice A1 n c1) avs → Calls Tryz.prog y.2.2.2.2 #[.pointer (some ⟨q, 0, none⟩)] W'' (ResF B0 W'' [q] R C us)) :
    Calls Tryz.prog 7 #[.string name, .slice A n c] W fun e w' => ∃ u', e = .returned u'.v ∧ AR w' u' R C us ∧ (∀ b o, u'.A = some ⟨b, o, none⟩ → W.heap.size ≤ b) ∧ Below W.heap.size W w' :=
  look_fk W name y hf A n c R C us h1 h2 fun W' x p hW hx hp =>
    lift_any W' y.2.2.2.1 A n c x R C avs us (hA.below hW) hn1 (by omega) hk0 hTR hLT (fun i hi W2 hb => hCK i hi W2 (hW.trans (hb.mono hW.size)))
      (fun W1 A1 c1 hW1 hA1 => run1_any W' W1 x p y.2.1 y.2.2.1 y.2.2.2.1 A1 n c1 R C us (hx.later hW1) hW1.size fun W2 hW2 => hE W' W1 W2 p A1 c1 ((hp.later hW1).later hW2) hW1.size hW2 fun W3 q h3 hq hb => hF W' W1 W3 q A1 c1 hW hW1 h3 hq hb hA1)
      (fun u W2 hb hu => valid_ar W2 u R C us (he.below (hW.trans (hb.mono hW.size))) hu hg) (fun u hu => (hg u hu).2.2)
theorem let_a (n : Nat) (hn : n ≤ 2) (avs : List Vl) : ∀ i : Nat, i < n → ∃ l : Int, (∀ W', Calls Tryz.prog 73 #[.string ⟨#[97]⟩, .int .i64 (i : Int)] W' fun e w' => e = .returned (.int .u8 l) ∧ W' = w') ∧ (l = 115 → ¬ avs[i]!.k = 5) := fun i hi => by
  refine ⟨97, fun W' => ?_, fun h => absurd h (by decide)⟩
  obtain rfl | rfl : i = 0 ∨ i = 1 := by omega
  · exact let_a0 W'
  · exact let_a1 W'
theorem let_s (u : Vl) (k : Nat) : ∀ i : Nat, i < 2 → ∃ l : Int, (∀ W', Calls Tryz.prog 73 #[.string ⟨#[97, 115, 115]⟩, .int .i64 (i : Int)] W' fun e w' => e = .returned (.int .u8 l) ∧ W' = w') ∧ (l = 115 → ¬ [u, nV k][i]!.k = 5) := fun i hi => by
  obtain rfl | rfl : i = 0 ∨ i = 1 := by omega
  · exact ⟨97, fun W' => let_s0 W', fun h => absurd h (by decide)⟩
  · exact ⟨115, fun W' => let_s1 W', fun _ => (by decide : ¬ (1 : Int) = 5)⟩
theorem ar_lt {W : World} {u : Vl} {R C : Nat} {us : List Vl} (h : AR W u R C us) : ∀ b o, u.A = some ⟨b, o, none⟩ → b < W.heap.size := fun b o e => by
  have h1 := h.r1
  have h2 := h.c1
  obtain ⟨A, n, c, rfl, hn, hr⟩ := h.ex
  have e : A = some ⟨b, o, none⟩ := e
  subst e
  exact reads_pos hr (by rw [hn]; exact Nat.mul_pos h1 h2)
theorem reads_at {W : World} {A : Option Addr} {n c : Nat} {l : List Vl} (h : Reads 9 csV W (.slice A n c) l) : l.length = n := by
  obtain ⟨A', c', e, -⟩ := h
  injection e with e1 e2 e3
  exact e2.symm

theorem look_T (W : World) (u : Vl) (A : Option Addr) (c R C : Nat) (us : List Vl) (he : VEnv W) (hA : Reads 9 csV W (.slice A 1 c) [u]) (hu : AR W u R C us) (hg : GoodI us) (hR : R ≤ 100) :
    Calls Tryz.prog 7 #[.string ⟨#[84, 82, 65, 78, 83, 80, 79, 83, 69]⟩, .slice A 1 c] W fun e w' => ∃ u', e = .returned u'.v ∧ AR w' u' C R (turnL R C us) ∧ (∀ b o, u'.A = some ⟨b, o, none⟩ → W.heap.size ≤ b) ∧ Below W.heap.size W w' :=
  look_g W ⟨#[84, 82, 65, 78, 83, 80, 79, 83, 69]⟩ (⟨#[84, 82, 65, 78, 83, 80, 79, 83, 69]⟩, 1, 1, ⟨#[97]⟩, 41) (by decide +kernel) A 1 c C R [u] (turnL R C us) he hA (by decide) (by decide) (by decide) (by decide) (by decide +kernel) (fun W' => trim_sa ⟨#[97]⟩ (by decide +kernel) (by decide +kernel) W') (let_a 1 (by decide) _)
    (fun i hi W' hW => by
      obtain rfl : i = 0 := by omega
      exact check_ar W' u _ _ _ (he.below hW) (hu.below hW) hg) (hg.turn R C hu.len)
    (fun B0 W1 W' p A1 c1 h1 h2 h3 h4 => ent_T B0 W1 W' p A1 c1 1 C R _ h1 h2 h3 h4)
    (fun B0 W0 W'' q A1 c1 hB h0 hw hq hb hA' => fT_any B0 W0 W'' q A1 c1 u R C us hw hq hb hA' (hu.below (below_tr hB h0)) hR)

theorem look_Ta (W : World) (u : Vl) (A : Option Addr) (c R C k : Nat) (us : List Vl) (he : VEnv W) (hA : Reads 9 csV W (.slice A 2 c) [u, nV k]) (hu : AR W u R C us) (hg : GoodI us) (hR : R ≤ 100) (k1 : 0 < k) (k2 : k ≤ R) :
    Calls Tryz.prog 7 #[.string ⟨#[84, 65, 75, 69]⟩, .slice A 2 c] W fun e w' => ∃ u', e = .returned u'.v ∧ AR w' u' k C (rowsL C 0 k us) ∧ (∀ b o, u'.A = some ⟨b, o, none⟩ → W.heap.size ≤ b) ∧ Below W.heap.size W w' :=
  look_g W ⟨#[84, 65, 75, 69]⟩ (⟨#[84, 65, 75, 69]⟩, 2, 3, ⟨#[97, 115, 115]⟩, 44) (by decide +kernel) A 2 c k C [u, nV k] (rowsL C 0 k us) he hA (by decide) (by decide) (by decide) (by decide) (by decide +kernel) (fun W' => trim_sa ⟨#[97, 115, 115]⟩ (by decide +kernel) (by decide +kernel) W') (let_s u k)
    (fun i hi W' hW => by
      obtain rfl | rfl : i = 0 ∨ i = 1 := by omega
      · exact check_ar W' u _ _ _ (he.below hW) (hu.below hW) hg
      · exact check_nv W' k (he.below hW) (by omega)) (hg.rows C 0 k)
    (fun B0 W1 W' p A1 c1 h1 h2 h3 h4 => ent_Ta B0 W1 W' p A1 c1 2 k C _ h1 h2 h3 h4)
    (fun B0 W0 W'' q A1 c1 hB h0 hw hq hb hA' => fTa_any B0 W0 W'' q A1 c1 u R C k 0 k us (he.below (below_tr hB h0)) hw hq hb hA' (hu.below (below_tr hB h0)) hR ⟨k1, k2, rfl, rfl⟩)

theorem look_Dr (W : World) (u : Vl) (A : Option Addr) (c R C k : Nat) (us : List Vl) (he : VEnv W) (hA : Reads 9 csV W (.slice A 2 c) [u, nV k]) (hu : AR W u R C us) (hg : GoodI us) (hR : R ≤ 100) (k1 : 0 < k) (k2 : k < R) :
    Calls Tryz.prog 7 #[.string ⟨#[68, 82, 79, 80]⟩, .slice A 2 c] W fun e w' => ∃ u', e = .returned u'.v ∧ AR w' u' (R - k) C (rowsL C k (R - k) us) ∧ (∀ b o, u'.A = some ⟨b, o, none⟩ → W.heap.size ≤ b) ∧ Below W.heap.size W w' :=
  look_g W ⟨#[68, 82, 79, 80]⟩ (⟨#[68, 82, 79, 80]⟩, 2, 3, ⟨#[97, 115, 115]⟩, 46) (by decide +kernel) A 2 c (R - k) C [u, nV k] (rowsL C k (R - k) us) he hA (by decide) (by decide) (by decide) (by decide) (by decide +kernel) (fun W' => trim_sa ⟨#[97, 115, 115]⟩ (by decide +kernel) (by decide +kernel) W') (let_s u k)
    (fun i hi W' hW => by
      obtain rfl | rfl : i = 0 ∨ i = 1 := by omega
      · exact check_ar W' u _ _ _ (he.below hW) (hu.below hW) hg
      · exact check_nv W' k (he.below hW) (by omega)) (hg.rows C k (R - k))
    (fun B0 W1 W' p A1 c1 h1 h2 h3 h4 => ent_Dr B0 W1 W' p A1 c1 2 (R - k) C _ h1 h2 h3 h4)
    (fun B0 W0 W'' q A1 c1 hB h0 hw hq hb hA' => fDr_any B0 W0 W'' q A1 c1 u R C k k (R - k) us (he.below (below_tr hB h0)) hw hq hb hA' (hu.below (below_tr hB h0)) hR ⟨k1, k2, rfl, rfl⟩)

theorem look_Hs (W : World) (u : Vl) (A : Option Addr) (c R C : Nat) (us : List Vl) (he : VEnv W) (hA : Reads 9 csV W (.slice A 2 c) [u, u]) (hu : AR W u R C us) (hg : GoodI us) (hR : R ≤ 100) (hC : C ≤ 50) :
    Calls Tryz.prog 7 #[.string ⟨#[72, 83, 84, 65, 67, 75]⟩, .slice A 2 c] W fun e w' => ∃ u', e = .returned u'.v ∧ AR w' u' R (sumR (fun _ => C) 2) (turnL (sumR (fun _ => C) 2) R (catX (fun _ => turnL R C us) 2)) ∧ (∀ b o, u'.A = some ⟨b, o, none⟩ → W.heap.size ≤ b) ∧ Below W.heap.size W w' :=
  look_g W ⟨#[72, 83, 84, 65, 67, 75]⟩ (⟨#[72, 83, 84, 65, 67, 75]⟩, 1, 255, ⟨#[97]⟩, 50) (by decide +kernel) A 2 c R (sumR (fun _ => C) 2) [u, u] (turnL (sumR (fun _ => C) 2) R (catX (fun _ => turnL R C us) 2)) he hA (by decide) (by decide) (by decide) (by decide) (by decide +kernel) (fun W' => trim_sa ⟨#[97]⟩ (by decide +kernel) (by decide +kernel) W') (let_a 2 (by decide) _)
    (fun i hi W' hW => by
      obtain rfl | rfl : i = 0 ∨ i = 1 := by omega
      · exact check_ar W' u _ _ _ (he.below hW) (hu.below hW) hg
      · exact check_ar W' u _ _ _ (he.below hW) (hu.below hW) hg) ((GoodI.cat 2 fun _ _ => hg.turn R C hu.len).turn _ _ (catX_len (fun _ => C) _ R 2 (fun _ _ => turnL_len R C us)))
    (fun B0 W1 W' p A1 c1 h1 h2 h3 h4 => ent_Hs B0 W1 W' p A1 c1 2 R (sumR (fun _ => C) 2) _ h1 h2 h3 h4)
    (fun B0 W0 W'' q A1 c1 hB h0 hw hq hb hA' => fHs_any B0 W0 W'' q 2 A1 c1 R [u, u] (fun _ => C) (fun _ => turnL R C us) (he.below (below_tr hB h0)) hw hq hb hA' (by decide) (by decide) hu.r1 hR (show 0 + C + C ≤ 100 by omega) (fun i hi => ⟨R, C, us, by rcases (show i = 0 ∨ i = 1 from by omega) with rfl | rfl <;> exact (hu.below (below_tr hB h0)), hR, rfl, rfl, rfl⟩))

theorem look_Vs (W : World) (u1 u2 : Vl) (A : Option Addr) (c R1 R2 C : Nat) (us1 us2 : List Vl) (he : VEnv W) (hA : Reads 9 csV W (.slice A 2 c) [u1, u2]) (hu1 : AR W u1 R1 C us1) (hu2 : AR W u2 R2 C us2) (hg1 : GoodI us1) (hg2 : GoodI us2) (hR : R1 + R2 ≤ 100) :
    Calls Tryz.prog 7 #[.string ⟨#[86, 83, 84, 65, 67, 75]⟩, .slice A 2 c] W fun e w' => ∃ u', e = .returned u'.v ∧ AR w' u' (sumR (fun i => if i = 0 then R1 else R2) 2) C (catX (fun i => if i = 0 then us1 else us2) 2) ∧ (∀ b o, u'.A = some ⟨b, o, none⟩ → W.heap.size ≤ b) ∧ Below W.heap.size W w' :=
  look_g W ⟨#[86, 83, 84, 65, 67, 75]⟩ (⟨#[86, 83, 84, 65, 67, 75]⟩, 1, 255, ⟨#[97]⟩, 52) (by decide +kernel) A 2 c (sumR (fun i => if i = 0 then R1 else R2) 2) C [u1, u2] (catX (fun i => if i = 0 then us1 else us2) 2) he hA (by decide) (by decide) (by decide) (by decide) (by decide +kernel) (fun W' => trim_sa ⟨#[97]⟩ (by decide +kernel) (by decide +kernel) W') (let_a 2 (by decide) _)
    (fun i hi W' hW => by
      obtain rfl | rfl : i = 0 ∨ i = 1 := by omega
      · exact check_ar W' u1 _ _ _ (he.below hW) (hu1.below hW) hg1
      · exact check_ar W' u2 _ _ _ (he.below hW) (hu2.below hW) hg2) (GoodI.cat 2 fun i hi => by rcases (show i = 0 ∨ i = 1 from by omega) with rfl | rfl <;> first | exact hg1 | exact hg2)
    (fun B0 W1 W' p A1 c1 h1 h2 h3 h4 => ent_Vs B0 W1 W' p A1 c1 2 (sumR (fun i => if i = 0 then R1 else R2) 2) C _ h1 h2 h3 h4)
    (fun B0 W0 W'' q A1 c1 hB h0 hw hq hb hA' => fVs_any B0 W0 W'' q 2 A1 c1 C [u1, u2] (fun i => if i = 0 then R1 else R2) (fun i => if i = 0 then us1 else us2) (he.below (below_tr hB h0)) hw hq hb hA' (by decide) (by decide) hu1.c1 hu1.c2 (show 0 + R1 + R2 ≤ 100 by omega) (fun i hi => by
      obtain rfl | rfl : i = 0 ∨ i = 1 := (by omega)
      · exact ⟨R1, C, us1, hu1.below (below_tr hB h0), by omega, rfl, rfl, rfl⟩
      · exact ⟨R2, C, us2, hu2.below (below_tr hB h0), by omega, rfl, rfl, rfl⟩))

theorem look_Tr (W : World) (u : Vl) (A : Option Addr) (c R C : Nat) (us : List Vl) (he : VEnv W) (hA : Reads 9 csV W (.slice A 1 c) [u]) (hu : AR W u R C us) (hg : GoodI us) (hR : R * C ≤ 100) :
    Calls Tryz.prog 7 #[.string ⟨#[84, 79, 82, 79, 87]⟩, .slice A 1 c] W fun e w' => ∃ u', e = .returned u'.v ∧ AR w' u' 1 (R * C) (us) ∧ (∀ b o, u'.A = some ⟨b, o, none⟩ → W.heap.size ≤ b) ∧ Below W.heap.size W w' :=
  look_g W ⟨#[84, 79, 82, 79, 87]⟩ (⟨#[84, 79, 82, 79, 87]⟩, 1, 1, ⟨#[97]⟩, 53) (by decide +kernel) A 1 c 1 (R * C) [u] (us) he hA (by decide) (by decide) (by decide) (by decide) (by decide +kernel) (fun W' => trim_sa ⟨#[97]⟩ (by decide +kernel) (by decide +kernel) W') (let_a 1 (by decide) _)
    (fun i hi W' hW => by
      obtain rfl : i = 0 := by omega
      exact check_ar W' u _ _ _ (he.below hW) (hu.below hW) hg) (hg)
    (fun B0 W1 W' p A1 c1 h1 h2 h3 h4 => ent_Tr B0 W1 W' p A1 c1 1 1 (R * C) _ h1 h2 h3 h4)
    (fun B0 W0 W'' q A1 c1 hB h0 hw hq hb hA' => fTo_any B0 W0 W'' q A1 c1 u R C us hw hq hb hA' (hu.below (below_tr hB h0)) hR (ar_lt (hu.below hB)) h0.size)

theorem look_Wr (W : World) (u : Vl) (A : Option Addr) (c n R k : Nat) (us : List Vl) (he : VEnv W) (hA : Reads 9 csV W (.slice A 2 c) [u, nV k]) (hu : AR W u 1 n us) (hg : GoodI us) (hn : n = R * k) (r1 : 1 ≤ R) (r2 : R ≤ 100) (k1 : 1 ≤ k) (k2 : k ≤ 100) (hn2 : n ≤ 1000) :
    Calls Tryz.prog 7 #[.string ⟨#[87, 82, 65, 80, 82, 79, 87, 83]⟩, .slice A 2 c] W fun e w' => ∃ u', e = .returned u'.v ∧ AR w' u' R k (us) ∧ (∀ b o, u'.A = some ⟨b, o, none⟩ → W.heap.size ≤ b) ∧ Below W.heap.size W w' :=
  look_g W ⟨#[87, 82, 65, 80, 82, 79, 87, 83]⟩ (⟨#[87, 82, 65, 80, 82, 79, 87, 83]⟩, 2, 3, ⟨#[97, 115, 115]⟩, 55) (by decide +kernel) A 2 c R k [u, nV k] (us) he hA (by decide) (by decide) (by decide) (by decide) (by decide +kernel) (fun W' => trim_sa ⟨#[97, 115, 115]⟩ (by decide +kernel) (by decide +kernel) W') (let_s u k)
    (fun i hi W' hW => by
      obtain rfl | rfl : i = 0 ∨ i = 1 := by omega
      · exact check_ar W' u _ _ _ (he.below hW) (hu.below hW) hg
      · exact check_nv W' k (he.below hW) (by omega)) (hg)
    (fun B0 W1 W' p A1 c1 h1 h2 h3 h4 => ent_Wr B0 W1 W' p A1 c1 2 R k _ h1 h2 h3 h4)
    (fun B0 W0 W'' q A1 c1 hB h0 hw hq hb hA' => fWr_any B0 W0 W'' q A1 c1 u n R k us (he.below (below_tr hB h0)) hw hq hb hA' (hu.below (below_tr hB h0)) hn r1 r2 k1 k2 hn2)

end Go.Proofs.YtllhefjblipddaaGreatDoor
