/- squash: lengthsOf's walk. -/
import Derived.Test.YtcojoigbcfaajaaDoorSqAc
import Derived.Deep.RegionHeld3
import Derived.Deep.Cut
import Derived.Deep.CutRange
import Derived.Deep.DeepCutAuto
namespace Go.Proofs.YtcojoigbcfaajaaDoor
open Go.RowKit

theorem Sq.cntF_step (l : List Sq.Tok) (j : Nat) (h : j < l.length) (x : Nat) : Sq.cntF (l.take (j + 1)) x = if x = l[j].1 then Sq.cntF (l.take j) l[j].1 + 1 else Sq.cntF (l.take j) x := by
  unfold Sq.cntF
  rw [List.take_add_one, List.getElem?_eq_getElem h, List.map_append, List.count_append]
  by_cases hx : x = l[j].1
  · rw [if_pos hx, hx]; simp
  · rw [if_neg hx]
    have : List.count x (List.map (fun t : Sq.Tok => t.1) (some l[j]).toList) = 0 := by
      rw [List.count_eq_zero]
      simp
      exact hx
    rw [this]
    rfl
theorem Sq.cntF_le (l : List Sq.Tok) (x : Nat) : Sq.cntF l x ≤ l.length := by
  unfold Sq.cntF
  have := List.count_le_length (a := x) (l := l.map fun t => t.1)
  rwa [List.length_map] at this
set_option maxRecDepth 100000 in
set_option maxHeartbeats 8000000 in
theorem lens_any (l : List Sq.Tok) (v : Value) (B0 : Nat) (w : World) (h : RowOf 43 4 Sq.tokV w B0 v l) (h0 : 0 < l.length) (hl : l.length ≤ 1073741824) (hsym : ∀ t ∈ l, t.1 < 272) :
    Calls Tryd.prog 10 #[v] w fun e w' => ∃ g, e = .returned (.slice (some ⟨g, 0, none⟩) 272 272) ∧ RF 272 w' w.heap.size g (Sq.lgF l) ∧ Below w.heap.size w w' := by
  obtain ⟨gt, ct, rfl, -, hgt⟩ := h.form h0
  have HR := Lib.hid (h.reads (fun x => (tk_len x).1))
  have HSY := Lib.hid hsym
  obtain ⟨RT, hRT⟩ : ∃ RT, RT = Sq.lgF l := ⟨_, rfl⟩
  have HRT := Lib.hid hRT
  rw [← hRT]
  clear h hsym hRT
  go_enter Tryd.func10, Tryd.ntmps10
  go_wp2_with (at_make; refine wp_makeI rfl _ _ rfl w.heap.size _ _ 272 rfl rfl rfl rfl (by decide) (Nat.le_refl _) ?_; intro w1 ho1 hg1 hs1; have HC := Lib.hid (RF.zero ho1); have HB := Lib.hid hg1; clear ho1 hg1)
  go_loopw [22] (fun u22 wr => ∃ j : Nat, j ≤ l.length ∧ u22 = .int .i64 j ∧ Hid (RF 272 wr w.heap.size w.heap.size (Sq.cntF (l.take j))) ∧ Hid (Below w.heap.size w wr)) (fun u _ => l.length - (intOf u).toNat)
  case atStart => exact ⟨0, by omega, rfl, Lib.hid (HC.out.congr fun x _ => by simp [Sq.cntF]), HB⟩
  case round =>
    clear HC HB hs1
    obtain ⟨j, hj, rfl, HC, HB⟩ := hrel
    by_cases hlt : j < l.length
    · have hlz : (j : Int) < l.length := by omega
      obtain ⟨A', c', e', -, -, hrd⟩ := (HR.out.below HB.out)
      injection e' with e1 _ e3
      obtain ⟨b, p, e4, hblt, hcell⟩ := hrd h0
      rw [← e1] at e4
      injection e4 with e5
      injection e5 with e6 e7
      subst e6 e7
      obtain ⟨⟨t0, t1, t2, t3⟩, htk⟩ : ∃ x, x = l[j] := ⟨_, rfl⟩
      have hs0 : t0 < 272 := by have := HSY.out l[j] (List.getElem_mem hlt); rw [← htk] at this; exact this
      have hstep := Sq.cntF_step l j hlt
      rw [← htk] at hstep
      simp only [] at hstep
      have g0 : wr.cell? ⟨gt, j * 4, none⟩ = some (.int .i64 (t0 : Int)) := by have := hcell j hlt 0 (by decide); rw [← htk, Nat.zero_add] at this; exact this
      have g1 : wr.cell? ⟨gt, j * 4 + 1, none⟩ = some (.int .i64 (t1 : Int)) := by have := hcell j hlt 1 (by decide); rw [← htk, Nat.zero_add] at this; exact this
      have g2 : wr.cell? ⟨gt, j * 4 + 2, none⟩ = some (.int .i64 (t2 : Int)) := by have := hcell j hlt 2 (by decide); rw [← htk, Nat.zero_add] at this; exact this
      have g3 : wr.cell? ⟨gt, j * 4 + 3, none⟩ = some (.int .i64 (t3 : Int)) := by have := hcell j hlt 3 (by decide); rw [← htk, Nat.zero_add] at this; exact this
      obtain ⟨N, hN⟩ : ∃ N, N = Sq.cntF (l.take j) t0 := ⟨_, rfl⟩
      have hNb : N ≤ 1073741824 := by
        have := Sq.cntF_le (l.take j) t0
        rw [List.length_take] at this
        omega
      have hcc := HC.out.cell hs0
      rw [← hN] at hcc hstep
      have hcf := HC.out.frozen t0
      have hlt0 := HC.out.lt
      have HST := Lib.hid hstep
      clear hstep hN htk hcell hrd e1 e3
      go_wp2_with fail
      go_roundw
      case rel =>
        refine ⟨j + 1, by omega, by go_num, Lib.hid ?_, Lib.hid ((HB.out.setCell (p := ⟨w.heap.size, t0, none⟩) (Nat.le_refl _) (.int .i64 ((N : Int) + 1))).alloc (by simpa [World.setCell] using HB.out.size) _)⟩
        have h9 := HC.out.set t0 (N + 1)
        rw [Int.natCast_add] at h9
        exact (h9.congr fun x _ => (HST.out x).symm).alloc _
      case measure => simp [intOf]; omega
    · obtain rfl : j = l.length := by omega
      have hcl := HC.out
      rw [List.take_of_length_le (Nat.le_refl _)] at hcl
      obtain ⟨c, hce⟩ : ∃ c, c = Sq.cntF l := ⟨_, rfl⟩
      have hcM : ∀ x, c x ≤ 1073741824 := fun x => by
        have := Sq.cntF_le l x
        rw [hce]
        omega
      have hU0 : 0 < (Sq.usL c 272).length := by
        have hm : l[0].1 ∈ Sq.usL c 272 := Sq.usL_mem.2 ⟨HSY.out _ (List.getElem_mem h0), by
          rw [hce]
          exact List.count_pos_iff.2 (List.mem_map.2 ⟨l[0], List.getElem_mem h0, rfl⟩)⟩
        exact List.length_pos_of_mem hm
      have HLG := Lib.hid (show RT = fun x => if (Sq.usL c 272).length = 1 then (if x = (Sq.usL c 272).getD 0 0 then 1 else 0) else Sq.cnt ((Sq.lvW c 15).take (2 * (Sq.usL c 272).length - 2)) x by rw [HRT.out, hce]; rfl)
      rw [← hce] at hcl
      have HC := Lib.hid hcl
      have HCM := Lib.hid hcM
      have HU0 := Lib.hid hU0
      have hbs := HC.out.lt.2
      have HHS := Lib.hid hbs
      clear hcl hcM hU0 hce HRT HSY HR hj hgt hbs
      go_wp2_with fail
      go_loopw [6, 36] (fun u6 u36 wr => ∃ n : Nat, n ≤ 272 ∧ u36 = .int .i64 n ∧ Hid (RowOf 68 2 wtV wr (w.heap.size + 1) u6 ((Sq.usL c n).map fun x => (x, c x))) ∧ Hid (RF 272 wr w.heap.size w.heap.size c) ∧ Hid (Below w.heap.size w wr)) (fun _ u _ => 272 - (intOf u).toNat)
      case atStart => exact ⟨0, by omega, rfl, Lib.hid (RowOf.nil _ _), HC, HB⟩
      case round =>
        clear HC HB HHS
        obtain ⟨n, hn, rfl, HW, HC, HB⟩ := hrel
        by_cases hlt : n < 272
        · have hnz : (n : Int) < 272 := by omega
          have hcc := HC.out.cell hlt
          have hlw := Sq.usL_len c n
          have hbs := HC.out.lt.2
          have HST := Lib.hid (Sq.usL_step c n)
          have hcM := HCM.out n
          obtain ⟨N, hN⟩ : ∃ N, N = c n := ⟨_, rfl⟩
          rw [← hN] at hcc hcM HST
          have HN := Lib.hid hN
          clear hN
          by_cases hp : 0 < N
          · have hpz : (0 : Int) < (N : Int) := by omega
            have HLN := Lib.hid (show ((Sq.usL c n).map fun x => (x, c x)).length ≤ 272 by rw [List.length_map]; omega)
            have HBS := Lib.hid (show w.heap.size + 1 ≤ wr.heap.size from hbs)
            clear hlw hbs
            go_wp2_with (at_builtin; refine wp_row1 66 68 2 16 wtV _ Tryd.underlying66 wt_info rfl (by decide) wtV_ok rfl _ _ rfl (w.heap.size + 1) _ _ rfl HW.out (n, N) _ ?_ rfl ?_ ?_ HBS.out ?_; (first | rfl | skip); (have := HLN.out; omega); (have := HLN.out; unfold maxLen; omega); intro v3 w3 ho3 hb3 _; have HW3 := Lib.hid ho3; have HC3 := Lib.hid (HC.out.chg (Chg.of hb3 []) (by omega) (by simp)); have HB3 := Lib.hid (HB.out.trans (hb3.mono (by omega))); clear ho3 hb3)
            go_roundw
            case rel =>
              refine ⟨n + 1, by omega, by go_num, Lib.hid ?_, HC3, HB3⟩
              rw [HST.out, if_pos hp, List.map_append, List.map_cons, List.map_nil, ← HN.out]
              exact HW3.out
            case measure => simp [intOf]; omega
          · have hpz : ¬ (0 : Int) < (N : Int) := by omega
            go_wp2_with fail
            go_roundw
            case rel =>
              refine ⟨n + 1, by omega, by go_num, Lib.hid ?_, HC, HB⟩
              rw [HST.out, if_neg hp]
              exact HW.out
            case measure => simp [intOf]; omega
        · obtain rfl : n = 272 := by omega
          obtain ⟨U, hU⟩ : ∃ U, U = (Sq.usL c 272).map fun x => (x, c x) := ⟨_, rfl⟩
          have hUl : U.length = (Sq.usL c 272).length := by rw [hU, List.length_map]
          have hU1 : 0 < U.length := by rw [hUl]; exact HU0.out
          have hU2 : U.length ≤ 272 := by rw [hUl]; exact Sq.usL_len c 272
          rw [← hU] at HW
          obtain ⟨gu, cu, rfl, hgu, hgu2⟩ := HW.out.form hU1
          have HUE := Lib.hid hU
          have HUL := Lib.hid hUl
          clear hU hUl
          obtain ⟨m, hm⟩ : ∃ m, m = U.length := ⟨_, rfl⟩
          rw [← hm] at hU1 hU2 HUL HW
          rw [← hm]
          have HM := Lib.hid hm
          clear hm
          go_upto_region 15 with (at_make; refine wp_makeI rfl _ _ rfl w.heap.size _ _ 272 rfl rfl rfl rfl (by decide) HB.out.size ?_; intro w2 ho2 hg2 hs2; have HO := Lib.hid (RF.zero ho2); have HW2 := Lib.hid (HW.out.later hg2); have HB2 := Lib.hid (HB.out.trans (hg2.mono HB.out.size)); clear ho2 hg2)
          obtain ⟨go, hgo⟩ : ∃ go, go = wr.heap.size := ⟨_, rfl⟩
          rw [← hgo] at HO hs2
          rw [← hgo]
          clear HC HB HW hgu2 hgo
          by_cases hm1 : m = 1
          · subst hm1
            obtain ⟨⟨x0, n0⟩, hx⟩ : ∃ x, U = [x] := List.length_eq_one_iff.1 HM.out.symm
            have hx2 : Sq.usL c 272 = [x0] := by
              have h1 := HUE.out
              rw [hx] at h1
              obtain ⟨y, hy⟩ : ∃ y, Sq.usL c 272 = [y] := List.length_eq_one_iff.1 HUL.out.symm
              rw [hy] at h1 ⊢
              simp only [List.map_cons, List.map_nil, List.cons.injEq, Prod.mk.injEq, and_true] at h1
              rw [h1.1]
            have hx3 : x0 < 272 := (Sq.usL_mem.1 (by rw [hx2]; simp)).1
            have hw2 := HW2.out
            rw [hx] at hw2
            have c0 : w2.cell? ⟨gu, 0, none⟩ = some (.int .i64 (x0 : Int)) := World.ownsRow.cellAt (show w2.ownsRow (w.heap.size + 1) 68 2 (.slice (some ⟨gu, 0, none⟩) [(x0, n0)].length cu) [(x0, n0)].length ([(x0, n0)].flatMap wtV) from hw2) 0 (by simp)
            have c1 := HO.out.cell hx3
            have f1 := HO.out.frozen x0
            have HLG2 := Lib.hid (show RT = fun x => if x = x0 then 1 else 0 by rw [HLG.out, hx2]; rfl)
            have hlo := HO.out.lt.1
            clear hw2 hx hx2
            go_wp2_with fail
            go_ret
            exact ⟨go, rfl, by rw [HLG2.out]; exact HO.out.set x0 1, HB2.out.setCell (p := ⟨go, x0, none⟩) hlo _⟩
          · have hm2 : 2 ≤ m := by omega
            have hmz : ((m : Int) == 1) = false := by rw [beq_eq_false_iff_ne]; omega
            have HLG2 := Lib.hid (show RT = fun x => Sq.cnt ((Sq.lvW c 15).take (2 * m - 2)) x by
              rw [HLG.out, ← HUL.out]
              funext x
              rw [if_neg hm1])
            clear hm1 HLG
            have HBG := Lib.hid (show w.heap.size ≤ go from HO.out.lt.1)
            go_wp2_with fail
            go_loopw [10, 61] (fun u10 u61 wr => ∃ k : Nat, k ≤ 15 ∧ u61 = .int .i64 k ∧ Hid (LV c wr (go + 1) u10 (Sq.lvW c k)) ∧ Hid (RF 272 wr w.heap.size go fun _ => 0) ∧ Hid (RowOf 68 2 wtV wr (w.heap.size + 1) (.slice (some ⟨gu, 0, none⟩) m cu) U) ∧ Hid (Below w.heap.size w wr)) (fun _ u _ => 15 - (intOf u).toNat)
            case atStart => exact ⟨0, by omega, rfl, Lib.hid LV.nil, HO, HW2, HB2⟩
            case round =>
              clear HO HW2 HB2 hs2
              obtain ⟨k, hk, rfl, HLV, HO, HW, HB⟩ := hrel
              by_cases hk15 : k < 15
              · have hkz : (k : Int) < 15 := by omega
                have hlen := Sq.lvW_len_le c k
                have hbd := Sq.lvW_bd c 1073741824 HCM.out k
                have hnx : Sq.lvW c (k + 1) = Sq.srtW c (Sq.pairUp (Sq.lvW c k) ++ (Sq.usL c 272).map fun x => [x]) := rfl
                obtain ⟨A, cl, hu10⟩ := HLV.out.shape
                subst hu10
                obtain ⟨L, hL⟩ : ∃ L, L = Sq.lvW c k := ⟨_, rfl⟩
                rw [← hL] at hlen hbd HLV hnx
                rw [← hL]
                have HNX := Lib.hid hnx
                have HBD := Lib.hid hbd
                obtain ⟨N, hN⟩ : ∃ N, N = L.length := ⟨_, rfl⟩
                rw [← hN] at hlen HLV
                rw [← hN]
                have HNE := Lib.hid hN
                obtain ⟨wo, hwo⟩ : ∃ wo, wo = wr := ⟨_, rfl⟩
                rw [← hwo] at HLV HO HW HB
                rw [← hwo]
                clear hbd hnx hL hN hwo
                go_wp2_with fail
                go_loopw [11, 12] (fun u11 u12 wi => ∃ q j : Nat, q ≤ N + 1 ∧ Hid (q = 2 * j) ∧ u12 = .int .i64 (q : Int) ∧ Hid (NX c wi wo.heap.size u11 ((Sq.pairUp L).take j)) ∧ Hid (Below wo.heap.size wo wi)) (fun _ u _ => N + 2 - (intOf u).toNat)
                case atStart => exact ⟨0, 0, by omega, Lib.hid rfl, rfl, Lib.hid NX.nil, Lib.hid (Below.refl _ _)⟩
                case round =>
                  obtain ⟨q, j, hj, HQ, rfl, HN, HBi⟩ := hrel
                  by_cases hlt : q + 1 < N
                  · have hjz : (q : Int) + 1 < (N : Int) := by omega
                    obtain ⟨d, hrd, hall, -⟩ := HLV.out
                    have hdl := hall.len
                    obtain ⟨A', c', e', -, -, hrd2⟩ := hrd
                    injection e' with e1 e2 e3
                    obtain ⟨gl, ol, e4, hglt, hcell⟩ := hrd2 (by rw [hdl, ← HNE.out]; omega)
                    rw [← e1] at e4
                    subst e4
                    have i0 : q < d.length := by rw [hdl, ← HNE.out]; omega
                    have i1 : q + 1 < d.length := by rw [hdl, ← HNE.out]; omega
                    have i0L : q < L.length := by rw [← HNE.out]; omega
                    have i1L : q + 1 < L.length := by rw [← HNE.out]; omega
                    have bw0 := hall.get q i0 i0L
                    have bw1 := hall.get (q + 1) i1 i1L
                    have y0 := hcell q i0 0 (by decide)
                    have y1 := hcell q i0 1 (by decide)
                    have y2 := hcell (q + 1) i1 0 (by decide)
                    have y3 := hcell (q + 1) i1 1 (by decide)
                    obtain ⟨bb0, hbb0⟩ : ∃ bb0, bb0 = L[q] := ⟨_, rfl⟩
                    obtain ⟨bb1, hbb1⟩ : ∃ bb1, bb1 = L[q + 1] := ⟨_, rfl⟩
                    have bd0 := HBD.out L[q] (List.getElem_mem i0L)
                    have bd1 := HBD.out L[q + 1] (List.getElem_mem i1L)
                    have htk := Sq.pairUp_take L j (by rw [← HNE.out]; have := HQ.out; omega)
                    have hq2 : ∀ (h1 : 2 * j < L.length) (h2 : 2 * j + 1 < L.length), L[2 * j] ++ L[2 * j + 1] = bb0 ++ bb1 := fun h1 h2 => by
                      have := HQ.out
                      subst this
                      rw [hbb0, hbb1]
                    rw [hq2] at htk
                    rw [← hbb0] at bd0 bw0
                    rw [← hbb1] at bd1 bw1
                    obtain ⟨⟨n0, A0, l0, k0⟩, hx0⟩ : ∃ x, x = d[q] := ⟨_, rfl⟩
                    obtain ⟨⟨n1, A1, l1, k1⟩, hx1⟩ : ∃ x, x = d[q + 1] := ⟨_, rfl⟩
                    rw [← hx0] at bw0 y0 y1
                    rw [← hx1] at bw1 y2 y3
                    simp only [sbE, List.getElem?_cons_zero, List.getElem?_cons_succ] at y0 y1 y2 y3
                    obtain ⟨w0, r0⟩ := bw0
                    obtain ⟨w1', r1⟩ := bw1
                    simp only [] at w0 w1' r0 r1
                    have hp2 : 2 ^ k ≤ 32768 := two_pow_le (by omega)
                    obtain ⟨t0, t1, t2, -⟩ := bd0
                    obtain ⟨u0, u1, u2, -⟩ := bd1
                    have hmul : 2 ^ k * 1073741824 ≤ 32768 * 1073741824 := Nat.mul_le_mul_right _ hp2
                    obtain ⟨g0, c0, f0, -, -⟩ := r0.form t2
                    obtain ⟨g1, c1, f1, -, -⟩ := r1.form u2
                    injection f0 with f01 f02 f03
                    injection f1 with f11 f12 f13
                    subst f01 f11
                    obtain ⟨m0, hm0⟩ : ∃ m0, m0 = Sq.wt c bb0 := ⟨_, rfl⟩
                    obtain ⟨m1, hm1⟩ : ∃ m1, m1 = Sq.wt c bb1 := ⟨_, rfl⟩
                    rw [← hm0] at w0 t0
                    rw [← hm1] at w1' u0
                    subst w0 w1'
                    have HMM := Lib.hid (show m0 + m1 = Sq.wt c (bb0 ++ bb1) by rw [Sq.wt_app, hm0, hm1])
                    have bm0 : m0 ≤ 35184372088832 := by omega
                    have bm1 : m1 ≤ 35184372088832 := by omega
                    have bl0 : l0 ≤ 32768 := by omega
                    have bl1 : l1 ≤ 32768 := by omega
                    have bl2 : 0 < l0 := by omega
                    have hl0 : bb0.length = l0 := f02.symm
                    have hl1 : bb1.length = l1 := f12.symm
                    have HLE0 := Lib.hid hl0
                    have HLE1 := Lib.hid hl1
                    have HS := Lib.hid (show ∀ W, Below wo.heap.size wo W → W.cell? ⟨gl, ol + q * 2, none⟩ = some (.int .i64 (m0 : Int)) ∧ W.cell? ⟨gl, ol + q * 2 + 1, none⟩ = some (.slice (some ⟨g0, 0, none⟩) l0 k0) ∧ W.cell? ⟨gl, ol + (q + 1) * 2, none⟩ = some (.int .i64 (m1 : Int)) ∧ W.cell? ⟨gl, ol + (q + 1) * 2 + 1, none⟩ = some (.slice (some ⟨g1, 0, none⟩) l1 k1) from fun W hW =>
                      ⟨(hW.cell (by exact hglt)).trans y0, (hW.cell (by exact hglt)).trans y1, (hW.cell (by exact hglt)).trans y2, (hW.cell (by exact hglt)).trans y3⟩)
                    have HCC := Lib.hid (show ∀ (W : World) (T : TypeId), Below wo.heap.size wo W → Calls Tryd.prog 23 #[.slice (some ⟨W.heap.size, 0, none⟩) 2 2] (W.alloc (.cells #[.slice (some ⟨g0, 0, none⟩) l0 k0, .slice (some ⟨g1, 0, none⟩) l1 k1] T)).drew fun e w' => ∃ g c', e = .returned (.slice (some ⟨g, 0, none⟩) (l0 + l1) c') ∧ R1 3 .i64 w' W.heap.size (.slice (some ⟨g, 0, none⟩) (l0 + l1) c') (bb0 ++ bb1) ∧ Below W.heap.size W w' from fun W T hW => by
                      have hA := (Below.refl W.heap.size W).alloc (Nat.le_refl _) (.cells #[.slice (some ⟨g0, 0, none⟩) l0 k0, .slice (some ⟨g1, 0, none⟩) l1 k1] T)
                      have hn := news_new W #[.slice (some ⟨g0, 0, none⟩) l0 k0, .slice (some ⟨g1, 0, none⟩) l1 k1] T
                      have hsz : (W.alloc (.cells #[.slice (some ⟨g0, 0, none⟩) l0 k0, .slice (some ⟨g1, 0, none⟩) l1 k1] T)).heap.size = W.heap.size + 1 := Array.size_push _
                      have hq0 := hn 0 _ rfl
                      have hq1 := hn 1 _ rfl
                      rw [Addr.add_lit] at hq0 hq1
                      refine (concat_any W.heap.size g0 k0 (go + 1) l0 g1 k1 (go + 1) l1 bb0 bb1 (W.alloc (.cells #[.slice (some ⟨g0, 0, none⟩) l0 k0, .slice (some ⟨g1, 0, none⟩) l1 k1] T)).drew hq0 hq1 ((r0.later hW).later hA).drew ((r1.later hW).later hA).drew hl0 hl1 bl2 (by omega) (by omega)).mono ?_
                      rintro e w' ⟨g, c', he, hr, hb⟩
                      exact ⟨g, c', he, hr.mono (show W.heap.size ≤ (W.alloc _).heap.size by rw [hsz]; omega), hA.drew.trans (hb.mono (show W.heap.size ≤ (W.alloc _).heap.size by rw [hsz]; omega))⟩)
                    have HTK := Lib.hid htk
                    have HLT := Lib.hid (show ((Sq.pairUp L).take j).length + 1 ≤ 1099511627776 by rw [List.length_take, Sq.pairUp_len, ← HNE.out]; omega)
                    obtain ⟨An, nn, cn, hun⟩ : ∃ An nn cn, u11 = .slice An nn cn := by obtain ⟨An, cn, e⟩ := HN.out.shape; exact ⟨An, _, cn, e⟩
                    subst hun
                    clear hall hrd2 hcell e1 e2 e3 y0 y1 y2 y3 hbb0 hbb1 hx0 hx1 hdl i0 i1 i0L i1L hq2 htk hp2 t1 t2 u1 u2 hmul r0 r1 hm0 hm1 t0 u0 hl0 hl1 f02 f12 f03 f13
                    go_upto_region 25 with fail
                    have HW0 := HS.out _ HBi.out
                    obtain ⟨s0, s1, s2, s3⟩ := HW0
                    have z1 : (0 : Int) ≤ (q : Int) := by omega
                    have z2 : (q : Int) < (N : Int) := by omega
                    have z3 : (0 : Int) ≤ (q : Int) + 1 := by omega
                    have z4 : ((q : Int) + 1).toNat = q + 1 := by omega
                    have z5 : IntKind.i64.wrap ((q : Int) + 1) = (q : Int) + 1 := IntWalk.i64_in _ (by omega)
                    have z6 : IntKind.i64.wrap ((m0 : Int) + (m1 : Int)) = (m0 : Int) + (m1 : Int) := IntWalk.i64_in _ (by omega)
                    go_region_held3 (fun W => W.cell? ⟨gl, ol + q * 2, none⟩ = some (.int .i64 (m0 : Int)) ∧ W.cell? ⟨gl, ol + q * 2 + 1, none⟩ = some (.slice (some ⟨g0, 0, none⟩) l0 k0) ∧ W.cell? ⟨gl, ol + (q + 1) * 2, none⟩ = some (.int .i64 (m1 : Int)) ∧ W.cell? ⟨gl, ol + (q + 1) * 2 + 1, none⟩ = some (.slice (some ⟨g1, 0, none⟩) l1 k1)) (first | exact ⟨by assumption, by assumption, by assumption, by assumption⟩ | exact HS.out _ HB7.out | exact HS.out _ (HB6.out.alloc HB6.out.size _) | exact HS.out _ HB6.out | exact HS.out _ (HBi.out.drew.alloc HBi.out.size _) | exact HS.out _ HBi.out.drew | exact HS.out _ HBi.out) (first
                      | (go_at_call 23; (with_reducible refine (HCC.out wr _ HBi.out).mono ?_); rintro e w6 ⟨g6, c6, rfl, hr6, hb6⟩; have HR6 := Lib.hid hr6; have HN6 := Lib.hid (HN.out.later hb6); have HB6 := Lib.hid (HBi.out.trans (hb6.mono HBi.out.size)); clear hr6 hb6)
                      | (refine step_appBu rfl _ _ rfl wo.heap.size _ _ rfl HN6.out ((m0 : Int) + (m1 : Int), some ⟨g6, 0, none⟩, l0 + l1, c6) (bb0 ++ bb1) ⟨by rw [← HMM.out]; simp, HR6.out.mono HBi.out.size⟩ ?_ _ rfl _ rfl rfl HLT.out HB6.out.size ?_; (intro g hg e; exact Nat.lt_irrefl _ (Nat.lt_of_lt_of_le (HN.out.lt g hg).2 (HR6.out.lt g e).1)); intro g7 n7 c7 w7 hn7 hb7; have HN7 := Lib.hid hn7; have HB7 := Lib.hid (HB6.out.trans hb7); clear hn7 hb7))
                    all_goals
                      go_wp2_with fail
                      go_roundw
                      case rel => exact ⟨q + 2, j + 1, by omega, Lib.hid (by have := HQ.out; omega), by go_num, Lib.hid (by rw [HTK.out]; exact HN7.out), HB7⟩
                      case measure => simp [intOf] <;> omega
                  · have hjz : ¬ (q : Int) + 1 < (N : Int) := by omega
                    have wq1 : IntKind.i64.wrap ((q : Int) + 1) = (q : Int) + 1 := IntWalk.i64_in _ (by omega)
                    have htk := Sq.pairUp_done L j (by rw [← HNE.out]; have := HQ.out; omega)
                    have hn := HN.out
                    rw [htk] at hn
                    have HN2 := Lib.hid hn
                    clear htk hn HN
                    go_wp2_with fail
                    go_loopw [11, 101] (fun u11 u101 wr => ∃ j : Nat, j ≤ m ∧ u101 = .int .i64 j ∧ Hid (NX c wr wo.heap.size u11 (Sq.pairUp L ++ (U.take j).map fun u => [u.1])) ∧ Hid (Below wo.heap.size wo wr)) (fun _ u _ => m - (intOf u).toNat)
                    case atStart => exact ⟨0, by omega, rfl, Lib.hid (by rw [List.take_zero, List.map_nil, List.append_nil]; exact HN2.out), HBi⟩
                    case round =>
                      clear HBi HN2
                      obtain ⟨j2, hj2, rfl, HN, HBi⟩ := hrel
                      by_cases hjm : j2 < m
                      · have hjmz : (j2 : Int) < (m : Int) := by omega
                        have hjU : j2 < U.length := by rw [← HM.out]; exact hjm
                        obtain ⟨A', c', e', -, -, hrd2⟩ := (HW.out.reads (fun x => (wtV_ok x).1)).below HBi.out
                        injection e' with e1 e2 e3
                        obtain ⟨b', o', e4, -, hcell⟩ := hrd2 (by omega)
                        rw [← e1] at e4
                        injection e4 with e5
                        injection e5 with e6 e7
                        subst e6 e7
                        have hUj : U[j2].2 = c U[j2].1 ∧ U[j2].1 < 272 := by
                          have h9 := HUE.out
                          have hm9 : U[j2] ∈ (Sq.usL c 272).map fun x => (x, c x) := by rw [← h9]; exact List.getElem_mem hjU
                          obtain ⟨x9, hx9, e9⟩ := List.mem_map.1 hm9
                          rw [← e9]
                          exact ⟨rfl, (Sq.usL_mem.1 hx9).1⟩
                        have hts : U.take (j2 + 1) = U.take j2 ++ [U[j2]] := by rw [List.take_add_one, List.getElem?_eq_getElem hjU]; rfl
                        obtain ⟨⟨x0, n0⟩, hx0⟩ : ∃ x, x = U[j2] := ⟨_, rfl⟩
                        rw [← hx0] at hUj hts
                        obtain ⟨hn0, hx272⟩ := hUj
                        simp only [] at hn0 hx272
                        have g0 : wr.cell? ⟨gu, j2 * 2, none⟩ = some (.int .i64 (x0 : Int)) := by have := hcell j2 hjU 0 (by decide); rw [← hx0, Nat.zero_add] at this; exact this
                        have g1 : wr.cell? ⟨gu, j2 * 2 + 1, none⟩ = some (.int .i64 (n0 : Int)) := by have := hcell j2 hjU 1 (by decide); rw [← hx0, Nat.zero_add] at this; exact this
                        have HTS := Lib.hid hts
                        have HWT := Lib.hid (show (n0 : Int) = (Sq.wt c [x0] : Int) by rw [hn0]; simp [Sq.wt])
                        have HLT := Lib.hid (show (Sq.pairUp L ++ (U.take j2).map fun u => [u.1]).length + 1 ≤ 1099511627776 by rw [List.length_append, Sq.pairUp_len, ← HNE.out, List.length_map, List.length_take]; omega)
                        have hA := (Below.refl wr.heap.size wr).alloc (Nat.le_refl _) (.cells #[.int .i64 (x0 : Int), .int .i64 (n0 : Int)] 68)
                        have hsA : (wr.alloc (.cells #[.int .i64 (x0 : Int), .int .i64 (n0 : Int)] 68)).heap.size = wr.heap.size + 1 := Array.size_push _
                        obtain ⟨WA, hWA⟩ : ∃ WA, WA = wr.alloc (.cells #[.int .i64 (x0 : Int), .int .i64 (n0 : Int)] 68) := ⟨_, rfl⟩
                        rw [← hWA] at hA hsA
                        have hBA := (Below.refl WA.heap.size WA).alloc (Nat.le_refl _) (.cells #[.int .i64 (x0 : Int)] 3)
                        have hsB : (WA.alloc (.cells #[.int .i64 (x0 : Int)] 3)).heap.size = wr.heap.size + 1 + 1 := by rw [← hsA]; exact Array.size_push _
                        have hr1 := r1_new WA wo.heap.size (by rw [hsA]; have := HBi.out.size; omega) x0
                        rw [hsA] at hr1
                        have HN3 := Lib.hid ((HN.out.later hA).later hBA)
                        have HR3 := Lib.hid hr1
                        have HB3 := Lib.hid (HBi.out.trans ((hA.mono HBi.out.size).trans (hBA.mono (by rw [hsA]; have := HBi.out.size; omega))))
                        have HSB := Lib.hid hsB
                        rw [hWA] at HN3 HR3 HB3 HSB
                        clear hts hn0 hx0 hcell hrd2 e1 e2 e3 hA hsA hBA hsB hr1 hWA WA
                        go_wp2_with (at_builtin; refine wp_appBu rfl _ _ rfl wo.heap.size _ _ rfl HN3.out ((n0 : Int), some ⟨wr.heap.size + 1, 0, none⟩, 1, 1) [x0] ⟨HWT.out, HR3.out⟩ ?_ _ rfl _ HSB.out rfl HLT.out HB3.out.size ?_; (intro g hg e; have h7 := (HN.out.lt g hg).2; have e2 : some (wr.heap.size + 1) = some g := e; injection e2 with e2; omega); intro v7 w7 hn7 hb7; have HN7 := Lib.hid hn7; have HB7 := Lib.hid (HB3.out.trans hb7); clear hn7 hb7)
                        go_roundw
                        case rel => exact ⟨j2 + 1, by omega, by go_num, Lib.hid (by rw [HTS.out, List.map_append, ← List.append_assoc]; exact HN7.out), HB7⟩
                        case measure => simp [intOf]; omega
                      · obtain rfl : j2 = m := by omega
                        have hn := HN.out
                        rw [List.take_of_length_le (by rw [← HM.out]; exact Nat.le_refl _), HUE.out, List.map_map] at hn
                        have HSC := Lib.hid (sort_nx c u11 (Sq.pairUp L ++ (Sq.usL c 272).map fun x => [x]) wr wo.heap.size hn (by rw [List.length_append, List.length_map, ← HUL.out]; omega) (by rw [List.length_append, List.length_map, ← HUL.out, Sq.pairUp_len, ← HNE.out]; omega))
                        rw [← HNX.out] at HSC
                        clear hn
                        go_wp2_with (go_at_call 24; (with_reducible refine HSC.out.mono ?_); rintro e w8 ⟨rfl, hl8, hb8⟩; have HL8 := Lib.hid hl8; have HB8 := Lib.hid (HBi.out.trans hb8); clear hl8 hb8)
                        go_roundw
                        case rel => exact ⟨k + 1, by omega, by go_num, Lib.hid (HL8.out.mono HO.out.lt.2), Lib.hid (HO.out.later HB8.out), Lib.hid (HW.out.later HB8.out), Lib.hid (HB.out.trans (HB8.out.mono HB.out.size))⟩
                        case measure => simp [intOf]; omega
              · obtain rfl : k = 15 := by omega
                obtain ⟨A, cl, hu10⟩ := HLV.out.shape
                subst hu10
                have hbd := Sq.lvW_bd c 1073741824 HCM.out 15
                have hlen := Sq.lvW_len_le c 15
                have hlo := Sq.lenOf_15 (Sq.usL c 272).length (Sq.usL_len c 272)
                rw [← Sq.lvW_len, ← HUL.out] at hlo
                obtain ⟨L, hL⟩ : ∃ L, L = Sq.lvW c 15 := ⟨_, rfl⟩
                rw [← hL] at hlen hbd HLV HLG2 hlo
                rw [← hL]
                have HBD := Lib.hid hbd
                obtain ⟨N, hN⟩ : ∃ N, N = L.length := ⟨_, rfl⟩
                rw [← hN] at hlen HLV hlo
                rw [← hN]
                have HNE := Lib.hid hN
                obtain ⟨r, hr⟩ : ∃ r, r = 2 * m - 2 := ⟨_, rfl⟩
                rw [← hr] at HLG2
                have hrN : r ≤ N := by omega
                have z1 : IntKind.i64.wrap (2 * (m : Int)) = 2 * (m : Int) := IntWalk.i64_in _ (by omega)
                have z2 : 2 * (m : Int) - 2 = (r : Int) := by omega
                have z3 : (0 : Int) ≤ (r : Int) := by omega
                have z4 : (r : Int) ≤ (N : Int) := by omega
                have HR0 := Lib.hid (show 2 ≤ r by omega)
                have HCL := Lib.hid (show N ≤ cl by
                  obtain ⟨d, ⟨A', c', e', h1, -⟩, h2, -⟩ := HLV.out
                  injection e' with e1 e2 e3
                  omega)
                have hcl := HCL.out
                have hclz : (r : Int) ≤ (cl : Int) := by omega
                clear hr hN hL hbd hlo
                obtain ⟨gl, ol, hA⟩ : ∃ gl ol, A = some ⟨gl, ol, none⟩ := by
                  obtain ⟨d, ⟨A', c', e', -, -, h1⟩, h2, -⟩ := HLV.out
                  injection e' with e1 e2 e3
                  obtain ⟨b, o, e4, -⟩ := h1 (by have := HR0.out; omega)
                  exact ⟨b, o, by rw [e1, e4]⟩
                subst hA
                have HLB := Lib.hid hlen
                clear hlen hm2 hmz
                obtain ⟨wz, hwz⟩ : ∃ wz, wz = wr := ⟨_, rfl⟩
                rw [← hwz] at HLV HO HB
                rw [← hwz]
                clear hwz
                have HRL := Lib.hid (show r ≤ L.length by rw [← HNE.out]; exact hrN)
                have HQ := Lib.hid (show ∀ W, Chg wz.heap.size [go] wz W → ∀ j, j < r → ∃ (n g' k' : Nat) (b : List Nat), L[j]? = some b ∧ b.length ≤ 32768 ∧ (∀ x ∈ b, x < 272) ∧ W.cell? ⟨gl, ol + j * 2, none⟩ = some (.int .i64 (n : Int)) ∧ W.cell? ⟨gl, ol + j * 2 + 1, none⟩ = some (.slice (some ⟨g', 0, none⟩) b.length k') ∧ R1 3 .i64 W (go + 1) (.slice (some ⟨g', 0, none⟩) b.length k') b from fun W hW j hj => by
                  obtain ⟨d, ⟨A', c', e', -, -, h1⟩, h2, -⟩ := HLV.out.chg hW (Nat.lt_succ_self _)
                  injection e' with e1 e2 e3
                  obtain ⟨b', o', e4, -, hcell⟩ := h1 (by omega)
                  rw [← e1] at e4
                  injection e4 with e5
                  injection e5 with e6 e7
                  subst e6 e7
                  have hd : j < d.length := by omega
                  have hl : j < L.length := by have := HRL.out; omega
                  have hb := HBD.out L[j] (List.getElem_mem hl)
                  obtain ⟨hw, hr1⟩ := h2.get j hd hl
                  obtain ⟨g', k', e8, -, -⟩ := hr1.form hb.2.2.1
                  rw [e8] at hr1
                  refine ⟨Sq.wt c L[j], g', k', L[j], List.getElem?_eq_getElem hl, hb.2.1, hb.2.2.2, ?_, ?_, hr1⟩
                  · rw [show ol + j * 2 = ol + (j * 2 + 0) by omega, hcell j hd 0 (by decide), ← hw]
                    rfl
                  · rw [show ol + j * 2 + 1 = ol + (j * 2 + 1) by omega, hcell j hd 1 (by decide), ← e8]
                    rfl)
                have HCB := Lib.hid (show ∀ x j, j < r → Sq.cnt (L.take j) x ≤ 17825792 from fun x j hj => by
                  have := Sq.cnt_take_le L 32768 (fun b hb => (HBD.out b hb).2.1) x j
                  have hl := HLB.out
                  have h2 : j * 32768 ≤ 544 * 32768 := Nat.mul_le_mul_right _ (by omega)
                  omega)
                have HBZ := Lib.hid (show r ≤ 544 by have := HLB.out; omega)
                clear HLV HBD HNE HW HUE HUL HM HU0 HCM
                rcases (show r = N ∨ r < N by omega) with hrn | hrn
                · subst hrn
                  go_wp2_with fail
                  go_loopw [129] (fun u129 wr => ∃ j : Nat, j ≤ r ∧ u129 = .int .i64 j ∧ Hid (RF 272 wr w.heap.size go (Sq.cnt (L.take j))) ∧ Hid (Chg wz.heap.size [go] wz wr)) (fun u _ => r - (intOf u).toNat)
                  case atStart => exact ⟨0, by omega, rfl, Lib.hid (HO.out.congr fun x _ => by simp [Sq.cnt]), Lib.hid (Chg.refl _ _ _)⟩
                  case round =>
                    clear HO
                    obtain ⟨j, hj, rfl, HO, HC1⟩ := hrel
                    by_cases hjr : j < r
                    · have hjz : (j : Int) < (r : Int) := by omega
                      obtain ⟨n, g', k', b, hLj, hbl, hb272, s0, s1, hrb⟩ := HQ.out _ HC1.out j hjr
                      have hstep := fun x => Sq.cnt_take L j (by have := HRL.out; omega) x
                      have hLe : L[j]'(by have := HRL.out; omega) = b := by
                        rw [List.getElem?_eq_getElem (by have := HRL.out; omega)] at hLj
                        injection hLj
                      simp only [hLe] at hstep
                      have HST := Lib.hid hstep
                      have H272 := Lib.hid hb272
                      have HRB := Lib.hid hrb
                      obtain ⟨q, hq⟩ : ∃ q, q = b.length := ⟨_, rfl⟩
                      rw [← hq] at HRB s1 hbl
                      have HQL := Lib.hid hq
                      obtain ⟨wy, hwy⟩ : ∃ wy, wy = wr := ⟨_, rfl⟩
                      rw [← hwy] at HO HC1 HRB s0 s1
                      rw [← hwy]
                      have HA := Lib.hid ((Below.refl wy.heap.size wy).alloc (Nat.le_refl _) (.cells #[.int .i64 (n : Int), .slice (some ⟨g', 0, none⟩) q k'] 71))
                      have hly := HO.out.lt.2
                      have HLY := Lib.hid hly
                      clear hLj hLe hstep hb272 hrb hq hwy hly
                      go_wp2_with fail
                      go_loopw [136] (fun u136 wr => ∃ i : Nat, i ≤ q ∧ u136 = .int .i64 i ∧ Hid (RF 272 wr w.heap.size go (fun x => Sq.cnt (L.take j) x + (b.take i).count x)) ∧ Hid (Chg wy.heap.size [go] wy wr)) (fun u _ => q - (intOf u).toNat)
                      case atStart => exact ⟨0, by omega, rfl, Lib.hid ((HO.out.later HA.out).congr fun x _ => by simp), Lib.hid (Chg.of HA.out _)⟩
                      case round =>
                        clear HO HA
                        obtain ⟨i, hi, rfl, HO, HC2⟩ := hrel
                        by_cases hiq : i < q
                        · have hiz : (i : Int) < (q : Int) := by omega
                          have hib : i < b.length := by rw [← HQL.out]; exact hiq
                          have hx := H272.out b[i] (List.getElem_mem hib)
                          have hxc := (HRB.out.chg HC2.out fun z hz => ⟨(HRB.out.lt z hz).2, fun hm => by have := (HRB.out.lt z hz).1; rw [List.mem_singleton.1 hm] at this; omega⟩).cell HQL.out.symm hib
                          have hts : b.take (i + 1) = b.take i ++ [b[i]] := by rw [List.take_add_one, List.getElem?_eq_getElem hib]; rfl
                          obtain ⟨x, hxe⟩ : ∃ x, x = b[i] := ⟨_, rfl⟩
                          rw [← hxe] at hx hxc hts
                          have hoc := HO.out.cell hx
                          have hof := HO.out.frozen x
                          have hcb := HCB.out x j hjr
                          have hcb2 := List.count_le_length (a := x) (l := b.take i)
                          rw [List.length_take] at hcb2
                          obtain ⟨V, hV⟩ : ∃ V, V = Sq.cnt (L.take j) x + (b.take i).count x := ⟨_, rfl⟩
                          have hVb : V ≤ 20000000 := by omega
                          rw [← hV] at hoc
                          have HV := Lib.hid hV
                          have HTS := Lib.hid hts
                          clear hxe hts hcb hcb2 hV
                          go_wp2_with fail
                          go_roundw
                          case rel =>
                            refine ⟨i + 1, by omega, by go_num, Lib.hid ?_, Lib.hid (HC2.out.set (p := ⟨go, x, none⟩) (.inl (by simp)) _)⟩
                            have h9 := HO.out.set x (V + 1)
                            rw [Int.natCast_add] at h9
                            refine h9.congr fun z _ => ?_
                            rw [HTS.out, List.count_append]
                            by_cases hzx : z = x
                            · subst hzx
                              rw [if_pos rfl, HV.out]
                              simp
                              omega
                            · rw [if_neg hzx]
                              have : List.count z [x] = 0 := List.count_eq_zero.2 (by simp; exact hzx)
                              omega
                          case measure => simp [intOf]; omega
                        · obtain rfl : i = q := by omega
                          have ho := HO.out
                          rw [show b.take i = b from List.take_of_length_le (by rw [← HQL.out]; exact Nat.le_refl _)] at ho
                          have HO2 := Lib.hid (ho.congr fun x _ => (HST.out x).symm)
                          have HC3 := Lib.hid (HC1.out.next HC2.out)
                          clear ho HO
                          go_wp2_with fail
                          go_roundw
                          case rel => exact ⟨j + 1, by omega, by go_num, HO2, HC3⟩
                          case measure => simp [intOf]; omega
                    · obtain rfl : j = r := by omega
                      go_wp2_with fail
                      go_ret
                      exact ⟨go, rfl, by rw [HLG2.out]; exact HO.out, HB.out.trans (HC1.out.below HB.out.size fun z hz => by rw [List.mem_singleton.1 hz]; exact HBG.out)⟩
                · have y1 : (r : Int) < (N : Int) := by omega
                  have y2 : ¬ (N : Int) < (r : Int) := by omega
                  have y3 : ¬ N < r := by omega
                  go_wp2_with fail
                  go_loopw [129] (fun u129 wr => ∃ j : Nat, j ≤ r ∧ u129 = .int .i64 j ∧ Hid (RF 272 wr w.heap.size go (Sq.cnt (L.take j))) ∧ Hid (Chg wz.heap.size [go] wz wr)) (fun u _ => r - (intOf u).toNat)
                  case atStart => exact ⟨0, by omega, rfl, Lib.hid (HO.out.congr fun x _ => by simp [Sq.cnt]), Lib.hid (Chg.refl _ _ _)⟩
                  case round =>
                    clear HO
                    obtain ⟨j, hj, rfl, HO, HC1⟩ := hrel
                    by_cases hjr : j < r
                    · have hjz : (j : Int) < (r : Int) := by omega
                      obtain ⟨n, g', k', b, hLj, hbl, hb272, s0, s1, hrb⟩ := HQ.out _ HC1.out j hjr
                      have hstep := fun x => Sq.cnt_take L j (by have := HRL.out; omega) x
                      have hLe : L[j]'(by have := HRL.out; omega) = b := by
                        rw [List.getElem?_eq_getElem (by have := HRL.out; omega)] at hLj
                        injection hLj
                      simp only [hLe] at hstep
                      have HST := Lib.hid hstep
                      have H272 := Lib.hid hb272
                      have HRB := Lib.hid hrb
                      obtain ⟨q, hq⟩ : ∃ q, q = b.length := ⟨_, rfl⟩
                      rw [← hq] at HRB s1 hbl
                      have HQL := Lib.hid hq
                      obtain ⟨wy, hwy⟩ : ∃ wy, wy = wr := ⟨_, rfl⟩
                      rw [← hwy] at HO HC1 HRB s0 s1
                      rw [← hwy]
                      have HA := Lib.hid ((Below.refl wy.heap.size wy).alloc (Nat.le_refl _) (.cells #[.int .i64 (n : Int), .slice (some ⟨g', 0, none⟩) q k'] 71))
                      have hly := HO.out.lt.2
                      have HLY := Lib.hid hly
                      clear hLj hLe hstep hb272 hrb hq hwy hly
                      go_wp2_with fail
                      go_loopw [136] (fun u136 wr => ∃ i : Nat, i ≤ q ∧ u136 = .int .i64 i ∧ Hid (RF 272 wr w.heap.size go (fun x => Sq.cnt (L.take j) x + (b.take i).count x)) ∧ Hid (Chg wy.heap.size [go] wy wr)) (fun u _ => q - (intOf u).toNat)
                      case atStart => exact ⟨0, by omega, rfl, Lib.hid ((HO.out.later HA.out).congr fun x _ => by simp), Lib.hid (Chg.of HA.out _)⟩
                      case round =>
                        clear HO HA
                        obtain ⟨i, hi, rfl, HO, HC2⟩ := hrel
                        by_cases hiq : i < q
                        · have hiz : (i : Int) < (q : Int) := by omega
                          have hib : i < b.length := by rw [← HQL.out]; exact hiq
                          have hx := H272.out b[i] (List.getElem_mem hib)
                          have hxc := (HRB.out.chg HC2.out fun z hz => ⟨(HRB.out.lt z hz).2, fun hm => by have := (HRB.out.lt z hz).1; rw [List.mem_singleton.1 hm] at this; omega⟩).cell HQL.out.symm hib
                          have hts : b.take (i + 1) = b.take i ++ [b[i]] := by rw [List.take_add_one, List.getElem?_eq_getElem hib]; rfl
                          obtain ⟨x, hxe⟩ : ∃ x, x = b[i] := ⟨_, rfl⟩
                          rw [← hxe] at hx hxc hts
                          have hoc := HO.out.cell hx
                          have hof := HO.out.frozen x
                          have hcb := HCB.out x j hjr
                          have hcb2 := List.count_le_length (a := x) (l := b.take i)
                          rw [List.length_take] at hcb2
                          obtain ⟨V, hV⟩ : ∃ V, V = Sq.cnt (L.take j) x + (b.take i).count x := ⟨_, rfl⟩
                          have hVb : V ≤ 20000000 := by omega
                          rw [← hV] at hoc
                          have HV := Lib.hid hV
                          have HTS := Lib.hid hts
                          clear hxe hts hcb hcb2 hV
                          go_wp2_with fail
                          go_roundw
                          case rel =>
                            refine ⟨i + 1, by omega, by go_num, Lib.hid ?_, Lib.hid (HC2.out.set (p := ⟨go, x, none⟩) (.inl (by simp)) _)⟩
                            have h9 := HO.out.set x (V + 1)
                            rw [Int.natCast_add] at h9
                            refine h9.congr fun z _ => ?_
                            rw [HTS.out, List.count_append]
                            by_cases hzx : z = x
                            · subst hzx
                              rw [if_pos rfl, HV.out]
                              simp
                              omega
                            · rw [if_neg hzx]
                              have : List.count z [x] = 0 := List.count_eq_zero.2 (by simp; exact hzx)
                              omega
                          case measure => simp [intOf]; omega
                        · obtain rfl : i = q := by omega
                          have ho := HO.out
                          rw [show b.take i = b from List.take_of_length_le (by rw [← HQL.out]; exact Nat.le_refl _)] at ho
                          have HO2 := Lib.hid (ho.congr fun x _ => (HST.out x).symm)
                          have HC3 := Lib.hid (HC1.out.next HC2.out)
                          clear ho HO
                          go_wp2_with fail
                          go_roundw
                          case rel => exact ⟨j + 1, by omega, by go_num, HO2, HC3⟩
                          case measure => simp [intOf]; omega
                    · obtain rfl : j = r := by omega
                      go_wp2_with fail
                      go_ret
                      exact ⟨go, rfl, by rw [HLG2.out]; exact HO.out, HB.out.trans (HC1.out.below HB.out.size fun z hz => by rw [List.mem_singleton.1 hz]; exact HBG.out)⟩
end Go.Proofs.YtcojoigbcfaajaaDoor
