/- PivotAddsUp: the walk. -/
import Derived.Test.YtmapagbmihpbmaaGreatDoorGy
import Derived.Test.YtmapagbmihpbmaaGreatDoorPvM
import Derived.Deep.DeepCutAuto
set_option linter.unusedSimpArgs false
set_option linter.unusedVariables false
namespace Go.Proofs.YtmapagbmihpbmaaGreatDoor
open Go.RowKit

set_option maxRecDepth 100000 in
set_option maxHeartbeats 40000000 in
theorem adds_w (A : Option Addr) (nl cl0 : Nat) (Z : List Int) (count : Bool) (w : World) (he : VEnv w) (hZ : RdZ w (.slice A nl cl0) Z) (hn : nl ≤ 9223372036854775807) (hx : ∀ x ∈ Z, -9223372036854775808 ≤ x ∧ x ≤ 9223372036854775807) :
    Calls Tryz.prog 3 #[.slice A nl cl0, .bool count] w fun e w' => e = .returned (.bool true) ∧ Below w.heap.size w w' := by
  obtain ⟨R, hR⟩ : ∃ R, R = min nl 40 / 3 + 1 := ⟨_, rfl⟩
  have r1 : 1 ≤ R := by omega
  have r2 : R ≤ 14 := by omega
  have HMX := Lib.hid (show Calls Tryz.prog 5 #[.slice A nl cl0, .int .i64 3] w fun e w' => ∃ gv cv, e = .returned (.agg #[.int .i64 5, .string ⟨#[]⟩, .string ⟨#[]⟩, .string ⟨#[]⟩, .bool false, .int .i64 0, .int .i64 ((R : Int) + 1), .int .i64 3, .slice (some ⟨gv, 0, none⟩) ((R + 1) * 3) cv]) ∧ Reads 9 csV w' (.slice (some ⟨gv, 0, none⟩) ((R + 1) * 3) cv) (itms 3 Z ((R + 1) * 3)) ∧ Below w.heap.size w w' from by
    have := mixed_any A nl cl0 Z w he hZ hn hx (min nl 40 / 3) rfl
    rw [show min nl 40 / 3 + 2 = R + 1 by omega, show ((min nl 40 / 3 : Nat) : Int) + 2 = (R : Int) + 1 by omega] at this
    exact this)
  obtain ⟨us, hus⟩ : ∃ us, us = itms 3 Z ((R + 1) * 3) := ⟨_, rfl⟩
  have HUS := Lib.hid hus
  rw [← hus] at HMX
  have hul : us.length = (R + 1) * 3 := by rw [hus, itms_len]
  have hok : ∀ u ∈ us, u.ok ∧ u.sz := by rw [hus]; exact itms_all 3 Z _
  have hcol : ∀ c, c < 3 → ∀ u ∈ colL us c R, u.ok := fun c hc u hu => by
    obtain ⟨i, hi, rfl⟩ := List.mem_map.1 hu
    refine (hok _ ?_).1
    have hi := List.mem_range.1 hi
    rw [getElem!_pos us _ (by rw [hul]; omega)]
    exact List.getElem_mem _
  obtain ⟨RL, hRL⟩ : ∃ L, L = recsP us 0 1 R := ⟨_, rfl⟩
  obtain ⟨n, hn1⟩ : ∃ n, n = (keysP (colL us 0 R)).length := ⟨_, rfl⟩
  obtain ⟨m, hm1⟩ : ∃ m, m = (keysP (colL us 1 R)).length := ⟨_, rfl⟩
  have hrow : ∀ r ∈ RL, r.row < n := by rw [hRL, hn1]; exact recs_row us 0 1 R (hcol 0 (by decide))
  have hcl : ∀ r ∈ RL, r.col < m := by rw [hRL, hm1]; exact recs_col us 0 1 R (hcol 1 (by decide))
  have hnum : ∀ r ∈ RL, r.v = nV (numR Z r) ∧ numR Z r ≤ 50 := by rw [hRL, hus]; exact recs_num Z 0 1 R
  have hlen : RL.length = R := by rw [hRL]; exact recs_len us 0 1 R
  have bn : n ≤ 14 := by rw [hn1]; have := keysP_len (colL us 0 R); rw [colL_len] at this; omega
  have bm : m ≤ 14 := by rw [hm1]; have := keysP_len (colL us 1 R); rw [colL_len] at this; omega
  have hn0 : 0 < n := by rw [hn1]; exact keysP_pos _ (by rw [colL_len]; omega)
  have hm0 : 0 < m := by rw [hm1]; exact keysP_pos _ (by rw [colL_len]; omega)
  have hnm0 : 0 < n * m := Nat.mul_pos hn0 hm0
  obtain ⟨how, hhow⟩ : ∃ h : Int, h = if count = true then 1 else 0 := ⟨_, rfl⟩
  have hh : how = 0 ∨ how = 1 := by rw [hhow]; split <;> simp
  have HHW := Lib.hid hhow
  clear hhow
  have HSRC := Lib.hid (show ∀ W gv cv, Reads 9 csV W (.slice (some ⟨gv, 0, none⟩) ((R + 1) * 3) cv) us → Src W ⟨5, ⟨#[]⟩, ⟨#[]⟩, ⟨#[]⟩, false, 0, (R : Int) + 1, 3, some ⟨gv, 0, none⟩, (R + 1) * 3, cv⟩ us R from fun W gv cv h => ⟨rfl, rfl, r1, r2, hul, hul.symm, h, hok⟩)
  have HZB := Lib.hid (show ∀ gv cv, Vl.zB ⟨5, ⟨#[]⟩, ⟨#[]⟩, ⟨#[]⟩, false, 0, (R : Int) + 1, 3, some ⟨gv, 0, none⟩, (R + 1) * 3, cv⟩ = true from fun gv cv => by simp [Vl.zB, Lib.toList_data, frSame])
  have HMK := Lib.hid (show ∀ (v : Vl) (a : Ask) W, VEnv W → Src W v us R → v.k = 5 → v.zB = true → AskB W a → a.cr = 0 → a.cl = 1 → a.how = how → Calls Tryz.prog 6 #[v.v, a.v] W fun e w' => ∃ (g1 c1 g2 c2 : Nat) (A3 : Option Addr) (c3 : Nat) (A4 : Option Addr) (c4 : Nat) (A5 : Option Addr) (c5 : Nat) (tt : ByteArray), e = .returned (.tuple #[.agg #[.slice (some ⟨g1, 0, none⟩) n c1, .slice (some ⟨g2, 0, none⟩) m c2, .slice A3 (n * m) c3, .slice A4 n c4, .slice A5 m c5, .int .i64 1, .string tt, .string ⟨#[49]⟩, .string ⟨#[]⟩, .bool false, .int .i64 0, .int .i64 0, .int .i64 0, .slice none 0 0], .int .i64 0]) ∧ tt = nt (resN (numR Z) how RL) ∧ Reads 9 csV w' (.slice A3 (n * m) c3) ((List.range (n * m)).map (cellV (numR Z) how RL m)) ∧ Reads 9 csV w' (.slice A4 n c4) ((List.range n).map (rowV (numR Z) how RL)) ∧ Reads 9 csV w' (.slice A5 m c5) ((List.range m).map (colV (numR Z) how RL)) ∧ Below W.heap.size W w' from fun v a W h1 h2 h3 h4 h5 h6 h7 h8 => by
    have := make_any v us R a (numR Z) W h1 h2 h3 h4 h5 (by rw [h6, h7]; decide) (by rw [h8]; exact hh) (by rw [h6, h7, ← hRL]; exact hnum)
    rw [h6, h7, h8] at this
    unfold MakeRet MakeR at this
    rw [← hRL, ← hn1, ← hm1] at this
    refine this.mono fun e w' h => ?_
    obtain ⟨g1, c1, g2, c2, A3, c3, A4, c4, A5, c5, e1, -, -, e2, e3, e4, e5⟩ := h
    exact ⟨g1, c1, g2, c2, A3, c3, A4, c4, A5, c5, _, e1, rfl, e2, e3, e4, e5⟩)
  have HSO := Lib.hid (show ∀ (v : Vl) (a : Ask) W (i q : Nat), VEnv W → Src W v us R → v.k = 5 → v.zB = true → AskB W a → a.cr = 0 → a.cl = 1 → a.how = how → i < n → q < m → Calls Tryz.prog 9 #[v.v, a.v, .int .i64 (i : Int), .int .i64 (q : Int)] W fun e w' => ∃ A c, e = .returned (.tuple #[.slice A (grM RL i q).length c, .int .i64 0]) ∧ Below W.heap.size W w' from fun v a W i q h1 h2 h3 h4 h5 h6 h7 h8 h9 h10 => by
    have := source_any v us R a i q W h1 h2 h3 h4 h5 (by rw [h6, h7]; decide) (by rw [h8]; rcases hh with e | e <;> (rw [e]; decide)) (by rw [h6, ← hn1]; exact h9) (by rw [h7, ← hm1]; exact h10)
    rw [h6, h7, ← hRL] at this
    exact this)
  obtain ⟨LN, hLN⟩ : ∃ f : Nat → Nat → Nat, f = fun i k => (grM RL i k).length := ⟨_, rfl⟩
  obtain ⟨CN, hCN⟩ : ∃ f : Nat → Nat → Nat, f = fun i k => resN (numR Z) how (grM RL i k) := ⟨_, rfl⟩
  obtain ⟨RN, hRN⟩ : ∃ f : Nat → Nat, f = fun i => resN (numR Z) how (Pv.gr1 Rm.row RL i) := ⟨_, rfl⟩
  obtain ⟨KN, hKN⟩ : ∃ f : Nat → Nat, f = fun k => resN (numR Z) how (Pv.gr1 Rm.col RL k) := ⟨_, rfl⟩
  obtain ⟨T, hT⟩ : ∃ T, T = resN (numR Z) how RL := ⟨_, rfl⟩
  have HTN := Lib.hid (show TabN n m R T LN CN RN KN from ⟨by rw [hCN, hRN]; exact row_sum (numR Z) how RL m hcl, by rw [hRN, hT]; exact all_sum (numR Z) how RL n hrow, by rw [hKN, hT]; exact col_sum (numR Z) how RL m hcl, by rw [hLN]; exact (seen_sum RL n m hrow hcl).trans hlen, by rw [hLN, hCN]; exact fun i k h => resN_nil _ _ _ h, by rw [hT]; exact resN_le (numR Z) how RL (fun r hr => (hnum r hr).2) (by omega)⟩)
  have HCV := Lib.hid (show ∀ i k, k < m → cellV (numR Z) how RL m (i * m + k) = if LN i k = 0 then zV else nV (CN i k) from fun i k hk => by rw [hLN, hCN]; exact cell_at (numR Z) how RL m i k hk)
  have HRV := Lib.hid (show ∀ i, rowV (numR Z) how RL i = nV (RN i) from fun i => by rw [hRN]; rfl)
  have HKV := Lib.hid (show ∀ k, colV (numR Z) how RL k = nV (KN k) from fun i => by rw [hKN]; rfl)
  have HGL := Lib.hid (show ∀ i k, (grM RL i k).length = LN i k from fun i k => by rw [hLN])
  have HTE := Lib.hid hT
  have HLN := Lib.hid hlen
  have HE := Lib.hid he
  clear hZ hx he hR hus hul hok hcol hRL hn1 hm1 hrow hcl hnum hlen hLN hCN hRN hKN hT
  go_enter Tryz.func3, Tryz.ntmps3
  go_upto_region 3 with (go_at_call 5; (with_reducible refine HMX.out.mono ?_); rintro e w1 ⟨gv, cv, rfl, hrd, hb⟩; have HRD := Lib.hid hrd; have HB1 := Lib.hid hb; clear hrd hb)
  have hl0 : Loc w [] w1 := ⟨HB1.out, fun x hx => by cases hx⟩
  have hb0 : Below w1.heap.size w1 ((((w1.alloc (.cells #[.int .i64 5, .string ⟨#[]⟩, .string ⟨#[]⟩, .string ⟨#[]⟩, .bool false, .int .i64 0, .int .i64 ((R : Int) + 1), .int .i64 3, .slice (some ⟨gv, 0, none⟩) ((R + 1) * 3) cv] 27)).alloc (.cells #[.int .i64 0] 3)).alloc (.cells #[.int .i64 1] 3)).alloc (.cells #[.slice (some ⟨w1.heap.size + 1, 0, none⟩) 1 1, .slice (some ⟨w1.heap.size + 1 + 1, 0, none⟩) 1 1, .int .i64 2, .int .i64 0] 30)) := (((((Below.refl _ _).alloc (Nat.le_refl _) _).alloc (by simp) _).alloc (by simp; omega) _).alloc (by simp; omega) _)
  have HB3 := Lib.hid hb0
  have HL3 := Lib.hid ((((hl0.alloc' rfl 27 #[.int .i64 5, .string ⟨#[]⟩, .string ⟨#[]⟩, .string ⟨#[]⟩, .bool false, .int .i64 0, .int .i64 ((R : Int) + 1), .int .i64 3, .slice (some ⟨gv, 0, none⟩) ((R + 1) * 3) cv]).alloc' (g := w1.heap.size + 1) (by simp) 3 #[.int .i64 0]).alloc' (g := w1.heap.size + 1 + 1) (by simp) 3 #[.int .i64 1]).alloc' (g := w1.heap.size + 1 + 1 + 1) (by simp) 30 #[.slice (some ⟨w1.heap.size + 1, 0, none⟩) 1 1, .slice (some ⟨w1.heap.size + 1 + 1, 0, none⟩) 1 1, .int .i64 2, .int .i64 0])
  clear hl0 hb0
  revert HB3 HL3
  generalize (((w1.alloc (.cells #[.int .i64 5, .string ⟨#[]⟩, .string ⟨#[]⟩, .string ⟨#[]⟩, .bool false, .int .i64 0, .int .i64 ((R : Int) + 1), .int .i64 3, .slice (some ⟨gv, 0, none⟩) ((R + 1) * 3) cv] 27)).alloc (.cells #[.int .i64 0] 3)).alloc (.cells #[.int .i64 1] 3)).alloc (.cells #[.slice (some ⟨w1.heap.size + 1, 0, none⟩) 1 1, .slice (some ⟨w1.heap.size + 1 + 1, 0, none⟩) 1 1, .int .i64 2, .int .i64 0] 30) = W3
  intro HB3 HL3
  go_upto_if 26 with fail
  go_cut [] (fun wx => Hid (Loc w [(w1.heap.size + 1 + 1 + 1, 30, #[.slice (some ⟨w1.heap.size + 1, 0, none⟩) 1 1, .slice (some ⟨w1.heap.size + 1 + 1, 0, none⟩) 1 1, .int .i64 2, .int .i64 how]), (w1.heap.size + 1 + 1, 3, #[.int .i64 1]), (w1.heap.size + 1, 3, #[.int .i64 0]), (w1.heap.size, 27, #[.int .i64 5, .string ⟨#[]⟩, .string ⟨#[]⟩, .string ⟨#[]⟩, .bool false, .int .i64 0, .int .i64 ((R : Int) + 1), .int .i64 3, .slice (some ⟨gv, 0, none⟩) ((R + 1) * 3) cv])] wx) ∧ Hid (Below w1.heap.size w1 wx))
  case first =>
    have hhow := HHW.out
    cases count
    · rw [if_neg (by decide)] at hhow
      subst hhow
      go_wp2_with fail
      go_meet
      exact ⟨HL3, HB3⟩
    · rw [if_pos rfl] at hhow
      subst hhow
      have hk := HL3.out.blk (g := w1.heap.size + 1 + 1 + 1) (t := 30) (List.mem_cons_self ..)
      have k3 : W3.cell? ⟨w1.heap.size + 1 + 1 + 1, 3, none⟩ = some (.int .i64 0) := hk.cell 3
      have f3 := hk.frozen 3
      go_wp2_with fail
      go_meet
      have h1 := HL3.out.set1 (i := 3) (fun x hx => by
        simp only [List.mem_cons, List.not_mem_nil, or_false] at hx
        rcases hx with rfl | rfl | rfl <;> (dsimp only; omega)) (.int .i64 1)
      exact ⟨Lib.hid h1, Lib.hid (HB3.out.setCell (p := ⟨w1.heap.size + 1 + 1 + 1, 3, none⟩) (by dsimp only; omega) _)⟩
  case rest =>
    clear HL3 HB3
    obtain ⟨HL3, HB3⟩ := hcut
    have HAK := Lib.hid (show ∀ W, Loc w [(w1.heap.size + 1 + 1 + 1, 30, #[.slice (some ⟨w1.heap.size + 1, 0, none⟩) 1 1, .slice (some ⟨w1.heap.size + 1 + 1, 0, none⟩) 1 1, .int .i64 2, .int .i64 how]), (w1.heap.size + 1 + 1, 3, #[.int .i64 1]), (w1.heap.size + 1, 3, #[.int .i64 0]), (w1.heap.size, 27, #[.int .i64 5, .string ⟨#[]⟩, .string ⟨#[]⟩, .string ⟨#[]⟩, .bool false, .int .i64 0, .int .i64 ((R : Int) + 1), .int .i64 3, .slice (some ⟨gv, 0, none⟩) ((R + 1) * 3) cv])] W → AskB W ⟨w1.heap.size + 1, 0, 1, w1.heap.size + 1 + 1, 0, 1, 0, 1, how⟩ from fun W h => ⟨h.blk (g := w1.heap.size + 1) (t := 3) (List.mem_cons_of_mem _ (List.mem_cons_of_mem _ (List.mem_cons_self ..))), h.blk (g := w1.heap.size + 1 + 1) (t := 3) (List.mem_cons_of_mem _ (List.mem_cons_self ..)), rfl, rfl, rfl, rfl, (show (0 : Nat) < 3 by decide), (show (1 : Nat) < 3 by decide)⟩)
    have HCL := Lib.hid (show ∀ W, Loc w [(w1.heap.size + 1 + 1 + 1, 30, #[.slice (some ⟨w1.heap.size + 1, 0, none⟩) 1 1, .slice (some ⟨w1.heap.size + 1 + 1, 0, none⟩) 1 1, .int .i64 2, .int .i64 how]), (w1.heap.size + 1 + 1, 3, #[.int .i64 1]), (w1.heap.size + 1, 3, #[.int .i64 0]), (w1.heap.size, 27, #[.int .i64 5, .string ⟨#[]⟩, .string ⟨#[]⟩, .string ⟨#[]⟩, .bool false, .int .i64 0, .int .i64 ((R : Int) + 1), .int .i64 3, .slice (some ⟨gv, 0, none⟩) ((R + 1) * 3) cv])] W → (W.cell? ⟨w1.heap.size, 0, none⟩ = some (.int .i64 5) ∧ W.cell? ⟨w1.heap.size, 1, none⟩ = some (.string ⟨#[]⟩) ∧ W.cell? ⟨w1.heap.size, 2, none⟩ = some (.string ⟨#[]⟩) ∧ W.cell? ⟨w1.heap.size, 3, none⟩ = some (.string ⟨#[]⟩) ∧ W.cell? ⟨w1.heap.size, 4, none⟩ = some (.bool false) ∧ W.cell? ⟨w1.heap.size, 5, none⟩ = some (.int .i64 0) ∧ W.cell? ⟨w1.heap.size, 6, none⟩ = some (.int .i64 ((R : Int) + 1)) ∧ W.cell? ⟨w1.heap.size, 7, none⟩ = some (.int .i64 3) ∧ W.cell? ⟨w1.heap.size, 8, none⟩ = some (.slice (some ⟨gv, 0, none⟩) ((R + 1) * 3) cv)) ∧ W.cell? ⟨w1.heap.size + 1 + 1 + 1, 0, none⟩ = some (.slice (some ⟨w1.heap.size + 1, 0, none⟩) 1 1) ∧ W.cell? ⟨w1.heap.size + 1 + 1 + 1, 1, none⟩ = some (.slice (some ⟨w1.heap.size + 1 + 1, 0, none⟩) 1 1) ∧ W.cell? ⟨w1.heap.size + 1 + 1 + 1, 2, none⟩ = some (.int .i64 2) ∧ W.cell? ⟨w1.heap.size + 1 + 1 + 1, 3, none⟩ = some (.int .i64 how) from fun W h => by
      have h1 := h.blk (g := w1.heap.size + 1 + 1 + 1) (t := 30) (List.mem_cons_self ..)
      have h2 := h.blk (g := w1.heap.size) (t := 27) (List.mem_cons_of_mem _ (List.mem_cons_of_mem _ (List.mem_cons_of_mem _ (List.mem_cons_self ..))))
      exact ⟨⟨h2.cell 0, h2.cell 1, h2.cell 2, h2.cell 3, h2.cell 4, h2.cell 5, h2.cell 6, h2.cell 7, h2.cell 8⟩, h1.cell 0, h1.cell 1, h1.cell 2, h1.cell 3⟩)
    have HMW := Lib.hid (show ∀ W, Loc w [(w1.heap.size + 1 + 1 + 1, 30, #[.slice (some ⟨w1.heap.size + 1, 0, none⟩) 1 1, .slice (some ⟨w1.heap.size + 1 + 1, 0, none⟩) 1 1, .int .i64 2, .int .i64 how]), (w1.heap.size + 1 + 1, 3, #[.int .i64 1]), (w1.heap.size + 1, 3, #[.int .i64 0]), (w1.heap.size, 27, #[.int .i64 5, .string ⟨#[]⟩, .string ⟨#[]⟩, .string ⟨#[]⟩, .bool false, .int .i64 0, .int .i64 ((R : Int) + 1), .int .i64 3, .slice (some ⟨gv, 0, none⟩) ((R + 1) * 3) cv])] W → Below w1.heap.size w1 W → Calls Tryz.prog 6 #[.agg #[.int .i64 5, .string ⟨#[]⟩, .string ⟨#[]⟩, .string ⟨#[]⟩, .bool false, .int .i64 0, .int .i64 ((R : Int) + 1), .int .i64 3, .slice (some ⟨gv, 0, none⟩) ((R + 1) * 3) cv], .agg #[.slice (some ⟨w1.heap.size + 1, 0, none⟩) 1 1, .slice (some ⟨w1.heap.size + 1 + 1, 0, none⟩) 1 1, .int .i64 2, .int .i64 how]] W fun e w' => ∃ (g1 c1 g2 c2 : Nat) (A3 : Option Addr) (c3 : Nat) (A4 : Option Addr) (c4 : Nat) (A5 : Option Addr) (c5 : Nat) (tt : ByteArray), e = .returned (.tuple #[.agg #[.slice (some ⟨g1, 0, none⟩) n c1, .slice (some ⟨g2, 0, none⟩) m c2, .slice A3 (n * m) c3, .slice A4 n c4, .slice A5 m c5, .int .i64 1, .string tt, .string ⟨#[49]⟩, .string ⟨#[]⟩, .bool false, .int .i64 0, .int .i64 0, .int .i64 0, .slice none 0 0], .int .i64 0]) ∧ tt = nt (resN (numR Z) how RL) ∧ Reads 9 csV w' (.slice A3 (n * m) c3) ((List.range (n * m)).map (cellV (numR Z) how RL m)) ∧ Reads 9 csV w' (.slice A4 n c4) ((List.range n).map (rowV (numR Z) how RL)) ∧ Reads 9 csV w' (.slice A5 m c5) ((List.range m).map (colV (numR Z) how RL)) ∧ Below W.heap.size W w' from fun W h1 h2 => HMK.out ⟨5, ⟨#[]⟩, ⟨#[]⟩, ⟨#[]⟩, false, 0, (R : Int) + 1, 3, some ⟨gv, 0, none⟩, (R + 1) * 3, cv⟩ ⟨w1.heap.size + 1, 0, 1, w1.heap.size + 1 + 1, 0, 1, 0, 1, how⟩ W (HE.out.below h1.bel) (HSRC.out W gv cv (HRD.out.below h2)) rfl (HZB.out gv cv) (HAK.out W h1) rfl rfl rfl)
    have HSW := Lib.hid (show ∀ W (i q : Nat), Loc w [(w1.heap.size + 1 + 1 + 1, 30, #[.slice (some ⟨w1.heap.size + 1, 0, none⟩) 1 1, .slice (some ⟨w1.heap.size + 1 + 1, 0, none⟩) 1 1, .int .i64 2, .int .i64 how]), (w1.heap.size + 1 + 1, 3, #[.int .i64 1]), (w1.heap.size + 1, 3, #[.int .i64 0]), (w1.heap.size, 27, #[.int .i64 5, .string ⟨#[]⟩, .string ⟨#[]⟩, .string ⟨#[]⟩, .bool false, .int .i64 0, .int .i64 ((R : Int) + 1), .int .i64 3, .slice (some ⟨gv, 0, none⟩) ((R + 1) * 3) cv])] W → Below w1.heap.size w1 W → i < n → q < m → Calls Tryz.prog 9 #[.agg #[.int .i64 5, .string ⟨#[]⟩, .string ⟨#[]⟩, .string ⟨#[]⟩, .bool false, .int .i64 0, .int .i64 ((R : Int) + 1), .int .i64 3, .slice (some ⟨gv, 0, none⟩) ((R + 1) * 3) cv], .agg #[.slice (some ⟨w1.heap.size + 1, 0, none⟩) 1 1, .slice (some ⟨w1.heap.size + 1 + 1, 0, none⟩) 1 1, .int .i64 2, .int .i64 how], .int .i64 (i : Int), .int .i64 (q : Int)] W fun e w' => ∃ A c, e = .returned (.tuple #[.slice A (grM RL i q).length c, .int .i64 0]) ∧ Below W.heap.size W w' from fun W i q h1 h2 h3 h4 => HSO.out ⟨5, ⟨#[]⟩, ⟨#[]⟩, ⟨#[]⟩, false, 0, (R : Int) + 1, 3, some ⟨gv, 0, none⟩, (R + 1) * 3, cv⟩ ⟨w1.heap.size + 1, 0, 1, w1.heap.size + 1 + 1, 0, 1, 0, 1, how⟩ W i q (HE.out.below h1.bel) (HSRC.out W gv cv (HRD.out.below h2)) rfl (HZB.out gv cv) (HAK.out W h1) rfl rfl rfl h3 h4)
    clear HMK HSO HSRC HZB HMX HUS
    obtain ⟨⟨k0, k1, k2, k3, k4, k5, k6, k7, k8⟩, p0, p1, p2, p3⟩ := HCL.out _ HL3.out
    go_upto_region 8 with (go_at_call 6; (with_reducible refine (HMW.out _ HL3.out HB3.out).mono ?_); rintro e w4 ⟨g1, c1, g2, c2, A3, c3, A4, c4, A5, c5, tt, rfl, htt, hr3, hr4, hr5, hb⟩; have HTT := Lib.hid htt; have HR3 := Lib.hid hr3; have HR4 := Lib.hid hr4; have HR5 := Lib.hid hr5; have HL4 := Lib.hid (HL3.out.step hb); have HB4 := Lib.hid (HB3.out.trans (hb.mono HB3.out.size)); clear htt hr3 hr4 hr5 hb k0 k1 k2 k3 k4 k5 k6 k7 k8 p0 p1 p2 p3)
    have HC3 := Lib.hid (reads_at HR3.out)
    have HC4 := Lib.hid (reads_at HR4.out)
    have HC5 := Lib.hid (reads_at HR5.out)
    obtain ⟨b3, o3, rfl, -⟩ := HC3.out 0 hnm0
    obtain ⟨b4, o4, rfl, -⟩ := HC4.out 0 hn0
    obtain ⟨b5, o5, rfl, -⟩ := HC5.out 0 hm0
    have hb5 : Below w4.heap.size w4 (w4.alloc (.cells #[.slice (some ⟨g1, 0, none⟩) n c1, .slice (some ⟨g2, 0, none⟩) m c2, .slice (some ⟨b3, o3, none⟩) (n * m) c3, .slice (some ⟨b4, o4, none⟩) n c4, .slice (some ⟨b5, o5, none⟩) m c5, .int .i64 1, .string tt, .string ⟨#[49]⟩, .string ⟨#[]⟩, .bool false, .int .i64 0, .int .i64 0, .int .i64 0, .slice none 0 0] 33)) := (Below.refl _ _).alloc (Nat.le_refl _) _
    have HB5 := Lib.hid hb5
    have HL5 := Lib.hid (HL4.out.alloc' rfl 33 #[.slice (some ⟨g1, 0, none⟩) n c1, .slice (some ⟨g2, 0, none⟩) m c2, .slice (some ⟨b3, o3, none⟩) (n * m) c3, .slice (some ⟨b4, o4, none⟩) n c4, .slice (some ⟨b5, o5, none⟩) m c5, .int .i64 1, .string tt, .string ⟨#[49]⟩, .string ⟨#[]⟩, .bool false, .int .i64 0, .int .i64 0, .int .i64 0, .slice none 0 0])
    have HBW := Lib.hid (show ∀ W, Below w4.heap.size w4 W → Below w1.heap.size w1 W from fun W h => HB4.out.trans (h.mono HB4.out.size))
    have HLA := Lib.hid (show ∀ W, Below w4.heap.size w4 W → Loc w [(w1.heap.size + 1 + 1 + 1, 30, #[.slice (some ⟨w1.heap.size + 1, 0, none⟩) 1 1, .slice (some ⟨w1.heap.size + 1 + 1, 0, none⟩) 1 1, .int .i64 2, .int .i64 how]), (w1.heap.size + 1 + 1, 3, #[.int .i64 1]), (w1.heap.size + 1, 3, #[.int .i64 0]), (w1.heap.size, 27, #[.int .i64 5, .string ⟨#[]⟩, .string ⟨#[]⟩, .string ⟨#[]⟩, .bool false, .int .i64 0, .int .i64 ((R : Int) + 1), .int .i64 3, .slice (some ⟨gv, 0, none⟩) ((R + 1) * 3) cv])] W from fun W h => HL4.out.step h)
    clear HR3 HR4 HR5 hb5 HL3 HB3 HB4 HMW HAK
    revert HB5 HL5
    generalize w4.alloc (.cells #[.slice (some ⟨g1, 0, none⟩) n c1, .slice (some ⟨g2, 0, none⟩) m c2, .slice (some ⟨b3, o3, none⟩) (n * m) c3, .slice (some ⟨b4, o4, none⟩) n c4, .slice (some ⟨b5, o5, none⟩) m c5, .int .i64 1, .string tt, .string ⟨#[49]⟩, .string ⟨#[]⟩, .bool false, .int .i64 0, .int .i64 0, .int .i64 0, .slice none 0 0] 33) = W5
    intro HB5 HL5
    obtain ⟨t0, ht0⟩ : ∃ t, t = nt 0 := ⟨_, rfl⟩
    have HT0 := Lib.hid ht0
    have HOF := Lib.hid (show ∀ W, VEnv W → Calls Tryz.prog 7 #[.int .i64 0] W fun e w' => e = .returned (.agg #[.string t0, .string ⟨#[49]⟩]) ∧ Below W.heap.size W w' from fun W h => by rw [ht0]; exact of_t 0 W (by decide) h.pw)
    clear ht0
    have HTB := Lib.hid (show ∀ W, Loc w ((w4.heap.size, 33, #[.slice (some ⟨g1, 0, none⟩) n c1, .slice (some ⟨g2, 0, none⟩) m c2, .slice (some ⟨b3, o3, none⟩) (n * m) c3, .slice (some ⟨b4, o4, none⟩) n c4, .slice (some ⟨b5, o5, none⟩) m c5, .int .i64 1, .string tt, .string ⟨#[49]⟩, .string ⟨#[]⟩, .bool false, .int .i64 0, .int .i64 0, .int .i64 0, .slice none 0 0]) :: [(w1.heap.size + 1 + 1 + 1, 30, #[.slice (some ⟨w1.heap.size + 1, 0, none⟩) 1 1, .slice (some ⟨w1.heap.size + 1 + 1, 0, none⟩) 1 1, .int .i64 2, .int .i64 how]), (w1.heap.size + 1 + 1, 3, #[.int .i64 1]), (w1.heap.size + 1, 3, #[.int .i64 0]), (w1.heap.size, 27, #[.int .i64 5, .string ⟨#[]⟩, .string ⟨#[]⟩, .string ⟨#[]⟩, .bool false, .int .i64 0, .int .i64 ((R : Int) + 1), .int .i64 3, .slice (some ⟨gv, 0, none⟩) ((R + 1) * 3) cv])]) W → W.cell? ⟨w4.heap.size, 0, none⟩ = some (.slice (some ⟨g1, 0, none⟩) n c1) ∧ W.cell? ⟨w4.heap.size, 1, none⟩ = some (.slice (some ⟨g2, 0, none⟩) m c2) ∧ W.cell? ⟨w4.heap.size, 2, none⟩ = some (.slice (some ⟨b3, o3, none⟩) (n * m) c3) ∧ W.cell? ⟨w4.heap.size, 3, none⟩ = some (.slice (some ⟨b4, o4, none⟩) n c4) ∧ W.cell? ⟨w4.heap.size, 4, none⟩ = some (.slice (some ⟨b5, o5, none⟩) m c5) ∧ W.cell? ⟨w4.heap.size, 6, none⟩ = some (.string tt) ∧ W.cell? ⟨w4.heap.size, 7, none⟩ = some (.string ⟨#[49]⟩) from fun W h => by
      have h1 := h.blk (g := w4.heap.size) (t := 33) (List.mem_cons_self ..)
      exact ⟨h1.cell 0, h1.cell 1, h1.cell 2, h1.cell 3, h1.cell 4, h1.cell 6, h1.cell 7⟩)
    obtain ⟨a0, a1, a2, a3, a4, a6, a7⟩ := HTB.out _ HL5.out
    go_upto_region 10 with (go_at_call 7; (with_reducible refine (HOF.out _ (HE.out.below HL5.out.bel)).mono ?_); rintro e w6 ⟨rfl, hb⟩; have HL6 := Lib.hid (HL5.out.step hb); have HB6 := Lib.hid (HB5.out.trans (hb.mono HB5.out.size)); clear hb a0 a1 a2 a3 a4 a6 a7)
    have hb7 : Below w4.heap.size w4 (w6.alloc (.cells #[.string t0, .string ⟨#[49]⟩] 24)) := HB6.out.alloc HB6.out.size _
    have HB7 := Lib.hid hb7
    have HL7 := Lib.hid (HL6.out.alloc' rfl 24 #[.string t0, .string ⟨#[49]⟩])
    have HW46 := Lib.hid (show w4.heap.size < w6.heap.size from HL6.out.lt (g := w4.heap.size) (t := 33) (List.mem_cons_self ..))
    have HW14 := Lib.hid (show w1.heap.size + 1 + 1 + 1 < w4.heap.size from HL4.out.lt (g := w1.heap.size + 1 + 1 + 1) (t := 30) (List.mem_cons_self ..))
    clear hb7 HL5 HL6 HB5 HB6
    revert HB7 HL7
    generalize w6.alloc (.cells #[.string t0, .string ⟨#[49]⟩] 24) = W7
    intro HB7 HL7
    obtain ⟨a0, a1, a2, a3, a4, a6, a7⟩ := HTB.out _ (HL7.out.perm fun x hx => List.mem_cons_of_mem _ hx)
    go_wp2_with fail
    clear a0 a1 a2 a3 a4 a6 a7
    have HAD := Lib.hid (show ∀ (M N : Nat) (s1 s2 s3 : ByteArray) W, VEnv W → s1 = nt M → s2 = nt N → s3 = nt (M + N) → M ≤ 700 → N ≤ 700 → Calls Tryz.prog 8 #[.agg #[.string s1, .string ⟨#[49]⟩], .agg #[.string s2, .string ⟨#[49]⟩]] W fun e w' => e = .returned (.tuple #[.agg #[.string s3, .string ⟨#[49]⟩], .int .i64 0]) ∧ Below W.heap.size W w' from fun M N s1 s2 s3 W h1 h2 h3 h4 h5 h6 => by
      rw [h2, h3, h4]
      exact add_nat M N W (by omega) (by omega) h1.pw)
    have HNE6 := Lib.hid (show ∀ x ∈ (((w4.heap.size, 33, #[.slice (some ⟨g1, 0, none⟩) n c1, .slice (some ⟨g2, 0, none⟩) m c2, .slice (some ⟨b3, o3, none⟩) (n * m) c3, .slice (some ⟨b4, o4, none⟩) n c4, .slice (some ⟨b5, o5, none⟩) m c5, .int .i64 1, .string tt, .string ⟨#[49]⟩, .string ⟨#[]⟩, .bool false, .int .i64 0, .int .i64 0, .int .i64 0, .slice none 0 0]) :: [(w1.heap.size + 1 + 1 + 1, 30, #[.slice (some ⟨w1.heap.size + 1, 0, none⟩) 1 1, .slice (some ⟨w1.heap.size + 1 + 1, 0, none⟩) 1 1, .int .i64 2, .int .i64 how]), (w1.heap.size + 1 + 1, 3, #[.int .i64 1]), (w1.heap.size + 1, 3, #[.int .i64 0]), (w1.heap.size, 27, #[.int .i64 5, .string ⟨#[]⟩, .string ⟨#[]⟩, .string ⟨#[]⟩, .bool false, .int .i64 0, .int .i64 ((R : Int) + 1), .int .i64 3, .slice (some ⟨gv, 0, none⟩) ((R + 1) * 3) cv])]) : List (Nat × TypeId × Array Value)), x.1 < w6.heap.size from fun x hx => by
      have h1 := HW46.out
      have h2 := HW14.out
      simp only [List.mem_cons, List.not_mem_nil, or_false] at hx
      rcases hx with rfl | rfl | rfl | rfl | rfl <;> (dsimp only; omega))
    go_loopw [11, 43] (fun u11 u43 wr => ∃ (i : Nat) (ta : ByteArray), i ≤ n ∧ u11 = .int .i64 (Pv.tot (fun i => Pv.tot (LN i) m) i : Nat) ∧ u43 = .int .i64 i ∧ ta = nt (Pv.tot RN i) ∧ Hid (Loc w ((w6.heap.size, 24, #[.string ta, .string ⟨#[49]⟩]) :: ((w4.heap.size, 33, #[.slice (some ⟨g1, 0, none⟩) n c1, .slice (some ⟨g2, 0, none⟩) m c2, .slice (some ⟨b3, o3, none⟩) (n * m) c3, .slice (some ⟨b4, o4, none⟩) n c4, .slice (some ⟨b5, o5, none⟩) m c5, .int .i64 1, .string tt, .string ⟨#[49]⟩, .string ⟨#[]⟩, .bool false, .int .i64 0, .int .i64 0, .int .i64 0, .slice none 0 0]) :: [(w1.heap.size + 1 + 1 + 1, 30, #[.slice (some ⟨w1.heap.size + 1, 0, none⟩) 1 1, .slice (some ⟨w1.heap.size + 1 + 1, 0, none⟩) 1 1, .int .i64 2, .int .i64 how]), (w1.heap.size + 1 + 1, 3, #[.int .i64 1]), (w1.heap.size + 1, 3, #[.int .i64 0]), (w1.heap.size, 27, #[.int .i64 5, .string ⟨#[]⟩, .string ⟨#[]⟩, .string ⟨#[]⟩, .bool false, .int .i64 0, .int .i64 ((R : Int) + 1), .int .i64 3, .slice (some ⟨gv, 0, none⟩) ((R + 1) * 3) cv])])) wr) ∧ Hid (Below w4.heap.size w4 wr)) (fun _ u _ => n - (intOf u).toNat)
    case atStart => exact ⟨0, t0, by omega, rfl, rfl, HT0.out, HL7, HB7⟩
    case round =>
      clear HL7 HB7
      obtain ⟨i, ta, hi, rfl, rfl, hta, HLo, HBo⟩ := hrel
      have HTA := Lib.hid hta
      clear hta
      by_cases hlt : i < n
      · have hlz : (i : Int) < (n : Int) := by omega
        obtain ⟨se, hse⟩ : ∃ se, se = Pv.tot (fun i => Pv.tot (LN i) m) i := ⟨_, rfl⟩
        have HSE := Lib.hid hse
        have HLI := Lib.hid (show ∀ k, k < m → se + Pv.tot (LN i) k + LN i k ≤ R from fun k hk => by rw [hse]; exact HTN.out.ln hlt hk)
        rw [← hse]
        clear hse
        go_upto_region 14 with (go_at_call 7; (with_reducible refine (HOF.out _ (HE.out.below HLo.out.bel)).mono ?_); rintro e w8 ⟨rfl, hb⟩; have HL8 := Lib.hid (HLo.out.step hb); have HB8 := Lib.hid (HBo.out.trans (hb.mono HBo.out.size)); clear hb)
        have hb9 : Below w4.heap.size w4 (w8.alloc (.cells #[.string t0, .string ⟨#[49]⟩] 24)) := HB8.out.alloc HB8.out.size _
        have HB9 := Lib.hid hb9
        have HL9 := Lib.hid (HL8.out.alloc' rfl 24 #[.string t0, .string ⟨#[49]⟩])
        have HW68 := Lib.hid (show w6.heap.size < w8.heap.size from HL8.out.lt (g := w6.heap.size) (t := 24) (List.mem_cons_self ..))
        clear hb9 HL8 HB8 HLo HBo
        revert HB9 HL9
        generalize w8.alloc (.cells #[.string t0, .string ⟨#[49]⟩] 24) = W9
        intro HB9 HL9
        go_wp2_with fail
        go_loopw [11, 48] (fun u11 u48 wr => ∃ (k : Nat) (ts : ByteArray), k ≤ m ∧ u11 = .int .i64 ((se + Pv.tot (LN i) k : Nat) : Int) ∧ u48 = .int .i64 k ∧ ts = nt (Pv.tot (CN i) k) ∧ Hid (Loc w ((w8.heap.size, 24, #[.string ts, .string ⟨#[49]⟩]) :: (w6.heap.size, 24, #[.string ta, .string ⟨#[49]⟩]) :: ((w4.heap.size, 33, #[.slice (some ⟨g1, 0, none⟩) n c1, .slice (some ⟨g2, 0, none⟩) m c2, .slice (some ⟨b3, o3, none⟩) (n * m) c3, .slice (some ⟨b4, o4, none⟩) n c4, .slice (some ⟨b5, o5, none⟩) m c5, .int .i64 1, .string tt, .string ⟨#[49]⟩, .string ⟨#[]⟩, .bool false, .int .i64 0, .int .i64 0, .int .i64 0, .slice none 0 0]) :: [(w1.heap.size + 1 + 1 + 1, 30, #[.slice (some ⟨w1.heap.size + 1, 0, none⟩) 1 1, .slice (some ⟨w1.heap.size + 1 + 1, 0, none⟩) 1 1, .int .i64 2, .int .i64 how]), (w1.heap.size + 1 + 1, 3, #[.int .i64 1]), (w1.heap.size + 1, 3, #[.int .i64 0]), (w1.heap.size, 27, #[.int .i64 5, .string ⟨#[]⟩, .string ⟨#[]⟩, .string ⟨#[]⟩, .bool false, .int .i64 0, .int .i64 ((R : Int) + 1), .int .i64 3, .slice (some ⟨gv, 0, none⟩) ((R + 1) * 3) cv])])) wr) ∧ Hid (Below w4.heap.size w4 wr)) (fun _ u _ => m - (intOf u).toNat)
        case atStart => exact ⟨0, t0, by omega, rfl, rfl, HT0.out, HL9, HB9⟩
        case round =>
          clear HL9 HB9
          obtain ⟨k, ts, hk, rfl, rfl, hts, HLi, HBi⟩ := hrel
          have HTS := Lib.hid hts
          clear hts
          by_cases hkt : k < m
          · have hkz : (k : Int) < (m : Int) := by omega
            have hli := HLI.out k hkt
            have hcn := HTN.out.cn hlt hkt
            have him : i * m + k < n * m := by
              have := Nat.mul_le_mul_right m (show i + 1 ≤ n from hlt)
              rw [Nat.add_mul] at this
              omega
            have hnm : n * m ≤ 196 := Nat.le_trans (Nat.mul_le_mul bn bm) (by decide)
            obtain ⟨b3', o3', e3, hc3⟩ := HC3.out (i * m + k) him
            injection e3 with e3
            injection e3 with e3 e3'
            subst e3 e3'
            rw [HCV.out i k hkt] at hc3
            obtain ⟨p, hp⟩ : ∃ p, p = i * m := ⟨_, rfl⟩
            have hpz : (i : Int) * (m : Int) = (p : Int) := by rw [hp]; push_cast; rfl
            rw [← hp] at him hc3
            have z2 : (p : Int) + (k : Int) < (n : Int) * (m : Int) := by
              have : ((p + k : Nat) : Int) < ((n * m : Nat) : Int) := by omega
              push_cast at this
              exact this
            have z4 : ((p : Int) + (k : Int)).toNat = p + k := by omega
            have z5 : (0 : Int) ≤ (p : Int) + (k : Int) := by omega
            have bp : p ≤ 196 := by omega
            have HGk := Lib.hid (HGL.out i k)
            clear hp hnm
            obtain ⟨a0, a1, a2, a3, a4, a6, a7⟩ := HTB.out _ (HLi.out.perm fun x hx => List.mem_cons_of_mem _ (List.mem_cons_of_mem _ hx))
            have HSO := Lib.hid fun W (hW : Below w4.heap.size w4 W) => HSW.out W i k (HLA.out W hW) (HBW.out W hW) hlt hkt
            rw [HGL.out i k] at HSO
            have HNEs := Lib.hid (show ∀ x ∈ ((w6.heap.size, 24, #[.string ta, .string ⟨#[49]⟩]) :: ((w4.heap.size, 33, #[.slice (some ⟨g1, 0, none⟩) n c1, .slice (some ⟨g2, 0, none⟩) m c2, .slice (some ⟨b3, o3, none⟩) (n * m) c3, .slice (some ⟨b4, o4, none⟩) n c4, .slice (some ⟨b5, o5, none⟩) m c5, .int .i64 1, .string tt, .string ⟨#[49]⟩, .string ⟨#[]⟩, .bool false, .int .i64 0, .int .i64 0, .int .i64 0, .slice none 0 0]) :: [(w1.heap.size + 1 + 1 + 1, 30, #[.slice (some ⟨w1.heap.size + 1, 0, none⟩) 1 1, .slice (some ⟨w1.heap.size + 1 + 1, 0, none⟩) 1 1, .int .i64 2, .int .i64 how]), (w1.heap.size + 1 + 1, 3, #[.int .i64 1]), (w1.heap.size + 1, 3, #[.int .i64 0]), (w1.heap.size, 27, #[.int .i64 5, .string ⟨#[]⟩, .string ⟨#[]⟩, .string ⟨#[]⟩, .bool false, .int .i64 0, .int .i64 ((R : Int) + 1), .int .i64 3, .slice (some ⟨gv, 0, none⟩) ((R + 1) * 3) cv])]) : List (Nat × TypeId × Array Value)), x.1 ≠ w8.heap.size from fun x hx => by
              have h3 := HW68.out
              rcases List.mem_cons.1 hx with rfl | hx
              · exact Nat.ne_of_lt h3
              · have := HNE6.out x hx
                omega)
            by_cases hz : LN i k = 0
            · have hl0 : (LN i k : Int) = 0 := by omega
              have hcz := HTN.out.z i k hz
              have hcw := fun W (hW : Below w4.heap.size w4 W) q (hq : q < 9) => hc3 W hW q hq
              rw [if_pos hz] at hcw
              have e0 : wr.cell? ⟨b3, o3 + (p + k) * 9, none⟩ = some (.int .i64 0) := hcw wr HBi.out 0 (by decide)
              have e1 : wr.cell? ⟨b3, o3 + (p + k) * 9 + 1, none⟩ = some (.string ⟨#[]⟩) := hcw wr HBi.out 1 (by decide)
              have e2 : wr.cell? ⟨b3, o3 + (p + k) * 9 + 2, none⟩ = some (.string ⟨#[]⟩) := hcw wr HBi.out 2 (by decide)
              have e3 : wr.cell? ⟨b3, o3 + (p + k) * 9 + 3, none⟩ = some (.string ⟨#[]⟩) := hcw wr HBi.out 3 (by decide)
              have e4 : wr.cell? ⟨b3, o3 + (p + k) * 9 + 4, none⟩ = some (.bool false) := hcw wr HBi.out 4 (by decide)
              have e5 : wr.cell? ⟨b3, o3 + (p + k) * 9 + 5, none⟩ = some (.int .i64 0) := hcw wr HBi.out 5 (by decide)
              have e6 : wr.cell? ⟨b3, o3 + (p + k) * 9 + 6, none⟩ = some (.int .i64 0) := hcw wr HBi.out 6 (by decide)
              have e7 : wr.cell? ⟨b3, o3 + (p + k) * 9 + 7, none⟩ = some (.int .i64 0) := hcw wr HBi.out 7 (by decide)
              have e8 : wr.cell? ⟨b3, o3 + (p + k) * 9 + 8, none⟩ = some (.slice none 0 0) := hcw wr HBi.out 8 (by decide)
              have HCW := Lib.hid (show ∀ W, Below w4.heap.size w4 W → W.cell? ⟨b3, o3 + (p + k) * 9, none⟩ = some (.int .i64 0) from fun W hW => hcw W hW 0 (by decide))
              clear hcw hc3
              go_upto_region 18 with fail
              have hbk := Blk.new wr 27 #[.int .i64 0, .string ⟨#[]⟩, .string ⟨#[]⟩, .string ⟨#[]⟩, .bool false, .int .i64 0, .int .i64 0, .int .i64 0, .slice none 0 0]
              have HL10 := Lib.hid (HLi.out.alloc0 (.cells #[.int .i64 0, .string ⟨#[]⟩, .string ⟨#[]⟩, .string ⟨#[]⟩, .bool false, .int .i64 0, .int .i64 0, .int .i64 0, .slice none 0 0] 27))
              have HB10 := Lib.hid (HBi.out.alloc HBi.out.size (.cells #[.int .i64 0, .string ⟨#[]⟩, .string ⟨#[]⟩, .string ⟨#[]⟩, .bool false, .int .i64 0, .int .i64 0, .int .i64 0, .slice none 0 0] 27))
              clear a0 a1 a2 a3 a4 a6 a7 e0 e1 e2 e3 e4 e5 e6 e7 e8 HLi HBi
              revert hbk HL10 HB10
              generalize wr.alloc (.cells #[.int .i64 0, .string ⟨#[]⟩, .string ⟨#[]⟩, .string ⟨#[]⟩, .bool false, .int .i64 0, .int .i64 0, .int .i64 0, .slice none 0 0] 27) = W10
              intro hbk HL10 HB10
              have x0 : W10.cell? ⟨wr.heap.size, 0, none⟩ = some (.int .i64 0) := hbk.cell 0
              obtain ⟨⟨k0, k1, k2, k3, k4, k5, k6, k7, k8⟩, p0, p1, p2, p3⟩ := HCL.out _ (HLA.out _ HB10.out)
              go_wp2_with (go_at_call 9; (with_reducible refine (HSO.out _ HB10.out).mono ?_); rintro e w11 ⟨A11, c11, rfl, hb⟩; have HL11 := Lib.hid (HL10.out.step hb); have HB11 := Lib.hid (HB10.out.trans (hb.mono HB10.out.size)); clear hb k0 k1 k2 k3 k4 k5 k6 k7 k8 p0 p1 p2 p3; have e0 := HCW.out _ HB11.out; obtain ⟨a0, a1, a2, a3, a4, a6, a7⟩ := HTB.out _ (HL11.out.perm fun x hx => List.mem_cons_of_mem _ (List.mem_cons_of_mem _ hx)))
              go_roundw
              case rel => exact ⟨k + 1, ts, by omega, by rw [tot_step]; push_cast; (try rw [hl0]); go_num, by go_num, by rw [HTS.out, tot_step, hcz, Nat.add_zero], HL11, HB11⟩
              case measure => simp [intOf]; omega
            · have hl0 : (0 : Int) < (LN i k : Int) := by omega
              have hl1 : 0 < LN i k := by omega
              obtain ⟨tx, htx⟩ : ∃ t, t = nt (CN i k) := ⟨_, rfl⟩
              obtain ⟨tn, htn⟩ : ∃ t, t = nt (Pv.tot (CN i) k + CN i k) := ⟨_, rfl⟩
              have HAx := Lib.hid (show ∀ W, VEnv W → Calls Tryz.prog 8 #[.agg #[.string ts, .string ⟨#[49]⟩], .agg #[.string tx, .string ⟨#[49]⟩]] W fun e w' => e = .returned (.tuple #[.agg #[.string tn, .string ⟨#[49]⟩], .int .i64 0]) ∧ Below W.heap.size W w' from fun W h => HAD.out _ _ _ _ _ W h HTS.out htx htn (by omega) (by omega))
              have HTNn := Lib.hid htn
              have hcw := fun W (hW : Below w4.heap.size w4 W) q (hq : q < 9) => hc3 W hW q hq
              rw [if_neg hz] at hcw
              have e0 : wr.cell? ⟨b3, o3 + (p + k) * 9, none⟩ = some (.int .i64 1) := hcw wr HBi.out 0 (by decide)
              have e1 : wr.cell? ⟨b3, o3 + (p + k) * 9 + 1, none⟩ = some (.string tx) := by rw [htx]; exact hcw wr HBi.out 1 (by decide)
              have e2 : wr.cell? ⟨b3, o3 + (p + k) * 9 + 2, none⟩ = some (.string ⟨#[49]⟩) := hcw wr HBi.out 2 (by decide)
              have e3 : wr.cell? ⟨b3, o3 + (p + k) * 9 + 3, none⟩ = some (.string ⟨#[]⟩) := hcw wr HBi.out 3 (by decide)
              have e4 : wr.cell? ⟨b3, o3 + (p + k) * 9 + 4, none⟩ = some (.bool false) := hcw wr HBi.out 4 (by decide)
              have e5 : wr.cell? ⟨b3, o3 + (p + k) * 9 + 5, none⟩ = some (.int .i64 0) := hcw wr HBi.out 5 (by decide)
              have e6 : wr.cell? ⟨b3, o3 + (p + k) * 9 + 6, none⟩ = some (.int .i64 0) := hcw wr HBi.out 6 (by decide)
              have e7 : wr.cell? ⟨b3, o3 + (p + k) * 9 + 7, none⟩ = some (.int .i64 0) := hcw wr HBi.out 7 (by decide)
              have e8 : wr.cell? ⟨b3, o3 + (p + k) * 9 + 8, none⟩ = some (.slice none 0 0) := hcw wr HBi.out 8 (by decide)
              have HCW := Lib.hid (show ∀ W, Below w4.heap.size w4 W → W.cell? ⟨b3, o3 + (p + k) * 9, none⟩ = some (.int .i64 1) from fun W hW => hcw W hW 0 (by decide))
              clear hcw hc3 htx htn
              go_upto_region 18 with fail
              have hbk := Blk.new wr 27 #[.int .i64 1, .string tx, .string ⟨#[49]⟩, .string ⟨#[]⟩, .bool false, .int .i64 0, .int .i64 0, .int .i64 0, .slice none 0 0]
              have HL10 := Lib.hid (HLi.out.alloc0 (.cells #[.int .i64 1, .string tx, .string ⟨#[49]⟩, .string ⟨#[]⟩, .bool false, .int .i64 0, .int .i64 0, .int .i64 0, .slice none 0 0] 27))
              have HB10 := Lib.hid (HBi.out.alloc HBi.out.size (.cells #[.int .i64 1, .string tx, .string ⟨#[49]⟩, .string ⟨#[]⟩, .bool false, .int .i64 0, .int .i64 0, .int .i64 0, .slice none 0 0] 27))
              clear a0 a1 a2 a3 a4 a6 a7 e0 e1 e2 e3 e4 e5 e6 e7 e8 HLi HBi
              revert hbk HL10 HB10
              generalize wr.alloc (.cells #[.int .i64 1, .string tx, .string ⟨#[49]⟩, .string ⟨#[]⟩, .bool false, .int .i64 0, .int .i64 0, .int .i64 0, .slice none 0 0] 27) = W10
              intro hbk HL10 HB10
              have x0 : W10.cell? ⟨wr.heap.size, 0, none⟩ = some (.int .i64 1) := hbk.cell 0
              have x1 : W10.cell? ⟨wr.heap.size, 1, none⟩ = some (.string tx) := hbk.cell 1
              have x2 : W10.cell? ⟨wr.heap.size, 2, none⟩ = some (.string ⟨#[49]⟩) := hbk.cell 2
              obtain ⟨v0, v1, y0, y1⟩ := (HL10.out.blk (g := w8.heap.size) (t := 24) (List.mem_cons_self ..)).two
              go_upto_region 20 with (go_at_call 8; (with_reducible refine (HAx.out _ (HE.out.below HL10.out.bel)).mono ?_); rintro e w10 ⟨rfl, hb⟩; have HLa := Lib.hid (HL10.out.step hb); have HBa := Lib.hid (HB10.out.trans (hb.mono HB10.out.size)); clear hb v0 v1 y0 y1 x0 x1 x2; obtain ⟨v0, v1, y0, y1⟩ := (HLa.out.blk (g := w8.heap.size) (t := 24) (List.mem_cons_self ..)).two)
              have HLs := Lib.hid (HLa.out.set2 HNEs.out (.string tn) (.string ⟨#[49]⟩))
              have HBs := Lib.hid (below_two HBa.out (show w4.heap.size ≤ w8.heap.size from Nat.le_of_lt (Nat.lt_trans HW46.out HW68.out)) (.string tn) (.string ⟨#[49]⟩))
              clear v0 v1 y0 y1 HLa HBa HL10 HB10
              revert HLs HBs
              generalize (w10.setCell ⟨w8.heap.size, 0, none⟩ (.string tn)).setCell ⟨w8.heap.size, 1, none⟩ (.string ⟨#[49]⟩) = W12
              intro HLs HBs
              obtain ⟨⟨k0, k1, k2, k3, k4, k5, k6, k7, k8⟩, p0, p1, p2, p3⟩ := HCL.out _ (HLA.out _ HBs.out)
              go_wp2_with (go_at_call 9; (with_reducible refine (HSO.out _ HBs.out).mono ?_); rintro e w11 ⟨A11, c11, rfl, hb⟩; have HL11 := Lib.hid (HLs.out.step hb); have HB11 := Lib.hid (HBs.out.trans (hb.mono HBs.out.size)); clear hb k0 k1 k2 k3 k4 k5 k6 k7 k8 p0 p1 p2 p3; have e0 := HCW.out _ HB11.out; obtain ⟨a0, a1, a2, a3, a4, a6, a7⟩ := HTB.out _ (HL11.out.perm fun x hx => List.mem_cons_of_mem _ (List.mem_cons_of_mem _ hx)))
              go_roundw
              case rel => exact ⟨k + 1, tn, by omega, by rw [tot_step]; push_cast; go_num, by go_num, by rw [HTNn.out, tot_step], HL11, HB11⟩
              case measure => simp [intOf]; omega
          · have hkz : ¬ (k : Int) < (m : Int) := by omega
            have hkm : m = k := by omega
            subst hkm
            have hts := HTS.out
            rw [HTN.out.rs] at hts
            have HTr := Lib.hid hts
            have hrn := HTN.out.rn hlt
            obtain ⟨b4', o4', e4, hc4⟩ := HC4.out i hlt
            injection e4 with e4
            injection e4 with e4 e4'
            subst e4 e4'
            rw [HRV.out i] at hc4
            have e1 : wr.cell? ⟨b4, o4 + i * 9 + 1, none⟩ = some (.string ts) := by rw [hts]; exact hc4 wr HBi.out 1 (by decide)
            have e2 : wr.cell? ⟨b4, o4 + i * 9 + 2, none⟩ = some (.string ⟨#[49]⟩) := hc4 wr HBi.out 2 (by decide)
            clear hc4 hts
            obtain ⟨a0, a1, a2, a3, a4, a6, a7⟩ := HTB.out _ (HLi.out.perm fun x hx => List.mem_cons_of_mem _ (List.mem_cons_of_mem _ hx))
            obtain ⟨v0, v1, y0, y1⟩ := (HLi.out.blk (g := w8.heap.size) (t := 24) (List.mem_cons_self ..)).two
            obtain ⟨q0, q1, s0, s1⟩ := (HLi.out.blk (g := w6.heap.size) (t := 24) (List.mem_cons_of_mem _ (List.mem_cons_self ..))).two
            obtain ⟨tn, htn⟩ : ∃ t, t = nt (Pv.tot RN i + RN i) := ⟨_, rfl⟩
            have HTn := Lib.hid htn
            have HAx := Lib.hid (show ∀ W, VEnv W → Calls Tryz.prog 8 #[.agg #[.string ta, .string ⟨#[49]⟩], .agg #[.string ts, .string ⟨#[49]⟩]] W fun e w' => e = .returned (.tuple #[.agg #[.string tn, .string ⟨#[49]⟩], .int .i64 0]) ∧ Below W.heap.size W w' from fun W h => HAD.out _ _ _ _ _ W h HTA.out HTr.out htn (by omega) (by omega))
            clear htn
            go_upto_region 25 with fail
            go_quiet (fail)
            rename_i nq
            have HLq := Lib.hid (HLi.out.drewN nq)
            have HBq := Lib.hid (below_drewN HBi.out nq)
            clear v0 v1 y0 y1 q0 q1 s0 s1 a0 a1 a2 a3 a4 a6 a7 e1 e2 HLi HBi
            obtain ⟨v0, v1, y0, y1⟩ := (HLq.out.blk (g := w8.heap.size) (t := 24) (List.mem_cons_self ..)).two
            obtain ⟨q0, q1, s0, s1⟩ := (HLq.out.blk (g := w6.heap.size) (t := 24) (List.mem_cons_of_mem _ (List.mem_cons_self ..))).two
            go_wp2_with (go_at_call 8; (with_reducible refine (HAx.out _ (HE.out.below HLq.out.bel)).mono ?_); rintro e w10 ⟨rfl, hb⟩; have HLa := Lib.hid ((HLq.out.step hb).perm (L' := ((w6.heap.size, 24, #[.string ta, .string ⟨#[49]⟩]) :: ((w4.heap.size, 33, #[.slice (some ⟨g1, 0, none⟩) n c1, .slice (some ⟨g2, 0, none⟩) m c2, .slice (some ⟨b3, o3, none⟩) (n * m) c3, .slice (some ⟨b4, o4, none⟩) n c4, .slice (some ⟨b5, o5, none⟩) m c5, .int .i64 1, .string tt, .string ⟨#[49]⟩, .string ⟨#[]⟩, .bool false, .int .i64 0, .int .i64 0, .int .i64 0, .slice none 0 0]) :: [(w1.heap.size + 1 + 1 + 1, 30, #[.slice (some ⟨w1.heap.size + 1, 0, none⟩) 1 1, .slice (some ⟨w1.heap.size + 1 + 1, 0, none⟩) 1 1, .int .i64 2, .int .i64 how]), (w1.heap.size + 1 + 1, 3, #[.int .i64 1]), (w1.heap.size + 1, 3, #[.int .i64 0]), (w1.heap.size, 27, #[.int .i64 5, .string ⟨#[]⟩, .string ⟨#[]⟩, .string ⟨#[]⟩, .bool false, .int .i64 0, .int .i64 ((R : Int) + 1), .int .i64 3, .slice (some ⟨gv, 0, none⟩) ((R + 1) * 3) cv])]))) fun x hx => List.mem_cons_of_mem _ hx); have HBa := Lib.hid (HBq.out.trans (hb.mono HBq.out.size)); clear hb v0 v1 y0 y1 q0 q1 s0 s1; obtain ⟨v0, v1, y0, y1⟩ := (HLa.out.blk (g := w6.heap.size) (t := 24) (List.mem_cons_self ..)).two)
            go_roundw
            case rel => exact ⟨i + 1, tn, by omega, by rw [tot_step, ← HSE.out]; push_cast; rfl, by go_num, by rw [HTn.out, tot_step], Lib.hid (HLa.out.set2 (fun x hx => Nat.ne_of_lt (HNE6.out x hx)) _ _), Lib.hid (below_two HBa.out (Nat.le_of_lt HW46.out) _ _)⟩
            case measure => simp [intOf]; omega
      · have hlz : ¬ (i : Int) < (n : Int) := by omega
        have hin : n = i := by omega
        subst hin
        have hta := HTA.out
        rw [HTN.out.as_] at hta
        have htt : tt = ta := by rw [HTT.out, ← HTE.out, hta]
        subst htt
        have HTa := Lib.hid hta
        have hse := HTN.out.se
        rw [hse]
        clear hta
        go_upto_region 30 with (go_at_call 7; (with_reducible refine (HOF.out _ (HE.out.below HLo.out.bel)).mono ?_); rintro e w8 ⟨rfl, hb⟩; have HL8 := Lib.hid (HLo.out.step hb); have HB8 := Lib.hid (HBo.out.trans (hb.mono HBo.out.size)); clear hb)
        have hb9 : Below w4.heap.size w4 (w8.alloc (.cells #[.string t0, .string ⟨#[49]⟩] 24)) := HB8.out.alloc HB8.out.size _
        have HB9 := Lib.hid hb9
        have HL9 := Lib.hid (HL8.out.alloc' rfl 24 #[.string t0, .string ⟨#[49]⟩])
        have HW68 := Lib.hid (show w6.heap.size < w8.heap.size from HL8.out.lt (g := w6.heap.size) (t := 24) (List.mem_cons_self ..))
        clear hb9 HL8 HB8 HLo HBo
        revert HB9 HL9
        generalize w8.alloc (.cells #[.string t0, .string ⟨#[49]⟩] 24) = W9
        intro HB9 HL9
        obtain ⟨a0, a1, a2, a3, a4, a6, a7⟩ := HTB.out _ (HL9.out.perm fun x hx => List.mem_cons_of_mem _ (List.mem_cons_of_mem _ hx))
        go_wp2_with fail
        clear a0 a1 a2 a3 a4 a6 a7
        have HNE8 := Lib.hid (show ∀ x ∈ ((w6.heap.size, 24, #[.string tt, .string ⟨#[49]⟩]) :: ((w4.heap.size, 33, #[.slice (some ⟨g1, 0, none⟩) n c1, .slice (some ⟨g2, 0, none⟩) m c2, .slice (some ⟨b3, o3, none⟩) (n * m) c3, .slice (some ⟨b4, o4, none⟩) n c4, .slice (some ⟨b5, o5, none⟩) m c5, .int .i64 1, .string tt, .string ⟨#[49]⟩, .string ⟨#[]⟩, .bool false, .int .i64 0, .int .i64 0, .int .i64 0, .slice none 0 0]) :: [(w1.heap.size + 1 + 1 + 1, 30, #[.slice (some ⟨w1.heap.size + 1, 0, none⟩) 1 1, .slice (some ⟨w1.heap.size + 1 + 1, 0, none⟩) 1 1, .int .i64 2, .int .i64 how]), (w1.heap.size + 1 + 1, 3, #[.int .i64 1]), (w1.heap.size + 1, 3, #[.int .i64 0]), (w1.heap.size, 27, #[.int .i64 5, .string ⟨#[]⟩, .string ⟨#[]⟩, .string ⟨#[]⟩, .bool false, .int .i64 0, .int .i64 ((R : Int) + 1), .int .i64 3, .slice (some ⟨gv, 0, none⟩) ((R + 1) * 3) cv])]) : List (Nat × TypeId × Array Value)), x.1 ≠ w8.heap.size from fun x hx => by
          have h3 := HW68.out
          rcases List.mem_cons.1 hx with rfl | hx
          · exact Nat.ne_of_lt h3
          · have := HNE6.out x hx
            omega)
        go_loopw [121] (fun u121 wr => ∃ (k : Nat) (tc : ByteArray), k ≤ m ∧ u121 = .int .i64 k ∧ tc = nt (Pv.tot KN k) ∧ Hid (Loc w ((w8.heap.size, 24, #[.string tc, .string ⟨#[49]⟩]) :: (w6.heap.size, 24, #[.string tt, .string ⟨#[49]⟩]) :: ((w4.heap.size, 33, #[.slice (some ⟨g1, 0, none⟩) n c1, .slice (some ⟨g2, 0, none⟩) m c2, .slice (some ⟨b3, o3, none⟩) (n * m) c3, .slice (some ⟨b4, o4, none⟩) n c4, .slice (some ⟨b5, o5, none⟩) m c5, .int .i64 1, .string tt, .string ⟨#[49]⟩, .string ⟨#[]⟩, .bool false, .int .i64 0, .int .i64 0, .int .i64 0, .slice none 0 0]) :: [(w1.heap.size + 1 + 1 + 1, 30, #[.slice (some ⟨w1.heap.size + 1, 0, none⟩) 1 1, .slice (some ⟨w1.heap.size + 1 + 1, 0, none⟩) 1 1, .int .i64 2, .int .i64 how]), (w1.heap.size + 1 + 1, 3, #[.int .i64 1]), (w1.heap.size + 1, 3, #[.int .i64 0]), (w1.heap.size, 27, #[.int .i64 5, .string ⟨#[]⟩, .string ⟨#[]⟩, .string ⟨#[]⟩, .bool false, .int .i64 0, .int .i64 ((R : Int) + 1), .int .i64 3, .slice (some ⟨gv, 0, none⟩) ((R + 1) * 3) cv])])) wr) ∧ Hid (Below w4.heap.size w4 wr)) (fun u _ => m - (intOf u).toNat)
        case atStart => exact ⟨0, t0, by omega, rfl, HT0.out, HL9, HB9⟩
        case round =>
          clear HL9 HB9
          obtain ⟨k, tc, hk, rfl, htc, HLi, HBi⟩ := hrel
          have HTC := Lib.hid htc
          clear htc
          by_cases hkt : k < m
          · have hkz : (k : Int) < (m : Int) := by omega
            have hkn := HTN.out.kn hkt
            obtain ⟨b5', o5', e5, hc5⟩ := HC5.out k hkt
            injection e5 with e5
            injection e5 with e5 e5'
            subst e5 e5'
            rw [HKV.out k] at hc5
            obtain ⟨tx, htx⟩ : ∃ t, t = nt (KN k) := ⟨_, rfl⟩
            obtain ⟨tn, htn⟩ : ∃ t, t = nt (Pv.tot KN k + KN k) := ⟨_, rfl⟩
            have HTn := Lib.hid htn
            have HAx := Lib.hid (show ∀ W, VEnv W → Calls Tryz.prog 8 #[.agg #[.string tc, .string ⟨#[49]⟩], .agg #[.string tx, .string ⟨#[49]⟩]] W fun e w' => e = .returned (.tuple #[.agg #[.string tn, .string ⟨#[49]⟩], .int .i64 0]) ∧ Below W.heap.size W w' from fun W h => HAD.out _ _ _ _ _ W h HTC.out htx htn (by omega) (by omega))
            have e0 : wr.cell? ⟨b5, o5 + k * 9, none⟩ = some (.int .i64 1) := hc5 wr HBi.out 0 (by decide)
            have e1 : wr.cell? ⟨b5, o5 + k * 9 + 1, none⟩ = some (.string tx) := by rw [htx]; exact hc5 wr HBi.out 1 (by decide)
            have e2 : wr.cell? ⟨b5, o5 + k * 9 + 2, none⟩ = some (.string ⟨#[49]⟩) := hc5 wr HBi.out 2 (by decide)
            have e3 : wr.cell? ⟨b5, o5 + k * 9 + 3, none⟩ = some (.string ⟨#[]⟩) := hc5 wr HBi.out 3 (by decide)
            have e4 : wr.cell? ⟨b5, o5 + k * 9 + 4, none⟩ = some (.bool false) := hc5 wr HBi.out 4 (by decide)
            have e5 : wr.cell? ⟨b5, o5 + k * 9 + 5, none⟩ = some (.int .i64 0) := hc5 wr HBi.out 5 (by decide)
            have e6 : wr.cell? ⟨b5, o5 + k * 9 + 6, none⟩ = some (.int .i64 0) := hc5 wr HBi.out 6 (by decide)
            have e7 : wr.cell? ⟨b5, o5 + k * 9 + 7, none⟩ = some (.int .i64 0) := hc5 wr HBi.out 7 (by decide)
            have e8 : wr.cell? ⟨b5, o5 + k * 9 + 8, none⟩ = some (.slice none 0 0) := hc5 wr HBi.out 8 (by decide)
            clear hc5 htx htn
            go_upto_region 33 with fail
            have hbk := Blk.new wr 27 #[.int .i64 1, .string tx, .string ⟨#[49]⟩, .string ⟨#[]⟩, .bool false, .int .i64 0, .int .i64 0, .int .i64 0, .slice none 0 0]
            have HL10 := Lib.hid (HLi.out.alloc0 (.cells #[.int .i64 1, .string tx, .string ⟨#[49]⟩, .string ⟨#[]⟩, .bool false, .int .i64 0, .int .i64 0, .int .i64 0, .slice none 0 0] 27))
            have HB10 := Lib.hid (HBi.out.alloc HBi.out.size (.cells #[.int .i64 1, .string tx, .string ⟨#[49]⟩, .string ⟨#[]⟩, .bool false, .int .i64 0, .int .i64 0, .int .i64 0, .slice none 0 0] 27))
            clear e0 e1 e2 e3 e4 e5 e6 e7 e8 HLi HBi
            revert hbk HL10 HB10
            generalize wr.alloc (.cells #[.int .i64 1, .string tx, .string ⟨#[49]⟩, .string ⟨#[]⟩, .bool false, .int .i64 0, .int .i64 0, .int .i64 0, .slice none 0 0] 27) = W10
            intro hbk HL10 HB10
            have x1 : W10.cell? ⟨wr.heap.size, 1, none⟩ = some (.string tx) := hbk.cell 1
            have x2 : W10.cell? ⟨wr.heap.size, 2, none⟩ = some (.string ⟨#[49]⟩) := hbk.cell 2
            obtain ⟨v0, v1, y0, y1⟩ := (HL10.out.blk (g := w8.heap.size) (t := 24) (List.mem_cons_self ..)).two
            go_wp2_with (go_at_call 8; (with_reducible refine (HAx.out _ (HE.out.below HL10.out.bel)).mono ?_); rintro e w10 ⟨rfl, hb⟩; have HLa := Lib.hid (HL10.out.step hb); have HBa := Lib.hid (HB10.out.trans (hb.mono HB10.out.size)); clear hb v0 v1 y0 y1 x1 x2; obtain ⟨v0, v1, y0, y1⟩ := (HLa.out.blk (g := w8.heap.size) (t := 24) (List.mem_cons_self ..)).two)
            go_roundw
            case rel => exact ⟨k + 1, tn, by omega, by go_num, by rw [HTn.out, tot_step], Lib.hid (HLa.out.set2 HNE8.out _ _), Lib.hid (below_two HBa.out (Nat.le_of_lt (Nat.lt_trans HW46.out HW68.out)) _ _)⟩
            case measure => simp [intOf]; omega
          · have hkz : ¬ (k : Int) < (m : Int) := by omega
            have hkm : m = k := by omega
            subst hkm
            have htc := HTC.out
            rw [HTN.out.cs, ← HTa.out] at htc
            subst htc
            obtain ⟨a0, a1, a2, a3, a4, a6, a7⟩ := HTB.out _ (HLi.out.perm fun x hx => List.mem_cons_of_mem _ (List.mem_cons_of_mem _ hx))
            obtain ⟨v0, v1, y0, y1⟩ := (HLi.out.blk (g := w8.heap.size) (t := 24) (List.mem_cons_self ..)).two
            obtain ⟨q0, q1, s0, s1⟩ := (HLi.out.blk (g := w6.heap.size) (t := 24) (List.mem_cons_of_mem _ (List.mem_cons_self ..))).two
            obtain ⟨⟨k0, k1, k2, k3, k4, k5, k6, k7, k8⟩, p0, p1, p2, p3⟩ := HCL.out _ (HLA.out _ HBi.out)
            go_wp2_with fail
            go_ret
            exact ⟨rfl, HLi.out.bel⟩
end Go.Proofs.YtmapagbmihpbmaaGreatDoor
