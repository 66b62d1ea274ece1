/- pivot.Check. -/
import Derived.Test.YtmapagbmihpbmaaGreatDoorGar
import Derived.Test.YtmapagbmihpbmaaGreatDoorPvX
import Derived.Test.YtmapagbmihpbmaaGreatDoorGah
import Derived.ArgAppend
import Derived.Deep.DeepAppendRoom
import Derived.Test.YtmapagbmihpbmaaGreatDoorGaj
import Derived.Test.YtmapagbmihpbmaaGreatDoorGaq
import Derived.Test.YtmapagbmihpbmaaGreatDoorGap
import Derived.Deep.Cut
import Derived.Deep.CutBlock
import Derived.Deep.DeepCutAuto
import Derived.Test.YtmapagbmihpbmaaGreatDoorGan
import Derived.Test.YtmapagbmihpbmaaGreatDoorMod
set_option linter.unusedSimpArgs false
set_option linter.unusedVariables false
namespace Go.Proofs.YtmapagbmihpbmaaGreatDoor
open Go.RowKit

section
variable {ops : Array Oper} {rest : List Oper} {o : Oper} {a : Act} {Q : Exit → Act → World → Prop}
set_option maxRecDepth 100000 in
/-- append of one number; what the old slice reads. -/
theorem wp_app3 {w : World} (hgd : o.guard = none) (s x : Operand) (ho : o.op = .call { callee := .builtin .append, args := #[s, x], argTypes := #[22, 22] })
    (base g n c : Nat) (l : List Nat) (hs : a.eval s = .slice (some ⟨g, 0, none⟩) n c) (hown : R1 3 .i64 w base (.slice (some ⟨g, 0, none⟩) n c) l) (hn : l.length = n) (y : Int) (d : Nat) (hy : y = (d : Int)) (hx : a.eval x = .slice (some ⟨w.heap.size, 0, none⟩) 1 1)
    (hlen : l.length + 1 ≤ 1099511627776) (hbase : base ≤ w.heap.size)
    (h : ∀ v' w', R1 3 .i64 w' base v' (l ++ [d]) → Below base w w' → (∀ i (hi : i < l.length), w'.cell? ⟨g, i, none⟩ = some (.int .i64 (l[i] : Int))) → wpList Tryz.prog ops Q rest (a.put o.dst v') w') :
    wpList Tryz.prog ops Q (o :: rest) a (w.alloc (.cells #[.int .i64 y] 3)) := by
  subst hy hn
  obtain ⟨i0, hi, hz0, hz1, hz2⟩ := info_parts int_info
  have hown' := hown.alloc (.cells #[.int .i64 (d : Int)] 3)
  by_cases hroom : l.length + 1 ≤ c
  · refine wpList_append_own_spare _ hgd s x 22 ho base 3 i0 1 Tryz.underlying22 hi hz1 g l.length c _ hs hown' ⟨w.heap.size, 0, none⟩ 1 1 [.int .i64 (d : Int)] hx rfl (cell_one_new _ _ _) (by simp [Value.oneCell']) hroom ?_
    intro w' h1 h2
    have hr : R1 3 .i64 w' base (.slice (some ⟨g, 0, none⟩) (l.length + 1) c) (l ++ [d]) := by
      unfold R1
      rw [List.map_append, List.length_append]
      exact h1
    refine h _ w' hr (((Below.refl _ _).alloc hbase _).grown h2 (by simp; omega) (fun k hk => by injection hk with hk; subst hk; exact (hown.lt g rfl).1)) fun i hi => ?_
    have := hr.cell (by simp) (i := i) (by simp; omega)
    rw [this, List.getElem_append_left hi]
  · refine wpList_append_grows _ hgd s x 22 ho 3 i0 (.int .i64 0) 1 8 Tryz.underlying22 hi hz0 hz1 hz2 rfl (by decide) (some ⟨g, 0, none⟩) l.length c (l.map fun (x : Nat) => Value.int .i64 (x : Int)) hs (fun e => by cases e) (by simp) (fun b hb j u hj => by
      injection hb with hb
      subst hb
      exact hown'.nums rfl j u hj) ⟨w.heap.size, 0, none⟩ 1 1 [.int .i64 (d : Int)] hx rfl (cell_one_new _ _ _) (by simp [Value.oneCell']) (by omega) (by unfold maxLen; omega) (by omega) ?_
    intro v' w' h1 h2
    have hr : R1 3 .i64 w' (w.alloc (.cells #[.int .i64 (d : Int)] 3)).heap.size v' (l ++ [d]) := by
      unfold R1
      rw [List.map_append, List.length_append]
      exact h1
    refine h _ w' (hr.mono (by simp; omega)) (((Below.refl _ _).alloc hbase _).grown h2 (by simp; omega) (fun k hk => by cases hk)) fun i hi => ?_
    have h3 := hown'.cell rfl hi
    rw [← h3]
    exact World.cell?_of_block (h2.block g (hown'.lt g rfl).2 (by simp))
end
/-- The question's slices lie in blocks of their own. -/
structure AskB (W : World) (a : Ask) : Prop where
  br : Blk W a.rb 3 #[.int .i64 (a.cr : Int)]
  bc : Blk W a.cb 3 #[.int .i64 (a.cl : Int)]
  r0 : a.ro = 0
  c0 : a.co = 0
  r1 : a.rc = 1
  c1 : a.cc = 1
  r3 : a.cr < 3
  c3 : a.cl < 3
theorem AskB.at_ {W : World} {a : Ask} (h : AskB W a) : AskAt W a := ⟨by rw [h.r0]; exact h.br.cell 0, by rw [h.c0]; exact h.bc.cell 0, h.r3, h.c3⟩
theorem AskB.below {w W : World} {a : Ask} (h : AskB w a) (hb : Below w.heap.size w W) : AskB W a := ⟨h.br.later hb, h.bc.later hb, h.r0, h.c0, h.r1, h.c1, h.r3, h.c3⟩
theorem r1_blk {W : World} {g d : Nat} (h : Blk W g 3 #[.int .i64 (d : Int)]) : R1 3 .i64 W g (.slice (some ⟨g, 0, none⟩) 1 1) [d] :=
  ⟨rfl, .inr ⟨g, 1, _, rfl, Nat.le_refl _, h, Nat.le_refl _, by decide, rfl, rfl⟩⟩
theorem r1_cap {W : World} {b g n c : Nat} {l : List Nat} (h : R1 3 .i64 W b (.slice (some ⟨g, 0, none⟩) n c) l) : l.length ≤ c := by
  rcases h.2 with ⟨h0, _⟩ | ⟨g1, cap, cur, e, _, _, h3, _⟩
  · cases h0
  · injection e with _ _ e
    omega
set_option maxRecDepth 100000 in
set_option maxHeartbeats 8000000 in
theorem pcheck_ok (v : Vl) (us : List Vl) (R : Nat) (a : Ask) (w : World) (he : VEnv w) (hs : Src w v us R) (h5 : v.k = 5) (hz : v.zB = true) (ha : AskB w a) (hne : a.cr ≠ a.cl) (hh : 0 ≤ a.how ∧ a.how ≤ 4) :
    Calls Tryz.prog 17 #[v.v, a.v] w fun e w' => e = .returned (.int .i64 0) ∧ Below w.heap.size w w' := by
  have r1 := hs.r1
  have r2 := hs.r2
  have hga : GoodArr v us := ⟨hs.n.symm, fun u hu => (hs.ok u hu).2, fun u hu => (hs.ok u hu).1, by rw [hs.rows]; omega, by rw [hs.rows]; omega, by rw [hs.cols]; decide, by rw [hs.cols]; decide, by rw [hs.rows, hs.cols]; omega, by rw [hs.rows, hs.cols, hs.len]; push_cast; omega⟩
  have HV := Lib.hid fun W (hW : Below w.heap.size w W) => check_ok v W (he.below hW) us h5 hz hga (hs.rd.below hW)
  have hrows := hs.rows
  have hcols := hs.cols
  have HAB := Lib.hid ha
  obtain ⟨k, num, den, text, on, code, rows, cols, A, n, c⟩ := v
  obtain ⟨rb, ro, rc, cb, co, cc, cr, cl, how⟩ := a
  obtain ⟨br, bc, rfl, rfl, rfl, rfl, r3, c3⟩ := ha
  dsimp only at h5 hrows hcols br bc r3 c3 hne hh
  subst h5 hrows hcols
  have HV := Lib.hid (show ∀ W, Below w.heap.size w W → Calls Tryz.prog 34 #[.agg #[.int .i64 5, .string num, .string den, .string text, .bool on, .int .i64 code, .int .i64 ((R : Int) + 1), .int .i64 3, .slice A n c]] W fun e w' => e = .returned (.int .i64 0) ∧ Below W.heap.size W w' from HV.out)
  have HBR := Lib.hid br
  have HBC := Lib.hid bc
  obtain ⟨hh1, hh2⟩ := hh
  have HNE := Lib.hid hne
  clear hs he hz hga br bc hne
  have HL0 := Lib.hid (((Loc.start w).alloc' rfl 27 #[.int .i64 5, .string num, .string den, .string text, .bool on, .int .i64 code, .int .i64 ((R : Int) + 1), .int .i64 3, .slice A n c]).alloc' (g := w.heap.size + 1) (by simp) 30 #[.slice (some ⟨rb, 0, none⟩) 1 1, .slice (some ⟨cb, 0, none⟩) 1 1, .int .i64 2, .int .i64 how])
  have HLB := Lib.hid (show ∀ W, Loc w [(w.heap.size + 1, 30, #[.slice (some ⟨rb, 0, none⟩) 1 1, .slice (some ⟨cb, 0, none⟩) 1 1, .int .i64 2, .int .i64 how]), (w.heap.size, 27, #[.int .i64 5, .string num, .string den, .string text, .bool on, .int .i64 code, .int .i64 ((R : Int) + 1), .int .i64 3, .slice A n c])] W → ((W.cell? ⟨w.heap.size, 0, none⟩ = some (.int .i64 5) ∧ W.cell? ⟨w.heap.size, 6, none⟩ = some (.int .i64 ((R : Int) + 1)) ∧ W.cell? ⟨w.heap.size, 7, none⟩ = some (.int .i64 3)) ∧ W.cell? ⟨w.heap.size + 1, 0, none⟩ = some (.slice (some ⟨rb, 0, none⟩) 1 1) ∧ W.cell? ⟨w.heap.size + 1, 1, none⟩ = some (.slice (some ⟨cb, 0, none⟩) 1 1) ∧ W.cell? ⟨w.heap.size + 1, 2, none⟩ = some (.int .i64 2) ∧ W.cell? ⟨w.heap.size + 1, 3, none⟩ = some (.int .i64 how)) from fun W h => by
    have h1 := h.blk (g := w.heap.size + 1) (t := 30) (List.mem_cons_self ..)
    have h2 := h.blk (g := w.heap.size) (t := 27) (List.mem_cons_of_mem _ (List.mem_cons_self ..))
    exact ⟨⟨h2.cell 0, h2.cell 6, h2.cell 7⟩, h1.cell 0, h1.cell 1, h1.cell 2, h1.cell 3⟩)
  have HCC := Lib.hid (show ∀ W, Below w.heap.size w W → ∀ gp, W.cell? ⟨gp, 0, none⟩ = some (.slice (some ⟨rb, 0, none⟩) 1 1) → W.cell? ⟨gp, 1, none⟩ = some (.slice (some ⟨cb, 0, none⟩) 1 1) → Calls Tryz.prog 35 #[.slice (some ⟨gp, 0, none⟩) 2 2] W fun e w' => ∃ g c, e = .returned (.slice (some ⟨g, 0, none⟩) 2 c) ∧ R1 3 .i64 w' W.heap.size (.slice (some ⟨g, 0, none⟩) 2 c) [cr, cl] ∧ Below W.heap.size W w' from fun W hW gp q0 q1 => concat_any gp rb 1 rb 1 cb 1 cb 1 [cr] [cl] W q0 q1 (r1_blk (HBR.out.later hW)) (r1_blk (HBC.out.later hW)) rfl rfl (by decide) (by decide) (by decide))
  show Calls Tryz.prog 17 #[.agg #[.int .i64 5, .string num, .string den, .string text, .bool on, .int .i64 code, .int .i64 ((R : Int) + 1), .int .i64 3, .slice A n c], .agg #[.slice (some ⟨rb, 0, none⟩) 1 1, .slice (some ⟨cb, 0, none⟩) 1 1, .int .i64 2, .int .i64 how]] w _
  go_enter Tryz.func17, Tryz.ntmps17
  go_wp2_with (first
    | (go_at_call 34; (with_reducible refine (HV.out _ HL0.out.bel).mono ?_); rintro e w1 ⟨rfl, hb⟩; have HL1 := Lib.hid (HL0.out.step hb); clear hb; have HWX := Lib.hid (show w.heap.size + 2 ≤ (w1.alloc (.cells #[.slice (some ⟨rb, 0, none⟩) 1 1, .slice (some ⟨cb, 0, none⟩) 1 1] 22)).heap.size from by have := HL1.out.lt (g := w.heap.size + 1) (t := 30) (List.mem_cons_self ..); simp; omega); obtain ⟨⟨k0, k6, k7⟩, p0, p1, p2, p3⟩ := HLB.out _ HL1.out)
    | (go_at_call 35; (with_reducible refine (HCC.out _ (HL1.out.alloc0 _).bel _ (by go_simp) (by go_simp)).mono ?_); rintro e w2 ⟨gk, ck, rfl, hr, hb⟩; have HL2 := Lib.hid ((HL1.out.alloc0 _).step hb); have HR2 := Lib.hid (hr.mono HWX.out); have hck : 2 ≤ ck := r1_cap hr; have hcz : (1 : Int) ≤ (ck : Int) := (by omega); clear hb hr k0 k6 k7 p0 p1 p2 p3; obtain ⟨⟨k0, k6, k7⟩, p0, p1, p2, p3⟩ := HLB.out _ HL2.out; have HB2 := Lib.hid (HL2.out.lt (g := w.heap.size + 1) (t := 30) (List.mem_cons_self ..)))
    | (at_builtin; go_loud (refine wp_app3 rfl _ _ rfl (w.heap.size + 2) gk 2 ck [cr, cl] rfl HR2.out rfl 2 2 rfl rfl (by simp) HB2.out ?_); intro v3 w3 hr3 hb3 hk3; have HL3 := Lib.hid (HL2.out.stepB' hb3 (by omega) (fun x hx => by simp only [List.mem_cons, List.not_mem_nil, or_false] at hx; rcases hx with rfl | rfl <;> (dsimp only; omega))); obtain ⟨g3, c3, rfl, -, -⟩ := hr3.form (by simp); have x0 := hr3.cell rfl (i := 0) (by simp); have x1 := hr3.cell rfl (i := 1) (by simp); have x2 := hr3.cell rfl (i := 2) (by simp); have y0 := hk3 0 (by simp); have y1 := hk3 1 (by simp); simp only [List.cons_append, List.nil_append, List.getElem_cons_zero, List.getElem_cons_succ] at x0 x1 x2 y0 y1; clear hr3 hb3 hk3 k0 k6 k7 p0 p1 p2 p3; obtain ⟨⟨k0, k6, k7⟩, p0, p1, p2, p3⟩ := HLB.out _ HL3.out))
  have r3z : (cr : Int) < 3 := by omega
  have c3z : (cl : Int) < 3 := by omega
  have HT0 := Lib.hid (show Calls Tryz.prog 36 #[.slice (some ⟨gk, 0, none⟩) 0 ck, .int .i64 (cr : Int)] w3 fun e w' => e = .returned (.bool false) ∧ w' = w3 from Tryz.slices_Contains_int gk 0 0 ck [] cr w3 (by simp) (by decide) (fun j hj => by simp at hj))
  have HT1 := Lib.hid (show Calls Tryz.prog 36 #[.slice (some ⟨gk, 0, none⟩) 1 ck, .int .i64 (cl : Int)] w3 fun e w' => e = .returned (.bool false) ∧ w' = w3 from by
    have := Tryz.slices_Contains_int gk 0 1 ck [(cr : Int)] cl w3 (by simp) (by decide) (fun j hj => by
      obtain rfl : j = 0 := by simpa using hj
      exact y0)
    rw [show (List.contains (List.take 1 [(cr : Int)]) (cl : Int)) = false by
      have := HNE.out
      simp only [List.take_succ_cons, List.take_zero, List.contains_cons, List.contains_nil, Bool.or_false, beq_eq_false_iff_ne, ne_eq]
      omega] at this
    exact this)
  go_loopw [42] (fun u42 wr => ∃ j : Nat, j ≤ 3 ∧ u42 = .int .i64 j ∧ w3 = wr) (fun u _ => 3 - (intOf u).toNat)
  case atStart => exact ⟨0, by decide, rfl, rfl⟩
  case round =>
    obtain ⟨j, hj, rfl, rfl⟩ := hrel
    rcases (show j = 0 ∨ j = 1 ∨ j = 2 ∨ j = 3 by omega) with rfl | rfl | rfl | rfl
    · go_wp2_with (go_at_call 36; (with_reducible refine HT0.out.mono ?_); rintro e w4 ⟨rfl, rfl⟩)
      go_roundw
      case rel => exact ⟨1, by decide, by go_num, by simp⟩
      case measure => simp [intOf]
    · go_wp2_with (go_at_call 36; (with_reducible refine HT1.out.mono ?_); rintro e w4 ⟨rfl, rfl⟩)
      go_roundw
      case rel => exact ⟨2, by decide, by go_num, by simp⟩
      case measure => simp [intOf]
    · go_wp2_with fail
      go_roundw
      case rel => exact ⟨3, by decide, by go_num, by simp⟩
      case measure => simp [intOf]
    · go_wp2_with fail
      go_ret
      exact ⟨rfl, HL3.out.bel⟩
end Go.Proofs.YtmapagbmihpbmaaGreatDoor

namespace Go.Proofs.YtmapagbmihpbmaaGreatDoor
open Go.RowKit

set_option maxRecDepth 100000 in
set_option maxHeartbeats 16000000 in
theorem source_any (v : Vl) (us : List Vl) (R : Nat) (a : Ask) (i q : Nat) (w : World) (he : VEnv w) (hs : Src w v us R) (h5 : v.k = 5) (hz : v.zB = true) (ha : AskB w a) (hne : a.cr ≠ a.cl) (hh : 0 ≤ a.how ∧ a.how ≤ 4) (hi : i < (keysP (colL us a.cr R)).length) (hq : q < (keysP (colL us a.cl R)).length) :
    Calls Tryz.prog 9 #[v.v, a.v, .int .i64 (i : Int), .int .i64 (q : Int)] w fun e w' => ∃ A c, e = .returned (.tuple #[.slice A (grM (recsP us a.cr a.cl R) i q).length c, .int .i64 0]) ∧ Below w.heap.size w w' := by
  have r1 := hs.r1
  have r2 := hs.r2
  have HCK := Lib.hid fun W (hW : Below w.heap.size w W) => pcheck_ok v us R a W (he.below hW) (hs.below hW) h5 hz (ha.below hW) hne hh
  have HOP := Lib.hid fun W (hW : Below w.heap.size w W) => open_any v us R a W (he.below hW) (hs.below hW) (ha.below hW).at_
  have hk1 := keysP_len (colL us a.cr R)
  have hk2 := keysP_len (colL us a.cl R)
  rw [colL_len] at hk1 hk2
  obtain ⟨RL, hRL⟩ : ∃ L, L = recsP us a.cr a.cl R := ⟨_, rfl⟩
  have hRl : RL.length = R := by rw [hRL]; simp [recsP]
  unfold OpenRet at HOP
  rw [← hRL]
  rw [← hRL] at HOP
  obtain ⟨K1, hK1⟩ : ∃ K, K = keysP (colL us a.cr R) := ⟨_, rfl⟩
  obtain ⟨K2, hK2⟩ : ∃ K, K = keysP (colL us a.cl R) := ⟨_, rfl⟩
  rw [← hK1] at HOP hi hk1
  rw [← hK2] at HOP hq hk2
  obtain ⟨N1, hN1⟩ : ∃ n, n = K1.length := ⟨_, rfl⟩
  obtain ⟨N2, hN2⟩ : ∃ n, n = K2.length := ⟨_, rfl⟩
  rw [← hN1] at HOP hi hk1
  rw [← hN2] at HOP hq hk2
  clear hs he ha hz h5 hne hh hRL hK1 hK2 hN1 hN2
  obtain ⟨k, num, den, text, on, code, rows, cols, A, n, c⟩ := v
  obtain ⟨rb, ro, rc, cb, co, cc, cr, cl, how⟩ := a
  have HCK := Lib.hid (show ∀ W, Below w.heap.size w W → Calls Tryz.prog 17 #[.agg #[.int .i64 k, .string num, .string den, .string text, .bool on, .int .i64 code, .int .i64 rows, .int .i64 cols, .slice A n c], .agg #[.slice (some ⟨rb, ro, none⟩) 1 rc, .slice (some ⟨cb, co, none⟩) 1 cc, .int .i64 2, .int .i64 how]] W fun e w' => e = .returned (.int .i64 0) ∧ Below W.heap.size W w' from HCK.out)
  have HOP := Lib.hid (show ∀ W, Below w.heap.size w W → Calls Tryz.prog 18 #[.agg #[.int .i64 k, .string num, .string den, .string text, .bool on, .int .i64 code, .int .i64 rows, .int .i64 cols, .slice A n c], .agg #[.slice (some ⟨rb, ro, none⟩) 1 rc, .slice (some ⟨cb, co, none⟩) 1 cc, .int .i64 2, .int .i64 how]] W fun e w' => ∃ (g1 c1 g2 c2 g3 c3 : Nat), e = .returned (.agg #[(.slice (some ⟨g1, 0, none⟩) N1 c1), (.slice (some ⟨g2, 0, none⟩) N2 c2), (.slice (some ⟨g3, 0, none⟩) R c3)]) ∧ Reads 12 rmC w' (.slice (some ⟨g3, 0, none⟩) R c3) RL ∧ Below W.heap.size W w' from fun W hW => (HOP.out W hW).mono fun e w' h => by
    obtain ⟨g1, c1, g2, c2, g3, c3, h1, -, -, h2, h3⟩ := h
    exact ⟨g1, c1, g2, c2, g3, c3, h1, h2, h3⟩)
  have HL0 := Lib.hid (((Loc.start w).alloc' rfl 27 #[.int .i64 k, .string num, .string den, .string text, .bool on, .int .i64 code, .int .i64 rows, .int .i64 cols, .slice A n c]).alloc' (g := w.heap.size + 1) (by simp) 30 #[.slice (some ⟨rb, ro, none⟩) 1 rc, .slice (some ⟨cb, co, none⟩) 1 cc, .int .i64 2, .int .i64 how])
  have HLB := Lib.hid (show ∀ W, Loc w [(w.heap.size + 1, 30, #[.slice (some ⟨rb, ro, none⟩) 1 rc, .slice (some ⟨cb, co, none⟩) 1 cc, .int .i64 2, .int .i64 how]), (w.heap.size, 27, #[.int .i64 k, .string num, .string den, .string text, .bool on, .int .i64 code, .int .i64 rows, .int .i64 cols, .slice A n c])] W → (W.cell? ⟨w.heap.size, 0, none⟩ = some (.int .i64 k) ∧ W.cell? ⟨w.heap.size, 1, none⟩ = some (.string num) ∧ W.cell? ⟨w.heap.size, 2, none⟩ = some (.string den) ∧ W.cell? ⟨w.heap.size, 3, none⟩ = some (.string text) ∧ W.cell? ⟨w.heap.size, 4, none⟩ = some (.bool on) ∧ W.cell? ⟨w.heap.size, 5, none⟩ = some (.int .i64 code) ∧ W.cell? ⟨w.heap.size, 6, none⟩ = some (.int .i64 rows) ∧ W.cell? ⟨w.heap.size, 7, none⟩ = some (.int .i64 cols) ∧ W.cell? ⟨w.heap.size, 8, none⟩ = some (.slice A n c)) ∧ W.cell? ⟨w.heap.size + 1, 0, none⟩ = some (.slice (some ⟨rb, ro, none⟩) 1 rc) ∧ W.cell? ⟨w.heap.size + 1, 1, none⟩ = some (.slice (some ⟨cb, co, none⟩) 1 cc) ∧ W.cell? ⟨w.heap.size + 1, 2, none⟩ = some (.int .i64 2) ∧ W.cell? ⟨w.heap.size + 1, 3, none⟩ = some (.int .i64 how) from fun W h => by
    have h1 := h.blk (g := w.heap.size + 1) (t := 30) (List.mem_cons_self ..)
    have h2 := h.blk (g := w.heap.size) (t := 27) (List.mem_cons_of_mem _ (List.mem_cons_self ..))
    exact ⟨⟨h2.cell 0, h2.cell 1, h2.cell 2, h2.cell 3, h2.cell 4, h2.cell 5, h2.cell 6, h2.cell 7, h2.cell 8⟩, h1.cell 0, h1.cell 1, h1.cell 2, h1.cell 3⟩)
  have z1 : ¬ (i : Int) < -1 := by omega
  have z2 : ¬ (q : Int) < -1 := by omega
  have z3 : (i : Int) < (N1 : Int) := by omega
  have z4 : (q : Int) < (N2 : Int) := by omega
  have bi : i ≤ 100000 := by omega
  have bq : q ≤ 100000 := by omega
  show Calls Tryz.prog 9 #[.agg #[.int .i64 k, .string num, .string den, .string text, .bool on, .int .i64 code, .int .i64 rows, .int .i64 cols, .slice A n c], .agg #[.slice (some ⟨rb, ro, none⟩) 1 rc, .slice (some ⟨cb, co, none⟩) 1 cc, .int .i64 2, .int .i64 how], .int .i64 (i : Int), .int .i64 (q : Int)] w _
  go_enter Tryz.func9, Tryz.ntmps9
  go_upto_region 5 with (first
    | (go_at_call 17; (with_reducible refine (HCK.out _ HL0.out.bel).mono ?_); rintro e w1 ⟨rfl, hb⟩; have HL1 := Lib.hid (HL0.out.step hb); clear hb; obtain ⟨⟨k0, k1, k2, k3, k4, k5, k6, k7, k8⟩, p0, p1, p2, p3⟩ := HLB.out _ HL1.out)
    | (go_at_call 18; (with_reducible refine (HOP.out _ HL1.out.bel).mono ?_); rintro e w2 ⟨g1, c1, g2, c2, g3, c3, rfl, hrd, hb⟩; have HB2 := Lib.hid (HL1.out.bel.trans (hb.mono HL1.out.bel.size)); have HR2 := Lib.hid hrd; clear hb hrd k0 k1 k2 k3 k4 k5 k6 k7 k8 p0 p1 p2 p3))
  have hbA : Below w2.heap.size w2 (w2.alloc (.cells #[(.slice (some ⟨g1, 0, none⟩) N1 c1), (.slice (some ⟨g2, 0, none⟩) N2 c2), (.slice (some ⟨g3, 0, none⟩) R c3)] 56)) := (Below.refl _ _).alloc (Nat.le_refl _) _
  have hbk := Blk.new w2 56 #[(.slice (some ⟨g1, 0, none⟩) N1 c1), (.slice (some ⟨g2, 0, none⟩) N2 c2), (.slice (some ⟨g3, 0, none⟩) R c3)]
  have HR3 := Lib.hid (HR2.out.below hbA)
  have HB3 := Lib.hid (HB2.out.trans (hbA.mono HB2.out.size))
  clear hbA HR2 HB2 HL0 HLB HCK HOP
  revert hbk HR3 HB3
  generalize w2.alloc (.cells #[(.slice (some ⟨g1, 0, none⟩) N1 c1), (.slice (some ⟨g2, 0, none⟩) N2 c2), (.slice (some ⟨g3, 0, none⟩) R c3)] 56) = w3
  intro hbk HR3 HB3
  obtain ⟨s0, s1, s2, -, -, -⟩ := hbk.three
  have HGR := Lib.hid (group_any (.slice (some ⟨g1, 0, none⟩) N1 c1) (.slice (some ⟨g2, 0, none⟩) N2 c2) ⟨_, _, _, rfl⟩ ⟨_, _, _, rfl⟩ g3 c3 R RL i q w3 HR3.out r1 (by omega) bi bq)
  clear hbk HR3
  go_wp2_with (go_at_call 24; (with_reducible refine HGR.out.mono ?_); rintro e w4 ⟨gv, rfl, hro, hb⟩; have HRO := Lib.hid (RowOf.reads hro rmC_len); have HB4 := Lib.hid (HB3.out.trans (hb.mono HB3.out.size)); obtain ⟨A4, c4, rfl⟩ := HRO.out.shape; clear hb hro)
  obtain ⟨G, hG⟩ : ∃ G, G = grM RL i q := ⟨_, rfl⟩
  have hgl : G.length ≤ 14 := by rw [hG]; exact Nat.le_trans (List.length_filter_le _ _) (by omega)
  rw [← hG] at HRO
  have HGE := Lib.hid hG
  obtain ⟨gn, hgn⟩ : ∃ gn, gn = G.length := ⟨_, rfl⟩
  have hxl : (grM RL i q).length = gn := by rw [hgn, hG]
  have HGN := Lib.hid hxl
  rw [hxl]
  have HC := Lib.hid (show ∀ j (hj : j < gn), ∃ (b o ra rr rl : Nat) (uk : Int) (unum uden utext : ByteArray) (uon : Bool) (ucode urows ucols : Int) (uA : Option Addr) (un uc : Nat), A4 = some ⟨b, o, none⟩ ∧ ∀ W, Below w4.heap.size w4 W → ∀ p, p < 12 → W.cell? ⟨b, o + j * 12 + p, none⟩ = (#[.int .i64 (ra : Int), .int .i64 (rr : Int), .int .i64 (rl : Int), .int .i64 uk, .string unum, .string uden, .string utext, .bool uon, .int .i64 ucode, .int .i64 urows, .int .i64 ucols, .slice uA un uc] : Array Value)[p]? from fun j hj => by
    obtain ⟨A', c', e, -, -, h3⟩ := HRO.out
    injection e with e1 e2 e3
    obtain ⟨b, o, e4, hb, hc⟩ := h3 (by omega)
    obtain ⟨⟨ra, rr, rl, ⟨uk, unum, uden, utext, uon, ucode, urows, ucols, uA, un, uc⟩⟩, hr⟩ : ∃ r, r = G[j]'(by omega) := ⟨_, rfl⟩
    refine ⟨b, o, ra, rr, rl, uk, unum, uden, utext, uon, ucode, urows, ucols, uA, un, uc, e1.trans e4, fun W hW p hp => ?_⟩
    have := hc j (by omega) p hp
    rw [← hr, ← Nat.add_assoc] at this
    refine ((hW.cell (by exact hb)).trans this).trans ?_
    simp [rmC, Vl.cs])
  have hg14 : gn ≤ 14 := by omega
  clear hG hgn hxl HRO HGR
  go_loopw [12, 49] (fun u12 u49 wr => ∃ (j : Nat) (l : List Nat), j ≤ gn ∧ l.length = j ∧ u49 = .int .i64 j ∧ Hid (R1 3 .i64 wr w4.heap.size u12 l) ∧ Hid (Below w4.heap.size w4 wr)) (fun _ u _ => gn - (intOf u).toNat)
  case atStart => exact ⟨0, [], by omega, rfl, rfl, Lib.hid (R1.nil _ _), Lib.hid (Below.refl _ _)⟩
  case round =>
    obtain ⟨j, l, hj, hl, rfl, HO, HB⟩ := hrel
    by_cases hlt : j < gn
    · have hlz : (j : Int) < (gn : Int) := by omega
      obtain ⟨b, o, ra, rr, rl, uk, unum, uden, utext, uon, ucode, urows, ucols, uA, un, uc, rfl, hcl⟩ := HC.out j hlt
      have e0 : wr.cell? ⟨b, o + j * 12, none⟩ = some (.int .i64 (ra : Int)) := hcl wr HB.out 0 (by decide)
      have e1 : wr.cell? ⟨b, o + j * 12 + 1, none⟩ = some (.int .i64 (rr : Int)) := hcl wr HB.out 1 (by decide)
      have e2 : wr.cell? ⟨b, o + j * 12 + 2, none⟩ = some (.int .i64 (rl : Int)) := hcl wr HB.out 2 (by decide)
      have e3 : wr.cell? ⟨b, o + j * 12 + 3, none⟩ = some (.int .i64 uk) := hcl wr HB.out 3 (by decide)
      have e4 : wr.cell? ⟨b, o + j * 12 + 4, none⟩ = some (.string unum) := hcl wr HB.out 4 (by decide)
      have e5 : wr.cell? ⟨b, o + j * 12 + 5, none⟩ = some (.string uden) := hcl wr HB.out 5 (by decide)
      have e6 : wr.cell? ⟨b, o + j * 12 + 6, none⟩ = some (.string utext) := hcl wr HB.out 6 (by decide)
      have e7 : wr.cell? ⟨b, o + j * 12 + 7, none⟩ = some (.bool uon) := hcl wr HB.out 7 (by decide)
      have e8 : wr.cell? ⟨b, o + j * 12 + 8, none⟩ = some (.int .i64 ucode) := hcl wr HB.out 8 (by decide)
      have e9 : wr.cell? ⟨b, o + j * 12 + 9, none⟩ = some (.int .i64 urows) := hcl wr HB.out 9 (by decide)
      have e10 : wr.cell? ⟨b, o + j * 12 + 10, none⟩ = some (.int .i64 ucols) := hcl wr HB.out 10 (by decide)
      have e11 : wr.cell? ⟨b, o + j * 12 + 11, none⟩ = some (.slice uA un uc) := hcl wr HB.out 11 (by decide)
      clear hcl
      go_upto_region 11 with fail
      have hbk := Blk.new wr 61 #[.int .i64 (ra : Int), .int .i64 (rr : Int), .int .i64 (rl : Int), .int .i64 uk, .string unum, .string uden, .string utext, .bool uon, .int .i64 ucode, .int .i64 urows, .int .i64 ucols, .slice uA un uc]
      have HBA := Lib.hid (HB.out.alloc HB.out.size (.cells #[.int .i64 (ra : Int), .int .i64 (rr : Int), .int .i64 (rl : Int), .int .i64 uk, .string unum, .string uden, .string utext, .bool uon, .int .i64 ucode, .int .i64 urows, .int .i64 ucols, .slice uA un uc] 61))
      have HOA := Lib.hid (R1.alloc HO.out (.cells #[.int .i64 (ra : Int), .int .i64 (rr : Int), .int .i64 (rl : Int), .int .i64 uk, .string unum, .string uden, .string utext, .bool uon, .int .i64 ucode, .int .i64 urows, .int .i64 ucols, .slice uA un uc] 61))
      clear e0 e1 e2 e3 e4 e5 e6 e7 e8 e9 e10 e11 HB HO
      revert hbk HBA HOA
      generalize wr.alloc (.cells #[.int .i64 (ra : Int), .int .i64 (rr : Int), .int .i64 (rl : Int), .int .i64 uk, .string unum, .string uden, .string utext, .bool uon, .int .i64 ucode, .int .i64 urows, .int .i64 ucols, .slice uA un uc] 61) = W1
      intro hbk HBA HOA
      have c0 : W1.cell? ⟨wr.heap.size, 0, none⟩ = some (.int .i64 (ra : Int)) := hbk.cell 0
      have HSZ := Lib.hid HBA.out.size
      go_wp2_with (at_builtin; go_loud (refine wp_appI rfl _ _ rfl w4.heap.size _ l rfl HOA.out (ra : Int) ra rfl rfl (by omega) HSZ.out ?_); intro v3 w5 hr3 hb3 _; have HO3 := Lib.hid hr3; have HB5 := Lib.hid (HBA.out.trans hb3); clear hr3 hb3)
      go_roundw
      case rel => exact ⟨j + 1, l ++ [ra], by omega, by simp [hl], by go_num, HO3, HB5⟩
      case measure => simp [intOf]; omega
    · have hlz : ¬ (j : Int) < (gn : Int) := by omega
      obtain rfl : j = gn := by omega
      obtain ⟨A5, c5, h5⟩ := HO.out.shape
      rw [hl] at h5
      subst h5
      go_wp2_with fail
      go_ret2
      exact ⟨⟨A5, c5, by rw [HGN.out]; rfl⟩, HB4.out.trans (HB.out.mono HB4.out.size)⟩
end Go.Proofs.YtmapagbmihpbmaaGreatDoor

namespace Go.Proofs.YtmapagbmihpbmaaGreatDoor
open Go.RowKit

/-- What Make answers. -/
def MakeRet (us : List Vl) (cr cl R : Nat) (Rs : List Rm → Vl) (w : World) (e : Ending) (w' : World) : Prop :=
  MakeR (keysP (colL us cr R)).length (keysP (colL us cl R)).length (keysP (colL us cr R)) (keysP (colL us cl R)) (recsP us cr cl R) Rs w e w'
set_option maxRecDepth 100000 in
set_option maxHeartbeats 16000000 in
theorem make_g (v : Vl) (us : List Vl) (R : Nat) (a : Ask) (Rs : List Rm → Vl) (w : World) (he : VEnv w) (hs : Src w v us R) (h5 : v.k = 5) (hz : v.zB = true) (ha : AskB w a) (hne : a.cr ≠ a.cl) (hh : 0 ≤ a.how ∧ a.how ≤ 4) (hN : ∀ (A : Option Addr) (q c : Nat) (L : List Rm) W, VEnv W → Reads 12 rmC W (.slice A q c) L → q ≤ 14 → (∀ r ∈ L, r ∈ recsP us a.cr a.cl R) → Calls Tryz.prog 19 #[.slice A q c, .int .i64 a.how] W fun e w' => e = .returned (.agg (vA (Rs L))) ∧ Below W.heap.size W w') :
    Calls Tryz.prog 6 #[v.v, a.v] w (MakeRet us a.cr a.cl R Rs w) := by
  have r1 := hs.r1
  have r2 := hs.r2
  have HCK := Lib.hid fun W (hW : Below w.heap.size w W) => pcheck_ok v us R a W (he.below hW) (hs.below hW) h5 hz (ha.below hW) hne hh
  have HOP := Lib.hid fun W (hW : Below w.heap.size w W) => open_any v us R a W (he.below hW) (hs.below hW) (ha.below hW).at_
  have hk1 := keysP_len (colL us a.cr R)
  have hk2 := keysP_len (colL us a.cl R)
  have hp1 := keysP_pos (colL us a.cr R) (by rw [colL_len]; omega)
  have hp2 := keysP_pos (colL us a.cl R) (by rw [colL_len]; omega)
  rw [colL_len] at hk1 hk2
  have hcol : ∀ c, c < 3 → ∀ u ∈ colL us c R, u.ok := fun c hc u hu => by
    obtain ⟨i, hi, rfl⟩ := List.mem_map.1 hu
    exact (hs.ok _ (hs.mem (by have := List.mem_range.1 hi; omega))).1
  have h3r := ha.at_.r3
  have h3c := ha.at_.c3
  have hrow : ∀ r ∈ recsP us a.cr a.cl R, r.row < (keysP (colL us a.cr R)).length := recs_row us a.cr a.cl R (hcol _ h3r)
  have hcl : ∀ r ∈ recsP us a.cr a.cl R, r.col < (keysP (colL us a.cl R)).length := recs_col us a.cr a.cl R (hcol _ h3c)
  unfold MakeRet
  obtain ⟨RL, hRL⟩ : ∃ L, L = recsP us a.cr a.cl R := ⟨_, rfl⟩
  have hRl : RL.length = R := by rw [hRL]; simp [recsP]
  unfold OpenRet at HOP
  rw [← hRL]
  rw [← hRL] at HOP hrow hcl hN
  obtain ⟨K1, hK1⟩ : ∃ K, K = keysP (colL us a.cr R) := ⟨_, rfl⟩
  obtain ⟨K2, hK2⟩ : ∃ K, K = keysP (colL us a.cl R) := ⟨_, rfl⟩
  rw [← hK1, ← hK2]
  rw [← hK1] at HOP hk1 hp1 hrow
  rw [← hK2] at HOP hk2 hp2 hcl
  obtain ⟨N1, hN1⟩ : ∃ n, n = K1.length := ⟨_, rfl⟩
  obtain ⟨N2, hN2⟩ : ∃ n, n = K2.length := ⟨_, rfl⟩
  rw [← hN1, ← hN2]
  rw [← hN1] at HOP hk1 hp1 hrow
  rw [← hN2] at HOP hk2 hp2 hcl
  have HEN := Lib.hid he
  have HRE := Lib.hid hN
  have HRW := Lib.hid hrow
  have HCLM := Lib.hid hcl
  clear hs he ha hz h5 hne hRL hK1 hK2 hN1 hN2 hcol h3r h3c hrow hcl hN hh
  obtain ⟨k, num, den, text, on, code, rows, cols, A, n, c⟩ := v
  obtain ⟨rb, ro, rc, cb, co, cc, cr, cl, how⟩ := a
  have HRE := Lib.hid (show ∀ (A : Option Addr) (q c : Nat) (L : List Rm) W, VEnv W → Reads 12 rmC W (.slice A q c) L → q ≤ 14 → (∀ r ∈ L, r ∈ RL) → Calls Tryz.prog 19 #[.slice A q c, .int .i64 how] W fun e w' => e = .returned (.agg (vA (Rs L))) ∧ Below W.heap.size W w' from HRE.out)
  show Calls Tryz.prog _ _ w (MakeR N1 N2 K1 K2 RL Rs w)
  have HCK := Lib.hid (show ∀ W, Below w.heap.size w W → Calls Tryz.prog 17 #[.agg #[.int .i64 k, .string num, .string den, .string text, .bool on, .int .i64 code, .int .i64 rows, .int .i64 cols, .slice A n c], .agg #[.slice (some ⟨rb, ro, none⟩) 1 rc, .slice (some ⟨cb, co, none⟩) 1 cc, .int .i64 2, .int .i64 how]] W fun e w' => e = .returned (.int .i64 0) ∧ Below W.heap.size W w' from HCK.out)
  have HOP := Lib.hid (show ∀ W, Below w.heap.size w W → Calls Tryz.prog 18 #[.agg #[.int .i64 k, .string num, .string den, .string text, .bool on, .int .i64 code, .int .i64 rows, .int .i64 cols, .slice A n c], .agg #[.slice (some ⟨rb, ro, none⟩) 1 rc, .slice (some ⟨cb, co, none⟩) 1 cc, .int .i64 2, .int .i64 how]] W fun e w' => ∃ (g1 c1 g2 c2 g3 c3 : Nat), e = .returned (.agg #[(.slice (some ⟨g1, 0, none⟩) N1 c1), (.slice (some ⟨g2, 0, none⟩) N2 c2), (.slice (some ⟨g3, 0, none⟩) R c3)]) ∧ KT w' (.slice (some ⟨g1, 0, none⟩) N1 c1) K1 ∧ KT w' (.slice (some ⟨g2, 0, none⟩) N2 c2) K2 ∧ Reads 12 rmC w' (.slice (some ⟨g3, 0, none⟩) R c3) RL ∧ Below W.heap.size W w' from fun W hW => (HOP.out W hW).mono fun e w' h => h)
  have HL0 := Lib.hid ((((Loc.start w).alloc' rfl 27 #[.int .i64 k, .string num, .string den, .string text, .bool on, .int .i64 code, .int .i64 rows, .int .i64 cols, .slice A n c]).alloc' (g := w.heap.size + 1) (by simp) 30 #[.slice (some ⟨rb, ro, none⟩) 1 rc, .slice (some ⟨cb, co, none⟩) 1 cc, .int .i64 2, .int .i64 how]).alloc' (g := w.heap.size + 1 + 1) (by simp) 33 #[.slice none 0 0, .slice none 0 0, .slice none 0 0, .slice none 0 0, .slice none 0 0, .int .i64 0, .string ⟨#[]⟩, .string ⟨#[]⟩, .string ⟨#[]⟩, .bool false, .int .i64 0, .int .i64 0, .int .i64 0, .slice none 0 0])
  have HLB := Lib.hid (show ∀ W, Loc w [(w.heap.size + 1 + 1, 33, #[.slice none 0 0, .slice none 0 0, .slice none 0 0, .slice none 0 0, .slice none 0 0, .int .i64 0, .string ⟨#[]⟩, .string ⟨#[]⟩, .string ⟨#[]⟩, .bool false, .int .i64 0, .int .i64 0, .int .i64 0, .slice none 0 0]), (w.heap.size + 1, 30, #[.slice (some ⟨rb, ro, none⟩) 1 rc, .slice (some ⟨cb, co, none⟩) 1 cc, .int .i64 2, .int .i64 how]), (w.heap.size, 27, #[.int .i64 k, .string num, .string den, .string text, .bool on, .int .i64 code, .int .i64 rows, .int .i64 cols, .slice A n c])] W → (W.cell? ⟨w.heap.size, 0, none⟩ = some (.int .i64 k) ∧ W.cell? ⟨w.heap.size, 1, none⟩ = some (.string num) ∧ W.cell? ⟨w.heap.size, 2, none⟩ = some (.string den) ∧ W.cell? ⟨w.heap.size, 3, none⟩ = some (.string text) ∧ W.cell? ⟨w.heap.size, 4, none⟩ = some (.bool on) ∧ W.cell? ⟨w.heap.size, 5, none⟩ = some (.int .i64 code) ∧ W.cell? ⟨w.heap.size, 6, none⟩ = some (.int .i64 rows) ∧ W.cell? ⟨w.heap.size, 7, none⟩ = some (.int .i64 cols) ∧ W.cell? ⟨w.heap.size, 8, none⟩ = some (.slice A n c)) ∧ W.cell? ⟨w.heap.size + 1, 0, none⟩ = some (.slice (some ⟨rb, ro, none⟩) 1 rc) ∧ W.cell? ⟨w.heap.size + 1, 1, none⟩ = some (.slice (some ⟨cb, co, none⟩) 1 cc) ∧ W.cell? ⟨w.heap.size + 1, 2, none⟩ = some (.int .i64 2) ∧ W.cell? ⟨w.heap.size + 1, 3, none⟩ = some (.int .i64 how) from fun W h => by
    have h1 := h.blk (g := w.heap.size + 1) (t := 30) (List.mem_cons_of_mem _ (List.mem_cons_self ..))
    have h2 := h.blk (g := w.heap.size) (t := 27) (List.mem_cons_of_mem _ (List.mem_cons_of_mem _ (List.mem_cons_self ..)))
    exact ⟨⟨h2.cell 0, h2.cell 1, h2.cell 2, h2.cell 3, h2.cell 4, h2.cell 5, h2.cell 6, h2.cell 7, h2.cell 8⟩, h1.cell 0, h1.cell 1, h1.cell 2, h1.cell 3⟩)
  show Calls Tryz.prog 6 #[.agg #[.int .i64 k, .string num, .string den, .string text, .bool on, .int .i64 code, .int .i64 rows, .int .i64 cols, .slice A n c], .agg #[.slice (some ⟨rb, ro, none⟩) 1 rc, .slice (some ⟨cb, co, none⟩) 1 cc, .int .i64 2, .int .i64 how]] w _
  go_enter Tryz.func6, Tryz.ntmps6
  go_upto_region 5 with (first
    | (go_at_call 17; (with_reducible refine (HCK.out _ HL0.out.bel).mono ?_); rintro e w1 ⟨rfl, hb⟩; have HL1 := Lib.hid (HL0.out.step hb); clear hb; obtain ⟨⟨k0, k1, k2, k3, k4, k5, k6, k7, k8⟩, p0, p1, p2, p3⟩ := HLB.out _ HL1.out)
    | (go_at_call 18; (with_reducible refine (HOP.out _ HL1.out.bel).mono ?_); rintro e w2 ⟨g1, c1, g2, c2, g3, c3, rfl, hk1', hk2', hrd, hb⟩; have HL2 := Lib.hid (HL1.out.step hb); have HR2 := Lib.hid hrd; have HKA := Lib.hid hk1'; have HKB := Lib.hid hk2'; clear hb hrd hk1' hk2' k0 k1 k2 k3 k4 k5 k6 k7 k8 p0 p1 p2 p3))
  have hbA : Below w2.heap.size w2 (w2.alloc (.cells #[(.slice (some ⟨g1, 0, none⟩) N1 c1), (.slice (some ⟨g2, 0, none⟩) N2 c2), (.slice (some ⟨g3, 0, none⟩) R c3)] 56)) := (Below.refl _ _).alloc (Nat.le_refl _) _
  have hbk := Blk.new w2 56 #[(.slice (some ⟨g1, 0, none⟩) N1 c1), (.slice (some ⟨g2, 0, none⟩) N2 c2), (.slice (some ⟨g3, 0, none⟩) R c3)]
  have HB3 := Lib.hid hbA
  have HL3 := Lib.hid (HL2.out.alloc' rfl 56 #[(.slice (some ⟨g1, 0, none⟩) N1 c1), (.slice (some ⟨g2, 0, none⟩) N2 c2), (.slice (some ⟨g3, 0, none⟩) R c3)])
  have l2w : w.heap.size + 1 + 1 < w2.heap.size := HL2.out.lt (g := w.heap.size + 1 + 1) (t := 33) (List.mem_cons_self ..)
  clear hbA HL0 HL1 HCK HOP
  revert hbk HB3 HL3
  generalize w2.alloc (.cells #[(.slice (some ⟨g1, 0, none⟩) N1 c1), (.slice (some ⟨g2, 0, none⟩) N2 c2), (.slice (some ⟨g3, 0, none⟩) R c3)] 56) = w3
  intro hbk HB3 HL3
  obtain ⟨s0, s1, s2, -, -, -⟩ := hbk.three
  clear hbk
  go_quiet (fail)
  rename_i nq
  have HB5 := Lib.hid (show Below w2.heap.size w2 (w3.drewN nq) from ⟨HB3.out.os, HB3.out.tape, HB3.out.output, HB3.out.size, HB3.out.block⟩)
  have HL5 := Lib.hid (HL3.out.drewN nq)
  clear s0 s1 s2 HB3 HL3
  revert HB5 HL5
  generalize w3.drewN nq = w5
  intro HB5 HL5
  obtain ⟨qq, hq⟩ : ∃ qq, qq = 100000 / N2 := ⟨_, rfl⟩
  have hqz : Int.tdiv 100000 (N2 : Int) = (qq : Int) := by rw [hq]; rfl
  have hq1 : 7142 ≤ qq := by rw [hq]; exact (Nat.le_div_iff_mul_le hp2).2 (by omega)
  have hq2 : qq ≤ 100000 := by rw [hq]; exact Nat.div_le_self _ _
  have hn2 : ¬ (N2 : Int) = 0 := by omega
  have hgt : ¬ (N1 : Int) > (qq : Int) := by omega
  clear hq
  go_upto_region 8 with fail

  obtain ⟨t, ht⟩ : ∃ t, t = Rs RL := ⟨_, rfl⟩
  obtain ⟨tk, tnum, tden, ttx, ton, tco, tro, tcl, tA, tn, tc⟩ := t
  have HTT := Lib.hid ht.symm
  have HG5 := Lib.hid (show Loc w ((w2.heap.size, 56, #[(.slice (some ⟨g1, 0, none⟩) N1 c1), (.slice (some ⟨g2, 0, none⟩) N2 c2), (.slice (some ⟨g3, 0, none⟩) R c3)]) :: [(w.heap.size + 1 + 1, 33, #[.slice none 0 0, .slice none 0 0, .slice none 0 0, .slice none 0 0, .slice none 0 0, .int .i64 0, .string ⟨#[]⟩, .string ⟨#[]⟩, .string ⟨#[]⟩, .bool false, .int .i64 0, .int .i64 0, .int .i64 0, .slice none 0 0]), (w.heap.size + 1, 30, #[.slice (some ⟨rb, ro, none⟩) 1 rc, .slice (some ⟨cb, co, none⟩) 1 cc, .int .i64 2, .int .i64 how]), (w.heap.size, 27, #[.int .i64 k, .string num, .string den, .string text, .bool on, .int .i64 code, .int .i64 rows, .int .i64 cols, .slice A n c])]) w5 ∧ Below w2.heap.size w2 w5 from ⟨HL5.out, HB5.out⟩)
  have HGd := Lib.hid (show ∀ W, Loc w ((w2.heap.size, 56, #[(.slice (some ⟨g1, 0, none⟩) N1 c1), (.slice (some ⟨g2, 0, none⟩) N2 c2), (.slice (some ⟨g3, 0, none⟩) R c3)]) :: [(w.heap.size + 1 + 1, 33, #[.slice none 0 0, .slice none 0 0, .slice none 0 0, .slice none 0 0, .slice none 0 0, .int .i64 0, .string ⟨#[]⟩, .string ⟨#[]⟩, .string ⟨#[]⟩, .bool false, .int .i64 0, .int .i64 0, .int .i64 0, .slice none 0 0]), (w.heap.size + 1, 30, #[.slice (some ⟨rb, ro, none⟩) 1 rc, .slice (some ⟨cb, co, none⟩) 1 cc, .int .i64 2, .int .i64 how]), (w.heap.size, 27, #[.int .i64 k, .string num, .string den, .string text, .bool on, .int .i64 code, .int .i64 rows, .int .i64 cols, .slice A n c])]) W ∧ Below w2.heap.size w2 W → Loc w ((w2.heap.size, 56, #[(.slice (some ⟨g1, 0, none⟩) N1 c1), (.slice (some ⟨g2, 0, none⟩) N2 c2), (.slice (some ⟨g3, 0, none⟩) R c3)]) :: [(w.heap.size + 1 + 1, 33, #[.slice none 0 0, .slice none 0 0, .slice none 0 0, .slice none 0 0, .slice none 0 0, .int .i64 0, .string ⟨#[]⟩, .string ⟨#[]⟩, .string ⟨#[]⟩, .bool false, .int .i64 0, .int .i64 0, .int .i64 0, .slice none 0 0]), (w.heap.size + 1, 30, #[.slice (some ⟨rb, ro, none⟩) 1 rc, .slice (some ⟨cb, co, none⟩) 1 cc, .int .i64 2, .int .i64 how]), (w.heap.size, 27, #[.int .i64 k, .string num, .string den, .string text, .bool on, .int .i64 code, .int .i64 rows, .int .i64 cols, .slice A n c])]) W.drew ∧ Below w2.heap.size w2 W.drew from fun W h => ⟨h.1.drew, h.2.drew⟩)
  have HGa := Lib.hid (show ∀ W o, Loc w ((w2.heap.size, 56, #[(.slice (some ⟨g1, 0, none⟩) N1 c1), (.slice (some ⟨g2, 0, none⟩) N2 c2), (.slice (some ⟨g3, 0, none⟩) R c3)]) :: [(w.heap.size + 1 + 1, 33, #[.slice none 0 0, .slice none 0 0, .slice none 0 0, .slice none 0 0, .slice none 0 0, .int .i64 0, .string ⟨#[]⟩, .string ⟨#[]⟩, .string ⟨#[]⟩, .bool false, .int .i64 0, .int .i64 0, .int .i64 0, .slice none 0 0]), (w.heap.size + 1, 30, #[.slice (some ⟨rb, ro, none⟩) 1 rc, .slice (some ⟨cb, co, none⟩) 1 cc, .int .i64 2, .int .i64 how]), (w.heap.size, 27, #[.int .i64 k, .string num, .string den, .string text, .bool on, .int .i64 code, .int .i64 rows, .int .i64 cols, .slice A n c])]) W ∧ Below w2.heap.size w2 W → Loc w ((w2.heap.size, 56, #[(.slice (some ⟨g1, 0, none⟩) N1 c1), (.slice (some ⟨g2, 0, none⟩) N2 c2), (.slice (some ⟨g3, 0, none⟩) R c3)]) :: [(w.heap.size + 1 + 1, 33, #[.slice none 0 0, .slice none 0 0, .slice none 0 0, .slice none 0 0, .slice none 0 0, .int .i64 0, .string ⟨#[]⟩, .string ⟨#[]⟩, .string ⟨#[]⟩, .bool false, .int .i64 0, .int .i64 0, .int .i64 0, .slice none 0 0]), (w.heap.size + 1, 30, #[.slice (some ⟨rb, ro, none⟩) 1 rc, .slice (some ⟨cb, co, none⟩) 1 cc, .int .i64 2, .int .i64 how]), (w.heap.size, 27, #[.int .i64 k, .string num, .string den, .string text, .bool on, .int .i64 code, .int .i64 rows, .int .i64 cols, .slice A n c])]) (W.alloc o) ∧ Below w2.heap.size w2 (W.alloc o) from fun W o h => ⟨h.1.alloc0 o, h.2.alloc h.2.size o⟩)
  have HGs := Lib.hid (show ∀ W W', Loc w ((w2.heap.size, 56, #[(.slice (some ⟨g1, 0, none⟩) N1 c1), (.slice (some ⟨g2, 0, none⟩) N2 c2), (.slice (some ⟨g3, 0, none⟩) R c3)]) :: [(w.heap.size + 1 + 1, 33, #[.slice none 0 0, .slice none 0 0, .slice none 0 0, .slice none 0 0, .slice none 0 0, .int .i64 0, .string ⟨#[]⟩, .string ⟨#[]⟩, .string ⟨#[]⟩, .bool false, .int .i64 0, .int .i64 0, .int .i64 0, .slice none 0 0]), (w.heap.size + 1, 30, #[.slice (some ⟨rb, ro, none⟩) 1 rc, .slice (some ⟨cb, co, none⟩) 1 cc, .int .i64 2, .int .i64 how]), (w.heap.size, 27, #[.int .i64 k, .string num, .string den, .string text, .bool on, .int .i64 code, .int .i64 rows, .int .i64 cols, .slice A n c])]) W ∧ Below w2.heap.size w2 W → Below W.heap.size W W' → Loc w ((w2.heap.size, 56, #[(.slice (some ⟨g1, 0, none⟩) N1 c1), (.slice (some ⟨g2, 0, none⟩) N2 c2), (.slice (some ⟨g3, 0, none⟩) R c3)]) :: [(w.heap.size + 1 + 1, 33, #[.slice none 0 0, .slice none 0 0, .slice none 0 0, .slice none 0 0, .slice none 0 0, .int .i64 0, .string ⟨#[]⟩, .string ⟨#[]⟩, .string ⟨#[]⟩, .bool false, .int .i64 0, .int .i64 0, .int .i64 0, .slice none 0 0]), (w.heap.size + 1, 30, #[.slice (some ⟨rb, ro, none⟩) 1 rc, .slice (some ⟨cb, co, none⟩) 1 cc, .int .i64 2, .int .i64 how]), (w.heap.size, 27, #[.int .i64 k, .string num, .string den, .string text, .bool on, .int .i64 code, .int .i64 rows, .int .i64 cols, .slice A n c])]) W' ∧ Below w2.heap.size w2 W' from fun W W' h hb => ⟨h.1.step hb, h.2.trans (hb.mono h.2.size)⟩)
  have HRT := Lib.hid (show ∀ W, Loc w ((w2.heap.size, 56, #[(.slice (some ⟨g1, 0, none⟩) N1 c1), (.slice (some ⟨g2, 0, none⟩) N2 c2), (.slice (some ⟨g3, 0, none⟩) R c3)]) :: [(w.heap.size + 1 + 1, 33, #[.slice none 0 0, .slice none 0 0, .slice none 0 0, .slice none 0 0, .slice none 0 0, .int .i64 0, .string ⟨#[]⟩, .string ⟨#[]⟩, .string ⟨#[]⟩, .bool false, .int .i64 0, .int .i64 0, .int .i64 0, .slice none 0 0]), (w.heap.size + 1, 30, #[.slice (some ⟨rb, ro, none⟩) 1 rc, .slice (some ⟨cb, co, none⟩) 1 cc, .int .i64 2, .int .i64 how]), (w.heap.size, 27, #[.int .i64 k, .string num, .string den, .string text, .bool on, .int .i64 code, .int .i64 rows, .int .i64 cols, .slice A n c])]) W ∧ Below w2.heap.size w2 W → Calls Tryz.prog 19 #[(.slice (some ⟨g3, 0, none⟩) R c3), .int .i64 how] W fun e w' => e = .returned (.agg #[.int .i64 tk, .string tnum, .string tden, .string ttx, .bool ton, .int .i64 tco, .int .i64 tro, .int .i64 tcl, .slice tA tn tc]) ∧ Below W.heap.size W w' from fun W h => by
    have := HRE.out _ _ _ RL W (HEN.out.below h.1.bel) (HR2.out.below h.2) r2 (fun _ h => h)
    rw [← ht] at this
    exact this)
  have HSS := Lib.hid (show ∀ W, Loc w ((w2.heap.size, 56, #[(.slice (some ⟨g1, 0, none⟩) N1 c1), (.slice (some ⟨g2, 0, none⟩) N2 c2), (.slice (some ⟨g3, 0, none⟩) R c3)]) :: [(w.heap.size + 1 + 1, 33, #[.slice none 0 0, .slice none 0 0, .slice none 0 0, .slice none 0 0, .slice none 0 0, .int .i64 0, .string ⟨#[]⟩, .string ⟨#[]⟩, .string ⟨#[]⟩, .bool false, .int .i64 0, .int .i64 0, .int .i64 0, .slice none 0 0]), (w.heap.size + 1, 30, #[.slice (some ⟨rb, ro, none⟩) 1 rc, .slice (some ⟨cb, co, none⟩) 1 cc, .int .i64 2, .int .i64 how]), (w.heap.size, 27, #[.int .i64 k, .string num, .string den, .string text, .bool on, .int .i64 code, .int .i64 rows, .int .i64 cols, .slice A n c])]) W ∧ Below w2.heap.size w2 W → W.cell? ⟨w2.heap.size, 0, none⟩ = some (.slice (some ⟨g1, 0, none⟩) N1 c1) ∧ W.cell? ⟨w2.heap.size, 1, none⟩ = some (.slice (some ⟨g2, 0, none⟩) N2 c2) ∧ W.cell? ⟨w2.heap.size, 2, none⟩ = some (.slice (some ⟨g3, 0, none⟩) R c3) ∧ W.cell? ⟨w.heap.size + 1, 3, none⟩ = some (.int .i64 how) from fun W h => by
    have h1 := h.1.blk (g := w2.heap.size) (t := 56) (List.mem_cons_self ..)
    have h2 := h.1.blk (g := w.heap.size + 1) (t := 30) (List.mem_cons_of_mem _ (List.mem_cons_of_mem _ (List.mem_cons_self ..)))
    exact ⟨h1.cell 0, h1.cell 1, h1.cell 2, h2.cell 3⟩)
  have l5 : w2.heap.size < w5.heap.size := HL5.out.lt (g := w2.heap.size) (t := 56) (List.mem_cons_self ..)
  have HLT := Lib.hid l5
  clear ht HL5 HB5 hqz hq1 hq2 hn2 hgt
  go_cut [10] (fun u10 wx => ∃ tB, u10 = .pointer (some ⟨tB, 0, none⟩) ∧ Hid (Loc w ((tB, 33, #[.slice (some ⟨g1, 0, none⟩) N1 c1, .slice (some ⟨g2, 0, none⟩) N2 c2, .slice none 0 0, .slice none 0 0, .slice none 0 0, .int .i64 tk, .string tnum, .string tden, .string ttx, .bool ton, .int .i64 tco, .int .i64 tro, .int .i64 tcl, .slice tA tn tc]) :: ((w2.heap.size, 56, #[(.slice (some ⟨g1, 0, none⟩) N1 c1), (.slice (some ⟨g2, 0, none⟩) N2 c2), (.slice (some ⟨g3, 0, none⟩) R c3)]) :: [(w.heap.size + 1 + 1, 33, #[.slice none 0 0, .slice none 0 0, .slice none 0 0, .slice none 0 0, .slice none 0 0, .int .i64 0, .string ⟨#[]⟩, .string ⟨#[]⟩, .string ⟨#[]⟩, .bool false, .int .i64 0, .int .i64 0, .int .i64 0, .slice none 0 0]), (w.heap.size + 1, 30, #[.slice (some ⟨rb, ro, none⟩) 1 rc, .slice (some ⟨cb, co, none⟩) 1 cc, .int .i64 2, .int .i64 how]), (w.heap.size, 27, #[.int .i64 k, .string num, .string den, .string text, .bool on, .int .i64 code, .int .i64 rows, .int .i64 cols, .slice A n c])])) wx) ∧ Hid (Below w2.heap.size w2 wx) ∧ Hid (w2.heap.size < tB))
  case first =>
    have HNE := Lib.hid (show ∀ x ∈ (((w2.heap.size, 56, #[(.slice (some ⟨g1, 0, none⟩) N1 c1), (.slice (some ⟨g2, 0, none⟩) N2 c2), (.slice (some ⟨g3, 0, none⟩) R c3)]) :: [(w.heap.size + 1 + 1, 33, #[.slice none 0 0, .slice none 0 0, .slice none 0 0, .slice none 0 0, .slice none 0 0, .int .i64 0, .string ⟨#[]⟩, .string ⟨#[]⟩, .string ⟨#[]⟩, .bool false, .int .i64 0, .int .i64 0, .int .i64 0, .slice none 0 0]), (w.heap.size + 1, 30, #[.slice (some ⟨rb, ro, none⟩) 1 rc, .slice (some ⟨cb, co, none⟩) 1 cc, .int .i64 2, .int .i64 how]), (w.heap.size, 27, #[.int .i64 k, .string num, .string den, .string text, .bool on, .int .i64 code, .int .i64 rows, .int .i64 cols, .slice A n c])]) : List (Nat × TypeId × Array Value)), x.1 < w5.heap.size from fun x hx => by
      simp only [List.mem_cons, List.not_mem_nil, or_false] at hx
      rcases hx with rfl | rfl | rfl | rfl <;> (dsimp only; omega))
    have HGf := Lib.hid (show ∀ W i x, Loc w ((w2.heap.size, 56, #[(.slice (some ⟨g1, 0, none⟩) N1 c1), (.slice (some ⟨g2, 0, none⟩) N2 c2), (.slice (some ⟨g3, 0, none⟩) R c3)]) :: [(w.heap.size + 1 + 1, 33, #[.slice none 0 0, .slice none 0 0, .slice none 0 0, .slice none 0 0, .slice none 0 0, .int .i64 0, .string ⟨#[]⟩, .string ⟨#[]⟩, .string ⟨#[]⟩, .bool false, .int .i64 0, .int .i64 0, .int .i64 0, .slice none 0 0]), (w.heap.size + 1, 30, #[.slice (some ⟨rb, ro, none⟩) 1 rc, .slice (some ⟨cb, co, none⟩) 1 cc, .int .i64 2, .int .i64 how]), (w.heap.size, 27, #[.int .i64 k, .string num, .string den, .string text, .bool on, .int .i64 code, .int .i64 rows, .int .i64 cols, .slice A n c])]) W ∧ Below w2.heap.size w2 W → Loc w ((w2.heap.size, 56, #[(.slice (some ⟨g1, 0, none⟩) N1 c1), (.slice (some ⟨g2, 0, none⟩) N2 c2), (.slice (some ⟨g3, 0, none⟩) R c3)]) :: [(w.heap.size + 1 + 1, 33, #[.slice none 0 0, .slice none 0 0, .slice none 0 0, .slice none 0 0, .slice none 0 0, .int .i64 0, .string ⟨#[]⟩, .string ⟨#[]⟩, .string ⟨#[]⟩, .bool false, .int .i64 0, .int .i64 0, .int .i64 0, .slice none 0 0]), (w.heap.size + 1, 30, #[.slice (some ⟨rb, ro, none⟩) 1 rc, .slice (some ⟨cb, co, none⟩) 1 cc, .int .i64 2, .int .i64 how]), (w.heap.size, 27, #[.int .i64 k, .string num, .string den, .string text, .bool on, .int .i64 code, .int .i64 rows, .int .i64 cols, .slice A n c])]) (W.setCell ⟨w5.heap.size, i, none⟩ x) ∧ Below w2.heap.size w2 (W.setCell ⟨w5.heap.size, i, none⟩ x) from fun W i x h => ⟨h.1.far1 HG5.out.1.bel.size HNE.out x, h.2.setCell (p := ⟨w5.heap.size, i, none⟩) (Nat.le_of_lt HLT.out) x⟩)
    have HZ1 := Lib.hid (show Blk (w5.alloc (.cells #[.slice none 0 0, .slice none 0 0, .slice none 0 0, .slice none 0 0, .slice none 0 0, .int .i64 0, .string ⟨#[]⟩, .string ⟨#[]⟩, .string ⟨#[]⟩, .bool false, .int .i64 0, .int .i64 0, .int .i64 0, .slice none 0 0] 33)).drew w5.heap.size 33 #[.slice none 0 0, .slice none 0 0, .slice none 0 0, .slice none 0 0, .slice none 0 0, .int .i64 0, .string ⟨#[]⟩, .string ⟨#[]⟩, .string ⟨#[]⟩, .bool false, .int .i64 0, .int .i64 0, .int .i64 0, .slice none 0 0] from (Blk.new w5 33 #[.slice none 0 0, .slice none 0 0, .slice none 0 0, .slice none 0 0, .slice none 0 0, .int .i64 0, .string ⟨#[]⟩, .string ⟨#[]⟩, .string ⟨#[]⟩, .bool false, .int .i64 0, .int .i64 0, .int .i64 0, .slice none 0 0]).drew)
    obtain ⟨k0, k1, k2, k3⟩ := HSS.out _ HG5.out

    refine wp_region_G (S1 := fun W => W.cell? ⟨w2.heap.size, 0, none⟩ = some (.slice (some ⟨g1, 0, none⟩) N1 c1) ∧ W.cell? ⟨w2.heap.size, 1, none⟩ = some (.slice (some ⟨g2, 0, none⟩) N2 c2) ∧ W.cell? ⟨w2.heap.size, 2, none⟩ = some (.slice (some ⟨g3, 0, none⟩) R c3) ∧ W.cell? ⟨w.heap.size + 1, 3, none⟩ = some (.int .i64 how)) (S2 := fun _ => True) (d := 99) (by kernel_rfl) (HSS.out _ (HGd.out _ HG5.out)) trivial (fun hT => ?_)
    refine wpAnyG_take1d (i := 0) (v := ?_) rfl rfl (by kernel_rfl) (by kernel_rfl) (by kernel_rfl) (by kernel_rfl) (fun _ _ _ h => h) (Or.inl ⟨by rfl, ?_⟩) (by assumption) (fun hT => ?_)
    rotate_left
    · intro w hSw
      (try dsimp only at hSw)
      go_simp
      (try with_reducible rfl)
    (try simp only [Act.put, List.setIfInBounds_toArray, List.set_cons_zero, List.set_cons_succ])
    refine wpAnyG_take1d (i := 1) (v := ?_) rfl rfl (by kernel_rfl) (by kernel_rfl) (by kernel_rfl) (by kernel_rfl) (fun _ _ _ h => h) (Or.inl ⟨by rfl, ?_⟩) (by assumption) (fun hT => ?_)
    rotate_left
    · intro w hSw
      (try dsimp only at hSw)
      go_simp
      (try with_reducible rfl)
    (try simp only [Act.put, List.setIfInBounds_toArray, List.set_cons_zero, List.set_cons_succ])
    refine wpAnyG_take1d (i := 2) (v := ?_) rfl rfl (by kernel_rfl) (by kernel_rfl) (by kernel_rfl) (by kernel_rfl) (fun _ _ _ h => h) (Or.inl ⟨by rfl, ?_⟩) (by assumption) (fun hT => ?_)
    rotate_left
    · intro w hSw
      (try dsimp only at hSw)
      go_simp
      (try with_reducible rfl)
    (try simp only [Act.put, List.setIfInBounds_toArray, List.set_cons_zero, List.set_cons_succ])
    refine wpAnyG_take1d (i := 3) (v := ?_) rfl rfl (by kernel_rfl) (by kernel_rfl) (by kernel_rfl) (by kernel_rfl) (fun _ _ _ h => h) (Or.inl ⟨by rfl, ?_⟩) (by assumption) (fun hT => ?_)
    rotate_left
    · intro w hSw
      (try dsimp only at hSw)
      go_simp
      (try with_reducible rfl)
    (try simp only [Act.put, List.setIfInBounds_toArray, List.set_cons_zero, List.set_cons_succ])
    refine wpAnyG_take1d (i := 4) (v := ?_) rfl rfl (by kernel_rfl) (by kernel_rfl) (by kernel_rfl) (by kernel_rfl) (fun _ _ _ h => h) (Or.inl ⟨by rfl, ?_⟩) (by assumption) (fun hT => ?_)
    rotate_left
    · intro w hSw
      (try dsimp only at hSw)
      go_simp
      (try with_reducible rfl)
    (try simp only [Act.put, List.setIfInBounds_toArray, List.set_cons_zero, List.set_cons_succ])
    refine wpAnyG_take1d (i := 5) (v := ?_) rfl rfl (by kernel_rfl) (by kernel_rfl) (by kernel_rfl) (by kernel_rfl) (fun _ _ _ h => h) (Or.inl ⟨by rfl, ?_⟩) (by assumption) (fun hT => ?_)
    rotate_left
    · intro w hSw
      (try dsimp only at hSw)
      go_simp
      (try with_reducible rfl)
    (try simp only [Act.put, List.setIfInBounds_toArray, List.set_cons_zero, List.set_cons_succ])
    refine wpAnyG_take1d (i := 6) (v := ?_) rfl rfl (by kernel_rfl) (by kernel_rfl) (by kernel_rfl) (by kernel_rfl) (fun _ _ _ h => h) (Or.inl ⟨by rfl, ?_⟩) (by assumption) (fun hT => ?_)
    rotate_left
    · intro w hSw
      (try dsimp only at hSw)
      go_simp
      (try with_reducible rfl)
    (try simp only [Act.put, List.setIfInBounds_toArray, List.set_cons_zero, List.set_cons_succ])
    refine wpAnyG_take1d (i := 7) (v := ?_) rfl rfl (by kernel_rfl) (by kernel_rfl) (by kernel_rfl) (by kernel_rfl) (fun _ _ _ h => h) (Or.inl ⟨by rfl, ?_⟩) (by assumption) (fun hT => ?_)
    rotate_left
    · intro w hSw
      (try dsimp only at hSw)
      go_simp
      (try with_reducible rfl)
    (try simp only [Act.put, List.setIfInBounds_toArray, List.set_cons_zero, List.set_cons_succ])
    clear k0 k1 k2 k3
    refine wpAnyG_ready (rs := [8, 10]) (by kernel_rfl) (by simp) ?_
    refine AllG.cons (i := 8) rfl (fun K hK => ?_) (AllG.cons (i := 10) rfl (fun K hK => ?_) AllG.nil)
    · go_simp
      go_at_call 19
      with_reducible refine (HRT.out _ (HGd.out _ HG5.out)).mono ?_
      rintro e w6 ⟨rfl, hb⟩
      have HG6 := Lib.hid (HGs.out _ _ (HGd.out _ HG5.out) hb)
      clear hb
      refine hK.out _ _ ⟨HSS.out _ HG6.out, .inr trivial⟩ (fun hT => ?_)
      clear hK K
      (try simp only [Act.put, List.setIfInBounds_toArray, List.set_cons_zero, List.set_cons_succ])
      refine wpAnyG_take1d (i := 9) (v := ?_) rfl rfl (by kernel_rfl) (by kernel_rfl) (by kernel_rfl) (by kernel_rfl) (fun _ _ _ h => h) (Or.inl ⟨by rfl, ?_⟩) (by assumption) (fun hT => ?_)
      rotate_left
      · intro w hSw
        (try dsimp only at hSw)
        go_simp
        (try with_reducible rfl)
      (try simp only [Act.put, List.setIfInBounds_toArray, List.set_cons_zero, List.set_cons_succ])
      refine wpAnyG_ready (rs := [10]) (by kernel_rfl) (by simp) ?_
      refine AllG.cons (i := 10) rfl (fun K hK => ?_) AllG.nil
      go_simp
      refine hK.out _ _ ⟨HSS.out _ (HGa.out _ _ HG6.out), .inr trivial⟩ (fun hT => ?_)
      clear hK K
      (try simp only [Act.put, List.setIfInBounds_toArray, List.set_cons_zero, List.set_cons_succ])
      refine wpAnyG_ready (rs := [11]) (by kernel_rfl) (by simp) ?_
      refine AllG.cons (i := 11) rfl (fun K hK => ?_) AllG.nil
      go_simp
      refine hK.out _ _ ⟨HSS.out _ (HGa.out _ _ HG6.out), .inr trivial⟩ (fun hT => ?_)
      clear hK K
      (try simp only [Act.put, List.setIfInBounds_toArray, List.set_cons_zero, List.set_cons_succ])
      refine wpAnyG_done (by kernel_rfl) ?_ _
      go_wp2_with fail
      go_meet
      exact ⟨_, rfl, Lib.hid (HG6.out.1.alloc' rfl 33 #[.slice (some ⟨g1, 0, none⟩) N1 c1, .slice (some ⟨g2, 0, none⟩) N2 c2, .slice none 0 0, .slice none 0 0, .slice none 0 0, .int .i64 tk, .string tnum, .string tden, .string ttx, .bool ton, .int .i64 tco, .int .i64 tro, .int .i64 tcl, .slice tA tn tc]), Lib.hid (HGa.out _ _ HG6.out).2, Lib.hid (HG6.out.1.lt (g := w2.heap.size) (t := 56) (List.mem_cons_self ..))⟩
    · go_simp
      refine hK.out _ _ ⟨HSS.out _ (HGd.out _ (HGa.out _ _ HG5.out)), .inr trivial⟩ (fun hT => ?_)
      clear hK K
      (try simp only [Act.put, List.setIfInBounds_toArray, List.set_cons_zero, List.set_cons_succ])
      refine wpAnyG_ready (rs := [8]) (by kernel_rfl) (by simp) ?_
      refine AllG.cons (i := 8) rfl (fun K hK => ?_) AllG.nil
      go_simp
      go_at_call 19
      with_reducible refine (HRT.out _ (HGd.out _ (HGa.out _ _ HG5.out))).mono ?_
      rintro e w6 ⟨rfl, hb⟩
      have HG6 := Lib.hid (HGs.out _ _ (HGd.out _ (HGa.out _ _ HG5.out)) hb)
      have hz6 := HZ1.out.later hb
      have HZ6 := Lib.hid hz6
      clear hb
      refine hK.out _ _ ⟨HSS.out _ HG6.out, .inr trivial⟩ (fun hT => ?_)
      clear hK K
      (try simp only [Act.put, List.setIfInBounds_toArray, List.set_cons_zero, List.set_cons_succ])
      refine wpAnyG_take1d (i := 9) (v := ?_) rfl rfl (by kernel_rfl) (by kernel_rfl) (by kernel_rfl) (by kernel_rfl) (fun _ _ _ h => h) (Or.inl ⟨by rfl, ?_⟩) (by assumption) (fun hT => ?_)
      rotate_left
      · intro w hSw
        (try dsimp only at hSw)
        go_simp
        (try with_reducible rfl)
      (try simp only [Act.put, List.setIfInBounds_toArray, List.set_cons_zero, List.set_cons_succ])
      refine wpAnyG_ready (rs := [11]) (by kernel_rfl) (by simp) ?_
      refine AllG.cons (i := 11) rfl (fun K hK => ?_) AllG.nil
      have z0 := hz6.cell 0
      have y0 := hz6.frozen 0
      have z1 := hz6.cell 1
      have y1 := hz6.frozen 1
      have z2 := hz6.cell 2
      have y2 := hz6.frozen 2
      have z3 := hz6.cell 3
      have y3 := hz6.frozen 3
      have z4 := hz6.cell 4
      have y4 := hz6.frozen 4
      have z5 := hz6.cell 5
      have y5 := hz6.frozen 5
      have z6 := hz6.cell 6
      have y6 := hz6.frozen 6
      have z7 := hz6.cell 7
      have y7 := hz6.frozen 7
      have z8 := hz6.cell 8
      have y8 := hz6.frozen 8
      have z9 := hz6.cell 9
      have y9 := hz6.frozen 9
      have z10 := hz6.cell 10
      have y10 := hz6.frozen 10
      have z11 := hz6.cell 11
      have y11 := hz6.frozen 11
      have z12 := hz6.cell 12
      have y12 := hz6.frozen 12
      have z13 := hz6.cell 13
      have y13 := hz6.frozen 13
      clear hz6
      go_simp
      refine hK.out _ _ ⟨HSS.out _ (HGf.out _ _ _ (HGf.out _ _ _ (HGf.out _ _ _ (HGf.out _ _ _ (HGf.out _ _ _ (HGf.out _ _ _ (HGf.out _ _ _ (HGf.out _ _ _ (HGf.out _ _ _ (HGf.out _ _ _ (HGf.out _ _ _ (HGf.out _ _ _ (HGf.out _ _ _ (HGf.out _ _ _ (HG6.out))))))))))))))), .inr trivial⟩ (fun hT => ?_)
      clear hK K z0 y0 z1 y1 z2 y2 z3 y3 z4 y4 z5 y5 z6 y6 z7 y7 z8 y8 z9 y9 z10 y10 z11 y11 z12 y12 z13 y13
      (try simp only [Act.put, List.setIfInBounds_toArray, List.set_cons_zero, List.set_cons_succ])
      refine wpAnyG_done (by kernel_rfl) ?_ _
      go_wp2_with fail
      go_meet
      have cz := HG6.out.1.cons (Nat.le_trans HG5.out.1.bel.size (Nat.le_refl _)) HZ6.out

      have cz : Loc w ((w5.heap.size, 33, #[(.slice (some ⟨g1, 0, none⟩) N1 c1), (.slice none 0 0), (.slice none 0 0), (.slice none 0 0), (.slice none 0 0), (.int .i64 0), (.string ⟨#[]⟩), (.string ⟨#[]⟩), (.string ⟨#[]⟩), (.bool false), (.int .i64 0), (.int .i64 0), (.int .i64 0), (.slice none 0 0)]) :: ((w2.heap.size, 56, #[(.slice (some ⟨g1, 0, none⟩) N1 c1), (.slice (some ⟨g2, 0, none⟩) N2 c2), (.slice (some ⟨g3, 0, none⟩) R c3)]) :: [(w.heap.size + 1 + 1, 33, #[.slice none 0 0, .slice none 0 0, .slice none 0 0, .slice none 0 0, .slice none 0 0, .int .i64 0, .string ⟨#[]⟩, .string ⟨#[]⟩, .string ⟨#[]⟩, .bool false, .int .i64 0, .int .i64 0, .int .i64 0, .slice none 0 0]), (w.heap.size + 1, 30, #[.slice (some ⟨rb, ro, none⟩) 1 rc, .slice (some ⟨cb, co, none⟩) 1 cc, .int .i64 2, .int .i64 how]), (w.heap.size, 27, #[.int .i64 k, .string num, .string den, .string text, .bool on, .int .i64 code, .int .i64 rows, .int .i64 cols, .slice A n c])])) _ := cz.set1 (i := 0) (fun x hx => Nat.ne_of_lt (HNE.out x hx)) (.slice (some ⟨g1, 0, none⟩) N1 c1)
      have cz : Loc w ((w5.heap.size, 33, #[(.slice (some ⟨g1, 0, none⟩) N1 c1), (.slice (some ⟨g2, 0, none⟩) N2 c2), (.slice none 0 0), (.slice none 0 0), (.slice none 0 0), (.int .i64 0), (.string ⟨#[]⟩), (.string ⟨#[]⟩), (.string ⟨#[]⟩), (.bool false), (.int .i64 0), (.int .i64 0), (.int .i64 0), (.slice none 0 0)]) :: ((w2.heap.size, 56, #[(.slice (some ⟨g1, 0, none⟩) N1 c1), (.slice (some ⟨g2, 0, none⟩) N2 c2), (.slice (some ⟨g3, 0, none⟩) R c3)]) :: [(w.heap.size + 1 + 1, 33, #[.slice none 0 0, .slice none 0 0, .slice none 0 0, .slice none 0 0, .slice none 0 0, .int .i64 0, .string ⟨#[]⟩, .string ⟨#[]⟩, .string ⟨#[]⟩, .bool false, .int .i64 0, .int .i64 0, .int .i64 0, .slice none 0 0]), (w.heap.size + 1, 30, #[.slice (some ⟨rb, ro, none⟩) 1 rc, .slice (some ⟨cb, co, none⟩) 1 cc, .int .i64 2, .int .i64 how]), (w.heap.size, 27, #[.int .i64 k, .string num, .string den, .string text, .bool on, .int .i64 code, .int .i64 rows, .int .i64 cols, .slice A n c])])) _ := cz.set1 (i := 1) (fun x hx => Nat.ne_of_lt (HNE.out x hx)) (.slice (some ⟨g2, 0, none⟩) N2 c2)
      have cz : Loc w ((w5.heap.size, 33, #[(.slice (some ⟨g1, 0, none⟩) N1 c1), (.slice (some ⟨g2, 0, none⟩) N2 c2), (.slice none 0 0), (.slice none 0 0), (.slice none 0 0), (.int .i64 0), (.string ⟨#[]⟩), (.string ⟨#[]⟩), (.string ⟨#[]⟩), (.bool false), (.int .i64 0), (.int .i64 0), (.int .i64 0), (.slice none 0 0)]) :: ((w2.heap.size, 56, #[(.slice (some ⟨g1, 0, none⟩) N1 c1), (.slice (some ⟨g2, 0, none⟩) N2 c2), (.slice (some ⟨g3, 0, none⟩) R c3)]) :: [(w.heap.size + 1 + 1, 33, #[.slice none 0 0, .slice none 0 0, .slice none 0 0, .slice none 0 0, .slice none 0 0, .int .i64 0, .string ⟨#[]⟩, .string ⟨#[]⟩, .string ⟨#[]⟩, .bool false, .int .i64 0, .int .i64 0, .int .i64 0, .slice none 0 0]), (w.heap.size + 1, 30, #[.slice (some ⟨rb, ro, none⟩) 1 rc, .slice (some ⟨cb, co, none⟩) 1 cc, .int .i64 2, .int .i64 how]), (w.heap.size, 27, #[.int .i64 k, .string num, .string den, .string text, .bool on, .int .i64 code, .int .i64 rows, .int .i64 cols, .slice A n c])])) _ := cz.set1 (i := 2) (fun x hx => Nat.ne_of_lt (HNE.out x hx)) (.slice none 0 0)
      have cz : Loc w ((w5.heap.size, 33, #[(.slice (some ⟨g1, 0, none⟩) N1 c1), (.slice (some ⟨g2, 0, none⟩) N2 c2), (.slice none 0 0), (.slice none 0 0), (.slice none 0 0), (.int .i64 0), (.string ⟨#[]⟩), (.string ⟨#[]⟩), (.string ⟨#[]⟩), (.bool false), (.int .i64 0), (.int .i64 0), (.int .i64 0), (.slice none 0 0)]) :: ((w2.heap.size, 56, #[(.slice (some ⟨g1, 0, none⟩) N1 c1), (.slice (some ⟨g2, 0, none⟩) N2 c2), (.slice (some ⟨g3, 0, none⟩) R c3)]) :: [(w.heap.size + 1 + 1, 33, #[.slice none 0 0, .slice none 0 0, .slice none 0 0, .slice none 0 0, .slice none 0 0, .int .i64 0, .string ⟨#[]⟩, .string ⟨#[]⟩, .string ⟨#[]⟩, .bool false, .int .i64 0, .int .i64 0, .int .i64 0, .slice none 0 0]), (w.heap.size + 1, 30, #[.slice (some ⟨rb, ro, none⟩) 1 rc, .slice (some ⟨cb, co, none⟩) 1 cc, .int .i64 2, .int .i64 how]), (w.heap.size, 27, #[.int .i64 k, .string num, .string den, .string text, .bool on, .int .i64 code, .int .i64 rows, .int .i64 cols, .slice A n c])])) _ := cz.set1 (i := 3) (fun x hx => Nat.ne_of_lt (HNE.out x hx)) (.slice none 0 0)
      have cz : Loc w ((w5.heap.size, 33, #[(.slice (some ⟨g1, 0, none⟩) N1 c1), (.slice (some ⟨g2, 0, none⟩) N2 c2), (.slice none 0 0), (.slice none 0 0), (.slice none 0 0), (.int .i64 0), (.string ⟨#[]⟩), (.string ⟨#[]⟩), (.string ⟨#[]⟩), (.bool false), (.int .i64 0), (.int .i64 0), (.int .i64 0), (.slice none 0 0)]) :: ((w2.heap.size, 56, #[(.slice (some ⟨g1, 0, none⟩) N1 c1), (.slice (some ⟨g2, 0, none⟩) N2 c2), (.slice (some ⟨g3, 0, none⟩) R c3)]) :: [(w.heap.size + 1 + 1, 33, #[.slice none 0 0, .slice none 0 0, .slice none 0 0, .slice none 0 0, .slice none 0 0, .int .i64 0, .string ⟨#[]⟩, .string ⟨#[]⟩, .string ⟨#[]⟩, .bool false, .int .i64 0, .int .i64 0, .int .i64 0, .slice none 0 0]), (w.heap.size + 1, 30, #[.slice (some ⟨rb, ro, none⟩) 1 rc, .slice (some ⟨cb, co, none⟩) 1 cc, .int .i64 2, .int .i64 how]), (w.heap.size, 27, #[.int .i64 k, .string num, .string den, .string text, .bool on, .int .i64 code, .int .i64 rows, .int .i64 cols, .slice A n c])])) _ := cz.set1 (i := 4) (fun x hx => Nat.ne_of_lt (HNE.out x hx)) (.slice none 0 0)
      have cz : Loc w ((w5.heap.size, 33, #[(.slice (some ⟨g1, 0, none⟩) N1 c1), (.slice (some ⟨g2, 0, none⟩) N2 c2), (.slice none 0 0), (.slice none 0 0), (.slice none 0 0), (.int .i64 tk), (.string ⟨#[]⟩), (.string ⟨#[]⟩), (.string ⟨#[]⟩), (.bool false), (.int .i64 0), (.int .i64 0), (.int .i64 0), (.slice none 0 0)]) :: ((w2.heap.size, 56, #[(.slice (some ⟨g1, 0, none⟩) N1 c1), (.slice (some ⟨g2, 0, none⟩) N2 c2), (.slice (some ⟨g3, 0, none⟩) R c3)]) :: [(w.heap.size + 1 + 1, 33, #[.slice none 0 0, .slice none 0 0, .slice none 0 0, .slice none 0 0, .slice none 0 0, .int .i64 0, .string ⟨#[]⟩, .string ⟨#[]⟩, .string ⟨#[]⟩, .bool false, .int .i64 0, .int .i64 0, .int .i64 0, .slice none 0 0]), (w.heap.size + 1, 30, #[.slice (some ⟨rb, ro, none⟩) 1 rc, .slice (some ⟨cb, co, none⟩) 1 cc, .int .i64 2, .int .i64 how]), (w.heap.size, 27, #[.int .i64 k, .string num, .string den, .string text, .bool on, .int .i64 code, .int .i64 rows, .int .i64 cols, .slice A n c])])) _ := cz.set1 (i := 5) (fun x hx => Nat.ne_of_lt (HNE.out x hx)) (.int .i64 tk)
      have cz : Loc w ((w5.heap.size, 33, #[(.slice (some ⟨g1, 0, none⟩) N1 c1), (.slice (some ⟨g2, 0, none⟩) N2 c2), (.slice none 0 0), (.slice none 0 0), (.slice none 0 0), (.int .i64 tk), (.string tnum), (.string ⟨#[]⟩), (.string ⟨#[]⟩), (.bool false), (.int .i64 0), (.int .i64 0), (.int .i64 0), (.slice none 0 0)]) :: ((w2.heap.size, 56, #[(.slice (some ⟨g1, 0, none⟩) N1 c1), (.slice (some ⟨g2, 0, none⟩) N2 c2), (.slice (some ⟨g3, 0, none⟩) R c3)]) :: [(w.heap.size + 1 + 1, 33, #[.slice none 0 0, .slice none 0 0, .slice none 0 0, .slice none 0 0, .slice none 0 0, .int .i64 0, .string ⟨#[]⟩, .string ⟨#[]⟩, .string ⟨#[]⟩, .bool false, .int .i64 0, .int .i64 0, .int .i64 0, .slice none 0 0]), (w.heap.size + 1, 30, #[.slice (some ⟨rb, ro, none⟩) 1 rc, .slice (some ⟨cb, co, none⟩) 1 cc, .int .i64 2, .int .i64 how]), (w.heap.size, 27, #[.int .i64 k, .string num, .string den, .string text, .bool on, .int .i64 code, .int .i64 rows, .int .i64 cols, .slice A n c])])) _ := cz.set1 (i := 6) (fun x hx => Nat.ne_of_lt (HNE.out x hx)) (.string tnum)
      have cz : Loc w ((w5.heap.size, 33, #[(.slice (some ⟨g1, 0, none⟩) N1 c1), (.slice (some ⟨g2, 0, none⟩) N2 c2), (.slice none 0 0), (.slice none 0 0), (.slice none 0 0), (.int .i64 tk), (.string tnum), (.string tden), (.string ⟨#[]⟩), (.bool false), (.int .i64 0), (.int .i64 0), (.int .i64 0), (.slice none 0 0)]) :: ((w2.heap.size, 56, #[(.slice (some ⟨g1, 0, none⟩) N1 c1), (.slice (some ⟨g2, 0, none⟩) N2 c2), (.slice (some ⟨g3, 0, none⟩) R c3)]) :: [(w.heap.size + 1 + 1, 33, #[.slice none 0 0, .slice none 0 0, .slice none 0 0, .slice none 0 0, .slice none 0 0, .int .i64 0, .string ⟨#[]⟩, .string ⟨#[]⟩, .string ⟨#[]⟩, .bool false, .int .i64 0, .int .i64 0, .int .i64 0, .slice none 0 0]), (w.heap.size + 1, 30, #[.slice (some ⟨rb, ro, none⟩) 1 rc, .slice (some ⟨cb, co, none⟩) 1 cc, .int .i64 2, .int .i64 how]), (w.heap.size, 27, #[.int .i64 k, .string num, .string den, .string text, .bool on, .int .i64 code, .int .i64 rows, .int .i64 cols, .slice A n c])])) _ := cz.set1 (i := 7) (fun x hx => Nat.ne_of_lt (HNE.out x hx)) (.string tden)
      have cz : Loc w ((w5.heap.size, 33, #[(.slice (some ⟨g1, 0, none⟩) N1 c1), (.slice (some ⟨g2, 0, none⟩) N2 c2), (.slice none 0 0), (.slice none 0 0), (.slice none 0 0), (.int .i64 tk), (.string tnum), (.string tden), (.string ttx), (.bool false), (.int .i64 0), (.int .i64 0), (.int .i64 0), (.slice none 0 0)]) :: ((w2.heap.size, 56, #[(.slice (some ⟨g1, 0, none⟩) N1 c1), (.slice (some ⟨g2, 0, none⟩) N2 c2), (.slice (some ⟨g3, 0, none⟩) R c3)]) :: [(w.heap.size + 1 + 1, 33, #[.slice none 0 0, .slice none 0 0, .slice none 0 0, .slice none 0 0, .slice none 0 0, .int .i64 0, .string ⟨#[]⟩, .string ⟨#[]⟩, .string ⟨#[]⟩, .bool false, .int .i64 0, .int .i64 0, .int .i64 0, .slice none 0 0]), (w.heap.size + 1, 30, #[.slice (some ⟨rb, ro, none⟩) 1 rc, .slice (some ⟨cb, co, none⟩) 1 cc, .int .i64 2, .int .i64 how]), (w.heap.size, 27, #[.int .i64 k, .string num, .string den, .string text, .bool on, .int .i64 code, .int .i64 rows, .int .i64 cols, .slice A n c])])) _ := cz.set1 (i := 8) (fun x hx => Nat.ne_of_lt (HNE.out x hx)) (.string ttx)
      have cz : Loc w ((w5.heap.size, 33, #[(.slice (some ⟨g1, 0, none⟩) N1 c1), (.slice (some ⟨g2, 0, none⟩) N2 c2), (.slice none 0 0), (.slice none 0 0), (.slice none 0 0), (.int .i64 tk), (.string tnum), (.string tden), (.string ttx), (.bool ton), (.int .i64 0), (.int .i64 0), (.int .i64 0), (.slice none 0 0)]) :: ((w2.heap.size, 56, #[(.slice (some ⟨g1, 0, none⟩) N1 c1), (.slice (some ⟨g2, 0, none⟩) N2 c2), (.slice (some ⟨g3, 0, none⟩) R c3)]) :: [(w.heap.size + 1 + 1, 33, #[.slice none 0 0, .slice none 0 0, .slice none 0 0, .slice none 0 0, .slice none 0 0, .int .i64 0, .string ⟨#[]⟩, .string ⟨#[]⟩, .string ⟨#[]⟩, .bool false, .int .i64 0, .int .i64 0, .int .i64 0, .slice none 0 0]), (w.heap.size + 1, 30, #[.slice (some ⟨rb, ro, none⟩) 1 rc, .slice (some ⟨cb, co, none⟩) 1 cc, .int .i64 2, .int .i64 how]), (w.heap.size, 27, #[.int .i64 k, .string num, .string den, .string text, .bool on, .int .i64 code, .int .i64 rows, .int .i64 cols, .slice A n c])])) _ := cz.set1 (i := 9) (fun x hx => Nat.ne_of_lt (HNE.out x hx)) (.bool ton)
      have cz : Loc w ((w5.heap.size, 33, #[(.slice (some ⟨g1, 0, none⟩) N1 c1), (.slice (some ⟨g2, 0, none⟩) N2 c2), (.slice none 0 0), (.slice none 0 0), (.slice none 0 0), (.int .i64 tk), (.string tnum), (.string tden), (.string ttx), (.bool ton), (.int .i64 tco), (.int .i64 0), (.int .i64 0), (.slice none 0 0)]) :: ((w2.heap.size, 56, #[(.slice (some ⟨g1, 0, none⟩) N1 c1), (.slice (some ⟨g2, 0, none⟩) N2 c2), (.slice (some ⟨g3, 0, none⟩) R c3)]) :: [(w.heap.size + 1 + 1, 33, #[.slice none 0 0, .slice none 0 0, .slice none 0 0, .slice none 0 0, .slice none 0 0, .int .i64 0, .string ⟨#[]⟩, .string ⟨#[]⟩, .string ⟨#[]⟩, .bool false, .int .i64 0, .int .i64 0, .int .i64 0, .slice none 0 0]), (w.heap.size + 1, 30, #[.slice (some ⟨rb, ro, none⟩) 1 rc, .slice (some ⟨cb, co, none⟩) 1 cc, .int .i64 2, .int .i64 how]), (w.heap.size, 27, #[.int .i64 k, .string num, .string den, .string text, .bool on, .int .i64 code, .int .i64 rows, .int .i64 cols, .slice A n c])])) _ := cz.set1 (i := 10) (fun x hx => Nat.ne_of_lt (HNE.out x hx)) (.int .i64 tco)
      have cz : Loc w ((w5.heap.size, 33, #[(.slice (some ⟨g1, 0, none⟩) N1 c1), (.slice (some ⟨g2, 0, none⟩) N2 c2), (.slice none 0 0), (.slice none 0 0), (.slice none 0 0), (.int .i64 tk), (.string tnum), (.string tden), (.string ttx), (.bool ton), (.int .i64 tco), (.int .i64 tro), (.int .i64 0), (.slice none 0 0)]) :: ((w2.heap.size, 56, #[(.slice (some ⟨g1, 0, none⟩) N1 c1), (.slice (some ⟨g2, 0, none⟩) N2 c2), (.slice (some ⟨g3, 0, none⟩) R c3)]) :: [(w.heap.size + 1 + 1, 33, #[.slice none 0 0, .slice none 0 0, .slice none 0 0, .slice none 0 0, .slice none 0 0, .int .i64 0, .string ⟨#[]⟩, .string ⟨#[]⟩, .string ⟨#[]⟩, .bool false, .int .i64 0, .int .i64 0, .int .i64 0, .slice none 0 0]), (w.heap.size + 1, 30, #[.slice (some ⟨rb, ro, none⟩) 1 rc, .slice (some ⟨cb, co, none⟩) 1 cc, .int .i64 2, .int .i64 how]), (w.heap.size, 27, #[.int .i64 k, .string num, .string den, .string text, .bool on, .int .i64 code, .int .i64 rows, .int .i64 cols, .slice A n c])])) _ := cz.set1 (i := 11) (fun x hx => Nat.ne_of_lt (HNE.out x hx)) (.int .i64 tro)
      have cz : Loc w ((w5.heap.size, 33, #[(.slice (some ⟨g1, 0, none⟩) N1 c1), (.slice (some ⟨g2, 0, none⟩) N2 c2), (.slice none 0 0), (.slice none 0 0), (.slice none 0 0), (.int .i64 tk), (.string tnum), (.string tden), (.string ttx), (.bool ton), (.int .i64 tco), (.int .i64 tro), (.int .i64 tcl), (.slice none 0 0)]) :: ((w2.heap.size, 56, #[(.slice (some ⟨g1, 0, none⟩) N1 c1), (.slice (some ⟨g2, 0, none⟩) N2 c2), (.slice (some ⟨g3, 0, none⟩) R c3)]) :: [(w.heap.size + 1 + 1, 33, #[.slice none 0 0, .slice none 0 0, .slice none 0 0, .slice none 0 0, .slice none 0 0, .int .i64 0, .string ⟨#[]⟩, .string ⟨#[]⟩, .string ⟨#[]⟩, .bool false, .int .i64 0, .int .i64 0, .int .i64 0, .slice none 0 0]), (w.heap.size + 1, 30, #[.slice (some ⟨rb, ro, none⟩) 1 rc, .slice (some ⟨cb, co, none⟩) 1 cc, .int .i64 2, .int .i64 how]), (w.heap.size, 27, #[.int .i64 k, .string num, .string den, .string text, .bool on, .int .i64 code, .int .i64 rows, .int .i64 cols, .slice A n c])])) _ := cz.set1 (i := 12) (fun x hx => Nat.ne_of_lt (HNE.out x hx)) (.int .i64 tcl)
      have cz : Loc w ((w5.heap.size, 33, #[(.slice (some ⟨g1, 0, none⟩) N1 c1), (.slice (some ⟨g2, 0, none⟩) N2 c2), (.slice none 0 0), (.slice none 0 0), (.slice none 0 0), (.int .i64 tk), (.string tnum), (.string tden), (.string ttx), (.bool ton), (.int .i64 tco), (.int .i64 tro), (.int .i64 tcl), (.slice tA tn tc)]) :: ((w2.heap.size, 56, #[(.slice (some ⟨g1, 0, none⟩) N1 c1), (.slice (some ⟨g2, 0, none⟩) N2 c2), (.slice (some ⟨g3, 0, none⟩) R c3)]) :: [(w.heap.size + 1 + 1, 33, #[.slice none 0 0, .slice none 0 0, .slice none 0 0, .slice none 0 0, .slice none 0 0, .int .i64 0, .string ⟨#[]⟩, .string ⟨#[]⟩, .string ⟨#[]⟩, .bool false, .int .i64 0, .int .i64 0, .int .i64 0, .slice none 0 0]), (w.heap.size + 1, 30, #[.slice (some ⟨rb, ro, none⟩) 1 rc, .slice (some ⟨cb, co, none⟩) 1 cc, .int .i64 2, .int .i64 how]), (w.heap.size, 27, #[.int .i64 k, .string num, .string den, .string text, .bool on, .int .i64 code, .int .i64 rows, .int .i64 cols, .slice A n c])])) _ := cz.set1 (i := 13) (fun x hx => Nat.ne_of_lt (HNE.out x hx)) (.slice tA tn tc)
      exact ⟨_, rfl, Lib.hid cz, Lib.hid (HGf.out _ _ _ (HGf.out _ _ _ (HGf.out _ _ _ (HGf.out _ _ _ (HGf.out _ _ _ (HGf.out _ _ _ (HGf.out _ _ _ (HGf.out _ _ _ (HGf.out _ _ _ (HGf.out _ _ _ (HGf.out _ _ _ (HGf.out _ _ _ (HGf.out _ _ _ (HGf.out _ _ _ (HG6.out))))))))))))))).2, HLT⟩
  case rest =>
    clear HG5 HGd HGa HGs HRT HSS HLT l5
    obtain ⟨tB, rfl, HLa, HBa, HTB⟩ := hcut
    go_upto_region 9 with fail
    rename World => wx
    obtain ⟨NM, hNM⟩ : ∃ x, x = N1 * N2 := ⟨_, rfl⟩
    have hNZ : (N1 : Int) * (N2 : Int) = (NM : Int) := by rw [hNM]; push_cast; rfl
    have hnm : NM ≤ 196 := by rw [hNM]; exact Nat.le_trans (Nat.mul_le_mul (show N1 ≤ 14 by omega) (show N2 ≤ 14 by omega)) (by decide)
    have HNM := Lib.hid hNM
    clear hNM
    have HLW := Lib.hid (show Loc w2 [(tB, 33, #[.slice (some ⟨g1, 0, none⟩) N1 c1, .slice (some ⟨g2, 0, none⟩) N2 c2, .slice none 0 0, .slice none 0 0, .slice none 0 0, .int .i64 tk, .string tnum, .string tden, .string ttx, .bool ton, .int .i64 tco, .int .i64 tro, .int .i64 tcl, .slice tA tn tc]), (w2.heap.size, 56, #[(.slice (some ⟨g1, 0, none⟩) N1 c1), (.slice (some ⟨g2, 0, none⟩) N2 c2), (.slice (some ⟨g3, 0, none⟩) R c3)])] wx from ⟨HBa.out, fun x hx => by
      simp only [List.mem_cons, List.not_mem_nil, or_false] at hx
      rcases hx with rfl | rfl
      · exact ⟨Nat.le_of_lt HTB.out, HLa.out.blk (List.mem_cons_self ..)⟩
      · exact ⟨Nat.le_refl _, HLa.out.blk (List.mem_cons_of_mem _ (List.mem_cons_self ..))⟩⟩)
    have HOW := Lib.hid (show ∀ x ∈ ([(tB, 33, #[.slice (some ⟨g1, 0, none⟩) N1 c1, .slice (some ⟨g2, 0, none⟩) N2 c2, .slice none 0 0, .slice none 0 0, .slice none 0 0, .int .i64 tk, .string tnum, .string tden, .string ttx, .bool ton, .int .i64 tco, .int .i64 tro, .int .i64 tcl, .slice tA tn tc]), (w2.heap.size, 56, #[(.slice (some ⟨g1, 0, none⟩) N1 c1), (.slice (some ⟨g2, 0, none⟩) N2 c2), (.slice (some ⟨g3, 0, none⟩) R c3)])] : List (Nat × TypeId × Array Value)), x.1 < wx.heap.size from fun x hx => (HLW.out.2 x hx).2.lt)
    have HLO := Lib.hid HBa.out.size
    clear HLa HBa
    go_cut [11, 12, 13] (fun u11 u12 u13 wz => ∃ (h1 h2 h3 : Nat), u11 = .slice (some ⟨h1, 0, none⟩) NM NM ∧ u12 = .slice (some ⟨h2, 0, none⟩) N1 N1 ∧ u13 = .slice (some ⟨h3, 0, none⟩) N2 N2 ∧ Hid (BS w2 wz [(tB, 33, #[.slice (some ⟨g1, 0, none⟩) N1 c1, .slice (some ⟨g2, 0, none⟩) N2 c2, .slice none 0 0, .slice none 0 0, .slice none 0 0, .int .i64 tk, .string tnum, .string tden, .string ttx, .bool ton, .int .i64 tco, .int .i64 tro, .int .i64 tcl, .slice tA tn tc]), (w2.heap.size, 56, #[(.slice (some ⟨g1, 0, none⟩) N1 c1), (.slice (some ⟨g2, 0, none⟩) N2 c2), (.slice (some ⟨g3, 0, none⟩) R c3)])] wx.heap.size (NM + N1 + N2) h1 NM h2 N1 h3 N2 (fun _ => (none, 0, 0)) (fun _ => []) (fun _ => (none, 0, 0)) (fun _ => (none, 0, 0)) (fun _ => (none, 0, 0))) ∧ Hid (h1 ≠ h2 ∧ h1 ≠ h3 ∧ h2 ≠ h3))
    case first =>
      have hwr : IntKind.i64.wrap (NM : Int) = (NM : Int) := IntWalk.i64_in _ (by omega)
      refine wp_region_G (S1 := fun _ => True) (S2 := fun _ => True) (d := 99) (by kernel_rfl) trivial trivial (fun hT => ?_)
      refine wpAnyG_take1d (i := 0) (v := ?_) rfl rfl (by kernel_rfl) (by kernel_rfl) (by kernel_rfl) (by kernel_rfl) (fun _ _ _ h => h) (Or.inl ⟨by rfl, ?_⟩) (by assumption) (fun hT => ?_)
      rotate_left
      · intro w hSw
        (try dsimp only at hSw)
        go_simp
        (try with_reducible rfl)
      (try simp only [Act.put, List.setIfInBounds_toArray, List.set_cons_zero, List.set_cons_succ])
      refine wpAnyG_take1d (i := 1) (v := ?_) rfl rfl (by kernel_rfl) (by kernel_rfl) (by kernel_rfl) (by kernel_rfl) (fun _ _ _ h => h) (Or.inl ⟨by rfl, ?_⟩) (by assumption) (fun hT => ?_)
      rotate_left
      · intro w hSw
        (try dsimp only at hSw)
        go_simp
        (try with_reducible rfl)
      (try simp only [Act.put, List.setIfInBounds_toArray, List.set_cons_zero, List.set_cons_succ])
      refine wpAnyG_take1d (i := 2) (v := .int .i64 (NM : Int)) rfl rfl (by kernel_rfl) (by kernel_rfl) (by kernel_rfl) (by kernel_rfl) (fun _ _ _ h => h) (Or.inl ⟨by rfl, ?_⟩) (by assumption) (fun hT => ?_)
      · intro w hSw
        (try dsimp only at hSw)
        go_simp
        (try with_reducible rfl)
      (try simp only [Act.put, List.setIfInBounds_toArray, List.set_cons_zero, List.set_cons_succ])
      refine wpAnyG_take1d (i := 4) (v := ?_) rfl rfl (by kernel_rfl) (by kernel_rfl) (by kernel_rfl) (by kernel_rfl) (fun _ _ _ h => h) (Or.inl ⟨by rfl, ?_⟩) (by assumption) (fun hT => ?_)
      rotate_left
      · intro w hSw
        (try dsimp only at hSw)
        go_simp
        (try with_reducible rfl)
      (try simp only [Act.put, List.setIfInBounds_toArray, List.set_cons_zero, List.set_cons_succ])
      refine wpAnyG_take1d (i := 6) (v := ?_) rfl rfl (by kernel_rfl) (by kernel_rfl) (by kernel_rfl) (by kernel_rfl) (fun _ _ _ h => h) (Or.inl ⟨by rfl, ?_⟩) (by assumption) (fun hT => ?_)
      rotate_left
      · intro w hSw
        (try dsimp only at hSw)
        go_simp
        (try with_reducible rfl)
      (try simp only [Act.put, List.setIfInBounds_toArray, List.set_cons_zero, List.set_cons_succ])
      refine wpAnyG_cast (Lsm false false false 0) (by kernel_rfl) ?_
      refine make3 (c := ⟨wx.drew, NM, N1, N2⟩) ⟨(show 107 < 165 by decide), rfl, rfl, rfl, by dsimp only; omega, by dsimp only; omega, by dsimp only; omega⟩ (by kernel_rfl) ⟨⟨_, rfl, rfl, rfl, rfl⟩⟩ ⟨⟨_, rfl, rfl, rfl, rfl⟩⟩ ⟨⟨_, rfl, rfl, rfl, rfl⟩⟩ ⟨⟨_, rfl, rfl, rfl, rfl⟩⟩ ⟨⟨_, rfl, rfl, rfl, rfl⟩⟩ ⟨⟨_, rfl, rfl, rfl, rfl⟩⟩ (fun _ => ⟨trivial, trivial⟩) ?_
      rintro W' h1 h2 h3 a hst
      have hbx : Below wx.heap.size wx W' := (Below.drew (Below.refl _ _)).trans hst.bel
      have HBS := Lib.hid (show BS w2 W' [(tB, 33, #[.slice (some ⟨g1, 0, none⟩) N1 c1, .slice (some ⟨g2, 0, none⟩) N2 c2, .slice none 0 0, .slice none 0 0, .slice none 0 0, .int .i64 tk, .string tnum, .string tden, .string ttx, .bool ton, .int .i64 tco, .int .i64 tro, .int .i64 tcl, .slice tA tn tc]), (w2.heap.size, 56, #[(.slice (some ⟨g1, 0, none⟩) N1 c1), (.slice (some ⟨g2, 0, none⟩) N2 c2), (.slice (some ⟨g3, 0, none⟩) R c3)])] wx.heap.size (NM + N1 + N2) h1 NM h2 N1 h3 N2 (fun _ => (none, 0, 0)) (fun _ => []) (fun _ => (none, 0, 0)) (fun _ => (none, 0, 0)) (fun _ => (none, 0, 0)) from ⟨HLW.out.step hbx, Bg.nil _ _ _, (hst.e1 rfl).2, (hst.e2 rfl).2, (hst.e3 rfl).2, hbx.size, HLO.out, HOW.out⟩)
      have HDD := Lib.hid (show h1 ≠ h2 ∧ h1 ≠ h3 ∧ h2 ≠ h3 from ⟨hst.d12 rfl rfl, hst.d13 rfl rfl, hst.d23 rfl rfl⟩)
      obtain rfl := hst.agr.eq (show 107 < 165 by decide) (x58 := (.slice (some ⟨h1, 0, none⟩) NM NM)) (x60 := (.slice (some ⟨h2, 0, none⟩) N1 N1)) (x62 := (.slice (some ⟨h3, 0, none⟩) N2 N2)) (x11 := (.slice (some ⟨h1, 0, none⟩) NM NM)) (x12 := (.slice (some ⟨h2, 0, none⟩) N1 N1)) (x13 := (.slice (some ⟨h3, 0, none⟩) N2 N2)) (hst.e1 rfl).1 (hst.e2 rfl).1 (hst.e3 rfl).1 (hst.t1 (by decide)) (hst.t2 (by decide)) (hst.t3 (by decide))
      clear hst hbx
      (try simp only [Act.put, List.setIfInBounds_toArray, List.set_cons_zero, List.set_cons_succ])
      refine wpAnyG_done (by kernel_rfl) ?_ _
      go_wp2_with fail
      go_meet
      exact ⟨h1, h2, h3, rfl, rfl, rfl, HBS, HDD⟩
    case rest =>
      obtain ⟨h1, h2, h3, rfl, rfl, rfl, HBS, HDD⟩ := hcut
      have HJ := Lib.hid (show Mj w w2 [(w.heap.size + 1 + 1, 33, #[.slice none 0 0, .slice none 0 0, .slice none 0 0, .slice none 0 0, .slice none 0 0, .int .i64 0, .string ⟨#[]⟩, .string ⟨#[]⟩, .string ⟨#[]⟩, .bool false, .int .i64 0, .int .i64 0, .int .i64 0, .slice none 0 0]), (w.heap.size + 1, 30, #[.slice (some ⟨rb, ro, none⟩) 1 rc, .slice (some ⟨cb, co, none⟩) 1 cc, .int .i64 2, .int .i64 how]), (w.heap.size, 27, #[.int .i64 k, .string num, .string den, .string text, .bool on, .int .i64 code, .int .i64 rows, .int .i64 cols, .slice A n c])] tB h1 h2 h3 N1 N2 NM wx.heap.size R RL (.slice (some ⟨g1, 0, none⟩) N1 c1) (.slice (some ⟨g2, 0, none⟩) N2 c2) (.slice (some ⟨g3, 0, none⟩) R c3) K1 K2 Rs how from ⟨HEN.out, HRE.out, HL2.out, HR2.out, HKA.out, HKB.out, HDD.out.1, HDD.out.2.1, HDD.out.2.2, HNM.out, ⟨_, _, List.mem_cons_of_mem _ (List.mem_cons_self ..)⟩, List.mem_cons_self .., HTB.out, hRl, r1, r2, by omega, by omega, HRW.out, HCLM.out⟩)
      go_step
      exact make10 HJ HTT HBS
end Go.Proofs.YtmapagbmihpbmaaGreatDoor

namespace Go.Proofs.YtmapagbmihpbmaaGreatDoor
open Go.RowKit

theorem tot_txt : txtE ⟨#[84, 111, 116, 97, 108]⟩ = 0 := by decide +kernel
noncomputable def arest11 : Code := ((Tryz.f13.body.bind (contAt 11)).getD .skip)
set_option maxRecDepth 100000 in
set_option maxHeartbeats 40000000 in
theorem arr11 {u0 u1 u2 u3 u5 u7 u14 u15 u16 u17 u18 u19 u20 u21 u22 u23 u24 u25 u26 u27 u28 u29 u30 u31 u32 u33 u34 u35 u36 u37 u38 u39 u40 u41 u42 u43 u44 u45 u46 u47 u48 u49 u50 u51 u52 u53 u54 u55 u56 u57 u58 u59 u60 u61 u62 u63 u64 u65 u66 u67 u68 u69 u70 u71 u72 u73 u74 u75 u76 u77 u78 u79 u80 u81 u82 u83 u84 u85 u86 u87 u88 u89 u90 u91 u92 u93 u94 u95 u96 u97 u98 u99 u100 u101 u102 u103 u104 u105 u106 u107 u108 u109 u110 u111 u112 u113 u114 u115 u116 u117 u118 u119 u120 u121 u122 u123 u124 u125 u126 u127 u128 u129 u130 u131 u132 u133 u134 u135 u136 u137 u138 u139 u140 u141 u142 u143 u144 u145 u146 u147 u148 u149 u150 u151 u152 u153 u154 u155 u156 u157 u158 u159 u160 u161 u162 u163 u164 u165 u166 u167 u168 u169 u170 u171 u172 u173 u174 u175 u176 u177 u178 u179 u180 u181 u182 u183 u184 u185 u186 u187 u188 u189 : Value} {w w1 W0 wr : World} {L : List (Nat × TypeId × Array Value)} {tA G gi n m C g1 c1 g2 c2 : Nat} {A3 : Option Addr} {c3 : Nat} {A4 : Option Addr} {c4 : Nat} {A5 : Option Addr} {c5 : Nat} {t : Vl} {K1 K2 : List Vl} {RL : List Rm} {Rs : List Rm → Vl} (HY : Hid (Ay w w1 W0 L tA G gi n m C g1 c1 g2 c2 A3 c3 A4 c4 A5 c5 t K1 K2 RL Rs)) (HE : Hid (VEnv w)) (HW : Hid (Aw w w1 W0 wr L gi n m K1 K2 RL Rs (fun r c => c < m + 2 ∧ r = 0 ∧ c = 0))) :
    Code.wp Tryz.prog arest11 (bodyPost Tryz.prog Tryz.f13 (ArrayRet n m K1 K2 RL Rs w)) ⟨#[u0, u1, u2, u3, .pointer (some ⟨w.heap.size + 1 + 1, 0, none⟩), u5, .pointer (some ⟨tA, 0, none⟩), u7, .int .i64 1, .int .i64 1, .int .i64 (n : Int), .int .i64 (m : Int), .pointer (some ⟨G, 0, none⟩), .func (.func 31) #[] #[.pointer (some ⟨G, 0, none⟩)], u14, u15, u16, u17, u18, u19, u20, u21, u22, u23, u24, u25, u26, u27, u28, u29, u30, u31, u32, u33, u34, u35, u36, u37, u38, u39, u40, u41, u42, u43, u44, u45, u46, u47, u48, u49, u50, u51, u52, u53, u54, u55, u56, u57, u58, u59, u60, u61, u62, u63, u64, u65, u66, u67, u68, u69, u70, u71, u72, u73, u74, u75, u76, u77, u78, u79, u80, u81, u82, u83, u84, u85, u86, u87, u88, u89, u90, u91, u92, u93, u94, u95, u96, u97, u98, u99, u100, u101, u102, u103, u104, u105, u106, u107, u108, u109, u110, u111, u112, u113, u114, u115, u116, u117, u118, u119, u120, u121, u122, u123, u124, u125, u126, u127, u128, u129, u130, u131, u132, u133, u134, u135, u136, u137, u138, u139, u140, u141, u142, u143, u144, u145, u146, u147, u148, u149, u150, u151, u152, u153, u154, u155, u156, u157, u158, u159, u160, u161, u162, u163, u164, u165, u166, u167, u168, u169, u170, u171, u172, u173, u174, u175, u176, u177, u178, u179, u180, u181, u182, u183, u184, u185, u186, u187, u188, u189], []⟩ wr := by
  conv => arg 2; whnf
  conv => arg 4; zeta
  have hn14 := HY.out.ln
  have hm14 := HY.out.lm
  have HTX := Lib.hid (show ∀ W, Below w.heap.size w W → Calls Tryz.prog 15 #[.string ⟨#[84, 111, 116, 97, 108]⟩] W fun e w' => e = .returned (.agg #[.int .i64 2, .string ⟨#[]⟩, .string ⟨#[]⟩, .string ⟨#[84, 111, 116, 97, 108]⟩, .bool false, .int .i64 0, .int .i64 0, .int .i64 0, .slice none 0 0]) ∧ Below W.heap.size W w' from fun W hW => text_t ⟨#[84, 111, 116, 97, 108]⟩ W (HE.out.below hW) tot_txt (by decide))
  have HP := Lib.hid (show ∀ W, Aw w w1 W0 W L gi n m K1 K2 RL Rs (fun r c => c < m + 2 ∧ r = 0 ∧ c = 0) → Calls Tryz.prog 31 #[.int .i64 (1 + (n : Int)), .int .i64 (0), .agg #[.int .i64 2, .string ⟨#[]⟩, .string ⟨#[]⟩, .string ⟨#[84, 111, 116, 97, 108]⟩, .bool false, .int .i64 0, .int .i64 0, .int .i64 0, .slice none 0 0], .pointer (some ⟨G, 0, none⟩)] W fun e w' => e = .returned (.tuple #[]) ∧ Aw w w1 W0 w' L gi n m K1 K2 RL Rs (fun r c => c < m + 2 ∧ ((r = 0 ∧ c = 0) ∨ (r = n + 1 ∧ c = 0))) from fun W hW => by
    have := Aw.put HY.out hW (n + 1) (0) (by omega) (by omega) (tV ⟨#[84, 111, 116, 97, 108]⟩) (tg_low.symm) (S' := fun r c => c < m + 2 ∧ ((r = 0 ∧ c = 0) ∨ (r = n + 1 ∧ c = 0))) (fun r' c' hs => by
      try dsimp only at hs ⊢
      omega)
    rw [show ((n + 1 : Nat) : Int) = 1 + (n : Int) by omega, show ((0 : Nat) : Int) = 0 by omega] at this
    exact this)
  have HQ := Lib.hid (show ∀ W, Aw w w1 W0 W L gi n m K1 K2 RL Rs (fun r c => c < m + 2 ∧ ((r = 0 ∧ c = 0) ∨ (r = n + 1 ∧ c = 0))) → Calls Tryz.prog 31 #[.int .i64 (0), .int .i64 (1 + (m : Int)), .agg #[.int .i64 2, .string ⟨#[]⟩, .string ⟨#[]⟩, .string ⟨#[84, 111, 116, 97, 108]⟩, .bool false, .int .i64 0, .int .i64 0, .int .i64 0, .slice none 0 0], .pointer (some ⟨G, 0, none⟩)] W fun e w' => e = .returned (.tuple #[]) ∧ Aw w w1 W0 w' L gi n m K1 K2 RL Rs (fun r c => c < m + 2 ∧ ((r = 0 ∧ (c ≤ 0 ∨ c = m + 1)) ∨ (r = n + 1 ∧ c ≤ 0))) from fun W hW => by
    have := Aw.put HY.out hW (0) (m + 1) (by omega) (by omega) (tV ⟨#[84, 111, 116, 97, 108]⟩) (tg_corner.symm) (S' := fun r c => c < m + 2 ∧ ((r = 0 ∧ (c ≤ 0 ∨ c = m + 1)) ∨ (r = n + 1 ∧ c ≤ 0))) (fun r' c' hs => by
      try dsimp only at hs ⊢
      omega)
    rw [show ((0 : Nat) : Int) = 0 by omega, show ((m + 1 : Nat) : Int) = 1 + (m : Int) by omega] at this
    exact this)
  go_upto_region 12 with (first
    | (go_at_call 15; (with_reducible refine (HTX.out _ HW.out.loc.bel).mono ?_); rintro e w2 ⟨rfl, hb⟩; have HWb := Lib.hid (HW.out.later hb); clear hb)
    | (go_at_call 31; (with_reducible refine (HP.out _ HWb.out).mono ?_); rintro e w3 ⟨rfl, hn⟩; have HWc := Lib.hid hn; clear hn))
  go_cut [] (fun wx => Hid (Aw w w1 W0 wx L gi n m K1 K2 RL Rs (fun r c => c < m + 2 ∧ ((r = 0 ∧ (c ≤ 0 ∨ c = m + 1)) ∨ (r = n + 1 ∧ c ≤ 0)))))
  case first =>
    go_wp2_with (first
      | (go_at_call 15; (with_reducible refine (HTX.out _ HWc.out.loc.bel).mono ?_); rintro e w4 ⟨rfl, hb⟩; have HWd := Lib.hid (HWc.out.later hb); clear hb)
      | (go_at_call 31; (with_reducible refine (HQ.out _ HWd.out).mono ?_); rintro e w5 ⟨rfl, hn⟩; have HWe := Lib.hid hn; clear hn))
    go_meet
    exact Lib.hid (HWe.out.mono (fun r c h => by (try dsimp only at h ⊢); (try simp only [true_and] at h); (try simp only [true_and]); omega))
  case rest =>
    clear HW HWc HP HQ HTX
    have HW := hcut
    clear hcut
    go_step
    exact arr13 HY HW
end Go.Proofs.YtmapagbmihpbmaaGreatDoor

namespace Go.Proofs.YtmapagbmihpbmaaGreatDoor
open Go.RowKit

def ArrRet (us : List Vl) (cr cl R : Nat) (Rs : List Rm → Vl) (w : World) (e : Ending) (w' : World) : Prop :=
  ArrayRet (keysP (colL us cr R)).length (keysP (colL us cl R)).length (keysP (colL us cr R)) (keysP (colL us cl R)) (recsP us cr cl R) Rs w e w'
set_option maxRecDepth 100000 in
set_option maxHeartbeats 40000000 in
theorem array_g (v : Vl) (us : List Vl) (R : Nat) (a : Ask) (Rs : List Rm → Vl) (w : World) (he : VEnv w) (hs : Src w v us R) (h5 : v.k = 5) (hz : v.zB = true) (ha : AskB w a) (hne : a.cr ≠ a.cl) (hh : 0 ≤ a.how ∧ a.how ≤ 4) (hN : ∀ (A : Option Addr) (q c : Nat) (L : List Rm) W, VEnv W → Reads 12 rmC W (.slice A q c) L → q ≤ 14 → (∀ r ∈ L, r ∈ recsP us a.cr a.cl R) → Calls Tryz.prog 19 #[.slice A q c, .int .i64 a.how] W fun e w' => e = .returned (.agg (vA (Rs L))) ∧ Below W.heap.size W w') :
    Calls Tryz.prog 13 #[v.v, a.v] w (ArrRet us a.cr a.cl R Rs w) := by
  have r2 := hs.r2
  have HMK := Lib.hid fun W (hW : Below w.heap.size w W) => make_g v us R a Rs W (he.below hW) (hs.below hW) h5 hz (ha.below hW) hne hh hN
  have hk1 := keysP_len (colL us a.cr R)
  have hk2 := keysP_len (colL us a.cl R)
  rw [colL_len] at hk1 hk2
  have HE := Lib.hid he
  unfold MakeRet at HMK
  unfold ArrRet
  obtain ⟨RL, hRL⟩ : ∃ L, L = recsP us a.cr a.cl R := ⟨_, rfl⟩
  obtain ⟨K1, hK1⟩ : ∃ K, K = keysP (colL us a.cr R) := ⟨_, rfl⟩
  obtain ⟨K2, hK2⟩ : ∃ K, K = keysP (colL us a.cl R) := ⟨_, rfl⟩
  rw [← hRL, ← hK1, ← hK2]
  rw [← hRL, ← hK1, ← hK2] at HMK
  rw [← hK1] at hk1
  rw [← hK2] at hk2
  obtain ⟨n, hn⟩ : ∃ n, n = K1.length := ⟨_, rfl⟩
  obtain ⟨m, hm⟩ : ∃ n, n = K2.length := ⟨_, rfl⟩
  rw [← hn, ← hm]
  rw [← hn, ← hm] at HMK
  rw [← hn] at hk1
  rw [← hm] at hk2
  have HN := Lib.hid hn
  have HM := Lib.hid hm
  have n14 : n ≤ 14 := by omega
  have m14 : m ≤ 14 := by omega
  clear hs he ha hz h5 hne hRL hK1 hK2 hn hm hN hh hk1 hk2 r2
  obtain ⟨k, num, den, text, on, code, rows, cols, A, nn, cc⟩ := v
  obtain ⟨rb, ro, rc, cb, co, cc', cr, cl, how⟩ := a
  obtain ⟨t, ht⟩ : ∃ t, t = Rs RL := ⟨_, rfl⟩
  unfold MakeR at HMK
  rw [← ht] at HMK
  have HT := Lib.hid ht.symm
  clear ht
  obtain ⟨tk, tnum, tden, ttx, ton, tco, tro, tcl, tA', tn, tc⟩ := t
  have HMK := Lib.hid (show ∀ W, Below w.heap.size w W → Calls Tryz.prog 6 #[.agg #[.int .i64 k, .string num, .string den, .string text, .bool on, .int .i64 code, .int .i64 rows, .int .i64 cols, .slice A nn cc], .agg #[.slice (some ⟨rb, ro, none⟩) 1 rc, .slice (some ⟨cb, co, none⟩) 1 cc', .int .i64 2, .int .i64 how]] W fun e w' => ∃ (g1 c1 g2 c2 : Nat) (A3 : Option Addr) (c3 : Nat) (A4 : Option Addr) (c4 : Nat) (A5 : Option Addr) (c5 : Nat), e = .returned (.tuple #[.agg #[.slice (some ⟨g1, 0, none⟩) n c1, .slice (some ⟨g2, 0, none⟩) m c2, .slice A3 (n * m) c3, .slice A4 n c4, .slice A5 m c5, .int .i64 tk, .string tnum, .string tden, .string ttx, .bool ton, .int .i64 tco, .int .i64 tro, .int .i64 tcl, .slice tA' tn tc], .int .i64 0]) ∧ KT w' (.slice (some ⟨g1, 0, none⟩) n c1) K1 ∧ KT w' (.slice (some ⟨g2, 0, none⟩) m c2) K2 ∧ Reads 9 csV w' (.slice A3 (n * m) c3) ((List.range (n * m)).map (cellV Rs RL m)) ∧ Reads 9 csV w' (.slice A4 n c4) ((List.range n).map (rowV Rs RL)) ∧ Reads 9 csV w' (.slice A5 m c5) ((List.range m).map (colV Rs RL)) ∧ Below W.heap.size W w' from HMK.out)
  show Calls Tryz.prog _ _ w (ArrayRet n m K1 K2 RL Rs w)
  have HL0 := Lib.hid ((((Loc.start w).alloc' rfl 27 #[.int .i64 k, .string num, .string den, .string text, .bool on, .int .i64 code, .int .i64 rows, .int .i64 cols, .slice A nn cc]).alloc' (g := w.heap.size + 1) (by simp) 30 #[.slice (some ⟨rb, ro, none⟩) 1 rc, .slice (some ⟨cb, co, none⟩) 1 cc', .int .i64 2, .int .i64 how]).alloc' (g := w.heap.size + 1 + 1) (by simp) 27 #[.int .i64 0, .string ⟨#[]⟩, .string ⟨#[]⟩, .string ⟨#[]⟩, .bool false, .int .i64 0, .int .i64 0, .int .i64 0, .slice none 0 0])
  show Calls Tryz.prog 13 #[.agg #[.int .i64 k, .string num, .string den, .string text, .bool on, .int .i64 code, .int .i64 rows, .int .i64 cols, .slice A nn cc], .agg #[.slice (some ⟨rb, ro, none⟩) 1 rc, .slice (some ⟨cb, co, none⟩) 1 cc', .int .i64 2, .int .i64 how]] w _
  go_enter Tryz.func13, Tryz.ntmps13
  go_upto_region 4 with (go_at_call 6; (with_reducible refine (HMK.out _ HL0.out.bel).mono ?_); rintro e w1 ⟨g1, c1, g2, c2, A3, c3, A4, c4, A5, c5, rfl, hk1, hk2, hr3, hr4, hr5, hb⟩; have HL1 := Lib.hid (HL0.out.step hb); have HK1 := Lib.hid hk1; have HK2 := Lib.hid hk2; have HR3 := Lib.hid hr3; have HR4 := Lib.hid hr4; have HR5 := Lib.hid hr5; clear hb hk1 hk2 hr3 hr4 hr5)
  have HL2 := Lib.hid (HL1.out.alloc' rfl 33 #[.slice (some ⟨g1, 0, none⟩) n c1, .slice (some ⟨g2, 0, none⟩) m c2, .slice A3 (n * m) c3, .slice A4 n c4, .slice A5 m c5, .int .i64 tk, .string tnum, .string tden, .string ttx, .bool ton, .int .i64 tco, .int .i64 tro, .int .i64 tcl, .slice tA' tn tc])
  have HB2 := Lib.hid (show Below w1.heap.size w1 (w1.alloc (.cells #[.slice (some ⟨g1, 0, none⟩) n c1, .slice (some ⟨g2, 0, none⟩) m c2, .slice A3 (n * m) c3, .slice A4 n c4, .slice A5 m c5, .int .i64 tk, .string tnum, .string tden, .string ttx, .bool ton, .int .i64 tco, .int .i64 tro, .int .i64 tcl, .slice tA' tn tc] 33)) from (Below.refl _ _).alloc (Nat.le_refl _) _)
  have l1w : w.heap.size + 1 + 1 < w1.heap.size := HL1.out.lt (g := w.heap.size + 1 + 1) (t := 27) (List.mem_cons_self ..)
  clear HL0 HMK HL1
  revert HL2 HB2
  generalize w1.alloc (.cells #[.slice (some ⟨g1, 0, none⟩) n c1, .slice (some ⟨g2, 0, none⟩) m c2, .slice A3 (n * m) c3, .slice A4 n c4, .slice A5 m c5, .int .i64 tk, .string tnum, .string tden, .string ttx, .bool ton, .int .i64 tco, .int .i64 tro, .int .i64 tcl, .slice tA' tn tc] 33) = W2
  intro HL2 HB2
  have p0 : W2.cell? ⟨w.heap.size + 1, 0, none⟩ = some (.slice (some ⟨rb, ro, none⟩) 1 rc) := (HL2.out.blk (g := w.heap.size + 1) (t := 30) (List.mem_cons_of_mem _ (List.mem_cons_of_mem _ (List.mem_cons_self ..)))).cell 0
  have p1 : W2.cell? ⟨w.heap.size + 1, 1, none⟩ = some (.slice (some ⟨cb, co, none⟩) 1 cc') := (HL2.out.blk (g := w.heap.size + 1) (t := 30) (List.mem_cons_of_mem _ (List.mem_cons_of_mem _ (List.mem_cons_self ..)))).cell 1
  go_quiet (fail)
  rename Nat => q1
  have HL3 := Lib.hid (HL2.out.drewN q1)
  have HB3 := Lib.hid (show Below w1.heap.size w1 (W2.drewN q1) from ⟨HB2.out.os, HB2.out.tape, HB2.out.output, HB2.out.size, HB2.out.block⟩)
  clear p0 p1 HL2 HB2
  revert HL3 HB3
  generalize W2.drewN q1 = W3
  intro HL3 HB3
  have s0 : W3.cell? ⟨w1.heap.size, 0, none⟩ = some (.slice (some ⟨g1, 0, none⟩) n c1) := (HL3.out.blk (g := w1.heap.size) (t := 33) (List.mem_cons_self ..)).cell 0
  have s1 : W3.cell? ⟨w1.heap.size, 1, none⟩ = some (.slice (some ⟨g2, 0, none⟩) m c2) := (HL3.out.blk (g := w1.heap.size) (t := 33) (List.mem_cons_self ..)).cell 1
  go_upto_region 5 with fail
  go_quiet (fail)
  rename Nat => q2
  have HL4 := Lib.hid (HL3.out.drewN q2)
  have HB4 := Lib.hid (show Below w1.heap.size w1 (W3.drewN q2) from ⟨HB3.out.os, HB3.out.tape, HB3.out.output, HB3.out.size, HB3.out.block⟩)
  clear s0 s1 HL3 HB3
  revert HL4 HB4
  generalize W3.drewN q2 = W4
  intro HL4 HB4
  go_upto_region 7 with fail
  have HL5 := Lib.hid (HL4.out.alloc' rfl 27 #[.int .i64 5, .string ⟨#[]⟩, .string ⟨#[]⟩, .string ⟨#[]⟩, .bool false, .int .i64 0, .int .i64 (1 + (n : Int) + 1), .int .i64 (1 + (m : Int) + 1), .slice none 0 0])
  have HB5 := Lib.hid (HB4.out.alloc HB4.out.size (.cells #[.int .i64 5, .string ⟨#[]⟩, .string ⟨#[]⟩, .string ⟨#[]⟩, .bool false, .int .i64 0, .int .i64 (1 + (n : Int) + 1), .int .i64 (1 + (m : Int) + 1), .slice none 0 0] 27))
  have l4 : w1.heap.size < W4.heap.size := HL4.out.lt (g := w1.heap.size) (t := 33) (List.mem_cons_self ..)
  clear HL4 HB4
  revert HL5 HB5
  generalize W4.alloc (.cells #[.int .i64 5, .string ⟨#[]⟩, .string ⟨#[]⟩, .string ⟨#[]⟩, .bool false, .int .i64 0, .int .i64 (1 + (n : Int) + 1), .int .i64 (1 + (m : Int) + 1), .slice none 0 0] 27) = W5
  obtain ⟨G, hG⟩ : ∃ G, G = W4.heap.size := ⟨_, rfl⟩
  rw [← hG] at l4 ⊢
  intro HL5 HB5
  clear hG
  obtain ⟨qq, hq⟩ : ∃ qq, qq = 100000 / (m + 2) := ⟨_, rfl⟩
  have hqz : Int.tdiv 100000 (1 + (m : Int) + 1) = (qq : Int) := by rw [show (1 + (m : Int) + 1) = ((m + 2 : Nat) : Int) by omega, hq]; rfl
  have hq1 : 6250 ≤ qq := by rw [hq]; exact (Nat.le_div_iff_mul_le (by omega)).2 (by omega)
  have hq2 : qq ≤ 100000 := by rw [hq]; exact Nat.div_le_self _ _
  have hmz : ¬ (1 + (m : Int) + 1) = 0 := by omega
  have hgt : ¬ (1 + (n : Int) + 1) > (qq : Int) := by omega
  clear hq
  have g6 : W5.cell? ⟨G, 6, none⟩ = some (.int .i64 (1 + (n : Int) + 1)) := (HL5.out.blk (g := G) (t := 27) (List.mem_cons_self ..)).cell 6
  have g7 : W5.cell? ⟨G, 7, none⟩ = some (.int .i64 (1 + (m : Int) + 1)) := (HL5.out.blk (g := G) (t := 27) (List.mem_cons_self ..)).cell 7
  go_quiet (fail)
  rename Nat => q3
  have HL6 := Lib.hid (HL5.out.drewN q3)
  have HB6 := Lib.hid (show Below w1.heap.size w1 (W5.drewN q3) from ⟨HB5.out.os, HB5.out.tape, HB5.out.output, HB5.out.size, HB5.out.block⟩)
  clear g6 g7 HL5 HB5
  revert HL6 HB6
  generalize W5.drewN q3 = W6
  intro HL6 HB6
  go_upto_region 9 with fail
  clear hqz hq1 hq2 hmz hgt
  obtain ⟨T, hT⟩ : ∃ T, T = (n + 2) * (m + 2) := ⟨_, rfl⟩
  have hT2 : T ≤ 256 := by rw [hT]; exact Nat.le_trans (Nat.mul_le_mul (show n + 2 ≤ 16 by omega) (show m + 2 ≤ 16 by omega)) (by decide)
  have hTz : (1 + (n : Int) + 1) * (1 + (m : Int) + 1) = (T : Int) := by
    rw [hT, show (1 + (n : Int) + 1) = ((n + 2 : Nat) : Int) by omega, show (1 + (m : Int) + 1) = ((m + 2 : Nat) : Int) by omega]
    push_cast
    rfl
  have HTT := Lib.hid hT
  clear hT
  have g6 : W6.cell? ⟨G, 6, none⟩ = some (.int .i64 (1 + (n : Int) + 1)) := (HL6.out.blk (g := G) (t := 27) (List.mem_cons_self ..)).cell 6
  have g7 : W6.cell? ⟨G, 7, none⟩ = some (.int .i64 (1 + (m : Int) + 1)) := (HL6.out.blk (g := G) (t := 27) (List.mem_cons_self ..)).cell 7
  have lG : G < W6.heap.size := HL6.out.lt (g := G) (t := 27) (List.mem_cons_self ..)
  go_upto_region 10 with (at_make; refine wp_makeV rfl _ _ rfl _ _ T rfl rfl ?_ ?_ ?_ ?_; (first | rfl | omega); (first | rfl | omega); (omega); intro W7 hia hb; have HIA := Lib.hid hia; have HL7 := Lib.hid (HL6.out.step hb); have HB7 := Lib.hid (HB6.out.trans (hb.mono HB6.out.size)); have g8 : W7.cell? ⟨G, 8, none⟩ = some (.slice none 0 0) := (HL7.out.blk (g := G) (t := 27) (List.mem_cons_self ..)).cell 8; have f8 := (HL7.out.blk (g := G) (t := 27) (List.mem_cons_self ..)).frozen 8; clear hia hb g6 g7)
  have hne : ∀ x ∈ (((w1.heap.size, 33, #[.slice (some ⟨g1, 0, none⟩) n c1, .slice (some ⟨g2, 0, none⟩) m c2, .slice A3 (n * m) c3, .slice A4 n c4, .slice A5 m c5, .int .i64 tk, .string tnum, .string tden, .string ttx, .bool ton, .int .i64 tco, .int .i64 tro, .int .i64 tcl, .slice tA' tn tc]) :: [(w.heap.size + 1 + 1, 27, #[.int .i64 0, .string ⟨#[]⟩, .string ⟨#[]⟩, .string ⟨#[]⟩, .bool false, .int .i64 0, .int .i64 0, .int .i64 0, .slice none 0 0]), (w.heap.size + 1, 30, #[.slice (some ⟨rb, ro, none⟩) 1 rc, .slice (some ⟨cb, co, none⟩) 1 cc', .int .i64 2, .int .i64 how]), (w.heap.size, 27, #[.int .i64 k, .string num, .string den, .string text, .bool on, .int .i64 code, .int .i64 rows, .int .i64 cols, .slice A nn cc])]) : List (Nat × TypeId × Array Value)), x.1 ≠ G := fun x hx => by
    simp only [List.mem_cons, List.not_mem_nil, or_false] at hx
    rcases hx with rfl | rfl | rfl | rfl <;> (dsimp only; omega)
  have hw0 : w.heap.size ≤ w1.heap.size := by omega
  obtain ⟨L, hL⟩ : ∃ L, L = ((G, 27, #[.int .i64 5, .string ⟨#[]⟩, .string ⟨#[]⟩, .string ⟨#[]⟩, .bool false, .int .i64 0, .int .i64 ((n + 2 : Nat) : Int), .int .i64 ((m + 2 : Nat) : Int), .slice (some ⟨W6.heap.size, 0, none⟩) T T]) :: ((w1.heap.size, 33, #[.slice (some ⟨g1, 0, none⟩) n c1, .slice (some ⟨g2, 0, none⟩) m c2, .slice A3 (n * m) c3, .slice A4 n c4, .slice A5 m c5, .int .i64 tk, .string tnum, .string tden, .string ttx, .bool ton, .int .i64 tco, .int .i64 tro, .int .i64 tcl, .slice tA' tn tc]) :: [(w.heap.size + 1 + 1, 27, #[.int .i64 0, .string ⟨#[]⟩, .string ⟨#[]⟩, .string ⟨#[]⟩, .bool false, .int .i64 0, .int .i64 0, .int .i64 0, .slice none 0 0]), (w.heap.size + 1, 30, #[.slice (some ⟨rb, ro, none⟩) 1 rc, .slice (some ⟨cb, co, none⟩) 1 cc', .int .i64 2, .int .i64 how]), (w.heap.size, 27, #[.int .i64 k, .string num, .string den, .string text, .bool on, .int .i64 code, .int .i64 rows, .int .i64 cols, .slice A nn cc])]) : List (Nat × TypeId × Array Value)) := ⟨_, rfl⟩
  have hl0 : Loc w L (W7.setCell ⟨G, 8, none⟩ (.slice (some ⟨W6.heap.size, 0, none⟩) T T)) := by
    have h9 : Loc w ((G, 27, #[.int .i64 5, .string ⟨#[]⟩, .string ⟨#[]⟩, .string ⟨#[]⟩, .bool false, .int .i64 0, .int .i64 (1 + (n : Int) + 1), .int .i64 (1 + (m : Int) + 1), .slice (some ⟨W6.heap.size, 0, none⟩) T T]) :: ((w1.heap.size, 33, #[.slice (some ⟨g1, 0, none⟩) n c1, .slice (some ⟨g2, 0, none⟩) m c2, .slice A3 (n * m) c3, .slice A4 n c4, .slice A5 m c5, .int .i64 tk, .string tnum, .string tden, .string ttx, .bool ton, .int .i64 tco, .int .i64 tro, .int .i64 tcl, .slice tA' tn tc]) :: [(w.heap.size + 1 + 1, 27, #[.int .i64 0, .string ⟨#[]⟩, .string ⟨#[]⟩, .string ⟨#[]⟩, .bool false, .int .i64 0, .int .i64 0, .int .i64 0, .slice none 0 0]), (w.heap.size + 1, 30, #[.slice (some ⟨rb, ro, none⟩) 1 rc, .slice (some ⟨cb, co, none⟩) 1 cc', .int .i64 2, .int .i64 how]), (w.heap.size, 27, #[.int .i64 k, .string num, .string den, .string text, .bool on, .int .i64 code, .int .i64 rows, .int .i64 cols, .slice A nn cc])])) (W7.setCell ⟨G, 8, none⟩ (.slice (some ⟨W6.heap.size, 0, none⟩) T T)) := HL7.out.set1 (i := 8) hne _
    rw [show (1 + (n : Int) + 1) = ((n + 2 : Nat) : Int) by omega, show (1 + (m : Int) + 1) = ((m + 2 : Nat) : Int) by omega] at h9
    rw [hL]
    exact h9
  have hown : ∀ x ∈ L, x.1 < W6.heap.size := fun x hx => by
    rw [hL] at hx
    simp only [List.mem_cons, List.not_mem_nil, or_false] at hx
    rcases hx with rfl | rfl | rfl | rfl | rfl <;> (dsimp only; omega)
  have hb0 : Below w1.heap.size w1 (W7.setCell ⟨G, 8, none⟩ (.slice (some ⟨W6.heap.size, 0, none⟩) T T)) := HB7.out.setCell (p := ⟨G, 8, none⟩) (Nat.le_of_lt l4) _
  have hia0 : IA (W7.setCell ⟨G, 8, none⟩ (.slice (some ⟨W6.heap.size, 0, none⟩) T T)) W6.heap.size T (fun _ => zV) := HIA.out.chg ((Chg.refl W7.heap.size [G] W7).set (p := ⟨G, 8, none⟩) (.inl (List.mem_singleton.2 rfl)) _) (fun hm => by have := List.mem_singleton.1 hm; omega)
  have HY := Lib.hid (show Ay w w1 (W7.setCell ⟨G, 8, none⟩ (.slice (some ⟨W6.heap.size, 0, none⟩) T T)) L w1.heap.size G W6.heap.size n m T g1 c1 g2 c2 A3 c3 A4 c4 A5 c5 ⟨tk, tnum, tden, ttx, ton, tco, tro, tcl, tA', tn, tc⟩ K1 K2 RL Rs from
    ⟨hl0, by rw [hL]; exact List.mem_cons_of_mem _ (List.mem_cons_self ..), by rw [hL, ← HTT.out]; exact List.mem_cons_self .., by rw [hL]; exact List.mem_cons_of_mem _ (List.mem_cons_of_mem _ (List.mem_cons_self ..)), hown, hia0.lt, by omega, hb0, by omega, HT.out, HK1.out, HK2.out, HN.out, HM.out, HR3.out, HR4.out, HR5.out, n14, m14, by rw [← HTT.out]; exact Nat.le_refl _⟩)
  have HW := Lib.hid (show Aw w w1 (W7.setCell ⟨G, 8, none⟩ (.slice (some ⟨W6.heap.size, 0, none⟩) T T)) (W7.setCell ⟨G, 8, none⟩ (.slice (some ⟨W6.heap.size, 0, none⟩) T T)) L W6.heap.size n m K1 K2 RL Rs (fun r c => c < m + 2 ∧ r = 0 ∧ c = 0) from ⟨hl0, Below.refl _ _, hb0, _, by rw [← HTT.out]; exact hia0, fun r c h => by
    obtain ⟨-, rfl, rfl⟩ := h
    simp [tgt]⟩)
  clear hl0 hown hb0 hia0 hne hL HL6 HB6 HIA HL7 HB7 HK1 HK2 HR3 HR4 HR5 HT HN HM
  go_cut [13] (fun u13 wx => u13 = .func (.func 31) #[] #[.pointer (some ⟨G, 0, none⟩)] ∧ Hid (Aw w w1 (W7.setCell ⟨G, 8, none⟩ (.slice (some ⟨W6.heap.size, 0, none⟩) T T)) wx L W6.heap.size n m K1 K2 RL Rs (fun r c => c < m + 2 ∧ r = 0 ∧ c = 0)))
  case first =>
    go_wp2_with fail
    go_meet
    exact ⟨rfl, HW⟩
  case rest =>
    clear HW
    obtain ⟨rfl, HW⟩ := hcut
    go_step
    exact arr11 HY HE HW
end Go.Proofs.YtmapagbmihpbmaaGreatDoor

namespace Go.Proofs.YtmapagbmihpbmaaGreatDoor
open Go.RowKit

/-- An array of R + 1 rows and three columns, as value. -/
def vV (g c R : Nat) : Vl := ⟨5, ⟨#[]⟩, ⟨#[]⟩, ⟨#[]⟩, false, 0, (R : Int) + 1, 3, some ⟨g, 0, none⟩, (R + 1) * 3, c⟩
theorem vV_zB (g c R : Nat) : (vV g c R).zB = true := by simp [vV, Vl.zB, Lib.toList_data, frSame]
theorem usA_all (Z : List Int) (R : Nat) : ∀ u ∈ usA Z R, u.ok ∧ u.sz := fun u hu => by
  obtain ⟨i, rfl⟩ := usA_mem Z R u hu
  exact ⟨itmL_ok Z i, itmL_sz Z i⟩
theorem usB_all (Z : List Int) (R : Nat) : ∀ u ∈ usB Z R, u.ok ∧ u.sz := fun u hu => by
  obtain ⟨i, rfl⟩ := usB_mem Z R u hu
  exact ⟨itmL_ok Z i, itmL_sz Z i⟩
theorem usA_len (Z : List Int) (R : Nat) : (usA Z R).length = (R + 1) * 3 := by simp [usA]
theorem usB_len (Z : List Int) (R : Nat) : (usB Z R).length = (R + 1) * 3 := by simp [usB]
section
variable {Z : List Int} {R g c rb cb : Nat} {how : Int} {W : World}
theorem srcA (r1 : 1 ≤ R) (r2 : R ≤ 14) (hr : Reads 9 csV W (.slice (some ⟨g, 0, none⟩) ((R + 1) * 3) c) (usA Z R)) : Src W (vV g c R) (usA Z R) R := ⟨rfl, rfl, r1, r2, usA_len Z R, (usA_len Z R).symm, hr, usA_all Z R⟩
theorem srcB (r1 : 1 ≤ R) (r2 : R ≤ 14) (hr : Reads 9 csV W (.slice (some ⟨g, 0, none⟩) ((R + 1) * 3) c) (usB Z R)) : Src W (vV g c R) (usB Z R) R := ⟨rfl, rfl, r1, r2, usB_len Z R, (usB_len Z R).symm, hr, usB_all Z R⟩
theorem arrA (r1 : 1 ≤ R) (r2 : R ≤ 14) (hh : 0 ≤ how ∧ how ≤ 4) (he : VEnv W) (hr : Reads 9 csV W (.slice (some ⟨g, 0, none⟩) ((R + 1) * 3) c) (usA Z R)) (h1 : Blk W rb 3 #[.int .i64 ((1 : Nat) : Int)]) (h0 : Blk W cb 3 #[.int .i64 ((0 : Nat) : Int)]) :
    Calls Tryz.prog 13 #[(vV g c R).v, (⟨rb, 0, 1, cb, 0, 1, 1, 0, how⟩ : Ask).v] W (ArrRet (usA Z R) 1 0 R (resV nmR how) W) :=
  array_g (vV g c R) (usA Z R) R ⟨rb, 0, 1, cb, 0, 1, 1, 0, how⟩ (resV nmR how) W he (srcA r1 r2 hr) rfl (vV_zB g c R) ⟨h1, h0, rfl, rfl, rfl, rfl, (show (1 : Nat) < 3 by decide), (show (0 : Nat) < 3 by decide)⟩ (show (1 : Nat) ≠ 0 by decide) hh fun A q c' L W' he' hL hq hm => result_g nmR how A q c' L W' he' hL hq (fun r hr' => recsA_nm Z R r (hm r hr')) hh
theorem mkA (r1 : 1 ≤ R) (r2 : R ≤ 14) (hh : 0 ≤ how ∧ how ≤ 4) (he : VEnv W) (hr : Reads 9 csV W (.slice (some ⟨g, 0, none⟩) ((R + 1) * 3) c) (usA Z R)) (h1 : Blk W rb 3 #[.int .i64 ((1 : Nat) : Int)]) (h0 : Blk W cb 3 #[.int .i64 ((0 : Nat) : Int)]) :
    Calls Tryz.prog 6 #[(vV g c R).v, (⟨rb, 0, 1, cb, 0, 1, 1, 0, how⟩ : Ask).v] W (MakeRet (usA Z R) 1 0 R (resV nmR how) W) :=
  make_g (vV g c R) (usA Z R) R ⟨rb, 0, 1, cb, 0, 1, 1, 0, how⟩ (resV nmR how) W he (srcA r1 r2 hr) rfl (vV_zB g c R) ⟨h1, h0, rfl, rfl, rfl, rfl, (show (1 : Nat) < 3 by decide), (show (0 : Nat) < 3 by decide)⟩ (show (1 : Nat) ≠ 0 by decide) hh fun A q c' L W' he' hL hq hm => result_g nmR how A q c' L W' he' hL hq (fun r hr' => recsA_nm Z R r (hm r hr')) hh
theorem arrB (r1 : 1 ≤ R) (r2 : R ≤ 14) (hh : 0 ≤ how ∧ how ≤ 4) (he : VEnv W) (hr : Reads 9 csV W (.slice (some ⟨g, 0, none⟩) ((R + 1) * 3) c) (usB Z R)) (h1 : Blk W rb 3 #[.int .i64 ((1 : Nat) : Int)]) (h0 : Blk W cb 3 #[.int .i64 ((0 : Nat) : Int)]) :
    Calls Tryz.prog 13 #[(vV g c R).v, (⟨rb, 0, 1, cb, 0, 1, 1, 0, how⟩ : Ask).v] W (ArrRet (usA Z R) 1 0 R (resV nmR how) W) := by
  have h := array_g (vV g c R) (usB Z R) R ⟨rb, 0, 1, cb, 0, 1, 1, 0, how⟩ (resV nmR how) W he (srcB r1 r2 hr) rfl (vV_zB g c R) ⟨h1, h0, rfl, rfl, rfl, rfl, (show (1 : Nat) < 3 by decide), (show (0 : Nat) < 3 by decide)⟩ (show (1 : Nat) ≠ 0 by decide) hh fun A q c' L W' he' hL hq hm => result_g nmR how A q c' L W' he' hL hq (fun r hr' => recsB_nm Z R r (hm r hr')) hh
  refine h.mono fun e w' hx => ?_
  unfold ArrRet ArrayRet at hx ⊢
  rw [keysB Z R 1 (by decide), keysB Z R 0 (by decide)] at hx
  obtain ⟨gi, C, e1, e2, e3⟩ := hx
  refine ⟨gi, C, e1, ?_, e3⟩
  have hf := funext fun x => tgtB Z R (keysP (colL (usA Z R) 1 R)).length (keysP (colL (usA Z R) 0 R)).length (keysP (colL (usA Z R) 1 R)) (keysP (colL (usA Z R) 0 R)) how (x / ((keysP (colL (usA Z R) 0 R)).length + 2)) (x % ((keysP (colL (usA Z R) 0 R)).length + 2))
  rw [← hf]
  exact e2
end
end Go.Proofs.YtmapagbmihpbmaaGreatDoor

namespace Go.Proofs.YtmapagbmihpbmaaGreatDoor
open Go.RowKit

theorem keysA_n (Z : List Int) (R c : Nat) (hc : c < 3) : ∀ u ∈ keysP (colL (usA Z R) c R), u.n = 0 := fun u hu => by
  obtain ⟨i, rfl⟩ := colA_mem Z R c hc u (keysP_mem _ u hu)
  exact (itmL_flat Z i).2.1
noncomputable def orest14 : Code := ((Tryz.f4.body.bind (contAt 14)).getD .skip)
set_option maxRecDepth 100000 in
set_option maxHeartbeats 40000000 in
theorem ord14 {u0 u2 u3 u4 u6 u7 u9 u10 u11 u12 u13 u14 u15 u16 u17 u18 u19 u20 u21 u22 u23 u24 u25 u26 u27 u28 u29 u30 u31 u32 u33 u34 u35 u36 u37 u38 u39 u40 u41 u42 u43 u44 u45 u46 u47 u48 u49 u50 u51 u52 u53 u54 u55 u56 u57 u58 u59 u60 u61 u62 u63 u64 u65 u66 u67 u68 u69 u70 u71 u72 u73 u74 u75 u76 u77 u78 u79 u80 u81 u82 u83 u84 u85 u86 u87 u88 u89 u90 u91 u92 u93 u94 u95 u96 u97 u98 u99 u100 u101 u102 u103 u104 u105 u106 u107 u108 u109 u110 u111 u112 u113 u114 u115 u116 u117 u118 u119 u120 u121 u122 u123 u124 u125 u126 u127 u128 u129 u130 u131 u132 u133 u134 u135 u136 u137 u138 u139 u140 u141 u142 u143 u144 u145 u146 u147 u148 u149 u150 u151 u152 u153 u154 u155 u156 u157 u158 u159 u160 u161 u162 u163 u164 u165 u166 u167 u168 u169 u170 u171 u172 u173 u174 u175 u176 u177 u178 u179 u180 u181 u182 u183 u184 u185 u186 u187 u188 u189 u190 : Value} {w wr : World} {hw : Int} {Z : List Int} {R V Y0 gv cv gw cw : Nat} (r1 : 1 ≤ R) (r2 : R ≤ 14) (hhw : -9223372036854775808 ≤ hw ∧ hw ≤ 9223372036854775807) (HE : Hid (VEnv w)) (HL : Hid (Loc w [(V, 27, #[.int .i64 5, .string ⟨#[]⟩, .string ⟨#[]⟩, .string ⟨#[]⟩, .bool false, .int .i64 0, .int .i64 ((R : Int) + 1), .int .i64 3, .slice (some ⟨gv, 0, none⟩) ((R + 1) * 3) cv]), (Y0, 27, #[.int .i64 5, .string ⟨#[]⟩, .string ⟨#[]⟩, .string ⟨#[]⟩, .bool false, .int .i64 0, .int .i64 ((R : Int) + 1), .int .i64 3, .slice (some ⟨gw, 0, none⟩) ((R + 1) * 3) cw])] wr)) (HA : Hid (Reads 9 csV wr (.slice (some ⟨gv, 0, none⟩) ((R + 1) * 3) cv) (usA Z R))) (HBb : Hid (Reads 9 csV wr (.slice (some ⟨gw, 0, none⟩) ((R + 1) * 3) cw) (usB Z R))) :
    Code.wp Tryz.prog orest14 (bodyPost Tryz.prog Tryz.f4 fun e w' => e = .returned (.bool true) ∧ Below w.heap.size w w') ⟨#[u0, .int .i64 hw, u2, u3, u4, .pointer (some ⟨V, 0, none⟩), u6, u7, .pointer (some ⟨Y0, 0, none⟩), u9, u10, u11, u12, u13, u14, u15, u16, u17, u18, u19, u20, u21, u22, u23, u24, u25, u26, u27, u28, u29, u30, u31, u32, u33, u34, u35, u36, u37, u38, u39, u40, u41, u42, u43, u44, u45, u46, u47, u48, u49, u50, u51, u52, u53, u54, u55, u56, u57, u58, u59, u60, u61, u62, u63, u64, u65, u66, u67, u68, u69, u70, u71, u72, u73, u74, u75, u76, u77, u78, u79, u80, u81, u82, u83, u84, u85, u86, u87, u88, u89, u90, u91, u92, u93, u94, u95, u96, u97, u98, u99, u100, u101, u102, u103, u104, u105, u106, u107, u108, u109, u110, u111, u112, u113, u114, u115, u116, u117, u118, u119, u120, u121, u122, u123, u124, u125, u126, u127, u128, u129, u130, u131, u132, u133, u134, u135, u136, u137, u138, u139, u140, u141, u142, u143, u144, u145, u146, u147, u148, u149, u150, u151, u152, u153, u154, u155, u156, u157, u158, u159, u160, u161, u162, u163, u164, u165, u166, u167, u168, u169, u170, u171, u172, u173, u174, u175, u176, u177, u178, u179, u180, u181, u182, u183, u184, u185, u186, u187, u188, u189, u190], []⟩ wr := by
  conv => arg 2; whnf
  conv => arg 4; zeta
  obtain ⟨how, hhow⟩ : ∃ h : Int, h = hw % 5 := ⟨_, rfl⟩
  have hh : 0 ≤ how ∧ how ≤ 4 := by omega
  have HMD := Lib.hid fun W => mod_any hw 5 W (by decide) (by decide) hhw
  rw [← hhow] at HMD
  clear hhow hhw
  obtain ⟨K1, hK1⟩ : ∃ K, K = keysP (colL (usA Z R) 1 R) := ⟨_, rfl⟩
  obtain ⟨K2, hK2⟩ : ∃ K, K = keysP (colL (usA Z R) 0 R) := ⟨_, rfl⟩
  obtain ⟨RL, hRL⟩ : ∃ L, L = recsP (usA Z R) 1 0 R := ⟨_, rfl⟩
  obtain ⟨n, hn⟩ : ∃ n, n = K1.length := ⟨_, rfl⟩
  obtain ⟨m, hm⟩ : ∃ m, m = K2.length := ⟨_, rfl⟩
  obtain ⟨s, hs⟩ : ∃ s, s = wr.heap.size := ⟨_, rfl⟩
  have HLL := Lib.hid fun W (hW : Loc w [(s + 1 + 1, 30, #[.slice (some ⟨s, 0, none⟩) 1 1, .slice (some ⟨s + 1, 0, none⟩) 1 1, .int .i64 2, .int .i64 how]), (s + 1, 3, #[.int .i64 0]), (s, 3, #[.int .i64 1]), (V, 27, #[.int .i64 5, .string ⟨#[]⟩, .string ⟨#[]⟩, .string ⟨#[]⟩, .bool false, .int .i64 0, .int .i64 ((R : Int) + 1), .int .i64 3, .slice (some ⟨gv, 0, none⟩) ((R + 1) * 3) cv]), (Y0, 27, #[.int .i64 5, .string ⟨#[]⟩, .string ⟨#[]⟩, .string ⟨#[]⟩, .bool false, .int .i64 0, .int .i64 ((R : Int) + 1), .int .i64 3, .slice (some ⟨gw, 0, none⟩) ((R + 1) * 3) cw])] W) => hW
  have HCA := Lib.hid (show ∀ W, Loc w [(s + 1 + 1, 30, #[.slice (some ⟨s, 0, none⟩) 1 1, .slice (some ⟨s + 1, 0, none⟩) 1 1, .int .i64 2, .int .i64 how]), (s + 1, 3, #[.int .i64 0]), (s, 3, #[.int .i64 1]), (V, 27, #[.int .i64 5, .string ⟨#[]⟩, .string ⟨#[]⟩, .string ⟨#[]⟩, .bool false, .int .i64 0, .int .i64 ((R : Int) + 1), .int .i64 3, .slice (some ⟨gv, 0, none⟩) ((R + 1) * 3) cv]), (Y0, 27, #[.int .i64 5, .string ⟨#[]⟩, .string ⟨#[]⟩, .string ⟨#[]⟩, .bool false, .int .i64 0, .int .i64 ((R : Int) + 1), .int .i64 3, .slice (some ⟨gw, 0, none⟩) ((R + 1) * 3) cw])] W → Below wr.heap.size wr W → Calls Tryz.prog 13 #[.agg #[.int .i64 5, .string ⟨#[]⟩, .string ⟨#[]⟩, .string ⟨#[]⟩, .bool false, .int .i64 0, .int .i64 ((R : Int) + 1), .int .i64 3, .slice (some ⟨gv, 0, none⟩) ((R + 1) * 3) cv], .agg #[.slice (some ⟨s, 0, none⟩) 1 1, .slice (some ⟨s + 1, 0, none⟩) 1 1, .int .i64 2, .int .i64 how]] W (fun e w' => ∃ (gi C : Nat), e = .returned (.tuple #[.agg #[.int .i64 5, .string ⟨#[]⟩, .string ⟨#[]⟩, .string ⟨#[]⟩, .bool false, .int .i64 0, .int .i64 ((n : Int) + 2), .int .i64 ((m : Int) + 2), .slice (some ⟨gi, 0, none⟩) ((n + 2) * (m + 2)) C], .int .i64 0]) ∧ Reads 9 csV w' (.slice (some ⟨gi, 0, none⟩) ((n + 2) * (m + 2)) C) ((List.range ((n + 2) * (m + 2))).map (atX n m K1 K2 RL (resV nmR how))) ∧ Below W.heap.size W w') from fun W h hb => by
    have := arrA (Z := Z) (R := R) (g := gv) (c := cv) (rb := s) (cb := s + 1) (how := how) r1 r2 hh (HE.out.below h.bel) (HA.out.below hb) (h.blk (List.mem_cons_of_mem _ (List.mem_cons_of_mem _ (List.mem_cons_self ..)))) (h.blk (List.mem_cons_of_mem _ (List.mem_cons_self ..)))
    unfold ArrRet ArrayRet at this
    rw [← hK1, ← hK2, ← hRL, ← hn, ← hm] at this
    exact this)
  have HCB := Lib.hid (show ∀ W, Loc w [(s + 1 + 1, 30, #[.slice (some ⟨s, 0, none⟩) 1 1, .slice (some ⟨s + 1, 0, none⟩) 1 1, .int .i64 2, .int .i64 how]), (s + 1, 3, #[.int .i64 0]), (s, 3, #[.int .i64 1]), (V, 27, #[.int .i64 5, .string ⟨#[]⟩, .string ⟨#[]⟩, .string ⟨#[]⟩, .bool false, .int .i64 0, .int .i64 ((R : Int) + 1), .int .i64 3, .slice (some ⟨gv, 0, none⟩) ((R + 1) * 3) cv]), (Y0, 27, #[.int .i64 5, .string ⟨#[]⟩, .string ⟨#[]⟩, .string ⟨#[]⟩, .bool false, .int .i64 0, .int .i64 ((R : Int) + 1), .int .i64 3, .slice (some ⟨gw, 0, none⟩) ((R + 1) * 3) cw])] W → Below wr.heap.size wr W → Calls Tryz.prog 13 #[.agg #[.int .i64 5, .string ⟨#[]⟩, .string ⟨#[]⟩, .string ⟨#[]⟩, .bool false, .int .i64 0, .int .i64 ((R : Int) + 1), .int .i64 3, .slice (some ⟨gw, 0, none⟩) ((R + 1) * 3) cw], .agg #[.slice (some ⟨s, 0, none⟩) 1 1, .slice (some ⟨s + 1, 0, none⟩) 1 1, .int .i64 2, .int .i64 how]] W (fun e w' => ∃ (gi C : Nat), e = .returned (.tuple #[.agg #[.int .i64 5, .string ⟨#[]⟩, .string ⟨#[]⟩, .string ⟨#[]⟩, .bool false, .int .i64 0, .int .i64 ((n : Int) + 2), .int .i64 ((m : Int) + 2), .slice (some ⟨gi, 0, none⟩) ((n + 2) * (m + 2)) C], .int .i64 0]) ∧ Reads 9 csV w' (.slice (some ⟨gi, 0, none⟩) ((n + 2) * (m + 2)) C) ((List.range ((n + 2) * (m + 2))).map (atX n m K1 K2 RL (resV nmR how))) ∧ Below W.heap.size W w') from fun W h hb => by
    have := arrB (Z := Z) (R := R) (g := gw) (c := cw) (rb := s) (cb := s + 1) (how := how) r1 r2 hh (HE.out.below h.bel) (HBb.out.below hb) (h.blk (List.mem_cons_of_mem _ (List.mem_cons_of_mem _ (List.mem_cons_self ..)))) (h.blk (List.mem_cons_of_mem _ (List.mem_cons_self ..)))
    unfold ArrRet ArrayRet at this
    rw [← hK1, ← hK2, ← hRL, ← hn, ← hm] at this
    exact this)
  have HCM := Lib.hid (show ∀ W, Loc w [(s + 1 + 1, 30, #[.slice (some ⟨s, 0, none⟩) 1 1, .slice (some ⟨s + 1, 0, none⟩) 1 1, .int .i64 2, .int .i64 how]), (s + 1, 3, #[.int .i64 0]), (s, 3, #[.int .i64 1]), (V, 27, #[.int .i64 5, .string ⟨#[]⟩, .string ⟨#[]⟩, .string ⟨#[]⟩, .bool false, .int .i64 0, .int .i64 ((R : Int) + 1), .int .i64 3, .slice (some ⟨gv, 0, none⟩) ((R + 1) * 3) cv]), (Y0, 27, #[.int .i64 5, .string ⟨#[]⟩, .string ⟨#[]⟩, .string ⟨#[]⟩, .bool false, .int .i64 0, .int .i64 ((R : Int) + 1), .int .i64 3, .slice (some ⟨gw, 0, none⟩) ((R + 1) * 3) cw])] W → Below wr.heap.size wr W → Calls Tryz.prog 6 #[.agg #[.int .i64 5, .string ⟨#[]⟩, .string ⟨#[]⟩, .string ⟨#[]⟩, .bool false, .int .i64 0, .int .i64 ((R : Int) + 1), .int .i64 3, .slice (some ⟨gv, 0, none⟩) ((R + 1) * 3) cv], .agg #[.slice (some ⟨s, 0, none⟩) 1 1, .slice (some ⟨s + 1, 0, none⟩) 1 1, .int .i64 2, .int .i64 how]] W (MakeR n m K1 K2 RL (resV nmR how) W) from fun W h hb => by
    have := mkA (Z := Z) (R := R) (g := gv) (c := cv) (rb := s) (cb := s + 1) (how := how) r1 r2 hh (HE.out.below h.bel) (HA.out.below hb) (h.blk (List.mem_cons_of_mem _ (List.mem_cons_of_mem _ (List.mem_cons_self ..)))) (h.blk (List.mem_cons_of_mem _ (List.mem_cons_self ..)))
    unfold MakeRet at this
    rw [← hK1, ← hK2, ← hRL, ← hn, ← hm] at this
    exact this)
  have HCL := Lib.hid (show ∀ W, Loc w [(s + 1 + 1, 30, #[.slice (some ⟨s, 0, none⟩) 1 1, .slice (some ⟨s + 1, 0, none⟩) 1 1, .int .i64 2, .int .i64 how]), (s + 1, 3, #[.int .i64 0]), (s, 3, #[.int .i64 1]), (V, 27, #[.int .i64 5, .string ⟨#[]⟩, .string ⟨#[]⟩, .string ⟨#[]⟩, .bool false, .int .i64 0, .int .i64 ((R : Int) + 1), .int .i64 3, .slice (some ⟨gv, 0, none⟩) ((R + 1) * 3) cv]), (Y0, 27, #[.int .i64 5, .string ⟨#[]⟩, .string ⟨#[]⟩, .string ⟨#[]⟩, .bool false, .int .i64 0, .int .i64 ((R : Int) + 1), .int .i64 3, .slice (some ⟨gw, 0, none⟩) ((R + 1) * 3) cw])] W → (W.cell? ⟨V, 0, none⟩ = some (.int .i64 5) ∧ W.cell? ⟨V, 1, none⟩ = some (.string ⟨#[]⟩) ∧ W.cell? ⟨V, 2, none⟩ = some (.string ⟨#[]⟩) ∧ W.cell? ⟨V, 3, none⟩ = some (.string ⟨#[]⟩) ∧ W.cell? ⟨V, 4, none⟩ = some (.bool false) ∧ W.cell? ⟨V, 5, none⟩ = some (.int .i64 0) ∧ W.cell? ⟨V, 6, none⟩ = some (.int .i64 ((R : Int) + 1)) ∧ W.cell? ⟨V, 7, none⟩ = some (.int .i64 3) ∧ W.cell? ⟨V, 8, none⟩ = some (.slice (some ⟨gv, 0, none⟩) ((R + 1) * 3) cv)) ∧ (W.cell? ⟨Y0, 0, none⟩ = some (.int .i64 5) ∧ W.cell? ⟨Y0, 1, none⟩ = some (.string ⟨#[]⟩) ∧ W.cell? ⟨Y0, 2, none⟩ = some (.string ⟨#[]⟩) ∧ W.cell? ⟨Y0, 3, none⟩ = some (.string ⟨#[]⟩) ∧ W.cell? ⟨Y0, 4, none⟩ = some (.bool false) ∧ W.cell? ⟨Y0, 5, none⟩ = some (.int .i64 0) ∧ W.cell? ⟨Y0, 6, none⟩ = some (.int .i64 ((R : Int) + 1)) ∧ W.cell? ⟨Y0, 7, none⟩ = some (.int .i64 3) ∧ W.cell? ⟨Y0, 8, none⟩ = some (.slice (some ⟨gw, 0, none⟩) ((R + 1) * 3) cw)) ∧ W.cell? ⟨s + 1 + 1, 0, none⟩ = some (.slice (some ⟨s, 0, none⟩) 1 1) ∧ W.cell? ⟨s + 1 + 1, 1, none⟩ = some (.slice (some ⟨s + 1, 0, none⟩) 1 1) ∧ W.cell? ⟨s + 1 + 1, 2, none⟩ = some (.int .i64 2) ∧ W.cell? ⟨s + 1 + 1, 3, none⟩ = some (.int .i64 how) from fun W h => by
    have h1 := h.blk (g := s + 1 + 1) (t := 30) (List.mem_cons_self ..)
    have h2 := h.blk (g := V) (t := 27) (List.mem_cons_of_mem _ (List.mem_cons_of_mem _ (List.mem_cons_of_mem _ (List.mem_cons_self ..))))
    have h3 := h.blk (g := Y0) (t := 27) (List.mem_cons_of_mem _ (List.mem_cons_of_mem _ (List.mem_cons_of_mem _ (List.mem_cons_of_mem _ (List.mem_cons_self ..)))))
    exact ⟨⟨h2.cell 0, h2.cell 1, h2.cell 2, h2.cell 3, h2.cell 4, h2.cell 5, h2.cell 6, h2.cell 7, h2.cell 8⟩, ⟨h3.cell 0, h3.cell 1, h3.cell 2, h3.cell 3, h3.cell 4, h3.cell 5, h3.cell 6, h3.cell 7, h3.cell 8⟩, h1.cell 0, h1.cell 1, h1.cell 2, h1.cell 3⟩)
  have HQ := Lib.hid (And.intro hn (And.intro hm (And.intro hK1 hK2)))
  clear hn hm hK1 hK2 hRL
  go_upto_region 15 with (go_at_call 12; (with_reducible refine (HMD.out _).mono ?_); rintro e w1 ⟨rfl, rfl⟩)
  subst hs
  have hb0 : Below wr.heap.size wr (((wr.alloc (.cells #[.int .i64 1] 3)).alloc (.cells #[.int .i64 0] 3)).alloc (.cells #[.slice (some ⟨wr.heap.size, 0, none⟩) 1 1, .slice (some ⟨wr.heap.size + 1, 0, none⟩) 1 1, .int .i64 2, .int .i64 how] 30)) := ((((Below.refl _ _).alloc (Nat.le_refl _) _).alloc (by simp) _).alloc (by simp; omega) _)
  have HB3 := Lib.hid hb0
  have HL3 := Lib.hid (((HL.out.alloc' rfl 3 #[.int .i64 1]).alloc' (g := wr.heap.size + 1) (by simp) 3 #[.int .i64 0]).alloc' (g := wr.heap.size + 1 + 1) (by simp) 30 #[.slice (some ⟨wr.heap.size, 0, none⟩) 1 1, .slice (some ⟨wr.heap.size + 1, 0, none⟩) 1 1, .int .i64 2, .int .i64 how])
  clear hb0
  revert HB3 HL3
  generalize ((wr.alloc (.cells #[.int .i64 1] 3)).alloc (.cells #[.int .i64 0] 3)).alloc (.cells #[.slice (some ⟨wr.heap.size, 0, none⟩) 1 1, .slice (some ⟨wr.heap.size + 1, 0, none⟩) 1 1, .int .i64 2, .int .i64 how] 30) = W3
  intro HB3 HL3
  obtain ⟨⟨k0, k1, k2, k3, k4, k5, k6, k7, k8⟩, -, p0, p1, p2, p3⟩ := HCL.out _ HL3.out
  go_upto_region 16 with (go_at_call 13; (with_reducible refine (HCA.out _ HL3.out HB3.out).mono ?_); rintro e w4 ⟨gi, C, rfl, hrx, hb⟩; have HRX := Lib.hid hrx; have HL4 := Lib.hid (HL3.out.step hb); have HB4 := Lib.hid (HB3.out.trans (hb.mono HB3.out.size)); clear hrx hb k0 k1 k2 k3 k4 k5 k6 k7 k8 p0 p1 p2 p3 HCA HL3 HB3)
  obtain ⟨X, hX⟩ : ∃ X, X = w4.heap.size := ⟨_, rfl⟩
  have HL5 := Lib.hid (HL4.out.alloc' hX.symm 27 #[.int .i64 5, .string ⟨#[]⟩, .string ⟨#[]⟩, .string ⟨#[]⟩, .bool false, .int .i64 0, .int .i64 ((n : Int) + 2), .int .i64 ((m : Int) + 2), .slice (some ⟨gi, 0, none⟩) ((n + 2) * (m + 2)) C])
  have HB5 := Lib.hid (HB4.out.trans ((below_new w4 (.cells #[.int .i64 5, .string ⟨#[]⟩, .string ⟨#[]⟩, .string ⟨#[]⟩, .bool false, .int .i64 0, .int .i64 ((n : Int) + 2), .int .i64 ((m : Int) + 2), .slice (some ⟨gi, 0, none⟩) ((n + 2) * (m + 2)) C] 27)).mono HB4.out.size))
  have HR5 := Lib.hid (HRX.out.below (below_new w4 (.cells #[.int .i64 5, .string ⟨#[]⟩, .string ⟨#[]⟩, .string ⟨#[]⟩, .bool false, .int .i64 0, .int .i64 ((n : Int) + 2), .int .i64 ((m : Int) + 2), .slice (some ⟨gi, 0, none⟩) ((n + 2) * (m + 2)) C] 27)))
  clear HL4 HB4 HRX
  rw [← hX]
  revert HL5 HB5 HR5
  generalize w4.alloc (.cells #[.int .i64 5, .string ⟨#[]⟩, .string ⟨#[]⟩, .string ⟨#[]⟩, .bool false, .int .i64 0, .int .i64 ((n : Int) + 2), .int .i64 ((m : Int) + 2), .slice (some ⟨gi, 0, none⟩) ((n + 2) * (m + 2)) C] 27) = W5
  intro HL5 HB5 HR5
  clear hX
  have HP5 := Lib.hid (HL5.out.perm (L' := [(wr.heap.size + 1 + 1, 30, #[.slice (some ⟨wr.heap.size, 0, none⟩) 1 1, .slice (some ⟨wr.heap.size + 1, 0, none⟩) 1 1, .int .i64 2, .int .i64 how]), (wr.heap.size + 1, 3, #[.int .i64 0]), (wr.heap.size, 3, #[.int .i64 1]), (V, 27, #[.int .i64 5, .string ⟨#[]⟩, .string ⟨#[]⟩, .string ⟨#[]⟩, .bool false, .int .i64 0, .int .i64 ((R : Int) + 1), .int .i64 3, .slice (some ⟨gv, 0, none⟩) ((R + 1) * 3) cv]), (Y0, 27, #[.int .i64 5, .string ⟨#[]⟩, .string ⟨#[]⟩, .string ⟨#[]⟩, .bool false, .int .i64 0, .int .i64 ((R : Int) + 1), .int .i64 3, .slice (some ⟨gw, 0, none⟩) ((R + 1) * 3) cw])]) fun x hx => List.mem_cons_of_mem _ hx)
  obtain ⟨-, ⟨k0, k1, k2, k3, k4, k5, k6, k7, k8⟩, p0, p1, p2, p3⟩ := HCL.out _ HP5.out
  go_upto_region 17 with (go_at_call 13; (with_reducible refine (HCB.out _ HP5.out HB5.out).mono ?_); rintro e w6 ⟨hi, D, rfl, hrx, hb⟩; have HRY := Lib.hid hrx; have HR6 := Lib.hid (HR5.out.below hb); have HL6 := Lib.hid (HL5.out.step hb); have HB6 := Lib.hid (HB5.out.trans (hb.mono HB5.out.size)); clear hrx hb k0 k1 k2 k3 k4 k5 k6 k7 k8 p0 p1 p2 p3 HCB HL5 HB5 HP5 HR5)
  obtain ⟨Y, hY⟩ : ∃ Y, Y = w6.heap.size := ⟨_, rfl⟩
  have HL7 := Lib.hid (HL6.out.alloc' hY.symm 27 #[.int .i64 5, .string ⟨#[]⟩, .string ⟨#[]⟩, .string ⟨#[]⟩, .bool false, .int .i64 0, .int .i64 ((n : Int) + 2), .int .i64 ((m : Int) + 2), .slice (some ⟨hi, 0, none⟩) ((n + 2) * (m + 2)) D])
  have HB7 := Lib.hid (HB6.out.trans ((below_new w6 (.cells #[.int .i64 5, .string ⟨#[]⟩, .string ⟨#[]⟩, .string ⟨#[]⟩, .bool false, .int .i64 0, .int .i64 ((n : Int) + 2), .int .i64 ((m : Int) + 2), .slice (some ⟨hi, 0, none⟩) ((n + 2) * (m + 2)) D] 27)).mono HB6.out.size))
  have HR7 := Lib.hid (HR6.out.below (below_new w6 (.cells #[.int .i64 5, .string ⟨#[]⟩, .string ⟨#[]⟩, .string ⟨#[]⟩, .bool false, .int .i64 0, .int .i64 ((n : Int) + 2), .int .i64 ((m : Int) + 2), .slice (some ⟨hi, 0, none⟩) ((n + 2) * (m + 2)) D] 27)))
  have HRY7 := Lib.hid (HRY.out.below (below_new w6 (.cells #[.int .i64 5, .string ⟨#[]⟩, .string ⟨#[]⟩, .string ⟨#[]⟩, .bool false, .int .i64 0, .int .i64 ((n : Int) + 2), .int .i64 ((m : Int) + 2), .slice (some ⟨hi, 0, none⟩) ((n + 2) * (m + 2)) D] 27)))
  clear HL6 HB6 HR6 HRY
  rw [← hY]
  revert HL7 HB7 HR7 HRY7
  generalize w6.alloc (.cells #[.int .i64 5, .string ⟨#[]⟩, .string ⟨#[]⟩, .string ⟨#[]⟩, .bool false, .int .i64 0, .int .i64 ((n : Int) + 2), .int .i64 ((m : Int) + 2), .slice (some ⟨hi, 0, none⟩) ((n + 2) * (m + 2)) D] 27) = W7
  intro HL7 HB7 HR7 HRY7
  clear hY
  go_cut [15, 16] (fun u15 u16 wx => ∃ (TB g1 c1 g2 c2 : Nat) (A3 : Option Addr) (c3 : Nat) (A4 : Option Addr) (c4 : Nat) (A5 : Option Addr) (c5 : Nat), u15 = .pointer (some ⟨TB, 0, none⟩) ∧ u16 = .int .i64 0 ∧ Hid (Loc w ((TB, 33, #[.slice (some ⟨g1, 0, none⟩) n c1, .slice (some ⟨g2, 0, none⟩) m c2, .slice A3 (n * m) c3, .slice A4 n c4, .slice A5 m c5, .int .i64 (resV nmR how RL).k, .string (resV nmR how RL).num, .string (resV nmR how RL).den, .string (resV nmR how RL).text, .bool (resV nmR how RL).on, .int .i64 (resV nmR how RL).code, .int .i64 (resV nmR how RL).rows, .int .i64 (resV nmR how RL).cols, .slice (resV nmR how RL).A (resV nmR how RL).n (resV nmR how RL).c]) :: [(Y, 27, #[.int .i64 5, .string ⟨#[]⟩, .string ⟨#[]⟩, .string ⟨#[]⟩, .bool false, .int .i64 0, .int .i64 ((n : Int) + 2), .int .i64 ((m : Int) + 2), .slice (some ⟨hi, 0, none⟩) ((n + 2) * (m + 2)) D]), (X, 27, #[.int .i64 5, .string ⟨#[]⟩, .string ⟨#[]⟩, .string ⟨#[]⟩, .bool false, .int .i64 0, .int .i64 ((n : Int) + 2), .int .i64 ((m : Int) + 2), .slice (some ⟨gi, 0, none⟩) ((n + 2) * (m + 2)) C]), (wr.heap.size + 1 + 1, 30, #[.slice (some ⟨wr.heap.size, 0, none⟩) 1 1, .slice (some ⟨wr.heap.size + 1, 0, none⟩) 1 1, .int .i64 2, .int .i64 how]), (wr.heap.size + 1, 3, #[.int .i64 0]), (wr.heap.size, 3, #[.int .i64 1]), (V, 27, #[.int .i64 5, .string ⟨#[]⟩, .string ⟨#[]⟩, .string ⟨#[]⟩, .bool false, .int .i64 0, .int .i64 ((R : Int) + 1), .int .i64 3, .slice (some ⟨gv, 0, none⟩) ((R + 1) * 3) cv]), (Y0, 27, #[.int .i64 5, .string ⟨#[]⟩, .string ⟨#[]⟩, .string ⟨#[]⟩, .bool false, .int .i64 0, .int .i64 ((R : Int) + 1), .int .i64 3, .slice (some ⟨gw, 0, none⟩) ((R + 1) * 3) cw])]) wx) ∧ Hid (Below W7.heap.size W7 wx) ∧ Hid (KT wx (.slice (some ⟨g1, 0, none⟩) n c1) K1) ∧ Hid (Reads 9 csV wx (.slice A4 n c4) ((List.range n).map (rowV (resV nmR how) RL))))
  case first =>
    have HP7 := Lib.hid (HL7.out.perm (L' := [(wr.heap.size + 1 + 1, 30, #[.slice (some ⟨wr.heap.size, 0, none⟩) 1 1, .slice (some ⟨wr.heap.size + 1, 0, none⟩) 1 1, .int .i64 2, .int .i64 how]), (wr.heap.size + 1, 3, #[.int .i64 0]), (wr.heap.size, 3, #[.int .i64 1]), (V, 27, #[.int .i64 5, .string ⟨#[]⟩, .string ⟨#[]⟩, .string ⟨#[]⟩, .bool false, .int .i64 0, .int .i64 ((R : Int) + 1), .int .i64 3, .slice (some ⟨gv, 0, none⟩) ((R + 1) * 3) cv]), (Y0, 27, #[.int .i64 5, .string ⟨#[]⟩, .string ⟨#[]⟩, .string ⟨#[]⟩, .bool false, .int .i64 0, .int .i64 ((R : Int) + 1), .int .i64 3, .slice (some ⟨gw, 0, none⟩) ((R + 1) * 3) cw])]) fun x hx => List.mem_cons_of_mem _ (List.mem_cons_of_mem _ hx))
    obtain ⟨⟨k0, k1, k2, k3, k4, k5, k6, k7, k8⟩, -, p0, p1, p2, p3⟩ := HCL.out _ HP7.out
    go_wp2_with (go_at_call 6; (with_reducible refine (HCM.out _ HP7.out HB7.out).mono ?_); rintro e w8 ⟨g1, c1, g2, c2, A3, c3, A4, c4, A5, c5, rfl, hk1, hk2, hr3, hr4, hr5, hb⟩; have HK1 := Lib.hid hk1; have HR4 := Lib.hid hr4; have HL8 := Lib.hid (HL7.out.step hb); have HB8 := Lib.hid hb; clear hk1 hk2 hr3 hr4 hr5 hb k0 k1 k2 k3 k4 k5 k6 k7 k8 p0 p1 p2 p3)
    go_meet
    exact ⟨_, g1, c1, g2, c2, A3, c3, A4, c4, A5, c5, rfl, rfl, Lib.hid (HL8.out.alloc' rfl _ _), Lib.hid (HB8.out.trans ((below_new _ _).mono HB8.out.size)), Lib.hid (HK1.out.later (below_new _ _)), Lib.hid (HR4.out.below (below_new _ _))⟩
  case rest =>
    obtain ⟨TB, g1, c1, g2, c2, A3, c3, A4, c4, A5, c5, rfl, rfl, HL9, HB9, HK9, HR9⟩ := hcut
    obtain ⟨hn, hm, hK1, hK2⟩ := HQ.out
    have bn : n ≤ 14 := by rw [hn, hK1]; have := keysP_len (colL (usA Z R) 1 R); rw [colL_len] at this; omega
    have bm : m ≤ 14 := by rw [hm, hK2]; have := keysP_len (colL (usA Z R) 0 R); rw [colL_len] at this; omega
    have HY9 := Lib.hid (HL9.out.blk (g := Y) (t := 27) (List.mem_cons_of_mem _ (List.mem_cons_self ..)))
    have HO := Lib.hid (oe_of (K2 := K2) (t := resV nmR how RL) rfl bn bm hn hm (by rw [hK1]; exact keysA_n Z R 1 (by decide)) (by rw [hK2]; exact keysA_n Z R 0 (by decide)) (HL9.out.perm fun x hx => by
      simp only [List.mem_cons, List.not_mem_nil, or_false] at hx
      rcases hx with rfl | rfl
      · exact List.mem_cons_self ..
      · exact List.mem_cons_of_mem _ (List.mem_cons_of_mem _ (List.mem_cons_self ..))) (HR7.out.below HB9.out) HK9.out HR9.out)
    go_step
    exact ord18 HO HY9 (Lib.hid (HRY7.out.below HB9.out))
end Go.Proofs.YtmapagbmihpbmaaGreatDoor

namespace Go.Proofs.YtmapagbmihpbmaaGreatDoor
open Go.RowKit

noncomputable def orest8 : Code := ((Tryz.f4.body.bind (contAt 8)).getD .skip)
set_option maxRecDepth 100000 in
set_option maxHeartbeats 40000000 in
theorem ord8 {u0 u2 u3 u4 u6 u7 u8 u9 u10 u11 u12 u13 u14 u15 u16 u17 u18 u19 u20 u21 u22 u23 u24 u25 u26 u27 u28 u29 u30 u31 u32 u33 u34 u35 u36 u37 u38 u39 u40 u41 u42 u43 u44 u45 u46 u47 u48 u49 u50 u51 u52 u53 u54 u55 u56 u57 u58 u59 u60 u61 u62 u63 u64 u65 u66 u67 u68 u69 u70 u71 u72 u73 u74 u75 u76 u77 u78 u79 u80 u81 u82 u83 u84 u85 u86 u87 u88 u89 u90 u91 u92 u93 u94 u95 u96 u97 u98 u99 u100 u101 u102 u103 u104 u105 u106 u107 u108 u109 u110 u111 u112 u113 u114 u115 u116 u117 u118 u119 u120 u121 u122 u123 u124 u125 u126 u127 u128 u129 u130 u131 u132 u133 u134 u135 u136 u137 u138 u139 u140 u141 u142 u143 u144 u145 u146 u147 u148 u149 u150 u151 u152 u153 u154 u155 u156 u157 u158 u159 u160 u161 u162 u163 u164 u165 u166 u167 u168 u169 u170 u171 u172 u173 u174 u175 u176 u177 u178 u179 u180 u181 u182 u183 u184 u185 u186 u187 u188 u189 u190 : Value} {w w0 : World} {hw : Int} {Z : List Int} {R V gv cv : Nat} (r1 : 1 ≤ R) (r2 : R ≤ 14) (hhw : -9223372036854775808 ≤ hw ∧ hw ≤ 9223372036854775807) (HE : Hid (VEnv w)) (HL : Hid (Loc w [(V, 27, #[.int .i64 5, .string ⟨#[]⟩, .string ⟨#[]⟩, .string ⟨#[]⟩, .bool false, .int .i64 0, .int .i64 ((R : Int) + 1), .int .i64 3, .slice (some ⟨gv, 0, none⟩) ((R + 1) * 3) cv])] w0)) (HA : Hid (Reads 9 csV w0 (.slice (some ⟨gv, 0, none⟩) ((R + 1) * 3) cv) (usA Z R))) (hcv : (R + 1) * 3 ≤ cv) :
    Code.wp Tryz.prog orest8 (bodyPost Tryz.prog Tryz.f4 fun e w' => e = .returned (.bool true) ∧ Below w.heap.size w w') ⟨#[u0, .int .i64 hw, u2, u3, u4, .pointer (some ⟨V, 0, none⟩), u6, u7, u8, u9, u10, u11, u12, u13, u14, u15, u16, u17, u18, u19, u20, u21, u22, u23, u24, u25, u26, u27, u28, u29, u30, u31, u32, u33, u34, u35, u36, u37, u38, u39, u40, u41, u42, u43, u44, u45, u46, u47, u48, u49, u50, u51, u52, u53, u54, u55, u56, u57, u58, u59, u60, u61, u62, u63, u64, u65, u66, u67, u68, u69, u70, u71, u72, u73, u74, u75, u76, u77, u78, u79, u80, u81, u82, u83, u84, u85, u86, u87, u88, u89, u90, u91, u92, u93, u94, u95, u96, u97, u98, u99, u100, u101, u102, u103, u104, u105, u106, u107, u108, u109, u110, u111, u112, u113, u114, u115, u116, u117, u118, u119, u120, u121, u122, u123, u124, u125, u126, u127, u128, u129, u130, u131, u132, u133, u134, u135, u136, u137, u138, u139, u140, u141, u142, u143, u144, u145, u146, u147, u148, u149, u150, u151, u152, u153, u154, u155, u156, u157, u158, u159, u160, u161, u162, u163, u164, u165, u166, u167, u168, u169, u170, u171, u172, u173, u174, u175, u176, u177, u178, u179, u180, u181, u182, u183, u184, u185, u186, u187, u188, u189, u190], []⟩ w0 := by
  conv => arg 2; whnf
  conv => arg 4; zeta
  obtain ⟨k0, k1, k2, k3, k4, k5, k6, k7, k8⟩ := (HL.out.blk (g := V) (t := 27) (List.mem_cons_self ..)).nine
  go_upto_region 9 with fail
  have HL1 := Lib.hid (HL.out.alloc' (g := w0.heap.size) rfl 27 #[.int .i64 5, .string ⟨#[]⟩, .string ⟨#[]⟩, .string ⟨#[]⟩, .bool false, .int .i64 0, .int .i64 ((R : Int) + 1), .int .i64 3, .slice (some ⟨gv, 0, none⟩) ((R + 1) * 3) cv])
  have HB1 := Lib.hid (below_new w0 (.cells #[.int .i64 5, .string ⟨#[]⟩, .string ⟨#[]⟩, .string ⟨#[]⟩, .bool false, .int .i64 0, .int .i64 ((R : Int) + 1), .int .i64 3, .slice (some ⟨gv, 0, none⟩) ((R + 1) * 3) cv] 27))
  have HA1 := Lib.hid (HA.out.below HB1.out)
  obtain ⟨Y0, hY0⟩ : ∃ Y, Y = w0.heap.size := ⟨_, rfl⟩
  rw [← hY0] at HL1
  rw [← hY0]
  clear k0 k1 k2 k3 k4 k5 k6 k7 k8
  revert HB1 HA1 HL1
  generalize w0.alloc (.cells #[.int .i64 5, .string ⟨#[]⟩, .string ⟨#[]⟩, .string ⟨#[]⟩, .bool false, .int .i64 0, .int .i64 ((R : Int) + 1), .int .i64 3, .slice (some ⟨gv, 0, none⟩) ((R + 1) * 3) cv] 27) = W1
  intro HB1 HA1 HL1
  have hY := (show w0.heap.size ≤ Y0 from by rw [hY0]; exact Nat.le_refl _)
  have HYb := Lib.hid hY
  clear hY hY0
  have k8 : W1.cell? ⟨V, 8, none⟩ = some (.slice (some ⟨gv, 0, none⟩) ((R + 1) * 3) cv) := (HL1.out.blk (g := V) (t := 27) (List.mem_cons_of_mem _ (List.mem_cons_self ..))).cell 8
  have HCV := Lib.hid (cloneV_any gv 0 3 cv (rowA Z 0) W1 (by
    have := reads_sub HA1.out (by omega) 0 3 cv (by omega) (by omega)
    have e := usA_row Z R 0 (by omega)
    rw [Nat.mul_zero] at e
    rw [e] at this
    exact this) (by decide) (by decide))
  go_upto_region 10 with (go_at_call 11; (with_reducible refine HCV.out.mono ?_); rintro e w2 ⟨v', rfl, ho, hb⟩; obtain ⟨g, cg, rfl, hg1, -⟩ := ho.form (show 0 < (rowA Z 0).length by show 0 < 3; decide); have HO2 := Lib.hid ho; have HB2 := Lib.hid hb; have HL2 := Lib.hid (HL1.out.step hb); have y8 : w2.cell? ⟨Y0, 8, none⟩ = some (.slice (some ⟨gv, 0, none⟩) ((R + 1) * 3) cv) := (HL2.out.blk (g := Y0) (t := 27) (List.mem_cons_self ..)).cell 8; have f8 := (HL2.out.blk (g := Y0) (t := 27) (List.mem_cons_self ..)).frozen 8; clear ho hb)
  have hyl := HL1.out.lt (g := Y0) (t := 27) (List.mem_cons_self ..)
  have hne : Y0 ≠ g := by omega
  have hvy : V ≠ Y0 := by
    have := HL.out.lt (g := V) (t := 27) (List.mem_cons_self ..)
    have := HYb.out
    omega
  have hv1 := HL1.out.lt (g := V) (t := 27) (List.mem_cons_of_mem _ (List.mem_cons_self ..))
  have HL3 := Lib.hid (HL2.out.set1 (i := 8) (fun x hx => by
    simp only [List.mem_cons, List.not_mem_nil, or_false] at hx
    subst hx
    exact hvy) (.slice (some ⟨g, 0, none⟩) (rowA Z 0).length cg))
  have HO3 := Lib.hid (HO2.out.far (p := ⟨Y0, 8, none⟩) (fun g' hg' => by
    injection hg' with hg'
    subst hg'
    exact fun e => hne e.symm) (.slice (some ⟨g, 0, none⟩) (rowA Z 0).length cg))
  have HB3 := Lib.hid ((HB1.out.trans (HB2.out.mono HB1.out.size)).setCell (p := ⟨Y0, 8, none⟩) (by exact HYb.out) (.slice (some ⟨g, 0, none⟩) (rowA Z 0).length cg))
  clear HL1 HL2 HB1 HB2 HO2 HA1 HCV y8 f8 k8
  revert HL3 HO3 HB3
  generalize w2.setCell ⟨Y0, 8, none⟩ (.slice (some ⟨g, 0, none⟩) (rowA Z 0).length cg) = W3
  intro HL3 HO3 HB3
  have k5 : W3.cell? ⟨V, 5, none⟩ = some (.int .i64 0) := (HL3.out.blk (g := V) (t := 27) (List.mem_cons_of_mem _ (List.mem_cons_self ..))).cell 5
  have k6 : W3.cell? ⟨V, 6, none⟩ = some (.int .i64 ((R : Int) + 1)) := (HL3.out.blk (g := V) (t := 27) (List.mem_cons_of_mem _ (List.mem_cons_self ..))).cell 6
  go_upto_block 2 with fail
  clear k5 k6
  go_cut [9] (fun u9 wx => ∃ (g cg : Nat), Hid (Loc w [(Y0, 27, #[.int .i64 5, .string ⟨#[]⟩, .string ⟨#[]⟩, .string ⟨#[]⟩, .bool false, .int .i64 0, .int .i64 ((R : Int) + 1), .int .i64 3, .slice (some ⟨g, 0, none⟩) ((R + 1) * 3) cg]), (V, 27, #[.int .i64 5, .string ⟨#[]⟩, .string ⟨#[]⟩, .string ⟨#[]⟩, .bool false, .int .i64 0, .int .i64 ((R : Int) + 1), .int .i64 3, .slice (some ⟨gv, 0, none⟩) ((R + 1) * 3) cv])] wx) ∧ Hid (Reads 9 csV wx (.slice (some ⟨g, 0, none⟩) ((R + 1) * 3) cg) (usB Z R)) ∧ Hid (Below w0.heap.size w0 wx))
  case first =>
    go_wp2_with fail
    go_loopw [9] (fun u9 wx => ∃ (j g cg : Nat), j ≤ R ∧ u9 = .int .i64 ((R - j : Nat) : Int) ∧ Hid (Loc w [(Y0, 27, #[.int .i64 5, .string ⟨#[]⟩, .string ⟨#[]⟩, .string ⟨#[]⟩, .bool false, .int .i64 0, .int .i64 ((R : Int) + 1), .int .i64 3, .slice (some ⟨g, 0, none⟩) (preB Z R j).length cg]), (V, 27, #[.int .i64 5, .string ⟨#[]⟩, .string ⟨#[]⟩, .string ⟨#[]⟩, .bool false, .int .i64 0, .int .i64 ((R : Int) + 1), .int .i64 3, .slice (some ⟨gv, 0, none⟩) ((R + 1) * 3) cv])] wx) ∧ Hid (RowOf 27 9 csV wx W1.heap.size (.slice (some ⟨g, 0, none⟩) (preB Z R j).length cg) (preB Z R j)) ∧ Hid (Below w0.heap.size w0 wx)) (fun u _ => (intOf u).toNat)
    case atStart => exact ⟨0, g, cg, by omega, rfl, HL3, HO3, HB3⟩
    case round =>
      clear HL3 HO3 HB3
      obtain ⟨j, g', cg', hj, rfl, HL, HO, HB⟩ := hrel
      by_cases hlt : j < R
      · obtain ⟨i, hi⟩ : ∃ i, i = R - j := ⟨_, rfl⟩
        have hi1 : 1 ≤ i := by omega
        have hi2 : i ≤ R := by omega
        rw [← hi]
        have y8 : wr.cell? ⟨Y0, 8, none⟩ = some (.slice (some ⟨g', 0, none⟩) (preB Z R j).length cg') := (HL.out.blk (g := Y0) (t := 27) (List.mem_cons_self ..)).cell 8
        have k8 : wr.cell? ⟨V, 8, none⟩ = some (.slice (some ⟨gv, 0, none⟩) ((R + 1) * 3) cv) := (HL.out.blk (g := V) (t := 27) (List.mem_cons_of_mem _ (List.mem_cons_self ..))).cell 8
        have z1 : IntKind.i64.wrap (3 * (i : Int)) = 3 * (i : Int) := IntWalk.i64_in _ (by omega)
        have z2 : IntKind.i64.wrap (3 * (i : Int) + 3) = 3 * (i : Int) + 3 := IntWalk.i64_in _ (by omega)
        have HRA := Lib.hid (show ∀ c, 3 ≤ c → Reads 9 csV wr.drew (.slice (some ⟨gv, 3 * i * 9, none⟩) 3 c) (rowA Z i) from fun c hc => by
          have := reads_sub (HA.out.below HB.out) (by omega) (3 * i) 3 c (by omega) hc
          rw [usA_row Z R i hi2, Nat.zero_add] at this
          exact this)
        have HST := Lib.hid (show ∀ W v, RowOf 27 9 csV W W1.heap.size v (preB Z R (j + 1)) → Below W1.heap.size wr.drew W → (W.cell? ⟨Y0, 8, none⟩ = some (.slice (some ⟨g', 0, none⟩) (preB Z R j).length cg') ∧ W.frozen? ⟨Y0, 8, none⟩ = false) ∧ Loc w [(Y0, 27, #[.int .i64 5, .string ⟨#[]⟩, .string ⟨#[]⟩, .string ⟨#[]⟩, .bool false, .int .i64 0, .int .i64 ((R : Int) + 1), .int .i64 3, v]), (V, 27, #[.int .i64 5, .string ⟨#[]⟩, .string ⟨#[]⟩, .string ⟨#[]⟩, .bool false, .int .i64 0, .int .i64 ((R : Int) + 1), .int .i64 3, .slice (some ⟨gv, 0, none⟩) ((R + 1) * 3) cv])] (W.setCell ⟨Y0, 8, none⟩ v) ∧ RowOf 27 9 csV (W.setCell ⟨Y0, 8, none⟩ v) W1.heap.size v (preB Z R (j + 1)) ∧ Below w0.heap.size w0 (W.setCell ⟨Y0, 8, none⟩ v) from fun W v ho hb => by
          have hb := (Below.refl W1.heap.size wr).drew.trans hb
          have hwb := HL.out.bel.size
          have hl2 := HL.out.stepB' hb (by have := (HL.out.2 _ (List.mem_cons_self ..)).1; dsimp only at this; omega) (fun x hx => by
            simp only [List.mem_cons, List.not_mem_nil, or_false] at hx
            rcases hx with rfl | rfl
            · exact hyl
            · exact hv1)
          have hz := hl2.blk (g := Y0) (t := 27) (List.mem_cons_self ..)
          refine ⟨⟨hz.cell 8, hz.frozen 8⟩, hl2.set1 (i := 8) (fun x hx => ?_) v, RowOf.far ho (fun k hk e => ?_) v, ?_⟩
          · simp only [List.mem_cons, List.not_mem_nil, or_false] at hx
            subst hx
            exact hvy
          · have h1 := (RowOf.lt ho k hk).1
            have e : k = Y0 := e
            omega
          · exact (HB.out.trans (hb.mono (by have := HYb.out; omega))).setCell (p := ⟨Y0, 8, none⟩) (by exact HYb.out) v)
        have HPL := Lib.hid (And.intro (show preB Z R (j + 1) = preB Z R j ++ rowA Z i from by rw [hi]; exact preB_step Z R j hlt) (And.intro (preB_len Z R j) (preB_len Z R (j + 1))))
        have hpl := preB_len Z R j
        have hsz := (HL.out.bel).size
        have hrl : (rowA Z i).length = 3 := rfl
        have hbs : W1.heap.size ≤ wr.heap.size := by
          have := (HO.out.form (by omega)).choose_spec
          obtain ⟨c, e, h1, h2⟩ := this
          omega
        have HI := Lib.hid hi
        clear hi hpl hrl
        have q1 : (3 * (i : Int)).toNat = 3 * i := by omega
        have q2 : (3 * (i : Int) + 3).toNat = 3 * i + 3 := by omega
        have q3 : ¬ cv = 3 * i := by omega
        have q4 : 3 * (i : Int) + 3 ≤ (cv : Int) := by omega
        have q5 : 3 * (i : Int) ≤ max (3 * (i : Int) + 3) 0 := by omega
        have q7 : 0 ≤ 3 * (i : Int) := by omega
        have q8 : 3 * (i : Int) ≤ 3 * (i : Int) + 3 := by omega
        have q6 : 0 ≤ 3 * (i : Int) + 3 := by omega
        go_upto_region 13 with fail
        go_region_law (refine step_rowN 25 27 9 112 csV _ Tryz.underlying25 val_info rfl (by decide) csV_one rfl (.tmp 59) (.tmp 67) rfl W1.heap.size (.slice (some ⟨g', 0, none⟩) (preB Z R j).length cg') (preB Z R j) rfl (RowOf.drew HO.out) (rowA Z i) gv (3 * i * 9) (cv - 3 * i) rfl (HRA.out _ (by omega)) (show 0 < 3 by decide) (by have := HPL.out.2.1; have : (rowA Z i).length = 3 := rfl; omega) (by have := HPL.out.2.1; have : (rowA Z i).length = 3 := rfl; unfold maxLen; omega) hbs ?_; intro g2 cap w3 ho hb hgrown; have HX := Lib.hid (HST.out w3 _ (by rw [HPL.out.1]; exact ho) hb); have s8 := HX.out.1.1; have t8 := HX.out.1.2; clear ho hb hgrown)
        all_goals
          clear s8 t8
          go_wp2_with fail
          go_roundw
          case rel =>
            have he : (preB Z R j).length + (rowA Z i).length = (preB Z R (j + 1)).length := by rw [HPL.out.1, List.length_append]
            rw [he] at HX ⊢
            exact ⟨j + 1, g2, cap, by omega, by have := HI.out; go_num, Lib.hid HX.out.2.1, Lib.hid HX.out.2.2.1, Lib.hid HX.out.2.2.2⟩
          case measure => have := HI.out; simp [intOf]; omega
      · obtain rfl : j = R := by omega
        have z0 : ((j - j : Nat) : Int) = 0 := by omega
        rw [z0]
        clear z0
        have HRE := Lib.hid (HO.out.reads csV_len)
        rw [preB_all, usB_len] at HRE
        rw [preB_len, show 3 + j * 3 = (j + 1) * 3 by omega] at HL
        go_wp2_with fail
        go_meet
        exact ⟨g', cg', HL, HRE, HB⟩
  case rest =>
    obtain ⟨g', cg', HL9, HR9, HB9⟩ := hcut
    go_step
    exact ord14 (gv := gv) (cv := cv) (gw := g') (cw := cg') r1 r2 hhw HE (Lib.hid (HL9.out.perm fun x hx => by
      simp only [List.mem_cons, List.not_mem_nil, or_false] at hx
      rcases hx with rfl | rfl
      · exact List.mem_cons_of_mem _ (List.mem_cons_self ..)
      · exact List.mem_cons_self ..)) (Lib.hid (HA.out.below HB9.out)) HR9
end Go.Proofs.YtmapagbmihpbmaaGreatDoor
