/- pivot.Check. -/
import Derived.Test.YtmapagbmihpbmaaGreatDoorPvK
import Derived.Test.YtmapagbmihpbmaaGreatDoorGw
import Derived.Test.YtmapagbmihpbmaaGreatDoorGo
import Derived.ArgAppend
import Derived.Deep.DeepAppendRoom
import Derived.Test.YtmapagbmihpbmaaGreatDoorGt
set_option linter.unusedSimpArgs false
set_option linter.unusedVariables false
namespace Go.Proofs.YtmapagbmihpbmaaGreatDoor
open Go.RowKit

section
variable {ops : Array Oper} {rest : List Oper} {o : Oper} {a : Act} {Q : Exit → Act → World → Prop}
set_option maxRecDepth 100000 in
/-- append of one number; what the old slice reads. -/
theorem wp_app3 {w : World} (hgd : o.guard = none) (s x : Operand) (ho : o.op = .call { callee := .builtin .append, args := #[s, x], argTypes := #[22, 22] })
    (base g n c : Nat) (l : List Nat) (hs : a.eval s = .slice (some ⟨g, 0, none⟩) n c) (hown : R1 3 .i64 w base (.slice (some ⟨g, 0, none⟩) n c) l) (hn : l.length = n) (y : Int) (d : Nat) (hy : y = (d : Int)) (hx : a.eval x = .slice (some ⟨w.heap.size, 0, none⟩) 1 1)
    (hlen : l.length + 1 ≤ 1099511627776) (hbase : base ≤ w.heap.size)
    (h : ∀ v' w', R1 3 .i64 w' base v' (l ++ [d]) → Below base w w' → (∀ i (hi : i < l.length), w'.cell? ⟨g, i, none⟩ = some (.int .i64 (l[i] : Int))) → wpList Tryz.prog ops Q rest (a.put o.dst v') w') :
    wpList Tryz.prog ops Q (o :: rest) a (w.alloc (.cells #[.int .i64 y] 3)) := by
  subst hy hn
  obtain ⟨i0, hi, hz0, hz1, hz2⟩ := info_parts int_info
  have hown' := hown.alloc (.cells #[.int .i64 (d : Int)] 3)
  by_cases hroom : l.length + 1 ≤ c
  · refine wpList_append_own_spare _ hgd s x 22 ho base 3 i0 1 Tryz.underlying22 hi hz1 g l.length c _ hs hown' ⟨w.heap.size, 0, none⟩ 1 1 [.int .i64 (d : Int)] hx rfl (cell_one_new _ _ _) (by simp [Value.oneCell']) hroom ?_
    intro w' h1 h2
    have hr : R1 3 .i64 w' base (.slice (some ⟨g, 0, none⟩) (l.length + 1) c) (l ++ [d]) := by
      unfold R1
      rw [List.map_append, List.length_append]
      exact h1
    refine h _ w' hr (((Below.refl _ _).alloc hbase _).grown h2 (by simp; omega) (fun k hk => by injection hk with hk; subst hk; exact (hown.lt g rfl).1)) fun i hi => ?_
    have := hr.cell (by simp) (i := i) (by simp; omega)
    rw [this, List.getElem_append_left hi]
  · refine wpList_append_grows _ hgd s x 22 ho 3 i0 (.int .i64 0) 1 8 Tryz.underlying22 hi hz0 hz1 hz2 rfl (by decide) (some ⟨g, 0, none⟩) l.length c (l.map fun (x : Nat) => Value.int .i64 (x : Int)) hs (fun e => by cases e) (by simp) (fun b hb j u hj => by
      injection hb with hb
      subst hb
      exact hown'.nums rfl j u hj) ⟨w.heap.size, 0, none⟩ 1 1 [.int .i64 (d : Int)] hx rfl (cell_one_new _ _ _) (by simp [Value.oneCell']) (by omega) (by unfold maxLen; omega) (by omega) ?_
    intro v' w' h1 h2
    have hr : R1 3 .i64 w' (w.alloc (.cells #[.int .i64 (d : Int)] 3)).heap.size v' (l ++ [d]) := by
      unfold R1
      rw [List.map_append, List.length_append]
      exact h1
    refine h _ w' (hr.mono (by simp; omega)) (((Below.refl _ _).alloc hbase _).grown h2 (by simp; omega) (fun k hk => by cases hk)) fun i hi => ?_
    have h3 := hown'.cell rfl hi
    rw [← h3]
    exact World.cell?_of_block (h2.block g (hown'.lt g rfl).2 (by simp))
end
/-- The question's slices lie in blocks of their own. -/
structure AskB (W : World) (a : Ask) : Prop where
  br : Blk W a.rb 3 #[.int .i64 (a.cr : Int)]
  bc : Blk W a.cb 3 #[.int .i64 (a.cl : Int)]
  r0 : a.ro = 0
  c0 : a.co = 0
  r1 : a.rc = 1
  c1 : a.cc = 1
  r3 : a.cr < 3
  c3 : a.cl < 3
theorem AskB.at_ {W : World} {a : Ask} (h : AskB W a) : AskAt W a := ⟨by rw [h.r0]; exact h.br.cell 0, by rw [h.c0]; exact h.bc.cell 0, h.r3, h.c3⟩
theorem AskB.below {w W : World} {a : Ask} (h : AskB w a) (hb : Below w.heap.size w W) : AskB W a := ⟨h.br.later hb, h.bc.later hb, h.r0, h.c0, h.r1, h.c1, h.r3, h.c3⟩
theorem r1_blk {W : World} {g d : Nat} (h : Blk W g 3 #[.int .i64 (d : Int)]) : R1 3 .i64 W g (.slice (some ⟨g, 0, none⟩) 1 1) [d] :=
  ⟨rfl, .inr ⟨g, 1, _, rfl, Nat.le_refl _, h, Nat.le_refl _, by decide, rfl, rfl⟩⟩
theorem r1_cap {W : World} {b g n c : Nat} {l : List Nat} (h : R1 3 .i64 W b (.slice (some ⟨g, 0, none⟩) n c) l) : l.length ≤ c := by
  rcases h.2 with ⟨h0, _⟩ | ⟨g1, cap, cur, e, _, _, h3, _⟩
  · cases h0
  · injection e with _ _ e
    omega
set_option maxRecDepth 100000 in
set_option maxHeartbeats 8000000 in
theorem pcheck_ok (v : Vl) (us : List Vl) (R : Nat) (a : Ask) (w : World) (he : VEnv w) (hs : Src w v us R) (h5 : v.k = 5) (hz : v.zB = true) (ha : AskB w a) (hne : a.cr ≠ a.cl) (hh : 0 ≤ a.how ∧ a.how ≤ 4) :
    Calls Tryz.prog 17 #[v.v, a.v] w fun e w' => e = .returned (.int .i64 0) ∧ Below w.heap.size w w' := by
  have r1 := hs.r1
  have r2 := hs.r2
  have hga : GoodArr v us := ⟨hs.n.symm, fun u hu => (hs.ok u hu).2, fun u hu => (hs.ok u hu).1, by rw [hs.rows]; omega, by rw [hs.rows]; omega, by rw [hs.cols]; decide, by rw [hs.cols]; decide, by rw [hs.rows, hs.cols]; omega, by rw [hs.rows, hs.cols, hs.len]; push_cast; omega⟩
  have HV := Lib.hid fun W (hW : Below w.heap.size w W) => check_ok v W (he.below hW) us h5 hz hga (hs.rd.below hW)
  have hrows := hs.rows
  have hcols := hs.cols
  have HAB := Lib.hid ha
  obtain ⟨k, num, den, text, on, code, rows, cols, A, n, c⟩ := v
  obtain ⟨rb, ro, rc, cb, co, cc, cr, cl, how⟩ := a
  obtain ⟨br, bc, rfl, rfl, rfl, rfl, r3, c3⟩ := ha
  dsimp only at h5 hrows hcols br bc r3 c3 hne hh
  subst h5 hrows hcols
  have HV := Lib.hid (show ∀ W, Below w.heap.size w W → Calls Tryz.prog 34 #[.agg #[.int .i64 5, .string num, .string den, .string text, .bool on, .int .i64 code, .int .i64 ((R : Int) + 1), .int .i64 3, .slice A n c]] W fun e w' => e = .returned (.int .i64 0) ∧ Below W.heap.size W w' from HV.out)
  have HBR := Lib.hid br
  have HBC := Lib.hid bc
  obtain ⟨hh1, hh2⟩ := hh
  have HNE := Lib.hid hne
  clear hs he hz hga br bc hne
  have HL0 := Lib.hid (((Loc.start w).alloc' rfl 27 #[.int .i64 5, .string num, .string den, .string text, .bool on, .int .i64 code, .int .i64 ((R : Int) + 1), .int .i64 3, .slice A n c]).alloc' (g := w.heap.size + 1) (by simp) 30 #[.slice (some ⟨rb, 0, none⟩) 1 1, .slice (some ⟨cb, 0, none⟩) 1 1, .int .i64 2, .int .i64 how])
  have HLB := Lib.hid (show ∀ W, Loc w [(w.heap.size + 1, 30, #[.slice (some ⟨rb, 0, none⟩) 1 1, .slice (some ⟨cb, 0, none⟩) 1 1, .int .i64 2, .int .i64 how]), (w.heap.size, 27, #[.int .i64 5, .string num, .string den, .string text, .bool on, .int .i64 code, .int .i64 ((R : Int) + 1), .int .i64 3, .slice A n c])] W → ((W.cell? ⟨w.heap.size, 0, none⟩ = some (.int .i64 5) ∧ W.cell? ⟨w.heap.size, 6, none⟩ = some (.int .i64 ((R : Int) + 1)) ∧ W.cell? ⟨w.heap.size, 7, none⟩ = some (.int .i64 3)) ∧ W.cell? ⟨w.heap.size + 1, 0, none⟩ = some (.slice (some ⟨rb, 0, none⟩) 1 1) ∧ W.cell? ⟨w.heap.size + 1, 1, none⟩ = some (.slice (some ⟨cb, 0, none⟩) 1 1) ∧ W.cell? ⟨w.heap.size + 1, 2, none⟩ = some (.int .i64 2) ∧ W.cell? ⟨w.heap.size + 1, 3, none⟩ = some (.int .i64 how)) from fun W h => by
    have h1 := h.blk (g := w.heap.size + 1) (t := 30) (List.mem_cons_self ..)
    have h2 := h.blk (g := w.heap.size) (t := 27) (List.mem_cons_of_mem _ (List.mem_cons_self ..))
    exact ⟨⟨h2.cell 0, h2.cell 6, h2.cell 7⟩, h1.cell 0, h1.cell 1, h1.cell 2, h1.cell 3⟩)
  have HCC := Lib.hid (show ∀ W, Below w.heap.size w W → ∀ gp, W.cell? ⟨gp, 0, none⟩ = some (.slice (some ⟨rb, 0, none⟩) 1 1) → W.cell? ⟨gp, 1, none⟩ = some (.slice (some ⟨cb, 0, none⟩) 1 1) → Calls Tryz.prog 35 #[.slice (some ⟨gp, 0, none⟩) 2 2] W fun e w' => ∃ g c, e = .returned (.slice (some ⟨g, 0, none⟩) 2 c) ∧ R1 3 .i64 w' W.heap.size (.slice (some ⟨g, 0, none⟩) 2 c) [cr, cl] ∧ Below W.heap.size W w' from fun W hW gp q0 q1 => concat_any gp rb 1 rb 1 cb 1 cb 1 [cr] [cl] W q0 q1 (r1_blk (HBR.out.later hW)) (r1_blk (HBC.out.later hW)) rfl rfl (by decide) (by decide) (by decide))
  show Calls Tryz.prog 17 #[.agg #[.int .i64 5, .string num, .string den, .string text, .bool on, .int .i64 code, .int .i64 ((R : Int) + 1), .int .i64 3, .slice A n c], .agg #[.slice (some ⟨rb, 0, none⟩) 1 1, .slice (some ⟨cb, 0, none⟩) 1 1, .int .i64 2, .int .i64 how]] w _
  go_enter Tryz.func17, Tryz.ntmps17
  go_wp2_with (first
    | (go_at_call 34; (with_reducible refine (HV.out _ HL0.out.bel).mono ?_); rintro e w1 ⟨rfl, hb⟩; have HL1 := Lib.hid (HL0.out.step hb); clear hb; have HWX := Lib.hid (show w.heap.size + 2 ≤ (w1.alloc (.cells #[.slice (some ⟨rb, 0, none⟩) 1 1, .slice (some ⟨cb, 0, none⟩) 1 1] 22)).heap.size from by have := HL1.out.lt (g := w.heap.size + 1) (t := 30) (List.mem_cons_self ..); simp; omega); obtain ⟨⟨k0, k6, k7⟩, p0, p1, p2, p3⟩ := HLB.out _ HL1.out)
    | (go_at_call 35; (with_reducible refine (HCC.out _ (HL1.out.alloc0 _).bel _ (by go_simp) (by go_simp)).mono ?_); rintro e w2 ⟨gk, ck, rfl, hr, hb⟩; have HL2 := Lib.hid ((HL1.out.alloc0 _).step hb); have HR2 := Lib.hid (hr.mono HWX.out); have hck : 2 ≤ ck := r1_cap hr; have hcz : (1 : Int) ≤ (ck : Int) := (by omega); clear hb hr k0 k6 k7 p0 p1 p2 p3; obtain ⟨⟨k0, k6, k7⟩, p0, p1, p2, p3⟩ := HLB.out _ HL2.out; have HB2 := Lib.hid (HL2.out.lt (g := w.heap.size + 1) (t := 30) (List.mem_cons_self ..)))
    | (at_builtin; go_loud (refine wp_app3 rfl _ _ rfl (w.heap.size + 2) gk 2 ck [cr, cl] rfl HR2.out rfl 2 2 rfl rfl (by simp) HB2.out ?_); intro v3 w3 hr3 hb3 hk3; have HL3 := Lib.hid (HL2.out.stepB' hb3 (by omega) (fun x hx => by simp only [List.mem_cons, List.not_mem_nil, or_false] at hx; rcases hx with rfl | rfl <;> (dsimp only; omega))); obtain ⟨g3, c3, rfl, -, -⟩ := hr3.form (by simp); have x0 := hr3.cell rfl (i := 0) (by simp); have x1 := hr3.cell rfl (i := 1) (by simp); have x2 := hr3.cell rfl (i := 2) (by simp); have y0 := hk3 0 (by simp); have y1 := hk3 1 (by simp); simp only [List.cons_append, List.nil_append, List.getElem_cons_zero, List.getElem_cons_succ] at x0 x1 x2 y0 y1; clear hr3 hb3 hk3 k0 k6 k7 p0 p1 p2 p3; obtain ⟨⟨k0, k6, k7⟩, p0, p1, p2, p3⟩ := HLB.out _ HL3.out))
  have r3z : (cr : Int) < 3 := by omega
  have c3z : (cl : Int) < 3 := by omega
  have HT0 := Lib.hid (show Calls Tryz.prog 36 #[.slice (some ⟨gk, 0, none⟩) 0 ck, .int .i64 (cr : Int)] w3 fun e w' => e = .returned (.bool false) ∧ w' = w3 from Tryz.slices_Contains_int gk 0 0 ck [] cr w3 (by simp) (by decide) (fun j hj => by simp at hj))
  have HT1 := Lib.hid (show Calls Tryz.prog 36 #[.slice (some ⟨gk, 0, none⟩) 1 ck, .int .i64 (cl : Int)] w3 fun e w' => e = .returned (.bool false) ∧ w' = w3 from by
    have := Tryz.slices_Contains_int gk 0 1 ck [(cr : Int)] cl w3 (by simp) (by decide) (fun j hj => by
      obtain rfl : j = 0 := by simpa using hj
      exact y0)
    rw [show (List.contains (List.take 1 [(cr : Int)]) (cl : Int)) = false by
      have := HNE.out
      simp only [List.take_succ_cons, List.take_zero, List.contains_cons, List.contains_nil, Bool.or_false, beq_eq_false_iff_ne, ne_eq]
      omega] at this
    exact this)
  go_loopw [42] (fun u42 wr => ∃ j : Nat, j ≤ 3 ∧ u42 = .int .i64 j ∧ w3 = wr) (fun u _ => 3 - (intOf u).toNat)
  case atStart => exact ⟨0, by decide, rfl, rfl⟩
  case round =>
    obtain ⟨j, hj, rfl, rfl⟩ := hrel
    rcases (show j = 0 ∨ j = 1 ∨ j = 2 ∨ j = 3 by omega) with rfl | rfl | rfl | rfl
    · go_wp2_with (go_at_call 36; (with_reducible refine HT0.out.mono ?_); rintro e w4 ⟨rfl, rfl⟩)
      go_roundw
      case rel => exact ⟨1, by decide, by go_num, by simp⟩
      case measure => simp [intOf]
    · go_wp2_with (go_at_call 36; (with_reducible refine HT1.out.mono ?_); rintro e w4 ⟨rfl, rfl⟩)
      go_roundw
      case rel => exact ⟨2, by decide, by go_num, by simp⟩
      case measure => simp [intOf]
    · go_wp2_with fail
      go_roundw
      case rel => exact ⟨3, by decide, by go_num, by simp⟩
      case measure => simp [intOf]
    · go_wp2_with fail
      go_ret
      exact ⟨rfl, HL3.out.bel⟩
end Go.Proofs.YtmapagbmihpbmaaGreatDoor

namespace Go.Proofs.YtmapagbmihpbmaaGreatDoor
open Go.RowKit

set_option maxRecDepth 100000 in
set_option maxHeartbeats 16000000 in
theorem source_any (v : Vl) (us : List Vl) (R : Nat) (a : Ask) (i q : Nat) (w : World) (he : VEnv w) (hs : Src w v us R) (h5 : v.k = 5) (hz : v.zB = true) (ha : AskB w a) (hne : a.cr ≠ a.cl) (hh : 0 ≤ a.how ∧ a.how ≤ 4) (hi : i < (keysP (colL us a.cr R)).length) (hq : q < (keysP (colL us a.cl R)).length) :
    Calls Tryz.prog 9 #[v.v, a.v, .int .i64 (i : Int), .int .i64 (q : Int)] w fun e w' => ∃ A c, e = .returned (.tuple #[.slice A (grM (recsP us a.cr a.cl R) i q).length c, .int .i64 0]) ∧ Below w.heap.size w w' := by
  have r1 := hs.r1
  have r2 := hs.r2
  have HCK := Lib.hid fun W (hW : Below w.heap.size w W) => pcheck_ok v us R a W (he.below hW) (hs.below hW) h5 hz (ha.below hW) hne hh
  have HOP := Lib.hid fun W (hW : Below w.heap.size w W) => open_any v us R a W (he.below hW) (hs.below hW) (ha.below hW).at_
  have hk1 := keysP_len (colL us a.cr R)
  have hk2 := keysP_len (colL us a.cl R)
  rw [colL_len] at hk1 hk2
  obtain ⟨RL, hRL⟩ : ∃ L, L = recsP us a.cr a.cl R := ⟨_, rfl⟩
  have hRl : RL.length = R := by rw [hRL]; simp [recsP]
  unfold OpenRet at HOP
  rw [← hRL]
  rw [← hRL] at HOP
  obtain ⟨K1, hK1⟩ : ∃ K, K = keysP (colL us a.cr R) := ⟨_, rfl⟩
  obtain ⟨K2, hK2⟩ : ∃ K, K = keysP (colL us a.cl R) := ⟨_, rfl⟩
  rw [← hK1] at HOP hi hk1
  rw [← hK2] at HOP hq hk2
  obtain ⟨N1, hN1⟩ : ∃ n, n = K1.length := ⟨_, rfl⟩
  obtain ⟨N2, hN2⟩ : ∃ n, n = K2.length := ⟨_, rfl⟩
  rw [← hN1] at HOP hi hk1
  rw [← hN2] at HOP hq hk2
  clear hs he ha hz h5 hne hh hRL hK1 hK2 hN1 hN2
  obtain ⟨k, num, den, text, on, code, rows, cols, A, n, c⟩ := v
  obtain ⟨rb, ro, rc, cb, co, cc, cr, cl, how⟩ := a
  have HCK := Lib.hid (show ∀ W, Below w.heap.size w W → Calls Tryz.prog 17 #[.agg #[.int .i64 k, .string num, .string den, .string text, .bool on, .int .i64 code, .int .i64 rows, .int .i64 cols, .slice A n c], .agg #[.slice (some ⟨rb, ro, none⟩) 1 rc, .slice (some ⟨cb, co, none⟩) 1 cc, .int .i64 2, .int .i64 how]] W fun e w' => e = .returned (.int .i64 0) ∧ Below W.heap.size W w' from HCK.out)
  have HOP := Lib.hid (show ∀ W, Below w.heap.size w W → Calls Tryz.prog 18 #[.agg #[.int .i64 k, .string num, .string den, .string text, .bool on, .int .i64 code, .int .i64 rows, .int .i64 cols, .slice A n c], .agg #[.slice (some ⟨rb, ro, none⟩) 1 rc, .slice (some ⟨cb, co, none⟩) 1 cc, .int .i64 2, .int .i64 how]] W fun e w' => ∃ (g1 c1 g2 c2 g3 c3 : Nat), e = .returned (.agg #[(.slice (some ⟨g1, 0, none⟩) N1 c1), (.slice (some ⟨g2, 0, none⟩) N2 c2), (.slice (some ⟨g3, 0, none⟩) R c3)]) ∧ Reads 12 rmC w' (.slice (some ⟨g3, 0, none⟩) R c3) RL ∧ Below W.heap.size W w' from fun W hW => (HOP.out W hW).mono fun e w' h => by
    obtain ⟨g1, c1, g2, c2, g3, c3, h1, -, -, h2, h3⟩ := h
    exact ⟨g1, c1, g2, c2, g3, c3, h1, h2, h3⟩)
  have HL0 := Lib.hid (((Loc.start w).alloc' rfl 27 #[.int .i64 k, .string num, .string den, .string text, .bool on, .int .i64 code, .int .i64 rows, .int .i64 cols, .slice A n c]).alloc' (g := w.heap.size + 1) (by simp) 30 #[.slice (some ⟨rb, ro, none⟩) 1 rc, .slice (some ⟨cb, co, none⟩) 1 cc, .int .i64 2, .int .i64 how])
  have HLB := Lib.hid (show ∀ W, Loc w [(w.heap.size + 1, 30, #[.slice (some ⟨rb, ro, none⟩) 1 rc, .slice (some ⟨cb, co, none⟩) 1 cc, .int .i64 2, .int .i64 how]), (w.heap.size, 27, #[.int .i64 k, .string num, .string den, .string text, .bool on, .int .i64 code, .int .i64 rows, .int .i64 cols, .slice A n c])] W → (W.cell? ⟨w.heap.size, 0, none⟩ = some (.int .i64 k) ∧ W.cell? ⟨w.heap.size, 1, none⟩ = some (.string num) ∧ W.cell? ⟨w.heap.size, 2, none⟩ = some (.string den) ∧ W.cell? ⟨w.heap.size, 3, none⟩ = some (.string text) ∧ W.cell? ⟨w.heap.size, 4, none⟩ = some (.bool on) ∧ W.cell? ⟨w.heap.size, 5, none⟩ = some (.int .i64 code) ∧ W.cell? ⟨w.heap.size, 6, none⟩ = some (.int .i64 rows) ∧ W.cell? ⟨w.heap.size, 7, none⟩ = some (.int .i64 cols) ∧ W.cell? ⟨w.heap.size, 8, none⟩ = some (.slice A n c)) ∧ W.cell? ⟨w.heap.size + 1, 0, none⟩ = some (.slice (some ⟨rb, ro, none⟩) 1 rc) ∧ W.cell? ⟨w.heap.size + 1, 1, none⟩ = some (.slice (some ⟨cb, co, none⟩) 1 cc) ∧ W.cell? ⟨w.heap.size + 1, 2, none⟩ = some (.int .i64 2) ∧ W.cell? ⟨w.heap.size + 1, 3, none⟩ = some (.int .i64 how) from fun W h => by
    have h1 := h.blk (g := w.heap.size + 1) (t := 30) (List.mem_cons_self ..)
    have h2 := h.blk (g := w.heap.size) (t := 27) (List.mem_cons_of_mem _ (List.mem_cons_self ..))
    exact ⟨⟨h2.cell 0, h2.cell 1, h2.cell 2, h2.cell 3, h2.cell 4, h2.cell 5, h2.cell 6, h2.cell 7, h2.cell 8⟩, h1.cell 0, h1.cell 1, h1.cell 2, h1.cell 3⟩)
  have z1 : ¬ (i : Int) < -1 := by omega
  have z2 : ¬ (q : Int) < -1 := by omega
  have z3 : (i : Int) < (N1 : Int) := by omega
  have z4 : (q : Int) < (N2 : Int) := by omega
  have bi : i ≤ 100000 := by omega
  have bq : q ≤ 100000 := by omega
  show Calls Tryz.prog 9 #[.agg #[.int .i64 k, .string num, .string den, .string text, .bool on, .int .i64 code, .int .i64 rows, .int .i64 cols, .slice A n c], .agg #[.slice (some ⟨rb, ro, none⟩) 1 rc, .slice (some ⟨cb, co, none⟩) 1 cc, .int .i64 2, .int .i64 how], .int .i64 (i : Int), .int .i64 (q : Int)] w _
  go_enter Tryz.func9, Tryz.ntmps9
  go_upto_region 5 with (first
    | (go_at_call 17; (with_reducible refine (HCK.out _ HL0.out.bel).mono ?_); rintro e w1 ⟨rfl, hb⟩; have HL1 := Lib.hid (HL0.out.step hb); clear hb; obtain ⟨⟨k0, k1, k2, k3, k4, k5, k6, k7, k8⟩, p0, p1, p2, p3⟩ := HLB.out _ HL1.out)
    | (go_at_call 18; (with_reducible refine (HOP.out _ HL1.out.bel).mono ?_); rintro e w2 ⟨g1, c1, g2, c2, g3, c3, rfl, hrd, hb⟩; have HB2 := Lib.hid (HL1.out.bel.trans (hb.mono HL1.out.bel.size)); have HR2 := Lib.hid hrd; clear hb hrd k0 k1 k2 k3 k4 k5 k6 k7 k8 p0 p1 p2 p3))
  have hbA : Below w2.heap.size w2 (w2.alloc (.cells #[(.slice (some ⟨g1, 0, none⟩) N1 c1), (.slice (some ⟨g2, 0, none⟩) N2 c2), (.slice (some ⟨g3, 0, none⟩) R c3)] 56)) := (Below.refl _ _).alloc (Nat.le_refl _) _
  have hbk := Blk.new w2 56 #[(.slice (some ⟨g1, 0, none⟩) N1 c1), (.slice (some ⟨g2, 0, none⟩) N2 c2), (.slice (some ⟨g3, 0, none⟩) R c3)]
  have HR3 := Lib.hid (HR2.out.below hbA)
  have HB3 := Lib.hid (HB2.out.trans (hbA.mono HB2.out.size))
  clear hbA HR2 HB2 HL0 HLB HCK HOP
  revert hbk HR3 HB3
  generalize w2.alloc (.cells #[(.slice (some ⟨g1, 0, none⟩) N1 c1), (.slice (some ⟨g2, 0, none⟩) N2 c2), (.slice (some ⟨g3, 0, none⟩) R c3)] 56) = w3
  intro hbk HR3 HB3
  obtain ⟨s0, s1, s2, -, -, -⟩ := hbk.three
  have HGR := Lib.hid (group_any (.slice (some ⟨g1, 0, none⟩) N1 c1) (.slice (some ⟨g2, 0, none⟩) N2 c2) ⟨_, _, _, rfl⟩ ⟨_, _, _, rfl⟩ g3 c3 R RL i q w3 HR3.out r1 (by omega) bi bq)
  clear hbk HR3
  go_wp2_with (go_at_call 24; (with_reducible refine HGR.out.mono ?_); rintro e w4 ⟨gv, rfl, hro, hb⟩; have HRO := Lib.hid (RowOf.reads hro rmC_len); have HB4 := Lib.hid (HB3.out.trans (hb.mono HB3.out.size)); obtain ⟨A4, c4, rfl⟩ := HRO.out.shape; clear hb hro)
  obtain ⟨G, hG⟩ : ∃ G, G = grM RL i q := ⟨_, rfl⟩
  have hgl : G.length ≤ 14 := by rw [hG]; exact Nat.le_trans (List.length_filter_le _ _) (by omega)
  rw [← hG] at HRO
  have HGE := Lib.hid hG
  obtain ⟨gn, hgn⟩ : ∃ gn, gn = G.length := ⟨_, rfl⟩
  have hxl : (grM RL i q).length = gn := by rw [hgn, hG]
  have HGN := Lib.hid hxl
  rw [hxl]
  have HC := Lib.hid (show ∀ j (hj : j < gn), ∃ (b o ra rr rl : Nat) (uk : Int) (unum uden utext : ByteArray) (uon : Bool) (ucode urows ucols : Int) (uA : Option Addr) (un uc : Nat), A4 = some ⟨b, o, none⟩ ∧ ∀ W, Below w4.heap.size w4 W → ∀ p, p < 12 → W.cell? ⟨b, o + j * 12 + p, none⟩ = (#[.int .i64 (ra : Int), .int .i64 (rr : Int), .int .i64 (rl : Int), .int .i64 uk, .string unum, .string uden, .string utext, .bool uon, .int .i64 ucode, .int .i64 urows, .int .i64 ucols, .slice uA un uc] : Array Value)[p]? from fun j hj => by
    obtain ⟨A', c', e, -, -, h3⟩ := HRO.out
    injection e with e1 e2 e3
    obtain ⟨b, o, e4, hb, hc⟩ := h3 (by omega)
    obtain ⟨⟨ra, rr, rl, ⟨uk, unum, uden, utext, uon, ucode, urows, ucols, uA, un, uc⟩⟩, hr⟩ : ∃ r, r = G[j]'(by omega) := ⟨_, rfl⟩
    refine ⟨b, o, ra, rr, rl, uk, unum, uden, utext, uon, ucode, urows, ucols, uA, un, uc, e1.trans e4, fun W hW p hp => ?_⟩
    have := hc j (by omega) p hp
    rw [← hr, ← Nat.add_assoc] at this
    refine ((hW.cell (by exact hb)).trans this).trans ?_
    simp [rmC, Vl.cs])
  have hg14 : gn ≤ 14 := by omega
  clear hG hgn hxl HRO HGR
  go_loopw [12, 49] (fun u12 u49 wr => ∃ (j : Nat) (l : List Nat), j ≤ gn ∧ l.length = j ∧ u49 = .int .i64 j ∧ Hid (R1 3 .i64 wr w4.heap.size u12 l) ∧ Hid (Below w4.heap.size w4 wr)) (fun _ u _ => gn - (intOf u).toNat)
  case atStart => exact ⟨0, [], by omega, rfl, rfl, Lib.hid (R1.nil _ _), Lib.hid (Below.refl _ _)⟩
  case round =>
    obtain ⟨j, l, hj, hl, rfl, HO, HB⟩ := hrel
    by_cases hlt : j < gn
    · have hlz : (j : Int) < (gn : Int) := by omega
      obtain ⟨b, o, ra, rr, rl, uk, unum, uden, utext, uon, ucode, urows, ucols, uA, un, uc, rfl, hcl⟩ := HC.out j hlt
      have e0 : wr.cell? ⟨b, o + j * 12, none⟩ = some (.int .i64 (ra : Int)) := hcl wr HB.out 0 (by decide)
      have e1 : wr.cell? ⟨b, o + j * 12 + 1, none⟩ = some (.int .i64 (rr : Int)) := hcl wr HB.out 1 (by decide)
      have e2 : wr.cell? ⟨b, o + j * 12 + 2, none⟩ = some (.int .i64 (rl : Int)) := hcl wr HB.out 2 (by decide)
      have e3 : wr.cell? ⟨b, o + j * 12 + 3, none⟩ = some (.int .i64 uk) := hcl wr HB.out 3 (by decide)
      have e4 : wr.cell? ⟨b, o + j * 12 + 4, none⟩ = some (.string unum) := hcl wr HB.out 4 (by decide)
      have e5 : wr.cell? ⟨b, o + j * 12 + 5, none⟩ = some (.string uden) := hcl wr HB.out 5 (by decide)
      have e6 : wr.cell? ⟨b, o + j * 12 + 6, none⟩ = some (.string utext) := hcl wr HB.out 6 (by decide)
      have e7 : wr.cell? ⟨b, o + j * 12 + 7, none⟩ = some (.bool uon) := hcl wr HB.out 7 (by decide)
      have e8 : wr.cell? ⟨b, o + j * 12 + 8, none⟩ = some (.int .i64 ucode) := hcl wr HB.out 8 (by decide)
      have e9 : wr.cell? ⟨b, o + j * 12 + 9, none⟩ = some (.int .i64 urows) := hcl wr HB.out 9 (by decide)
      have e10 : wr.cell? ⟨b, o + j * 12 + 10, none⟩ = some (.int .i64 ucols) := hcl wr HB.out 10 (by decide)
      have e11 : wr.cell? ⟨b, o + j * 12 + 11, none⟩ = some (.slice uA un uc) := hcl wr HB.out 11 (by decide)
      clear hcl
      go_upto_region 11 with fail
      have hbk := Blk.new wr 61 #[.int .i64 (ra : Int), .int .i64 (rr : Int), .int .i64 (rl : Int), .int .i64 uk, .string unum, .string uden, .string utext, .bool uon, .int .i64 ucode, .int .i64 urows, .int .i64 ucols, .slice uA un uc]
      have HBA := Lib.hid (HB.out.alloc HB.out.size (.cells #[.int .i64 (ra : Int), .int .i64 (rr : Int), .int .i64 (rl : Int), .int .i64 uk, .string unum, .string uden, .string utext, .bool uon, .int .i64 ucode, .int .i64 urows, .int .i64 ucols, .slice uA un uc] 61))
      have HOA := Lib.hid (R1.alloc HO.out (.cells #[.int .i64 (ra : Int), .int .i64 (rr : Int), .int .i64 (rl : Int), .int .i64 uk, .string unum, .string uden, .string utext, .bool uon, .int .i64 ucode, .int .i64 urows, .int .i64 ucols, .slice uA un uc] 61))
      clear e0 e1 e2 e3 e4 e5 e6 e7 e8 e9 e10 e11 HB HO
      revert hbk HBA HOA
      generalize wr.alloc (.cells #[.int .i64 (ra : Int), .int .i64 (rr : Int), .int .i64 (rl : Int), .int .i64 uk, .string unum, .string uden, .string utext, .bool uon, .int .i64 ucode, .int .i64 urows, .int .i64 ucols, .slice uA un uc] 61) = W1
      intro hbk HBA HOA
      have c0 : W1.cell? ⟨wr.heap.size, 0, none⟩ = some (.int .i64 (ra : Int)) := hbk.cell 0
      have HSZ := Lib.hid HBA.out.size
      go_wp2_with (at_builtin; go_loud (refine wp_appI rfl _ _ rfl w4.heap.size _ l rfl HOA.out (ra : Int) ra rfl rfl (by omega) HSZ.out ?_); intro v3 w5 hr3 hb3 _; have HO3 := Lib.hid hr3; have HB5 := Lib.hid (HBA.out.trans hb3); clear hr3 hb3)
      go_roundw
      case rel => exact ⟨j + 1, l ++ [ra], by omega, by simp [hl], by go_num, HO3, HB5⟩
      case measure => simp [intOf]; omega
    · have hlz : ¬ (j : Int) < (gn : Int) := by omega
      obtain rfl : j = gn := by omega
      obtain ⟨A5, c5, h5⟩ := HO.out.shape
      rw [hl] at h5
      subst h5
      go_wp2_with fail
      go_ret2
      exact ⟨⟨A5, c5, by rw [HGN.out]; rfl⟩, HB4.out.trans (HB.out.mono HB4.out.size)⟩
end Go.Proofs.YtmapagbmihpbmaaGreatDoor
