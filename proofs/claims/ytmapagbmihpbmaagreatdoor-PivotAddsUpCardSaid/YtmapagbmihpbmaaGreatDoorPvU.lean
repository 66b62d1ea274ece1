/- pivot.Make for sums and counts of whole numbers. -/
import Derived.Test.YtmapagbmihpbmaaGreatDoorPvUa
import Derived.Test.YtmapagbmihpbmaaGreatDoorGx
set_option linter.unusedSimpArgs false
set_option linter.unusedVariables false
namespace Go.Proofs.YtmapagbmihpbmaaGreatDoor
open Go.RowKit

/-- What Make answers. -/
def MakeRet (us : List Vl) (cr cl R : Nat) (N : Rm → Nat) (how : Int) (w : World) (e : Ending) (w' : World) : Prop :=
  MakeR (keysP (colL us cr R)).length (keysP (colL us cl R)).length (keysP (colL us cr R)) (keysP (colL us cl R)) (recsP us cr cl R) N how w e w'
set_option maxRecDepth 100000 in
set_option maxHeartbeats 16000000 in
theorem make_any (v : Vl) (us : List Vl) (R : Nat) (a : Ask) (N : Rm → Nat) (w : World) (he : VEnv w) (hs : Src w v us R) (h5 : v.k = 5) (hz : v.zB = true) (ha : AskB w a) (hne : a.cr ≠ a.cl) (hh : a.how = 0 ∨ a.how = 1) (hN : ∀ r ∈ recsP us a.cr a.cl R, r.v = nV (N r) ∧ N r ≤ 50) :
    Calls Tryz.prog 6 #[v.v, a.v] w (MakeRet us a.cr a.cl R N a.how w) := by
  have r1 := hs.r1
  have r2 := hs.r2
  have HCK := Lib.hid fun W (hW : Below w.heap.size w W) => pcheck_ok v us R a W (he.below hW) (hs.below hW) h5 hz (ha.below hW) hne (by rcases hh with e | e <;> (rw [e]; decide))
  have HOP := Lib.hid fun W (hW : Below w.heap.size w W) => open_any v us R a W (he.below hW) (hs.below hW) (ha.below hW).at_
  have hk1 := keysP_len (colL us a.cr R)
  have hk2 := keysP_len (colL us a.cl R)
  have hp1 := keysP_pos (colL us a.cr R) (by rw [colL_len]; omega)
  have hp2 := keysP_pos (colL us a.cl R) (by rw [colL_len]; omega)
  rw [colL_len] at hk1 hk2
  have hcol : ∀ c, c < 3 → ∀ u ∈ colL us c R, u.ok := fun c hc u hu => by
    obtain ⟨i, hi, rfl⟩ := List.mem_map.1 hu
    exact (hs.ok _ (hs.mem (by have := List.mem_range.1 hi; omega))).1
  have h3r := ha.at_.r3
  have h3c := ha.at_.c3
  have hrow : ∀ r ∈ recsP us a.cr a.cl R, r.row < (keysP (colL us a.cr R)).length := recs_row us a.cr a.cl R (hcol _ h3r)
  have hcl : ∀ r ∈ recsP us a.cr a.cl R, r.col < (keysP (colL us a.cl R)).length := recs_col us a.cr a.cl R (hcol _ h3c)
  unfold MakeRet
  obtain ⟨RL, hRL⟩ : ∃ L, L = recsP us a.cr a.cl R := ⟨_, rfl⟩
  have hRl : RL.length = R := by rw [hRL]; simp [recsP]
  unfold OpenRet at HOP
  rw [← hRL]
  rw [← hRL] at HOP hrow hcl hN
  obtain ⟨K1, hK1⟩ : ∃ K, K = keysP (colL us a.cr R) := ⟨_, rfl⟩
  obtain ⟨K2, hK2⟩ : ∃ K, K = keysP (colL us a.cl R) := ⟨_, rfl⟩
  rw [← hK1, ← hK2]
  rw [← hK1] at HOP hk1 hp1 hrow
  rw [← hK2] at HOP hk2 hp2 hcl
  obtain ⟨N1, hN1⟩ : ∃ n, n = K1.length := ⟨_, rfl⟩
  obtain ⟨N2, hN2⟩ : ∃ n, n = K2.length := ⟨_, rfl⟩
  rw [← hN1, ← hN2]
  rw [← hN1] at HOP hk1 hp1 hrow
  rw [← hN2] at HOP hk2 hp2 hcl
  have HEN := Lib.hid he
  have HRE := Lib.hid (show ∀ (A : Option Addr) (n c : Nat) (L : List Rm) W, VEnv W → Reads 12 rmC W (.slice A n c) L → n ≤ 14 → (∀ r ∈ L, r ∈ RL) → Calls Tryz.prog 19 #[.slice A n c, .int .i64 a.how] W fun e w' => e = .returned (.agg #[.int .i64 1, .string (nt (resN N a.how L)), .string ⟨#[49]⟩, .string ⟨#[]⟩, .bool false, .int .i64 0, .int .i64 0, .int .i64 0, .slice none 0 0]) ∧ Below W.heap.size W w' from fun A n c L W h1 h2 h3 h4 => result_any N a.how A n c L W h1 h2 h3 (fun r hr => hN r (h4 r hr)) hh)
  have HRW := Lib.hid hrow
  have HCLM := Lib.hid hcl
  clear hs he ha hz h5 hne hRL hK1 hK2 hN1 hN2 hcol h3r h3c hrow hcl hN hh
  obtain ⟨k, num, den, text, on, code, rows, cols, A, n, c⟩ := v
  obtain ⟨rb, ro, rc, cb, co, cc, cr, cl, how⟩ := a
  dsimp only at HRE ⊢
  have HCK := Lib.hid (show ∀ W, Below w.heap.size w W → Calls Tryz.prog 17 #[.agg #[.int .i64 k, .string num, .string den, .string text, .bool on, .int .i64 code, .int .i64 rows, .int .i64 cols, .slice A n c], .agg #[.slice (some ⟨rb, ro, none⟩) 1 rc, .slice (some ⟨cb, co, none⟩) 1 cc, .int .i64 2, .int .i64 how]] W fun e w' => e = .returned (.int .i64 0) ∧ Below W.heap.size W w' from HCK.out)
  have HOP := Lib.hid (show ∀ W, Below w.heap.size w W → Calls Tryz.prog 18 #[.agg #[.int .i64 k, .string num, .string den, .string text, .bool on, .int .i64 code, .int .i64 rows, .int .i64 cols, .slice A n c], .agg #[.slice (some ⟨rb, ro, none⟩) 1 rc, .slice (some ⟨cb, co, none⟩) 1 cc, .int .i64 2, .int .i64 how]] W fun e w' => ∃ (g1 c1 g2 c2 g3 c3 : Nat), e = .returned (.agg #[(.slice (some ⟨g1, 0, none⟩) N1 c1), (.slice (some ⟨g2, 0, none⟩) N2 c2), (.slice (some ⟨g3, 0, none⟩) R c3)]) ∧ KT w' (.slice (some ⟨g1, 0, none⟩) N1 c1) K1 ∧ KT w' (.slice (some ⟨g2, 0, none⟩) N2 c2) K2 ∧ Reads 12 rmC w' (.slice (some ⟨g3, 0, none⟩) R c3) RL ∧ Below W.heap.size W w' from fun W hW => (HOP.out W hW).mono fun e w' h => h)
  have HL0 := Lib.hid ((((Loc.start w).alloc' rfl 27 #[.int .i64 k, .string num, .string den, .string text, .bool on, .int .i64 code, .int .i64 rows, .int .i64 cols, .slice A n c]).alloc' (g := w.heap.size + 1) (by simp) 30 #[.slice (some ⟨rb, ro, none⟩) 1 rc, .slice (some ⟨cb, co, none⟩) 1 cc, .int .i64 2, .int .i64 how]).alloc' (g := w.heap.size + 1 + 1) (by simp) 33 #[.slice none 0 0, .slice none 0 0, .slice none 0 0, .slice none 0 0, .slice none 0 0, .int .i64 0, .string ⟨#[]⟩, .string ⟨#[]⟩, .string ⟨#[]⟩, .bool false, .int .i64 0, .int .i64 0, .int .i64 0, .slice none 0 0])
  have HLB := Lib.hid (show ∀ W, Loc w [(w.heap.size + 1 + 1, 33, #[.slice none 0 0, .slice none 0 0, .slice none 0 0, .slice none 0 0, .slice none 0 0, .int .i64 0, .string ⟨#[]⟩, .string ⟨#[]⟩, .string ⟨#[]⟩, .bool false, .int .i64 0, .int .i64 0, .int .i64 0, .slice none 0 0]), (w.heap.size + 1, 30, #[.slice (some ⟨rb, ro, none⟩) 1 rc, .slice (some ⟨cb, co, none⟩) 1 cc, .int .i64 2, .int .i64 how]), (w.heap.size, 27, #[.int .i64 k, .string num, .string den, .string text, .bool on, .int .i64 code, .int .i64 rows, .int .i64 cols, .slice A n c])] W → (W.cell? ⟨w.heap.size, 0, none⟩ = some (.int .i64 k) ∧ W.cell? ⟨w.heap.size, 1, none⟩ = some (.string num) ∧ W.cell? ⟨w.heap.size, 2, none⟩ = some (.string den) ∧ W.cell? ⟨w.heap.size, 3, none⟩ = some (.string text) ∧ W.cell? ⟨w.heap.size, 4, none⟩ = some (.bool on) ∧ W.cell? ⟨w.heap.size, 5, none⟩ = some (.int .i64 code) ∧ W.cell? ⟨w.heap.size, 6, none⟩ = some (.int .i64 rows) ∧ W.cell? ⟨w.heap.size, 7, none⟩ = some (.int .i64 cols) ∧ W.cell? ⟨w.heap.size, 8, none⟩ = some (.slice A n c)) ∧ W.cell? ⟨w.heap.size + 1, 0, none⟩ = some (.slice (some ⟨rb, ro, none⟩) 1 rc) ∧ W.cell? ⟨w.heap.size + 1, 1, none⟩ = some (.slice (some ⟨cb, co, none⟩) 1 cc) ∧ W.cell? ⟨w.heap.size + 1, 2, none⟩ = some (.int .i64 2) ∧ W.cell? ⟨w.heap.size + 1, 3, none⟩ = some (.int .i64 how) from fun W h => by
    have h1 := h.blk (g := w.heap.size + 1) (t := 30) (List.mem_cons_of_mem _ (List.mem_cons_self ..))
    have h2 := h.blk (g := w.heap.size) (t := 27) (List.mem_cons_of_mem _ (List.mem_cons_of_mem _ (List.mem_cons_self ..)))
    exact ⟨⟨h2.cell 0, h2.cell 1, h2.cell 2, h2.cell 3, h2.cell 4, h2.cell 5, h2.cell 6, h2.cell 7, h2.cell 8⟩, h1.cell 0, h1.cell 1, h1.cell 2, h1.cell 3⟩)
  show Calls Tryz.prog 6 #[.agg #[.int .i64 k, .string num, .string den, .string text, .bool on, .int .i64 code, .int .i64 rows, .int .i64 cols, .slice A n c], .agg #[.slice (some ⟨rb, ro, none⟩) 1 rc, .slice (some ⟨cb, co, none⟩) 1 cc, .int .i64 2, .int .i64 how]] w _
  go_enter Tryz.func6, Tryz.ntmps6
  go_upto_region 5 with (first
    | (go_at_call 17; (with_reducible refine (HCK.out _ HL0.out.bel).mono ?_); rintro e w1 ⟨rfl, hb⟩; have HL1 := Lib.hid (HL0.out.step hb); clear hb; obtain ⟨⟨k0, k1, k2, k3, k4, k5, k6, k7, k8⟩, p0, p1, p2, p3⟩ := HLB.out _ HL1.out)
    | (go_at_call 18; (with_reducible refine (HOP.out _ HL1.out.bel).mono ?_); rintro e w2 ⟨g1, c1, g2, c2, g3, c3, rfl, hk1', hk2', hrd, hb⟩; have HL2 := Lib.hid (HL1.out.step hb); have HR2 := Lib.hid hrd; have HKA := Lib.hid hk1'; have HKB := Lib.hid hk2'; clear hb hrd hk1' hk2' k0 k1 k2 k3 k4 k5 k6 k7 k8 p0 p1 p2 p3))
  have hbA : Below w2.heap.size w2 (w2.alloc (.cells #[(.slice (some ⟨g1, 0, none⟩) N1 c1), (.slice (some ⟨g2, 0, none⟩) N2 c2), (.slice (some ⟨g3, 0, none⟩) R c3)] 56)) := (Below.refl _ _).alloc (Nat.le_refl _) _
  have hbk := Blk.new w2 56 #[(.slice (some ⟨g1, 0, none⟩) N1 c1), (.slice (some ⟨g2, 0, none⟩) N2 c2), (.slice (some ⟨g3, 0, none⟩) R c3)]
  have HB3 := Lib.hid hbA
  have HL3 := Lib.hid (HL2.out.alloc' rfl 56 #[(.slice (some ⟨g1, 0, none⟩) N1 c1), (.slice (some ⟨g2, 0, none⟩) N2 c2), (.slice (some ⟨g3, 0, none⟩) R c3)])
  have l2w : w.heap.size + 1 + 1 < w2.heap.size := HL2.out.lt (g := w.heap.size + 1 + 1) (t := 33) (List.mem_cons_self ..)
  clear hbA HL0 HL1 HCK HOP
  revert hbk HB3 HL3
  generalize w2.alloc (.cells #[(.slice (some ⟨g1, 0, none⟩) N1 c1), (.slice (some ⟨g2, 0, none⟩) N2 c2), (.slice (some ⟨g3, 0, none⟩) R c3)] 56) = w3
  intro hbk HB3 HL3
  obtain ⟨s0, s1, s2, -, -, -⟩ := hbk.three
  clear hbk
  go_quiet (fail)
  rename_i nq
  have HB5 := Lib.hid (show Below w2.heap.size w2 (w3.drewN nq) from ⟨HB3.out.os, HB3.out.tape, HB3.out.output, HB3.out.size, HB3.out.block⟩)
  have HL5 := Lib.hid (HL3.out.drewN nq)
  clear s0 s1 s2 HB3 HL3
  revert HB5 HL5
  generalize w3.drewN nq = w5
  intro HB5 HL5
  obtain ⟨qq, hq⟩ : ∃ qq, qq = 100000 / N2 := ⟨_, rfl⟩
  have hqz : Int.tdiv 100000 (N2 : Int) = (qq : Int) := by rw [hq]; rfl
  have hq1 : 7142 ≤ qq := by rw [hq]; exact (Nat.le_div_iff_mul_le hp2).2 (by omega)
  have hq2 : qq ≤ 100000 := by rw [hq]; exact Nat.div_le_self _ _
  have hn2 : ¬ (N2 : Int) = 0 := by omega
  have hgt : ¬ (N1 : Int) > (qq : Int) := by omega
  clear hq
  go_upto_region 8 with fail

  obtain ⟨tt, htt⟩ : ∃ t, t = nt (resN N how RL) := ⟨_, rfl⟩
  have HTT := Lib.hid htt
  have HG5 := Lib.hid (show Loc w ((w2.heap.size, 56, #[(.slice (some ⟨g1, 0, none⟩) N1 c1), (.slice (some ⟨g2, 0, none⟩) N2 c2), (.slice (some ⟨g3, 0, none⟩) R c3)]) :: [(w.heap.size + 1 + 1, 33, #[.slice none 0 0, .slice none 0 0, .slice none 0 0, .slice none 0 0, .slice none 0 0, .int .i64 0, .string ⟨#[]⟩, .string ⟨#[]⟩, .string ⟨#[]⟩, .bool false, .int .i64 0, .int .i64 0, .int .i64 0, .slice none 0 0]), (w.heap.size + 1, 30, #[.slice (some ⟨rb, ro, none⟩) 1 rc, .slice (some ⟨cb, co, none⟩) 1 cc, .int .i64 2, .int .i64 how]), (w.heap.size, 27, #[.int .i64 k, .string num, .string den, .string text, .bool on, .int .i64 code, .int .i64 rows, .int .i64 cols, .slice A n c])]) w5 ∧ Below w2.heap.size w2 w5 from ⟨HL5.out, HB5.out⟩)
  have HGd := Lib.hid (show ∀ W, Loc w ((w2.heap.size, 56, #[(.slice (some ⟨g1, 0, none⟩) N1 c1), (.slice (some ⟨g2, 0, none⟩) N2 c2), (.slice (some ⟨g3, 0, none⟩) R c3)]) :: [(w.heap.size + 1 + 1, 33, #[.slice none 0 0, .slice none 0 0, .slice none 0 0, .slice none 0 0, .slice none 0 0, .int .i64 0, .string ⟨#[]⟩, .string ⟨#[]⟩, .string ⟨#[]⟩, .bool false, .int .i64 0, .int .i64 0, .int .i64 0, .slice none 0 0]), (w.heap.size + 1, 30, #[.slice (some ⟨rb, ro, none⟩) 1 rc, .slice (some ⟨cb, co, none⟩) 1 cc, .int .i64 2, .int .i64 how]), (w.heap.size, 27, #[.int .i64 k, .string num, .string den, .string text, .bool on, .int .i64 code, .int .i64 rows, .int .i64 cols, .slice A n c])]) W ∧ Below w2.heap.size w2 W → Loc w ((w2.heap.size, 56, #[(.slice (some ⟨g1, 0, none⟩) N1 c1), (.slice (some ⟨g2, 0, none⟩) N2 c2), (.slice (some ⟨g3, 0, none⟩) R c3)]) :: [(w.heap.size + 1 + 1, 33, #[.slice none 0 0, .slice none 0 0, .slice none 0 0, .slice none 0 0, .slice none 0 0, .int .i64 0, .string ⟨#[]⟩, .string ⟨#[]⟩, .string ⟨#[]⟩, .bool false, .int .i64 0, .int .i64 0, .int .i64 0, .slice none 0 0]), (w.heap.size + 1, 30, #[.slice (some ⟨rb, ro, none⟩) 1 rc, .slice (some ⟨cb, co, none⟩) 1 cc, .int .i64 2, .int .i64 how]), (w.heap.size, 27, #[.int .i64 k, .string num, .string den, .string text, .bool on, .int .i64 code, .int .i64 rows, .int .i64 cols, .slice A n c])]) W.drew ∧ Below w2.heap.size w2 W.drew from fun W h => ⟨h.1.drew, h.2.drew⟩)
  have HGa := Lib.hid (show ∀ W o, Loc w ((w2.heap.size, 56, #[(.slice (some ⟨g1, 0, none⟩) N1 c1), (.slice (some ⟨g2, 0, none⟩) N2 c2), (.slice (some ⟨g3, 0, none⟩) R c3)]) :: [(w.heap.size + 1 + 1, 33, #[.slice none 0 0, .slice none 0 0, .slice none 0 0, .slice none 0 0, .slice none 0 0, .int .i64 0, .string ⟨#[]⟩, .string ⟨#[]⟩, .string ⟨#[]⟩, .bool false, .int .i64 0, .int .i64 0, .int .i64 0, .slice none 0 0]), (w.heap.size + 1, 30, #[.slice (some ⟨rb, ro, none⟩) 1 rc, .slice (some ⟨cb, co, none⟩) 1 cc, .int .i64 2, .int .i64 how]), (w.heap.size, 27, #[.int .i64 k, .string num, .string den, .string text, .bool on, .int .i64 code, .int .i64 rows, .int .i64 cols, .slice A n c])]) W ∧ Below w2.heap.size w2 W → Loc w ((w2.heap.size, 56, #[(.slice (some ⟨g1, 0, none⟩) N1 c1), (.slice (some ⟨g2, 0, none⟩) N2 c2), (.slice (some ⟨g3, 0, none⟩) R c3)]) :: [(w.heap.size + 1 + 1, 33, #[.slice none 0 0, .slice none 0 0, .slice none 0 0, .slice none 0 0, .slice none 0 0, .int .i64 0, .string ⟨#[]⟩, .string ⟨#[]⟩, .string ⟨#[]⟩, .bool false, .int .i64 0, .int .i64 0, .int .i64 0, .slice none 0 0]), (w.heap.size + 1, 30, #[.slice (some ⟨rb, ro, none⟩) 1 rc, .slice (some ⟨cb, co, none⟩) 1 cc, .int .i64 2, .int .i64 how]), (w.heap.size, 27, #[.int .i64 k, .string num, .string den, .string text, .bool on, .int .i64 code, .int .i64 rows, .int .i64 cols, .slice A n c])]) (W.alloc o) ∧ Below w2.heap.size w2 (W.alloc o) from fun W o h => ⟨h.1.alloc0 o, h.2.alloc h.2.size o⟩)
  have HGs := Lib.hid (show ∀ W W', Loc w ((w2.heap.size, 56, #[(.slice (some ⟨g1, 0, none⟩) N1 c1), (.slice (some ⟨g2, 0, none⟩) N2 c2), (.slice (some ⟨g3, 0, none⟩) R c3)]) :: [(w.heap.size + 1 + 1, 33, #[.slice none 0 0, .slice none 0 0, .slice none 0 0, .slice none 0 0, .slice none 0 0, .int .i64 0, .string ⟨#[]⟩, .string ⟨#[]⟩, .string ⟨#[]⟩, .bool false, .int .i64 0, .int .i64 0, .int .i64 0, .slice none 0 0]), (w.heap.size + 1, 30, #[.slice (some ⟨rb, ro, none⟩) 1 rc, .slice (some ⟨cb, co, none⟩) 1 cc, .int .i64 2, .int .i64 how]), (w.heap.size, 27, #[.int .i64 k, .string num, .string den, .string text, .bool on, .int .i64 code, .int .i64 rows, .int .i64 cols, .slice A n c])]) W ∧ Below w2.heap.size w2 W → Below W.heap.size W W' → Loc w ((w2.heap.size, 56, #[(.slice (some ⟨g1, 0, none⟩) N1 c1), (.slice (some ⟨g2, 0, none⟩) N2 c2), (.slice (some ⟨g3, 0, none⟩) R c3)]) :: [(w.heap.size + 1 + 1, 33, #[.slice none 0 0, .slice none 0 0, .slice none 0 0, .slice none 0 0, .slice none 0 0, .int .i64 0, .string ⟨#[]⟩, .string ⟨#[]⟩, .string ⟨#[]⟩, .bool false, .int .i64 0, .int .i64 0, .int .i64 0, .slice none 0 0]), (w.heap.size + 1, 30, #[.slice (some ⟨rb, ro, none⟩) 1 rc, .slice (some ⟨cb, co, none⟩) 1 cc, .int .i64 2, .int .i64 how]), (w.heap.size, 27, #[.int .i64 k, .string num, .string den, .string text, .bool on, .int .i64 code, .int .i64 rows, .int .i64 cols, .slice A n c])]) W' ∧ Below w2.heap.size w2 W' from fun W W' h hb => ⟨h.1.step hb, h.2.trans (hb.mono h.2.size)⟩)
  have HRT := Lib.hid (show ∀ W, Loc w ((w2.heap.size, 56, #[(.slice (some ⟨g1, 0, none⟩) N1 c1), (.slice (some ⟨g2, 0, none⟩) N2 c2), (.slice (some ⟨g3, 0, none⟩) R c3)]) :: [(w.heap.size + 1 + 1, 33, #[.slice none 0 0, .slice none 0 0, .slice none 0 0, .slice none 0 0, .slice none 0 0, .int .i64 0, .string ⟨#[]⟩, .string ⟨#[]⟩, .string ⟨#[]⟩, .bool false, .int .i64 0, .int .i64 0, .int .i64 0, .slice none 0 0]), (w.heap.size + 1, 30, #[.slice (some ⟨rb, ro, none⟩) 1 rc, .slice (some ⟨cb, co, none⟩) 1 cc, .int .i64 2, .int .i64 how]), (w.heap.size, 27, #[.int .i64 k, .string num, .string den, .string text, .bool on, .int .i64 code, .int .i64 rows, .int .i64 cols, .slice A n c])]) W ∧ Below w2.heap.size w2 W → Calls Tryz.prog 19 #[(.slice (some ⟨g3, 0, none⟩) R c3), .int .i64 how] W fun e w' => e = .returned (.agg #[.int .i64 1, .string tt, .string ⟨#[49]⟩, .string ⟨#[]⟩, .bool false, .int .i64 0, .int .i64 0, .int .i64 0, .slice none 0 0]) ∧ Below W.heap.size W w' from fun W h => by
    rw [htt]
    exact HRE.out _ _ _ RL W (HEN.out.below h.1.bel) (HR2.out.below h.2) r2 (fun _ h => h))
  have HSS := Lib.hid (show ∀ W, Loc w ((w2.heap.size, 56, #[(.slice (some ⟨g1, 0, none⟩) N1 c1), (.slice (some ⟨g2, 0, none⟩) N2 c2), (.slice (some ⟨g3, 0, none⟩) R c3)]) :: [(w.heap.size + 1 + 1, 33, #[.slice none 0 0, .slice none 0 0, .slice none 0 0, .slice none 0 0, .slice none 0 0, .int .i64 0, .string ⟨#[]⟩, .string ⟨#[]⟩, .string ⟨#[]⟩, .bool false, .int .i64 0, .int .i64 0, .int .i64 0, .slice none 0 0]), (w.heap.size + 1, 30, #[.slice (some ⟨rb, ro, none⟩) 1 rc, .slice (some ⟨cb, co, none⟩) 1 cc, .int .i64 2, .int .i64 how]), (w.heap.size, 27, #[.int .i64 k, .string num, .string den, .string text, .bool on, .int .i64 code, .int .i64 rows, .int .i64 cols, .slice A n c])]) W ∧ Below w2.heap.size w2 W → W.cell? ⟨w2.heap.size, 0, none⟩ = some (.slice (some ⟨g1, 0, none⟩) N1 c1) ∧ W.cell? ⟨w2.heap.size, 1, none⟩ = some (.slice (some ⟨g2, 0, none⟩) N2 c2) ∧ W.cell? ⟨w2.heap.size, 2, none⟩ = some (.slice (some ⟨g3, 0, none⟩) R c3) ∧ W.cell? ⟨w.heap.size + 1, 3, none⟩ = some (.int .i64 how) from fun W h => by
    have h1 := h.1.blk (g := w2.heap.size) (t := 56) (List.mem_cons_self ..)
    have h2 := h.1.blk (g := w.heap.size + 1) (t := 30) (List.mem_cons_of_mem _ (List.mem_cons_of_mem _ (List.mem_cons_self ..)))
    exact ⟨h1.cell 0, h1.cell 1, h1.cell 2, h2.cell 3⟩)
  have l5 : w2.heap.size < w5.heap.size := HL5.out.lt (g := w2.heap.size) (t := 56) (List.mem_cons_self ..)
  have HLT := Lib.hid l5
  clear htt HL5 HB5 hqz hq1 hq2 hn2 hgt
  go_cut [10] (fun u10 wx => ∃ tB, u10 = .pointer (some ⟨tB, 0, none⟩) ∧ Hid (Loc w ((tB, 33, #[.slice (some ⟨g1, 0, none⟩) N1 c1, .slice (some ⟨g2, 0, none⟩) N2 c2, .slice none 0 0, .slice none 0 0, .slice none 0 0, .int .i64 1, .string tt, .string ⟨#[49]⟩, .string ⟨#[]⟩, .bool false, .int .i64 0, .int .i64 0, .int .i64 0, .slice none 0 0]) :: ((w2.heap.size, 56, #[(.slice (some ⟨g1, 0, none⟩) N1 c1), (.slice (some ⟨g2, 0, none⟩) N2 c2), (.slice (some ⟨g3, 0, none⟩) R c3)]) :: [(w.heap.size + 1 + 1, 33, #[.slice none 0 0, .slice none 0 0, .slice none 0 0, .slice none 0 0, .slice none 0 0, .int .i64 0, .string ⟨#[]⟩, .string ⟨#[]⟩, .string ⟨#[]⟩, .bool false, .int .i64 0, .int .i64 0, .int .i64 0, .slice none 0 0]), (w.heap.size + 1, 30, #[.slice (some ⟨rb, ro, none⟩) 1 rc, .slice (some ⟨cb, co, none⟩) 1 cc, .int .i64 2, .int .i64 how]), (w.heap.size, 27, #[.int .i64 k, .string num, .string den, .string text, .bool on, .int .i64 code, .int .i64 rows, .int .i64 cols, .slice A n c])])) wx) ∧ Hid (Below w2.heap.size w2 wx) ∧ Hid (w2.heap.size < tB))
  case first =>
    have HNE := Lib.hid (show ∀ x ∈ (((w2.heap.size, 56, #[(.slice (some ⟨g1, 0, none⟩) N1 c1), (.slice (some ⟨g2, 0, none⟩) N2 c2), (.slice (some ⟨g3, 0, none⟩) R c3)]) :: [(w.heap.size + 1 + 1, 33, #[.slice none 0 0, .slice none 0 0, .slice none 0 0, .slice none 0 0, .slice none 0 0, .int .i64 0, .string ⟨#[]⟩, .string ⟨#[]⟩, .string ⟨#[]⟩, .bool false, .int .i64 0, .int .i64 0, .int .i64 0, .slice none 0 0]), (w.heap.size + 1, 30, #[.slice (some ⟨rb, ro, none⟩) 1 rc, .slice (some ⟨cb, co, none⟩) 1 cc, .int .i64 2, .int .i64 how]), (w.heap.size, 27, #[.int .i64 k, .string num, .string den, .string text, .bool on, .int .i64 code, .int .i64 rows, .int .i64 cols, .slice A n c])]) : List (Nat × TypeId × Array Value)), x.1 < w5.heap.size from fun x hx => by
      simp only [List.mem_cons, List.not_mem_nil, or_false] at hx
      rcases hx with rfl | rfl | rfl | rfl <;> (dsimp only; omega))
    have HGf := Lib.hid (show ∀ W i x, Loc w ((w2.heap.size, 56, #[(.slice (some ⟨g1, 0, none⟩) N1 c1), (.slice (some ⟨g2, 0, none⟩) N2 c2), (.slice (some ⟨g3, 0, none⟩) R c3)]) :: [(w.heap.size + 1 + 1, 33, #[.slice none 0 0, .slice none 0 0, .slice none 0 0, .slice none 0 0, .slice none 0 0, .int .i64 0, .string ⟨#[]⟩, .string ⟨#[]⟩, .string ⟨#[]⟩, .bool false, .int .i64 0, .int .i64 0, .int .i64 0, .slice none 0 0]), (w.heap.size + 1, 30, #[.slice (some ⟨rb, ro, none⟩) 1 rc, .slice (some ⟨cb, co, none⟩) 1 cc, .int .i64 2, .int .i64 how]), (w.heap.size, 27, #[.int .i64 k, .string num, .string den, .string text, .bool on, .int .i64 code, .int .i64 rows, .int .i64 cols, .slice A n c])]) W ∧ Below w2.heap.size w2 W → Loc w ((w2.heap.size, 56, #[(.slice (some ⟨g1, 0, none⟩) N1 c1), (.slice (some ⟨g2, 0, none⟩) N2 c2), (.slice (some ⟨g3, 0, none⟩) R c3)]) :: [(w.heap.size + 1 + 1, 33, #[.slice none 0 0, .slice none 0 0, .slice none 0 0, .slice none 0 0, .slice none 0 0, .int .i64 0, .string ⟨#[]⟩, .string ⟨#[]⟩, .string ⟨#[]⟩, .bool false, .int .i64 0, .int .i64 0, .int .i64 0, .slice none 0 0]), (w.heap.size + 1, 30, #[.slice (some ⟨rb, ro, none⟩) 1 rc, .slice (some ⟨cb, co, none⟩) 1 cc, .int .i64 2, .int .i64 how]), (w.heap.size, 27, #[.int .i64 k, .string num, .string den, .string text, .bool on, .int .i64 code, .int .i64 rows, .int .i64 cols, .slice A n c])]) (W.setCell ⟨w5.heap.size, i, none⟩ x) ∧ Below w2.heap.size w2 (W.setCell ⟨w5.heap.size, i, none⟩ x) from fun W i x h => ⟨h.1.far1 HG5.out.1.bel.size HNE.out x, h.2.setCell (p := ⟨w5.heap.size, i, none⟩) (Nat.le_of_lt HLT.out) x⟩)
    have HZ1 := Lib.hid (show Blk (w5.alloc (.cells #[.slice none 0 0, .slice none 0 0, .slice none 0 0, .slice none 0 0, .slice none 0 0, .int .i64 0, .string ⟨#[]⟩, .string ⟨#[]⟩, .string ⟨#[]⟩, .bool false, .int .i64 0, .int .i64 0, .int .i64 0, .slice none 0 0] 33)).drew w5.heap.size 33 #[.slice none 0 0, .slice none 0 0, .slice none 0 0, .slice none 0 0, .slice none 0 0, .int .i64 0, .string ⟨#[]⟩, .string ⟨#[]⟩, .string ⟨#[]⟩, .bool false, .int .i64 0, .int .i64 0, .int .i64 0, .slice none 0 0] from (Blk.new w5 33 #[.slice none 0 0, .slice none 0 0, .slice none 0 0, .slice none 0 0, .slice none 0 0, .int .i64 0, .string ⟨#[]⟩, .string ⟨#[]⟩, .string ⟨#[]⟩, .bool false, .int .i64 0, .int .i64 0, .int .i64 0, .slice none 0 0]).drew)
    obtain ⟨k0, k1, k2, k3⟩ := HSS.out _ HG5.out

    refine wp_region_G (S1 := fun W => W.cell? ⟨w2.heap.size, 0, none⟩ = some (.slice (some ⟨g1, 0, none⟩) N1 c1) ∧ W.cell? ⟨w2.heap.size, 1, none⟩ = some (.slice (some ⟨g2, 0, none⟩) N2 c2) ∧ W.cell? ⟨w2.heap.size, 2, none⟩ = some (.slice (some ⟨g3, 0, none⟩) R c3) ∧ W.cell? ⟨w.heap.size + 1, 3, none⟩ = some (.int .i64 how)) (S2 := fun _ => True) (d := 99) (by kernel_rfl) (HSS.out _ (HGd.out _ HG5.out)) trivial (fun hT => ?_)
    refine wpAnyG_take1d (i := 0) (v := ?_) rfl rfl (by kernel_rfl) (by kernel_rfl) (by kernel_rfl) (by kernel_rfl) (fun _ _ _ h => h) (Or.inl ⟨by rfl, ?_⟩) (by assumption) (fun hT => ?_)
    rotate_left
    · intro w hSw
      (try dsimp only at hSw)
      go_simp
      (try with_reducible rfl)
    (try simp only [Act.put, List.setIfInBounds_toArray, List.set_cons_zero, List.set_cons_succ])
    refine wpAnyG_take1d (i := 1) (v := ?_) rfl rfl (by kernel_rfl) (by kernel_rfl) (by kernel_rfl) (by kernel_rfl) (fun _ _ _ h => h) (Or.inl ⟨by rfl, ?_⟩) (by assumption) (fun hT => ?_)
    rotate_left
    · intro w hSw
      (try dsimp only at hSw)
      go_simp
      (try with_reducible rfl)
    (try simp only [Act.put, List.setIfInBounds_toArray, List.set_cons_zero, List.set_cons_succ])
    refine wpAnyG_take1d (i := 2) (v := ?_) rfl rfl (by kernel_rfl) (by kernel_rfl) (by kernel_rfl) (by kernel_rfl) (fun _ _ _ h => h) (Or.inl ⟨by rfl, ?_⟩) (by assumption) (fun hT => ?_)
    rotate_left
    · intro w hSw
      (try dsimp only at hSw)
      go_simp
      (try with_reducible rfl)
    (try simp only [Act.put, List.setIfInBounds_toArray, List.set_cons_zero, List.set_cons_succ])
    refine wpAnyG_take1d (i := 3) (v := ?_) rfl rfl (by kernel_rfl) (by kernel_rfl) (by kernel_rfl) (by kernel_rfl) (fun _ _ _ h => h) (Or.inl ⟨by rfl, ?_⟩) (by assumption) (fun hT => ?_)
    rotate_left
    · intro w hSw
      (try dsimp only at hSw)
      go_simp
      (try with_reducible rfl)
    (try simp only [Act.put, List.setIfInBounds_toArray, List.set_cons_zero, List.set_cons_succ])
    refine wpAnyG_take1d (i := 4) (v := ?_) rfl rfl (by kernel_rfl) (by kernel_rfl) (by kernel_rfl) (by kernel_rfl) (fun _ _ _ h => h) (Or.inl ⟨by rfl, ?_⟩) (by assumption) (fun hT => ?_)
    rotate_left
    · intro w hSw
      (try dsimp only at hSw)
      go_simp
      (try with_reducible rfl)
    (try simp only [Act.put, List.setIfInBounds_toArray, List.set_cons_zero, List.set_cons_succ])
    refine wpAnyG_take1d (i := 5) (v := ?_) rfl rfl (by kernel_rfl) (by kernel_rfl) (by kernel_rfl) (by kernel_rfl) (fun _ _ _ h => h) (Or.inl ⟨by rfl, ?_⟩) (by assumption) (fun hT => ?_)
    rotate_left
    · intro w hSw
      (try dsimp only at hSw)
      go_simp
      (try with_reducible rfl)
    (try simp only [Act.put, List.setIfInBounds_toArray, List.set_cons_zero, List.set_cons_succ])
    refine wpAnyG_take1d (i := 6) (v := ?_) rfl rfl (by kernel_rfl) (by kernel_rfl) (by kernel_rfl) (by kernel_rfl) (fun _ _ _ h => h) (Or.inl ⟨by rfl, ?_⟩) (by assumption) (fun hT => ?_)
    rotate_left
    · intro w hSw
      (try dsimp only at hSw)
      go_simp
      (try with_reducible rfl)
    (try simp only [Act.put, List.setIfInBounds_toArray, List.set_cons_zero, List.set_cons_succ])
    refine wpAnyG_take1d (i := 7) (v := ?_) rfl rfl (by kernel_rfl) (by kernel_rfl) (by kernel_rfl) (by kernel_rfl) (fun _ _ _ h => h) (Or.inl ⟨by rfl, ?_⟩) (by assumption) (fun hT => ?_)
    rotate_left
    · intro w hSw
      (try dsimp only at hSw)
      go_simp
      (try with_reducible rfl)
    (try simp only [Act.put, List.setIfInBounds_toArray, List.set_cons_zero, List.set_cons_succ])
    clear k0 k1 k2 k3
    refine wpAnyG_ready (rs := [8, 10]) (by kernel_rfl) (by simp) ?_
    refine AllG.cons (i := 8) rfl (fun K hK => ?_) (AllG.cons (i := 10) rfl (fun K hK => ?_) AllG.nil)
    · go_simp
      go_at_call 19
      with_reducible refine (HRT.out _ (HGd.out _ HG5.out)).mono ?_
      rintro e w6 ⟨rfl, hb⟩
      have HG6 := Lib.hid (HGs.out _ _ (HGd.out _ HG5.out) hb)
      clear hb
      refine hK.out _ _ ⟨HSS.out _ HG6.out, .inr trivial⟩ (fun hT => ?_)
      clear hK K
      (try simp only [Act.put, List.setIfInBounds_toArray, List.set_cons_zero, List.set_cons_succ])
      refine wpAnyG_take1d (i := 9) (v := ?_) rfl rfl (by kernel_rfl) (by kernel_rfl) (by kernel_rfl) (by kernel_rfl) (fun _ _ _ h => h) (Or.inl ⟨by rfl, ?_⟩) (by assumption) (fun hT => ?_)
      rotate_left
      · intro w hSw
        (try dsimp only at hSw)
        go_simp
        (try with_reducible rfl)
      (try simp only [Act.put, List.setIfInBounds_toArray, List.set_cons_zero, List.set_cons_succ])
      refine wpAnyG_ready (rs := [10]) (by kernel_rfl) (by simp) ?_
      refine AllG.cons (i := 10) rfl (fun K hK => ?_) AllG.nil
      go_simp
      refine hK.out _ _ ⟨HSS.out _ (HGa.out _ _ HG6.out), .inr trivial⟩ (fun hT => ?_)
      clear hK K
      (try simp only [Act.put, List.setIfInBounds_toArray, List.set_cons_zero, List.set_cons_succ])
      refine wpAnyG_ready (rs := [11]) (by kernel_rfl) (by simp) ?_
      refine AllG.cons (i := 11) rfl (fun K hK => ?_) AllG.nil
      go_simp
      refine hK.out _ _ ⟨HSS.out _ (HGa.out _ _ HG6.out), .inr trivial⟩ (fun hT => ?_)
      clear hK K
      (try simp only [Act.put, List.setIfInBounds_toArray, List.set_cons_zero, List.set_cons_succ])
      refine wpAnyG_done (by kernel_rfl) ?_ _
      go_wp2_with fail
      go_meet
      exact ⟨_, rfl, Lib.hid (HG6.out.1.alloc' rfl 33 #[.slice (some ⟨g1, 0, none⟩) N1 c1, .slice (some ⟨g2, 0, none⟩) N2 c2, .slice none 0 0, .slice none 0 0, .slice none 0 0, .int .i64 1, .string tt, .string ⟨#[49]⟩, .string ⟨#[]⟩, .bool false, .int .i64 0, .int .i64 0, .int .i64 0, .slice none 0 0]), Lib.hid (HGa.out _ _ HG6.out).2, Lib.hid (HG6.out.1.lt (g := w2.heap.size) (t := 56) (List.mem_cons_self ..))⟩
    · go_simp
      refine hK.out _ _ ⟨HSS.out _ (HGd.out _ (HGa.out _ _ HG5.out)), .inr trivial⟩ (fun hT => ?_)
      clear hK K
      (try simp only [Act.put, List.setIfInBounds_toArray, List.set_cons_zero, List.set_cons_succ])
      refine wpAnyG_ready (rs := [8]) (by kernel_rfl) (by simp) ?_
      refine AllG.cons (i := 8) rfl (fun K hK => ?_) AllG.nil
      go_simp
      go_at_call 19
      with_reducible refine (HRT.out _ (HGd.out _ (HGa.out _ _ HG5.out))).mono ?_
      rintro e w6 ⟨rfl, hb⟩
      have HG6 := Lib.hid (HGs.out _ _ (HGd.out _ (HGa.out _ _ HG5.out)) hb)
      have hz6 := HZ1.out.later hb
      have HZ6 := Lib.hid hz6
      clear hb
      refine hK.out _ _ ⟨HSS.out _ HG6.out, .inr trivial⟩ (fun hT => ?_)
      clear hK K
      (try simp only [Act.put, List.setIfInBounds_toArray, List.set_cons_zero, List.set_cons_succ])
      refine wpAnyG_take1d (i := 9) (v := ?_) rfl rfl (by kernel_rfl) (by kernel_rfl) (by kernel_rfl) (by kernel_rfl) (fun _ _ _ h => h) (Or.inl ⟨by rfl, ?_⟩) (by assumption) (fun hT => ?_)
      rotate_left
      · intro w hSw
        (try dsimp only at hSw)
        go_simp
        (try with_reducible rfl)
      (try simp only [Act.put, List.setIfInBounds_toArray, List.set_cons_zero, List.set_cons_succ])
      refine wpAnyG_ready (rs := [11]) (by kernel_rfl) (by simp) ?_
      refine AllG.cons (i := 11) rfl (fun K hK => ?_) AllG.nil
      have z0 := hz6.cell 0
      have y0 := hz6.frozen 0
      have z1 := hz6.cell 1
      have y1 := hz6.frozen 1
      have z2 := hz6.cell 2
      have y2 := hz6.frozen 2
      have z3 := hz6.cell 3
      have y3 := hz6.frozen 3
      have z4 := hz6.cell 4
      have y4 := hz6.frozen 4
      have z5 := hz6.cell 5
      have y5 := hz6.frozen 5
      have z6 := hz6.cell 6
      have y6 := hz6.frozen 6
      have z7 := hz6.cell 7
      have y7 := hz6.frozen 7
      have z8 := hz6.cell 8
      have y8 := hz6.frozen 8
      have z9 := hz6.cell 9
      have y9 := hz6.frozen 9
      have z10 := hz6.cell 10
      have y10 := hz6.frozen 10
      have z11 := hz6.cell 11
      have y11 := hz6.frozen 11
      have z12 := hz6.cell 12
      have y12 := hz6.frozen 12
      have z13 := hz6.cell 13
      have y13 := hz6.frozen 13
      clear hz6
      go_simp
      refine hK.out _ _ ⟨HSS.out _ (HGf.out _ _ _ (HGf.out _ _ _ (HGf.out _ _ _ (HGf.out _ _ _ (HGf.out _ _ _ (HGf.out _ _ _ (HGf.out _ _ _ (HGf.out _ _ _ (HGf.out _ _ _ (HGf.out _ _ _ (HGf.out _ _ _ (HGf.out _ _ _ (HGf.out _ _ _ (HGf.out _ _ _ (HG6.out))))))))))))))), .inr trivial⟩ (fun hT => ?_)
      clear hK K z0 y0 z1 y1 z2 y2 z3 y3 z4 y4 z5 y5 z6 y6 z7 y7 z8 y8 z9 y9 z10 y10 z11 y11 z12 y12 z13 y13
      (try simp only [Act.put, List.setIfInBounds_toArray, List.set_cons_zero, List.set_cons_succ])
      refine wpAnyG_done (by kernel_rfl) ?_ _
      go_wp2_with fail
      go_meet
      have cz := HG6.out.1.cons (Nat.le_trans HG5.out.1.bel.size (Nat.le_refl _)) HZ6.out

      have cz : Loc w ((w5.heap.size, 33, #[(.slice (some ⟨g1, 0, none⟩) N1 c1), (.slice none 0 0), (.slice none 0 0), (.slice none 0 0), (.slice none 0 0), (.int .i64 0), (.string ⟨#[]⟩), (.string ⟨#[]⟩), (.string ⟨#[]⟩), (.bool false), (.int .i64 0), (.int .i64 0), (.int .i64 0), (.slice none 0 0)]) :: ((w2.heap.size, 56, #[(.slice (some ⟨g1, 0, none⟩) N1 c1), (.slice (some ⟨g2, 0, none⟩) N2 c2), (.slice (some ⟨g3, 0, none⟩) R c3)]) :: [(w.heap.size + 1 + 1, 33, #[.slice none 0 0, .slice none 0 0, .slice none 0 0, .slice none 0 0, .slice none 0 0, .int .i64 0, .string ⟨#[]⟩, .string ⟨#[]⟩, .string ⟨#[]⟩, .bool false, .int .i64 0, .int .i64 0, .int .i64 0, .slice none 0 0]), (w.heap.size + 1, 30, #[.slice (some ⟨rb, ro, none⟩) 1 rc, .slice (some ⟨cb, co, none⟩) 1 cc, .int .i64 2, .int .i64 how]), (w.heap.size, 27, #[.int .i64 k, .string num, .string den, .string text, .bool on, .int .i64 code, .int .i64 rows, .int .i64 cols, .slice A n c])])) _ := cz.set1 (i := 0) (fun x hx => Nat.ne_of_lt (HNE.out x hx)) (.slice (some ⟨g1, 0, none⟩) N1 c1)
      have cz : Loc w ((w5.heap.size, 33, #[(.slice (some ⟨g1, 0, none⟩) N1 c1), (.slice (some ⟨g2, 0, none⟩) N2 c2), (.slice none 0 0), (.slice none 0 0), (.slice none 0 0), (.int .i64 0), (.string ⟨#[]⟩), (.string ⟨#[]⟩), (.string ⟨#[]⟩), (.bool false), (.int .i64 0), (.int .i64 0), (.int .i64 0), (.slice none 0 0)]) :: ((w2.heap.size, 56, #[(.slice (some ⟨g1, 0, none⟩) N1 c1), (.slice (some ⟨g2, 0, none⟩) N2 c2), (.slice (some ⟨g3, 0, none⟩) R c3)]) :: [(w.heap.size + 1 + 1, 33, #[.slice none 0 0, .slice none 0 0, .slice none 0 0, .slice none 0 0, .slice none 0 0, .int .i64 0, .string ⟨#[]⟩, .string ⟨#[]⟩, .string ⟨#[]⟩, .bool false, .int .i64 0, .int .i64 0, .int .i64 0, .slice none 0 0]), (w.heap.size + 1, 30, #[.slice (some ⟨rb, ro, none⟩) 1 rc, .slice (some ⟨cb, co, none⟩) 1 cc, .int .i64 2, .int .i64 how]), (w.heap.size, 27, #[.int .i64 k, .string num, .string den, .string text, .bool on, .int .i64 code, .int .i64 rows, .int .i64 cols, .slice A n c])])) _ := cz.set1 (i := 1) (fun x hx => Nat.ne_of_lt (HNE.out x hx)) (.slice (some ⟨g2, 0, none⟩) N2 c2)
      have cz : Loc w ((w5.heap.size, 33, #[(.slice (some ⟨g1, 0, none⟩) N1 c1), (.slice (some ⟨g2, 0, none⟩) N2 c2), (.slice none 0 0), (.slice none 0 0), (.slice none 0 0), (.int .i64 0), (.string ⟨#[]⟩), (.string ⟨#[]⟩), (.string ⟨#[]⟩), (.bool false), (.int .i64 0), (.int .i64 0), (.int .i64 0), (.slice none 0 0)]) :: ((w2.heap.size, 56, #[(.slice (some ⟨g1, 0, none⟩) N1 c1), (.slice (some ⟨g2, 0, none⟩) N2 c2), (.slice (some ⟨g3, 0, none⟩) R c3)]) :: [(w.heap.size + 1 + 1, 33, #[.slice none 0 0, .slice none 0 0, .slice none 0 0, .slice none 0 0, .slice none 0 0, .int .i64 0, .string ⟨#[]⟩, .string ⟨#[]⟩, .string ⟨#[]⟩, .bool false, .int .i64 0, .int .i64 0, .int .i64 0, .slice none 0 0]), (w.heap.size + 1, 30, #[.slice (some ⟨rb, ro, none⟩) 1 rc, .slice (some ⟨cb, co, none⟩) 1 cc, .int .i64 2, .int .i64 how]), (w.heap.size, 27, #[.int .i64 k, .string num, .string den, .string text, .bool on, .int .i64 code, .int .i64 rows, .int .i64 cols, .slice A n c])])) _ := cz.set1 (i := 2) (fun x hx => Nat.ne_of_lt (HNE.out x hx)) (.slice none 0 0)
      have cz : Loc w ((w5.heap.size, 33, #[(.slice (some ⟨g1, 0, none⟩) N1 c1), (.slice (some ⟨g2, 0, none⟩) N2 c2), (.slice none 0 0), (.slice none 0 0), (.slice none 0 0), (.int .i64 0), (.string ⟨#[]⟩), (.string ⟨#[]⟩), (.string ⟨#[]⟩), (.bool false), (.int .i64 0), (.int .i64 0), (.int .i64 0), (.slice none 0 0)]) :: ((w2.heap.size, 56, #[(.slice (some ⟨g1, 0, none⟩) N1 c1), (.slice (some ⟨g2, 0, none⟩) N2 c2), (.slice (some ⟨g3, 0, none⟩) R c3)]) :: [(w.heap.size + 1 + 1, 33, #[.slice none 0 0, .slice none 0 0, .slice none 0 0, .slice none 0 0, .slice none 0 0, .int .i64 0, .string ⟨#[]⟩, .string ⟨#[]⟩, .string ⟨#[]⟩, .bool false, .int .i64 0, .int .i64 0, .int .i64 0, .slice none 0 0]), (w.heap.size + 1, 30, #[.slice (some ⟨rb, ro, none⟩) 1 rc, .slice (some ⟨cb, co, none⟩) 1 cc, .int .i64 2, .int .i64 how]), (w.heap.size, 27, #[.int .i64 k, .string num, .string den, .string text, .bool on, .int .i64 code, .int .i64 rows, .int .i64 cols, .slice A n c])])) _ := cz.set1 (i := 3) (fun x hx => Nat.ne_of_lt (HNE.out x hx)) (.slice none 0 0)
      have cz : Loc w ((w5.heap.size, 33, #[(.slice (some ⟨g1, 0, none⟩) N1 c1), (.slice (some ⟨g2, 0, none⟩) N2 c2), (.slice none 0 0), (.slice none 0 0), (.slice none 0 0), (.int .i64 0), (.string ⟨#[]⟩), (.string ⟨#[]⟩), (.string ⟨#[]⟩), (.bool false), (.int .i64 0), (.int .i64 0), (.int .i64 0), (.slice none 0 0)]) :: ((w2.heap.size, 56, #[(.slice (some ⟨g1, 0, none⟩) N1 c1), (.slice (some ⟨g2, 0, none⟩) N2 c2), (.slice (some ⟨g3, 0, none⟩) R c3)]) :: [(w.heap.size + 1 + 1, 33, #[.slice none 0 0, .slice none 0 0, .slice none 0 0, .slice none 0 0, .slice none 0 0, .int .i64 0, .string ⟨#[]⟩, .string ⟨#[]⟩, .string ⟨#[]⟩, .bool false, .int .i64 0, .int .i64 0, .int .i64 0, .slice none 0 0]), (w.heap.size + 1, 30, #[.slice (some ⟨rb, ro, none⟩) 1 rc, .slice (some ⟨cb, co, none⟩) 1 cc, .int .i64 2, .int .i64 how]), (w.heap.size, 27, #[.int .i64 k, .string num, .string den, .string text, .bool on, .int .i64 code, .int .i64 rows, .int .i64 cols, .slice A n c])])) _ := cz.set1 (i := 4) (fun x hx => Nat.ne_of_lt (HNE.out x hx)) (.slice none 0 0)
      have cz : Loc w ((w5.heap.size, 33, #[(.slice (some ⟨g1, 0, none⟩) N1 c1), (.slice (some ⟨g2, 0, none⟩) N2 c2), (.slice none 0 0), (.slice none 0 0), (.slice none 0 0), (.int .i64 1), (.string ⟨#[]⟩), (.string ⟨#[]⟩), (.string ⟨#[]⟩), (.bool false), (.int .i64 0), (.int .i64 0), (.int .i64 0), (.slice none 0 0)]) :: ((w2.heap.size, 56, #[(.slice (some ⟨g1, 0, none⟩) N1 c1), (.slice (some ⟨g2, 0, none⟩) N2 c2), (.slice (some ⟨g3, 0, none⟩) R c3)]) :: [(w.heap.size + 1 + 1, 33, #[.slice none 0 0, .slice none 0 0, .slice none 0 0, .slice none 0 0, .slice none 0 0, .int .i64 0, .string ⟨#[]⟩, .string ⟨#[]⟩, .string ⟨#[]⟩, .bool false, .int .i64 0, .int .i64 0, .int .i64 0, .slice none 0 0]), (w.heap.size + 1, 30, #[.slice (some ⟨rb, ro, none⟩) 1 rc, .slice (some ⟨cb, co, none⟩) 1 cc, .int .i64 2, .int .i64 how]), (w.heap.size, 27, #[.int .i64 k, .string num, .string den, .string text, .bool on, .int .i64 code, .int .i64 rows, .int .i64 cols, .slice A n c])])) _ := cz.set1 (i := 5) (fun x hx => Nat.ne_of_lt (HNE.out x hx)) (.int .i64 1)
      have cz : Loc w ((w5.heap.size, 33, #[(.slice (some ⟨g1, 0, none⟩) N1 c1), (.slice (some ⟨g2, 0, none⟩) N2 c2), (.slice none 0 0), (.slice none 0 0), (.slice none 0 0), (.int .i64 1), (.string tt), (.string ⟨#[]⟩), (.string ⟨#[]⟩), (.bool false), (.int .i64 0), (.int .i64 0), (.int .i64 0), (.slice none 0 0)]) :: ((w2.heap.size, 56, #[(.slice (some ⟨g1, 0, none⟩) N1 c1), (.slice (some ⟨g2, 0, none⟩) N2 c2), (.slice (some ⟨g3, 0, none⟩) R c3)]) :: [(w.heap.size + 1 + 1, 33, #[.slice none 0 0, .slice none 0 0, .slice none 0 0, .slice none 0 0, .slice none 0 0, .int .i64 0, .string ⟨#[]⟩, .string ⟨#[]⟩, .string ⟨#[]⟩, .bool false, .int .i64 0, .int .i64 0, .int .i64 0, .slice none 0 0]), (w.heap.size + 1, 30, #[.slice (some ⟨rb, ro, none⟩) 1 rc, .slice (some ⟨cb, co, none⟩) 1 cc, .int .i64 2, .int .i64 how]), (w.heap.size, 27, #[.int .i64 k, .string num, .string den, .string text, .bool on, .int .i64 code, .int .i64 rows, .int .i64 cols, .slice A n c])])) _ := cz.set1 (i := 6) (fun x hx => Nat.ne_of_lt (HNE.out x hx)) (.string tt)
      have cz : Loc w ((w5.heap.size, 33, #[(.slice (some ⟨g1, 0, none⟩) N1 c1), (.slice (some ⟨g2, 0, none⟩) N2 c2), (.slice none 0 0), (.slice none 0 0), (.slice none 0 0), (.int .i64 1), (.string tt), (.string ⟨#[49]⟩), (.string ⟨#[]⟩), (.bool false), (.int .i64 0), (.int .i64 0), (.int .i64 0), (.slice none 0 0)]) :: ((w2.heap.size, 56, #[(.slice (some ⟨g1, 0, none⟩) N1 c1), (.slice (some ⟨g2, 0, none⟩) N2 c2), (.slice (some ⟨g3, 0, none⟩) R c3)]) :: [(w.heap.size + 1 + 1, 33, #[.slice none 0 0, .slice none 0 0, .slice none 0 0, .slice none 0 0, .slice none 0 0, .int .i64 0, .string ⟨#[]⟩, .string ⟨#[]⟩, .string ⟨#[]⟩, .bool false, .int .i64 0, .int .i64 0, .int .i64 0, .slice none 0 0]), (w.heap.size + 1, 30, #[.slice (some ⟨rb, ro, none⟩) 1 rc, .slice (some ⟨cb, co, none⟩) 1 cc, .int .i64 2, .int .i64 how]), (w.heap.size, 27, #[.int .i64 k, .string num, .string den, .string text, .bool on, .int .i64 code, .int .i64 rows, .int .i64 cols, .slice A n c])])) _ := cz.set1 (i := 7) (fun x hx => Nat.ne_of_lt (HNE.out x hx)) (.string ⟨#[49]⟩)
      have cz : Loc w ((w5.heap.size, 33, #[(.slice (some ⟨g1, 0, none⟩) N1 c1), (.slice (some ⟨g2, 0, none⟩) N2 c2), (.slice none 0 0), (.slice none 0 0), (.slice none 0 0), (.int .i64 1), (.string tt), (.string ⟨#[49]⟩), (.string ⟨#[]⟩), (.bool false), (.int .i64 0), (.int .i64 0), (.int .i64 0), (.slice none 0 0)]) :: ((w2.heap.size, 56, #[(.slice (some ⟨g1, 0, none⟩) N1 c1), (.slice (some ⟨g2, 0, none⟩) N2 c2), (.slice (some ⟨g3, 0, none⟩) R c3)]) :: [(w.heap.size + 1 + 1, 33, #[.slice none 0 0, .slice none 0 0, .slice none 0 0, .slice none 0 0, .slice none 0 0, .int .i64 0, .string ⟨#[]⟩, .string ⟨#[]⟩, .string ⟨#[]⟩, .bool false, .int .i64 0, .int .i64 0, .int .i64 0, .slice none 0 0]), (w.heap.size + 1, 30, #[.slice (some ⟨rb, ro, none⟩) 1 rc, .slice (some ⟨cb, co, none⟩) 1 cc, .int .i64 2, .int .i64 how]), (w.heap.size, 27, #[.int .i64 k, .string num, .string den, .string text, .bool on, .int .i64 code, .int .i64 rows, .int .i64 cols, .slice A n c])])) _ := cz.set1 (i := 8) (fun x hx => Nat.ne_of_lt (HNE.out x hx)) (.string ⟨#[]⟩)
      have cz : Loc w ((w5.heap.size, 33, #[(.slice (some ⟨g1, 0, none⟩) N1 c1), (.slice (some ⟨g2, 0, none⟩) N2 c2), (.slice none 0 0), (.slice none 0 0), (.slice none 0 0), (.int .i64 1), (.string tt), (.string ⟨#[49]⟩), (.string ⟨#[]⟩), (.bool false), (.int .i64 0), (.int .i64 0), (.int .i64 0), (.slice none 0 0)]) :: ((w2.heap.size, 56, #[(.slice (some ⟨g1, 0, none⟩) N1 c1), (.slice (some ⟨g2, 0, none⟩) N2 c2), (.slice (some ⟨g3, 0, none⟩) R c3)]) :: [(w.heap.size + 1 + 1, 33, #[.slice none 0 0, .slice none 0 0, .slice none 0 0, .slice none 0 0, .slice none 0 0, .int .i64 0, .string ⟨#[]⟩, .string ⟨#[]⟩, .string ⟨#[]⟩, .bool false, .int .i64 0, .int .i64 0, .int .i64 0, .slice none 0 0]), (w.heap.size + 1, 30, #[.slice (some ⟨rb, ro, none⟩) 1 rc, .slice (some ⟨cb, co, none⟩) 1 cc, .int .i64 2, .int .i64 how]), (w.heap.size, 27, #[.int .i64 k, .string num, .string den, .string text, .bool on, .int .i64 code, .int .i64 rows, .int .i64 cols, .slice A n c])])) _ := cz.set1 (i := 9) (fun x hx => Nat.ne_of_lt (HNE.out x hx)) (.bool false)
      have cz : Loc w ((w5.heap.size, 33, #[(.slice (some ⟨g1, 0, none⟩) N1 c1), (.slice (some ⟨g2, 0, none⟩) N2 c2), (.slice none 0 0), (.slice none 0 0), (.slice none 0 0), (.int .i64 1), (.string tt), (.string ⟨#[49]⟩), (.string ⟨#[]⟩), (.bool false), (.int .i64 0), (.int .i64 0), (.int .i64 0), (.slice none 0 0)]) :: ((w2.heap.size, 56, #[(.slice (some ⟨g1, 0, none⟩) N1 c1), (.slice (some ⟨g2, 0, none⟩) N2 c2), (.slice (some ⟨g3, 0, none⟩) R c3)]) :: [(w.heap.size + 1 + 1, 33, #[.slice none 0 0, .slice none 0 0, .slice none 0 0, .slice none 0 0, .slice none 0 0, .int .i64 0, .string ⟨#[]⟩, .string ⟨#[]⟩, .string ⟨#[]⟩, .bool false, .int .i64 0, .int .i64 0, .int .i64 0, .slice none 0 0]), (w.heap.size + 1, 30, #[.slice (some ⟨rb, ro, none⟩) 1 rc, .slice (some ⟨cb, co, none⟩) 1 cc, .int .i64 2, .int .i64 how]), (w.heap.size, 27, #[.int .i64 k, .string num, .string den, .string text, .bool on, .int .i64 code, .int .i64 rows, .int .i64 cols, .slice A n c])])) _ := cz.set1 (i := 10) (fun x hx => Nat.ne_of_lt (HNE.out x hx)) (.int .i64 0)
      have cz : Loc w ((w5.heap.size, 33, #[(.slice (some ⟨g1, 0, none⟩) N1 c1), (.slice (some ⟨g2, 0, none⟩) N2 c2), (.slice none 0 0), (.slice none 0 0), (.slice none 0 0), (.int .i64 1), (.string tt), (.string ⟨#[49]⟩), (.string ⟨#[]⟩), (.bool false), (.int .i64 0), (.int .i64 0), (.int .i64 0), (.slice none 0 0)]) :: ((w2.heap.size, 56, #[(.slice (some ⟨g1, 0, none⟩) N1 c1), (.slice (some ⟨g2, 0, none⟩) N2 c2), (.slice (some ⟨g3, 0, none⟩) R c3)]) :: [(w.heap.size + 1 + 1, 33, #[.slice none 0 0, .slice none 0 0, .slice none 0 0, .slice none 0 0, .slice none 0 0, .int .i64 0, .string ⟨#[]⟩, .string ⟨#[]⟩, .string ⟨#[]⟩, .bool false, .int .i64 0, .int .i64 0, .int .i64 0, .slice none 0 0]), (w.heap.size + 1, 30, #[.slice (some ⟨rb, ro, none⟩) 1 rc, .slice (some ⟨cb, co, none⟩) 1 cc, .int .i64 2, .int .i64 how]), (w.heap.size, 27, #[.int .i64 k, .string num, .string den, .string text, .bool on, .int .i64 code, .int .i64 rows, .int .i64 cols, .slice A n c])])) _ := cz.set1 (i := 11) (fun x hx => Nat.ne_of_lt (HNE.out x hx)) (.int .i64 0)
      have cz : Loc w ((w5.heap.size, 33, #[(.slice (some ⟨g1, 0, none⟩) N1 c1), (.slice (some ⟨g2, 0, none⟩) N2 c2), (.slice none 0 0), (.slice none 0 0), (.slice none 0 0), (.int .i64 1), (.string tt), (.string ⟨#[49]⟩), (.string ⟨#[]⟩), (.bool false), (.int .i64 0), (.int .i64 0), (.int .i64 0), (.slice none 0 0)]) :: ((w2.heap.size, 56, #[(.slice (some ⟨g1, 0, none⟩) N1 c1), (.slice (some ⟨g2, 0, none⟩) N2 c2), (.slice (some ⟨g3, 0, none⟩) R c3)]) :: [(w.heap.size + 1 + 1, 33, #[.slice none 0 0, .slice none 0 0, .slice none 0 0, .slice none 0 0, .slice none 0 0, .int .i64 0, .string ⟨#[]⟩, .string ⟨#[]⟩, .string ⟨#[]⟩, .bool false, .int .i64 0, .int .i64 0, .int .i64 0, .slice none 0 0]), (w.heap.size + 1, 30, #[.slice (some ⟨rb, ro, none⟩) 1 rc, .slice (some ⟨cb, co, none⟩) 1 cc, .int .i64 2, .int .i64 how]), (w.heap.size, 27, #[.int .i64 k, .string num, .string den, .string text, .bool on, .int .i64 code, .int .i64 rows, .int .i64 cols, .slice A n c])])) _ := cz.set1 (i := 12) (fun x hx => Nat.ne_of_lt (HNE.out x hx)) (.int .i64 0)
      have cz : Loc w ((w5.heap.size, 33, #[(.slice (some ⟨g1, 0, none⟩) N1 c1), (.slice (some ⟨g2, 0, none⟩) N2 c2), (.slice none 0 0), (.slice none 0 0), (.slice none 0 0), (.int .i64 1), (.string tt), (.string ⟨#[49]⟩), (.string ⟨#[]⟩), (.bool false), (.int .i64 0), (.int .i64 0), (.int .i64 0), (.slice none 0 0)]) :: ((w2.heap.size, 56, #[(.slice (some ⟨g1, 0, none⟩) N1 c1), (.slice (some ⟨g2, 0, none⟩) N2 c2), (.slice (some ⟨g3, 0, none⟩) R c3)]) :: [(w.heap.size + 1 + 1, 33, #[.slice none 0 0, .slice none 0 0, .slice none 0 0, .slice none 0 0, .slice none 0 0, .int .i64 0, .string ⟨#[]⟩, .string ⟨#[]⟩, .string ⟨#[]⟩, .bool false, .int .i64 0, .int .i64 0, .int .i64 0, .slice none 0 0]), (w.heap.size + 1, 30, #[.slice (some ⟨rb, ro, none⟩) 1 rc, .slice (some ⟨cb, co, none⟩) 1 cc, .int .i64 2, .int .i64 how]), (w.heap.size, 27, #[.int .i64 k, .string num, .string den, .string text, .bool on, .int .i64 code, .int .i64 rows, .int .i64 cols, .slice A n c])])) _ := cz.set1 (i := 13) (fun x hx => Nat.ne_of_lt (HNE.out x hx)) (.slice none 0 0)
      exact ⟨_, rfl, Lib.hid cz, Lib.hid (HGf.out _ _ _ (HGf.out _ _ _ (HGf.out _ _ _ (HGf.out _ _ _ (HGf.out _ _ _ (HGf.out _ _ _ (HGf.out _ _ _ (HGf.out _ _ _ (HGf.out _ _ _ (HGf.out _ _ _ (HGf.out _ _ _ (HGf.out _ _ _ (HGf.out _ _ _ (HGf.out _ _ _ (HG6.out))))))))))))))).2, HLT⟩
  case rest =>
    clear HG5 HGd HGa HGs HRT HSS HLT l5
    obtain ⟨tB, rfl, HLa, HBa, HTB⟩ := hcut
    go_upto_region 9 with fail
    rename World => wx
    obtain ⟨NM, hNM⟩ : ∃ x, x = N1 * N2 := ⟨_, rfl⟩
    have hNZ : (N1 : Int) * (N2 : Int) = (NM : Int) := by rw [hNM]; push_cast; rfl
    have hnm : NM ≤ 196 := by rw [hNM]; exact Nat.le_trans (Nat.mul_le_mul (show N1 ≤ 14 by omega) (show N2 ≤ 14 by omega)) (by decide)
    have HNM := Lib.hid hNM
    clear hNM
    have HLW := Lib.hid (show Loc w2 [(tB, 33, #[.slice (some ⟨g1, 0, none⟩) N1 c1, .slice (some ⟨g2, 0, none⟩) N2 c2, .slice none 0 0, .slice none 0 0, .slice none 0 0, .int .i64 1, .string tt, .string ⟨#[49]⟩, .string ⟨#[]⟩, .bool false, .int .i64 0, .int .i64 0, .int .i64 0, .slice none 0 0]), (w2.heap.size, 56, #[(.slice (some ⟨g1, 0, none⟩) N1 c1), (.slice (some ⟨g2, 0, none⟩) N2 c2), (.slice (some ⟨g3, 0, none⟩) R c3)])] wx from ⟨HBa.out, fun x hx => by
      simp only [List.mem_cons, List.not_mem_nil, or_false] at hx
      rcases hx with rfl | rfl
      · exact ⟨Nat.le_of_lt HTB.out, HLa.out.blk (List.mem_cons_self ..)⟩
      · exact ⟨Nat.le_refl _, HLa.out.blk (List.mem_cons_of_mem _ (List.mem_cons_self ..))⟩⟩)
    have HOW := Lib.hid (show ∀ x ∈ ([(tB, 33, #[.slice (some ⟨g1, 0, none⟩) N1 c1, .slice (some ⟨g2, 0, none⟩) N2 c2, .slice none 0 0, .slice none 0 0, .slice none 0 0, .int .i64 1, .string tt, .string ⟨#[49]⟩, .string ⟨#[]⟩, .bool false, .int .i64 0, .int .i64 0, .int .i64 0, .slice none 0 0]), (w2.heap.size, 56, #[(.slice (some ⟨g1, 0, none⟩) N1 c1), (.slice (some ⟨g2, 0, none⟩) N2 c2), (.slice (some ⟨g3, 0, none⟩) R c3)])] : List (Nat × TypeId × Array Value)), x.1 < wx.heap.size from fun x hx => (HLW.out.2 x hx).2.lt)
    have HLO := Lib.hid HBa.out.size
    clear HLa HBa
    go_cut [11, 12, 13] (fun u11 u12 u13 wz => ∃ (h1 h2 h3 : Nat), u11 = .slice (some ⟨h1, 0, none⟩) NM NM ∧ u12 = .slice (some ⟨h2, 0, none⟩) N1 N1 ∧ u13 = .slice (some ⟨h3, 0, none⟩) N2 N2 ∧ Hid (BS w2 wz [(tB, 33, #[.slice (some ⟨g1, 0, none⟩) N1 c1, .slice (some ⟨g2, 0, none⟩) N2 c2, .slice none 0 0, .slice none 0 0, .slice none 0 0, .int .i64 1, .string tt, .string ⟨#[49]⟩, .string ⟨#[]⟩, .bool false, .int .i64 0, .int .i64 0, .int .i64 0, .slice none 0 0]), (w2.heap.size, 56, #[(.slice (some ⟨g1, 0, none⟩) N1 c1), (.slice (some ⟨g2, 0, none⟩) N2 c2), (.slice (some ⟨g3, 0, none⟩) R c3)])] wx.heap.size (NM + N1 + N2) h1 NM h2 N1 h3 N2 (fun _ => (none, 0, 0)) (fun _ => []) (fun _ => (none, 0, 0)) (fun _ => (none, 0, 0)) (fun _ => (none, 0, 0))) ∧ Hid (h1 ≠ h2 ∧ h1 ≠ h3 ∧ h2 ≠ h3))
    case first =>
      have hwr : IntKind.i64.wrap (NM : Int) = (NM : Int) := IntWalk.i64_in _ (by omega)
      refine wp_region_G (S1 := fun _ => True) (S2 := fun _ => True) (d := 99) (by kernel_rfl) trivial trivial (fun hT => ?_)
      refine wpAnyG_take1d (i := 0) (v := ?_) rfl rfl (by kernel_rfl) (by kernel_rfl) (by kernel_rfl) (by kernel_rfl) (fun _ _ _ h => h) (Or.inl ⟨by rfl, ?_⟩) (by assumption) (fun hT => ?_)
      rotate_left
      · intro w hSw
        (try dsimp only at hSw)
        go_simp
        (try with_reducible rfl)
      (try simp only [Act.put, List.setIfInBounds_toArray, List.set_cons_zero, List.set_cons_succ])
      refine wpAnyG_take1d (i := 1) (v := ?_) rfl rfl (by kernel_rfl) (by kernel_rfl) (by kernel_rfl) (by kernel_rfl) (fun _ _ _ h => h) (Or.inl ⟨by rfl, ?_⟩) (by assumption) (fun hT => ?_)
      rotate_left
      · intro w hSw
        (try dsimp only at hSw)
        go_simp
        (try with_reducible rfl)
      (try simp only [Act.put, List.setIfInBounds_toArray, List.set_cons_zero, List.set_cons_succ])
      refine wpAnyG_take1d (i := 2) (v := .int .i64 (NM : Int)) rfl rfl (by kernel_rfl) (by kernel_rfl) (by kernel_rfl) (by kernel_rfl) (fun _ _ _ h => h) (Or.inl ⟨by rfl, ?_⟩) (by assumption) (fun hT => ?_)
      · intro w hSw
        (try dsimp only at hSw)
        go_simp
        (try with_reducible rfl)
      (try simp only [Act.put, List.setIfInBounds_toArray, List.set_cons_zero, List.set_cons_succ])
      refine wpAnyG_take1d (i := 4) (v := ?_) rfl rfl (by kernel_rfl) (by kernel_rfl) (by kernel_rfl) (by kernel_rfl) (fun _ _ _ h => h) (Or.inl ⟨by rfl, ?_⟩) (by assumption) (fun hT => ?_)
      rotate_left
      · intro w hSw
        (try dsimp only at hSw)
        go_simp
        (try with_reducible rfl)
      (try simp only [Act.put, List.setIfInBounds_toArray, List.set_cons_zero, List.set_cons_succ])
      refine wpAnyG_take1d (i := 6) (v := ?_) rfl rfl (by kernel_rfl) (by kernel_rfl) (by kernel_rfl) (by kernel_rfl) (fun _ _ _ h => h) (Or.inl ⟨by rfl, ?_⟩) (by assumption) (fun hT => ?_)
      rotate_left
      · intro w hSw
        (try dsimp only at hSw)
        go_simp
        (try with_reducible rfl)
      (try simp only [Act.put, List.setIfInBounds_toArray, List.set_cons_zero, List.set_cons_succ])
      refine wpAnyG_cast (Lsm false false false 0) (by kernel_rfl) ?_
      refine make3 (c := ⟨wx.drew, NM, N1, N2⟩) ⟨(show 107 < 165 by decide), rfl, rfl, rfl, by dsimp only; omega, by dsimp only; omega, by dsimp only; omega⟩ (by kernel_rfl) ⟨⟨_, rfl, rfl, rfl, rfl⟩⟩ ⟨⟨_, rfl, rfl, rfl, rfl⟩⟩ ⟨⟨_, rfl, rfl, rfl, rfl⟩⟩ ⟨⟨_, rfl, rfl, rfl, rfl⟩⟩ ⟨⟨_, rfl, rfl, rfl, rfl⟩⟩ ⟨⟨_, rfl, rfl, rfl, rfl⟩⟩ (fun _ => ⟨trivial, trivial⟩) ?_
      rintro W' h1 h2 h3 a hst
      have hbx : Below wx.heap.size wx W' := (Below.drew (Below.refl _ _)).trans hst.bel
      have HBS := Lib.hid (show BS w2 W' [(tB, 33, #[.slice (some ⟨g1, 0, none⟩) N1 c1, .slice (some ⟨g2, 0, none⟩) N2 c2, .slice none 0 0, .slice none 0 0, .slice none 0 0, .int .i64 1, .string tt, .string ⟨#[49]⟩, .string ⟨#[]⟩, .bool false, .int .i64 0, .int .i64 0, .int .i64 0, .slice none 0 0]), (w2.heap.size, 56, #[(.slice (some ⟨g1, 0, none⟩) N1 c1), (.slice (some ⟨g2, 0, none⟩) N2 c2), (.slice (some ⟨g3, 0, none⟩) R c3)])] wx.heap.size (NM + N1 + N2) h1 NM h2 N1 h3 N2 (fun _ => (none, 0, 0)) (fun _ => []) (fun _ => (none, 0, 0)) (fun _ => (none, 0, 0)) (fun _ => (none, 0, 0)) from ⟨HLW.out.step hbx, Bg.nil _ _ _, (hst.e1 rfl).2, (hst.e2 rfl).2, (hst.e3 rfl).2, hbx.size, HLO.out, HOW.out⟩)
      have HDD := Lib.hid (show h1 ≠ h2 ∧ h1 ≠ h3 ∧ h2 ≠ h3 from ⟨hst.d12 rfl rfl, hst.d13 rfl rfl, hst.d23 rfl rfl⟩)
      obtain rfl := hst.agr.eq (show 107 < 165 by decide) (x58 := (.slice (some ⟨h1, 0, none⟩) NM NM)) (x60 := (.slice (some ⟨h2, 0, none⟩) N1 N1)) (x62 := (.slice (some ⟨h3, 0, none⟩) N2 N2)) (x11 := (.slice (some ⟨h1, 0, none⟩) NM NM)) (x12 := (.slice (some ⟨h2, 0, none⟩) N1 N1)) (x13 := (.slice (some ⟨h3, 0, none⟩) N2 N2)) (hst.e1 rfl).1 (hst.e2 rfl).1 (hst.e3 rfl).1 (hst.t1 (by decide)) (hst.t2 (by decide)) (hst.t3 (by decide))
      clear hst hbx
      (try simp only [Act.put, List.setIfInBounds_toArray, List.set_cons_zero, List.set_cons_succ])
      refine wpAnyG_done (by kernel_rfl) ?_ _
      go_wp2_with fail
      go_meet
      exact ⟨h1, h2, h3, rfl, rfl, rfl, HBS, HDD⟩
    case rest =>
      obtain ⟨h1, h2, h3, rfl, rfl, rfl, HBS, HDD⟩ := hcut
      have HJ := Lib.hid (show Mj w w2 [(w.heap.size + 1 + 1, 33, #[.slice none 0 0, .slice none 0 0, .slice none 0 0, .slice none 0 0, .slice none 0 0, .int .i64 0, .string ⟨#[]⟩, .string ⟨#[]⟩, .string ⟨#[]⟩, .bool false, .int .i64 0, .int .i64 0, .int .i64 0, .slice none 0 0]), (w.heap.size + 1, 30, #[.slice (some ⟨rb, ro, none⟩) 1 rc, .slice (some ⟨cb, co, none⟩) 1 cc, .int .i64 2, .int .i64 how]), (w.heap.size, 27, #[.int .i64 k, .string num, .string den, .string text, .bool on, .int .i64 code, .int .i64 rows, .int .i64 cols, .slice A n c])] tB h1 h2 h3 N1 N2 NM wx.heap.size R RL (.slice (some ⟨g1, 0, none⟩) N1 c1) (.slice (some ⟨g2, 0, none⟩) N2 c2) (.slice (some ⟨g3, 0, none⟩) R c3) K1 K2 N how from ⟨HEN.out, HRE.out, HL2.out, HR2.out, HKA.out, HKB.out, HDD.out.1, HDD.out.2.1, HDD.out.2.2, HNM.out, ⟨_, _, List.mem_cons_of_mem _ (List.mem_cons_self ..)⟩, List.mem_cons_self .., HTB.out, hRl, r1, r2, by omega, by omega, HRW.out, HCLM.out⟩)
      go_step
      exact make10 HJ HTT HBS
end Go.Proofs.YtmapagbmihpbmaaGreatDoor
