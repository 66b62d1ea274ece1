/- pivot.open. -/
import Derived.Test.YtmapagbmihpbmaaGreatDoorGap
import Derived.Test.YtmapagbmihpbmaaGreatDoorGaj
import Derived.Test.YtmapagbmihpbmaaGreatDoorGam
import Derived.Deep.DeepCutAuto
import Derived.Test.YtmapagbmihpbmaaGreatDoorGal
set_option linter.unusedSimpArgs false
set_option linter.unusedVariables false
namespace Go.Proofs.YtmapagbmihpbmaaGreatDoor
open Go.RowKit

/-- A question of one column for the rows and one for the columns. -/
structure Ask where
  rb : Nat
  ro : Nat
  rc : Nat
  cb : Nat
  co : Nat
  cc : Nat
  cr : Nat
  cl : Nat
  how : Int
def Ask.cs (a : Ask) : Array Value := #[.slice (some ⟨a.rb, a.ro, none⟩) 1 a.rc, .slice (some ⟨a.cb, a.co, none⟩) 1 a.cc, .int .i64 2, .int .i64 a.how]
def Ask.v (a : Ask) : Value := .agg a.cs
structure AskAt (W : World) (a : Ask) : Prop where
  r : W.cell? ⟨a.rb, a.ro, none⟩ = some (.int .i64 (a.cr : Int))
  c : W.cell? ⟨a.cb, a.co, none⟩ = some (.int .i64 (a.cl : Int))
  r3 : a.cr < 3
  c3 : a.cl < 3
theorem AskAt.below {w W : World} {a : Ask} (h : AskAt w a) (hb : Below w.heap.size w W) : AskAt W a := ⟨cell_later h.r hb, cell_later h.c hb, h.r3, h.c3⟩
/-- What open answers. -/
def OpenRet (us : List Vl) (cr cl R : Nat) (w : World) (e : Ending) (w' : World) : Prop :=
  ∃ (g1 c1 g2 c2 g3 c3 : Nat), e = .returned (.agg #[.slice (some ⟨g1, 0, none⟩) (keysP (colL us cr R)).length c1, .slice (some ⟨g2, 0, none⟩) (keysP (colL us cl R)).length c2, .slice (some ⟨g3, 0, none⟩) R c3]) ∧ KT w' (.slice (some ⟨g1, 0, none⟩) (keysP (colL us cr R)).length c1) (keysP (colL us cr R)) ∧ KT w' (.slice (some ⟨g2, 0, none⟩) (keysP (colL us cl R)).length c2) (keysP (colL us cl R)) ∧ Reads 12 rmC w' (.slice (some ⟨g3, 0, none⟩) R c3) (recsP us cr cl R) ∧ Below w.heap.size w w'
set_option maxRecDepth 100000 in
set_option maxHeartbeats 16000000 in
theorem open_any (v : Vl) (us : List Vl) (R : Nat) (a : Ask) (w : World) (he : VEnv w) (hs : Src w v us R) (ha : AskAt w a) :
    Calls Tryz.prog 18 #[v.v, a.v] w (OpenRet us a.cr a.cl R w) := by
  have r1 := hs.r1
  have r2 := hs.r2
  have hrows := hs.rows
  have hcols := hs.cols
  obtain ⟨ib, io, hA, hbl, hcell⟩ := hs.at
  have hvn : v.n = (R + 1) * 3 := hs.n.trans hs.len
  obtain ⟨rb, ro, rc, cb, co, cc, cr, cl, how⟩ := a
  dsimp only
  obtain ⟨K1, hK1⟩ : ∃ K, K = keysP (colL us cr R) := ⟨_, rfl⟩
  obtain ⟨K2, hK2⟩ : ∃ K, K = keysP (colL us cl R) := ⟨_, rfl⟩
  obtain ⟨RL, hRL⟩ : ∃ L, L = recsP us cr cl R := ⟨_, rfl⟩
  have h3r := ha.r3
  have h3c := ha.c3
  dsimp only at h3r h3c
  have HG1 := Lib.hid (show ∀ W, Below w.heap.size w W → Calls Tryz.prog 37 #[v.v, .slice (some ⟨rb, ro, none⟩) 1 rc] W fun e w' => ∃ (gx cx : Nat), e = .returned (.slice (some ⟨gx, 0, none⟩) K1.length cx) ∧ KT w' (.slice (some ⟨gx, 0, none⟩) K1.length cx) K1 ∧ Below W.heap.size W w' from fun W hW => by rw [hK1]; exact keys_any v us R cr rb ro rc W (he.below hW) (hs.below hW) h3r (ha.below hW).r)
  have HG2 := Lib.hid (show ∀ W, Below w.heap.size w W → Calls Tryz.prog 37 #[v.v, .slice (some ⟨cb, co, none⟩) 1 cc] W fun e w' => ∃ (gx cx : Nat), e = .returned (.slice (some ⟨gx, 0, none⟩) K2.length cx) ∧ KT w' (.slice (some ⟨gx, 0, none⟩) K2.length cx) K2 ∧ Below W.heap.size W w' from fun W hW => by rw [hK2]; exact keys_any v us R cl cb co cc W (he.below hW) (hs.below hW) h3c (ha.below hW).c)
  have HY1 := Lib.hid (show ∀ i, i ≤ R → ∀ W, Below w.heap.size w W → Calls Tryz.prog 39 #[v.v, .int .i64 (i : Int), .slice (some ⟨rb, ro, none⟩) 1 rc] W fun e w' => ∃ x1 x2 x3, e = .returned (.slice x1 x2 x3) ∧ KR w' (x1, x2, x3) us[i * 3 + cr]! ∧ Below W.heap.size W w' from fun i hi W hW => (key_any v us R i cr rb ro rc W (hs.below hW) hi h3r (ha.below hW).r).mono fun e w' ⟨⟨x1, x2, x3⟩, h1, h2, h3⟩ => ⟨x1, x2, x3, h1, RowOf.kr h2, h3⟩)
  have HY2 := Lib.hid (show ∀ i, i ≤ R → ∀ W, Below w.heap.size w W → Calls Tryz.prog 39 #[v.v, .int .i64 (i : Int), .slice (some ⟨cb, co, none⟩) 1 cc] W fun e w' => ∃ x1 x2 x3, e = .returned (.slice x1 x2 x3) ∧ KR w' (x1, x2, x3) us[i * 3 + cl]! ∧ Below W.heap.size W w' from fun i hi W hW => (key_any v us R i cl cb co cc W (hs.below hW) hi h3c (ha.below hW).c).mono fun e w' ⟨⟨x1, x2, x3⟩, h1, h2, h3⟩ => ⟨x1, x2, x3, h1, RowOf.kr h2, h3⟩)
  have hko : ∀ cr, cr < 3 → ∀ u ∈ colL us cr R, u.ok ∧ u.sz := fun cr h u hu => by
    obtain ⟨i, hi, rfl⟩ := List.mem_map.1 hu
    exact hs.ok _ (hs.mem (by have := List.mem_range.1 hi; omega))
  have HS1 := Lib.hid (show ∀ i, 1 ≤ i → i ≤ R → ∀ (A : Option Addr) (c : Nat) x1 x2 x3 W, Below w.heap.size w W → KRows W (.slice A K1.length c) K1 → KR W (x1, x2, x3) us[i * 3 + cr]! → Calls Tryz.prog 38 #[.slice A K1.length c, .slice x1 x2 x3, .func (.func 40) #[] #[]] W fun e w' => (∃ b, e = .returned (.tuple #[.int .i64 (placeP K1 us[i * 3 + cr]! : Nat), .bool b])) ∧ Below W.heap.size W w' from fun i hi1 hi A c x1 x2 x3 W hW hk hx => by
    have hm := hs.ok _ (hs.mem (i := i * 3 + cr) (by omega))
    refine bsearch_any A _ c K1 (x1, x2, x3) _ W (he.below hW) hk (by rw [hK1]; exact keysP_pos _ (by rw [colL_len]; omega)) (by rw [hK1]; have := keysP_len (colL us cr R); rw [colL_len] at this; omega) (fun x hx => hko cr h3r x (by rw [hK1] at hx; exact keysP_mem _ x hx)) hx hm.1 hm.2)
  have HS2 := Lib.hid (show ∀ i, 1 ≤ i → i ≤ R → ∀ (A : Option Addr) (c : Nat) x1 x2 x3 W, Below w.heap.size w W → KRows W (.slice A K2.length c) K2 → KR W (x1, x2, x3) us[i * 3 + cl]! → Calls Tryz.prog 38 #[.slice A K2.length c, .slice x1 x2 x3, .func (.func 40) #[] #[]] W fun e w' => (∃ b, e = .returned (.tuple #[.int .i64 (placeP K2 us[i * 3 + cl]! : Nat), .bool b])) ∧ Below W.heap.size W w' from fun i hi1 hi A c x1 x2 x3 W hW hk hx => by
    have hm := hs.ok _ (hs.mem (i := i * 3 + cl) (by omega))
    refine bsearch_any A _ c K2 (x1, x2, x3) _ W (he.below hW) hk (by rw [hK2]; exact keysP_pos _ (by rw [colL_len]; omega)) (by rw [hK2]; have := keysP_len (colL us cl R); rw [colL_len] at this; omega) (fun x hx => hko cl h3c x (by rw [hK2] at hx; exact keysP_mem _ x hx)) hx hm.1 hm.2)
  have HRL := Lib.hid (show ∀ i, i < R → RL.take (i + 1) = RL.take i ++ [⟨i + 1, placeP K1 us[(i + 1) * 3 + cr]!, placeP K2 us[(i + 1) * 3 + cl]!, us[(i + 1) * 3 + 2]!⟩] from fun i hi => by
    have h9 : i < RL.length := by rw [hRL]; simpa [recsP] using hi
    rw [← List.take_append_getElem h9]
    congr 2
    subst hRL hK1 hK2
    simp [recsP, recP])
  have hRl : RL.length = R := by rw [hRL]; simp [recsP]
  have HIC := Lib.hid (show ∀ i, i < (R + 1) * 3 → ∀ j, j < 9 → ∀ W, Below w.heap.size w W → W.cell? ⟨ib, io + i * 9 + j, none⟩ = (us[i]!.cs)[j]? from fun i hi j hj W hW => (hW.cell (by exact hbl)).trans (hcell i hi j hj))
  unfold OpenRet
  rw [← hK1, ← hK2, ← hRL]
  clear hK1 hK2 hRL hcell hs ha he hko
  obtain ⟨k, num, den, text, on, code, rows, cols, A, n, c⟩ := v
  dsimp only at hA hcols hrows hvn
  subst hA hcols hrows hvn
  have HG1 := Lib.hid (show ∀ W, Below w.heap.size w W → Calls Tryz.prog 37 #[.agg #[.int .i64 k, .string num, .string den, .string text, .bool on, .int .i64 code, .int .i64 ((R : Int) + 1), .int .i64 3, .slice (some ⟨ib, io, none⟩) ((R + 1) * 3) c], .slice (some ⟨rb, ro, none⟩) 1 rc] W fun e w' => ∃ (gx cx : Nat), e = .returned (.slice (some ⟨gx, 0, none⟩) K1.length cx) ∧ KT w' (.slice (some ⟨gx, 0, none⟩) K1.length cx) K1 ∧ Below W.heap.size W w' from HG1.out)
  have HG2 := Lib.hid (show ∀ W, Below w.heap.size w W → Calls Tryz.prog 37 #[.agg #[.int .i64 k, .string num, .string den, .string text, .bool on, .int .i64 code, .int .i64 ((R : Int) + 1), .int .i64 3, .slice (some ⟨ib, io, none⟩) ((R + 1) * 3) c], .slice (some ⟨cb, co, none⟩) 1 cc] W fun e w' => ∃ (gx cx : Nat), e = .returned (.slice (some ⟨gx, 0, none⟩) K2.length cx) ∧ KT w' (.slice (some ⟨gx, 0, none⟩) K2.length cx) K2 ∧ Below W.heap.size W w' from HG2.out)
  have HY1 := Lib.hid (show ∀ i, i ≤ R → ∀ W, Below w.heap.size w W → Calls Tryz.prog 39 #[.agg #[.int .i64 k, .string num, .string den, .string text, .bool on, .int .i64 code, .int .i64 ((R : Int) + 1), .int .i64 3, .slice (some ⟨ib, io, none⟩) ((R + 1) * 3) c], .int .i64 (i : Int), .slice (some ⟨rb, ro, none⟩) 1 rc] W fun e w' => ∃ x1 x2 x3, e = .returned (.slice x1 x2 x3) ∧ KR w' (x1, x2, x3) us[i * 3 + cr]! ∧ Below W.heap.size W w' from HY1.out)
  have HY2 := Lib.hid (show ∀ i, i ≤ R → ∀ W, Below w.heap.size w W → Calls Tryz.prog 39 #[.agg #[.int .i64 k, .string num, .string den, .string text, .bool on, .int .i64 code, .int .i64 ((R : Int) + 1), .int .i64 3, .slice (some ⟨ib, io, none⟩) ((R + 1) * 3) c], .int .i64 (i : Int), .slice (some ⟨cb, co, none⟩) 1 cc] W fun e w' => ∃ x1 x2 x3, e = .returned (.slice x1 x2 x3) ∧ KR w' (x1, x2, x3) us[i * 3 + cl]! ∧ Below W.heap.size W w' from HY2.out)
  have HL0 := Lib.hid ((((Loc.start w).alloc' rfl 27 #[.int .i64 k, .string num, .string den, .string text, .bool on, .int .i64 code, .int .i64 ((R : Int) + 1), .int .i64 3, .slice (some ⟨ib, io, none⟩) ((R + 1) * 3) c]).alloc' (g := w.heap.size + 1) (by simp) 30 #[.slice (some ⟨rb, ro, none⟩) 1 rc, .slice (some ⟨cb, co, none⟩) 1 cc, .int .i64 2, .int .i64 how]).alloc' (g := w.heap.size + 1 + 1) (by simp) 56 #[.slice none 0 0, .slice none 0 0, .slice none 0 0])
  show Calls Tryz.prog 18 #[.agg #[.int .i64 k, .string num, .string den, .string text, .bool on, .int .i64 code, .int .i64 ((R : Int) + 1), .int .i64 3, .slice (some ⟨ib, io, none⟩) ((R + 1) * 3) c], .agg #[.slice (some ⟨rb, ro, none⟩) 1 rc, .slice (some ⟨cb, co, none⟩) 1 cc, .int .i64 2, .int .i64 how]] w _
  go_enter Tryz.func18, Tryz.ntmps18
  go_upto_region 1 with fail
  go_cut [5] (fun u5 wx => ∃ (z g1 c1 g2 c2 : Nat), u5 = .pointer (some ⟨z, 0, none⟩) ∧ Hid (Loc w ((z, 56, #[(.slice (some ⟨g1, 0, none⟩) K1.length c1), (.slice (some ⟨g2, 0, none⟩) K2.length c2), .slice none 0 0]) :: [(w.heap.size + 1 + 1, 56, #[.slice none 0 0, .slice none 0 0, .slice none 0 0]), (w.heap.size + 1, 30, #[.slice (some ⟨rb, ro, none⟩) 1 rc, .slice (some ⟨cb, co, none⟩) 1 cc, .int .i64 2, .int .i64 how]), (w.heap.size, 27, #[.int .i64 k, .string num, .string den, .string text, .bool on, .int .i64 code, .int .i64 ((R : Int) + 1), .int .i64 3, .slice (some ⟨ib, io, none⟩) ((R + 1) * 3) c])]) wx) ∧ Hid (KT wx (.slice (some ⟨g1, 0, none⟩) K1.length c1) K1) ∧ Hid (KT wx (.slice (some ⟨g2, 0, none⟩) K2.length c2) K2) ∧ w.heap.size + 1 + 1 < z)
  case first =>
    clear HY1 HY2 HS1 HS2 HRL HIC
    revert HL0
    generalize ((w.alloc (.cells #[.int .i64 k, .string num, .string den, .string text, .bool on, .int .i64 code, .int .i64 ((R : Int) + 1), .int .i64 3, .slice (some ⟨ib, io, none⟩) ((R + 1) * 3) c] 27)).alloc (.cells #[.slice (some ⟨rb, ro, none⟩) 1 rc, .slice (some ⟨cb, co, none⟩) 1 cc, .int .i64 2, .int .i64 how] 30)).alloc (.cells #[.slice none 0 0, .slice none 0 0, .slice none 0 0] 56) = W0
    intro HL0

    have HSS := Lib.hid (show ∀ W, Loc w [(w.heap.size + 1 + 1, 56, #[.slice none 0 0, .slice none 0 0, .slice none 0 0]), (w.heap.size + 1, 30, #[.slice (some ⟨rb, ro, none⟩) 1 rc, .slice (some ⟨cb, co, none⟩) 1 cc, .int .i64 2, .int .i64 how]), (w.heap.size, 27, #[.int .i64 k, .string num, .string den, .string text, .bool on, .int .i64 code, .int .i64 ((R : Int) + 1), .int .i64 3, .slice (some ⟨ib, io, none⟩) ((R + 1) * 3) c])] W → W.cell? ⟨w.heap.size, 0, none⟩ = some (.int .i64 k) ∧ W.cell? ⟨w.heap.size, 1, none⟩ = some (.string num) ∧ W.cell? ⟨w.heap.size, 2, none⟩ = some (.string den) ∧ W.cell? ⟨w.heap.size, 3, none⟩ = some (.string text) ∧ W.cell? ⟨w.heap.size, 4, none⟩ = some (.bool on) ∧ W.cell? ⟨w.heap.size, 5, none⟩ = some (.int .i64 code) ∧ W.cell? ⟨w.heap.size, 6, none⟩ = some (.int .i64 ((R : Int) + 1)) ∧ W.cell? ⟨w.heap.size, 7, none⟩ = some (.int .i64 3) ∧ W.cell? ⟨w.heap.size, 8, none⟩ = some (.slice (some ⟨ib, io, none⟩) ((R + 1) * 3) c) ∧ W.cell? ⟨w.heap.size + 1, 0, none⟩ = some (.slice (some ⟨rb, ro, none⟩) 1 rc) ∧ W.cell? ⟨w.heap.size + 1, 1, none⟩ = some (.slice (some ⟨cb, co, none⟩) 1 cc) from fun W h => by
      have hv := h.blk (g := w.heap.size) (t := 27) (List.mem_cons_of_mem _ (List.mem_cons_of_mem _ (List.mem_cons_self ..)))
      have ha := h.blk (g := w.heap.size + 1) (t := 30) (List.mem_cons_of_mem _ (List.mem_cons_self ..))
      exact ⟨hv.cell 0, hv.cell 1, hv.cell 2, hv.cell 3, hv.cell 4, hv.cell 5, hv.cell 6, hv.cell 7, hv.cell 8, ha.cell 0, ha.cell 1⟩)
    obtain ⟨k0, k1, k2, k3, k4, k5, k6, k7, k8, p0, p1⟩ := HSS.out _ HL0.out
    have HN0 := Lib.hid (show ∀ g, w.heap.size + 1 + 1 < g → ∀ x ∈ ([(w.heap.size + 1 + 1, 56, #[.slice none 0 0, .slice none 0 0, .slice none 0 0]), (w.heap.size + 1, 30, #[.slice (some ⟨rb, ro, none⟩) 1 rc, .slice (some ⟨cb, co, none⟩) 1 cc, .int .i64 2, .int .i64 how]), (w.heap.size, 27, #[.int .i64 k, .string num, .string den, .string text, .bool on, .int .i64 code, .int .i64 ((R : Int) + 1), .int .i64 3, .slice (some ⟨ib, io, none⟩) ((R + 1) * 3) c])] : List (Nat × TypeId × Array Value)), x.1 < g from fun g hg x hx => by
      simp only [List.mem_cons, List.not_mem_nil, or_false] at hx
      rcases hx with rfl | rfl | rfl <;> (dsimp only; omega))
    have HZ0 := Lib.hid (show Blk (W0.alloc (.cells #[.slice none 0 0, .slice none 0 0, .slice none 0 0] 56)).drew W0.heap.size 56 #[.slice none 0 0, .slice none 0 0, .slice none 0 0] from (Blk.new W0 56 #[.slice none 0 0, .slice none 0 0, .slice none 0 0]).drew)
    have l0 : w.heap.size + 1 + 1 < W0.heap.size := HL0.out.lt (g := w.heap.size + 1 + 1) (t := 56) (List.mem_cons_self ..)

    go_region_held3 (fun W => W.cell? ⟨w.heap.size, 0, none⟩ = some (.int .i64 k) ∧ W.cell? ⟨w.heap.size, 1, none⟩ = some (.string num) ∧ W.cell? ⟨w.heap.size, 2, none⟩ = some (.string den) ∧ W.cell? ⟨w.heap.size, 3, none⟩ = some (.string text) ∧ W.cell? ⟨w.heap.size, 4, none⟩ = some (.bool on) ∧ W.cell? ⟨w.heap.size, 5, none⟩ = some (.int .i64 code) ∧ W.cell? ⟨w.heap.size, 6, none⟩ = some (.int .i64 ((R : Int) + 1)) ∧ W.cell? ⟨w.heap.size, 7, none⟩ = some (.int .i64 3) ∧ W.cell? ⟨w.heap.size, 8, none⟩ = some (.slice (some ⟨ib, io, none⟩) ((R + 1) * 3) c) ∧ W.cell? ⟨w.heap.size + 1, 0, none⟩ = some (.slice (some ⟨rb, ro, none⟩) 1 rc) ∧ W.cell? ⟨w.heap.size + 1, 1, none⟩ = some (.slice (some ⟨cb, co, none⟩) 1 cc)) (first | exact ⟨by assumption, by assumption, by assumption, by assumption, by assumption, by assumption, by assumption, by assumption, by assumption, by assumption, by assumption⟩ | exact HSS.out _ HL0.out.drew | exact HSS.out _ (HL0.out.alloc0 _).drew | exact HSS.out _ (HL0.out.drew.alloc0 _) | exact HSS.out _ (HL0.out.alloc0 _) | exact HSS.out _ HLA.out | exact HSS.out _ (HLA.out.alloc0 _) | exact HSS.out _ HLB.out | exact HSS.out _ (HLB.out.alloc0 _) | exact HSS.out _ (HLB.out.far3 (by omega) (HN0.out _ l0) _ _ _) | exact HSS.out _ (HLB.out.far3 (by omega) (HN0.out _ l1) _ _ _)) (first | (go_at_call 37; (with_reducible refine (HG1.out _ (by first | exact HL0.out.drew.bel | exact (HL0.out.alloc0 _).drew.bel | exact (HL0.out.drew.alloc0 _).bel)).mono ?_); rintro e w1 ⟨g1, c1, rfl, hk, hb⟩; have HLA := Lib.hid ((by first | exact HL0.out.drew | exact HL0.out | exact (HL0.out.alloc0 _).drew | exact HL0.out.drew.alloc0 _ | exact HL0.out.alloc0 _ : Loc w [(w.heap.size + 1 + 1, 56, #[.slice none 0 0, .slice none 0 0, .slice none 0 0]), (w.heap.size + 1, 30, #[.slice (some ⟨rb, ro, none⟩) 1 rc, .slice (some ⟨cb, co, none⟩) 1 cc, .int .i64 2, .int .i64 how]), (w.heap.size, 27, #[.int .i64 k, .string num, .string den, .string text, .bool on, .int .i64 code, .int .i64 ((R : Int) + 1), .int .i64 3, .slice (some ⟨ib, io, none⟩) ((R + 1) * 3) c])] _).step hb); have HKA := Lib.hid hk; have HBA := Lib.hid hb; have l1 := HLA.out.lt (g := w.heap.size + 1 + 1) (t := 56) (List.mem_cons_self ..); (try ((with_reducible have hq := HZ0.out.later hb); have HZA := Lib.hid hq; clear hq)); clear hk hb) | (go_at_call 37; (with_reducible refine (HG2.out _ (by first | exact HLA.out.bel | exact (HLA.out.alloc0 _).bel)).mono ?_); rintro e w2 ⟨g2, c2, rfl, hk, hb⟩; have HLB := Lib.hid ((by first | exact HLA.out | exact HLA.out.alloc0 _ : Loc w [(w.heap.size + 1 + 1, 56, #[.slice none 0 0, .slice none 0 0, .slice none 0 0]), (w.heap.size + 1, 30, #[.slice (some ⟨rb, ro, none⟩) 1 rc, .slice (some ⟨cb, co, none⟩) 1 cc, .int .i64 2, .int .i64 how]), (w.heap.size, 27, #[.int .i64 k, .string num, .string den, .string text, .bool on, .int .i64 code, .int .i64 ((R : Int) + 1), .int .i64 3, .slice (some ⟨ib, io, none⟩) ((R + 1) * 3) c])] _).step hb); have HKB := Lib.hid hk; have HBB := Lib.hid hb; (first | ((with_reducible have hq := HZA.out.later hb); have HZB := Lib.hid hq; obtain ⟨z0, z1, z2, y0, y1, y2⟩ := hq.three; clear hq) | ((with_reducible have hq := (Blk.new w1 56 #[.slice none 0 0, .slice none 0 0, .slice none 0 0]).later hb); have HZB := Lib.hid hq; obtain ⟨z0, z1, z2, y0, y1, y2⟩ := hq.three; clear hq) | skip); clear hk hb))
    · have hk1 : KT w2 (.slice (some ⟨g1, 0, none⟩) K1.length c1) K1 := (by first | exact HKA.out.later HBB.out | exact (HKA.out.later ((Below.refl _ _).alloc (Nat.le_refl _) _)).later HBB.out)
      have hb2 : ∀ o, Below w2.heap.size w2 (w2.alloc o) := fun o => (Below.refl _ _).alloc (Nat.le_refl _) _
      go_wp2_with fail
      go_meet
      exact ⟨_, g1, c1, g2, c2, rfl, Lib.hid (HLB.out.alloc' rfl 56 #[(.slice (some ⟨g1, 0, none⟩) K1.length c1), (.slice (some ⟨g2, 0, none⟩) K2.length c2), .slice none 0 0]), Lib.hid (hk1.later (hb2 _)), Lib.hid (HKB.out.later (hb2 _)), HLB.out.lt (g := w.heap.size + 1 + 1) (t := 56) (List.mem_cons_self ..)⟩
    · have hk1 : KT w2 (.slice (some ⟨g1, 0, none⟩) K1.length c1) K1 := (by first | exact HKA.out.later HBB.out | exact (HKA.out.later ((Below.refl _ _).alloc (Nat.le_refl _) _)).later HBB.out)
      have hz : ∀ g, g = w1.heap.size → ∀ a b c, Chg w2.heap.size [g] w2 (((w2.setCell ⟨g, 0, none⟩ a).setCell ⟨g, 1, none⟩ b).setCell ⟨g, 2, none⟩ c) := fun g _ a b c => (((Chg.refl w2.heap.size [g] w2).set (p := ⟨g, 0, none⟩) (.inl (List.mem_singleton.2 rfl)) a).set (p := ⟨g, 1, none⟩) (.inl (List.mem_singleton.2 rfl)) b).set (p := ⟨g, 2, none⟩) (.inl (List.mem_singleton.2 rfl)) c
      have ht : ∀ g ∈ [w1.heap.size], ∃ t cs, Blk w2 g t cs ∧ t ≠ 27 ∧ t ≠ 25 := fun g hg => by
        obtain rfl := List.mem_singleton.1 hg
        exact ⟨_, _, HZB.out, by decide, by decide⟩
      go_wp2_with fail
      go_meet
      exact ⟨_, g1, c1, g2, c2, rfl, Lib.hid ((HLB.out.far3 (by omega) (HN0.out _ l1) _ _ _).cons (by omega) (HZB.out.three_set _ _ _).1), Lib.hid (hk1.chg (hz _ rfl _ _ _) ht), Lib.hid (HKB.out.chg (hz _ rfl _ _ _) ht), l1⟩
    · have hk1 : KT w2 (.slice (some ⟨g1, 0, none⟩) K1.length c1) K1 := (by first | exact HKA.out.later HBB.out | exact (HKA.out.later ((Below.refl _ _).alloc (Nat.le_refl _) _)).later HBB.out)
      have hz : ∀ g, g = W0.heap.size → ∀ a b c, Chg w2.heap.size [g] w2 (((w2.setCell ⟨g, 0, none⟩ a).setCell ⟨g, 1, none⟩ b).setCell ⟨g, 2, none⟩ c) := fun g _ a b c => (((Chg.refl w2.heap.size [g] w2).set (p := ⟨g, 0, none⟩) (.inl (List.mem_singleton.2 rfl)) a).set (p := ⟨g, 1, none⟩) (.inl (List.mem_singleton.2 rfl)) b).set (p := ⟨g, 2, none⟩) (.inl (List.mem_singleton.2 rfl)) c
      have ht : ∀ g ∈ [W0.heap.size], ∃ t cs, Blk w2 g t cs ∧ t ≠ 27 ∧ t ≠ 25 := fun g hg => by
        obtain rfl := List.mem_singleton.1 hg
        exact ⟨_, _, HZB.out, by decide, by decide⟩
      go_wp2_with fail
      go_meet
      exact ⟨_, g1, c1, g2, c2, rfl, Lib.hid ((HLB.out.far3 (by omega) (HN0.out _ l0) _ _ _).cons (by omega) (HZB.out.three_set _ _ _).1), Lib.hid (hk1.chg (hz _ rfl _ _ _) ht), Lib.hid (HKB.out.chg (hz _ rfl _ _ _) ht), l0⟩
  case rest =>
    clear HL0 HG1 HG2
    obtain ⟨z, g1, c1, g2, c2, rfl, HL, HK1, HK2, hz⟩ := hcut
    have hzz := HL.out.lt (g := z) (t := 56) (List.mem_cons_self ..)
    have HZZ := Lib.hid hzz
    go_wp2_with fail
    go_loopw [6] (fun u6 wr => ∃ (i : Nat) (rv : Value), i ≤ R ∧ u6 = .int .i64 ((i : Int) + 1) ∧ Hid (RO wr (z + 1) rv (RL.take i)) ∧ Hid (Loc w [(z, 56, #[(.slice (some ⟨g1, 0, none⟩) K1.length c1), (.slice (some ⟨g2, 0, none⟩) K2.length c2), rv]), (w.heap.size + 1 + 1, 56, #[.slice none 0 0, .slice none 0 0, .slice none 0 0]), (w.heap.size + 1, 30, #[.slice (some ⟨rb, ro, none⟩) 1 rc, .slice (some ⟨cb, co, none⟩) 1 cc, .int .i64 2, .int .i64 how]), (w.heap.size, 27, #[.int .i64 k, .string num, .string den, .string text, .bool on, .int .i64 code, .int .i64 ((R : Int) + 1), .int .i64 3, .slice (some ⟨ib, io, none⟩) ((R + 1) * 3) c])] wr) ∧ Hid (KT wr (.slice (some ⟨g1, 0, none⟩) K1.length c1) K1) ∧ Hid (KT wr (.slice (some ⟨g2, 0, none⟩) K2.length c2) K2) ∧ Hid (z + 1 ≤ wr.heap.size)) (fun u _ => R + 1 - (intOf u).toNat)
    case atStart => exact ⟨0, .slice none 0 0, by omega, rfl, Lib.hid (RowOf.nil _ _), HL, HK1, HK2, HZZ⟩
    case round =>
      clear HL HK1 HK2 HZZ hzz
      obtain ⟨i, rv, hi, rfl, HO, HL, HK1, HK2, HZZ⟩ := hrel
      have hrl : (RL.take i).length = i := by rw [List.length_take]; omega
      have HSS := Lib.hid (show ∀ W, Loc w [(z, 56, #[(.slice (some ⟨g1, 0, none⟩) K1.length c1), (.slice (some ⟨g2, 0, none⟩) K2.length c2), rv]), (w.heap.size + 1 + 1, 56, #[.slice none 0 0, .slice none 0 0, .slice none 0 0]), (w.heap.size + 1, 30, #[.slice (some ⟨rb, ro, none⟩) 1 rc, .slice (some ⟨cb, co, none⟩) 1 cc, .int .i64 2, .int .i64 how]), (w.heap.size, 27, #[.int .i64 k, .string num, .string den, .string text, .bool on, .int .i64 code, .int .i64 ((R : Int) + 1), .int .i64 3, .slice (some ⟨ib, io, none⟩) ((R + 1) * 3) c])] W → W.cell? ⟨z, 0, none⟩ = some (.slice (some ⟨g1, 0, none⟩) K1.length c1) ∧ W.cell? ⟨z, 1, none⟩ = some (.slice (some ⟨g2, 0, none⟩) K2.length c2) ∧ W.cell? ⟨z, 2, none⟩ = some rv ∧ W.cell? ⟨w.heap.size + 1, 0, none⟩ = some (.slice (some ⟨rb, ro, none⟩) 1 rc) ∧ W.cell? ⟨w.heap.size + 1, 1, none⟩ = some (.slice (some ⟨cb, co, none⟩) 1 cc) ∧ W.cell? ⟨w.heap.size + 1, 2, none⟩ = some (.int .i64 2) ∧ W.cell? ⟨w.heap.size, 0, none⟩ = some (.int .i64 k) ∧ W.cell? ⟨w.heap.size, 1, none⟩ = some (.string num) ∧ W.cell? ⟨w.heap.size, 2, none⟩ = some (.string den) ∧ W.cell? ⟨w.heap.size, 3, none⟩ = some (.string text) ∧ W.cell? ⟨w.heap.size, 4, none⟩ = some (.bool on) ∧ W.cell? ⟨w.heap.size, 5, none⟩ = some (.int .i64 code) ∧ W.cell? ⟨w.heap.size, 6, none⟩ = some (.int .i64 ((R : Int) + 1)) ∧ W.cell? ⟨w.heap.size, 7, none⟩ = some (.int .i64 3) ∧ W.cell? ⟨w.heap.size, 8, none⟩ = some (.slice (some ⟨ib, io, none⟩) ((R + 1) * 3) c) from fun W h => by
        have hz := h.blk (g := z) (t := 56) (List.mem_cons_self ..)
        have hv := h.blk (g := w.heap.size) (t := 27) (List.mem_cons_of_mem _ (List.mem_cons_of_mem _ (List.mem_cons_of_mem _ (List.mem_cons_self ..))))
        have ha := h.blk (g := w.heap.size + 1) (t := 30) (List.mem_cons_of_mem _ (List.mem_cons_of_mem _ (List.mem_cons_self ..)))
        exact ⟨hz.cell 0, hz.cell 1, hz.cell 2, ha.cell 0, ha.cell 1, ha.cell 2, hv.cell 0, hv.cell 1, hv.cell 2, hv.cell 3, hv.cell 4, hv.cell 5, hv.cell 6, hv.cell 7, hv.cell 8⟩)
      have HSR := Lib.hid (show ∀ W, Loc w [(z, 56, #[(.slice (some ⟨g1, 0, none⟩) K1.length c1), (.slice (some ⟨g2, 0, none⟩) K2.length c2), rv]), (w.heap.size + 1 + 1, 56, #[.slice none 0 0, .slice none 0 0, .slice none 0 0]), (w.heap.size + 1, 30, #[.slice (some ⟨rb, ro, none⟩) 1 rc, .slice (some ⟨cb, co, none⟩) 1 cc, .int .i64 2, .int .i64 how]), (w.heap.size, 27, #[.int .i64 k, .string num, .string den, .string text, .bool on, .int .i64 code, .int .i64 ((R : Int) + 1), .int .i64 3, .slice (some ⟨ib, io, none⟩) ((R + 1) * 3) c])] W → W.cell? ⟨z, 0, none⟩ = some (.slice (some ⟨g1, 0, none⟩) K1.length c1) ∧ W.cell? ⟨w.heap.size + 1, 0, none⟩ = some (.slice (some ⟨rb, ro, none⟩) 1 rc) ∧ W.cell? ⟨w.heap.size, 0, none⟩ = some (.int .i64 k) ∧ W.cell? ⟨w.heap.size, 1, none⟩ = some (.string num) ∧ W.cell? ⟨w.heap.size, 2, none⟩ = some (.string den) ∧ W.cell? ⟨w.heap.size, 3, none⟩ = some (.string text) ∧ W.cell? ⟨w.heap.size, 4, none⟩ = some (.bool on) ∧ W.cell? ⟨w.heap.size, 5, none⟩ = some (.int .i64 code) ∧ W.cell? ⟨w.heap.size, 6, none⟩ = some (.int .i64 ((R : Int) + 1)) ∧ W.cell? ⟨w.heap.size, 7, none⟩ = some (.int .i64 3) ∧ W.cell? ⟨w.heap.size, 8, none⟩ = some (.slice (some ⟨ib, io, none⟩) ((R + 1) * 3) c) from fun W h => by
        obtain ⟨a, b, c, d, e, f, g⟩ := HSS.out W h
        exact ⟨a, d, g⟩)
      have HSC := Lib.hid (show ∀ W, Loc w [(z, 56, #[(.slice (some ⟨g1, 0, none⟩) K1.length c1), (.slice (some ⟨g2, 0, none⟩) K2.length c2), rv]), (w.heap.size + 1 + 1, 56, #[.slice none 0 0, .slice none 0 0, .slice none 0 0]), (w.heap.size + 1, 30, #[.slice (some ⟨rb, ro, none⟩) 1 rc, .slice (some ⟨cb, co, none⟩) 1 cc, .int .i64 2, .int .i64 how]), (w.heap.size, 27, #[.int .i64 k, .string num, .string den, .string text, .bool on, .int .i64 code, .int .i64 ((R : Int) + 1), .int .i64 3, .slice (some ⟨ib, io, none⟩) ((R + 1) * 3) c])] W → W.cell? ⟨z, 1, none⟩ = some (.slice (some ⟨g2, 0, none⟩) K2.length c2) ∧ W.cell? ⟨w.heap.size + 1, 1, none⟩ = some (.slice (some ⟨cb, co, none⟩) 1 cc) ∧ W.cell? ⟨w.heap.size, 0, none⟩ = some (.int .i64 k) ∧ W.cell? ⟨w.heap.size, 1, none⟩ = some (.string num) ∧ W.cell? ⟨w.heap.size, 2, none⟩ = some (.string den) ∧ W.cell? ⟨w.heap.size, 3, none⟩ = some (.string text) ∧ W.cell? ⟨w.heap.size, 4, none⟩ = some (.bool on) ∧ W.cell? ⟨w.heap.size, 5, none⟩ = some (.int .i64 code) ∧ W.cell? ⟨w.heap.size, 6, none⟩ = some (.int .i64 ((R : Int) + 1)) ∧ W.cell? ⟨w.heap.size, 7, none⟩ = some (.int .i64 3) ∧ W.cell? ⟨w.heap.size, 8, none⟩ = some (.slice (some ⟨ib, io, none⟩) ((R + 1) * 3) c) from fun W h => by
        obtain ⟨a, b, c, d, e, f, g⟩ := HSS.out W h
        exact ⟨b, e, g⟩)
      obtain ⟨s0, s1, s2, p0, p1, p2, k0, k1, k2, k3, k4, k5, k6, k7, k8⟩ := HSS.out wr HL.out
      by_cases hlt : i < R
      · have hlz : (i : Int) + 1 < (R : Int) + 1 := by omega
        have HX1 := Lib.hid (HY1.out (i + 1) (by omega))
        have HX2 := Lib.hid (HY2.out (i + 1) (by omega))
        rw [show ((i + 1 : Nat) : Int) = (i : Int) + 1 by omega] at HX1 HX2
        have HT1 := Lib.hid (HS1.out (i + 1) (by omega) (by omega))
        have HT2 := Lib.hid (HS2.out (i + 1) (by omega) (by omega))
        have HRi := Lib.hid (HRL.out i hlt)
        obtain ⟨q1, hq1⟩ : ∃ q, q = placeP K1 us[(i + 1) * 3 + cr]! := ⟨_, rfl⟩
        obtain ⟨q2, hq2⟩ : ∃ q, q = placeP K2 us[(i + 1) * 3 + cl]! := ⟨_, rfl⟩
        rw [← hq1] at HT1 HRi
        rw [← hq2] at HT2 HRi
        clear hq1 hq2
        go_upto_region 5 with fail
        go_region_held3 (fun W => W.cell? ⟨z, 0, none⟩ = some (.slice (some ⟨g1, 0, none⟩) K1.length c1) ∧ W.cell? ⟨w.heap.size + 1, 0, none⟩ = some (.slice (some ⟨rb, ro, none⟩) 1 rc) ∧ W.cell? ⟨w.heap.size, 0, none⟩ = some (.int .i64 k) ∧ W.cell? ⟨w.heap.size, 1, none⟩ = some (.string num) ∧ W.cell? ⟨w.heap.size, 2, none⟩ = some (.string den) ∧ W.cell? ⟨w.heap.size, 3, none⟩ = some (.string text) ∧ W.cell? ⟨w.heap.size, 4, none⟩ = some (.bool on) ∧ W.cell? ⟨w.heap.size, 5, none⟩ = some (.int .i64 code) ∧ W.cell? ⟨w.heap.size, 6, none⟩ = some (.int .i64 ((R : Int) + 1)) ∧ W.cell? ⟨w.heap.size, 7, none⟩ = some (.int .i64 3) ∧ W.cell? ⟨w.heap.size, 8, none⟩ = some (.slice (some ⟨ib, io, none⟩) ((R + 1) * 3) c)) (first | exact ⟨by assumption, by assumption, by assumption, by assumption, by assumption, by assumption, by assumption, by assumption, by assumption, by assumption, by assumption⟩ | exact HSR.out _ HL.out | exact HSR.out _ HL.out.drew | exact HSR.out _ HLA.out | exact HSR.out _ HLB.out) (first
          | (go_at_call 39; (with_reducible refine (HX1.out _ (by first | exact HL.out.drew.bel | exact HL.out.bel)).mono ?_); rintro e w1 ⟨x1, x2, x3, rfl, hk, hb⟩; have HLA := Lib.hid ((by first | exact HL.out.drew | exact HL.out : Loc w [(z, 56, #[(.slice (some ⟨g1, 0, none⟩) K1.length c1), (.slice (some ⟨g2, 0, none⟩) K2.length c2), rv]), (w.heap.size + 1 + 1, 56, #[.slice none 0 0, .slice none 0 0, .slice none 0 0]), (w.heap.size + 1, 30, #[.slice (some ⟨rb, ro, none⟩) 1 rc, .slice (some ⟨cb, co, none⟩) 1 cc, .int .i64 2, .int .i64 how]), (w.heap.size, 27, #[.int .i64 k, .string num, .string den, .string text, .bool on, .int .i64 code, .int .i64 ((R : Int) + 1), .int .i64 3, .slice (some ⟨ib, io, none⟩) ((R + 1) * 3) c])] _).step hb); have HKR := Lib.hid hk; have HBA := Lib.hid (show Below wr.heap.size wr w1 from by first | exact (Below.refl wr.heap.size wr).drew.trans hb | exact hb); clear hk hb)
          | (go_at_call 38; (with_reducible refine (HT1.out _ c1 _ _ _ _ HLA.out.bel (HK1.out.later HBA.out).rows HKR.out).mono ?_); rintro e w2 ⟨⟨bb, rfl⟩, hb⟩; have HLB := Lib.hid (HLA.out.step hb); have HBB := Lib.hid (below_tr HBA.out hb); clear hb))
        clear s0 s1 s2 p0 p1 p2 k0 k1 k2 k3 k4 k5 k6 k7 k8
        obtain ⟨s0, s1, s2, p0, p1, p2, k0, k1, k2, k3, k4, k5, k6, k7, k8⟩ := HSS.out w2 HLB.out
        go_upto_region 6 with fail
        go_region_held3 (fun W => W.cell? ⟨z, 1, none⟩ = some (.slice (some ⟨g2, 0, none⟩) K2.length c2) ∧ W.cell? ⟨w.heap.size + 1, 1, none⟩ = some (.slice (some ⟨cb, co, none⟩) 1 cc) ∧ W.cell? ⟨w.heap.size, 0, none⟩ = some (.int .i64 k) ∧ W.cell? ⟨w.heap.size, 1, none⟩ = some (.string num) ∧ W.cell? ⟨w.heap.size, 2, none⟩ = some (.string den) ∧ W.cell? ⟨w.heap.size, 3, none⟩ = some (.string text) ∧ W.cell? ⟨w.heap.size, 4, none⟩ = some (.bool on) ∧ W.cell? ⟨w.heap.size, 5, none⟩ = some (.int .i64 code) ∧ W.cell? ⟨w.heap.size, 6, none⟩ = some (.int .i64 ((R : Int) + 1)) ∧ W.cell? ⟨w.heap.size, 7, none⟩ = some (.int .i64 3) ∧ W.cell? ⟨w.heap.size, 8, none⟩ = some (.slice (some ⟨ib, io, none⟩) ((R + 1) * 3) c)) (first | exact ⟨by assumption, by assumption, by assumption, by assumption, by assumption, by assumption, by assumption, by assumption, by assumption, by assumption, by assumption⟩ | exact HSC.out _ HLB.out | exact HSC.out _ HLB.out.drew | exact HSC.out _ HLC.out | exact HSC.out _ HLD.out) (first
          | (go_at_call 39; (with_reducible refine (HX2.out _ (by first | exact HLB.out.drew.bel | exact HLB.out.bel)).mono ?_); rintro e w3 ⟨x1, x2, x3, rfl, hk, hb⟩; have HLC := Lib.hid ((by first | exact HLB.out.drew | exact HLB.out : Loc w [(z, 56, #[(.slice (some ⟨g1, 0, none⟩) K1.length c1), (.slice (some ⟨g2, 0, none⟩) K2.length c2), rv]), (w.heap.size + 1 + 1, 56, #[.slice none 0 0, .slice none 0 0, .slice none 0 0]), (w.heap.size + 1, 30, #[.slice (some ⟨rb, ro, none⟩) 1 rc, .slice (some ⟨cb, co, none⟩) 1 cc, .int .i64 2, .int .i64 how]), (w.heap.size, 27, #[.int .i64 k, .string num, .string den, .string text, .bool on, .int .i64 code, .int .i64 ((R : Int) + 1), .int .i64 3, .slice (some ⟨ib, io, none⟩) ((R + 1) * 3) c])] _).step hb); have HKQ := Lib.hid hk; have HBC := Lib.hid (below_tr HBB.out (show Below w2.heap.size w2 w3 from by first | exact (Below.refl w2.heap.size w2).drew.trans hb | exact hb)); clear hk hb)
          | (go_at_call 38; (with_reducible refine (HT2.out _ c2 _ _ _ _ HLC.out.bel (HK2.out.later HBC.out).rows HKQ.out).mono ?_); rintro e w4 ⟨⟨bb2, rfl⟩, hb⟩; have HLD := Lib.hid (HLC.out.step hb); have HBD := Lib.hid (below_tr HBC.out hb); clear hb))
        clear s0 s1 s2 p0 p1 p2 k0 k1 k2 k3 k4 k5 k6 k7 k8 HLA HLB HLC HBA HBB HBC HKR HKQ HX1 HX2 HT1 HT2
        obtain ⟨s0, s1, s2, p0, p1, p2, k0, k1, k2, k3, k4, k5, k6, k7, k8⟩ := HSS.out w4 HLD.out
        clear s0 s1 p0 p1 k0 k1 k2 k3 k4 k5 k6
        have HO4 := Lib.hid (RowOf.later HO.out HBD.out)
        have HK14 := Lib.hid (HK1.out.later HBD.out)
        have HK24 := Lib.hid (HK2.out.later HBD.out)
        have HZ4 := Lib.hid (Nat.le_trans HZZ.out HBD.out.size)
        clear HO HK1 HK2 HZZ HBD HL
        have hit := fun j (hj : j < 9) => HIC.out ((i + 1) * 3 + 2) (by omega) j hj w4 HLD.out.bel
        have hit2 := fun j (hj : j < 9) W (hW : Below w.heap.size w W) => HIC.out ((i + 1) * 3 + 2) (by omega) j hj W hW
        obtain ⟨⟨uk, unum, uden, utext, uon, ucode, urows, ucols, uA, un, uc⟩, hu⟩ : ∃ u, u = us[(i + 1) * 3 + 2]! := ⟨_, rfl⟩
        rw [← hu] at hit HRi hit2
        have t0 : w4.cell? ⟨ib, io + ((i + 1) * 3 + 2) * 9, none⟩ = some (.int .i64 uk) := hit 0 (by decide)
        have t1 : w4.cell? ⟨ib, io + ((i + 1) * 3 + 2) * 9 + 1, none⟩ = some (.string unum) := hit 1 (by decide)
        have t2 : w4.cell? ⟨ib, io + ((i + 1) * 3 + 2) * 9 + 2, none⟩ = some (.string uden) := hit 2 (by decide)
        have t3 : w4.cell? ⟨ib, io + ((i + 1) * 3 + 2) * 9 + 3, none⟩ = some (.string utext) := hit 3 (by decide)
        have t4 : w4.cell? ⟨ib, io + ((i + 1) * 3 + 2) * 9 + 4, none⟩ = some (.bool uon) := hit 4 (by decide)
        have t5 : w4.cell? ⟨ib, io + ((i + 1) * 3 + 2) * 9 + 5, none⟩ = some (.int .i64 ucode) := hit 5 (by decide)
        have t6 : w4.cell? ⟨ib, io + ((i + 1) * 3 + 2) * 9 + 6, none⟩ = some (.int .i64 urows) := hit 6 (by decide)
        have t7 : w4.cell? ⟨ib, io + ((i + 1) * 3 + 2) * 9 + 7, none⟩ = some (.int .i64 ucols) := hit 7 (by decide)
        have t8 : w4.cell? ⟨ib, io + ((i + 1) * 3 + 2) * 9 + 8, none⟩ = some (.slice uA un uc) := hit 8 (by decide)
        clear hit hu
        have n1 : (((i : Int) + 1) * 3 + 2).toNat = (i + 1) * 3 + 2 := by omega
        have n2 : ((i : Int) + 1) * 3 + 2 < ((R : Int) + 1) * 3 := by omega
        have n4 : IntKind.i64.wrap (((i : Int) + 1) * 3) = ((i : Int) + 1) * 3 := IntWalk.i64_in _ (by omega)
        have n5 : IntKind.i64.wrap (((i : Int) + 1) * 3 + 2) = ((i : Int) + 1) * 3 + 2 := IntWalk.i64_in _ (by omega)
        have n3 : (0 : Int) ≤ ((i : Int) + 1) * 3 + 2 := by omega
        have HCX := Lib.hid (show (#[.int .i64 ((i : Int) + 1), .int .i64 (q1 : Int), .int .i64 (q2 : Int), .int .i64 uk, .string unum, .string uden, .string utext, .bool uon, .int .i64 ucode, .int .i64 urows, .int .i64 ucols, .slice uA un uc] : Array Value).toList = rmC ⟨i + 1, q1, q2, ⟨uk, unum, uden, utext, uon, ucode, urows, ucols, uA, un, uc⟩⟩ from by simp [rmC, Vl.cs])
        have y2 := (HLD.out.blk (g := z) (t := 56) (List.mem_cons_self ..)).frozen 2
        go_upto_region 7 with fail
        obtain ⟨CA, hCA⟩ : ∃ CA, CA = (#[.int .i64 ((i : Int) + 1), .int .i64 (q1 : Int), .int .i64 (q2 : Int), .int .i64 uk, .string unum, .string uden, .string utext, .bool uon, .int .i64 ucode, .int .i64 urows, .int .i64 ucols, .slice uA un uc] : Array Value) := ⟨_, rfl⟩
        have HNE := Lib.hid (show ∀ x ∈ ([(w.heap.size + 1 + 1, 56, #[.slice none 0 0, .slice none 0 0, .slice none 0 0]), (w.heap.size + 1, 30, #[.slice (some ⟨rb, ro, none⟩) 1 rc, .slice (some ⟨cb, co, none⟩) 1 cc, .int .i64 2, .int .i64 how]), (w.heap.size, 27, #[.int .i64 k, .string num, .string den, .string text, .bool on, .int .i64 code, .int .i64 ((R : Int) + 1), .int .i64 3, .slice (some ⟨ib, io, none⟩) ((R + 1) * 3) c])] : List (Nat × TypeId × Array Value)), x.1 ≠ z from fun x hx => by
          simp only [List.mem_cons, List.not_mem_nil, or_false] at hx
          rcases hx with rfl | rfl | rfl <;> (dsimp only; omega))
        have HNL := Lib.hid (show ∀ x ∈ ([(w.heap.size + 1 + 1, 56, #[.slice none 0 0, .slice none 0 0, .slice none 0 0]), (w.heap.size + 1, 30, #[.slice (some ⟨rb, ro, none⟩) 1 rc, .slice (some ⟨cb, co, none⟩) 1 cc, .int .i64 2, .int .i64 how]), (w.heap.size, 27, #[.int .i64 k, .string num, .string den, .string text, .bool on, .int .i64 code, .int .i64 ((R : Int) + 1), .int .i64 3, .slice (some ⟨ib, io, none⟩) ((R + 1) * 3) c])] : List (Nat × TypeId × Array Value)), x.1 < z + 1 from fun x hx => by
          simp only [List.mem_cons, List.not_mem_nil, or_false] at hx
          rcases hx with rfl | rfl | rfl <;> (dsimp only; omega))
        have s2x : (w4.alloc (.cells #[.int .i64 ((i : Int) + 1), .int .i64 (q1 : Int), .int .i64 (q2 : Int), .int .i64 uk, .string unum, .string uden, .string utext, .bool uon, .int .i64 ucode, .int .i64 urows, .int .i64 ucols, .slice uA un uc] 61)).cell? ⟨z, 2, none⟩ = some rv := ((HLD.out.alloc0 (.cells #[.int .i64 ((i : Int) + 1), .int .i64 (q1 : Int), .int .i64 (q2 : Int), .int .i64 uk, .string unum, .string uden, .string utext, .bool uon, .int .i64 ucode, .int .i64 urows, .int .i64 ucols, .slice uA un uc] 61)).blk (g := z) (t := 56) (List.mem_cons_self ..)).cell 2
        have HSY := Lib.hid (show ∀ W (rv' : Value), Loc w ((z, 56, #[(.slice (some ⟨g1, 0, none⟩) K1.length c1), (.slice (some ⟨g2, 0, none⟩) K2.length c2), rv']) :: [(w.heap.size + 1 + 1, 56, #[.slice none 0 0, .slice none 0 0, .slice none 0 0]), (w.heap.size + 1, 30, #[.slice (some ⟨rb, ro, none⟩) 1 rc, .slice (some ⟨cb, co, none⟩) 1 cc, .int .i64 2, .int .i64 how]), (w.heap.size, 27, #[.int .i64 k, .string num, .string den, .string text, .bool on, .int .i64 code, .int .i64 ((R : Int) + 1), .int .i64 3, .slice (some ⟨ib, io, none⟩) ((R + 1) * 3) c])]) W → W.cell? ⟨w.heap.size, 7, none⟩ = some (.int .i64 3) ∧ W.cell? ⟨w.heap.size, 8, none⟩ = some (.slice (some ⟨ib, io, none⟩) ((R + 1) * 3) c) ∧ W.cell? ⟨w.heap.size + 1, 2, none⟩ = some (.int .i64 2) ∧ W.cell? ⟨ib, io + ((i + 1) * 3 + 2) * 9, none⟩ = some (.int .i64 uk) ∧ W.cell? ⟨ib, io + ((i + 1) * 3 + 2) * 9 + 1, none⟩ = some (.string unum) ∧ W.cell? ⟨ib, io + ((i + 1) * 3 + 2) * 9 + 2, none⟩ = some (.string uden) ∧ W.cell? ⟨ib, io + ((i + 1) * 3 + 2) * 9 + 3, none⟩ = some (.string utext) ∧ W.cell? ⟨ib, io + ((i + 1) * 3 + 2) * 9 + 4, none⟩ = some (.bool uon) ∧ W.cell? ⟨ib, io + ((i + 1) * 3 + 2) * 9 + 5, none⟩ = some (.int .i64 ucode) ∧ W.cell? ⟨ib, io + ((i + 1) * 3 + 2) * 9 + 6, none⟩ = some (.int .i64 urows) ∧ W.cell? ⟨ib, io + ((i + 1) * 3 + 2) * 9 + 7, none⟩ = some (.int .i64 ucols) ∧ W.cell? ⟨ib, io + ((i + 1) * 3 + 2) * 9 + 8, none⟩ = some (.slice uA un uc) from fun W rv' h => by
          have hv := h.blk (g := w.heap.size) (t := 27) (List.mem_cons_of_mem _ (List.mem_cons_of_mem _ (List.mem_cons_of_mem _ (List.mem_cons_self ..))))
          have ha := h.blk (g := w.heap.size + 1) (t := 30) (List.mem_cons_of_mem _ (List.mem_cons_of_mem _ (List.mem_cons_self ..)))
          exact ⟨hv.cell 7, hv.cell 8, ha.cell 2, hit2 0 (by decide) W h.bel, hit2 1 (by decide) W h.bel, hit2 2 (by decide) W h.bel, hit2 3 (by decide) W h.bel, hit2 4 (by decide) W h.bel, hit2 5 (by decide) W h.bel, hit2 6 (by decide) W h.bel, hit2 7 (by decide) W h.bel, hit2 8 (by decide) W h.bel⟩)
        clear hit2 s2x s2 p2 k7 k8 t0 t1 t2 t3 t4 t5 t6 t7 t8
        have HS2 := Lib.hid (show ∀ W (rv' : Value), Loc w ((z, 56, #[(.slice (some ⟨g1, 0, none⟩) K1.length c1), (.slice (some ⟨g2, 0, none⟩) K2.length c2), rv']) :: [(w.heap.size + 1 + 1, 56, #[.slice none 0 0, .slice none 0 0, .slice none 0 0]), (w.heap.size + 1, 30, #[.slice (some ⟨rb, ro, none⟩) 1 rc, .slice (some ⟨cb, co, none⟩) 1 cc, .int .i64 2, .int .i64 how]), (w.heap.size, 27, #[.int .i64 k, .string num, .string den, .string text, .bool on, .int .i64 code, .int .i64 ((R : Int) + 1), .int .i64 3, .slice (some ⟨ib, io, none⟩) ((R + 1) * 3) c])]) W → W.cell? ⟨z, 2, none⟩ = some rv' from fun W rv' h => (h.blk (g := z) (t := 56) (List.mem_cons_self ..)).cell 2)
        refine wp_region_G (S1 := fun W => W.cell? ⟨w.heap.size, 7, none⟩ = some (.int .i64 3) ∧ W.cell? ⟨w.heap.size, 8, none⟩ = some (.slice (some ⟨ib, io, none⟩) ((R + 1) * 3) c) ∧ W.cell? ⟨w.heap.size + 1, 2, none⟩ = some (.int .i64 2) ∧ W.cell? ⟨ib, io + ((i + 1) * 3 + 2) * 9, none⟩ = some (.int .i64 uk) ∧ W.cell? ⟨ib, io + ((i + 1) * 3 + 2) * 9 + 1, none⟩ = some (.string unum) ∧ W.cell? ⟨ib, io + ((i + 1) * 3 + 2) * 9 + 2, none⟩ = some (.string uden) ∧ W.cell? ⟨ib, io + ((i + 1) * 3 + 2) * 9 + 3, none⟩ = some (.string utext) ∧ W.cell? ⟨ib, io + ((i + 1) * 3 + 2) * 9 + 4, none⟩ = some (.bool uon) ∧ W.cell? ⟨ib, io + ((i + 1) * 3 + 2) * 9 + 5, none⟩ = some (.int .i64 ucode) ∧ W.cell? ⟨ib, io + ((i + 1) * 3 + 2) * 9 + 6, none⟩ = some (.int .i64 urows) ∧ W.cell? ⟨ib, io + ((i + 1) * 3 + 2) * 9 + 7, none⟩ = some (.int .i64 ucols) ∧ W.cell? ⟨ib, io + ((i + 1) * 3 + 2) * 9 + 8, none⟩ = some (.slice uA un uc)) (S2 := fun W => W.cell? ⟨z, 2, none⟩ = some rv) (d := 18) (by kernel_rfl) (HSY.out _ _ HLD.out.drew) (HS2.out _ _ HLD.out.drew) (fun hT => ?_)
        refine wpAnyG_take1 (i := 0) (v := ?_) rfl (by kernel_rfl) (by kernel_rfl) (by kernel_rfl) (by kernel_rfl) (fun _ _ _ h => h) (Or.inl ⟨by rfl, ?_⟩) (by assumption) (fun hT => ?_)
        rotate_left
        · intro w hSw
          (try dsimp only at hSw)
          go_simp
          (try with_reducible rfl)
        (try simp only [Act.put, List.setIfInBounds_toArray, List.set_cons_zero, List.set_cons_succ])
        refine wpAnyG_take2 (i := 1) (v := ?_) rfl (by kernel_rfl) (by kernel_rfl) (by kernel_rfl) (by kernel_rfl) (by kernel_rfl) (by kernel_rfl) (fun _ _ _ h => h) (Or.inl ⟨by rfl, ?_⟩) (by assumption) (fun hT => ?_)
        rotate_left
        · intro w hSw
          (try dsimp only at hSw)
          go_simp
          (try with_reducible rfl)
        (try simp only [Act.put, List.setIfInBounds_toArray, List.set_cons_zero, List.set_cons_succ])
        refine wpAnyG_take1 (i := 2) (v := ?_) rfl (by kernel_rfl) (by kernel_rfl) (by kernel_rfl) (by kernel_rfl) (fun _ _ _ h => h) (Or.inl ⟨by rfl, ?_⟩) (by assumption) (fun hT => ?_)
        rotate_left
        · intro w hSw
          (try dsimp only at hSw)
          go_simp
          (try with_reducible rfl)
        (try simp only [Act.put, List.setIfInBounds_toArray, List.set_cons_zero, List.set_cons_succ])
        refine wpAnyG_take1 (i := 3) (v := ?_) rfl (by kernel_rfl) (by kernel_rfl) (by kernel_rfl) (by kernel_rfl) (fun _ _ _ h => h) (Or.inl ⟨by rfl, ?_⟩) (by assumption) (fun hT => ?_)
        rotate_left
        · intro w hSw
          (try dsimp only at hSw)
          go_simp
          (try with_reducible rfl)
        (try simp only [Act.put, List.setIfInBounds_toArray, List.set_cons_zero, List.set_cons_succ])
        refine wpAnyG_take1 (i := 4) (v := ?_) rfl (by kernel_rfl) (by kernel_rfl) (by kernel_rfl) (by kernel_rfl) (fun _ _ _ h => h) (Or.inl ⟨by rfl, ?_⟩) (by assumption) (fun hT => ?_)
        rotate_left
        · intro w hSw
          (try dsimp only at hSw)
          go_simp
          (try with_reducible rfl)
        (try simp only [Act.put, List.setIfInBounds_toArray, List.set_cons_zero, List.set_cons_succ])
        refine wpAnyG_take1 (i := 5) (v := ?_) rfl (by kernel_rfl) (by kernel_rfl) (by kernel_rfl) (by kernel_rfl) (fun _ _ _ h => h) (Or.inl ⟨by rfl, ?_⟩) (by assumption) (fun hT => ?_)
        rotate_left
        · intro w hSw
          (try dsimp only at hSw)
          go_simp
          (try with_reducible rfl)
        (try simp only [Act.put, List.setIfInBounds_toArray, List.set_cons_zero, List.set_cons_succ])
        refine wpAnyG_take1 (i := 6) (v := ?_) rfl (by kernel_rfl) (by kernel_rfl) (by kernel_rfl) (by kernel_rfl) (fun _ _ _ h => h) (Or.inl ⟨by rfl, ?_⟩) (by assumption) (fun hT => ?_)
        rotate_left
        · intro w hSw
          (try dsimp only at hSw)
          go_simp
          (try with_reducible rfl)
        (try simp only [Act.put, List.setIfInBounds_toArray, List.set_cons_zero, List.set_cons_succ])
        refine wpAnyG_take1 (i := 7) (v := ?_) rfl (by kernel_rfl) (by kernel_rfl) (by kernel_rfl) (by kernel_rfl) (fun _ _ _ h => h) (Or.inl ⟨by rfl, ?_⟩) (by assumption) (fun hT => ?_)
        rotate_left
        · intro w hSw
          (try dsimp only at hSw)
          go_simp
          (try with_reducible rfl)
        (try simp only [Act.put, List.setIfInBounds_toArray, List.set_cons_zero, List.set_cons_succ])
        refine wpAnyG_take1 (i := 8) (v := ?_) rfl (by kernel_rfl) (by kernel_rfl) (by kernel_rfl) (by kernel_rfl) (fun _ _ _ h => h) (Or.inl ⟨by rfl, ?_⟩) (by assumption) (fun hT => ?_)
        rotate_left
        · intro w hSw
          (try dsimp only at hSw)
          go_simp
          (try with_reducible rfl)
        (try simp only [Act.put, List.setIfInBounds_toArray, List.set_cons_zero, List.set_cons_succ])
        refine wpAnyG_take1 (i := 9) (v := ?_) rfl (by kernel_rfl) (by kernel_rfl) (by kernel_rfl) (by kernel_rfl) (fun _ _ _ h => h) (Or.inl ⟨by rfl, ?_⟩) (by assumption) (fun hT => ?_)
        rotate_left
        · intro w hSw
          (try dsimp only at hSw)
          go_simp
          (try with_reducible rfl)
        (try simp only [Act.put, List.setIfInBounds_toArray, List.set_cons_zero, List.set_cons_succ])
        refine wpAnyG_take1 (i := 10) (v := ?_) rfl (by kernel_rfl) (by kernel_rfl) (by kernel_rfl) (by kernel_rfl) (fun _ _ _ h => h) (Or.inl ⟨by rfl, ?_⟩) (by assumption) (fun hT => ?_)
        rotate_left
        · intro w hSw
          (try dsimp only at hSw)
          go_simp
          (try with_reducible rfl)
        (try simp only [Act.put, List.setIfInBounds_toArray, List.set_cons_zero, List.set_cons_succ])
        refine wpAnyG_take1 (i := 11) (v := ?_) rfl (by kernel_rfl) (by kernel_rfl) (by kernel_rfl) (by kernel_rfl) (fun _ _ _ h => h) (Or.inl ⟨by rfl, ?_⟩) (by assumption) (fun hT => ?_)
        rotate_left
        · intro w hSw
          (try dsimp only at hSw)
          go_simp
          (try with_reducible rfl)
        (try simp only [Act.put, List.setIfInBounds_toArray, List.set_cons_zero, List.set_cons_succ])
        refine wpAnyG_take1 (i := 12) (v := ?_) rfl (by kernel_rfl) (by kernel_rfl) (by kernel_rfl) (by kernel_rfl) (fun _ _ _ h => h) (Or.inl ⟨by rfl, ?_⟩) (by assumption) (fun hT => ?_)
        rotate_left
        · intro w hSw
          (try dsimp only at hSw)
          go_simp
          (try with_reducible rfl)
        (try simp only [Act.put, List.setIfInBounds_toArray, List.set_cons_zero, List.set_cons_succ])
        refine wpAnyG_take1 (i := 13) (v := ?_) rfl (by kernel_rfl) (by kernel_rfl) (by kernel_rfl) (by kernel_rfl) (fun _ _ _ h => h) (Or.inl ⟨by rfl, ?_⟩) (by assumption) (fun hT => ?_)
        rotate_left
        · intro w hSw
          (try dsimp only at hSw)
          go_simp
          (try with_reducible rfl)
        (try simp only [Act.put, List.setIfInBounds_toArray, List.set_cons_zero, List.set_cons_succ])
        refine wpAnyG_take1 (i := 14) (v := ?_) rfl (by kernel_rfl) (by kernel_rfl) (by kernel_rfl) (by kernel_rfl) (fun _ _ _ h => h) (Or.inl ⟨by rfl, ?_⟩) (by assumption) (fun hT => ?_)
        rotate_left
        · intro w hSw
          (try dsimp only at hSw)
          go_simp
          (try with_reducible rfl)
        (try simp only [Act.put, List.setIfInBounds_toArray, List.set_cons_zero, List.set_cons_succ])
        refine wpAnyG_take1 (i := 15) (v := ?_) rfl (by kernel_rfl) (by kernel_rfl) (by kernel_rfl) (by kernel_rfl) (fun _ _ _ h => h) (Or.inl ⟨by rfl, ?_⟩) (by assumption) (fun hT => ?_)
        rotate_left
        · intro w hSw
          (try dsimp only at hSw)
          go_simp
          (try with_reducible rfl)
        (try simp only [Act.put, List.setIfInBounds_toArray, List.set_cons_zero, List.set_cons_succ])
        refine wpAnyG_take1 (i := 16) (v := ?_) rfl (by kernel_rfl) (by kernel_rfl) (by kernel_rfl) (by kernel_rfl) (fun _ _ _ h => h) (Or.inl ⟨by rfl, ?_⟩) (by assumption) (fun hT => ?_)
        rotate_left
        · intro w hSw
          (try dsimp only at hSw)
          go_simp
          (try with_reducible rfl)
        (try simp only [Act.put, List.setIfInBounds_toArray, List.set_cons_zero, List.set_cons_succ])
        refine wpAnyG_ready (rs := [17]) (by kernel_rfl) (by simp) ?_
        refine AllG.cons (i := 17) rfl (fun K hK => ?_) AllG.nil
        go_simp
        refine hK.out _ _ ⟨by (first | exact HSY.out _ _ (HLD.out.drew.alloc0 _) | exact HSY.out _ _ (HLD.out.alloc0 _).drew | exact HSY.out _ _ (HLD.out.alloc0 _)), .inr (by (first | exact HS2.out _ _ (HLD.out.drew.alloc0 _) | exact HS2.out _ _ (HLD.out.alloc0 _).drew | exact HS2.out _ _ (HLD.out.alloc0 _)))⟩ (fun hT => ?_)
        clear hK K
        (try simp only [Act.put, List.setIfInBounds_toArray, List.set_cons_zero, List.set_cons_succ])
        refine wpAnyG_ready (rs := [18]) (by kernel_rfl) (by simp) ?_
        refine AllG.cons (i := 18) rfl (fun K hK => ?_) AllG.nil
        refine step_row2 54 61 12 136 rmC _ Tryz.underlying54 rec_info rfl (by decide) rm_one rfl (.tmp 49) (.tmp 65) rfl (z + 1) rv (RL.take i) rfl (by first | exact HO4.out.alloc _ | exact (HO4.out.alloc _).drew | exact HO4.out.drew.alloc _) ⟨i + 1, q1, q2, ⟨uk, unum, uden, utext, uon, ucode, urows, ucols, uA, un, uc⟩⟩ w4.heap.size _ HCX.out (by first | exact Blk.new w4 _ _ | exact (Blk.new w4 _ _).drew | exact Blk.new w4.drew _ _) rfl (by omega) (by unfold maxLen; omega) (by simp; have := HZ4.out; omega) ?_
        intro gx cx w5 ho hb hg hx
        (have hpp := rec_put (L := [(w.heap.size + 1 + 1, 56, #[.slice none 0 0, .slice none 0 0, .slice none 0 0]), (w.heap.size + 1, 30, #[.slice (some ⟨rb, ro, none⟩) 1 rc, .slice (some ⟨cb, co, none⟩) 1 cc, .int .i64 2, .int .i64 how]), (w.heap.size, 27, #[.int .i64 k, .string num, .string den, .string text, .bool on, .int .i64 code, .int .i64 ((R : Int) + 1), .int .i64 3, .slice (some ⟨ib, io, none⟩) ((R + 1) * 3) c])]) (by first | exact HLD.out.alloc0 _ | exact (HLD.out.alloc0 _).drew | exact HLD.out.drew.alloc0 _) HNE.out HNL.out (Nat.lt_succ_self z) (by simp; have := HZ4.out; omega) (by decide) (by first | exact HK14.out.later ((Below.refl _ _).alloc (Nat.le_refl _) _) | exact (HK14.out.later ((Below.refl _ _).alloc (Nat.le_refl _) _)).drew | exact HK14.out.drew.later ((Below.refl _ _).alloc (Nat.le_refl _) _)) (by first | exact HK24.out.later ((Below.refl _ _).alloc (Nat.le_refl _) _) | exact (HK24.out.later ((Below.refl _ _).alloc (Nat.le_refl _) _)).drew | exact HK24.out.drew.later ((Below.refl _ _).alloc (Nat.le_refl _) _)) (by first | exact HO4.out.alloc _ | exact (HO4.out.alloc _).drew | exact HO4.out.drew.alloc _) hb hg ho; rw [hrl] at hpp; have r2c := hpp.1.1; have r2f := hpp.1.2.1; have HL5 := Lib.hid hpp.1.2.2; have HPP := Lib.hid hpp.2)
        refine hK.out _ _ ⟨HSY.out _ _ HL5.out, .inl rfl⟩ (fun hT => ?_)
        clear hK K
        (try simp only [Act.put, List.setIfInBounds_toArray, List.set_cons_zero, List.set_cons_succ])
        refine wpAnyG_take1 (i := 19) (v := ?_) rfl (by kernel_rfl) (by kernel_rfl) (by kernel_rfl) (by kernel_rfl) (fun _ _ _ h => h) (Or.inl ⟨by rfl, ?_⟩) (by assumption) (fun hT => ?_)
        rotate_left
        · intro w hSw
          (try dsimp only at hSw)
          go_simp
          (try with_reducible rfl)
        (try simp only [Act.put, List.setIfInBounds_toArray, List.set_cons_zero, List.set_cons_succ])
        refine wpAnyG_ready (rs := [20]) (by kernel_rfl) (by simp) ?_
        refine AllG.cons (i := 20) rfl (fun K hK => ?_) AllG.nil
        go_simp
        refine hK.out _ _ ⟨HSY.out _ _ HPP.out.1, .inl rfl⟩ (fun hT => ?_)
        clear hK K
        (try simp only [Act.put, List.setIfInBounds_toArray, List.set_cons_zero, List.set_cons_succ])
        refine wpAnyG_done (by kernel_rfl) ?_ _
        go_wp2_with fail
        go_roundw
        case rel => exact ⟨i + 1, _, by omega, by go_num, Lib.hid (by rw [HRi.out]; exact HPP.out.2.2.2.1), Lib.hid HPP.out.1, Lib.hid HPP.out.2.1, Lib.hid HPP.out.2.2.1, Lib.hid HPP.out.2.2.2.2⟩
        case measure => simp [intOf]; omega
      · have hlz : ¬ (i : Int) + 1 < (R : Int) + 1 := by omega
        obtain rfl : i = R := by omega
        have hOO := HO.out
        rw [List.take_of_length_le (by omega)] at hOO
        obtain ⟨g3, c3, hrv, hg3, hg4⟩ := RowOf.form hOO (by omega)
        rw [hRl] at hrv
        subst hrv
        have HOO := Lib.hid hOO
        have b0 := (HL.out.blk (g := w.heap.size + 1 + 1) (t := 56) (List.mem_cons_of_mem _ (List.mem_cons_self ..)))
        have HB0 := Lib.hid b0
        obtain ⟨d0, d1, d2, e0, e1, e2⟩ := b0.three
        obtain ⟨-, q0, q1, q2⟩ := b0.three_set (.slice (some ⟨g1, 0, none⟩) K1.length c1) (.slice (some ⟨g2, 0, none⟩) K2.length c2) (.slice (some ⟨g3, 0, none⟩) i c3)
        clear b0 hOO hg3 hg4
        go_wp2_with fail
        refine bodyPost_ret (v := .agg #[(.slice (some ⟨g1, 0, none⟩) K1.length c1), (.slice (some ⟨g2, 0, none⟩) K2.length c2), .slice (some ⟨g3, 0, none⟩) i c3]) (by simp [results, Tryz.results18, go_sem, q0, q1, q2]) rfl ?_
        have hb3 : ∀ a b d, Below w.heap.size w (((wr.setCell ⟨w.heap.size + 1 + 1, 0, none⟩ a).setCell ⟨w.heap.size + 1 + 1, 1, none⟩ b).setCell ⟨w.heap.size + 1 + 1, 2, none⟩ d) := fun a b d => below_three HL.out.bel (by omega) a b d
        have hch : ∀ a b d, Chg wr.heap.size [w.heap.size + 1 + 1] wr (((wr.setCell ⟨w.heap.size + 1 + 1, 0, none⟩ a).setCell ⟨w.heap.size + 1 + 1, 1, none⟩ b).setCell ⟨w.heap.size + 1 + 1, 2, none⟩ d) := fun a b d => (((Chg.refl wr.heap.size [w.heap.size + 1 + 1] wr).set (p := ⟨w.heap.size + 1 + 1, 0, none⟩) (.inl (List.mem_singleton.2 rfl)) a).set (p := ⟨w.heap.size + 1 + 1, 1, none⟩) (.inl (List.mem_singleton.2 rfl)) b).set (p := ⟨w.heap.size + 1 + 1, 2, none⟩) (.inl (List.mem_singleton.2 rfl)) d
        have hty : ∀ g ∈ [w.heap.size + 1 + 1], ∃ t cs, Blk wr g t cs ∧ t ≠ 27 ∧ t ≠ 25 := fun g hg => by
          obtain rfl := List.mem_singleton.1 hg
          exact ⟨_, _, HB0.out, by decide, by decide⟩
        have hro : ∀ a b d, RO (((wr.setCell ⟨w.heap.size + 1 + 1, 0, none⟩ a).setCell ⟨w.heap.size + 1 + 1, 1, none⟩ b).setCell ⟨w.heap.size + 1 + 1, 2, none⟩ d) (z + 1) (.slice (some ⟨g3, 0, none⟩) i c3) RL := fun a b d => RowOf.chg HOO.out (hch a b d) fun g hg => ⟨(RowOf.lt HOO.out g hg).2, fun hm => by
          have h1 := (RowOf.lt HOO.out g hg).1
          have h2 := List.mem_singleton.1 hm
          omega⟩
        exact ⟨g1, c1, g2, c2, g3, c3, rfl, (HK1.out.chg (hch _ _ _) hty), (HK2.out.chg (hch _ _ _) hty), RowOf.reads (hro _ _ _) rmC_len, hb3 _ _ _⟩
end Go.Proofs.YtmapagbmihpbmaaGreatDoor

namespace Go.Proofs.YtmapagbmihpbmaaGreatDoor
open Go.RowKit

def itB (Z : List Int) (R x : Nat) : Vl := if x < 3 then itmL Z x else itmL Z ((R + 1 - x / 3) * 3 + x % 3)
/-- The heading and the first j rows of the second array. -/
def preB (Z : List Int) (R j : Nat) : List Vl := (List.range (3 + j * 3)).map (itB Z R)
/-- Row i of the first array. -/
def rowA (Z : List Int) (i : Nat) : List Vl := [itmL Z (3 * i), itmL Z (3 * i + 1), itmL Z (3 * i + 2)]
theorem preB_len (Z : List Int) (R j : Nat) : (preB Z R j).length = 3 + j * 3 := by simp [preB]
theorem preB_all (Z : List Int) (R : Nat) : preB Z R R = usB Z R := by
  unfold preB usB
  rw [show 3 + R * 3 = (R + 1) * 3 by omega]
  rfl
theorem preB_zero (Z : List Int) (R : Nat) : preB Z R 0 = rowA Z 0 := rfl
theorem preB_step (Z : List Int) (R j : Nat) (_h : j < R) : preB Z R (j + 1) = preB Z R j ++ rowA Z (R - j) := by
  unfold preB
  rw [show 3 + (j + 1) * 3 = 3 + j * 3 + 1 + 1 + 1 by omega, List.range_succ, List.range_succ, List.range_succ]
  simp only [List.map_append, List.map_cons, List.map_nil, List.append_assoc, List.cons_append, List.nil_append]
  have hx : ∀ q, q < 3 → itB Z R (3 + j * 3 + q) = itmL Z (3 * (R - j) + q) := fun q hq => by
    unfold itB
    rw [if_neg (by omega)]
    rw [show (3 + j * 3 + q) / 3 = j + 1 by omega, show (3 + j * 3 + q) % 3 = q by omega]
    congr 1
    omega
  have h0 := hx 0 (by decide)
  have h1 := hx 1 (by decide)
  have h2 := hx 2 (by decide)
  rw [Nat.add_zero, Nat.add_zero] at h0
  unfold rowA
  rw [h0, h1, show 3 + j * 3 + 1 + 1 = 3 + j * 3 + 2 from rfl, h2]
theorem usA_row (Z : List Int) (R i : Nat) (h : i ≤ R) : ((usA Z R).drop (3 * i)).take 3 = rowA Z i := by
  apply List.ext_getElem
  · simp [usA, rowA]; omega
  · intro k h1 h2
    have hk : k < 3 := by simp [rowA] at h2; exact h2
    rw [List.getElem_take, List.getElem_drop]
    unfold usA
    rw [List.getElem_map, List.getElem_range]
    rcases (show k = 0 ∨ k = 1 ∨ k = 2 by omega) with rfl | rfl | rfl <;> rfl
/-- A part of a slice reads as that part of the list. -/
theorem reads_sub {α : Type} {size : Nat} {f : α → List Value} {W : World} {b o n c : Nat} {l : List α} (h : Reads size f W (.slice (some ⟨b, o, none⟩) n c) l) (h0 : 0 < n) (k q c' : Nat) (hk : k + q ≤ n) (hc : q ≤ c') : Reads size f W (.slice (some ⟨b, o + k * size, none⟩) q c') ((l.drop k).take q) := by
  obtain ⟨hl, hb, hr⟩ := h.lt h0
  have hq : ((l.drop k).take q).length = q := by
    rw [List.length_take, List.length_drop]
    omega
  refine ⟨_, c', by rw [hq], by omega, (fun h => by cases h), fun _ => ⟨b, o + k * size, rfl, hb, fun i hi j hj => ?_⟩⟩
  have hi' : i < q := by rw [hq] at hi; exact hi
  have := hr (k + i) (by omega) j hj
  rw [Nat.add_mul] at this
  rw [List.getElem_take, List.getElem_drop, ← this, Nat.add_assoc o, Nat.add_assoc (k * size)]
end Go.Proofs.YtmapagbmihpbmaaGreatDoor

namespace Go.Proofs.YtmapagbmihpbmaaGreatDoor
open Go.RowKit

/-- The items when the first i are lowered. -/
def lowF (Z : List Int) (i x : Nat) : Vl := if x < i then itmL Z x else itm 3 Z x
theorem lowF_zero (Z : List Int) (x : Nat) : lowF Z 0 x = itm 3 Z x := if_neg (Nat.not_lt_zero _)
theorem lowF_all (Z : List Int) (T x : Nat) (h : x < T) : lowF Z T x = itmL Z x := if_pos h
theorem lowF_at (Z : List Int) (i : Nat) : lowF Z i i = itm 3 Z i := if_neg (Nat.lt_irrefl _)
/-- An item that stays. -/
theorem low_same (Z : List Int) (i : Nat) (h : i < 3 ∨ i % 3 = 2) (x : Nat) : lowF Z i x = lowF Z (i + 1) x := by
  unfold lowF
  by_cases h1 : x < i
  · rw [if_pos h1, if_pos (by omega)]
  · rw [if_neg h1]
    by_cases h2 : x < i + 1
    · obtain rfl : x = i := by omega
      rw [if_pos h2]
      unfold itm itmL
      rcases h with h | h
      · rw [if_pos h, if_pos h]
      · by_cases h3 : x < 3
        · rw [if_pos h3, if_pos h3]
        · rw [if_neg h3, if_neg h3, if_pos (by omega), if_pos h]
    · rw [if_neg h2]
/-- An item whose text is lowered. -/
theorem low_put (Z : List Int) (i : Nat) (h3 : ¬ i < 3) (h2 : ¬ i % 3 = 2) (x : Nat) : up (lowF Z i) i {lowF Z i i with text := lwL (xAt Z i % 4).toNat} x = lowF Z (i + 1) x := by
  by_cases e : x = i
  · subst e
    rw [up_same, lowF_at]
    unfold lowF
    rw [if_pos (Nat.lt_succ_self _)]
    unfold itm itmL
    rw [if_neg h3, if_neg h3, if_neg (by omega), if_neg h2]
    rfl
  · rw [up_ne _ _ _ _ e]
    unfold lowF
    by_cases h1 : x < i
    · rw [if_pos h1, if_pos (by omega)]
    · rw [if_neg h1, if_neg (by omega)]
theorem itm_word (Z : List Int) (i : Nat) (h3 : ¬ i < 3) (h2 : ¬ i % 3 = 2) : itm 3 Z i = tV (wdL (xAt Z i % 4).toNat) := by
  unfold itm
  rw [if_neg h3, if_neg (by omega)]
theorem itm_nr (Z : List Int) (i : Nat) (h3 : ¬ i < 3) (h2 : i % 3 = 2) : itm 3 Z i = nV (xAt Z i % 50).toNat := by
  unfold itm
  rw [if_neg h3, if_pos (by omega)]
theorem itm_head (Z : List Int) (i : Nat) (h3 : i < 3) : itm 3 Z i = tV ⟨#[104, 101, 97, 100]⟩ := by
  unfold itm
  rw [if_pos h3]
/-- The words in small letters. -/
theorem wd_low (k : Nat) : (⟨(Lib.toLowerA (wdL k).data.toList).toArray⟩ : ByteArray) = lwL k := by
  match k with
  | 0 => decide +kernel
  | 1 => decide +kernel
  | 2 => decide +kernel
  | k + 3 => exact (show (⟨(Lib.toLowerA (⟨#[99]⟩ : ByteArray).data.toList).toArray⟩ : ByteArray) = ⟨#[99]⟩ by decide +kernel)
theorem wd_asc (k : Nat) : ∀ (j : Nat) (b : UInt8), (wdL k).data.toList[j]? = some b → b.toNat < 128 := by
  have h : ∀ k, ∀ b ∈ (wdL k).data.toList, b.toNat < 128 := fun k => by
    match k with
    | 0 => decide
    | 1 => decide
    | 2 => decide
    | k + 3 => exact (show ∀ b ∈ (⟨#[99]⟩ : ByteArray).data.toList, b.toNat < 128 by decide)
  exact fun j b hb => h k b (List.mem_of_getElem? hb)
theorem wd_small (k : Nat) : (wdL k).size ≤ 140737488355328 := by
  match k with
  | 0 => decide
  | 1 => decide
  | 2 => decide
  | k + 3 => exact (show (⟨#[99]⟩ : ByteArray).size ≤ _ by decide)
section
variable {W W' : World} {gi T : Nat} {f f' : Nat → Vl} {base cap : Nat}
/-- The text of one value is written. -/
theorem IA.text (h : IA W gi T f) {k : Nat} (hk : k < T) (s : ByteArray) : IA (W.setCell ⟨gi, k * 9 + 3, none⟩ (.string s)) gi T (up f k {f k with text := s}) := by
  obtain ⟨cs, hb⟩ := h.blk
  have hb2 := hb.set_ (k * 9 + 3) (.string s)
  refine ⟨⟨_, hb2⟩, fun i hi q hq => ?_⟩
  rw [hb2.cell, Array.getElem?_setIfInBounds]
  have hc := h.cell i hi q hq
  rw [hb.cell] at hc
  by_cases e : k * 9 + 3 = i * 9 + q
  · obtain ⟨rfl, rfl⟩ : k = i ∧ 3 = q := by omega
    rw [if_pos rfl, up_same]
    have h3 := h.cell k hk 3 (by decide)
    rw [hb.cell] at h3
    have hlt : k * 9 + 3 < cs.size := by
      rcases Nat.lt_or_ge (k * 9 + 3) cs.size with h | h
      · exact h
      · rw [Array.getElem?_eq_none h] at h3
        cases h3
    rw [if_pos hlt]
    rfl
  · rw [if_neg e, hc]
    by_cases ei : i = k
    · subst ei
      rw [up_same]
      have : q = 0 ∨ q = 1 ∨ q = 2 ∨ q = 4 ∨ q = 5 ∨ q = 6 ∨ q = 7 ∨ q = 8 := by omega
      rcases this with rfl | rfl | rfl | rfl | rfl | rfl | rfl | rfl <;> rfl
    · rw [up_ne _ _ _ _ ei]
theorem IA.drew (h : IA W gi T f) : IA W.drew gi T f := ⟨h.blk, h.cell⟩
theorem IA.far (h : IA W gi T f) {p : Addr} (hp : gi ≠ p.block) (u : Value) : IA (W.setCell p u) gi T f := by
  obtain ⟨cs, hb⟩ := h.blk
  have hb2 := hb.far hp u
  exact ⟨⟨cs, hb2⟩, fun i hi q hq => by rw [hb2.cell, ← hb.cell]; exact h.cell i hi q hq⟩
/-- A row of the call's own, as a function. -/
theorem ia_row {l : List Vl} (h : RowOf 27 9 csV W base (.slice (some ⟨gi, 0, none⟩) T cap) l) (h0 : 0 < T) (hl : l.length = T) (hf : ∀ i, i < T → l[i]? = some (f i)) : IA W gi T f ∧ T ≤ cap ∧ base ≤ gi := by
  have hr := (RowOf.reads h csV_len).lt h0
  rcases h.2 with ⟨h', _⟩ | ⟨g', cap', cur, h', h1, h2, hc, _⟩
  · simp at h'
  · simp only [Value.slice.injEq, Option.some.injEq, Addr.mk.injEq, and_true] at h'
    obtain ⟨rfl, e2, rfl⟩ := h'
    refine ⟨⟨⟨cur, h2⟩, fun i hi q hq => ?_⟩, by omega, h1⟩
    have h3 := hr.2.2 i (by omega) q hq
    rw [Nat.zero_add] at h3
    have h4 := hf i hi
    rw [List.getElem?_eq_getElem (by omega)] at h4
    injection h4 with h4
    rw [h3, h4]
end
/-- A block of the list, where a cell of another block is written. -/
theorem Loc.other {w W : World} {L : List (Nat × TypeId × Array Value)} (h : Loc w L W) {p : Addr} (hp : w.heap.size ≤ p.block) (hne : ∀ x ∈ L, x.1 ≠ p.block) (y : Value) : Loc w L (W.setCell p y) :=
  ⟨h.1.setCell hp y, fun x hx => ⟨(h.2 x hx).1, (h.2 x hx).2.far (hne x hx) y⟩⟩
end Go.Proofs.YtmapagbmihpbmaaGreatDoor
