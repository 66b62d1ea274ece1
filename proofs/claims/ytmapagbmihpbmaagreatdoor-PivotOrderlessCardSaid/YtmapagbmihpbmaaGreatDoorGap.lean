/- pivot.Array: the items, cell by cell; put. -/
import Derived.Test.YtmapagbmihpbmaaGreatDoorGan
import Derived.Test.YtmapagbmihpbmaaGreatDoorGao
import Derived.Test.YtmapagbmihpbmaaGreatDoorGaj
import Derived.Deep.Cut
import Derived.Deep.CutBlock
import Derived.Deep.DeepCutAuto
import Derived.Deep.RegionHeld3
set_option linter.unusedSimpArgs false
set_option linter.unusedVariables false
namespace Go.Proofs.YtmapagbmihpbmaaGreatDoor
open Go.RowKit

/-- A block of T values, as a function's values. -/
structure IA (W : World) (gi T : Nat) (f : Nat → Vl) : Prop where
  blk : ∃ cs, Blk W gi 27 cs
  cell : ∀ i, i < T → ∀ q, q < 9 → W.cell? ⟨gi, i * 9 + q, none⟩ = (csV (f i))[q]?
section
variable {W W' : World} {gi T : Nat} {f f' : Nat → Vl} {G : List Nat}
theorem IA.lt (h : IA W gi T f) : gi < W.heap.size := by
  obtain ⟨cs, hb⟩ := h.blk
  exact hb.lt
theorem IA.chg (h : IA W gi T f) (hc : Chg W.heap.size G W W') (hg : gi ∉ G) : IA W' gi T f := by
  obtain ⟨cs, hb⟩ := h.blk
  exact ⟨⟨cs, hc.blk hb hb.lt hg⟩, fun i hi q hq => (World.cell?_of_block (hc.block gi hb.lt hg)).trans (h.cell i hi q hq)⟩
theorem IA.later (h : IA W gi T f) (hb : Below W.heap.size W W') : IA W' gi T f := h.chg (Chg.of hb []) (by simp)
theorem IA.congr (h : IA W gi T f) (e : ∀ i, i < T → f i = f' i) : IA W gi T f' := ⟨h.blk, fun i hi q hq => by rw [← e i hi]; exact h.cell i hi q hq⟩
theorem csV_some (u : Vl) (q : Nat) (hq : q < 9) : ((csV u)[q]?).isSome = true := by
  rw [List.getElem?_eq_getElem (by rw [csV_len]; exact hq)]
  rfl
theorem IA.set (h : IA W gi T f) {k : Nat} (hk : k < T) (u : Vl) : IA (W.setCells gi (k * 9) (csV u)) gi T (up f k u) := by
  refine ⟨Blk.sets _ _ _ h.blk, fun i hi q hq => ?_⟩
  by_cases e : i = k
  · subst e
    rw [up_same, World.cell?_setCells_in gi (csV u) (i * 9) W (fun j hj => by
      rw [h.cell i hi j (by rw [csV_len] at hj; exact hj)]
      exact csV_some _ _ (by rw [csV_len] at hj; exact hj)) q (by rw [csV_len]; exact hq)]
    exact (List.getElem?_eq_getElem _).symm
  · rw [up_ne _ _ _ _ e, World.cell?_setCells_out gi (csV u) (k * 9) W _ (fun _ _ => by
      rw [csV_len]
      show i * 9 + q < k * 9 ∨ k * 9 + 9 ≤ i * 9 + q
      omega)]
    exact h.cell i hi q hq
theorem IA.nine (h : IA W gi T f) {k : Nat} (hk : k < T) : ∃ x0 x1 x2 x3 x4 x5 x6 x7 x8, W.cell? ⟨gi, k * 9, none⟩ = some x0 ∧ W.cell? ⟨gi, k * 9 + 1, none⟩ = some x1 ∧ W.cell? ⟨gi, k * 9 + 2, none⟩ = some x2 ∧ W.cell? ⟨gi, k * 9 + 3, none⟩ = some x3 ∧ W.cell? ⟨gi, k * 9 + 4, none⟩ = some x4 ∧ W.cell? ⟨gi, k * 9 + 5, none⟩ = some x5 ∧ W.cell? ⟨gi, k * 9 + 6, none⟩ = some x6 ∧ W.cell? ⟨gi, k * 9 + 7, none⟩ = some x7 ∧ W.cell? ⟨gi, k * 9 + 8, none⟩ = some x8 :=
  ⟨_, _, _, _, _, _, _, _, _, h.cell k hk 0 (by decide), h.cell k hk 1 (by decide), h.cell k hk 2 (by decide), h.cell k hk 3 (by decide), h.cell k hk 4 (by decide), h.cell k hk 5 (by decide), h.cell k hk 6 (by decide), h.cell k hk 7 (by decide), h.cell k hk 8 (by decide)⟩
theorem IA.frozen (h : IA W gi T f) (i : Nat) : W.frozen? ⟨gi, i, none⟩ = false := by
  obtain ⟨cs, hb⟩ := h.blk
  exact hb.frozen i
theorem IA.reads (h : IA W gi T f) {C : Nat} (hC : T ≤ C) : Reads 9 csV W (.slice (some ⟨gi, 0, none⟩) T C) ((List.range T).map f) := by
  refine ⟨some ⟨gi, 0, none⟩, C, by simp, by simpa using hC, (fun e => by cases e), fun _ => ⟨gi, 0, rfl, h.lt, fun i hi q hq => ?_⟩⟩
  have hi' : i < T := by simpa using hi
  rw [Nat.zero_add, h.cell i hi' q hq]
  simp
end
theorem made_get (z : Array Value) (T i q : Nat) (hz : z.size = 9) (hi : i < T) (hq : q < 9) : (madeCells z (T * 9)).toList[i * 9 + q]? = z[q]? := by
  have h1 : i * 9 + q < T * 9 := by omega
  have h2 : (i * 9 + q) % 9 = q := by omega
  rw [Array.getElem?_toList]
  unfold madeCells
  simp [h1, hz, h2, hq]
theorem chg_sets {B g : Nat} {w : World} (vs : List Value) (o : Nat) (W : World) (h : Chg B [g] w W) : Chg B [g] w (W.setCells g o vs) := Chg.sets (List.mem_singleton.2 rfl) vs o W h
set_option maxRecDepth 100000 in
set_option maxHeartbeats 8000000 in
theorem put_any (G gi T C rows cols r c p : Nat) (f : Nat → Vl) (u : Vl) (W : World) (hG : Blk W G 27 #[.int .i64 5, .string ⟨#[]⟩, .string ⟨#[]⟩, .string ⟨#[]⟩, .bool false, .int .i64 0, .int .i64 (rows : Int), .int .i64 (cols : Int), .slice (some ⟨gi, 0, none⟩) T C]) (hI : IA W gi T f) (hp : p = r * cols) (hk : p + c < T) (hr : r ≤ 1000) (hc : c ≤ 1000) (hT : T ≤ 100000) (hne : G ≠ gi) (hTC : T ≤ C) (hcz : cols ≤ 1000) :
    Calls Tryz.prog 31 #[.int .i64 (r : Int), .int .i64 (c : Int), .agg (vA u), .pointer (some ⟨G, 0, none⟩)] W fun e w' => e = .returned (.tuple #[]) ∧ IA w' gi T (up f (p + c) u) ∧ Chg W.heap.size [gi] W w' := by
  have hpz : (r : Int) * (cols : Int) = (p : Int) := by rw [hp]; push_cast; rfl
  have hp6 : p ≤ 1000000 := by rw [hp]; exact Nat.le_trans (Nat.mul_le_mul hr hcz) (by decide)
  clear hp
  obtain ⟨uk, unum, uden, utext, uon, ucode, urows, ucols, uA, un, uc⟩ := u
  obtain ⟨k, hkk⟩ : ∃ k, k = p + c := ⟨_, rfl⟩
  have z4 : ((p : Int) + (c : Int)).toNat = k := by omega
  have z2 : (p : Int) + (c : Int) < (T : Int) := by omega
  have z5 : (0 : Int) ≤ (p : Int) + (c : Int) := by omega
  have HKK := Lib.hid hkk
  rw [← hkk] at hk
  clear hkk
  have hB : Below W.heap.size W (W.alloc (.cells #[.int .i64 uk, .string unum, .string uden, .string utext, .bool uon, .int .i64 ucode, .int .i64 urows, .int .i64 ucols, .slice uA un uc] 27)) := (Below.refl _ _).alloc (Nat.le_refl _) _
  have HG := Lib.hid (hG.later hB)
  have HI := Lib.hid (hI.later hB)
  have HB := Lib.hid hB
  have HX := Lib.hid (Blk.new W 27 #[.int .i64 uk, .string unum, .string uden, .string utext, .bool uon, .int .i64 ucode, .int .i64 urows, .int .i64 ucols, .slice uA un uc])
  have HTC := Lib.hid hTC
  clear hG hI hB hTC
  show Calls Tryz.prog 31 #[.int .i64 (r : Int), .int .i64 (c : Int), .agg #[.int .i64 uk, .string unum, .string uden, .string utext, .bool uon, .int .i64 ucode, .int .i64 urows, .int .i64 ucols, .slice uA un uc], .pointer (some ⟨G, 0, none⟩)] W _
  go_enter Tryz.func31, Tryz.ntmps31
  go_upto_region 1 with fail
  revert HG HI HB HX
  generalize W.alloc (.cells #[.int .i64 uk, .string unum, .string uden, .string utext, .bool uon, .int .i64 ucode, .int .i64 urows, .int .i64 ucols, .slice uA un uc] 27) = W1
  intro HG HI HB HX
  have g7 : W1.cell? ⟨G, 7, none⟩ = some (.int .i64 (cols : Int)) := HG.out.cell 7
  have g8 : W1.cell? ⟨G, 8, none⟩ = some (.slice (some ⟨gi, 0, none⟩) T C) := HG.out.cell 8
  have x0 : W1.cell? ⟨W.heap.size, 0, none⟩ = some (.int .i64 uk) := HX.out.cell 0
  have x1 : W1.cell? ⟨W.heap.size, 1, none⟩ = some (.string unum) := HX.out.cell 1
  have x2 : W1.cell? ⟨W.heap.size, 2, none⟩ = some (.string uden) := HX.out.cell 2
  have x3 : W1.cell? ⟨W.heap.size, 3, none⟩ = some (.string utext) := HX.out.cell 3
  have x4 : W1.cell? ⟨W.heap.size, 4, none⟩ = some (.bool uon) := HX.out.cell 4
  have x5 : W1.cell? ⟨W.heap.size, 5, none⟩ = some (.int .i64 ucode) := HX.out.cell 5
  have x6 : W1.cell? ⟨W.heap.size, 6, none⟩ = some (.int .i64 urows) := HX.out.cell 6
  have x7 : W1.cell? ⟨W.heap.size, 7, none⟩ = some (.int .i64 ucols) := HX.out.cell 7
  have x8 : W1.cell? ⟨W.heap.size, 8, none⟩ = some (.slice uA un uc) := HX.out.cell 8
  obtain ⟨y0, y1, y2, y3, y4, y5, y6, y7, y8, e0, e1, e2, e3, e4, e5, e6, e7, e8⟩ := HI.out.nine hk
  have f0 : W1.frozen? ⟨gi, k * 9, none⟩ = false := HI.out.frozen _
  have f1 : W1.frozen? ⟨gi, k * 9 + 1, none⟩ = false := HI.out.frozen _
  have f2 : W1.frozen? ⟨gi, k * 9 + 2, none⟩ = false := HI.out.frozen _
  have f3 : W1.frozen? ⟨gi, k * 9 + 3, none⟩ = false := HI.out.frozen _
  have f4 : W1.frozen? ⟨gi, k * 9 + 4, none⟩ = false := HI.out.frozen _
  have f5 : W1.frozen? ⟨gi, k * 9 + 5, none⟩ = false := HI.out.frozen _
  have f6 : W1.frozen? ⟨gi, k * 9 + 6, none⟩ = false := HI.out.frozen _
  have f7 : W1.frozen? ⟨gi, k * 9 + 7, none⟩ = false := HI.out.frozen _
  have f8 : W1.frozen? ⟨gi, k * 9 + 8, none⟩ = false := HI.out.frozen _
  go_wp2_with fail
  refine bodyPost_end (results_none rfl _ _ _) rfl ⟨rfl, ?_, ?_⟩
  · rw [← HKK.out]
    exact HI.out.set hk ⟨uk, unum, uden, utext, uon, ucode, urows, ucols, uA, un, uc⟩
  · exact chg_sets (csV ⟨uk, unum, uden, utext, uon, ucode, urows, ucols, uA, un, uc⟩) (k * 9) W1 (Chg.of HB.out [gi])
end Go.Proofs.YtmapagbmihpbmaaGreatDoor

namespace Go.Proofs.YtmapagbmihpbmaaGreatDoor
open Go.RowKit

section
variable {ops : Array Oper} {rest : List Oper} {o : Oper} {a : Act} {Q : Exit → Act → World → Prop}
/-- make of a row of values. -/
theorem wp_makeV {w : World} (hgd : o.guard = none) (x y : Operand) (ho : o.op = Op.makeSlice 25 x y) (C D : Int) (n : Nat) (hx : a.eval x = .int .i64 C) (hy : a.eval y = .int .i64 D) (hC : C = (n : Int)) (hD : D = (n : Int))
    (hn : n ≤ 100000)
    (h : ∀ w', IA w' w.heap.size n (fun _ => zV) → Below w.heap.size w w' → wpList Tryz.prog ops Q rest (a.put o.dst (.slice (some ⟨w.heap.size, 0, none⟩) n n)) w') :
    wpList Tryz.prog ops Q (o :: rest) a w := by
  obtain ⟨i0, hi, hz0, hz1, hz2⟩ := info_parts val_info
  refine wpList_make_full w hgd x y 25 ho w.heap.size 27 i0 (.agg #[.int .i64 0, .string ⟨#[]⟩, .string ⟨#[]⟩, .string ⟨#[]⟩, .bool false, .int .i64 0, .int .i64 0, .int .i64 0, .slice none 0 0]) 9 Tryz.underlying25 hi hz0 hz1 .i64 .i64 C D n hx hy hC hD (by rw [hz2]; omega) (by unfold maxLen; omega) (Nat.le_refl _) ?_
  intro w' h1 h2
  refine h w' ⟨?_, fun i hi q hq => ?_⟩ ⟨h2.os, h2.tape, h2.output, h2.size, fun k hk => h2.block k hk (by simp)⟩
  · rcases h1.2 with ⟨h0, _⟩ | ⟨g, cap, cur, e, _, hb, _⟩
    · cases h0
    · injection e with e
      injection e with e
      injection e with e
      subst e
      exact ⟨cur, hb⟩
  · have := World.ownsRow.cellAt h1 (i * 9 + q) (by omega)
    rw [this]
    have h9 := made_get #[.int .i64 0, .string ⟨#[]⟩, .string ⟨#[]⟩, .string ⟨#[]⟩, .bool false, .int .i64 0, .int .i64 0, .int .i64 0, .slice none 0 0] n i q rfl hi hq
    refine h9.trans ?_
    rw [← Array.getElem?_toList]
    rfl
end
theorem rd_at {α : Type} {w : World} {A : Option Addr} {n c size : Nat} {g : α → List Value} {f : Nat → α} (h : Reads size g w (.slice A n c) ((List.range n).map f)) (i : Nat) (hi : i < n) : ∃ b o, A = some ⟨b, o, none⟩ ∧ ∀ W, Below w.heap.size w W → ∀ q, q < size → W.cell? ⟨b, o + i * size + q, none⟩ = (g (f i))[q]? := by
  obtain ⟨A', c', e, -, -, h3⟩ := h
  injection e with e1 e2 e3
  obtain ⟨b, o, e4, hb, hc⟩ := h3 (by simp; omega)
  refine ⟨b, o, e1.trans e4, fun W hW q hq => ?_⟩
  have := hc i (by simpa using hi) q hq
  rw [← Nat.add_assoc] at this
  rw [hW.cell (by exact hb), this]
  simp
theorem kt_at {w : World} {g n c : Nat} {K : List Vl} (h : KT w (.slice (some ⟨g, 0, none⟩) n c) K) (hn : n = K.length) (i : Nat) (hi : i < n) : ∃ b o d, ∀ W, Below w.heap.size w W → W.cell? ⟨g, i, none⟩ = some (.slice (some ⟨b, o, none⟩) 1 d) ∧ ∀ q, q < 9 → W.cell? ⟨b, o + q, none⟩ = (csV K[i]!)[q]? := by
  obtain ⟨h1, h2⟩ := h.rows.get
  obtain ⟨b, o, e, hb, hc⟩ := h2 (by omega)
  injection e with e
  injection e with e4 e5
  subst e4 e5
  obtain ⟨x, hx, A', c', e', -, -, h3⟩ := hc i (by omega)
  obtain ⟨b2, o2, e2, hb2, hc2⟩ := h3 (by simp)
  refine ⟨b2, o2, c', fun W hW => ⟨?_, fun q hq => ?_⟩⟩
  · rw [Nat.zero_add] at hx
    rw [hW.cell (by exact hb), hx, e', e2]
    rfl
  · have := hc2 0 (by simp) q hq
    rw [show o2 + (0 * 9 + q) = o2 + q by omega] at this
    exact (hW.cell (by exact hb2)).trans this
/-- What stands in the array, by row and column. -/
def tgt (n m : Nat) (K1 K2 : List Vl) (RL : List Rm) (Rs : List Rm → Vl) (r c : Nat) : Vl :=
  if r = 0 then (if c = 0 then zV else if c ≤ m then K2[c - 1]! else tV ⟨#[84, 111, 116, 97, 108]⟩)
  else if r ≤ n then (if c = 0 then K1[r - 1]! else if c ≤ m then cellV Rs RL m ((r - 1) * m + (c - 1)) else rowV Rs RL (r - 1))
  else (if c = 0 then tV ⟨#[84, 111, 116, 97, 108]⟩ else if c ≤ m then colV Rs RL (c - 1) else Rs RL)
section
variable {n m : Nat} {K1 K2 : List Vl} {RL : List Rm} {Rs : List Rm → Vl}
theorem tg_top (k : Nat) (h : k < m) : tgt n m K1 K2 RL Rs 0 (1 + k) = K2[k]! := by
  unfold tgt
  rw [if_pos rfl, if_neg (by omega), if_pos (by omega), Nat.add_sub_cancel_left]
theorem tg_corner : tgt n m K1 K2 RL Rs 0 (m + 1) = tV ⟨#[84, 111, 116, 97, 108]⟩ := by
  unfold tgt
  rw [if_pos rfl, if_neg (by omega), if_neg (by omega)]
theorem tg_low : tgt n m K1 K2 RL Rs (n + 1) 0 = tV ⟨#[84, 111, 116, 97, 108]⟩ := by
  unfold tgt
  rw [if_neg (by omega), if_neg (by omega), if_pos rfl]
theorem tg_col (k : Nat) (h : k < m) : tgt n m K1 K2 RL Rs (n + 1) (1 + k) = colV Rs RL k := by
  unfold tgt
  rw [if_neg (by omega), if_neg (by omega), if_neg (by omega), if_pos (by omega), Nat.add_sub_cancel_left]
theorem tg_all : tgt n m K1 K2 RL Rs (n + 1) (m + 1) = Rs RL := by
  unfold tgt
  rw [if_neg (by omega), if_neg (by omega), if_neg (by omega), if_neg (by omega)]
theorem tg_left (i : Nat) (h : i < n) : tgt n m K1 K2 RL Rs (1 + i) 0 = K1[i]! := by
  unfold tgt
  rw [if_neg (by omega), if_pos (by omega), if_pos rfl, Nat.add_sub_cancel_left]
theorem tg_cell (i k : Nat) (h : i < n) (h2 : k < m) : tgt n m K1 K2 RL Rs (1 + i) (1 + k) = cellV Rs RL m (i * m + k) := by
  unfold tgt
  rw [if_neg (by omega), if_pos (by omega), if_neg (by omega), if_pos (by omega), Nat.add_sub_cancel_left, Nat.add_sub_cancel_left]
theorem tg_row (i : Nat) (h : i < n) : tgt n m K1 K2 RL Rs (1 + i) (m + 1) = rowV Rs RL i := by
  unfold tgt
  rw [if_neg (by omega), if_pos (by omega), if_neg (by omega), if_neg (by omega), Nat.add_sub_cancel_left]
end
/-- The places of S hold what they are to hold. -/
def Dn (m : Nat) (tg : Nat → Nat → Vl) (f : Nat → Vl) (S : Nat → Nat → Prop) : Prop := ∀ r c, S r c → f (r * (m + 2) + c) = tg r c
theorem Dn.put {m : Nat} {tg : Nat → Nat → Vl} {f : Nat → Vl} {S S' : Nat → Nat → Prop} (h : Dn m tg f S) (r0 c0 : Nat) (hc : c0 < m + 2) (hS : ∀ r c, S' r c → c < m + 2 ∧ (S r c ∨ (r = r0 ∧ c = c0))) {u : Vl} (hu : u = tg r0 c0) : Dn m tg (up f (r0 * (m + 2) + c0) u) S' := fun r c hs => by
  obtain ⟨h1, h2⟩ := hS r c hs
  by_cases e : r = r0 ∧ c = c0
  · rw [e.1, e.2, up_same, hu]
  · rw [up_ne]
    · exact h r c (h2.resolve_right e)
    · intro e2
      apply e
      have hd : (r * (m + 2) + c) / (m + 2) = r := by rw [Nat.mul_comm, Nat.mul_add_div (by omega), Nat.div_eq_of_lt h1, Nat.add_zero]
      have hd0 : (r0 * (m + 2) + c0) / (m + 2) = r0 := by rw [Nat.mul_comm, Nat.mul_add_div (by omega), Nat.div_eq_of_lt hc, Nat.add_zero]
      have : r = r0 := by rw [← hd, ← hd0, e2]
      subst this
      omega
/-- What the loops of Array know. -/
structure Ay (w w1 W0 : World) (L : List (Nat × TypeId × Array Value)) (tA G gi n m C g1 c1 g2 c2 : Nat) (A3 : Option Addr) (c3 : Nat) (A4 : Option Addr) (c4 : Nat) (A5 : Option Addr) (c5 : Nat) (t : Vl) (K1 K2 : List Vl) (RL : List Rm) (Rs : List Rm → Vl) : Prop where
  loc : Loc w L W0
  tab : (tA, 33, #[.slice (some ⟨g1, 0, none⟩) n c1, .slice (some ⟨g2, 0, none⟩) m c2, .slice A3 (n * m) c3, .slice A4 n c4, .slice A5 m c5, .int .i64 t.k, .string t.num, .string t.den, .string t.text, .bool t.on, .int .i64 t.code, .int .i64 t.rows, .int .i64 t.cols, .slice t.A t.n t.c]) ∈ L
  arr : (G, 27, #[.int .i64 5, .string ⟨#[]⟩, .string ⟨#[]⟩, .string ⟨#[]⟩, .bool false, .int .i64 0, .int .i64 ((n + 2 : Nat) : Int), .int .i64 ((m + 2 : Nat) : Int), .slice (some ⟨gi, 0, none⟩) ((n + 2) * (m + 2)) C]) ∈ L
  out : (w.heap.size + 1 + 1, 27, #[.int .i64 0, .string ⟨#[]⟩, .string ⟨#[]⟩, .string ⟨#[]⟩, .bool false, .int .i64 0, .int .i64 0, .int .i64 0, .slice none 0 0]) ∈ L
  own : ∀ x ∈ L, x.1 < gi
  lt : gi < W0.heap.size
  low : w.heap.size ≤ gi
  b1 : Below w1.heap.size w1 W0
  le : w1.heap.size ≤ gi
  tot : Rs RL = t
  k1 : KT w1 (.slice (some ⟨g1, 0, none⟩) n c1) K1
  k2 : KT w1 (.slice (some ⟨g2, 0, none⟩) m c2) K2
  l1 : n = K1.length
  l2 : m = K2.length
  r3 : Reads 9 csV w1 (.slice A3 (n * m) c3) ((List.range (n * m)).map (cellV Rs RL m))
  r4 : Reads 9 csV w1 (.slice A4 n c4) ((List.range n).map (rowV Rs RL))
  r5 : Reads 9 csV w1 (.slice A5 m c5) ((List.range m).map (colV Rs RL))
  ln : n ≤ 14
  lm : m ≤ 14
  hC : (n + 2) * (m + 2) ≤ C
/-- The array under way. -/
structure Aw (w w1 W0 W : World) (L : List (Nat × TypeId × Array Value)) (gi n m : Nat) (K1 K2 : List Vl) (RL : List Rm) (Rs : List Rm → Vl) (S : Nat → Nat → Prop) : Prop where
  loc : Loc w L W
  bel : Below gi W0 W
  b1 : Below w1.heap.size w1 W
  ex : ∃ f, IA W gi ((n + 2) * (m + 2)) f ∧ Dn m (tgt n m K1 K2 RL Rs) f S
section
variable {w w1 W0 W W' : World} {L : List (Nat × TypeId × Array Value)} {tA G gi n m C g1 c1 g2 c2 : Nat} {A3 : Option Addr} {c3 : Nat} {A4 : Option Addr} {c4 : Nat} {A5 : Option Addr} {c5 : Nat} {t : Vl} {K1 K2 : List Vl} {RL : List Rm} {Rs : List Rm → Vl} {S S' : Nat → Nat → Prop}
theorem Aw.later (h : Aw w w1 W0 W L gi n m K1 K2 RL Rs S) (hb : Below W.heap.size W W') : Aw w w1 W0 W' L gi n m K1 K2 RL Rs S := by
  obtain ⟨f, h1, h2⟩ := h.ex
  exact ⟨h.loc.step hb, h.bel.trans (hb.mono (Nat.le_of_lt h1.lt)), h.b1.trans (hb.mono h.b1.size), f, h1.later hb, h2⟩
theorem Aw.alloc (h : Aw w w1 W0 W L gi n m K1 K2 RL Rs S) (o : Obj) : Aw w w1 W0 (W.alloc o) L gi n m K1 K2 RL Rs S := h.later ((Below.refl _ _).alloc (Nat.le_refl _) _)
/-- One place is put. -/
theorem Aw.put (hy : Ay w w1 W0 L tA G gi n m C g1 c1 g2 c2 A3 c3 A4 c4 A5 c5 t K1 K2 RL Rs) (h : Aw w w1 W0 W L gi n m K1 K2 RL Rs S) (r c : Nat) (hr : r ≤ n + 1) (hc : c ≤ m + 1) (u : Vl) (hu : u = tgt n m K1 K2 RL Rs r c) (hS : ∀ r' c', S' r' c' → c' < m + 2 ∧ (S r' c' ∨ (r' = r ∧ c' = c))) :
    Calls Tryz.prog 31 #[.int .i64 (r : Int), .int .i64 (c : Int), .agg (vA u), .pointer (some ⟨G, 0, none⟩)] W fun e w' => e = .returned (.tuple #[]) ∧ Aw w w1 W0 w' L gi n m K1 K2 RL Rs S' := by
  obtain ⟨f, h1, h2⟩ := h.ex
  have ln := hy.ln
  have lm := hy.lm
  have hG := h.loc.blk hy.arr
  have hGl := hy.own _ hy.arr
  dsimp only at hGl
  have hT : (n + 2) * (m + 2) ≤ 256 := Nat.le_trans (Nat.mul_le_mul (show n + 2 ≤ 16 by omega) (show m + 2 ≤ 16 by omega)) (by decide)
  have hk : r * (m + 2) + c < (n + 2) * (m + 2) := by
    have := Nat.mul_le_mul_right (m + 2) (show r + 1 ≤ n + 2 by omega)
    rw [Nat.add_mul] at this
    omega
  refine (put_any G gi ((n + 2) * (m + 2)) C (n + 2) (m + 2) r c (r * (m + 2)) f u W hG h1 rfl hk (by omega) (by omega) (by omega) (by omega) hy.hC (by omega)).mono ?_
  rintro e w' ⟨rfl, h3, h4⟩
  have hb : Below gi W w' := h4.below (Nat.le_of_lt h1.lt) (fun x hx => by rw [List.mem_singleton.1 hx]; exact Nat.le_refl _)
  exact ⟨rfl, h.loc.stepB' hb hy.low hy.own, h.bel.trans hb, h.b1.trans (hb.mono hy.le), _, h3, h2.put r c (by omega) hS hu⟩
end
end Go.Proofs.YtmapagbmihpbmaaGreatDoor

namespace Go.Proofs.YtmapagbmihpbmaaGreatDoor
open Go.RowKit

def tw (r : Rm) : Nat × Nat × Vl := (r.row, r.col, r.v)
/-- A record's number, by its value alone. -/
def nmR (r : Rm) : Nat := Nt.dval r.v.num.data.toList
theorem nmR_nV (r : Rm) (n : Nat) (h : r.v = nV n) : nmR r = n := by
  unfold nmR
  rw [h]
  exact Nt.dval_dd n
theorem sum_rev : ∀ l : List Nat, l.reverse.sum = l.sum
  | [] => rfl
  | x :: t => by rw [List.reverse_cons, List.sum_append, sum_rev t]; simp; omega
theorem mnL_rev : ∀ l : List Nat, mnL l.reverse = mnL l
  | [] => rfl
  | [x] => rfl
  | x :: y :: t => by
    have e1 : mnL (x :: y :: t) = min x (mnL (y :: t)) := mnL_cons _ _ (by simp)
    have e2 : mnL ((y :: t).reverse ++ [x]) = min (mnL (y :: t).reverse) x := mnL_snoc _ _ (by simp)
    rw [e1, List.reverse_cons, e2, mnL_rev (y :: t), Nat.min_comm]
theorem mxL_rev : ∀ l : List Nat, mxL l.reverse = mxL l
  | [] => rfl
  | x :: t => by rw [List.reverse_cons, mxL_snoc, mxL_rev t, mxL, Nat.max_comm]
theorem resV_rev (how : Int) (L L' : List Rm) (h : L'.map Rm.v = (L.map Rm.v).reverse) : resV nmR how L' = resV nmR how L := by
  have e : L'.map nmR = (L.map nmR).reverse := by
    have h1 : ∀ l : List Rm, l.map nmR = (l.map Rm.v).map (fun v => Nt.dval v.num.data.toList) := fun l => by rw [List.map_map]; rfl
    rw [h1, h1, h, List.map_reverse]
  have hl : L'.length = L.length := by
    have := congrArg List.length h
    simpa using this
  have hs : Pv.sm nmR L' = Pv.sm nmR L := by
    unfold Pv.sm
    rw [e, sum_rev]
  unfold resV
  rw [hl, hs, e, mnL_rev, mxL_rev]
theorem grM_t (l : List Rm) (i k : Nat) : (grM l i k).map Rm.v = ((l.map tw).filter (fun t => t.1 == i && t.2.1 == k)).map (fun t => t.2.2) := by
  unfold grM Pv.gr
  rw [List.filter_map, List.map_map]
  rfl
theorem gr1_row_t (l : List Rm) (i : Nat) : (Pv.gr1 Rm.row l i).map Rm.v = ((l.map tw).filter (fun t => t.1 == i)).map (fun t => t.2.2) := by
  unfold Pv.gr1
  rw [List.filter_map, List.map_map]
  rfl
theorem gr1_col_t (l : List Rm) (i : Nat) : (Pv.gr1 Rm.col l i).map Rm.v = ((l.map tw).filter (fun t => t.2.1 == i)).map (fun t => t.2.2) := by
  unfold Pv.gr1
  rw [List.filter_map, List.map_map]
  rfl
section
variable {L L' : List Rm} (h : L'.map tw = (L.map tw).reverse)
include h
theorem grM_rev (i k : Nat) : (grM L' i k).map Rm.v = ((grM L i k).map Rm.v).reverse := by
  rw [grM_t, grM_t, h, List.filter_reverse, List.map_reverse]
theorem gr1_row_rev (i : Nat) : (Pv.gr1 Rm.row L' i).map Rm.v = ((Pv.gr1 Rm.row L i).map Rm.v).reverse := by
  rw [gr1_row_t, gr1_row_t, h, List.filter_reverse, List.map_reverse]
theorem gr1_col_rev (i : Nat) : (Pv.gr1 Rm.col L' i).map Rm.v = ((Pv.gr1 Rm.col L i).map Rm.v).reverse := by
  rw [gr1_col_t, gr1_col_t, h, List.filter_reverse, List.map_reverse]
theorem all_rev : L'.map Rm.v = (L.map Rm.v).reverse := by
  have h1 : ∀ l : List Rm, l.map Rm.v = (l.map tw).map (fun t => t.2.2) := fun l => by rw [List.map_map]; rfl
  rw [h1, h1, h, List.map_reverse]
theorem tgt_rev (n m : Nat) (K1 K2 : List Vl) (how : Int) (r c : Nat) : tgt n m K1 K2 L' (resV nmR how) r c = tgt n m K1 K2 L (resV nmR how) r c := by
  have hc : ∀ x, cellV (resV nmR how) L' m x = cellV (resV nmR how) L m x := fun x => by
    have h1 := grM_rev h (x / m) (x % m)
    have h2 : (grM L' (x / m) (x % m)).length = (grM L (x / m) (x % m)).length := by
      have := congrArg List.length h1
      simpa using this
    unfold cellV
    rw [h2, resV_rev how _ _ h1]
  have hr : ∀ i, rowV (resV nmR how) L' i = rowV (resV nmR how) L i := fun i => resV_rev how _ _ (gr1_row_rev h i)
  have hk : ∀ i, colV (resV nmR how) L' i = colV (resV nmR how) L i := fun i => resV_rev how _ _ (gr1_col_rev h i)
  unfold tgt
  rw [hc, hr, hk, resV_rev how _ _ (all_rev h)]
end
theorem range_rev {α : Type} (R : Nat) (f g : Nat → α) (h : ∀ i, i < R → f i = g (R - 1 - i)) : (List.range R).map f = ((List.range R).map g).reverse := by
  apply List.ext_getElem
  · simp
  · intro i h1 h2
    have hi : i < R := by simpa using h1
    simp only [List.getElem_map, List.getElem_range, List.getElem_reverse, List.length_map, List.length_range]
    exact h i hi
section
variable {us us' : List Vl} {R : Nat} (h : ∀ i, i < R → ∀ c, c < 3 → us'[(i + 1) * 3 + c]! = us[(R - i) * 3 + c]!)
include h
theorem colL_rev (c : Nat) (hc : c < 3) : colL us' c R = (colL us c R).reverse := range_rev R _ _ fun i hi => by
  rw [h i hi c hc, show R - 1 - i + 1 = R - i by omega]
theorem keys_rev (c : Nat) (hc : c < 3) (hok : ∀ u ∈ colL us c R, u.ok) (hid : ∀ a ∈ colL us c R, ∀ b ∈ colL us c R, ordV a b = 0 → a = b) : keysP (colL us' c R) = keysP (colL us c R) :=
  (keysP_same _ _ hok hid fun u => by rw [colL_rev h c hc]; simp).symm
theorem recs_rev (cr cc : Nat) (hcr : cr < 3) (hcc : cc < 3) (h1 : keysP (colL us' cr R) = keysP (colL us cr R)) (h2 : keysP (colL us' cc R) = keysP (colL us cc R)) : (recsP us' cr cc R).map tw = ((recsP us cr cc R).map tw).reverse := by
  unfold recsP
  rw [List.map_map, List.map_map]
  refine range_rev R _ _ fun i hi => ?_
  show tw (recP us' cr cc R i) = tw (recP us cr cc R (R - 1 - i))
  unfold recP tw
  rw [h1, h2, h i hi cr hcr, h i hi cc hcc, h i hi 2 (by decide), show R - 1 - i + 1 = R - i by omega]
end
/-- No item of an array has items. -/
theorem tgt_n (n m : Nat) (K1 K2 : List Vl) (L : List Rm) (how : Int) (hl1 : n = K1.length) (hl2 : m = K2.length) (h1 : ∀ u ∈ K1, u.n = 0) (h2 : ∀ u ∈ K2, u.n = 0) (r c : Nat) (N : Rm → Nat) : (tgt n m K1 K2 L (resV N how) r c).n = 0 := by
  have hres : ∀ l, (resV N how l).n = 0 := fun l => by
    unfold resV
    repeat' split
    all_goals rfl
  unfold tgt
  repeat' split
  all_goals first
    | rfl
    | exact hres _
    | (unfold cellV; split <;> first | rfl | exact hres _)
    | exact hres _
    | (refine h2 _ ?_; rw [getElem!_pos K2 (c - 1) (by omega)]; exact List.getElem_mem _)
    | (refine h1 _ ?_; rw [getElem!_pos K1 (r - 1) (by omega)]; exact List.getElem_mem _)
end Go.Proofs.YtmapagbmihpbmaaGreatDoor

namespace Go.Proofs.YtmapagbmihpbmaaGreatDoor
open Go.RowKit

/-- A word of the law in small letters. -/
def lwL : Nat → ByteArray
  | 0 => ⟨#[97]⟩
  | 1 => ⟨#[98]⟩
  | 2 => ⟨#[97]⟩
  | _ => ⟨#[99]⟩
theorem lw_txt (k : Nat) : txtE (lwL k) = 0 := by
  match k with
  | 0 => decide +kernel
  | 1 => decide +kernel
  | 2 => decide +kernel
  | k + 3 => exact (show txtE ⟨#[99]⟩ = 0 by decide +kernel)
theorem lw_size (k : Nat) : (lwL k).size ≤ 9223372036854775807 := by
  match k with
  | 0 => decide
  | 1 => decide
  | 2 => decide
  | k + 3 => exact (show (⟨#[99]⟩ : ByteArray).size ≤ _ by decide)
/-- An item when the texts are lowered. -/
def itmL (Z : List Int) (i : Nat) : Vl := if i < 3 then tV ⟨#[104, 101, 97, 100]⟩ else if i % 3 = 2 then nV (xAt Z i % 50).toNat else tV (lwL (xAt Z i % 4).toNat)
theorem itmL_ok (Z : List Int) (i : Nat) : (itmL Z i).ok := by
  unfold itmL
  split
  · exact tval_ok head_txt
  · split
    · exact nV_ok _ (by have := n50 (xAt Z i); omega)
    · exact tval_ok (lw_txt _)
theorem itmL_sz (Z : List Int) (i : Nat) : (itmL Z i).sz := by
  unfold itmL
  split
  · exact ⟨by decide, by decide, by decide⟩
  · split
    · exact ⟨Nat.le_trans (nt_size _ (by have := n50 (xAt Z i); omega)) (by decide), (show (⟨#[49]⟩ : ByteArray).size ≤ 9223372036854775807 by decide), (show (⟨#[]⟩ : ByteArray).size ≤ 9223372036854775807 by decide)⟩
    · exact ⟨(show (⟨#[]⟩ : ByteArray).size ≤ 9223372036854775807 by decide), (show (⟨#[]⟩ : ByteArray).size ≤ 9223372036854775807 by decide), lw_size _⟩
theorem itmL_flat (Z : List Int) (i : Nat) : (itmL Z i).A = none ∧ (itmL Z i).n = 0 ∧ (itmL Z i).c = 0 := by
  unfold itmL
  repeat' split
  all_goals exact ⟨rfl, rfl, rfl⟩
/-- Values without items that stand in one place are equal. -/
theorem flat_id {a b : Vl} (ha : a.ok) (hb : b.ok) (fa : a.A = none ∧ a.n = 0 ∧ a.c = 0) (fb : b.A = none ∧ b.n = 0 ∧ b.c = 0) (h : ordV a b = 0) : a = b := by
  obtain ⟨h1, h2, h3, h4, h5, h6, h7, h8, -, -⟩ := ordV_zero ha hb h
  obtain ⟨k, num, den, text, on, code, rows, cols, A, n, c⟩ := a
  obtain ⟨k', num', den', text', on', code', rows', cols', A', n', c'⟩ := b
  obtain ⟨f1, f2, f3⟩ := fa
  obtain ⟨g1, g2, g3⟩ := fb
  dsimp only at *
  subst h1 h2 h3 h4 h5 h6 h7 h8 f1 f2 f3 g1 g2 g3
  rfl
/-- The items of the law's two arrays: as they come, and with the records the other way round. -/
def usA (Z : List Int) (R : Nat) : List Vl := (List.range ((R + 1) * 3)).map (itmL Z)
def usB (Z : List Int) (R : Nat) : List Vl := (List.range ((R + 1) * 3)).map fun x => if x < 3 then itmL Z x else itmL Z ((R + 1 - x / 3) * 3 + x % 3)
theorem usA_get (Z : List Int) (R x : Nat) (h : x < (R + 1) * 3) : (usA Z R)[x]! = itmL Z x := by
  unfold usA
  rw [getElem!_pos _ x (by simpa using h)]
  simp
theorem usB_get (Z : List Int) (R x : Nat) (h : x < (R + 1) * 3) : (usB Z R)[x]! = if x < 3 then itmL Z x else itmL Z ((R + 1 - x / 3) * 3 + x % 3) := by
  unfold usB
  rw [getElem!_pos _ x (by simpa using h)]
  simp
theorem usB_rev (Z : List Int) (R : Nat) : ∀ i, i < R → ∀ c, c < 3 → (usB Z R)[(i + 1) * 3 + c]! = (usA Z R)[(R - i) * 3 + c]! := fun i hi c hc => by
  rw [usB_get Z R _ (by omega), usA_get Z R _ (by omega), if_neg (by omega)]
  have h1 : ((i + 1) * 3 + c) / 3 = i + 1 := by omega
  have h2 : ((i + 1) * 3 + c) % 3 = c := by omega
  rw [h1, h2, show R + 1 - (i + 1) = R - i by omega]
theorem usA_mem (Z : List Int) (R : Nat) : ∀ u ∈ usA Z R, ∃ i, u = itmL Z i := fun u hu => by
  obtain ⟨i, -, rfl⟩ := List.mem_map.1 hu
  exact ⟨i, rfl⟩
theorem usB_mem (Z : List Int) (R : Nat) : ∀ u ∈ usB Z R, ∃ i, u = itmL Z i := fun u hu => by
  obtain ⟨i, -, rfl⟩ := List.mem_map.1 hu
  split
  · exact ⟨_, rfl⟩
  · exact ⟨_, rfl⟩
theorem colA_mem (Z : List Int) (R c : Nat) (hc : c < 3) : ∀ u ∈ colL (usA Z R) c R, ∃ i, u = itmL Z i := fun u hu => by
  obtain ⟨i, hi, rfl⟩ := List.mem_map.1 hu
  have hi := List.mem_range.1 hi
  exact ⟨_, usA_get Z R _ (by omega)⟩
theorem keysB (Z : List Int) (R c : Nat) (hc : c < 3) : keysP (colL (usB Z R) c R) = keysP (colL (usA Z R) c R) :=
  keys_rev (usB_rev Z R) c hc (fun u hu => by
    obtain ⟨i, rfl⟩ := colA_mem Z R c hc u hu
    exact itmL_ok Z i) fun a ha b hb h => by
    obtain ⟨i, rfl⟩ := colA_mem Z R c hc a ha
    obtain ⟨k, rfl⟩ := colA_mem Z R c hc b hb
    exact flat_id (itmL_ok Z i) (itmL_ok Z k) (itmL_flat Z i) (itmL_flat Z k) h
theorem recsB (Z : List Int) (R : Nat) : (recsP (usB Z R) 1 0 R).map tw = ((recsP (usA Z R) 1 0 R).map tw).reverse :=
  recs_rev (usB_rev Z R) 1 0 (by decide) (by decide) (keysB Z R 1 (by decide)) (keysB Z R 0 (by decide))
/-- Both arrays of the law have the same places. -/
theorem tgtB (Z : List Int) (R : Nat) (n m : Nat) (K1 K2 : List Vl) (how : Int) (r c : Nat) : tgt n m K1 K2 (recsP (usB Z R) 1 0 R) (resV nmR how) r c = tgt n m K1 K2 (recsP (usA Z R) 1 0 R) (resV nmR how) r c := tgt_rev (recsB Z R) n m K1 K2 how r c
theorem recs_nm (us : List Vl) (Z : List Int) (R : Nat) (h : ∀ i, i < R → ∃ k, k % 3 = 2 ∧ 3 ≤ k ∧ us[(i + 1) * 3 + 2]! = itmL Z k) : ∀ r ∈ recsP us 1 0 R, r.v = nV (nmR r) ∧ nmR r ≤ 50 := fun r hr => by
  obtain ⟨i, hi, rfl⟩ := List.mem_map.1 hr
  obtain ⟨k, h1, h2, h3⟩ := h i (List.mem_range.1 hi)
  have hv : (recP us 1 0 R i).v = nV (xAt Z k % 50).toNat := by
    show us[(i + 1) * 3 + 2]! = _
    rw [h3]
    unfold itmL
    rw [if_neg (by omega), if_pos h1]
  rw [nmR_nV _ _ hv]
  exact ⟨hv, by have := n50 (xAt Z k); omega⟩
theorem recsA_nm (Z : List Int) (R : Nat) : ∀ r ∈ recsP (usA Z R) 1 0 R, r.v = nV (nmR r) ∧ nmR r ≤ 50 := recs_nm _ Z R fun i hi => ⟨(i + 1) * 3 + 2, by omega, by omega, usA_get Z R _ (by omega)⟩
theorem recsB_nm (Z : List Int) (R : Nat) : ∀ r ∈ recsP (usB Z R) 1 0 R, r.v = nV (nmR r) ∧ nmR r ≤ 50 := recs_nm _ Z R fun i hi => ⟨(R - i) * 3 + 2, by omega, by omega, by rw [usB_rev Z R i hi 2 (by decide)]; exact usA_get Z R _ (by omega)⟩
end Go.Proofs.YtmapagbmihpbmaaGreatDoor

namespace Go.Proofs.YtmapagbmihpbmaaGreatDoor
open Go.RowKit

/-- What the last part of the law knows: an array, a table. -/
structure Oe (w W0 : World) (X TB gi n m C g1 c1 g2 c2 : Nat) (A3 : Option Addr) (c3 : Nat) (A4 : Option Addr) (c4 : Nat) (A5 : Option Addr) (c5 : Nat) (t : Vl) (K1 : List Vl) (f g4 : Nat → Vl) : Prop where
  loc : Loc w [(TB, 33, #[.slice (some ⟨g1, 0, none⟩) n c1, .slice (some ⟨g2, 0, none⟩) m c2, .slice A3 (n * m) c3, .slice A4 n c4, .slice A5 m c5, .int .i64 t.k, .string t.num, .string t.den, .string t.text, .bool t.on, .int .i64 t.code, .int .i64 t.rows, .int .i64 t.cols, .slice t.A t.n t.c]), (X, 27, #[.int .i64 5, .string ⟨#[]⟩, .string ⟨#[]⟩, .string ⟨#[]⟩, .bool false, .int .i64 0, .int .i64 ((n : Int) + 2), .int .i64 ((m : Int) + 2), .slice (some ⟨gi, 0, none⟩) ((n + 2) * (m + 2)) C])] W0
  rx : Reads 9 csV W0 (.slice (some ⟨gi, 0, none⟩) ((n + 2) * (m + 2)) C) ((List.range ((n + 2) * (m + 2))).map f)
  k1 : KT W0 (.slice (some ⟨g1, 0, none⟩) n c1) K1
  l1 : n = K1.length
  r4 : Reads 9 csV W0 (.slice A4 n c4) ((List.range n).map g4)
  ln : n ≤ 14
  lm : m ≤ 14
  f1 : ∀ i, i < n → f ((i + 1) * (m + 2)) = K1[i]!
  f2 : ∀ i, i < n → f ((i + 2) * (m + 2) - 1) = g4 i
  f3 : f ((n + 2) * (m + 2) - 1) = t
  f4 : f (m + 1) = tV ⟨#[84, 111, 116, 97, 108]⟩
  nn : ∀ x, x < (n + 2) * (m + 2) → (f x).n = 0
noncomputable def orest20 : Code := ((Tryz.f4.body.bind (contAt 20)).getD .skip)
set_option maxRecDepth 100000 in
set_option maxHeartbeats 40000000 in
theorem ord20 {u0 u1 u2 u3 u4 u5 u6 u7 u8 u9 u10 u12 u13 u14 u16 u17 u18 u19 u20 u21 u22 u23 u24 u25 u26 u27 u28 u29 u30 u31 u32 u33 u34 u35 u36 u37 u38 u39 u40 u41 u42 u43 u44 u45 u46 u47 u48 u49 u50 u51 u52 u53 u54 u55 u56 u57 u58 u59 u60 u61 u62 u63 u64 u65 u66 u67 u68 u69 u70 u71 u72 u73 u74 u75 u76 u77 u78 u79 u80 u81 u82 u83 u84 u85 u86 u87 u88 u89 u90 u91 u92 u93 u94 u95 u96 u97 u98 u99 u100 u101 u102 u103 u104 u105 u106 u107 u108 u109 u110 u111 u112 u113 u114 u115 u116 u117 u118 u119 u120 u121 u122 u123 u124 u125 u126 u127 u128 u129 u130 u131 u132 u133 u134 u135 u136 u137 u138 u139 u140 u141 u142 u143 u144 u145 u146 u147 u148 u149 u150 u151 u152 u153 u154 u155 u156 u157 u158 u159 u160 u161 u162 u163 u164 u165 u166 u167 u168 u169 u170 u171 u172 u173 u174 u175 u176 u177 u178 u179 u180 u181 u182 u183 u184 u185 u186 u187 u188 u189 u190 : Value} {w wr : World} {X TB gi n m C g1 c1 g2 c2 : Nat} {A3 : Option Addr} {c3 : Nat} {A4 : Option Addr} {c4 : Nat} {A5 : Option Addr} {c5 : Nat} {t : Vl} {K1 : List Vl} {f g4 : Nat → Vl} (HO : Hid (Oe w wr X TB gi n m C g1 c1 g2 c2 A3 c3 A4 c4 A5 c5 t K1 f g4)) :
    Code.wp Tryz.prog orest20 (bodyPost Tryz.prog Tryz.f4 fun e w' => e = .returned (.bool true) ∧ Below w.heap.size w w') ⟨#[u0, u1, u2, u3, u4, u5, u6, u7, u8, u9, u10, .pointer (some ⟨X, 0, none⟩), u12, u13, u14, .pointer (some ⟨TB, 0, none⟩), u16, u17, u18, u19, u20, u21, u22, u23, u24, u25, u26, u27, u28, u29, u30, u31, u32, u33, u34, u35, u36, u37, u38, u39, u40, u41, u42, u43, u44, u45, u46, u47, u48, u49, u50, u51, u52, u53, u54, u55, u56, u57, u58, u59, u60, u61, u62, u63, u64, u65, u66, u67, u68, u69, u70, u71, u72, u73, u74, u75, u76, u77, u78, u79, u80, u81, u82, u83, u84, u85, u86, u87, u88, u89, u90, u91, u92, u93, u94, u95, u96, u97, u98, u99, u100, u101, u102, u103, u104, u105, u106, u107, u108, u109, u110, u111, u112, u113, u114, u115, u116, u117, u118, u119, u120, u121, u122, u123, u124, u125, u126, u127, u128, u129, u130, u131, u132, u133, u134, u135, u136, u137, u138, u139, u140, u141, u142, u143, u144, u145, u146, u147, u148, u149, u150, u151, u152, u153, u154, u155, u156, u157, u158, u159, u160, u161, u162, u163, u164, u165, u166, u167, u168, u169, u170, u171, u172, u173, u174, u175, u176, u177, u178, u179, u180, u181, u182, u183, u184, u185, u186, u187, u188, u189, u190], []⟩ wr := by
  conv => arg 2; whnf
  conv => arg 4; zeta
  have hn14 := HO.out.ln
  have hm14 := HO.out.lm
  obtain ⟨W0, hW0⟩ : ∃ W0, W0 = wr := ⟨_, rfl⟩
  rw [← hW0] at HO
  have HB0 := Lib.hid (show Below W0.heap.size W0 wr from by rw [hW0]; exact Below.refl _ _)
  clear hW0
  have HLL := Lib.hid fun W (hW : Below W0.heap.size W0 W) => HO.out.loc.step hW
  have t0 : wr.cell? ⟨TB, 0, none⟩ = some (.slice (some ⟨g1, 0, none⟩) n c1) := ((HLL.out _ HB0.out).blk (g := TB) (t := 33) (List.mem_cons_self ..)).cell 0
  go_upto_block 4 with fail
  clear t0
  go_cut [] (fun wx => Hid (Below W0.heap.size W0 wx))
  case first =>
    go_wp2_with fail
    go_loopw [130] (fun u130 wx => ∃ i : Nat, i ≤ n ∧ u130 = .int .i64 i ∧ Hid (Below W0.heap.size W0 wx)) (fun u _ => n - (intOf u).toNat)
    case atStart => exact ⟨0, by omega, rfl, HB0⟩
    case round =>
      clear HB0
      obtain ⟨i, hi, rfl, HB⟩ := hrel
      by_cases hlt : i < n
      · have hlz : (i : Int) < (n : Int) := by omega
        have hT : (n + 2) * (m + 2) ≤ 256 := Nat.le_trans (Nat.mul_le_mul (show n + 2 ≤ 16 by omega) (show m + 2 ≤ 16 by omega)) (by decide)
        obtain ⟨p1, hp1⟩ : ∃ p, p = (i + 1) * (m + 2) := ⟨_, rfl⟩
        obtain ⟨p2, hp2⟩ : ∃ p, p = (i + 2) * (m + 2) := ⟨_, rfl⟩
        have z1 : ((i : Int) + 1) * ((m : Int) + 2) = (p1 : Int) := by rw [hp1]; push_cast; rfl
        have z2 : ((i : Int) + 2) * ((m : Int) + 2) = (p2 : Int) := by rw [hp2]; push_cast; rfl
        have b1 : p1 < (n + 2) * (m + 2) := by
          have := Nat.mul_le_mul_right (m + 2) (show i + 2 ≤ n + 2 by omega)
          rw [Nat.add_mul] at this
          rw [hp1, Nat.add_mul]
          omega
        have b2 : p2 ≤ (n + 2) * (m + 2) := by rw [hp2]; exact Nat.mul_le_mul_right _ (by omega)
        have b3 : 1 ≤ p2 := by rw [hp2]; exact Nat.mul_pos (by omega) (by omega)
        obtain ⟨b, o, d, hk⟩ := kt_at HO.out.k1 HO.out.l1 i hlt
        obtain ⟨y, ey, oy, hcy⟩ := rd_at HO.out.r4 i hlt
        obtain ⟨x1, ex1, ox1, hx1⟩ := rd_at HO.out.rx p1 b1
        obtain ⟨x2, ex2, ox2, hx2⟩ := rd_at HO.out.rx (p2 - 1) (by omega)
        injection ox1 with ox1
        injection ox1 with ox1 ox1'
        subst ox1 ox1'
        injection ox2 with ox2
        injection ox2 with ox2 ox2'
        subst ox2 ox2'
        have hn1 := HO.out.nn p1 b1
        have hn2 := HO.out.nn (p2 - 1) (by omega)
        have hf1 := HO.out.f1 i hlt
        have hf2 := HO.out.f2 i hlt
        rw [← hp1] at hf1
        rw [← hp2] at hf2
        rw [← hf1] at hk
        rw [← hf2] at hcy
        obtain ⟨a, ha⟩ : ∃ a, a = f p1 := ⟨_, rfl⟩
        obtain ⟨e, he⟩ : ∃ e, e = f (p2 - 1) := ⟨_, rfl⟩
        rw [← ha] at hk hx1 hn1
        rw [← he] at hcy hx2 hn2
        clear hf1 hf2 ha he hp1 hp2
        obtain ⟨ak, anum, aden, atext, aon, acode, arows, acols, aA, an, ac⟩ := a
        obtain ⟨ek, enum, eden, etext, eon, ecode, erows, ecols, eA, en, ec⟩ := e
        dsimp only at hn1 hn2
        subst hn1 hn2
        have hk0 : wr.cell? ⟨g1, i, none⟩ = some (.slice (some ⟨b, o, none⟩) 1 d) := (hk wr HB.out).1
        obtain ⟨s, hs⟩ : ∃ s, p2 = s + 1 := ⟨p2 - 1, by omega⟩
        subst hs
        have z2 : ((i : Int) + 2) * ((m : Int) + 2) = (s : Int) + 1 := by rw [z2]; push_cast; rfl
        have z5 : (s : Int) + 1 - 1 = (s : Int) := by omega
        obtain ⟨T, hTT⟩ : ∃ T, T = (n + 2) * (m + 2) := ⟨_, rfl⟩
        subst oy
        have HSS := Lib.hid (show ∀ W, Below W0.heap.size W0 W → (W.cell? ⟨X, 7, none⟩ = some (.int .i64 ((m : Int) + 2)) ∧ W.cell? ⟨X, 8, none⟩ = some (.slice (some ⟨gi, 0, none⟩) T C) ∧ W.cell? ⟨TB, 3, none⟩ = some (.slice (some ⟨y, ey, none⟩) n c4)) ∧ (W.cell? ⟨gi, p1 * 9, none⟩ = some (.int .i64 ak) ∧ W.cell? ⟨gi, p1 * 9 + 1, none⟩ = some (.string anum) ∧ W.cell? ⟨gi, p1 * 9 + 2, none⟩ = some (.string aden) ∧ W.cell? ⟨gi, p1 * 9 + 3, none⟩ = some (.string atext) ∧ W.cell? ⟨gi, p1 * 9 + 4, none⟩ = some (.bool aon) ∧ W.cell? ⟨gi, p1 * 9 + 5, none⟩ = some (.int .i64 acode) ∧ W.cell? ⟨gi, p1 * 9 + 6, none⟩ = some (.int .i64 arows) ∧ W.cell? ⟨gi, p1 * 9 + 7, none⟩ = some (.int .i64 acols) ∧ W.cell? ⟨gi, p1 * 9 + 8, none⟩ = some (.slice aA 0 ac)) ∧ (W.cell? ⟨b, o, none⟩ = some (.int .i64 ak) ∧ W.cell? ⟨b, o + 1, none⟩ = some (.string anum) ∧ W.cell? ⟨b, o + 2, none⟩ = some (.string aden) ∧ W.cell? ⟨b, o + 3, none⟩ = some (.string atext) ∧ W.cell? ⟨b, o + 4, none⟩ = some (.bool aon) ∧ W.cell? ⟨b, o + 5, none⟩ = some (.int .i64 acode) ∧ W.cell? ⟨b, o + 6, none⟩ = some (.int .i64 arows) ∧ W.cell? ⟨b, o + 7, none⟩ = some (.int .i64 acols) ∧ W.cell? ⟨b, o + 8, none⟩ = some (.slice aA 0 ac)) ∧ (W.cell? ⟨gi, s * 9, none⟩ = some (.int .i64 ek) ∧ W.cell? ⟨gi, s * 9 + 1, none⟩ = some (.string enum) ∧ W.cell? ⟨gi, s * 9 + 2, none⟩ = some (.string eden) ∧ W.cell? ⟨gi, s * 9 + 3, none⟩ = some (.string etext) ∧ W.cell? ⟨gi, s * 9 + 4, none⟩ = some (.bool eon) ∧ W.cell? ⟨gi, s * 9 + 5, none⟩ = some (.int .i64 ecode) ∧ W.cell? ⟨gi, s * 9 + 6, none⟩ = some (.int .i64 erows) ∧ W.cell? ⟨gi, s * 9 + 7, none⟩ = some (.int .i64 ecols) ∧ W.cell? ⟨gi, s * 9 + 8, none⟩ = some (.slice eA 0 ec)) ∧ (W.cell? ⟨y, ey + i * 9, none⟩ = some (.int .i64 ek) ∧ W.cell? ⟨y, ey + i * 9 + 1, none⟩ = some (.string enum) ∧ W.cell? ⟨y, ey + i * 9 + 2, none⟩ = some (.string eden) ∧ W.cell? ⟨y, ey + i * 9 + 3, none⟩ = some (.string etext) ∧ W.cell? ⟨y, ey + i * 9 + 4, none⟩ = some (.bool eon) ∧ W.cell? ⟨y, ey + i * 9 + 5, none⟩ = some (.int .i64 ecode) ∧ W.cell? ⟨y, ey + i * 9 + 6, none⟩ = some (.int .i64 erows) ∧ W.cell? ⟨y, ey + i * 9 + 7, none⟩ = some (.int .i64 ecols) ∧ W.cell? ⟨y, ey + i * 9 + 8, none⟩ = some (.slice eA 0 ec)) from fun W hW => by
          have hl := HLL.out W hW
          have bX := hl.blk (g := X) (t := 27) (List.mem_cons_of_mem _ (List.mem_cons_self ..))
          have bT := hl.blk (g := TB) (t := 33) (List.mem_cons_self ..)
          refine ⟨⟨bX.cell 7, by rw [hTT]; exact bX.cell 8, bT.cell 3⟩, ⟨by have := hx1 W hW 0 (by decide); rw [Nat.zero_add] at this; exact this, by have := hx1 W hW 1 (by decide); rw [Nat.zero_add] at this; exact this, by have := hx1 W hW 2 (by decide); rw [Nat.zero_add] at this; exact this, by have := hx1 W hW 3 (by decide); rw [Nat.zero_add] at this; exact this, by have := hx1 W hW 4 (by decide); rw [Nat.zero_add] at this; exact this, by have := hx1 W hW 5 (by decide); rw [Nat.zero_add] at this; exact this, by have := hx1 W hW 6 (by decide); rw [Nat.zero_add] at this; exact this, by have := hx1 W hW 7 (by decide); rw [Nat.zero_add] at this; exact this, by have := hx1 W hW 8 (by decide); rw [Nat.zero_add] at this; exact this⟩, ⟨(hk W hW).2 0 (by decide), (hk W hW).2 1 (by decide), (hk W hW).2 2 (by decide), (hk W hW).2 3 (by decide), (hk W hW).2 4 (by decide), (hk W hW).2 5 (by decide), (hk W hW).2 6 (by decide), (hk W hW).2 7 (by decide), (hk W hW).2 8 (by decide)⟩, ⟨by have := hx2 W hW 0 (by decide); rw [Nat.zero_add] at this; exact this, by have := hx2 W hW 1 (by decide); rw [Nat.zero_add] at this; exact this, by have := hx2 W hW 2 (by decide); rw [Nat.zero_add] at this; exact this, by have := hx2 W hW 3 (by decide); rw [Nat.zero_add] at this; exact this, by have := hx2 W hW 4 (by decide); rw [Nat.zero_add] at this; exact this, by have := hx2 W hW 5 (by decide); rw [Nat.zero_add] at this; exact this, by have := hx2 W hW 6 (by decide); rw [Nat.zero_add] at this; exact this, by have := hx2 W hW 7 (by decide); rw [Nat.zero_add] at this; exact this, by have := hx2 W hW 8 (by decide); rw [Nat.zero_add] at this; exact this⟩, ⟨hcy W hW 0 (by decide), hcy W hW 1 (by decide), hcy W hW 2 (by decide), hcy W hW 3 (by decide), hcy W hW 4 (by decide), hcy W hW 5 (by decide), hcy W hW 6 (by decide), hcy W hW 7 (by decide), hcy W hW 8 (by decide)⟩⟩)
        rw [← hTT] at b1 b2 hT
        clear hk hcy hx1 hx2 hTT
        have HSa := Lib.hid fun W => same_v ⟨ak, anum, aden, atext, aon, acode, arows, acols, aA, 0, ac⟩ rfl W
        have HSe := Lib.hid fun W => same_v ⟨ek, enum, eden, etext, eon, ecode, erows, ecols, eA, 0, ec⟩ rfl W
        have HSa := Lib.hid (show ∀ W, Calls Tryz.prog 14 #[.agg #[.int .i64 ak, .string anum, .string aden, .string atext, .bool aon, .int .i64 acode, .int .i64 arows, .int .i64 acols, .slice aA 0 ac], .agg #[.int .i64 ak, .string anum, .string aden, .string atext, .bool aon, .int .i64 acode, .int .i64 arows, .int .i64 acols, .slice aA 0 ac]] W fun e w' => e = .returned (.bool true) ∧ Below W.heap.size W w' from HSa.out)
        have HSe := Lib.hid (show ∀ W, Calls Tryz.prog 14 #[.agg #[.int .i64 ek, .string enum, .string eden, .string etext, .bool eon, .int .i64 ecode, .int .i64 erows, .int .i64 ecols, .slice eA 0 ec], .agg #[.int .i64 ek, .string enum, .string eden, .string etext, .bool eon, .int .i64 ecode, .int .i64 erows, .int .i64 ecols, .slice eA 0 ec]] W fun e w' => e = .returned (.bool true) ∧ Below W.heap.size W w' from HSe.out)
        have s1 : s < T := by omega
        have y1 : (0 : Int) ≤ (p1 : Int) := by omega
        have y2 : (p1 : Int) < (T : Int) := by omega
        have y3 : (0 : Int) ≤ (s : Int) := by omega
        have y4 : (s : Int) < (T : Int) := by omega
        have y5 : (0 : Int) ≤ (i : Int) := by omega
        have v1 : IntKind.i64.wrap (p1 : Int) = (p1 : Int) := IntWalk.i64_in _ (by omega)
        have v2 : IntKind.i64.wrap ((s : Int) + 1) = (s : Int) + 1 := IntWalk.i64_in _ (by omega)
        have v3 : IntKind.i64.wrap (s : Int) = (s : Int) := IntWalk.i64_in _ (by omega)
        have v4 : IntKind.i64.wrap ((i : Int) + 1) = (i : Int) + 1 := IntWalk.i64_in _ (by omega)
        have v5 : IntKind.i64.wrap ((i : Int) + 2) = (i : Int) + 2 := IntWalk.i64_in _ (by omega)
        go_upto_region 23 with fail
        clear hk0
        go_region_held3 (fun W => (W.cell? ⟨X, 7, none⟩ = some (.int .i64 ((m : Int) + 2)) ∧ W.cell? ⟨X, 8, none⟩ = some (.slice (some ⟨gi, 0, none⟩) T C) ∧ W.cell? ⟨TB, 3, none⟩ = some (.slice (some ⟨y, ey, none⟩) n c4)) ∧ (W.cell? ⟨gi, p1 * 9, none⟩ = some (.int .i64 ak) ∧ W.cell? ⟨gi, p1 * 9 + 1, none⟩ = some (.string anum) ∧ W.cell? ⟨gi, p1 * 9 + 2, none⟩ = some (.string aden) ∧ W.cell? ⟨gi, p1 * 9 + 3, none⟩ = some (.string atext) ∧ W.cell? ⟨gi, p1 * 9 + 4, none⟩ = some (.bool aon) ∧ W.cell? ⟨gi, p1 * 9 + 5, none⟩ = some (.int .i64 acode) ∧ W.cell? ⟨gi, p1 * 9 + 6, none⟩ = some (.int .i64 arows) ∧ W.cell? ⟨gi, p1 * 9 + 7, none⟩ = some (.int .i64 acols) ∧ W.cell? ⟨gi, p1 * 9 + 8, none⟩ = some (.slice aA 0 ac)) ∧ (W.cell? ⟨b, o, none⟩ = some (.int .i64 ak) ∧ W.cell? ⟨b, o + 1, none⟩ = some (.string anum) ∧ W.cell? ⟨b, o + 2, none⟩ = some (.string aden) ∧ W.cell? ⟨b, o + 3, none⟩ = some (.string atext) ∧ W.cell? ⟨b, o + 4, none⟩ = some (.bool aon) ∧ W.cell? ⟨b, o + 5, none⟩ = some (.int .i64 acode) ∧ W.cell? ⟨b, o + 6, none⟩ = some (.int .i64 arows) ∧ W.cell? ⟨b, o + 7, none⟩ = some (.int .i64 acols) ∧ W.cell? ⟨b, o + 8, none⟩ = some (.slice aA 0 ac)) ∧ (W.cell? ⟨gi, s * 9, none⟩ = some (.int .i64 ek) ∧ W.cell? ⟨gi, s * 9 + 1, none⟩ = some (.string enum) ∧ W.cell? ⟨gi, s * 9 + 2, none⟩ = some (.string eden) ∧ W.cell? ⟨gi, s * 9 + 3, none⟩ = some (.string etext) ∧ W.cell? ⟨gi, s * 9 + 4, none⟩ = some (.bool eon) ∧ W.cell? ⟨gi, s * 9 + 5, none⟩ = some (.int .i64 ecode) ∧ W.cell? ⟨gi, s * 9 + 6, none⟩ = some (.int .i64 erows) ∧ W.cell? ⟨gi, s * 9 + 7, none⟩ = some (.int .i64 ecols) ∧ W.cell? ⟨gi, s * 9 + 8, none⟩ = some (.slice eA 0 ec)) ∧ (W.cell? ⟨y, ey + i * 9, none⟩ = some (.int .i64 ek) ∧ W.cell? ⟨y, ey + i * 9 + 1, none⟩ = some (.string enum) ∧ W.cell? ⟨y, ey + i * 9 + 2, none⟩ = some (.string eden) ∧ W.cell? ⟨y, ey + i * 9 + 3, none⟩ = some (.string etext) ∧ W.cell? ⟨y, ey + i * 9 + 4, none⟩ = some (.bool eon) ∧ W.cell? ⟨y, ey + i * 9 + 5, none⟩ = some (.int .i64 ecode) ∧ W.cell? ⟨y, ey + i * 9 + 6, none⟩ = some (.int .i64 erows) ∧ W.cell? ⟨y, ey + i * 9 + 7, none⟩ = some (.int .i64 ecols) ∧ W.cell? ⟨y, ey + i * 9 + 8, none⟩ = some (.slice eA 0 ec))) (first | exact HSS.out _ HB.out | exact HSS.out _ (Below.drew HB.out) | exact HSS.out _ HB1.out | exact HSS.out _ HB2.out) (first
          | (go_at_call 14; (with_reducible refine (HSa.out _).mono ?_); rintro e' w5 ⟨rfl, hb⟩; have HB1 := Lib.hid ((by first | exact HB.out | exact Below.drew HB.out : Below W0.heap.size W0 _).trans (hb.mono HB.out.size)); clear hb)
          | (go_at_call 14; (with_reducible refine (HSe.out _).mono ?_); rintro e' w6 ⟨rfl, hb⟩; have HB2 := Lib.hid (HB1.out.trans (hb.mono HB1.out.size)); clear hb))
        all_goals
          go_wp2_with fail
          go_roundw
          case rel => exact ⟨i + 1, by omega, by go_num, HB2⟩
          case measure => simp [intOf]; omega
      · have hlz : ¬ (i : Int) < (n : Int) := by omega
        obtain rfl : n = i := by omega
        go_wp2_with fail
        go_meet
        exact HB
  case rest =>
    clear HB0
    have HB := hcut
    clear hcut
    rename World => wx
    obtain ⟨S, hS⟩ : ∃ S, (n + 2) * (m + 2) = S + 1 := ⟨(n + 2) * (m + 2) - 1, by have := Nat.mul_le_mul (show 2 ≤ n + 2 by omega) (show 2 ≤ m + 2 by omega); omega⟩
    have hT : S + 1 ≤ 256 := by rw [← hS]; exact Nat.le_trans (Nat.mul_le_mul (show n + 2 ≤ 16 by omega) (show m + 2 ≤ 16 by omega)) (by decide)
    have hmS : m + 1 < S + 1 := by
      rw [← hS]
      have := Nat.mul_le_mul_right (m + 2) (show 1 ≤ n + 2 by omega)
      omega
    obtain ⟨x1, ex1, ox1, hx1⟩ := rd_at HO.out.rx S (by omega)
    obtain ⟨x2, ex2, ox2, hx2⟩ := rd_at HO.out.rx (m + 1) (by omega)
    injection ox1 with ox1
    injection ox1 with ox1 ox1'
    subst ox1 ox1'
    injection ox2 with ox2
    injection ox2 with ox2 ox2'
    subst ox2 ox2'
    have hn1 := HO.out.nn S (by omega)
    have hf3 := HO.out.f3
    rw [hS, Nat.add_sub_cancel] at hf3
    rw [hf3] at hn1 hx1
    rw [HO.out.f4] at hx2
    have HLL := Lib.hid (show ∀ W, Below W0.heap.size W0 W → Loc w [(TB, 33, #[.slice (some ⟨g1, 0, none⟩) n c1, .slice (some ⟨g2, 0, none⟩) m c2, .slice A3 (n * m) c3, .slice A4 n c4, .slice A5 m c5, .int .i64 t.k, .string t.num, .string t.den, .string t.text, .bool t.on, .int .i64 t.code, .int .i64 t.rows, .int .i64 t.cols, .slice t.A t.n t.c]), (X, 27, #[.int .i64 5, .string ⟨#[]⟩, .string ⟨#[]⟩, .string ⟨#[]⟩, .bool false, .int .i64 0, .int .i64 ((n : Int) + 2), .int .i64 ((m : Int) + 2), .slice (some ⟨gi, 0, none⟩) ((n + 2) * (m + 2)) C])] W from HLL.out)
    clear hf3 HO
    obtain ⟨ak, anum, aden, atext, aon, acode, arows, acols, aA, an, ac⟩ := t
    dsimp only at hn1
    subst hn1
    have HSS := Lib.hid (show ∀ W, Below W0.heap.size W0 W → (W.cell? ⟨X, 7, none⟩ = some (.int .i64 ((m : Int) + 2)) ∧ W.cell? ⟨X, 8, none⟩ = some (.slice (some ⟨gi, 0, none⟩) (S + 1) C) ∧ W.cell? ⟨gi, (m + 1) * 9 + 3, none⟩ = some (.string ⟨#[84, 111, 116, 97, 108]⟩)) ∧ (W.cell? ⟨gi, S * 9, none⟩ = some (.int .i64 ak) ∧ W.cell? ⟨gi, S * 9 + 1, none⟩ = some (.string anum) ∧ W.cell? ⟨gi, S * 9 + 2, none⟩ = some (.string aden) ∧ W.cell? ⟨gi, S * 9 + 3, none⟩ = some (.string atext) ∧ W.cell? ⟨gi, S * 9 + 4, none⟩ = some (.bool aon) ∧ W.cell? ⟨gi, S * 9 + 5, none⟩ = some (.int .i64 acode) ∧ W.cell? ⟨gi, S * 9 + 6, none⟩ = some (.int .i64 arows) ∧ W.cell? ⟨gi, S * 9 + 7, none⟩ = some (.int .i64 acols) ∧ W.cell? ⟨gi, S * 9 + 8, none⟩ = some (.slice aA 0 ac)) ∧ (W.cell? ⟨TB, 5, none⟩ = some (.int .i64 ak) ∧ W.cell? ⟨TB, 6, none⟩ = some (.string anum) ∧ W.cell? ⟨TB, 7, none⟩ = some (.string aden) ∧ W.cell? ⟨TB, 8, none⟩ = some (.string atext) ∧ W.cell? ⟨TB, 9, none⟩ = some (.bool aon) ∧ W.cell? ⟨TB, 10, none⟩ = some (.int .i64 acode) ∧ W.cell? ⟨TB, 11, none⟩ = some (.int .i64 arows) ∧ W.cell? ⟨TB, 12, none⟩ = some (.int .i64 acols) ∧ W.cell? ⟨TB, 13, none⟩ = some (.slice aA 0 ac)) from fun W hW => by
      have hl := HLL.out W hW
      have bX := hl.blk (g := X) (t := 27) (List.mem_cons_of_mem _ (List.mem_cons_self ..))
      have bT := hl.blk (g := TB) (t := 33) (List.mem_cons_self ..)
      refine ⟨⟨bX.cell 7, by rw [← hS]; exact bX.cell 8, by have := hx2 W hW 3 (by decide); rw [Nat.zero_add] at this; exact this⟩, ⟨by have := hx1 W hW 0 (by decide); rw [Nat.zero_add] at this; exact this, by have := hx1 W hW 1 (by decide); rw [Nat.zero_add] at this; exact this, by have := hx1 W hW 2 (by decide); rw [Nat.zero_add] at this; exact this, by have := hx1 W hW 3 (by decide); rw [Nat.zero_add] at this; exact this, by have := hx1 W hW 4 (by decide); rw [Nat.zero_add] at this; exact this, by have := hx1 W hW 5 (by decide); rw [Nat.zero_add] at this; exact this, by have := hx1 W hW 6 (by decide); rw [Nat.zero_add] at this; exact this, by have := hx1 W hW 7 (by decide); rw [Nat.zero_add] at this; exact this, by have := hx1 W hW 8 (by decide); rw [Nat.zero_add] at this; exact this⟩, ⟨bT.cell 5, bT.cell 6, bT.cell 7, bT.cell 8, bT.cell 9, bT.cell 10, bT.cell 11, bT.cell 12, bT.cell 13⟩⟩)
    clear hx1 hx2 hS
    have HSa := Lib.hid fun W => same_v ⟨ak, anum, aden, atext, aon, acode, arows, acols, aA, 0, ac⟩ rfl W
    have HSa := Lib.hid (show ∀ W, Calls Tryz.prog 14 #[.agg #[.int .i64 ak, .string anum, .string aden, .string atext, .bool aon, .int .i64 acode, .int .i64 arows, .int .i64 acols, .slice aA 0 ac], .agg #[.int .i64 ak, .string anum, .string aden, .string atext, .bool aon, .int .i64 acode, .int .i64 arows, .int .i64 acols, .slice aA 0 ac]] W fun e w' => e = .returned (.bool true) ∧ Below W.heap.size W w' from HSa.out)
    have y1 : (0 : Int) ≤ (S : Int) := by omega
    have y2 : (S : Int) < (S : Int) + 1 := by omega
    have y3 : (0 : Int) ≤ (m : Int) + 1 := by omega
    have y4 : (m : Int) + 1 < (S : Int) + 1 := by omega
    have y5 : (S : Int) + 1 - 1 = (S : Int) := by omega
    have y6 : (m : Int) + 2 - 1 = (m : Int) + 1 := by omega
    have y7 : ((m : Int) + 1).toNat = m + 1 := by omega
    have v1 : IntKind.i64.wrap (S : Int) = (S : Int) := IntWalk.i64_in _ (by omega)
    have v2 : IntKind.i64.wrap ((m : Int) + 1) = (m : Int) + 1 := IntWalk.i64_in _ (by omega)
    go_step
    go_upto_region 26 with fail
    go_region_held3 (fun W => (W.cell? ⟨X, 7, none⟩ = some (.int .i64 ((m : Int) + 2)) ∧ W.cell? ⟨X, 8, none⟩ = some (.slice (some ⟨gi, 0, none⟩) (S + 1) C) ∧ W.cell? ⟨gi, (m + 1) * 9 + 3, none⟩ = some (.string ⟨#[84, 111, 116, 97, 108]⟩)) ∧ (W.cell? ⟨gi, S * 9, none⟩ = some (.int .i64 ak) ∧ W.cell? ⟨gi, S * 9 + 1, none⟩ = some (.string anum) ∧ W.cell? ⟨gi, S * 9 + 2, none⟩ = some (.string aden) ∧ W.cell? ⟨gi, S * 9 + 3, none⟩ = some (.string atext) ∧ W.cell? ⟨gi, S * 9 + 4, none⟩ = some (.bool aon) ∧ W.cell? ⟨gi, S * 9 + 5, none⟩ = some (.int .i64 acode) ∧ W.cell? ⟨gi, S * 9 + 6, none⟩ = some (.int .i64 arows) ∧ W.cell? ⟨gi, S * 9 + 7, none⟩ = some (.int .i64 acols) ∧ W.cell? ⟨gi, S * 9 + 8, none⟩ = some (.slice aA 0 ac)) ∧ (W.cell? ⟨TB, 5, none⟩ = some (.int .i64 ak) ∧ W.cell? ⟨TB, 6, none⟩ = some (.string anum) ∧ W.cell? ⟨TB, 7, none⟩ = some (.string aden) ∧ W.cell? ⟨TB, 8, none⟩ = some (.string atext) ∧ W.cell? ⟨TB, 9, none⟩ = some (.bool aon) ∧ W.cell? ⟨TB, 10, none⟩ = some (.int .i64 acode) ∧ W.cell? ⟨TB, 11, none⟩ = some (.int .i64 arows) ∧ W.cell? ⟨TB, 12, none⟩ = some (.int .i64 acols) ∧ W.cell? ⟨TB, 13, none⟩ = some (.slice aA 0 ac))) (first | exact HSS.out _ HB.out | exact HSS.out _ (Below.drew HB.out) | exact HSS.out _ HB1.out) (first
      | (go_at_call 14; (with_reducible refine (HSa.out _).mono ?_); rintro e' w5 ⟨rfl, hb⟩; have HB1 := Lib.hid ((by first | exact HB.out | exact Below.drew HB.out : Below W0.heap.size W0 _).trans (hb.mono HB.out.size)); clear hb))
    all_goals
      go_wp2_with fail
      go_ret
      exact ⟨rfl, (HLL.out _ HB1.out).bel⟩
end Go.Proofs.YtmapagbmihpbmaaGreatDoor

namespace Go.Proofs.YtmapagbmihpbmaaGreatDoor
open Go.RowKit

theorem Oe.later {w wr wn : World} {X TB gi n m C g1 c1 g2 c2 : Nat} {A3 : Option Addr} {c3 : Nat} {A4 : Option Addr} {c4 : Nat} {A5 : Option Addr} {c5 : Nat} {t : Vl} {K1 : List Vl} {f g4 : Nat → Vl} (h : Oe w wr X TB gi n m C g1 c1 g2 c2 A3 c3 A4 c4 A5 c5 t K1 f g4) (hb : Below wr.heap.size wr wn) : Oe w wn X TB gi n m C g1 c1 g2 c2 A3 c3 A4 c4 A5 c5 t K1 f g4 :=
  ⟨h.loc.step hb, h.rx.below hb, h.k1.later hb, h.l1, h.r4.below hb, h.ln, h.lm, h.f1, h.f2, h.f3, h.f4, h.nn⟩
noncomputable def orest18 : Code := ((Tryz.f4.body.bind (contAt 18)).getD .skip)
set_option maxRecDepth 100000 in
set_option maxHeartbeats 40000000 in
theorem ord18 {u0 u1 u2 u3 u4 u5 u6 u7 u8 u9 u10 u17 u18 u19 u20 u21 u22 u23 u24 u25 u26 u27 u28 u29 u30 u31 u32 u33 u34 u35 u36 u37 u38 u39 u40 u41 u42 u43 u44 u45 u46 u47 u48 u49 u50 u51 u52 u53 u54 u55 u56 u57 u58 u59 u60 u61 u62 u63 u64 u65 u66 u67 u68 u69 u70 u71 u72 u73 u74 u75 u76 u77 u78 u79 u80 u81 u82 u83 u84 u85 u86 u87 u88 u89 u90 u91 u92 u93 u94 u95 u96 u97 u98 u99 u100 u101 u102 u103 u104 u105 u106 u107 u108 u109 u110 u111 u112 u113 u114 u115 u116 u117 u118 u119 u120 u121 u122 u123 u124 u125 u126 u127 u128 u129 u130 u131 u132 u133 u134 u135 u136 u137 u138 u139 u140 u141 u142 u143 u144 u145 u146 u147 u148 u149 u150 u151 u152 u153 u154 u155 u156 u157 u158 u159 u160 u161 u162 u163 u164 u165 u166 u167 u168 u169 u170 u171 u172 u173 u174 u175 u176 u177 u178 u179 u180 u181 u182 u183 u184 u185 u186 u187 u188 u189 u190 : Value} {w wr : World} {X Y TB gi hi n m C D g1 c1 g2 c2 : Nat} {A3 : Option Addr} {c3 : Nat} {A4 : Option Addr} {c4 : Nat} {A5 : Option Addr} {c5 : Nat} {t : Vl} {K1 : List Vl} {f g4 : Nat → Vl} (HO : Hid (Oe w wr X TB gi n m C g1 c1 g2 c2 A3 c3 A4 c4 A5 c5 t K1 f g4)) (HY : Hid (Blk wr Y 27 #[.int .i64 5, .string ⟨#[]⟩, .string ⟨#[]⟩, .string ⟨#[]⟩, .bool false, .int .i64 0, .int .i64 ((n : Int) + 2), .int .i64 ((m : Int) + 2), .slice (some ⟨hi, 0, none⟩) ((n + 2) * (m + 2)) D])) (HR : Hid (Reads 9 csV wr (.slice (some ⟨hi, 0, none⟩) ((n + 2) * (m + 2)) D) ((List.range ((n + 2) * (m + 2))).map f))) :
    Code.wp Tryz.prog orest18 (bodyPost Tryz.prog Tryz.f4 fun e w' => e = .returned (.bool true) ∧ Below w.heap.size w w') ⟨#[u0, u1, u2, u3, u4, u5, u6, u7, u8, u9, u10, .pointer (some ⟨X, 0, none⟩), .int .i64 0, .pointer (some ⟨Y, 0, none⟩), .int .i64 0, .pointer (some ⟨TB, 0, none⟩), .int .i64 0, u17, u18, u19, u20, u21, u22, u23, u24, u25, u26, u27, u28, u29, u30, u31, u32, u33, u34, u35, u36, u37, u38, u39, u40, u41, u42, u43, u44, u45, u46, u47, u48, u49, u50, u51, u52, u53, u54, u55, u56, u57, u58, u59, u60, u61, u62, u63, u64, u65, u66, u67, u68, u69, u70, u71, u72, u73, u74, u75, u76, u77, u78, u79, u80, u81, u82, u83, u84, u85, u86, u87, u88, u89, u90, u91, u92, u93, u94, u95, u96, u97, u98, u99, u100, u101, u102, u103, u104, u105, u106, u107, u108, u109, u110, u111, u112, u113, u114, u115, u116, u117, u118, u119, u120, u121, u122, u123, u124, u125, u126, u127, u128, u129, u130, u131, u132, u133, u134, u135, u136, u137, u138, u139, u140, u141, u142, u143, u144, u145, u146, u147, u148, u149, u150, u151, u152, u153, u154, u155, u156, u157, u158, u159, u160, u161, u162, u163, u164, u165, u166, u167, u168, u169, u170, u171, u172, u173, u174, u175, u176, u177, u178, u179, u180, u181, u182, u183, u184, u185, u186, u187, u188, u189, u190], []⟩ wr := by
  conv => arg 2; whnf
  conv => arg 4; zeta
  have hn14 := HO.out.ln
  have hm14 := HO.out.lm
  have hb1 := HO.out.loc.blk (g := X) (t := 27) (List.mem_cons_of_mem _ (List.mem_cons_self ..))
  have hb2 := HO.out.loc.blk (g := TB) (t := 33) (List.mem_cons_self ..)
  have hT : (n + 2) * (m + 2) ≤ 256 := Nat.le_trans (Nat.mul_le_mul (show n + 2 ≤ 16 by omega) (show m + 2 ≤ 16 by omega)) (by decide)
  have HSM := Lib.hid (same_arr ((n : Int) + 2) ((m : Int) + 2) (some ⟨gi, 0, none⟩) (some ⟨hi, 0, none⟩) ((n + 2) * (m + 2)) C D _ wr HO.out.rx HR.out (by
    intro u hu
    obtain ⟨x, hx, rfl⟩ := List.mem_map.mp hu
    exact HO.out.nn x (List.mem_range.mp hx)) (by omega))
  obtain ⟨x0, x1, x2, x3, x4, x5, x6, x7, x8⟩ := hb1.nine
  obtain ⟨y0, y1, y2, y3, y4, y5, y6, y7, y8⟩ := HY.out.nine
  clear hb1 hb2
  go_step
  go_step
  go_cut [] (fun wx => Hid (Below wr.heap.size wr wx))
  case first =>
    go_wp2_with fail
    go_at_call 14
    (with_reducible refine HSM.out.mono ?_)
    rintro e' w5 ⟨rfl, hb⟩
    have HB5 := Lib.hid hb
    have HL5 := HO.out.loc.step hb
    have hc1 := HL5.blk (g := X) (t := 27) (List.mem_cons_of_mem _ (List.mem_cons_self ..))
    have hc2 := HL5.blk (g := TB) (t := 33) (List.mem_cons_self ..)
    have p5 := hc1.cell 6
    have p6 := hc1.cell 7
    have r0 := hc2.cell 0
    have r1 := hc2.cell 1
    have v1 : IntKind.i64.wrap ((n : Int) + 2) = (n : Int) + 2 := IntWalk.i64_in _ (by omega)
    have v2 : IntKind.i64.wrap ((m : Int) + 2) = (m : Int) + 2 := IntWalk.i64_in _ (by omega)
    change w5.cell? ⟨X, 6, none⟩ = some (.int .i64 ((n : Int) + 2)) at p5
    change w5.cell? ⟨X, 7, none⟩ = some (.int .i64 ((m : Int) + 2)) at p6
    change w5.cell? ⟨TB, 0, none⟩ = some (.slice (some ⟨g1, 0, none⟩) n c1) at r0
    change w5.cell? ⟨TB, 1, none⟩ = some (.slice (some ⟨g2, 0, none⟩) m c2) at r1
    clear hc1 hc2 HL5 hb x0 x1 x2 x3 x4 x5 x6 x7 x8 y0 y1 y2 y3 y4 y5 y6 y7 y8
    go_wp2_with fail
    first | (go_meet; exact HB5) | exact HB5
  case rest =>
    have HL5 := Lib.hid (HO.out.later hcut.out)
    go_step
    exact ord20 HL5
end Go.Proofs.YtmapagbmihpbmaaGreatDoor

namespace Go.Proofs.YtmapagbmihpbmaaGreatDoor
open Go.RowKit

/-- The item at place x of the array. -/
def atX (n m : Nat) (K1 K2 : List Vl) (RL : List Rm) (Rs : List Rm → Vl) (x : Nat) : Vl := tgt n m K1 K2 RL Rs (x / (m + 2)) (x % (m + 2))
theorem dm (m r c : Nat) (h : c < m + 2) : (r * (m + 2) + c) / (m + 2) = r ∧ (r * (m + 2) + c) % (m + 2) = c := by
  constructor
  · rw [Nat.add_comm, Nat.add_mul_div_right _ _ (by omega), Nat.div_eq_of_lt h, Nat.zero_add]
  · rw [Nat.add_comm, Nat.add_mul_mod_self_right, Nat.mod_eq_of_lt h]
section
variable {n m : Nat} {K1 K2 : List Vl} {RL : List Rm} {Rs : List Rm → Vl}
theorem atX_rc (r c : Nat) (h : c < m + 2) : atX n m K1 K2 RL Rs (r * (m + 2) + c) = tgt n m K1 K2 RL Rs r c := by
  unfold atX
  rw [(dm m r c h).1, (dm m r c h).2]
theorem atX_f1 (i : Nat) (hi : i < n) : atX n m K1 K2 RL Rs ((i + 1) * (m + 2)) = K1[i]! := by
  have := atX_rc (n := n) (K1 := K1) (K2 := K2) (RL := RL) (Rs := Rs) (m := m) (i + 1) 0 (by omega)
  rw [Nat.add_zero] at this
  rw [this]
  unfold tgt
  rw [if_neg (by omega), if_pos (by omega), if_pos rfl, Nat.add_sub_cancel]
theorem last_eq (i : Nat) : (i + 2) * (m + 2) - 1 = (i + 1) * (m + 2) + (m + 1) := by
  rw [show i + 2 = (i + 1) + 1 from rfl, Nat.add_mul (i + 1) 1, Nat.one_mul]
  omega
theorem atX_f2 (i : Nat) (hi : i < n) : atX n m K1 K2 RL Rs ((i + 2) * (m + 2) - 1) = rowV Rs RL i := by
  rw [last_eq, atX_rc _ _ (by omega)]
  unfold tgt
  rw [if_neg (by omega), if_pos (by omega), if_neg (by omega), if_neg (by omega), Nat.add_sub_cancel]
theorem atX_f3 : atX n m K1 K2 RL Rs ((n + 2) * (m + 2) - 1) = Rs RL := by
  rw [last_eq, atX_rc _ _ (by omega)]
  unfold tgt
  rw [if_neg (by omega), if_neg (by omega), if_neg (by omega), if_neg (by omega)]
theorem atX_f4 : atX n m K1 K2 RL Rs (m + 1) = tV ⟨#[84, 111, 116, 97, 108]⟩ := by
  have := atX_rc (n := n) (K1 := K1) (K2 := K2) (RL := RL) (Rs := Rs) (m := m) 0 (m + 1) (by omega)
  rw [Nat.zero_mul, Nat.zero_add] at this
  rw [this]
  unfold tgt
  rw [if_pos rfl, if_neg (by omega), if_neg (by omega)]
end
/-- What array and table give together is what ord18 asks for. -/
theorem oe_of {w W0 : World} {X TB gi n m C g1 c1 g2 c2 : Nat} {A3 : Option Addr} {c3 : Nat} {A4 : Option Addr} {c4 : Nat} {A5 : Option Addr} {c5 : Nat} {K1 K2 : List Vl} {RL : List Rm} {N : Rm → Nat} {how : Int} {t : Vl} (ht : t = resV N how RL) (hn : n ≤ 14) (hm : m ≤ 14) (hl1 : n = K1.length) (hl2 : m = K2.length) (h1 : ∀ u ∈ K1, u.n = 0) (h2 : ∀ u ∈ K2, u.n = 0)
    (hl : Loc w [(TB, 33, #[.slice (some ⟨g1, 0, none⟩) n c1, .slice (some ⟨g2, 0, none⟩) m c2, .slice A3 (n * m) c3, .slice A4 n c4, .slice A5 m c5, .int .i64 t.k, .string t.num, .string t.den, .string t.text, .bool t.on, .int .i64 t.code, .int .i64 t.rows, .int .i64 t.cols, .slice t.A t.n t.c]), (X, 27, #[.int .i64 5, .string ⟨#[]⟩, .string ⟨#[]⟩, .string ⟨#[]⟩, .bool false, .int .i64 0, .int .i64 ((n : Int) + 2), .int .i64 ((m : Int) + 2), .slice (some ⟨gi, 0, none⟩) ((n + 2) * (m + 2)) C])] W0)
    (hx : Reads 9 csV W0 (.slice (some ⟨gi, 0, none⟩) ((n + 2) * (m + 2)) C) ((List.range ((n + 2) * (m + 2))).map (atX n m K1 K2 RL (resV N how))))
    (hk : KT W0 (.slice (some ⟨g1, 0, none⟩) n c1) K1) (h4 : Reads 9 csV W0 (.slice A4 n c4) ((List.range n).map (rowV (resV N how) RL))) :
    Oe w W0 X TB gi n m C g1 c1 g2 c2 A3 c3 A4 c4 A5 c5 t K1 (atX n m K1 K2 RL (resV N how)) (rowV (resV N how) RL) :=
  ⟨hl, hx, hk, hl1, h4, hn, hm, fun i hi => atX_f1 i hi, fun i hi => atX_f2 i hi, by rw [ht]; exact atX_f3, atX_f4, fun x _ => tgt_n n m K1 K2 RL how hl1 hl2 h1 h2 _ _ N⟩
end Go.Proofs.YtmapagbmihpbmaaGreatDoor

namespace Go.Proofs.YtmapagbmihpbmaaGreatDoor
open Go.RowKit

/-- What Array answers. -/
def ArrayRet (n m : Nat) (K1 K2 : List Vl) (RL : List Rm) (Rs : List Rm → Vl) (w : World) (e : Ending) (w' : World) : Prop :=
  ∃ (gi C : Nat), e = .returned (.tuple #[.agg #[.int .i64 5, .string ⟨#[]⟩, .string ⟨#[]⟩, .string ⟨#[]⟩, .bool false, .int .i64 0, .int .i64 ((n : Int) + 2), .int .i64 ((m : Int) + 2), .slice (some ⟨gi, 0, none⟩) ((n + 2) * (m + 2)) C], .int .i64 0]) ∧ Reads 9 csV w' (.slice (some ⟨gi, 0, none⟩) ((n + 2) * (m + 2)) C) ((List.range ((n + 2) * (m + 2))).map fun x => tgt n m K1 K2 RL Rs (x / (m + 2)) (x % (m + 2))) ∧ Below w.heap.size w w'
theorem Aw.mono {w w1 W0 W : World} {L : List (Nat × TypeId × Array Value)} {gi n m : Nat} {K1 K2 : List Vl} {RL : List Rm} {Rs : List Rm → Vl} {S S' : Nat → Nat → Prop} (h : Aw w w1 W0 W L gi n m K1 K2 RL Rs S) (hs : ∀ r c, S' r c → S r c) : Aw w w1 W0 W L gi n m K1 K2 RL Rs S' := by
  obtain ⟨f, h1, h2⟩ := h.ex
  exact ⟨h.loc, h.bel, h.b1, f, h1, fun r c h => h2 r c (hs r c h)⟩
noncomputable def arest38 : Code := ((Tryz.f13.body.bind (contAt 38)).getD .skip)
set_option maxRecDepth 100000 in
set_option maxHeartbeats 40000000 in
theorem arr38 {u0 u1 u2 u3 u5 u7 u14 u15 u16 u17 u18 u19 u20 u21 u22 u23 u24 u25 u26 u27 u28 u29 u30 u31 u32 u33 u34 u35 u36 u37 u38 u39 u40 u41 u42 u43 u44 u45 u46 u47 u48 u49 u50 u51 u52 u53 u54 u55 u56 u57 u58 u59 u60 u61 u62 u63 u64 u65 u66 u67 u68 u69 u70 u71 u72 u73 u74 u75 u76 u77 u78 u79 u80 u81 u82 u83 u84 u85 u86 u87 u88 u89 u90 u91 u92 u93 u94 u95 u96 u97 u98 u99 u100 u101 u102 u103 u104 u105 u106 u107 u108 u109 u110 u111 u112 u113 u114 u115 u116 u117 u118 u119 u120 u121 u122 u123 u124 u125 u126 u127 u128 u129 u130 u131 u132 u133 u134 u135 u136 u137 u138 u139 u140 u141 u142 u143 u144 u145 u146 u147 u148 u149 u150 u151 u152 u153 u154 u155 u156 u157 u158 u159 u160 u161 u162 u163 u164 u165 u166 u167 u168 u169 u170 u171 u172 u173 u174 u175 u176 u177 u178 u179 u180 u181 u182 u183 u184 u185 u186 u187 u188 u189 : Value} {w w1 W0 wr : World} {L : List (Nat × TypeId × Array Value)} {tA G gi n m C g1 c1 g2 c2 : Nat} {A3 : Option Addr} {c3 : Nat} {A4 : Option Addr} {c4 : Nat} {A5 : Option Addr} {c5 : Nat} {t : Vl} {K1 K2 : List Vl} {RL : List Rm} {Rs : List Rm → Vl} (HY : Hid (Ay w w1 W0 L tA G gi n m C g1 c1 g2 c2 A3 c3 A4 c4 A5 c5 t K1 K2 RL Rs)) (HW : Hid (Aw w w1 W0 wr L gi n m K1 K2 RL Rs (fun r c => c < m + 2 ∧ r < n + 2 ∧ ¬ (r = n + 1 ∧ c = m + 1)))) :
    Code.wp Tryz.prog arest38 (bodyPost Tryz.prog Tryz.f13 (ArrayRet n m K1 K2 RL Rs w)) ⟨#[u0, u1, u2, u3, .pointer (some ⟨w.heap.size + 1 + 1, 0, none⟩), u5, .pointer (some ⟨tA, 0, none⟩), u7, .int .i64 1, .int .i64 1, .int .i64 (n : Int), .int .i64 (m : Int), .pointer (some ⟨G, 0, none⟩), .func (.func 31) #[] #[.pointer (some ⟨G, 0, none⟩)], u14, u15, u16, u17, u18, u19, u20, u21, u22, u23, u24, u25, u26, u27, u28, u29, u30, u31, u32, u33, u34, u35, u36, u37, u38, u39, u40, u41, u42, u43, u44, u45, u46, u47, u48, u49, u50, u51, u52, u53, u54, u55, u56, u57, u58, u59, u60, u61, u62, u63, u64, u65, u66, u67, u68, u69, u70, u71, u72, u73, u74, u75, u76, u77, u78, u79, u80, u81, u82, u83, u84, u85, u86, u87, u88, u89, u90, u91, u92, u93, u94, u95, u96, u97, u98, u99, u100, u101, u102, u103, u104, u105, u106, u107, u108, u109, u110, u111, u112, u113, u114, u115, u116, u117, u118, u119, u120, u121, u122, u123, u124, u125, u126, u127, u128, u129, u130, u131, u132, u133, u134, u135, u136, u137, u138, u139, u140, u141, u142, u143, u144, u145, u146, u147, u148, u149, u150, u151, u152, u153, u154, u155, u156, u157, u158, u159, u160, u161, u162, u163, u164, u165, u166, u167, u168, u169, u170, u171, u172, u173, u174, u175, u176, u177, u178, u179, u180, u181, u182, u183, u184, u185, u186, u187, u188, u189], []⟩ wr := by
  conv => arg 2; whnf
  conv => arg 4; zeta
  have hn14 := HY.out.ln
  have hm14 := HY.out.lm
  obtain ⟨uk, unum, uden, utext, uon, ucode, urows, ucols, uA, un, uc⟩ := t
  have hb := HW.out.loc.blk HY.out.tab
  have k0 : wr.cell? ⟨tA, 5, none⟩ = some (.int .i64 uk) := hb.cell 5
  have k1 : wr.cell? ⟨tA, 6, none⟩ = some (.string unum) := hb.cell 6
  have k2 : wr.cell? ⟨tA, 7, none⟩ = some (.string uden) := hb.cell 7
  have k3 : wr.cell? ⟨tA, 8, none⟩ = some (.string utext) := hb.cell 8
  have k4 : wr.cell? ⟨tA, 9, none⟩ = some (.bool uon) := hb.cell 9
  have k5 : wr.cell? ⟨tA, 10, none⟩ = some (.int .i64 ucode) := hb.cell 10
  have k6 : wr.cell? ⟨tA, 11, none⟩ = some (.int .i64 urows) := hb.cell 11
  have k7 : wr.cell? ⟨tA, 12, none⟩ = some (.int .i64 ucols) := hb.cell 12
  have k8 : wr.cell? ⟨tA, 13, none⟩ = some (.slice uA un uc) := hb.cell 13
  have HP := Lib.hid (show ∀ W, Aw w w1 W0 W L gi n m K1 K2 RL Rs (fun r c => c < m + 2 ∧ r < n + 2 ∧ ¬ (r = n + 1 ∧ c = m + 1)) → Calls Tryz.prog 31 #[.int .i64 (1 + (n : Int)), .int .i64 (1 + (m : Int)), .agg #[.int .i64 uk, .string unum, .string uden, .string utext, .bool uon, .int .i64 ucode, .int .i64 urows, .int .i64 ucols, .slice uA un uc], .pointer (some ⟨G, 0, none⟩)] W fun e w' => e = .returned (.tuple #[]) ∧ Aw w w1 W0 w' L gi n m K1 K2 RL Rs (fun r c => c < m + 2 ∧ r < n + 2) from fun W hW => by
    have := Aw.put HY.out hW (n + 1) (m + 1) (by omega) (by omega) ⟨uk, unum, uden, utext, uon, ucode, urows, ucols, uA, un, uc⟩ (by rw [tg_all]; exact HY.out.tot.symm) (S' := fun r c => c < m + 2 ∧ r < n + 2) (fun r' c' hs => by
      try dsimp only at hs ⊢
      omega)
    rw [show ((n + 1 : Nat) : Int) = 1 + (n : Int) by omega, show ((m + 1 : Nat) : Int) = 1 + (m : Int) by omega] at this
    exact this)
  clear hb
  go_upto_region 39 with (go_at_call 31; (with_reducible refine (HP.out _ HW.out).mono ?_); rintro e w2 ⟨rfl, hn⟩; have HW2 := Lib.hid hn; clear hn)
  clear k0 k1 k2 k3 k4 k5 k6 k7 k8
  have hg := HW2.out.loc.blk HY.out.arr
  rw [show ((n + 2 : Nat) : Int) = (n : Int) + 2 by omega, show ((m + 2 : Nat) : Int) = (m : Int) + 2 by omega] at hg
  have ho := HW2.out.loc.blk HY.out.out
  have HO := Lib.hid ho
  obtain ⟨g0, g1, g2, g3, g4, g5, g6, g7, g8⟩ := hg.nine
  obtain ⟨z0, z1, z2, z3, z4, z5, z6, z7, z8⟩ := ho.nine
  obtain ⟨f0, f1, f2, f3, f4, f5, f6, f7, f8⟩ := ho.ninef
  obtain ⟨bs, q0, q1, q2, q3, q4, q5, q6, q7, q8⟩ := ho.nine_set (.int .i64 5) (.string ⟨#[]⟩) (.string ⟨#[]⟩) (.string ⟨#[]⟩) (.bool false) (.int .i64 0) (.int .i64 ((n : Int) + 2)) (.int .i64 ((m : Int) + 2)) (.slice (some ⟨gi, 0, none⟩) ((n + 2) * (m + 2)) C)
  have BS := Lib.hid bs
  clear bs hg ho
  go_wp2_with fail
  obtain ⟨q0, q1, q2, q3, q4, q5, q6, q7, q8⟩ := BS.out.nine
  refine bodyPost_ret (v := .tuple #[.agg #[.int .i64 5, .string ⟨#[]⟩, .string ⟨#[]⟩, .string ⟨#[]⟩, .bool false, .int .i64 0, .int .i64 ((n : Int) + 2), .int .i64 ((m : Int) + 2), .slice (some ⟨gi, 0, none⟩) ((n + 2) * (m + 2)) C], .int .i64 0]) (by simp [results, Tryz.results13, go_sem, q0, q1, q2, q3, q4, q5, q6, q7, q8]) rfl ?_
  have hbel := fun y0 y1 y2 y3 y4 y5 y6 y7 y8 => below_nine HW2.out.loc.bel (g := w.heap.size + 1 + 1) (by omega) y0 y1 y2 y3 y4 y5 y6 y7 y8
  have hch := fun y0 y1 y2 y3 y4 y5 y6 y7 y8 => ((((((((((Chg.refl w2.heap.size [w.heap.size + 1 + 1] w2).set (p := ⟨w.heap.size + 1 + 1, 0, none⟩) (.inl (List.mem_singleton.2 rfl)) y0).set (p := ⟨w.heap.size + 1 + 1, 1, none⟩) (.inl (List.mem_singleton.2 rfl)) y1).set (p := ⟨w.heap.size + 1 + 1, 2, none⟩) (.inl (List.mem_singleton.2 rfl)) y2).set (p := ⟨w.heap.size + 1 + 1, 3, none⟩) (.inl (List.mem_singleton.2 rfl)) y3).set (p := ⟨w.heap.size + 1 + 1, 4, none⟩) (.inl (List.mem_singleton.2 rfl)) y4).set (p := ⟨w.heap.size + 1 + 1, 5, none⟩) (.inl (List.mem_singleton.2 rfl)) y5).set (p := ⟨w.heap.size + 1 + 1, 6, none⟩) (.inl (List.mem_singleton.2 rfl)) y6).set (p := ⟨w.heap.size + 1 + 1, 7, none⟩) (.inl (List.mem_singleton.2 rfl)) y7).set (p := ⟨w.heap.size + 1 + 1, 8, none⟩) (.inl (List.mem_singleton.2 rfl)) y8)
  obtain ⟨f, h1, h2⟩ := HW2.out.ex
  have hgi := HY.out.own _ HY.out.out
  dsimp only at hgi
  refine ⟨gi, C, rfl, ?_, hbel _ _ _ _ _ _ _ _ _⟩
  refine IA.reads ((h1.chg (hch _ _ _ _ _ _ _ _ _) (fun hm => by have := List.mem_singleton.1 hm; omega)).congr fun x hx => ?_) HY.out.hC
  have hd : x % (m + 2) < m + 2 := Nat.mod_lt _ (by omega)
  have hr : x / (m + 2) < n + 2 := Nat.div_lt_of_lt_mul (by rw [Nat.mul_comm]; exact hx)
  have := h2 (x / (m + 2)) (x % (m + 2)) ⟨hd, hr⟩
  rw [Nat.mul_comm, Nat.div_add_mod] at this
  exact this
end Go.Proofs.YtmapagbmihpbmaaGreatDoor

namespace Go.Proofs.YtmapagbmihpbmaaGreatDoor
open Go.RowKit

noncomputable def arest23 : Code := ((Tryz.f13.body.bind (contAt 23)).getD .skip)
set_option maxRecDepth 100000 in
set_option maxHeartbeats 40000000 in
theorem arr23 {u0 u1 u2 u3 u5 u7 u14 u15 u16 u17 u18 u19 u20 u21 u22 u23 u24 u25 u26 u27 u28 u29 u30 u31 u32 u33 u34 u35 u36 u37 u38 u39 u40 u41 u42 u43 u44 u45 u46 u47 u48 u49 u50 u51 u52 u53 u54 u55 u56 u57 u58 u59 u60 u61 u62 u63 u64 u65 u66 u67 u68 u69 u70 u71 u72 u73 u74 u75 u76 u77 u78 u79 u80 u81 u82 u83 u84 u85 u86 u87 u88 u89 u90 u91 u92 u93 u94 u95 u96 u97 u98 u99 u100 u101 u102 u103 u104 u105 u106 u107 u108 u109 u110 u111 u112 u113 u114 u115 u116 u117 u118 u119 u120 u121 u122 u123 u124 u125 u126 u127 u128 u129 u130 u131 u132 u133 u134 u135 u136 u137 u138 u139 u140 u141 u142 u143 u144 u145 u146 u147 u148 u149 u150 u151 u152 u153 u154 u155 u156 u157 u158 u159 u160 u161 u162 u163 u164 u165 u166 u167 u168 u169 u170 u171 u172 u173 u174 u175 u176 u177 u178 u179 u180 u181 u182 u183 u184 u185 u186 u187 u188 u189 : Value} {w w1 W0 wr : World} {L : List (Nat × TypeId × Array Value)} {tA G gi n m C g1 c1 g2 c2 : Nat} {A3 : Option Addr} {c3 : Nat} {A4 : Option Addr} {c4 : Nat} {A5 : Option Addr} {c5 : Nat} {t : Vl} {K1 K2 : List Vl} {RL : List Rm} {Rs : List Rm → Vl} (HY : Hid (Ay w w1 W0 L tA G gi n m C g1 c1 g2 c2 A3 c3 A4 c4 A5 c5 t K1 K2 RL Rs)) (HW : Hid (Aw w w1 W0 wr L gi n m K1 K2 RL Rs (fun r c => c < m + 2 ∧ (r = 0 ∨ (r = n + 1 ∧ c ≤ m) ∨ (1 ≤ r ∧ r ≤ 0))))) :
    Code.wp Tryz.prog arest23 (bodyPost Tryz.prog Tryz.f13 (ArrayRet n m K1 K2 RL Rs w)) ⟨#[u0, u1, u2, u3, .pointer (some ⟨w.heap.size + 1 + 1, 0, none⟩), u5, .pointer (some ⟨tA, 0, none⟩), u7, .int .i64 1, .int .i64 1, .int .i64 (n : Int), .int .i64 (m : Int), .pointer (some ⟨G, 0, none⟩), .func (.func 31) #[] #[.pointer (some ⟨G, 0, none⟩)], u14, u15, u16, u17, u18, u19, u20, u21, u22, u23, u24, u25, u26, u27, u28, u29, u30, u31, u32, u33, u34, u35, u36, u37, u38, u39, u40, u41, u42, u43, u44, u45, u46, u47, u48, u49, u50, u51, u52, u53, u54, u55, u56, u57, u58, u59, u60, u61, u62, u63, u64, u65, u66, u67, u68, u69, u70, u71, u72, u73, u74, u75, u76, u77, u78, u79, u80, u81, u82, u83, u84, u85, u86, u87, u88, u89, u90, u91, u92, u93, u94, u95, u96, u97, u98, u99, u100, u101, u102, u103, u104, u105, u106, u107, u108, u109, u110, u111, u112, u113, u114, u115, u116, u117, u118, u119, u120, u121, u122, u123, u124, u125, u126, u127, u128, u129, u130, u131, u132, u133, u134, u135, u136, u137, u138, u139, u140, u141, u142, u143, u144, u145, u146, u147, u148, u149, u150, u151, u152, u153, u154, u155, u156, u157, u158, u159, u160, u161, u162, u163, u164, u165, u166, u167, u168, u169, u170, u171, u172, u173, u174, u175, u176, u177, u178, u179, u180, u181, u182, u183, u184, u185, u186, u187, u188, u189], []⟩ wr := by
  conv => arg 2; whnf
  conv => arg 4; zeta
  have hn14 := HY.out.ln
  have hm14 := HY.out.lm
  have hk0 : wr.cell? ⟨tA, 0, none⟩ = some (.slice (some ⟨g1, 0, none⟩) n c1) := (HW.out.loc.blk HY.out.tab).cell 0
  go_upto_block 4 with fail
  clear hk0
  go_cut [] (fun wx => Hid (Aw w w1 W0 wx L gi n m K1 K2 RL Rs (fun r c => c < m + 2 ∧ (r = 0 ∨ (r = n + 1 ∧ c ≤ m) ∨ (1 ≤ r ∧ r ≤ n)))))
  case first =>
    go_wp2_with fail
    go_loopw [123] (fun u123 wx => ∃ i : Nat, i ≤ n ∧ u123 = .int .i64 i ∧ Hid (Aw w w1 W0 wx L gi n m K1 K2 RL Rs (fun r c => c < m + 2 ∧ (r = 0 ∨ (r = n + 1 ∧ c ≤ m) ∨ (1 ≤ r ∧ r ≤ i))))) (fun u _ => n - (intOf u).toNat)
    case atStart => exact ⟨0, by omega, rfl, HW⟩
    case round =>
      clear HW
      obtain ⟨i, hi, rfl, HW⟩ := hrel
      by_cases hlt : i < n
      · have hlz : (i : Int) < (n : Int) := by omega
        obtain ⟨b, o, d, hk⟩ := kt_at HY.out.k1 HY.out.l1 i hlt
        have hk0 := (hk wr HW.out.b1).1
        have HK := Lib.hid hk
        clear hk
        go_upto_block 6 with fail
        clear hk0
        go_cut [] (fun wx => Hid (Aw w w1 W0 wx L gi n m K1 K2 RL Rs (fun r c => c < m + 2 ∧ (r = 0 ∨ (r = n + 1 ∧ c ≤ m) ∨ (1 ≤ r ∧ r ≤ i) ∨ (r = 1 + i ∧ c < 1)))))
        case first =>
          go_wp2_with fail
          go_loopw [130] (fun u130 wx => ∃ j : Nat, j ≤ 1 ∧ u130 = .int .i64 j ∧ Hid (Aw w w1 W0 wx L gi n m K1 K2 RL Rs (fun r c => c < m + 2 ∧ (r = 0 ∨ (r = n + 1 ∧ c ≤ m) ∨ (1 ≤ r ∧ r ≤ i) ∨ (j = 1 ∧ r = 1 + i ∧ c = 0))))) (fun u _ => 1 - (intOf u).toNat)
          case atStart => exact ⟨0, by omega, rfl, Lib.hid (HW.out.mono (fun r c h => by (try dsimp only at h ⊢); (try simp only [true_and] at h); (try simp only [true_and]); omega))⟩
          case round =>
            clear HW
            obtain ⟨j, hj, rfl, HW⟩ := hrel
            by_cases hj1 : j < 1
            · obtain rfl : j = 0 := by omega
              obtain ⟨u, hu⟩ : ∃ u, u = K1[i]! := ⟨_, rfl⟩
              have hkc := (HK.out wr HW.out.b1).2
              rw [← hu] at hkc
              have HU := Lib.hid hu
              clear hu
              obtain ⟨uk, unum, uden, utext, uon, ucode, urows, ucols, uA, un, uc⟩ := u
              have k0 : wr.cell? ⟨b, o, none⟩ = some (.int .i64 uk) := hkc 0 (by decide)
              have k1 : wr.cell? ⟨b, o + 1, none⟩ = some (.string unum) := hkc 1 (by decide)
              have k2 : wr.cell? ⟨b, o + 2, none⟩ = some (.string uden) := hkc 2 (by decide)
              have k3 : wr.cell? ⟨b, o + 3, none⟩ = some (.string utext) := hkc 3 (by decide)
              have k4 : wr.cell? ⟨b, o + 4, none⟩ = some (.bool uon) := hkc 4 (by decide)
              have k5 : wr.cell? ⟨b, o + 5, none⟩ = some (.int .i64 ucode) := hkc 5 (by decide)
              have k6 : wr.cell? ⟨b, o + 6, none⟩ = some (.int .i64 urows) := hkc 6 (by decide)
              have k7 : wr.cell? ⟨b, o + 7, none⟩ = some (.int .i64 ucols) := hkc 7 (by decide)
              have k8 : wr.cell? ⟨b, o + 8, none⟩ = some (.slice uA un uc) := hkc 8 (by decide)
              have HP := Lib.hid (show ∀ W, Aw w w1 W0 W L gi n m K1 K2 RL Rs (fun r c => c < m + 2 ∧ (r = 0 ∨ (r = n + 1 ∧ c ≤ m) ∨ (1 ≤ r ∧ r ≤ i) ∨ (0 = 1 ∧ r = 1 + i ∧ c = 0))) → Calls Tryz.prog 31 #[.int .i64 (1 + (i : Int)), .int .i64 (0), .agg #[.int .i64 uk, .string unum, .string uden, .string utext, .bool uon, .int .i64 ucode, .int .i64 urows, .int .i64 ucols, .slice uA un uc], .pointer (some ⟨G, 0, none⟩)] W fun e w' => e = .returned (.tuple #[]) ∧ Aw w w1 W0 w' L gi n m K1 K2 RL Rs (fun r c => c < m + 2 ∧ (r = 0 ∨ (r = n + 1 ∧ c ≤ m) ∨ (1 ≤ r ∧ r ≤ i) ∨ (1 = 1 ∧ r = 1 + i ∧ c = 0))) from fun W hW => by
                have := Aw.put HY.out hW (1 + i) (0) (by omega) (by omega) ⟨uk, unum, uden, utext, uon, ucode, urows, ucols, uA, un, uc⟩ (by rw [tg_left i hlt]; exact HU.out) (S' := fun r c => c < m + 2 ∧ (r = 0 ∨ (r = n + 1 ∧ c ≤ m) ∨ (1 ≤ r ∧ r ≤ i) ∨ (1 = 1 ∧ r = 1 + i ∧ c = 0))) (fun r' c' hs => by
                  try dsimp only at hs ⊢
                  omega)
                rw [show ((1 + i : Nat) : Int) = 1 + (i : Int) by omega, show ((0 : Nat) : Int) = 0 by omega] at this
                exact this)
              clear hkc
              go_upto_region 29 with fail
              have HWA := Lib.hid (HW.out.alloc (.cells #[.int .i64 uk, .string unum, .string uden, .string utext, .bool uon, .int .i64 ucode, .int .i64 urows, .int .i64 ucols, .slice uA un uc] 27))
              have hx := Blk.new wr 27 #[.int .i64 uk, .string unum, .string uden, .string utext, .bool uon, .int .i64 ucode, .int .i64 urows, .int .i64 ucols, .slice uA un uc]
              clear k0 k1 k2 k3 k4 k5 k6 k7 k8 HW
              revert HWA hx
              generalize wr.alloc (.cells #[.int .i64 uk, .string unum, .string uden, .string utext, .bool uon, .int .i64 ucode, .int .i64 urows, .int .i64 ucols, .slice uA un uc] 27) = W1
              intro HWA hx
              have k0 : W1.cell? ⟨wr.heap.size, 0, none⟩ = some (.int .i64 uk) := hx.cell 0
              have k1 : W1.cell? ⟨wr.heap.size, 1, none⟩ = some (.string unum) := hx.cell 1
              have k2 : W1.cell? ⟨wr.heap.size, 2, none⟩ = some (.string uden) := hx.cell 2
              have k3 : W1.cell? ⟨wr.heap.size, 3, none⟩ = some (.string utext) := hx.cell 3
              have k4 : W1.cell? ⟨wr.heap.size, 4, none⟩ = some (.bool uon) := hx.cell 4
              have k5 : W1.cell? ⟨wr.heap.size, 5, none⟩ = some (.int .i64 ucode) := hx.cell 5
              have k6 : W1.cell? ⟨wr.heap.size, 6, none⟩ = some (.int .i64 urows) := hx.cell 6
              have k7 : W1.cell? ⟨wr.heap.size, 7, none⟩ = some (.int .i64 ucols) := hx.cell 7
              have k8 : W1.cell? ⟨wr.heap.size, 8, none⟩ = some (.slice uA un uc) := hx.cell 8
              clear hx
              go_wp2_with (go_at_call 31; (with_reducible refine (HP.out _ HWA.out).mono ?_); rintro e w2 ⟨rfl, hn⟩; have HW2 := Lib.hid hn; clear hn)
              go_roundw
              case rel => exact ⟨1, by omega, by go_num, Lib.hid (HW2.out.mono (fun r c h => by (try dsimp only at h ⊢); (try simp only [true_and] at h); (try simp only [true_and]); omega))⟩
              case measure => simp [intOf]
            · obtain rfl : j = 1 := by omega
              go_wp2_with fail
              go_meet
              exact Lib.hid (HW.out.mono (fun r c h => by (try dsimp only at h ⊢); (try simp only [true_and] at h); (try simp only [true_and]); omega))
        case rest =>
          clear HW
          have HW := hcut
          clear hcut
          rename World => wk
          go_upto_block 8 with fail
          go_cut [] (fun wx => Hid (Aw w w1 W0 wx L gi n m K1 K2 RL Rs (fun r c => c < m + 2 ∧ (r = 0 ∨ (r = n + 1 ∧ c ≤ m) ∨ (1 ≤ r ∧ r ≤ i) ∨ (r = 1 + i ∧ c < 1 + m)))))
          case first =>
            go_wp2_with fail
            go_loopw [144] (fun u144 wx => ∃ k : Nat, k ≤ m ∧ u144 = .int .i64 k ∧ Hid (Aw w w1 W0 wx L gi n m K1 K2 RL Rs (fun r c => c < m + 2 ∧ (r = 0 ∨ (r = n + 1 ∧ c ≤ m) ∨ (1 ≤ r ∧ r ≤ i) ∨ (r = 1 + i ∧ c < 1 + k))))) (fun u _ => m - (intOf u).toNat)
            case atStart => exact ⟨0, by omega, rfl, Lib.hid (HW.out.mono (fun r c h => by (try dsimp only at h ⊢); (try simp only [true_and] at h); (try simp only [true_and]); omega))⟩
            case round =>
              clear HW
              obtain ⟨k, hk, rfl, HW⟩ := hrel
              by_cases hkt : k < m
              · have hkz : (k : Int) < (m : Int) := by omega
                have him : i * m + k < n * m := by
                  have := Nat.mul_le_mul_right m (show i + 1 ≤ n from hlt)
                  rw [Nat.add_mul] at this
                  omega
                have hnm : n * m ≤ 196 := Nat.le_trans (Nat.mul_le_mul hn14 hm14) (by decide)
                have HTG := Lib.hid (tg_cell (K1 := K1) (K2 := K2) (RL := RL) (Rs := Rs) i k hlt hkt)
                obtain ⟨y, ey, oy, hcy⟩ := rd_at HY.out.r3 (i * m + k) him
                obtain ⟨u, hu⟩ : ∃ u, u = cellV Rs RL m (i * m + k) := ⟨_, rfl⟩
                rw [← hu] at hcy HTG
                clear hu
                obtain ⟨p, hp⟩ : ∃ p, p = i * m := ⟨_, rfl⟩
                have hpz : (i : Int) * (m : Int) = (p : Int) := by rw [hp]; push_cast; rfl
                rw [← hp] at him hcy
                have z2 : (p : Int) + (k : Int) < (n : Int) * (m : Int) := by
                  have : ((p + k : Nat) : Int) < ((n * m : Nat) : Int) := by omega
                  push_cast at this
                  exact this
                have z4 : ((p : Int) + (k : Int)).toNat = p + k := by omega
                have z5 : (0 : Int) ≤ (p : Int) + (k : Int) := by omega
                have bp : p ≤ 196 := by omega
                have HA3 := Lib.hid oy
                obtain ⟨uk, unum, uden, utext, uon, ucode, urows, ucols, uA, un, uc⟩ := u
                have k0 : wr.cell? ⟨y, ey + (p + k) * 9, none⟩ = some (.int .i64 uk) := hcy wr HW.out.b1 0 (by decide)
                have k1 : wr.cell? ⟨y, ey + (p + k) * 9 + 1, none⟩ = some (.string unum) := hcy wr HW.out.b1 1 (by decide)
                have k2 : wr.cell? ⟨y, ey + (p + k) * 9 + 2, none⟩ = some (.string uden) := hcy wr HW.out.b1 2 (by decide)
                have k3 : wr.cell? ⟨y, ey + (p + k) * 9 + 3, none⟩ = some (.string utext) := hcy wr HW.out.b1 3 (by decide)
                have k4 : wr.cell? ⟨y, ey + (p + k) * 9 + 4, none⟩ = some (.bool uon) := hcy wr HW.out.b1 4 (by decide)
                have k5 : wr.cell? ⟨y, ey + (p + k) * 9 + 5, none⟩ = some (.int .i64 ucode) := hcy wr HW.out.b1 5 (by decide)
                have k6 : wr.cell? ⟨y, ey + (p + k) * 9 + 6, none⟩ = some (.int .i64 urows) := hcy wr HW.out.b1 6 (by decide)
                have k7 : wr.cell? ⟨y, ey + (p + k) * 9 + 7, none⟩ = some (.int .i64 ucols) := hcy wr HW.out.b1 7 (by decide)
                have k8 : wr.cell? ⟨y, ey + (p + k) * 9 + 8, none⟩ = some (.slice uA un uc) := hcy wr HW.out.b1 8 (by decide)
                have t2 : wr.cell? ⟨tA, 2, none⟩ = some (.slice (some ⟨y, ey, none⟩) (n * m) c3) := by rw [← oy]; exact (HW.out.loc.blk HY.out.tab).cell 2
                have HP := Lib.hid (show ∀ W, Aw w w1 W0 W L gi n m K1 K2 RL Rs (fun r c => c < m + 2 ∧ (r = 0 ∨ (r = n + 1 ∧ c ≤ m) ∨ (1 ≤ r ∧ r ≤ i) ∨ (r = 1 + i ∧ c < 1 + k))) → Calls Tryz.prog 31 #[.int .i64 (1 + (i : Int)), .int .i64 (1 + (k : Int)), .agg #[.int .i64 uk, .string unum, .string uden, .string utext, .bool uon, .int .i64 ucode, .int .i64 urows, .int .i64 ucols, .slice uA un uc], .pointer (some ⟨G, 0, none⟩)] W fun e w' => e = .returned (.tuple #[]) ∧ Aw w w1 W0 w' L gi n m K1 K2 RL Rs (fun r c => c < m + 2 ∧ (r = 0 ∨ (r = n + 1 ∧ c ≤ m) ∨ (1 ≤ r ∧ r ≤ i) ∨ (r = 1 + i ∧ c < 1 + (k + 1)))) from fun W hW => by
                  have := Aw.put HY.out hW (1 + i) (1 + k) (by omega) (by omega) ⟨uk, unum, uden, utext, uon, ucode, urows, ucols, uA, un, uc⟩ (HTG.out.symm) (S' := fun r c => c < m + 2 ∧ (r = 0 ∨ (r = n + 1 ∧ c ≤ m) ∨ (1 ≤ r ∧ r ≤ i) ∨ (r = 1 + i ∧ c < 1 + (k + 1)))) (fun r' c' hs => by
                    try dsimp only at hs ⊢
                    omega)
                  rw [show ((1 + i : Nat) : Int) = 1 + (i : Int) by omega, show ((1 + k : Nat) : Int) = 1 + (k : Int) by omega] at this
                  exact this)
                clear hcy oy him hnm hp
                go_wp2_with (go_at_call 31; (with_reducible refine (HP.out _ HW.out).mono ?_); rintro e w2 ⟨rfl, hn⟩; have HW2 := Lib.hid hn; clear hn)
                go_roundw
                case rel => exact ⟨k + 1, by omega, by go_num, HW2⟩
                case measure => simp [intOf]; omega
              · have hkz : ¬ (k : Int) < (m : Int) := by omega
                obtain rfl : m = k := by omega
                go_wp2_with fail
                go_meet
                exact HW
          case rest =>
            clear HW
            have HW := hcut
            clear hcut
            rename World => wc
            obtain ⟨y, ey, oy, hcy⟩ := rd_at HY.out.r4 i hlt
            obtain ⟨u, hu⟩ : ∃ u, u = rowV Rs RL i := ⟨_, rfl⟩
            have HTG := Lib.hid (tg_row (n := n) (m := m) (K1 := K1) (K2 := K2) (RL := RL) (Rs := Rs) i hlt)
            rw [← hu] at hcy HTG
            clear hu
            obtain ⟨uk, unum, uden, utext, uon, ucode, urows, ucols, uA, un, uc⟩ := u
            have k0 : wc.cell? ⟨y, ey + i * 9, none⟩ = some (.int .i64 uk) := hcy wc HW.out.b1 0 (by decide)
            have k1 : wc.cell? ⟨y, ey + i * 9 + 1, none⟩ = some (.string unum) := hcy wc HW.out.b1 1 (by decide)
            have k2 : wc.cell? ⟨y, ey + i * 9 + 2, none⟩ = some (.string uden) := hcy wc HW.out.b1 2 (by decide)
            have k3 : wc.cell? ⟨y, ey + i * 9 + 3, none⟩ = some (.string utext) := hcy wc HW.out.b1 3 (by decide)
            have k4 : wc.cell? ⟨y, ey + i * 9 + 4, none⟩ = some (.bool uon) := hcy wc HW.out.b1 4 (by decide)
            have k5 : wc.cell? ⟨y, ey + i * 9 + 5, none⟩ = some (.int .i64 ucode) := hcy wc HW.out.b1 5 (by decide)
            have k6 : wc.cell? ⟨y, ey + i * 9 + 6, none⟩ = some (.int .i64 urows) := hcy wc HW.out.b1 6 (by decide)
            have k7 : wc.cell? ⟨y, ey + i * 9 + 7, none⟩ = some (.int .i64 ucols) := hcy wc HW.out.b1 7 (by decide)
            have k8 : wc.cell? ⟨y, ey + i * 9 + 8, none⟩ = some (.slice uA un uc) := hcy wc HW.out.b1 8 (by decide)
            have t2 : wc.cell? ⟨tA, 3, none⟩ = some (.slice (some ⟨y, ey, none⟩) n c4) := by rw [← oy]; exact (HW.out.loc.blk HY.out.tab).cell 3
            have HP := Lib.hid (show ∀ W, Aw w w1 W0 W L gi n m K1 K2 RL Rs (fun r c => c < m + 2 ∧ (r = 0 ∨ (r = n + 1 ∧ c ≤ m) ∨ (1 ≤ r ∧ r ≤ i) ∨ (r = 1 + i ∧ c < 1 + m))) → Calls Tryz.prog 31 #[.int .i64 (1 + (i : Int)), .int .i64 (1 + (m : Int)), .agg #[.int .i64 uk, .string unum, .string uden, .string utext, .bool uon, .int .i64 ucode, .int .i64 urows, .int .i64 ucols, .slice uA un uc], .pointer (some ⟨G, 0, none⟩)] W fun e w' => e = .returned (.tuple #[]) ∧ Aw w w1 W0 w' L gi n m K1 K2 RL Rs (fun r c => c < m + 2 ∧ (r = 0 ∨ (r = n + 1 ∧ c ≤ m) ∨ (1 ≤ r ∧ r ≤ (i + 1)))) from fun W hW => by
              have := Aw.put HY.out hW (1 + i) (m + 1) (by omega) (by omega) ⟨uk, unum, uden, utext, uon, ucode, urows, ucols, uA, un, uc⟩ (HTG.out.symm) (S' := fun r c => c < m + 2 ∧ (r = 0 ∨ (r = n + 1 ∧ c ≤ m) ∨ (1 ≤ r ∧ r ≤ (i + 1)))) (fun r' c' hs => by
                try dsimp only at hs ⊢
                omega)
              rw [show ((1 + i : Nat) : Int) = 1 + (i : Int) by omega, show ((m + 1 : Nat) : Int) = 1 + (m : Int) by omega] at this
              exact this)
            clear hcy oy
            go_wp2_with (go_at_call 31; (with_reducible refine (HP.out _ HW.out).mono ?_); rintro e w2 ⟨rfl, hn⟩; have HW2 := Lib.hid hn; clear hn)
            go_roundw
            case rel => exact ⟨i + 1, by omega, by go_num, HW2⟩
            case measure => simp [intOf]; omega
      · have hlz : ¬ (i : Int) < (n : Int) := by omega
        obtain rfl : n = i := by omega
        go_wp2_with fail
        go_meet
        exact HW
  case rest =>
    clear HW
    have HW := Lib.hid (show Aw w w1 W0 _ L gi n m K1 K2 RL Rs (fun r c => c < m + 2 ∧ r < n + 2 ∧ ¬ (r = n + 1 ∧ c = m + 1)) from hcut.out.mono (fun r c h => by (try dsimp only at h ⊢); (try simp only [true_and] at h); (try simp only [true_and]); omega))
    clear hcut
    go_step
    exact arr38 HY HW
end Go.Proofs.YtmapagbmihpbmaaGreatDoor

namespace Go.Proofs.YtmapagbmihpbmaaGreatDoor
open Go.RowKit

noncomputable def arest13 : Code := ((Tryz.f13.body.bind (contAt 13)).getD .skip)
set_option maxRecDepth 100000 in
set_option maxHeartbeats 40000000 in
theorem arr13 {u0 u1 u2 u3 u5 u7 u14 u15 u16 u17 u18 u19 u20 u21 u22 u23 u24 u25 u26 u27 u28 u29 u30 u31 u32 u33 u34 u35 u36 u37 u38 u39 u40 u41 u42 u43 u44 u45 u46 u47 u48 u49 u50 u51 u52 u53 u54 u55 u56 u57 u58 u59 u60 u61 u62 u63 u64 u65 u66 u67 u68 u69 u70 u71 u72 u73 u74 u75 u76 u77 u78 u79 u80 u81 u82 u83 u84 u85 u86 u87 u88 u89 u90 u91 u92 u93 u94 u95 u96 u97 u98 u99 u100 u101 u102 u103 u104 u105 u106 u107 u108 u109 u110 u111 u112 u113 u114 u115 u116 u117 u118 u119 u120 u121 u122 u123 u124 u125 u126 u127 u128 u129 u130 u131 u132 u133 u134 u135 u136 u137 u138 u139 u140 u141 u142 u143 u144 u145 u146 u147 u148 u149 u150 u151 u152 u153 u154 u155 u156 u157 u158 u159 u160 u161 u162 u163 u164 u165 u166 u167 u168 u169 u170 u171 u172 u173 u174 u175 u176 u177 u178 u179 u180 u181 u182 u183 u184 u185 u186 u187 u188 u189 : Value} {w w1 W0 wr : World} {L : List (Nat × TypeId × Array Value)} {tA G gi n m C g1 c1 g2 c2 : Nat} {A3 : Option Addr} {c3 : Nat} {A4 : Option Addr} {c4 : Nat} {A5 : Option Addr} {c5 : Nat} {t : Vl} {K1 K2 : List Vl} {RL : List Rm} {Rs : List Rm → Vl} (HY : Hid (Ay w w1 W0 L tA G gi n m C g1 c1 g2 c2 A3 c3 A4 c4 A5 c5 t K1 K2 RL Rs)) (HW : Hid (Aw w w1 W0 wr L gi n m K1 K2 RL Rs (fun r c => c < m + 2 ∧ ((r = 0 ∧ (c ≤ 0 ∨ c = m + 1)) ∨ (r = n + 1 ∧ c ≤ 0))))) :
    Code.wp Tryz.prog arest13 (bodyPost Tryz.prog Tryz.f13 (ArrayRet n m K1 K2 RL Rs w)) ⟨#[u0, u1, u2, u3, .pointer (some ⟨w.heap.size + 1 + 1, 0, none⟩), u5, .pointer (some ⟨tA, 0, none⟩), u7, .int .i64 1, .int .i64 1, .int .i64 (n : Int), .int .i64 (m : Int), .pointer (some ⟨G, 0, none⟩), .func (.func 31) #[] #[.pointer (some ⟨G, 0, none⟩)], u14, u15, u16, u17, u18, u19, u20, u21, u22, u23, u24, u25, u26, u27, u28, u29, u30, u31, u32, u33, u34, u35, u36, u37, u38, u39, u40, u41, u42, u43, u44, u45, u46, u47, u48, u49, u50, u51, u52, u53, u54, u55, u56, u57, u58, u59, u60, u61, u62, u63, u64, u65, u66, u67, u68, u69, u70, u71, u72, u73, u74, u75, u76, u77, u78, u79, u80, u81, u82, u83, u84, u85, u86, u87, u88, u89, u90, u91, u92, u93, u94, u95, u96, u97, u98, u99, u100, u101, u102, u103, u104, u105, u106, u107, u108, u109, u110, u111, u112, u113, u114, u115, u116, u117, u118, u119, u120, u121, u122, u123, u124, u125, u126, u127, u128, u129, u130, u131, u132, u133, u134, u135, u136, u137, u138, u139, u140, u141, u142, u143, u144, u145, u146, u147, u148, u149, u150, u151, u152, u153, u154, u155, u156, u157, u158, u159, u160, u161, u162, u163, u164, u165, u166, u167, u168, u169, u170, u171, u172, u173, u174, u175, u176, u177, u178, u179, u180, u181, u182, u183, u184, u185, u186, u187, u188, u189], []⟩ wr := by
  conv => arg 2; whnf
  conv => arg 4; zeta
  have hn14 := HY.out.ln
  have hm14 := HY.out.lm
  have hk0 : wr.cell? ⟨tA, 1, none⟩ = some (.slice (some ⟨g2, 0, none⟩) m c2) := (HW.out.loc.blk HY.out.tab).cell 1
  go_upto_block 0 with fail
  clear hk0
  go_cut [] (fun wx => Hid (Aw w w1 W0 wx L gi n m K1 K2 RL Rs (fun r c => c < m + 2 ∧ ((r = 0 ∧ (c ≤ m ∨ c = m + 1)) ∨ (r = n + 1 ∧ c ≤ m)))))
  case first =>
    go_wp2_with fail
    go_loopw [86] (fun u86 wx => ∃ k : Nat, k ≤ m ∧ u86 = .int .i64 k ∧ Hid (Aw w w1 W0 wx L gi n m K1 K2 RL Rs (fun r c => c < m + 2 ∧ ((r = 0 ∧ (c ≤ k ∨ c = m + 1)) ∨ (r = n + 1 ∧ c ≤ k))))) (fun u _ => m - (intOf u).toNat)
    case atStart => exact ⟨0, by omega, rfl, HW⟩
    case round =>
      clear HW
      obtain ⟨k, hi, rfl, HW⟩ := hrel
      by_cases hlt : k < m
      · have hlz : (k : Int) < (m : Int) := by omega
        obtain ⟨b, o, d, hk⟩ := kt_at HY.out.k2 HY.out.l2 k hlt
        have hk0 := (hk wr HW.out.b1).1
        have HK := Lib.hid hk
        clear hk
        go_upto_block 2 with fail
        clear hk0
        go_cut [] (fun wx => Hid (Aw w w1 W0 wx L gi n m K1 K2 RL Rs (fun r c => c < m + 2 ∧ ((r = 0 ∧ (c ≤ k ∨ c = m + 1 ∨ c = 1 + k)) ∨ (r = n + 1 ∧ c ≤ k)))))
        case first =>
          go_wp2_with fail
          go_loopw [93] (fun u93 wx => ∃ j : Nat, j ≤ 1 ∧ u93 = .int .i64 j ∧ Hid (Aw w w1 W0 wx L gi n m K1 K2 RL Rs (fun r c => c < m + 2 ∧ ((r = 0 ∧ (c ≤ k ∨ c = m + 1 ∨ (j = 1 ∧ c = 1 + k))) ∨ (r = n + 1 ∧ c ≤ k))))) (fun u _ => 1 - (intOf u).toNat)
          case atStart => exact ⟨0, by omega, rfl, Lib.hid (HW.out.mono (fun r c h => by (try dsimp only at h ⊢); (try simp only [true_and] at h); (try simp only [true_and]); omega))⟩
          case round =>
            clear HW
            obtain ⟨j, hj, rfl, HW⟩ := hrel
            by_cases hj1 : j < 1
            · obtain rfl : j = 0 := by omega
              obtain ⟨u, hu⟩ : ∃ u, u = K2[k]! := ⟨_, rfl⟩
              have hkc := (HK.out wr HW.out.b1).2
              rw [← hu] at hkc
              have HU := Lib.hid hu
              clear hu
              obtain ⟨uk, unum, uden, utext, uon, ucode, urows, ucols, uA, un, uc⟩ := u
              have k0 : wr.cell? ⟨b, o, none⟩ = some (.int .i64 uk) := hkc 0 (by decide)
              have k1 : wr.cell? ⟨b, o + 1, none⟩ = some (.string unum) := hkc 1 (by decide)
              have k2 : wr.cell? ⟨b, o + 2, none⟩ = some (.string uden) := hkc 2 (by decide)
              have k3 : wr.cell? ⟨b, o + 3, none⟩ = some (.string utext) := hkc 3 (by decide)
              have k4 : wr.cell? ⟨b, o + 4, none⟩ = some (.bool uon) := hkc 4 (by decide)
              have k5 : wr.cell? ⟨b, o + 5, none⟩ = some (.int .i64 ucode) := hkc 5 (by decide)
              have k6 : wr.cell? ⟨b, o + 6, none⟩ = some (.int .i64 urows) := hkc 6 (by decide)
              have k7 : wr.cell? ⟨b, o + 7, none⟩ = some (.int .i64 ucols) := hkc 7 (by decide)
              have k8 : wr.cell? ⟨b, o + 8, none⟩ = some (.slice uA un uc) := hkc 8 (by decide)
              have HP := Lib.hid (show ∀ W, Aw w w1 W0 W L gi n m K1 K2 RL Rs (fun r c => c < m + 2 ∧ ((r = 0 ∧ (c ≤ k ∨ c = m + 1 ∨ (0 = 1 ∧ c = 1 + k))) ∨ (r = n + 1 ∧ c ≤ k))) → Calls Tryz.prog 31 #[.int .i64 (0), .int .i64 (1 + (k : Int)), .agg #[.int .i64 uk, .string unum, .string uden, .string utext, .bool uon, .int .i64 ucode, .int .i64 urows, .int .i64 ucols, .slice uA un uc], .pointer (some ⟨G, 0, none⟩)] W fun e w' => e = .returned (.tuple #[]) ∧ Aw w w1 W0 w' L gi n m K1 K2 RL Rs (fun r c => c < m + 2 ∧ ((r = 0 ∧ (c ≤ k ∨ c = m + 1 ∨ (1 = 1 ∧ c = 1 + k))) ∨ (r = n + 1 ∧ c ≤ k))) from fun W hW => by
                have := Aw.put HY.out hW (0) (1 + k) (by omega) (by omega) ⟨uk, unum, uden, utext, uon, ucode, urows, ucols, uA, un, uc⟩ (by rw [tg_top k hlt]; exact HU.out) (S' := fun r c => c < m + 2 ∧ ((r = 0 ∧ (c ≤ k ∨ c = m + 1 ∨ (1 = 1 ∧ c = 1 + k))) ∨ (r = n + 1 ∧ c ≤ k))) (fun r' c' hs => by
                  try dsimp only at hs ⊢
                  omega)
                rw [show ((0 : Nat) : Int) = 0 by omega, show ((1 + k : Nat) : Int) = 1 + (k : Int) by omega] at this
                exact this)
              clear hkc
              go_upto_region 19 with fail
              have HWA := Lib.hid (HW.out.alloc (.cells #[.int .i64 uk, .string unum, .string uden, .string utext, .bool uon, .int .i64 ucode, .int .i64 urows, .int .i64 ucols, .slice uA un uc] 27))
              have hx := Blk.new wr 27 #[.int .i64 uk, .string unum, .string uden, .string utext, .bool uon, .int .i64 ucode, .int .i64 urows, .int .i64 ucols, .slice uA un uc]
              clear k0 k1 k2 k3 k4 k5 k6 k7 k8 HW
              revert HWA hx
              generalize wr.alloc (.cells #[.int .i64 uk, .string unum, .string uden, .string utext, .bool uon, .int .i64 ucode, .int .i64 urows, .int .i64 ucols, .slice uA un uc] 27) = W1
              intro HWA hx
              have k0 : W1.cell? ⟨wr.heap.size, 0, none⟩ = some (.int .i64 uk) := hx.cell 0
              have k1 : W1.cell? ⟨wr.heap.size, 1, none⟩ = some (.string unum) := hx.cell 1
              have k2 : W1.cell? ⟨wr.heap.size, 2, none⟩ = some (.string uden) := hx.cell 2
              have k3 : W1.cell? ⟨wr.heap.size, 3, none⟩ = some (.string utext) := hx.cell 3
              have k4 : W1.cell? ⟨wr.heap.size, 4, none⟩ = some (.bool uon) := hx.cell 4
              have k5 : W1.cell? ⟨wr.heap.size, 5, none⟩ = some (.int .i64 ucode) := hx.cell 5
              have k6 : W1.cell? ⟨wr.heap.size, 6, none⟩ = some (.int .i64 urows) := hx.cell 6
              have k7 : W1.cell? ⟨wr.heap.size, 7, none⟩ = some (.int .i64 ucols) := hx.cell 7
              have k8 : W1.cell? ⟨wr.heap.size, 8, none⟩ = some (.slice uA un uc) := hx.cell 8
              clear hx
              go_wp2_with (go_at_call 31; (with_reducible refine (HP.out _ HWA.out).mono ?_); rintro e w2 ⟨rfl, hn⟩; have HW2 := Lib.hid hn; clear hn)
              go_roundw
              case rel => exact ⟨1, by omega, by go_num, Lib.hid (HW2.out.mono (fun r c h => by (try dsimp only at h ⊢); (try simp only [true_and] at h); (try simp only [true_and]); omega))⟩
              case measure => simp [intOf]
            · obtain rfl : j = 1 := by omega
              go_wp2_with fail
              go_meet
              exact Lib.hid (HW.out.mono (fun r c h => by (try dsimp only at h ⊢); (try simp only [true_and] at h); (try simp only [true_and]); omega))
        case rest =>
          clear HW
          have HW := hcut
          clear hcut
          rename World => wk
          obtain ⟨y, ey, oy, hcy⟩ := rd_at HY.out.r5 k hlt
          obtain ⟨u, hu⟩ : ∃ u, u = colV Rs RL k := ⟨_, rfl⟩
          have HTG := Lib.hid (tg_col (n := n) (m := m) (K1 := K1) (K2 := K2) (RL := RL) (Rs := Rs) k hlt)
          rw [← hu] at hcy HTG
          clear hu
          obtain ⟨uk, unum, uden, utext, uon, ucode, urows, ucols, uA, un, uc⟩ := u
          have k0 : wk.cell? ⟨y, ey + k * 9, none⟩ = some (.int .i64 uk) := hcy wk HW.out.b1 0 (by decide)
          have k1 : wk.cell? ⟨y, ey + k * 9 + 1, none⟩ = some (.string unum) := hcy wk HW.out.b1 1 (by decide)
          have k2 : wk.cell? ⟨y, ey + k * 9 + 2, none⟩ = some (.string uden) := hcy wk HW.out.b1 2 (by decide)
          have k3 : wk.cell? ⟨y, ey + k * 9 + 3, none⟩ = some (.string utext) := hcy wk HW.out.b1 3 (by decide)
          have k4 : wk.cell? ⟨y, ey + k * 9 + 4, none⟩ = some (.bool uon) := hcy wk HW.out.b1 4 (by decide)
          have k5 : wk.cell? ⟨y, ey + k * 9 + 5, none⟩ = some (.int .i64 ucode) := hcy wk HW.out.b1 5 (by decide)
          have k6 : wk.cell? ⟨y, ey + k * 9 + 6, none⟩ = some (.int .i64 urows) := hcy wk HW.out.b1 6 (by decide)
          have k7 : wk.cell? ⟨y, ey + k * 9 + 7, none⟩ = some (.int .i64 ucols) := hcy wk HW.out.b1 7 (by decide)
          have k8 : wk.cell? ⟨y, ey + k * 9 + 8, none⟩ = some (.slice uA un uc) := hcy wk HW.out.b1 8 (by decide)
          have t2 : wk.cell? ⟨tA, 4, none⟩ = some (.slice (some ⟨y, ey, none⟩) m c5) := by rw [← oy]; exact (HW.out.loc.blk HY.out.tab).cell 4
          have HP := Lib.hid (show ∀ W, Aw w w1 W0 W L gi n m K1 K2 RL Rs (fun r c => c < m + 2 ∧ ((r = 0 ∧ (c ≤ k ∨ c = m + 1 ∨ c = 1 + k)) ∨ (r = n + 1 ∧ c ≤ k))) → Calls Tryz.prog 31 #[.int .i64 (1 + (n : Int)), .int .i64 (1 + (k : Int)), .agg #[.int .i64 uk, .string unum, .string uden, .string utext, .bool uon, .int .i64 ucode, .int .i64 urows, .int .i64 ucols, .slice uA un uc], .pointer (some ⟨G, 0, none⟩)] W fun e w' => e = .returned (.tuple #[]) ∧ Aw w w1 W0 w' L gi n m K1 K2 RL Rs (fun r c => c < m + 2 ∧ ((r = 0 ∧ (c ≤ (k + 1) ∨ c = m + 1)) ∨ (r = n + 1 ∧ c ≤ (k + 1)))) from fun W hW => by
            have := Aw.put HY.out hW (n + 1) (1 + k) (by omega) (by omega) ⟨uk, unum, uden, utext, uon, ucode, urows, ucols, uA, un, uc⟩ (HTG.out.symm) (S' := fun r c => c < m + 2 ∧ ((r = 0 ∧ (c ≤ (k + 1) ∨ c = m + 1)) ∨ (r = n + 1 ∧ c ≤ (k + 1)))) (fun r' c' hs => by
              try dsimp only at hs ⊢
              omega)
            rw [show ((n + 1 : Nat) : Int) = 1 + (n : Int) by omega, show ((1 + k : Nat) : Int) = 1 + (k : Int) by omega] at this
            exact this)
          clear hcy oy
          go_wp2_with (go_at_call 31; (with_reducible refine (HP.out _ HW.out).mono ?_); rintro e w2 ⟨rfl, hn⟩; have HW2 := Lib.hid hn; clear hn)
          go_roundw
          case rel => exact ⟨k + 1, by omega, by go_num, HW2⟩
          case measure => simp [intOf]; omega
      · have hlz : ¬ (k : Int) < (m : Int) := by omega
        obtain rfl : m = k := by omega
        go_wp2_with fail
        go_meet
        exact HW
  case rest =>
    clear HW
    have HW := Lib.hid (show Aw w w1 W0 _ L gi n m K1 K2 RL Rs (fun r c => c < m + 2 ∧ (r = 0 ∨ (r = n + 1 ∧ c ≤ m) ∨ (1 ≤ r ∧ r ≤ 0))) from hcut.out.mono (fun r c h => by (try dsimp only at h ⊢); (try simp only [true_and] at h); (try simp only [true_and]); omega))
    clear hcut
    go_step
    exact arr23 HY HW
end Go.Proofs.YtmapagbmihpbmaaGreatDoor

namespace Go.Proofs.YtmapagbmihpbmaaGreatDoor
open Go.RowKit

/-- The array of records as it lies in memory. -/
structure Src (W : World) (v : Vl) (us : List Vl) (R : Nat) : Prop where
  cols : v.cols = 3
  rows : v.rows = (R : Int) + 1
  r1 : 1 ≤ R
  r2 : R ≤ 14
  len : us.length = (R + 1) * 3
  n : v.n = us.length
  rd : Reads 9 csV W (.slice v.A v.n v.c) us
  ok : ∀ u ∈ us, u.ok ∧ u.sz
theorem Src.below {w W : World} {v : Vl} {us : List Vl} {R : Nat} (h : Src w v us R) (hb : Below w.heap.size w W) : Src W v us R := ⟨h.cols, h.rows, h.r1, h.r2, h.len, h.n, h.rd.below hb, h.ok⟩
theorem Src.mem {w : World} {v : Vl} {us : List Vl} {R : Nat} (h : Src w v us R) {i : Nat} (hi : i < (R + 1) * 3) : us[i]! ∈ us := by
  rw [getElem!_pos us i (by rw [h.len]; exact hi)]; exact List.getElem_mem _
/-- The cells of the items. -/
theorem Src.at {w : World} {v : Vl} {us : List Vl} {R : Nat} (h : Src w v us R) : ∃ b o, v.A = some ⟨b, o, none⟩ ∧ b < w.heap.size ∧ ∀ i, i < (R + 1) * 3 → ∀ j, j < 9 → w.cell? ⟨b, o + i * 9 + j, none⟩ = (us[i]!.cs)[j]? := by
  obtain ⟨A', c', e, -, -, h3⟩ := h.rd
  injection e with e1 e2 e3
  obtain ⟨b, o, e4, hb, hc⟩ := h3 (by rw [h.len]; omega)
  refine ⟨b, o, e1.trans e4, hb, fun i hi j hj => ?_⟩
  have hi' : i < us.length := by rw [h.len]; exact hi
  have := hc i hi' j hj
  rw [← Nat.add_assoc] at this
  rw [this, getElem!_pos us i hi']
  simp [csV]
set_option maxRecDepth 100000 in
set_option maxHeartbeats 4000000 in
theorem key_any (v : Vl) (us : List Vl) (R i col : Nat) (bc oc cc : Nat) (w : World) (hs : Src w v us R) (h1 : i ≤ R) (h2 : col < 3) (hc : w.cell? ⟨bc, oc, none⟩ = some (.int .i64 (col : Int))) :
    Calls Tryz.prog 39 #[v.v, .int .i64 (i : Int), .slice (some ⟨bc, oc, none⟩) 1 cc] w fun e w' => ∃ x : SV, e = .returned (sv3 x) ∧ KO w' w.heap.size x us[i * 3 + col]! ∧ Below w.heap.size w w' := by
  obtain ⟨b, o, hA, hbl, hcell⟩ := hs.at
  have hcols := hs.cols
  have hn : v.n = (R + 1) * 3 := hs.n.trans hs.len
  have r2 := hs.r2
  have hi : i * 3 + col < (R + 1) * 3 := by omega
  obtain ⟨u, hu⟩ : ∃ u, u = us[i * 3 + col]! := ⟨_, rfl⟩
  have hce : ∀ j, j < 9 → w.cell? ⟨b, o + (i * 3 + col) * 9 + j, none⟩ = (u.cs)[j]? := fun j hj => by rw [hu]; exact hcell _ hi j hj
  rw [← hu]
  clear hu hcell hs
  obtain ⟨k, num, den, text, on, code, rows, cols, A, n, c⟩ := v
  dsimp only at hA hcols hn
  subst hA hcols hn
  obtain ⟨uk, unum, uden, utext, uon, ucode, urows, ucols, uA, un, uc⟩ := u
  have g0 : w.cell? ⟨b, o + (i * 3 + col) * 9, none⟩ = some (.int .i64 uk) := hce 0 (by decide)
  have g1 : w.cell? ⟨b, o + (i * 3 + col) * 9 + 1, none⟩ = some (.string unum) := hce 1 (by decide)
  have g2 : w.cell? ⟨b, o + (i * 3 + col) * 9 + 2, none⟩ = some (.string uden) := hce 2 (by decide)
  have g3 : w.cell? ⟨b, o + (i * 3 + col) * 9 + 3, none⟩ = some (.string utext) := hce 3 (by decide)
  have g4 : w.cell? ⟨b, o + (i * 3 + col) * 9 + 4, none⟩ = some (.bool uon) := hce 4 (by decide)
  have g5 : w.cell? ⟨b, o + (i * 3 + col) * 9 + 5, none⟩ = some (.int .i64 ucode) := hce 5 (by decide)
  have g6 : w.cell? ⟨b, o + (i * 3 + col) * 9 + 6, none⟩ = some (.int .i64 urows) := hce 6 (by decide)
  have g7 : w.cell? ⟨b, o + (i * 3 + col) * 9 + 7, none⟩ = some (.int .i64 ucols) := hce 7 (by decide)
  have g8 : w.cell? ⟨b, o + (i * 3 + col) * 9 + 8, none⟩ = some (.slice uA un uc) := hce 8 (by decide)
  clear hce
  have z4 : ((i : Int) * 3 + (col : Int)).toNat = i * 3 + col := by omega
  have z5 : (i : Int) * 3 + (col : Int) < (((R + 1) * 3 : Nat) : Int) := by omega
  have z6 : (0 : Int) ≤ (i : Int) * 3 + (col : Int) := by omega
  have HL0 := Lib.hid ((Loc.start w).alloc' rfl 27 #[.int .i64 k, .string num, .string den, .string text, .bool on, .int .i64 code, .int .i64 rows, .int .i64 3, .slice (some ⟨b, o, none⟩) ((R + 1) * 3) c])
  have bbc : bc < w.heap.size := World.block_lt_of_cell? _ _ hc
  have bbl : b < w.heap.size := hbl
  have HG := Lib.hid (show ∀ W, Below w.heap.size w W → W.cell? ⟨bc, oc, none⟩ = some (.int .i64 (col : Int)) ∧ W.cell? ⟨b, o + (i * 3 + col) * 9, none⟩ = some (.int .i64 uk) ∧ W.cell? ⟨b, o + (i * 3 + col) * 9 + 1, none⟩ = some (.string unum) ∧ W.cell? ⟨b, o + (i * 3 + col) * 9 + 2, none⟩ = some (.string uden) ∧ W.cell? ⟨b, o + (i * 3 + col) * 9 + 3, none⟩ = some (.string utext) ∧ W.cell? ⟨b, o + (i * 3 + col) * 9 + 4, none⟩ = some (.bool uon) ∧ W.cell? ⟨b, o + (i * 3 + col) * 9 + 5, none⟩ = some (.int .i64 ucode) ∧ W.cell? ⟨b, o + (i * 3 + col) * 9 + 6, none⟩ = some (.int .i64 urows) ∧ W.cell? ⟨b, o + (i * 3 + col) * 9 + 7, none⟩ = some (.int .i64 ucols) ∧ W.cell? ⟨b, o + (i * 3 + col) * 9 + 8, none⟩ = some (.slice uA un uc) from fun W hW => ⟨(hW.cell (p := ⟨bc, oc, none⟩) bbc).trans hc, (hW.cell (by exact bbl)).trans g0, (hW.cell (by exact bbl)).trans g1, (hW.cell (by exact bbl)).trans g2, (hW.cell (by exact bbl)).trans g3, (hW.cell (by exact bbl)).trans g4, (hW.cell (by exact bbl)).trans g5, (hW.cell (by exact bbl)).trans g6, (hW.cell (by exact bbl)).trans g7, (hW.cell (by exact bbl)).trans g8⟩)
  clear g0 g1 g2 g3 g4 g5 g6 g7 g8 hc
  show Calls Tryz.prog 39 #[.agg #[.int .i64 k, .string num, .string den, .string text, .bool on, .int .i64 code, .int .i64 rows, .int .i64 3, .slice (some ⟨b, o, none⟩) ((R + 1) * 3) c], .int .i64 (i : Int), .slice (some ⟨bc, oc, none⟩) 1 cc] w _
  go_enter Tryz.func39, Tryz.ntmps39
  go_wp2_with fail
  go_loopw [7, 12] (fun u7 u12 wr => (u12 = .int .i64 0 ∧ u7 = .slice none 0 0 ∧ Hid (Loc w [(w.heap.size, 27, #[.int .i64 k, .string num, .string den, .string text, .bool on, .int .i64 code, .int .i64 rows, .int .i64 3, .slice (some ⟨b, o, none⟩) ((R + 1) * 3) c])] wr)) ∨ (u12 = .int .i64 1 ∧ ∃ (gx cx : Nat), u7 = .slice (some ⟨gx, 0, none⟩) 1 cx ∧ Hid (KO wr w.heap.size (some ⟨gx, 0, none⟩, 1, cx) ⟨uk, unum, uden, utext, uon, ucode, urows, ucols, uA, un, uc⟩) ∧ Hid (Below w.heap.size w wr))) (fun _ u _ => 1 - (intOf u).toNat)
  case atStart => exact .inl ⟨rfl, rfl, HL0⟩
  case round =>
    clear HL0
    rcases hrel with ⟨rfl, rfl, HL⟩ | ⟨rfl, gx, cx, rfl, HK, HB⟩
    · obtain ⟨hc, g0, g1, g2, g3, g4, g5, g6, g7, g8⟩ := HG.out wr HL.out.bel
      have k7 := (HL.out.blk (List.mem_singleton.2 rfl)).cell 7
      have k8 := (HL.out.blk (List.mem_singleton.2 rfl)).cell 8
      simp only [List.getElem?_toArray, List.getElem?_cons_succ, List.getElem?_cons_zero] at k7 k8
      have HB0 := Lib.hid HL.out.bel
      have HSZ := Lib.hid HL.out.bel.size
      go_wp2_with (at_builtin; go_loud (refine wp_row1 25 27 9 112 csV _ Tryz.underlying25 val_info rfl (by decide) csV_one rfl _ _ rfl w.heap.size _ [] rfl (RowOf.nil wr _) ⟨uk, unum, uden, utext, uon, ucode, urows, ucols, uA, un, uc⟩ _ ?_ rfl (by decide) (by decide) HSZ.out ?_); (rfl); intro v3 w3 ho hb hg; obtain ⟨gx, cx, rfl, -, -⟩ := RowOf.form ho (by simp); have HO := Lib.hid ho; have HB1 := Lib.hid (HB0.out.trans hb); clear ho hb hg)
      go_roundw
      case rel => exact .inr ⟨by go_num, gx, cx, rfl, HO, HB1⟩
      case measure => simp [intOf]
    · go_wp2_with fail
      go_ret
      exact ⟨(some ⟨gx, 0, none⟩, 1, cx), rfl, HK.out, HB.out⟩
set_option maxRecDepth 100000 in
set_option maxHeartbeats 4000000 in
theorem bsearch_any (A : Option Addr) (n c : Nat) (K : List Vl) (t : SV) (u : Vl) (w : World) (he : VEnv w) (hK : KRows w (.slice A n c) K) (h1 : 1 ≤ n) (h2 : n ≤ 100000) (hok : ∀ x ∈ K, x.ok ∧ x.sz) (ht : KR w t u) (hu : u.ok) (su : u.sz) :
    Calls Tryz.prog 38 #[.slice A n c, sv3 t, .func (.func 40) #[] #[]] w fun e w' => (∃ b, e = .returned (.tuple #[.int .i64 (placeP K u : Nat), .bool b])) ∧ Below w.heap.size w w' := by
  obtain ⟨hn, hget⟩ := hK.get
  obtain ⟨b, o, rfl, hbl, hrow⟩ := hget h1
  obtain ⟨t1, t2, t3⟩ := t
  have HC := Lib.hid (show ∀ i, i < n → ∃ (X : Option Addr) (l q : Nat), (∀ W, Below w.heap.size w W → W.cell? ⟨b, o + i, none⟩ = some (.slice X l q)) ∧ ∀ W, Below w.heap.size w W → Calls Tryz.prog 40 #[.slice X l q, .slice t1 t2 t3] W fun e w' => e = .returned (.int .i64 (ordV K[i]! u)) ∧ Below W.heap.size W w' from fun i hi => by
    obtain ⟨⟨X, l, q⟩, hx1, hx2⟩ := hrow i (by omega)
    have hm : K[i]! ∈ K := by rw [getElem!_pos K i (by omega)]; exact List.getElem_mem _
    exact ⟨X, l, q, fun W hW => (hW.cell (p := ⟨b, o + i, none⟩) hbl).trans hx1, fun W hW => keycmp_any (X, l, q) (t1, t2, t3) _ u W (he.below hW) (hx2.below hW) (ht.below hW) (hok _ hm).1 hu (hok _ hm).2 su⟩)
  obtain ⟨p, hp⟩ : ∃ p : Nat → Bool, p = fun h => decide (ordV K[h]! u < 0) := ⟨_, rfl⟩
  have HP := Lib.hid (show ∀ i, p i = decide (ordV K[i]! u < 0) from fun i => by rw [hp])
  obtain ⟨RT, hRT⟩ : ∃ RT, RT = placeP K u := ⟨_, rfl⟩
  have HRT := Lib.hid (show Sq.bs p 0 n = RT by rw [hRT, hp, ← hn]; rfl)
  have hB0 := Below.refl w.heap.size w
  have HB0 := Lib.hid hB0
  rw [← hRT]
  clear hK hget hrow hok ht hu su he hp hRT hn hB0
  show Calls Tryz.prog 38 #[.slice (some ⟨b, o, none⟩) n c, .slice t1 t2 t3, .func (.func 40) #[] #[]] w _
  go_enter Tryz.func38, Tryz.ntmps38
  go_wp2_with fail
  go_loopw [9, 10] (fun u9 u10 wr => ∃ lo hi : Nat, u9 = .int .i64 lo ∧ u10 = .int .i64 hi ∧ lo ≤ hi ∧ hi ≤ n ∧ Hid (Sq.bs p lo hi = RT) ∧ Hid (Below w.heap.size w wr)) (fun u9 u10 _ => (intOf u10).toNat - (intOf u9).toNat)
  case atStart => exact ⟨0, n, rfl, rfl, by omega, by omega, HRT, HB0⟩
  case round =>
    clear HRT HB0
    obtain ⟨lo, hi, rfl, rfl, h3, h4, HS, HB⟩ := hrel
    by_cases hlt : lo < hi
    · obtain ⟨X, l, q, hx1, hx2⟩ := HC.out ((lo + hi) / 2) (by omega)
      have c0 := hx1 wr HB.out
      have HX := Lib.hid hx2
      have hpp := HP.out ((lo + hi) / 2)
      obtain ⟨z, hz⟩ : ∃ z, z = ordV K[(lo + hi) / 2]! u := ⟨_, rfl⟩
      rw [← hz] at hpp HX
      have hbs := HS.out
      rw [Sq.bs, if_pos hlt, hpp] at hbs
      clear hx1 hx2 hz hpp
      by_cases hz : z < 0
      · rw [if_pos (by simp [hz])] at hbs
        have HS2 := Lib.hid hbs
        clear hbs
        go_wp2_with (go_at_call 40; (with_reducible refine (HX.out _ HB.out).mono ?_); rintro e w1 ⟨rfl, hb⟩; have HB1 := Lib.hid (below_tr HB.out hb); clear hb)
        go_roundw
        case rel => exact ⟨(lo + hi) / 2 + 1, hi, by rw [show ((lo : Int) + (hi : Int)) / 2 + 1 = (((lo + hi) / 2 + 1 : Nat) : Int) by omega], rfl, by omega, h4, HS2, HB1⟩
        case measure => simp [intOf]; omega
      · rw [if_neg (by simp [hz])] at hbs
        have HS2 := Lib.hid hbs
        clear hbs
        go_wp2_with (go_at_call 40; (with_reducible refine (HX.out _ HB.out).mono ?_); rintro e w1 ⟨rfl, hb⟩; have HB1 := Lib.hid (below_tr HB.out hb); clear hb)
        go_roundw
        case rel => exact ⟨lo, (lo + hi) / 2, rfl, by rw [show ((lo : Int) + (hi : Int)) / 2 = (((lo + hi) / 2 : Nat) : Int) by omega], by omega, by omega, HS2, HB1⟩
        case measure => simp [intOf]; omega
    · obtain rfl : lo = hi := by omega
      have hbs := HS.out
      rw [Sq.bs, if_neg (Nat.lt_irrefl _)] at hbs
      subst hbs
      by_cases hn : lo < n
      · obtain ⟨X, l, q, hx1, hx2⟩ := HC.out lo hn
        have c0 := hx1 wr HB.out
        have HX := Lib.hid hx2
        obtain ⟨z, hz⟩ : ∃ z, z = ordV K[lo]! u := ⟨_, rfl⟩
        rw [← hz] at HX
        clear hx1 hx2 hz
        go_wp2_with (go_at_call 40; (with_reducible refine (HX.out _ HB.out).mono ?_); rintro e w1 ⟨rfl, hb⟩; have HB1 := Lib.hid (below_tr HB.out hb); clear hb)
        go_ret2
        exact ⟨⟨_, rfl⟩, HB1.out⟩
      · go_wp2_with fail
        go_ret2
        exact ⟨⟨_, rfl⟩, HB.out⟩
end Go.Proofs.YtmapagbmihpbmaaGreatDoor

namespace Go.Proofs.YtmapagbmihpbmaaGreatDoor
open Go.RowKit

theorem zip_ex {α β : Type} {R : α → β → Prop} {l : List α} {m : List β} (h : All2 R l m) : ∃ p : List (α × β), p.map Prod.fst = l ∧ p.map Prod.snd = m ∧ ∀ x ∈ p, R x.1 x.2 := h.zip
theorem all2_map {α β γ : Type} {R : α → β → Prop} {f : γ → α} {k : γ → β} (l : List γ) (h : ∀ x ∈ l, R (f x) (k x)) : All2 R (l.map f) (l.map k) := All2.maps l h
set_option maxRecDepth 100000 in
set_option maxHeartbeats 8000000 in
theorem keys_any (v : Vl) (us : List Vl) (R col : Nat) (bc oc cc : Nat) (w : World) (he : VEnv w) (hs : Src w v us R) (h2 : col < 3) (hc : w.cell? ⟨bc, oc, none⟩ = some (.int .i64 (col : Int))) :
    Calls Tryz.prog 37 #[v.v, .slice (some ⟨bc, oc, none⟩) 1 cc] w fun e w' => ∃ (gx cx : Nat), e = .returned (.slice (some ⟨gx, 0, none⟩) (keysP (colL us col R)).length cx) ∧ KT w' (.slice (some ⟨gx, 0, none⟩) (keysP (colL us col R)).length cx) (keysP (colL us col R)) ∧ Below w.heap.size w w' := by
  have r1 := hs.r1
  have r2 := hs.r2
  have hrows := hs.rows
  have hmem := fun i (hi : i < R) => hs.ok _ (hs.mem (i := (i + 1) * 3 + col) (by omega))
  obtain ⟨K, hK⟩ : ∃ K, K = colL us col R := ⟨_, rfl⟩
  have hKl : K.length = R := by rw [hK, colL_len]
  have HKG := Lib.hid (show ∀ i, i < R → K.take (i + 1) = K.take i ++ [us[(i + 1) * 3 + col]!] from fun i hi => by
    have h9 : i < K.length := by omega
    rw [← List.take_append_getElem h9]
    congr 2
    subst hK
    simp [colL])
  have HKO := Lib.hid (show ∀ u ∈ K, u.ok ∧ u.sz from fun u hu => by
    rw [hK] at hu
    obtain ⟨i, hi, rfl⟩ := List.mem_map.1 hu
    exact hmem i (List.mem_range.1 hi))
  have bbc : bc < w.heap.size := World.block_lt_of_cell? _ _ hc
  have HKEY := Lib.hid (show ∀ i, i ≤ R → ∀ W, Below w.heap.size w W → Calls Tryz.prog 39 #[v.v, .int .i64 (i : Int), .slice (some ⟨bc, oc, none⟩) 1 cc] W fun e w' => ∃ x : SV, e = .returned (sv3 x) ∧ KO w' W.heap.size x us[i * 3 + col]! ∧ Below W.heap.size W w' from fun i hi W hW => key_any v us R i col bc oc cc W (hs.below hW) hi h2 ((hW.cell (p := ⟨bc, oc, none⟩) bbc).trans hc))
  have HE := Lib.hid he
  rw [← hK]
  clear hmem hs hc he hK
  obtain ⟨k, num, den, text, on, code, rows, cols, A, n, c⟩ := v
  dsimp only at hrows
  subst hrows
  have HKEY := Lib.hid (show ∀ i, i ≤ R → ∀ W, Below w.heap.size w W → Calls Tryz.prog 39 #[.agg #[.int .i64 k, .string num, .string den, .string text, .bool on, .int .i64 code, .int .i64 ((R : Int) + 1), .int .i64 cols, .slice A n c], .int .i64 (i : Int), .slice (some ⟨bc, oc, none⟩) 1 cc] W fun e w' => ∃ x1 x2 x3, e = .returned (.slice x1 x2 x3) ∧ KO w' W.heap.size (x1, x2, x3) us[i * 3 + col]! ∧ Below W.heap.size W w' from fun i hi W hW => (HKEY.out i hi W hW).mono fun e w' ⟨⟨x1, x2, x3⟩, h1, h2, h3⟩ => ⟨x1, x2, x3, h1, h2, h3⟩)
  have HL0 := Lib.hid ((Loc.start w).alloc' rfl 27 #[.int .i64 k, .string num, .string den, .string text, .bool on, .int .i64 code, .int .i64 ((R : Int) + 1), .int .i64 cols, .slice A n c])
  show Calls Tryz.prog 37 #[.agg #[.int .i64 k, .string num, .string den, .string text, .bool on, .int .i64 code, .int .i64 ((R : Int) + 1), .int .i64 cols, .slice A n c], .slice (some ⟨bc, oc, none⟩) 1 cc] w _
  go_enter Tryz.func37, Tryz.ntmps37
  go_wp2_with fail
  go_loopw [5, 6] (fun u5 u6 wr => ∃ (i : Nat) (H : List SV), i ≤ R ∧ u6 = .int .i64 ((i : Int) + 1) ∧ Hid (RowOf 25 1 (fun x => [sv3 x]) wr (w.heap.size + 1) u5 H) ∧ Hid (All2 (KO wr (w.heap.size + 1)) H (K.take i)) ∧ Hid (Loc w [(w.heap.size, 27, #[.int .i64 k, .string num, .string den, .string text, .bool on, .int .i64 code, .int .i64 ((R : Int) + 1), .int .i64 cols, .slice A n c])] wr)) (fun _ u _ => R + 1 - (intOf u).toNat)
  case atStart => exact ⟨0, [], by omega, rfl, Lib.hid (RowOf.nil _ _), Lib.hid All2.nil, HL0⟩
  case round =>
    clear HL0
    obtain ⟨i, H, hi, rfl, HO, HA, HL⟩ := hrel
    have bz := HL.out.blk (g := w.heap.size) (t := 27) (List.mem_singleton.2 rfl)
    have HBZ := Lib.hid bz
    obtain ⟨z0, z1, z2, z3, z4, z5, z6, z7, z8⟩ := bz.nine
    clear bz
    have hH : H.length = i := by rw [HA.out.len, List.length_take]; omega
    by_cases hlt : i < R
    · have hlz : (i : Int) + 1 < (R : Int) + 1 := by omega
      have HK1 := Lib.hid (HKEY.out (i + 1) (by omega) wr HL.out.bel)
      rw [show ((i + 1 : Nat) : Int) = (i : Int) + 1 by omega] at HK1
      have HSZ := Lib.hid (show w.heap.size + 1 ≤ wr.heap.size from HL.out.lt (g := w.heap.size) (t := 27) (List.mem_singleton.2 rfl))
      go_wp2_with (first
        | (go_at_call 39; (with_reducible refine HK1.out.mono ?_); rintro e w1 ⟨x1, x2, x3, rfl, hk, hb⟩; have HKN := Lib.hid (RowOf.mono hk HSZ.out); have HB1 := Lib.hid hb; have HO1 := Lib.hid (RowOf.later HO.out hb); have HA1 := Lib.hid (HA.out.imp fun x _ y h => RowOf.later h hb); have HL1 := Lib.hid (HL.out.step hb); have HSZ1 := Lib.hid (Nat.le_trans HSZ.out hb.size); clear hk hb)
        | (at_builtin; go_loud (refine wp_row1 31 25 1 24 (fun x => [sv3 x]) _ Tryz.underlying31 sv_info rfl (by decide) sv_one rfl _ _ rfl (w.heap.size + 1) _ H rfl HO1.out (x1, x2, x3) _ ?_ rfl (by omega) (by unfold maxLen; omega) HSZ1.out ?_); (rfl); intro v3 w3 ho hb hg; have HO2 := Lib.hid ho; have HL2 := Lib.hid (HL1.out.stepB' hb (by omega) (fun x hx => by rw [List.mem_singleton.1 hx]; exact Nat.lt_succ_self _)); have HA2 := Lib.hid ((HA1.out.app HKN.out).imp fun x _ y h => RowOf.kept2 (RowOf.alloc h _) (RowOf.alloc HO1.out _) (by decide) (Chg.grownK hg)); clear ho hb hg))
      go_roundw
      case rel => exact ⟨i + 1, H ++ [(x1, x2, x3)], by omega, by go_num, HO2, Lib.hid (by rw [HKG.out i hlt]; exact HA2.out), HL2⟩
      case measure => simp [intOf]; omega
    · have hlz : ¬ (i : Int) + 1 < (R : Int) + 1 := by omega
      obtain rfl : i = R := by omega
      obtain ⟨g, cp, hu, hg1, hg2⟩ := HO.out.form (by omega)
      rw [hH] at hu
      subst hu
      have hKK := HA.out
      rw [List.take_of_length_le (by omega)] at hKK
      obtain ⟨P, hP1, hP2, hP3⟩ := hKK.zip
      have hPl : P.length = i := by rw [← hH, ← hP1, List.length_map]
      have hrs : RS wr (w.heap.size + 1) g cp (P.map Prod.fst) := by
        unfold RS
        rw [hP1, hH]
        exact HO.out
      have HRS := Lib.hid hrs
      have HP := Lib.hid hP3
      have hpok : ∀ x ∈ P, x.2.ok ∧ x.2.sz := fun x hx => HKO.out _ (by rw [← hP2]; exact List.mem_map.2 ⟨x, hx, rfl⟩)
      have HB := Lib.hid HL.out.bel
      have HKW := Lib.hid (show ∀ W, Chg wr.heap.size [g] wr W → ∀ x ∈ P, KO W (w.heap.size + 1) x.1 x.2 from fun W hW x hx => (RowOf.kept2 (HP.out x hx) (show RowOf 25 1 (fun x => [sv3 x]) wr (w.heap.size + 1) (.slice (some ⟨g, 0, none⟩) _ cp) _ from HRS.out) (by decide) hW))
      have HBW := Lib.hid (show ∀ W, Chg wr.heap.size [g] wr W → Below w.heap.size w W from fun W hW => HB.out.trans (hW.below HB.out.size (fun x hx => by rw [List.mem_singleton.1 hx]; omega)))
      have HCI := Lib.hid (show ∀ w0, Chg wr.heap.size [g] wr w0 → ∀ Q : Array PK, (∀ x ∈ Q.toList, x ∈ P) → CmpIn w0 g Q ordV from fun w0 h0 Q hQ W hW p q hp hq => by
        have hW2 := h0.next hW
        have p1 := hQ p hp
        have q1 := hQ q hq
        exact keycmp_any p.1 q.1 p.2 q.2 W (HE.out.below (HBW.out W hW2)) (RowOf.kr (HKW.out W hW2 p p1)) (RowOf.kr (HKW.out W hW2 q q1)) (hpok p p1).1 (hpok q q1).1 (hpok p p1).2 (hpok q q1).2)
      have HS := Lib.hid (sortst_any ordV P.toArray g cp (w.heap.size + 1) i wr (by simpa using hPl) (by omega) (by simpa using hrs) (HCI.out wr (Chg.refl _ _ _) P.toArray (fun x hx => by simpa using hx)))
      obtain ⟨S, hS⟩ : ∃ S, S = (Sq.ins (fun p q : PK => ordV p.2 q.2) P.toArray 0 i).toList := ⟨_, rfl⟩
      have hSl : S.length = i := by rw [hS, Array.length_toList, Sq.ins_len]; simpa using hPl
      have HSM := Lib.hid (show ∀ x ∈ S, x ∈ P from fun x hx => by
        rw [hS] at hx
        have := (Sq.ins_perm (fun p q : PK => ordV p.2 q.2) P.toArray 0 i).mem_iff (a := x)
        simpa using this.1 (by simpa using hx))
      have hC2 : (Pv.cmpct (fun p q : PK => ordV p.2 q.2) S).map Prod.snd = keysP K := by
        rw [hS, ← hP2]
        exact sort_keys P i hPl
      rw [← hS] at HS
      obtain ⟨C, hC⟩ : ∃ C, C = Pv.cmpct (fun p q : PK => ordV p.2 q.2) S := ⟨_, rfl⟩
      have HCM := Lib.hid (show ∀ x ∈ C, x ∈ P from fun x hx => HSM.out x (cmpct_mem _ S x (by rw [← hC]; exact hx)))
      have HCS := Lib.hid (show ∀ w0, Chg wr.heap.size [g] wr w0 → RS w0 (w.heap.size + 1) g cp (S.map Prod.fst) → Calls Tryz.prog 67 #[.slice (some ⟨g, 0, none⟩) i cp, .func (.func 68) #[] #[]] w0 fun e w' => e = .returned (.slice (some ⟨g, 0, none⟩) C.length cp) ∧ Reads 1 (fun x => [sv3 x]) w' (.slice (some ⟨g, 0, none⟩) C.length cp) (C.map Prod.fst) ∧ Chg w0.heap.size [g] w0 w' ∧ ∃ cs, Blk w' g 25 cs from fun w0 h0 hr => by
        rw [hC]
        exact compact_any ordV S g cp (w.heap.size + 1) i w0 hSl (by omega) (by omega) hr (by
          have := EqIn.of (HCI.out w0 h0 S.toArray (fun x hx => HSM.out x (by simpa using hx)))
          simpa using this))
      rw [← hC] at hC2
      have hCl : C.length = (keysP K).length := by rw [← hC2, List.length_map]
      have HC2 := Lib.hid hC2
      clear hKK hP1 hP2 hP3 hrs hS hC hC2 hpok HO HA hg1 hg2 hH
      have HCL := Lib.hid hCl
      clear hCl
      go_wp2_with (first
        | (go_at_call 66; (with_reducible refine HS.out.mono ?_); rintro e w1 ⟨rfl, h8, h9⟩; have H8 := Lib.hid h8; have H9 := Lib.hid h9; clear h8 h9)
        | (go_at_call 67; (with_reducible refine (HCS.out _ H9.out H8.out).mono ?_); rintro e w2 ⟨rfl, h6, h7, h8⟩; have H6 := Lib.hid h6; have HB6 := Lib.hid h8; have H7 := Lib.hid (H9.out.next h7); clear h6 h7 h8))
      go_ret
      exact ⟨g, cp, by rw [← HCL.out]; rfl, ⟨g, cp, C.map Prod.fst, by rw [← HCL.out, List.length_map], HB6.out, by rw [← HCL.out]; exact H6.out, by rw [← HC2.out]; exact All2.maps C fun x hx => ⟨_, HKW.out _ H7.out x (HCM.out x hx)⟩⟩, HBW.out _ H7.out⟩
end Go.Proofs.YtmapagbmihpbmaaGreatDoor
