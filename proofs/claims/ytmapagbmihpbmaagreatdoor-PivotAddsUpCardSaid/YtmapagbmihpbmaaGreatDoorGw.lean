/- Words for memory: rows of the call's own whose elements are numbers of one cell. -/
import Derived.Test.YtmapagbmihpbmaaGreatDoorGc
import Derived.Test.YtmapagbmihpbmaaGreatDoorGn
import Derived.WalkKit
import Derived.Lib.Builder
import Derived.Deep.Draws
import Derived.Maps.AppendAt
import Derived.Deep.AppendLies
import Derived.OwnWalk
import Derived.Laws.OwnMore
import Derived.Laws.AppendOwnNone
import Derived.Lib.AppendZerosOnto
import Derived.Lib.SliceRun
import Derived.Outline
import Derived.Lib.Hide
import Derived.StillTailTactics
import Derived.Deep.QuietTactic
import Derived.IntWalk
import Derived.Deep.RegionHeld3
namespace Go.Proofs.YtmapagbmihpbmaaGreatDoor
open Go.RowKit

/-- The value owns a row of numbers of a kind. -/
def R1 (E : TypeId) (K : IntKind) (w : World) (base : Nat) (v : Value) (l : List Nat) : Prop := w.ownsRow base E 1 v l.length (l.map fun (x : Nat) => Value.int K (x : Int))
theorem num_get {K : IntKind} {l : List Nat} {i : Nat} (h : i < l.length) : (l.map fun (x : Nat) => Value.int K (x : Int))[i]? = some (.int K (l[i] : Int)) := by simp [h]
section
variable {E : TypeId} {K : IntKind} {w w' : World} {v : Value} {l : List Nat} {base B : Nat} {G : List Nat}
theorem R1.nil (w : World) (base : Nat) : R1 E K w base (.slice none 0 0) [] := World.ownsRow_nil _ _ _ _
theorem R1.form (h : R1 E K w base v l) (hl : 0 < l.length) : ∃ g c, v = .slice (some ⟨g, 0, none⟩) l.length c ∧ base ≤ g ∧ g < w.heap.size := World.ownsRow.form h hl
theorem R1.shape (h : R1 E K w base v l) : ∃ A c, v = .slice A l.length c := by
  rcases h.2 with ⟨rfl, h0⟩ | ⟨g, cap, cur, rfl, _, _, hc, _⟩
  · exact ⟨none, 0, by rw [h0]⟩
  · exact ⟨_, cap, rfl⟩
theorem R1.lt (h : R1 E K w base v l) : ∀ k, v.ownBlock = some k → base ≤ k ∧ k < w.heap.size := World.ownsRow.lt h
theorem R1.cell {g c n : Nat} (h : R1 E K w base (.slice (some ⟨g, 0, none⟩) n c) l) (hn : l.length = n) {i : Nat} (hi : i < l.length) : w.cell? ⟨g, i, none⟩ = some (.int K (l[i] : Int)) := by
  subst hn
  have := World.ownsRow.cellAt h i (by omega)
  rw [this, num_get hi]
theorem R1.frozen {g c n : Nat} (h : R1 E K w base (.slice (some ⟨g, 0, none⟩) n c) l) (hn : l.length = n) (i : Nat) : w.frozen? ⟨g, i, none⟩ = false := by
  subst hn
  exact World.ownsRow.frozenAt h i
theorem R1.set {g c n : Nat} (h : R1 E K w base (.slice (some ⟨g, 0, none⟩) n c) l) (hn : l.length = n) (i : Nat) {y : Int} (d : Nat) (hy : y = (d : Int)) : R1 E K (w.setCell ⟨g, i, none⟩ (.int K y)) base (.slice (some ⟨g, 0, none⟩) n c) (l.set i d) := by
  subst hn hy
  have := (World.ownsRow.stored h i (.int K (d : Int))).1
  unfold R1
  rw [List.length_set, List.map_set]
  exact this
theorem R1.alloc (h : R1 E K w base v l) (o : Obj) : R1 E K (w.alloc o) base v l := World.ownsRow.alloc h o
theorem R1.drew (h : R1 E K w base v l) : R1 E K w.drew base v l := h
theorem R1.drewN (h : R1 E K w base v l) (n : Nat) : R1 E K (w.drewN n) base v l := h
theorem R1.chg (h : R1 E K w base v l) (hc : Chg B G w w') (hv : ∀ g, v.ownBlock = some g → g < B ∧ g ∉ G) : R1 E K w' base v l := by
  refine ⟨h.1, ?_⟩
  rcases h.2 with h0 | ⟨g, cap, cur, rfl, h1, h2, h3, h4, h5, h6⟩
  · exact .inl h0
  · exact .inr ⟨g, cap, cur, rfl, h1, (hc.block g (hv g rfl).1 (hv g rfl).2).trans h2, h3, h4, h5, h6⟩
theorem R1.later (h : R1 E K w base v l) (hb : Below w.heap.size w w') : R1 E K w' base v l := h.chg (Chg.of hb []) fun g hg => ⟨(h.lt g hg).2, by simp⟩
theorem R1.far (h : R1 E K w base v l) {p : Addr} (hp : ∀ g, v.ownBlock = some g → g ≠ p.block) (u : Value) : R1 E K (w.setCell p u) base v l := by
  refine World.ownsRow.kept h (row := some p.block) ⟨rfl, rfl, rfl, by simp [World.setCell], fun k _ hk => Below.heap_setCell _ _ _ _ (fun e => hk (by rw [e]))⟩ ?_
  cases hv : v.ownBlock with
  | none => exact .inl rfl
  | some g => exact .inr (fun e => hp g hv (by injection e))
theorem R1.mono {base' : Nat} (h : R1 E K w base v l) (hb : base' ≤ base) : R1 E K w base' v l := by
  refine ⟨h.1, ?_⟩
  rcases h.2 with h0 | ⟨g, cap, cur, rfl, h1, h2⟩
  · exact .inl h0
  · exact .inr ⟨g, cap, cur, rfl, Nat.le_trans hb h1, h2⟩
end
section
variable {ops : Array Oper} {rest : List Oper} {o : Oper} {a : Act} {Q : Exit → Act → World → Prop}
theorem int_info : (Tryz.prog.info? 3).map (fun i => (i.zero, i.size, i.bytes)) = some (some (.int .i64 0), 1, 8) := by kernel_rfl
theorem u8_info : (Tryz.prog.info? 5).map (fun i => (i.zero, i.size, i.bytes)) = some (some (.int .u8 0), 1, 1) := by kernel_rfl
/-- make of a row of zeros. -/
theorem wp_makeI {w : World} (hgd : o.guard = none) (x y : Operand) (ho : o.op = Op.makeSlice 22 x y) (base : Nat) (C D : Int) (n : Nat) (hx : a.eval x = .int .i64 C) (hy : a.eval y = .int .i64 D) (hC : C = (n : Int)) (hD : D = (n : Int))
    (hn : n ≤ 1099511627776) (hbase : base ≤ w.heap.size)
    (h : ∀ w', R1 3 .i64 w' base (.slice (some ⟨w.heap.size, 0, none⟩) n n) (List.replicate n 0) → Below w.heap.size w w' → w.heap.size < w'.heap.size → wpList Tryz.prog ops Q rest (a.put o.dst (.slice (some ⟨w.heap.size, 0, none⟩) n n)) w') :
    wpList Tryz.prog ops Q (o :: rest) a w := by
  obtain ⟨i0, hi, hz0, hz1, hz2⟩ := info_parts int_info
  refine wpList_make_full w hgd x y 22 ho base 3 i0 (.int .i64 0) 1 Tryz.underlying22 hi hz0 hz1 .i64 .i64 C D n hx hy hC hD (by rw [hz2]; omega) (by unfold maxLen; omega) hbase ?_
  intro w' h1 h2
  refine h w' ?_ ⟨h2.os, h2.tape, h2.output, h2.size, fun k hk => h2.block k hk (by simp)⟩ ((World.ownsRow.lt h1 w.heap.size rfl).2)
  unfold R1
  rw [List.map_replicate, List.length_replicate]
  have e : (madeCells (Value.int IntKind.i64 0).cells (n * 1)).toList = List.replicate n (Value.int .i64 0) := by
    rw [Nat.mul_one]
    exact toList_madeCells_one _ _
  rw [show ((0 : Nat) : Int) = 0 from rfl, ← e]
  exact h1
/-- append of one number. -/
theorem wp_appI {w : World} (hgd : o.guard = none) (s x : Operand) (ho : o.op = .call { callee := .builtin .append, args := #[s, x], argTypes := #[22, 22] })
    (base : Nat) (v : Value) (l : List Nat) (hs : a.eval s = v) (hown : R1 3 .i64 w base v l) (y : Int) (d : Nat) (hy : y = (d : Int)) (hx : a.eval x = .slice (some ⟨w.heap.size, 0, none⟩) 1 1)
    (hlen : l.length + 1 ≤ 1099511627776) (hbase : base ≤ w.heap.size)
    (h : ∀ v' w', R1 3 .i64 w' base v' (l ++ [d]) → Below base w w' → (w.alloc (.cells #[.int .i64 y] 3)).grownBy w' v.ownBlock → wpList Tryz.prog ops Q rest (a.put o.dst v') w') :
    wpList Tryz.prog ops Q (o :: rest) a (w.alloc (.cells #[.int .i64 y] 3)) := by
  subst hy
  obtain ⟨i0, hi, hz0, hz1, hz2⟩ := info_parts int_info
  have hown' := hown.alloc (.cells #[.int .i64 (d : Int)] 3)
  refine wpList_append_own_at _ hgd s x 22 ho base 3 i0 (.int .i64 0) 1 8 Tryz.underlying22 hi hz0 hz1 hz2 rfl (by decide) v l.length _ hs hown' ⟨w.heap.size, 0, none⟩ 1 1 [.int .i64 (d : Int)] hx rfl (cell_one_new _ _ _) (by simp [Value.oneCell']) (by unfold maxLen; omega) (by omega) (by simp; omega) ?_
  intro v' w' h1 h2 _ _
  refine h v' w' ?_ ?_ h2
  · unfold R1
    rw [List.map_append, List.length_append]
    exact h1
  · exact ((Below.refl _ _).alloc hbase _).grown h2 (by simp; omega) (fun k hk => ((World.ownsRow.lt hown) k hk).1)
theorem wp_appB {w : World} (hgd : o.guard = none) (s x : Operand) (ho : o.op = .call { callee := .builtin .append, args := #[s, x], argTypes := #[72, 72] })
    (base : Nat) (v : Value) (l : List Nat) (hs : a.eval s = v) (hown : R1 5 .u8 w base v l) (y : Int) (d : Nat) (hy : y = (d : Int)) (hx : a.eval x = .slice (some ⟨w.heap.size, 0, none⟩) 1 1)
    (hlen : l.length + 1 ≤ 1099511627776) (hbase : base ≤ w.heap.size)
    (h : ∀ v' w', R1 5 .u8 w' base v' (l ++ [d]) → Below base w w' → (w.alloc (.cells #[.int .u8 y] 5)).grownBy w' v.ownBlock → wpList Tryz.prog ops Q rest (a.put o.dst v') w') :
    wpList Tryz.prog ops Q (o :: rest) a (w.alloc (.cells #[.int .u8 y] 5)) := by
  subst hy
  obtain ⟨i0, hi, hz0, hz1, hz2⟩ := info_parts u8_info
  have hown' := hown.alloc (.cells #[.int .u8 (d : Int)] 5)
  refine wpList_append_own_at _ hgd s x 72 ho base 5 i0 (.int .u8 0) 1 1 Tryz.underlying72 hi hz0 hz1 hz2 rfl (by decide) v l.length _ hs hown' ⟨w.heap.size, 0, none⟩ 1 1 [.int .u8 (d : Int)] hx rfl (cell_one_new _ _ _) (by simp [Value.oneCell']) (by unfold maxLen; omega) (by omega) (by simp; omega) ?_
  intro v' w' h1 h2 _ _
  refine h v' w' ?_ ?_ h2
  · unfold R1
    rw [List.map_append, List.length_append]
    exact h1
  · exact ((Below.refl _ _).alloc hbase _).grown h2 (by simp; omega) (fun k hk => ((World.ownsRow.lt hown) k hk).1)
end

/-- A row of n numbers, as a function's values. -/
def RF (N : Nat) (W : World) (base g : Nat) (f : Nat → Nat) : Prop := ∃ c, R1 3 .i64 W base (.slice (some ⟨g, 0, none⟩) N c) ((List.range N).map f)
theorem map_range_set (f : Nat → Nat) (n i v : Nat) : ((List.range n).map f).set i v = (List.range n).map fun x => if x = i then v else f x := by
  apply List.ext_getElem
  · simp
  · intro j h1 h2
    rw [List.getElem_set]
    simp only [List.getElem_map, List.getElem_range]
    by_cases h : i = j
    · rw [if_pos h, if_pos h.symm]
    · rw [if_neg h, if_neg (fun e => h e.symm)]
theorem rlen (f : Nat → Nat) (n : Nat) : ((List.range n).map f).length = n := by simp
section
variable {N : Nat} {W W' : World} {base g B : Nat} {f f' : Nat → Nat} {G : List Nat}
theorem RF.cell (h : RF N W base g f) {i : Nat} (hi : i < N) : W.cell? ⟨g, i, none⟩ = some (.int .i64 (f i : Int)) := by
  obtain ⟨c, h⟩ := h
  have := h.cell (rlen f N) (i := i) (by rw [rlen]; exact hi)
  rw [this]
  congr 2
  simp
theorem RF.frozen (h : RF N W base g f) (i : Nat) : W.frozen? ⟨g, i, none⟩ = false := by
  obtain ⟨c, h⟩ := h
  exact h.frozen (rlen f N) i
theorem RF.set (h : RF N W base g f) (i v : Nat) : RF N (W.setCell ⟨g, i, none⟩ (.int .i64 (v : Int))) base g fun x => if x = i then v else f x := by
  obtain ⟨c, h⟩ := h
  have := h.set (rlen f N) i v rfl
  rw [map_range_set] at this
  exact ⟨c, this⟩
theorem RF.congr (h : RF N W base g f) (hf : ∀ x, x < N → f x = f' x) : RF N W base g f' := by
  obtain ⟨c, h⟩ := h
  have e : (List.range N).map f = (List.range N).map f' := List.map_congr_left fun x hx => hf x (List.mem_range.1 hx)
  rw [e] at h
  exact ⟨c, h⟩
theorem RF.lt (h : RF N W base g f) : base ≤ g ∧ g < W.heap.size := by
  obtain ⟨c, h⟩ := h
  exact h.lt g rfl
theorem RF.chg (h : RF N W base g f) (hc : Chg B G W W') (hB : g < B) (hG : g ∉ G) : RF N W' base g f := by
  obtain ⟨c, h⟩ := h
  exact ⟨c, h.chg hc fun k hk => by injection hk with hk; subst hk; exact ⟨hB, hG⟩⟩
theorem RF.later (h : RF N W base g f) (hb : Below W.heap.size W W') : RF N W' base g f := h.chg (Chg.of hb []) h.lt.2 (by simp)
theorem RF.far (h : RF N W base g f) {p : Addr} (hp : g ≠ p.block) (u : Value) : RF N (W.setCell p u) base g f := by
  obtain ⟨c, h⟩ := h
  exact ⟨c, h.far (fun k hk => by injection hk with hk; subst hk; exact hp) u⟩
theorem RF.alloc (h : RF N W base g f) (o : Obj) : RF N (W.alloc o) base g f := by
  obtain ⟨c, h⟩ := h
  exact ⟨c, h.alloc o⟩
theorem RF.drew (h : RF N W base g f) : RF N W.drew base g f := h
theorem RF.drewN (h : RF N W base g f) (n : Nat) : RF N (W.drewN n) base g f := h
theorem RF.mono {base' : Nat} (h : RF N W base g f) (hb : base' ≤ base) : RF N W base' g f := by
  obtain ⟨c, h⟩ := h
  exact ⟨c, h.mono hb⟩
theorem RF.zero {c : Nat} (h : R1 3 .i64 W base (.slice (some ⟨g, 0, none⟩) N c) (List.replicate N 0)) : RF N W base g fun _ => 0 := by
  refine ⟨c, ?_⟩
  have : (List.range N).map (fun _ : Nat => (0 : Nat)) = List.replicate N 0 := by apply List.ext_getElem <;> simp
  rw [this]
  exact h
end
end Go.Proofs.YtmapagbmihpbmaaGreatDoor

namespace Go.Proofs.YtmapagbmihpbmaaGreatDoor
open Go.RowKit

set_option maxRecDepth 100000 in
set_option maxHeartbeats 2000000 in
theorem grow_any (n : Nat) (w : World) (h0 : 0 < n) (hn : n ≤ 1000000) :
    Calls Tryz.prog 64 #[.slice none 0 0, .int .i64 n] w fun e w' => ∃ c, e = .returned (.slice (some ⟨w.heap.size, 0, none⟩) 0 c) ∧ R1 3 .i64 w' w.heap.size (.slice (some ⟨w.heap.size, 0, none⟩) 0 c) [] ∧ Below w.heap.size w w' := by
  obtain ⟨i0, hi, hz0, hz1, hz2⟩ := info_parts int_info
  have h1 : ¬ ((n : Int) < 0) := by omega
  have h4 : (n : Int) > 0 := by omega
  have hold : (Builtin.firstCells i0.size 0 (.slice none 0 0)).run Tryz.prog w.drew = .ok #[] w.drew := run_firstCells_none w.drew i0.size 0 0 0
  have hrz : ∀ ty, (Builtin.append_ #[22, 3] ty #[.slice none 0 0, .int .i64 (n : Int)]).run Tryz.prog w = .ok (.slice (some ⟨w.heap.size, 0, none⟩) n (grownCap w n 0 3)) (w.drew.alloc (.cells (#[] ++ Builtin.zeroCells (Value.int .i64 0).cells n ++ Builtin.zeroCells (Value.int .i64 0).cells (grownCap w n 0 3 - n)) 3)) := fun ty => by
    have h := Lib.run_append_grow_zeros w 22 3 ty 3 i0 (.int .i64 0) .i64 .i64 Tryz.underlying22 Tryz.underlying3 hi hz0 none 0 0 [] hold n h0 (by omega) (by omega) (by omega) (by rw [hz2]; omega)
      (by rw [Nat.zero_add]; exact growslice_fits h0 (by rw [hz2]; omega))
    rw [Nat.zero_add] at h
    exact h
  have hGn : n ≤ grownCap w n 0 3 := grownCap_ge w _ _ _
  obtain ⟨G, hG⟩ : ∃ G, G = grownCap w n 0 3 := ⟨_, rfl⟩
  rw [← hG] at hrz hGn
  have hGm : G ≤ maxLen := by rw [hG]; exact grownCap_le_maxLen w n 0 3 (by unfold maxLen; omega)
  have hG63 : G ≤ 9223372036854775807 := by unfold maxLen at hGm; omega
  have HG := Lib.hid hGm
  clear hG hold hi hz0 hz1 hz2 hGm
  go_enter Tryz.func64, Tryz.ntmps64
  go_wp2_with (at_builtin; refine Lib.wpList_append_run _ rfl _ _ _ _ rfl _ _ rfl rfl _ _ (hrz _) ?_)
  go_ret
  refine ⟨G, rfl, ⟨rfl, .inr ⟨w.heap.size, G, _, rfl, Nat.le_refl _, heap_alloc_new _ _, Nat.zero_le _, HG.out, ?_, rfl⟩⟩, (Below.refl _ _).drew.alloc (Nat.le_refl _) _⟩
  simp only [Array.size_append, size_zeroCells]
  simp
  omega
theorem R1.shp {E : TypeId} {K : IntKind} {w : World} {base : Nat} {v : Value} {l : List Nat} (h : R1 E K w base v l) : ∃ A n c, v = .slice A n c := by
  obtain ⟨A, c, e⟩ := h.shape
  exact ⟨A, _, c, e⟩
theorem R1.nums {E : TypeId} {K : IntKind} {w : World} {base g c n : Nat} {l : List Nat} (h : R1 E K w base (.slice (some ⟨g, 0, none⟩) n c) l) (hn : l.length = n) : ∀ j u, (l.map fun (x : Nat) => Value.int K (x : Int))[j]? = some u → w.cell? ((⟨g, 0, none⟩ : Addr).add j) = some u := by
  intro j u hj
  have hlt : j < l.length := by
    have := (List.getElem?_eq_some_iff.1 hj).1
    simpa using this
  rw [Addr.add_lit, Nat.zero_add, h.cell hn hlt, ← hj]
  simp [hlt]
section
variable {ops : Array Oper} {rest : List Oper} {o : Oper} {a : Act} {Q : Exit → Act → World → Prop}
set_option maxRecDepth 100000 in
/-- append of a row of numbers. -/
theorem wp_appL {w : World} (hgd : o.guard = none) (s x : Operand) (ho : o.op = .call { callee := .builtin .append, args := #[s, x], argTypes := #[22, 22] })
    (base : Nat) (v : Value) (l : List Nat) (hs : a.eval s = v) (hown : R1 3 .i64 w base v l) (g n c base2 : Nat) (l2 : List Nat) (hx : a.eval x = .slice (some ⟨g, 0, none⟩) n c) (h2 : R1 3 .i64 w base2 (.slice (some ⟨g, 0, none⟩) n c) l2)
    (hlen : l.length + l2.length ≤ 1099511627776) (hbase : base ≤ w.heap.size)
    (h : ∀ v' w', R1 3 .i64 w' base v' (l ++ l2) → Below base w w' → w.grownBy w' v.ownBlock → wpList Tryz.prog ops Q rest (a.put o.dst v') w') :
    wpList Tryz.prog ops Q (o :: rest) a w := by
  obtain ⟨i0, hi, hz0, hz1, hz2⟩ := info_parts int_info
  have hn : l2.length = n := by
    obtain ⟨A, c', e⟩ := h2.shape
    injection e with _ e _
    exact e.symm
  refine wpList_append_own_at _ hgd s x 22 ho base 3 i0 (.int .i64 0) 1 8 Tryz.underlying22 hi hz0 hz1 hz2 rfl (by decide) v l.length _ hs hown ⟨g, 0, none⟩ n c (l2.map fun (x : Nat) => Value.int .i64 (x : Int)) hx (by simp [hn]) (h2.nums hn) (fun u hu => by obtain ⟨x, -, rfl⟩ := List.mem_map.1 hu; rfl) (by unfold maxLen; omega) (by omega) (by omega) ?_
  intro v' w' h1 h3 _ _
  refine h v' w' ?_ ((Below.refl _ _).grown h3 hbase (fun k hk => ((World.ownsRow.lt hown) k hk).1)) h3
  unfold R1
  rw [List.map_append, List.length_append, hn]
  exact h1
end
set_option maxRecDepth 100000 in
set_option maxHeartbeats 4000000 in
theorem concat_any (gp g1 c1 b1 n1 g2 c2 b2 n2 : Nat) (l1 l2 : List Nat) (w : World) (hp0 : w.cell? ⟨gp, 0, none⟩ = some (.slice (some ⟨g1, 0, none⟩) n1 c1)) (hp1 : w.cell? ⟨gp, 1, none⟩ = some (.slice (some ⟨g2, 0, none⟩) n2 c2))
    (h1 : R1 3 .i64 w b1 (.slice (some ⟨g1, 0, none⟩) n1 c1) l1) (h2 : R1 3 .i64 w b2 (.slice (some ⟨g2, 0, none⟩) n2 c2) l2) (e1 : l1.length = n1) (e2 : l2.length = n2) (hn : 0 < n1) (hb1 : n1 ≤ 100000) (hb2 : n2 ≤ 100000) :
    Calls Tryz.prog 35 #[.slice (some ⟨gp, 0, none⟩) 2 2] w fun e w' => ∃ g c, e = .returned (.slice (some ⟨g, 0, none⟩) (n1 + n2) c) ∧ R1 3 .i64 w' w.heap.size (.slice (some ⟨g, 0, none⟩) (n1 + n2) c) (l1 ++ l2) ∧ Below w.heap.size w w' := by
  have H1 := Lib.hid h1
  have H2 := Lib.hid h2
  have E1 := Lib.hid e1
  have E2 := Lib.hid e2
  have hgp : gp < w.heap.size := World.block_lt_of_cell? _ _ hp0
  obtain ⟨N, hN⟩ : ∃ N, N = n1 + n2 := ⟨_, rfl⟩
  have HN := Lib.hid hN
  have eN : (n1 : Int) + (n2 : Int) = (N : Int) := by omega
  have bN : N ≤ 200000 := by omega
  have bN0 : 0 < N := by omega
  have HG := Lib.hid (grow_any N w bN0 (by omega))
  clear h1 h2 e1 e2 hN
  go_enter Tryz.func35, Tryz.ntmps35
  go_wp2_with fail
  go_loopw [3, 11] (fun u3 u11 wr => ∃ j : Nat, u11 = .int .i64 j ∧ Hid (w = wr) ∧ (j = 0 ∧ u3 = .int .i64 0 ∨ j = 1 ∧ u3 = .int .i64 n1 ∨ j = 2 ∧ u3 = .int .i64 N)) (fun _ u _ => 2 - (intOf u).toNat)
  case atStart => exact ⟨0, rfl, Lib.hid rfl, .inl ⟨rfl, rfl⟩⟩
  case round =>
    obtain ⟨j, rfl, hw, hj⟩ := hrel
    obtain rfl := hw.out
    rcases hj with ⟨rfl, rfl⟩ | ⟨rfl, rfl⟩ | ⟨rfl, rfl⟩
    · go_wp2_with fail
      go_roundw
      case rel => exact ⟨1, rfl, Lib.hid trivial, by simp⟩
      case measure => simp [intOf]
    · go_wp2_with fail
      go_roundw
      case rel => exact ⟨2, rfl, Lib.hid trivial, by simp⟩
      case measure => simp [intOf]
    · go_wp2_with (go_at_call 64; (with_reducible refine HG.out.mono ?_); rintro e w1 ⟨c, rfl, hr, hb⟩; have HR1 := Lib.hid hr; have HB1 := Lib.hid hb; clear hr hb)
      go_loopw [6, 27] (fun u6 u27 wr => ∃ (j : Nat) (l : List Nat), u27 = .int .i64 j ∧ Hid (j = 0 ∧ l = [] ∨ j = 1 ∧ l = l1 ∨ j = 2 ∧ l = l1 ++ l2) ∧ Hid (R1 3 .i64 wr w.heap.size u6 l) ∧ Hid (Below w.heap.size w wr)) (fun _ u _ => 2 - (intOf u).toNat)
      case atStart => exact ⟨0, [], rfl, Lib.hid (.inl ⟨rfl, rfl⟩), HR1, HB1⟩
      case round =>
        clear HR1 HB1
        obtain ⟨j, l, rfl, HJ, HR, HB⟩ := hrel
        have q0 := (HB.out.cell (by exact hgp)).trans hp0
        have q1 := (HB.out.cell (by exact hgp)).trans hp1
        have K1 := Lib.hid (H1.out.later HB.out)
        have K2 := Lib.hid (H2.out.later HB.out)
        obtain ⟨A, m, cc, rfl⟩ := HR.out.shp
        rcases HJ.out with ⟨rfl, e⟩ | ⟨rfl, e⟩ | ⟨rfl, e⟩
        · have HE := Lib.hid e
          clear e
          go_wp2_with (at_builtin; refine wp_appL rfl _ _ rfl w.heap.size _ l rfl HR.out g1 n1 c1 b1 l1 rfl K1.out ?_ HB.out.size ?_; (rw [HE.out, E1.out]; simp; omega); intro v2 w2 hr2 hb2 _; have HR2 := Lib.hid hr2; have HB2 := Lib.hid (HB.out.trans hb2); obtain ⟨A2, m2, c2', rfl⟩ := hr2.shp; clear hr2 hb2)
          go_roundw
          case rel => exact ⟨1, l1, rfl, Lib.hid (.inr (.inl ⟨rfl, rfl⟩)), Lib.hid (by have := HR2.out; rw [HE.out] at this; exact this), HB2⟩
          case measure => simp [intOf]
        · have HE := Lib.hid e
          clear e
          go_wp2_with (at_builtin; refine wp_appL rfl _ _ rfl w.heap.size _ l rfl HR.out g2 n2 c2 b2 l2 rfl K2.out ?_ HB.out.size ?_; (rw [HE.out, E1.out, E2.out]; omega); intro v2 w2 hr2 hb2 _; have HR2 := Lib.hid hr2; have HB2 := Lib.hid (HB.out.trans hb2); obtain ⟨A2, m2, c2', rfl⟩ := hr2.shp; clear hr2 hb2)
          go_roundw
          case rel => exact ⟨2, l1 ++ l2, rfl, Lib.hid (.inr (.inr ⟨rfl, rfl⟩)), Lib.hid (by have := HR2.out; rw [HE.out] at this; exact this), HB2⟩
          case measure => simp [intOf]
        · have HE := Lib.hid e
          clear e
          go_wp2_with fail
          go_ret
          have hr := HR.out
          have hl : l.length = n1 + n2 := by rw [HE.out, List.length_append, E1.out, E2.out]
          have hm : m = n1 + n2 := by
            obtain ⟨A', c', e⟩ := hr.shape
            injection e with _ e _
            rw [e, hl]
          obtain ⟨g, c', e, -, -⟩ := hr.form (by omega)
          injection e with e3 e4 e5
          rw [hm, e3] at hr ⊢
          rw [HE.out] at hr
          exact ⟨g, cc, rfl, hr, HB.out⟩
end Go.Proofs.YtmapagbmihpbmaaGreatDoor
