/- Rows of slices. -/
import Derived.Test.YtllhefjblipddaaGreatDoorRow
import Derived.Test.YtllhefjblipddaaGreatDoorGaa
import Derived.Deep.RegionLaw
import Derived.Deep.AppendLies
import Derived.WalkKit
import Derived.Lib.Builder
import Derived.Deep.Draws
import Derived.Maps.AppendAt
import Derived.OwnWalk
import Derived.Laws.OwnMore
import Derived.Laws.AppendOwnNone
set_option linter.unusedSimpArgs false
set_option linter.unusedVariables false
namespace Go.Proofs.YtllhefjblipddaaGreatDoor
open Go.RowKit

/-- A slice's header. -/
abbrev SV : Type := Option Addr × Nat × Nat
def sv3 (x : SV) : Value := .slice x.1 x.2.1 x.2.2
/-- A row of slices. -/
def RS (W : World) (B g c : Nat) (l : List SV) : Prop := RowOf 25 1 (fun x => [sv3 x]) W B (.slice (some ⟨g, 0, none⟩) l.length c) l
theorem sv1_flat (l : List SV) : l.flatMap (fun x => [sv3 x]) = l.map sv3 := by
  induction l with
  | nil => rfl
  | cons x t ih => rw [List.flatMap_cons, List.map_cons, ih]; rfl
section
variable {W W' : World} {B g c : Nat} {l : List SV} {G : List Nat}
theorem RS.cell (h : RS W B g c l) {i : Nat} (hi : i < l.length) : W.cell? ⟨g, i, none⟩ = some (sv3 l[i]) := by
  have := World.ownsRow.cellAt (show W.ownsRow B 25 1 (.slice (some ⟨g, 0, none⟩) l.length c) l.length (l.flatMap fun x => [sv3 x]) from h) i (by omega)
  rw [this, sv1_flat]
  simp [hi]
theorem RS.frozen (h : RS W B g c l) (i : Nat) : W.frozen? ⟨g, i, none⟩ = false := World.ownsRow.frozenAt (show W.ownsRow B 25 1 (.slice (some ⟨g, 0, none⟩) l.length c) l.length (l.flatMap fun x => [sv3 x]) from h) i
theorem RS.set (h : RS W B g c l) (i : Nat) (x : SV) : RS (W.setCell ⟨g, i, none⟩ (sv3 x)) B g c (l.set i x) := by
  have := (World.ownsRow.stored (show W.ownsRow B 25 1 (.slice (some ⟨g, 0, none⟩) l.length c) l.length (l.flatMap fun x => [sv3 x]) from h) i (sv3 x)).1
  unfold RS RowOf
  rw [List.length_set, sv1_flat, List.map_set, ← sv1_flat]
  exact this
theorem RS.lt (h : RS W B g c l) : B ≤ g ∧ g < W.heap.size := World.ownsRow.lt h g rfl
theorem RS.later (h : RS W B g c l) (hb : Below W.heap.size W W') : RS W' B g c l := RowOf.later h hb
theorem RS.drewN (h : RS W B g c l) (n : Nat) : RS (W.drewN n) B g c l := h
theorem RS.drew (h : RS W B g c l) : RS W.drew B g c l := h
end
end Go.Proofs.YtllhefjblipddaaGreatDoor

namespace Go.Proofs.YtllhefjblipddaaGreatDoor
open Go.RowKit

section
variable {α : Type} {E : TypeId} {size : Nat} {f : α → List Value} {w w' : World} {v : Value} {l : List α} {base B : Nat} {G : List Nat}
theorem RowOf.chg (h : RowOf E size f w base v l) (hc : Chg B G w w') (hv : ∀ g, v.ownBlock = some g → g < B ∧ g ∉ G) : RowOf E size f w' base v l := by
  refine ⟨h.1, ?_⟩
  rcases h.2 with h0 | ⟨g, cap, cur, rfl, h1, h2, h3, h4, h5, h6⟩
  · exact .inl h0
  · exact .inr ⟨g, cap, cur, rfl, h1, (hc.block g (hv g rfl).1 (hv g rfl).2).trans h2, h3, h4, h5, h6⟩
theorem RowOf.lt (h : RowOf E size f w base v l) : ∀ k, v.ownBlock = some k → base ≤ k ∧ k < w.heap.size := World.ownsRow.lt h
end
section
variable {ops : Array Oper} {o : Oper} {a : Act} {K : Act → World → Prop} {Q : Exit → Act → World → Prop} {X : Prop}
/-- append of one element to a row of the call's own, at a step of a region that draws. -/
theorem step_row1 {α : Type} (T E : TypeId) (size bytes : Nat) (f : α → List Value) (z : Value) (hu : Tryz.prog.underlying T = some (.slice E)) (hinfo : (Tryz.prog.info? E).map (fun i => (i.zero, i.size, i.bytes)) = some (some z, size, bytes)) (hzs : z.cells.size = size) (hsz : 0 < size)
    (hf : ∀ x, (f x).length = size ∧ ∀ u ∈ f x, u.oneCell' = true)
    {w : World} (hgd : o.guard = none) (s x : Operand) (ho : o.op = .call { callee := .builtin .append, args := #[s, x], argTypes := #[T, T] })
    (base : Nat) (v : Value) (l : List α) (hs : a.eval s = v) (hown : RowOf E size f w base v l) (d : α) (cs : Array Value) (hcs : cs.toList = f d) (H : Nat) (hH : w.heap.size = H) (hx : a.eval x = .slice (some ⟨H, 0, none⟩) 1 1)
    (hby : (l.length + 1) * bytes ≤ 140737488355328) (h63 : l.length + 1 ≤ maxLen) (hbase : base ≤ w.heap.size)
    (h : ∀ g cap w', RowOf E size f w' base (.slice (some ⟨g, 0, none⟩) (l.length + 1) cap) (l ++ [d]) → Below base w w' → K (a.put o.dst (.slice (some ⟨g, 0, none⟩) (l.length + 1) cap)) w') :
    if Region.wanted o (yielded ops a.tmps) = true then Oper.wp Tryz.prog o a (w.alloc (.cells cs E)) K Q else X := by
  obtain ⟨i0, hi, hz0, hz1, hz2⟩ := info_parts hinfo
  subst hH
  refine step_append_lies (P := Tryz.prog) (w.alloc (.cells cs E)) hgd s x T ho base E i0 z size bytes hu hi hz0 hz1 hz2 hzs hsz v l.length (l.flatMap f) hs (hown.alloc _) ⟨w.heap.size, 0, none⟩ 1 1 (f d) hx (by rw [(hf d).1]; omega) (by rw [← hcs]; exact news_new _ _ _) (hf d).2 (by decide) h63 hby (by simp; omega) _ rfl ?_
  intro g cap w' h1 h2 _ _
  refine h g cap w' ?_ ?_
  · unfold RowOf
    rw [List.flatMap_append, List.length_append]
    simpa using h1
  · exact ((Below.refl _ _).alloc hbase _).grown h2 (by simp; omega) (fun k hk => ((World.ownsRow.lt hown) k hk).1)
end
end Go.Proofs.YtllhefjblipddaaGreatDoor

namespace Go.Proofs.YtllhefjblipddaaGreatDoor
open Go.RowKit

/-- The value owns a row of numbers of a kind. -/
def R1 (E : TypeId) (K : IntKind) (w : World) (base : Nat) (v : Value) (l : List Nat) : Prop := w.ownsRow base E 1 v l.length (l.map fun (x : Nat) => Value.int K (x : Int))
theorem num_get {K : IntKind} {l : List Nat} {i : Nat} (h : i < l.length) : (l.map fun (x : Nat) => Value.int K (x : Int))[i]? = some (.int K (l[i] : Int)) := by simp [h]
section
variable {E : TypeId} {K : IntKind} {w w' : World} {v : Value} {l : List Nat} {base B : Nat} {G : List Nat}
theorem R1.nil (w : World) (base : Nat) : R1 E K w base (.slice none 0 0) [] := World.ownsRow_nil _ _ _ _
theorem R1.form (h : R1 E K w base v l) (hl : 0 < l.length) : ∃ g c, v = .slice (some ⟨g, 0, none⟩) l.length c ∧ base ≤ g ∧ g < w.heap.size := World.ownsRow.form h hl
theorem R1.shape (h : R1 E K w base v l) : ∃ A c, v = .slice A l.length c := by
  rcases h.2 with ⟨rfl, h0⟩ | ⟨g, cap, cur, rfl, _, _, hc, _⟩
  · exact ⟨none, 0, by rw [h0]⟩
  · exact ⟨_, cap, rfl⟩
theorem R1.lt (h : R1 E K w base v l) : ∀ k, v.ownBlock = some k → base ≤ k ∧ k < w.heap.size := World.ownsRow.lt h
theorem R1.cell {g c n : Nat} (h : R1 E K w base (.slice (some ⟨g, 0, none⟩) n c) l) (hn : l.length = n) {i : Nat} (hi : i < l.length) : w.cell? ⟨g, i, none⟩ = some (.int K (l[i] : Int)) := by
  subst hn
  have := World.ownsRow.cellAt h i (by omega)
  rw [this, num_get hi]
theorem R1.frozen {g c n : Nat} (h : R1 E K w base (.slice (some ⟨g, 0, none⟩) n c) l) (hn : l.length = n) (i : Nat) : w.frozen? ⟨g, i, none⟩ = false := by
  subst hn
  exact World.ownsRow.frozenAt h i
theorem R1.set {g c n : Nat} (h : R1 E K w base (.slice (some ⟨g, 0, none⟩) n c) l) (hn : l.length = n) (i : Nat) {y : Int} (d : Nat) (hy : y = (d : Int)) : R1 E K (w.setCell ⟨g, i, none⟩ (.int K y)) base (.slice (some ⟨g, 0, none⟩) n c) (l.set i d) := by
  subst hn hy
  have := (World.ownsRow.stored h i (.int K (d : Int))).1
  unfold R1
  rw [List.length_set, List.map_set]
  exact this
theorem R1.alloc (h : R1 E K w base v l) (o : Obj) : R1 E K (w.alloc o) base v l := World.ownsRow.alloc h o
theorem R1.drew (h : R1 E K w base v l) : R1 E K w.drew base v l := h
theorem R1.drewN (h : R1 E K w base v l) (n : Nat) : R1 E K (w.drewN n) base v l := h
theorem R1.chg (h : R1 E K w base v l) (hc : Chg B G w w') (hv : ∀ g, v.ownBlock = some g → g < B ∧ g ∉ G) : R1 E K w' base v l := by
  refine ⟨h.1, ?_⟩
  rcases h.2 with h0 | ⟨g, cap, cur, rfl, h1, h2, h3, h4, h5, h6⟩
  · exact .inl h0
  · exact .inr ⟨g, cap, cur, rfl, h1, (hc.block g (hv g rfl).1 (hv g rfl).2).trans h2, h3, h4, h5, h6⟩
theorem R1.later (h : R1 E K w base v l) (hb : Below w.heap.size w w') : R1 E K w' base v l := h.chg (Chg.of hb []) fun g hg => ⟨(h.lt g hg).2, by simp⟩
theorem R1.far (h : R1 E K w base v l) {p : Addr} (hp : ∀ g, v.ownBlock = some g → g ≠ p.block) (u : Value) : R1 E K (w.setCell p u) base v l := by
  refine World.ownsRow.kept h (row := some p.block) ⟨rfl, rfl, rfl, by simp [World.setCell], fun k _ hk => Below.heap_setCell _ _ _ _ (fun e => hk (by rw [e]))⟩ ?_
  cases hv : v.ownBlock with
  | none => exact .inl rfl
  | some g => exact .inr (fun e => hp g hv (by injection e))
theorem R1.mono {base' : Nat} (h : R1 E K w base v l) (hb : base' ≤ base) : R1 E K w base' v l := by
  refine ⟨h.1, ?_⟩
  rcases h.2 with h0 | ⟨g, cap, cur, rfl, h1, h2⟩
  · exact .inl h0
  · exact .inr ⟨g, cap, cur, rfl, Nat.le_trans hb h1, h2⟩
end
section
variable {ops : Array Oper} {rest : List Oper} {o : Oper} {a : Act} {Q : Exit → Act → World → Prop}
theorem int_info : (Tryz.prog.info? 3).map (fun i => (i.zero, i.size, i.bytes)) = some (some (.int .i64 0), 1, 8) := by kernel_rfl
theorem u8_info : (Tryz.prog.info? 5).map (fun i => (i.zero, i.size, i.bytes)) = some (some (.int .u8 0), 1, 1) := by kernel_rfl
/-- make of a row of zeros. -/
theorem wp_makeI {w : World} (hgd : o.guard = none) (x y : Operand) (ho : o.op = Op.makeSlice 22 x y) (base : Nat) (C D : Int) (n : Nat) (hx : a.eval x = .int .i64 C) (hy : a.eval y = .int .i64 D) (hC : C = (n : Int)) (hD : D = (n : Int))
    (hn : n ≤ 1099511627776) (hbase : base ≤ w.heap.size)
    (h : ∀ w', R1 3 .i64 w' base (.slice (some ⟨w.heap.size, 0, none⟩) n n) (List.replicate n 0) → Below w.heap.size w w' → w.heap.size < w'.heap.size → wpList Tryz.prog ops Q rest (a.put o.dst (.slice (some ⟨w.heap.size, 0, none⟩) n n)) w') :
    wpList Tryz.prog ops Q (o :: rest) a w := by
  obtain ⟨i0, hi, hz0, hz1, hz2⟩ := info_parts int_info
  refine wpList_make_full w hgd x y 22 ho base 3 i0 (.int .i64 0) 1 Tryz.underlying22 hi hz0 hz1 .i64 .i64 C D n hx hy hC hD (by rw [hz2]; omega) (by unfold maxLen; omega) hbase ?_
  intro w' h1 h2
  refine h w' ?_ ⟨h2.os, h2.tape, h2.output, h2.size, fun k hk => h2.block k hk (by simp)⟩ ((World.ownsRow.lt h1 w.heap.size rfl).2)
  unfold R1
  rw [List.map_replicate, List.length_replicate]
  have e : (madeCells (Value.int IntKind.i64 0).cells (n * 1)).toList = List.replicate n (Value.int .i64 0) := by
    rw [Nat.mul_one]
    exact toList_madeCells_one _ _
  rw [show ((0 : Nat) : Int) = 0 from rfl, ← e]
  exact h1
/-- append of one number. -/
theorem wp_appI {w : World} (hgd : o.guard = none) (s x : Operand) (ho : o.op = .call { callee := .builtin .append, args := #[s, x], argTypes := #[22, 22] })
    (base : Nat) (v : Value) (l : List Nat) (hs : a.eval s = v) (hown : R1 3 .i64 w base v l) (y : Int) (d : Nat) (hy : y = (d : Int)) (hx : a.eval x = .slice (some ⟨w.heap.size, 0, none⟩) 1 1)
    (hlen : l.length + 1 ≤ 1099511627776) (hbase : base ≤ w.heap.size)
    (h : ∀ v' w', R1 3 .i64 w' base v' (l ++ [d]) → Below base w w' → (w.alloc (.cells #[.int .i64 y] 3)).grownBy w' v.ownBlock → wpList Tryz.prog ops Q rest (a.put o.dst v') w') :
    wpList Tryz.prog ops Q (o :: rest) a (w.alloc (.cells #[.int .i64 y] 3)) := by
  subst hy
  obtain ⟨i0, hi, hz0, hz1, hz2⟩ := info_parts int_info
  have hown' := hown.alloc (.cells #[.int .i64 (d : Int)] 3)
  refine wpList_append_own_at _ hgd s x 22 ho base 3 i0 (.int .i64 0) 1 8 Tryz.underlying22 hi hz0 hz1 hz2 rfl (by decide) v l.length _ hs hown' ⟨w.heap.size, 0, none⟩ 1 1 [.int .i64 (d : Int)] hx rfl (cell_one_new _ _ _) (by simp [Value.oneCell']) (by unfold maxLen; omega) (by omega) (by simp; omega) ?_
  intro v' w' h1 h2 _ _
  refine h v' w' ?_ ?_ h2
  · unfold R1
    rw [List.map_append, List.length_append]
    exact h1
  · exact ((Below.refl _ _).alloc hbase _).grown h2 (by simp; omega) (fun k hk => ((World.ownsRow.lt hown) k hk).1)
theorem wp_appB {w : World} (hgd : o.guard = none) (s x : Operand) (ho : o.op = .call { callee := .builtin .append, args := #[s, x], argTypes := #[121, 121] })
    (base : Nat) (v : Value) (l : List Nat) (hs : a.eval s = v) (hown : R1 5 .u8 w base v l) (y : Int) (d : Nat) (hy : y = (d : Int)) (hx : a.eval x = .slice (some ⟨w.heap.size, 0, none⟩) 1 1)
    (hlen : l.length + 1 ≤ 1099511627776) (hbase : base ≤ w.heap.size)
    (h : ∀ v' w', R1 5 .u8 w' base v' (l ++ [d]) → Below base w w' → (w.alloc (.cells #[.int .u8 y] 5)).grownBy w' v.ownBlock → wpList Tryz.prog ops Q rest (a.put o.dst v') w') :
    wpList Tryz.prog ops Q (o :: rest) a (w.alloc (.cells #[.int .u8 y] 5)) := by
  subst hy
  obtain ⟨i0, hi, hz0, hz1, hz2⟩ := info_parts u8_info
  have hown' := hown.alloc (.cells #[.int .u8 (d : Int)] 5)
  refine wpList_append_own_at _ hgd s x 121 ho base 5 i0 (.int .u8 0) 1 1 Tryz.underlying121 hi hz0 hz1 hz2 rfl (by decide) v l.length _ hs hown' ⟨w.heap.size, 0, none⟩ 1 1 [.int .u8 (d : Int)] hx rfl (cell_one_new _ _ _) (by simp [Value.oneCell']) (by unfold maxLen; omega) (by omega) (by simp; omega) ?_
  intro v' w' h1 h2 _ _
  refine h v' w' ?_ ?_ h2
  · unfold R1
    rw [List.map_append, List.length_append]
    exact h1
  · exact ((Below.refl _ _).alloc hbase _).grown h2 (by simp; omega) (fun k hk => ((World.ownsRow.lt hown) k hk).1)
end

/-- A row of n numbers, as a function's values. -/
def RF (N : Nat) (W : World) (base g : Nat) (f : Nat → Nat) : Prop := ∃ c, R1 3 .i64 W base (.slice (some ⟨g, 0, none⟩) N c) ((List.range N).map f)
theorem map_range_set (f : Nat → Nat) (n i v : Nat) : ((List.range n).map f).set i v = (List.range n).map fun x => if x = i then v else f x := by
  apply List.ext_getElem
  · simp
  · intro j h1 h2
    rw [List.getElem_set]
    simp only [List.getElem_map, List.getElem_range]
    by_cases h : i = j
    · rw [if_pos h, if_pos h.symm]
    · rw [if_neg h, if_neg (fun e => h e.symm)]
theorem rlen (f : Nat → Nat) (n : Nat) : ((List.range n).map f).length = n := by simp
section
variable {N : Nat} {W W' : World} {base g B : Nat} {f f' : Nat → Nat} {G : List Nat}
theorem RF.cell (h : RF N W base g f) {i : Nat} (hi : i < N) : W.cell? ⟨g, i, none⟩ = some (.int .i64 (f i : Int)) := by
  obtain ⟨c, h⟩ := h
  have := h.cell (rlen f N) (i := i) (by rw [rlen]; exact hi)
  rw [this]
  congr 2
  simp
theorem RF.frozen (h : RF N W base g f) (i : Nat) : W.frozen? ⟨g, i, none⟩ = false := by
  obtain ⟨c, h⟩ := h
  exact h.frozen (rlen f N) i
theorem RF.set (h : RF N W base g f) (i v : Nat) : RF N (W.setCell ⟨g, i, none⟩ (.int .i64 (v : Int))) base g fun x => if x = i then v else f x := by
  obtain ⟨c, h⟩ := h
  have := h.set (rlen f N) i v rfl
  rw [map_range_set] at this
  exact ⟨c, this⟩
theorem RF.congr (h : RF N W base g f) (hf : ∀ x, x < N → f x = f' x) : RF N W base g f' := by
  obtain ⟨c, h⟩ := h
  have e : (List.range N).map f = (List.range N).map f' := List.map_congr_left fun x hx => hf x (List.mem_range.1 hx)
  rw [e] at h
  exact ⟨c, h⟩
theorem RF.lt (h : RF N W base g f) : base ≤ g ∧ g < W.heap.size := by
  obtain ⟨c, h⟩ := h
  exact h.lt g rfl
theorem RF.chg (h : RF N W base g f) (hc : Chg B G W W') (hB : g < B) (hG : g ∉ G) : RF N W' base g f := by
  obtain ⟨c, h⟩ := h
  exact ⟨c, h.chg hc fun k hk => by injection hk with hk; subst hk; exact ⟨hB, hG⟩⟩
theorem RF.later (h : RF N W base g f) (hb : Below W.heap.size W W') : RF N W' base g f := h.chg (Chg.of hb []) h.lt.2 (by simp)
theorem RF.far (h : RF N W base g f) {p : Addr} (hp : g ≠ p.block) (u : Value) : RF N (W.setCell p u) base g f := by
  obtain ⟨c, h⟩ := h
  exact ⟨c, h.far (fun k hk => by injection hk with hk; subst hk; exact hp) u⟩
theorem RF.alloc (h : RF N W base g f) (o : Obj) : RF N (W.alloc o) base g f := by
  obtain ⟨c, h⟩ := h
  exact ⟨c, h.alloc o⟩
theorem RF.drew (h : RF N W base g f) : RF N W.drew base g f := h
theorem RF.drewN (h : RF N W base g f) (n : Nat) : RF N (W.drewN n) base g f := h
theorem RF.mono {base' : Nat} (h : RF N W base g f) (hb : base' ≤ base) : RF N W base' g f := by
  obtain ⟨c, h⟩ := h
  exact ⟨c, h.mono hb⟩
theorem RF.zero {c : Nat} (h : R1 3 .i64 W base (.slice (some ⟨g, 0, none⟩) N c) (List.replicate N 0)) : RF N W base g fun _ => 0 := by
  refine ⟨c, ?_⟩
  have : (List.range N).map (fun _ : Nat => (0 : Nat)) = List.replicate N 0 := by apply List.ext_getElem <;> simp
  rw [this]
  exact h
end
end Go.Proofs.YtllhefjblipddaaGreatDoor
