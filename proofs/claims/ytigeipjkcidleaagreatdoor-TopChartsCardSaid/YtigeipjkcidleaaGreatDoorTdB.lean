/- Words for memory: rows of the call's own whose elements are numbers of one cell. -/
import Derived.Test.YtigeipjkcidleaaGreatDoorChg
import Derived.Test.YtigeipjkcidleaaGreatDoorRow
import Derived.WalkKit
import Derived.Lib.Builder
import Derived.Deep.Draws
import Derived.Maps.AppendAt
import Derived.Deep.AppendLies
import Derived.OwnWalk
import Derived.Laws.OwnMore
import Derived.Laws.AppendOwnNone
import Derived.Test.YtigeipjkcidleaaGreatDoorTdA
import Derived.Deep.RegionLaw
namespace Go.Proofs.YtigeipjkcidleaaGreatDoor
open Go.RowKit

/-- The value owns a row of numbers of a kind. -/
def R1 (E : TypeId) (K : IntKind) (w : World) (base : Nat) (v : Value) (l : List Nat) : Prop := w.ownsRow base E 1 v l.length (l.map fun (x : Nat) => Value.int K (x : Int))
theorem num_get {K : IntKind} {l : List Nat} {i : Nat} (h : i < l.length) : (l.map fun (x : Nat) => Value.int K (x : Int))[i]? = some (.int K (l[i] : Int)) := by simp [h]
section
variable {E : TypeId} {K : IntKind} {w w' : World} {v : Value} {l : List Nat} {base B : Nat} {G : List Nat}
theorem R1.nil (w : World) (base : Nat) : R1 E K w base (.slice none 0 0) [] := World.ownsRow_nil _ _ _ _
theorem R1.form (h : R1 E K w base v l) (hl : 0 < l.length) : ∃ g c, v = .slice (some ⟨g, 0, none⟩) l.length c ∧ base ≤ g ∧ g < w.heap.size := World.ownsRow.form h hl
theorem R1.shape (h : R1 E K w base v l) : ∃ A c, v = .slice A l.length c := by
  rcases h.2 with ⟨rfl, h0⟩ | ⟨g, cap, cur, rfl, _, _, hc, _⟩
  · exact ⟨none, 0, by rw [h0]⟩
  · exact ⟨_, cap, rfl⟩
theorem R1.lt (h : R1 E K w base v l) : ∀ k, v.ownBlock = some k → base ≤ k ∧ k < w.heap.size := World.ownsRow.lt h
theorem R1.cell {g c n : Nat} (h : R1 E K w base (.slice (some ⟨g, 0, none⟩) n c) l) (hn : l.length = n) {i : Nat} (hi : i < l.length) : w.cell? ⟨g, i, none⟩ = some (.int K (l[i] : Int)) := by
  subst hn
  have := World.ownsRow.cellAt h i (by omega)
  rw [this, num_get hi]
theorem R1.frozen {g c n : Nat} (h : R1 E K w base (.slice (some ⟨g, 0, none⟩) n c) l) (hn : l.length = n) (i : Nat) : w.frozen? ⟨g, i, none⟩ = false := by
  subst hn
  exact World.ownsRow.frozenAt h i
theorem R1.set {g c n : Nat} (h : R1 E K w base (.slice (some ⟨g, 0, none⟩) n c) l) (hn : l.length = n) (i : Nat) {y : Int} (d : Nat) (hy : y = (d : Int)) : R1 E K (w.setCell ⟨g, i, none⟩ (.int K y)) base (.slice (some ⟨g, 0, none⟩) n c) (l.set i d) := by
  subst hn hy
  have := (World.ownsRow.stored h i (.int K (d : Int))).1
  unfold R1
  rw [List.length_set, List.map_set]
  exact this
theorem R1.alloc (h : R1 E K w base v l) (o : Obj) : R1 E K (w.alloc o) base v l := World.ownsRow.alloc h o
theorem R1.drew (h : R1 E K w base v l) : R1 E K w.drew base v l := h
theorem R1.drewN (h : R1 E K w base v l) (n : Nat) : R1 E K (w.drewN n) base v l := h
theorem R1.chg (h : R1 E K w base v l) (hc : Chg B G w w') (hv : ∀ g, v.ownBlock = some g → g < B ∧ g ∉ G) : R1 E K w' base v l := by
  refine ⟨h.1, ?_⟩
  rcases h.2 with h0 | ⟨g, cap, cur, rfl, h1, h2, h3, h4, h5, h6⟩
  · exact .inl h0
  · exact .inr ⟨g, cap, cur, rfl, h1, (hc.block g (hv g rfl).1 (hv g rfl).2).trans h2, h3, h4, h5, h6⟩
theorem R1.later (h : R1 E K w base v l) (hb : Below w.heap.size w w') : R1 E K w' base v l := h.chg (Chg.of hb []) fun g hg => ⟨(h.lt g hg).2, by simp⟩
theorem R1.far (h : R1 E K w base v l) {p : Addr} (hp : ∀ g, v.ownBlock = some g → g ≠ p.block) (u : Value) : R1 E K (w.setCell p u) base v l := by
  refine World.ownsRow.kept h (row := some p.block) ⟨rfl, rfl, rfl, by simp [World.setCell], fun k _ hk => Below.heap_setCell _ _ _ _ (fun e => hk (by rw [e]))⟩ ?_
  cases hv : v.ownBlock with
  | none => exact .inl rfl
  | some g => exact .inr (fun e => hp g hv (by injection e))
theorem R1.mono {base' : Nat} (h : R1 E K w base v l) (hb : base' ≤ base) : R1 E K w base' v l := by
  refine ⟨h.1, ?_⟩
  rcases h.2 with h0 | ⟨g, cap, cur, rfl, h1, h2⟩
  · exact .inl h0
  · exact .inr ⟨g, cap, cur, rfl, Nat.le_trans hb h1, h2⟩
end
section
variable {ops : Array Oper} {rest : List Oper} {o : Oper} {a : Act} {Q : Exit → Act → World → Prop}
theorem int_info : (Tryz.prog.info? 3).map (fun i => (i.zero, i.size, i.bytes)) = some (some (.int .i64 0), 1, 8) := by kernel_rfl
theorem u8_info : (Tryz.prog.info? 5).map (fun i => (i.zero, i.size, i.bytes)) = some (some (.int .u8 0), 1, 1) := by kernel_rfl
/-- make of a row of zeros. -/
theorem wp_makeI {w : World} (hgd : o.guard = none) (x y : Operand) (ho : o.op = Op.makeSlice 22 x y) (base : Nat) (C D : Int) (n : Nat) (hx : a.eval x = .int .i64 C) (hy : a.eval y = .int .i64 D) (hC : C = (n : Int)) (hD : D = (n : Int))
    (hn : n ≤ 1099511627776) (hbase : base ≤ w.heap.size)
    (h : ∀ w', R1 3 .i64 w' base (.slice (some ⟨w.heap.size, 0, none⟩) n n) (List.replicate n 0) → Below w.heap.size w w' → w.heap.size < w'.heap.size → wpList Tryz.prog ops Q rest (a.put o.dst (.slice (some ⟨w.heap.size, 0, none⟩) n n)) w') :
    wpList Tryz.prog ops Q (o :: rest) a w := by
  obtain ⟨i0, hi, hz0, hz1, hz2⟩ := info_parts int_info
  refine wpList_make_full w hgd x y 22 ho base 3 i0 (.int .i64 0) 1 Tryz.underlying22 hi hz0 hz1 .i64 .i64 C D n hx hy hC hD (by rw [hz2]; omega) (by unfold maxLen; omega) hbase ?_
  intro w' h1 h2
  refine h w' ?_ ⟨h2.os, h2.tape, h2.output, h2.size, fun k hk => h2.block k hk (by simp)⟩ ((World.ownsRow.lt h1 w.heap.size rfl).2)
  unfold R1
  rw [List.map_replicate, List.length_replicate]
  have e : (madeCells (Value.int IntKind.i64 0).cells (n * 1)).toList = List.replicate n (Value.int .i64 0) := by
    rw [Nat.mul_one]
    exact toList_madeCells_one _ _
  rw [show ((0 : Nat) : Int) = 0 from rfl, ← e]
  exact h1
/-- append of one number. -/
theorem wp_appI {w : World} (hgd : o.guard = none) (s x : Operand) (ho : o.op = .call { callee := .builtin .append, args := #[s, x], argTypes := #[22, 22] })
    (base : Nat) (v : Value) (l : List Nat) (hs : a.eval s = v) (hown : R1 3 .i64 w base v l) (y : Int) (d : Nat) (hy : y = (d : Int)) (hx : a.eval x = .slice (some ⟨w.heap.size, 0, none⟩) 1 1)
    (hlen : l.length + 1 ≤ 1099511627776) (hbase : base ≤ w.heap.size)
    (h : ∀ v' w', R1 3 .i64 w' base v' (l ++ [d]) → Below base w w' → (w.alloc (.cells #[.int .i64 y] 3)).grownBy w' v.ownBlock → wpList Tryz.prog ops Q rest (a.put o.dst v') w') :
    wpList Tryz.prog ops Q (o :: rest) a (w.alloc (.cells #[.int .i64 y] 3)) := by
  subst hy
  obtain ⟨i0, hi, hz0, hz1, hz2⟩ := info_parts int_info
  have hown' := hown.alloc (.cells #[.int .i64 (d : Int)] 3)
  refine wpList_append_own_at _ hgd s x 22 ho base 3 i0 (.int .i64 0) 1 8 Tryz.underlying22 hi hz0 hz1 hz2 rfl (by decide) v l.length _ hs hown' ⟨w.heap.size, 0, none⟩ 1 1 [.int .i64 (d : Int)] hx rfl (cell_one_new _ _ _) (by simp [Value.oneCell']) (by unfold maxLen; omega) (by omega) (by simp; omega) ?_
  intro v' w' h1 h2 _ _
  refine h v' w' ?_ ?_ h2
  · unfold R1
    rw [List.map_append, List.length_append]
    exact h1
  · exact ((Below.refl _ _).alloc hbase _).grown h2 (by simp; omega) (fun k hk => ((World.ownsRow.lt hown) k hk).1)
theorem wp_appB {w : World} (hgd : o.guard = none) (s x : Operand) (ho : o.op = .call { callee := .builtin .append, args := #[s, x], argTypes := #[126, 126] })
    (base : Nat) (v : Value) (l : List Nat) (hs : a.eval s = v) (hown : R1 5 .u8 w base v l) (y : Int) (d : Nat) (hy : y = (d : Int)) (hx : a.eval x = .slice (some ⟨w.heap.size, 0, none⟩) 1 1)
    (hlen : l.length + 1 ≤ 1099511627776) (hbase : base ≤ w.heap.size)
    (h : ∀ v' w', R1 5 .u8 w' base v' (l ++ [d]) → Below base w w' → (w.alloc (.cells #[.int .u8 y] 5)).grownBy w' v.ownBlock → wpList Tryz.prog ops Q rest (a.put o.dst v') w') :
    wpList Tryz.prog ops Q (o :: rest) a (w.alloc (.cells #[.int .u8 y] 5)) := by
  subst hy
  obtain ⟨i0, hi, hz0, hz1, hz2⟩ := info_parts u8_info
  have hown' := hown.alloc (.cells #[.int .u8 (d : Int)] 5)
  refine wpList_append_own_at _ hgd s x 126 ho base 5 i0 (.int .u8 0) 1 1 Tryz.underlying126 hi hz0 hz1 hz2 rfl (by decide) v l.length _ hs hown' ⟨w.heap.size, 0, none⟩ 1 1 [.int .u8 (d : Int)] hx rfl (cell_one_new _ _ _) (by simp [Value.oneCell']) (by unfold maxLen; omega) (by omega) (by simp; omega) ?_
  intro v' w' h1 h2 _ _
  refine h v' w' ?_ ?_ h2
  · unfold R1
    rw [List.map_append, List.length_append]
    exact h1
  · exact ((Below.refl _ _).alloc hbase _).grown h2 (by simp; omega) (fun k hk => ((World.ownsRow.lt hown) k hk).1)
end

/-- A row of n numbers, as a function's values. -/
def RF (N : Nat) (W : World) (base g : Nat) (f : Nat → Nat) : Prop := ∃ c, R1 3 .i64 W base (.slice (some ⟨g, 0, none⟩) N c) ((List.range N).map f)
theorem map_range_set (f : Nat → Nat) (n i v : Nat) : ((List.range n).map f).set i v = (List.range n).map fun x => if x = i then v else f x := by
  apply List.ext_getElem
  · simp
  · intro j h1 h2
    rw [List.getElem_set]
    simp only [List.getElem_map, List.getElem_range]
    by_cases h : i = j
    · rw [if_pos h, if_pos h.symm]
    · rw [if_neg h, if_neg (fun e => h e.symm)]
theorem rlen (f : Nat → Nat) (n : Nat) : ((List.range n).map f).length = n := by simp
section
variable {N : Nat} {W W' : World} {base g B : Nat} {f f' : Nat → Nat} {G : List Nat}
theorem RF.cell (h : RF N W base g f) {i : Nat} (hi : i < N) : W.cell? ⟨g, i, none⟩ = some (.int .i64 (f i : Int)) := by
  obtain ⟨c, h⟩ := h
  have := h.cell (rlen f N) (i := i) (by rw [rlen]; exact hi)
  rw [this]
  congr 2
  simp
theorem RF.frozen (h : RF N W base g f) (i : Nat) : W.frozen? ⟨g, i, none⟩ = false := by
  obtain ⟨c, h⟩ := h
  exact h.frozen (rlen f N) i
theorem RF.set (h : RF N W base g f) (i v : Nat) : RF N (W.setCell ⟨g, i, none⟩ (.int .i64 (v : Int))) base g fun x => if x = i then v else f x := by
  obtain ⟨c, h⟩ := h
  have := h.set (rlen f N) i v rfl
  rw [map_range_set] at this
  exact ⟨c, this⟩
theorem RF.congr (h : RF N W base g f) (hf : ∀ x, x < N → f x = f' x) : RF N W base g f' := by
  obtain ⟨c, h⟩ := h
  have e : (List.range N).map f = (List.range N).map f' := List.map_congr_left fun x hx => hf x (List.mem_range.1 hx)
  rw [e] at h
  exact ⟨c, h⟩
theorem RF.lt (h : RF N W base g f) : base ≤ g ∧ g < W.heap.size := by
  obtain ⟨c, h⟩ := h
  exact h.lt g rfl
theorem RF.chg (h : RF N W base g f) (hc : Chg B G W W') (hB : g < B) (hG : g ∉ G) : RF N W' base g f := by
  obtain ⟨c, h⟩ := h
  exact ⟨c, h.chg hc fun k hk => by injection hk with hk; subst hk; exact ⟨hB, hG⟩⟩
theorem RF.later (h : RF N W base g f) (hb : Below W.heap.size W W') : RF N W' base g f := h.chg (Chg.of hb []) h.lt.2 (by simp)
theorem RF.far (h : RF N W base g f) {p : Addr} (hp : g ≠ p.block) (u : Value) : RF N (W.setCell p u) base g f := by
  obtain ⟨c, h⟩ := h
  exact ⟨c, h.far (fun k hk => by injection hk with hk; subst hk; exact hp) u⟩
theorem RF.alloc (h : RF N W base g f) (o : Obj) : RF N (W.alloc o) base g f := by
  obtain ⟨c, h⟩ := h
  exact ⟨c, h.alloc o⟩
theorem RF.drew (h : RF N W base g f) : RF N W.drew base g f := h
theorem RF.drewN (h : RF N W base g f) (n : Nat) : RF N (W.drewN n) base g f := h
theorem RF.mono {base' : Nat} (h : RF N W base g f) (hb : base' ≤ base) : RF N W base' g f := by
  obtain ⟨c, h⟩ := h
  exact ⟨c, h.mono hb⟩
theorem RF.zero {c : Nat} (h : R1 3 .i64 W base (.slice (some ⟨g, 0, none⟩) N c) (List.replicate N 0)) : RF N W base g fun _ => 0 := by
  refine ⟨c, ?_⟩
  have : (List.range N).map (fun _ : Nat => (0 : Nat)) = List.replicate N 0 := by apply List.ext_getElem <;> simp
  rw [this]
  exact h
end
end Go.Proofs.YtigeipjkcidleaaGreatDoor

namespace Go.Proofs.YtigeipjkcidleaaGreatDoor
open Go.RowKit

set_option maxRecDepth 100000 in
set_option maxHeartbeats 4000000 in
theorem edges_any (long parts : Nat) (w : World) (h1 : long ≤ 100000) (h2 : 1 ≤ parts) (h3 : parts ≤ 1000) :
    Calls Tryz.prog 45 #[.int .i64 long, .int .i64 parts] w fun e w' => e = .returned (.slice (some ⟨w.heap.size, 0, none⟩) (parts + 1) (parts + 1)) ∧ RF (parts + 1) w' w.heap.size w.heap.size (fun i => long * i / parts) ∧ Below w.heap.size w w' ∧ w.heap.size < w'.heap.size := by
  go_enter Tryz.func45, Tryz.ntmps45
  go_wp2_with (at_make; refine wp_makeI rfl _ _ rfl w.heap.size _ _ (parts + 1) rfl rfl (by omega) (by omega) (by omega) (Nat.le_refl _) ?_; intro w1 ho1 hg1 hs1; have HO := Lib.hid (RF.zero ho1); have HB := Lib.hid hg1; have HSZ := Lib.hid hs1; clear ho1 hg1 hs1)
  go_loopw [12] (fun u wr => ∃ k : Nat, k ≤ parts + 1 ∧ u = .int .i64 k ∧ Hid (RF (parts + 1) wr w.heap.size w.heap.size (fun x => if x < k then long * x / parts else 0)) ∧ Hid (Below w.heap.size w wr) ∧ Hid (w.heap.size < wr.heap.size)) (fun u _ => parts + 1 - (intOf u).toNat)
  case atStart => exact ⟨0, Nat.zero_le _, rfl, Lib.hid (HO.out.congr fun x _ => by simp), HB, HSZ⟩
  case round =>
    clear HO HB HSZ
    obtain ⟨k, hk, rfl, HO, HB, HSZ⟩ := hrel
    by_cases hlt : k < parts + 1
    · have m1 : (long : Int) * k ≤ 100000 * 1001 := Int.mul_le_mul (by omega) (by omega) (by omega) (by omega)
      have m0 : 0 ≤ (long : Int) * k := Int.mul_nonneg (by omega) (by omega)
      have c0 := HO.out.cell (i := k) hlt
      have f0 := HO.out.frozen k
      have HO2 := Lib.hid (show RF (parts + 1) (wr.setCell ⟨w.heap.size, k, none⟩ (.int .i64 ((long : Int) * k / parts))) w.heap.size w.heap.size (fun x => if x < k + 1 then long * x / parts else 0) by
        have := (HO.out.set k (long * k / parts)).congr (f' := fun x => if x < k + 1 then long * x / parts else 0) fun x _ => by
          by_cases e : x = k
          · subst e; simp
          · by_cases e2 : x < k
            · simp [e, e2, show x < k + 1 by omega]
            · simp [e, e2, show ¬ x < k + 1 by omega]
        rw [show (((long * k / parts : Nat) : Int)) = (long : Int) * k / parts by push_cast; rfl] at this
        exact this)
      have HB2 := Lib.hid (HB.out.setCell (p := ⟨w.heap.size, k, none⟩) (Nat.le_refl _) (.int .i64 ((long : Int) * k / parts)))
      have HS2 := Lib.hid (show w.heap.size < (wr.setCell ⟨w.heap.size, k, none⟩ (.int .i64 ((long : Int) * k / parts))).heap.size by simpa [World.setCell] using HSZ.out)
      go_wp2_with fail
      go_roundw
      case rel => exact ⟨k + 1, by omega, by go_num, HO2, HB2, HS2⟩
      case measure => simp [intOf]; omega
    · have HO2 := Lib.hid (HO.out.congr (f' := fun i => long * i / parts) fun x hx => by simp [show x < k by omega])
      go_wp2_with fail
      go_ret
      exact ⟨rfl, HO2.out, HB.out, HSZ.out⟩
end Go.Proofs.YtigeipjkcidleaaGreatDoor

namespace Go.Proofs.YtigeipjkcidleaaGreatDoor
open Go.RowKit

section
variable {α : Type} {E : TypeId} {size : Nat} {f : α → List Value} {w w' : World} {v : Value} {l : List α} {base B : Nat} {G : List Nat}
theorem RowOf.chg (h : RowOf E size f w base v l) (hc : Chg B G w w') (hv : ∀ g, v.ownBlock = some g → g < B ∧ g ∉ G) : RowOf E size f w' base v l := by
  refine ⟨h.1, ?_⟩
  rcases h.2 with h0 | ⟨g, cap, cur, rfl, h1, h2, h3, h4, h5, h6⟩
  · exact .inl h0
  · exact .inr ⟨g, cap, cur, rfl, h1, (hc.block g (hv g rfl).1 (hv g rfl).2).trans h2, h3, h4, h5, h6⟩
theorem RowOf.lt (h : RowOf E size f w base v l) : ∀ k, v.ownBlock = some k → base ≤ k ∧ k < w.heap.size := World.ownsRow.lt h
end
section
variable {ops : Array Oper} {o : Oper} {a : Act} {K : Act → World → Prop} {Q : Exit → Act → World → Prop} {X : Prop}
/-- append of one element to a row of the call's own, at a step of a region that draws. -/
theorem step_row1 {α : Type} (T E : TypeId) (size bytes : Nat) (f : α → List Value) (z : Value) (hu : Tryz.prog.underlying T = some (.slice E)) (hinfo : (Tryz.prog.info? E).map (fun i => (i.zero, i.size, i.bytes)) = some (some z, size, bytes)) (hzs : z.cells.size = size) (hsz : 0 < size)
    (hf : ∀ x, (f x).length = size ∧ ∀ u ∈ f x, u.oneCell' = true)
    {w : World} (hgd : o.guard = none) (s x : Operand) (ho : o.op = .call { callee := .builtin .append, args := #[s, x], argTypes := #[T, T] })
    (base : Nat) (v : Value) (l : List α) (hs : a.eval s = v) (hown : RowOf E size f w base v l) (d : α) (cs : Array Value) (hcs : cs.toList = f d) (H : Nat) (hH : w.heap.size = H) (hx : a.eval x = .slice (some ⟨H, 0, none⟩) 1 1)
    (hby : (l.length + 1) * bytes ≤ 140737488355328) (h63 : l.length + 1 ≤ maxLen) (hbase : base ≤ w.heap.size)
    (h : ∀ g cap w', RowOf E size f w' base (.slice (some ⟨g, 0, none⟩) (l.length + 1) cap) (l ++ [d]) → Below base w w' → K (a.put o.dst (.slice (some ⟨g, 0, none⟩) (l.length + 1) cap)) w') :
    if Region.wanted o (yielded ops a.tmps) = true then Oper.wp Tryz.prog o a (w.alloc (.cells cs E)) K Q else X := by
  obtain ⟨i0, hi, hz0, hz1, hz2⟩ := info_parts hinfo
  subst hH
  refine step_append_lies (P := Tryz.prog) (w.alloc (.cells cs E)) hgd s x T ho base E i0 z size bytes hu hi hz0 hz1 hz2 hzs hsz v l.length (l.flatMap f) hs (hown.alloc _) ⟨w.heap.size, 0, none⟩ 1 1 (f d) hx (by rw [(hf d).1]; omega) (by rw [← hcs]; exact news_new _ _ _) (hf d).2 (by decide) h63 hby (by simp; omega) _ rfl ?_
  intro g cap w' h1 h2 _ _
  refine h g cap w' ?_ ?_
  · unfold RowOf
    rw [List.flatMap_append, List.length_append]
    simpa using h1
  · exact ((Below.refl _ _).alloc hbase _).grown h2 (by simp; omega) (fun k hk => ((World.ownsRow.lt hown) k hk).1)
end
end Go.Proofs.YtigeipjkcidleaaGreatDoor

namespace Go.Proofs.YtigeipjkcidleaaGreatDoor
open Go.RowKit

/-- What the maker has from its beginning on. -/
structure MkP where
  NA : Option Addr
  nn : Nat
  nc : Nat
  SA : Option Addr
  sn : Nat
  sc : Nat
  hi : Int
  st : Int
  hgt : Int
structure Bar where
  s : Int
  v : Int
  x : Int
  y : Int
  w : Int
  h : Int
def barC (b : Bar) : List Value := [.int .i64 b.s, .int .i64 b.v, .int .i64 b.x, .int .i64 b.y, .int .i64 b.w, .int .i64 b.h]
theorem bar_len (x : Bar) : (barC x).length = 6 ∧ ∀ u ∈ barC x, u.oneCell' = true := ⟨rfl, by simp [barC, Value.oneCell']⟩
theorem bar_info : (Tryz.prog.info? 71).map (fun i => (i.zero, i.size, i.bytes)) = some (some (.agg #[.int .i64 0, .int .i64 0, .int .i64 0, .int .i64 0, .int .i64 0, .int .i64 0]), 6, 48) := by kernel_rfl
abbrev BOwn (w : World) (base : Nat) (v : Value) (l : List Bar) : Prop := RowOf 71 6 barC w base v l
def mkC (p : MkP) (v : Value) : Array Value := #[.int .i64 0, .slice p.NA p.nn p.nc, .slice p.SA p.sn p.sc, .int .i64 0, .int .i64 p.hi, .int .i64 p.st, .int .i64 p.hgt, v]
/-- The maker in block m, its bars at B or above. -/
structure Mk (m B : Nat) (p : MkP) (v : Value) (l : List Bar) (W : World) : Prop where
  lt : m < B
  le : B ≤ W.heap.size
  blk : Blk W m 120 (mkC p v)
  own : BOwn W B v l
theorem Chg.grown {w w' : World} {row : Option Nat} (h : w.grownBy w' row) : Chg w.heap.size row.toList w w' :=
  ⟨h.os, h.tape, h.output, h.size, fun k hk hn => h.block k hk (fun e => hn (by rw [← e]; simp))⟩
theorem RowOf.apart {α : Type} {E t : TypeId} {size : Nat} {f : α → List Value} {w : World} {base g : Nat} {v : Value} {l : List α} {cs : Array Value} (h : RowOf E size f w base v l) (hb : Blk w g t cs) (hne : t ≠ E) : v.ownBlock ≠ some g := by
  intro e
  rcases h.2 with ⟨rfl, _⟩ | ⟨g', cap, cur, rfl, _, h2, _⟩
  · cases e
  · injection e with e
    subst e
    unfold Blk at hb
    rw [h2] at hb
    injection hb with hb
    injection hb with _ ht
    exact hne ht.symm
section
variable {m B : Nat} {p : MkP} {v : Value} {l : List Bar} {W W' : World}
theorem Mk.later (h : Mk m B p v l W) (hb : Below W.heap.size W W') : Mk m B p v l W' := ⟨h.lt, Nat.le_trans h.le hb.size, h.blk.later hb, RowOf.later h.own hb⟩
theorem Mk.drewN (h : Mk m B p v l W) (n : Nat) : Mk m B p v l (W.drewN n) := ⟨h.lt, h.le, h.blk.drewN n, h.own.drewN n⟩
theorem Mk.drew (h : Mk m B p v l W) : Mk m B p v l W.drew := ⟨h.lt, h.le, h.blk.drew, h.own.drew⟩
theorem Mk.app (h : Mk m B p v l W) {W3 : World} {v3 : Value} {l3 : List Bar} (hb : Below B W W3) (ho : BOwn W3 B v3 l3) : Mk m B p v3 l3 (W3.setCell ⟨m, 7, none⟩ v3) ∧ Chg B [m] W (W3.setCell ⟨m, 7, none⟩ v3) :=
  ⟨⟨h.lt, by have := hb.size; have := h.le; simp [World.setCell]; omega, by
    have := (h.blk.below hb h.lt).set_ 7 v3
    unfold mkC at this ⊢
    simpa using this, RowOf.far ho (fun k hk => by have := (RowOf.lt ho k hk).1; have := h.lt; dsimp only; omega) v3⟩, (Chg.of hb [m]).set (.inl (by simp)) _⟩
end
set_option maxRecDepth 100000 in
set_option maxHeartbeats 4000000 in
theorem mky_any (m B : Nat) (p : MkP) (v : Value) (l : List Bar) (y : Int) (w : World) (h : Mk m B p v l w) (hs : ScOk p.hi p.st) (y0 : 0 ≤ y) (y1 : y ≤ p.hi) (g0 : 0 ≤ p.hgt) (g1 : p.hgt ≤ 100000) :
    Calls Tryz.prog 48 #[.pointer (some ⟨m, 0, none⟩), .int .i64 y] w fun e w' => e = .returned (.int .i64 (p.hgt - Tc.plc y p.hi p.hgt)) ∧ Below w.heap.size w w' := by
  have HP := Lib.hid fun W => splace_any p.hi p.st y p.hgt W hs y0 y1 g0 g1
  obtain ⟨r0, r1⟩ := Tc.plc_rng y0 y1 hs.h0 g0
  have HM := Lib.hid h
  have HB0 := Lib.hid (Below.refl w.heap.size w)
  clear h hs y0 y1
  obtain ⟨NA, nn, nc, SA, sn, sc, hi, st, hgt⟩ := p
  dsimp only at HP r0 r1 g0 g1 ⊢
  obtain ⟨z, hz⟩ : ∃ z, z = Tc.plc y hi hgt := ⟨_, rfl⟩
  rw [← hz] at HP r0 r1 ⊢
  clear hz
  have c3 : w.cell? ⟨m, 3, none⟩ = some (.int .i64 0) := HM.out.blk.cell 3
  have c4 : w.cell? ⟨m, 4, none⟩ = some (.int .i64 hi) := HM.out.blk.cell 4
  have c5 : w.cell? ⟨m, 5, none⟩ = some (.int .i64 st) := HM.out.blk.cell 5
  have c6 : w.cell? ⟨m, 6, none⟩ = some (.int .i64 hgt) := HM.out.blk.cell 6
  go_enter Tryz.func48, Tryz.ntmps48
  go_upto_region 1 with fail
  go_region_with (go_at_call 89; (with_reducible refine (HP.out _).mono ?_); rintro e w1 ⟨rfl, hb⟩; have HB1 := Lib.hid ((Below.refl w.heap.size w).drew.trans hb); clear hb)
  all_goals
    have c6 : w1.cell? ⟨m, 6, none⟩ = some (.int .i64 hgt) := (HM.out.later HB1.out).blk.cell 6
    go_wp2_with fail
    go_ret
    exact ⟨rfl, HB1.out⟩
set_option maxRecDepth 100000 in
set_option maxHeartbeats 4000000 in
theorem mkzero_any (m B : Nat) (p : MkP) (v : Value) (l : List Bar) (w : World) (h : Mk m B p v l w) (hs : 0 < p.hi) :
    Calls Tryz.prog 88 #[.pointer (some ⟨m, 0, none⟩)] w fun e w' => e = .returned (.int .i64 0) ∧ Below w.heap.size w w' := by
  have HB0 := Lib.hid (Below.refl w.heap.size w)
  obtain ⟨NA, nn, nc, SA, sn, sc, hi, st, hgt⟩ := p
  dsimp only at hs
  have c3 : w.cell? ⟨m, 3, none⟩ = some (.int .i64 0) := h.blk.cell 3
  have c4 : w.cell? ⟨m, 4, none⟩ = some (.int .i64 hi) := h.blk.cell 4
  clear h
  have h1 : ¬ hi < 0 := by omega
  go_enter Tryz.func88, Tryz.ntmps88
  go_upto_region 1 with fail
  go_quiet (fail)
  go_wp2_with fail
  go_ret
  exact ⟨rfl, bdn HB0.out _⟩
/-- The bar between 0 and a value. -/
def barOf (p : MkP) (s v x w y : Int) : Bar := ⟨s, v, x, p.hgt - Tc.plc y p.hi p.hgt, w, p.hgt - (p.hgt - Tc.plc y p.hi p.hgt)⟩
set_option maxRecDepth 100000 in
set_option maxHeartbeats 4000000 in
theorem mkbar_any (m B : Nat) (p : MkP) (v0 : Value) (l : List Bar) (s v y x wd : Int) (w : World) (h : Mk m B p v0 l w) (hl : l.length ≤ 100000) (hs : ScOk p.hi p.st) (y0 : 0 ≤ y) (y1 : y ≤ p.hi) (g0 : 0 ≤ p.hgt) (g1 : p.hgt ≤ 100000) :
    Calls Tryz.prog 87 #[.pointer (some ⟨m, 0, none⟩), .int .i64 s, .int .i64 v, .int .i64 0, .int .i64 y, .int .i64 x, .int .i64 wd] w fun e w' => e = .returned (.tuple #[]) ∧ (∃ v', Mk m B p v' (l ++ [barOf p s v x wd y]) w') ∧ Chg w.heap.size (m :: v0.ownBlock.toList) w w' := by
  have HY0 := Lib.hid fun W hb => mky_any m B p v0 l 0 W (h.later hb) hs (by decide) (Int.le_of_lt hs.h0) g0 g1
  have HY1 := Lib.hid fun W hb => mky_any m B p v0 l y W (h.later hb) hs y0 y1 g0 g1
  obtain ⟨r0, r1⟩ := Tc.plc_rng y0 y1 hs.h0 g0
  have e0 : Tc.plc 0 p.hi p.hgt = 0 := by
    unfold Tc.plc
    rw [Int.mul_zero, Int.zero_mul, Int.zero_add]
    have := hs.h0
    exact Int.ediv_eq_zero_of_lt (by omega) (by omega)
  rw [e0, Int.sub_zero] at HY0
  have HM := Lib.hid h
  have HB0 := Lib.hid (Below.refl w.heap.size w)
  have HBR := Lib.hid (show barOf p s v x wd y = ⟨s, v, x, p.hgt - Tc.plc y p.hi p.hgt, wd, p.hgt - (p.hgt - Tc.plc y p.hi p.hgt)⟩ from rfl)
  have hl2 := hl
  clear h hs y0 y1 e0 hl
  generalize barOf p s v x wd y = bar at *
  obtain ⟨z, hz⟩ : ∃ z, z = Tc.plc y p.hi p.hgt := ⟨_, rfl⟩
  rw [← hz] at HY1 r0 r1 HBR
  clear hz
  obtain ⟨H, hH⟩ : ∃ z, z = p.hgt := ⟨_, rfl⟩
  rw [← hH] at HY0 HY1 r1 HBR g0 g1
  clear hH
  rcases (show z = 0 ∨ 0 < z by omega) with rfl | hz
  · rw [Int.sub_zero] at HY1 HBR
    rw [Int.sub_self] at HBR
    go_enter Tryz.func87, Tryz.ntmps87
    go_upto_region 1 with (go_at_call 48; first | ((with_reducible refine (HY0.out _ HB0.out).mono ?_); rintro e w1 ⟨rfl, hb⟩; have HB1 := Lib.hid hb; clear hb) | ((with_reducible refine (HY1.out _ HB1.out).mono ?_); rintro e w2 ⟨rfl, hb⟩; have HB2 := Lib.hid (bel2 HB1.out hb); clear hb))
    have HM2 := Lib.hid (HM.out.later HB2.out)
    have c7 : w2.cell? ⟨m, 7, none⟩ = some v0 := HM2.out.blk.cell 7
    have f7 := HM2.out.blk.frozen 7
    go_wp2_with (at_builtin; go_loud (refine wp_row1 67 71 6 48 barC _ Tryz.underlying67 bar_info rfl (by decide) bar_len rfl _ _ rfl B v0 l rfl HM2.out.own bar _ ?_ rfl (by omega) (by unfold maxLen; omega) HM2.out.le ?_); (rw [HBR.out]; rfl); intro v3 w3 ho hb hg; obtain ⟨gx, cx, rfl, -, -⟩ := RowOf.form ho (by simp); have HA := Lib.hid (HM2.out.app hb ho); have d7 := (HM2.out.blk.below hb HM2.out.lt).cell 7; rw [show (mkC p v0)[7]? = some v0 from rfl] at d7; have e7 := (HM2.out.blk.below hb HM2.out.lt).frozen 7; have HCG := Lib.hid ((((Chg.of HB2.out []).trans ((Chg.of ((Below.refl w2.heap.size w2).alloc (Nat.le_refl _) _) []).mono HB2.out.size (fun x hx => .inl hx))).mono (Nat.le_refl _) (fun x hx => absurd hx (by simp)) : Chg w.heap.size (m :: v0.ownBlock.toList) w _).trans ((Chg.grown hg).mono (by have := HB2.out.size; simp; omega) (fun x hx => .inl (List.mem_cons_of_mem _ hx)))); clear hg ho hb)
    go_end0
    have ha := HA.out
    rw [show (l ++ [bar]).length = l.length + 1 by simp] at ha
    exact ⟨rfl, ⟨_, ha.1⟩, HCG.out.set (.inl (List.mem_cons_self ..)) _⟩
  · have g2 : H - z < H := by omega
    go_enter Tryz.func87, Tryz.ntmps87
    go_upto_region 1 with (go_at_call 48; first | ((with_reducible refine (HY0.out _ HB0.out).mono ?_); rintro e w1 ⟨rfl, hb⟩; have HB1 := Lib.hid hb; clear hb) | ((with_reducible refine (HY1.out _ HB1.out).mono ?_); rintro e w2 ⟨rfl, hb⟩; have HB2 := Lib.hid (bel2 HB1.out hb); clear hb))
    have HM2 := Lib.hid (HM.out.later HB2.out)
    have c7 : w2.cell? ⟨m, 7, none⟩ = some v0 := HM2.out.blk.cell 7
    have f7 := HM2.out.blk.frozen 7
    go_wp2_with (at_builtin; go_loud (refine wp_row1 67 71 6 48 barC _ Tryz.underlying67 bar_info rfl (by decide) bar_len rfl _ _ rfl B v0 l rfl HM2.out.own bar _ ?_ rfl (by omega) (by unfold maxLen; omega) HM2.out.le ?_); (rw [HBR.out]; rfl); intro v3 w3 ho hb hg; obtain ⟨gx, cx, rfl, -, -⟩ := RowOf.form ho (by simp); have HA := Lib.hid (HM2.out.app hb ho); have d7 := (HM2.out.blk.below hb HM2.out.lt).cell 7; rw [show (mkC p v0)[7]? = some v0 from rfl] at d7; have e7 := (HM2.out.blk.below hb HM2.out.lt).frozen 7; have HCG := Lib.hid ((((Chg.of HB2.out []).trans ((Chg.of ((Below.refl w2.heap.size w2).alloc (Nat.le_refl _) _) []).mono HB2.out.size (fun x hx => .inl hx))).mono (Nat.le_refl _) (fun x hx => absurd hx (by simp)) : Chg w.heap.size (m :: v0.ownBlock.toList) w _).trans ((Chg.grown hg).mono (by have := HB2.out.size; simp; omega) (fun x hx => .inl (List.mem_cons_of_mem _ hx)))); clear hg ho hb)
    go_end0
    have ha := HA.out
    rw [show (l ++ [bar]).length = l.length + 1 by simp] at ha
    exact ⟨rfl, ⟨_, ha.1⟩, HCG.out.set (.inl (List.mem_cons_self ..)) _⟩
end Go.Proofs.YtigeipjkcidleaaGreatDoor

namespace Go.Proofs.YtigeipjkcidleaaGreatDoor
open Go.RowKit

/-- Blocks of numbers stay as they are. -/
def KI (w w' : World) : Prop := ∀ k cs, Blk w k 3 cs → Blk w' k 3 cs
section
variable {w w1 w2 : World} {N base g m B : Nat} {f : Nat → Nat} {p : MkP} {v : Value} {l : List Bar}
theorem KI.refl (w : World) : KI w w := fun _ _ h => h
theorem KI.trans (h : KI w w1) (k : KI w1 w2) : KI w w2 := fun q cs hq => k q cs (h q cs hq)
theorem KI.of (h : Below w.heap.size w w1) : KI w w1 := fun _ _ hq => hq.later h
theorem KI.chg (h : Mk m B p v l w) (hc : Chg w.heap.size (m :: v.ownBlock.toList) w w1) : KI w w1 := fun q cs hq => by
  refine hc.blk hq hq.lt fun hm => ?_
  rcases List.mem_cons.1 hm with rfl | hm
  · exact Blk.ne_ hq h.blk (by decide) rfl
  · exact h.own.apart hq (by decide) (by simpa using hm)
theorem RF.ki (h : RF N w base g f) (hk : KI w w1) (_hs : w.heap.size ≤ w1.heap.size) : RF N w1 base g f := by
  obtain ⟨c, h1, h⟩ := h
  rcases h with ⟨h0, _⟩ | ⟨g', cap, cur, e, a1, a2, a3⟩
  · cases h0
  · exact ⟨c, h1, .inr ⟨g', cap, cur, e, a1, hk g' cur a2, a3⟩⟩
theorem Mk.chg (h : Mk m B p v l w) (hc : Chg w.heap.size (m :: v.ownBlock.toList) w w1) : Chg B [m] w w1 :=
  hc.mono h.le fun x hx => by
    rcases List.mem_cons.1 hx with rfl | hx
    · exact .inl (by simp)
    · exact .inr (RowOf.lt h.own x (by simpa using hx)).1
end
/-- The bars of a name, series by series, from the k-th on. -/
def BesAt (p : MkP) (i : Nat) (L : List (List Int)) (l0 l : List Bar) (k : Nat) : Prop :=
  l.length = l0.length + k ∧ (∀ j (h : j < l0.length) (h2 : j < l.length), l[j] = l0[j]) ∧ ∀ j (hj : j < k) (h2 : l0.length + j < l.length) (h3 : j < L.length) (h4 : i < L[j].length), ∃ x wd, l[l0.length + j] = barOf p j i x wd (L[j][i])
theorem BesAt.zero (p : MkP) (i : Nat) (L : List (List Int)) (l0 : List Bar) : BesAt p i L l0 l0 0 := ⟨rfl, fun _ _ _ => rfl, fun j hj => by omega⟩
theorem BesAt.step {p : MkP} {i : Nat} {L : List (List Int)} {l0 l : List Bar} {k : Nat} (h : BesAt p i L l0 l k) (hk : k < L.length) (hi : i < L[k].length) (x wd y : Int) (hy : y = L[k][i]) : BesAt p i L l0 (l ++ [barOf p k i x wd y]) (k + 1) := by
  obtain ⟨h1, h2, h3⟩ := h
  refine ⟨by simp [h1]; omega, fun j a b => ?_, fun j hj a b c => ?_⟩
  · rw [List.getElem_append_left (by omega)]
    exact h2 j a (by omega)
  · by_cases e : j = k
    · subst e
      refine ⟨x, wd, ?_⟩
      rw [List.getElem_append_right (by omega)]
      simp [h1, hy]
    · rw [List.getElem_append_left (by omega)]
      exact h3 j (by omega) (by omega) b c
set_option maxRecDepth 100000 in
set_option maxHeartbeats 8000000 in
theorem beside_any (m B : Nat) (p : MkP) (v0 : Value) (l0 : List Bar) (i x wd : Nat) (L : List (List Int)) (w : World) (h : Mk m B p v0 l0 w) (hl : l0.length ≤ 90000) (hs : ScOk p.hi p.st) (g0 : 0 ≤ p.hgt) (g1 : p.hgt ≤ 100000)
    (w0 : World) (hb0 : Below w0.heap.size w0 w) (hm0 : w0.heap.size ≤ m) (hr : Rows2 w0 (.slice p.SA p.sn p.sc) L) (hL : L.length ≤ 12) (hi : ∀ l ∈ L, i < l.length) (hrg : ∀ l ∈ L, ∀ n ∈ l, 0 ≤ n ∧ n ≤ p.hi) (hwd : wd ≤ 100000) (hx : x ≤ 100000) :
    Calls Tryz.prog 46 #[.pointer (some ⟨m, 0, none⟩), .int .i64 i, .int .i64 x, .int .i64 wd] w fun e w' => e = .returned (.tuple #[]) ∧ (∃ v' l, Mk m B p v' l w' ∧ BesAt p i L l0 l L.length) ∧ Chg B [m] w w' ∧ KI w w' := by
  have hn := hr.get.1
  obtain ⟨A, hA⟩ : ∃ A, A = p.SA := ⟨_, rfl⟩
  obtain ⟨cc, hcc⟩ : ∃ cc, cc = p.sc := ⟨_, rfl⟩
  rw [← hn, ← hA, ← hcc] at hr
  have HMC := Lib.hid (show ∀ W v l, Mk m B p v l W → W.cell? ⟨m, 2, none⟩ = some (.slice A L.length cc) from fun W v l hk => by rw [hA, hn, hcc]; exact hk.blk.cell 2)
  have HR := Lib.hid hr
  have HW0 := Lib.hid (show ∀ W, Chg B [m] w W → Below w0.heap.size w0 W from fun W hW => hb0.trans (hW.below (by have := h.lt; omega) (by simpa using hm0)))
  have HMM := Lib.hid hm0
  have HM := Lib.hid h
  have HI := Lib.hid hi
  have HG := Lib.hid hrg
  have hh0 := hs.h0
  have HE := Lib.hid fun W => edges_any wd (2 * L.length + 2) W hwd (by omega) (by omega)
  rw [show (((2 * L.length + 2 : Nat)) : Int) = 2 * (L.length : Int) + 2 by push_cast; rfl] at HE
  have HBA := Lib.hid fun W v l (hk : Mk m B p v l W) (hll : l.length ≤ 100000) s y xx ww h1 h2 => mkbar_any m B p v l s i y xx ww W hk hll hs h1 h2 g0 g1
  have HZE := Lib.hid fun W v l (hk : Mk m B p v l W) => mkzero_any m B p v l W hk hh0
  have HB0 := Lib.hid (Below.refl w.heap.size w)
  have c2 := HMC.out w v0 l0 h
  clear hn hA hcc hr h hi hrg hs hh0 hb0 hm0
  go_enter Tryz.func46, Tryz.ntmps46
  go_upto_region 1 with (go_at_call 45; (with_reducible refine (HE.out _).mono ?_); rintro e w1 ⟨rfl, hrf, hb, hsz⟩; have HF := Lib.hid hrf; have HB1 := Lib.hid hb; clear hrf hb hsz)
  have HM1 := Lib.hid (HM.out.later HB1.out)
  clear c2
  have c2 := HMC.out w1 v0 l0 HM1.out
  have HK1 := Lib.hid (KI.of HB1.out)
  have HC1 := Lib.hid ((Chg.of HB1.out [m]).mono HM.out.le fun x hx => .inl hx)
  go_wp2_with fail
  obtain ⟨F, hF⟩ : ∃ F : Nat → Nat, F = fun x => wd * x / (2 * L.length + 2) := ⟨_, rfl⟩
  have HFB := Lib.hid (show ∀ x, x ≤ 2 * L.length + 2 → F x ≤ 100000 from fun x hx => by
    rw [hF]
    have h1 : wd * x ≤ wd * (2 * L.length + 2) := Nat.mul_le_mul_left _ hx
    have h2 := Nat.div_le_div_right (c := 2 * L.length + 2) h1
    rw [Nat.mul_div_cancel _ (by omega)] at h2
    dsimp only
    omega)
  rw [← hF] at HF
  have hgB := HM.out.le
  have hmB := HM.out.lt
  clear hF HE HM HB1
  go_loopw [29] (fun u wr => ∃ (k : Nat) (v : Value) (l : List Bar), k ≤ L.length ∧ u = .int .i64 k ∧ Hid (Mk m B p v l wr) ∧ Hid (BesAt p i L l0 l k) ∧ Hid (Chg B [m] w wr) ∧ Hid (KI w wr) ∧ Hid (RF (2 * L.length + 2 + 1) wr w.heap.size w.heap.size F)) (fun u _ => L.length - (intOf u).toNat)
  case atStart => exact ⟨0, v0, l0, Nat.zero_le _, rfl, HM1, Lib.hid (BesAt.zero p i L l0), HC1, HK1, HF⟩
  case round =>
    clear c2 HM1 HC1 HF HK1
    obtain ⟨k, v, l, hk, rfl, HM, HBS, HC, HK, HF⟩ := hrel
    have c2 := HMC.out wr v l HM.out
    by_cases hlt : k < L.length
    · obtain ⟨b, o, rfl, hbl, hrow⟩ := (HR.out.get).2 (by omega)
      obtain ⟨B2, m2, k2, d0, hr⟩ := hrow k hlt
      obtain ⟨e1, hr⟩ := hr.one
      have hm2 : L[k] ∈ L := List.getElem_mem hlt
      have hi2 := HI.out _ hm2
      obtain ⟨b2, o2, rfl, hb2, hc⟩ := hr (by omega)
      have d1 := hc i hi2
      obtain ⟨y0, y1⟩ := HG.out _ hm2 _ (List.getElem_mem hi2)
      have HST := Lib.hid fun xx ww => HBS.out.step hlt hi2 xx ww L[k][i] rfl
      obtain ⟨y, hy⟩ : ∃ y, y = L[k][i] := ⟨_, rfl⟩
      rw [← hy] at d1 y0 y1 HST
      have hll : l.length ≤ 100000 := by have := HBS.out.1; omega
      have HZ := Lib.hid fun W (hb : Below wr.heap.size wr W) => HZE.out W v l (HM.out.later hb)
      have HBAR := Lib.hid fun W (hb : Below wr.heap.size wr W) xx ww => HBA.out W v l (HM.out.later hb) hll k y xx ww y0 y1
      have HW := Lib.hid (HW0.out wr HC.out)
      have HSS := Lib.hid (show ∀ W, Below w0.heap.size w0 W → W.cell? ⟨b2, o2 + i, none⟩ = some (.int .i64 y) from fun W hb => (hb.cell (p := ⟨b2, o2 + i, none⟩) hb2).trans d1)
      have d1 := HSS.out wr HW.out
      have d0 : wr.cell? ⟨b, o + k, none⟩ = some (.slice (some ⟨b2, o2, none⟩) m2 k2) := (HW.out.cell (p := ⟨b, o + k, none⟩) hbl).trans d0
      have hi3 : i < m2 := by omega
      have f1 := HFB.out (2 * k + 1) (by omega)
      have f3 := HFB.out (2 * k + 3) (by omega)
      have q1 := HF.out.cell (i := 2 * k + 1) (by omega)
      have q3 := HF.out.cell (i := 2 * k + 3) (by omega)
      generalize F (2 * k + 1) = a1 at f1 q1
      generalize F (2 * k + 3) = a3 at f3 q3
      clear hrow hr hc e1 hm2 hi2 hy HBS
      have z0 : IntKind.i64.wrap (2 * (k : Int)) = 2 * (k : Int) := IntWalk.i64_in _ (by omega)
      have z1 : IntKind.i64.wrap (2 * (k : Int) + 1) = 2 * (k : Int) + 1 := IntWalk.i64_in _ (by omega)
      have z3 : IntKind.i64.wrap (2 * (k : Int) + 3) = 2 * (k : Int) + 3 := IntWalk.i64_in _ (by omega)
      have t1 : (2 * (k : Int) + 1).toNat = 2 * k + 1 := by omega
      have t3 : (2 * (k : Int) + 3).toNat = 2 * k + 3 := by omega
      have u1 : (0 : Int) ≤ 2 * (k : Int) + 1 := by omega
      have u3 : (0 : Int) ≤ 2 * (k : Int) + 3 := by omega
      have v1 : (2 * (k : Int) + 1) < ((2 * L.length + 2 + 1 : Nat) : Int) := by omega
      have v3 : (2 * (k : Int) + 3) < ((2 * L.length + 2 + 1 : Nat) : Int) := by omega
      go_upto_region 4 with fail
      go_quiet (fail)
      clear z0 z1 z3 t1 t3 u1 u3 v1 v3 q1 q3
      have z1 : IntKind.i64.wrap ((x : Int) + (a1 : Int)) = (x : Int) + (a1 : Int) := IntWalk.i64_in _ (by omega)
      have z3 : IntKind.i64.wrap ((a3 : Int) - (a1 : Int)) = (a3 : Int) - (a1 : Int) := IntWalk.i64_in _ (by omega)
      go_upto_region 5 with fail
      go_region_held3 (fun W => W.cell? ⟨b2, o2 + i, none⟩ = some (.int .i64 y)) (first | assumption | exact HSS.out _ HBX.out | exact HSS.out _ HBY.out) (first
        | (go_at_call 88; (with_reducible refine (HZ.out _ (by first | exact (bdn (Below.refl wr.heap.size wr) _).drew | exact bdn (Below.refl wr.heap.size wr) _ | exact bdn (bdn (Below.refl wr.heap.size wr) _) _)).mono ?_); rintro e w1 ⟨rfl, hb⟩; have HB1 := Lib.hid (show Below wr.heap.size wr w1 from by first | exact (bdn (Below.refl wr.heap.size wr) _).drew.trans hb | exact (bdn (Below.refl wr.heap.size wr) _).trans hb); have HBX := Lib.hid (HW.out.trans (HB1.out.mono HW.out.size)); clear hb)
        | (go_at_call 87; (with_reducible refine (HBAR.out _ HB1.out _ _).mono ?_); rintro e w2 ⟨rfl, ⟨v2, hm2⟩, hch⟩; have HM2 := Lib.hid hm2; have HC2 := Lib.hid ((HM.out.later HB1.out).chg hch); have HK2 := Lib.hid ((KI.of HB1.out).trans (KI.chg (HM.out.later HB1.out) hch)); have HSZ2 := Lib.hid (Nat.le_trans HB1.out.size hch.size); have HBY := Lib.hid (HBX.out.trans (HC2.out.below (by have := HMM.out; omega) (by simpa using HMM.out))); clear hm2 hch))
      all_goals
        have HC3 := Lib.hid ((HC.out.trans ((Chg.of HB1.out [m]).mono HM.out.le fun x hx => .inl hx)).trans HC2.out)
        have HF3 := Lib.hid (HF.out.ki HK2.out HSZ2.out)
        go_wp2_with fail
        go_roundw
        case rel => exact ⟨k + 1, v2, _, by omega, by go_num, HM2, Lib.hid (HST.out _ _), HC3, Lib.hid (HK.out.trans HK2.out), HF3⟩
        case measure => simp [intOf]; omega
    · obtain rfl : k = L.length := by omega
      go_wp2_with fail
      go_end0
      exact ⟨rfl, ⟨v, l, HM.out, HBS.out⟩, HC.out, HK.out⟩
end Go.Proofs.YtigeipjkcidleaaGreatDoor

namespace Go.Proofs.YtigeipjkcidleaaGreatDoor
open Go.RowKit

theorem RowOf.mono {α : Type} {E : TypeId} {size : Nat} {f : α → List Value} {w : World} {base base' : Nat} {v : Value} {l : List α} (h : RowOf E size f w base v l) (hb : base' ≤ base) : RowOf E size f w base' v l := by
  refine ⟨h.1, ?_⟩
  rcases h.2 with h0 | ⟨g, cap, cur, rfl, h1, h2⟩
  · exact .inl h0
  · exact .inr ⟨g, cap, cur, rfl, Nat.le_trans hb h1, h2⟩
/-- The bars of the first n names. -/
def BarsAt (p : MkP) (L : List (List Int)) (l : List Bar) (n : Nat) : Prop :=
  l.length = n * L.length ∧ ∀ i (hi : i < n) j (hj : j < L.length) (h4 : i < L[j].length) (h5 : i * L.length + j < l.length), ∃ x wd, l[i * L.length + j] = barOf p j i x wd (L[j][i])
theorem BarsAt.zero (p : MkP) (L : List (List Int)) : BarsAt p L [] 0 := ⟨by simp, fun i hi => by omega⟩
theorem BarsAt.next {p : MkP} {L : List (List Int)} {l0 l : List Bar} {n : Nat} (h : BarsAt p L l0 n) (hb : BesAt p n L l0 l L.length) : BarsAt p L l (n + 1) := by
  obtain ⟨a1, a2⟩ := h
  obtain ⟨b1, b2, b3⟩ := hb
  refine ⟨by rw [b1, a1, Nat.add_mul, Nat.one_mul], fun i hi j hj h4 h5 => ?_⟩
  by_cases e : i = n
  · subst e
    have := b3 j hj (by omega) hj h4
    simpa [a1] using this
  · have hlt : i * L.length + j < n * L.length := by
      have := Nat.mul_le_mul_right L.length (show i + 1 ≤ n by omega)
      rw [Nat.add_mul, Nat.one_mul] at this
      omega
    rw [b2 _ (by omega) (by omega)]
    exact a2 i (by omega) j hj h4 (by omega)
def BarsRet (p : MkP) (L : List (List Int)) (w : World) (e : Ending) (w' : World) : Prop := ∃ (v : Value) (l : List Bar), e = .returned (.tuple #[v, .int .i64 0]) ∧ BarsAt p L l p.nn ∧ BOwn w' w.heap.size v l ∧ Below w.heap.size w w'
set_option maxRecDepth 100000 in
set_option maxHeartbeats 8000000 in
theorem bars_any (NA : Option Addr) (nn nc : Nat) (SA : Option Addr) (sn sc : Nat) (L : List (List Int)) (M hi st hgt : Int) (w : World) (h : ChOk 0 nn L M) (hs : Rows2 w (.slice SA sn sc) L) (hsc : ScOk hi st) (hup : ∀ l ∈ L, ∀ n ∈ l, n ≤ hi) (g0 : 1 ≤ hgt) (g1 : hgt ≤ 100000) (P : MkP) (hP : P = MkP.mk NA nn nc SA sn sc hi st hgt) :
    Calls Tryz.prog 18 #[.agg #[.int .i64 0, .slice NA nn nc, .slice SA sn sc], .agg #[.int .i64 0, .int .i64 hi, .int .i64 st], .int .i64 1000, .int .i64 hgt] w (BarsRet P L w) := by
  obtain rfl := hs.get.1
  have HPC := Lib.hid (show ∀ v, mkC P v = #[.int .i64 0, .slice NA nn nc, .slice SA L.length sc, .int .i64 0, .int .i64 hi, .int .i64 st, .int .i64 hgt, v] from fun v => by rw [hP]; rfl)
  have HPE := Lib.hid hP
  clear hP
  have HS := Lib.hid hs
  have HL0 := Lib.hid (((Loc.start w).alloc' rfl 51 #[.int .i64 0, .slice NA nn nc, .slice SA L.length sc]).alloc' (g := w.heap.size + 1) (by simp) 64 #[.int .i64 0, .int .i64 hi, .int .i64 st])
  have HR := Lib.hid fun W (hW : Below w.heap.size w W) => crange_any NA nn nc SA L.length sc L M W h (hs.below hW)
  have HCK := Lib.hid fun W => scheck_any hi st W hsc
  have HC := Lib.hid h
  have HSC := Lib.hid hsc
  have HU := Lib.hid hup
  have n1 := h.n1
  have n2 := h.n2
  have h0 := hsc.h0
  clear h hs hsc hup
  obtain ⟨x0, x1, x2, -, -, -⟩ := (HL0.out.blk (g := w.heap.size) (t := 51) (cs := #[.int .i64 0, .slice NA nn nc, .slice SA L.length sc]) (by simp)).three
  obtain ⟨y0, y1, y2, -, -, -⟩ := (HL0.out.blk (g := w.heap.size + 1) (t := 64) (cs := #[.int .i64 0, .int .i64 hi, .int .i64 st]) (by simp)).three
  go_enter Tryz.func18, Tryz.ntmps18
  go_upto_region 4 with (go_at_call 16; (with_reducible refine (HR.out _ HL0.out.bel).mono ?_); rintro e w1 ⟨h9, rfl, hm9, hb⟩; have HL1 := Lib.hid (HL0.out.step hb); have HH := Lib.hid (hm9.le (Int.le_of_lt h0) HU.out); clear hb hm9 x0 x1 x2 y0 y1 y2; obtain ⟨x0, x1, x2, -, -, -⟩ := (HL1.out.blk (g := w.heap.size) (t := 51) (cs := #[.int .i64 0, .slice NA nn nc, .slice SA L.length sc]) (by simp)).three; obtain ⟨y0, y1, y2, -, -, -⟩ := (HL1.out.blk (g := w.heap.size + 1) (t := 64) (cs := #[.int .i64 0, .int .i64 hi, .int .i64 st]) (by simp)).three)
  have hh := HH.out
  go_upto_region 11 with (go_at_call 44; (with_reducible refine (HCK.out _).mono ?_); rintro e w2 ⟨rfl, hb⟩; have HL2 := Lib.hid (HL1.out.step hb); clear hb x0 x1 x2 y0 y1 y2; obtain ⟨x0, x1, x2, -, -, -⟩ := (HL2.out.blk (g := w.heap.size) (t := 51) (cs := #[.int .i64 0, .slice NA nn nc, .slice SA L.length sc]) (by simp)).three; obtain ⟨y0, y1, y2, -, -, -⟩ := (HL2.out.blk (g := w.heap.size + 1) (t := 64) (cs := #[.int .i64 0, .int .i64 hi, .int .i64 st]) (by simp)).three)
  have HE := Lib.hid fun W => edges_any 1000 nn W (by decide) n1 (by omega)
  rw [show ((1000 : Nat) : Int) = 1000 from rfl] at HE
  have HL3 := Lib.hid ((HL2.out.alloc 120 (mkC P (.slice none 0 0))).bel)
  have HM0 := Lib.hid (show Mk w2.heap.size (w2.heap.size + 1) P (.slice none 0 0) [] (w2.alloc (.cells (mkC P (.slice none 0 0)) 120)) from ⟨by omega, by simp, Blk.new _ _ _, RowOf.nil _ _⟩)
  have HBC := Lib.hid (HL2.out.blk (g := w.heap.size) (t := 51) (cs := #[.int .i64 0, .slice NA nn nc, .slice SA L.length sc]) (by simp))
  rw [HPC.out] at HL3 HM0
  have hm2 := HL2.out.bel.size
  have hm3 := HBC.out.lt
  obtain ⟨u0, u1, u2, -, -, -⟩ := (HBC.out.alloc (.cells #[.int .i64 0, .slice NA nn nc, .slice SA L.length sc, .int .i64 0, .int .i64 hi, .int .i64 st, .int .i64 hgt, .slice none 0 0] 120)).three
  go_wp2_with (go_at_call 45; (with_reducible refine (HE.out _).mono ?_); rintro e w3 ⟨rfl, hrf, hb, hsz⟩; have HF := Lib.hid hrf; have HB3 := Lib.hid hb; have HM3 := Lib.hid (HM0.out.later hb); have HL4 := Lib.hid (bel2 HL3.out hb); have HBD := Lib.hid ((HBC.out.alloc (.cells #[.int .i64 0, .slice NA nn nc, .slice SA L.length sc, .int .i64 0, .int .i64 hi, .int .i64 st, .int .i64 hgt, .slice none 0 0] 120)).later hb); clear hb hrf hsz u0 u1 u2 x0 x1 x2 y0 y1 y2; obtain ⟨x0, x1, x2, -, -, -⟩ := HBD.out.three)
  obtain ⟨F, hF⟩ : ∃ F : Nat → Nat, F = fun x => 1000 * x / nn := ⟨_, rfl⟩
  have HFB := Lib.hid (show ∀ x, x < nn → F x ≤ F (x + 1) ∧ F (x + 1) ≤ 1000 from fun x hx => by
    rw [hF]
    have h1 : 1000 * (x + 1) ≤ 1000 * nn := Nat.mul_le_mul_left _ hx
    have h2 := Nat.div_le_div_right (c := nn) h1
    have h3 := Nat.div_le_div_right (c := nn) (show 1000 * x ≤ 1000 * (x + 1) by omega)
    rw [Nat.mul_div_cancel _ (by omega)] at h2
    exact ⟨h3, h2⟩)
  have HFX := Lib.hid (show RF (nn + 1) w3 (w2.heap.size + 1) (w2.heap.size + 1) F by
    have := HF.out
    rw [← hF] at this
    simpa using this)
  clear hF HE HF HM0 HL3
  have HBS := Lib.hid fun W v l i x wd (hk : Mk w2.heap.size (w2.heap.size + 1) P v l W) (hl : l.length ≤ 90000) (hb : Below w.heap.size w W) (h1 : ∀ l ∈ L, i < l.length) (h2 : wd ≤ 100000) (h3 : x ≤ 100000) => beside_any w2.heap.size (w2.heap.size + 1) P v l i x wd L W hk hl (by rw [HPE.out]; exact HSC.out) (by rw [HPE.out]; dsimp only; omega) (by rw [HPE.out]; dsimp only; omega) w hb hm2 (by rw [HPE.out]; exact HS.out) HC.out.l2 h1 (fun l hl n hn => ⟨(HC.out.rg l hl n hn).1, by rw [HPE.out]; exact HU.out l hl n hn⟩) h2 h3
  go_loopw [75] (fun u wr => ∃ (i : Nat) (v : Value) (l : List Bar), i ≤ nn ∧ u = .int .i64 i ∧ Hid (Mk w2.heap.size (w2.heap.size + 1) P v l wr) ∧ Hid (BarsAt P L l i) ∧ Hid (Below w.heap.size w wr) ∧ Hid (RF (nn + 1) wr (w2.heap.size + 1) (w2.heap.size + 1) F) ∧ Hid (Blk wr w.heap.size 51 #[.int .i64 0, .slice NA nn nc, .slice SA L.length sc])) (fun u _ => nn - (intOf u).toNat)
  case atStart => exact ⟨0, _, [], Nat.zero_le _, rfl, HM3, Lib.hid (BarsAt.zero P L), HL4, HFX, HBD⟩
  case round =>
    clear x0 x1 x2 HM3 HL4 HFX HBD
    obtain ⟨i, v, l, hi2, rfl, HM, HBA, HB, HF, HBD⟩ := hrel
    obtain ⟨x0, x1, x2, -, -, -⟩ := HBD.out.three
    by_cases hlt : i < nn
    · have hl1 : l.length ≤ 90000 := by
        have h1 := HBA.out.1
        have h2 : i * L.length ≤ 200 * 12 := Nat.mul_le_mul (by omega) HC.out.l2
        omega
      obtain ⟨f1, f2⟩ := HFB.out i hlt
      have q1 := HF.out.cell (i := i) (by omega)
      have q3 := HF.out.cell (i := i + 1) (by omega)
      have HSS := Lib.hid (show ∀ W, RF (nn + 1) W (w2.heap.size + 1) (w2.heap.size + 1) F → W.cell? ⟨w2.heap.size + 1, i, none⟩ = some (.int .i64 (F i : Int)) ∧ W.cell? ⟨w2.heap.size + 1, i + 1, none⟩ = some (.int .i64 (F (i + 1) : Int)) from fun W hW => ⟨hW.cell (by omega), hW.cell (by omega)⟩)
      generalize F i = a1 at f1 f2 q1 HSS
      generalize F (i + 1) = a3 at f1 f2 q3 HSS
      have HQ := Lib.hid fun W (hk : Mk w2.heap.size (w2.heap.size + 1) P v l W) (hb : Below w.heap.size w W) => HBS.out W v l i a1 (a3 - a1) hk hl1 hb (fun l hl => by have := HC.out.ln l hl; omega) (by omega) (by omega)
      rw [show ((a3 - a1 : Nat) : Int) = (a3 : Int) - (a1 : Int) from Int.natCast_sub f1] at HQ
      have z1 : IntKind.i64.wrap ((i : Int) + 1) = (i : Int) + 1 := IntWalk.i64_in _ (by omega)
      have z3 : IntKind.i64.wrap ((a3 : Int) - (a1 : Int)) = (a3 : Int) - (a1 : Int) := IntWalk.i64_in _ (by omega)
      have t1 : ((i : Int) + 1).toNat = i + 1 := by omega
      have u1 : (0 : Int) ≤ (i : Int) + 1 := by omega
      have v1 : (i : Int) + 1 < ((nn + 1 : Nat) : Int) := by omega
      have v0 : i < nn + 1 := by omega
      have w1 : (0 : Int) ≤ (i : Int) := by omega
      have v2 : (i : Int) < ((nn + 1 : Nat) : Int) := by omega
      have v3 : (i : Int) < (nn : Int) + 1 := by omega
      have v4 : (i : Int) ≤ (nn : Int) := by omega
      go_upto_region 23 with fail
      go_region_held3 (fun W => W.cell? ⟨w2.heap.size + 1, i, none⟩ = some (.int .i64 a1) ∧ W.cell? ⟨w2.heap.size + 1, i + 1, none⟩ = some (.int .i64 a3)) (first | exact ⟨by assumption, by assumption⟩ | exact HSS.out _ HF2.out) (first
        | (go_at_call 46; (with_reducible refine (HQ.out _ (by first | exact HM.out.drew | exact HM.out.drewN _) (by first | exact HB.out.drew | exact bdn HB.out _)).mono ?_); rintro e w4 ⟨rfl, ⟨v4, l4, hm4, hb4⟩, hc4, hk4⟩; have HM2 := Lib.hid hm4; have HB2 := Lib.hid hb4; have HC2 := Lib.hid hc4; have HF2 := Lib.hid (HF.out.drew.ki hk4 hc4.size); clear hm4 hb4 hc4 hk4))
      all_goals
        try clear v2 v3 v4
        have HB3 := Lib.hid (HB.out.drew.trans (HC2.out.below (by omega) (by simpa using hm2)))
        have HD3 := Lib.hid (HC2.out.blk HBD.out.drew (by omega) (by simp; omega))
        have HA3 := Lib.hid (HBA.out.next HB2.out)
        go_wp2_with fail
        go_roundw
        case rel => exact ⟨i + 1, v4, l4, by omega, by go_num, HM2, HA3, HB3, HF2, HD3⟩
        case measure => simp [intOf]; omega
    · obtain rfl : i = nn := by omega
      have e7 : wr.cell? ⟨w2.heap.size, 7, none⟩ = some v := HM.out.blk.cell 7
      have HO := Lib.hid HM.out.own
      obtain ⟨A7, n7, c7, rfl⟩ : ∃ A n c, v = .slice A n c := by
        rcases HO.out.2 with ⟨rfl, -⟩ | ⟨g', cap, cur, rfl, -⟩
        · exact ⟨none, 0, 0, rfl⟩
        · exact ⟨_, _, _, rfl⟩
      go_wp2_with fail
      go_ret2
      exact ⟨_, l, rfl, by rw [HPE.out]; rw [HPE.out] at HBA; exact HBA.out, RowOf.mono HO.out (by omega), HB.out⟩
end Go.Proofs.YtigeipjkcidleaaGreatDoor
