/- Words for memory: a slice value that reads as a list of digits. -/
import Derived.Test.YtcnlonaighlmbaaGreatDoorRows
import Derived.Test.YtcnlonaighlmbaaGreatDoorNatP
import Derived.WalkKit
import Derived.WalkSpells
import Derived.WalkLawsBesides
import Derived.Outline
import Derived.Lib.Hide
import Derived.Handy
import Derived.Lib.Builder
import Derived.Deep.Draws
import Derived.Laws.CopyOwn
import Derived.Maps.AppendAt
import Derived.Deep.AppendLies
import Derived.RegionTactic
import Derived.OwnWalk
import Derived.WalkSmall
import Derived.Laws.OwnMore
import Derived.Laws.AppendOwnNone
set_option linter.unusedSimpArgs false
set_option linter.unusedVariables false
namespace Go.Proofs.YtcnlonaighlmbaaGreatDoor
open Go.RowKit

theorem ret_bool {a b : Bool} (h : a = b) : Ending.returned (.bool a) = .returned (.bool b) := by rw [h]
theorem ret_int {k : IntKind} {a b : Int} (h : a = b) : Ending.returned (.int k a) = .returned (.int k b) := by rw [h]
theorem below_tr {w w1 w2 : World} (h1 : Below w.heap.size w w1) (h2 : Below w1.heap.size w1 w2) : Below w.heap.size w w2 := h1.trans (h2.mono h1.size)

/-- Where the digits lie. -/
def Cells (w : World) (A : Option Addr) (l : List Nat) : Prop :=
  0 < l.length → ∃ b o, A = some ⟨b, o, none⟩ ∧ b < w.heap.size ∧ ∀ i (h : i < l.length), w.cell? ⟨b, o + i, none⟩ = some (.int .u32 (l[i] : Int))
/-- The value v reads as the digits l. -/
structure Nv (w : World) (v : Value) (l : List Nat) : Prop where
  ex : ∃ A c, v = .slice A l.length c ∧ l.length ≤ c ∧ l.length ≤ 1099511627776 ∧ (A = none → c = 0) ∧ Cells w A l

section
variable {w w' : World} {v : Value} {l : List Nat} {A : Option Addr}
theorem Cells.nil : Cells w A [] := fun h => by simp at h
theorem Cells.below (h : Cells w A l) (hb : Below w.heap.size w w') : Cells w' A l := fun hl => by
  obtain ⟨b, o, e, h1, h2⟩ := h hl
  exact ⟨b, o, e, Nat.lt_of_lt_of_le h1 hb.size, fun i hi => (hb.cell (by exact h1)).trans (h2 i hi)⟩
theorem Cells.drewN (h : Cells w A l) (n : Nat) : Cells (w.drewN n) A l := h
theorem Cells.drew (h : Cells w A l) : Cells w.drew A l := h
theorem Cells.take (h : Cells w A l) (k : Nat) : Cells w A (l.take k) := fun hl => by
  have hl' : 0 < l.length := by simp at hl; omega
  obtain ⟨b, o, e, h1, h2⟩ := h hl'
  refine ⟨b, o, e, h1, fun i hi => ?_⟩
  have hi' : i < l.length := by simp at hi; omega
  rw [h2 i hi']
  simp
theorem Nv.nil : Nv w (.slice none 0 0) [] := ⟨none, 0, rfl, Nat.le_refl _, by simp, fun _ => rfl, Cells.nil⟩
theorem Nv.below (h : Nv w v l) (hb : Below w.heap.size w w') : Nv w' v l := by
  obtain ⟨A, c, e, h1, h2, h0, h3⟩ := h.ex
  exact ⟨A, c, e, h1, h2, h0, h3.below hb⟩
theorem Nv.drewN (h : Nv w v l) (n : Nat) : Nv (w.drewN n) v l := by
  obtain ⟨A, c, e, h1, h2, h0, h3⟩ := h.ex
  exact ⟨A, c, e, h1, h2, h0, h3⟩
theorem Nv.drew (h : Nv w v l) : Nv w.drew v l := by
  obtain ⟨A, c, e, h1, h2, h0, h3⟩ := h.ex
  exact ⟨A, c, e, h1, h2, h0, h3⟩
/-- The value lies in blocks from B on. -/
def Hi (B : Nat) (v : Value) : Prop := ∀ ad n c, v = .slice (some ad) n c → B ≤ ad.block
theorem Nv.setCell {B : Nat} (h : Nv w v l) (hh : Hi B v) {p : Addr} (hp : p.block < B) (u : Value) : Nv (w.setCell p u) v l := by
  obtain ⟨A, c, rfl, h1, h2, h0, h3⟩ := h.ex
  refine ⟨A, c, rfl, h1, h2, h0, fun hl => ?_⟩
  obtain ⟨b, o, rfl, h4, h5⟩ := h3 hl
  have hB := hh _ _ _ rfl
  refine ⟨b, o, rfl, by simpa [World.setCell] using h4, fun i hi => ?_⟩
  rw [World.cell?_setCell_other _ _ _ _ (fun e => by have := congrArg Addr.block e; simp only at this hB; omega)]
  exact h5 i hi
theorem Nv.len (h : Nv w v l) : l.length ≤ 1099511627776 := by
  obtain ⟨A, c, e, h1, h2, h0, h3⟩ := h.ex
  omega
end

theorem u32_info : (Tryz.prog.info? 111).map (fun i => (i.zero, i.size, i.bytes)) = some (some (.int .u32 0), 1, 4) := by kernel_rfl

/-- The digits as cells. -/
def dcs (l : List Nat) : List Value := l.map fun (d : Nat) => Value.int .u32 (d : Int)
theorem dcs_append (a b : List Nat) : dcs (a ++ b) = dcs a ++ dcs b := by simp [dcs]
theorem dcs_length (l : List Nat) : (dcs l).length = l.length := by simp [dcs]
theorem dcs_set (l : List Nat) (i d : Nat) : dcs (l.set i d) = (dcs l).set i (.int .u32 (d : Int)) := by simp [dcs, List.map_set]
theorem dcs_get {l : List Nat} {i : Nat} (h : i < l.length) : (dcs l)[i]? = some (.int .u32 (l[i] : Int)) := by simp [dcs, h]
theorem dcs_rep (n : Nat) : dcs (List.replicate n 0) = List.replicate n (.int .u32 0) := by simp [dcs]

/-- The value owns a row of the call's own that reads as the digits l. -/
def Own (w : World) (base : Nat) (v : Value) (l : List Nat) : Prop := w.ownsRow base 111 1 v l.length (dcs l)

section
variable {w w' : World} {v : Value} {l : List Nat} {base : Nat}
theorem Own.nil (w : World) (base : Nat) : Own w base (.slice none 0 0) [] := World.ownsRow_nil _ _ _ _
theorem Own.form (h : Own w base v l) (hl : 0 < l.length) : ∃ g c, v = .slice (some ⟨g, 0, none⟩) l.length c ∧ base ≤ g ∧ g < w.heap.size := World.ownsRow.form h hl
theorem Own.hi (h : Own w base v l) : Hi base v := fun ad n c e => by
  subst e
  exact (World.ownsRow.lt h ad.block rfl).1
theorem Own.shape (h : Own w base v l) : ∃ A c, v = .slice A l.length c ∧ (0 < l.length → ∃ g, A = some ⟨g, 0, none⟩ ∧ base ≤ g ∧ g < w.heap.size) := by
  rcases Nat.eq_zero_or_pos l.length with h0 | h0
  · obtain rfl := List.eq_nil_of_length_eq_zero h0
    rcases h.2 with ⟨rfl, _⟩ | ⟨g, cap, cur, rfl, _, _, hc, _⟩
    · exact ⟨none, 0, rfl, fun h => absurd h (by simp)⟩
    · exact ⟨_, cap, rfl, fun h => absurd h (by simp)⟩
  · obtain ⟨g, c, rfl, hb, hg⟩ := h.form h0
    exact ⟨_, c, rfl, fun _ => ⟨g, rfl, hb, hg⟩⟩
theorem Own.cell {g c : Nat} (h : Own w base (.slice (some ⟨g, 0, none⟩) l.length c) l) {i : Nat} (hi : i < l.length) : w.cell? ⟨g, i, none⟩ = some (.int .u32 (l[i] : Int)) := by
  have := World.ownsRow.cellAt h i (by omega)
  rw [this, dcs_get hi]
theorem Own.frozen {g c : Nat} (h : Own w base (.slice (some ⟨g, 0, none⟩) l.length c) l) (i : Nat) : w.frozen? ⟨g, i, none⟩ = false := World.ownsRow.frozenAt h i
theorem Own.set {g c : Nat} (h : Own w base (.slice (some ⟨g, 0, none⟩) l.length c) l) (i d : Nat) : Own (w.setCell ⟨g, i, none⟩ (.int .u32 (d : Int))) base (.slice (some ⟨g, 0, none⟩) l.length c) (l.set i d) := by
  have := (World.ownsRow.stored h i (.int .u32 (d : Int))).1
  unfold Own
  rw [List.length_set, dcs_set]
  exact this
theorem Own.cell' {g c n : Nat} (h : Own w base (.slice (some ⟨g, 0, none⟩) n c) l) (hn : l.length = n) {i : Nat} (hi : i < l.length) : w.cell? ⟨g, i, none⟩ = some (.int .u32 (l[i] : Int)) := by
  subst hn; exact h.cell hi
theorem Own.frozen' {g c n : Nat} (h : Own w base (.slice (some ⟨g, 0, none⟩) n c) l) (hn : l.length = n) (i : Nat) : w.frozen? ⟨g, i, none⟩ = false := by
  subst hn; exact h.frozen i
theorem Own.set' {g c n : Nat} (h : Own w base (.slice (some ⟨g, 0, none⟩) n c) l) (hn : l.length = n) (i : Nat) {y : Int} (d : Nat) (hy : y = (d : Int)) : Own (w.setCell ⟨g, i, none⟩ (.int .u32 y)) base (.slice (some ⟨g, 0, none⟩) n c) (l.set i d) := by
  subst hn hy; exact h.set i d
theorem Own.alloc (h : Own w base v l) (o : Obj) : Own (w.alloc o) base v l := World.ownsRow.alloc h o
theorem Own.drewN (h : Own w base v l) (n : Nat) : Own (w.drewN n) base v l := h
theorem Own.later (h : Own w base v l) (hb : Below w.heap.size w w') : Own w' base v l := by
  refine World.ownsRow.kept h (row := none) ⟨hb.os, hb.tape, hb.output, hb.size, fun k hk _ => hb.block k hk⟩ ?_
  cases hv : v.ownBlock
  · exact .inl rfl
  · exact .inr (by simp)
theorem Own.laterB {B : Nat} (h : Own w base v l) (hb : Below B w w') (hv : ∀ g, v.ownBlock = some g → g < B) : Own w' base v l := by
  refine ⟨h.1, ?_⟩
  rcases h.2 with h0 | ⟨g, cap, cur, rfl, h1, h2, h3, h4, h5, h6⟩
  · exact .inl h0
  · exact .inr ⟨g, cap, cur, rfl, h1, (hb.block g (hv g rfl)).trans h2, h3, h4, h5, h6⟩
theorem Own.far (h : Own w base v l) {p : Addr} (hp : ∀ g, v.ownBlock = some g → g ≠ p.block) (u : Value) : Own (w.setCell p u) base v l := by
  refine World.ownsRow.kept h (row := some p.block) ⟨rfl, rfl, rfl, by simp [World.setCell], fun k _ hk => Below.heap_setCell _ _ _ _ (fun e => hk (by rw [e]))⟩ ?_
  cases hv : v.ownBlock with
  | none => exact .inl rfl
  | some g => exact .inr (fun e => hp g hv (by injection e))
theorem Own.nv (h : Own w base v l) (hl : l.length ≤ 1099511627776) : Nv w v l := by
  refine ⟨?_⟩
  rcases Nat.eq_zero_or_pos l.length with h0 | h0
  · obtain rfl := List.eq_nil_of_length_eq_zero h0
    rcases h.2 with ⟨rfl, _⟩ | ⟨g, cap, cur, rfl, _, _, hc, _⟩
    · exact ⟨none, 0, rfl, Nat.le_refl _, hl, fun _ => rfl, Cells.nil⟩
    · exact ⟨_, cap, rfl, hc, hl, (fun h => by cases h), Cells.nil⟩
  · obtain ⟨g, c, rfl, hb, hg⟩ := h.form h0
    have hc : l.length ≤ c := by
      rcases h.2 with ⟨h', _⟩ | ⟨g', cap', cur, h', _, _, hc, _⟩
      · simp at h'
      · simp at h'; omega
    exact ⟨_, c, rfl, hc, hl, (fun h => by cases h), fun _ => ⟨g, 0, rfl, hg, fun i hi => by rw [Nat.zero_add]; exact h.cell hi⟩⟩
theorem Own.below {B : Nat} {w0 : World} {g : Nat} {d : Value} (hb : Below B w0 w) (hg : B ≤ g) (i : Nat) : Below B w0 (w.setCell ⟨g, i, none⟩ d) := hb.setCell (p := ⟨g, i, none⟩) hg d
end

section
variable {ops : Array Oper} {rest : List Oper} {o : Oper} {a : Act} {Q : Exit → Act → World → Prop}

theorem slice_u : Tryz.prog.underlying 58 = some (.slice 111) := Tryz.underlying58

/-- append of one digit to a row of the call's own. -/
theorem wp_app1 {w : World} (hgd : o.guard = none) (s x : Operand) (ho : o.op = .call { callee := .builtin .append, args := #[s, x], argTypes := #[58, 58] })
    (base : Nat) (v : Value) (l : List Nat) (hs : a.eval s = v) (hown : Own w base v l) (y : Int) (d : Nat) (hy : y = (d : Int)) (hx : a.eval x = .slice (some ⟨w.heap.size, 0, none⟩) 1 1)
    (hlen : l.length + 1 ≤ 1099511627776) (hbase : base ≤ w.heap.size)
    (h : ∀ v' w', Own w' base v' (l ++ [d]) → Below base w w' → (w.alloc (.cells #[.int .u32 y] 111)).grownBy w' v.ownBlock → wpList Tryz.prog ops Q rest (a.put o.dst v') w') :
    wpList Tryz.prog ops Q (o :: rest) a (w.alloc (.cells #[.int .u32 y] 111)) := by
  subst hy
  obtain ⟨i0, hi, hz0, hz1, hz2⟩ := info_parts u32_info
  have hown' := hown.alloc (.cells #[.int .u32 (d : Int)] 111)
  refine wpList_append_own_at _ hgd s x 58 ho base 111 i0 (.int .u32 0) 1 4 slice_u hi hz0 hz1 hz2 rfl (by decide) v l.length (dcs l) hs hown' ⟨w.heap.size, 0, none⟩ 1 1 [.int .u32 (d : Int)] hx rfl (cell_one_new _ _ _) (by simp [Value.oneCell']) (by unfold maxLen; omega) (by omega) (by simp; omega) ?_
  intro v' w' h1 h2 _ _
  refine h v' w' ?_ ?_ h2
  · unfold Own
    rw [dcs_append, List.length_append]
    exact h1
  · exact ((Below.refl _ _).alloc hbase _).grown h2 (by simp; omega) (fun k hk => ((World.ownsRow.lt hown) k hk).1)

theorem Nv.src {w : World} {vx : Value} {lx : List Nat} (h : Nv w vx lx) : (vx = .slice none 0 0 ∧ lx = []) ∨ ∃ ad c, vx = .slice (some ad) lx.length c ∧ (∀ j u, (dcs lx)[j]? = some u → w.cell? (ad.add j) = some u) ∧ (0 < lx.length → ad.block < w.heap.size) := by
  obtain ⟨A, c, rfl, h1, h2, h0, h3⟩ := h.ex
  cases A with
  | none =>
    left
    have hl : lx = [] := by
      rcases Nat.eq_zero_or_pos lx.length with e | e
      · exact List.eq_nil_of_length_eq_zero e
      · obtain ⟨b, o, e', _⟩ := h3 e
        cases e'
    subst hl
    rw [h0 rfl]
    exact ⟨rfl, rfl⟩
  | some ad =>
    right
    refine ⟨ad, c, rfl, fun j u hj => ?_, fun e => ?_⟩
    · have hjl : j < lx.length := by
        have := (List.getElem?_eq_some_iff.1 hj).1
        rwa [dcs_length] at this
      obtain ⟨b, o, e, hb, hc⟩ := h3 (by omega)
      injection e with e
      subst e
      rw [dcs_get hjl] at hj
      injection hj with hj
      subst hj
      have : (⟨b, o, none⟩ : Addr).add j = ⟨b, o + j, none⟩ := by
        unfold Addr.add
        by_cases h0 : j = 0 <;> simp [h0]
      rw [this]
      exact hc j hjl
    · obtain ⟨b, o, e', hb, hc⟩ := h3 e
      injection e' with e'
      subst e'
      exact hb

/-- append of digits to a row of the call's own. -/
theorem wp_appN {w : World} (hgd : o.guard = none) (s x : Operand) (ho : o.op = .call { callee := .builtin .append, args := #[s, x], argTypes := #[58, 58] })
    (base : Nat) (v : Value) (l : List Nat) (hs : a.eval s = v) (hown : Own w base v l) (vx : Value) (lx : List Nat) (hx : a.eval x = vx) (hnv : Nv w vx lx)
    (hlen : l.length + lx.length ≤ 1099511627776) (hbase : base ≤ w.heap.size)
    (h : ∀ v' w', Own w' base v' (l ++ lx) → Below base w w' → w.grownBy w' v.ownBlock → wpList Tryz.prog ops Q rest (a.put o.dst v') w') :
    wpList Tryz.prog ops Q (o :: rest) a w := by
  obtain ⟨i0, hi, hz0, hz1, hz2⟩ := info_parts u32_info
  rcases hnv.src with ⟨rfl, rfl⟩ | ⟨ad, c, rfl, hc, hlt⟩
  · refine wpList_append_own_none hgd s x 58 ho base 111 i0 1 slice_u hi v l.length (dcs l) hs hown hx ?_
    exact h v w (by rw [List.append_nil]; exact hown) (Below.refl _ _) (World.grownBy.refl w _)
  · refine wpList_append_own_at _ hgd s x 58 ho base 111 i0 (.int .u32 0) 1 4 slice_u hi hz0 hz1 hz2 rfl (by decide) v l.length (dcs l) hs hown ad lx.length c (dcs lx) hx (by rw [dcs_length]; omega) hc (by intro u hu; obtain ⟨d, _, rfl⟩ := List.mem_map.1 hu; rfl) (by unfold maxLen; omega) (by omega) hbase ?_
    intro v' w' h1 h2 _ _
    refine h v' w' ?_ ?_ h2
    · unfold Own
      rw [dcs_append, List.length_append]
      exact h1
    · exact (Below.refl _ _).grown h2 hbase (fun k hk => ((World.ownsRow.lt hown) k hk).1)

/-- A literal of one digit. -/
theorem own_lit1 (w : World) (base : Nat) (hb : base ≤ w.heap.size) (y : Int) (d : Nat) (hy : y = (d : Int)) : Own (w.alloc (.cells #[.int .u32 y] 111)) base (.slice (some ⟨w.heap.size, 0, none⟩) 1 1) [d] := by
  subst hy
  exact World.ownsRow_lit w #[.int .u32 (d : Int)] 1 hb (by unfold maxLen; omega) rfl
theorem own_lit0 (w : World) (base : Nat) (hb : base ≤ w.heap.size) : Own (w.alloc (.cells #[] 111)) base (.slice (some ⟨w.heap.size, 0, none⟩) 0 0) [] :=
  World.ownsRow_lit w #[] 0 hb (by unfold maxLen; omega) rfl

/-- make of a row of zeros. -/
theorem wp_make0 {w : World} (hgd : o.guard = none) (x y : Operand) (ho : o.op = Op.makeSlice 58 x y) (base : Nat) (C D : Int) (n : Nat) (hx : a.eval x = .int .i64 C) (hy : a.eval y = .int .i64 D) (hC : C = (n : Int)) (hD : D = (n : Int))
    (hn : n ≤ 1099511627776) (hbase : base ≤ w.heap.size)
    (h : ∀ w', Own w' base (.slice (some ⟨w.heap.size, 0, none⟩) n n) (List.replicate n 0) → w.grownBy w' none → w.heap.size < w'.heap.size → wpList Tryz.prog ops Q rest (a.put o.dst (.slice (some ⟨w.heap.size, 0, none⟩) n n)) w') :
    wpList Tryz.prog ops Q (o :: rest) a w := by
  obtain ⟨i0, hi, hz0, hz1, hz2⟩ := info_parts u32_info
  refine wpList_make_full w hgd x y 58 ho base 111 i0 (.int .u32 0) 1 slice_u hi hz0 hz1 .i64 .i64 C D n hx hy hC hD (by rw [hz2]; omega) (by unfold maxLen; omega) hbase ?_
  intro w' h1 h2
  refine h w' ?_ h2 ((World.ownsRow.lt h1 w.heap.size rfl).2)
  unfold Own
  rw [dcs_rep, List.length_replicate]
  have e : (madeCells (Value.int IntKind.u32 0).cells (n * 1)).toList = List.replicate n (Value.int .u32 0) := by
    rw [Nat.mul_one]
    exact toList_madeCells_one _ _
  rw [← e]
  exact h1
/-- make of an empty row with room. -/
theorem wp_make_room {w : World} (hgd : o.guard = none) (x y : Operand) (ho : o.op = Op.makeSlice 58 x y) (base : Nat) (D : Int) (n : Nat) (hx : a.eval x = .int .i64 0) (hy : a.eval y = .int .i64 D) (hD : D = (n : Int))
    (hn : n ≤ 1099511627776) (hbase : base ≤ w.heap.size)
    (h : ∀ w', Own w' base (.slice (some ⟨w.heap.size, 0, none⟩) 0 n) [] → w.grownBy w' none → wpList Tryz.prog ops Q rest (a.put o.dst (.slice (some ⟨w.heap.size, 0, none⟩) 0 n)) w') :
    wpList Tryz.prog ops Q (o :: rest) a w := by
  obtain ⟨i0, hi, hz0, hz1, hz2⟩ := info_parts u32_info
  refine wpList_make_own w hgd x y 58 ho base 111 i0 (.int .u32 0) 1 slice_u hi hz0 hz1 .i64 .i64 D n hx hy hD (by rw [hz2]; omega) (by unfold maxLen; omega) hbase ?_
  intro w' h1 h2
  exact h w' h1 h2
end
theorem below_made {w w' : World} {B : Nat} {w0 : World} (hb : Below B w0 w) (hB : B ≤ w.heap.size) (h : w.grownBy w' none) : Below B w0 w' := hb.grown h hB (fun k hk => by cases hk)
end Go.Proofs.YtcnlonaighlmbaaGreatDoor
