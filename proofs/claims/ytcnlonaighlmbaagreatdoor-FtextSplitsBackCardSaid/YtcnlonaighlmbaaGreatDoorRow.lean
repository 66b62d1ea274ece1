/- Words for memory: a row of the call's own whose elements are of any type of a fixed number of cells; a slice value that reads as a list of such elements. -/
import Derived.Test.YtcnlonaighlmbaaGreatDoorRows
import Derived.WalkKit
import Derived.Lib.Hide
import Derived.Lib.Builder
import Derived.Deep.Draws
import Derived.Maps.AppendAt
import Derived.Deep.AppendLies
import Derived.OwnWalk
import Derived.Laws.OwnMore
import Derived.Laws.AppendOwnNone
set_option linter.unusedSimpArgs false
set_option linter.unusedVariables false
namespace Go.Proofs.YtcnlonaighlmbaaGreatDoor
open Go.RowKit

theorem flat_get {α β : Type} (f : α → List β) (size : Nat) (hf : ∀ x, (f x).length = size) : ∀ (l : List α) (i j : Nat) (h : i < l.length), j < size → (l.flatMap f)[i * size + j]? = (f l[i])[j]?
  | [], i, j, h, _ => by simp at h
  | x :: t, 0, j, _, hj => by
    rw [List.flatMap_cons, List.getElem?_append_left (by rw [hf]; omega)]
    simp
  | x :: t, i + 1, j, h, hj => by
    have ih := flat_get f size hf t i j (by simpa using h) hj
    rw [List.flatMap_cons, List.getElem?_append_right (by rw [hf, Nat.add_mul]; omega), hf, show (i + 1) * size + j - size = i * size + j by rw [Nat.add_mul]; omega, ih]
    rfl
theorem flat_len {α β : Type} (f : α → List β) (size : Nat) (hf : ∀ x, (f x).length = size) : ∀ l : List α, (l.flatMap f).length = l.length * size
  | [] => by simp
  | x :: t => by rw [List.flatMap_cons, List.length_append, hf, flat_len f size hf t, List.length_cons, Nat.add_mul]; omega

/-- The value owns a row of the call's own that reads as the elements l. -/
def RowOf {α : Type} (E : TypeId) (size : Nat) (f : α → List Value) (w : World) (base : Nat) (v : Value) (l : List α) : Prop := w.ownsRow base E size v l.length (l.flatMap f)
/-- The value reads as the elements l. -/
def Reads {α : Type} (size : Nat) (f : α → List Value) (w : World) (v : Value) (l : List α) : Prop :=
  ∃ A c, v = .slice A l.length c ∧ l.length ≤ c ∧ (A = none → c = 0) ∧ (0 < l.length → ∃ b o, A = some ⟨b, o, none⟩ ∧ b < w.heap.size ∧ ∀ i (h : i < l.length) j, j < size → w.cell? ⟨b, o + (i * size + j), none⟩ = (f l[i])[j]?)

section
variable {α : Type} {E : TypeId} {size : Nat} {f : α → List Value} {w w' : World} {v : Value} {l : List α} {base : Nat}
theorem RowOf.nil (w : World) (base : Nat) : RowOf E size f w base (.slice none 0 0) [] := World.ownsRow_nil _ _ _ _
theorem RowOf.form (h : RowOf E size f w base v l) (hl : 0 < l.length) : ∃ g c, v = .slice (some ⟨g, 0, none⟩) l.length c ∧ base ≤ g ∧ g < w.heap.size := World.ownsRow.form h hl
theorem RowOf.alloc (h : RowOf E size f w base v l) (o : Obj) : RowOf E size f (w.alloc o) base v l := World.ownsRow.alloc h o
theorem RowOf.drewN (h : RowOf E size f w base v l) (n : Nat) : RowOf E size f (w.drewN n) base v l := h
theorem RowOf.drew (h : RowOf E size f w base v l) : RowOf E size f w.drew base v l := h
theorem RowOf.later (h : RowOf E size f w base v l) (hb : Below w.heap.size w w') : RowOf E size f w' base v l := by
  refine World.ownsRow.kept h (row := none) ⟨hb.os, hb.tape, hb.output, hb.size, fun k hk _ => hb.block k hk⟩ ?_
  cases hv : v.ownBlock
  · exact .inl rfl
  · exact .inr (by simp)
theorem RowOf.far (h : RowOf E size f w base v l) {p : Addr} (hp : ∀ g, v.ownBlock = some g → g ≠ p.block) (u : Value) : RowOf E size f (w.setCell p u) base v l := by
  refine World.ownsRow.kept h (row := some p.block) ⟨rfl, rfl, rfl, by simp [World.setCell], fun k _ hk => Below.heap_setCell _ _ _ _ (fun e => hk (by rw [e]))⟩ ?_
  cases hv : v.ownBlock with
  | none => exact .inl rfl
  | some g => exact .inr (fun e => hp g hv (by injection e))
theorem RowOf.reads (h : RowOf E size f w base v l) (hf : ∀ x, (f x).length = size) : Reads size f w v l := by
  rcases Nat.eq_zero_or_pos l.length with h0 | h0
  · obtain rfl := List.eq_nil_of_length_eq_zero h0
    rcases h.2 with ⟨rfl, _⟩ | ⟨g, cap, cur, rfl, _, _, hc, _⟩
    · exact ⟨none, 0, rfl, Nat.le_refl _, fun _ => rfl, fun h => absurd h (by simp)⟩
    · exact ⟨_, cap, rfl, hc, (fun h => by cases h), fun h => absurd h (by simp)⟩
  · obtain ⟨g, c, rfl, hb, hg⟩ := h.form h0
    have hc : l.length ≤ c := by
      rcases h.2 with ⟨h', _⟩ | ⟨g', cap', cur, h', _, _, hc, _⟩
      · simp at h'
      · simp at h'; omega
    refine ⟨_, c, rfl, hc, (fun h => by cases h), fun _ => ⟨g, 0, rfl, hg, fun i hi j hj => ?_⟩⟩
    have hlt : i * size + j < l.length * size := by
      have := Nat.mul_le_mul_right size (show i + 1 ≤ l.length from hi)
      rw [Nat.add_mul] at this
      omega
    rw [Nat.zero_add, World.ownsRow.cellAt h _ hlt, flat_get f size hf l i j hi hj]
theorem Reads.below (h : Reads size f w v l) (hb : Below w.heap.size w w') : Reads size f w' v l := by
  obtain ⟨A, c, e, h1, h0, h3⟩ := h
  refine ⟨A, c, e, h1, h0, fun hl => ?_⟩
  obtain ⟨b, o, e2, h4, h5⟩ := h3 hl
  exact ⟨b, o, e2, Nat.lt_of_lt_of_le h4 hb.size, fun i hi j hj => (hb.cell (by exact h4)).trans (h5 i hi j hj)⟩
theorem Reads.nil (w : World) : Reads size f w (.slice none 0 0) [] := ⟨none, 0, rfl, Nat.le_refl _, fun _ => rfl, fun h => absurd h (by simp)⟩
theorem Reads.drewN (h : Reads size f w v l) (n : Nat) : Reads size f (w.drewN n) v l := h
theorem Reads.drew (h : Reads size f w v l) : Reads size f w.drew v l := h
theorem Reads.shape (h : Reads size f w v l) : ∃ A c, v = .slice A l.length c := by
  obtain ⟨A, c, e, _⟩ := h
  exact ⟨A, c, e⟩
end

theorem news_new (w : World) (cs : Array Value) (t : TypeId) : ∀ j u, cs.toList[j]? = some u → (w.alloc (.cells cs t)).cell? ((⟨w.heap.size, 0, none⟩ : Addr).add j) = some u := by
  intro j u hj
  have h := Lib.cell_of_heap (heap_alloc_new w (.cells cs t)) j
  rw [show ((⟨w.heap.size, 0, none⟩ : Addr).add j) = ⟨w.heap.size, j, none⟩ by cases j <;> simp [Addr.add], h, ← Array.getElem?_toList]
  exact hj

section
variable {ops : Array Oper} {rest : List Oper} {o : Oper} {a : Act} {Q : Exit → Act → World → Prop}
/-- append of one element to a row of the call's own. -/
theorem wp_row1 {α : Type} (T E : TypeId) (size bytes : Nat) (f : α → List Value) (z : Value) (hu : Tryz.prog.underlying T = some (.slice E)) (hinfo : (Tryz.prog.info? E).map (fun i => (i.zero, i.size, i.bytes)) = some (some z, size, bytes)) (hzs : z.cells.size = size) (hsz : 0 < size)
    (hf : ∀ x, (f x).length = size ∧ ∀ u ∈ f x, u.oneCell' = true)
    {w : World} (hgd : o.guard = none) (s x : Operand) (ho : o.op = .call { callee := .builtin .append, args := #[s, x], argTypes := #[T, T] })
    (base : Nat) (v : Value) (l : List α) (hs : a.eval s = v) (hown : RowOf E size f w base v l) (d : α) (cs : Array Value) (hcs : cs.toList = f d) (hx : a.eval x = .slice (some ⟨w.heap.size, 0, none⟩) 1 1)
    (hby : (l.length + 1) * bytes ≤ 140737488355328) (h63 : l.length + 1 ≤ maxLen) (hbase : base ≤ w.heap.size)
    (h : ∀ v' w', RowOf E size f w' base v' (l ++ [d]) → Below base w w' → (w.alloc (.cells cs E)).grownBy w' v.ownBlock → wpList Tryz.prog ops Q rest (a.put o.dst v') w') :
    wpList Tryz.prog ops Q (o :: rest) a (w.alloc (.cells cs E)) := by
  obtain ⟨i0, hi, hz0, hz1, hz2⟩ := info_parts hinfo
  have hown' := hown.alloc (.cells cs E)
  refine wpList_append_own_at _ hgd s x T ho base E i0 z size bytes hu hi hz0 hz1 hz2 hzs hsz v l.length (l.flatMap f) hs hown' ⟨w.heap.size, 0, none⟩ 1 1 (f d) hx (by rw [(hf d).1]; omega) (by rw [← hcs]; exact news_new _ _ _) (hf d).2 h63 hby (by simp; omega) ?_
  intro v' w' h1 h2 _ _
  refine h v' w' ?_ ?_ h2
  · unfold RowOf
    rw [List.flatMap_append, List.length_append]
    simpa using h1
  · exact ((Below.refl _ _).alloc hbase _).grown h2 (by simp; omega) (fun k hk => ((World.ownsRow.lt hown) k hk).1)
end
end Go.Proofs.YtcnlonaighlmbaaGreatDoor
