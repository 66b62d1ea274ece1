/- Words for memory: a block that is known whole. -/
import Derived.Test.YtcnlonaighlmbaaGreatDoorRows
import Derived.WalkKit
import Derived.Lib.Builder
import Derived.Deep.Draws
import Derived.Laws.CopyOwn
set_option linter.unusedSimpArgs false
set_option linter.unusedVariables false
namespace Go.Proofs.YtcnlonaighlmbaaGreatDoor
open Go.RowKit

def Blk (w : World) (g : Nat) (t : TypeId) (cs : Array Value) : Prop := w.heap[g]? = some (.cells cs t (0, 0))

section
variable {w w' : World} {g : Nat} {t : TypeId} {cs : Array Value}
theorem Blk.lt (h : Blk w g t cs) : g < w.heap.size := by
  rcases Nat.lt_or_ge g w.heap.size with hlt | hge
  · exact hlt
  · unfold Blk at h; rw [Array.getElem?_eq_none hge] at h; cases h
theorem Blk.cell (h : Blk w g t cs) (i : Nat) : w.cell? ⟨g, i, none⟩ = cs[i]? := Lib.cell_of_heap h i
theorem Blk.frozen (h : Blk w g t cs) (i : Nat) : w.frozen? ⟨g, i, none⟩ = false := Lib.frozen_of_heap h i
theorem Blk.new (w : World) (t : TypeId) (cs : Array Value) : Blk (w.alloc (.cells cs t)) w.heap.size t cs := heap_alloc_new w _
theorem Blk.drew (h : Blk w g t cs) : Blk w.drew g t cs := h
theorem Blk.drewN (h : Blk w g t cs) (n : Nat) : Blk (w.drewN n) g t cs := h
theorem Blk.alloc (h : Blk w g t cs) (o : Obj) : Blk (w.alloc o) g t cs := (Below.heap_alloc w o g h.lt).trans h
theorem Blk.set_ (h : Blk w g t cs) (i : Nat) (u : Value) : Blk (w.setCell ⟨g, i, none⟩ u) g t (cs.setIfInBounds i u) := by
  unfold Blk at h ⊢
  simp [World.setCell, Array.getElem?_modify, h]
theorem Blk.far (h : Blk w g t cs) {p : Addr} (hp : g ≠ p.block) (u : Value) : Blk (w.setCell p u) g t cs := (Below.heap_setCell w p u g hp).trans h
theorem Blk.below {B : Nat} (h : Blk w g t cs) (hb : Below B w w') (hg : g < B) : Blk w' g t cs := (hb.block g hg).trans h
theorem Blk.later (h : Blk w g t cs) (hb : Below w.heap.size w w') : Blk w' g t cs := h.below hb h.lt
theorem Blk.row (h : Blk w g t cs) (new : Array Value) : Blk (w.setRow g new) g t new := setRow_heap w g cs new t _ h
theorem Blk.row_far (h : Blk w g t cs) {g' : Nat} (hne : g ≠ g') (new : Array Value) : Blk (w.setRow g' new) g t cs := (setRow_other w g' g new hne).trans h
theorem Blk.ne_ {g' : Nat} {t' : TypeId} {cs' : Array Value} (h : Blk w g t cs) (h' : Blk w g' t' cs') (hne : t ≠ t') : g ≠ g' := by
  rintro rfl
  unfold Blk at h h'
  rw [h] at h'
  injection h' with h'
  injection h' with _ ht
  exact hne ht
end
end Go.Proofs.YtcnlonaighlmbaaGreatDoor

namespace Go.Proofs.YtcnlonaighlmbaaGreatDoor
open Go.RowKit

section
variable {w w0 : World} {g B : Nat} {t : TypeId} {x0 x1 x2 : Value}
theorem Blk.two (h : Blk w g t #[x0, x1]) :
    w.cell? ⟨g, 0, none⟩ = some x0 ∧ w.cell? ⟨g, 1, none⟩ = some x1 ∧ w.frozen? ⟨g, 0, none⟩ = false ∧ w.frozen? ⟨g, 1, none⟩ = false :=
  ⟨h.cell 0, h.cell 1, h.frozen 0, h.frozen 1⟩
theorem Blk.three (h : Blk w g t #[x0, x1, x2]) :
    w.cell? ⟨g, 0, none⟩ = some x0 ∧ w.cell? ⟨g, 1, none⟩ = some x1 ∧ w.cell? ⟨g, 2, none⟩ = some x2 ∧
    w.frozen? ⟨g, 0, none⟩ = false ∧ w.frozen? ⟨g, 1, none⟩ = false ∧ w.frozen? ⟨g, 2, none⟩ = false :=
  ⟨h.cell 0, h.cell 1, h.cell 2, h.frozen 0, h.frozen 1, h.frozen 2⟩
theorem Blk.two_set (h : Blk w g t #[x0, x1]) (y0 y1 : Value) :
    Blk ((w.setCell ⟨g, 0, none⟩ y0).setCell ⟨g, 1, none⟩ y1) g t #[y0, y1] ∧
    (w.setCell ⟨g, 0, none⟩ y0).cell? ⟨g, 0, none⟩ = some y0 ∧
    ((w.setCell ⟨g, 0, none⟩ y0).setCell ⟨g, 1, none⟩ y1).cell? ⟨g, 1, none⟩ = some y1 := by
  have h0 : Blk (w.setCell ⟨g, 0, none⟩ y0) g t #[y0, x1] := by
    have := h.set_ 0 y0
    simpa using this
  have h1 : Blk ((w.setCell ⟨g, 0, none⟩ y0).setCell ⟨g, 1, none⟩ y1) g t #[y0, y1] := by
    have := h0.set_ 1 y1
    simpa using this
  exact ⟨h1, h0.cell 0, h1.cell 1⟩
theorem Blk.three_set (h : Blk w g t #[x0, x1, x2]) (y0 y1 y2 : Value) :
    Blk (((w.setCell ⟨g, 0, none⟩ y0).setCell ⟨g, 1, none⟩ y1).setCell ⟨g, 2, none⟩ y2) g t #[y0, y1, y2] ∧
    (w.setCell ⟨g, 0, none⟩ y0).cell? ⟨g, 0, none⟩ = some y0 ∧
    ((w.setCell ⟨g, 0, none⟩ y0).setCell ⟨g, 1, none⟩ y1).cell? ⟨g, 1, none⟩ = some y1 ∧
    (((w.setCell ⟨g, 0, none⟩ y0).setCell ⟨g, 1, none⟩ y1).setCell ⟨g, 2, none⟩ y2).cell? ⟨g, 2, none⟩ = some y2 := by
  have h0 : Blk (w.setCell ⟨g, 0, none⟩ y0) g t #[y0, x1, x2] := by
    have := h.set_ 0 y0
    simpa using this
  have h1 : Blk ((w.setCell ⟨g, 0, none⟩ y0).setCell ⟨g, 1, none⟩ y1) g t #[y0, y1, x2] := by
    have := h0.set_ 1 y1
    simpa using this
  have h2 : Blk (((w.setCell ⟨g, 0, none⟩ y0).setCell ⟨g, 1, none⟩ y1).setCell ⟨g, 2, none⟩ y2) g t #[y0, y1, y2] := by
    have := h1.set_ 2 y2
    simpa using this
  exact ⟨h2, h0.cell 0, h1.cell 1, h2.cell 2⟩
theorem Blk.three_far {g' : Nat} {t' : TypeId} {cs : Array Value} (h : Blk w g' t' cs) (hne : g' ≠ g) (y0 y1 y2 : Value) : Blk (((w.setCell ⟨g, 0, none⟩ y0).setCell ⟨g, 1, none⟩ y1).setCell ⟨g, 2, none⟩ y2) g' t' cs := ((h.far hne y0).far hne y1).far hne y2
theorem below_two (h : Below B w0 w) (hg : B ≤ g) (y0 y1 : Value) : Below B w0 ((w.setCell ⟨g, 0, none⟩ y0).setCell ⟨g, 1, none⟩ y1) :=
  (h.setCell (p := ⟨g, 0, none⟩) hg y0).setCell (p := ⟨g, 1, none⟩) hg y1
theorem below_three (h : Below B w0 w) (hg : B ≤ g) (y0 y1 y2 : Value) : Below B w0 (((w.setCell ⟨g, 0, none⟩ y0).setCell ⟨g, 1, none⟩ y1).setCell ⟨g, 2, none⟩ y2) :=
  ((h.setCell (p := ⟨g, 0, none⟩) hg y0).setCell (p := ⟨g, 1, none⟩) hg y1).setCell (p := ⟨g, 2, none⟩) hg y2
end
end Go.Proofs.YtcnlonaighlmbaaGreatDoor

namespace Go.Proofs.YtcnlonaighlmbaaGreatDoor
open Go.RowKit

/-- Below a number of a block the world has changed in blocks of a list alone. -/
structure Chg (B : Nat) (G : List Nat) (w w' : World) : Prop where
  os : w'.os = w.os
  tape : w'.tape = w.tape
  output : w'.output = w.output
  size : w.heap.size ≤ w'.heap.size
  block : ∀ k, k < B → k ∉ G → w'.heap[k]? = w.heap[k]?
section
variable {B B' : Nat} {G G' : List Nat} {w w' w'' : World} {g : Nat} {t : TypeId} {cs : Array Value}
theorem Chg.refl (B : Nat) (G : List Nat) (w : World) : Chg B G w w := ⟨rfl, rfl, rfl, Nat.le_refl _, fun _ _ _ => rfl⟩
theorem Chg.trans (h : Chg B G w w') (k : Chg B G w' w'') : Chg B G w w'' :=
  ⟨k.os.trans h.os, k.tape.trans h.tape, k.output.trans h.output, Nat.le_trans h.size k.size, fun i hi hg => (k.block i hi hg).trans (h.block i hi hg)⟩
theorem Chg.mono (h : Chg B G w w') (hB : B' ≤ B) (hs : ∀ x ∈ G, x ∈ G' ∨ B' ≤ x) : Chg B' G' w w' :=
  ⟨h.os, h.tape, h.output, h.size, fun k hk hg => h.block k (by omega) fun hx => by
    rcases hs k hx with h1 | h1
    · exact hg h1
    · omega⟩
theorem Chg.next (h : Chg w.heap.size G w w') (k : Chg w'.heap.size G w' w'') : Chg w.heap.size G w w'' := h.trans (k.mono h.size fun _ hx => .inl hx)
theorem Chg.below (h : Chg B G w w') (hB : B' ≤ B) (hs : ∀ x ∈ G, B' ≤ x) : Below B' w w' :=
  ⟨h.os, h.tape, h.output, h.size, fun k hk => h.block k (by omega) fun hx => by have := hs k hx; omega⟩
theorem Chg.of (h : Below B w w') (G : List Nat) : Chg B G w w' := ⟨h.os, h.tape, h.output, h.size, fun k hk _ => h.block k hk⟩
theorem Chg.blk (h : Chg B G w w') (hb : Blk w g t cs) (hB : g < B) (hg : g ∉ G) : Blk w' g t cs := (h.block g hB hg).trans hb
theorem Chg.alloc (h : Chg B G w w') (hB : B ≤ w'.heap.size) (o : Obj) : Chg B G w (w'.alloc o) := h.trans (Chg.of ((Below.refl _ _).alloc hB o) G)
theorem Chg.drew (h : Chg B G w w') : Chg B G w w'.drew := ⟨h.os, h.tape, h.output, h.size, h.block⟩
theorem Chg.drewN (h : Chg B G w w') (n : Nat) : Chg B G w (w'.drewN n) := ⟨h.os, h.tape, h.output, h.size, h.block⟩
theorem Chg.set (h : Chg B G w w') {p : Addr} (hp : p.block ∈ G ∨ B ≤ p.block) (v : Value) : Chg B G w (w'.setCell p v) :=
  ⟨h.os, h.tape, h.output, by simpa [World.setCell] using h.size, fun k hk hg => (Below.heap_setCell _ _ _ _ (fun e => by
    rcases hp with h1 | h1
    · exact hg (e ▸ h1)
    · omega)).trans (h.block k hk hg)⟩
end

end Go.Proofs.YtcnlonaighlmbaaGreatDoor
