/- Ten cells in a block: what a walk reads of them, and what ten stores leave. -/
import Derived.Test.YtjgojbkmeggmhaaDoorMem
namespace Go.Proofs.YtjgojbkmeggmhaaDoor
open Go.RowKit

section
variable {w : World} {g : Nat} {t : TypeId} {x0 x1 x2 x3 x4 x5 x6 x7 x8 x9 : Value}
theorem Blk.four {x0 x1 x2 x3 : Value} (h : Blk w g t #[x0, x1, x2, x3]) :
    w.cell? ⟨g, 0, none⟩ = some x0 ∧ w.cell? ⟨g, 1, none⟩ = some x1 ∧ w.cell? ⟨g, 2, none⟩ = some x2 ∧ w.cell? ⟨g, 3, none⟩ = some x3 ∧
    w.frozen? ⟨g, 0, none⟩ = false ∧ w.frozen? ⟨g, 1, none⟩ = false ∧ w.frozen? ⟨g, 2, none⟩ = false ∧ w.frozen? ⟨g, 3, none⟩ = false :=
  ⟨h.cell 0, h.cell 1, h.cell 2, h.cell 3, h.frozen 0, h.frozen 1, h.frozen 2, h.frozen 3⟩
theorem Blk.four_set {x0 x1 x2 x3 : Value} (h : Blk w g t #[x0, x1, x2, x3]) (y0 y1 y2 y3 : Value) :
    Blk ((((w.setCell ⟨g, 0, none⟩ y0).setCell ⟨g, 1, none⟩ y1).setCell ⟨g, 2, none⟩ y2).setCell ⟨g, 3, none⟩ y3) g t #[y0, y1, y2, y3] :=
  (((h.set_ 0 y0).set_ 1 y1).set_ 2 y2).set_ 3 y3
theorem Blk.four_far {g' : Nat} {cs : Array Value} (h : Blk w g' t cs) (hne : g' ≠ g) (y0 y1 y2 y3 : Value) :
    Blk ((((w.setCell ⟨g, 0, none⟩ y0).setCell ⟨g, 1, none⟩ y1).setCell ⟨g, 2, none⟩ y2).setCell ⟨g, 3, none⟩ y3) g' t cs :=
  ((((h.far hne y0).far hne y1).far hne y2).far hne y3)

theorem Blk.ten (h : Blk w g t #[x0, x1, x2, x3, x4, x5, x6, x7, x8, x9]) :
    w.cell? ⟨g, 0, none⟩ = some x0 ∧ w.cell? ⟨g, 1, none⟩ = some x1 ∧ w.cell? ⟨g, 2, none⟩ = some x2 ∧ w.cell? ⟨g, 3, none⟩ = some x3 ∧ w.cell? ⟨g, 4, none⟩ = some x4 ∧ w.cell? ⟨g, 5, none⟩ = some x5 ∧ w.cell? ⟨g, 6, none⟩ = some x6 ∧ w.cell? ⟨g, 7, none⟩ = some x7 ∧ w.cell? ⟨g, 8, none⟩ = some x8 ∧ w.cell? ⟨g, 9, none⟩ = some x9 :=
  ⟨h.cell 0, h.cell 1, h.cell 2, h.cell 3, h.cell 4, h.cell 5, h.cell 6, h.cell 7, h.cell 8, h.cell 9⟩
theorem Blk.tenf {cs : Array Value} (h : Blk w g t cs) :
    w.frozen? ⟨g, 0, none⟩ = false ∧ w.frozen? ⟨g, 1, none⟩ = false ∧ w.frozen? ⟨g, 2, none⟩ = false ∧ w.frozen? ⟨g, 3, none⟩ = false ∧ w.frozen? ⟨g, 4, none⟩ = false ∧ w.frozen? ⟨g, 5, none⟩ = false ∧ w.frozen? ⟨g, 6, none⟩ = false ∧ w.frozen? ⟨g, 7, none⟩ = false ∧ w.frozen? ⟨g, 8, none⟩ = false ∧ w.frozen? ⟨g, 9, none⟩ = false :=
  ⟨h.frozen 0, h.frozen 1, h.frozen 2, h.frozen 3, h.frozen 4, h.frozen 5, h.frozen 6, h.frozen 7, h.frozen 8, h.frozen 9⟩

/-- Ten stores; what is read back of the cell that was written last, store by store. -/
theorem Blk.ten_set (h : Blk w g t #[x0, x1, x2, x3, x4, x5, x6, x7, x8, x9]) (y0 y1 y2 y3 y4 y5 y6 y7 y8 y9 : Value) :
    Blk ((((((((((w.setCell ⟨g, 0, none⟩ y0).setCell ⟨g, 1, none⟩ y1).setCell ⟨g, 2, none⟩ y2).setCell ⟨g, 3, none⟩ y3).setCell ⟨g, 4, none⟩ y4).setCell ⟨g, 5, none⟩ y5).setCell ⟨g, 6, none⟩ y6).setCell ⟨g, 7, none⟩ y7).setCell ⟨g, 8, none⟩ y8).setCell ⟨g, 9, none⟩ y9) g t #[y0, y1, y2, y3, y4, y5, y6, y7, y8, y9] ∧
    (w.setCell ⟨g, 0, none⟩ y0).cell? ⟨g, 0, none⟩ = some y0 ∧
    ((w.setCell ⟨g, 0, none⟩ y0).setCell ⟨g, 1, none⟩ y1).cell? ⟨g, 1, none⟩ = some y1 ∧
    (((w.setCell ⟨g, 0, none⟩ y0).setCell ⟨g, 1, none⟩ y1).setCell ⟨g, 2, none⟩ y2).cell? ⟨g, 2, none⟩ = some y2 ∧
    ((((w.setCell ⟨g, 0, none⟩ y0).setCell ⟨g, 1, none⟩ y1).setCell ⟨g, 2, none⟩ y2).setCell ⟨g, 3, none⟩ y3).cell? ⟨g, 3, none⟩ = some y3 ∧
    (((((w.setCell ⟨g, 0, none⟩ y0).setCell ⟨g, 1, none⟩ y1).setCell ⟨g, 2, none⟩ y2).setCell ⟨g, 3, none⟩ y3).setCell ⟨g, 4, none⟩ y4).cell? ⟨g, 4, none⟩ = some y4 ∧
    ((((((w.setCell ⟨g, 0, none⟩ y0).setCell ⟨g, 1, none⟩ y1).setCell ⟨g, 2, none⟩ y2).setCell ⟨g, 3, none⟩ y3).setCell ⟨g, 4, none⟩ y4).setCell ⟨g, 5, none⟩ y5).cell? ⟨g, 5, none⟩ = some y5 ∧
    (((((((w.setCell ⟨g, 0, none⟩ y0).setCell ⟨g, 1, none⟩ y1).setCell ⟨g, 2, none⟩ y2).setCell ⟨g, 3, none⟩ y3).setCell ⟨g, 4, none⟩ y4).setCell ⟨g, 5, none⟩ y5).setCell ⟨g, 6, none⟩ y6).cell? ⟨g, 6, none⟩ = some y6 ∧
    ((((((((w.setCell ⟨g, 0, none⟩ y0).setCell ⟨g, 1, none⟩ y1).setCell ⟨g, 2, none⟩ y2).setCell ⟨g, 3, none⟩ y3).setCell ⟨g, 4, none⟩ y4).setCell ⟨g, 5, none⟩ y5).setCell ⟨g, 6, none⟩ y6).setCell ⟨g, 7, none⟩ y7).cell? ⟨g, 7, none⟩ = some y7 ∧
    (((((((((w.setCell ⟨g, 0, none⟩ y0).setCell ⟨g, 1, none⟩ y1).setCell ⟨g, 2, none⟩ y2).setCell ⟨g, 3, none⟩ y3).setCell ⟨g, 4, none⟩ y4).setCell ⟨g, 5, none⟩ y5).setCell ⟨g, 6, none⟩ y6).setCell ⟨g, 7, none⟩ y7).setCell ⟨g, 8, none⟩ y8).cell? ⟨g, 8, none⟩ = some y8 ∧
    ((((((((((w.setCell ⟨g, 0, none⟩ y0).setCell ⟨g, 1, none⟩ y1).setCell ⟨g, 2, none⟩ y2).setCell ⟨g, 3, none⟩ y3).setCell ⟨g, 4, none⟩ y4).setCell ⟨g, 5, none⟩ y5).setCell ⟨g, 6, none⟩ y6).setCell ⟨g, 7, none⟩ y7).setCell ⟨g, 8, none⟩ y8).setCell ⟨g, 9, none⟩ y9).cell? ⟨g, 9, none⟩ = some y9 := by
  have h0 : Blk (w.setCell ⟨g, 0, none⟩ y0) g t #[y0, x1, x2, x3, x4, x5, x6, x7, x8, x9] := by
    have := h.set_ 0 y0
    simpa using this
  have h1 : Blk ((w.setCell ⟨g, 0, none⟩ y0).setCell ⟨g, 1, none⟩ y1) g t #[y0, y1, x2, x3, x4, x5, x6, x7, x8, x9] := by
    have := h0.set_ 1 y1
    simpa using this
  have h2 : Blk (((w.setCell ⟨g, 0, none⟩ y0).setCell ⟨g, 1, none⟩ y1).setCell ⟨g, 2, none⟩ y2) g t #[y0, y1, y2, x3, x4, x5, x6, x7, x8, x9] := by
    have := h1.set_ 2 y2
    simpa using this
  have h3 : Blk ((((w.setCell ⟨g, 0, none⟩ y0).setCell ⟨g, 1, none⟩ y1).setCell ⟨g, 2, none⟩ y2).setCell ⟨g, 3, none⟩ y3) g t #[y0, y1, y2, y3, x4, x5, x6, x7, x8, x9] := by
    have := h2.set_ 3 y3
    simpa using this
  have h4 : Blk (((((w.setCell ⟨g, 0, none⟩ y0).setCell ⟨g, 1, none⟩ y1).setCell ⟨g, 2, none⟩ y2).setCell ⟨g, 3, none⟩ y3).setCell ⟨g, 4, none⟩ y4) g t #[y0, y1, y2, y3, y4, x5, x6, x7, x8, x9] := by
    have := h3.set_ 4 y4
    simpa using this
  have h5 : Blk ((((((w.setCell ⟨g, 0, none⟩ y0).setCell ⟨g, 1, none⟩ y1).setCell ⟨g, 2, none⟩ y2).setCell ⟨g, 3, none⟩ y3).setCell ⟨g, 4, none⟩ y4).setCell ⟨g, 5, none⟩ y5) g t #[y0, y1, y2, y3, y4, y5, x6, x7, x8, x9] := by
    have := h4.set_ 5 y5
    simpa using this
  have h6 : Blk (((((((w.setCell ⟨g, 0, none⟩ y0).setCell ⟨g, 1, none⟩ y1).setCell ⟨g, 2, none⟩ y2).setCell ⟨g, 3, none⟩ y3).setCell ⟨g, 4, none⟩ y4).setCell ⟨g, 5, none⟩ y5).setCell ⟨g, 6, none⟩ y6) g t #[y0, y1, y2, y3, y4, y5, y6, x7, x8, x9] := by
    have := h5.set_ 6 y6
    simpa using this
  have h7 : Blk ((((((((w.setCell ⟨g, 0, none⟩ y0).setCell ⟨g, 1, none⟩ y1).setCell ⟨g, 2, none⟩ y2).setCell ⟨g, 3, none⟩ y3).setCell ⟨g, 4, none⟩ y4).setCell ⟨g, 5, none⟩ y5).setCell ⟨g, 6, none⟩ y6).setCell ⟨g, 7, none⟩ y7) g t #[y0, y1, y2, y3, y4, y5, y6, y7, x8, x9] := by
    have := h6.set_ 7 y7
    simpa using this
  have h8 : Blk (((((((((w.setCell ⟨g, 0, none⟩ y0).setCell ⟨g, 1, none⟩ y1).setCell ⟨g, 2, none⟩ y2).setCell ⟨g, 3, none⟩ y3).setCell ⟨g, 4, none⟩ y4).setCell ⟨g, 5, none⟩ y5).setCell ⟨g, 6, none⟩ y6).setCell ⟨g, 7, none⟩ y7).setCell ⟨g, 8, none⟩ y8) g t #[y0, y1, y2, y3, y4, y5, y6, y7, y8, x9] := by
    have := h7.set_ 8 y8
    simpa using this
  have h9 : Blk ((((((((((w.setCell ⟨g, 0, none⟩ y0).setCell ⟨g, 1, none⟩ y1).setCell ⟨g, 2, none⟩ y2).setCell ⟨g, 3, none⟩ y3).setCell ⟨g, 4, none⟩ y4).setCell ⟨g, 5, none⟩ y5).setCell ⟨g, 6, none⟩ y6).setCell ⟨g, 7, none⟩ y7).setCell ⟨g, 8, none⟩ y8).setCell ⟨g, 9, none⟩ y9) g t #[y0, y1, y2, y3, y4, y5, y6, y7, y8, y9] := by
    have := h8.set_ 9 y9
    simpa using this
  exact ⟨h9, h0.cell 0, h1.cell 1, h2.cell 2, h3.cell 3, h4.cell 4, h5.cell 5, h6.cell 6, h7.cell 7, h8.cell 8, h9.cell 9⟩
theorem Blk.ten_far {g' : Nat} {t' : TypeId} {cs : Array Value} (h : Blk w g' t' cs) (hne : g' ≠ g) (y0 y1 y2 y3 y4 y5 y6 y7 y8 y9 : Value) :
    Blk ((((((((((w.setCell ⟨g, 0, none⟩ y0).setCell ⟨g, 1, none⟩ y1).setCell ⟨g, 2, none⟩ y2).setCell ⟨g, 3, none⟩ y3).setCell ⟨g, 4, none⟩ y4).setCell ⟨g, 5, none⟩ y5).setCell ⟨g, 6, none⟩ y6).setCell ⟨g, 7, none⟩ y7).setCell ⟨g, 8, none⟩ y8).setCell ⟨g, 9, none⟩ y9) g' t' cs :=
  (((((((((h.far hne y0).far hne y1).far hne y2).far hne y3).far hne y4).far hne y5).far hne y6).far hne y7).far hne y8).far hne y9
theorem below_ten {B : Nat} {w0 : World} (h : Below B w0 w) (hg : B ≤ g) (y0 y1 y2 y3 y4 y5 y6 y7 y8 y9 : Value) : Below B w0 ((((((((((w.setCell ⟨g, 0, none⟩ y0).setCell ⟨g, 1, none⟩ y1).setCell ⟨g, 2, none⟩ y2).setCell ⟨g, 3, none⟩ y3).setCell ⟨g, 4, none⟩ y4).setCell ⟨g, 5, none⟩ y5).setCell ⟨g, 6, none⟩ y6).setCell ⟨g, 7, none⟩ y7).setCell ⟨g, 8, none⟩ y8).setCell ⟨g, 9, none⟩ y9) :=
  (((((((((h.setCell (p := ⟨g, 0, none⟩) hg y0).setCell (p := ⟨g, 1, none⟩) hg y1).setCell (p := ⟨g, 2, none⟩) hg y2).setCell (p := ⟨g, 3, none⟩) hg y3).setCell (p := ⟨g, 4, none⟩) hg y4).setCell (p := ⟨g, 5, none⟩) hg y5).setCell (p := ⟨g, 6, none⟩) hg y6).setCell (p := ⟨g, 7, none⟩) hg y7).setCell (p := ⟨g, 8, none⟩) hg y8).setCell (p := ⟨g, 9, none⟩) hg y9
end
end Go.Proofs.YtjgojbkmeggmhaaDoor
