/- 9 cells in a block: what a walk reads of them, and what 9 stores leave. -/
import Derived.Test.YtmapagbmihpbmaaGreatDoorGc
import Derived.Test.YtmapagbmihpbmaaGreatDoorVaC
import Derived.Test.YtmapagbmihpbmaaGreatDoorGk
namespace Go.Proofs.YtmapagbmihpbmaaGreatDoor
open Go.RowKit

section
variable {w : World} {g : Nat} {t : TypeId} {x0 x1 x2 x3 x4 x5 x6 x7 x8 : Value}
theorem Blk.nine (h : Blk w g t #[x0, x1, x2, x3, x4, x5, x6, x7, x8]) :
    w.cell? ⟨g, 0, none⟩ = some x0 ∧ w.cell? ⟨g, 1, none⟩ = some x1 ∧ w.cell? ⟨g, 2, none⟩ = some x2 ∧ w.cell? ⟨g, 3, none⟩ = some x3 ∧ w.cell? ⟨g, 4, none⟩ = some x4 ∧ w.cell? ⟨g, 5, none⟩ = some x5 ∧ w.cell? ⟨g, 6, none⟩ = some x6 ∧ w.cell? ⟨g, 7, none⟩ = some x7 ∧ w.cell? ⟨g, 8, none⟩ = some x8 :=
  ⟨h.cell 0, h.cell 1, h.cell 2, h.cell 3, h.cell 4, h.cell 5, h.cell 6, h.cell 7, h.cell 8⟩
theorem Blk.ninef {cs : Array Value} (h : Blk w g t cs) :
    w.frozen? ⟨g, 0, none⟩ = false ∧ w.frozen? ⟨g, 1, none⟩ = false ∧ w.frozen? ⟨g, 2, none⟩ = false ∧ w.frozen? ⟨g, 3, none⟩ = false ∧ w.frozen? ⟨g, 4, none⟩ = false ∧ w.frozen? ⟨g, 5, none⟩ = false ∧ w.frozen? ⟨g, 6, none⟩ = false ∧ w.frozen? ⟨g, 7, none⟩ = false ∧ w.frozen? ⟨g, 8, none⟩ = false :=
  ⟨h.frozen 0, h.frozen 1, h.frozen 2, h.frozen 3, h.frozen 4, h.frozen 5, h.frozen 6, h.frozen 7, h.frozen 8⟩
/-- 9 stores; what is read back of the cell that was written last, store by store. -/
theorem Blk.nine_set (h : Blk w g t #[x0, x1, x2, x3, x4, x5, x6, x7, x8]) (y0 y1 y2 y3 y4 y5 y6 y7 y8 : Value) :
    Blk (((((((((w.setCell ⟨g, 0, none⟩ y0).setCell ⟨g, 1, none⟩ y1).setCell ⟨g, 2, none⟩ y2).setCell ⟨g, 3, none⟩ y3).setCell ⟨g, 4, none⟩ y4).setCell ⟨g, 5, none⟩ y5).setCell ⟨g, 6, none⟩ y6).setCell ⟨g, 7, none⟩ y7).setCell ⟨g, 8, none⟩ y8) g t #[y0, y1, y2, y3, y4, y5, y6, y7, y8] ∧
    (w.setCell ⟨g, 0, none⟩ y0).cell? ⟨g, 0, none⟩ = some y0 ∧
    ((w.setCell ⟨g, 0, none⟩ y0).setCell ⟨g, 1, none⟩ y1).cell? ⟨g, 1, none⟩ = some y1 ∧
    (((w.setCell ⟨g, 0, none⟩ y0).setCell ⟨g, 1, none⟩ y1).setCell ⟨g, 2, none⟩ y2).cell? ⟨g, 2, none⟩ = some y2 ∧
    ((((w.setCell ⟨g, 0, none⟩ y0).setCell ⟨g, 1, none⟩ y1).setCell ⟨g, 2, none⟩ y2).setCell ⟨g, 3, none⟩ y3).cell? ⟨g, 3, none⟩ = some y3 ∧
    (((((w.setCell ⟨g, 0, none⟩ y0).setCell ⟨g, 1, none⟩ y1).setCell ⟨g, 2, none⟩ y2).setCell ⟨g, 3, none⟩ y3).setCell ⟨g, 4, none⟩ y4).cell? ⟨g, 4, none⟩ = some y4 ∧
    ((((((w.setCell ⟨g, 0, none⟩ y0).setCell ⟨g, 1, none⟩ y1).setCell ⟨g, 2, none⟩ y2).setCell ⟨g, 3, none⟩ y3).setCell ⟨g, 4, none⟩ y4).setCell ⟨g, 5, none⟩ y5).cell? ⟨g, 5, none⟩ = some y5 ∧
    (((((((w.setCell ⟨g, 0, none⟩ y0).setCell ⟨g, 1, none⟩ y1).setCell ⟨g, 2, none⟩ y2).setCell ⟨g, 3, none⟩ y3).setCell ⟨g, 4, none⟩ y4).setCell ⟨g, 5, none⟩ y5).setCell ⟨g, 6, none⟩ y6).cell? ⟨g, 6, none⟩ = some y6 ∧
    ((((((((w.setCell ⟨g, 0, none⟩ y0).setCell ⟨g, 1, none⟩ y1).setCell ⟨g, 2, none⟩ y2).setCell ⟨g, 3, none⟩ y3).setCell ⟨g, 4, none⟩ y4).setCell ⟨g, 5, none⟩ y5).setCell ⟨g, 6, none⟩ y6).setCell ⟨g, 7, none⟩ y7).cell? ⟨g, 7, none⟩ = some y7 ∧
    (((((((((w.setCell ⟨g, 0, none⟩ y0).setCell ⟨g, 1, none⟩ y1).setCell ⟨g, 2, none⟩ y2).setCell ⟨g, 3, none⟩ y3).setCell ⟨g, 4, none⟩ y4).setCell ⟨g, 5, none⟩ y5).setCell ⟨g, 6, none⟩ y6).setCell ⟨g, 7, none⟩ y7).setCell ⟨g, 8, none⟩ y8).cell? ⟨g, 8, none⟩ = some y8 := by
  have h0 : Blk (w.setCell ⟨g, 0, none⟩ y0) g t #[y0, x1, x2, x3, x4, x5, x6, x7, x8] := by
    have := h.set_ 0 y0
    simpa using this
  have h1 : Blk ((w.setCell ⟨g, 0, none⟩ y0).setCell ⟨g, 1, none⟩ y1) g t #[y0, y1, x2, x3, x4, x5, x6, x7, x8] := by
    have := h0.set_ 1 y1
    simpa using this
  have h2 : Blk (((w.setCell ⟨g, 0, none⟩ y0).setCell ⟨g, 1, none⟩ y1).setCell ⟨g, 2, none⟩ y2) g t #[y0, y1, y2, x3, x4, x5, x6, x7, x8] := by
    have := h1.set_ 2 y2
    simpa using this
  have h3 : Blk ((((w.setCell ⟨g, 0, none⟩ y0).setCell ⟨g, 1, none⟩ y1).setCell ⟨g, 2, none⟩ y2).setCell ⟨g, 3, none⟩ y3) g t #[y0, y1, y2, y3, x4, x5, x6, x7, x8] := by
    have := h2.set_ 3 y3
    simpa using this
  have h4 : Blk (((((w.setCell ⟨g, 0, none⟩ y0).setCell ⟨g, 1, none⟩ y1).setCell ⟨g, 2, none⟩ y2).setCell ⟨g, 3, none⟩ y3).setCell ⟨g, 4, none⟩ y4) g t #[y0, y1, y2, y3, y4, x5, x6, x7, x8] := by
    have := h3.set_ 4 y4
    simpa using this
  have h5 : Blk ((((((w.setCell ⟨g, 0, none⟩ y0).setCell ⟨g, 1, none⟩ y1).setCell ⟨g, 2, none⟩ y2).setCell ⟨g, 3, none⟩ y3).setCell ⟨g, 4, none⟩ y4).setCell ⟨g, 5, none⟩ y5) g t #[y0, y1, y2, y3, y4, y5, x6, x7, x8] := by
    have := h4.set_ 5 y5
    simpa using this
  have h6 : Blk (((((((w.setCell ⟨g, 0, none⟩ y0).setCell ⟨g, 1, none⟩ y1).setCell ⟨g, 2, none⟩ y2).setCell ⟨g, 3, none⟩ y3).setCell ⟨g, 4, none⟩ y4).setCell ⟨g, 5, none⟩ y5).setCell ⟨g, 6, none⟩ y6) g t #[y0, y1, y2, y3, y4, y5, y6, x7, x8] := by
    have := h5.set_ 6 y6
    simpa using this
  have h7 : Blk ((((((((w.setCell ⟨g, 0, none⟩ y0).setCell ⟨g, 1, none⟩ y1).setCell ⟨g, 2, none⟩ y2).setCell ⟨g, 3, none⟩ y3).setCell ⟨g, 4, none⟩ y4).setCell ⟨g, 5, none⟩ y5).setCell ⟨g, 6, none⟩ y6).setCell ⟨g, 7, none⟩ y7) g t #[y0, y1, y2, y3, y4, y5, y6, y7, x8] := by
    have := h6.set_ 7 y7
    simpa using this
  have h8 : Blk (((((((((w.setCell ⟨g, 0, none⟩ y0).setCell ⟨g, 1, none⟩ y1).setCell ⟨g, 2, none⟩ y2).setCell ⟨g, 3, none⟩ y3).setCell ⟨g, 4, none⟩ y4).setCell ⟨g, 5, none⟩ y5).setCell ⟨g, 6, none⟩ y6).setCell ⟨g, 7, none⟩ y7).setCell ⟨g, 8, none⟩ y8) g t #[y0, y1, y2, y3, y4, y5, y6, y7, y8] := by
    have := h7.set_ 8 y8
    simpa using this
  exact ⟨h8, h0.cell 0, h1.cell 1, h2.cell 2, h3.cell 3, h4.cell 4, h5.cell 5, h6.cell 6, h7.cell 7, h8.cell 8⟩
theorem Blk.nine_far {g' : Nat} {t' : TypeId} {cs : Array Value} (h : Blk w g' t' cs) (hne : g' ≠ g) (y0 y1 y2 y3 y4 y5 y6 y7 y8 : Value) :
    Blk (((((((((w.setCell ⟨g, 0, none⟩ y0).setCell ⟨g, 1, none⟩ y1).setCell ⟨g, 2, none⟩ y2).setCell ⟨g, 3, none⟩ y3).setCell ⟨g, 4, none⟩ y4).setCell ⟨g, 5, none⟩ y5).setCell ⟨g, 6, none⟩ y6).setCell ⟨g, 7, none⟩ y7).setCell ⟨g, 8, none⟩ y8) g' t' cs :=
  (((((((((h.far hne y0).far hne y1).far hne y2).far hne y3).far hne y4).far hne y5).far hne y6).far hne y7).far hne y8)
theorem below_nine {B : Nat} {w0 : World} (h : Below B w0 w) (hg : B ≤ g) (y0 y1 y2 y3 y4 y5 y6 y7 y8 : Value) : Below B w0 (((((((((w.setCell ⟨g, 0, none⟩ y0).setCell ⟨g, 1, none⟩ y1).setCell ⟨g, 2, none⟩ y2).setCell ⟨g, 3, none⟩ y3).setCell ⟨g, 4, none⟩ y4).setCell ⟨g, 5, none⟩ y5).setCell ⟨g, 6, none⟩ y6).setCell ⟨g, 7, none⟩ y7).setCell ⟨g, 8, none⟩ y8) :=
  (((((((((h.setCell (p := ⟨g, 0, none⟩) hg y0).setCell (p := ⟨g, 1, none⟩) hg y1).setCell (p := ⟨g, 2, none⟩) hg y2).setCell (p := ⟨g, 3, none⟩) hg y3).setCell (p := ⟨g, 4, none⟩) hg y4).setCell (p := ⟨g, 5, none⟩) hg y5).setCell (p := ⟨g, 6, none⟩) hg y6).setCell (p := ⟨g, 7, none⟩) hg y7).setCell (p := ⟨g, 8, none⟩) hg y8)
end
end Go.Proofs.YtmapagbmihpbmaaGreatDoor

namespace Go.Proofs.YtmapagbmihpbmaaGreatDoor
open Go.RowKit

/-- A value, its fields laid open. -/
structure Vl where
  k : Int
  num : ByteArray
  den : ByteArray
  text : ByteArray
  on : Bool
  code : Int
  rows : Int
  cols : Int
  A : Option Addr
  n : Nat
  c : Nat
def Vl.cs (v : Vl) : Array Value := #[.int .i64 v.k, .string v.num, .string v.den, .string v.text, .bool v.on, .int .i64 v.code, .int .i64 v.rows, .int .i64 v.cols, .slice v.A v.n v.c]
def Vl.v (v : Vl) : Value := .agg v.cs
def Vl.zB (v : Vl) : Bool := (v.k == 1 || frSame v.num v.den ⟨#[]⟩ ⟨#[]⟩) && (v.k == 2 || v.text.toList.isEmpty) && (v.k == 3 || !v.on) && (v.k == 4 || v.code == 0) && (v.k == 5 || (v.rows == 0 && v.cols == 0 && v.n == 0))

theorem reti {a b : Int} (h : a = b) : Ending.returned (.int .i64 a) = .returned (.int .i64 b) := by rw [h]
set_option maxRecDepth 100000 in
set_option maxHeartbeats 4000000 in
theorem zeros_any (v : Vl) (w : World) (h0 : 0 ≤ v.k) (h5 : v.k ≤ 5) :
    Calls Tryz.prog 59 #[v.v] w fun e w' => e = .returned (.int .i64 (if v.zB = true then 0 else 4)) ∧ Below w.heap.size w w' := by
  obtain ⟨k, num, den, text, on, code, rows, cols, A, n, c⟩ := v
  have hfr := fr_neq num den ⟨#[]⟩ ⟨#[]⟩
  have HZ := Lib.hid (show Vl.zB ⟨k, num, den, text, on, code, rows, cols, A, n, c⟩ = ((k == 1 || frSame num den ⟨#[]⟩ ⟨#[]⟩) && (k == 2 || text.toList.isEmpty) && (k == 3 || !on) && (k == 4 || code == 0) && (k == 5 || (rows == 0 && cols == 0 && n == 0))) from rfl)
  dsimp only at h0 h5
  generalize frSame num den ⟨#[]⟩ ⟨#[]⟩ = fe at *
  generalize hz : (if Vl.zB ⟨k, num, den, text, on, code, rows, cols, A, n, c⟩ = true then (0 : Int) else 4) = z
  have HR := Lib.hid hz
  clear hz
  show Calls Tryz.prog 59 #[.agg #[.int .i64 k, .string num, .string den, .string text, .bool on, .int .i64 code, .int .i64 rows, .int .i64 cols, .slice A n c]] w _
  rcases (show k = 0 ∨ k = 1 ∨ k = 2 ∨ k = 3 ∨ k = 4 ∨ k = 5 by omega) with rfl | rfl | rfl | rfl | rfl | rfl
  all_goals
    go_enter Tryz.func59, Tryz.ntmps59
    go_wp2
    all_goals
      go_ret
      refine ⟨reti (Eq.trans ?_ HR.out), (Below.refl _ _).alloc (Nat.le_refl _) _⟩
      rw [HZ.out]
      simp [*]
      try omega
end Go.Proofs.YtmapagbmihpbmaaGreatDoor
