/- 9 cells in a block: what a walk reads of them, and what 9 stores leave. -/
import Derived.Test.YtcnlonaighlmbaaGreatDoorHaa
import Derived.Test.YtcnlonaighlmbaaGreatDoorVaC
import Derived.Test.YtcnlonaighlmbaaGreatDoorHad
import Derived.Test.YtcnlonaighlmbaaGreatDoorShelf
import Derived.Test.YtcnlonaighlmbaaGreatDoorVaB
import Derived.Test.YtcnlonaighlmbaaGreatDoorLoc
import Derived.Deep.QuietTactic
import Derived.BigQuiet
import Derived.Test.YtcnlonaighlmbaaGreatDoorVbA
import Derived.Deep.RegionHeld3
import Derived.Test.YtcnlonaighlmbaaGreatDoorRow
import Derived.Test.YtcnlonaighlmbaaGreatDoorHaf
import Derived.Test.YtcnlonaighlmbaaGreatDoorHag
set_option linter.unusedSimpArgs false
set_option linter.unusedVariables false
namespace Go.Proofs.YtcnlonaighlmbaaGreatDoor
open Go.RowKit

section
variable {w : World} {g : Nat} {t : TypeId} {x0 x1 x2 x3 x4 x5 x6 x7 x8 : Value}
theorem Blk.nine (h : Blk w g t #[x0, x1, x2, x3, x4, x5, x6, x7, x8]) :
    w.cell? ⟨g, 0, none⟩ = some x0 ∧ w.cell? ⟨g, 1, none⟩ = some x1 ∧ w.cell? ⟨g, 2, none⟩ = some x2 ∧ w.cell? ⟨g, 3, none⟩ = some x3 ∧ w.cell? ⟨g, 4, none⟩ = some x4 ∧ w.cell? ⟨g, 5, none⟩ = some x5 ∧ w.cell? ⟨g, 6, none⟩ = some x6 ∧ w.cell? ⟨g, 7, none⟩ = some x7 ∧ w.cell? ⟨g, 8, none⟩ = some x8 :=
  ⟨h.cell 0, h.cell 1, h.cell 2, h.cell 3, h.cell 4, h.cell 5, h.cell 6, h.cell 7, h.cell 8⟩
theorem Blk.ninef {cs : Array Value} (h : Blk w g t cs) :
    w.frozen? ⟨g, 0, none⟩ = false ∧ w.frozen? ⟨g, 1, none⟩ = false ∧ w.frozen? ⟨g, 2, none⟩ = false ∧ w.frozen? ⟨g, 3, none⟩ = false ∧ w.frozen? ⟨g, 4, none⟩ = false ∧ w.frozen? ⟨g, 5, none⟩ = false ∧ w.frozen? ⟨g, 6, none⟩ = false ∧ w.frozen? ⟨g, 7, none⟩ = false ∧ w.frozen? ⟨g, 8, none⟩ = false :=
  ⟨h.frozen 0, h.frozen 1, h.frozen 2, h.frozen 3, h.frozen 4, h.frozen 5, h.frozen 6, h.frozen 7, h.frozen 8⟩
/-- 9 stores; what is read back of the cell that was written last, store by store. -/
theorem Blk.nine_set (h : Blk w g t #[x0, x1, x2, x3, x4, x5, x6, x7, x8]) (y0 y1 y2 y3 y4 y5 y6 y7 y8 : Value) :
    Blk (((((((((w.setCell ⟨g, 0, none⟩ y0).setCell ⟨g, 1, none⟩ y1).setCell ⟨g, 2, none⟩ y2).setCell ⟨g, 3, none⟩ y3).setCell ⟨g, 4, none⟩ y4).setCell ⟨g, 5, none⟩ y5).setCell ⟨g, 6, none⟩ y6).setCell ⟨g, 7, none⟩ y7).setCell ⟨g, 8, none⟩ y8) g t #[y0, y1, y2, y3, y4, y5, y6, y7, y8] ∧
    (w.setCell ⟨g, 0, none⟩ y0).cell? ⟨g, 0, none⟩ = some y0 ∧
    ((w.setCell ⟨g, 0, none⟩ y0).setCell ⟨g, 1, none⟩ y1).cell? ⟨g, 1, none⟩ = some y1 ∧
    (((w.setCell ⟨g, 0, none⟩ y0).setCell ⟨g, 1, none⟩ y1).setCell ⟨g, 2, none⟩ y2).cell? ⟨g, 2, none⟩ = some y2 ∧
    ((((w.setCell ⟨g, 0, none⟩ y0).setCell ⟨g, 1, none⟩ y1).setCell ⟨g, 2, none⟩ y2).setCell ⟨g, 3, none⟩ y3).cell? ⟨g, 3, none⟩ = some y3 ∧
    (((((w.setCell ⟨g, 0, none⟩ y0).setCell ⟨g, 1, none⟩ y1).setCell ⟨g, 2, none⟩ y2).setCell ⟨g, 3, none⟩ y3).setCell ⟨g, 4, none⟩ y4).cell? ⟨g, 4, none⟩ = some y4 ∧
    ((((((w.setCell ⟨g, 0, none⟩ y0).setCell ⟨g, 1, none⟩ y1).setCell ⟨g, 2, none⟩ y2).setCell ⟨g, 3, none⟩ y3).setCell ⟨g, 4, none⟩ y4).setCell ⟨g, 5, none⟩ y5).cell? ⟨g, 5, none⟩ = some y5 ∧
    (((((((w.setCell ⟨g, 0, none⟩ y0).setCell ⟨g, 1, none⟩ y1).setCell ⟨g, 2, none⟩ y2).setCell ⟨g, 3, none⟩ y3).setCell ⟨g, 4, none⟩ y4).setCell ⟨g, 5, none⟩ y5).setCell ⟨g, 6, none⟩ y6).cell? ⟨g, 6, none⟩ = some y6 ∧
    ((((((((w.setCell ⟨g, 0, none⟩ y0).setCell ⟨g, 1, none⟩ y1).setCell ⟨g, 2, none⟩ y2).setCell ⟨g, 3, none⟩ y3).setCell ⟨g, 4, none⟩ y4).setCell ⟨g, 5, none⟩ y5).setCell ⟨g, 6, none⟩ y6).setCell ⟨g, 7, none⟩ y7).cell? ⟨g, 7, none⟩ = some y7 ∧
    (((((((((w.setCell ⟨g, 0, none⟩ y0).setCell ⟨g, 1, none⟩ y1).setCell ⟨g, 2, none⟩ y2).setCell ⟨g, 3, none⟩ y3).setCell ⟨g, 4, none⟩ y4).setCell ⟨g, 5, none⟩ y5).setCell ⟨g, 6, none⟩ y6).setCell ⟨g, 7, none⟩ y7).setCell ⟨g, 8, none⟩ y8).cell? ⟨g, 8, none⟩ = some y8 := by
  have h0 : Blk (w.setCell ⟨g, 0, none⟩ y0) g t #[y0, x1, x2, x3, x4, x5, x6, x7, x8] := by
    have := h.set_ 0 y0
    simpa using this
  have h1 : Blk ((w.setCell ⟨g, 0, none⟩ y0).setCell ⟨g, 1, none⟩ y1) g t #[y0, y1, x2, x3, x4, x5, x6, x7, x8] := by
    have := h0.set_ 1 y1
    simpa using this
  have h2 : Blk (((w.setCell ⟨g, 0, none⟩ y0).setCell ⟨g, 1, none⟩ y1).setCell ⟨g, 2, none⟩ y2) g t #[y0, y1, y2, x3, x4, x5, x6, x7, x8] := by
    have := h1.set_ 2 y2
    simpa using this
  have h3 : Blk ((((w.setCell ⟨g, 0, none⟩ y0).setCell ⟨g, 1, none⟩ y1).setCell ⟨g, 2, none⟩ y2).setCell ⟨g, 3, none⟩ y3) g t #[y0, y1, y2, y3, x4, x5, x6, x7, x8] := by
    have := h2.set_ 3 y3
    simpa using this
  have h4 : Blk (((((w.setCell ⟨g, 0, none⟩ y0).setCell ⟨g, 1, none⟩ y1).setCell ⟨g, 2, none⟩ y2).setCell ⟨g, 3, none⟩ y3).setCell ⟨g, 4, none⟩ y4) g t #[y0, y1, y2, y3, y4, x5, x6, x7, x8] := by
    have := h3.set_ 4 y4
    simpa using this
  have h5 : Blk ((((((w.setCell ⟨g, 0, none⟩ y0).setCell ⟨g, 1, none⟩ y1).setCell ⟨g, 2, none⟩ y2).setCell ⟨g, 3, none⟩ y3).setCell ⟨g, 4, none⟩ y4).setCell ⟨g, 5, none⟩ y5) g t #[y0, y1, y2, y3, y4, y5, x6, x7, x8] := by
    have := h4.set_ 5 y5
    simpa using this
  have h6 : Blk (((((((w.setCell ⟨g, 0, none⟩ y0).setCell ⟨g, 1, none⟩ y1).setCell ⟨g, 2, none⟩ y2).setCell ⟨g, 3, none⟩ y3).setCell ⟨g, 4, none⟩ y4).setCell ⟨g, 5, none⟩ y5).setCell ⟨g, 6, none⟩ y6) g t #[y0, y1, y2, y3, y4, y5, y6, x7, x8] := by
    have := h5.set_ 6 y6
    simpa using this
  have h7 : Blk ((((((((w.setCell ⟨g, 0, none⟩ y0).setCell ⟨g, 1, none⟩ y1).setCell ⟨g, 2, none⟩ y2).setCell ⟨g, 3, none⟩ y3).setCell ⟨g, 4, none⟩ y4).setCell ⟨g, 5, none⟩ y5).setCell ⟨g, 6, none⟩ y6).setCell ⟨g, 7, none⟩ y7) g t #[y0, y1, y2, y3, y4, y5, y6, y7, x8] := by
    have := h6.set_ 7 y7
    simpa using this
  have h8 : Blk (((((((((w.setCell ⟨g, 0, none⟩ y0).setCell ⟨g, 1, none⟩ y1).setCell ⟨g, 2, none⟩ y2).setCell ⟨g, 3, none⟩ y3).setCell ⟨g, 4, none⟩ y4).setCell ⟨g, 5, none⟩ y5).setCell ⟨g, 6, none⟩ y6).setCell ⟨g, 7, none⟩ y7).setCell ⟨g, 8, none⟩ y8) g t #[y0, y1, y2, y3, y4, y5, y6, y7, y8] := by
    have := h7.set_ 8 y8
    simpa using this
  exact ⟨h8, h0.cell 0, h1.cell 1, h2.cell 2, h3.cell 3, h4.cell 4, h5.cell 5, h6.cell 6, h7.cell 7, h8.cell 8⟩
theorem Blk.nine_far {g' : Nat} {t' : TypeId} {cs : Array Value} (h : Blk w g' t' cs) (hne : g' ≠ g) (y0 y1 y2 y3 y4 y5 y6 y7 y8 : Value) :
    Blk (((((((((w.setCell ⟨g, 0, none⟩ y0).setCell ⟨g, 1, none⟩ y1).setCell ⟨g, 2, none⟩ y2).setCell ⟨g, 3, none⟩ y3).setCell ⟨g, 4, none⟩ y4).setCell ⟨g, 5, none⟩ y5).setCell ⟨g, 6, none⟩ y6).setCell ⟨g, 7, none⟩ y7).setCell ⟨g, 8, none⟩ y8) g' t' cs :=
  (((((((((h.far hne y0).far hne y1).far hne y2).far hne y3).far hne y4).far hne y5).far hne y6).far hne y7).far hne y8)
theorem below_nine {B : Nat} {w0 : World} (h : Below B w0 w) (hg : B ≤ g) (y0 y1 y2 y3 y4 y5 y6 y7 y8 : Value) : Below B w0 (((((((((w.setCell ⟨g, 0, none⟩ y0).setCell ⟨g, 1, none⟩ y1).setCell ⟨g, 2, none⟩ y2).setCell ⟨g, 3, none⟩ y3).setCell ⟨g, 4, none⟩ y4).setCell ⟨g, 5, none⟩ y5).setCell ⟨g, 6, none⟩ y6).setCell ⟨g, 7, none⟩ y7).setCell ⟨g, 8, none⟩ y8) :=
  (((((((((h.setCell (p := ⟨g, 0, none⟩) hg y0).setCell (p := ⟨g, 1, none⟩) hg y1).setCell (p := ⟨g, 2, none⟩) hg y2).setCell (p := ⟨g, 3, none⟩) hg y3).setCell (p := ⟨g, 4, none⟩) hg y4).setCell (p := ⟨g, 5, none⟩) hg y5).setCell (p := ⟨g, 6, none⟩) hg y6).setCell (p := ⟨g, 7, none⟩) hg y7).setCell (p := ⟨g, 8, none⟩) hg y8)
end
end Go.Proofs.YtcnlonaighlmbaaGreatDoor

namespace Go.Proofs.YtcnlonaighlmbaaGreatDoor
open Go.RowKit

/-- A value, its fields laid open. -/
structure Vl where
  k : Int
  num : ByteArray
  den : ByteArray
  text : ByteArray
  on : Bool
  code : Int
  rows : Int
  cols : Int
  A : Option Addr
  n : Nat
  c : Nat
def Vl.cs (v : Vl) : Array Value := #[.int .i64 v.k, .string v.num, .string v.den, .string v.text, .bool v.on, .int .i64 v.code, .int .i64 v.rows, .int .i64 v.cols, .slice v.A v.n v.c]
def Vl.v (v : Vl) : Value := .agg v.cs
def Vl.zB (v : Vl) : Bool := (v.k == 1 || frSame v.num v.den ⟨#[]⟩ ⟨#[]⟩) && (v.k == 2 || v.text.toList.isEmpty) && (v.k == 3 || !v.on) && (v.k == 4 || v.code == 0) && (v.k == 5 || (v.rows == 0 && v.cols == 0 && v.n == 0))

theorem reti {a b : Int} (h : a = b) : Ending.returned (.int .i64 a) = .returned (.int .i64 b) := by rw [h]
set_option maxRecDepth 100000 in
set_option maxHeartbeats 4000000 in
theorem zeros_any (v : Vl) (w : World) (h0 : 0 ≤ v.k) (h5 : v.k ≤ 5) :
    Calls Tryz.prog 42 #[v.v] w fun e w' => e = .returned (.int .i64 (if v.zB = true then 0 else 4)) ∧ Below w.heap.size w w' := by
  obtain ⟨k, num, den, text, on, code, rows, cols, A, n, c⟩ := v
  have hfr := fr_neq num den ⟨#[]⟩ ⟨#[]⟩
  have HZ := Lib.hid (show Vl.zB ⟨k, num, den, text, on, code, rows, cols, A, n, c⟩ = ((k == 1 || frSame num den ⟨#[]⟩ ⟨#[]⟩) && (k == 2 || text.toList.isEmpty) && (k == 3 || !on) && (k == 4 || code == 0) && (k == 5 || (rows == 0 && cols == 0 && n == 0))) from rfl)
  dsimp only at h0 h5
  generalize frSame num den ⟨#[]⟩ ⟨#[]⟩ = fe at *
  generalize hz : (if Vl.zB ⟨k, num, den, text, on, code, rows, cols, A, n, c⟩ = true then (0 : Int) else 4) = z
  have HR := Lib.hid hz
  clear hz
  show Calls Tryz.prog 42 #[.agg #[.int .i64 k, .string num, .string den, .string text, .bool on, .int .i64 code, .int .i64 rows, .int .i64 cols, .slice A n c]] w _
  rcases (show k = 0 ∨ k = 1 ∨ k = 2 ∨ k = 3 ∨ k = 4 ∨ k = 5 by omega) with rfl | rfl | rfl | rfl | rfl | rfl
  all_goals
    go_enter Tryz.func42, Tryz.ntmps42
    go_wp2
    all_goals
      go_ret
      refine ⟨reti (Eq.trans ?_ HR.out), (Below.refl _ _).alloc (Nat.le_refl _) _⟩
      rw [HZ.out]
      simp [*]
      try omega
end Go.Proofs.YtcnlonaighlmbaaGreatDoor

namespace Go.Proofs.YtcnlonaighlmbaaGreatDoor
abbrev vA (u : Vl) : Array Value := #[.int .i64 u.k, .string u.num, .string u.den, .string u.text, .bool u.on, .int .i64 u.code, .int .i64 u.rows, .int .i64 u.cols, .slice u.A u.n u.c]
end Go.Proofs.YtcnlonaighlmbaaGreatDoor

namespace Go.Proofs.YtcnlonaighlmbaaGreatDoor
open Go.RowKit

/-- What the walks of value ask of the world. -/
structure VEnv (W : World) : Prop where
  u8 : Lib.Utf8Tabs 4 5 W
  pw : Lib.TabIs Tryz.prog W "internal/strconv.uint64pow10" .u64 Lib.pow10Tab
  mx : ∃ m, W.cell? ⟨0, 0, none⟩ = some (.int .i64 m)
  f0 : W.cell? ⟨1, 0, none⟩ = some (.string ⟨#[]⟩)
  f1 : W.cell? ⟨1, 1, none⟩ = some (.string ⟨#[35, 68, 73, 86, 47, 48, 33]⟩)
  f2 : W.cell? ⟨1, 2, none⟩ = some (.string ⟨#[35, 86, 65, 76, 85, 69, 33]⟩)
  f3 : W.cell? ⟨1, 3, none⟩ = some (.string ⟨#[35, 82, 69, 70, 33]⟩)
  f4 : W.cell? ⟨1, 4, none⟩ = some (.string ⟨#[35, 78, 65, 77, 69, 63]⟩)
  f5 : W.cell? ⟨1, 5, none⟩ = some (.string ⟨#[35, 78, 85, 77, 33]⟩)
  f6 : W.cell? ⟨1, 6, none⟩ = some (.string ⟨#[35, 78, 47, 65]⟩)
  f7 : W.cell? ⟨1, 7, none⟩ = some (.string ⟨#[35, 83, 80, 73, 76, 76, 33]⟩)
  f8 : W.cell? ⟨1, 8, none⟩ = some (.string ⟨#[35, 67, 89, 67, 76, 69, 33]⟩)
theorem cell_later {w W : World} {b o : Nat} {v : Value} (h : w.cell? ⟨b, o, none⟩ = some v) (hb : Below w.heap.size w W) : W.cell? ⟨b, o, none⟩ = some v :=
  (hb.cell (p := ⟨b, o, none⟩) (World.block_lt_of_cell? _ _ h)).trans h
theorem VEnv.below {w W : World} (h : VEnv w) (hb : Below w.heap.size w W) : VEnv W :=
  ⟨Utf8Tabs_below h.u8 hb, Lib.tabBelow_of_tabIs h.pw W hb, by obtain ⟨m, hm⟩ := h.mx; exact ⟨m, cell_later hm hb⟩, cell_later h.f0 hb, cell_later h.f1 hb, cell_later h.f2 hb, cell_later h.f3 hb, cell_later h.f4 hb, cell_later h.f5 hb, cell_later h.f6 hb, cell_later h.f7 hb, cell_later h.f8 hb⟩



end Go.Proofs.YtcnlonaighlmbaaGreatDoor

namespace Go.Proofs.YtcnlonaighlmbaaGreatDoor
open Go.RowKit

/-- The texts of the faults. -/
def faultS : Nat → ByteArray
  | 1 => ⟨#[35, 68, 73, 86, 47, 48, 33]⟩
  | 2 => ⟨#[35, 86, 65, 76, 85, 69, 33]⟩
  | 3 => ⟨#[35, 82, 69, 70, 33]⟩
  | 4 => ⟨#[35, 78, 65, 77, 69, 63]⟩
  | 5 => ⟨#[35, 78, 85, 77, 33]⟩
  | 6 => ⟨#[35, 78, 47, 65]⟩
  | 7 => ⟨#[35, 83, 80, 73, 76, 76, 33]⟩
  | 8 => ⟨#[35, 67, 89, 67, 76, 69, 33]⟩
  | _ => ⟨#[]⟩
theorem VEnv.ft {W : World} (h : VEnv W) (k : Nat) (hk : k ≤ 8) : W.cell? ⟨1, k, none⟩ = some (.string (faultS k)) := by
  rcases (show k = 0 ∨ k = 1 ∨ k = 2 ∨ k = 3 ∨ k = 4 ∨ k = 5 ∨ k = 6 ∨ k = 7 ∨ k = 8 by omega) with rfl | rfl | rfl | rfl | rfl | rfl | rfl | rfl | rfl
  · exact h.f0
  · exact h.f1
  · exact h.f2
  · exact h.f3
  · exact h.f4
  · exact h.f5
  · exact h.f6
  · exact h.f7
  · exact h.f8
theorem faultS_ne {k : Nat} (h1 : 1 ≤ k) (h8 : k ≤ 8) : (faultS k).toList.isEmpty = false := by
  rcases (show k = 1 ∨ k = 2 ∨ k = 3 ∨ k = 4 ∨ k = 5 ∨ k = 6 ∨ k = 7 ∨ k = 8 by omega) with rfl | rfl | rfl | rfl | rfl | rfl | rfl | rfl <;> (rw [Lib.toList_data]; rfl)
set_option maxRecDepth 100000 in
theorem ftext_in (k : Nat) (w : World) (he : VEnv w) (h1 : 1 ≤ k) (h8 : k ≤ 8) :
    Calls Tryz.prog 44 #[.int .i64 (k : Int)] w fun e w' => e = .returned (.string (faultS k)) ∧ w = w' := by
  have hf := he.ft k h8
  have g1 : (1 : Int) ≤ (k : Int) := by omega
  have g2 : (k : Int) < 9 := by omega
  generalize faultS k = s at *
  clear he
  go_enter Tryz.func44, Tryz.ntmps44
  go_wp2
  go_ret
  exact ⟨rfl, rfl⟩
theorem ftext_out (k : Int) (w : World) (h : k < 1 ∨ 9 ≤ k) :
    Calls Tryz.prog 44 #[.int .i64 k] w fun e w' => e = .returned (.string ⟨#[]⟩) ∧ w = w' := by
  rcases h with h | h
  · go_enter Tryz.func44, Tryz.ntmps44
    go_wp2
    go_ret
    exact ⟨rfl, rfl⟩
  · go_enter Tryz.func44, Tryz.ntmps44
    go_wp2
    go_ret
    exact ⟨rfl, rfl⟩

/-- A valid value that is no array. -/
def Vl.ok (v : Vl) : Prop := 0 ≤ v.k ∧ v.k ≤ 4 ∧ v.zB = true ∧ (v.k = 1 → ∃ m n d, Nt.Rd v.num.data.toList v.den.data.toList m n d) ∧ (v.k = 2 → txtE v.text = 0) ∧ (v.k = 4 → 1 ≤ v.code ∧ v.code ≤ 8)
/-- What Check answers. -/
def ChkRet (p : Prop) (w : World) (e : Ending) (w' : World) : Prop := ∃ c : Int, e = .returned (.int .i64 c) ∧ (c = 0 ↔ p) ∧ Below w.heap.size w w'

set_option maxRecDepth 100000 in
set_option maxHeartbeats 4000000 in
theorem check_na (v : Vl) (w : World) (he : VEnv w) (hk : v.k ≠ 5) (s1 : v.num.size ≤ 9223372036854775807) (s2 : v.den.size ≤ 9223372036854775807) (s3 : v.text.size ≤ 9223372036854775807) :
    Calls Tryz.prog 28 #[v.v] w (ChkRet v.ok w) := by
  obtain ⟨k, num, den, text, on, code, rows, cols, A, n, c⟩ := v
  dsimp only at hk s1 s2 s3
  have HL0 := Lib.hid ((Loc.start w).alloc' rfl 26 #[.int .i64 k, .string num, .string den, .string text, .bool on, .int .i64 code, .int .i64 rows, .int .i64 cols, .slice A n c])
  have HE := Lib.hid (show ∀ W, Below w.heap.size w W → VEnv W from fun W hb => he.below hb)
  clear he
  show Calls Tryz.prog 28 #[.agg #[.int .i64 k, .string num, .string den, .string text, .bool on, .int .i64 code, .int .i64 rows, .int .i64 cols, .slice A n c]] w _
  by_cases hr : 0 ≤ k ∧ k ≤ 5
  case neg =>
    rcases (show k < 0 ∨ 5 < k by omega) with h | h
    all_goals
      have HN := Lib.hid (show ¬ Vl.ok ⟨k, num, den, text, on, code, rows, cols, A, n, c⟩ from fun h => by have h1 : (0 : Int) ≤ k := h.1; have h2 : k ≤ 4 := h.2.1; omega)
      clear hr
      go_enter Tryz.func28, Tryz.ntmps28
      go_wp2
      go_ret
      exact ⟨8, rfl, ⟨fun h => absurd h (by decide), fun h => absurd h HN.out⟩, HL0.out.bel⟩
  case pos =>
  obtain ⟨k0, k5⟩ := hr
  cases hz : Vl.zB ⟨k, num, den, text, on, code, rows, cols, A, n, c⟩ with
  | false =>
    have HN := Lib.hid (show ¬ Vl.ok ⟨k, num, den, text, on, code, rows, cols, A, n, c⟩ from fun h => by rw [h.2.2.1] at hz; cases hz)
    have HZ := Lib.hid (show ∀ W, Calls Tryz.prog 42 #[.agg #[.int .i64 k, .string num, .string den, .string text, .bool on, .int .i64 code, .int .i64 rows, .int .i64 cols, .slice A n c]] W fun e w' => e = .returned (.int .i64 4) ∧ Below W.heap.size W w' from fun W => by
      have := zeros_any ⟨k, num, den, text, on, code, rows, cols, A, n, c⟩ W k0 k5
      rw [hz] at this
      exact this)
    clear hz
    go_enter Tryz.func28, Tryz.ntmps28
    go_wp2_with (go_at_call 42; (with_reducible refine (HZ.out _).mono ?_); rintro e w1 ⟨rfl, hb⟩; have HL1 := Lib.hid (HL0.out.step hb); clear hb)
    go_ret
    exact ⟨4, rfl, ⟨fun h => absurd h (by decide), fun h => absurd h HN.out⟩, HL1.out.bel⟩
  | true =>
    have HZ := Lib.hid (show ∀ W, Calls Tryz.prog 42 #[.agg #[.int .i64 k, .string num, .string den, .string text, .bool on, .int .i64 code, .int .i64 rows, .int .i64 cols, .slice A n c]] W fun e w' => e = .returned (.int .i64 0) ∧ Below W.heap.size W w' from fun W => by
      have := zeros_any ⟨k, num, den, text, on, code, rows, cols, A, n, c⟩ W k0 k5
      rw [hz] at this
      exact this)
    have HX := Lib.hid fun W => check_any num den W s1 s2
    have HT := Lib.hid fun W hW => vtext_any text W (HE.out W hW).u8 s3
    have HF1 := Lib.hid fun (j : Nat) W hW => ftext_in j W (HE.out W hW)
    have HF2 := Lib.hid fun (j : Int) W => ftext_out j W
    have hok : Vl.ok ⟨k, num, den, text, on, code, rows, cols, A, n, c⟩ ↔ (k = 1 → ∃ m n d, Nt.Rd num.data.toList den.data.toList m n d) ∧ (k = 2 → txtE text = 0) ∧ (k = 4 → 1 ≤ code ∧ code ≤ 8) :=
      ⟨fun h => h.2.2.2, fun h => ⟨k0, show k ≤ 4 by omega, hz, h⟩⟩
    have HOK := Lib.hid hok
    clear hok hz s1 s2 s3
    rcases (show k = 0 ∨ k = 1 ∨ k = 2 ∨ k = 3 ∨ k = 4 by omega) with rfl | rfl | rfl | rfl | rfl
    · go_enter Tryz.func28, Tryz.ntmps28
      go_wp2_with (go_at_call 42; (with_reducible refine (HZ.out _).mono ?_); rintro e w1 ⟨rfl, hb⟩; have HL1 := Lib.hid (HL0.out.step hb); have hk := ((HL1.out.blk (g := w.heap.size) (t := 26) (cs := #[.int .i64 0, .string num, .string den, .string text, .bool on, .int .i64 code, .int .i64 rows, .int .i64 cols, .slice A n c]) (by simp)).cell 0); clear hb)
      go_ret
      exact ⟨0, rfl, ⟨fun _ => HOK.out.2 ⟨fun h => by omega, fun h => by omega, fun h => by omega⟩, fun _ => rfl⟩, HL1.out.bel⟩
    · go_enter Tryz.func28, Tryz.ntmps28
      go_wp2_with (first
        | (go_at_call 42; (with_reducible refine (HZ.out _).mono ?_); rintro e w1 ⟨rfl, hb⟩; have HL1 := Lib.hid (HL0.out.step hb); have hk := ((HL1.out.blk (g := w.heap.size) (t := 26) (cs := #[.int .i64 1, .string num, .string den, .string text, .bool on, .int .i64 code, .int .i64 rows, .int .i64 cols, .slice A n c]) (by simp)).cell 0); have hk1 := ((HL1.out.blk (g := w.heap.size) (t := 26) (cs := #[.int .i64 1, .string num, .string den, .string text, .bool on, .int .i64 code, .int .i64 rows, .int .i64 cols, .slice A n c]) (by simp)).cell 1); have hk2 := ((HL1.out.blk (g := w.heap.size) (t := 26) (cs := #[.int .i64 1, .string num, .string den, .string text, .bool on, .int .i64 code, .int .i64 rows, .int .i64 cols, .slice A n c]) (by simp)).cell 2); clear hb)
        | (go_at_call 20; (with_reducible refine (HX.out _).mono ?_); rintro e w2 ⟨r, rfl, hc, hb⟩; have HL2 := Lib.hid (HL1.out.step hb); have HC := Lib.hid hc; clear hb hc))
      go_ret
      exact ⟨r, rfl, HC.out.trans ⟨fun h => HOK.out.2 ⟨fun _ => h, fun h => by omega, fun h => by omega⟩, fun h => (HOK.out.1 h).1 (by simp)⟩, HL2.out.bel⟩
    · go_enter Tryz.func28, Tryz.ntmps28
      go_wp2_with (first
        | (go_at_call 42; (with_reducible refine (HZ.out _).mono ?_); rintro e w1 ⟨rfl, hb⟩; have HL1 := Lib.hid (HL0.out.step hb); have hk := ((HL1.out.blk (g := w.heap.size) (t := 26) (cs := #[.int .i64 2, .string num, .string den, .string text, .bool on, .int .i64 code, .int .i64 rows, .int .i64 cols, .slice A n c]) (by simp)).cell 0); have hk1 := ((HL1.out.blk (g := w.heap.size) (t := 26) (cs := #[.int .i64 2, .string num, .string den, .string text, .bool on, .int .i64 code, .int .i64 rows, .int .i64 cols, .slice A n c]) (by simp)).cell 3); clear hb)
        | (go_at_call 43; (with_reducible refine (HT.out _ HL1.out.bel).mono ?_); rintro e w2 ⟨rfl, hb⟩; have HL2 := Lib.hid (HL1.out.step hb); clear hb))
      go_ret
      exact ⟨txtE text, rfl, ⟨fun h => HOK.out.2 ⟨fun h => by omega, fun _ => h, fun h => by omega⟩, fun h => (HOK.out.1 h).2.1 (by simp)⟩, HL2.out.bel⟩
    · go_enter Tryz.func28, Tryz.ntmps28
      go_wp2_with (go_at_call 42; (with_reducible refine (HZ.out _).mono ?_); rintro e w1 ⟨rfl, hb⟩; have HL1 := Lib.hid (HL0.out.step hb); have hk := ((HL1.out.blk (g := w.heap.size) (t := 26) (cs := #[.int .i64 3, .string num, .string den, .string text, .bool on, .int .i64 code, .int .i64 rows, .int .i64 cols, .slice A n c]) (by simp)).cell 0); clear hb)
      go_ret
      exact ⟨0, rfl, ⟨fun _ => HOK.out.2 ⟨fun h => by omega, fun h => by omega, fun h => by omega⟩, fun _ => rfl⟩, HL1.out.bel⟩
    · by_cases hco : 1 ≤ code ∧ code ≤ 8
      · obtain ⟨c1, c8⟩ := hco
        obtain ⟨j, rfl⟩ : ∃ j : Nat, code = (j : Int) := ⟨code.toNat, by omega⟩
        have hne := faultS_ne (k := j) (by omega) (by omega)
        have HF := Lib.hid fun W hW => HF1.out j W hW (by omega) (by omega)
        generalize faultS j = fs at *
        go_enter Tryz.func28, Tryz.ntmps28
        go_wp2_with (first
          | (go_at_call 42; (with_reducible refine (HZ.out _).mono ?_); rintro e w1 ⟨rfl, hb⟩; have HL1 := Lib.hid (HL0.out.step hb); have hk := ((HL1.out.blk (g := w.heap.size) (t := 26) (cs := #[.int .i64 4, .string num, .string den, .string text, .bool on, .int .i64 j, .int .i64 rows, .int .i64 cols, .slice A n c]) (by simp)).cell 0); have hk1 := ((HL1.out.blk (g := w.heap.size) (t := 26) (cs := #[.int .i64 4, .string num, .string den, .string text, .bool on, .int .i64 j, .int .i64 rows, .int .i64 cols, .slice A n c]) (by simp)).cell 5); clear hb)
          | (go_at_call 44; (with_reducible refine (HF.out _ HL1.out.bel).mono ?_); rintro e w2 ⟨rfl, rfl⟩))
        go_ret
        exact ⟨0, rfl, ⟨fun _ => HOK.out.2 ⟨fun h => by omega, fun h => by omega, fun _ => ⟨c1, c8⟩⟩, fun _ => rfl⟩, HL1.out.bel⟩
      · have HF := Lib.hid fun W => HF2.out code W (by omega)
        have HN := Lib.hid hco
        clear hco
        go_enter Tryz.func28, Tryz.ntmps28
        go_wp2_with (first
          | (go_at_call 42; (with_reducible refine (HZ.out _).mono ?_); rintro e w1 ⟨rfl, hb⟩; have HL1 := Lib.hid (HL0.out.step hb); have hk := ((HL1.out.blk (g := w.heap.size) (t := 26) (cs := #[.int .i64 4, .string num, .string den, .string text, .bool on, .int .i64 code, .int .i64 rows, .int .i64 cols, .slice A n c]) (by simp)).cell 0); have hk1 := ((HL1.out.blk (g := w.heap.size) (t := 26) (cs := #[.int .i64 4, .string num, .string den, .string text, .bool on, .int .i64 code, .int .i64 rows, .int .i64 cols, .slice A n c]) (by simp)).cell 5); clear hb)
          | (go_at_call 44; (with_reducible refine (HF.out _).mono ?_); rintro e w2 ⟨rfl, rfl⟩))
        go_ret
        exact ⟨2, rfl, ⟨fun h => absurd h (by decide), fun h => absurd ((HOK.out.1 h).2.2 (by simp)) HN.out⟩, HL1.out.bel⟩
end Go.Proofs.YtcnlonaighlmbaaGreatDoor

namespace Go.Proofs.YtcnlonaighlmbaaGreatDoor
open Go.RowKit

open Classical in
structure Vl.sz (v : Vl) : Prop where
  s1 : v.num.size ≤ 9223372036854775807
  s2 : v.den.size ≤ 9223372036854775807
  s3 : v.text.size ≤ 9223372036854775807

end Go.Proofs.YtcnlonaighlmbaaGreatDoor

namespace Go.Proofs.YtcnlonaighlmbaaGreatDoor
open Go.RowKit

theorem check_t' (v : Vl) (w : World) (he : VEnv w) (hv : v.ok) (s1 : v.num.size ≤ 9223372036854775807) (s2 : v.den.size ≤ 9223372036854775807) (s3 : v.text.size ≤ 9223372036854775807) :
    Calls Tryz.prog 28 #[v.v] w fun e w' => e = .returned (.int .i64 0) ∧ Below w.heap.size w w' :=
  (check_na v w he (fun h => by have := hv.2.1; omega) s1 s2 s3).mono fun e w' ⟨c, h1, h2, h3⟩ => by
    obtain rfl := h2.2 hv
    exact ⟨h1, h3⟩

set_option maxRecDepth 100000 in
set_option maxHeartbeats 1000000 in
theorem valid_t (v : Vl) (w : World) (he : VEnv w) (hv : v.ok) (s1 : v.num.size ≤ 9223372036854775807) (s2 : v.den.size ≤ 9223372036854775807) (s3 : v.text.size ≤ 9223372036854775807) :
    Calls Tryz.prog 18 #[v.v] w fun e w' => e = .returned v.v ∧ Below w.heap.size w w' := by
  have HC := Lib.hid fun W (hW : Below w.heap.size w W) => check_t' v W (he.below hW) hv s1 s2 s3
  clear he hv s1 s2 s3
  obtain ⟨k, num, den, text, on, code, rows, cols, A, n, c⟩ := v
  show Calls Tryz.prog 18 #[.agg #[.int .i64 k, .string num, .string den, .string text, .bool on, .int .i64 code, .int .i64 rows, .int .i64 cols, .slice A n c]] w _
  have HC := Lib.hid (show ∀ W, Below w.heap.size w W → Calls Tryz.prog 28 #[.agg #[.int .i64 k, .string num, .string den, .string text, .bool on, .int .i64 code, .int .i64 rows, .int .i64 cols, .slice A n c]] W fun e w' => e = .returned (.int .i64 0) ∧ Below W.heap.size W w' from HC.out)
  have HL0 := Lib.hid (((Loc.start w).alloc' rfl 26 #[.int .i64 k, .string num, .string den, .string text, .bool on, .int .i64 code, .int .i64 rows, .int .i64 cols, .slice A n c]).alloc' (g := w.heap.size + 1) (by simp) 26 #[.int .i64 0, .string ⟨#[]⟩, .string ⟨#[]⟩, .string ⟨#[]⟩, .bool false, .int .i64 0, .int .i64 0, .int .i64 0, .slice none 0 0])
  go_enter Tryz.func18, Tryz.ntmps18
  go_upto_region 3 with (go_at_call 28; (with_reducible refine (HC.out _ HL0.out.bel).mono ?_); rintro e w1 ⟨rfl, hb⟩; have HL1 := Lib.hid (HL0.out.step hb); clear hb)
  obtain ⟨x0, x1, x2, x3, x4, x5, x6, x7, x8⟩ := (HL1.out.blk (g := w.heap.size) (t := 26) (cs := #[.int .i64 k, .string num, .string den, .string text, .bool on, .int .i64 code, .int .i64 rows, .int .i64 cols, .slice A n c]) (by simp)).nine
  have bz := HL1.out.blk (g := w.heap.size + 1) (t := 26) (cs := #[.int .i64 0, .string ⟨#[]⟩, .string ⟨#[]⟩, .string ⟨#[]⟩, .bool false, .int .i64 0, .int .i64 0, .int .i64 0, .slice none 0 0]) (by simp)
  obtain ⟨z0, z1, z2, z3, z4, z5, z6, z7, z8⟩ := bz.nine
  obtain ⟨f0, f1, f2, f3, f4, f5, f6, f7, f8⟩ := bz.ninef
  obtain ⟨bs, s0, s1, s2, s3, s4, s5, s6, s7, s8⟩ := bz.nine_set (.int .i64 k) (.string num) (.string den) (.string text) (.bool on) (.int .i64 code) (.int .i64 rows) (.int .i64 cols) (.slice A n c)
  have BS := Lib.hid bs
  clear bz bs
  go_wp2_with fail
  obtain ⟨q0, q1, q2, q3, q4, q5, q6, q7, q8⟩ := BS.out.nine
  refine bodyPost_ret (v := .agg #[.int .i64 k, .string num, .string den, .string text, .bool on, .int .i64 code, .int .i64 rows, .int .i64 cols, .slice A n c]) (by simp [results, Tryz.results18, go_sem, q0, q1, q2, q3, q4, q5, q6, q7, q8]) rfl ⟨rfl, ?_⟩
  exact below_nine HL1.out.bel (by omega) _ _ _ _ _ _ _ _ _
theorem nval_ok {num den : ByteArray} (h : ∃ m n d, Nt.Rd num.data.toList den.data.toList m n d) : Vl.ok ⟨1, num, den, ⟨#[]⟩, false, 0, 0, 0, none, 0, 0⟩ :=
  ⟨show (0 : Int) ≤ 1 by decide, show (1 : Int) ≤ 4 by decide, by simp [Vl.zB, Lib.toList_data], fun _ => h, fun h => absurd (show (1 : Int) = 2 from h) (by decide), fun h => absurd (show (1 : Int) = 4 from h) (by decide)⟩
end Go.Proofs.YtcnlonaighlmbaaGreatDoor

namespace Go.Proofs.YtcnlonaighlmbaaGreatDoor
open Go.RowKit

/-- The items of a value lie in memory. -/
def Vl.its (W : World) (v : Vl) : Prop := ∃ us : List Vl, us.length = v.n ∧ (∀ u ∈ us, u.sz) ∧ Reads 9 (fun u : Vl => u.cs.toList) W (.slice v.A v.n v.c) us
theorem Vl.its.below {w W : World} {v : Vl} (h : v.its w) (hb : Below w.heap.size w W) : v.its W := by
  obtain ⟨us, h1, h2, h3⟩ := h
  exact ⟨us, h1, h2, h3.below hb⟩

end Go.Proofs.YtcnlonaighlmbaaGreatDoor

namespace Go.Proofs.YtcnlonaighlmbaaGreatDoor
open Go.RowKit

/-- An array whose items are good. -/
def GoodArr (v : Vl) (us : List Vl) : Prop := us.length = v.n ∧ (∀ u ∈ us, u.sz) ∧ (∀ u ∈ us, u.ok) ∧ 1 ≤ v.rows ∧ v.rows ≤ 100000 ∧ 1 ≤ v.cols ∧ v.cols ≤ 100000 ∧ v.rows * v.cols ≤ 100000 ∧ (us.length : Int) = v.rows * v.cols
set_option maxRecDepth 100000 in
set_option maxHeartbeats 4000000 in
theorem array_ok (v : Vl) (w : World) (he : VEnv w) (us : List Vl) (hg : GoodArr v us) (hv : Reads 9 (fun u : Vl => u.cs.toList) w (.slice v.A v.n v.c) us) : Calls Tryz.prog 45 #[v.v] w fun e w' => e = .returned (.int .i64 0) ∧ Below w.heap.size w w' := by
  obtain ⟨hn, hs, hok, r1, r2, r3, r4, h2, h3⟩ := hg
  obtain ⟨k, num, den, text, on, code, rows, cols, A, n, c⟩ := v
  dsimp only at hn hv r1 r2 r3 r4 h2 h3
  subst hn
  have HL0 := Lib.hid ((Loc.start w).alloc' rfl 26 #[.int .i64 k, .string num, .string den, .string text, .bool on, .int .i64 code, .int .i64 rows, .int .i64 cols, .slice A us.length c])
  have HOK := Lib.hid hok
  have HNA := Lib.hid fun (u : Vl) W (hb : Below w.heap.size w W) (hk : u.k ≠ 5) (hm : u ∈ us) => check_na u W (he.below hb) hk (hs u hm).s1 (hs u hm).s2 (hs u hm).s3
  have HV := Lib.hid hv
  clear he hs hv hok
  show Calls Tryz.prog 45 #[.agg #[.int .i64 k, .string num, .string den, .string text, .bool on, .int .i64 code, .int .i64 rows, .int .i64 cols, .slice A us.length c]] w _
  have m1 : 0 ≤ rows * cols := Int.mul_nonneg (by omega) (by omega)
  have m2 : rows * cols ≤ 10000000000 := Int.le_trans (Int.mul_le_mul r2 r4 (by omega) (by omega)) (by decide)
  have hnl : us.length ≤ 100000 := by omega
  have hb3 : ((us.length : Int) != rows * cols) = false := by rw [bne_eq_false_iff_eq]; exact h3
  clear h3
  go_enter Tryz.func45, Tryz.ntmps45
  go_wp2_with fail
  go_loopw [42] (fun i wr => ∃ j : Nat, j ≤ us.length ∧ i = .int .i64 j ∧ Below w.heap.size w wr) (fun i _ => us.length - (intOf i).toNat)
  case atStart => exact ⟨0, Nat.zero_le _, rfl, HL0.out.bel⟩
  case round =>
    obtain ⟨i, hi, rfl, hb⟩ := hrel
    clear hb3 m1 m2 r1 r2 r3 r4 h2
    have HB := Lib.hid hb
    clear hb
    by_cases hlt : i < us.length
    · obtain ⟨u, htk⟩ : ∃ x, x = us[i] := ⟨_, rfl⟩
      obtain ⟨A', c', e', hc', -, hrd⟩ := (HV.out.below HB.out)
      injection e' with e1 _ e3
      subst e1 e3
      obtain ⟨b, p, rfl, hblt, hcell⟩ := hrd (by omega)
      have HM := Lib.hid (show u ∈ us from by rw [htk]; exact List.getElem_mem hlt)
      obtain ⟨uk, unum, uden, utext, uon, ucode, urows, ucols, uA, un, uc⟩ := u
      have g0 : wr.cell? ⟨b, p + i * 9, none⟩ = some (.int .i64 uk) := by have := hcell i hlt 0 (by decide); rw [← htk] at this; exact this
      have g1 : wr.cell? ⟨b, p + i * 9 + 1, none⟩ = some (.string unum) := by have := hcell i hlt 1 (by decide); rw [← htk] at this; exact this
      have g2 : wr.cell? ⟨b, p + i * 9 + 2, none⟩ = some (.string uden) := by have := hcell i hlt 2 (by decide); rw [← htk] at this; exact this
      have g3 : wr.cell? ⟨b, p + i * 9 + 3, none⟩ = some (.string utext) := by have := hcell i hlt 3 (by decide); rw [← htk] at this; exact this
      have g4 : wr.cell? ⟨b, p + i * 9 + 4, none⟩ = some (.bool uon) := by have := hcell i hlt 4 (by decide); rw [← htk] at this; exact this
      have g5 : wr.cell? ⟨b, p + i * 9 + 5, none⟩ = some (.int .i64 ucode) := by have := hcell i hlt 5 (by decide); rw [← htk] at this; exact this
      have g6 : wr.cell? ⟨b, p + i * 9 + 6, none⟩ = some (.int .i64 urows) := by have := hcell i hlt 6 (by decide); rw [← htk] at this; exact this
      have g7 : wr.cell? ⟨b, p + i * 9 + 7, none⟩ = some (.int .i64 ucols) := by have := hcell i hlt 7 (by decide); rw [← htk] at this; exact this
      have g8 : wr.cell? ⟨b, p + i * 9 + 8, none⟩ = some (.slice uA un uc) := by have := hcell i hlt 8 (by decide); rw [← htk] at this; exact this
      clear hcell htk
      have hok := HOK.out _ HM.out
      have hk5 : uk ≠ 5 := by have h4 : uk ≤ 4 := hok.2.1; omega
      have HC := Lib.hid (show ∀ W, Below w.heap.size w W → Calls Tryz.prog 28 #[.agg #[.int .i64 uk, .string unum, .string uden, .string utext, .bool uon, .int .i64 ucode, .int .i64 urows, .int .i64 ucols, .slice uA un uc]] W fun e w' => e = .returned (.int .i64 0) ∧ Below W.heap.size W w' from fun W hW => (HNA.out ⟨uk, unum, uden, utext, uon, ucode, urows, ucols, uA, un, uc⟩ W hW hk5 HM.out).mono fun e w' ⟨c, h1, h2, h3⟩ => ⟨by rw [h1, h2.2 hok], h3⟩)
      have HBA := Lib.hid (HB.out.alloc HB.out.size (.cells #[.int .i64 uk, .string unum, .string uden, .string utext, .bool uon, .int .i64 ucode, .int .i64 urows, .int .i64 ucols, .slice uA un uc] 26))
      clear HV HM HNA HB hok
      go_wp2_with (go_at_call 28; (with_reducible refine (HC.out _ HBA.out).mono ?_); rintro e w1 ⟨rfl, hb⟩; have HB1 := Lib.hid (below_tr HBA.out hb); clear hb)
      go_roundw
      case rel => exact ⟨i + 1, by omega, by go_num, HB1.out⟩
      case measure => simp [intOf]; omega
    · go_wp2_with fail
      go_ret
      exact ⟨rfl, HB.out⟩
set_option maxRecDepth 100000 in
set_option maxHeartbeats 4000000 in
theorem check_ok (v : Vl) (w : World) (he : VEnv w) (us : List Vl) (h5 : v.k = 5) (hz : v.zB = true) (hg : GoodArr v us) (hv : Reads 9 (fun u : Vl => u.cs.toList) w (.slice v.A v.n v.c) us) : Calls Tryz.prog 28 #[v.v] w fun e w' => e = .returned (.int .i64 0) ∧ Below w.heap.size w w' := by
  have HA := Lib.hid fun W (hb : Below w.heap.size w W) => array_ok v W (he.below hb) us hg (hv.below hb)
  obtain ⟨k, num, den, text, on, code, rows, cols, A, n, c⟩ := v
  dsimp only at h5
  subst h5
  have HA := Lib.hid (show ∀ W, Below w.heap.size w W → Calls Tryz.prog 45 #[.agg #[.int .i64 5, .string num, .string den, .string text, .bool on, .int .i64 code, .int .i64 rows, .int .i64 cols, .slice A n c]] W _ from HA.out)
  have HL0 := Lib.hid ((Loc.start w).alloc' rfl 26 #[.int .i64 5, .string num, .string den, .string text, .bool on, .int .i64 code, .int .i64 rows, .int .i64 cols, .slice A n c])
  show Calls Tryz.prog 28 #[.agg #[.int .i64 5, .string num, .string den, .string text, .bool on, .int .i64 code, .int .i64 rows, .int .i64 cols, .slice A n c]] w _
  have HZ := Lib.hid (show ∀ W, Calls Tryz.prog 42 #[.agg #[.int .i64 5, .string num, .string den, .string text, .bool on, .int .i64 code, .int .i64 rows, .int .i64 cols, .slice A n c]] W fun e w' => e = .returned (.int .i64 0) ∧ Below W.heap.size W w' from fun W => by
    have := zeros_any ⟨5, num, den, text, on, code, rows, cols, A, n, c⟩ W (show (0 : Int) ≤ 5 by decide) (show (5 : Int) ≤ 5 by decide)
    rw [hz] at this
    exact this)
  clear hz he hg hv
  go_enter Tryz.func28, Tryz.ntmps28
  go_wp2_with (first
    | (go_at_call 42; (with_reducible refine (HZ.out _).mono ?_); rintro e w1 ⟨rfl, hb⟩; have HL1 := Lib.hid (HL0.out.step hb); have hk0 := ((HL1.out.blk (g := w.heap.size) (t := 26) (cs := #[.int .i64 5, .string num, .string den, .string text, .bool on, .int .i64 code, .int .i64 rows, .int .i64 cols, .slice A n c]) (by simp)).cell 0); have hk1 := ((HL1.out.blk (g := w.heap.size) (t := 26) (cs := #[.int .i64 5, .string num, .string den, .string text, .bool on, .int .i64 code, .int .i64 rows, .int .i64 cols, .slice A n c]) (by simp)).cell 1); have hk2 := ((HL1.out.blk (g := w.heap.size) (t := 26) (cs := #[.int .i64 5, .string num, .string den, .string text, .bool on, .int .i64 code, .int .i64 rows, .int .i64 cols, .slice A n c]) (by simp)).cell 2); have hk3 := ((HL1.out.blk (g := w.heap.size) (t := 26) (cs := #[.int .i64 5, .string num, .string den, .string text, .bool on, .int .i64 code, .int .i64 rows, .int .i64 cols, .slice A n c]) (by simp)).cell 3); have hk4 := ((HL1.out.blk (g := w.heap.size) (t := 26) (cs := #[.int .i64 5, .string num, .string den, .string text, .bool on, .int .i64 code, .int .i64 rows, .int .i64 cols, .slice A n c]) (by simp)).cell 4); have hk5 := ((HL1.out.blk (g := w.heap.size) (t := 26) (cs := #[.int .i64 5, .string num, .string den, .string text, .bool on, .int .i64 code, .int .i64 rows, .int .i64 cols, .slice A n c]) (by simp)).cell 5); have hk6 := ((HL1.out.blk (g := w.heap.size) (t := 26) (cs := #[.int .i64 5, .string num, .string den, .string text, .bool on, .int .i64 code, .int .i64 rows, .int .i64 cols, .slice A n c]) (by simp)).cell 6); have hk7 := ((HL1.out.blk (g := w.heap.size) (t := 26) (cs := #[.int .i64 5, .string num, .string den, .string text, .bool on, .int .i64 code, .int .i64 rows, .int .i64 cols, .slice A n c]) (by simp)).cell 7); have hk8 := ((HL1.out.blk (g := w.heap.size) (t := 26) (cs := #[.int .i64 5, .string num, .string den, .string text, .bool on, .int .i64 code, .int .i64 rows, .int .i64 cols, .slice A n c]) (by simp)).cell 8); clear hb)
    | (go_at_call 45; (with_reducible refine (HA.out _ HL1.out.bel).mono ?_); rintro e w2 ⟨rfl, hb⟩; have HL2 := Lib.hid (HL1.out.step hb); clear hb))
  go_ret
  exact ⟨rfl, HL2.out.bel⟩
end Go.Proofs.YtcnlonaighlmbaaGreatDoor

namespace Go.Proofs.YtcnlonaighlmbaaGreatDoor
open Go.RowKit


end Go.Proofs.YtcnlonaighlmbaaGreatDoor

namespace Go.Proofs.YtcnlonaighlmbaaGreatDoor
open Go.RowKit

theorem eqfunc_0 (A1 A2 : Option Addr) (c1 c2 : Nat) (w : World) :
    Calls Tryz.prog 23 #[.slice A1 0 c1, .slice A2 0 c2, .func (.func 12) #[] #[]] w fun e w' => e = .returned (.bool true) ∧ w = w' := by
  go_enter Tryz.func23, Tryz.ntmps23
  go_wp2
  go_loop [17] (fun i => i = .int .i64 0) (fun _ => 0)
  case atStart => rfl
  case round =>
    obtain rfl := hrel
    go_wp2
    go_ret
    exact ⟨rfl, rfl⟩
end Go.Proofs.YtcnlonaighlmbaaGreatDoor

namespace Go.Proofs.YtcnlonaighlmbaaGreatDoor
open Go.RowKit

def csV (u : Vl) : List Value := u.cs.toList
/-- A key of one item is read. -/
def KR (W : World) (x : SV) (u : Vl) : Prop := Reads 9 csV W (sv3 x) [u]
theorem KR.below {w W : World} {x : SV} {u : Vl} (h : KR w x u) (hb : Below w.heap.size w W) : KR W x u := Reads.below h hb
/-- Its cells. -/
theorem KR.nine {W : World} {x : SV} {u : Vl} (h : KR W x u) : ∃ b o c, x = (some ⟨b, o, none⟩, 1, c) ∧ b < W.heap.size ∧
    W.cell? ⟨b, o, none⟩ = some (.int .i64 u.k) ∧ W.cell? ⟨b, o + 1, none⟩ = some (.string u.num) ∧ W.cell? ⟨b, o + 2, none⟩ = some (.string u.den) ∧ W.cell? ⟨b, o + 3, none⟩ = some (.string u.text) ∧ W.cell? ⟨b, o + 4, none⟩ = some (.bool u.on) ∧ W.cell? ⟨b, o + 5, none⟩ = some (.int .i64 u.code) ∧ W.cell? ⟨b, o + 6, none⟩ = some (.int .i64 u.rows) ∧ W.cell? ⟨b, o + 7, none⟩ = some (.int .i64 u.cols) ∧ W.cell? ⟨b, o + 8, none⟩ = some (.slice u.A u.n u.c) := by
  obtain ⟨A, c, e, -, -, h1⟩ := h
  obtain ⟨b, o, e2, hb, hc⟩ := h1 (by simp)
  obtain ⟨x1, x2, x3⟩ := x
  injection e with e3 e4 e5
  simp only [] at e3 e4 e5
  subst e3 e5
  subst e4
  refine ⟨b, o, _, by rw [e2]; rfl, hb, ?_⟩
  have hc' : ∀ j, j < 9 → W.cell? ⟨b, o + j, none⟩ = (csV u)[j]? := fun j hj => by
    have := hc 0 (by simp) j hj
    rw [show o + (0 * 9 + j) = o + j by omega] at this
    exact this
  exact ⟨hc' 0 (by decide), hc' 1 (by decide), hc' 2 (by decide), hc' 3 (by decide), hc' 4 (by decide), hc' 5 (by decide), hc' 6 (by decide), hc' 7 (by decide), hc' 8 (by decide)⟩
end Go.Proofs.YtcnlonaighlmbaaGreatDoor

namespace Go.Proofs.YtcnlonaighlmbaaGreatDoor
open Go.RowKit

end Go.Proofs.YtcnlonaighlmbaaGreatDoor

namespace Go.Proofs.YtcnlonaighlmbaaGreatDoor
open Go.RowKit

theorem tval_ok {t : ByteArray} (h : txtE t = 0) : Vl.ok ⟨2, ⟨#[]⟩, ⟨#[]⟩, t, false, 0, 0, 0, none, 0, 0⟩ :=
  ⟨show (0 : Int) ≤ 2 by decide, show (2 : Int) ≤ 4 by decide, by simp [Vl.zB, Lib.toList_data, frSame], fun h => absurd (show (2 : Int) = 1 from h) (by decide), fun _ => h, fun h => absurd (show (2 : Int) = 4 from h) (by decide)⟩
set_option maxRecDepth 100000 in
set_option maxHeartbeats 1000000 in
theorem text_t (t : ByteArray) (w : World) (he : VEnv w) (h : txtE t = 0) (hz : t.size ≤ 9223372036854775807) :
    Calls Tryz.prog 7 #[.string t] w fun e w' => e = .returned (.agg #[.int .i64 2, .string ⟨#[]⟩, .string ⟨#[]⟩, .string t, .bool false, .int .i64 0, .int .i64 0, .int .i64 0, .slice none 0 0]) ∧ Below w.heap.size w w' := by
  have HV := Lib.hid (show ∀ W, Below w.heap.size w W → Calls Tryz.prog 18 #[.agg #[.int .i64 2, .string ⟨#[]⟩, .string ⟨#[]⟩, .string t, .bool false, .int .i64 0, .int .i64 0, .int .i64 0, .slice none 0 0]] W fun e w' => e = .returned (.agg #[.int .i64 2, .string ⟨#[]⟩, .string ⟨#[]⟩, .string t, .bool false, .int .i64 0, .int .i64 0, .int .i64 0, .slice none 0 0]) ∧ Below W.heap.size W w' from fun W hW => valid_t ⟨2, ⟨#[]⟩, ⟨#[]⟩, t, false, 0, 0, 0, none, 0, 0⟩ W (he.below hW) (tval_ok h) (show (⟨#[]⟩ : ByteArray).size ≤ 9223372036854775807 by decide) (show (⟨#[]⟩ : ByteArray).size ≤ 9223372036854775807 by decide) hz)
  clear he h hz
  have HL0 := Lib.hid ((Loc.start w).alloc' rfl 26 #[.int .i64 0, .string ⟨#[]⟩, .string ⟨#[]⟩, .string ⟨#[]⟩, .bool false, .int .i64 0, .int .i64 0, .int .i64 0, .slice none 0 0])
  go_enter Tryz.func7, Tryz.ntmps7
  go_wp2_with (go_at_call 18; (with_reducible refine (HV.out _ HL0.out.bel).mono ?_); rintro e w1 ⟨rfl, hb⟩; have HL1 := Lib.hid (HL0.out.step hb); have bz := HL1.out.blk (g := w.heap.size) (t := 26) (cs := #[.int .i64 0, .string ⟨#[]⟩, .string ⟨#[]⟩, .string ⟨#[]⟩, .bool false, .int .i64 0, .int .i64 0, .int .i64 0, .slice none 0 0]) (by simp); obtain ⟨z0, z1, z2, z3, z4, z5, z6, z7, z8⟩ := bz.nine; obtain ⟨f0, f1, f2, f3, f4, f5, f6, f7, f8⟩ := bz.ninef; obtain ⟨bs, c0, c1, c2, c3, c4, c5, c6, c7, c8⟩ := bz.nine_set (.int .i64 2) (.string ⟨#[]⟩) (.string ⟨#[]⟩) (.string t) (.bool false) (.int .i64 0) (.int .i64 0) (.int .i64 0) (.slice none 0 0); have BS := Lib.hid bs; clear bz bs hb)
  obtain ⟨q0, q1, q2, q3, q4, q5, q6, q7, q8⟩ := BS.out.nine
  refine bodyPost_ret (v := .agg #[.int .i64 2, .string ⟨#[]⟩, .string ⟨#[]⟩, .string t, .bool false, .int .i64 0, .int .i64 0, .int .i64 0, .slice none 0 0]) (by simp [results, Tryz.results7, go_sem, q0, q1, q2, q3, q4, q5, q6, q7, q8]) rfl ⟨rfl, ?_⟩
  exact below_nine HL1.out.bel (by omega) _ _ _ _ _ _ _ _ _

/-- A whole number's text. -/
def nt (n : Nat) : ByteArray := ⟨(Lib.decDigits n).toArray⟩
/-- A whole number as a value. -/
def nV (n : Nat) : Vl := ⟨1, nt n, ⟨#[49]⟩, ⟨#[]⟩, false, 0, 0, 0, none, 0, 0⟩
def tV (t : ByteArray) : Vl := ⟨2, ⟨#[]⟩, ⟨#[]⟩, t, false, 0, 0, 0, none, 0, 0⟩
theorem nt_size (n : Nat) (h : n < 100000000000000000) : (nt n).size ≤ 17 := Nt.dd_le (k := 16) h
theorem pv_rd (N : Nat) (h : N < 100000000000000000) : Nt.Rd (Lib.decDigits N) [49] false N 1 := by
  have hl : (Lib.decDigits N).length ≤ 17 := Nt.dd_le (k := 16) h
  exact ⟨rfl, by rw [Lib.decDigits_one (by decide)]; rfl, by decide, fun _ => rfl, by omega, by rw [Lib.decDigits_one (by decide)]; simp, Nat.gcd_one_right _⟩
theorem pv_qk (N : Nat) (h : N < 100000000000000000) : Nt.Qk (Lib.decDigits N) [49] N 1 40 :=
  Nt.Rd.qk (pv_rd N h) (by have : (Lib.decDigits N).length ≤ 17 := Nt.dd_le (k := 16) h; omega) (by simp)
theorem nV_ok (n : Nat) (h : n < 100000000000000000) : (nV n).ok := nval_ok ⟨_, _, _, pv_rd n h⟩
theorem of_t (n : Nat) (w : World) (hn : n ≤ 100000) (htab : Lib.TabIs Tryz.prog w "internal/strconv.uint64pow10" .u64 Lib.pow10Tab) :
    Calls Tryz.prog 34 #[.int .i64 (n : Int)] w fun e w' => e = .returned (.agg #[.string (nt n), .string ⟨#[49]⟩]) ∧ Below w.heap.size w w' :=
  (of_nat n w hn htab).mono fun e w' ⟨t, h1, h2, h3⟩ => by
    obtain rfl : t = nt n := ba_ext h2
    exact ⟨h1, h3⟩
set_option maxRecDepth 100000 in
set_option maxHeartbeats 1000000 in
theorem whole_t (n : Nat) (w : World) (hn : n ≤ 100000) (htab : Lib.TabIs Tryz.prog w "internal/strconv.uint64pow10" .u64 Lib.pow10Tab) :
    Calls Tryz.prog 22 #[.int .i64 (n : Int)] w fun e w' => e = .returned (nV n).v ∧ Below w.heap.size w w' := by
  have HO := Lib.hid fun W (hW : Below w.heap.size w W) => of_t n W hn (Lib.tabBelow_of_tabIs htab W hW)
  clear htab
  show Calls _ _ _ w fun e w' => e = .returned (.agg #[.int .i64 1, .string (nt n), .string ⟨#[49]⟩, .string ⟨#[]⟩, .bool false, .int .i64 0, .int .i64 0, .int .i64 0, .slice none 0 0]) ∧ _
  obtain ⟨t, ht⟩ : ∃ t, t = nt n := ⟨_, rfl⟩
  rw [← ht] at HO
  rw [← ht]
  clear ht
  have HL0 := Lib.hid ((Loc.start w).alloc' rfl 26 #[.int .i64 0, .string ⟨#[]⟩, .string ⟨#[]⟩, .string ⟨#[]⟩, .bool false, .int .i64 0, .int .i64 0, .int .i64 0, .slice none 0 0])
  go_enter Tryz.func22, Tryz.ntmps22
  go_wp2_with (go_at_call 34; (with_reducible refine (HO.out _ HL0.out.bel).mono ?_); rintro e w1 ⟨rfl, hb⟩; have HL1 := Lib.hid (HL0.out.step hb); have bz := HL1.out.blk (g := w.heap.size) (t := 26) (cs := #[.int .i64 0, .string ⟨#[]⟩, .string ⟨#[]⟩, .string ⟨#[]⟩, .bool false, .int .i64 0, .int .i64 0, .int .i64 0, .slice none 0 0]) (by simp); obtain ⟨z0, z1, z2, z3, z4, z5, z6, z7, z8⟩ := bz.nine; obtain ⟨f0, f1, f2, f3, f4, f5, f6, f7, f8⟩ := bz.ninef; obtain ⟨bs, c0, c1, c2, c3, c4, c5, c6, c7, c8⟩ := bz.nine_set (.int .i64 1) (.string t) (.string ⟨#[49]⟩) (.string ⟨#[]⟩) (.bool false) (.int .i64 0) (.int .i64 0) (.int .i64 0) (.slice none 0 0); have BS := Lib.hid bs; clear bz bs hb)
  obtain ⟨q0, q1, q2, q3, q4, q5, q6, q7, q8⟩ := BS.out.nine
  refine bodyPost_ret (v := .agg #[.int .i64 1, .string t, .string ⟨#[49]⟩, .string ⟨#[]⟩, .bool false, .int .i64 0, .int .i64 0, .int .i64 0, .slice none 0 0]) (by simp [results, Tryz.results22, go_sem, q0, q1, q2, q3, q4, q5, q6, q7, q8]) rfl ⟨rfl, ?_⟩
  exact below_nine HL1.out.bel (by omega) _ _ _ _ _ _ _ _ _
end Go.Proofs.YtcnlonaighlmbaaGreatDoor

namespace Go.Proofs.YtcnlonaighlmbaaGreatDoor
open Go.RowKit

theorem rd_whole (N : Nat) (h : N < 100000000000000000) : Nt.Rd (Lib.decDigits N) [49] false N 1 ∧ (Lib.decDigits N).length ≤ 17 := by
  have hl : (Lib.decDigits N).length ≤ 17 := Nt.dd_le (k := 16) h
  exact ⟨⟨rfl, by rw [Lib.decDigits_one (by decide)]; rfl, by decide, fun _ => rfl, by omega, by rw [Lib.decDigits_one (by decide)]; simp, Nat.gcd_one_right _⟩, hl⟩
theorem qk_whole (N : Nat) (h : N < 100000000000000000) : Nt.Qk (Lib.decDigits N) [49] N 1 40 :=
  Nt.Rd.qk (rd_whole N h).1 (by have := (rd_whole N h).2; omega) (by simp)
set_option maxRecDepth 100000 in
set_option maxHeartbeats 2000000 in
theorem int_q (a1 a2 : ByteArray) (N k : Nat) (w : World) (h : N < 100000000000000000) (ha : Nt.Qk a1.data.toList a2.data.toList N 1 k) :
    Calls Tryz.prog 9 #[.agg #[.string a1, .string a2]] w fun e w' => e = .returned (.tuple #[.int .i64 (N : Int), .bool true, .int .i64 0]) ∧ Below w.heap.size w w' := by
  obtain ⟨hr, hl⟩ := rd_whole N h
  obtain ⟨e1, e2⟩ := ha.q.same (qk_whole N h).q rfl
  obtain rfl : a2 = ⟨#[49]⟩ := ba_ext e2
  have hsz : a1.size ≤ 17 := by
    have : a1.size = a1.data.toList.length := rfl
    rw [this, e1]; exact hl
  have HCK := Lib.hid fun W => check_any a1 ⟨#[49]⟩ W (by omega) (by decide)
  have HRD := Lib.hid (show ∃ m n d, Nt.Rd a1.data.toList (⟨#[49]⟩ : ByteArray).data.toList m n d from ⟨false, N, 1, by rw [e1]; exact hr⟩)
  have HAT := Lib.hid fun W => atoi_any a1 (Lib.decDigits N) W e1 (by omega) (Nt.allD_dd N) (Nt.dd_ne N)
  rw [Nt.dval_dd] at HAT
  have HL0 := Lib.hid ((Loc.start w).alloc' rfl 23 #[.string a1, .string ⟨#[49]⟩])
  obtain ⟨x0, x1, -, -⟩ := (HL0.out.blk (List.mem_cons_self ..)).two
  have hN : (N : Int) ≤ 100000000000000000 := by omega
  clear ha hr hl e1 e2 h hsz
  go_enter Tryz.func9, Tryz.ntmps9
  go_wp2_with (first
    | (go_at_call 20; (with_reducible refine (HCK.out _).mono ?_); rintro e w1 ⟨c, rfl, hc, hb⟩; obtain rfl := hc.2 HRD.out; have HL1 := Lib.hid (HL0.out.step hb); clear hb hc x0 x1; obtain ⟨x0, x1, -, -⟩ := (HL1.out.blk (List.mem_cons_self ..)).two)
    | (go_at_call 21; (with_reducible refine (HAT.out _).mono ?_); rintro e w2 ⟨rfl, hb⟩; have HL2 := Lib.hid (HL1.out.step hb); clear hb x0 x1; obtain ⟨x0, x1, -, -⟩ := (HL2.out.blk (List.mem_cons_self ..)).two))
  go_ret3
  exact ⟨rfl, HL2.out.bel⟩
end Go.Proofs.YtcnlonaighlmbaaGreatDoor

namespace Go.Proofs.YtcnlonaighlmbaaGreatDoor
open Go.RowKit

theorem fval_ok {j : Nat} (h1 : 1 ≤ j) (h8 : j ≤ 8) : Vl.ok ⟨4, ⟨#[]⟩, ⟨#[]⟩, ⟨#[]⟩, false, (j : Int), 0, 0, none, 0, 0⟩ :=
  ⟨show (0 : Int) ≤ 4 by decide, show (4 : Int) ≤ 4 by decide, by simp [Vl.zB, Lib.toList_data, frSame], fun h => absurd (show (4 : Int) = 1 from h) (by decide), fun h => absurd (show (4 : Int) = 2 from h) (by decide), fun _ => ⟨show (1 : Int) ≤ (j : Int) by omega, show (j : Int) ≤ 8 by omega⟩⟩
set_option maxRecDepth 100000 in
set_option maxHeartbeats 1000000 in
theorem fault_t (j : Nat) (w : World) (he : VEnv w) (h1 : 1 ≤ j) (h8 : j ≤ 8) :
    Calls Tryz.prog 49 #[.int .i64 (j : Int)] w fun e w' => e = .returned (.agg #[.int .i64 4, .string ⟨#[]⟩, .string ⟨#[]⟩, .string ⟨#[]⟩, .bool false, .int .i64 (j : Int), .int .i64 0, .int .i64 0, .slice none 0 0]) ∧ Below w.heap.size w w' := by
  have HV := Lib.hid (show ∀ W, Below w.heap.size w W → Calls Tryz.prog 18 #[.agg #[.int .i64 4, .string ⟨#[]⟩, .string ⟨#[]⟩, .string ⟨#[]⟩, .bool false, .int .i64 (j : Int), .int .i64 0, .int .i64 0, .slice none 0 0]] W fun e w' => e = .returned (.agg #[.int .i64 4, .string ⟨#[]⟩, .string ⟨#[]⟩, .string ⟨#[]⟩, .bool false, .int .i64 (j : Int), .int .i64 0, .int .i64 0, .slice none 0 0]) ∧ Below W.heap.size W w' from fun W hW => valid_t ⟨4, ⟨#[]⟩, ⟨#[]⟩, ⟨#[]⟩, false, (j : Int), 0, 0, none, 0, 0⟩ W (he.below hW) (fval_ok h1 h8) (show (⟨#[]⟩ : ByteArray).size ≤ 9223372036854775807 by decide) (show (⟨#[]⟩ : ByteArray).size ≤ 9223372036854775807 by decide) (show (⟨#[]⟩ : ByteArray).size ≤ 9223372036854775807 by decide))
  clear he h1 h8
  have HL0 := Lib.hid ((Loc.start w).alloc' rfl 26 #[.int .i64 0, .string ⟨#[]⟩, .string ⟨#[]⟩, .string ⟨#[]⟩, .bool false, .int .i64 0, .int .i64 0, .int .i64 0, .slice none 0 0])
  go_enter Tryz.func49, Tryz.ntmps49
  go_wp2_with (go_at_call 18; (with_reducible refine (HV.out _ HL0.out.bel).mono ?_); rintro e w1 ⟨rfl, hb⟩; have HL1 := Lib.hid (HL0.out.step hb); have bz := HL1.out.blk (g := w.heap.size) (t := 26) (cs := #[.int .i64 0, .string ⟨#[]⟩, .string ⟨#[]⟩, .string ⟨#[]⟩, .bool false, .int .i64 0, .int .i64 0, .int .i64 0, .slice none 0 0]) (by simp); obtain ⟨z0, z1, z2, z3, z4, z5, z6, z7, z8⟩ := bz.nine; obtain ⟨f0, f1, f2, f3, f4, f5, f6, f7, f8⟩ := bz.ninef; obtain ⟨bs, c0, c1, c2, c3, c4, c5, c6, c7, c8⟩ := bz.nine_set (.int .i64 4) (.string ⟨#[]⟩) (.string ⟨#[]⟩) (.string ⟨#[]⟩) (.bool false) (.int .i64 (j : Int)) (.int .i64 0) (.int .i64 0) (.slice none 0 0); have BS := Lib.hid bs; clear bz bs hb)
  obtain ⟨q0, q1, q2, q3, q4, q5, q6, q7, q8⟩ := BS.out.nine
  refine bodyPost_ret (v := .agg #[.int .i64 4, .string ⟨#[]⟩, .string ⟨#[]⟩, .string ⟨#[]⟩, .bool false, .int .i64 (j : Int), .int .i64 0, .int .i64 0, .slice none 0 0]) (by simp [results, Tryz.results49, go_sem, q0, q1, q2, q3, q4, q5, q6, q7, q8]) rfl ⟨rfl, ?_⟩
  exact below_nine HL1.out.bel (by omega) _ _ _ _ _ _ _ _ _
end Go.Proofs.YtcnlonaighlmbaaGreatDoor
