/- 9 cells in a block: what a walk reads of them, and what 9 stores leave. -/
import Derived.Test.YtllhefjblipddaaGreatDoorGaa
import Derived.Test.YtllhefjblipddaaGreatDoorVaC
import Derived.Test.YtllhefjblipddaaGreatDoorGag
import Derived.Test.YtllhefjblipddaaGreatDoorShelfS
import Derived.Test.YtllhefjblipddaaGreatDoorVaB
import Derived.Test.YtllhefjblipddaaGreatDoorLoc
import Derived.Deep.QuietTactic
import Derived.BigQuiet
import Derived.Test.YtllhefjblipddaaGreatDoorVbA
import Derived.Deep.RegionHeld3
import Derived.Test.YtllhefjblipddaaGreatDoorRow
import Derived.Test.YtllhefjblipddaaGreatDoorGab
import Derived.Test.YtllhefjblipddaaGreatDoorGal
set_option linter.unusedSimpArgs false
set_option linter.unusedVariables false
namespace Go.Proofs.YtllhefjblipddaaGreatDoor
open Go.RowKit

section
variable {w : World} {g : Nat} {t : TypeId} {x0 x1 x2 x3 x4 x5 x6 x7 x8 : Value}
theorem Blk.nine (h : Blk w g t #[x0, x1, x2, x3, x4, x5, x6, x7, x8]) :
    w.cell? ⟨g, 0, none⟩ = some x0 ∧ w.cell? ⟨g, 1, none⟩ = some x1 ∧ w.cell? ⟨g, 2, none⟩ = some x2 ∧ w.cell? ⟨g, 3, none⟩ = some x3 ∧ w.cell? ⟨g, 4, none⟩ = some x4 ∧ w.cell? ⟨g, 5, none⟩ = some x5 ∧ w.cell? ⟨g, 6, none⟩ = some x6 ∧ w.cell? ⟨g, 7, none⟩ = some x7 ∧ w.cell? ⟨g, 8, none⟩ = some x8 :=
  ⟨h.cell 0, h.cell 1, h.cell 2, h.cell 3, h.cell 4, h.cell 5, h.cell 6, h.cell 7, h.cell 8⟩
theorem Blk.ninef {cs : Array Value} (h : Blk w g t cs) :
    w.frozen? ⟨g, 0, none⟩ = false ∧ w.frozen? ⟨g, 1, none⟩ = false ∧ w.frozen? ⟨g, 2, none⟩ = false ∧ w.frozen? ⟨g, 3, none⟩ = false ∧ w.frozen? ⟨g, 4, none⟩ = false ∧ w.frozen? ⟨g, 5, none⟩ = false ∧ w.frozen? ⟨g, 6, none⟩ = false ∧ w.frozen? ⟨g, 7, none⟩ = false ∧ w.frozen? ⟨g, 8, none⟩ = false :=
  ⟨h.frozen 0, h.frozen 1, h.frozen 2, h.frozen 3, h.frozen 4, h.frozen 5, h.frozen 6, h.frozen 7, h.frozen 8⟩
/-- 9 stores; what is read back of the cell that was written last, store by store. -/
theorem Blk.nine_set (h : Blk w g t #[x0, x1, x2, x3, x4, x5, x6, x7, x8]) (y0 y1 y2 y3 y4 y5 y6 y7 y8 : Value) :
    Blk (((((((((w.setCell ⟨g, 0, none⟩ y0).setCell ⟨g, 1, none⟩ y1).setCell ⟨g, 2, none⟩ y2).setCell ⟨g, 3, none⟩ y3).setCell ⟨g, 4, none⟩ y4).setCell ⟨g, 5, none⟩ y5).setCell ⟨g, 6, none⟩ y6).setCell ⟨g, 7, none⟩ y7).setCell ⟨g, 8, none⟩ y8) g t #[y0, y1, y2, y3, y4, y5, y6, y7, y8] ∧
    (w.setCell ⟨g, 0, none⟩ y0).cell? ⟨g, 0, none⟩ = some y0 ∧
    ((w.setCell ⟨g, 0, none⟩ y0).setCell ⟨g, 1, none⟩ y1).cell? ⟨g, 1, none⟩ = some y1 ∧
    (((w.setCell ⟨g, 0, none⟩ y0).setCell ⟨g, 1, none⟩ y1).setCell ⟨g, 2, none⟩ y2).cell? ⟨g, 2, none⟩ = some y2 ∧
    ((((w.setCell ⟨g, 0, none⟩ y0).setCell ⟨g, 1, none⟩ y1).setCell ⟨g, 2, none⟩ y2).setCell ⟨g, 3, none⟩ y3).cell? ⟨g, 3, none⟩ = some y3 ∧
    (((((w.setCell ⟨g, 0, none⟩ y0).setCell ⟨g, 1, none⟩ y1).setCell ⟨g, 2, none⟩ y2).setCell ⟨g, 3, none⟩ y3).setCell ⟨g, 4, none⟩ y4).cell? ⟨g, 4, none⟩ = some y4 ∧
    ((((((w.setCell ⟨g, 0, none⟩ y0).setCell ⟨g, 1, none⟩ y1).setCell ⟨g, 2, none⟩ y2).setCell ⟨g, 3, none⟩ y3).setCell ⟨g, 4, none⟩ y4).setCell ⟨g, 5, none⟩ y5).cell? ⟨g, 5, none⟩ = some y5 ∧
    (((((((w.setCell ⟨g, 0, none⟩ y0).setCell ⟨g, 1, none⟩ y1).setCell ⟨g, 2, none⟩ y2).setCell ⟨g, 3, none⟩ y3).setCell ⟨g, 4, none⟩ y4).setCell ⟨g, 5, none⟩ y5).setCell ⟨g, 6, none⟩ y6).cell? ⟨g, 6, none⟩ = some y6 ∧
    ((((((((w.setCell ⟨g, 0, none⟩ y0).setCell ⟨g, 1, none⟩ y1).setCell ⟨g, 2, none⟩ y2).setCell ⟨g, 3, none⟩ y3).setCell ⟨g, 4, none⟩ y4).setCell ⟨g, 5, none⟩ y5).setCell ⟨g, 6, none⟩ y6).setCell ⟨g, 7, none⟩ y7).cell? ⟨g, 7, none⟩ = some y7 ∧
    (((((((((w.setCell ⟨g, 0, none⟩ y0).setCell ⟨g, 1, none⟩ y1).setCell ⟨g, 2, none⟩ y2).setCell ⟨g, 3, none⟩ y3).setCell ⟨g, 4, none⟩ y4).setCell ⟨g, 5, none⟩ y5).setCell ⟨g, 6, none⟩ y6).setCell ⟨g, 7, none⟩ y7).setCell ⟨g, 8, none⟩ y8).cell? ⟨g, 8, none⟩ = some y8 := by
  have h0 : Blk (w.setCell ⟨g, 0, none⟩ y0) g t #[y0, x1, x2, x3, x4, x5, x6, x7, x8] := by
    have := h.set_ 0 y0
    simpa using this
  have h1 : Blk ((w.setCell ⟨g, 0, none⟩ y0).setCell ⟨g, 1, none⟩ y1) g t #[y0, y1, x2, x3, x4, x5, x6, x7, x8] := by
    have := h0.set_ 1 y1
    simpa using this
  have h2 : Blk (((w.setCell ⟨g, 0, none⟩ y0).setCell ⟨g, 1, none⟩ y1).setCell ⟨g, 2, none⟩ y2) g t #[y0, y1, y2, x3, x4, x5, x6, x7, x8] := by
    have := h1.set_ 2 y2
    simpa using this
  have h3 : Blk ((((w.setCell ⟨g, 0, none⟩ y0).setCell ⟨g, 1, none⟩ y1).setCell ⟨g, 2, none⟩ y2).setCell ⟨g, 3, none⟩ y3) g t #[y0, y1, y2, y3, x4, x5, x6, x7, x8] := by
    have := h2.set_ 3 y3
    simpa using this
  have h4 : Blk (((((w.setCell ⟨g, 0, none⟩ y0).setCell ⟨g, 1, none⟩ y1).setCell ⟨g, 2, none⟩ y2).setCell ⟨g, 3, none⟩ y3).setCell ⟨g, 4, none⟩ y4) g t #[y0, y1, y2, y3, y4, x5, x6, x7, x8] := by
    have := h3.set_ 4 y4
    simpa using this
  have h5 : Blk ((((((w.setCell ⟨g, 0, none⟩ y0).setCell ⟨g, 1, none⟩ y1).setCell ⟨g, 2, none⟩ y2).setCell ⟨g, 3, none⟩ y3).setCell ⟨g, 4, none⟩ y4).setCell ⟨g, 5, none⟩ y5) g t #[y0, y1, y2, y3, y4, y5, x6, x7, x8] := by
    have := h4.set_ 5 y5
    simpa using this
  have h6 : Blk (((((((w.setCell ⟨g, 0, none⟩ y0).setCell ⟨g, 1, none⟩ y1).setCell ⟨g, 2, none⟩ y2).setCell ⟨g, 3, none⟩ y3).setCell ⟨g, 4, none⟩ y4).setCell ⟨g, 5, none⟩ y5).setCell ⟨g, 6, none⟩ y6) g t #[y0, y1, y2, y3, y4, y5, y6, x7, x8] := by
    have := h5.set_ 6 y6
    simpa using this
  have h7 : Blk ((((((((w.setCell ⟨g, 0, none⟩ y0).setCell ⟨g, 1, none⟩ y1).setCell ⟨g, 2, none⟩ y2).setCell ⟨g, 3, none⟩ y3).setCell ⟨g, 4, none⟩ y4).setCell ⟨g, 5, none⟩ y5).setCell ⟨g, 6, none⟩ y6).setCell ⟨g, 7, none⟩ y7) g t #[y0, y1, y2, y3, y4, y5, y6, y7, x8] := by
    have := h6.set_ 7 y7
    simpa using this
  have h8 : Blk (((((((((w.setCell ⟨g, 0, none⟩ y0).setCell ⟨g, 1, none⟩ y1).setCell ⟨g, 2, none⟩ y2).setCell ⟨g, 3, none⟩ y3).setCell ⟨g, 4, none⟩ y4).setCell ⟨g, 5, none⟩ y5).setCell ⟨g, 6, none⟩ y6).setCell ⟨g, 7, none⟩ y7).setCell ⟨g, 8, none⟩ y8) g t #[y0, y1, y2, y3, y4, y5, y6, y7, y8] := by
    have := h7.set_ 8 y8
    simpa using this
  exact ⟨h8, h0.cell 0, h1.cell 1, h2.cell 2, h3.cell 3, h4.cell 4, h5.cell 5, h6.cell 6, h7.cell 7, h8.cell 8⟩
theorem Blk.nine_far {g' : Nat} {t' : TypeId} {cs : Array Value} (h : Blk w g' t' cs) (hne : g' ≠ g) (y0 y1 y2 y3 y4 y5 y6 y7 y8 : Value) :
    Blk (((((((((w.setCell ⟨g, 0, none⟩ y0).setCell ⟨g, 1, none⟩ y1).setCell ⟨g, 2, none⟩ y2).setCell ⟨g, 3, none⟩ y3).setCell ⟨g, 4, none⟩ y4).setCell ⟨g, 5, none⟩ y5).setCell ⟨g, 6, none⟩ y6).setCell ⟨g, 7, none⟩ y7).setCell ⟨g, 8, none⟩ y8) g' t' cs :=
  (((((((((h.far hne y0).far hne y1).far hne y2).far hne y3).far hne y4).far hne y5).far hne y6).far hne y7).far hne y8)
theorem below_nine {B : Nat} {w0 : World} (h : Below B w0 w) (hg : B ≤ g) (y0 y1 y2 y3 y4 y5 y6 y7 y8 : Value) : Below B w0 (((((((((w.setCell ⟨g, 0, none⟩ y0).setCell ⟨g, 1, none⟩ y1).setCell ⟨g, 2, none⟩ y2).setCell ⟨g, 3, none⟩ y3).setCell ⟨g, 4, none⟩ y4).setCell ⟨g, 5, none⟩ y5).setCell ⟨g, 6, none⟩ y6).setCell ⟨g, 7, none⟩ y7).setCell ⟨g, 8, none⟩ y8) :=
  (((((((((h.setCell (p := ⟨g, 0, none⟩) hg y0).setCell (p := ⟨g, 1, none⟩) hg y1).setCell (p := ⟨g, 2, none⟩) hg y2).setCell (p := ⟨g, 3, none⟩) hg y3).setCell (p := ⟨g, 4, none⟩) hg y4).setCell (p := ⟨g, 5, none⟩) hg y5).setCell (p := ⟨g, 6, none⟩) hg y6).setCell (p := ⟨g, 7, none⟩) hg y7).setCell (p := ⟨g, 8, none⟩) hg y8)
end
end Go.Proofs.YtllhefjblipddaaGreatDoor

namespace Go.Proofs.YtllhefjblipddaaGreatDoor
open Go.RowKit

/-- A value, its fields laid open. -/
structure Vl where
  k : Int
  num : ByteArray
  den : ByteArray
  text : ByteArray
  on : Bool
  code : Int
  rows : Int
  cols : Int
  A : Option Addr
  n : Nat
  c : Nat
def Vl.cs (v : Vl) : Array Value := #[.int .i64 v.k, .string v.num, .string v.den, .string v.text, .bool v.on, .int .i64 v.code, .int .i64 v.rows, .int .i64 v.cols, .slice v.A v.n v.c]
def Vl.v (v : Vl) : Value := .agg v.cs
def Vl.zB (v : Vl) : Bool := (v.k == 1 || frSame v.num v.den ⟨#[]⟩ ⟨#[]⟩) && (v.k == 2 || v.text.toList.isEmpty) && (v.k == 3 || !v.on) && (v.k == 4 || v.code == 0) && (v.k == 5 || (v.rows == 0 && v.cols == 0 && v.n == 0))

theorem reti {a b : Int} (h : a = b) : Ending.returned (.int .i64 a) = .returned (.int .i64 b) := by rw [h]
set_option maxRecDepth 100000 in
set_option maxHeartbeats 4000000 in
theorem zeros_any (v : Vl) (w : World) (h0 : 0 ≤ v.k) (h5 : v.k ≤ 5) :
    Calls Tryz.prog 116 #[v.v] w fun e w' => e = .returned (.int .i64 (if v.zB = true then 0 else 4)) ∧ Below w.heap.size w w' := by
  obtain ⟨k, num, den, text, on, code, rows, cols, A, n, c⟩ := v
  have hfr := fr_neq num den ⟨#[]⟩ ⟨#[]⟩
  have HZ := Lib.hid (show Vl.zB ⟨k, num, den, text, on, code, rows, cols, A, n, c⟩ = ((k == 1 || frSame num den ⟨#[]⟩ ⟨#[]⟩) && (k == 2 || text.toList.isEmpty) && (k == 3 || !on) && (k == 4 || code == 0) && (k == 5 || (rows == 0 && cols == 0 && n == 0))) from rfl)
  dsimp only at h0 h5
  generalize frSame num den ⟨#[]⟩ ⟨#[]⟩ = fe at *
  generalize hz : (if Vl.zB ⟨k, num, den, text, on, code, rows, cols, A, n, c⟩ = true then (0 : Int) else 4) = z
  have HR := Lib.hid hz
  clear hz
  show Calls Tryz.prog 116 #[.agg #[.int .i64 k, .string num, .string den, .string text, .bool on, .int .i64 code, .int .i64 rows, .int .i64 cols, .slice A n c]] w _
  rcases (show k = 0 ∨ k = 1 ∨ k = 2 ∨ k = 3 ∨ k = 4 ∨ k = 5 by omega) with rfl | rfl | rfl | rfl | rfl | rfl
  all_goals
    go_enter Tryz.func116, Tryz.ntmps116
    go_wp2
    all_goals
      go_ret
      refine ⟨reti (Eq.trans ?_ HR.out), (Below.refl _ _).alloc (Nat.le_refl _) _⟩
      rw [HZ.out]
      simp [*]
      try omega
end Go.Proofs.YtllhefjblipddaaGreatDoor

namespace Go.Proofs.YtllhefjblipddaaGreatDoor
abbrev vA (u : Vl) : Array Value := #[.int .i64 u.k, .string u.num, .string u.den, .string u.text, .bool u.on, .int .i64 u.code, .int .i64 u.rows, .int .i64 u.cols, .slice u.A u.n u.c]
end Go.Proofs.YtllhefjblipddaaGreatDoor

namespace Go.Proofs.YtllhefjblipddaaGreatDoor
open Go.RowKit

/-- value.digits: the digits, and what is behind them. -/
theorem vdigits_any (s a b : ByteArray) (w : World) (hs : s.data.toList = a.data.toList ++ b.data.toList) (ha : Nt.allD a.data.toList) (hb : ∀ c t, b.data.toList = c :: t → ¬ Nt.isD c) (hl : s.size ≤ 1000000) :
    Calls Tryz.prog 236 #[.string s] w fun e w' => e = .returned (.tuple #[.string a, .string b]) ∧ Below w.heap.size w w' := by
  have hz : a.size + b.size = s.size := by
    have := congrArg List.length hs
    rw [List.length_append] at this
    exact this.symm
  have ht := trimleft_v s w
  rw [hs, Nt.left_split ha hb] at ht
  rw [show (⟨b.data.toList.toArray⟩ : ByteArray) = b from ba_ext (by simp)] at ht
  have HT := Lib.hid ht
  have hcut : s.extract 0 (s.size - b.size) = a := ba_ext (by
    rw [Lib.extract_data, hs, show s.size - b.size = a.data.toList.length from (by have : a.size = a.data.toList.length := rfl; omega)]
    simp)
  have HC := Lib.hid hcut
  have HZ := Lib.hid hz
  have b1 : (b.size : Int) ≤ s.size := by omega
  have b2 : (s.size : Int) - b.size = a.size := by omega
  have HB2 := Lib.hid b2
  clear ht hcut hz b2 hs ha hb
  go_enter Tryz.func236, Tryz.ntmps236
  go_wp2_with (go_at_call 274; refine HT.out.mono ?_; rintro e w2 ⟨rfl, hbw⟩)
  rw [HC.out]
  go_ret2
  exact ⟨rfl, hbw⟩
theorem vdig0 (w : World) : Calls Tryz.prog 236 #[.string ⟨#[49, 57, 48, 48, 45, 48, 49, 45, 48, 50]⟩] w fun e w' => e = .returned (.tuple #[.string ⟨#[49, 57, 48, 48]⟩, .string ⟨#[45, 48, 49, 45, 48, 50]⟩]) ∧ Below w.heap.size w w' :=
  vdigits_any ⟨#[49, 57, 48, 48, 45, 48, 49, 45, 48, 50]⟩ ⟨#[49, 57, 48, 48]⟩ ⟨#[45, 48, 49, 45, 48, 50]⟩ w rfl (by unfold Nt.allD Nt.isD; decide) (by intro c t e; cases e; unfold Nt.isD; decide) (by decide)
theorem run0 (w : World) : Calls Tryz.prog 263 #[.string ⟨#[49, 57, 48, 48, 45, 48, 49, 45, 48, 50]⟩] w fun e w' => e = .returned (.tuple #[.string ⟨#[49, 57, 48, 48]⟩, .string ⟨#[45, 48, 49, 45, 48, 50]⟩]) ∧ Below w.heap.size w w' :=
  run_any ⟨#[49, 57, 48, 48, 45, 48, 49, 45, 48, 50]⟩ ⟨#[49, 57, 48, 48]⟩ ⟨#[45, 48, 49, 45, 48, 50]⟩ w rfl (by unfold Nt.allD Nt.isD; decide) (by intro c t e; cases e; unfold Nt.isD; decide) (by decide)
theorem vdigE (w : World) : Calls Tryz.prog 236 #[.string ⟨#[]⟩] w fun e w' => e = .returned (.tuple #[.string ⟨#[]⟩, .string ⟨#[]⟩]) ∧ Below w.heap.size w w' :=
  vdigits_any ⟨#[]⟩ ⟨#[]⟩ ⟨#[]⟩ w rfl (by unfold Nt.allD Nt.isD; decide) (by intro c t e; cases e) (by decide)
theorem grouped0 (w : World) : Calls Tryz.prog 225 #[.string ⟨#[49, 57, 48, 48, 45, 48, 49, 45, 48, 50]⟩] w fun e w' => e = .returned (.tuple #[.string ⟨#[49, 57, 48, 48]⟩, .string ⟨#[45, 48, 49, 45, 48, 50]⟩]) ∧ Below w.heap.size w w' := by
  go_enter Tryz.func225, Tryz.ntmps225
  go_wp2_with (go_at_call 236; refine (vdig0 _).mono ?_; rintro e w2 ⟨rfl, hbw⟩)
  go_ret2
  exact ⟨rfl, hbw⟩
theorem exponent0 (w : World) : Calls Tryz.prog 264 #[.string ⟨#[45, 48, 49, 45, 48, 50]⟩] w fun e w' => e = .returned (.tuple #[.int .i64 0, .bool false]) ∧ w = w' := by
  go_enter Tryz.func264, Tryz.ntmps264
  go_wp2
  go_ret2
  exact ⟨rfl, rfl⟩
theorem cp0 (w : World) : Calls Tryz.prog 19 #[.string ⟨#[49, 57, 48, 48, 45, 48, 49, 45, 48, 50]⟩, .string ⟨#[45]⟩] w fun e w' => e = .returned (.tuple #[.string ⟨#[49, 57, 48, 48, 45, 48, 49, 45, 48, 50]⟩, .bool false]) ∧ w = w' :=
  (Tryz.strings_CutPrefix ⟨#[49, 57, 48, 48, 45, 48, 49, 45, 48, 50]⟩ ⟨#[45]⟩ w).mono fun _e _w' ⟨h1, h2⟩ => ⟨h1, h2.symm⟩
theorem cp1 (w : World) : Calls Tryz.prog 19 #[.string ⟨#[45, 48, 49, 45, 48, 50]⟩, .string ⟨#[46]⟩] w fun e w' => e = .returned (.tuple #[.string ⟨#[45, 48, 49, 45, 48, 50]⟩, .bool false]) ∧ w = w' :=
  (Tryz.strings_CutPrefix ⟨#[45, 48, 49, 45, 48, 50]⟩ ⟨#[46]⟩ w).mono fun _e _w' ⟨h1, h2⟩ => ⟨h1, h2.symm⟩
theorem cp2 (w : World) : Calls Tryz.prog 19 #[.string ⟨#[49, 57, 48, 48, 45, 48, 49, 45, 48, 50]⟩, .string ⟨#[39]⟩] w fun e w' => e = .returned (.tuple #[.string ⟨#[49, 57, 48, 48, 45, 48, 49, 45, 48, 50]⟩, .bool false]) ∧ w = w' :=
  (Tryz.strings_CutPrefix ⟨#[49, 57, 48, 48, 45, 48, 49, 45, 48, 50]⟩ ⟨#[39]⟩ w).mono fun _e _w' ⟨h1, h2⟩ => ⟨h1, h2.symm⟩
theorem cs0 (w : World) : Calls Tryz.prog 226 #[.string ⟨#[45, 48, 49, 45, 48, 50]⟩, .string ⟨#[37]⟩] w fun e w' => e = .returned (.tuple #[.string ⟨#[45, 48, 49, 45, 48, 50]⟩, .bool false]) ∧ w = w' :=
  (Tryz.strings_CutSuffix ⟨#[45, 48, 49, 45, 48, 50]⟩ ⟨#[37]⟩ w (by decide)).mono fun e w' ⟨h1, h2⟩ => ⟨h1, h2.symm⟩
set_option maxHeartbeats 1000000 in
theorem parse0 (w : World) : Calls Tryz.prog 227 #[.string ⟨#[49, 57, 48, 48, 45, 48, 49, 45, 48, 50]⟩] w fun e w' => e = .returned (.tuple #[.agg #[.string ⟨#[]⟩, .string ⟨#[]⟩], .int .i64 10]) ∧ Below w.heap.size w w' := by
  have HL0 := Lib.hid ((Loc.start w).alloc' rfl 24 #[.string ⟨#[]⟩, .string ⟨#[]⟩])
  go_enter Tryz.func227, Tryz.ntmps227
  go_wp2_with (first
    | (go_at_call 19; first | ((with_reducible refine (cp0 _).mono ?_); rintro e w1 ⟨rfl, rfl⟩) | ((with_reducible refine (cp1 _).mono ?_); rintro e w1 ⟨rfl, rfl⟩))
    | (go_at_call 263; (with_reducible refine (run0 _).mono ?_); rintro e w2 ⟨rfl, hb⟩; have HL2 := Lib.hid (HL0.out.step hb); obtain ⟨x0, x1, f0, f1⟩ := (HL2.out.blk (g := w.heap.size) (t := 24) (cs := #[.string ⟨#[]⟩, .string ⟨#[]⟩]) (by simp)).two; clear hb)
    | (go_at_call 264; (with_reducible refine (exponent0 _).mono ?_); rintro e w4 ⟨rfl, rfl⟩))
  obtain ⟨-, q0, q1⟩ := (HL2.out.blk (g := w.heap.size) (t := 24) (cs := #[.string ⟨#[]⟩, .string ⟨#[]⟩]) (by simp)).two_set (.string ⟨#[]⟩) (.string ⟨#[]⟩)
  refine bodyPost_ret (v := .tuple #[.agg #[.string ⟨#[]⟩, .string ⟨#[]⟩], .int .i64 10]) (by simp [results, Tryz.results227, go_sem, q0, q1]) rfl ⟨rfl, ?_⟩
  exact below_two HL2.out.bel (Nat.le_refl _) _ _
/-- The answer of a reader that refuses. -/
def NoFr (w : World) (e : Ending) (w' : World) : Prop := e = .returned (.tuple #[.agg #[.string ⟨#[]⟩, .string ⟨#[]⟩], .bool false]) ∧ Below w.heap.size w w'
theorem ecat0 : ((⟨#[]⟩ ++ ⟨#[49, 57, 48, 48]⟩ ++ ⟨#[45, 48, 49, 45, 48, 50]⟩ : ByteArray)) = ⟨#[49, 57, 48, 48, 45, 48, 49, 45, 48, 50]⟩ := ba_ext (by rw [ByteArray.toList_data_append, ByteArray.toList_data_append]; rfl)
set_option maxHeartbeats 1000000 in
theorem number0 (w : World) : Calls Tryz.prog 181 #[.string ⟨#[49, 57, 48, 48, 45, 48, 49, 45, 48, 50]⟩] w (NoFr w) := by
  have HL0 := Lib.hid ((Loc.start w).alloc' rfl 24 #[.string ⟨#[]⟩, .string ⟨#[]⟩])
  go_enter Tryz.func181, Tryz.ntmps181
  go_wp2_with (first
    | (go_at_call 226; (with_reducible refine (cs0 _).mono ?_); rintro e w1 ⟨rfl, rfl⟩)
    | (go_at_call 225; (with_reducible refine (grouped0 _).mono ?_); rintro e w2 ⟨rfl, hb⟩; have HL2 := Lib.hid (HL0.out.step hb); clear hb)
    | (go_at_call 227; rw [ecat0]; (with_reducible refine (parse0 _).mono ?_); rintro e w3 ⟨rfl, hb⟩; have HL3 := Lib.hid ((HL2.out.step hb).alloc 24 #[.string ⟨#[]⟩, .string ⟨#[]⟩]); obtain ⟨x0, x1, f0, f1⟩ := (HL3.out.blk (g := w.heap.size) (t := 24) (cs := #[.string ⟨#[]⟩, .string ⟨#[]⟩]) (by simp)).two; clear hb))
  obtain ⟨-, q0, q1⟩ := (HL3.out.blk (g := w.heap.size) (t := 24) (cs := #[.string ⟨#[]⟩, .string ⟨#[]⟩]) (by simp)).two_set (.string ⟨#[]⟩) (.string ⟨#[]⟩)
  refine bodyPost_ret (v := .tuple #[.agg #[.string ⟨#[]⟩, .string ⟨#[]⟩], .bool false]) (by simp [results, Tryz.results181, go_sem, q0, q1]) rfl ⟨rfl, ?_⟩
  exact below_two HL3.out.bel (Nat.le_refl _) _ _
set_option maxHeartbeats 1000000 in
theorem whole0 (w : World) : Calls Tryz.prog 230 #[.string ⟨#[49, 57, 48, 48, 45, 48, 49, 45, 48, 50]⟩] w (NoFr w) := by
  have HL0 := Lib.hid ((Loc.start w).alloc' rfl 24 #[.string ⟨#[]⟩, .string ⟨#[]⟩])
  go_enter Tryz.func230, Tryz.ntmps230
  go_wp2_with (go_at_call 236; (with_reducible refine (vdig0 _).mono ?_); rintro e w2 ⟨rfl, hb⟩; have HL2 := Lib.hid (HL0.out.step hb); obtain ⟨x0, x1, f0, f1⟩ := (HL2.out.blk (g := w.heap.size) (t := 24) (cs := #[.string ⟨#[]⟩, .string ⟨#[]⟩]) (by simp)).two; clear hb)
  obtain ⟨-, q0, q1⟩ := (HL2.out.blk (g := w.heap.size) (t := 24) (cs := #[.string ⟨#[]⟩, .string ⟨#[]⟩]) (by simp)).two_set (.string ⟨#[]⟩) (.string ⟨#[]⟩)
  refine bodyPost_ret (v := .tuple #[.agg #[.string ⟨#[]⟩, .string ⟨#[]⟩], .bool false]) (by simp [results, Tryz.results230, go_sem, q0, q1]) rfl ⟨rfl, ?_⟩
  exact below_two HL2.out.bel (Nat.le_refl _) _ _
set_option maxHeartbeats 1000000 in
theorem wholeE (w : World) : Calls Tryz.prog 230 #[.string ⟨#[]⟩] w (NoFr w) := by
  have HL0 := Lib.hid ((Loc.start w).alloc' rfl 24 #[.string ⟨#[]⟩, .string ⟨#[]⟩])
  go_enter Tryz.func230, Tryz.ntmps230
  go_wp2_with (go_at_call 236; (with_reducible refine (vdigE _).mono ?_); rintro e w2 ⟨rfl, hb⟩; have HL2 := Lib.hid (HL0.out.step hb); obtain ⟨x0, x1, f0, f1⟩ := (HL2.out.blk (g := w.heap.size) (t := 24) (cs := #[.string ⟨#[]⟩, .string ⟨#[]⟩]) (by simp)).two; clear hb)
  obtain ⟨-, q0, q1⟩ := (HL2.out.blk (g := w.heap.size) (t := 24) (cs := #[.string ⟨#[]⟩, .string ⟨#[]⟩]) (by simp)).two_set (.string ⟨#[]⟩) (.string ⟨#[]⟩)
  refine bodyPost_ret (v := .tuple #[.agg #[.string ⟨#[]⟩, .string ⟨#[]⟩], .bool false]) (by simp [results, Tryz.results230, go_sem, q0, q1]) rfl ⟨rfl, ?_⟩
  exact below_two HL2.out.bel (Nat.le_refl _) _ _
/-- What the walks of value ask of the world. -/
structure VEnv (W : World) : Prop where
  u8 : Lib.Utf8Tabs 4 5 W
  pw : Lib.TabIs Tryz.prog W "internal/strconv.uint64pow10" .u64 Lib.pow10Tab
  mx : ∃ m, W.cell? ⟨8, 0, none⟩ = some (.int .i64 m)
  f0 : W.cell? ⟨0, 0, none⟩ = some (.string ⟨#[]⟩)
  f1 : W.cell? ⟨0, 1, none⟩ = some (.string ⟨#[35, 68, 73, 86, 47, 48, 33]⟩)
  f2 : W.cell? ⟨0, 2, none⟩ = some (.string ⟨#[35, 86, 65, 76, 85, 69, 33]⟩)
  f3 : W.cell? ⟨0, 3, none⟩ = some (.string ⟨#[35, 82, 69, 70, 33]⟩)
  f4 : W.cell? ⟨0, 4, none⟩ = some (.string ⟨#[35, 78, 65, 77, 69, 63]⟩)
  f5 : W.cell? ⟨0, 5, none⟩ = some (.string ⟨#[35, 78, 85, 77, 33]⟩)
  f6 : W.cell? ⟨0, 6, none⟩ = some (.string ⟨#[35, 78, 47, 65]⟩)
  f7 : W.cell? ⟨0, 7, none⟩ = some (.string ⟨#[35, 83, 80, 73, 76, 76, 33]⟩)
  f8 : W.cell? ⟨0, 8, none⟩ = some (.string ⟨#[35, 67, 89, 67, 76, 69, 33]⟩)
theorem cell_later {w W : World} {b o : Nat} {v : Value} (h : w.cell? ⟨b, o, none⟩ = some v) (hb : Below w.heap.size w W) : W.cell? ⟨b, o, none⟩ = some v :=
  (hb.cell (p := ⟨b, o, none⟩) (World.block_lt_of_cell? _ _ h)).trans h
theorem VEnv.below {w W : World} (h : VEnv w) (hb : Below w.heap.size w W) : VEnv W :=
  ⟨Utf8Tabs_below h.u8 hb, Lib.tabBelow_of_tabIs h.pw W hb, by obtain ⟨m, hm⟩ := h.mx; exact ⟨m, cell_later hm hb⟩, cell_later h.f0 hb, cell_later h.f1 hb, cell_later h.f2 hb, cell_later h.f3 hb, cell_later h.f4 hb, cell_later h.f5 hb, cell_later h.f6 hb, cell_later h.f7 hb, cell_later h.f8 hb⟩

theorem cut0 (W : World) (m : Int) (hm : W.cell? ⟨8, 0, none⟩ = some (.int .i64 m)) : Calls Tryz.prog 229 #[.string ⟨#[49, 57, 48, 48, 45, 48, 49, 45, 48, 50]⟩, .string ⟨#[32]⟩] W fun e w' => e = .returned (.tuple #[.string ⟨#[49, 57, 48, 48, 45, 48, 49, 45, 48, 50]⟩, .string ⟨#[]⟩, .bool false]) ∧ Below W.heap.size W w' :=
  (Tryz.strings_Cut ⟨#[49, 57, 48, 48, 45, 48, 49, 45, 48, 50]⟩ ⟨#[32]⟩ m W (by decide) hm).mono fun e w' ⟨h1, n, h2⟩ => ⟨h1, by rw [h2]; exact ⟨rfl, rfl, rfl, Nat.le_refl _, fun _ _ => rfl⟩⟩
theorem cutE (W : World) (m : Int) (hm : W.cell? ⟨8, 0, none⟩ = some (.int .i64 m)) : Calls Tryz.prog 229 #[.string ⟨#[]⟩, .string ⟨#[47]⟩] W fun e w' => e = .returned (.tuple #[.string ⟨#[]⟩, .string ⟨#[]⟩, .bool false]) ∧ Below W.heap.size W w' :=
  (Tryz.strings_Cut ⟨#[]⟩ ⟨#[47]⟩ m W (by decide) hm).mono fun e w' ⟨h1, n, h2⟩ => ⟨h1, by rw [h2]; exact ⟨rfl, rfl, rfl, Nat.le_refl _, fun _ _ => rfl⟩⟩
set_option maxRecDepth 100000 in
set_option maxHeartbeats 2000000 in
theorem mixed0 (w : World) (he : VEnv w) : Calls Tryz.prog 182 #[.string ⟨#[49, 57, 48, 48, 45, 48, 49, 45, 48, 50]⟩] w (NoFr w) := by
  obtain ⟨m, hm⟩ := he.mx
  have HM := Lib.hid (show ∀ W, Below w.heap.size w W → W.cell? ⟨8, 0, none⟩ = some (.int .i64 m) from fun W hb => cell_later hm hb)
  clear he hm
  have HL0 := Lib.hid ((Loc.start w).alloc' rfl 24 #[.string ⟨#[]⟩, .string ⟨#[]⟩])
  go_enter Tryz.func182, Tryz.ntmps182
  go_wp2_with (first
    | (go_at_call 19; (with_reducible refine (cp0 _).mono ?_); rintro e w1 ⟨rfl, rfl⟩)
    | (go_at_call 229; first | ((with_reducible refine (cut0 _ m (HM.out _ HL0.out.bel)).mono ?_); rintro e w2 ⟨rfl, hb⟩; have HL1 := Lib.hid (HL0.out.step hb); clear hb) | ((with_reducible refine (cutE _ m (HM.out _ HL1.out.bel)).mono ?_); rintro e w3 ⟨rfl, hb⟩; have HL := Lib.hid (HL1.out.step hb); clear hb))
    | (go_at_call 230; first | ((with_reducible refine (whole0 _).mono ?_); rintro e w4 ⟨rfl, hb⟩; have HX := Lib.hid ((HL.out.step hb).alloc 24 #[.string ⟨#[]⟩, .string ⟨#[]⟩]); clear hb HL; have HL := Lib.hid HX.out; clear HX; obtain ⟨x0, x1, y0, y1⟩ := (HL.out.blk (g := w.heap.size) (t := 24) (cs := #[.string ⟨#[]⟩, .string ⟨#[]⟩]) (by simp)).two) | ((with_reducible refine (wholeE _).mono ?_); rintro e w5 ⟨rfl, hb⟩; clear x0 x1 y0 y1; have HX := Lib.hid ((HL.out.step hb).alloc 24 #[.string ⟨#[]⟩, .string ⟨#[]⟩]); clear hb HL; have HL := Lib.hid HX.out; clear HX; obtain ⟨x0, x1, y0, y1⟩ := (HL.out.blk (g := w.heap.size) (t := 24) (cs := #[.string ⟨#[]⟩, .string ⟨#[]⟩]) (by simp)).two)))
  obtain ⟨-, q0, q1⟩ := (HL.out.blk (g := w.heap.size) (t := 24) (cs := #[.string ⟨#[]⟩, .string ⟨#[]⟩]) (by simp)).two_set (.string ⟨#[]⟩) (.string ⟨#[]⟩)
  refine bodyPost_ret (v := .tuple #[.agg #[.string ⟨#[]⟩, .string ⟨#[]⟩], .bool false]) (by simp [results, Tryz.results182, go_sem, q0, q1]) rfl ⟨rfl, ?_⟩
  exact below_two HL.out.bel (Nat.le_refl _) _ _

/-- count: digits alone. -/
theorem count_any (s : ByteArray) (l : List UInt8) (n : Int) (w : World) (hs : s.data.toList = l) (h : Nt.allD l) (h0 : l ≠ []) (hl : l.length ≤ 18) (hn : n = (l.length : Int)) :
    Calls Tryz.prog 234 #[.string s, .int .i64 n] w fun e w' => e = .returned (.tuple #[.int .i64 (Nt.dval l : Int), .bool true]) ∧ Below w.heap.size w w' := by
  have hss : s.size = l.length := by rw [← hs]; rfl
  have HD := Lib.hid (vdigits_any s s ⟨#[]⟩ w (by simp) (by rw [hs]; exact h) (fun c t e => by cases e) (by omega))
  have HA := Lib.hid fun W => atoi_any s l W hs hl h h0
  obtain rfl : n = (s.size : Int) := by rw [hn, ← hss]
  clear hs h h0 hl hn hss
  go_enter Tryz.func234, Tryz.ntmps234
  go_upto_region 3 with (first
    | (go_at_call 236; (with_reducible refine HD.out.mono ?_); rintro e w1 ⟨rfl, hb⟩; have HB1 := Lib.hid hb; clear hb)
    | (go_at_call 65; (with_reducible refine (HA.out _).mono ?_); rintro e w2 ⟨rfl, hb⟩; have HB2 := Lib.hid (HB1.out.trans (hb.mono HB1.out.size)); clear hb))
  go_quiet (fail)
  go_wp2_with fail
  go_ret2
  exact ⟨rfl, ⟨HB2.out.os, HB2.out.tape, HB2.out.output, HB2.out.size, HB2.out.block⟩⟩

theorem split0 (W : World) (m : Int) (hm : W.cell? ⟨8, 0, none⟩ = some (.int .i64 m)) : Calls Tryz.prog 233 #[.string ⟨#[49, 57, 48, 48, 45, 48, 49, 45, 48, 50]⟩, .string ⟨#[45]⟩] W fun e w' => e = .returned (.slice (some ⟨W.heap.size, 0, none⟩) 3 3) ∧ w' = W.alloc (.cells #[.string ⟨#[49, 57, 48, 48]⟩, .string ⟨#[48, 49]⟩, .string ⟨#[48, 50]⟩] 9) := by
  have h := Tryz.strings_Split ⟨#[49, 57, 48, 48, 45, 48, 49, 45, 48, 50]⟩ ⟨#[45]⟩ m W (by decide) hm (by decide)
  rw [show Lib.countB ⟨#[49, 57, 48, 48, 45, 48, 49, 45, 48, 50]⟩ ⟨#[45]⟩ = 2 from by decide +kernel] at h
  rw [show Lib.splitB ⟨#[45]⟩ 0 2 ⟨#[49, 57, 48, 48, 45, 48, 49, 45, 48, 50]⟩ = [⟨#[49, 57, 48, 48]⟩, ⟨#[48, 49]⟩, ⟨#[48, 50]⟩] from by decide +kernel] at h
  exact h
set_option maxRecDepth 100000 in
set_option maxHeartbeats 2000000 in
theorem date0 (w : World) (he : VEnv w) : Calls Tryz.prog 183 #[.string ⟨#[49, 57, 48, 48, 45, 48, 49, 45, 48, 50]⟩] w fun e w' => e = .returned (.tuple #[.agg #[.string ⟨#[50]⟩, .string ⟨#[49]⟩], .bool true]) ∧ Below w.heap.size w w' := by
  obtain ⟨m, hm⟩ := he.mx
  have HM := Lib.hid (show ∀ W, Below w.heap.size w W → W.cell? ⟨8, 0, none⟩ = some (.int .i64 m) from fun W hb => cell_later hm hb)
  have HT := Lib.hid (show ∀ W, Below w.heap.size w W → Lib.TabIs Tryz.prog W "internal/strconv.uint64pow10" .u64 Lib.pow10Tab from fun W hb => Lib.tabBelow_of_tabIs he.pw W hb)
  clear he hm
  have HL0 := Lib.hid ((Loc.start w).alloc' rfl 24 #[.string ⟨#[]⟩, .string ⟨#[]⟩])
  have HC4 := Lib.hid fun W => count_any ⟨#[49, 57, 48, 48]⟩ [49, 57, 48, 48] 4 W rfl (by unfold Nt.allD Nt.isD; decide) (by decide) (by decide) rfl
  have HC1 := Lib.hid fun W => count_any ⟨#[48, 49]⟩ [48, 49] 2 W rfl (by unfold Nt.allD Nt.isD; decide) (by decide) (by decide) rfl
  have HC2 := Lib.hid fun W => count_any ⟨#[48, 50]⟩ [48, 50] 2 W rfl (by unfold Nt.allD Nt.isD; decide) (by decide) (by decide) rfl
  rw [show ((Nt.dval [49, 57, 48, 48] : Nat) : Int) = 1900 from by decide] at HC4
  rw [show ((Nt.dval [48, 49] : Nat) : Int) = 1 from by decide] at HC1
  rw [show ((Nt.dval [48, 50] : Nat) : Int) = 2 from by decide] at HC2
  have HD := Lib.hid fun W => day_in 1900 1 2 W (by decide) (by decide) (by decide) (by decide) (by decide) (by decide)
  rw [show Cal.bef 1900 + Cal.cum 1900 1 + 2 = 2 from by decide] at HD
  have HD1 := Lib.hid (show ∀ W, Below w.heap.size w W → Calls Tryz.prog 18 #[.int .i64 2] W fun e w' => e = .returned (.agg #[.string ⟨#[50]⟩, .string ⟨#[49]⟩]) ∧ Below W.heap.size W w' from fun W hW => (of_nat 2 W (by decide) (HT.out W hW)).mono fun e w' ⟨t, h1, h2, h3⟩ => by
    obtain rfl : t = ⟨#[50]⟩ := ba_ext (by rw [h2]; decide +kernel)
    exact ⟨h1, h3⟩)
  go_enter Tryz.func183, Tryz.ntmps183
  go_upto_region 5 with (first
    | (go_at_call 233; (with_reducible refine (split0 _ m (HM.out _ HL0.out.bel)).mono ?_); rintro e w1 ⟨rfl, rfl⟩; have HL1 := Lib.hid (HL0.out.alloc' (g := w.heap.size + 1) (by simp) 9 #[.string ⟨#[49, 57, 48, 48]⟩, .string ⟨#[48, 49]⟩, .string ⟨#[48, 50]⟩]); obtain ⟨x0, x1, x2, -, -, -⟩ := (HL1.out.blk (g := w.heap.size + 1) (t := 9) (cs := #[.string ⟨#[49, 57, 48, 48]⟩, .string ⟨#[48, 49]⟩, .string ⟨#[48, 50]⟩]) (by simp)).three)
    | (go_at_call 234; (with_reducible refine (HC4.out _).mono ?_); rintro e w2 ⟨rfl, hb⟩; have HL2 := Lib.hid (HL1.out.step hb); clear hb x0 x1 x2; obtain ⟨x0, x1, x2, -, -, -⟩ := (HL2.out.blk (g := w.heap.size + 1) (t := 9) (cs := #[.string ⟨#[49, 57, 48, 48]⟩, .string ⟨#[48, 49]⟩, .string ⟨#[48, 50]⟩]) (by simp)).three))
  go_upto_region 6 with (go_at_call 234; (with_reducible refine (HC1.out _).mono ?_); rintro e w3 ⟨rfl, hb⟩; have HL3 := Lib.hid (HL2.out.step hb); clear hb x0 x1 x2; obtain ⟨x0, x1, x2, -, -, -⟩ := (HL3.out.blk (g := w.heap.size + 1) (t := 9) (cs := #[.string ⟨#[49, 57, 48, 48]⟩, .string ⟨#[48, 49]⟩, .string ⟨#[48, 50]⟩]) (by simp)).three)
  go_upto_region 7 with (go_at_call 234; (with_reducible refine (HC2.out _).mono ?_); rintro e w4 ⟨rfl, hb⟩; have HL4 := Lib.hid (HL3.out.step hb); clear hb x0 x1 x2)
  go_wp2_with (first
    | (go_at_call 235; (with_reducible refine (HD.out _).mono ?_); rintro e w5 ⟨rfl, hb⟩; have HL5 := Lib.hid (HL4.out.step hb); clear hb)
    | (go_at_call 18; (with_reducible refine (HD1.out _ HL5.out.bel).mono ?_); rintro e w6 ⟨rfl, hb⟩; have HL6 := Lib.hid (HL5.out.step hb); obtain ⟨x0, x1, f0, f1⟩ := (HL6.out.blk (g := w.heap.size) (t := 24) (cs := #[.string ⟨#[]⟩, .string ⟨#[]⟩]) (by simp)).two; clear hb))
  obtain ⟨-, q0, q1⟩ := (HL6.out.blk (g := w.heap.size) (t := 24) (cs := #[.string ⟨#[]⟩, .string ⟨#[]⟩]) (by simp)).two_set (.string ⟨#[50]⟩) (.string ⟨#[49]⟩)
  refine bodyPost_ret (v := .tuple #[.agg #[.string ⟨#[50]⟩, .string ⟨#[49]⟩], .bool true]) (by simp [results, Tryz.results183, go_sem, q0, q1]) rfl ⟨rfl, ?_⟩
  exact below_two HL6.out.bel (Nat.le_refl _) _ _
end Go.Proofs.YtllhefjblipddaaGreatDoor

namespace Go.Proofs.YtllhefjblipddaaGreatDoor
open Go.RowKit

/-- The texts of the faults. -/
def faultS : Nat → ByteArray
  | 1 => ⟨#[35, 68, 73, 86, 47, 48, 33]⟩
  | 2 => ⟨#[35, 86, 65, 76, 85, 69, 33]⟩
  | 3 => ⟨#[35, 82, 69, 70, 33]⟩
  | 4 => ⟨#[35, 78, 65, 77, 69, 63]⟩
  | 5 => ⟨#[35, 78, 85, 77, 33]⟩
  | 6 => ⟨#[35, 78, 47, 65]⟩
  | 7 => ⟨#[35, 83, 80, 73, 76, 76, 33]⟩
  | 8 => ⟨#[35, 67, 89, 67, 76, 69, 33]⟩
  | _ => ⟨#[]⟩
theorem VEnv.ft {W : World} (h : VEnv W) (k : Nat) (hk : k ≤ 8) : W.cell? ⟨0, k, none⟩ = some (.string (faultS k)) := by
  rcases (show k = 0 ∨ k = 1 ∨ k = 2 ∨ k = 3 ∨ k = 4 ∨ k = 5 ∨ k = 6 ∨ k = 7 ∨ k = 8 by omega) with rfl | rfl | rfl | rfl | rfl | rfl | rfl | rfl | rfl
  · exact h.f0
  · exact h.f1
  · exact h.f2
  · exact h.f3
  · exact h.f4
  · exact h.f5
  · exact h.f6
  · exact h.f7
  · exact h.f8
theorem faultS_ne {k : Nat} (h1 : 1 ≤ k) (h8 : k ≤ 8) : (faultS k).toList.isEmpty = false := by
  rcases (show k = 1 ∨ k = 2 ∨ k = 3 ∨ k = 4 ∨ k = 5 ∨ k = 6 ∨ k = 7 ∨ k = 8 by omega) with rfl | rfl | rfl | rfl | rfl | rfl | rfl | rfl <;> (rw [Lib.toList_data]; rfl)
set_option maxRecDepth 100000 in
theorem ftext_in (k : Nat) (w : World) (he : VEnv w) (h1 : 1 ≤ k) (h8 : k ≤ 8) :
    Calls Tryz.prog 119 #[.int .i64 (k : Int)] w fun e w' => e = .returned (.string (faultS k)) ∧ w = w' := by
  have hf := he.ft k h8
  have g1 : (1 : Int) ≤ (k : Int) := by omega
  have g2 : (k : Int) < 9 := by omega
  generalize faultS k = s at *
  clear he
  go_enter Tryz.func119, Tryz.ntmps119
  go_wp2
  go_ret
  exact ⟨rfl, rfl⟩
theorem ftext_out (k : Int) (w : World) (h : k < 1 ∨ 9 ≤ k) :
    Calls Tryz.prog 119 #[.int .i64 k] w fun e w' => e = .returned (.string ⟨#[]⟩) ∧ w = w' := by
  rcases h with h | h
  · go_enter Tryz.func119, Tryz.ntmps119
    go_wp2
    go_ret
    exact ⟨rfl, rfl⟩
  · go_enter Tryz.func119, Tryz.ntmps119
    go_wp2
    go_ret
    exact ⟨rfl, rfl⟩

/-- A valid value that is no array. -/
def Vl.ok (v : Vl) : Prop := 0 ≤ v.k ∧ v.k ≤ 4 ∧ v.zB = true ∧ (v.k = 1 → ∃ m n d, Nt.Rd v.num.data.toList v.den.data.toList m n d) ∧ (v.k = 2 → txtE v.text = 0) ∧ (v.k = 4 → 1 ≤ v.code ∧ v.code ≤ 8)
/-- What Check answers. -/
def ChkRet (p : Prop) (w : World) (e : Ending) (w' : World) : Prop := ∃ c : Int, e = .returned (.int .i64 c) ∧ (c = 0 ↔ p) ∧ Below w.heap.size w w'

set_option maxRecDepth 100000 in
set_option maxHeartbeats 4000000 in
theorem check_na (v : Vl) (w : World) (he : VEnv w) (hk : v.k ≠ 5) (s1 : v.num.size ≤ 9223372036854775807) (s2 : v.den.size ≤ 9223372036854775807) (s3 : v.text.size ≤ 9223372036854775807) :
    Calls Tryz.prog 71 #[v.v] w (ChkRet v.ok w) := by
  obtain ⟨k, num, den, text, on, code, rows, cols, A, n, c⟩ := v
  dsimp only at hk s1 s2 s3
  have HL0 := Lib.hid ((Loc.start w).alloc' rfl 27 #[.int .i64 k, .string num, .string den, .string text, .bool on, .int .i64 code, .int .i64 rows, .int .i64 cols, .slice A n c])
  have HE := Lib.hid (show ∀ W, Below w.heap.size w W → VEnv W from fun W hb => he.below hb)
  clear he
  show Calls Tryz.prog 71 #[.agg #[.int .i64 k, .string num, .string den, .string text, .bool on, .int .i64 code, .int .i64 rows, .int .i64 cols, .slice A n c]] w _
  by_cases hr : 0 ≤ k ∧ k ≤ 5
  case neg =>
    rcases (show k < 0 ∨ 5 < k by omega) with h | h
    all_goals
      have HN := Lib.hid (show ¬ Vl.ok ⟨k, num, den, text, on, code, rows, cols, A, n, c⟩ from fun h => by have h1 : (0 : Int) ≤ k := h.1; have h2 : k ≤ 4 := h.2.1; omega)
      clear hr
      go_enter Tryz.func71, Tryz.ntmps71
      go_wp2
      go_ret
      exact ⟨8, rfl, ⟨fun h => absurd h (by decide), fun h => absurd h HN.out⟩, HL0.out.bel⟩
  case pos =>
  obtain ⟨k0, k5⟩ := hr
  cases hz : Vl.zB ⟨k, num, den, text, on, code, rows, cols, A, n, c⟩ with
  | false =>
    have HN := Lib.hid (show ¬ Vl.ok ⟨k, num, den, text, on, code, rows, cols, A, n, c⟩ from fun h => by rw [h.2.2.1] at hz; cases hz)
    have HZ := Lib.hid (show ∀ W, Calls Tryz.prog 116 #[.agg #[.int .i64 k, .string num, .string den, .string text, .bool on, .int .i64 code, .int .i64 rows, .int .i64 cols, .slice A n c]] W fun e w' => e = .returned (.int .i64 4) ∧ Below W.heap.size W w' from fun W => by
      have := zeros_any ⟨k, num, den, text, on, code, rows, cols, A, n, c⟩ W k0 k5
      rw [hz] at this
      exact this)
    clear hz
    go_enter Tryz.func71, Tryz.ntmps71
    go_wp2_with (go_at_call 116; (with_reducible refine (HZ.out _).mono ?_); rintro e w1 ⟨rfl, hb⟩; have HL1 := Lib.hid (HL0.out.step hb); clear hb)
    go_ret
    exact ⟨4, rfl, ⟨fun h => absurd h (by decide), fun h => absurd h HN.out⟩, HL1.out.bel⟩
  | true =>
    have HZ := Lib.hid (show ∀ W, Calls Tryz.prog 116 #[.agg #[.int .i64 k, .string num, .string den, .string text, .bool on, .int .i64 code, .int .i64 rows, .int .i64 cols, .slice A n c]] W fun e w' => e = .returned (.int .i64 0) ∧ Below W.heap.size W w' from fun W => by
      have := zeros_any ⟨k, num, den, text, on, code, rows, cols, A, n, c⟩ W k0 k5
      rw [hz] at this
      exact this)
    have HX := Lib.hid fun W => check_any num den W s1 s2
    have HT := Lib.hid fun W hW => vtext_any text W (HE.out W hW).u8 s3
    have HF1 := Lib.hid fun (j : Nat) W hW => ftext_in j W (HE.out W hW)
    have HF2 := Lib.hid fun (j : Int) W => ftext_out j W
    have hok : Vl.ok ⟨k, num, den, text, on, code, rows, cols, A, n, c⟩ ↔ (k = 1 → ∃ m n d, Nt.Rd num.data.toList den.data.toList m n d) ∧ (k = 2 → txtE text = 0) ∧ (k = 4 → 1 ≤ code ∧ code ≤ 8) :=
      ⟨fun h => h.2.2.2, fun h => ⟨k0, show k ≤ 4 by omega, hz, h⟩⟩
    have HOK := Lib.hid hok
    clear hok hz s1 s2 s3
    rcases (show k = 0 ∨ k = 1 ∨ k = 2 ∨ k = 3 ∨ k = 4 by omega) with rfl | rfl | rfl | rfl | rfl
    · go_enter Tryz.func71, Tryz.ntmps71
      go_wp2_with (go_at_call 116; (with_reducible refine (HZ.out _).mono ?_); rintro e w1 ⟨rfl, hb⟩; have HL1 := Lib.hid (HL0.out.step hb); have hk := ((HL1.out.blk (g := w.heap.size) (t := 27) (cs := #[.int .i64 0, .string num, .string den, .string text, .bool on, .int .i64 code, .int .i64 rows, .int .i64 cols, .slice A n c]) (by simp)).cell 0); clear hb)
      go_ret
      exact ⟨0, rfl, ⟨fun _ => HOK.out.2 ⟨fun h => by omega, fun h => by omega, fun h => by omega⟩, fun _ => rfl⟩, HL1.out.bel⟩
    · go_enter Tryz.func71, Tryz.ntmps71
      go_wp2_with (first
        | (go_at_call 116; (with_reducible refine (HZ.out _).mono ?_); rintro e w1 ⟨rfl, hb⟩; have HL1 := Lib.hid (HL0.out.step hb); have hk := ((HL1.out.blk (g := w.heap.size) (t := 27) (cs := #[.int .i64 1, .string num, .string den, .string text, .bool on, .int .i64 code, .int .i64 rows, .int .i64 cols, .slice A n c]) (by simp)).cell 0); have hk1 := ((HL1.out.blk (g := w.heap.size) (t := 27) (cs := #[.int .i64 1, .string num, .string den, .string text, .bool on, .int .i64 code, .int .i64 rows, .int .i64 cols, .slice A n c]) (by simp)).cell 1); have hk2 := ((HL1.out.blk (g := w.heap.size) (t := 27) (cs := #[.int .i64 1, .string num, .string den, .string text, .bool on, .int .i64 code, .int .i64 rows, .int .i64 cols, .slice A n c]) (by simp)).cell 2); clear hb)
        | (go_at_call 117; (with_reducible refine (HX.out _).mono ?_); rintro e w2 ⟨r, rfl, hc, hb⟩; have HL2 := Lib.hid (HL1.out.step hb); have HC := Lib.hid hc; clear hb hc))
      go_ret
      exact ⟨r, rfl, HC.out.trans ⟨fun h => HOK.out.2 ⟨fun _ => h, fun h => by omega, fun h => by omega⟩, fun h => (HOK.out.1 h).1 (by simp)⟩, HL2.out.bel⟩
    · go_enter Tryz.func71, Tryz.ntmps71
      go_wp2_with (first
        | (go_at_call 116; (with_reducible refine (HZ.out _).mono ?_); rintro e w1 ⟨rfl, hb⟩; have HL1 := Lib.hid (HL0.out.step hb); have hk := ((HL1.out.blk (g := w.heap.size) (t := 27) (cs := #[.int .i64 2, .string num, .string den, .string text, .bool on, .int .i64 code, .int .i64 rows, .int .i64 cols, .slice A n c]) (by simp)).cell 0); have hk1 := ((HL1.out.blk (g := w.heap.size) (t := 27) (cs := #[.int .i64 2, .string num, .string den, .string text, .bool on, .int .i64 code, .int .i64 rows, .int .i64 cols, .slice A n c]) (by simp)).cell 3); clear hb)
        | (go_at_call 118; (with_reducible refine (HT.out _ HL1.out.bel).mono ?_); rintro e w2 ⟨rfl, hb⟩; have HL2 := Lib.hid (HL1.out.step hb); clear hb))
      go_ret
      exact ⟨txtE text, rfl, ⟨fun h => HOK.out.2 ⟨fun h => by omega, fun _ => h, fun h => by omega⟩, fun h => (HOK.out.1 h).2.1 (by simp)⟩, HL2.out.bel⟩
    · go_enter Tryz.func71, Tryz.ntmps71
      go_wp2_with (go_at_call 116; (with_reducible refine (HZ.out _).mono ?_); rintro e w1 ⟨rfl, hb⟩; have HL1 := Lib.hid (HL0.out.step hb); have hk := ((HL1.out.blk (g := w.heap.size) (t := 27) (cs := #[.int .i64 3, .string num, .string den, .string text, .bool on, .int .i64 code, .int .i64 rows, .int .i64 cols, .slice A n c]) (by simp)).cell 0); clear hb)
      go_ret
      exact ⟨0, rfl, ⟨fun _ => HOK.out.2 ⟨fun h => by omega, fun h => by omega, fun h => by omega⟩, fun _ => rfl⟩, HL1.out.bel⟩
    · by_cases hco : 1 ≤ code ∧ code ≤ 8
      · obtain ⟨c1, c8⟩ := hco
        obtain ⟨j, rfl⟩ : ∃ j : Nat, code = (j : Int) := ⟨code.toNat, by omega⟩
        have hne := faultS_ne (k := j) (by omega) (by omega)
        have HF := Lib.hid fun W hW => HF1.out j W hW (by omega) (by omega)
        generalize faultS j = fs at *
        go_enter Tryz.func71, Tryz.ntmps71
        go_wp2_with (first
          | (go_at_call 116; (with_reducible refine (HZ.out _).mono ?_); rintro e w1 ⟨rfl, hb⟩; have HL1 := Lib.hid (HL0.out.step hb); have hk := ((HL1.out.blk (g := w.heap.size) (t := 27) (cs := #[.int .i64 4, .string num, .string den, .string text, .bool on, .int .i64 j, .int .i64 rows, .int .i64 cols, .slice A n c]) (by simp)).cell 0); have hk1 := ((HL1.out.blk (g := w.heap.size) (t := 27) (cs := #[.int .i64 4, .string num, .string den, .string text, .bool on, .int .i64 j, .int .i64 rows, .int .i64 cols, .slice A n c]) (by simp)).cell 5); clear hb)
          | (go_at_call 119; (with_reducible refine (HF.out _ HL1.out.bel).mono ?_); rintro e w2 ⟨rfl, rfl⟩))
        go_ret
        exact ⟨0, rfl, ⟨fun _ => HOK.out.2 ⟨fun h => by omega, fun h => by omega, fun _ => ⟨c1, c8⟩⟩, fun _ => rfl⟩, HL1.out.bel⟩
      · have HF := Lib.hid fun W => HF2.out code W (by omega)
        have HN := Lib.hid hco
        clear hco
        go_enter Tryz.func71, Tryz.ntmps71
        go_wp2_with (first
          | (go_at_call 116; (with_reducible refine (HZ.out _).mono ?_); rintro e w1 ⟨rfl, hb⟩; have HL1 := Lib.hid (HL0.out.step hb); have hk := ((HL1.out.blk (g := w.heap.size) (t := 27) (cs := #[.int .i64 4, .string num, .string den, .string text, .bool on, .int .i64 code, .int .i64 rows, .int .i64 cols, .slice A n c]) (by simp)).cell 0); have hk1 := ((HL1.out.blk (g := w.heap.size) (t := 27) (cs := #[.int .i64 4, .string num, .string den, .string text, .bool on, .int .i64 code, .int .i64 rows, .int .i64 cols, .slice A n c]) (by simp)).cell 5); clear hb)
          | (go_at_call 119; (with_reducible refine (HF.out _).mono ?_); rintro e w2 ⟨rfl, rfl⟩))
        go_ret
        exact ⟨2, rfl, ⟨fun h => absurd h (by decide), fun h => absurd ((HOK.out.1 h).2.2 (by simp)) HN.out⟩, HL1.out.bel⟩
end Go.Proofs.YtllhefjblipddaaGreatDoor

namespace Go.Proofs.YtllhefjblipddaaGreatDoor
open Go.RowKit

def rk (k : Int) : Int := if k = 1 then 0 else if k = 2 then 1 else if k = 3 then 2 else if k = 4 then 3 else 4
set_option maxRecDepth 100000 in
theorem rank_any (v : Vl) (w : World) (h0 : 0 ≤ v.k) (h4 : v.k ≤ 4) :
    Calls Tryz.prog 188 #[v.v] w fun e w' => e = .returned (.int .i64 (rk v.k)) ∧ Below w.heap.size w w' := by
  obtain ⟨k, num, den, text, on, code, rows, cols, A, n, c⟩ := v
  dsimp only at h0 h4
  show Calls Tryz.prog 188 #[.agg #[.int .i64 k, .string num, .string den, .string text, .bool on, .int .i64 code, .int .i64 rows, .int .i64 cols, .slice A n c]] w fun e w' => e = .returned (.int .i64 (rk k)) ∧ Below w.heap.size w w'
  rcases (show k = 0 ∨ k = 1 ∨ k = 2 ∨ k = 3 ∨ k = 4 by omega) with rfl | rfl | rfl | rfl | rfl
  all_goals
    go_enter Tryz.func188, Tryz.ntmps188
    go_wp2
    go_ret
    exact ⟨rfl, (Below.refl _ _).alloc (Nat.le_refl _) _⟩
def flg (b : Bool) : Int := if b = true then 1 else 0
theorem flag_any (b : Bool) (w : World) : Calls Tryz.prog 239 #[.bool b] w fun e w' => e = .returned (.int .i64 (flg b)) ∧ w = w' := by
  cases b
  all_goals
    go_enter Tryz.func239, Tryz.ntmps239
    go_wp2
    go_ret
    exact ⟨rfl, rfl⟩
open Classical in
/-- The fraction that two texts stand for. -/
noncomputable def fq (num den : List UInt8) : Int × Nat := if h : ∃ p : Bool × Nat × Nat, Nt.Rd num den p.1 p.2.1 p.2.2 then (Nt.zi h.choose.1 h.choose.2.1, h.choose.2.2) else (0, 1)
theorem fq_rd {num den : List UInt8} {m : Bool} {n d : Nat} (h : Nt.Rd num den m n d) : fq num den = (Nt.zi m n, d) := by
  unfold fq
  have hx : ∃ p : Bool × Nat × Nat, Nt.Rd num den p.1 p.2.1 p.2.2 := ⟨(m, n, d), h⟩
  rw [dif_pos hx]
  obtain ⟨e1, e2, e3⟩ := h.uniq hx.choose_spec
  rw [← e1, ← e2, ← e3]
theorem fq_den (num den : List UInt8) : (fq num den).2 ≠ 0 := by
  by_cases h : ∃ p : Bool × Nat × Nat, Nt.Rd num den p.1 p.2.1 p.2.2
  · obtain ⟨p, hp⟩ := h
    rw [fq_rd hp]
    exact hp.d0
  · unfold fq
    rw [dif_neg h]
    decide
/-- How two values of one kind compare. -/
noncomputable def kCmp (a b : Vl) : Int := if a.k = 1 then Cm.fracC (fq a.num.data.toList a.den.data.toList) (fq b.num.data.toList b.den.data.toList) else if a.k = 2 then Cm.strC (lowL a.text.data.toList) (lowL b.text.data.toList) else if a.k = 3 then flg a.on - flg b.on else Cm.intC a.code b.code
theorem kCmp_1 {a b : Vl} (h : a.k = 1) : kCmp a b = Cm.fracC (fq a.num.data.toList a.den.data.toList) (fq b.num.data.toList b.den.data.toList) := if_pos h
theorem kCmp_2 {a b : Vl} (h : a.k = 2) : kCmp a b = Cm.strC (lowL a.text.data.toList) (lowL b.text.data.toList) := by unfold kCmp; rw [if_neg (by omega), if_pos h]
theorem kCmp_3 {a b : Vl} (h : a.k = 3) : kCmp a b = flg a.on - flg b.on := by unfold kCmp; rw [if_neg (by omega), if_neg (by omega), if_pos h]
theorem kCmp_4 {a b : Vl} (h : a.k = 4) : kCmp a b = Cm.intC a.code b.code := by unfold kCmp; rw [if_neg (by omega), if_neg (by omega), if_neg (by omega)]
structure Vl.sz (v : Vl) : Prop where
  s1 : v.num.size ≤ 9223372036854775807
  s2 : v.den.size ≤ 9223372036854775807
  s3 : v.text.size ≤ 9223372036854775807
theorem compare_fq (a1 a2 b1 b2 : ByteArray) (w : World) (h1 : a1.size ≤ 9223372036854775807) (h2 : a2.size ≤ 9223372036854775807) (h3 : b1.size ≤ 9223372036854775807) (h4 : b2.size ≤ 9223372036854775807)
    (ha : ∃ m n d, Nt.Rd a1.data.toList a2.data.toList m n d) (hb : ∃ m n d, Nt.Rd b1.data.toList b2.data.toList m n d) :
    Calls Tryz.prog 238 #[.agg #[.string a1, .string a2], .agg #[.string b1, .string b2]] w fun e w' => e = .returned (.tuple #[.int .i64 (Cm.fracC (fq a1.data.toList a2.data.toList) (fq b1.data.toList b2.data.toList)), .int .i64 0]) ∧ Below w.heap.size w w' := by
  obtain ⟨m1, n1, d1, r1⟩ := ha
  obtain ⟨m2, n2, d2, r2⟩ := hb
  have L : ∀ {x : Nat}, (Lib.decDigits x).length ≤ 300 → (Nt.digs x).length ≤ 400000 := fun h => Nat.le_trans (Nt.digs_len (lt_pow34 h)) (by decide)
  refine (compare_w a1 a2 b1 b2 m1 n1 d1 m2 n2 d2 w h1 h2 h3 h4 r1 r2 (L r1.ln) (L r1.ld) (L r2.ln) (L r2.ld)).mono fun e w' ⟨r, e1, e2, e3⟩ => ⟨?_, e3⟩
  rw [e1, e2, fq_rd r1, fq_rd r2]
  unfold Cm.fracC
  have z : ∀ (m : Bool) (n d : Nat), Nt.zi m (n * d) = Nt.zi m n * d := fun m n d => by cases m <;> simp [Nt.zi, Int.neg_mul]
  rw [z, z]

set_option maxRecDepth 100000 in
set_option maxHeartbeats 4000000 in
theorem compared_any (a b : Vl) (w : World) (ha : a.ok) (hb : b.ok) (hk : a.k = b.k) (hk0 : a.k ≠ 0) (sa : a.sz) (sb : b.sz) :
    Calls Tryz.prog 190 #[a.v, b.v] w fun e w' => e = .returned (.int .i64 (kCmp a b)) ∧ Below w.heap.size w w' := by
  have HC := Lib.hid (And.intro ha hb)
  have hk1 := ha.1
  have hk4 := ha.2.1
  obtain ⟨sa1, sa2, sa3⟩ := sa
  obtain ⟨sb1, sb2, sb3⟩ := sb
  have H1 := Lib.hid (kCmp_1 (a := a) (b := b))
  have H2 := Lib.hid (kCmp_2 (a := a) (b := b))
  have H3 := Lib.hid (kCmp_3 (a := a) (b := b))
  have H4 := Lib.hid (kCmp_4 (a := a) (b := b))
  clear ha hb
  generalize kCmp a b = R at *
  obtain ⟨k, num1, den1, text1, on1, code1, rows1, cols1, A1, n1, c1⟩ := a
  obtain ⟨kb, num2, den2, text2, on2, code2, rows2, cols2, A2, n2, c2⟩ := b
  dsimp only at hk hk0 hk1 hk4 sa1 sa2 sa3 sb1 sb2 sb3
  subst hk
  have HL0 := Lib.hid (((Loc.start w).alloc' rfl 27 #[.int .i64 k, .string num1, .string den1, .string text1, .bool on1, .int .i64 code1, .int .i64 rows1, .int .i64 cols1, .slice A1 n1 c1]).alloc' (g := w.heap.size + 1) (by simp) 27 #[.int .i64 k, .string num2, .string den2, .string text2, .bool on2, .int .i64 code2, .int .i64 rows2, .int .i64 cols2, .slice A2 n2 c2])
  show Calls Tryz.prog 190 #[(.agg #[.int .i64 k, .string num1, .string den1, .string text1, .bool on1, .int .i64 code1, .int .i64 rows1, .int .i64 cols1, .slice A1 n1 c1]), (.agg #[.int .i64 k, .string num2, .string den2, .string text2, .bool on2, .int .i64 code2, .int .i64 rows2, .int .i64 cols2, .slice A2 n2 c2])] w _
  rcases (show k = 1 ∨ k = 2 ∨ k = 3 ∨ k = 4 by omega) with rfl | rfl | rfl | rfl
  · have HX := Lib.hid fun W => compare_fq num1 den1 num2 den2 W sa1 sa2 sb1 sb2 (HC.out.1.2.2.2.1 rfl) (HC.out.2.2.2.2.1 rfl)
    have HR := Lib.hid (H1.out rfl)
    clear sa1 sa2 sa3 sb1 sb2 sb3 H1 H2 H3 H4 HC
    go_enter Tryz.func190, Tryz.ntmps190
    go_wp2_with (go_at_call 238; (with_reducible refine (HX.out _).mono ?_); rintro e w1 ⟨rfl, hb⟩; have HL1 := Lib.hid (HL0.out.step hb); clear hb)
    go_ret
    exact ⟨by rw [HR.out]; rfl, HL1.out.bel⟩
  · have HW := Lib.hid fun (s : ByteArray) W h => lower_any s W h
    have HCS := Lib.hid fun x y W => cmpstr_any x y W
    have HR := Lib.hid (H2.out rfl)
    clear sa1 sa2 sb1 sb2 H1 H2 H3 H4 HC
    go_enter Tryz.func190, Tryz.ntmps190
    go_upto_region 6 with fail
    have HL := Lib.hid HL0.out.drew
    have b1 := (HL.out.blk (g := w.heap.size) (t := 27) (cs := #[.int .i64 2, .string num1, .string den1, .string text1, .bool on1, .int .i64 code1, .int .i64 rows1, .int .i64 cols1, .slice A1 n1 c1]) (by simp)).cell 3
    have b2 := (HL.out.blk (g := w.heap.size + 1) (t := 27) (cs := #[.int .i64 2, .string num2, .string den2, .string text2, .bool on2, .int .i64 code2, .int .i64 rows2, .int .i64 cols2, .slice A2 n2 c2]) (by simp)).cell 3
    clear HL0
    go_region_held3 (fun w' => w'.cell? ⟨w.heap.size, 3, none⟩ = some (.string text1) ∧ w'.cell? ⟨w.heap.size + 1, 3, none⟩ = some (.string text2)) (first | exact ⟨by assumption, by assumption⟩ | go_keep) ((first
      | (go_at_call 144; first
        | ((with_reducible refine (HW.out text1 _ sa3).mono ?_); rintro e w1 ⟨rfl, hb⟩; have hl := HL.out.step hb; clear HL b1 b2; have HL := Lib.hid hl; clear hl hb; have b1 := (HL.out.blk (g := w.heap.size) (t := 27) (cs := #[.int .i64 2, .string num1, .string den1, .string text1, .bool on1, .int .i64 code1, .int .i64 rows1, .int .i64 cols1, .slice A1 n1 c1]) (by simp)).cell 3; have b2 := (HL.out.blk (g := w.heap.size + 1) (t := 27) (cs := #[.int .i64 2, .string num2, .string den2, .string text2, .bool on2, .int .i64 code2, .int .i64 rows2, .int .i64 cols2, .slice A2 n2 c2]) (by simp)).cell 3)
        | ((with_reducible refine (HW.out text2 _ sb3).mono ?_); rintro e w2 ⟨rfl, hb⟩; have hl := HL.out.step hb; clear HL b1 b2; have HL := Lib.hid hl; clear hl hb; have b1 := (HL.out.blk (g := w.heap.size) (t := 27) (cs := #[.int .i64 2, .string num1, .string den1, .string text1, .bool on1, .int .i64 code1, .int .i64 rows1, .int .i64 cols1, .slice A1 n1 c1]) (by simp)).cell 3; have b2 := (HL.out.blk (g := w.heap.size + 1) (t := 27) (cs := #[.int .i64 2, .string num2, .string den2, .string text2, .bool on2, .int .i64 code2, .int .i64 rows2, .int .i64 cols2, .slice A2 n2 c2]) (by simp)).cell 3))
      | (go_at_call 191; (with_reducible refine (HCS.out _ _ _).mono ?_); rintro e w3 ⟨rfl, rfl⟩)))
    all_goals
      go_wp2_with fail
      go_ret
      exact ⟨by rw [HR.out]; rfl, HL.out.bel⟩
  · have HR := Lib.hid (H3.out rfl)
    clear sa1 sa2 sa3 sb1 sb2 sb3 H1 H2 H3 H4 HC
    have f1 : (0 : Int) ≤ flg on1 := by cases on1 <;> decide
    have f2 : flg on1 ≤ 1 := by cases on1 <;> decide
    have f3 : (0 : Int) ≤ flg on2 := by cases on2 <;> decide
    have f4 : flg on2 ≤ 1 := by cases on2 <;> decide
    go_enter Tryz.func190, Tryz.ntmps190
    go_upto_region 8 with fail
    go_quiet ((go_at_call 239; exact Calls.quiet_of_same ((flag_any _ _).mono fun _ _ ⟨h1, h2⟩ => ⟨h1, h2.symm⟩)))
    go_wp2_with fail
    go_ret
    exact ⟨by rw [HR.out]; rfl, (HL0.out.drewN _).bel⟩
  · have HR := Lib.hid (H4.out rfl)
    clear sa1 sa2 sa3 sb1 sb2 sb3 H1 H2 H3 H4 HC
    go_enter Tryz.func190, Tryz.ntmps190
    go_wp2_with (go_at_call 187; (with_reducible refine (cmpint_any _ _ _).mono ?_); rintro e w1 ⟨rfl, rfl⟩)
    go_ret
    exact ⟨by rw [HR.out]; rfl, HL0.out.bel⟩
end Go.Proofs.YtllhefjblipddaaGreatDoor

namespace Go.Proofs.YtllhefjblipddaaGreatDoor
open Go.RowKit

theorem check_t' (v : Vl) (w : World) (he : VEnv w) (hv : v.ok) (s1 : v.num.size ≤ 9223372036854775807) (s2 : v.den.size ≤ 9223372036854775807) (s3 : v.text.size ≤ 9223372036854775807) :
    Calls Tryz.prog 71 #[v.v] w fun e w' => e = .returned (.int .i64 0) ∧ Below w.heap.size w w' :=
  (check_na v w he (fun h => by have := hv.2.1; omega) s1 s2 s3).mono fun e w' ⟨c, h1, h2, h3⟩ => by
    obtain rfl := h2.2 hv
    exact ⟨h1, h3⟩

set_option maxRecDepth 100000 in
set_option maxHeartbeats 1000000 in
theorem valid_t (v : Vl) (w : World) (he : VEnv w) (hv : v.ok) (s1 : v.num.size ≤ 9223372036854775807) (s2 : v.den.size ≤ 9223372036854775807) (s3 : v.text.size ≤ 9223372036854775807) :
    Calls Tryz.prog 23 #[v.v] w fun e w' => e = .returned v.v ∧ Below w.heap.size w w' := by
  have HC := Lib.hid fun W (hW : Below w.heap.size w W) => check_t' v W (he.below hW) hv s1 s2 s3
  clear he hv s1 s2 s3
  obtain ⟨k, num, den, text, on, code, rows, cols, A, n, c⟩ := v
  show Calls Tryz.prog 23 #[.agg #[.int .i64 k, .string num, .string den, .string text, .bool on, .int .i64 code, .int .i64 rows, .int .i64 cols, .slice A n c]] w _
  have HC := Lib.hid (show ∀ W, Below w.heap.size w W → Calls Tryz.prog 71 #[.agg #[.int .i64 k, .string num, .string den, .string text, .bool on, .int .i64 code, .int .i64 rows, .int .i64 cols, .slice A n c]] W fun e w' => e = .returned (.int .i64 0) ∧ Below W.heap.size W w' from HC.out)
  have HL0 := Lib.hid (((Loc.start w).alloc' rfl 27 #[.int .i64 k, .string num, .string den, .string text, .bool on, .int .i64 code, .int .i64 rows, .int .i64 cols, .slice A n c]).alloc' (g := w.heap.size + 1) (by simp) 27 #[.int .i64 0, .string ⟨#[]⟩, .string ⟨#[]⟩, .string ⟨#[]⟩, .bool false, .int .i64 0, .int .i64 0, .int .i64 0, .slice none 0 0])
  go_enter Tryz.func23, Tryz.ntmps23
  go_upto_region 3 with (go_at_call 71; (with_reducible refine (HC.out _ HL0.out.bel).mono ?_); rintro e w1 ⟨rfl, hb⟩; have HL1 := Lib.hid (HL0.out.step hb); clear hb)
  obtain ⟨x0, x1, x2, x3, x4, x5, x6, x7, x8⟩ := (HL1.out.blk (g := w.heap.size) (t := 27) (cs := #[.int .i64 k, .string num, .string den, .string text, .bool on, .int .i64 code, .int .i64 rows, .int .i64 cols, .slice A n c]) (by simp)).nine
  have bz := HL1.out.blk (g := w.heap.size + 1) (t := 27) (cs := #[.int .i64 0, .string ⟨#[]⟩, .string ⟨#[]⟩, .string ⟨#[]⟩, .bool false, .int .i64 0, .int .i64 0, .int .i64 0, .slice none 0 0]) (by simp)
  obtain ⟨z0, z1, z2, z3, z4, z5, z6, z7, z8⟩ := bz.nine
  obtain ⟨f0, f1, f2, f3, f4, f5, f6, f7, f8⟩ := bz.ninef
  obtain ⟨bs, s0, s1, s2, s3, s4, s5, s6, s7, s8⟩ := bz.nine_set (.int .i64 k) (.string num) (.string den) (.string text) (.bool on) (.int .i64 code) (.int .i64 rows) (.int .i64 cols) (.slice A n c)
  have BS := Lib.hid bs
  clear bz bs
  go_wp2_with fail
  obtain ⟨q0, q1, q2, q3, q4, q5, q6, q7, q8⟩ := BS.out.nine
  refine bodyPost_ret (v := .agg #[.int .i64 k, .string num, .string den, .string text, .bool on, .int .i64 code, .int .i64 rows, .int .i64 cols, .slice A n c]) (by simp [results, Tryz.results23, go_sem, q0, q1, q2, q3, q4, q5, q6, q7, q8]) rfl ⟨rfl, ?_⟩
  exact below_nine HL1.out.bel (by omega) _ _ _ _ _ _ _ _ _
/-- A number as a value. -/
def nval (num den : ByteArray) : Value := .agg #[.int .i64 1, .string num, .string den, .string ⟨#[]⟩, .bool false, .int .i64 0, .int .i64 0, .int .i64 0, .slice none 0 0]
theorem nval_ok {num den : ByteArray} (h : ∃ m n d, Nt.Rd num.data.toList den.data.toList m n d) : Vl.ok ⟨1, num, den, ⟨#[]⟩, false, 0, 0, 0, none, 0, 0⟩ :=
  ⟨show (0 : Int) ≤ 1 by decide, show (1 : Int) ≤ 4 by decide, by simp [Vl.zB, Lib.toList_data], fun _ => h, fun h => absurd (show (1 : Int) = 2 from h) (by decide), fun h => absurd (show (1 : Int) = 4 from h) (by decide)⟩
set_option maxRecDepth 100000 in
set_option maxHeartbeats 1000000 in
theorem number_t (num den : ByteArray) (w : World) (he : VEnv w) (h : ∃ m n d, Nt.Rd num.data.toList den.data.toList m n d) (s1 : num.size ≤ 9223372036854775807) (s2 : den.size ≤ 9223372036854775807) :
    Calls Tryz.prog 15 #[.agg #[.string num, .string den]] w fun e w' => e = .returned (nval num den) ∧ Below w.heap.size w w' := by
  have HV := Lib.hid (show ∀ W, Below w.heap.size w W → Calls Tryz.prog 23 #[.agg #[.int .i64 1, .string num, .string den, .string ⟨#[]⟩, .bool false, .int .i64 0, .int .i64 0, .int .i64 0, .slice none 0 0]] W fun e w' => e = .returned (.agg #[.int .i64 1, .string num, .string den, .string ⟨#[]⟩, .bool false, .int .i64 0, .int .i64 0, .int .i64 0, .slice none 0 0]) ∧ Below W.heap.size W w' from fun W hW => valid_t ⟨1, num, den, ⟨#[]⟩, false, 0, 0, 0, none, 0, 0⟩ W (he.below hW) (nval_ok h) s1 s2 (show (⟨#[]⟩ : ByteArray).size ≤ 9223372036854775807 by decide))
  clear he h s1 s2
  have HL0 := Lib.hid (((Loc.start w).alloc' rfl 24 #[.string num, .string den]).alloc' (g := w.heap.size + 1) (by simp) 27 #[.int .i64 0, .string ⟨#[]⟩, .string ⟨#[]⟩, .string ⟨#[]⟩, .bool false, .int .i64 0, .int .i64 0, .int .i64 0, .slice none 0 0])
  go_enter Tryz.func15, Tryz.ntmps15
  go_wp2_with (go_at_call 23; (with_reducible refine (HV.out _ HL0.out.bel).mono ?_); rintro e w1 ⟨rfl, hb⟩; have HL1 := Lib.hid (HL0.out.step hb); have bz := HL1.out.blk (g := w.heap.size + 1) (t := 27) (cs := #[.int .i64 0, .string ⟨#[]⟩, .string ⟨#[]⟩, .string ⟨#[]⟩, .bool false, .int .i64 0, .int .i64 0, .int .i64 0, .slice none 0 0]) (by simp); obtain ⟨z0, z1, z2, z3, z4, z5, z6, z7, z8⟩ := bz.nine; obtain ⟨f0, f1, f2, f3, f4, f5, f6, f7, f8⟩ := bz.ninef; obtain ⟨bs, c0, c1, c2, c3, c4, c5, c6, c7, c8⟩ := bz.nine_set (.int .i64 1) (.string num) (.string den) (.string ⟨#[]⟩) (.bool false) (.int .i64 0) (.int .i64 0) (.int .i64 0) (.slice none 0 0); have BS := Lib.hid bs; clear bz bs hb)
  obtain ⟨q0, q1, q2, q3, q4, q5, q6, q7, q8⟩ := BS.out.nine
  refine bodyPost_ret (v := .agg #[.int .i64 1, .string num, .string den, .string ⟨#[]⟩, .bool false, .int .i64 0, .int .i64 0, .int .i64 0, .slice none 0 0]) (by simp [results, Tryz.results15, go_sem, q0, q1, q2, q3, q4, q5, q6, q7, q8]) rfl ⟨rfl, ?_⟩
  exact below_nine HL1.out.bel (by omega) _ _ _ _ _ _ _ _ _
end Go.Proofs.YtllhefjblipddaaGreatDoor

namespace Go.Proofs.YtllhefjblipddaaGreatDoor
open Go.RowKit

theorem ix2_0 (u0 u1 u2 u3 u4 u5 u6 u7 u8 u9 u10 u11 u12 u13 u14 u15 u16 u17 : Value) (W : World) : (Instr.index 243 (.agg #[u0, u1, u2, u3, u4, u5, u6, u7, u8, u9, u10, u11, u12, u13, u14, u15, u16, u17]) (.int .i64 0)).run Tryz.prog W = .ok (.agg #[u0, u1, u2, u3, u4, u5, u6, u7, u8]) W := by kernel_rfl
theorem ix2_1 (u0 u1 u2 u3 u4 u5 u6 u7 u8 u9 u10 u11 u12 u13 u14 u15 u16 u17 : Value) (W : World) : (Instr.index 243 (.agg #[u0, u1, u2, u3, u4, u5, u6, u7, u8, u9, u10, u11, u12, u13, u14, u15, u16, u17]) (.int .i64 1)).run Tryz.prog W = .ok (.agg #[u9, u10, u11, u12, u13, u14, u15, u16, u17]) W := by kernel_rfl
set_option maxRecDepth 100000 in
set_option maxHeartbeats 4000000 in
theorem bothv_t (a b : Vl) (w : World) (he : VEnv w) (ha : a.ok) (hb : b.ok) (sa : a.sz) (sb : b.sz) :
    Calls Tryz.prog 186 #[a.v, b.v, .int .i64 4] w fun e w' => e = .returned (.int .i64 0) ∧ Below w.heap.size w w' := by
  have HC1 := Lib.hid fun W (hW : Below w.heap.size w W) => check_t' a W (he.below hW) ha sa.s1 sa.s2 sa.s3
  have HC2 := Lib.hid fun W (hW : Below w.heap.size w W) => check_t' b W (he.below hW) hb sb.s1 sb.s2 sb.s3
  have ka4 := ha.2.1
  have kb4 := hb.2.1
  clear he ha hb sa sb
  obtain ⟨k, num1, den1, text1, on1, code1, rows1, cols1, A1, n1, c1⟩ := a
  obtain ⟨j, num2, den2, text2, on2, code2, rows2, cols2, A2, n2, c2⟩ := b
  dsimp only at ka4 kb4
  have HC1 := Lib.hid (show ∀ W, Below w.heap.size w W → Calls Tryz.prog 71 #[(.agg #[.int .i64 k, .string num1, .string den1, .string text1, .bool on1, .int .i64 code1, .int .i64 rows1, .int .i64 cols1, .slice A1 n1 c1])] W fun e w' => e = .returned (.int .i64 0) ∧ Below W.heap.size W w' from HC1.out)
  have HC2 := Lib.hid (show ∀ W, Below w.heap.size w W → Calls Tryz.prog 71 #[(.agg #[.int .i64 j, .string num2, .string den2, .string text2, .bool on2, .int .i64 code2, .int .i64 rows2, .int .i64 cols2, .slice A2 n2 c2])] W fun e w' => e = .returned (.int .i64 0) ∧ Below W.heap.size W w' from HC2.out)
  show Calls Tryz.prog 186 #[(.agg #[.int .i64 k, .string num1, .string den1, .string text1, .bool on1, .int .i64 code1, .int .i64 rows1, .int .i64 cols1, .slice A1 n1 c1]), (.agg #[.int .i64 j, .string num2, .string den2, .string text2, .bool on2, .int .i64 code2, .int .i64 rows2, .int .i64 cols2, .slice A2 n2 c2]), .int .i64 4] w _
  have HL0 := Lib.hid (((Loc.start w).alloc' rfl 27 #[.int .i64 k, .string num1, .string den1, .string text1, .bool on1, .int .i64 code1, .int .i64 rows1, .int .i64 cols1, .slice A1 n1 c1]).alloc' (g := w.heap.size + 1) (by simp) 27 #[.int .i64 j, .string num2, .string den2, .string text2, .bool on2, .int .i64 code2, .int .i64 rows2, .int .i64 cols2, .slice A2 n2 c2])
  go_enter Tryz.func186, Tryz.ntmps186
  go_wp2_with fail
  go_loopw [13] (fun i wr => ∃ m : Nat, m ≤ 2 ∧ i = .int .i64 (m : Int) ∧ Hid (Loc w [(w.heap.size + 1, 27, #[.int .i64 j, .string num2, .string den2, .string text2, .bool on2, .int .i64 code2, .int .i64 rows2, .int .i64 cols2, .slice A2 n2 c2]), (w.heap.size, 27, #[.int .i64 k, .string num1, .string den1, .string text1, .bool on1, .int .i64 code1, .int .i64 rows1, .int .i64 cols1, .slice A1 n1 c1])] wr)) (fun i _ => 2 - (intOf i).toNat)
  case atStart => exact ⟨0, by decide, rfl, HL0⟩
  case round =>
    obtain ⟨m, hm, rfl, HL⟩ := hrel
    rcases (show m = 0 ∨ m = 1 ∨ m = 2 by omega) with rfl | rfl | rfl
    · have hix := ix2_0
      go_wp2_with (go_at_call 71; (with_reducible refine (HC1.out _ (HL.out.alloc _ _).bel).mono ?_); rintro e w1 ⟨rfl, hb⟩; have HL1 := Lib.hid (((HL.out.alloc 27 #[.int .i64 k, .string num1, .string den1, .string text1, .bool on1, .int .i64 code1, .int .i64 rows1, .int .i64 cols1, .slice A1 n1 c1]).step hb).perm (L' := [(w.heap.size + 1, 27, #[.int .i64 j, .string num2, .string den2, .string text2, .bool on2, .int .i64 code2, .int .i64 rows2, .int .i64 cols2, .slice A2 n2 c2]), (w.heap.size, 27, #[.int .i64 k, .string num1, .string den1, .string text1, .bool on1, .int .i64 code1, .int .i64 rows1, .int .i64 cols1, .slice A1 n1 c1])]) (by simp)); clear hb)
      go_roundw
      case rel => exact ⟨1, by decide, rfl, HL1⟩
      case measure => simp [intOf]
    · have hix := ix2_1
      go_wp2_with (go_at_call 71; (with_reducible refine (HC2.out _ (HL.out.alloc _ _).bel).mono ?_); rintro e w1 ⟨rfl, hb⟩; have HL1 := Lib.hid (((HL.out.alloc 27 #[.int .i64 j, .string num2, .string den2, .string text2, .bool on2, .int .i64 code2, .int .i64 rows2, .int .i64 cols2, .slice A2 n2 c2]).step hb).perm (L' := [(w.heap.size + 1, 27, #[.int .i64 j, .string num2, .string den2, .string text2, .bool on2, .int .i64 code2, .int .i64 rows2, .int .i64 cols2, .slice A2 n2 c2]), (w.heap.size, 27, #[.int .i64 k, .string num1, .string den1, .string text1, .bool on1, .int .i64 code1, .int .i64 rows1, .int .i64 cols1, .slice A1 n1 c1])]) (by simp)); clear hb)
      go_roundw
      case rel => exact ⟨2, by decide, rfl, HL1⟩
      case measure => simp [intOf]
    · have x0 := (HL.out.blk (g := w.heap.size) (t := 27) (cs := #[.int .i64 k, .string num1, .string den1, .string text1, .bool on1, .int .i64 code1, .int .i64 rows1, .int .i64 cols1, .slice A1 n1 c1]) (by simp)).cell 0
      have y0 := (HL.out.blk (g := w.heap.size + 1) (t := 27) (cs := #[.int .i64 j, .string num2, .string den2, .string text2, .bool on2, .int .i64 code2, .int .i64 rows2, .int .i64 cols2, .slice A2 n2 c2]) (by simp)).cell 0
      go_wp2_with fail
      all_goals
        go_ret
        exact ⟨rfl, HL.out.bel⟩

/-- How two valid values compare in the order for sorting. -/
noncomputable def ordV (a b : Vl) : Int := if a.k ≠ b.k then Cm.intC (rk a.k) (rk b.k) else if a.k = 0 then 0 else orI (kCmp a b) (Cm.strC a.text.data.toList b.text.data.toList)
set_option maxRecDepth 100000 in
set_option maxHeartbeats 8000000 in
theorem order_any (a b : Vl) (w : World) (he : VEnv w) (ha : a.ok) (hb : b.ok) (sa : a.sz) (sb : b.sz) :
    Calls Tryz.prog 142 #[a.v, b.v] w fun e w' => e = .returned (.tuple #[.int .i64 (ordV a b), .int .i64 0]) ∧ Below w.heap.size w w' := by
  have HB := Lib.hid fun W (hW : Below w.heap.size w W) => bothv_t a b W (he.below hW) ha hb sa sb
  have HR1 := Lib.hid fun W => rank_any a W ha.1 ha.2.1
  have HR2 := Lib.hid fun W => rank_any b W hb.1 hb.2.1
  have HI := Lib.hid fun x y W => cmpint_any x y W
  have HSt := Lib.hid fun x y W => cmpstr_any x y W
  have HO := Lib.hid fun x y g W h0 h1 => or_two x y g W h0 h1
  have HK := Lib.hid fun W (h1 : a.k = b.k) (h2 : a.k ≠ 0) => compared_any a b W ha hb h1 h2 sa sb
  have HV := Lib.hid (show ordV a b = if a.k ≠ b.k then Cm.intC (rk a.k) (rk b.k) else if a.k = 0 then 0 else orI (kCmp a b) (Cm.strC a.text.data.toList b.text.data.toList) from rfl)
  generalize ordV a b = R at *
  clear he ha hb sa sb
  generalize kCmp a b = kc at *
  obtain ⟨k, num1, den1, text1, on1, code1, rows1, cols1, A1, n1, c1⟩ := a
  obtain ⟨j, num2, den2, text2, on2, code2, rows2, cols2, A2, n2, c2⟩ := b
  dsimp only at HR1 HR2 HK HV
  have HB := Lib.hid (show ∀ W, Below w.heap.size w W → Calls Tryz.prog 186 #[(.agg #[.int .i64 k, .string num1, .string den1, .string text1, .bool on1, .int .i64 code1, .int .i64 rows1, .int .i64 cols1, .slice A1 n1 c1]), (.agg #[.int .i64 j, .string num2, .string den2, .string text2, .bool on2, .int .i64 code2, .int .i64 rows2, .int .i64 cols2, .slice A2 n2 c2]), .int .i64 4] W fun e w' => e = .returned (.int .i64 0) ∧ Below W.heap.size W w' from HB.out)
  have HR1 := Lib.hid (show ∀ W, Calls Tryz.prog 188 #[(.agg #[.int .i64 k, .string num1, .string den1, .string text1, .bool on1, .int .i64 code1, .int .i64 rows1, .int .i64 cols1, .slice A1 n1 c1])] W fun e w' => e = .returned (.int .i64 (rk k)) ∧ Below W.heap.size W w' from HR1.out)
  have HR2 := Lib.hid (show ∀ W, Calls Tryz.prog 188 #[(.agg #[.int .i64 j, .string num2, .string den2, .string text2, .bool on2, .int .i64 code2, .int .i64 rows2, .int .i64 cols2, .slice A2 n2 c2])] W fun e w' => e = .returned (.int .i64 (rk j)) ∧ Below W.heap.size W w' from HR2.out)
  have HK := Lib.hid (show ∀ W, k = j → k ≠ 0 → Calls Tryz.prog 190 #[(.agg #[.int .i64 k, .string num1, .string den1, .string text1, .bool on1, .int .i64 code1, .int .i64 rows1, .int .i64 cols1, .slice A1 n1 c1]), (.agg #[.int .i64 j, .string num2, .string den2, .string text2, .bool on2, .int .i64 code2, .int .i64 rows2, .int .i64 cols2, .slice A2 n2 c2])] W fun e w' => e = .returned (.int .i64 kc) ∧ Below W.heap.size W w' from HK.out)
  show Calls Tryz.prog 142 #[(.agg #[.int .i64 k, .string num1, .string den1, .string text1, .bool on1, .int .i64 code1, .int .i64 rows1, .int .i64 cols1, .slice A1 n1 c1]), (.agg #[.int .i64 j, .string num2, .string den2, .string text2, .bool on2, .int .i64 code2, .int .i64 rows2, .int .i64 cols2, .slice A2 n2 c2])] w _
  have HL0 := Lib.hid (((Loc.start w).alloc' rfl 27 #[.int .i64 k, .string num1, .string den1, .string text1, .bool on1, .int .i64 code1, .int .i64 rows1, .int .i64 cols1, .slice A1 n1 c1]).alloc' (g := w.heap.size + 1) (by simp) 27 #[.int .i64 j, .string num2, .string den2, .string text2, .bool on2, .int .i64 code2, .int .i64 rows2, .int .i64 cols2, .slice A2 n2 c2])
  by_cases hk : k = j
  · subst hk
    by_cases hk0 : k = 0
    · subst hk0
      have HV1 := Lib.hid (show R = 0 from by rw [HV.out, if_neg (by simp), if_pos rfl])
      go_enter Tryz.func142, Tryz.ntmps142
      go_wp2_with (go_at_call 186; (with_reducible refine (HB.out _ HL0.out.bel).mono ?_); rintro e w1 ⟨rfl, hb⟩; have HL1 := Lib.hid (HL0.out.step hb); have x0 := (HL1.out.blk (g := w.heap.size) (t := 27) (cs := #[.int .i64 0, .string num1, .string den1, .string text1, .bool on1, .int .i64 code1, .int .i64 rows1, .int .i64 cols1, .slice A1 n1 c1]) (by simp)).cell 0; have y0 := (HL1.out.blk (g := w.heap.size + 1) (t := 27) (cs := #[.int .i64 0, .string num2, .string den2, .string text2, .bool on2, .int .i64 code2, .int .i64 rows2, .int .i64 cols2, .slice A2 n2 c2]) (by simp)).cell 0; clear hb)
      go_ret2
      exact ⟨by rw [HV1.out]; rfl, HL1.out.bel⟩
    · have HV1 := Lib.hid (show R = orI kc (Cm.strC text1.data.toList text2.data.toList) from by rw [HV.out, if_neg (by simp), if_neg hk0])
      have HKK := Lib.hid fun W => HK.out W rfl hk0
      have k0 : ((k : Int) == 0) = false := by rw [beq_eq_false_iff_ne]; exact hk0
      clear HK HR1 HR2 HV hk0
      go_enter Tryz.func142, Tryz.ntmps142
      go_upto_region 8 with (go_at_call 186; (with_reducible refine (HB.out _ HL0.out.bel).mono ?_); rintro e w1 ⟨rfl, hb⟩; have HL1 := Lib.hid (HL0.out.step hb); obtain ⟨x0, x1, x2, x3, x4, x5, x6, x7, x8⟩ := (HL1.out.blk (g := w.heap.size) (t := 27) (cs := #[.int .i64 k, .string num1, .string den1, .string text1, .bool on1, .int .i64 code1, .int .i64 rows1, .int .i64 cols1, .slice A1 n1 c1]) (by simp)).nine; obtain ⟨y0, y1, y2, y3, y4, y5, y6, y7, y8⟩ := (HL1.out.blk (g := w.heap.size + 1) (t := 27) (cs := #[.int .i64 k, .string num2, .string den2, .string text2, .bool on2, .int .i64 code2, .int .i64 rows2, .int .i64 cols2, .slice A2 n2 c2]) (by simp)).nine; clear hb)
      clear x0 x1 x2 x3 x4 x5 x6 x7 x8 y0 y1 y2 y3 y4 y5 y6 y7 y8
      have HL := Lib.hid HL1.out.drew
      clear HL1
      obtain ⟨x0, x1, x2, x3, x4, x5, x6, x7, x8⟩ := (HL.out.blk (g := w.heap.size) (t := 27) (cs := #[.int .i64 k, .string num1, .string den1, .string text1, .bool on1, .int .i64 code1, .int .i64 rows1, .int .i64 cols1, .slice A1 n1 c1]) (by simp)).nine
      obtain ⟨y0, y1, y2, y3, y4, y5, y6, y7, y8⟩ := (HL.out.blk (g := w.heap.size + 1) (t := 27) (cs := #[.int .i64 k, .string num2, .string den2, .string text2, .bool on2, .int .i64 code2, .int .i64 rows2, .int .i64 cols2, .slice A2 n2 c2]) (by simp)).nine
      go_region_held3 (fun w' => w'.cell? ⟨w.heap.size, 0, none⟩ = some (.int .i64 k) ∧ w'.cell? ⟨w.heap.size, 1, none⟩ = some (.string num1) ∧ w'.cell? ⟨w.heap.size, 2, none⟩ = some (.string den1) ∧ w'.cell? ⟨w.heap.size, 3, none⟩ = some (.string text1) ∧ w'.cell? ⟨w.heap.size, 4, none⟩ = some (.bool on1) ∧ w'.cell? ⟨w.heap.size, 5, none⟩ = some (.int .i64 code1) ∧ w'.cell? ⟨w.heap.size, 6, none⟩ = some (.int .i64 rows1) ∧ w'.cell? ⟨w.heap.size, 7, none⟩ = some (.int .i64 cols1) ∧ w'.cell? ⟨w.heap.size, 8, none⟩ = some (.slice A1 n1 c1) ∧ w'.cell? ⟨w.heap.size + 1, 0, none⟩ = some (.int .i64 k) ∧ w'.cell? ⟨w.heap.size + 1, 1, none⟩ = some (.string num2) ∧ w'.cell? ⟨w.heap.size + 1, 2, none⟩ = some (.string den2) ∧ w'.cell? ⟨w.heap.size + 1, 3, none⟩ = some (.string text2) ∧ w'.cell? ⟨w.heap.size + 1, 4, none⟩ = some (.bool on2) ∧ w'.cell? ⟨w.heap.size + 1, 5, none⟩ = some (.int .i64 code2) ∧ w'.cell? ⟨w.heap.size + 1, 6, none⟩ = some (.int .i64 rows2) ∧ w'.cell? ⟨w.heap.size + 1, 7, none⟩ = some (.int .i64 cols2) ∧ w'.cell? ⟨w.heap.size + 1, 8, none⟩ = some (.slice A2 n2 c2)) (first | exact ⟨by assumption, by assumption, by assumption, by assumption, by assumption, by assumption, by assumption, by assumption, by assumption, by assumption, by assumption, by assumption, by assumption, by assumption, by assumption, by assumption, by assumption, by assumption⟩ | go_keep) ((first
        | (go_at_call 190; (with_reducible refine (HKK.out _).mono ?_); rintro e w2 ⟨rfl, hb⟩; have hl := HL.out.step hb; clear HL; clear x0 x1 x2 x3 x4 x5 x6 x7 x8 y0 y1 y2 y3 y4 y5 y6 y7 y8; have HL := Lib.hid hl; clear hl hb; obtain ⟨x0, x1, x2, x3, x4, x5, x6, x7, x8⟩ := (HL.out.blk (g := w.heap.size) (t := 27) (cs := #[.int .i64 k, .string num1, .string den1, .string text1, .bool on1, .int .i64 code1, .int .i64 rows1, .int .i64 cols1, .slice A1 n1 c1]) (by simp)).nine; obtain ⟨y0, y1, y2, y3, y4, y5, y6, y7, y8⟩ := (HL.out.blk (g := w.heap.size + 1) (t := 27) (cs := #[.int .i64 k, .string num2, .string den2, .string text2, .bool on2, .int .i64 code2, .int .i64 rows2, .int .i64 cols2, .slice A2 n2 c2]) (by simp)).nine)
        | (go_at_call 191; (with_reducible refine (HSt.out _ _ _).mono ?_); rintro e w3 ⟨rfl, rfl⟩)
        | (go_at_call 189; refine (HO.out kc (Cm.strC text1.data.toList text2.data.toList) _ _ (by simp [go_sem]) (by simp [go_sem])).mono ?_; rintro e w4 ⟨rfl, rfl⟩)))
      all_goals
        go_wp2_with fail
        go_ret2
        exact ⟨by rw [HV1.out]; rfl, (HL.out.alloc _ _).bel⟩
  · have HV1 := Lib.hid (show R = Cm.intC (rk k) (rk j) from by rw [HV.out, if_pos (by simpa using hk)])
    have k0 : ((k : Int) != j) = true := by rw [bne_iff_ne]; exact hk
    clear HK HO HSt HV hk
    go_enter Tryz.func142, Tryz.ntmps142
    go_upto_region 5 with (go_at_call 186; (with_reducible refine (HB.out _ HL0.out.bel).mono ?_); rintro e w1 ⟨rfl, hb⟩; have HL1 := Lib.hid (HL0.out.step hb); obtain ⟨x0, x1, x2, x3, x4, x5, x6, x7, x8⟩ := (HL1.out.blk (g := w.heap.size) (t := 27) (cs := #[.int .i64 k, .string num1, .string den1, .string text1, .bool on1, .int .i64 code1, .int .i64 rows1, .int .i64 cols1, .slice A1 n1 c1]) (by simp)).nine; obtain ⟨y0, y1, y2, y3, y4, y5, y6, y7, y8⟩ := (HL1.out.blk (g := w.heap.size + 1) (t := 27) (cs := #[.int .i64 j, .string num2, .string den2, .string text2, .bool on2, .int .i64 code2, .int .i64 rows2, .int .i64 cols2, .slice A2 n2 c2]) (by simp)).nine; clear hb)
    clear x0 x1 x2 x3 x4 x5 x6 x7 x8 y0 y1 y2 y3 y4 y5 y6 y7 y8
    have HL := Lib.hid HL1.out.drew
    clear HL1
    obtain ⟨x0, x1, x2, x3, x4, x5, x6, x7, x8⟩ := (HL.out.blk (g := w.heap.size) (t := 27) (cs := #[.int .i64 k, .string num1, .string den1, .string text1, .bool on1, .int .i64 code1, .int .i64 rows1, .int .i64 cols1, .slice A1 n1 c1]) (by simp)).nine
    obtain ⟨y0, y1, y2, y3, y4, y5, y6, y7, y8⟩ := (HL.out.blk (g := w.heap.size + 1) (t := 27) (cs := #[.int .i64 j, .string num2, .string den2, .string text2, .bool on2, .int .i64 code2, .int .i64 rows2, .int .i64 cols2, .slice A2 n2 c2]) (by simp)).nine
    go_region_held3 (fun w' => w'.cell? ⟨w.heap.size, 0, none⟩ = some (.int .i64 k) ∧ w'.cell? ⟨w.heap.size, 1, none⟩ = some (.string num1) ∧ w'.cell? ⟨w.heap.size, 2, none⟩ = some (.string den1) ∧ w'.cell? ⟨w.heap.size, 3, none⟩ = some (.string text1) ∧ w'.cell? ⟨w.heap.size, 4, none⟩ = some (.bool on1) ∧ w'.cell? ⟨w.heap.size, 5, none⟩ = some (.int .i64 code1) ∧ w'.cell? ⟨w.heap.size, 6, none⟩ = some (.int .i64 rows1) ∧ w'.cell? ⟨w.heap.size, 7, none⟩ = some (.int .i64 cols1) ∧ w'.cell? ⟨w.heap.size, 8, none⟩ = some (.slice A1 n1 c1) ∧ w'.cell? ⟨w.heap.size + 1, 0, none⟩ = some (.int .i64 j) ∧ w'.cell? ⟨w.heap.size + 1, 1, none⟩ = some (.string num2) ∧ w'.cell? ⟨w.heap.size + 1, 2, none⟩ = some (.string den2) ∧ w'.cell? ⟨w.heap.size + 1, 3, none⟩ = some (.string text2) ∧ w'.cell? ⟨w.heap.size + 1, 4, none⟩ = some (.bool on2) ∧ w'.cell? ⟨w.heap.size + 1, 5, none⟩ = some (.int .i64 code2) ∧ w'.cell? ⟨w.heap.size + 1, 6, none⟩ = some (.int .i64 rows2) ∧ w'.cell? ⟨w.heap.size + 1, 7, none⟩ = some (.int .i64 cols2) ∧ w'.cell? ⟨w.heap.size + 1, 8, none⟩ = some (.slice A2 n2 c2)) (first | exact ⟨by assumption, by assumption, by assumption, by assumption, by assumption, by assumption, by assumption, by assumption, by assumption, by assumption, by assumption, by assumption, by assumption, by assumption, by assumption, by assumption, by assumption, by assumption⟩ | go_keep) ((first
      | (go_at_call 188; first
        | ((with_reducible refine (HR1.out _).mono ?_); rintro e w2 ⟨rfl, hb⟩; have hl := HL.out.step hb; clear HL; clear x0 x1 x2 x3 x4 x5 x6 x7 x8 y0 y1 y2 y3 y4 y5 y6 y7 y8; have HL := Lib.hid hl; clear hl hb; obtain ⟨x0, x1, x2, x3, x4, x5, x6, x7, x8⟩ := (HL.out.blk (g := w.heap.size) (t := 27) (cs := #[.int .i64 k, .string num1, .string den1, .string text1, .bool on1, .int .i64 code1, .int .i64 rows1, .int .i64 cols1, .slice A1 n1 c1]) (by simp)).nine; obtain ⟨y0, y1, y2, y3, y4, y5, y6, y7, y8⟩ := (HL.out.blk (g := w.heap.size + 1) (t := 27) (cs := #[.int .i64 j, .string num2, .string den2, .string text2, .bool on2, .int .i64 code2, .int .i64 rows2, .int .i64 cols2, .slice A2 n2 c2]) (by simp)).nine)
        | ((with_reducible refine (HR2.out _).mono ?_); rintro e w3 ⟨rfl, hb⟩; have hl := HL.out.step hb; clear HL; clear x0 x1 x2 x3 x4 x5 x6 x7 x8 y0 y1 y2 y3 y4 y5 y6 y7 y8; have HL := Lib.hid hl; clear hl hb; obtain ⟨x0, x1, x2, x3, x4, x5, x6, x7, x8⟩ := (HL.out.blk (g := w.heap.size) (t := 27) (cs := #[.int .i64 k, .string num1, .string den1, .string text1, .bool on1, .int .i64 code1, .int .i64 rows1, .int .i64 cols1, .slice A1 n1 c1]) (by simp)).nine; obtain ⟨y0, y1, y2, y3, y4, y5, y6, y7, y8⟩ := (HL.out.blk (g := w.heap.size + 1) (t := 27) (cs := #[.int .i64 j, .string num2, .string den2, .string text2, .bool on2, .int .i64 code2, .int .i64 rows2, .int .i64 cols2, .slice A2 n2 c2]) (by simp)).nine))
      | (go_at_call 187; (with_reducible refine (HI.out _ _ _).mono ?_); rintro e w4 ⟨rfl, rfl⟩)))
    all_goals
      go_wp2_with fail
      go_ret2
      exact ⟨by rw [HV1.out]; rfl, HL.out.bel⟩
end Go.Proofs.YtllhefjblipddaaGreatDoor

namespace Go.Proofs.YtllhefjblipddaaGreatDoor
open Go.RowKit

theorem Cm.glue {α : Type} (r : α → Int) (S : α → α → Int) (h1 : ∀ a b, r a = r b → S a b = - S b a) (h2 : ∀ a b c, r a = r b → r b = r c → S a b ≤ 0 → S b c ≤ 0 → S a c ≤ 0) :
    Cm.IsC (fun a b => if r a ≠ r b then Cm.intC (r a) (r b) else S a b) := by
  refine ⟨fun a b => ?_, fun a b c g1 g2 => ?_⟩
  · by_cases h : r a = r b
    · simp only [h, ne_eq, not_true, if_false]
      exact h1 a b h
    · have h' : ¬ r b = r a := fun e => h e.symm
      simp only [h, h', ne_eq, not_false_eq_true, if_true]
      exact Cm.intC_anti _ _
  · by_cases e1 : r a = r b
    · by_cases e2 : r b = r c
      · have e3 := e1.trans e2
        simp only [e1, e2, ne_eq, not_true, if_false] at g1 g2 ⊢
        exact h2 a b c e1 e2 g1 g2
      · have e3 : ¬ r a = r c := fun e => e2 (e1.symm.trans e)
        simp only [e2, ne_eq, not_false_eq_true, if_true] at g2
        simp only [e3, ne_eq, not_false_eq_true, if_true]
        rw [e1]
        exact g2
    · simp only [e1, ne_eq, not_false_eq_true, if_true] at g1
      by_cases e2 : r b = r c
      · have e3 : ¬ r a = r c := fun e => e1 (e.trans e2.symm)
        simp only [e3, ne_eq, not_false_eq_true, if_true]
        rw [← e2]
        exact g1
      · simp only [e2, ne_eq, not_false_eq_true, if_true] at g2
        have := Cm.intC_trans _ _ _ g1 g2
        by_cases e3 : r a = r c
        · exfalso
          rw [e3] at g1
          have k := Cm.intC_anti (r b) (r c)
          have : Cm.intC (r b) (r c) = 0 := by omega
          unfold Cm.intC at this
          split at this
          · omega
          · split at this
            · omega
            · omega
        · simp only [e3, ne_eq, not_false_eq_true, if_true]
          exact this
/-- The part within one kind. -/
noncomputable def inK (a b : Vl) : Int := if a.k = 0 then 0 else Cm.orC kCmp (fun a b => Cm.strC a.text.data.toList b.text.data.toList) a b
theorem txt_is : Cm.IsC (fun a b : Vl => Cm.strC a.text.data.toList b.text.data.toList) := Cm.strC_is.map (fun v : Vl => v.text.data.toList)
theorem frac_is : Cm.IsC (fun a b : Vl => Cm.fracC (fq a.num.data.toList a.den.data.toList) (fq b.num.data.toList b.den.data.toList)) :=
  ⟨fun _ _ => Cm.fracC_anti _ _, fun _ _ _ => Cm.fracC_trans _ _ _ (fq_den _ _) (fq_den _ _) (fq_den _ _)⟩
/-- Within one kind there is one comparison. -/
theorem kCmp_is (k : Int) : ∃ g : Vl → Vl → Int, Cm.IsC g ∧ ∀ a b : Vl, a.k = k → kCmp a b = g a b := by
  unfold kCmp
  by_cases h1 : k = 1
  · exact ⟨_, frac_is, fun a b h => if_pos (h.trans h1)⟩
  by_cases h2 : k = 2
  · exact ⟨_, Cm.strC_is.map (fun v : Vl => lowL v.text.data.toList), fun a b h => by rw [if_neg (by omega), if_pos (h.trans h2)]⟩
  by_cases h3 : k = 3
  · exact ⟨_, Cm.subC_is.map (fun v : Vl => flg v.on), fun a b h => by rw [if_neg (by omega), if_neg (by omega), if_pos (h.trans h3)]⟩
  · exact ⟨_, Cm.intC_is.map (fun v : Vl => v.code), fun a b h => by rw [if_neg (by omega), if_neg (by omega), if_neg (by omega)]⟩
theorem inK_is (k : Int) : ∃ g : Vl → Vl → Int, Cm.IsC g ∧ ∀ a b : Vl, a.k = k → inK a b = g a b := by
  unfold inK
  by_cases h0 : k = 0
  · exact ⟨fun _ _ => 0, ⟨fun _ _ => by omega, fun _ _ _ _ _ => by omega⟩, fun a b h => if_pos (h.trans h0)⟩
  · obtain ⟨g, hg, he⟩ := kCmp_is k
    refine ⟨_, hg.or txt_is, fun a b h => ?_⟩
    rw [if_neg (by omega)]
    unfold Cm.orC
    rw [he a b h]
theorem rk_inj {a b : Int} (ha : 0 ≤ a ∧ a ≤ 4) (hb : 0 ≤ b ∧ b ≤ 4) (h : rk a = rk b) : a = b := by
  unfold rk at h
  repeat' split at h
  all_goals omega
abbrev VK := { v : Vl // 0 ≤ v.k ∧ v.k ≤ 4 }
theorem ord_is : Cm.IsC (fun a b : VK => if rk a.1.k ≠ rk b.1.k then Cm.intC (rk a.1.k) (rk b.1.k) else inK a.1 b.1) := by
  refine Cm.glue (fun a : VK => rk a.1.k) (fun a b => inK a.1 b.1) (fun a b h => ?_) (fun a b c h h' => ?_)
  · obtain ⟨g, hg, he⟩ := inK_is a.1.k
    rw [he a.1 b.1 rfl, he b.1 a.1 (rk_inj b.2 a.2 h.symm)]
    exact hg.anti _ _
  · obtain ⟨g, hg, he⟩ := inK_is a.1.k
    have e1 := rk_inj a.2 b.2 h
    rw [he a.1 b.1 rfl, he b.1 c.1 e1.symm, he a.1 c.1 rfl]
    exact hg.trans _ _ _
theorem ordV_eq (a b : VK) : ordV a.1 b.1 = if rk a.1.k ≠ rk b.1.k then Cm.intC (rk a.1.k) (rk b.1.k) else inK a.1 b.1 := by
  unfold ordV
  by_cases h : a.1.k = b.1.k
  · rw [if_neg (fun e => e h), if_neg (c := rk a.1.k ≠ rk b.1.k) (fun e => e (by rw [h]))]
    rfl
  · rw [if_pos h, if_pos (fun e => h (rk_inj a.2 b.2 e))]
/-- What the law asks of three answers. -/
theorem ordV_law {a b c : Vl} (ha : a.ok) (hb : b.ok) (hc : c.ok) : ordV a b = - ordV b a ∧ (0 < ordV a b ∨ 0 < ordV b c ∨ ordV a c ≤ 0) ∧ (ordV a b < 0 ∨ ordV b c < 0 ∨ 0 ≤ ordV a c) := by
  have h := Cm.law ord_is ⟨a, ha.1, ha.2.1⟩ ⟨b, hb.1, hb.2.1⟩ ⟨c, hc.1, hc.2.1⟩
  rw [← ordV_eq, ← ordV_eq, ← ordV_eq, ← ordV_eq] at h
  exact h
theorem orI_zero {x y : Int} (h : orI x y = 0) : x = 0 ∧ y = 0 := by
  unfold orI at h
  split at h <;> omega
theorem intC_zero {x y : Int} (h : Cm.intC x y = 0) : x = y := by
  unfold Cm.intC at h
  split at h
  · omega
  · split at h <;> omega
theorem flg_eq {x y : Bool} (h : flg x - flg y = 0) : x = y := by
  cases x <;> cases y <;> simp_all [flg]
theorem zB_parts {v : Vl} (h : v.zB = true) (h5 : v.k ≤ 4) : (v.k = 1 ∨ (v.num = ⟨#[]⟩ ∧ v.den = ⟨#[]⟩)) ∧ (v.k = 2 ∨ v.text = ⟨#[]⟩) ∧ (v.k = 3 ∨ v.on = false) ∧ (v.k = 4 ∨ v.code = 0) ∧ v.rows = 0 ∧ v.cols = 0 ∧ v.n = 0 := by
  unfold Vl.zB at h
  have h6 : ¬ v.k = 5 := by omega
  simp only [Bool.and_eq_true, Bool.or_eq_true, beq_iff_eq, frSame_iff, Bool.not_eq_true', List.isEmpty_iff, h6, false_or] at h
  obtain ⟨⟨⟨⟨h1, h2⟩, h3⟩, h4⟩, h7⟩ := h
  refine ⟨h1, h2.imp id fun e => ba_ext ?_, h3, h4, h7.1.1, h7.1.2, h7.2⟩
  rw [← Lib.toList_data, e]
/-- Equal place: equal fields. -/
theorem ordV_zero {a b : Vl} (ha : a.ok) (hb : b.ok) (h : ordV a b = 0) : a.k = b.k ∧ a.num = b.num ∧ a.den = b.den ∧ a.text = b.text ∧ a.on = b.on ∧ a.code = b.code ∧ a.rows = b.rows ∧ a.cols = b.cols ∧ a.n = 0 ∧ b.n = 0 := by
  have hk : a.k = b.k := by
    by_cases hk : a.k = b.k
    · exact hk
    · unfold ordV at h
      rw [if_pos hk] at h
      exact rk_inj ⟨ha.1, ha.2.1⟩ ⟨hb.1, hb.2.1⟩ (intC_zero h)
  obtain ⟨a1, a2, a3, a4, a5, a6, a7⟩ := zB_parts ha.2.2.1 ha.2.1
  obtain ⟨b1, b2, b3, b4, b5, b6, b7⟩ := zB_parts hb.2.2.1 hb.2.1
  unfold ordV at h
  rw [if_neg (fun e => e hk)] at h
  have hx : a.k = 0 ∨ (kCmp a b = 0 ∧ a.text = b.text) := by
    by_cases h0 : a.k = 0
    · exact .inl h0
    · rw [if_neg h0] at h
      have := orI_zero h
      exact .inr ⟨this.1, ba_ext (Cm.strC_zero this.2)⟩
  have hnd : a.num = b.num ∧ a.den = b.den := by
    rcases a1 with h1 | h1
    · rcases hx with h0 | ⟨h0, _⟩
      · omega
      · rw [kCmp_1 h1] at h0
        obtain ⟨m, n, d, r⟩ := ha.2.2.2.1 h1
        obtain ⟨m', n', d', r'⟩ := hb.2.2.2.1 (by omega)
        rw [fq_rd r, fq_rd r'] at h0
        unfold Cm.fracC at h0
        have e := Int.sign_eq_zero_iff_zero.1 h0
        dsimp only at e
        have := Nt.Q.same (z := Nt.zi m n) (d := d) (z' := Nt.zi m' n') (d' := d') ⟨r.d0, m, n, d, r, rfl⟩ ⟨r'.d0, m', n', d', r', rfl⟩ (by omega)
        exact ⟨ba_ext this.1, ba_ext this.2⟩
    · rcases b1 with h2 | h2
      · rcases hx with h0 | ⟨h0, _⟩
        · omega
        · obtain ⟨m, n, d, r⟩ := ha.2.2.2.1 (by omega)
          obtain ⟨m', n', d', r'⟩ := hb.2.2.2.1 h2
          rw [kCmp_1 (by omega), fq_rd r, fq_rd r'] at h0
          unfold Cm.fracC at h0
          have e := Int.sign_eq_zero_iff_zero.1 h0
          dsimp only at e
          have := Nt.Q.same (z := Nt.zi m n) (d := d) (z' := Nt.zi m' n') (d' := d') ⟨r.d0, m, n, d, r, rfl⟩ ⟨r'.d0, m', n', d', r', rfl⟩ (by omega)
          exact ⟨ba_ext this.1, ba_ext this.2⟩
      · exact ⟨h1.1.trans h2.1.symm, h1.2.trans h2.2.symm⟩
  have ht : a.text = b.text := by
    rcases hx with h0 | ⟨_, h0⟩
    · rcases a2 with h1 | h1
      · omega
      · rcases b2 with h2 | h2
        · omega
        · exact h1.trans h2.symm
    · exact h0
  have hon : a.on = b.on := by
    rcases a3 with h1 | h1
    · rcases hx with h0 | ⟨h0, _⟩
      · omega
      · rw [kCmp_3 h1] at h0
        exact flg_eq h0
    · rcases b3 with h2 | h2
      · rcases hx with h0 | ⟨h0, _⟩
        · omega
        · rw [kCmp_3 (by omega)] at h0
          exact flg_eq h0
      · exact h1.trans h2.symm
  have hcd : a.code = b.code := by
    rcases a4 with h1 | h1
    · rcases hx with h0 | ⟨h0, _⟩
      · omega
      · rw [kCmp_4 h1] at h0
        exact intC_zero h0
    · rcases b4 with h2 | h2
      · rcases hx with h0 | ⟨h0, _⟩
        · omega
        · rw [kCmp_4 (by omega)] at h0
          exact intC_zero h0
      · omega
  exact ⟨hk, hnd.1, hnd.2, ht, hon, hcd, by omega, by omega, a7, b7⟩
end Go.Proofs.YtllhefjblipddaaGreatDoor

namespace Go.Proofs.YtllhefjblipddaaGreatDoor
open Go.RowKit

/-- The items of a value lie in memory. -/
def Vl.its (W : World) (v : Vl) : Prop := ∃ us : List Vl, us.length = v.n ∧ (∀ u ∈ us, u.sz) ∧ Reads 9 (fun u : Vl => u.cs.toList) W (.slice v.A v.n v.c) us
theorem Vl.its.below {w W : World} {v : Vl} (h : v.its w) (hb : Below w.heap.size w W) : v.its W := by
  obtain ⟨us, h1, h2, h3⟩ := h
  exact ⟨us, h1, h2, h3.below hb⟩
/-- Some answer. -/
def ARet (w : World) (e : Ending) (w' : World) : Prop := ∃ c : Int, e = .returned (.int .i64 c) ∧ Below w.heap.size w w'

set_option maxRecDepth 100000 in
set_option maxHeartbeats 4000000 in
theorem array_t (v : Vl) (w : World) (he : VEnv w) (hi : v.its w) : Calls Tryz.prog 120 #[v.v] w (ARet w) := by
  obtain ⟨us, hn, hs, hv⟩ := hi
  obtain ⟨k, num, den, text, on, code, rows, cols, A, n, c⟩ := v
  dsimp only at hn hv
  subst hn
  have HL0 := Lib.hid ((Loc.start w).alloc' rfl 27 #[.int .i64 k, .string num, .string den, .string text, .bool on, .int .i64 code, .int .i64 rows, .int .i64 cols, .slice A us.length c])
  have HNA := Lib.hid fun (u : Vl) W (hb : Below w.heap.size w W) (hk : u.k ≠ 5) (hm : u ∈ us) => check_na u W (he.below hb) hk (hs u hm).s1 (hs u hm).s2 (hs u hm).s3
  have HV := Lib.hid hv
  clear he hs hv
  show Calls Tryz.prog 120 #[.agg #[.int .i64 k, .string num, .string den, .string text, .bool on, .int .i64 code, .int .i64 rows, .int .i64 cols, .slice A us.length c]] w _
  by_cases hr : 1 ≤ rows ∧ rows ≤ 100000 ∧ 1 ≤ cols ∧ cols ≤ 100000
  case neg =>
    rcases (show rows < 1 ∨ (1 ≤ rows ∧ 100000 < rows) ∨ ((1 ≤ rows ∧ rows ≤ 100000) ∧ cols < 1) ∨ ((1 ≤ rows ∧ rows ≤ 100000) ∧ 1 ≤ cols ∧ 100000 < cols) by omega) with h1 | ⟨h1, h2⟩ | ⟨⟨h1, h2⟩, h3⟩ | ⟨⟨h1, h2⟩, h3, h4⟩
    all_goals
      clear hr
      go_enter Tryz.func120, Tryz.ntmps120
      go_wp2_with fail
      go_ret
      exact ⟨_, rfl, HL0.out.bel⟩
  obtain ⟨r1, r2, r3, r4⟩ := hr
  have m1 : 0 ≤ rows * cols := Int.mul_nonneg (by omega) (by omega)
  have m2 : rows * cols ≤ 10000000000 := Int.le_trans (Int.mul_le_mul r2 r4 (by omega) (by omega)) (by decide)
  by_cases h2 : rows * cols ≤ 100000
  case neg =>
    go_enter Tryz.func120, Tryz.ntmps120
    go_wp2_with fail
    go_ret
    exact ⟨_, rfl, HL0.out.bel⟩
  by_cases h3 : (us.length : Int) = rows * cols
  case neg =>
    go_enter Tryz.func120, Tryz.ntmps120
    go_wp2_with fail
    go_ret
    exact ⟨_, rfl, HL0.out.bel⟩
  have hnl : us.length ≤ 100000 := by omega
  have hb3 : ((us.length : Int) != rows * cols) = false := by rw [bne_eq_false_iff_eq]; exact h3
  clear h3
  go_enter Tryz.func120, Tryz.ntmps120
  go_wp2_with fail
  go_loopw [42] (fun i wr => ∃ j : Nat, j ≤ us.length ∧ i = .int .i64 j ∧ Below w.heap.size w wr) (fun i _ => us.length - (intOf i).toNat)
  case atStart => exact ⟨0, Nat.zero_le _, rfl, HL0.out.bel⟩
  case round =>
    obtain ⟨i, hi, rfl, hb⟩ := hrel
    clear hb3 m1 m2 r1 r2 r3 r4 h2
    have HB := Lib.hid hb
    clear hb
    by_cases hlt : i < us.length
    · skip
      obtain ⟨u, htk⟩ : ∃ x, x = us[i] := ⟨_, rfl⟩
      obtain ⟨A', c', e', hc', -, hrd⟩ := (HV.out.below HB.out)
      injection e' with e1 _ e3
      subst e1 e3
      obtain ⟨b, p, rfl, hblt, hcell⟩ := hrd (by omega)
      have HM := Lib.hid (show u ∈ us from by rw [htk]; exact List.getElem_mem hlt)
      obtain ⟨uk, unum, uden, utext, uon, ucode, urows, ucols, uA, un, uc⟩ := u
      have g0 : wr.cell? ⟨b, p + i * 9, none⟩ = some (.int .i64 uk) := by have := hcell i hlt 0 (by decide); rw [← htk] at this; exact this
      have g1 : wr.cell? ⟨b, p + i * 9 + 1, none⟩ = some (.string unum) := by have := hcell i hlt 1 (by decide); rw [← htk] at this; exact this
      have g2 : wr.cell? ⟨b, p + i * 9 + 2, none⟩ = some (.string uden) := by have := hcell i hlt 2 (by decide); rw [← htk] at this; exact this
      have g3 : wr.cell? ⟨b, p + i * 9 + 3, none⟩ = some (.string utext) := by have := hcell i hlt 3 (by decide); rw [← htk] at this; exact this
      have g4 : wr.cell? ⟨b, p + i * 9 + 4, none⟩ = some (.bool uon) := by have := hcell i hlt 4 (by decide); rw [← htk] at this; exact this
      have g5 : wr.cell? ⟨b, p + i * 9 + 5, none⟩ = some (.int .i64 ucode) := by have := hcell i hlt 5 (by decide); rw [← htk] at this; exact this
      have g6 : wr.cell? ⟨b, p + i * 9 + 6, none⟩ = some (.int .i64 urows) := by have := hcell i hlt 6 (by decide); rw [← htk] at this; exact this
      have g7 : wr.cell? ⟨b, p + i * 9 + 7, none⟩ = some (.int .i64 ucols) := by have := hcell i hlt 7 (by decide); rw [← htk] at this; exact this
      have g8 : wr.cell? ⟨b, p + i * 9 + 8, none⟩ = some (.slice uA un uc) := by have := hcell i hlt 8 (by decide); rw [← htk] at this; exact this
      clear hcell htk
      by_cases hk5 : uk = 5
      · subst hk5
        go_wp2_with fail
        go_ret
        exact ⟨_, rfl, HB.out.alloc HB.out.size _⟩
      · have HC := Lib.hid (show ∀ W, Below w.heap.size w W → Calls Tryz.prog 71 #[.agg #[.int .i64 uk, .string unum, .string uden, .string utext, .bool uon, .int .i64 ucode, .int .i64 urows, .int .i64 ucols, .slice uA un uc]] W (ARet W) from fun W hW => (HNA.out ⟨uk, unum, uden, utext, uon, ucode, urows, ucols, uA, un, uc⟩ W hW hk5 HM.out).mono fun e w' ⟨cc, h1, _, h2⟩ => ⟨cc, h1, h2⟩)
        have HBA := Lib.hid (HB.out.alloc HB.out.size (.cells #[.int .i64 uk, .string unum, .string uden, .string utext, .bool uon, .int .i64 ucode, .int .i64 urows, .int .i64 ucols, .slice uA un uc] 27))
        clear HV HM HNA HB
        go_wp2_with (go_at_call 71; (with_reducible refine (HC.out _ HBA.out).mono ?_); rintro e w1 ⟨cc, rfl, hb⟩; have HB1 := Lib.hid (below_tr HBA.out hb); clear hb)
        all_goals first
          | (go_ret; exact ⟨_, rfl, HB1.out⟩)
          | exact ⟨⟨i + 1, by omega, by go_num, HB1.out⟩, by simp [intOf]; omega⟩
    · go_wp2_with fail
      go_ret
      exact ⟨_, rfl, HB.out⟩
/-- Check answers, whatever the value. -/
theorem check_arr (v : Vl) (w : World) (he : VEnv w) (hi : v.its w) (h5 : v.k = 5) (sz : v.sz) : Calls Tryz.prog 71 #[v.v] w (ARet w) := by
  have HA := Lib.hid fun W (hb : Below w.heap.size w W) => array_t v W (he.below hb) (hi.below hb)
  obtain ⟨k, num, den, text, on, code, rows, cols, A, n, c⟩ := v
  dsimp only at h5
  subst h5
  have HA := Lib.hid (show ∀ W, Below w.heap.size w W → Calls Tryz.prog 120 #[.agg #[.int .i64 5, .string num, .string den, .string text, .bool on, .int .i64 code, .int .i64 rows, .int .i64 cols, .slice A n c]] W (ARet W) from HA.out)
  have HL0 := Lib.hid ((Loc.start w).alloc' rfl 27 #[.int .i64 5, .string num, .string den, .string text, .bool on, .int .i64 code, .int .i64 rows, .int .i64 cols, .slice A n c])
  show Calls Tryz.prog 71 #[.agg #[.int .i64 5, .string num, .string den, .string text, .bool on, .int .i64 code, .int .i64 rows, .int .i64 cols, .slice A n c]] w (ARet w)
  cases hz : Vl.zB ⟨5, num, den, text, on, code, rows, cols, A, n, c⟩ with
  | false =>
    have HZ := Lib.hid (show ∀ W, Calls Tryz.prog 116 #[.agg #[.int .i64 5, .string num, .string den, .string text, .bool on, .int .i64 code, .int .i64 rows, .int .i64 cols, .slice A n c]] W fun e w' => e = .returned (.int .i64 4) ∧ Below W.heap.size W w' from fun W => by
      have := zeros_any ⟨5, num, den, text, on, code, rows, cols, A, n, c⟩ W (show (0 : Int) ≤ 5 by decide) (show (5 : Int) ≤ 5 by decide)
      rw [hz] at this
      exact this)
    clear hz he hi sz
    go_enter Tryz.func71, Tryz.ntmps71
    go_wp2_with (go_at_call 116; (with_reducible refine (HZ.out _).mono ?_); rintro e w1 ⟨rfl, hb⟩; have HL1 := Lib.hid (HL0.out.step hb); clear hb)
    go_ret
    exact ⟨4, rfl, HL1.out.bel⟩
  | true =>
    have HZ := Lib.hid (show ∀ W, Calls Tryz.prog 116 #[.agg #[.int .i64 5, .string num, .string den, .string text, .bool on, .int .i64 code, .int .i64 rows, .int .i64 cols, .slice A n c]] W fun e w' => e = .returned (.int .i64 0) ∧ Below W.heap.size W w' from fun W => by
      have := zeros_any ⟨5, num, den, text, on, code, rows, cols, A, n, c⟩ W (show (0 : Int) ≤ 5 by decide) (show (5 : Int) ≤ 5 by decide)
      rw [hz] at this
      exact this)
    clear hz he hi sz
    go_enter Tryz.func71, Tryz.ntmps71
    go_wp2_with (first
      | (go_at_call 116; (with_reducible refine (HZ.out _).mono ?_); rintro e w1 ⟨rfl, hb⟩; have HL1 := Lib.hid (HL0.out.step hb); have hk0 := ((HL1.out.blk (g := w.heap.size) (t := 27) (cs := #[.int .i64 5, .string num, .string den, .string text, .bool on, .int .i64 code, .int .i64 rows, .int .i64 cols, .slice A n c]) (by simp)).cell 0); have hk1 := ((HL1.out.blk (g := w.heap.size) (t := 27) (cs := #[.int .i64 5, .string num, .string den, .string text, .bool on, .int .i64 code, .int .i64 rows, .int .i64 cols, .slice A n c]) (by simp)).cell 1); have hk2 := ((HL1.out.blk (g := w.heap.size) (t := 27) (cs := #[.int .i64 5, .string num, .string den, .string text, .bool on, .int .i64 code, .int .i64 rows, .int .i64 cols, .slice A n c]) (by simp)).cell 2); have hk3 := ((HL1.out.blk (g := w.heap.size) (t := 27) (cs := #[.int .i64 5, .string num, .string den, .string text, .bool on, .int .i64 code, .int .i64 rows, .int .i64 cols, .slice A n c]) (by simp)).cell 3); have hk4 := ((HL1.out.blk (g := w.heap.size) (t := 27) (cs := #[.int .i64 5, .string num, .string den, .string text, .bool on, .int .i64 code, .int .i64 rows, .int .i64 cols, .slice A n c]) (by simp)).cell 4); have hk5 := ((HL1.out.blk (g := w.heap.size) (t := 27) (cs := #[.int .i64 5, .string num, .string den, .string text, .bool on, .int .i64 code, .int .i64 rows, .int .i64 cols, .slice A n c]) (by simp)).cell 5); have hk6 := ((HL1.out.blk (g := w.heap.size) (t := 27) (cs := #[.int .i64 5, .string num, .string den, .string text, .bool on, .int .i64 code, .int .i64 rows, .int .i64 cols, .slice A n c]) (by simp)).cell 6); have hk7 := ((HL1.out.blk (g := w.heap.size) (t := 27) (cs := #[.int .i64 5, .string num, .string den, .string text, .bool on, .int .i64 code, .int .i64 rows, .int .i64 cols, .slice A n c]) (by simp)).cell 7); have hk8 := ((HL1.out.blk (g := w.heap.size) (t := 27) (cs := #[.int .i64 5, .string num, .string den, .string text, .bool on, .int .i64 code, .int .i64 rows, .int .i64 cols, .slice A n c]) (by simp)).cell 8); clear hb)
      | (go_at_call 120; (with_reducible refine (HA.out _ HL1.out.bel).mono ?_); rintro e w2 ⟨r, rfl, hb⟩; have HL2 := Lib.hid (HL1.out.step hb); clear hb))
    go_ret
    exact ⟨r, rfl, HL2.out.bel⟩
theorem check_all (v : Vl) (w : World) (he : VEnv w) (hi : v.its w) (sz : v.sz) : Calls Tryz.prog 71 #[v.v] w fun e w' => ∃ c : Int, e = .returned (.int .i64 c) ∧ (v.k ≠ 5 → c = 0 → v.ok) ∧ Below w.heap.size w w' := by
  by_cases h : v.k = 5
  · exact (check_arr v w he hi h sz).mono fun e w' ⟨c, h1, h2⟩ => ⟨c, h1, fun h' => absurd h h', h2⟩
  · exact (check_na v w he h sz.s1 sz.s2 sz.s3).mono fun e w' ⟨c, h1, h2, h3⟩ => ⟨c, h1, fun _ => h2.1, h3⟩
end Go.Proofs.YtllhefjblipddaaGreatDoor

namespace Go.Proofs.YtllhefjblipddaaGreatDoor
open Go.RowKit

/-- An array whose items are good. -/
def GoodArr (v : Vl) (us : List Vl) : Prop := us.length = v.n ∧ (∀ u ∈ us, u.sz) ∧ (∀ u ∈ us, u.ok) ∧ 1 ≤ v.rows ∧ v.rows ≤ 100000 ∧ 1 ≤ v.cols ∧ v.cols ≤ 100000 ∧ v.rows * v.cols ≤ 100000 ∧ (us.length : Int) = v.rows * v.cols
set_option maxRecDepth 100000 in
set_option maxHeartbeats 4000000 in
theorem array_ok (v : Vl) (w : World) (he : VEnv w) (us : List Vl) (hg : GoodArr v us) (hv : Reads 9 (fun u : Vl => u.cs.toList) w (.slice v.A v.n v.c) us) : Calls Tryz.prog 120 #[v.v] w fun e w' => e = .returned (.int .i64 0) ∧ Below w.heap.size w w' := by
  obtain ⟨hn, hs, hok, r1, r2, r3, r4, h2, h3⟩ := hg
  obtain ⟨k, num, den, text, on, code, rows, cols, A, n, c⟩ := v
  dsimp only at hn hv r1 r2 r3 r4 h2 h3
  subst hn
  have HL0 := Lib.hid ((Loc.start w).alloc' rfl 27 #[.int .i64 k, .string num, .string den, .string text, .bool on, .int .i64 code, .int .i64 rows, .int .i64 cols, .slice A us.length c])
  have HOK := Lib.hid hok
  have HNA := Lib.hid fun (u : Vl) W (hb : Below w.heap.size w W) (hk : u.k ≠ 5) (hm : u ∈ us) => check_na u W (he.below hb) hk (hs u hm).s1 (hs u hm).s2 (hs u hm).s3
  have HV := Lib.hid hv
  clear he hs hv hok
  show Calls Tryz.prog 120 #[.agg #[.int .i64 k, .string num, .string den, .string text, .bool on, .int .i64 code, .int .i64 rows, .int .i64 cols, .slice A us.length c]] w _
  have m1 : 0 ≤ rows * cols := Int.mul_nonneg (by omega) (by omega)
  have m2 : rows * cols ≤ 10000000000 := Int.le_trans (Int.mul_le_mul r2 r4 (by omega) (by omega)) (by decide)
  have hnl : us.length ≤ 100000 := by omega
  have hb3 : ((us.length : Int) != rows * cols) = false := by rw [bne_eq_false_iff_eq]; exact h3
  clear h3
  go_enter Tryz.func120, Tryz.ntmps120
  go_wp2_with fail
  go_loopw [42] (fun i wr => ∃ j : Nat, j ≤ us.length ∧ i = .int .i64 j ∧ Below w.heap.size w wr) (fun i _ => us.length - (intOf i).toNat)
  case atStart => exact ⟨0, Nat.zero_le _, rfl, HL0.out.bel⟩
  case round =>
    obtain ⟨i, hi, rfl, hb⟩ := hrel
    clear hb3 m1 m2 r1 r2 r3 r4 h2
    have HB := Lib.hid hb
    clear hb
    by_cases hlt : i < us.length
    · obtain ⟨u, htk⟩ : ∃ x, x = us[i] := ⟨_, rfl⟩
      obtain ⟨A', c', e', hc', -, hrd⟩ := (HV.out.below HB.out)
      injection e' with e1 _ e3
      subst e1 e3
      obtain ⟨b, p, rfl, hblt, hcell⟩ := hrd (by omega)
      have HM := Lib.hid (show u ∈ us from by rw [htk]; exact List.getElem_mem hlt)
      obtain ⟨uk, unum, uden, utext, uon, ucode, urows, ucols, uA, un, uc⟩ := u
      have g0 : wr.cell? ⟨b, p + i * 9, none⟩ = some (.int .i64 uk) := by have := hcell i hlt 0 (by decide); rw [← htk] at this; exact this
      have g1 : wr.cell? ⟨b, p + i * 9 + 1, none⟩ = some (.string unum) := by have := hcell i hlt 1 (by decide); rw [← htk] at this; exact this
      have g2 : wr.cell? ⟨b, p + i * 9 + 2, none⟩ = some (.string uden) := by have := hcell i hlt 2 (by decide); rw [← htk] at this; exact this
      have g3 : wr.cell? ⟨b, p + i * 9 + 3, none⟩ = some (.string utext) := by have := hcell i hlt 3 (by decide); rw [← htk] at this; exact this
      have g4 : wr.cell? ⟨b, p + i * 9 + 4, none⟩ = some (.bool uon) := by have := hcell i hlt 4 (by decide); rw [← htk] at this; exact this
      have g5 : wr.cell? ⟨b, p + i * 9 + 5, none⟩ = some (.int .i64 ucode) := by have := hcell i hlt 5 (by decide); rw [← htk] at this; exact this
      have g6 : wr.cell? ⟨b, p + i * 9 + 6, none⟩ = some (.int .i64 urows) := by have := hcell i hlt 6 (by decide); rw [← htk] at this; exact this
      have g7 : wr.cell? ⟨b, p + i * 9 + 7, none⟩ = some (.int .i64 ucols) := by have := hcell i hlt 7 (by decide); rw [← htk] at this; exact this
      have g8 : wr.cell? ⟨b, p + i * 9 + 8, none⟩ = some (.slice uA un uc) := by have := hcell i hlt 8 (by decide); rw [← htk] at this; exact this
      clear hcell htk
      have hok := HOK.out _ HM.out
      have hk5 : uk ≠ 5 := by have h4 : uk ≤ 4 := hok.2.1; omega
      have HC := Lib.hid (show ∀ W, Below w.heap.size w W → Calls Tryz.prog 71 #[.agg #[.int .i64 uk, .string unum, .string uden, .string utext, .bool uon, .int .i64 ucode, .int .i64 urows, .int .i64 ucols, .slice uA un uc]] W fun e w' => e = .returned (.int .i64 0) ∧ Below W.heap.size W w' from fun W hW => (HNA.out ⟨uk, unum, uden, utext, uon, ucode, urows, ucols, uA, un, uc⟩ W hW hk5 HM.out).mono fun e w' ⟨c, h1, h2, h3⟩ => ⟨by rw [h1, h2.2 hok], h3⟩)
      have HBA := Lib.hid (HB.out.alloc HB.out.size (.cells #[.int .i64 uk, .string unum, .string uden, .string utext, .bool uon, .int .i64 ucode, .int .i64 urows, .int .i64 ucols, .slice uA un uc] 27))
      clear HV HM HNA HB hok
      go_wp2_with (go_at_call 71; (with_reducible refine (HC.out _ HBA.out).mono ?_); rintro e w1 ⟨rfl, hb⟩; have HB1 := Lib.hid (below_tr HBA.out hb); clear hb)
      go_roundw
      case rel => exact ⟨i + 1, by omega, by go_num, HB1.out⟩
      case measure => simp [intOf]; omega
    · go_wp2_with fail
      go_ret
      exact ⟨rfl, HB.out⟩
set_option maxRecDepth 100000 in
set_option maxHeartbeats 4000000 in
theorem check_ok (v : Vl) (w : World) (he : VEnv w) (us : List Vl) (h5 : v.k = 5) (hz : v.zB = true) (hg : GoodArr v us) (hv : Reads 9 (fun u : Vl => u.cs.toList) w (.slice v.A v.n v.c) us) : Calls Tryz.prog 71 #[v.v] w fun e w' => e = .returned (.int .i64 0) ∧ Below w.heap.size w w' := by
  have HA := Lib.hid fun W (hb : Below w.heap.size w W) => array_ok v W (he.below hb) us hg (hv.below hb)
  obtain ⟨k, num, den, text, on, code, rows, cols, A, n, c⟩ := v
  dsimp only at h5
  subst h5
  have HA := Lib.hid (show ∀ W, Below w.heap.size w W → Calls Tryz.prog 120 #[.agg #[.int .i64 5, .string num, .string den, .string text, .bool on, .int .i64 code, .int .i64 rows, .int .i64 cols, .slice A n c]] W _ from HA.out)
  have HL0 := Lib.hid ((Loc.start w).alloc' rfl 27 #[.int .i64 5, .string num, .string den, .string text, .bool on, .int .i64 code, .int .i64 rows, .int .i64 cols, .slice A n c])
  show Calls Tryz.prog 71 #[.agg #[.int .i64 5, .string num, .string den, .string text, .bool on, .int .i64 code, .int .i64 rows, .int .i64 cols, .slice A n c]] w _
  have HZ := Lib.hid (show ∀ W, Calls Tryz.prog 116 #[.agg #[.int .i64 5, .string num, .string den, .string text, .bool on, .int .i64 code, .int .i64 rows, .int .i64 cols, .slice A n c]] W fun e w' => e = .returned (.int .i64 0) ∧ Below W.heap.size W w' from fun W => by
    have := zeros_any ⟨5, num, den, text, on, code, rows, cols, A, n, c⟩ W (show (0 : Int) ≤ 5 by decide) (show (5 : Int) ≤ 5 by decide)
    rw [hz] at this
    exact this)
  clear hz he hg hv
  go_enter Tryz.func71, Tryz.ntmps71
  go_wp2_with (first
    | (go_at_call 116; (with_reducible refine (HZ.out _).mono ?_); rintro e w1 ⟨rfl, hb⟩; have HL1 := Lib.hid (HL0.out.step hb); have hk0 := ((HL1.out.blk (g := w.heap.size) (t := 27) (cs := #[.int .i64 5, .string num, .string den, .string text, .bool on, .int .i64 code, .int .i64 rows, .int .i64 cols, .slice A n c]) (by simp)).cell 0); have hk1 := ((HL1.out.blk (g := w.heap.size) (t := 27) (cs := #[.int .i64 5, .string num, .string den, .string text, .bool on, .int .i64 code, .int .i64 rows, .int .i64 cols, .slice A n c]) (by simp)).cell 1); have hk2 := ((HL1.out.blk (g := w.heap.size) (t := 27) (cs := #[.int .i64 5, .string num, .string den, .string text, .bool on, .int .i64 code, .int .i64 rows, .int .i64 cols, .slice A n c]) (by simp)).cell 2); have hk3 := ((HL1.out.blk (g := w.heap.size) (t := 27) (cs := #[.int .i64 5, .string num, .string den, .string text, .bool on, .int .i64 code, .int .i64 rows, .int .i64 cols, .slice A n c]) (by simp)).cell 3); have hk4 := ((HL1.out.blk (g := w.heap.size) (t := 27) (cs := #[.int .i64 5, .string num, .string den, .string text, .bool on, .int .i64 code, .int .i64 rows, .int .i64 cols, .slice A n c]) (by simp)).cell 4); have hk5 := ((HL1.out.blk (g := w.heap.size) (t := 27) (cs := #[.int .i64 5, .string num, .string den, .string text, .bool on, .int .i64 code, .int .i64 rows, .int .i64 cols, .slice A n c]) (by simp)).cell 5); have hk6 := ((HL1.out.blk (g := w.heap.size) (t := 27) (cs := #[.int .i64 5, .string num, .string den, .string text, .bool on, .int .i64 code, .int .i64 rows, .int .i64 cols, .slice A n c]) (by simp)).cell 6); have hk7 := ((HL1.out.blk (g := w.heap.size) (t := 27) (cs := #[.int .i64 5, .string num, .string den, .string text, .bool on, .int .i64 code, .int .i64 rows, .int .i64 cols, .slice A n c]) (by simp)).cell 7); have hk8 := ((HL1.out.blk (g := w.heap.size) (t := 27) (cs := #[.int .i64 5, .string num, .string den, .string text, .bool on, .int .i64 code, .int .i64 rows, .int .i64 cols, .slice A n c]) (by simp)).cell 8); clear hb)
    | (go_at_call 120; (with_reducible refine (HA.out _ HL1.out.bel).mono ?_); rintro e w2 ⟨rfl, hb⟩; have HL2 := Lib.hid (HL1.out.step hb); clear hb))
  go_ret
  exact ⟨rfl, HL2.out.bel⟩
end Go.Proofs.YtllhefjblipddaaGreatDoor

namespace Go.Proofs.YtllhefjblipddaaGreatDoor
open Go.RowKit

theorem eqfunc_0 (A1 A2 : Option Addr) (c1 c2 : Nat) (w : World) :
    Calls Tryz.prog 13 #[.slice A1 0 c1, .slice A2 0 c2, .func (.func 9) #[] #[]] w fun e w' => e = .returned (.bool true) ∧ w = w' := by
  go_enter Tryz.func13, Tryz.ntmps13
  go_wp2
  go_loop [17] (fun i => i = .int .i64 0) (fun _ => 0)
  case atStart => rfl
  case round =>
    obtain rfl := hrel
    go_wp2
    go_ret
    exact ⟨rfl, rfl⟩

end Go.Proofs.YtllhefjblipddaaGreatDoor

namespace Go.Proofs.YtllhefjblipddaaGreatDoor
open Go.RowKit

def csV (u : Vl) : List Value := u.cs.toList
/-- A key of one item is read. -/
def KR (W : World) (x : SV) (u : Vl) : Prop := Reads 9 csV W (sv3 x) [u]
theorem KR.below {w W : World} {x : SV} {u : Vl} (h : KR w x u) (hb : Below w.heap.size w W) : KR W x u := Reads.below h hb
/-- Its cells. -/
theorem KR.nine {W : World} {x : SV} {u : Vl} (h : KR W x u) : ∃ b o c, x = (some ⟨b, o, none⟩, 1, c) ∧ b < W.heap.size ∧
    W.cell? ⟨b, o, none⟩ = some (.int .i64 u.k) ∧ W.cell? ⟨b, o + 1, none⟩ = some (.string u.num) ∧ W.cell? ⟨b, o + 2, none⟩ = some (.string u.den) ∧ W.cell? ⟨b, o + 3, none⟩ = some (.string u.text) ∧ W.cell? ⟨b, o + 4, none⟩ = some (.bool u.on) ∧ W.cell? ⟨b, o + 5, none⟩ = some (.int .i64 u.code) ∧ W.cell? ⟨b, o + 6, none⟩ = some (.int .i64 u.rows) ∧ W.cell? ⟨b, o + 7, none⟩ = some (.int .i64 u.cols) ∧ W.cell? ⟨b, o + 8, none⟩ = some (.slice u.A u.n u.c) := by
  obtain ⟨A, c, e, -, -, h1⟩ := h
  obtain ⟨b, o, e2, hb, hc⟩ := h1 (by simp)
  obtain ⟨x1, x2, x3⟩ := x
  injection e with e3 e4 e5
  simp only [] at e3 e4 e5
  subst e3 e5
  subst e4
  refine ⟨b, o, _, by rw [e2]; rfl, hb, ?_⟩
  have hc' : ∀ j, j < 9 → W.cell? ⟨b, o + j, none⟩ = (csV u)[j]? := fun j hj => by
    have := hc 0 (by simp) j hj
    rw [show o + (0 * 9 + j) = o + j by omega] at this
    exact this
  exact ⟨hc' 0 (by decide), hc' 1 (by decide), hc' 2 (by decide), hc' 3 (by decide), hc' 4 (by decide), hc' 5 (by decide), hc' 6 (by decide), hc' 7 (by decide), hc' 8 (by decide)⟩
end Go.Proofs.YtllhefjblipddaaGreatDoor

namespace Go.Proofs.YtllhefjblipddaaGreatDoor
open Go.RowKit

theorem tval_ok {t : ByteArray} (h : txtE t = 0) : Vl.ok ⟨2, ⟨#[]⟩, ⟨#[]⟩, t, false, 0, 0, 0, none, 0, 0⟩ :=
  ⟨show (0 : Int) ≤ 2 by decide, show (2 : Int) ≤ 4 by decide, by simp [Vl.zB, Lib.toList_data, frSame], fun h => absurd (show (2 : Int) = 1 from h) (by decide), fun _ => h, fun h => absurd (show (2 : Int) = 4 from h) (by decide)⟩
set_option maxRecDepth 100000 in
set_option maxHeartbeats 1000000 in
theorem text_t (t : ByteArray) (w : World) (he : VEnv w) (h : txtE t = 0) (hz : t.size ≤ 9223372036854775807) :
    Calls Tryz.prog 179 #[.string t] w fun e w' => e = .returned (.agg #[.int .i64 2, .string ⟨#[]⟩, .string ⟨#[]⟩, .string t, .bool false, .int .i64 0, .int .i64 0, .int .i64 0, .slice none 0 0]) ∧ Below w.heap.size w w' := by
  have HV := Lib.hid (show ∀ W, Below w.heap.size w W → Calls Tryz.prog 23 #[.agg #[.int .i64 2, .string ⟨#[]⟩, .string ⟨#[]⟩, .string t, .bool false, .int .i64 0, .int .i64 0, .int .i64 0, .slice none 0 0]] W fun e w' => e = .returned (.agg #[.int .i64 2, .string ⟨#[]⟩, .string ⟨#[]⟩, .string t, .bool false, .int .i64 0, .int .i64 0, .int .i64 0, .slice none 0 0]) ∧ Below W.heap.size W w' from fun W hW => valid_t ⟨2, ⟨#[]⟩, ⟨#[]⟩, t, false, 0, 0, 0, none, 0, 0⟩ W (he.below hW) (tval_ok h) (show (⟨#[]⟩ : ByteArray).size ≤ 9223372036854775807 by decide) (show (⟨#[]⟩ : ByteArray).size ≤ 9223372036854775807 by decide) hz)
  clear he h hz
  have HL0 := Lib.hid ((Loc.start w).alloc' rfl 27 #[.int .i64 0, .string ⟨#[]⟩, .string ⟨#[]⟩, .string ⟨#[]⟩, .bool false, .int .i64 0, .int .i64 0, .int .i64 0, .slice none 0 0])
  go_enter Tryz.func179, Tryz.ntmps179
  go_wp2_with (go_at_call 23; (with_reducible refine (HV.out _ HL0.out.bel).mono ?_); rintro e w1 ⟨rfl, hb⟩; have HL1 := Lib.hid (HL0.out.step hb); have bz := HL1.out.blk (g := w.heap.size) (t := 27) (cs := #[.int .i64 0, .string ⟨#[]⟩, .string ⟨#[]⟩, .string ⟨#[]⟩, .bool false, .int .i64 0, .int .i64 0, .int .i64 0, .slice none 0 0]) (by simp); obtain ⟨z0, z1, z2, z3, z4, z5, z6, z7, z8⟩ := bz.nine; obtain ⟨f0, f1, f2, f3, f4, f5, f6, f7, f8⟩ := bz.ninef; obtain ⟨bs, c0, c1, c2, c3, c4, c5, c6, c7, c8⟩ := bz.nine_set (.int .i64 2) (.string ⟨#[]⟩) (.string ⟨#[]⟩) (.string t) (.bool false) (.int .i64 0) (.int .i64 0) (.int .i64 0) (.slice none 0 0); have BS := Lib.hid bs; clear bz bs hb)
  obtain ⟨q0, q1, q2, q3, q4, q5, q6, q7, q8⟩ := BS.out.nine
  refine bodyPost_ret (v := .agg #[.int .i64 2, .string ⟨#[]⟩, .string ⟨#[]⟩, .string t, .bool false, .int .i64 0, .int .i64 0, .int .i64 0, .slice none 0 0]) (by simp [results, Tryz.results179, go_sem, q0, q1, q2, q3, q4, q5, q6, q7, q8]) rfl ⟨rfl, ?_⟩
  exact below_nine HL1.out.bel (by omega) _ _ _ _ _ _ _ _ _

/-- A whole number's text. -/
def nt (n : Nat) : ByteArray := ⟨(Lib.decDigits n).toArray⟩
def one1 : ByteArray := ⟨#[49]⟩
/-- A whole number as a value. -/
def nV (n : Nat) : Vl := ⟨1, nt n, ⟨#[49]⟩, ⟨#[]⟩, false, 0, 0, 0, none, 0, 0⟩
def tV (t : ByteArray) : Vl := ⟨2, ⟨#[]⟩, ⟨#[]⟩, t, false, 0, 0, 0, none, 0, 0⟩
def zV : Vl := ⟨0, ⟨#[]⟩, ⟨#[]⟩, ⟨#[]⟩, false, 0, 0, 0, none, 0, 0⟩
theorem nt_list (n : Nat) : (nt n).data.toList = Lib.decDigits n := rfl
theorem nt_size (n : Nat) (h : n < 100000000000000000) : (nt n).size ≤ 17 := Nt.dd_le (k := 16) h
theorem pv_rd (N : Nat) (h : N < 100000000000000000) : Nt.Rd (Lib.decDigits N) [49] false N 1 := by
  have hl : (Lib.decDigits N).length ≤ 17 := Nt.dd_le (k := 16) h
  exact ⟨rfl, by rw [Lib.decDigits_one (by decide)]; rfl, by decide, fun _ => rfl, by omega, by rw [Lib.decDigits_one (by decide)]; simp, Nat.gcd_one_right _⟩
theorem pv_qk (N : Nat) (h : N < 100000000000000000) : Nt.Qk (Lib.decDigits N) [49] N 1 40 :=
  Nt.Rd.qk (pv_rd N h) (by have : (Lib.decDigits N).length ≤ 17 := Nt.dd_le (k := 16) h; omega) (by simp)
theorem nt_inj {M N : Nat} (hM : M < 100000000000000000) (hN : N < 100000000000000000) (h : nt M = nt N) : M = N := by
  have e : Lib.decDigits M = Lib.decDigits N := by rw [← nt_list, ← nt_list, h]
  have := Nt.dval_dd M
  rw [e, Nt.dval_dd] at this
  exact this.symm
theorem nV_ok (n : Nat) (h : n < 100000000000000000) : (nV n).ok := nval_ok ⟨_, _, _, pv_rd n h⟩
set_option maxRecDepth 100000 in
/-- Add of whole numbers. -/
theorem add_nat (M N : Nat) (w : World) (hM : M < 10000000000000000) (hN : N < 10000000000000000) (htab : Lib.TabIs Tryz.prog w "internal/strconv.uint64pow10" .u64 Lib.pow10Tab) :
    Calls Tryz.prog 231 #[.agg #[.string (nt M), .string ⟨#[49]⟩], .agg #[.string (nt N), .string ⟨#[49]⟩]] w fun e w' => e = .returned (.tuple #[.agg #[.string (nt (M + N)), .string ⟨#[49]⟩], .int .i64 0]) ∧ Below w.heap.size w w' :=
  (add_q (nt M) ⟨#[49]⟩ (nt N) ⟨#[49]⟩ M N 1 1 40 40 w (pv_qk M (by omega)) (pv_qk N (by omega)) (by decide) htab).mono fun e w' ⟨sn, sd, h1, h2, h3⟩ => by
    have hq := pv_qk (M + N) (by omega)
    obtain ⟨e1, e2⟩ := h2.q.same hq.q (by push_cast; simp)
    obtain rfl : sn = nt (M + N) := ba_ext e1
    obtain rfl : sd = ⟨#[49]⟩ := ba_ext e2
    exact ⟨h1, h3⟩
theorem of_t (n : Nat) (w : World) (hn : n ≤ 1000) (htab : Lib.TabIs Tryz.prog w "internal/strconv.uint64pow10" .u64 Lib.pow10Tab) :
    Calls Tryz.prog 18 #[.int .i64 (n : Int)] w fun e w' => e = .returned (.agg #[.string (nt n), .string ⟨#[49]⟩]) ∧ Below w.heap.size w w' :=
  (of_nat n w hn htab).mono fun e w' ⟨t, h1, h2, h3⟩ => by
    obtain rfl : t = nt n := ba_ext h2
    exact ⟨h1, h3⟩
theorem num_nat (n : Nat) (w : World) (he : VEnv w) (h : n < 100000000000000000) :
    Calls Tryz.prog 15 #[.agg #[.string (nt n), .string ⟨#[49]⟩]] w fun e w' => e = .returned (nV n).v ∧ Below w.heap.size w w' :=
  number_t (nt n) ⟨#[49]⟩ w he ⟨_, _, _, pv_rd n h⟩ (by have := nt_size n h; omega) (by decide)
set_option maxRecDepth 100000 in
set_option maxHeartbeats 1000000 in
theorem whole_t (n : Nat) (w : World) (hn : n ≤ 1000) (htab : Lib.TabIs Tryz.prog w "internal/strconv.uint64pow10" .u64 Lib.pow10Tab) :
    Calls Tryz.prog 12 #[.int .i64 (n : Int)] w fun e w' => e = .returned (nV n).v ∧ Below w.heap.size w w' := by
  have HO := Lib.hid fun W (hW : Below w.heap.size w W) => of_t n W hn (Lib.tabBelow_of_tabIs htab W hW)
  clear htab
  show Calls _ _ _ w fun e w' => e = .returned (.agg #[.int .i64 1, .string (nt n), .string ⟨#[49]⟩, .string ⟨#[]⟩, .bool false, .int .i64 0, .int .i64 0, .int .i64 0, .slice none 0 0]) ∧ _
  obtain ⟨t, ht⟩ : ∃ t, t = nt n := ⟨_, rfl⟩
  rw [← ht] at HO
  rw [← ht]
  clear ht
  have HL0 := Lib.hid ((Loc.start w).alloc' rfl 27 #[.int .i64 0, .string ⟨#[]⟩, .string ⟨#[]⟩, .string ⟨#[]⟩, .bool false, .int .i64 0, .int .i64 0, .int .i64 0, .slice none 0 0])
  go_enter Tryz.func12, Tryz.ntmps12
  go_wp2_with (go_at_call 18; (with_reducible refine (HO.out _ HL0.out.bel).mono ?_); rintro e w1 ⟨rfl, hb⟩; have HL1 := Lib.hid (HL0.out.step hb); have bz := HL1.out.blk (g := w.heap.size) (t := 27) (cs := #[.int .i64 0, .string ⟨#[]⟩, .string ⟨#[]⟩, .string ⟨#[]⟩, .bool false, .int .i64 0, .int .i64 0, .int .i64 0, .slice none 0 0]) (by simp); obtain ⟨z0, z1, z2, z3, z4, z5, z6, z7, z8⟩ := bz.nine; obtain ⟨f0, f1, f2, f3, f4, f5, f6, f7, f8⟩ := bz.ninef; obtain ⟨bs, c0, c1, c2, c3, c4, c5, c6, c7, c8⟩ := bz.nine_set (.int .i64 1) (.string t) (.string ⟨#[49]⟩) (.string ⟨#[]⟩) (.bool false) (.int .i64 0) (.int .i64 0) (.int .i64 0) (.slice none 0 0); have BS := Lib.hid bs; clear bz bs hb)
  obtain ⟨q0, q1, q2, q3, q4, q5, q6, q7, q8⟩ := BS.out.nine
  refine bodyPost_ret (v := .agg #[.int .i64 1, .string t, .string ⟨#[49]⟩, .string ⟨#[]⟩, .bool false, .int .i64 0, .int .i64 0, .int .i64 0, .slice none 0 0]) (by simp [results, Tryz.results12, go_sem, q0, q1, q2, q3, q4, q5, q6, q7, q8]) rfl ⟨rfl, ?_⟩
  exact below_nine HL1.out.bel (by omega) _ _ _ _ _ _ _ _ _
end Go.Proofs.YtllhefjblipddaaGreatDoor

namespace Go.Proofs.YtllhefjblipddaaGreatDoor
open Go.RowKit

theorem rd_whole (N : Nat) (h : N < 100000000000000000) : Nt.Rd (Lib.decDigits N) [49] false N 1 ∧ (Lib.decDigits N).length ≤ 17 := by
  have hl : (Lib.decDigits N).length ≤ 17 := Nt.dd_le (k := 16) h
  exact ⟨⟨rfl, by rw [Lib.decDigits_one (by decide)]; rfl, by decide, fun _ => rfl, by omega, by rw [Lib.decDigits_one (by decide)]; simp, Nat.gcd_one_right _⟩, hl⟩
theorem qk_whole (N : Nat) (h : N < 100000000000000000) : Nt.Qk (Lib.decDigits N) [49] N 1 40 :=
  Nt.Rd.qk (rd_whole N h).1 (by have := (rd_whole N h).2; omega) (by simp)
set_option maxRecDepth 100000 in
set_option maxHeartbeats 2000000 in
theorem int_q (a1 a2 : ByteArray) (N k : Nat) (w : World) (h : N < 100000000000000000) (ha : Nt.Qk a1.data.toList a2.data.toList N 1 k) :
    Calls Tryz.prog 175 #[.agg #[.string a1, .string a2]] w fun e w' => e = .returned (.tuple #[.int .i64 (N : Int), .bool true, .int .i64 0]) ∧ Below w.heap.size w w' := by
  obtain ⟨hr, hl⟩ := rd_whole N h
  obtain ⟨e1, e2⟩ := ha.q.same (qk_whole N h).q rfl
  obtain rfl : a2 = ⟨#[49]⟩ := ba_ext e2
  have hsz : a1.size ≤ 17 := by
    have : a1.size = a1.data.toList.length := rfl
    rw [this, e1]; exact hl
  have HCK := Lib.hid fun W => check_any a1 ⟨#[49]⟩ W (by omega) (by decide)
  have HRD := Lib.hid (show ∃ m n d, Nt.Rd a1.data.toList (⟨#[49]⟩ : ByteArray).data.toList m n d from ⟨false, N, 1, by rw [e1]; exact hr⟩)
  have HAT := Lib.hid fun W => atoi_any a1 (Lib.decDigits N) W e1 (by omega) (Nt.allD_dd N) (Nt.dd_ne N)
  rw [Nt.dval_dd] at HAT
  have HL0 := Lib.hid ((Loc.start w).alloc' rfl 24 #[.string a1, .string ⟨#[49]⟩])
  obtain ⟨x0, x1, -, -⟩ := (HL0.out.blk (List.mem_cons_self ..)).two
  have hN : (N : Int) ≤ 100000000000000000 := by omega
  clear ha hr hl e1 e2 h hsz
  go_enter Tryz.func175, Tryz.ntmps175
  go_wp2_with (first
    | (go_at_call 117; (with_reducible refine (HCK.out _).mono ?_); rintro e w1 ⟨c, rfl, hc, hb⟩; obtain rfl := hc.2 HRD.out; have HL1 := Lib.hid (HL0.out.step hb); clear hb hc x0 x1; obtain ⟨x0, x1, -, -⟩ := (HL1.out.blk (List.mem_cons_self ..)).two)
    | (go_at_call 65; (with_reducible refine (HAT.out _).mono ?_); rintro e w2 ⟨rfl, hb⟩; have HL2 := Lib.hid (HL1.out.step hb); clear hb x0 x1; obtain ⟨x0, x1, -, -⟩ := (HL2.out.blk (List.mem_cons_self ..)).two))
  go_ret3
  exact ⟨rfl, HL2.out.bel⟩
end Go.Proofs.YtllhefjblipddaaGreatDoor

namespace Go.Proofs.YtllhefjblipddaaGreatDoor
open Go.RowKit

theorem fval_ok {j : Nat} (h1 : 1 ≤ j) (h8 : j ≤ 8) : Vl.ok ⟨4, ⟨#[]⟩, ⟨#[]⟩, ⟨#[]⟩, false, (j : Int), 0, 0, none, 0, 0⟩ :=
  ⟨show (0 : Int) ≤ 4 by decide, show (4 : Int) ≤ 4 by decide, by simp [Vl.zB, Lib.toList_data, frSame], fun h => absurd (show (4 : Int) = 1 from h) (by decide), fun h => absurd (show (4 : Int) = 2 from h) (by decide), fun _ => ⟨show (1 : Int) ≤ (j : Int) by omega, show (j : Int) ≤ 8 by omega⟩⟩
set_option maxRecDepth 100000 in
set_option maxHeartbeats 1000000 in
theorem fault_t (j : Nat) (w : World) (he : VEnv w) (h1 : 1 ≤ j) (h8 : j ≤ 8) :
    Calls Tryz.prog 27 #[.int .i64 (j : Int)] w fun e w' => e = .returned (.agg #[.int .i64 4, .string ⟨#[]⟩, .string ⟨#[]⟩, .string ⟨#[]⟩, .bool false, .int .i64 (j : Int), .int .i64 0, .int .i64 0, .slice none 0 0]) ∧ Below w.heap.size w w' := by
  have HV := Lib.hid (show ∀ W, Below w.heap.size w W → Calls Tryz.prog 23 #[.agg #[.int .i64 4, .string ⟨#[]⟩, .string ⟨#[]⟩, .string ⟨#[]⟩, .bool false, .int .i64 (j : Int), .int .i64 0, .int .i64 0, .slice none 0 0]] W fun e w' => e = .returned (.agg #[.int .i64 4, .string ⟨#[]⟩, .string ⟨#[]⟩, .string ⟨#[]⟩, .bool false, .int .i64 (j : Int), .int .i64 0, .int .i64 0, .slice none 0 0]) ∧ Below W.heap.size W w' from fun W hW => valid_t ⟨4, ⟨#[]⟩, ⟨#[]⟩, ⟨#[]⟩, false, (j : Int), 0, 0, none, 0, 0⟩ W (he.below hW) (fval_ok h1 h8) (show (⟨#[]⟩ : ByteArray).size ≤ 9223372036854775807 by decide) (show (⟨#[]⟩ : ByteArray).size ≤ 9223372036854775807 by decide) (show (⟨#[]⟩ : ByteArray).size ≤ 9223372036854775807 by decide))
  clear he h1 h8
  have HL0 := Lib.hid ((Loc.start w).alloc' rfl 27 #[.int .i64 0, .string ⟨#[]⟩, .string ⟨#[]⟩, .string ⟨#[]⟩, .bool false, .int .i64 0, .int .i64 0, .int .i64 0, .slice none 0 0])
  go_enter Tryz.func27, Tryz.ntmps27
  go_wp2_with (go_at_call 23; (with_reducible refine (HV.out _ HL0.out.bel).mono ?_); rintro e w1 ⟨rfl, hb⟩; have HL1 := Lib.hid (HL0.out.step hb); have bz := HL1.out.blk (g := w.heap.size) (t := 27) (cs := #[.int .i64 0, .string ⟨#[]⟩, .string ⟨#[]⟩, .string ⟨#[]⟩, .bool false, .int .i64 0, .int .i64 0, .int .i64 0, .slice none 0 0]) (by simp); obtain ⟨z0, z1, z2, z3, z4, z5, z6, z7, z8⟩ := bz.nine; obtain ⟨f0, f1, f2, f3, f4, f5, f6, f7, f8⟩ := bz.ninef; obtain ⟨bs, c0, c1, c2, c3, c4, c5, c6, c7, c8⟩ := bz.nine_set (.int .i64 4) (.string ⟨#[]⟩) (.string ⟨#[]⟩) (.string ⟨#[]⟩) (.bool false) (.int .i64 (j : Int)) (.int .i64 0) (.int .i64 0) (.slice none 0 0); have BS := Lib.hid bs; clear bz bs hb)
  obtain ⟨q0, q1, q2, q3, q4, q5, q6, q7, q8⟩ := BS.out.nine
  refine bodyPost_ret (v := .agg #[.int .i64 4, .string ⟨#[]⟩, .string ⟨#[]⟩, .string ⟨#[]⟩, .bool false, .int .i64 (j : Int), .int .i64 0, .int .i64 0, .slice none 0 0]) (by simp [results, Tryz.results27, go_sem, q0, q1, q2, q3, q4, q5, q6, q7, q8]) rfl ⟨rfl, ?_⟩
  exact below_nine HL1.out.bel (by omega) _ _ _ _ _ _ _ _ _
end Go.Proofs.YtllhefjblipddaaGreatDoor
