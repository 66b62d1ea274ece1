/- 9 cells in a block: what a walk reads of them, and what 9 stores leave. -/
import Derived.Test.YtmmlcponmdalmaaGreatDoorMem
import Derived.Test.YtmmlcponmdalmaaGreatDoorVaC
import Derived.Test.YtmmlcponmdalmaaGreatDoorExF
import Derived.Test.YtmmlcponmdalmaaGreatDoorExP
import Derived.Test.YtmmlcponmdalmaaGreatDoorVaB
import Derived.Test.YtmmlcponmdalmaaGreatDoorLoc
import Derived.Deep.QuietTactic
import Derived.BigQuiet
import Derived.Test.YtmmlcponmdalmaaGreatDoorExG
namespace Go.Proofs.YtmmlcponmdalmaaGreatDoor
open Go.RowKit

section
variable {w : World} {g : Nat} {t : TypeId} {x0 x1 x2 x3 x4 x5 x6 x7 x8 : Value}
theorem Blk.nine (h : Blk w g t #[x0, x1, x2, x3, x4, x5, x6, x7, x8]) :
    w.cell? ⟨g, 0, none⟩ = some x0 ∧ w.cell? ⟨g, 1, none⟩ = some x1 ∧ w.cell? ⟨g, 2, none⟩ = some x2 ∧ w.cell? ⟨g, 3, none⟩ = some x3 ∧ w.cell? ⟨g, 4, none⟩ = some x4 ∧ w.cell? ⟨g, 5, none⟩ = some x5 ∧ w.cell? ⟨g, 6, none⟩ = some x6 ∧ w.cell? ⟨g, 7, none⟩ = some x7 ∧ w.cell? ⟨g, 8, none⟩ = some x8 :=
  ⟨h.cell 0, h.cell 1, h.cell 2, h.cell 3, h.cell 4, h.cell 5, h.cell 6, h.cell 7, h.cell 8⟩
theorem Blk.ninef {cs : Array Value} (h : Blk w g t cs) :
    w.frozen? ⟨g, 0, none⟩ = false ∧ w.frozen? ⟨g, 1, none⟩ = false ∧ w.frozen? ⟨g, 2, none⟩ = false ∧ w.frozen? ⟨g, 3, none⟩ = false ∧ w.frozen? ⟨g, 4, none⟩ = false ∧ w.frozen? ⟨g, 5, none⟩ = false ∧ w.frozen? ⟨g, 6, none⟩ = false ∧ w.frozen? ⟨g, 7, none⟩ = false ∧ w.frozen? ⟨g, 8, none⟩ = false :=
  ⟨h.frozen 0, h.frozen 1, h.frozen 2, h.frozen 3, h.frozen 4, h.frozen 5, h.frozen 6, h.frozen 7, h.frozen 8⟩
/-- 9 stores; what is read back of the cell that was written last, store by store. -/
theorem Blk.nine_set (h : Blk w g t #[x0, x1, x2, x3, x4, x5, x6, x7, x8]) (y0 y1 y2 y3 y4 y5 y6 y7 y8 : Value) :
    Blk (((((((((w.setCell ⟨g, 0, none⟩ y0).setCell ⟨g, 1, none⟩ y1).setCell ⟨g, 2, none⟩ y2).setCell ⟨g, 3, none⟩ y3).setCell ⟨g, 4, none⟩ y4).setCell ⟨g, 5, none⟩ y5).setCell ⟨g, 6, none⟩ y6).setCell ⟨g, 7, none⟩ y7).setCell ⟨g, 8, none⟩ y8) g t #[y0, y1, y2, y3, y4, y5, y6, y7, y8] ∧
    (w.setCell ⟨g, 0, none⟩ y0).cell? ⟨g, 0, none⟩ = some y0 ∧
    ((w.setCell ⟨g, 0, none⟩ y0).setCell ⟨g, 1, none⟩ y1).cell? ⟨g, 1, none⟩ = some y1 ∧
    (((w.setCell ⟨g, 0, none⟩ y0).setCell ⟨g, 1, none⟩ y1).setCell ⟨g, 2, none⟩ y2).cell? ⟨g, 2, none⟩ = some y2 ∧
    ((((w.setCell ⟨g, 0, none⟩ y0).setCell ⟨g, 1, none⟩ y1).setCell ⟨g, 2, none⟩ y2).setCell ⟨g, 3, none⟩ y3).cell? ⟨g, 3, none⟩ = some y3 ∧
    (((((w.setCell ⟨g, 0, none⟩ y0).setCell ⟨g, 1, none⟩ y1).setCell ⟨g, 2, none⟩ y2).setCell ⟨g, 3, none⟩ y3).setCell ⟨g, 4, none⟩ y4).cell? ⟨g, 4, none⟩ = some y4 ∧
    ((((((w.setCell ⟨g, 0, none⟩ y0).setCell ⟨g, 1, none⟩ y1).setCell ⟨g, 2, none⟩ y2).setCell ⟨g, 3, none⟩ y3).setCell ⟨g, 4, none⟩ y4).setCell ⟨g, 5, none⟩ y5).cell? ⟨g, 5, none⟩ = some y5 ∧
    (((((((w.setCell ⟨g, 0, none⟩ y0).setCell ⟨g, 1, none⟩ y1).setCell ⟨g, 2, none⟩ y2).setCell ⟨g, 3, none⟩ y3).setCell ⟨g, 4, none⟩ y4).setCell ⟨g, 5, none⟩ y5).setCell ⟨g, 6, none⟩ y6).cell? ⟨g, 6, none⟩ = some y6 ∧
    ((((((((w.setCell ⟨g, 0, none⟩ y0).setCell ⟨g, 1, none⟩ y1).setCell ⟨g, 2, none⟩ y2).setCell ⟨g, 3, none⟩ y3).setCell ⟨g, 4, none⟩ y4).setCell ⟨g, 5, none⟩ y5).setCell ⟨g, 6, none⟩ y6).setCell ⟨g, 7, none⟩ y7).cell? ⟨g, 7, none⟩ = some y7 ∧
    (((((((((w.setCell ⟨g, 0, none⟩ y0).setCell ⟨g, 1, none⟩ y1).setCell ⟨g, 2, none⟩ y2).setCell ⟨g, 3, none⟩ y3).setCell ⟨g, 4, none⟩ y4).setCell ⟨g, 5, none⟩ y5).setCell ⟨g, 6, none⟩ y6).setCell ⟨g, 7, none⟩ y7).setCell ⟨g, 8, none⟩ y8).cell? ⟨g, 8, none⟩ = some y8 := by
  have h0 : Blk (w.setCell ⟨g, 0, none⟩ y0) g t #[y0, x1, x2, x3, x4, x5, x6, x7, x8] := by
    have := h.set_ 0 y0
    simpa using this
  have h1 : Blk ((w.setCell ⟨g, 0, none⟩ y0).setCell ⟨g, 1, none⟩ y1) g t #[y0, y1, x2, x3, x4, x5, x6, x7, x8] := by
    have := h0.set_ 1 y1
    simpa using this
  have h2 : Blk (((w.setCell ⟨g, 0, none⟩ y0).setCell ⟨g, 1, none⟩ y1).setCell ⟨g, 2, none⟩ y2) g t #[y0, y1, y2, x3, x4, x5, x6, x7, x8] := by
    have := h1.set_ 2 y2
    simpa using this
  have h3 : Blk ((((w.setCell ⟨g, 0, none⟩ y0).setCell ⟨g, 1, none⟩ y1).setCell ⟨g, 2, none⟩ y2).setCell ⟨g, 3, none⟩ y3) g t #[y0, y1, y2, y3, x4, x5, x6, x7, x8] := by
    have := h2.set_ 3 y3
    simpa using this
  have h4 : Blk (((((w.setCell ⟨g, 0, none⟩ y0).setCell ⟨g, 1, none⟩ y1).setCell ⟨g, 2, none⟩ y2).setCell ⟨g, 3, none⟩ y3).setCell ⟨g, 4, none⟩ y4) g t #[y0, y1, y2, y3, y4, x5, x6, x7, x8] := by
    have := h3.set_ 4 y4
    simpa using this
  have h5 : Blk ((((((w.setCell ⟨g, 0, none⟩ y0).setCell ⟨g, 1, none⟩ y1).setCell ⟨g, 2, none⟩ y2).setCell ⟨g, 3, none⟩ y3).setCell ⟨g, 4, none⟩ y4).setCell ⟨g, 5, none⟩ y5) g t #[y0, y1, y2, y3, y4, y5, x6, x7, x8] := by
    have := h4.set_ 5 y5
    simpa using this
  have h6 : Blk (((((((w.setCell ⟨g, 0, none⟩ y0).setCell ⟨g, 1, none⟩ y1).setCell ⟨g, 2, none⟩ y2).setCell ⟨g, 3, none⟩ y3).setCell ⟨g, 4, none⟩ y4).setCell ⟨g, 5, none⟩ y5).setCell ⟨g, 6, none⟩ y6) g t #[y0, y1, y2, y3, y4, y5, y6, x7, x8] := by
    have := h5.set_ 6 y6
    simpa using this
  have h7 : Blk ((((((((w.setCell ⟨g, 0, none⟩ y0).setCell ⟨g, 1, none⟩ y1).setCell ⟨g, 2, none⟩ y2).setCell ⟨g, 3, none⟩ y3).setCell ⟨g, 4, none⟩ y4).setCell ⟨g, 5, none⟩ y5).setCell ⟨g, 6, none⟩ y6).setCell ⟨g, 7, none⟩ y7) g t #[y0, y1, y2, y3, y4, y5, y6, y7, x8] := by
    have := h6.set_ 7 y7
    simpa using this
  have h8 : Blk (((((((((w.setCell ⟨g, 0, none⟩ y0).setCell ⟨g, 1, none⟩ y1).setCell ⟨g, 2, none⟩ y2).setCell ⟨g, 3, none⟩ y3).setCell ⟨g, 4, none⟩ y4).setCell ⟨g, 5, none⟩ y5).setCell ⟨g, 6, none⟩ y6).setCell ⟨g, 7, none⟩ y7).setCell ⟨g, 8, none⟩ y8) g t #[y0, y1, y2, y3, y4, y5, y6, y7, y8] := by
    have := h7.set_ 8 y8
    simpa using this
  exact ⟨h8, h0.cell 0, h1.cell 1, h2.cell 2, h3.cell 3, h4.cell 4, h5.cell 5, h6.cell 6, h7.cell 7, h8.cell 8⟩
theorem Blk.nine_far {g' : Nat} {t' : TypeId} {cs : Array Value} (h : Blk w g' t' cs) (hne : g' ≠ g) (y0 y1 y2 y3 y4 y5 y6 y7 y8 : Value) :
    Blk (((((((((w.setCell ⟨g, 0, none⟩ y0).setCell ⟨g, 1, none⟩ y1).setCell ⟨g, 2, none⟩ y2).setCell ⟨g, 3, none⟩ y3).setCell ⟨g, 4, none⟩ y4).setCell ⟨g, 5, none⟩ y5).setCell ⟨g, 6, none⟩ y6).setCell ⟨g, 7, none⟩ y7).setCell ⟨g, 8, none⟩ y8) g' t' cs :=
  (((((((((h.far hne y0).far hne y1).far hne y2).far hne y3).far hne y4).far hne y5).far hne y6).far hne y7).far hne y8)
theorem below_nine {B : Nat} {w0 : World} (h : Below B w0 w) (hg : B ≤ g) (y0 y1 y2 y3 y4 y5 y6 y7 y8 : Value) : Below B w0 (((((((((w.setCell ⟨g, 0, none⟩ y0).setCell ⟨g, 1, none⟩ y1).setCell ⟨g, 2, none⟩ y2).setCell ⟨g, 3, none⟩ y3).setCell ⟨g, 4, none⟩ y4).setCell ⟨g, 5, none⟩ y5).setCell ⟨g, 6, none⟩ y6).setCell ⟨g, 7, none⟩ y7).setCell ⟨g, 8, none⟩ y8) :=
  (((((((((h.setCell (p := ⟨g, 0, none⟩) hg y0).setCell (p := ⟨g, 1, none⟩) hg y1).setCell (p := ⟨g, 2, none⟩) hg y2).setCell (p := ⟨g, 3, none⟩) hg y3).setCell (p := ⟨g, 4, none⟩) hg y4).setCell (p := ⟨g, 5, none⟩) hg y5).setCell (p := ⟨g, 6, none⟩) hg y6).setCell (p := ⟨g, 7, none⟩) hg y7).setCell (p := ⟨g, 8, none⟩) hg y8)
end
end Go.Proofs.YtmmlcponmdalmaaGreatDoor

namespace Go.Proofs.YtmmlcponmdalmaaGreatDoor
open Go.RowKit

/-- A value, its fields laid open. -/
structure Vl where
  k : Int
  num : ByteArray
  den : ByteArray
  text : ByteArray
  on : Bool
  code : Int
  rows : Int
  cols : Int
  A : Option Addr
  n : Nat
  c : Nat
def Vl.cs (v : Vl) : Array Value := #[.int .i64 v.k, .string v.num, .string v.den, .string v.text, .bool v.on, .int .i64 v.code, .int .i64 v.rows, .int .i64 v.cols, .slice v.A v.n v.c]
def Vl.v (v : Vl) : Value := .agg v.cs
def Vl.zB (v : Vl) : Bool := (v.k == 1 || frSame v.num v.den ⟨#[]⟩ ⟨#[]⟩) && (v.k == 2 || v.text.toList.isEmpty) && (v.k == 3 || !v.on) && (v.k == 4 || v.code == 0) && (v.k == 5 || (v.rows == 0 && v.cols == 0 && v.n == 0))

theorem reti {a b : Int} (h : a = b) : Ending.returned (.int .i64 a) = .returned (.int .i64 b) := by rw [h]
set_option maxRecDepth 100000 in
set_option maxHeartbeats 4000000 in
theorem zeros_any (v : Vl) (w : World) (h0 : 0 ≤ v.k) (h5 : v.k ≤ 5) :
    Calls Tryz.prog 40 #[v.v] w fun e w' => e = .returned (.int .i64 (if v.zB = true then 0 else 4)) ∧ Below w.heap.size w w' := by
  obtain ⟨k, num, den, text, on, code, rows, cols, A, n, c⟩ := v
  have hfr := fr_neq num den ⟨#[]⟩ ⟨#[]⟩
  have HZ := Lib.hid (show Vl.zB ⟨k, num, den, text, on, code, rows, cols, A, n, c⟩ = ((k == 1 || frSame num den ⟨#[]⟩ ⟨#[]⟩) && (k == 2 || text.toList.isEmpty) && (k == 3 || !on) && (k == 4 || code == 0) && (k == 5 || (rows == 0 && cols == 0 && n == 0))) from rfl)
  dsimp only at h0 h5
  generalize frSame num den ⟨#[]⟩ ⟨#[]⟩ = fe at *
  generalize hz : (if Vl.zB ⟨k, num, den, text, on, code, rows, cols, A, n, c⟩ = true then (0 : Int) else 4) = z
  have HR := Lib.hid hz
  clear hz
  show Calls Tryz.prog 40 #[.agg #[.int .i64 k, .string num, .string den, .string text, .bool on, .int .i64 code, .int .i64 rows, .int .i64 cols, .slice A n c]] w _
  rcases (show k = 0 ∨ k = 1 ∨ k = 2 ∨ k = 3 ∨ k = 4 ∨ k = 5 by omega) with rfl | rfl | rfl | rfl | rfl | rfl
  all_goals
    go_enter Tryz.func40, Tryz.ntmps40
    go_wp2
    all_goals
      go_ret
      refine ⟨reti (Eq.trans ?_ HR.out), (Below.refl _ _).alloc (Nat.le_refl _) _⟩
      rw [HZ.out]
      simp [*]
      try omega
end Go.Proofs.YtmmlcponmdalmaaGreatDoor

namespace Go.Proofs.YtmmlcponmdalmaaGreatDoor
open Go.RowKit

/-- value.digits: the digits, and what is behind them. -/
theorem vdigits_any (s a b : ByteArray) (w : World) (hs : s.data.toList = a.data.toList ++ b.data.toList) (ha : Nt.allD a.data.toList) (hb : ∀ c t, b.data.toList = c :: t → ¬ Nt.isD c) (hl : s.size ≤ 1000000) :
    Calls Tryz.prog 120 #[.string s] w fun e w' => e = .returned (.tuple #[.string a, .string b]) ∧ Below w.heap.size w w' := by
  have hz : a.size + b.size = s.size := by
    have := congrArg List.length hs
    rw [List.length_append] at this
    exact this.symm
  have ht := trimleft_v s w
  rw [hs, Nt.left_split ha hb] at ht
  rw [show (⟨b.data.toList.toArray⟩ : ByteArray) = b from ba_ext (by simp)] at ht
  have HT := Lib.hid ht
  have hcut : s.extract 0 (s.size - b.size) = a := ba_ext (by
    rw [Lib.extract_data, hs, show s.size - b.size = a.data.toList.length from (by have : a.size = a.data.toList.length := rfl; omega)]
    simp)
  have HC := Lib.hid hcut
  have HZ := Lib.hid hz
  have b1 : (b.size : Int) ≤ s.size := by omega
  have b2 : (s.size : Int) - b.size = a.size := by omega
  have HB2 := Lib.hid b2
  clear ht hcut hz b2 hs ha hb
  go_enter Tryz.func120, Tryz.ntmps120
  go_wp2_with (go_at_call 174; refine HT.out.mono ?_; rintro e w2 ⟨rfl, hbw⟩)
  rw [HC.out]
  go_ret2
  exact ⟨rfl, hbw⟩
theorem vdig0 (w : World) : Calls Tryz.prog 120 #[.string ⟨#[49, 57, 48, 48, 45, 48, 49, 45, 48, 50]⟩] w fun e w' => e = .returned (.tuple #[.string ⟨#[49, 57, 48, 48]⟩, .string ⟨#[45, 48, 49, 45, 48, 50]⟩]) ∧ Below w.heap.size w w' :=
  vdigits_any ⟨#[49, 57, 48, 48, 45, 48, 49, 45, 48, 50]⟩ ⟨#[49, 57, 48, 48]⟩ ⟨#[45, 48, 49, 45, 48, 50]⟩ w rfl (by unfold Nt.allD Nt.isD; decide) (by intro c t e; cases e; unfold Nt.isD; decide) (by decide)
theorem run0 (w : World) : Calls Tryz.prog 170 #[.string ⟨#[49, 57, 48, 48, 45, 48, 49, 45, 48, 50]⟩] w fun e w' => e = .returned (.tuple #[.string ⟨#[49, 57, 48, 48]⟩, .string ⟨#[45, 48, 49, 45, 48, 50]⟩]) ∧ Below w.heap.size w w' :=
  run_any ⟨#[49, 57, 48, 48, 45, 48, 49, 45, 48, 50]⟩ ⟨#[49, 57, 48, 48]⟩ ⟨#[45, 48, 49, 45, 48, 50]⟩ w rfl (by unfold Nt.allD Nt.isD; decide) (by intro c t e; cases e; unfold Nt.isD; decide) (by decide)
theorem vdigE (w : World) : Calls Tryz.prog 120 #[.string ⟨#[]⟩] w fun e w' => e = .returned (.tuple #[.string ⟨#[]⟩, .string ⟨#[]⟩]) ∧ Below w.heap.size w w' :=
  vdigits_any ⟨#[]⟩ ⟨#[]⟩ ⟨#[]⟩ w rfl (by unfold Nt.allD Nt.isD; decide) (by intro c t e; cases e) (by decide)
theorem grouped0 (w : World) : Calls Tryz.prog 112 #[.string ⟨#[49, 57, 48, 48, 45, 48, 49, 45, 48, 50]⟩] w fun e w' => e = .returned (.tuple #[.string ⟨#[49, 57, 48, 48]⟩, .string ⟨#[45, 48, 49, 45, 48, 50]⟩]) ∧ Below w.heap.size w w' := by
  go_enter Tryz.func112, Tryz.ntmps112
  go_wp2_with (go_at_call 120; refine (vdig0 _).mono ?_; rintro e w2 ⟨rfl, hbw⟩)
  go_ret2
  exact ⟨rfl, hbw⟩
theorem exponent0 (w : World) : Calls Tryz.prog 171 #[.string ⟨#[45, 48, 49, 45, 48, 50]⟩] w fun e w' => e = .returned (.tuple #[.int .i64 0, .bool false]) ∧ w = w' := by
  go_enter Tryz.func171, Tryz.ntmps171
  go_wp2
  go_ret2
  exact ⟨rfl, rfl⟩
theorem cp0 (w : World) : Calls Tryz.prog 55 #[.string ⟨#[49, 57, 48, 48, 45, 48, 49, 45, 48, 50]⟩, .string ⟨#[45]⟩] w fun e w' => e = .returned (.tuple #[.string ⟨#[49, 57, 48, 48, 45, 48, 49, 45, 48, 50]⟩, .bool false]) ∧ w = w' :=
  (Tryz.strings_CutPrefix ⟨#[49, 57, 48, 48, 45, 48, 49, 45, 48, 50]⟩ ⟨#[45]⟩ w).mono fun _e _w' ⟨h1, h2⟩ => ⟨h1, h2.symm⟩
theorem cp1 (w : World) : Calls Tryz.prog 55 #[.string ⟨#[45, 48, 49, 45, 48, 50]⟩, .string ⟨#[46]⟩] w fun e w' => e = .returned (.tuple #[.string ⟨#[45, 48, 49, 45, 48, 50]⟩, .bool false]) ∧ w = w' :=
  (Tryz.strings_CutPrefix ⟨#[45, 48, 49, 45, 48, 50]⟩ ⟨#[46]⟩ w).mono fun _e _w' ⟨h1, h2⟩ => ⟨h1, h2.symm⟩
theorem cp2 (w : World) : Calls Tryz.prog 55 #[.string ⟨#[49, 57, 48, 48, 45, 48, 49, 45, 48, 50]⟩, .string ⟨#[39]⟩] w fun e w' => e = .returned (.tuple #[.string ⟨#[49, 57, 48, 48, 45, 48, 49, 45, 48, 50]⟩, .bool false]) ∧ w = w' :=
  (Tryz.strings_CutPrefix ⟨#[49, 57, 48, 48, 45, 48, 49, 45, 48, 50]⟩ ⟨#[39]⟩ w).mono fun _e _w' ⟨h1, h2⟩ => ⟨h1, h2.symm⟩
theorem cs0 (w : World) : Calls Tryz.prog 113 #[.string ⟨#[45, 48, 49, 45, 48, 50]⟩, .string ⟨#[37]⟩] w fun e w' => e = .returned (.tuple #[.string ⟨#[45, 48, 49, 45, 48, 50]⟩, .bool false]) ∧ w = w' :=
  (Tryz.strings_CutSuffix ⟨#[45, 48, 49, 45, 48, 50]⟩ ⟨#[37]⟩ w (by decide)).mono fun e w' ⟨h1, h2⟩ => ⟨h1, h2.symm⟩
set_option maxHeartbeats 1000000 in
theorem parse0 (w : World) : Calls Tryz.prog 114 #[.string ⟨#[49, 57, 48, 48, 45, 48, 49, 45, 48, 50]⟩] w fun e w' => e = .returned (.tuple #[.agg #[.string ⟨#[]⟩, .string ⟨#[]⟩], .int .i64 10]) ∧ Below w.heap.size w w' := by
  have HL0 := Lib.hid ((Loc.start w).alloc' rfl 24 #[.string ⟨#[]⟩, .string ⟨#[]⟩])
  go_enter Tryz.func114, Tryz.ntmps114
  go_wp2_with (first
    | (go_at_call 55; first | ((with_reducible refine (cp0 _).mono ?_); rintro e w1 ⟨rfl, rfl⟩) | ((with_reducible refine (cp1 _).mono ?_); rintro e w1 ⟨rfl, rfl⟩))
    | (go_at_call 170; (with_reducible refine (run0 _).mono ?_); rintro e w2 ⟨rfl, hb⟩; have HL2 := Lib.hid (HL0.out.step hb); obtain ⟨x0, x1, f0, f1⟩ := (HL2.out.blk (g := w.heap.size) (t := 24) (cs := #[.string ⟨#[]⟩, .string ⟨#[]⟩]) (by simp)).two; clear hb)
    | (go_at_call 171; (with_reducible refine (exponent0 _).mono ?_); rintro e w4 ⟨rfl, rfl⟩))
  obtain ⟨-, q0, q1⟩ := (HL2.out.blk (g := w.heap.size) (t := 24) (cs := #[.string ⟨#[]⟩, .string ⟨#[]⟩]) (by simp)).two_set (.string ⟨#[]⟩) (.string ⟨#[]⟩)
  refine bodyPost_ret (v := .tuple #[.agg #[.string ⟨#[]⟩, .string ⟨#[]⟩], .int .i64 10]) (by simp [results, Tryz.results114, go_sem, q0, q1]) rfl ⟨rfl, ?_⟩
  exact below_two HL2.out.bel (Nat.le_refl _) _ _
/-- The answer of a reader that refuses. -/
def NoFr (w : World) (e : Ending) (w' : World) : Prop := e = .returned (.tuple #[.agg #[.string ⟨#[]⟩, .string ⟨#[]⟩], .bool false]) ∧ Below w.heap.size w w'
theorem ecat0 : ((⟨#[]⟩ ++ ⟨#[49, 57, 48, 48]⟩ ++ ⟨#[45, 48, 49, 45, 48, 50]⟩ : ByteArray)) = ⟨#[49, 57, 48, 48, 45, 48, 49, 45, 48, 50]⟩ := ba_ext (by rw [ByteArray.toList_data_append, ByteArray.toList_data_append]; rfl)
set_option maxHeartbeats 1000000 in
theorem number0 (w : World) : Calls Tryz.prog 58 #[.string ⟨#[49, 57, 48, 48, 45, 48, 49, 45, 48, 50]⟩] w (NoFr w) := by
  have HL0 := Lib.hid ((Loc.start w).alloc' rfl 24 #[.string ⟨#[]⟩, .string ⟨#[]⟩])
  go_enter Tryz.func58, Tryz.ntmps58
  go_wp2_with (first
    | (go_at_call 113; (with_reducible refine (cs0 _).mono ?_); rintro e w1 ⟨rfl, rfl⟩)
    | (go_at_call 112; (with_reducible refine (grouped0 _).mono ?_); rintro e w2 ⟨rfl, hb⟩; have HL2 := Lib.hid (HL0.out.step hb); clear hb)
    | (go_at_call 114; rw [ecat0]; (with_reducible refine (parse0 _).mono ?_); rintro e w3 ⟨rfl, hb⟩; have HL3 := Lib.hid ((HL2.out.step hb).alloc 24 #[.string ⟨#[]⟩, .string ⟨#[]⟩]); obtain ⟨x0, x1, f0, f1⟩ := (HL3.out.blk (g := w.heap.size) (t := 24) (cs := #[.string ⟨#[]⟩, .string ⟨#[]⟩]) (by simp)).two; clear hb))
  obtain ⟨-, q0, q1⟩ := (HL3.out.blk (g := w.heap.size) (t := 24) (cs := #[.string ⟨#[]⟩, .string ⟨#[]⟩]) (by simp)).two_set (.string ⟨#[]⟩) (.string ⟨#[]⟩)
  refine bodyPost_ret (v := .tuple #[.agg #[.string ⟨#[]⟩, .string ⟨#[]⟩], .bool false]) (by simp [results, Tryz.results58, go_sem, q0, q1]) rfl ⟨rfl, ?_⟩
  exact below_two HL3.out.bel (Nat.le_refl _) _ _
set_option maxHeartbeats 1000000 in
theorem whole0 (w : World) : Calls Tryz.prog 116 #[.string ⟨#[49, 57, 48, 48, 45, 48, 49, 45, 48, 50]⟩] w (NoFr w) := by
  have HL0 := Lib.hid ((Loc.start w).alloc' rfl 24 #[.string ⟨#[]⟩, .string ⟨#[]⟩])
  go_enter Tryz.func116, Tryz.ntmps116
  go_wp2_with (go_at_call 120; (with_reducible refine (vdig0 _).mono ?_); rintro e w2 ⟨rfl, hb⟩; have HL2 := Lib.hid (HL0.out.step hb); obtain ⟨x0, x1, f0, f1⟩ := (HL2.out.blk (g := w.heap.size) (t := 24) (cs := #[.string ⟨#[]⟩, .string ⟨#[]⟩]) (by simp)).two; clear hb)
  obtain ⟨-, q0, q1⟩ := (HL2.out.blk (g := w.heap.size) (t := 24) (cs := #[.string ⟨#[]⟩, .string ⟨#[]⟩]) (by simp)).two_set (.string ⟨#[]⟩) (.string ⟨#[]⟩)
  refine bodyPost_ret (v := .tuple #[.agg #[.string ⟨#[]⟩, .string ⟨#[]⟩], .bool false]) (by simp [results, Tryz.results116, go_sem, q0, q1]) rfl ⟨rfl, ?_⟩
  exact below_two HL2.out.bel (Nat.le_refl _) _ _
set_option maxHeartbeats 1000000 in
theorem wholeE (w : World) : Calls Tryz.prog 116 #[.string ⟨#[]⟩] w (NoFr w) := by
  have HL0 := Lib.hid ((Loc.start w).alloc' rfl 24 #[.string ⟨#[]⟩, .string ⟨#[]⟩])
  go_enter Tryz.func116, Tryz.ntmps116
  go_wp2_with (go_at_call 120; (with_reducible refine (vdigE _).mono ?_); rintro e w2 ⟨rfl, hb⟩; have HL2 := Lib.hid (HL0.out.step hb); obtain ⟨x0, x1, f0, f1⟩ := (HL2.out.blk (g := w.heap.size) (t := 24) (cs := #[.string ⟨#[]⟩, .string ⟨#[]⟩]) (by simp)).two; clear hb)
  obtain ⟨-, q0, q1⟩ := (HL2.out.blk (g := w.heap.size) (t := 24) (cs := #[.string ⟨#[]⟩, .string ⟨#[]⟩]) (by simp)).two_set (.string ⟨#[]⟩) (.string ⟨#[]⟩)
  refine bodyPost_ret (v := .tuple #[.agg #[.string ⟨#[]⟩, .string ⟨#[]⟩], .bool false]) (by simp [results, Tryz.results116, go_sem, q0, q1]) rfl ⟨rfl, ?_⟩
  exact below_two HL2.out.bel (Nat.le_refl _) _ _
/-- What the walks of value ask of the world. -/
structure VEnv (W : World) : Prop where
  u8 : Lib.Utf8Tabs 2 3 W
  pw : Lib.TabIs Tryz.prog W "internal/strconv.uint64pow10" .u64 Lib.pow10Tab
  mx : ∃ m, W.cell? ⟨4, 0, none⟩ = some (.int .i64 m)
  f0 : W.cell? ⟨0, 0, none⟩ = some (.string ⟨#[]⟩)
  f1 : W.cell? ⟨0, 1, none⟩ = some (.string ⟨#[35, 68, 73, 86, 47, 48, 33]⟩)
  f2 : W.cell? ⟨0, 2, none⟩ = some (.string ⟨#[35, 86, 65, 76, 85, 69, 33]⟩)
  f3 : W.cell? ⟨0, 3, none⟩ = some (.string ⟨#[35, 82, 69, 70, 33]⟩)
  f4 : W.cell? ⟨0, 4, none⟩ = some (.string ⟨#[35, 78, 65, 77, 69, 63]⟩)
  f5 : W.cell? ⟨0, 5, none⟩ = some (.string ⟨#[35, 78, 85, 77, 33]⟩)
  f6 : W.cell? ⟨0, 6, none⟩ = some (.string ⟨#[35, 78, 47, 65]⟩)
  f7 : W.cell? ⟨0, 7, none⟩ = some (.string ⟨#[35, 83, 80, 73, 76, 76, 33]⟩)
  f8 : W.cell? ⟨0, 8, none⟩ = some (.string ⟨#[35, 67, 89, 67, 76, 69, 33]⟩)
theorem cell_later {w W : World} {b o : Nat} {v : Value} (h : w.cell? ⟨b, o, none⟩ = some v) (hb : Below w.heap.size w W) : W.cell? ⟨b, o, none⟩ = some v :=
  (hb.cell (p := ⟨b, o, none⟩) (World.block_lt_of_cell? _ _ h)).trans h
theorem VEnv.below {w W : World} (h : VEnv w) (hb : Below w.heap.size w W) : VEnv W :=
  ⟨Utf8Tabs_below h.u8 hb, Lib.tabBelow_of_tabIs h.pw W hb, by obtain ⟨m, hm⟩ := h.mx; exact ⟨m, cell_later hm hb⟩, cell_later h.f0 hb, cell_later h.f1 hb, cell_later h.f2 hb, cell_later h.f3 hb, cell_later h.f4 hb, cell_later h.f5 hb, cell_later h.f6 hb, cell_later h.f7 hb, cell_later h.f8 hb⟩

theorem cut0 (W : World) (m : Int) (hm : W.cell? ⟨4, 0, none⟩ = some (.int .i64 m)) : Calls Tryz.prog 115 #[.string ⟨#[49, 57, 48, 48, 45, 48, 49, 45, 48, 50]⟩, .string ⟨#[32]⟩] W fun e w' => e = .returned (.tuple #[.string ⟨#[49, 57, 48, 48, 45, 48, 49, 45, 48, 50]⟩, .string ⟨#[]⟩, .bool false]) ∧ Below W.heap.size W w' :=
  (Tryz.strings_Cut ⟨#[49, 57, 48, 48, 45, 48, 49, 45, 48, 50]⟩ ⟨#[32]⟩ m W (by decide) hm).mono fun e w' ⟨h1, n, h2⟩ => ⟨h1, by rw [h2]; exact ⟨rfl, rfl, rfl, Nat.le_refl _, fun _ _ => rfl⟩⟩
theorem cutE (W : World) (m : Int) (hm : W.cell? ⟨4, 0, none⟩ = some (.int .i64 m)) : Calls Tryz.prog 115 #[.string ⟨#[]⟩, .string ⟨#[47]⟩] W fun e w' => e = .returned (.tuple #[.string ⟨#[]⟩, .string ⟨#[]⟩, .bool false]) ∧ Below W.heap.size W w' :=
  (Tryz.strings_Cut ⟨#[]⟩ ⟨#[47]⟩ m W (by decide) hm).mono fun e w' ⟨h1, n, h2⟩ => ⟨h1, by rw [h2]; exact ⟨rfl, rfl, rfl, Nat.le_refl _, fun _ _ => rfl⟩⟩
set_option maxRecDepth 100000 in
set_option maxHeartbeats 2000000 in
theorem mixed0 (w : World) (he : VEnv w) : Calls Tryz.prog 59 #[.string ⟨#[49, 57, 48, 48, 45, 48, 49, 45, 48, 50]⟩] w (NoFr w) := by
  obtain ⟨m, hm⟩ := he.mx
  have HM := Lib.hid (show ∀ W, Below w.heap.size w W → W.cell? ⟨4, 0, none⟩ = some (.int .i64 m) from fun W hb => cell_later hm hb)
  clear he hm
  have HL0 := Lib.hid ((Loc.start w).alloc' rfl 24 #[.string ⟨#[]⟩, .string ⟨#[]⟩])
  go_enter Tryz.func59, Tryz.ntmps59
  go_wp2_with (first
    | (go_at_call 55; (with_reducible refine (cp0 _).mono ?_); rintro e w1 ⟨rfl, rfl⟩)
    | (go_at_call 115; first | ((with_reducible refine (cut0 _ m (HM.out _ HL0.out.bel)).mono ?_); rintro e w2 ⟨rfl, hb⟩; have HL1 := Lib.hid (HL0.out.step hb); clear hb) | ((with_reducible refine (cutE _ m (HM.out _ HL1.out.bel)).mono ?_); rintro e w3 ⟨rfl, hb⟩; have HL := Lib.hid (HL1.out.step hb); clear hb))
    | (go_at_call 116; first | ((with_reducible refine (whole0 _).mono ?_); rintro e w4 ⟨rfl, hb⟩; have HX := Lib.hid ((HL.out.step hb).alloc 24 #[.string ⟨#[]⟩, .string ⟨#[]⟩]); clear hb HL; have HL := Lib.hid HX.out; clear HX; obtain ⟨x0, x1, y0, y1⟩ := (HL.out.blk (g := w.heap.size) (t := 24) (cs := #[.string ⟨#[]⟩, .string ⟨#[]⟩]) (by simp)).two) | ((with_reducible refine (wholeE _).mono ?_); rintro e w5 ⟨rfl, hb⟩; clear x0 x1 y0 y1; have HX := Lib.hid ((HL.out.step hb).alloc 24 #[.string ⟨#[]⟩, .string ⟨#[]⟩]); clear hb HL; have HL := Lib.hid HX.out; clear HX; obtain ⟨x0, x1, y0, y1⟩ := (HL.out.blk (g := w.heap.size) (t := 24) (cs := #[.string ⟨#[]⟩, .string ⟨#[]⟩]) (by simp)).two)))
  obtain ⟨-, q0, q1⟩ := (HL.out.blk (g := w.heap.size) (t := 24) (cs := #[.string ⟨#[]⟩, .string ⟨#[]⟩]) (by simp)).two_set (.string ⟨#[]⟩) (.string ⟨#[]⟩)
  refine bodyPost_ret (v := .tuple #[.agg #[.string ⟨#[]⟩, .string ⟨#[]⟩], .bool false]) (by simp [results, Tryz.results59, go_sem, q0, q1]) rfl ⟨rfl, ?_⟩
  exact below_two HL.out.bel (Nat.le_refl _) _ _

/-- count: digits alone. -/
theorem count_any (s : ByteArray) (l : List UInt8) (n : Int) (w : World) (hs : s.data.toList = l) (h : Nt.allD l) (h0 : l ≠ []) (hl : l.length ≤ 18) (hn : n = (l.length : Int)) :
    Calls Tryz.prog 119 #[.string s, .int .i64 n] w fun e w' => e = .returned (.tuple #[.int .i64 (Nt.dval l : Int), .bool true]) ∧ Below w.heap.size w w' := by
  have hss : s.size = l.length := by rw [← hs]; rfl
  have HD := Lib.hid (vdigits_any s s ⟨#[]⟩ w (by simp) (by rw [hs]; exact h) (fun c t e => by cases e) (by omega))
  have HA := Lib.hid fun W => atoi_any s l W hs hl h h0
  obtain rfl : n = (s.size : Int) := by rw [hn, ← hss]
  clear hs h h0 hl hn hss
  go_enter Tryz.func119, Tryz.ntmps119
  go_upto_region 3 with (first
    | (go_at_call 120; (with_reducible refine HD.out.mono ?_); rintro e w1 ⟨rfl, hb⟩; have HB1 := Lib.hid hb; clear hb)
    | (go_at_call 162; (with_reducible refine (HA.out _).mono ?_); rintro e w2 ⟨rfl, hb⟩; have HB2 := Lib.hid (HB1.out.trans (hb.mono HB1.out.size)); clear hb))
  go_quiet (fail)
  go_wp2_with fail
  go_ret2
  exact ⟨rfl, ⟨HB2.out.os, HB2.out.tape, HB2.out.output, HB2.out.size, HB2.out.block⟩⟩

theorem split0 (W : World) (m : Int) (hm : W.cell? ⟨4, 0, none⟩ = some (.int .i64 m)) : Calls Tryz.prog 118 #[.string ⟨#[49, 57, 48, 48, 45, 48, 49, 45, 48, 50]⟩, .string ⟨#[45]⟩] W fun e w' => e = .returned (.slice (some ⟨W.heap.size, 0, none⟩) 3 3) ∧ w' = W.alloc (.cells #[.string ⟨#[49, 57, 48, 48]⟩, .string ⟨#[48, 49]⟩, .string ⟨#[48, 50]⟩] 9) := by
  have h := Tryz.strings_Split ⟨#[49, 57, 48, 48, 45, 48, 49, 45, 48, 50]⟩ ⟨#[45]⟩ m W (by decide) hm (by decide)
  rw [show Lib.countB ⟨#[49, 57, 48, 48, 45, 48, 49, 45, 48, 50]⟩ ⟨#[45]⟩ = 2 from by decide +kernel] at h
  rw [show Lib.splitB ⟨#[45]⟩ 0 2 ⟨#[49, 57, 48, 48, 45, 48, 49, 45, 48, 50]⟩ = [⟨#[49, 57, 48, 48]⟩, ⟨#[48, 49]⟩, ⟨#[48, 50]⟩] from by decide +kernel] at h
  exact h
set_option maxRecDepth 100000 in
set_option maxHeartbeats 2000000 in
theorem date0 (w : World) (he : VEnv w) : Calls Tryz.prog 60 #[.string ⟨#[49, 57, 48, 48, 45, 48, 49, 45, 48, 50]⟩] w fun e w' => e = .returned (.tuple #[.agg #[.string ⟨#[50]⟩, .string ⟨#[49]⟩], .bool true]) ∧ Below w.heap.size w w' := by
  obtain ⟨m, hm⟩ := he.mx
  have HM := Lib.hid (show ∀ W, Below w.heap.size w W → W.cell? ⟨4, 0, none⟩ = some (.int .i64 m) from fun W hb => cell_later hm hb)
  have HT := Lib.hid (show ∀ W, Below w.heap.size w W → Lib.TabIs Tryz.prog W "internal/strconv.uint64pow10" .u64 Lib.pow10Tab from fun W hb => Lib.tabBelow_of_tabIs he.pw W hb)
  clear he hm
  have HL0 := Lib.hid ((Loc.start w).alloc' rfl 24 #[.string ⟨#[]⟩, .string ⟨#[]⟩])
  have HC4 := Lib.hid fun W => count_any ⟨#[49, 57, 48, 48]⟩ [49, 57, 48, 48] 4 W rfl (by unfold Nt.allD Nt.isD; decide) (by decide) (by decide) rfl
  have HC1 := Lib.hid fun W => count_any ⟨#[48, 49]⟩ [48, 49] 2 W rfl (by unfold Nt.allD Nt.isD; decide) (by decide) (by decide) rfl
  have HC2 := Lib.hid fun W => count_any ⟨#[48, 50]⟩ [48, 50] 2 W rfl (by unfold Nt.allD Nt.isD; decide) (by decide) (by decide) rfl
  rw [show ((Nt.dval [49, 57, 48, 48] : Nat) : Int) = 1900 from by decide] at HC4
  rw [show ((Nt.dval [48, 49] : Nat) : Int) = 1 from by decide] at HC1
  rw [show ((Nt.dval [48, 50] : Nat) : Int) = 2 from by decide] at HC2
  have HD := Lib.hid fun W => day_in 1900 1 2 W (by decide) (by decide) (by decide) (by decide) (by decide) (by decide)
  rw [show Cal.bef 1900 + Cal.cum 1900 1 + 2 = 2 from by decide] at HD
  have HD1 := Lib.hid (show ∀ W, Below w.heap.size w W → Calls Tryz.prog 11 #[.int .i64 2] W fun e w' => e = .returned (.agg #[.string ⟨#[50]⟩, .string ⟨#[49]⟩]) ∧ Below W.heap.size W w' from fun W hW => (of_nat 2 W (by decide) (HT.out W hW)).mono fun e w' ⟨t, h1, h2, h3⟩ => by
    obtain rfl : t = ⟨#[50]⟩ := ba_ext (by rw [h2]; decide +kernel)
    exact ⟨h1, h3⟩)
  go_enter Tryz.func60, Tryz.ntmps60
  go_upto_region 5 with (first
    | (go_at_call 118; (with_reducible refine (split0 _ m (HM.out _ HL0.out.bel)).mono ?_); rintro e w1 ⟨rfl, rfl⟩; have HL1 := Lib.hid (HL0.out.alloc' (g := w.heap.size + 1) (by simp) 9 #[.string ⟨#[49, 57, 48, 48]⟩, .string ⟨#[48, 49]⟩, .string ⟨#[48, 50]⟩]); obtain ⟨x0, x1, x2, -, -, -⟩ := (HL1.out.blk (g := w.heap.size + 1) (t := 9) (cs := #[.string ⟨#[49, 57, 48, 48]⟩, .string ⟨#[48, 49]⟩, .string ⟨#[48, 50]⟩]) (by simp)).three)
    | (go_at_call 119; (with_reducible refine (HC4.out _).mono ?_); rintro e w2 ⟨rfl, hb⟩; have HL2 := Lib.hid (HL1.out.step hb); clear hb x0 x1 x2; obtain ⟨x0, x1, x2, -, -, -⟩ := (HL2.out.blk (g := w.heap.size + 1) (t := 9) (cs := #[.string ⟨#[49, 57, 48, 48]⟩, .string ⟨#[48, 49]⟩, .string ⟨#[48, 50]⟩]) (by simp)).three))
  go_upto_region 6 with (go_at_call 119; (with_reducible refine (HC1.out _).mono ?_); rintro e w3 ⟨rfl, hb⟩; have HL3 := Lib.hid (HL2.out.step hb); clear hb x0 x1 x2; obtain ⟨x0, x1, x2, -, -, -⟩ := (HL3.out.blk (g := w.heap.size + 1) (t := 9) (cs := #[.string ⟨#[49, 57, 48, 48]⟩, .string ⟨#[48, 49]⟩, .string ⟨#[48, 50]⟩]) (by simp)).three)
  go_upto_region 7 with (go_at_call 119; (with_reducible refine (HC2.out _).mono ?_); rintro e w4 ⟨rfl, hb⟩; have HL4 := Lib.hid (HL3.out.step hb); clear hb x0 x1 x2)
  go_wp2_with (first
    | (go_at_call 22; (with_reducible refine (HD.out _).mono ?_); rintro e w5 ⟨rfl, hb⟩; have HL5 := Lib.hid (HL4.out.step hb); clear hb)
    | (go_at_call 11; (with_reducible refine (HD1.out _ HL5.out.bel).mono ?_); rintro e w6 ⟨rfl, hb⟩; have HL6 := Lib.hid (HL5.out.step hb); obtain ⟨x0, x1, f0, f1⟩ := (HL6.out.blk (g := w.heap.size) (t := 24) (cs := #[.string ⟨#[]⟩, .string ⟨#[]⟩]) (by simp)).two; clear hb))
  obtain ⟨-, q0, q1⟩ := (HL6.out.blk (g := w.heap.size) (t := 24) (cs := #[.string ⟨#[]⟩, .string ⟨#[]⟩]) (by simp)).two_set (.string ⟨#[50]⟩) (.string ⟨#[49]⟩)
  refine bodyPost_ret (v := .tuple #[.agg #[.string ⟨#[50]⟩, .string ⟨#[49]⟩], .bool true]) (by simp [results, Tryz.results60, go_sem, q0, q1]) rfl ⟨rfl, ?_⟩
  exact below_two HL6.out.bel (Nat.le_refl _) _ _
end Go.Proofs.YtmmlcponmdalmaaGreatDoor

namespace Go.Proofs.YtmmlcponmdalmaaGreatDoor
open Go.RowKit

/-- The texts of the faults. -/
def faultS : Nat → ByteArray
  | 1 => ⟨#[35, 68, 73, 86, 47, 48, 33]⟩
  | 2 => ⟨#[35, 86, 65, 76, 85, 69, 33]⟩
  | 3 => ⟨#[35, 82, 69, 70, 33]⟩
  | 4 => ⟨#[35, 78, 65, 77, 69, 63]⟩
  | 5 => ⟨#[35, 78, 85, 77, 33]⟩
  | 6 => ⟨#[35, 78, 47, 65]⟩
  | 7 => ⟨#[35, 83, 80, 73, 76, 76, 33]⟩
  | 8 => ⟨#[35, 67, 89, 67, 76, 69, 33]⟩
  | _ => ⟨#[]⟩
theorem VEnv.ft {W : World} (h : VEnv W) (k : Nat) (hk : k ≤ 8) : W.cell? ⟨0, k, none⟩ = some (.string (faultS k)) := by
  rcases (show k = 0 ∨ k = 1 ∨ k = 2 ∨ k = 3 ∨ k = 4 ∨ k = 5 ∨ k = 6 ∨ k = 7 ∨ k = 8 by omega) with rfl | rfl | rfl | rfl | rfl | rfl | rfl | rfl | rfl
  · exact h.f0
  · exact h.f1
  · exact h.f2
  · exact h.f3
  · exact h.f4
  · exact h.f5
  · exact h.f6
  · exact h.f7
  · exact h.f8
theorem faultS_ne {k : Nat} (h1 : 1 ≤ k) (h8 : k ≤ 8) : (faultS k).toList.isEmpty = false := by
  rcases (show k = 1 ∨ k = 2 ∨ k = 3 ∨ k = 4 ∨ k = 5 ∨ k = 6 ∨ k = 7 ∨ k = 8 by omega) with rfl | rfl | rfl | rfl | rfl | rfl | rfl | rfl <;> (rw [Lib.toList_data]; rfl)
set_option maxRecDepth 100000 in
theorem ftext_in (k : Nat) (w : World) (he : VEnv w) (h1 : 1 ≤ k) (h8 : k ≤ 8) :
    Calls Tryz.prog 43 #[.int .i64 (k : Int)] w fun e w' => e = .returned (.string (faultS k)) ∧ w = w' := by
  have hf := he.ft k h8
  have g1 : (1 : Int) ≤ (k : Int) := by omega
  have g2 : (k : Int) < 9 := by omega
  generalize faultS k = s at *
  clear he
  go_enter Tryz.func43, Tryz.ntmps43
  go_wp2
  go_ret
  exact ⟨rfl, rfl⟩
theorem ftext_out (k : Int) (w : World) (h : k < 1 ∨ 9 ≤ k) :
    Calls Tryz.prog 43 #[.int .i64 k] w fun e w' => e = .returned (.string ⟨#[]⟩) ∧ w = w' := by
  rcases h with h | h
  · go_enter Tryz.func43, Tryz.ntmps43
    go_wp2
    go_ret
    exact ⟨rfl, rfl⟩
  · go_enter Tryz.func43, Tryz.ntmps43
    go_wp2
    go_ret
    exact ⟨rfl, rfl⟩

/-- A valid value that is no array. -/
def Vl.ok (v : Vl) : Prop := 0 ≤ v.k ∧ v.k ≤ 4 ∧ v.zB = true ∧ (v.k = 1 → ∃ m n d, Nt.Rd v.num.data.toList v.den.data.toList m n d) ∧ (v.k = 2 → txtE v.text = 0) ∧ (v.k = 4 → 1 ≤ v.code ∧ v.code ≤ 8)
/-- What Check answers. -/
def ChkRet (p : Prop) (w : World) (e : Ending) (w' : World) : Prop := ∃ c : Int, e = .returned (.int .i64 c) ∧ (c = 0 ↔ p) ∧ Below w.heap.size w w'

set_option maxRecDepth 100000 in
set_option maxHeartbeats 4000000 in
theorem check_na (v : Vl) (w : World) (he : VEnv w) (hk : v.k ≠ 5) (s1 : v.num.size ≤ 9223372036854775807) (s2 : v.den.size ≤ 9223372036854775807) (s3 : v.text.size ≤ 9223372036854775807) :
    Calls Tryz.prog 15 #[v.v] w (ChkRet v.ok w) := by
  obtain ⟨k, num, den, text, on, code, rows, cols, A, n, c⟩ := v
  dsimp only at hk s1 s2 s3
  have HL0 := Lib.hid ((Loc.start w).alloc' rfl 27 #[.int .i64 k, .string num, .string den, .string text, .bool on, .int .i64 code, .int .i64 rows, .int .i64 cols, .slice A n c])
  have HE := Lib.hid (show ∀ W, Below w.heap.size w W → VEnv W from fun W hb => he.below hb)
  clear he
  show Calls Tryz.prog 15 #[.agg #[.int .i64 k, .string num, .string den, .string text, .bool on, .int .i64 code, .int .i64 rows, .int .i64 cols, .slice A n c]] w _
  by_cases hr : 0 ≤ k ∧ k ≤ 5
  case neg =>
    rcases (show k < 0 ∨ 5 < k by omega) with h | h
    all_goals
      have HN := Lib.hid (show ¬ Vl.ok ⟨k, num, den, text, on, code, rows, cols, A, n, c⟩ from fun h => by have h1 : (0 : Int) ≤ k := h.1; have h2 : k ≤ 4 := h.2.1; omega)
      clear hr
      go_enter Tryz.func15, Tryz.ntmps15
      go_wp2
      go_ret
      exact ⟨8, rfl, ⟨fun h => absurd h (by decide), fun h => absurd h HN.out⟩, HL0.out.bel⟩
  case pos =>
  obtain ⟨k0, k5⟩ := hr
  cases hz : Vl.zB ⟨k, num, den, text, on, code, rows, cols, A, n, c⟩ with
  | false =>
    have HN := Lib.hid (show ¬ Vl.ok ⟨k, num, den, text, on, code, rows, cols, A, n, c⟩ from fun h => by rw [h.2.2.1] at hz; cases hz)
    have HZ := Lib.hid (show ∀ W, Calls Tryz.prog 40 #[.agg #[.int .i64 k, .string num, .string den, .string text, .bool on, .int .i64 code, .int .i64 rows, .int .i64 cols, .slice A n c]] W fun e w' => e = .returned (.int .i64 4) ∧ Below W.heap.size W w' from fun W => by
      have := zeros_any ⟨k, num, den, text, on, code, rows, cols, A, n, c⟩ W k0 k5
      rw [hz] at this
      exact this)
    clear hz
    go_enter Tryz.func15, Tryz.ntmps15
    go_wp2_with (go_at_call 40; (with_reducible refine (HZ.out _).mono ?_); rintro e w1 ⟨rfl, hb⟩; have HL1 := Lib.hid (HL0.out.step hb); clear hb)
    go_ret
    exact ⟨4, rfl, ⟨fun h => absurd h (by decide), fun h => absurd h HN.out⟩, HL1.out.bel⟩
  | true =>
    have HZ := Lib.hid (show ∀ W, Calls Tryz.prog 40 #[.agg #[.int .i64 k, .string num, .string den, .string text, .bool on, .int .i64 code, .int .i64 rows, .int .i64 cols, .slice A n c]] W fun e w' => e = .returned (.int .i64 0) ∧ Below W.heap.size W w' from fun W => by
      have := zeros_any ⟨k, num, den, text, on, code, rows, cols, A, n, c⟩ W k0 k5
      rw [hz] at this
      exact this)
    have HX := Lib.hid fun W => check_any num den W s1 s2
    have HT := Lib.hid fun W hW => vtext_any text W (HE.out W hW).u8 s3
    have HF1 := Lib.hid fun (j : Nat) W hW => ftext_in j W (HE.out W hW)
    have HF2 := Lib.hid fun (j : Int) W => ftext_out j W
    have hok : Vl.ok ⟨k, num, den, text, on, code, rows, cols, A, n, c⟩ ↔ (k = 1 → ∃ m n d, Nt.Rd num.data.toList den.data.toList m n d) ∧ (k = 2 → txtE text = 0) ∧ (k = 4 → 1 ≤ code ∧ code ≤ 8) :=
      ⟨fun h => h.2.2.2, fun h => ⟨k0, show k ≤ 4 by omega, hz, h⟩⟩
    have HOK := Lib.hid hok
    clear hok hz s1 s2 s3
    rcases (show k = 0 ∨ k = 1 ∨ k = 2 ∨ k = 3 ∨ k = 4 by omega) with rfl | rfl | rfl | rfl | rfl
    · go_enter Tryz.func15, Tryz.ntmps15
      go_wp2_with (go_at_call 40; (with_reducible refine (HZ.out _).mono ?_); rintro e w1 ⟨rfl, hb⟩; have HL1 := Lib.hid (HL0.out.step hb); have hk := ((HL1.out.blk (g := w.heap.size) (t := 27) (cs := #[.int .i64 0, .string num, .string den, .string text, .bool on, .int .i64 code, .int .i64 rows, .int .i64 cols, .slice A n c]) (by simp)).cell 0); clear hb)
      go_ret
      exact ⟨0, rfl, ⟨fun _ => HOK.out.2 ⟨fun h => by omega, fun h => by omega, fun h => by omega⟩, fun _ => rfl⟩, HL1.out.bel⟩
    · go_enter Tryz.func15, Tryz.ntmps15
      go_wp2_with (first
        | (go_at_call 40; (with_reducible refine (HZ.out _).mono ?_); rintro e w1 ⟨rfl, hb⟩; have HL1 := Lib.hid (HL0.out.step hb); have hk := ((HL1.out.blk (g := w.heap.size) (t := 27) (cs := #[.int .i64 1, .string num, .string den, .string text, .bool on, .int .i64 code, .int .i64 rows, .int .i64 cols, .slice A n c]) (by simp)).cell 0); have hk1 := ((HL1.out.blk (g := w.heap.size) (t := 27) (cs := #[.int .i64 1, .string num, .string den, .string text, .bool on, .int .i64 code, .int .i64 rows, .int .i64 cols, .slice A n c]) (by simp)).cell 1); have hk2 := ((HL1.out.blk (g := w.heap.size) (t := 27) (cs := #[.int .i64 1, .string num, .string den, .string text, .bool on, .int .i64 code, .int .i64 rows, .int .i64 cols, .slice A n c]) (by simp)).cell 2); clear hb)
        | (go_at_call 41; (with_reducible refine (HX.out _).mono ?_); rintro e w2 ⟨r, rfl, hc, hb⟩; have HL2 := Lib.hid (HL1.out.step hb); have HC := Lib.hid hc; clear hb hc))
      go_ret
      exact ⟨r, rfl, HC.out.trans ⟨fun h => HOK.out.2 ⟨fun _ => h, fun h => by omega, fun h => by omega⟩, fun h => (HOK.out.1 h).1 (by simp)⟩, HL2.out.bel⟩
    · go_enter Tryz.func15, Tryz.ntmps15
      go_wp2_with (first
        | (go_at_call 40; (with_reducible refine (HZ.out _).mono ?_); rintro e w1 ⟨rfl, hb⟩; have HL1 := Lib.hid (HL0.out.step hb); have hk := ((HL1.out.blk (g := w.heap.size) (t := 27) (cs := #[.int .i64 2, .string num, .string den, .string text, .bool on, .int .i64 code, .int .i64 rows, .int .i64 cols, .slice A n c]) (by simp)).cell 0); have hk1 := ((HL1.out.blk (g := w.heap.size) (t := 27) (cs := #[.int .i64 2, .string num, .string den, .string text, .bool on, .int .i64 code, .int .i64 rows, .int .i64 cols, .slice A n c]) (by simp)).cell 3); clear hb)
        | (go_at_call 42; (with_reducible refine (HT.out _ HL1.out.bel).mono ?_); rintro e w2 ⟨rfl, hb⟩; have HL2 := Lib.hid (HL1.out.step hb); clear hb))
      go_ret
      exact ⟨txtE text, rfl, ⟨fun h => HOK.out.2 ⟨fun h => by omega, fun _ => h, fun h => by omega⟩, fun h => (HOK.out.1 h).2.1 (by simp)⟩, HL2.out.bel⟩
    · go_enter Tryz.func15, Tryz.ntmps15
      go_wp2_with (go_at_call 40; (with_reducible refine (HZ.out _).mono ?_); rintro e w1 ⟨rfl, hb⟩; have HL1 := Lib.hid (HL0.out.step hb); have hk := ((HL1.out.blk (g := w.heap.size) (t := 27) (cs := #[.int .i64 3, .string num, .string den, .string text, .bool on, .int .i64 code, .int .i64 rows, .int .i64 cols, .slice A n c]) (by simp)).cell 0); clear hb)
      go_ret
      exact ⟨0, rfl, ⟨fun _ => HOK.out.2 ⟨fun h => by omega, fun h => by omega, fun h => by omega⟩, fun _ => rfl⟩, HL1.out.bel⟩
    · by_cases hco : 1 ≤ code ∧ code ≤ 8
      · obtain ⟨c1, c8⟩ := hco
        obtain ⟨j, rfl⟩ : ∃ j : Nat, code = (j : Int) := ⟨code.toNat, by omega⟩
        have hne := faultS_ne (k := j) (by omega) (by omega)
        have HF := Lib.hid fun W hW => HF1.out j W hW (by omega) (by omega)
        generalize faultS j = fs at *
        go_enter Tryz.func15, Tryz.ntmps15
        go_wp2_with (first
          | (go_at_call 40; (with_reducible refine (HZ.out _).mono ?_); rintro e w1 ⟨rfl, hb⟩; have HL1 := Lib.hid (HL0.out.step hb); have hk := ((HL1.out.blk (g := w.heap.size) (t := 27) (cs := #[.int .i64 4, .string num, .string den, .string text, .bool on, .int .i64 j, .int .i64 rows, .int .i64 cols, .slice A n c]) (by simp)).cell 0); have hk1 := ((HL1.out.blk (g := w.heap.size) (t := 27) (cs := #[.int .i64 4, .string num, .string den, .string text, .bool on, .int .i64 j, .int .i64 rows, .int .i64 cols, .slice A n c]) (by simp)).cell 5); clear hb)
          | (go_at_call 43; (with_reducible refine (HF.out _ HL1.out.bel).mono ?_); rintro e w2 ⟨rfl, rfl⟩))
        go_ret
        exact ⟨0, rfl, ⟨fun _ => HOK.out.2 ⟨fun h => by omega, fun h => by omega, fun _ => ⟨c1, c8⟩⟩, fun _ => rfl⟩, HL1.out.bel⟩
      · have HF := Lib.hid fun W => HF2.out code W (by omega)
        have HN := Lib.hid hco
        clear hco
        go_enter Tryz.func15, Tryz.ntmps15
        go_wp2_with (first
          | (go_at_call 40; (with_reducible refine (HZ.out _).mono ?_); rintro e w1 ⟨rfl, hb⟩; have HL1 := Lib.hid (HL0.out.step hb); have hk := ((HL1.out.blk (g := w.heap.size) (t := 27) (cs := #[.int .i64 4, .string num, .string den, .string text, .bool on, .int .i64 code, .int .i64 rows, .int .i64 cols, .slice A n c]) (by simp)).cell 0); have hk1 := ((HL1.out.blk (g := w.heap.size) (t := 27) (cs := #[.int .i64 4, .string num, .string den, .string text, .bool on, .int .i64 code, .int .i64 rows, .int .i64 cols, .slice A n c]) (by simp)).cell 5); clear hb)
          | (go_at_call 43; (with_reducible refine (HF.out _).mono ?_); rintro e w2 ⟨rfl, rfl⟩))
        go_ret
        exact ⟨2, rfl, ⟨fun h => absurd h (by decide), fun h => absurd ((HOK.out.1 h).2.2 (by simp)) HN.out⟩, HL1.out.bel⟩
end Go.Proofs.YtmmlcponmdalmaaGreatDoor
