/- value: how the text 1900-01-02 is entered: the readers of numbers and fractions refuse it. -/
import Derived.Test.YtmapagbmihpbmaaGreatDoorVaC
import Derived.Test.YtmapagbmihpbmaaGreatDoorGk
import Derived.Test.YtmapagbmihpbmaaGreatDoorVaB
import Derived.Test.YtmapagbmihpbmaaGreatDoorGc
import Derived.Deep.QuietTactic
import Derived.BigQuiet
import Derived.Test.YtmapagbmihpbmaaGreatDoorVaD
import Derived.Test.YtmapagbmihpbmaaGreatDoorGj
namespace Go.Proofs.YtmapagbmihpbmaaGreatDoor
open Go.RowKit

theorem cp0 (w : World) : Calls Tryz.prog 100 #[.string ⟨#[49, 57, 48, 48, 45, 48, 49, 45, 48, 50]⟩, .string ⟨#[45]⟩] w fun e w' => e = .returned (.tuple #[.string ⟨#[49, 57, 48, 48, 45, 48, 49, 45, 48, 50]⟩, .bool false]) ∧ w = w' :=
  (Tryz.strings_CutPrefix ⟨#[49, 57, 48, 48, 45, 48, 49, 45, 48, 50]⟩ ⟨#[45]⟩ w).mono fun _e _w' ⟨h1, h2⟩ => ⟨h1, h2.symm⟩
theorem cp1 (w : World) : Calls Tryz.prog 100 #[.string ⟨#[45, 48, 49, 45, 48, 50]⟩, .string ⟨#[46]⟩] w fun e w' => e = .returned (.tuple #[.string ⟨#[45, 48, 49, 45, 48, 50]⟩, .bool false]) ∧ w = w' :=
  (Tryz.strings_CutPrefix ⟨#[45, 48, 49, 45, 48, 50]⟩ ⟨#[46]⟩ w).mono fun _e _w' ⟨h1, h2⟩ => ⟨h1, h2.symm⟩
theorem cp2 (w : World) : Calls Tryz.prog 100 #[.string ⟨#[49, 57, 48, 48, 45, 48, 49, 45, 48, 50]⟩, .string ⟨#[39]⟩] w fun e w' => e = .returned (.tuple #[.string ⟨#[49, 57, 48, 48, 45, 48, 49, 45, 48, 50]⟩, .bool false]) ∧ w = w' :=
  (Tryz.strings_CutPrefix ⟨#[49, 57, 48, 48, 45, 48, 49, 45, 48, 50]⟩ ⟨#[39]⟩ w).mono fun _e _w' ⟨h1, h2⟩ => ⟨h1, h2.symm⟩
/-- The answer of a reader that refuses. -/
def NoFr (w : World) (e : Ending) (w' : World) : Prop := e = .returned (.tuple #[.agg #[.string ⟨#[]⟩, .string ⟨#[]⟩], .bool false]) ∧ Below w.heap.size w w'
theorem ecat0 : ((⟨#[]⟩ ++ ⟨#[49, 57, 48, 48]⟩ ++ ⟨#[45, 48, 49, 45, 48, 50]⟩ : ByteArray)) = ⟨#[49, 57, 48, 48, 45, 48, 49, 45, 48, 50]⟩ := ba_ext (by rw [ByteArray.toList_data_append, ByteArray.toList_data_append]; rfl)
/-- What the walks of value ask of the world. -/
structure VEnv (W : World) : Prop where
  u8 : Lib.Utf8Tabs 3 4 W
  pw : Lib.TabIs Tryz.prog W "internal/strconv.uint64pow10" .u64 Lib.pow10Tab
  mx : ∃ m, W.cell? ⟨2, 0, none⟩ = some (.int .i64 m)
  f0 : W.cell? ⟨1, 0, none⟩ = some (.string ⟨#[]⟩)
  f1 : W.cell? ⟨1, 1, none⟩ = some (.string ⟨#[35, 68, 73, 86, 47, 48, 33]⟩)
  f2 : W.cell? ⟨1, 2, none⟩ = some (.string ⟨#[35, 86, 65, 76, 85, 69, 33]⟩)
  f3 : W.cell? ⟨1, 3, none⟩ = some (.string ⟨#[35, 82, 69, 70, 33]⟩)
  f4 : W.cell? ⟨1, 4, none⟩ = some (.string ⟨#[35, 78, 65, 77, 69, 63]⟩)
  f5 : W.cell? ⟨1, 5, none⟩ = some (.string ⟨#[35, 78, 85, 77, 33]⟩)
  f6 : W.cell? ⟨1, 6, none⟩ = some (.string ⟨#[35, 78, 47, 65]⟩)
  f7 : W.cell? ⟨1, 7, none⟩ = some (.string ⟨#[35, 83, 80, 73, 76, 76, 33]⟩)
  f8 : W.cell? ⟨1, 8, none⟩ = some (.string ⟨#[35, 67, 89, 67, 76, 69, 33]⟩)
theorem cell_later {w W : World} {b o : Nat} {v : Value} (h : w.cell? ⟨b, o, none⟩ = some v) (hb : Below w.heap.size w W) : W.cell? ⟨b, o, none⟩ = some v :=
  (hb.cell (p := ⟨b, o, none⟩) (World.block_lt_of_cell? _ _ h)).trans h
theorem VEnv.below {w W : World} (h : VEnv w) (hb : Below w.heap.size w W) : VEnv W :=
  ⟨Utf8Tabs_below h.u8 hb, Lib.tabBelow_of_tabIs h.pw W hb, by obtain ⟨m, hm⟩ := h.mx; exact ⟨m, cell_later hm hb⟩, cell_later h.f0 hb, cell_later h.f1 hb, cell_later h.f2 hb, cell_later h.f3 hb, cell_later h.f4 hb, cell_later h.f5 hb, cell_later h.f6 hb, cell_later h.f7 hb, cell_later h.f8 hb⟩

end Go.Proofs.YtmapagbmihpbmaaGreatDoor

namespace Go.Proofs.YtmapagbmihpbmaaGreatDoor
open Go.RowKit

/-- The texts of the faults. -/
def faultS : Nat → ByteArray
  | 1 => ⟨#[35, 68, 73, 86, 47, 48, 33]⟩
  | 2 => ⟨#[35, 86, 65, 76, 85, 69, 33]⟩
  | 3 => ⟨#[35, 82, 69, 70, 33]⟩
  | 4 => ⟨#[35, 78, 65, 77, 69, 63]⟩
  | 5 => ⟨#[35, 78, 85, 77, 33]⟩
  | 6 => ⟨#[35, 78, 47, 65]⟩
  | 7 => ⟨#[35, 83, 80, 73, 76, 76, 33]⟩
  | 8 => ⟨#[35, 67, 89, 67, 76, 69, 33]⟩
  | _ => ⟨#[]⟩
theorem VEnv.ft {W : World} (h : VEnv W) (k : Nat) (hk : k ≤ 8) : W.cell? ⟨1, k, none⟩ = some (.string (faultS k)) := by
  rcases (show k = 0 ∨ k = 1 ∨ k = 2 ∨ k = 3 ∨ k = 4 ∨ k = 5 ∨ k = 6 ∨ k = 7 ∨ k = 8 by omega) with rfl | rfl | rfl | rfl | rfl | rfl | rfl | rfl | rfl
  · exact h.f0
  · exact h.f1
  · exact h.f2
  · exact h.f3
  · exact h.f4
  · exact h.f5
  · exact h.f6
  · exact h.f7
  · exact h.f8
theorem faultS_ne {k : Nat} (h1 : 1 ≤ k) (h8 : k ≤ 8) : (faultS k).toList.isEmpty = false := by
  rcases (show k = 1 ∨ k = 2 ∨ k = 3 ∨ k = 4 ∨ k = 5 ∨ k = 6 ∨ k = 7 ∨ k = 8 by omega) with rfl | rfl | rfl | rfl | rfl | rfl | rfl | rfl <;> (rw [Lib.toList_data]; rfl)
set_option maxRecDepth 100000 in
theorem ftext_in (k : Nat) (w : World) (he : VEnv w) (h1 : 1 ≤ k) (h8 : k ≤ 8) :
    Calls Tryz.prog 62 #[.int .i64 (k : Int)] w fun e w' => e = .returned (.string (faultS k)) ∧ w = w' := by
  have hf := he.ft k h8
  have g1 : (1 : Int) ≤ (k : Int) := by omega
  have g2 : (k : Int) < 9 := by omega
  generalize faultS k = s at *
  clear he
  go_enter Tryz.func62, Tryz.ntmps62
  go_wp2
  go_ret
  exact ⟨rfl, rfl⟩
theorem ftext_out (k : Int) (w : World) (h : k < 1 ∨ 9 ≤ k) :
    Calls Tryz.prog 62 #[.int .i64 k] w fun e w' => e = .returned (.string ⟨#[]⟩) ∧ w = w' := by
  rcases h with h | h
  · go_enter Tryz.func62, Tryz.ntmps62
    go_wp2
    go_ret
    exact ⟨rfl, rfl⟩
  · go_enter Tryz.func62, Tryz.ntmps62
    go_wp2
    go_ret
    exact ⟨rfl, rfl⟩

/-- A valid value that is no array. -/
def Vl.ok (v : Vl) : Prop := 0 ≤ v.k ∧ v.k ≤ 4 ∧ v.zB = true ∧ (v.k = 1 → ∃ m n d, Nt.Rd v.num.data.toList v.den.data.toList m n d) ∧ (v.k = 2 → txtE v.text = 0) ∧ (v.k = 4 → 1 ≤ v.code ∧ v.code ≤ 8)
/-- What Check answers. -/
def ChkRet (p : Prop) (w : World) (e : Ending) (w' : World) : Prop := ∃ c : Int, e = .returned (.int .i64 c) ∧ (c = 0 ↔ p) ∧ Below w.heap.size w w'

set_option maxRecDepth 100000 in
set_option maxHeartbeats 4000000 in
theorem check_na (v : Vl) (w : World) (he : VEnv w) (hk : v.k ≠ 5) (s1 : v.num.size ≤ 9223372036854775807) (s2 : v.den.size ≤ 9223372036854775807) (s3 : v.text.size ≤ 9223372036854775807) :
    Calls Tryz.prog 34 #[v.v] w (ChkRet v.ok w) := by
  obtain ⟨k, num, den, text, on, code, rows, cols, A, n, c⟩ := v
  dsimp only at hk s1 s2 s3
  have HL0 := Lib.hid ((Loc.start w).alloc' rfl 27 #[.int .i64 k, .string num, .string den, .string text, .bool on, .int .i64 code, .int .i64 rows, .int .i64 cols, .slice A n c])
  have HE := Lib.hid (show ∀ W, Below w.heap.size w W → VEnv W from fun W hb => he.below hb)
  clear he
  show Calls Tryz.prog 34 #[.agg #[.int .i64 k, .string num, .string den, .string text, .bool on, .int .i64 code, .int .i64 rows, .int .i64 cols, .slice A n c]] w _
  by_cases hr : 0 ≤ k ∧ k ≤ 5
  case neg =>
    rcases (show k < 0 ∨ 5 < k by omega) with h | h
    all_goals
      have HN := Lib.hid (show ¬ Vl.ok ⟨k, num, den, text, on, code, rows, cols, A, n, c⟩ from fun h => by have h1 : (0 : Int) ≤ k := h.1; have h2 : k ≤ 4 := h.2.1; omega)
      clear hr
      go_enter Tryz.func34, Tryz.ntmps34
      go_wp2
      go_ret
      exact ⟨8, rfl, ⟨fun h => absurd h (by decide), fun h => absurd h HN.out⟩, HL0.out.bel⟩
  case pos =>
  obtain ⟨k0, k5⟩ := hr
  cases hz : Vl.zB ⟨k, num, den, text, on, code, rows, cols, A, n, c⟩ with
  | false =>
    have HN := Lib.hid (show ¬ Vl.ok ⟨k, num, den, text, on, code, rows, cols, A, n, c⟩ from fun h => by rw [h.2.2.1] at hz; cases hz)
    have HZ := Lib.hid (show ∀ W, Calls Tryz.prog 59 #[.agg #[.int .i64 k, .string num, .string den, .string text, .bool on, .int .i64 code, .int .i64 rows, .int .i64 cols, .slice A n c]] W fun e w' => e = .returned (.int .i64 4) ∧ Below W.heap.size W w' from fun W => by
      have := zeros_any ⟨k, num, den, text, on, code, rows, cols, A, n, c⟩ W k0 k5
      rw [hz] at this
      exact this)
    clear hz
    go_enter Tryz.func34, Tryz.ntmps34
    go_wp2_with (go_at_call 59; (with_reducible refine (HZ.out _).mono ?_); rintro e w1 ⟨rfl, hb⟩; have HL1 := Lib.hid (HL0.out.step hb); clear hb)
    go_ret
    exact ⟨4, rfl, ⟨fun h => absurd h (by decide), fun h => absurd h HN.out⟩, HL1.out.bel⟩
  | true =>
    have HZ := Lib.hid (show ∀ W, Calls Tryz.prog 59 #[.agg #[.int .i64 k, .string num, .string den, .string text, .bool on, .int .i64 code, .int .i64 rows, .int .i64 cols, .slice A n c]] W fun e w' => e = .returned (.int .i64 0) ∧ Below W.heap.size W w' from fun W => by
      have := zeros_any ⟨k, num, den, text, on, code, rows, cols, A, n, c⟩ W k0 k5
      rw [hz] at this
      exact this)
    have HX := Lib.hid fun W => check_any num den W s1 s2
    have HT := Lib.hid fun W hW => vtext_any text W (HE.out W hW).u8 s3
    have HF1 := Lib.hid fun (j : Nat) W hW => ftext_in j W (HE.out W hW)
    have HF2 := Lib.hid fun (j : Int) W => ftext_out j W
    have hok : Vl.ok ⟨k, num, den, text, on, code, rows, cols, A, n, c⟩ ↔ (k = 1 → ∃ m n d, Nt.Rd num.data.toList den.data.toList m n d) ∧ (k = 2 → txtE text = 0) ∧ (k = 4 → 1 ≤ code ∧ code ≤ 8) :=
      ⟨fun h => h.2.2.2, fun h => ⟨k0, show k ≤ 4 by omega, hz, h⟩⟩
    have HOK := Lib.hid hok
    clear hok hz s1 s2 s3
    rcases (show k = 0 ∨ k = 1 ∨ k = 2 ∨ k = 3 ∨ k = 4 by omega) with rfl | rfl | rfl | rfl | rfl
    · go_enter Tryz.func34, Tryz.ntmps34
      go_wp2_with (go_at_call 59; (with_reducible refine (HZ.out _).mono ?_); rintro e w1 ⟨rfl, hb⟩; have HL1 := Lib.hid (HL0.out.step hb); have hk := ((HL1.out.blk (g := w.heap.size) (t := 27) (cs := #[.int .i64 0, .string num, .string den, .string text, .bool on, .int .i64 code, .int .i64 rows, .int .i64 cols, .slice A n c]) (by simp)).cell 0); clear hb)
      go_ret
      exact ⟨0, rfl, ⟨fun _ => HOK.out.2 ⟨fun h => by omega, fun h => by omega, fun h => by omega⟩, fun _ => rfl⟩, HL1.out.bel⟩
    · go_enter Tryz.func34, Tryz.ntmps34
      go_wp2_with (first
        | (go_at_call 59; (with_reducible refine (HZ.out _).mono ?_); rintro e w1 ⟨rfl, hb⟩; have HL1 := Lib.hid (HL0.out.step hb); have hk := ((HL1.out.blk (g := w.heap.size) (t := 27) (cs := #[.int .i64 1, .string num, .string den, .string text, .bool on, .int .i64 code, .int .i64 rows, .int .i64 cols, .slice A n c]) (by simp)).cell 0); have hk1 := ((HL1.out.blk (g := w.heap.size) (t := 27) (cs := #[.int .i64 1, .string num, .string den, .string text, .bool on, .int .i64 code, .int .i64 rows, .int .i64 cols, .slice A n c]) (by simp)).cell 1); have hk2 := ((HL1.out.blk (g := w.heap.size) (t := 27) (cs := #[.int .i64 1, .string num, .string den, .string text, .bool on, .int .i64 code, .int .i64 rows, .int .i64 cols, .slice A n c]) (by simp)).cell 2); clear hb)
        | (go_at_call 60; (with_reducible refine (HX.out _).mono ?_); rintro e w2 ⟨r, rfl, hc, hb⟩; have HL2 := Lib.hid (HL1.out.step hb); have HC := Lib.hid hc; clear hb hc))
      go_ret
      exact ⟨r, rfl, HC.out.trans ⟨fun h => HOK.out.2 ⟨fun _ => h, fun h => by omega, fun h => by omega⟩, fun h => (HOK.out.1 h).1 (by simp)⟩, HL2.out.bel⟩
    · go_enter Tryz.func34, Tryz.ntmps34
      go_wp2_with (first
        | (go_at_call 59; (with_reducible refine (HZ.out _).mono ?_); rintro e w1 ⟨rfl, hb⟩; have HL1 := Lib.hid (HL0.out.step hb); have hk := ((HL1.out.blk (g := w.heap.size) (t := 27) (cs := #[.int .i64 2, .string num, .string den, .string text, .bool on, .int .i64 code, .int .i64 rows, .int .i64 cols, .slice A n c]) (by simp)).cell 0); have hk1 := ((HL1.out.blk (g := w.heap.size) (t := 27) (cs := #[.int .i64 2, .string num, .string den, .string text, .bool on, .int .i64 code, .int .i64 rows, .int .i64 cols, .slice A n c]) (by simp)).cell 3); clear hb)
        | (go_at_call 61; (with_reducible refine (HT.out _ HL1.out.bel).mono ?_); rintro e w2 ⟨rfl, hb⟩; have HL2 := Lib.hid (HL1.out.step hb); clear hb))
      go_ret
      exact ⟨txtE text, rfl, ⟨fun h => HOK.out.2 ⟨fun h => by omega, fun _ => h, fun h => by omega⟩, fun h => (HOK.out.1 h).2.1 (by simp)⟩, HL2.out.bel⟩
    · go_enter Tryz.func34, Tryz.ntmps34
      go_wp2_with (go_at_call 59; (with_reducible refine (HZ.out _).mono ?_); rintro e w1 ⟨rfl, hb⟩; have HL1 := Lib.hid (HL0.out.step hb); have hk := ((HL1.out.blk (g := w.heap.size) (t := 27) (cs := #[.int .i64 3, .string num, .string den, .string text, .bool on, .int .i64 code, .int .i64 rows, .int .i64 cols, .slice A n c]) (by simp)).cell 0); clear hb)
      go_ret
      exact ⟨0, rfl, ⟨fun _ => HOK.out.2 ⟨fun h => by omega, fun h => by omega, fun h => by omega⟩, fun _ => rfl⟩, HL1.out.bel⟩
    · by_cases hco : 1 ≤ code ∧ code ≤ 8
      · obtain ⟨c1, c8⟩ := hco
        obtain ⟨j, rfl⟩ : ∃ j : Nat, code = (j : Int) := ⟨code.toNat, by omega⟩
        have hne := faultS_ne (k := j) (by omega) (by omega)
        have HF := Lib.hid fun W hW => HF1.out j W hW (by omega) (by omega)
        generalize faultS j = fs at *
        go_enter Tryz.func34, Tryz.ntmps34
        go_wp2_with (first
          | (go_at_call 59; (with_reducible refine (HZ.out _).mono ?_); rintro e w1 ⟨rfl, hb⟩; have HL1 := Lib.hid (HL0.out.step hb); have hk := ((HL1.out.blk (g := w.heap.size) (t := 27) (cs := #[.int .i64 4, .string num, .string den, .string text, .bool on, .int .i64 j, .int .i64 rows, .int .i64 cols, .slice A n c]) (by simp)).cell 0); have hk1 := ((HL1.out.blk (g := w.heap.size) (t := 27) (cs := #[.int .i64 4, .string num, .string den, .string text, .bool on, .int .i64 j, .int .i64 rows, .int .i64 cols, .slice A n c]) (by simp)).cell 5); clear hb)
          | (go_at_call 62; (with_reducible refine (HF.out _ HL1.out.bel).mono ?_); rintro e w2 ⟨rfl, rfl⟩))
        go_ret
        exact ⟨0, rfl, ⟨fun _ => HOK.out.2 ⟨fun h => by omega, fun h => by omega, fun _ => ⟨c1, c8⟩⟩, fun _ => rfl⟩, HL1.out.bel⟩
      · have HF := Lib.hid fun W => HF2.out code W (by omega)
        have HN := Lib.hid hco
        clear hco
        go_enter Tryz.func34, Tryz.ntmps34
        go_wp2_with (first
          | (go_at_call 59; (with_reducible refine (HZ.out _).mono ?_); rintro e w1 ⟨rfl, hb⟩; have HL1 := Lib.hid (HL0.out.step hb); have hk := ((HL1.out.blk (g := w.heap.size) (t := 27) (cs := #[.int .i64 4, .string num, .string den, .string text, .bool on, .int .i64 code, .int .i64 rows, .int .i64 cols, .slice A n c]) (by simp)).cell 0); have hk1 := ((HL1.out.blk (g := w.heap.size) (t := 27) (cs := #[.int .i64 4, .string num, .string den, .string text, .bool on, .int .i64 code, .int .i64 rows, .int .i64 cols, .slice A n c]) (by simp)).cell 5); clear hb)
          | (go_at_call 62; (with_reducible refine (HF.out _).mono ?_); rintro e w2 ⟨rfl, rfl⟩))
        go_ret
        exact ⟨2, rfl, ⟨fun h => absurd h (by decide), fun h => absurd ((HOK.out.1 h).2.2 (by simp)) HN.out⟩, HL1.out.bel⟩
end Go.Proofs.YtmapagbmihpbmaaGreatDoor
