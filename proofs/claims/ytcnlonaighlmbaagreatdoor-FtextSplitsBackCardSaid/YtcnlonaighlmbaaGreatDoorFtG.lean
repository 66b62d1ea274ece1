/- ftext: answers of any kind; stops. -/
import Derived.Test.YtcnlonaighlmbaaGreatDoorFtB
import Derived.Test.YtcnlonaighlmbaaGreatDoorHae
set_option linter.unusedSimpArgs false
set_option linter.unusedVariables false
namespace Go.Proofs.YtcnlonaighlmbaaGreatDoor
open Go.RowKit

/-- An error value. -/
def fltU (code : Int) : Vl := ⟨4, ⟨#[]⟩, ⟨#[]⟩, ⟨#[]⟩, false, code, 0, 0, none, 0, 0⟩
/-- What a function answers: fields and items. -/
def ResG (B0 W : World) (G : List Nat) (Φ : Vl → List Vl → Prop) (e : Ending) (w' : World) : Prop :=
  ∃ (k : Int) (num den text : ByteArray) (on : Bool) (code rr rc : Int) (A : Option Addr) (n c : Nat) (us : List Vl), e = .returned (.agg #[.int .i64 k, .string num, .string den, .string text, .bool on, .int .i64 code, .int .i64 rr, .int .i64 rc, .slice A n c]) ∧ Φ ⟨k, num, den, text, on, code, rr, rc, none, 0, 0⟩ us ∧ Reads 9 csV w' (.slice A n c) us ∧ Fresh B0.heap.size W.heap.size A ∧ Chg W.heap.size G W w'
/-- The function stops with a code. -/
def PanP (j : Nat) (W : World) (G : List Nat) (e : Ending) (w' : World) : Prop := e = .panicked [{ v := .iface 84 (.int .i64 (j : Int)), recovered := false }] ∧ Chg W.heap.size G W w'
theorem reads_nil {α : Type} {size : Nat} {f : α → List Value} (W : World) : Reads size f W (.slice none 0 0) [] := ⟨none, 0, rfl, by simp, by simp, fun h => absurd h (by simp)⟩
theorem reads_same2 {α : Type} {size : Nat} {f : α → List Value} {W W' : World} {A : Option Addr} {n c : Nat} {l : List α} (h : Reads size f W (.slice A n c) l) (hs : W.heap.size ≤ W'.heap.size) (hb : ∀ b o, A = some ⟨b, o, none⟩ → b < W.heap.size → W'.heap[b]? = W.heap[b]?) : Reads size f W' (.slice A n c) l := by
  obtain ⟨A', c', e, h1, h2, h3⟩ := h
  injection e with e1 e2 e3
  subst e1 e2 e3
  refine ⟨A, c, rfl, h1, h2, fun h0 => ?_⟩
  obtain ⟨b, o, e', hl, hc⟩ := h3 h0
  exact ⟨b, o, e', Nat.lt_of_lt_of_le hl hs, fun i hi j hj => (World.cell?_of_block (hb b o e' hl)).trans (hc i hi j hj)⟩
/-- The fields that the walks look at. -/
def HdOk (h : Vl) (us : List Vl) : Prop := (h.rows = 0 ∧ us = []) ∨ (1 ≤ h.rows ∧ h.rows ≤ 100 ∧ 0 ≤ h.cols ∧ h.cols ≤ 1000 ∧ 0 < us.length ∧ us.length ≤ 100000)
theorem Stop_p (j : Nat) (W : World) (hj : 1 ≤ j) : Calls Tryz.prog 108 #[.int .i64 (j : Int)] W fun e w' => e = .panicked [{ v := .iface 84 (.int .i64 (j : Int)), recovered := false }] ∧ W = w' := by
  have h1 : ((j : Int) != 0) = true := by rw [bne_iff_ne]; omega
  have h2 : ¬ (j : Int) = 0 := by omega
  have h3 : ¬ j = 0 := by omega
  go_enter Tryz.func108, Tryz.ntmps108
  go_wp2_with fail
  exact ⟨rfl, rfl, rfl⟩
theorem wrong_f (W : World) : Calls Tryz.prog 115 #[.bool false] W fun e w' => e = .returned (.tuple #[]) ∧ W = w' := by
  go_enter Tryz.func115, Tryz.ntmps115
  go_wp2_with fail
  go_end0
  exact ⟨rfl, rfl⟩
theorem wrong_b {b : Bool} (hb : b = false) (W : World) : Calls Tryz.prog 115 #[.bool b] W fun e w' => e = .returned (.tuple #[]) ∧ W = w' := by
  subst hb
  exact wrong_f W
theorem wrong_p (W : World) : Calls Tryz.prog 115 #[.bool true] W fun e w' => e = .panicked [{ v := .iface 84 (.int .i64 2), recovered := false }] ∧ W = w' := by
  have HS := Lib.hid (show Calls Tryz.prog 108 #[.int .i64 2] W fun e w' => e = .panicked [{ v := .iface 84 (.int .i64 2), recovered := false }] ∧ W = w' from Stop_p 2 W (by decide))
  go_enter Tryz.func115, Tryz.ntmps115
  go_wp2_with (go_at_call 108; (with_reducible refine HS.out.mono ?_); rintro e w1 ⟨rfl, rfl⟩)
  exact ⟨rfl, rfl, rfl⟩
theorem wrong_q {b : Bool} (hb : b = true) (W : World) : Calls Tryz.prog 115 #[.bool b] W fun e w' => e = .panicked [{ v := .iface 84 (.int .i64 2), recovered := false }] ∧ W = w' := by
  subst hb
  exact wrong_p W
end Go.Proofs.YtcnlonaighlmbaaGreatDoor
