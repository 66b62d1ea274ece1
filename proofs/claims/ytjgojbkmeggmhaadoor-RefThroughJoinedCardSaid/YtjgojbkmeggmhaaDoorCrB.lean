/- Contracts of cellref: meaning, ordered. -/
import Derived.Test.YtjgojbkmeggmhaaDoorCrA
namespace Go.Proofs.YtjgojbkmeggmhaaDoor
open Go.RowKit

/-- A reference as a Lean structure; its value in the model. -/
structure Ref where
  sheet : ByteArray
  kind : Int
  row : Int
  col : Int
  row2 : Int
  col2 : Int
  ar : Bool
  ac : Bool
  ar2 : Bool
  ac2 : Bool

abbrev Ref.cs (r : Ref) : Array Value := #[.string r.sheet, .int .i64 r.kind, .int .i64 r.row, .int .i64 r.col, .int .i64 r.row2, .int .i64 r.col2, .bool r.ar, .bool r.ac, .bool r.ar2, .bool r.ac2]
abbrev Ref.v (r : Ref) : Value := .agg #[.string r.sheet, .int .i64 r.kind, .int .i64 r.row, .int .i64 r.col, .int .i64 r.row2, .int .i64 r.col2, .bool r.ar, .bool r.ac, .bool r.ar2, .bool r.ac2]

def Ref.bad : Ref := ⟨ByteArray.empty, 4, 0, 0, 0, 0, false, false, false, false⟩
def Ref.zero : Ref := ⟨ByteArray.empty, 0, 0, 0, 0, 0, false, false, false, false⟩

def Ref.meaning (r : Ref) : Ref :=
  if r.kind = 0 then { r with row2 := 0, col2 := 0, ar2 := false, ac2 := false }
  else if r.kind = 2 then { r with col := 0, col2 := 0, ac := false, ac2 := false }
  else if r.kind = 3 then { r with row := 0, row2 := 0, ar := false, ar2 := false }
  else if r.kind = 4 then Ref.bad
  else r

def Ref.ordered (r : Ref) : Ref :=
  if r.kind = 0 then r
  else if r.row2 < r.row then
    if r.col2 < r.col then ⟨r.sheet, r.kind, r.row2, r.col2, r.row, r.col, r.ar2, r.ac2, r.ar, r.ac⟩
    else ⟨r.sheet, r.kind, r.row2, r.col, r.row, r.col2, r.ar2, r.ac, r.ar, r.ac2⟩
  else if r.col2 < r.col then ⟨r.sheet, r.kind, r.row, r.col2, r.row2, r.col, r.ar, r.ac2, r.ar2, r.ac⟩
    else r

set_option maxHeartbeats 400000 in
theorem meaning_any (r : Ref) (w : World) :
    Calls Tryd.prog 43 #[r.v] w fun e w' => e = .returned (r.meaning).v ∧ (w.alloc (.cells r.meaning.cs 40)).alloc (.cells r.meaning.cs 40) = w' := by
  obtain ⟨sh, k, ro, co, ro2, co2, ar, ac, ar2, ac2⟩ := r
  by_cases k0 : k = 0
  · subst k0
    go_enter Tryd.func43, Tryd.ntmps43
    go_wp2
    go_returns
    exact ⟨rfl, rfl⟩
  by_cases k2 : k = 2
  · subst k2
    go_enter Tryd.func43, Tryd.ntmps43
    go_wp2
    go_returns
    exact ⟨rfl, rfl⟩
  by_cases k3 : k = 3
  · subst k3
    go_enter Tryd.func43, Tryd.ntmps43
    go_wp2
    go_returns
    exact ⟨rfl, rfl⟩
  by_cases k4 : k = 4
  · subst k4
    go_enter Tryd.func43, Tryd.ntmps43
    go_wp2
    go_returns
    exact ⟨rfl, rfl⟩
  · have e : Ref.meaning ⟨sh, k, ro, co, ro2, co2, ar, ac, ar2, ac2⟩ = ⟨sh, k, ro, co, ro2, co2, ar, ac, ar2, ac2⟩ := by simp [Ref.meaning, k0, k2, k3, k4]
    rw [e]
    go_enter Tryd.func43, Tryd.ntmps43
    go_wp2
    go_returns
    exact ⟨rfl, rfl⟩

set_option maxHeartbeats 400000 in
theorem ordered_any (r : Ref) (w : World) :
    Calls Tryd.prog 77 #[r.v] w fun e w' => e = .returned (r.ordered).v ∧ Below w.heap.size w w' := by
  obtain ⟨sh, k, ro, co, ro2, co2, ar, ac, ar2, ac2⟩ := r
  by_cases k0 : k = 0
  · subst k0
    go_enter Tryd.func77, Tryd.ntmps77
    go_wp2
    go_returns
    exact ⟨rfl, by go_grown⟩
  by_cases h1 : ro2 < ro
  all_goals by_cases h2 : co2 < co
  all_goals
    go_enter Tryd.func77, Tryd.ntmps77
    go_wp2
    go_returns
    exact ⟨by unfold Ref.ordered; dsimp only; repeat (first | rw [if_neg (by omega)] | rw [if_pos (by omega)]), by go_grown⟩
end Go.Proofs.YtjgojbkmeggmhaaDoor
