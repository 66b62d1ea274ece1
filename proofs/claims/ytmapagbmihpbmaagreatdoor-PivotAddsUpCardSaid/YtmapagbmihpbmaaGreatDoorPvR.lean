/- Rows of slices. -/
import Derived.Test.YtmapagbmihpbmaaGreatDoorGn
import Derived.Test.YtmapagbmihpbmaaGreatDoorGc
namespace Go.Proofs.YtmapagbmihpbmaaGreatDoor
open Go.RowKit

/-- A slice's header. -/
abbrev SV : Type := Option Addr × Nat × Nat
def sv3 (x : SV) : Value := .slice x.1 x.2.1 x.2.2
/-- A row of slices. -/
def RS (W : World) (B g c : Nat) (l : List SV) : Prop := RowOf 25 1 (fun x => [sv3 x]) W B (.slice (some ⟨g, 0, none⟩) l.length c) l
theorem sv1_flat (l : List SV) : l.flatMap (fun x => [sv3 x]) = l.map sv3 := by
  induction l with
  | nil => rfl
  | cons x t ih => rw [List.flatMap_cons, List.map_cons, ih]; rfl
section
variable {W W' : World} {B g c : Nat} {l : List SV} {G : List Nat}
theorem RS.cell (h : RS W B g c l) {i : Nat} (hi : i < l.length) : W.cell? ⟨g, i, none⟩ = some (sv3 l[i]) := by
  have := World.ownsRow.cellAt (show W.ownsRow B 25 1 (.slice (some ⟨g, 0, none⟩) l.length c) l.length (l.flatMap fun x => [sv3 x]) from h) i (by omega)
  rw [this, sv1_flat]
  simp [hi]
theorem RS.frozen (h : RS W B g c l) (i : Nat) : W.frozen? ⟨g, i, none⟩ = false := World.ownsRow.frozenAt (show W.ownsRow B 25 1 (.slice (some ⟨g, 0, none⟩) l.length c) l.length (l.flatMap fun x => [sv3 x]) from h) i
theorem RS.set (h : RS W B g c l) (i : Nat) (x : SV) : RS (W.setCell ⟨g, i, none⟩ (sv3 x)) B g c (l.set i x) := by
  have := (World.ownsRow.stored (show W.ownsRow B 25 1 (.slice (some ⟨g, 0, none⟩) l.length c) l.length (l.flatMap fun x => [sv3 x]) from h) i (sv3 x)).1
  unfold RS RowOf
  rw [List.length_set, sv1_flat, List.map_set, ← sv1_flat]
  exact this
theorem RS.lt (h : RS W B g c l) : B ≤ g ∧ g < W.heap.size := World.ownsRow.lt h g rfl
theorem RS.later (h : RS W B g c l) (hb : Below W.heap.size W W') : RS W' B g c l := RowOf.later h hb
theorem RS.drewN (h : RS W B g c l) (n : Nat) : RS (W.drewN n) B g c l := h
theorem RS.drew (h : RS W B g c l) : RS W.drew B g c l := h
end
end Go.Proofs.YtmapagbmihpbmaaGreatDoor
