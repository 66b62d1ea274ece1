/- Rows of slices. -/
import Derived.Test.YtcnlonaighlmbaaGreatDoorRow
import Derived.Test.YtcnlonaighlmbaaGreatDoorHaa
import Derived.Deep.RegionLaw
import Derived.Deep.AppendLies
set_option linter.unusedSimpArgs false
set_option linter.unusedVariables false
namespace Go.Proofs.YtcnlonaighlmbaaGreatDoor
open Go.RowKit

/-- A slice's header. -/
abbrev SV : Type := Option Addr × Nat × Nat
def sv3 (x : SV) : Value := .slice x.1 x.2.1 x.2.2
/-- A row of slices. -/
def RS (W : World) (B g c : Nat) (l : List SV) : Prop := RowOf 24 1 (fun x => [sv3 x]) W B (.slice (some ⟨g, 0, none⟩) l.length c) l
theorem sv1_flat (l : List SV) : l.flatMap (fun x => [sv3 x]) = l.map sv3 := by
  induction l with
  | nil => rfl
  | cons x t ih => rw [List.flatMap_cons, List.map_cons, ih]; rfl
section
variable {W W' : World} {B g c : Nat} {l : List SV} {G : List Nat}
theorem RS.cell (h : RS W B g c l) {i : Nat} (hi : i < l.length) : W.cell? ⟨g, i, none⟩ = some (sv3 l[i]) := by
  have := World.ownsRow.cellAt (show W.ownsRow B 24 1 (.slice (some ⟨g, 0, none⟩) l.length c) l.length (l.flatMap fun x => [sv3 x]) from h) i (by omega)
  rw [this, sv1_flat]
  simp [hi]
theorem RS.frozen (h : RS W B g c l) (i : Nat) : W.frozen? ⟨g, i, none⟩ = false := World.ownsRow.frozenAt (show W.ownsRow B 24 1 (.slice (some ⟨g, 0, none⟩) l.length c) l.length (l.flatMap fun x => [sv3 x]) from h) i
theorem RS.set (h : RS W B g c l) (i : Nat) (x : SV) : RS (W.setCell ⟨g, i, none⟩ (sv3 x)) B g c (l.set i x) := by
  have := (World.ownsRow.stored (show W.ownsRow B 24 1 (.slice (some ⟨g, 0, none⟩) l.length c) l.length (l.flatMap fun x => [sv3 x]) from h) i (sv3 x)).1
  unfold RS RowOf
  rw [List.length_set, sv1_flat, List.map_set, ← sv1_flat]
  exact this
theorem RS.lt (h : RS W B g c l) : B ≤ g ∧ g < W.heap.size := World.ownsRow.lt h g rfl
theorem RS.later (h : RS W B g c l) (hb : Below W.heap.size W W') : RS W' B g c l := RowOf.later h hb
theorem RS.drewN (h : RS W B g c l) (n : Nat) : RS (W.drewN n) B g c l := h
theorem RS.drew (h : RS W B g c l) : RS W.drew B g c l := h
end
end Go.Proofs.YtcnlonaighlmbaaGreatDoor

namespace Go.Proofs.YtcnlonaighlmbaaGreatDoor
open Go.RowKit

section
variable {α : Type} {E : TypeId} {size : Nat} {f : α → List Value} {w w' : World} {v : Value} {l : List α} {base B : Nat} {G : List Nat}
theorem RowOf.chg (h : RowOf E size f w base v l) (hc : Chg B G w w') (hv : ∀ g, v.ownBlock = some g → g < B ∧ g ∉ G) : RowOf E size f w' base v l := by
  refine ⟨h.1, ?_⟩
  rcases h.2 with h0 | ⟨g, cap, cur, rfl, h1, h2, h3, h4, h5, h6⟩
  · exact .inl h0
  · exact .inr ⟨g, cap, cur, rfl, h1, (hc.block g (hv g rfl).1 (hv g rfl).2).trans h2, h3, h4, h5, h6⟩
theorem RowOf.lt (h : RowOf E size f w base v l) : ∀ k, v.ownBlock = some k → base ≤ k ∧ k < w.heap.size := World.ownsRow.lt h
end
section
variable {ops : Array Oper} {o : Oper} {a : Act} {K : Act → World → Prop} {Q : Exit → Act → World → Prop} {X : Prop}
/-- append of one element to a row of the call's own, at a step of a region that draws. -/
theorem step_row1 {α : Type} (T E : TypeId) (size bytes : Nat) (f : α → List Value) (z : Value) (hu : Tryz.prog.underlying T = some (.slice E)) (hinfo : (Tryz.prog.info? E).map (fun i => (i.zero, i.size, i.bytes)) = some (some z, size, bytes)) (hzs : z.cells.size = size) (hsz : 0 < size)
    (hf : ∀ x, (f x).length = size ∧ ∀ u ∈ f x, u.oneCell' = true)
    {w : World} (hgd : o.guard = none) (s x : Operand) (ho : o.op = .call { callee := .builtin .append, args := #[s, x], argTypes := #[T, T] })
    (base : Nat) (v : Value) (l : List α) (hs : a.eval s = v) (hown : RowOf E size f w base v l) (d : α) (cs : Array Value) (hcs : cs.toList = f d) (H : Nat) (hH : w.heap.size = H) (hx : a.eval x = .slice (some ⟨H, 0, none⟩) 1 1)
    (hby : (l.length + 1) * bytes ≤ 140737488355328) (h63 : l.length + 1 ≤ maxLen) (hbase : base ≤ w.heap.size)
    (h : ∀ g cap w', RowOf E size f w' base (.slice (some ⟨g, 0, none⟩) (l.length + 1) cap) (l ++ [d]) → Below base w w' → K (a.put o.dst (.slice (some ⟨g, 0, none⟩) (l.length + 1) cap)) w') :
    if Region.wanted o (yielded ops a.tmps) = true then Oper.wp Tryz.prog o a (w.alloc (.cells cs E)) K Q else X := by
  obtain ⟨i0, hi, hz0, hz1, hz2⟩ := info_parts hinfo
  subst hH
  refine step_append_lies (P := Tryz.prog) (w.alloc (.cells cs E)) hgd s x T ho base E i0 z size bytes hu hi hz0 hz1 hz2 hzs hsz v l.length (l.flatMap f) hs (hown.alloc _) ⟨w.heap.size, 0, none⟩ 1 1 (f d) hx (by rw [(hf d).1]; omega) (by rw [← hcs]; exact news_new _ _ _) (hf d).2 (by decide) h63 hby (by simp; omega) _ rfl ?_
  intro g cap w' h1 h2 _ _
  refine h g cap w' ?_ ?_
  · unfold RowOf
    rw [List.flatMap_append, List.length_append]
    simpa using h1
  · exact ((Below.refl _ _).alloc hbase _).grown h2 (by simp; omega) (fun k hk => ((World.ownsRow.lt hown) k hk).1)
end
end Go.Proofs.YtcnlonaighlmbaaGreatDoor
