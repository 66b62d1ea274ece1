/- The blocks that a call has made itself, as a list: what they hold, while the world goes on. -/
import Derived.Test.YtcnlonaighlmbaaGreatDoorHaa
import Derived.Lib.Hide
set_option linter.unusedSimpArgs false
set_option linter.unusedVariables false
namespace Go.Proofs.YtcnlonaighlmbaaGreatDoor
open Go.RowKit

def Loc (w : World) (L : List (Nat × TypeId × Array Value)) (W : World) : Prop := Below w.heap.size w W ∧ ∀ x ∈ L, w.heap.size ≤ x.1 ∧ Blk W x.1 x.2.1 x.2.2
section
variable {w W W' : World} {L : List (Nat × TypeId × Array Value)} {g : Nat} {t : TypeId} {cs : Array Value}
theorem Loc.start (w : World) : Loc w [] w := ⟨Below.refl _ _, fun _ h => by cases h⟩
theorem Loc.bel (h : Loc w L W) : Below w.heap.size w W := h.1
theorem Loc.blk (h : Loc w L W) (hm : (g, t, cs) ∈ L) : Blk W g t cs := (h.2 _ hm).2
theorem Loc.alloc (h : Loc w L W) (t : TypeId) (cs : Array Value) : Loc w ((W.heap.size, t, cs) :: L) (W.alloc (.cells cs t)) :=
  ⟨h.1.alloc h.1.size _, fun x hx => by
    rcases List.mem_cons.1 hx with rfl | hx
    · exact ⟨h.1.size, Blk.new _ _ _⟩
    · exact ⟨(h.2 x hx).1, (h.2 x hx).2.alloc _⟩⟩
theorem Loc.alloc' (h : Loc w L W) (e : W.heap.size = g) (t : TypeId) (cs : Array Value) : Loc w ((g, t, cs) :: L) (W.alloc (.cells cs t)) := e ▸ h.alloc t cs
theorem Loc.step (h : Loc w L W) (hb : Below W.heap.size W W') : Loc w L W' := ⟨h.1.trans (hb.mono h.1.size), fun x hx => ⟨(h.2 x hx).1, (h.2 x hx).2.later hb⟩⟩
theorem Loc.drew (h : Loc w L W) : Loc w L W.drew := ⟨Below.drew h.1, fun x hx => ⟨(h.2 x hx).1, (h.2 x hx).2.drew⟩⟩
theorem Loc.drewN (h : Loc w L W) (n : Nat) : Loc w L (W.drewN n) := ⟨⟨h.1.os, h.1.tape, h.1.output, h.1.size, h.1.block⟩, fun x hx => ⟨(h.2 x hx).1, (h.2 x hx).2.drewN n⟩⟩
theorem Loc.lt (h : Loc w L W) (hm : (g, t, cs) ∈ L) : g < W.heap.size := (h.blk hm).lt
theorem Loc.set1 {i : Nat} (h : Loc w ((g, t, cs) :: L) W) (hne : ∀ x ∈ L, x.1 ≠ g) (y : Value) : Loc w ((g, t, cs.setIfInBounds i y) :: L) (W.setCell ⟨g, i, none⟩ y) :=
  ⟨h.1.setCell (p := ⟨g, i, none⟩) (h.2 _ (List.mem_cons_self ..)).1 _, fun x hx => by
    rcases List.mem_cons.1 hx with rfl | hx
    · exact ⟨(h.2 _ (List.mem_cons_self ..)).1, (h.2 _ (List.mem_cons_self ..)).2.set_ _ _⟩
    · have := h.2 x (List.mem_cons_of_mem _ hx)
      exact ⟨this.1, this.2.far (hne x hx) _⟩⟩
theorem Loc.set3 {x0 x1 x2 : Value} (h : Loc w ((g, t, #[x0, x1, x2]) :: L) W) (hne : ∀ x ∈ L, x.1 ≠ g) (y0 y1 y2 : Value) :
    Loc w ((g, t, #[y0, y1, y2]) :: L) (((W.setCell ⟨g, 0, none⟩ y0).setCell ⟨g, 1, none⟩ y1).setCell ⟨g, 2, none⟩ y2) :=
  ⟨below_three h.1 (h.2 _ (List.mem_cons_self ..)).1 _ _ _, fun x hx => by
    rcases List.mem_cons.1 hx with rfl | hx
    · exact ⟨(h.2 _ (List.mem_cons_self ..)).1, ((h.2 _ (List.mem_cons_self ..)).2.three_set _ _ _).1⟩
    · have := h.2 x (List.mem_cons_of_mem _ hx)
      exact ⟨this.1, this.2.three_far (hne x hx) _ _ _⟩⟩
theorem Loc.perm {L' : List (Nat × TypeId × Array Value)} (h : Loc w L W) (hs : ∀ x ∈ L', x ∈ L) : Loc w L' W := ⟨h.1, fun x hx => h.2 x (hs x hx)⟩
end
end Go.Proofs.YtcnlonaighlmbaaGreatDoor
