/- Rows of whole numbers that are exchanged: what a sort leaves. -/
import Derived.Test.YtllhefjblipddaaGreatDoorFmP
import Derived.Test.YtllhefjblipddaaGreatDoorGal
set_option linter.unusedSimpArgs false
set_option linter.unusedVariables false
namespace Go.Proofs.YtllhefjblipddaaGreatDoor
open Go.RowKit

/-- The row at g holds each of the numbers below N; no other block of before is changed. -/
def SS (N B g : Nat) (w W : World) : Prop := (∃ f, RF N W B g f ∧ Prm N f) ∧ Chg w.heap.size [g] w W
section
variable {N B g : Nat} {w W W' : World}
theorem SS.chg (h : SS N B g w W) : Chg w.heap.size [g] w W := h.2
theorem SS.drew (h : SS N B g w W) : SS N B g w W.drew := by
  obtain ⟨⟨f, h1, h2⟩, h3⟩ := h
  exact ⟨⟨f, h1.drew, h2⟩, h3.drew⟩
theorem SS.drewN (h : SS N B g w W) (n : Nat) : SS N B g w (W.drewN n) := by
  obtain ⟨⟨f, h1, h2⟩, h3⟩ := h
  exact ⟨⟨f, h1.drewN n, h2⟩, h3.drewN n⟩
theorem SS.later (h : SS N B g w W) (hb : Below W.heap.size W W') : SS N B g w W' := by
  obtain ⟨⟨f, h1, h2⟩, h3⟩ := h
  exact ⟨⟨f, h1.later hb, h2⟩, h3.next (Chg.of hb [g])⟩
theorem SS.cell (h : SS N B g w W) {i : Nat} (hi : i < N) : ∃ x, x < N ∧ W.cell? ⟨g, i, none⟩ = some (.int .i64 ((x : Nat) : Int)) ∧ ∀ W', Below W.heap.size W W' → W'.cell? ⟨g, i, none⟩ = some (.int .i64 ((x : Nat) : Int)) := by
  obtain ⟨⟨f, h1, h2⟩, h3⟩ := h
  exact ⟨f i, h2.1 i hi, h1.cell hi, fun W' hW => (hW.cell h1.lt.2).trans (h1.cell hi)⟩
theorem SS.frozen (h : SS N B g w W) (i : Nat) : W.frozen? ⟨g, i, none⟩ = false := by
  obtain ⟨⟨f, h1, h2⟩, h3⟩ := h
  exact h1.frozen i
theorem SS.lt (h : SS N B g w W) : B ≤ g ∧ g < W.heap.size := by
  obtain ⟨⟨f, h1, h2⟩, h3⟩ := h
  exact h1.lt
theorem SS.swap (h : SS N B g w W) {i j : Nat} (hi : i < N) (hj : j < N) {x y : Nat} (hx : W.cell? ⟨g, i, none⟩ = some (.int .i64 ((x : Nat) : Int))) (hy : W.cell? ⟨g, j, none⟩ = some (.int .i64 ((y : Nat) : Int))) :
    SS N B g w ((W.setCell ⟨g, i, none⟩ (.int .i64 ((y : Nat) : Int))).setCell ⟨g, j, none⟩ (.int .i64 ((x : Nat) : Int))) := by
  obtain ⟨⟨f, h1, h2⟩, h3⟩ := h
  have e1 := h1.cell hi
  have e2 := h1.cell hj
  rw [hx] at e1
  rw [hy] at e2
  have e1 : x = f i := by
    injection e1 with e
    injection e with _ e
    omega
  have e2 : y = f j := by
    injection e2 with e
    injection e with _ e
    omega
  refine ⟨⟨swF f i j, ((h1.set i y).set j x).congr (fun z _ => ?_), h2.swap hi hj⟩, (h3.set (p := ⟨g, i, none⟩) (.inl (List.mem_singleton.2 rfl)) _).set (p := ⟨g, j, none⟩) (.inl (List.mem_singleton.2 rfl)) _⟩
  unfold swF
  rw [e1, e2]
end
/-- What the comparison of two numbers answers: some number. -/
def CmpZ (w : World) (g N p : Nat) : Prop := ∀ W, Chg w.heap.size [g] w W → ∀ i k : Nat, i < N → k < N → Calls Tryz.prog 103 #[.int .i64 (i : Int), .int .i64 (k : Int), .pointer (some ⟨p, 0, none⟩)] W fun e w' => ∃ z : Int, e = .returned (.int .i64 z) ∧ Below W.heap.size W w'
theorem CmpZ.next {w W : World} {g N p B : Nat} (h : CmpZ w g N p) (hs : SS N B g w W) : CmpZ W g N p := fun W' hW => h W' (hs.2.next hW)
theorem SS.next {w W W' : World} {N B g : Nat} (h : SS N B g w W) (h2 : SS N B g W W') : SS N B g w W' := ⟨h2.1, h.2.next h2.2⟩
theorem SS.start {w W : World} {N B g : Nat} (h : SS N B g w W) : SS N B g W W := ⟨h.1, Chg.refl _ _ _⟩
end Go.Proofs.YtllhefjblipddaaGreatDoor
