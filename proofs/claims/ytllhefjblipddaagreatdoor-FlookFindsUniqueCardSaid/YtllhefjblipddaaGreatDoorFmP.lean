/- Plain: an order of the first N numbers, and what exchanges leave of it. -/
import Derived.Test.YtllhefjblipddaaGreatDoorRows
set_option linter.unusedSimpArgs false
set_option linter.unusedVariables false
namespace Go.Proofs.YtllhefjblipddaaGreatDoor

/-- Each of the numbers below N is there. -/
def Prm (N : Nat) (f : Nat → Nat) : Prop := (∀ i, i < N → f i < N) ∧ ∀ x, x < N → ∃ i, i < N ∧ f i = x
theorem Prm.id (N : Nat) : Prm N fun x => x := ⟨fun _ h => h, fun x h => ⟨x, h, rfl⟩⟩
def swF (f : Nat → Nat) (i j : Nat) : Nat → Nat := fun x => if x = j then f i else if x = i then f j else f x
theorem Prm.swap {N : Nat} {f : Nat → Nat} (h : Prm N f) {i j : Nat} (hi : i < N) (hj : j < N) : Prm N (swF f i j) := by
  refine ⟨fun x hx => ?_, fun x hx => ?_⟩
  · unfold swF
    split
    · exact h.1 i hi
    · split
      · exact h.1 j hj
      · exact h.1 x hx
  · obtain ⟨k, hk, e⟩ := h.2 x hx
    by_cases h1 : k = i
    · exact ⟨j, hj, by unfold swF; rw [if_pos rfl, ← h1, e]⟩
    · by_cases h2 : k = j
      · refine ⟨i, hi, ?_⟩
        unfold swF
        by_cases h3 : i = j
        · exact absurd (h2.trans h3.symm) h1
        · rw [if_neg h3, if_pos rfl, ← h2, e]
      · exact ⟨k, hk, by unfold swF; rw [if_neg h2, if_neg h1, e]⟩
theorem Prm.pos {N : Nat} {f : Nat → Nat} (h : Prm N f) (hN : 0 < N) : f 0 < N := h.1 0 hN
end Go.Proofs.YtllhefjblipddaaGreatDoor
