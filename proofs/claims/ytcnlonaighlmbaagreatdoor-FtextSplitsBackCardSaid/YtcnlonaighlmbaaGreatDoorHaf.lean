/- Plain: comparisons with three answers: what makes one order of them. -/
import Derived.Test.YtcnlonaighlmbaaGreatDoorRows
set_option linter.unusedSimpArgs false
set_option linter.unusedVariables false
namespace Go.Proofs.YtcnlonaighlmbaaGreatDoor.Cm

/-- A comparison: turned round it changes its sign, and what is not greater goes on. -/
structure IsC {α : Type} (f : α → α → Int) : Prop where
  anti : ∀ a b, f a b = - f b a
  trans : ∀ a b c, f a b ≤ 0 → f b c ≤ 0 → f a c ≤ 0
theorem IsC.lt {α : Type} {f : α → α → Int} (h : IsC f) {a b c : α} (h1 : f a b < 0) (h2 : f b c ≤ 0) : f a c < 0 := by
  rcases Int.lt_or_le (f a c) 0 with h3 | h3
  · exact h3
  · exfalso
    have e1 := h.anti a c
    have e2 := h.anti a b
    have := h.trans b c a h2 (by omega)
    omega
theorem IsC.lt' {α : Type} {f : α → α → Int} (h : IsC f) {a b c : α} (h1 : f a b ≤ 0) (h2 : f b c < 0) : f a c < 0 := by
  rcases Int.lt_or_le (f a c) 0 with h3 | h3
  · exact h3
  · exfalso
    have e1 := h.anti a c
    have e2 := h.anti b c
    have := h.trans c a b (by omega) h1
    omega
/-- One comparison, and another one where the first sees no difference. -/
def orC {α : Type} (f g : α → α → Int) (a b : α) : Int := if f a b ≠ 0 then f a b else g a b
theorem IsC.or {α : Type} {f g : α → α → Int} (hf : IsC f) (hg : IsC g) : IsC (orC f g) := by
  refine ⟨fun a b => ?_, fun a b c h1 h2 => ?_⟩
  · have e1 := hf.anti a b
    have e2 := hg.anti a b
    unfold orC
    split <;> split <;> omega
  · unfold orC at *
    have t := hf.trans a b c
    have g' := hg.trans a b c
    have l1 := @IsC.lt _ _ hf a b c
    have l2 := @IsC.lt' _ _ hf a b c
    split at h1 <;> split at h2 <;> split <;> omega
theorem IsC.map {α β : Type} {f : β → β → Int} (h : IsC f) (k : α → β) : IsC (fun a b => f (k a) (k b)) := ⟨fun _a _b => h.anti _ _, fun _a _b _c => h.trans _ _ _⟩
end Go.Proofs.YtcnlonaighlmbaaGreatDoor.Cm

namespace Go.Proofs.YtcnlonaighlmbaaGreatDoor

inductive All2 {α β : Type} (R : α → β → Prop) : List α → List β → Prop
  | nil : All2 R [] []
  | cons {x y l m} : R x y → All2 R l m → All2 R (x :: l) (y :: m)
section
variable {α β : Type} {R S : α → β → Prop} {l : List α} {m : List β}
theorem All2.len (h : All2 R l m) : l.length = m.length := by
  induction h with
  | nil => rfl
  | cons _ _ ih => simp [ih]
theorem All2.imp (h : All2 R l m) (hs : ∀ x ∈ l, ∀ y, R x y → S x y) : All2 S l m := by
  induction h with
  | nil => exact .nil
  | cons h1 _ ih => exact .cons (hs _ (by simp) _ h1) (ih fun x hx => hs x (by simp [hx]))
theorem All2.app (h : All2 R l m) {x : α} {y : β} (h1 : R x y) : All2 R (l ++ [x]) (m ++ [y]) := by
  induction h with
  | nil => exact .cons h1 .nil
  | cons h2 _ ih => exact .cons h2 ih
theorem All2.get (h : All2 R l m) : ∀ (i : Nat) (h1 : i < l.length) (h2 : i < m.length), R l[i] m[i] := by
  induction h with
  | nil => intro i h1; simp at h1
  | cons h3 _ ih =>
    intro i h1 h2
    cases i with
    | zero => exact h3
    | succ i => exact ih i (by simpa using h1) (by simpa using h2)
end
end Go.Proofs.YtcnlonaighlmbaaGreatDoor

namespace Go.Proofs.YtcnlonaighlmbaaGreatDoor
namespace Pv
section
variable {α : Type}
end
section
variable {α : Type} (rw cl : α → Nat)
variable (l : List α) (n m : Nat) (f : α → Nat)
end
end Pv
end Go.Proofs.YtcnlonaighlmbaaGreatDoor
