/- An argument that is a slice of numbers. -/
import Derived.Test.YtllhefjblipddaaGreatDoorRow
import Derived.ChangeSlices
import Derived.Deep.Matrix
import Derived.Lib.SmallJoins
import Derived.ChangeSame
import Derived.ProofKit
import Derived.OpenShut
import Derived.Laws.Entries
set_option linter.unusedSimpArgs false
set_option linter.unusedVariables false
namespace Go.Proofs.YtllhefjblipddaaGreatDoor
open Go Go.Joins Go.ChangeShapes Go.WideShapes Go.RowKit Go.Deep

abbrev RdZ (W : World) (v : Value) (l : List Int) : Prop := Reads 1 (fun n => [Value.int .i64 n]) W v l
section
variable {H : Type} {enc : TypeId × Value → H} {W : World} {base : Nat} {held : Bool}
set_option maxRecDepth 100000 in
theorem open_il {r : Reach} {b0 : Nat} {v : Value} {d : DataW H} {p : List MemPlace} (hv : Value.okWide Tryz.prog W r b0 22 v) (h : DataW.Trod enc Tryz.prog W base (fun _ => true) held 22 v d p) :
    ∃ (A : Option Addr) (n c : Nat) (Z : List Int), v = .slice A n c ∧ RdZ W (.slice A n c) Z ∧ n ≤ 9223372036854775807 ∧ ∀ x ∈ Z, -9223372036854775808 ≤ x ∧ x ≤ 9223372036854775807 := by
  obtain ⟨A0, n0, c0, rfl⟩ := okWide_slice Tryz.underlying22 hv
  obtain ⟨fuel, hf⟩ := h
  refine ⟨A0, n0, c0, ?_⟩
  rcases open_ints Tryz.underlying22 Tryz.underlying3 (by kernel_rfl) hf with ⟨hc, -⟩ | ⟨a, len, cap, zs, hc, -, hl, hm, hz, -, hcell, hwz⟩
  · have hc : [Value.slice A0 n0 c0] = [.slice none 0 0] := hc
    simp only [List.cons.injEq, and_true, Value.slice.injEq] at hc
    obtain ⟨rfl, rfl, rfl⟩ := hc
    exact ⟨[], rfl, Reads.nil _, by decide, by simp⟩
  · have hc : [Value.slice A0 n0 c0] = [.slice (some a) len cap] := hc
    simp only [List.cons.injEq, and_true, Value.slice.injEq] at hc
    obtain ⟨rfl, rfl, rfl⟩ := hc
    simp only [if_true] at hz
    unfold maxLen at hm
    have hlen : (zs.take n0).length = n0 := by rw [List.length_take]; omega
    refine ⟨zs.take n0, rfl, ⟨some a, c0, by rw [hlen], by omega, (fun h => by cases h), fun h0 => ?_⟩, by omega, fun x hx => bounds_i64 (hwz x (List.mem_of_mem_take hx))⟩
    rw [hlen] at h0
    obtain ⟨b, o, sp⟩ := a
    have g0 := hcell 0 (by omega)
    obtain rfl : sp = none := by simpa [Addr.add] using World.cell?_spot g0
    refine ⟨b, o, rfl, World.block_lt_of_cell? _ _ g0, fun i hi j hj => ?_⟩
    have hi' : i < n0 := by omega
    obtain rfl : j = 0 := by omega
    have := hcell i (by omega)
    rw [Addr.add_lit] at this
    have hzi : i < zs.length := by omega
    rw [Nat.mul_one, Nat.add_zero, this, List.getElem_take]
    simp [List.getD, hzi]
end
end Go.Proofs.YtllhefjblipddaaGreatDoor
