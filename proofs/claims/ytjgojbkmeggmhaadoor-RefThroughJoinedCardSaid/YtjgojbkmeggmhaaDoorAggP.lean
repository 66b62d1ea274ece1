/- An argument that is a slice of steps. -/
import Derived.Test.YtjgojbkmeggmhaaDoorAxA
import Derived.Deep.SlicePairs
import Derived.ChangeSame
import Derived.ProofKit
import Derived.Laws.Entries
namespace Go.Proofs.YtjgojbkmeggmhaaDoor
open Go Go.ChangeShapes Go.WideShapes Go.RowKit Go.Deep

section
variable {H : Type} {enc : TypeId × Value → H} {W : World} {base : Nat} {spare : Nat → Bool} {held : Bool}
set_option maxRecDepth 100000 in
theorem open_steps {r : Reach} {b0 : Nat} {v : Value} {d : DataW H} {p : List MemPlace} (hv : Value.okWide Tryd.prog W r b0 41 v) (h : DataW.Trod enc Tryd.prog W base spare held 41 v d p) :
    ∃ l : List Ax.Step, Steps W v l ∧ l.length ≤ maxLen := by
  obtain ⟨a0, len0, cap0, rfl⟩ := okWide_slice Tryd.underlying41 hv
  obtain ⟨fuel, hf⟩ := h
  obtain ⟨M, hM⟩ : ∃ M, M = maxLen := ⟨_, rfl⟩
  rcases open_slice_pairs Tryd.underlying41 Tryd.underlying103 (by kernel_rfl) rfl rfl (by kernel_rfl) (by kernel_rfl) hf with ⟨hcs, -⟩ | ⟨a, len, cap, m, n, V0, V1, D0, D1, P0, P1, hcs, -, hlc, hcm, hm, -, hx⟩
  · simp [Value.cells] at hcs
    obtain ⟨rfl, rfl, rfl⟩ := hcs
    exact ⟨[], ⟨none, 0, rfl, Nat.le_refl _, fun _ => rfl, fun h => absurd h (by simp)⟩, Nat.zero_le _⟩
  · simp [Value.cells] at hcs
    obtain ⟨rfl, rfl, rfl⟩ := hcs
    rw [← hM] at hcm ⊢
    clear hM
    have hlm : len0 ≤ m := by rw [hm]; split <;> omega
    have each : ∀ i, i < len0 → ∃ s : Ax.Step, V0 i = .int .i64 s.1 ∧ V1 i = .int .i64 s.2 := fun i hi => by
      obtain ⟨-, -, h0, h1⟩ := hx i (by omega)
      obtain ⟨x, e0, -, -⟩ := DataW.trod_int Tryd.underlying3 h0
      obtain ⟨y, e1, -, -⟩ := DataW.trod_int Tryd.underlying3 h1
      exact ⟨(x, y), by simpa using e0, by simpa using e1⟩
    obtain ⟨q, hq⟩ := choose_lt each
    refine ⟨(List.range len0).map q, ⟨some a, cap0, by simp, by simpa using hlc, (fun h => by cases h), fun h0 => ?_⟩, by rw [List.length_map, List.length_range]; exact Nat.le_trans hlc hcm⟩
    have h0' : 0 < len0 := by simpa using h0
    obtain ⟨b, o, sp⟩ := a
    have g0 := (hx 0 (by omega)).1
    obtain rfl : sp = none := by simpa [Addr.add] using World.cell?_spot g0
    refine ⟨b, o, rfl, World.block_lt_of_cell? _ _ g0, fun i hi j hj => ?_⟩
    have hi' : i < len0 := by simpa using hi
    obtain ⟨c0, c1, -, -⟩ := hx i (by omega)
    obtain ⟨e0, e1⟩ := hq i hi'
    simp only [List.getElem_map, List.getElem_range]
    rcases (show j = 0 ∨ j = 1 by omega) with rfl | rfl
    · rw [e0, Addr.add_lit] at c0; exact c0
    · rw [e1, Addr.add_lit] at c1; exact c1
end
end Go.Proofs.YtjgojbkmeggmhaaDoor
