/- cellref.Through: plain function; what a reference is after a change. -/
import Derived.Test.YtjgojbkmeggmhaaDoorAxJ
import Derived.Test.YtjgojbkmeggmhaaDoorCrTp
import Derived.Test.YtjgojbkmeggmhaaDoorCrZ
namespace Go.Proofs.YtjgojbkmeggmhaaDoor
open Go.RowKit

/-- A reference whose rows are now these. -/
def Ref.rows (r : Ref) (f g : Int) : Ref := ⟨r.sheet, r.kind, f, r.col, g, if r.kind = 0 then r.col else r.col2, r.ar, r.ac, r.ar2, r.ac2⟩
def Ref.low2 (r : Ref) : Int := if r.kind = 0 then r.row else r.row2
/-- What becomes of a reference when rows change. -/
def Ref.thr (r : Ref) (l : List Ax.Step) : Ref :=
  if r.kind = 4 ∨ r.kind = 3 then r else match Ax.Hull l r.row r.low2 with
    | none => Ref.bad
    | some u => (r.rows u.1 u.2).fitting
theorem perm_iff' {n : Int} : Cr.permitted n = true ↔ 0 ≤ n ∧ n < 1073741824 := by simp [Cr.permitted]
theorem within_of {r : Ref} (h : r.check = 0) : r.within = true := by
  obtain ⟨-, -, -, -, h1, h2, h3, h4, -⟩ := Ref.check_ok h
  simp only [Ref.within, Bool.and_eq_true, perm_iff']
  exact ⟨h1, h2, h3, h4⟩
theorem fitting_same {r : Ref} (h : r.check = 0) : r.fitting = r := by
  have hm := (Ref.check_ok h).2.2.2.1
  unfold Ref.fitting
  rw [← hm, if_pos (within_of h)]
/-- A found range gives a reference that is valid. -/
theorem fitting_rows {r : Ref} (h : r.check = 0) (h3 : r.kind ≠ 3) (h4 : r.kind ≠ 4) {f g : Int} (hf : 0 ≤ f) (hfg : f ≤ g) (hg : g < 1073741824) :
    (r.rows f g).fitting = ⟨r.sheet, r.kind, f, r.col, if r.kind = 0 then 0 else g, r.col2, r.ar, r.ac, r.ar2, r.ac2⟩ := by
  obtain ⟨k0, k4, hn, hm, h1, h2, h5, h6, ho⟩ := Ref.check_ok h
  obtain ⟨sh, k, ro, co, ro2, co2, ar, ac, ar2, ac2⟩ := r
  dsimp only at *
  unfold Ref.fitting Ref.rows
  have hk : k = 0 ∨ k = 1 ∨ k = 2 := by omega
  rcases hk with rfl | rfl | rfl
  · simp only [Ref.meaning, if_true, Ref.mk.injEq] at hm
    obtain ⟨-, -, -, -, rfl, rfl, -, -, rfl, rfl⟩ := hm
    have : Ref.within ⟨sh, 0, f, co, 0, 0, ar, ac, false, false⟩ = true := by
      simp only [Ref.within, Bool.and_eq_true, perm_iff']; omega
    simp [Ref.meaning, this]
  · have : Ref.within ⟨sh, 1, f, co, g, co2, ar, ac, ar2, ac2⟩ = true := by
      simp only [Ref.within, Bool.and_eq_true, perm_iff']; omega
    simp [Ref.meaning, this]
  · simp [Ref.meaning] at hm
    obtain ⟨rfl, rfl, rfl, rfl⟩ := hm
    have : Ref.within ⟨sh, 2, f, 0, g, 0, ar, false, ar2, false⟩ = true := by
      simp only [Ref.within, Bool.and_eq_true, perm_iff']; omega
    simp [Ref.meaning, this]
end Go.Proofs.YtjgojbkmeggmhaaDoor
