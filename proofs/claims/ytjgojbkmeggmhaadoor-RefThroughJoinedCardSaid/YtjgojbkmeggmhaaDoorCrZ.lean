/- Contracts of cellref: far, fitting. -/
import Derived.Test.YtjgojbkmeggmhaaDoorCrU
import Derived.Test.YtjgojbkmeggmhaaDoorMem10
namespace Go.Proofs.YtjgojbkmeggmhaaDoor
open Go.RowKit

def Cr.far (n : Int) : Bool := decide (n < -1073741824) || decide (1073741824 < n)

def Ref.within (r : Ref) : Bool := Cr.permitted r.row && (Cr.permitted r.col && (Cr.permitted r.row2 && Cr.permitted r.col2))
def Ref.fitting (r : Ref) : Ref := if r.meaning.within = true then r.meaning else Ref.bad

set_option maxHeartbeats 1000000 in
theorem fitting_any (r : Ref) (w : World) :
    Calls Tryd.prog 46 #[r.v] w fun e w' => e = .returned (r.fitting).v ∧ Below w.heap.size w w' := by
  have hM := fun W => meaning_any r W
  have hF : r.fitting = if r.meaning.within = true then r.meaning else Ref.bad := rfl
  generalize r.meaning = M at *
  generalize r.fitting = F at *
  obtain ⟨sh, k, ro, co, ro2, co2, ar, ac, ar2, ac2⟩ := r
  obtain ⟨sh', k', ro', co', ro2', co2', ar', ac', ar2', ac2'⟩ := M
  have HM := Lib.hid hM
  have HF := Lib.hid hF
  clear hM hF
  cases p1 : Cr.permitted ro'
  · have hf : F = Ref.bad := by rw [HF.out, if_neg]; simp [Ref.within, p1]
    subst hf
    clear HF
    go_enter Tryd.func46, Tryd.ntmps46
    go_wp2_with (first | (go_at_call 43; refine (HM.out _).mono ?_; rintro e w' ⟨rfl, rfl⟩) | (go_at_call 44; refine (permitted_any _ _).mono ?_; rintro e w' ⟨rfl, rfl⟩))
    go_returns
    exact ⟨rfl, by go_grown⟩
  cases p2 : Cr.permitted co'
  · have hf : F = Ref.bad := by rw [HF.out, if_neg]; simp [Ref.within, p2]
    subst hf
    clear HF
    go_enter Tryd.func46, Tryd.ntmps46
    go_wp2_with (first | (go_at_call 43; refine (HM.out _).mono ?_; rintro e w' ⟨rfl, rfl⟩) | (go_at_call 44; refine (permitted_any _ _).mono ?_; rintro e w' ⟨rfl, rfl⟩))
    go_returns
    exact ⟨rfl, by go_grown⟩
  cases p3 : Cr.permitted ro2'
  · have hf : F = Ref.bad := by rw [HF.out, if_neg]; simp [Ref.within, p3]
    subst hf
    clear HF
    go_enter Tryd.func46, Tryd.ntmps46
    go_wp2_with (first | (go_at_call 43; refine (HM.out _).mono ?_; rintro e w' ⟨rfl, rfl⟩) | (go_at_call 44; refine (permitted_any _ _).mono ?_; rintro e w' ⟨rfl, rfl⟩))
    go_returns
    exact ⟨rfl, by go_grown⟩
  cases p4 : Cr.permitted co2'
  · have hf : F = Ref.bad := by rw [HF.out, if_neg]; simp [Ref.within, p4]
    subst hf
    clear HF
    go_enter Tryd.func46, Tryd.ntmps46
    go_wp2_with (first | (go_at_call 43; refine (HM.out _).mono ?_; rintro e w' ⟨rfl, rfl⟩) | (go_at_call 44; refine (permitted_any _ _).mono ?_; rintro e w' ⟨rfl, rfl⟩))
    go_returns
    exact ⟨rfl, by go_grown⟩
  · have hf : F = ⟨sh', k', ro', co', ro2', co2', ar', ac', ar2', ac2'⟩ := by rw [HF.out, if_pos]; simp [Ref.within, p1, p2, p3, p4]
    subst hf
    clear HF
    go_enter Tryd.func46, Tryd.ntmps46
    go_wp2_with (first | (go_at_call 43; refine (HM.out _).mono ?_; rintro e w' ⟨rfl, rfl⟩) | (go_at_call 44; refine (permitted_any _ _).mono ?_; rintro e w' ⟨rfl, rfl⟩))
    go_returns
    exact ⟨rfl, by go_grown⟩
end Go.Proofs.YtjgojbkmeggmhaaDoor
