/- The contract of cellref.Check. -/
import Derived.Test.YtjgojbkmeggmhaaDoorCrC
import Derived.Deep.DeepCutAuto
namespace Go.Proofs.YtjgojbkmeggmhaaDoor
open Go.RowKit

def Ref.check (r : Ref) : Int :=
  if r.kind < 0 ∨ 4 < r.kind then 8
  else if Cr.nameE r.sheet.data.toList ≠ 0 then Cr.nameE r.sheet.data.toList
  else if r.same r.meaning = false then 4
  else if (Cr.permitted r.row && (Cr.permitted r.col && (Cr.permitted r.row2 && Cr.permitted r.col2))) = false then 2
  else if r.kind ≠ 0 ∧ (r.row2 < r.row ∨ r.col2 < r.col) then 5 else 0

theorem check_kind (r : Ref) (w : World) (h : r.kind < 0 ∨ 4 < r.kind) :
    Calls Tryd.prog 15 #[r.v] w fun e w' => e = .returned (.int .i64 r.check) ∧ Below w.heap.size w w' := by
  have e1 : r.check = 8 := by rw [Ref.check, if_pos h]
  rw [e1]
  clear e1
  obtain ⟨sh, k, ro, co, ro2, co2, ar, ac, ar2, ac2⟩ := r
  dsimp only at h
  rcases h with h | h
  all_goals
    go_enter Tryd.func15, Tryd.ntmps15
    go_wp2
    go_ret
    exact ⟨rfl, by go_grown⟩

theorem check_name (r : Ref) (w : World) (h1 : 0 ≤ r.kind) (h2 : r.kind ≤ 4) (hs : r.sheet.size ≤ maxLen) (hn : Cr.nameE r.sheet.data.toList ≠ 0) :
    Calls Tryd.prog 15 #[r.v] w fun e w' => e = .returned (.int .i64 r.check) ∧ Below w.heap.size w w' := by
  have e1 : r.check = Cr.nameE r.sheet.data.toList := by rw [Ref.check, if_neg (by omega), if_pos hn]
  rw [e1]
  clear e1
  obtain ⟨sh, k, ro, co, ro2, co2, ar, ac, ar2, ac2⟩ := r
  dsimp only at h1 h2 hs hn
  have hn' : (Cr.nameE sh.data.toList != 0) = true := by simpa using hn
  clear hn
  go_enter Tryd.func15, Tryd.ntmps15
  go_wp2_with (first | (go_at_call 42; refine (name_any _ _ hs).mono ?_; rintro e w' ⟨rfl, rfl⟩))
  go_ret
  exact ⟨rfl, by go_grown⟩

set_option maxHeartbeats 1000000 in
theorem check_main (r : Ref) (w : World) (h1 : 0 ≤ r.kind) (h2 : r.kind ≤ 4) (hs : r.sheet.size ≤ maxLen) (hn : Cr.nameE r.sheet.data.toList = 0) :
    Calls Tryd.prog 15 #[r.v] w fun e w' => e = .returned (.int .i64 r.check) ∧ Below w.heap.size w w' := by
  have e1 : r.check = if r.same r.meaning = false then 4
    else if (Cr.permitted r.row && (Cr.permitted r.col && (Cr.permitted r.row2 && Cr.permitted r.col2))) = false then 2
    else if r.kind ≠ 0 ∧ (r.row2 < r.row ∨ r.col2 < r.col) then 5 else 0 := by
    rw [Ref.check, if_neg (by omega), if_neg (by rw [hn]; simp)]
  obtain ⟨sh, k, ro, co, ro2, co2, ar, ac, ar2, ac2⟩ := r
  dsimp only at h1 h2 hs hn
  generalize hc : Ref.check ⟨sh, k, ro, co, ro2, co2, ar, ac, ar2, ac2⟩ = C at *
  clear hc
  have hq := fun (W : World) (b : Ref) => ref_neq ⟨sh, k, ro, co, ro2, co2, ar, ac, ar2, ac2⟩ b W
  have hm := meaning_any ⟨sh, k, ro, co, ro2, co2, ar, ac, ar2, ac2⟩
  generalize Ref.meaning ⟨sh, k, ro, co, ro2, co2, ar, ac, ar2, ac2⟩ = M at *
  have HM := Lib.hid hm
  have E1 := Lib.hid e1
  clear hm e1
  go_enter Tryd.func15, Tryd.ntmps15
  go_upto_region 6 with (first | (go_at_call 42; refine (name_any _ _ hs).mono ?_; rintro e w' ⟨rfl, rfl⟩))
  go_cut [21] (fun v wx => v = .bool (!Ref.same ⟨sh, k, ro, co, ro2, co2, ar, ac, ar2, ac2⟩ M) ∧ wx = (((w.alloc (.cells #[.string sh, .int .i64 k, .int .i64 ro, .int .i64 co, .int .i64 ro2, .int .i64 co2, .bool ar, .bool ac, .bool ar2, .bool ac2] 40)).alloc (.cells M.cs 40)).alloc (.cells M.cs 40)).drew)
  case first =>
    go_region_with (go_at_call 43; refine (HM.out _).mono ?_; rintro e w' ⟨rfl, rfl⟩)
    all_goals (go_wp2_with fail; go_meet; exact ⟨rfl, rfl⟩)
  case rest =>
    obtain ⟨rfl, rfl⟩ := hcut
    clear HM hq
    cases hsame : Ref.same ⟨sh, k, ro, co, ro2, co2, ar, ac, ar2, ac2⟩ M
    · go_wp2_with fail
      go_ret
      exact ⟨ret_int (by rw [E1.out]; simp [hsame]), by go_grown⟩
    cases p1 : Cr.permitted ro
    · go_wp2_with (go_at_call 44; refine (permitted_any _ _).mono ?_; rintro e w' ⟨rfl, rfl⟩)
      go_ret
      exact ⟨ret_int (by rw [E1.out]; simp [*]), by go_grown⟩
    cases p2 : Cr.permitted co
    · go_wp2_with (go_at_call 44; refine (permitted_any _ _).mono ?_; rintro e w' ⟨rfl, rfl⟩)
      go_ret
      exact ⟨ret_int (by rw [E1.out]; simp [*]), by go_grown⟩
    cases p3 : Cr.permitted ro2
    · go_wp2_with (go_at_call 44; refine (permitted_any _ _).mono ?_; rintro e w' ⟨rfl, rfl⟩)
      go_ret
      exact ⟨ret_int (by rw [E1.out]; simp [*]), by go_grown⟩
    cases p4 : Cr.permitted co2
    · go_wp2_with (go_at_call 44; refine (permitted_any _ _).mono ?_; rintro e w' ⟨rfl, rfl⟩)
      go_ret
      exact ⟨ret_int (by rw [E1.out]; simp [*]), by go_grown⟩
    · by_cases k0 : k = 0
      · subst k0
        go_wp2_with (go_at_call 44; refine (permitted_any _ _).mono ?_; rintro e w' ⟨rfl, rfl⟩)
        go_ret
        exact ⟨ret_int (by rw [E1.out]; simp [*]), by go_grown⟩
      · have k0' : (k != 0) = true := by simpa using k0
        go_wp2_with (go_at_call 44; refine (permitted_any _ _).mono ?_; rintro e w' ⟨rfl, rfl⟩)
        all_goals
          go_ret
          exact ⟨ret_int (by rw [E1.out]; simp only [hsame, p1, p2, p3, p4]; simp [k0]; omega), by go_grown⟩

theorem check_any (r : Ref) (w : World) (hs : r.sheet.size ≤ maxLen) :
    Calls Tryd.prog 15 #[r.v] w fun e w' => e = .returned (.int .i64 r.check) ∧ Below w.heap.size w w' := by
  by_cases hk : r.kind < 0 ∨ 4 < r.kind
  · exact check_kind r w hk
  · by_cases hn : Cr.nameE r.sheet.data.toList = 0
    · exact check_main r w (by omega) (by omega) hs hn
    · exact check_name r w (by omega) (by omega) hs hn

end Go.Proofs.YtjgojbkmeggmhaaDoor
