/- mod; the walk of the law RefColumnsBack. -/
import Derived.Test.YtdepdihdjghicaaDoorCrW
namespace Go.Proofs.YtdepdihdjghicaaDoor
open Go.RowKit

theorem tmod_bd (n m : Int) (h0 : 0 < m) : -m < n.tmod m ∧ n.tmod m < m := by
  have h1 := Int.tmod_lt_of_pos n h0
  have h2 := Int.lt_tmod_of_pos n h0
  omega
theorem mod_emod (n m : Int) (h0 : 0 < m) : (n.tmod m + m) % m = n % m := by
  rw [Int.add_emod_right]
  rw [Int.tmod_eq_emod]
  split
  · simp
  · rw [Int.natAbs_of_nonneg (by omega)]
    rw [Int.sub_emod_right, Int.emod_emod_of_dvd _ (Int.dvd_refl _)]

theorem mod_any (n m : Int) (w : World) (h0 : 0 < m) (h1 : m ≤ 4611686018427387904) (_hn : -9223372036854775808 ≤ n ∧ n ≤ 9223372036854775807) :
    Calls Tryd.prog 11 #[.int .i64 n, .int .i64 m] w fun e w' => e = .returned (.int .i64 (n % m)) ∧ w = w' := by
  have hb := tmod_bd n m h0
  have he := mod_emod n m h0
  have HE := Lib.hid he
  clear he
  have h2 : 0 ≤ n.tmod m + m := by omega
  have h3 : 1 ≤ m := by omega
  go_enter Tryd.func11, Tryd.ntmps11
  go_wp2
  go_ret
  exact ⟨ret_int HE.out, rfl⟩

set_option maxRecDepth 100000 in
set_option maxHeartbeats 1000000 in
theorem columns_any (n : Int) (w : World) (he : Env w) (hn : -9223372036854775808 ≤ n ∧ n ≤ 9223372036854775807) :
    Calls Tryd.prog 4 #[.int .i64 n] w fun e w' => e = .returned (.bool true) ∧ Below w.heap.size w w' := by
  have m0 : 0 ≤ n % 1073741823 := Int.emod_nonneg _ (by decide)
  have m1 : n % 1073741823 < 1073741823 := Int.emod_lt_of_pos _ (by decide)
  have hm := fun W => mod_any n 1073741823 W (by decide) (by decide) hn
  generalize n % 1073741823 = k at *
  obtain ⟨j, rfl⟩ : ∃ j : Nat, k = j := ⟨k.toNat, by omega⟩
  have hp : Cr.permitted (j : Int) = true := by simp [Cr.permitted]; omega
  have hp2 : Cr.permitted ((j : Int) + 1) = true := by simp [Cr.permitted]; omega
  have hA := fun W => letters_yes (j : Int) W hp
  have hB := fun W => letters_yes ((j : Int) + 1) W hp2
  rw [show (j : Int).toNat + 1 = j + 1 by omega] at hA
  rw [show ((j : Int) + 1).toNat + 1 = j + 2 by omega] at hB
  have hlt := Cr.lt_succ (j + 1)
  have l7 := Cr.lt_len 7 (j + 1) (by omega)
  have hne := Cr.lt_ne_nil (n := j + 1) (by omega)
  have hC := fun W => column_any ⟨(Cr.lt (j + 1)).toArray⟩ W (by rw [size_mk]; unfold maxLen; omega)
  rw [show (⟨(Cr.lt (j + 1)).toArray⟩ : ByteArray).data.toList = Cr.lt (j + 1) from rfl] at hC
  have hcol : Cr.column (Cr.lt (j + 1)) = ((j : Int), 0) := by
    have hl : Cr.letters (Cr.lt (j + 1)) = true := by
      unfold Cr.letters
      rw [List.all_eq_true]
      exact fun c hc => Cr.lt_letters _ c hc
    rw [Cr.column, if_neg, if_neg, Cr.colv_lt]
    · simp
    · rw [Cr.colv_lt]; omega
    · rintro (h | h | h)
      · exact hne h
      · omega
      · rw [hl] at h; cases h
  rw [hcol] at hC
  dsimp only at hC
  have HM := Lib.hid hm
  have HA := Lib.hid hA
  have HB := Lib.hid hB
  have HC := Lib.hid hC
  clear hm hA hB hC hcol hne hp hp2
  generalize Cr.lt (j + 1) = a at *
  rw [show j + 1 + 1 = j + 2 by omega] at hlt
  generalize Cr.lt (j + 2) = b at *
  rcases hlt with h | ⟨h1, h2⟩
  · have hl : (a.length : Int) < b.length := by omega
    go_enter Tryd.func4, Tryd.ntmps4
    go_wp2_with (first | (go_at_call 10; refine (refs_any _ he).mono ?_; rintro e w1 ⟨rfl, hb1⟩) | (go_at_call 11; refine (HM.out _).mono ?_; rintro e w2 ⟨rfl, rfl⟩) | (go_at_call 12; first | (refine (HA.out _).mono ?_; rintro e w3 ⟨rfl, hb3⟩) | (refine (HB.out _).mono ?_; rintro e w4 ⟨rfl, hb4⟩)) | (go_at_call 13; refine (HC.out _).mono ?_; rintro e w5 ⟨rfl, rfl⟩))
    go_ret
    exact ⟨rfl, below_tr (below_tr (by assumption) (by assumption)) (by assumption)⟩
  · have hl : ¬ (a.length : Int) < b.length := by omega
    have hl2 : ((a.length : Int) == b.length) = true := by rw [h1]; simp
    go_enter Tryd.func4, Tryd.ntmps4
    go_wp2_with (first | (go_at_call 10; refine (refs_any _ he).mono ?_; rintro e w1 ⟨rfl, hb1⟩) | (go_at_call 11; refine (HM.out _).mono ?_; rintro e w2 ⟨rfl, rfl⟩) | (go_at_call 12; first | (refine (HA.out _).mono ?_; rintro e w3 ⟨rfl, hb3⟩) | (refine (HB.out _).mono ?_; rintro e w4 ⟨rfl, hb4⟩)) | (go_at_call 13; refine (HC.out _).mono ?_; rintro e w5 ⟨rfl, rfl⟩))
    go_ret
    exact ⟨rfl, below_tr (below_tr (by assumption) (by assumption)) (by assumption)⟩
end Go.Proofs.YtdepdihdjghicaaDoor
