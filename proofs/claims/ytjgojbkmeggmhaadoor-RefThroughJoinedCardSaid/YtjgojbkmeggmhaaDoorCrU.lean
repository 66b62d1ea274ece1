/- The contract of cellref's corner.values. -/
import Derived.Test.YtjgojbkmeggmhaaDoorCrS
import Derived.Test.YtjgojbkmeggmhaaDoorCrVp
namespace Go.Proofs.YtjgojbkmeggmhaaDoor
open Go.RowKit


theorem box_after {w w1 : World} {cs : Array Value} {T : TypeId} (hb : Below (w.alloc (.cells cs T)).heap.size (w.alloc (.cells cs T)) w1) : (∀ i, w1.cell? ⟨w.heap.size, i, none⟩ = cs[i]?) ∧ Below w.heap.size w w1 := by
  refine ⟨fun i => ?_, ((Below.refl _ _).alloc (Nat.le_refl _) _).trans (hb.mono (by simp))⟩
  rw [hb.cell (by simp)]
  exact Lib.cell_of_heap (heap_alloc_new w _) i

set_option maxHeartbeats 1000000 in
theorem values_any (ls num : List UInt8) (ac ar : Bool) (w : World) (hl : ls.length ≤ 100000) (hd : Cr.digitsOK num) :
    Calls Tryd.prog 76 #[.agg #[sv ls, sv num, .bool ac, .bool ar]] w fun e w' => e = .returned (.tuple #[.int .i64 (Cr.valuesF ⟨ls, num, ac, ar⟩).1, .int .i64 (Cr.valuesF ⟨ls, num, ac, ar⟩).2.1, .int .i64 (Cr.valuesF ⟨ls, num, ac, ar⟩).2.2]) ∧ Below w.heap.size w w' := by
  have hcol := fun W => column_any ⟨ls.toArray⟩ W (by rw [size_mk]; unfold maxLen; omega)
  rw [show (⟨ls.toArray⟩ : ByteArray).data.toList = ls from rfl] at hcol
  have HC := Lib.hid hcol
  clear hcol
  cases num with
  | nil =>
    cases ls with
    | nil =>
      go_enter Tryd.func76, Tryd.ntmps76
      go_wp2_with fail
      go_ret3
      exact ⟨rfl, by go_grown⟩
    | cons a t =>
      have hF : Cr.valuesF ⟨a :: t, [], ac, ar⟩ = if (Cr.column (a :: t)).2 ≠ 0 ∨ (1073741824 : Int) ≤ 0 then (0, 0, 2) else (0, (Cr.column (a :: t)).1, 0) := rfl
      have HF := Lib.hid hF
      clear hF
      cases hc : ((Cr.column (a :: t)).2 != 0)
      · have hc2 : (Cr.column (a :: t)).2 = 0 := by simpa using hc
        have H2 := Lib.hid hc2
        clear hc2
        go_enter Tryd.func76, Tryd.ntmps76
        go_wp2_with (first | (go_at_call 102; refine (HC.out _).mono ?_; rintro e w1 ⟨rfl, rfl⟩))
        go_ret3
        exact ⟨by rw [HF.out, if_neg (by rw [H2.out]; simp)]; rfl, by go_grown⟩
      · have hc2 : (Cr.column (a :: t)).2 ≠ 0 := by simpa using hc
        have H2 := Lib.hid hc2
        clear hc2
        go_enter Tryd.func76, Tryd.ntmps76
        go_wp2_with (first | (go_at_call 102; refine (HC.out _).mono ?_; rintro e w1 ⟨rfl, rfl⟩))
        go_ret3
        exact ⟨by rw [HF.out, if_pos (.inl H2.out)]; rfl, by go_grown⟩
  | cons d u =>
    obtain ⟨n, hn, hlt⟩ := Cr.atoi_digits hd (by simp)
    have hat : ∀ W : World, Calls Tryd.prog 101 #[sv (d :: u)] W fun e w' => e = .returned (.tuple #[.int .i64 n, .nilIface]) ∧ Below W.heap.size W w' := fun W =>
      (Tryd.strconv_Atoi ⟨(d :: u).toArray⟩ n (by rw [size_mk]; have := hd.1; omega) hn W).mono fun e w' ⟨he, t, ht⟩ => ⟨he, by rw [ht]; exact Lib.bytesWorld_below _ _ _⟩
    have HA := Lib.hid hat
    clear hat hd
    cases ls with
    | nil =>
      have hF : Cr.valuesF ⟨[], d :: u, ac, ar⟩ = if (0 : Int) ≠ 0 ∨ (1073741824 : Int) ≤ (Lib.atoi (d :: u)).getD 0 - 1 then (0, 0, 2) else ((Lib.atoi (d :: u)).getD 0 - 1, 0, 0) := rfl
      rw [hn] at hF
      simp only [Option.getD_some] at hF
      have HF := Lib.hid hF
      clear hF hn
      by_cases hb : (1073741824 : Int) ≤ n - 1
      · go_enter Tryd.func76, Tryd.ntmps76
        go_wp2_with (first | (go_at_call 101; refine (HA.out _).mono ?_; rintro e w1 ⟨rfl, hw⟩; obtain ⟨hcs, hB⟩ := box_after hw; have c0 := hcs 0; clear hw hcs))
        go_ret3
        exact ⟨by rw [HF.out, if_pos (.inr hb)]; rfl, by assumption⟩
      · go_enter Tryd.func76, Tryd.ntmps76
        go_wp2_with (first | (go_at_call 101; refine (HA.out _).mono ?_; rintro e w1 ⟨rfl, hw⟩; obtain ⟨hcs, hB⟩ := box_after hw; have c0 := hcs 0; clear hw hcs))
        go_ret3
        exact ⟨by rw [HF.out, if_neg (by omega)]; rfl, by assumption⟩
    | cons a t =>
      have hF : Cr.valuesF ⟨a :: t, d :: u, ac, ar⟩ = if (Cr.column (a :: t)).2 ≠ 0 ∨ (1073741824 : Int) ≤ (Lib.atoi (d :: u)).getD 0 - 1 then (0, 0, 2) else ((Lib.atoi (d :: u)).getD 0 - 1, (Cr.column (a :: t)).1, 0) := rfl
      rw [hn] at hF
      simp only [Option.getD_some] at hF
      have HF := Lib.hid hF
      clear hF hn
      cases hc : ((Cr.column (a :: t)).2 != 0)
      · have hc2 : (Cr.column (a :: t)).2 = 0 := by simpa using hc
        have H2 := Lib.hid hc2
        clear hc2
        by_cases hb : (1073741824 : Int) ≤ n - 1
        · go_enter Tryd.func76, Tryd.ntmps76
          go_wp2_with (first | (go_at_call 101; refine (HA.out _).mono ?_; rintro e w1 ⟨rfl, hw⟩; obtain ⟨hcs, hB⟩ := box_after hw; have c0 := hcs 0; clear hw hcs) | (go_at_call 102; refine (HC.out _).mono ?_; rintro e w2 ⟨rfl, rfl⟩))
          go_ret3
          exact ⟨by rw [HF.out, if_pos (.inr hb)]; rfl, by assumption⟩
        · go_enter Tryd.func76, Tryd.ntmps76
          go_wp2_with (first | (go_at_call 101; refine (HA.out _).mono ?_; rintro e w1 ⟨rfl, hw⟩; obtain ⟨hcs, hB⟩ := box_after hw; have c0 := hcs 0; clear hw hcs) | (go_at_call 102; refine (HC.out _).mono ?_; rintro e w2 ⟨rfl, rfl⟩))
          go_ret3
          exact ⟨by rw [HF.out, if_neg (by rw [H2.out]; omega)]; rfl, by assumption⟩
      · have hc2 : (Cr.column (a :: t)).2 ≠ 0 := by simpa using hc
        have H2 := Lib.hid hc2
        clear hc2
        go_enter Tryd.func76, Tryd.ntmps76
        go_wp2_with (first | (go_at_call 101; refine (HA.out _).mono ?_; rintro e w1 ⟨rfl, hw⟩; obtain ⟨hcs, hB⟩ := box_after hw; have c0 := hcs 0; clear hw hcs) | (go_at_call 102; refine (HC.out _).mono ?_; rintro e w2 ⟨rfl, rfl⟩))
        go_ret3
        exact ⟨by rw [HF.out, if_pos (.inl H2.out)]; rfl, by assumption⟩
end Go.Proofs.YtjgojbkmeggmhaaDoor
