/- The walk of the law RefTextBack. -/
import Derived.Test.YtdepdihdjghicaaDoorCrW
import Derived.Test.YtdepdihdjghicaaDoorCrTc
namespace Go.Proofs.YtdepdihdjghicaaDoor
open Go.RowKit

theorem text_len (r : Ref) (hc : r.check = 0) : r.text.length ≤ 500 := by
  obtain ⟨hk0, hk4, hn, hmm, hro, hco, hro2, hco2, hord⟩ := Ref.check_ok hc
  have hsl := Cr.sheetS_len (Cr.nameE_len hn)
  have l1 := Cr.colS_len r.col r.ac hco.2
  have l2 := Cr.colS_len r.col2 r.ac2 hco2.2
  have l3 := Cr.rowS_len r.row r.ar hro.1 hro.2
  have l4 := Cr.rowS_len r.row2 r.ar2 hro2.1 hro2.2
  unfold Ref.text
  repeat' split
  all_goals simp
  all_goals omega

set_option maxHeartbeats 1000000 in
theorem textback_bad (r : Ref) (w : World) (he : Env w) (hs : r.sheet.size ≤ maxLen) (h : r.check ≠ 0) :
    Calls Tryd.prog 6 #[r.v] w fun e w' => e = .returned (.bool true) ∧ Below w.heap.size w w' := by
  have hP := fun W => print_bad r W hs h
  have hC := fun W => check_any r W hs
  have hne : (r.check != 0) = true := by simpa using h
  obtain ⟨sh, k, ro, co, ro2, co2, ar, ac, ar2, ac2⟩ := r
  generalize Ref.check ⟨sh, k, ro, co, ro2, co2, ar, ac, ar2, ac2⟩ = E at *
  have HP := Lib.hid hP
  have HC := Lib.hid hC
  clear hP hC h
  go_enter Tryd.func6, Tryd.ntmps6
  go_wp2_with (first | (go_at_call 10; refine (refs_any _ (he.below ?_)).mono ?_; go_grown; rintro e w1 ⟨rfl, hw⟩; have hR1 := (Blk.new w 37 #[.string sh, .int .i64 k, .int .i64 ro, .int .i64 co, .int .i64 ro2, .int .i64 co2, .bool ar, .bool ac, .bool ar2, .bool ac2]).later hw; have hB1 := (box_after hw).2; clear hw; obtain ⟨c0, c1, c2, c3, c4, c5, c6, c7, c8, c9⟩ := hR1.ten) | (go_at_call 16; refine (HP.out _).mono ?_; rintro e w2 ⟨rfl, hw⟩; have hR2 := Blk.later (by assumption) hw; have hB2 := below_tr (by assumption) hw; clear hw; obtain ⟨d0, d1, d2, d3, d4, d5, d6, d7, d8, d9⟩ := hR2.ten) | (go_at_call 14; refine (HC.out _).mono ?_; rintro e w3 ⟨rfl, hw⟩; have hB3 := below_tr (by assumption) hw; clear hw))
  go_ret
  exact ⟨rfl, by assumption⟩

set_option maxHeartbeats 2000000 in
theorem textback_ok (r : Ref) (w : World) (he : Env w) (h : r.check = 0) :
    Calls Tryd.prog 6 #[r.v] w fun e w' => e = .returned (.bool true) ∧ Below w.heap.size w w' := by
  have hP := fun W hE => print_ok r W hE h
  have hlen := text_len r h
  have hQ := fun W hE => parse_any r.text W hE (by omega)
  rw [parse_text r h] at hQ
  have hasc := text_ascii r h
  have hL := fun W => Tryd.strings_ToLower_ascii ⟨r.text.toArray⟩ W (by rw [size_mk]; omega) (fun j b hj => hasc b (List.mem_of_getElem? hj))
  rw [show (⟨r.text.toArray⟩ : ByteArray).data.toList = r.text from rfl] at hL
  have hll : (Lib.toLowerA r.text).length = r.text.length := by unfold Lib.toLowerA; simp
  have hQ2 := fun W hE => parse_any (Lib.toLowerA r.text) W hE (by omega)
  have hlow : r.sheet.data.toList = [] → r.kind ≠ 4 → parseF (Lib.toLowerA r.text) = (r, 0) := fun a b => parse_low r h a b
  have hsame := fun W => ref_eql r r W
  rw [show r.same r = true from (Ref.same_iff r r).2 rfl] at hsame
  generalize parseF (Lib.toLowerA r.text) = F at *
  generalize Lib.toLowerA r.text = T2 at *
  generalize r.text = T at *
  obtain ⟨⟨sh', k', ro', co', ro2', co2', ar', ac', ar2', ac2'⟩, E'⟩ := F
  obtain ⟨sh, k, ro, co, ro2, co2, ar, ac, ar2, ac2⟩ := r
  dsimp only at *
  have HP := Lib.hid hP
  have HQ := Lib.hid hQ
  have HL := Lib.hid hL
  have HQ2 := Lib.hid hQ2
  clear hP hQ hL hQ2 hlen hasc hll h
  by_cases h0 : sh.size = 0
  · have e1 : sh.data.toList = [] := by apply List.eq_nil_of_length_eq_zero; simpa using h0
    have e2 : sh.toList.isEmpty = true := by rw [Lib.toList_data, e1]; rfl
    by_cases h4 : k = 4
    · subst h4
      clear e1 h0 hlow
      go_enter Tryd.func6, Tryd.ntmps6
      go_wp2_with (first | (go_at_call 10; refine (refs_any _ (he.below ?_)).mono ?_; go_grown; rintro e w1 ⟨rfl, hw⟩; have hR1 := (Blk.new w 37 #[.string sh, .int .i64 4, .int .i64 ro, .int .i64 co, .int .i64 ro2, .int .i64 co2, .bool ar, .bool ac, .bool ar2, .bool ac2]).later hw; have hB1 := (box_after hw).2; clear hw; obtain ⟨c0, c1, c2, c3, c4, c5, c6, c7, c8, c9⟩ := hR1.ten) | (go_at_call 16; refine (HP.out _ (he.below ?_)).mono ?_; assumption; rintro e w2 ⟨rfl, hw⟩; have hR2 := hR1.later hw; have hB2 := below_tr hB1 hw; clear hw HP c0 c1 c2 c3 c4 c5 c6 c7 c8 c9 hR1 hB1) | (go_at_call 17; refine (HQ.out _ (he.below ?_)).mono ?_; assumption; rintro e w3 ⟨rfl, hw⟩; have hR3 := hR2.later hw; have hB3 := below_tr hB2 hw; clear hw HQ hR2 hB2) | (go_at_call 18; refine (HL.out _).mono ?_; rintro e w4 ⟨rfl, hw⟩; have hR4 := (hR3.alloc (.cells #[.string sh, .int .i64 4, .int .i64 ro, .int .i64 co, .int .i64 ro2, .int .i64 co2, .bool ar, .bool ac, .bool ar2, .bool ac2] 37)).later hw; have hQ4 := (Blk.new w3 37 #[.string sh, .int .i64 4, .int .i64 ro, .int .i64 co, .int .i64 ro2, .int .i64 co2, .bool ar, .bool ac, .bool ar2, .bool ac2]).later hw; have hB4 := below_tr (hB3.alloc hB3.size (.cells #[.string sh, .int .i64 4, .int .i64 ro, .int .i64 co, .int .i64 ro2, .int .i64 co2, .bool ar, .bool ac, .bool ar2, .bool ac2] 37)) hw; clear hw HL hR3 hB3) | (go_at_call 17; refine (HQ2.out _ (he.below ?_)).mono ?_; assumption; rintro e w5 ⟨rfl, hw⟩; have hR5 := hR4.later hw; have hQ5 := hQ4.later hw; have hB5 := below_tr hB4 hw; clear hw HQ2 hR4 hQ4 hB4; obtain ⟨c0, c1, c2, c3, c4, c5, c6, c7, c8, c9⟩ := hR5.ten; obtain ⟨d0, d1, d2, d3, d4, d5, d6, d7, d8, d9⟩ := hQ5.ten; have l1 := hR5.lt; have l2 := hQ5.lt))
      go_ret
      exact ⟨rfl, hB5.alloc hB5.size _⟩
    · have hF := hlow e1 h4
      injection hF with hF1 hF2
      injection hF1 with g0 g1 g2 g3 g4 g5 g6 g7 g8 g9
      obtain rfl := g0.symm
      obtain rfl := g1.symm
      obtain rfl := g2.symm
      obtain rfl := g3.symm
      obtain rfl := g4.symm
      obtain rfl := g5.symm
      obtain rfl := g6.symm
      obtain rfl := g7.symm
      obtain rfl := g8.symm
      obtain rfl := g9.symm
      obtain rfl := hF2
      have h4' : (k == 4) = false := by simpa using h4
      clear e1 h0 hlow h4
      go_enter Tryd.func6, Tryd.ntmps6
      go_wp2_with (first | (go_at_call 10; refine (refs_any _ (he.below ?_)).mono ?_; go_grown; rintro e w1 ⟨rfl, hw⟩; have hR1 := (Blk.new w 37 #[.string sh, .int .i64 k, .int .i64 ro, .int .i64 co, .int .i64 ro2, .int .i64 co2, .bool ar, .bool ac, .bool ar2, .bool ac2]).later hw; have hB1 := (box_after hw).2; clear hw; obtain ⟨c0, c1, c2, c3, c4, c5, c6, c7, c8, c9⟩ := hR1.ten) | (go_at_call 16; refine (HP.out _ (he.below ?_)).mono ?_; assumption; rintro e w2 ⟨rfl, hw⟩; have hR2 := hR1.later hw; have hB2 := below_tr hB1 hw; clear hw HP c0 c1 c2 c3 c4 c5 c6 c7 c8 c9 hR1 hB1) | (go_at_call 17; refine (HQ.out _ (he.below ?_)).mono ?_; assumption; rintro e w3 ⟨rfl, hw⟩; have hR3 := hR2.later hw; have hB3 := below_tr hB2 hw; clear hw HQ hR2 hB2) | (go_at_call 18; refine (HL.out _).mono ?_; rintro e w4 ⟨rfl, hw⟩; have hR4 := (hR3.alloc (.cells #[.string sh, .int .i64 k, .int .i64 ro, .int .i64 co, .int .i64 ro2, .int .i64 co2, .bool ar, .bool ac, .bool ar2, .bool ac2] 37)).later hw; have hQ4 := (Blk.new w3 37 #[.string sh, .int .i64 k, .int .i64 ro, .int .i64 co, .int .i64 ro2, .int .i64 co2, .bool ar, .bool ac, .bool ar2, .bool ac2]).later hw; have hB4 := below_tr (hB3.alloc hB3.size (.cells #[.string sh, .int .i64 k, .int .i64 ro, .int .i64 co, .int .i64 ro2, .int .i64 co2, .bool ar, .bool ac, .bool ar2, .bool ac2] 37)) hw; clear hw HL hR3 hB3) | (go_at_call 17; refine (HQ2.out _ (he.below ?_)).mono ?_; assumption; rintro e w5 ⟨rfl, hw⟩; have hR5 := hR4.later hw; have hQ5 := hQ4.later hw; have hB5 := below_tr hB4 hw; clear hw HQ2 hR4 hQ4 hB4; obtain ⟨c0, c1, c2, c3, c4, c5, c6, c7, c8, c9⟩ := hR5.ten; obtain ⟨d0, d1, d2, d3, d4, d5, d6, d7, d8, d9⟩ := hQ5.ten; have l1 := hR5.lt; have l2 := hQ5.lt))
      go_ret
      exact ⟨rfl, hB5.alloc hB5.size _⟩
  · have e2 : sh.toList.isEmpty = false := by
      rw [Lib.toList_data]
      cases hx : sh.data.toList with
      | nil => exact absurd (by simpa using congrArg List.length hx) h0
      | cons a l => rfl
    clear h0 hlow
    go_enter Tryd.func6, Tryd.ntmps6
    go_wp2_with (first | (go_at_call 10; refine (refs_any _ (he.below ?_)).mono ?_; go_grown; rintro e w1 ⟨rfl, hw⟩; have hR1 := (Blk.new w 37 #[.string sh, .int .i64 k, .int .i64 ro, .int .i64 co, .int .i64 ro2, .int .i64 co2, .bool ar, .bool ac, .bool ar2, .bool ac2]).later hw; have hB1 := (box_after hw).2; clear hw; obtain ⟨c0, c1, c2, c3, c4, c5, c6, c7, c8, c9⟩ := hR1.ten) | (go_at_call 16; refine (HP.out _ (he.below ?_)).mono ?_; assumption; rintro e w2 ⟨rfl, hw⟩; have hR2 := hR1.later hw; have hB2 := below_tr hB1 hw; clear hw HP c0 c1 c2 c3 c4 c5 c6 c7 c8 c9 hR1 hB1) | (go_at_call 17; refine (HQ.out _ (he.below ?_)).mono ?_; assumption; rintro e w3 ⟨rfl, hw⟩; have hR3 := hR2.later hw; have hB3 := below_tr hB2 hw; clear hw HQ hR2 hB2) | (go_at_call 18; refine (HL.out _).mono ?_; rintro e w4 ⟨rfl, hw⟩; have hR4 := (hR3.alloc (.cells #[.string sh, .int .i64 k, .int .i64 ro, .int .i64 co, .int .i64 ro2, .int .i64 co2, .bool ar, .bool ac, .bool ar2, .bool ac2] 37)).later hw; have hQ4 := (Blk.new w3 37 #[.string sh, .int .i64 k, .int .i64 ro, .int .i64 co, .int .i64 ro2, .int .i64 co2, .bool ar, .bool ac, .bool ar2, .bool ac2]).later hw; have hB4 := below_tr (hB3.alloc hB3.size (.cells #[.string sh, .int .i64 k, .int .i64 ro, .int .i64 co, .int .i64 ro2, .int .i64 co2, .bool ar, .bool ac, .bool ar2, .bool ac2] 37)) hw; clear hw HL hR3 hB3) | (go_at_call 17; refine (HQ2.out _ (he.below ?_)).mono ?_; assumption; rintro e w5 ⟨rfl, hw⟩; have hR5 := hR4.later hw; have hQ5 := hQ4.later hw; have hB5 := below_tr hB4 hw; clear hw HQ2 hR4 hQ4 hB4; obtain ⟨c0, c1, c2, c3, c4, c5, c6, c7, c8, c9⟩ := hR5.ten; obtain ⟨d0, d1, d2, d3, d4, d5, d6, d7, d8, d9⟩ := hQ5.ten; have l1 := hR5.lt; have l2 := hQ5.lt))
    go_ret
    exact ⟨rfl, hB5.alloc hB5.size _⟩

theorem textback_any (r : Ref) (w : World) (he : Env w) (hs : r.sheet.size ≤ maxLen) :
    Calls Tryd.prog 6 #[r.v] w fun e w' => e = .returned (.bool true) ∧ Below w.heap.size w w' := by
  by_cases h : r.check = 0
  · exact textback_ok r w he h
  · exact textback_bad r w he hs h
end Go.Proofs.YtdepdihdjghicaaDoor
