/- The walk of the law RefCopiedBack. -/
import Derived.Test.YtdepdihdjghicaaDoorCrX
import Derived.Test.YtdepdihdjghicaaDoorCrCb
namespace Go.Proofs.YtdepdihdjghicaaDoor
open Go.RowKit

set_option maxHeartbeats 1000000 in
theorem copiedback_bad (r : Ref) (n m : Int) (w : World) (he : Env w) (hs : r.sheet.size ≤ maxLen) (h : r.check ≠ 0) :
    Calls Tryd.prog 5 #[r.v, .int .i64 n, .int .i64 m] w fun e w' => e = .returned (.bool true) ∧ Below w.heap.size w w' := by
  have hC := fun W => check_any r W hs
  have hne : (r.check != 0) = true := by simpa using h
  obtain ⟨sh, k, ro, co, ro2, co2, ar, ac, ar2, ac2⟩ := r
  generalize Ref.check ⟨sh, k, ro, co, ro2, co2, ar, ac, ar2, ac2⟩ = E at *
  have HC := Lib.hid hC
  clear hC h
  go_enter Tryd.func5, Tryd.ntmps5
  go_wp2_with (first | (go_at_call 10; refine (refs_any _ (he.below ?_)).mono ?_; go_grown; rintro e w1 ⟨rfl, hw⟩; have hR1 := (Blk.new w 37 #[.string sh, .int .i64 k, .int .i64 ro, .int .i64 co, .int .i64 ro2, .int .i64 co2, .bool ar, .bool ac, .bool ar2, .bool ac2]).later hw; have hB1 := (box_after hw).2; clear hw; obtain ⟨c0, c1, c2, c3, c4, c5, c6, c7, c8, c9⟩ := hR1.ten) | (go_at_call 14; refine (HC.out _).mono ?_; rintro e w2 ⟨rfl, hw⟩; have hR2 := hR1.later hw; have hB2 := below_tr hB1 hw; clear hw c0 c1 c2 c3 c4 c5 c6 c7 c8 c9 hR1 hB1; obtain ⟨c0, c1, c2, c3, c4, c5, c6, c7, c8, c9⟩ := hR2.ten))
  go_ret
  exact ⟨rfl, by assumption⟩

set_option maxRecDepth 100000 in
set_option maxHeartbeats 4000000 in
theorem copiedback_ok (r : Ref) (n m : Int) (w : World) (he : Env w) (h : r.check = 0) (hn : -9223372036854775808 ≤ n ∧ n ≤ 9223372036854775807) (hm : -9223372036854775808 ≤ m ∧ m ≤ 9223372036854775807) :
    Calls Tryd.prog 5 #[r.v, .int .i64 n, .int .i64 m] w fun e w' => e = .returned (.bool true) ∧ Below w.heap.size w w' := by
  have hnm := (Ref.check_ok h).2.2.1
  have hlen := Cr.nameE_len hnm
  have hC := fun W => check_any r W (by unfold maxLen; simp at hlen; omega)
  rw [h] at hC
  have n0 : 0 ≤ n % 2001 := Int.emod_nonneg _ (by decide)
  have n1 : n % 2001 < 2001 := Int.emod_lt_of_pos _ (by decide)
  have m0 : 0 ≤ m % 2001 := Int.emod_nonneg _ (by decide)
  have m1 : m % 2001 < 2001 := Int.emod_lt_of_pos _ (by decide)
  have hM1 := fun W => mod_any n 2001 W (by decide) (by decide) hn
  have hM2 := fun W => mod_any m 2001 W (by decide) (by decide) hm
  generalize n % 2001 = a at *
  generalize m % 2001 = b at *
  have hS : ∀ W d t, d = a - 1000 → t = b - 1000 → Calls Tryd.prog 15 #[r.v, .int .i64 d, .int .i64 t] W fun e w' => e = .returned (.tuple #[(r.copied (a - 1000) (b - 1000)).v, .int .i64 0]) ∧ Below W.heap.size W w' := by
    rintro W d t rfl rfl
    exact copied_ok r _ _ W h (by omega) (by omega)
  obtain ⟨hok, hbad, hback⟩ := copied_back r (a - 1000) (b - 1000) h
  have hU : ∀ W d t, d = -(a - 1000) → t = -(b - 1000) → Calls Tryd.prog 15 #[(r.copied (a - 1000) (b - 1000)).v, .int .i64 d, .int .i64 t] W fun e w' => e = .returned (.tuple #[((r.copied (a - 1000) (b - 1000)).copied (-(a - 1000)) (-(b - 1000))).v, .int .i64 0]) ∧ Below W.heap.size W w' := by
    rintro W d t rfl rfl
    exact copied_ok _ _ _ W hok (by omega) (by omega)
  generalize (r.copied (a - 1000) (b - 1000)).copied (-(a - 1000)) (-(b - 1000)) = U at *
  generalize r.copied (a - 1000) (b - 1000) = S at *
  clear hok hlen hnm
  have hsame := fun W => ref_eql U r W
  have hiff := Ref.same_iff U r
  obtain ⟨sh, k, ro, co, ro2, co2, ar, ac, ar2, ac2⟩ := r
  obtain ⟨ssh, sk, sro, sco, sro2, sco2, sar, sac, sar2, sac2⟩ := S
  obtain ⟨ush, uk, uro, uco, uro2, uco2, uar, uac, uar2, uac2⟩ := U
  dsimp only at *
  have HC := Lib.hid hC
  have HS := Lib.hid hS
  have HU := Lib.hid hU
  have HM1 := Lib.hid hM1
  have HM2 := Lib.hid hM2
  clear hC hS hU hM1 hM2 h hn hm
  by_cases h4 : sk = 4
  · have hu := hbad h4
    subst h4 hu
    clear hback hiff hbad hsame
    go_enter Tryd.func5, Tryd.ntmps5
    go_wp2_with (first | (go_at_call 10; refine (refs_any _ (he.below ?_)).mono ?_; go_grown; rintro e w1 ⟨rfl, hw⟩; have hR1 := (Blk.new w 37 #[.string sh, .int .i64 k, .int .i64 ro, .int .i64 co, .int .i64 ro2, .int .i64 co2, .bool ar, .bool ac, .bool ar2, .bool ac2]).later hw; have hB1 := (box_after hw).2; clear hw; obtain ⟨c0, c1, c2, c3, c4, c5, c6, c7, c8, c9⟩ := hR1.ten) | (go_at_call 14; refine (HC.out _).mono ?_; rintro e w2 ⟨rfl, hw⟩; have hR2 := hR1.later hw; have hB2 := below_tr hB1 hw; clear hw c0 c1 c2 c3 c4 c5 c6 c7 c8 c9 hR1 hB1; obtain ⟨c0, c1, c2, c3, c4, c5, c6, c7, c8, c9⟩ := hR2.ten) | (go_at_call 11; first | ((with_reducible refine (HM1.out _).mono ?_); rintro e w3 ⟨rfl, rfl⟩) | ((with_reducible refine (HM2.out _).mono ?_); rintro e w3 ⟨rfl, rfl⟩)) | (go_at_call 15; (with_reducible refine (HS.out _ _ _ ?_ ?_).mono ?_); omega; omega; rintro e w4 ⟨rfl, hw⟩; have hR4 := hR2.later hw; have hB4 := below_tr hB2 hw; clear hw HS c0 c1 c2 c3 c4 c5 c6 c7 c8 c9 hR2 hB2) | (go_at_call 15; (with_reducible refine (HU.out _ _ _ ?_ ?_).mono ?_); omega; omega; rintro e w5 ⟨rfl, hw⟩; have hR5 := (hR4.alloc (.cells #[.string ssh, .int .i64 4, .int .i64 sro, .int .i64 sco, .int .i64 sro2, .int .i64 sco2, .bool sar, .bool sac, .bool sar2, .bool sac2] 37)).later hw; have hS5 := (Blk.new w4 37 #[.string ssh, .int .i64 4, .int .i64 sro, .int .i64 sco, .int .i64 sro2, .int .i64 sco2, .bool sar, .bool sac, .bool sar2, .bool sac2]).later hw; have hB5 := below_tr (hB4.alloc hB4.size (.cells #[.string ssh, .int .i64 4, .int .i64 sro, .int .i64 sco, .int .i64 sro2, .int .i64 sco2, .bool sar, .bool sac, .bool sar2, .bool sac2] 37)) hw; clear hw HU hR4 hB4; obtain ⟨c0, c1, c2, c3, c4, c5, c6, c7, c8, c9⟩ := hR5.ten; obtain ⟨d0, d1, d2, d3, d4, d5, d6, d7, d8, d9⟩ := hS5.ten; have l1 := hR5.lt; have l2 := hS5.lt))
    go_ret
    exact ⟨rfl, hB5.alloc hB5.size _⟩

  have h4' : (sk == 4) = false := by simpa using h4
  have hb := hback h4
  clear hback hbad
  cases hq : Ref.same ⟨ush, uk, uro, uco, uro2, uco2, uar, uac, uar2, uac2⟩ ⟨sh, k, ro, co, ro2, co2, ar, ac, ar2, ac2⟩
  · rcases hb with hb | ⟨k1, k2, k3⟩
    · exact absurd (hiff.2 hb) (by rw [hq]; decide)
    subst k2
    rw [hq] at hsame
    clear hiff hq h4
    cases ar <;> cases ar2
    · have hc : ac ≠ ac2 := by simpa using k3
      cases ac <;> cases ac2
      · exact absurd rfl hc
      · clear hc k3
        go_enter Tryd.func5, Tryd.ntmps5
        go_wp2_with (first | (go_at_call 10; refine (refs_any _ (he.below ?_)).mono ?_; go_grown; rintro e w1 ⟨rfl, hw⟩; have hR1 := (Blk.new w 37 #[.string sh, .int .i64 uk, .int .i64 ro, .int .i64 co, .int .i64 ro2, .int .i64 co2, .bool false, .bool false, .bool false, .bool true]).later hw; have hB1 := (box_after hw).2; clear hw; obtain ⟨c0, c1, c2, c3, c4, c5, c6, c7, c8, c9⟩ := hR1.ten) | (go_at_call 14; refine (HC.out _).mono ?_; rintro e w2 ⟨rfl, hw⟩; have hR2 := hR1.later hw; have hB2 := below_tr hB1 hw; clear hw c0 c1 c2 c3 c4 c5 c6 c7 c8 c9 hR1 hB1; obtain ⟨c0, c1, c2, c3, c4, c5, c6, c7, c8, c9⟩ := hR2.ten) | (go_at_call 11; first | ((with_reducible refine (HM1.out _).mono ?_); rintro e w3 ⟨rfl, rfl⟩) | ((with_reducible refine (HM2.out _).mono ?_); rintro e w3 ⟨rfl, rfl⟩)) | (go_at_call 15; (with_reducible refine (HS.out _ _ _ ?_ ?_).mono ?_); omega; omega; rintro e w4 ⟨rfl, hw⟩; have hR4 := hR2.later hw; have hB4 := below_tr hB2 hw; clear hw HS c0 c1 c2 c3 c4 c5 c6 c7 c8 c9 hR2 hB2) | (go_at_call 15; (with_reducible refine (HU.out _ _ _ ?_ ?_).mono ?_); omega; omega; rintro e w5 ⟨rfl, hw⟩; have hR5 := (hR4.alloc (.cells #[.string ssh, .int .i64 sk, .int .i64 sro, .int .i64 sco, .int .i64 sro2, .int .i64 sco2, .bool sar, .bool sac, .bool sar2, .bool sac2] 37)).later hw; have hS5 := (Blk.new w4 37 #[.string ssh, .int .i64 sk, .int .i64 sro, .int .i64 sco, .int .i64 sro2, .int .i64 sco2, .bool sar, .bool sac, .bool sar2, .bool sac2]).later hw; have hB5 := below_tr (hB4.alloc hB4.size (.cells #[.string ssh, .int .i64 sk, .int .i64 sro, .int .i64 sco, .int .i64 sro2, .int .i64 sco2, .bool sar, .bool sac, .bool sar2, .bool sac2] 37)) hw; clear hw HU hR4 hB4; obtain ⟨c0, c1, c2, c3, c4, c5, c6, c7, c8, c9⟩ := hR5.ten; obtain ⟨d0, d1, d2, d3, d4, d5, d6, d7, d8, d9⟩ := hS5.ten; have l1 := hR5.lt; have l2 := hS5.lt))
        go_ret
        exact ⟨rfl, hB5.alloc hB5.size _⟩

      · clear hc k3
        go_enter Tryd.func5, Tryd.ntmps5
        go_wp2_with (first | (go_at_call 10; refine (refs_any _ (he.below ?_)).mono ?_; go_grown; rintro e w1 ⟨rfl, hw⟩; have hR1 := (Blk.new w 37 #[.string sh, .int .i64 uk, .int .i64 ro, .int .i64 co, .int .i64 ro2, .int .i64 co2, .bool false, .bool true, .bool false, .bool false]).later hw; have hB1 := (box_after hw).2; clear hw; obtain ⟨c0, c1, c2, c3, c4, c5, c6, c7, c8, c9⟩ := hR1.ten) | (go_at_call 14; refine (HC.out _).mono ?_; rintro e w2 ⟨rfl, hw⟩; have hR2 := hR1.later hw; have hB2 := below_tr hB1 hw; clear hw c0 c1 c2 c3 c4 c5 c6 c7 c8 c9 hR1 hB1; obtain ⟨c0, c1, c2, c3, c4, c5, c6, c7, c8, c9⟩ := hR2.ten) | (go_at_call 11; first | ((with_reducible refine (HM1.out _).mono ?_); rintro e w3 ⟨rfl, rfl⟩) | ((with_reducible refine (HM2.out _).mono ?_); rintro e w3 ⟨rfl, rfl⟩)) | (go_at_call 15; (with_reducible refine (HS.out _ _ _ ?_ ?_).mono ?_); omega; omega; rintro e w4 ⟨rfl, hw⟩; have hR4 := hR2.later hw; have hB4 := below_tr hB2 hw; clear hw HS c0 c1 c2 c3 c4 c5 c6 c7 c8 c9 hR2 hB2) | (go_at_call 15; (with_reducible refine (HU.out _ _ _ ?_ ?_).mono ?_); omega; omega; rintro e w5 ⟨rfl, hw⟩; have hR5 := (hR4.alloc (.cells #[.string ssh, .int .i64 sk, .int .i64 sro, .int .i64 sco, .int .i64 sro2, .int .i64 sco2, .bool sar, .bool sac, .bool sar2, .bool sac2] 37)).later hw; have hS5 := (Blk.new w4 37 #[.string ssh, .int .i64 sk, .int .i64 sro, .int .i64 sco, .int .i64 sro2, .int .i64 sco2, .bool sar, .bool sac, .bool sar2, .bool sac2]).later hw; have hB5 := below_tr (hB4.alloc hB4.size (.cells #[.string ssh, .int .i64 sk, .int .i64 sro, .int .i64 sco, .int .i64 sro2, .int .i64 sco2, .bool sar, .bool sac, .bool sar2, .bool sac2] 37)) hw; clear hw HU hR4 hB4; obtain ⟨c0, c1, c2, c3, c4, c5, c6, c7, c8, c9⟩ := hR5.ten; obtain ⟨d0, d1, d2, d3, d4, d5, d6, d7, d8, d9⟩ := hS5.ten; have l1 := hR5.lt; have l2 := hS5.lt))
        go_ret
        exact ⟨rfl, hB5.alloc hB5.size _⟩

      · exact absurd rfl hc
    · clear k3
      go_enter Tryd.func5, Tryd.ntmps5
      go_wp2_with (first | (go_at_call 10; refine (refs_any _ (he.below ?_)).mono ?_; go_grown; rintro e w1 ⟨rfl, hw⟩; have hR1 := (Blk.new w 37 #[.string sh, .int .i64 uk, .int .i64 ro, .int .i64 co, .int .i64 ro2, .int .i64 co2, .bool false, .bool ac, .bool true, .bool ac2]).later hw; have hB1 := (box_after hw).2; clear hw; obtain ⟨c0, c1, c2, c3, c4, c5, c6, c7, c8, c9⟩ := hR1.ten) | (go_at_call 14; refine (HC.out _).mono ?_; rintro e w2 ⟨rfl, hw⟩; have hR2 := hR1.later hw; have hB2 := below_tr hB1 hw; clear hw c0 c1 c2 c3 c4 c5 c6 c7 c8 c9 hR1 hB1; obtain ⟨c0, c1, c2, c3, c4, c5, c6, c7, c8, c9⟩ := hR2.ten) | (go_at_call 11; first | ((with_reducible refine (HM1.out _).mono ?_); rintro e w3 ⟨rfl, rfl⟩) | ((with_reducible refine (HM2.out _).mono ?_); rintro e w3 ⟨rfl, rfl⟩)) | (go_at_call 15; (with_reducible refine (HS.out _ _ _ ?_ ?_).mono ?_); omega; omega; rintro e w4 ⟨rfl, hw⟩; have hR4 := hR2.later hw; have hB4 := below_tr hB2 hw; clear hw HS c0 c1 c2 c3 c4 c5 c6 c7 c8 c9 hR2 hB2) | (go_at_call 15; (with_reducible refine (HU.out _ _ _ ?_ ?_).mono ?_); omega; omega; rintro e w5 ⟨rfl, hw⟩; have hR5 := (hR4.alloc (.cells #[.string ssh, .int .i64 sk, .int .i64 sro, .int .i64 sco, .int .i64 sro2, .int .i64 sco2, .bool sar, .bool sac, .bool sar2, .bool sac2] 37)).later hw; have hS5 := (Blk.new w4 37 #[.string ssh, .int .i64 sk, .int .i64 sro, .int .i64 sco, .int .i64 sro2, .int .i64 sco2, .bool sar, .bool sac, .bool sar2, .bool sac2]).later hw; have hB5 := below_tr (hB4.alloc hB4.size (.cells #[.string ssh, .int .i64 sk, .int .i64 sro, .int .i64 sco, .int .i64 sro2, .int .i64 sco2, .bool sar, .bool sac, .bool sar2, .bool sac2] 37)) hw; clear hw HU hR4 hB4; obtain ⟨c0, c1, c2, c3, c4, c5, c6, c7, c8, c9⟩ := hR5.ten; obtain ⟨d0, d1, d2, d3, d4, d5, d6, d7, d8, d9⟩ := hS5.ten; have l1 := hR5.lt; have l2 := hS5.lt))
      go_ret
      exact ⟨rfl, hB5.alloc hB5.size _⟩

    · clear k3
      go_enter Tryd.func5, Tryd.ntmps5
      go_wp2_with (first | (go_at_call 10; refine (refs_any _ (he.below ?_)).mono ?_; go_grown; rintro e w1 ⟨rfl, hw⟩; have hR1 := (Blk.new w 37 #[.string sh, .int .i64 uk, .int .i64 ro, .int .i64 co, .int .i64 ro2, .int .i64 co2, .bool true, .bool ac, .bool false, .bool ac2]).later hw; have hB1 := (box_after hw).2; clear hw; obtain ⟨c0, c1, c2, c3, c4, c5, c6, c7, c8, c9⟩ := hR1.ten) | (go_at_call 14; refine (HC.out _).mono ?_; rintro e w2 ⟨rfl, hw⟩; have hR2 := hR1.later hw; have hB2 := below_tr hB1 hw; clear hw c0 c1 c2 c3 c4 c5 c6 c7 c8 c9 hR1 hB1; obtain ⟨c0, c1, c2, c3, c4, c5, c6, c7, c8, c9⟩ := hR2.ten) | (go_at_call 11; first | ((with_reducible refine (HM1.out _).mono ?_); rintro e w3 ⟨rfl, rfl⟩) | ((with_reducible refine (HM2.out _).mono ?_); rintro e w3 ⟨rfl, rfl⟩)) | (go_at_call 15; (with_reducible refine (HS.out _ _ _ ?_ ?_).mono ?_); omega; omega; rintro e w4 ⟨rfl, hw⟩; have hR4 := hR2.later hw; have hB4 := below_tr hB2 hw; clear hw HS c0 c1 c2 c3 c4 c5 c6 c7 c8 c9 hR2 hB2) | (go_at_call 15; (with_reducible refine (HU.out _ _ _ ?_ ?_).mono ?_); omega; omega; rintro e w5 ⟨rfl, hw⟩; have hR5 := (hR4.alloc (.cells #[.string ssh, .int .i64 sk, .int .i64 sro, .int .i64 sco, .int .i64 sro2, .int .i64 sco2, .bool sar, .bool sac, .bool sar2, .bool sac2] 37)).later hw; have hS5 := (Blk.new w4 37 #[.string ssh, .int .i64 sk, .int .i64 sro, .int .i64 sco, .int .i64 sro2, .int .i64 sco2, .bool sar, .bool sac, .bool sar2, .bool sac2]).later hw; have hB5 := below_tr (hB4.alloc hB4.size (.cells #[.string ssh, .int .i64 sk, .int .i64 sro, .int .i64 sco, .int .i64 sro2, .int .i64 sco2, .bool sar, .bool sac, .bool sar2, .bool sac2] 37)) hw; clear hw HU hR4 hB4; obtain ⟨c0, c1, c2, c3, c4, c5, c6, c7, c8, c9⟩ := hR5.ten; obtain ⟨d0, d1, d2, d3, d4, d5, d6, d7, d8, d9⟩ := hS5.ten; have l1 := hR5.lt; have l2 := hS5.lt))
      go_ret
      exact ⟨rfl, hB5.alloc hB5.size _⟩

    · have hc : ac ≠ ac2 := by simpa using k3
      cases ac <;> cases ac2
      · exact absurd rfl hc
      · clear hc k3
        go_enter Tryd.func5, Tryd.ntmps5
        go_wp2_with (first | (go_at_call 10; refine (refs_any _ (he.below ?_)).mono ?_; go_grown; rintro e w1 ⟨rfl, hw⟩; have hR1 := (Blk.new w 37 #[.string sh, .int .i64 uk, .int .i64 ro, .int .i64 co, .int .i64 ro2, .int .i64 co2, .bool true, .bool false, .bool true, .bool true]).later hw; have hB1 := (box_after hw).2; clear hw; obtain ⟨c0, c1, c2, c3, c4, c5, c6, c7, c8, c9⟩ := hR1.ten) | (go_at_call 14; refine (HC.out _).mono ?_; rintro e w2 ⟨rfl, hw⟩; have hR2 := hR1.later hw; have hB2 := below_tr hB1 hw; clear hw c0 c1 c2 c3 c4 c5 c6 c7 c8 c9 hR1 hB1; obtain ⟨c0, c1, c2, c3, c4, c5, c6, c7, c8, c9⟩ := hR2.ten) | (go_at_call 11; first | ((with_reducible refine (HM1.out _).mono ?_); rintro e w3 ⟨rfl, rfl⟩) | ((with_reducible refine (HM2.out _).mono ?_); rintro e w3 ⟨rfl, rfl⟩)) | (go_at_call 15; (with_reducible refine (HS.out _ _ _ ?_ ?_).mono ?_); omega; omega; rintro e w4 ⟨rfl, hw⟩; have hR4 := hR2.later hw; have hB4 := below_tr hB2 hw; clear hw HS c0 c1 c2 c3 c4 c5 c6 c7 c8 c9 hR2 hB2) | (go_at_call 15; (with_reducible refine (HU.out _ _ _ ?_ ?_).mono ?_); omega; omega; rintro e w5 ⟨rfl, hw⟩; have hR5 := (hR4.alloc (.cells #[.string ssh, .int .i64 sk, .int .i64 sro, .int .i64 sco, .int .i64 sro2, .int .i64 sco2, .bool sar, .bool sac, .bool sar2, .bool sac2] 37)).later hw; have hS5 := (Blk.new w4 37 #[.string ssh, .int .i64 sk, .int .i64 sro, .int .i64 sco, .int .i64 sro2, .int .i64 sco2, .bool sar, .bool sac, .bool sar2, .bool sac2]).later hw; have hB5 := below_tr (hB4.alloc hB4.size (.cells #[.string ssh, .int .i64 sk, .int .i64 sro, .int .i64 sco, .int .i64 sro2, .int .i64 sco2, .bool sar, .bool sac, .bool sar2, .bool sac2] 37)) hw; clear hw HU hR4 hB4; obtain ⟨c0, c1, c2, c3, c4, c5, c6, c7, c8, c9⟩ := hR5.ten; obtain ⟨d0, d1, d2, d3, d4, d5, d6, d7, d8, d9⟩ := hS5.ten; have l1 := hR5.lt; have l2 := hS5.lt))
        go_ret
        exact ⟨rfl, hB5.alloc hB5.size _⟩

      · clear hc k3
        go_enter Tryd.func5, Tryd.ntmps5
        go_wp2_with (first | (go_at_call 10; refine (refs_any _ (he.below ?_)).mono ?_; go_grown; rintro e w1 ⟨rfl, hw⟩; have hR1 := (Blk.new w 37 #[.string sh, .int .i64 uk, .int .i64 ro, .int .i64 co, .int .i64 ro2, .int .i64 co2, .bool true, .bool true, .bool true, .bool false]).later hw; have hB1 := (box_after hw).2; clear hw; obtain ⟨c0, c1, c2, c3, c4, c5, c6, c7, c8, c9⟩ := hR1.ten) | (go_at_call 14; refine (HC.out _).mono ?_; rintro e w2 ⟨rfl, hw⟩; have hR2 := hR1.later hw; have hB2 := below_tr hB1 hw; clear hw c0 c1 c2 c3 c4 c5 c6 c7 c8 c9 hR1 hB1; obtain ⟨c0, c1, c2, c3, c4, c5, c6, c7, c8, c9⟩ := hR2.ten) | (go_at_call 11; first | ((with_reducible refine (HM1.out _).mono ?_); rintro e w3 ⟨rfl, rfl⟩) | ((with_reducible refine (HM2.out _).mono ?_); rintro e w3 ⟨rfl, rfl⟩)) | (go_at_call 15; (with_reducible refine (HS.out _ _ _ ?_ ?_).mono ?_); omega; omega; rintro e w4 ⟨rfl, hw⟩; have hR4 := hR2.later hw; have hB4 := below_tr hB2 hw; clear hw HS c0 c1 c2 c3 c4 c5 c6 c7 c8 c9 hR2 hB2) | (go_at_call 15; (with_reducible refine (HU.out _ _ _ ?_ ?_).mono ?_); omega; omega; rintro e w5 ⟨rfl, hw⟩; have hR5 := (hR4.alloc (.cells #[.string ssh, .int .i64 sk, .int .i64 sro, .int .i64 sco, .int .i64 sro2, .int .i64 sco2, .bool sar, .bool sac, .bool sar2, .bool sac2] 37)).later hw; have hS5 := (Blk.new w4 37 #[.string ssh, .int .i64 sk, .int .i64 sro, .int .i64 sco, .int .i64 sro2, .int .i64 sco2, .bool sar, .bool sac, .bool sar2, .bool sac2]).later hw; have hB5 := below_tr (hB4.alloc hB4.size (.cells #[.string ssh, .int .i64 sk, .int .i64 sro, .int .i64 sco, .int .i64 sro2, .int .i64 sco2, .bool sar, .bool sac, .bool sar2, .bool sac2] 37)) hw; clear hw HU hR4 hB4; obtain ⟨c0, c1, c2, c3, c4, c5, c6, c7, c8, c9⟩ := hR5.ten; obtain ⟨d0, d1, d2, d3, d4, d5, d6, d7, d8, d9⟩ := hS5.ten; have l1 := hR5.lt; have l2 := hS5.lt))
        go_ret
        exact ⟨rfl, hB5.alloc hB5.size _⟩

      · exact absurd rfl hc
  · rw [hq] at hsame
    clear hiff hq h4 hb
    go_enter Tryd.func5, Tryd.ntmps5
    go_wp2_with (first | (go_at_call 10; refine (refs_any _ (he.below ?_)).mono ?_; go_grown; rintro e w1 ⟨rfl, hw⟩; have hR1 := (Blk.new w 37 #[.string sh, .int .i64 k, .int .i64 ro, .int .i64 co, .int .i64 ro2, .int .i64 co2, .bool ar, .bool ac, .bool ar2, .bool ac2]).later hw; have hB1 := (box_after hw).2; clear hw; obtain ⟨c0, c1, c2, c3, c4, c5, c6, c7, c8, c9⟩ := hR1.ten) | (go_at_call 14; refine (HC.out _).mono ?_; rintro e w2 ⟨rfl, hw⟩; have hR2 := hR1.later hw; have hB2 := below_tr hB1 hw; clear hw c0 c1 c2 c3 c4 c5 c6 c7 c8 c9 hR1 hB1; obtain ⟨c0, c1, c2, c3, c4, c5, c6, c7, c8, c9⟩ := hR2.ten) | (go_at_call 11; first | ((with_reducible refine (HM1.out _).mono ?_); rintro e w3 ⟨rfl, rfl⟩) | ((with_reducible refine (HM2.out _).mono ?_); rintro e w3 ⟨rfl, rfl⟩)) | (go_at_call 15; (with_reducible refine (HS.out _ _ _ ?_ ?_).mono ?_); omega; omega; rintro e w4 ⟨rfl, hw⟩; have hR4 := hR2.later hw; have hB4 := below_tr hB2 hw; clear hw HS c0 c1 c2 c3 c4 c5 c6 c7 c8 c9 hR2 hB2) | (go_at_call 15; (with_reducible refine (HU.out _ _ _ ?_ ?_).mono ?_); omega; omega; rintro e w5 ⟨rfl, hw⟩; have hR5 := (hR4.alloc (.cells #[.string ssh, .int .i64 sk, .int .i64 sro, .int .i64 sco, .int .i64 sro2, .int .i64 sco2, .bool sar, .bool sac, .bool sar2, .bool sac2] 37)).later hw; have hS5 := (Blk.new w4 37 #[.string ssh, .int .i64 sk, .int .i64 sro, .int .i64 sco, .int .i64 sro2, .int .i64 sco2, .bool sar, .bool sac, .bool sar2, .bool sac2]).later hw; have hB5 := below_tr (hB4.alloc hB4.size (.cells #[.string ssh, .int .i64 sk, .int .i64 sro, .int .i64 sco, .int .i64 sro2, .int .i64 sco2, .bool sar, .bool sac, .bool sar2, .bool sac2] 37)) hw; clear hw HU hR4 hB4; obtain ⟨c0, c1, c2, c3, c4, c5, c6, c7, c8, c9⟩ := hR5.ten; obtain ⟨d0, d1, d2, d3, d4, d5, d6, d7, d8, d9⟩ := hS5.ten; have l1 := hR5.lt; have l2 := hS5.lt))
    go_ret
    exact ⟨rfl, hB5.alloc hB5.size _⟩

theorem copiedback_any (r : Ref) (n m : Int) (w : World) (he : Env w) (hs : r.sheet.size ≤ maxLen) (hn : -9223372036854775808 ≤ n ∧ n ≤ 9223372036854775807) (hm : -9223372036854775808 ≤ m ∧ m ≤ 9223372036854775807) :
    Calls Tryd.prog 5 #[r.v, .int .i64 n, .int .i64 m] w fun e w' => e = .returned (.bool true) ∧ Below w.heap.size w w' := by
  by_cases h : r.check = 0
  · exact copiedback_ok r n m w he h hn hm
  · exact copiedback_bad r n m w he hs h
end Go.Proofs.YtdepdihdjghicaaDoor
