/- DatesStep's walk. -/
import Derived.Test.YtmmlcponmdalmaaGreatDoorVaI
import Derived.Test.YtmmlcponmdalmaaGreatDoorMod
namespace Go.Proofs.YtmmlcponmdalmaaGreatDoor
open Go.RowKit

set_option maxRecDepth 100000 in
set_option maxHeartbeats 4000000 in
theorem dates_any (n : Int) (w : World) (hn : -9223372036854775808 ≤ n ∧ n ≤ 9223372036854775807) (he : VEnv w) :
    Calls Tryz.prog 5 #[.int .i64 n] w fun e w' => e = .returned (.bool true) ∧ Below w.heap.size w w' := by
  have HV := Lib.hid (values_any w he)
  have HM := Lib.hid fun W => mod_any n 2958463 W (by decide) (by decide) hn
  have hp := Int.emod_nonneg n (show (2958463 : Int) ≠ 0 by decide)
  have hq := Int.emod_lt_of_pos n (show (0 : Int) < 2958463 by decide)
  obtain ⟨q, hq'⟩ : ∃ q, q = n % 2958463 := ⟨_, rfl⟩
  rw [← hq'] at HM hp hq
  clear hq' hn he
  have HD1 := Lib.hid fun W => date_any (1 + q) W (by omega) (by omega)
  have HD2 := Lib.hid fun W => date_any (1 + q + 1) W (by omega) (by omega)
  have HI := Lib.hid fun y m d W => day_in y m d W
  have HO := Lib.hid fun y m d W => day_out y m d W
  go_enter Tryz.func5, Tryz.ntmps5
  go_upto_region 6 with (first
    | (go_at_call 14; (with_reducible refine HV.out.mono ?_); rintro e w1 ⟨rfl, hb⟩; have HB1 := Lib.hid hb; clear hb)
    | (go_at_call 20; (with_reducible refine (HM.out _).mono ?_); rintro e w2 ⟨rfl, rfl⟩)
    | (go_at_call 21; first
      | ((with_reducible refine (HD1.out _).mono ?_); rintro e w3 ⟨y, m, d, rfl, k1, y1, y2, hb⟩; have HB3 := Lib.hid (HB1.out.trans (hb.mono HB1.out.size)); have K1 := Lib.hid k1; clear hb k1)
      | ((with_reducible refine (HD2.out _).mono ?_); rintro e w4 ⟨z, o, b, rfl, k2, z1, z2, hb⟩; have HB4 := Lib.hid (HB3.out.trans (hb.mono HB3.out.size)); have K2 := Lib.hid k2; clear hb k2)))
  have m1 := K1.out.m1
  have m2 := K1.out.m2
  have d1 := K1.out.d1
  have d2 : d ≤ 31 := by have := K1.out.d2; have := Cal.ml_lo y m; omega
  have HDI := Lib.hid (show ∀ W, Calls Tryz.prog 22 #[.int .i64 y, .int .i64 m, .int .i64 d] W fun e w' => e = .returned (.tuple #[.int .i64 (1 + q), .bool true]) ∧ Below W.heap.size W w' from fun W => by
    have := HI.out y m d W y1 y2 m1 m2 d1 K1.out.d2
    rwa [← K1.out.eq] at this)
  have HDO := Lib.hid fun W (h : Cal.ml y m < d + 1) => HO.out y m (d + 1) W y1 y2 m1 m2 (by omega) h
  rcases K1.out.next K2.out with ⟨rfl, n1, (⟨rfl, rfl⟩ | ⟨rfl, rfl, rfl⟩)⟩ | ⟨rfl, rfl, rfl, n1⟩
  · have HN := Lib.hid (show Cal.ml z m < d + 1 by omega)
    clear n1 HI HO HV HM HD1 HD2
    go_wp2_with (go_at_call 22; first
      | ((with_reducible refine (HDI.out _).mono ?_); rintro e w5 ⟨rfl, hb⟩; have HB5 := Lib.hid (HB4.out.trans (hb.mono HB4.out.size)); clear hb)
      | ((with_reducible refine (HDO.out _ HN.out).mono ?_); rintro e w6 ⟨rfl, hb⟩; have HB6 := Lib.hid (HB5.out.trans (hb.mono HB5.out.size)); clear hb))
    go_ret
    exact ⟨rfl, HB6.out⟩
  · have HN := Lib.hid (show Cal.ml y 12 < d + 1 by omega)
    clear n1 HI HO HV HM HD1 HD2
    go_wp2_with (go_at_call 22; first
      | ((with_reducible refine (HDI.out _).mono ?_); rintro e w5 ⟨rfl, hb⟩; have HB5 := Lib.hid (HB4.out.trans (hb.mono HB4.out.size)); clear hb)
      | ((with_reducible refine (HDO.out _ HN.out).mono ?_); rintro e w6 ⟨rfl, hb⟩; have HB6 := Lib.hid (HB5.out.trans (hb.mono HB5.out.size)); clear hb))
    go_ret
    exact ⟨rfl, HB6.out⟩
  · have b1 : ((d + 1 : Int) == 1) = false := by rw [beq_eq_false_iff_ne]; omega
    clear n1 HI HO HV HM HD1 HD2 HDO
    go_wp2_with (go_at_call 22; (with_reducible refine (HDI.out _).mono ?_); rintro e w5 ⟨rfl, hb⟩; have HB5 := Lib.hid (HB4.out.trans (hb.mono HB4.out.size)); clear hb)
    go_ret
    exact ⟨rfl, HB5.out⟩
end Go.Proofs.YtmmlcponmdalmaaGreatDoor
