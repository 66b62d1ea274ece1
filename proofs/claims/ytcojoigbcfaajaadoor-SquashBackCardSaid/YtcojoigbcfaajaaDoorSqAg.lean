/- SquashDamaged's walk. -/
import Derived.Test.YtcojoigbcfaajaaDoorSqAf
import Derived.Test.YtcojoigbcfaajaaDoorSqJ
import Derived.Test.YtcojoigbcfaajaaDoorMod
import Derived.Test.YtcojoigbcfaajaaDoorShelf
import Derived.Deep.RegionWith
import Derived.Deep.Cut
namespace Go.Proofs.YtcojoigbcfaajaaDoor
open Go.RowKit

namespace Sq
theorem packF_size (s : ByteArray) : 5 ≤ (toB (packF s)).size ∧ (toB (packF s)).size ≤ s.size + 5 := by
  rw [toB_size]
  unfold packF
  by_cases h : 0 < s.size ∧ (bodF (lgF (tokF s)) (tokF s)).length < s.size
  · rw [if_pos h, List.length_append, List.length_append]
    have : (hd4 s.size).length = 4 := rfl
    simp only [this, List.length_cons, List.length_nil]
    omega
  · rw [if_neg h, List.length_append, List.length_append, List.length_map]
    have : (hd4 s.size).length = 4 := rfl
    have h2 : s.data.toList.length = s.size := rfl
    simp only [this, h2, List.length_cons, List.length_nil]
    omega
theorem unpkT_err (n m : Nat) (t : ByteArray) (h : (unpkT n m t).1 ≠ 0) : (unpkT n m t).2 = ByteArray.empty := by
  unfold unpkT at h ⊢
  by_cases h1 : 1 < m
  · rw [if_pos h1]
  · rw [if_neg h1] at h ⊢
    by_cases h2 : m = 0
    · rw [if_pos h2] at h ⊢
      by_cases h3 : t.size < n
      · rw [if_pos h3]
      · rw [if_neg h3] at h ⊢
        by_cases h4 : n < t.size
        · rw [if_pos h4]
        · rw [if_neg h4] at h
          exact absurd rfl h
    · rw [if_neg h2] at h ⊢
      by_cases h3 : t.size < 136
      · rw [if_pos h3]
      · rw [if_neg h3] at h ⊢
        by_cases h4 : smT (lenF t) 16 ≤ 32768
        · rw [if_pos h4] at h ⊢
          show toB (unpF (lenF t) (t.extract 136 t.size) n 0).2 = _
          rw [unpF_err _ _ _ _ h]
          rfl
        · rw [if_neg h4]
theorem unpkF_err (s : ByteArray) (h : (unpkF s).1 ≠ 0) : (unpkF s).2 = ByteArray.empty := by
  unfold unpkF at h ⊢
  by_cases h5 : s.size < 5
  · rw [if_pos h5]
  · rw [if_neg h5] at h ⊢
    exact unpkT_err _ _ _ h
end Sq
set_option maxRecDepth 100000 in
set_option maxHeartbeats 4000000 in
theorem damaged_any (s : ByteArray) (at_ : Int) (c : Int) (w : World) (he : SEnv w) (hat : -9223372036854775808 ≤ at_ ∧ at_ ≤ 9223372036854775807) (hc : 0 ≤ c ∧ c ≤ 255) (hs : s.size ≤ 9223372036854775807) :
    Calls Tryd.prog 4 #[.string s, .int .i64 at_, .int .u8 c] w fun e w' => e = .returned (.bool true) ∧ Below w.heap.size w w' := by
  have HE := Lib.hid he
  obtain ⟨m, hm⟩ : ∃ m, m = min s.size 200 := ⟨_, rfl⟩
  have hm1 : m ≤ s.size := by omega
  have hm2 : m ≤ 200 := by omega
  have hsz : (s.extract 0 m).size = m := by rw [ByteArray.size_extract]; omega
  have HR := Lib.hid fun (W : World) => show Calls Tryd.prog 7 #[.string (s.extract 0 m), .int .i64 3] W _ from Tryd.strings_Repeat (s.extract 0 m) 3 W (by decide) (by rw [hsz]; omega)
  obtain ⟨r, hr⟩ : ∃ r : ByteArray, r = ⟨(Lib.repeatL (s.extract 0 m).data.toList 3).toArray⟩ := ⟨_, rfl⟩
  rw [← hr] at HR
  have hrs : r.size ≤ 600 := by
    have h9 : (Lib.repeatL (s.extract 0 m).data.toList 3).length = 3 * (s.extract 0 m).size := Lib.repeatL_length _ 3
    have : r.size = (Lib.repeatL (s.extract 0 m).data.toList 3).length := by rw [hr]; rfl
    omega
  have HP := Lib.hid fun (W : World) (h : Below w.heap.size w W) => pack_any r W (HE.out.below h) (by omega)
  have hps := Sq.packF_size r
  obtain ⟨p, hp⟩ : ∃ p, p = Sq.toB (Sq.packF r) := ⟨_, rfl⟩
  rw [← hp] at HP hps
  obtain ⟨hp5, hp6⟩ := hps
  have hps : p.size ≤ 605 := by omega
  clear he hr hp hsz hp6 hrs
  have hmin : min (s.size : Int) 200 = (m : Int) := by omega
  have hm1z : (m : Int) ≤ (s.size : Int) := by omega
  have hp5z : ¬ (p.size : Int) < 5 := by omega
  obtain ⟨k, hk⟩ : ∃ k : Nat, at_ % (p.size : Int) = (k : Int) := ⟨(at_ % (p.size : Int)).toNat, by
    have := Int.emod_nonneg at_ (show (p.size : Int) ≠ 0 by omega)
    omega⟩
  have hkp : k < p.size := by
    have := Int.emod_lt_of_pos at_ (show (0 : Int) < p.size by omega)
    omega
  have hMD := mod_any at_ (p.size : Int)
  have HM := Lib.hid fun (W : World) => hk ▸ mod_any at_ (p.size : Int) W (by omega) (by omega) hat
  clear hm hk hMD hp5
  go_enter Tryd.func4, Tryd.ntmps4
  go_upto_region 5 with (first
    | (go_at_call 7; (with_reducible refine (HR.out _).mono ?_); rintro e w1 ⟨rfl, hb⟩; have HB1 := Lib.hid hb; clear hb)
    | (go_at_call 5; (with_reducible refine (HP.out _ HB1.out).mono ?_); rintro e w2 ⟨rfl, hb⟩; have HB2 := Lib.hid (HB1.out.trans (hb.mono HB1.out.size)); clear hb)
    | (go_at_call 8; (with_reducible refine (HM.out _).mono ?_); rintro e w3 ⟨rfl, rfl⟩))
  obtain ⟨c8, hc8⟩ : ∃ c8 : UInt8, c = (c8.toNat : Int) := ⟨UInt8.ofNat c.toNat, by
    have : c.toNat < 256 := by omega
    simp
    omega⟩
  subst hc8
  have z1 : (0 : Int) ≤ (k : Int) := by omega
  have z2 : (k : Int) ≤ (p.size : Int) := by omega
  have z3 : (0 : Int) ≤ (k : Int) + 1 := by omega
  have z4 : (k : Int) + 1 ≤ (p.size : Int) := by omega
  have z5 : IntKind.i64.wrap ((k : Int) + 1) = (k : Int) + 1 := IntWalk.i64_in _ (by omega)
  have z6 : ((k : Int) + 1).toNat = k + 1 := by omega
  obtain ⟨x1, hx1⟩ : ∃ x1, x1 = p.extract 0 k := ⟨_, rfl⟩
  obtain ⟨x3, hx3⟩ : ∃ x3, x3 = p.extract (k + 1) p.size := ⟨_, rfl⟩
  have s1 : x1.size = k := by rw [hx1, ByteArray.size_extract]; omega
  have s3 : x3.size = p.size - (k + 1) := by rw [hx3, ByteArray.size_extract]; omega
  have HS1 := Lib.hid s1
  have HS3 := Lib.hid s3
  clear s1 s3
  have hcv : (convert 29 9 (.slice (some ⟨w2.heap.size, 0, none⟩) 1 1)).run Tryd.prog ((w2.alloc (.cells #[.int .u8 (c8.toNat : Int)] 5)).drew) = .ok (.string ⟨#[c8]⟩) ((w2.alloc (.cells #[.int .u8 (c8.toNat : Int)] 5)).drew) :=
    run_convert_bytes_back ((w2.alloc (.cells #[.int .u8 (c8.toNat : Int)] 5)).drew) 29 9 5 ⟨w2.heap.size, 0, none⟩ 1 [c8] Tryd.underlying29 Tryd.underlying5 Tryd.underlying9 (fun j hj => by
      obtain rfl : j = 0 := by simp at hj; omega
      exact cell_one_new w2 (.int .u8 (c8.toNat : Int)) 5 0 _ rfl)
  have hsum1 : ¬ 9223372036854775807 < x1.size + 1 := by have := HS1.out; omega
  have hsum2 : ¬ 9223372036854775807 < (x1 ++ (⟨#[c8]⟩ : ByteArray)).size + x3.size := by rw [ByteArray.size_append]; have := HS1.out; have := HS3.out; show ¬ _ < x1.size + 1 + x3.size; omega
  rw [hx1] at hsum1 hsum2
  rw [hx3] at hsum2
  go_region
  obtain ⟨q, hq⟩ : ∃ q, q = p.extract 0 k ++ (⟨#[c8]⟩ : ByteArray) ++ p.extract (k + 1) p.size := ⟨_, rfl⟩
  have hqs : q.size = p.size := by
    rw [hq, ByteArray.size_append, ByteArray.size_append, ← hx1, ← hx3, HS1.out, HS3.out]
    show k + 1 + (p.size - (k + 1)) = p.size
    omega
  rw [← hq]
  have HB3 := Lib.hid ((HB2.out.alloc HB2.out.size (.cells #[.int .u8 (c8.toNat : Int)] 5)).drew)
  obtain ⟨W3, hW3⟩ : ∃ W3, W3 = (w2.alloc (.cells #[.int .u8 (c8.toNat : Int)] 5)).drew := ⟨_, rfl⟩
  rw [← hW3] at HB3
  rw [← hW3]
  have q0 : 0 < q.size := by omega
  have q1 : 1 < q.size := by omega
  have q2 : 2 < q.size := by omega
  have q3 : 3 < q.size := by omega
  have y0 : (0 : Int) < (q.size : Int) := by omega
  have y1 : (1 : Int) < (q.size : Int) := by omega
  have y2 : (2 : Int) < (q.size : Int) := by omega
  have y3 : (3 : Int) < (q.size : Int) := by omega
  have HU := Lib.hid (Unpack_any q W3 (HE.out.below HB3.out) (by omega))
  have HLEN := Lib.hid (Sq.unpkF_len q)
  have HERR := Lib.hid (Sq.unpkF_err q)
  have HHD := Lib.hid (show Sq.headN q = q[0].toNat * 16777216 + q[1].toNat * 65536 + q[2].toNat * 256 + q[3].toNat by
    unfold Sq.headN
    rw [getD_at q 0 q0, getD_at q 1 q1, getD_at q 2 q2, getD_at q 3 q3])
  clear hq hW3 hcv hsum1 hsum2 hx1 hx3 hqs HB2 HB1 HR HP HM hp5z hps z1 z2 z3 z4 z5 z6
  by_cases n0 : q[0].toNat = 0
  · have n0z : ((q[0].toNat : Int) == 0) = true := by rw [beq_iff_eq]; omega
    by_cases n1 : q[1].toNat = 0
    · have n1z : ((q[1].toNat : Int) == 0) = true := by rw [beq_iff_eq]; omega
      obtain ⟨e1, he1⟩ : ∃ e1, e1 = (Sq.unpkF q).1 := ⟨_, rfl⟩
      obtain ⟨t1, ht1⟩ : ∃ t1, t1 = (Sq.unpkF q).2 := ⟨_, rfl⟩
      rw [← he1, ← ht1] at HU HLEN HERR
      clear he1 ht1
      by_cases hz : e1 = 0
      · subst hz
        have hl := HLEN.out rfl
        have HL := Lib.hid hl
        clear hl
        go_upto_region 11 with (go_at_call 6; (with_reducible refine HU.out.mono ?_); rintro e w5 ⟨rfl, hb⟩; have HB5 := Lib.hid (HB3.out.trans (hb.mono HB3.out.size)); clear hb)
        have v2 := q[2].toNat_lt
        have v3 := q[3].toNat_lt
        have e1 := or64 8 q[2].toNat q[3].toNat (by omega) (by omega)
        have HOR := Lib.hid (show bits .or .i64 (wrap64 (wrap64 (q[2].toNat : Int) * 256)) (wrap64 (q[3].toNat : Int)) = (t1.size : Int) by
          rw [Sq.w64 (q[2].toNat : Int) (by omega), Sq.w64 (q[3].toNat : Int) (by omega), Sq.w64 ((q[2].toNat : Int) * 256) (by omega), show (q[2].toNat : Int) * (256 : Int) = (((2 ^ 8 * q[2].toNat : Nat)) : Int) by rw [Int.natCast_mul]; omega, e1, HL.out, HHD.out]
          omega)
        clear e1 v2 v3
        go_region
        go_wp2_with fail
        go_ret
        refine ⟨?_, by first | exact HB5.out | exact HB5.out.drew⟩
        show Ending.returned (.bool ((t1.size : Int) == bits .or .i64 (wrap64 (wrap64 (q[2].toNat : Int) * 256)) (wrap64 (q[3].toNat : Int)))) = _
        rw [HOR.out, beq_self_eq_true]
      · have HT := Lib.hid (HERR.out hz)
        have hzz : ((e1 : Int) == 0) = false := by rw [beq_eq_false_iff_ne]; omega
        go_wp2_with (go_at_call 6; (with_reducible refine HU.out.mono ?_); rintro e w5 ⟨rfl, hb⟩; have HB5 := Lib.hid (HB3.out.trans (hb.mono HB3.out.size)); clear hb)
        go_ret
        refine ⟨?_, HB5.out⟩
        rw [HT.out]
        show Ending.returned (.bool ByteArray.empty.toList.isEmpty) = _
        rw [show ByteArray.empty.toList.isEmpty = true by first | rfl | decide | (simp; done)]
    · have n1z : ((q[1].toNat : Int) == 0) = false := by rw [beq_eq_false_iff_ne]; omega
      go_wp2_with fail
      go_ret
      exact ⟨rfl, HB3.out⟩
  · have n0z : ((q[0].toNat : Int) == 0) = false := by rw [beq_eq_false_iff_ne]; omega
    go_wp2_with fail
    go_ret
    exact ⟨rfl, HB3.out⟩
end Go.Proofs.YtcojoigbcfaajaaDoor
