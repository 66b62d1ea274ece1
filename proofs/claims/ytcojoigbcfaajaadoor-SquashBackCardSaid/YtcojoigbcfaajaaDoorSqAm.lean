/- SquashBack's walk. -/
import Derived.Test.YtcojoigbcfaajaaDoorSqAg
import Derived.Test.YtcojoigbcfaajaaDoorSqAl
namespace Go.Proofs.YtcojoigbcfaajaaDoor
open Go.RowKit

set_option maxRecDepth 100000 in
set_option maxHeartbeats 4000000 in
theorem back_any (s : ByteArray) (n : Int) (w : World) (he : SEnv w) (hn : -9223372036854775808 ≤ n ∧ n ≤ 9223372036854775807) (hs : s.size ≤ 9223372036854775807) :
    Calls Tryd.prog 3 #[.string s, .int .i64 n] w fun e w' => e = .returned (.bool true) ∧ Below w.heap.size w w' := by
  have HE := Lib.hid he
  obtain ⟨m, hm⟩ : ∃ m, m = min s.size 3000 := ⟨_, rfl⟩
  have hm1 : m ≤ s.size := by omega
  have hsz : (s.extract 0 m).size = m := by rw [ByteArray.size_extract]; omega
  have hmin : min (s.size : Int) 3000 = (m : Int) := by omega
  have hm1z : (m : Int) ≤ (s.size : Int) := by omega
  obtain ⟨s1, hs1⟩ : ∃ s1, s1 = s.extract 0 m := ⟨_, rfl⟩
  rw [← hs1] at hsz
  have HP1 := Lib.hid fun (W : World) (h : Below w.heap.size w W) => pack_any s1 W (HE.out.below h) (by omega)
  have hps := Sq.packF_size s1
  have hpb := Sq.pack_back s1 (by omega)
  obtain ⟨p, hp⟩ : ∃ p, p = Sq.toB (Sq.packF s1) := ⟨_, rfl⟩
  rw [← hp] at HP1 hps hpb
  have HU1 := Lib.hid fun (W : World) (h : Below w.heap.size w W) => show Calls Tryd.prog 6 #[.string p] W fun e w' => e = .returned (.tuple #[.string s1, .int .i64 0]) ∧ Below W.heap.size W w' from by
    have := Unpack_any p W (HE.out.below h) (by omega)
    rw [hpb] at this
    exact this
  obtain ⟨k, hk⟩ : ∃ k : Nat, n % 3000 = (k : Int) := ⟨(n % 3000).toNat, by omega⟩
  have hk3 : k < 3000 := by omega
  have HM := Lib.hid fun (W : World) => hk ▸ mod_any n 3000 W (by omega) (by omega) hn
  obtain ⟨N, hN⟩ : ∃ N, N = 1000 + k := ⟨_, rfl⟩
  have eN : (1000 : Int) + (k : Int) = (N : Int) := by omega
  have bN1 : 1000 ≤ N := by omega
  have bN2 : N ≤ 3999 := by omega
  have HR := Lib.hid fun (W : World) => Tryd.strings_Repeat ⟨#[122]⟩ N W (by omega) (by show 1 * N ≤ _; omega)
  obtain ⟨r, hr⟩ : ∃ r : ByteArray, r = ⟨(Lib.repeatL (⟨#[122]⟩ : ByteArray).data.toList N).toArray⟩ := ⟨_, rfl⟩
  rw [← hr] at HR
  have hrl : r.data.toList = List.replicate N 122 := by
    rw [hr]
    have := Lib.repeatL_replicate 122 1 N
    rw [Nat.mul_one] at this
    exact this
  have hrs : r.size = N := by
    have h9 : r.size = r.data.toList.length := rfl
    rw [h9, hrl, List.length_replicate]
  have hz : ∀ i, i < r.size → Sq.bt r i = 122 := fun i hi => by
    unfold Sq.bt
    rw [hrl, List.getD_eq_getElem?_getD, List.getElem?_replicate, if_pos (by omega)]
    rfl
  have hsmall := Sq.run_small hz (by omega) (by omega)
  have HP2 := Lib.hid fun (W : World) (h : Below w.heap.size w W) => pack_any r W (HE.out.below h) (by omega)
  have hqs := Sq.packF_size r
  have hqb := Sq.pack_back r (by omega)
  obtain ⟨q, hq⟩ : ∃ q, q = Sq.toB (Sq.packF r) := ⟨_, rfl⟩
  rw [← hq] at HP2 hqs hqb hsmall
  have HU2 := Lib.hid fun (W : World) (h : Below w.heap.size w W) => show Calls Tryd.prog 6 #[.string q] W fun e w' => e = .returned (.tuple #[.string r, .int .i64 0]) ∧ Below W.heap.size W w' from by
    have := Unpack_any q W (HE.out.below h) (by omega)
    rw [hqb] at this
    exact this
  have z1 : (p.size : Int) ≤ (s1.size : Int) + 5 := by omega
  have z2 : 4 * (q.size : Int) < (r.size : Int) := by omega
  have z3 : IntKind.i64.wrap ((s1.size : Int) + 5) = (s1.size : Int) + 5 := IntWalk.i64_in _ (by omega)
  have z4 : IntKind.i64.wrap (4 * (q.size : Int)) = 4 * (q.size : Int) := IntWalk.i64_in _ (by omega)
  have hsz3 : s1.size ≤ 3000 := by omega
  have hrs3 : r.size ≤ 3999 := by omega
  have hp3 : p.size ≤ 4000 := by omega
  have hq3 : q.size ≤ 5000 := by omega
  clear he hm hsz hps hpb hp hk hN hr hrl hrs hz hsmall hqs hqb hq
  go_enter Tryd.func3, Tryd.ntmps3
  go_upto_region 2 with fail
  rw [← hs1]
  clear hs1 hmin hm1z
  go_wp2_with (first
    | (go_at_call 5; (with_reducible refine (HP1.out w (Below.refl _ _)).mono ?_); rintro e w1 ⟨rfl, hb⟩; have HB1 := Lib.hid hb; clear hb)
    | (go_at_call 6; (with_reducible refine (HU1.out _ HB1.out).mono ?_); rintro e w2 ⟨rfl, hb⟩; have HB2 := Lib.hid (HB1.out.trans (hb.mono HB1.out.size)); clear hb)
    | (go_at_call 8; (with_reducible refine (HM.out _).mono ?_); rintro e w3 ⟨rfl, rfl⟩)
    | (go_at_call 7; (with_reducible refine (HR.out _).mono ?_); rintro e w4 ⟨rfl, hb⟩; have HB4 := Lib.hid (HB2.out.trans (hb.mono HB2.out.size)); clear hb)
    | (go_at_call 5; (with_reducible refine (HP2.out _ HB4.out).mono ?_); rintro e w5 ⟨rfl, hb⟩; have HB5 := Lib.hid (HB4.out.trans (hb.mono HB4.out.size)); clear hb)
    | (go_at_call 6; (with_reducible refine (HU2.out _ HB5.out).mono ?_); rintro e w6 ⟨rfl, hb⟩; have HB6 := Lib.hid (HB5.out.trans (hb.mono HB5.out.size)); clear hb)
    | (go_at_call 5; (with_reducible refine (HP1.out _ HB6.out).mono ?_); rintro e w7 ⟨rfl, hb⟩; have HB7 := Lib.hid (HB6.out.trans (hb.mono HB6.out.size)); clear hb))
  go_ret
  exact ⟨rfl, HB7.out⟩
end Go.Proofs.YtcojoigbcfaajaaDoor
